/- The iterator of a number's bytes (bin.digits$1), walked inside the wide fence, for whatever loop body. -/
import Derived.Test.YtkajcldmolcllaaGreatHaab
import Derived.Test.YtkajcldmolcllaaGreatHaaa
import Derived.OwnWalkIn
import Derived.TacticsInMore
import Derived.LoopNIn
import Derived.LoopIn
import Derived.Laws.EntriesVeiled
set_option linter.unusedVariables false
open Go.RowKit
namespace Go.Proofs.YtkajcldmolcllaaGreat
namespace Bt
open Nm (ret_int ret_bool)
attribute [local go_sem] Oper.semAt_some

def ub (y : Nat) : Nat := if y < 128 then y else y % 128 + 128
def ubytes : Nat → Nat → List Nat
 | 0, y => [y]
 | f + 1, y => if y < 128 then [y] else (y % 128 + 128) :: ubytes f (y / 128)
end Bt
end Go.Proofs.YtkajcldmolcllaaGreat
