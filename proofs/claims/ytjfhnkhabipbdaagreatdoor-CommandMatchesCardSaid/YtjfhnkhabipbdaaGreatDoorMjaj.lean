/- The iterator of a number's bytes (bin.digits$1), walked inside the wide fence, for whatever loop body. -/
import Derived.Test.YtjfhnkhabipbdaaGreatDoorMjab
import Derived.Test.YtjfhnkhabipbdaaGreatDoorMjaa
import Derived.OwnWalkIn
import Derived.TacticsInMore
import Derived.LoopNIn
import Derived.LoopIn
import Derived.Laws.EntriesVeiled
namespace Go.Proofs.YtjfhnkhabipbdaaGreatDoor
open Go.RowKit
set_option linter.unusedVariables false
namespace Bt
open Nm (ret_int ret_bool)
attribute [local go_sem] Oper.semAt_some

end Bt
end Go.Proofs.YtjfhnkhabipbdaaGreatDoor
