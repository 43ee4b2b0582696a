/- Contracts of the builder: end, short, New, Next, Closed. -/
import Derived.Test.YtpneejlilgepfaaCwC
import Derived.Laws.EntriesVeiled
namespace Go.Proofs.Ytpneejlilgepfaa
open Go.RowKit
set_option linter.unusedVariables false
namespace Cm
variable {X : Nat → Prop}
open Nm (ret_int ret_bool)
open Vt (VT Rep BoxAt below_drew)
open Ev (EV FieldsOk evCells vCells EBox ERep)

def shortOf (s : ByteArray) : ByteArray := if s.size ≤ 1000 then s else s.extract 0 1000

end Cm
end Go.Proofs.Ytpneejlilgepfaa
