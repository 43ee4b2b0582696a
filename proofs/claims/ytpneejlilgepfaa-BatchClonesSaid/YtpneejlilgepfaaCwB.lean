/- Contract of the builder's list: add. -/
import Derived.Test.YtpneejlilgepfaaCwA
namespace Go.Proofs.Ytpneejlilgepfaa
open Go.RowKit
set_option linter.unusedVariables false
namespace Cm
variable {X : Nat → Prop}
open Nm (ret_int ret_bool)
open Vt (VT Rep BoxAt below_drew)
open Ev (EV FieldsOk evCells vCells EBox)

end Cm
end Go.Proofs.Ytpneejlilgepfaa
