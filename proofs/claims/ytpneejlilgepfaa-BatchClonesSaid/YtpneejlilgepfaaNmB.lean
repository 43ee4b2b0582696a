/- The reference's Scale; policies: Valid, Delay, Next, Total, Default of both sides. -/
import Derived.Test.YtpneejlilgepfaaNmA
namespace Go.Proofs.Ytpneejlilgepfaa
open Go.RowKit
namespace Nm

end Nm
end Go.Proofs.Ytpneejlilgepfaa
