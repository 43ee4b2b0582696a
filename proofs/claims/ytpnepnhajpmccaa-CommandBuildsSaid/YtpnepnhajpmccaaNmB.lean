/- The reference's Scale; policies: Valid, Delay, Next, Total, Default of both sides. -/
import Derived.Test.YtpnepnhajpmccaaNmA
namespace Go.Proofs.Ytpnepnhajpmccaa
open Go.RowKit
namespace Nm

end Nm
end Go.Proofs.Ytpnepnhajpmccaa
