/- The reference's Scale; policies: Valid, Delay, Next, Total, Default of both sides. -/
import Derived.Test.YtfaepejeemjleaaDoorNmA
namespace Go.Proofs.YtfaepejeemjleaaDoor
open Go.RowKit
namespace Nm

end Nm
end Go.Proofs.YtfaepejeemjleaaDoor
