/- Bytes read as a string. -/
import Derived.Test.YtaahfiopdoinkaaGreatTnar
import Derived.Lib.BufferRead
import Derived.Lib.AtoiErrMem
import Derived.Laws.BitsAllLaws
import Derived.Test.YtaahfiopdoinkaaGreatTnad
import Derived.Test.YtaahfiopdoinkaaGreatTnah
import Derived.Test.YtaahfiopdoinkaaGreatTnaj
set_option linter.unusedVariables false
set_option linter.unusedSimpArgs false
open Go.RowKit
namespace Go.Proofs.YtaahfiopdoinkaaGreat
namespace Bt
open _root_.Go.Proofs.YtaahfiopdoinkaaGreat.Nm (ret_int ret_bool)
open Vt (VT Rep BoxAt below_drew)
open Ev (take_drop tk ap rd1 rd2 cons_drop)

end Bt
end Go.Proofs.YtaahfiopdoinkaaGreat
namespace Go.Proofs.YtaahfiopdoinkaaGreat
namespace Rd
open _root_.Go.Proofs.YtaahfiopdoinkaaGreat.Nm (ret_int ret_bool)
open Vt (below_drew)
open Bt (BOwn BIn bv ubytes sb)
open Cn (BRd)
open Cm (OnlyAt)

end Rd
end Go.Proofs.YtaahfiopdoinkaaGreat
namespace Go.Proofs.YtaahfiopdoinkaaGreat
namespace Rd
open _root_.Go.Proofs.YtaahfiopdoinkaaGreat.Nm (ret_int ret_bool)
open Cm (OnlyAt)

end Rd
end Go.Proofs.YtaahfiopdoinkaaGreat
namespace Go.Proofs.YtaahfiopdoinkaaGreat
namespace Rd
open _root_.Go.Proofs.YtaahfiopdoinkaaGreat.Nm (bitsW)
open Bt (ubytes sb)
open Vt (VT)
open Ev (EV fieldsOf)

end Rd
end Go.Proofs.YtaahfiopdoinkaaGreat
namespace Go.Proofs.YtaahfiopdoinkaaGreat
namespace Rd
open _root_.Go.Proofs.YtaahfiopdoinkaaGreat.Nm (bitsW)
open Bt (ubytes sb sb_len)
open Vt (VT)
open Pf (sform zz be8 form_mk fine_mk)

theorem bits0 : bitsW 0 = 0 := by decide
end Rd
end Go.Proofs.YtaahfiopdoinkaaGreat
namespace Go.Proofs.YtaahfiopdoinkaaGreat
namespace Rd
open _root_.Go.Proofs.YtaahfiopdoinkaaGreat.Nm (bitsW ret_int ret_bool)
open Vt (VT Rep)
open Ev (EV FieldsOk evCells vCells ERep zeroT fieldsOf goodL pickB)


end Rd
end Go.Proofs.YtaahfiopdoinkaaGreat
namespace Go.Proofs.YtaahfiopdoinkaaGreat
namespace Rd
open _root_.Go.Proofs.YtaahfiopdoinkaaGreat.Nm (bitsW ret_int ret_bool)
open Vt (VT Rep BoxAt below_drew)
open Ev (EV FieldsOk evCells vCells EBox ERep zeroT take_drop tk ap rd1 rd2 cons_drop)
open Cm (rowOf EvsIn)
open Cn (BB bvalid wrongE)

end Rd
end Go.Proofs.YtaahfiopdoinkaaGreat
