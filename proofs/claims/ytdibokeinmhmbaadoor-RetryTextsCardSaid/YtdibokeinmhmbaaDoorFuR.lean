/- strings.Repeat: the shelf's contract laid at this program. -/
import Derived.Shelf.Strings.Repeat
import Derived.Shelf.Lay
import Derived.Ground.NamesProg
import Derived.Test.YtdibokeinmhmbaaDoorFuI
namespace Go.Proofs.YtdibokeinmhmbaaDoor
open Go.RowKit Go.Shelf

shelf_lay Lays.n105 Nm 105 at Tryd as Tryd.laysRepeat

theorem Tryd.extraRepeat : Builder.Extra Tryd.prog Tryd.laysRepeat_ren where
  sizeBuilder := by kernel_rfl
  liesBuilder := by kernel_rfl
  t5 := Tryd.laysRepeat.t5
  a5 := Tryd.laysRepeat.a5
  z5 := Tryd.laysRepeat.z5
  v5 := Tryd.laysRepeat.v5
  infoByte := by kernel_rfl
  cellsByte := by kernel_rfl
  sizeByte := by kernel_rfl
  neB5 := by decide

namespace Fu
theorem repeat_any (s : ByteArray) (c : Nat) (w : World) (hc : c ≤ 9223372036854775807) (hlen : s.size * c ≤ 140737488355328) :
    Calls Tryd.prog 39 #[.string s, .int .i64 c] w fun e w' => e = .returned (.string ⟨(Lib.repeatL s.data.toList c).toArray⟩) ∧ Below w.heap.size w w' :=
  Any.strings_Repeat Tryd.laysRepeat Tryd.extraRepeat s c w hc hlen
end Fu
end Go.Proofs.YtdibokeinmhmbaaDoor
