/- LevelNil of what came in. -/
import Derived.Test.YtmemjljajbfdlaaDoorLnF
import Derived.Lib.SmallJoins
import Derived.ChangeMaps5
namespace Go.Proofs.YtmemjljajbfdlaaDoor
open Go.RowKit
set_option linter.unusedVariables false
namespace Ln
open Go.ChangeShapes Go.WideShapes Go.ChangeAt Go.Joins in
theorem item_open {H : Type} {enc : TypeId × Value → H} {base b1 : Nat} {spare : Nat → Bool} {held : Bool} {d : DataW H} {p : List MemPlace} (v : Value) (W : World)
    (o : Value.okWide Tryd.prog W .any base 28 v) (k : DataW.Trod enc Tryd.prog W b1 spare held 28 v d p) : ∃ i a : Nat, a < 18446744073709551616 ∧ v = .agg #[.int .u64 i, .int .u64 a] := by
  obtain ⟨c0, c1, y0, y1, m, rfl, rfl, rfl, hy0, hy1⟩ := open_agg2 Tryd.underlying28 (by kernel_rfl) (by kernel_rfl) o k
  obtain ⟨a, e0, _, wa⟩ := DataW.trod_int Tryd.underlying26 hy0
  obtain ⟨b, e1, _, wb⟩ := DataW.trod_int Tryd.underlying26 hy1
  simp at e0 e1
  subst e0 e1
  simp [Lit.wf, IntKind.min, IntKind.max, IntKind.bits, IntKind.signed] at wa wb
  exact ⟨a.toNat, b.toNat, by omega, by rw [Int.toNat_of_nonneg wa.1, Int.toNat_of_nonneg wb.1]⟩

set_option maxRecDepth 100000 in
open Go.ChangeShapes Go.WideShapes Go.ChangeAt Go.ChangeMaps in
theorem nil_open {H : Type} {enc : TypeId × Value → H} {base b1 : Nat} {spare : Nat → Bool} {held : Bool} {d0 d1 d2 : DataW H} {p0 p1 p2 : List MemPlace} (v0 v1 v2 : Value) (W : World)
    (o0 : Value.okWide Tryd.prog W .any base 3 v0) (k0 : DataW.Trod enc Tryd.prog W b1 spare held 3 v0 d0 p0)
    (o1 : Value.okWide Tryd.prog W .any base 28 v1) (k1 : DataW.Trod enc Tryd.prog W b1 spare held 28 v1 d1 p1)
    (o2 : Value.okWide Tryd.prog W .any base 3 v2) (k2 : DataW.Trod enc Tryd.prog W b1 spare held 3 v2 d2 p2) :
    Calls Tryd.prog 5 #[v0, v1, v2] W fun e w' => e = .returned (.bool true) ∧ Below W.heap.size W w' := by
  obtain ⟨n, rfl, rfl, rfl, w2⟩ := open_int Tryd.underlying3 o0 k0
  obtain ⟨i, a, ha, rfl⟩ := item_open v1 W o1 k1
  obtain ⟨s, rfl, rfl, rfl, w3⟩ := open_int Tryd.underlying3 o2 k2
  simp [Lit.wf, IntKind.min, IntKind.max, IntKind.bits, IntKind.signed] at w2 w3
  exact nil_walk n (by omega) (by omega) i a ha s (by omega) (by omega) W
end Ln
end Go.Proofs.YtmemjljajbfdlaaDoor
