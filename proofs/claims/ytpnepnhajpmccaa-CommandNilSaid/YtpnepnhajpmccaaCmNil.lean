/- CommandNil of what came in. -/
import Derived.Test.YtpnepnhajpmccaaCmH
import Derived.ChangeMaps5
namespace Go.Proofs.Ytpnepnhajpmccaa
open Go.RowKit
set_option linter.unusedVariables false
namespace Cm
open Vt (VT Rep)
open Ev (vCells)

set_option maxRecDepth 100000 in
open Go.ChangeShapes Go.WideShapes Go.ChangeAt Go.ChangeMaps in
/-- A value that came in, opened. -/
theorem value_open {H : Type} {enc : TypeId × Value → H} {base b1 : Nat} {spare : Nat → Bool} {held : Bool} {d : DataW H} {p : List MemPlace} (v : Value) (W : World)
    (o : Value.okWide Try.prog W .any base 34 v) (k : DataW.Trod enc Try.prog W b1 spare held 34 v d p) :
    ∃ t vk vn vf vs A m c, v = vCells vk vn vf vs A m c ∧ Rep W b1 W.heap.size t (vCells vk vn vf vs A m c) := by
  obtain ⟨cs, rfl, hsz⟩ := okWide_struct Try.underlying34 o
  obtain ⟨fuel, hf⟩ := k
  obtain ⟨t, ht⟩ := Vt.open_vt fuel _ _ hf
  obtain ⟨k, n, f, s, l, A, cap, -, h, -⟩ := ht.open_
  have e : (Value.agg cs).cells.toList.toArray = cs := by simp [Value.cells]
  rw [e] at ht h
  rw [h] at ht
  exact ⟨t, k, n, f, s, A, l.length, cap, h, ht⟩

set_option maxRecDepth 100000 in
open Go.ChangeShapes Go.WideShapes Go.ChangeAt Go.ChangeMaps in
theorem nil_open {H : Type} {enc : TypeId × Value → H} {base b1 : Nat} {spare : Nat → Bool} {held : Bool} {d0 d1 : DataW H} {p0 p1 : List MemPlace} (v0 v1 : Value) (W : World)
    (o0 : Value.okWide Try.prog W .any base 9 v0) (k0 : DataW.Trod enc Try.prog W b1 spare held 9 v0 d0 p0)
    (o1 : Value.okWide Try.prog W .any base 34 v1) (k1 : DataW.Trod enc Try.prog W b1 spare held 34 v1 d1 p1) :
    Calls Try.prog 4 #[v0, v1] W fun e w' => e = .returned (.bool true) ∧ Below W.heap.size W w' := by
  obtain ⟨s, rfl, -, -, hs⟩ := open_string Try.underlying9 o0 k0
  obtain ⟨t, vk, vn, vf, vs, A, m, c, rfl, hr⟩ := value_open v1 W o1 k1
  exact nil_walk s hs t _ _ vk vn vf vs A m c W hr (Nat.le_refl _)
end Cm
end Go.Proofs.Ytpnepnhajpmccaa
