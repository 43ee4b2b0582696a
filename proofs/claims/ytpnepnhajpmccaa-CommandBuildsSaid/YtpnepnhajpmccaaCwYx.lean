/- CommandBuilds of what came in. -/
import Derived.Test.YtpnepnhajpmccaaCwY
import Derived.ChangeMaps5
namespace Go.Proofs.Ytpnepnhajpmccaa
open Go.RowKit
set_option linter.unusedVariables false
namespace Cm
set_option maxRecDepth 100000 in
open Go.ChangeShapes Go.WideShapes Go.ChangeAt Go.ChangeMaps in
theorem builds_open {H : Type} {enc : TypeId × Value → H} {base b1 : Nat} {spare : Nat → Bool} {held : Bool} {d0 d1 d2 : DataW H} {p0 p1 p2 : List MemPlace} (v0 v1 v2 : Value) (W : World)
    (o0 : Value.okWide Try.prog W .any base 22 v0) (k0 : DataW.Trod enc Try.prog W b1 spare held 22 v0 d0 p0)
    (o1 : Value.okWide Try.prog W .any base 22 v1) (k1 : DataW.Trod enc Try.prog W b1 spare held 22 v1 d1 p1)
    (o2 : Value.okWide Try.prog W .any base 23 v2) (k2 : DataW.Trod enc Try.prog W b1 spare held 23 v2 d2 p2) :
    Calls Try.prog 3 #[v0, v1, v2] W fun e w' => e = .returned (.bool true) ∧ Below W.heap.size W w' := by
  obtain ⟨a, rfl, rfl, rfl, wa⟩ := open_int Try.underlying22 o0 k0
  obtain ⟨b, rfl, rfl, rfl, wb⟩ := open_int Try.underlying22 o1 k1
  simp [Lit.wf, IntKind.min, IntKind.max, IntKind.bits, IntKind.signed] at wa wb
  obtain ⟨ops, A, cap, rfl, h⟩ := ops_open v2 W o2 k2
  have h := builds_walk a.toNat b.toNat (by omega) (by omega) ops A cap W h
  rw [Int.toNat_of_nonneg wa.1, Int.toNat_of_nonneg wb.1] at h
  exact h
end Cm
end Go.Proofs.Ytpnepnhajpmccaa
