/- CommandTexts of what came in. -/
import Derived.Test.YtpnepnhajpmccaaCmT
import Derived.ChangeMaps5
namespace Go.Proofs.Ytpnepnhajpmccaa
open Go.RowKit
set_option linter.unusedVariables false
namespace Cm
set_option maxRecDepth 100000 in
open Go.ChangeShapes Go.WideShapes Go.ChangeAt Go.ChangeMaps in
theorem texts_open {H : Type} {enc : TypeId × Value → H} {base b1 : Nat} {spare : Nat → Bool} {held : Bool} {d0 d1 : DataW H} {p0 p1 : List MemPlace} (v0 v1 : Value) (W : World)
    (o0 : Value.okWide Try.prog W .any base 5 v0) (k0 : DataW.Trod enc Try.prog W b1 spare held 5 v0 d0 p0)
    (o1 : Value.okWide Try.prog W .any base 4 v1) (k1 : DataW.Trod enc Try.prog W b1 spare held 4 v1 d1 p1) :
    Calls Try.prog 6 #[v0, v1] W fun e w' => e = .returned (.bool true) ∧ Below W.heap.size W w' := by
  obtain ⟨a, rfl, rfl, rfl, w2⟩ := open_int Try.underlying5 o0 k0
  obtain ⟨b, rfl⟩ := okWide_bool Try.underlying4 o1
  simp [Lit.wf, IntKind.min, IntKind.max, IntKind.bits, IntKind.signed] at w2
  have h := texts_walk a.toNat (by omega) b W
  rw [Int.toNat_of_nonneg w2.1] at h
  exact h
end Cm
end Go.Proofs.Ytpnepnhajpmccaa
