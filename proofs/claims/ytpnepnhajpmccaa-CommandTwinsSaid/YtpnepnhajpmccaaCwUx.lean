/- CommandTwins of what came in. -/
import Derived.Test.YtpnepnhajpmccaaCwU
import Derived.ChangeMaps5
namespace Go.Proofs.Ytpnepnhajpmccaa
open Go.RowKit
set_option linter.unusedVariables false
namespace Cm
set_option maxRecDepth 100000 in
theorem twins_open {H : Type} {enc : TypeId × Value → H} {base b1 : Nat} {spare : Nat → Bool} {held : Bool} {d0 : DataW H} {p0 : List MemPlace} (v0 : Value) (W : World)
    (o0 : Value.okWide Try.prog W .any base 23 v0) (k0 : DataW.Trod enc Try.prog W b1 spare held 23 v0 d0 p0) :
    Calls Try.prog 5 #[v0] W fun e w' => e = .returned (.bool true) ∧ Below W.heap.size W w' := by
  obtain ⟨ops, A, cap, rfl, h⟩ := ops_open v0 W o0 k0
  exact twins_walk ops A cap W h
end Cm
end Go.Proofs.Ytpnepnhajpmccaa
