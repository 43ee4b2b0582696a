/- The laws NumScales, NumBits and NumGrows: each returns true and leaves the world as it was. -/
import Derived.Test.YtpneejlilgepfaaNmC
import Derived.ProofKit
import Derived.OpenShut
namespace Go.Proofs.Ytpneejlilgepfaa
open Go.RowKit
namespace Nm

theorem addW_comm (a b : Nat) : addW a b = addW b a := by unfold addW; rw [Nat.add_comm]
theorem addW_lt (a b : Nat) : addW a b < 9223372036854775808 := by unfold addW; split <;> omega
theorem scaleW_lt (n b : Nat) : scaleW n b < 9223372036854775808 := by
  unfold scaleW
  split
  · have : Fm.scl n (b % 2 ^ 63) ≤ 2 ^ 63 - 1 := Nat.min_le_right _ _
    omega
  · omega
theorem scaleW_0 (n : Nat) : scaleW n 0 = 0 := by
  have : pos 0 = false := by decide
  unfold scaleW; rw [this]; simp

theorem bitsW_of (b : Nat) (h : okW b = true) : bitsW (ofW b) = b := by
  unfold ofW
  rw [if_pos h]
  unfold okW at h
  unfold bitsW
  cases hn : Fm.isNan b with
  | true =>
    rw [hn] at h
    simp at h
    simp [h]
  | false => rfl

set_option maxRecDepth 100000 in
open Go.ChangeShapes Go.WideShapes Go.ChangeAt in
theorem u64_open {H : Type} {enc : TypeId × Value → H} {base b1 : Nat} {spare : Nat → Bool} {held : Bool} {d : DataW H} {p : List MemPlace} (v : Value) (W : World)
    (o : Value.okWide Try.prog W .any base 22 v) (k : DataW.Trod enc Try.prog W b1 spare held 22 v d p) : ∃ n : Nat, v = .int .u64 n ∧ n < 18446744073709551616 := by
  obtain ⟨a, rfl, rfl, rfl, wa⟩ := open_int Try.underlying22 o k
  simp [Lit.wf, IntKind.min, IntKind.max, IntKind.bits, IntKind.signed] at wa
  exact ⟨a.toNat, by rw [Int.toNat_of_nonneg wa.1], by omega⟩

end Nm
end Go.Proofs.Ytpneejlilgepfaa
