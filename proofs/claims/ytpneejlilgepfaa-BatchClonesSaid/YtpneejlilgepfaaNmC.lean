/- Contracts of num's Canon, Bits, Of, of the reference's Of, of math's Signbit and IsNaN, and of the examples 'alive' of layer 3. -/
import Derived.Test.YtpneejlilgepfaaNmB
namespace Go.Proofs.Ytpneejlilgepfaa
open Go.RowKit
namespace Nm

theorem canon_any (b : Nat) (w : World) : Calls Try.prog 60 #[.float .f64 b] w fun e w' => e = .returned (.float .f64 (bitsW b)) ∧ w = w' := by
  have hs := neq_self b
  have hr := fun w => run_frombits 9221120237041090561 w
  unfold bitsW
  cases h : Fm.isNan b with
  | true =>
    rw [h] at hs
    clear h
    go_enter Try.func60, Try.ntmps60
    go_wp2
    go_ret
    exact ⟨rfl, rfl⟩
  | false =>
    rw [h] at hs
    clear h
    go_enter Try.func60, Try.ntmps60
    go_wp2
    go_ret
    exact ⟨rfl, rfl⟩

theorem bits_any (b : Nat) (w : World) : Calls Try.prog 56 #[.float .f64 b] w fun e w' => e = .returned (.int .u64 (bitsW b)) ∧ w = w' := by
  have hr := fun w => run_f64bits (bitsW b) w
  go_enter Try.func56, Try.ntmps56
  go_wp2_with (go_at_call 60; refine (canon_any b _).mono ?_; rintro e w' ⟨rfl, rfl⟩)
  go_ret
  exact ⟨rfl, rfl⟩

/-- Are these the bits of a number? -/
def okW (b : Nat) : Bool := !(Fm.isNan b && decide (b ≠ quietW))
def ofW (b : Nat) : Nat := if okW b = true then b else 0

/-! ### The examples -/
theorem signbit_any (b : Nat) (hb : b < 18446744073709551616) (w : World) : Calls Try.prog 67 #[.float .f64 b] w fun e w' => e = .returned (.bool (Fm.neg b)) ∧ w = w' := by
  have hr := fun w => run_f64bits b w
  have HB := Lib.hid hb; clear hb
  go_enter Try.func67, Try.ntmps67
  go_wp2
  go_ret
  refine ⟨ret_bool ?_, rfl⟩
  have := HB.out
  unfold Fm.neg wrap64
  rw [Bool.eq_iff_iff]
  simp only [decide_eq_true_eq, beq_iff_eq]
  omega

theorem ret_float {a b : Nat} (h : a = b) : Ending.returned (.float .f64 a) = .returned (.float .f64 b) := by rw [h]

end Nm
end Go.Proofs.Ytpneejlilgepfaa
