/- Contracts of num's Canon, Bits, Of, of the reference's Of, of math's Signbit and IsNaN, and of the examples 'alive' of layer 3. -/
import Derived.Test.YtfaepejeemjleaaDoorNmB
namespace Go.Proofs.YtfaepejeemjleaaDoor
open Go.RowKit
namespace Nm

theorem canon_any (b : Nat) (w : World) : Calls Tryd.prog 48 #[.float .f64 b] w fun e w' => e = .returned (.float .f64 (bitsW b)) ∧ w = w' := by
  have hs := neq_self b
  have hr := fun w => run_frombits 9221120237041090561 w
  unfold bitsW
  cases h : Fm.isNan b with
  | true =>
    rw [h] at hs
    clear h
    go_enter Tryd.func48, Tryd.ntmps48
    go_wp2
    go_ret
    exact ⟨rfl, rfl⟩
  | false =>
    rw [h] at hs
    clear h
    go_enter Tryd.func48, Tryd.ntmps48
    go_wp2
    go_ret
    exact ⟨rfl, rfl⟩

theorem bits_any (b : Nat) (w : World) : Calls Tryd.prog 34 #[.float .f64 b] w fun e w' => e = .returned (.int .u64 (bitsW b)) ∧ w = w' := by
  have hr := fun w => run_f64bits (bitsW b) w
  go_enter Tryd.func34, Tryd.ntmps34
  go_wp2_with (go_at_call 48; refine (canon_any b _).mono ?_; rintro e w' ⟨rfl, rfl⟩)
  go_ret
  exact ⟨rfl, rfl⟩

/-- Are these the bits of a number? -/
def okW (b : Nat) : Bool := !(Fm.isNan b && decide (b ≠ quietW))
def ofW (b : Nat) : Nat := if okW b = true then b else 0

/-! ### The examples -/
theorem signbit_any (b : Nat) (hb : b < 18446744073709551616) (w : World) : Calls Tryd.prog 66 #[.float .f64 b] w fun e w' => e = .returned (.bool (Fm.neg b)) ∧ w = w' := by
  have hr := fun w => run_f64bits b w
  have HB := Lib.hid hb; clear hb
  go_enter Tryd.func66, Tryd.ntmps66
  go_wp2
  go_ret
  refine ⟨ret_bool ?_, rfl⟩
  have := HB.out
  unfold Fm.neg wrap64
  rw [Bool.eq_iff_iff]
  simp only [decide_eq_true_eq, beq_iff_eq]
  omega

theorem text_negzero (b : Nat) (hb : b < 18446744073709551616) (h1 : (FloatKind.f64.format.order b b != some Ordering.eq) = false) (h2 : (FloatKind.f64.format.order b 0 == some Ordering.eq) = true) (h3 : Fm.neg b = true) (w : World) :
    Calls Tryd.prog 99 #[.float .f64 b] w fun e w' => e = .returned (.string ⟨#[45, 48]⟩) ∧ w = w' := by
  have hs := fun w => signbit_any b hb w
  rw [h3] at hs
  clear h3 hb
  go_enter Tryd.func99, Tryd.ntmps99
  go_wp2_with (go_at_call 66; refine (hs _).mono ?_; rintro e w' ⟨rfl, rfl⟩)
  go_ret
  exact ⟨rfl, rfl⟩

theorem ret_float {a b : Nat} (h : a = b) : Ending.returned (.float .f64 a) = .returned (.float .f64 b) := by rw [h]

end Nm
end Go.Proofs.YtfaepejeemjleaaDoor
