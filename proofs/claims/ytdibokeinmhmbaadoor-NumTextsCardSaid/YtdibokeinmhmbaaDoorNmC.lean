/- Contracts of num's Canon, Bits, Of, of the reference's Of, of math's Signbit and IsNaN, and of the examples 'alive' of layer 3. -/
import Derived.Test.YtdibokeinmhmbaaDoorNmB
namespace Go.Proofs.YtdibokeinmhmbaaDoor
open Go.RowKit
namespace Nm

theorem canon_any (b : Nat) (w : World) : Calls Tryd.prog 55 #[.float .f64 b] w fun e w' => e = .returned (.float .f64 (bitsW b)) ∧ w = w' := by
  have hs := neq_self b
  have hr := fun w => run_frombits 9221120237041090561 w
  unfold bitsW
  cases h : Fm.isNan b with
  | true =>
    rw [h] at hs
    clear h
    go_enter Tryd.func55, Tryd.ntmps55
    go_wp2
    go_ret
    exact ⟨rfl, rfl⟩
  | false =>
    rw [h] at hs
    clear h
    go_enter Tryd.func55, Tryd.ntmps55
    go_wp2
    go_ret
    exact ⟨rfl, rfl⟩

theorem bits_any (b : Nat) (w : World) : Calls Tryd.prog 38 #[.float .f64 b] w fun e w' => e = .returned (.int .u64 (bitsW b)) ∧ w = w' := by
  have hr := fun w => run_f64bits (bitsW b) w
  go_enter Tryd.func38, Tryd.ntmps38
  go_wp2_with (go_at_call 55; refine (canon_any b _).mono ?_; rintro e w' ⟨rfl, rfl⟩)
  go_ret
  exact ⟨rfl, rfl⟩

/-- Are these the bits of a number? -/
def okW (b : Nat) : Bool := !(Fm.isNan b && decide (b ≠ quietW))
def ofW (b : Nat) : Nat := if okW b = true then b else 0

/-! ### The examples -/
theorem signbit_any (b : Nat) (hb : b < 18446744073709551616) (w : World) : Calls Tryd.prog 36 #[.float .f64 b] w fun e w' => e = .returned (.bool (Fm.neg b)) ∧ w = w' := by
  have hr := fun w => run_f64bits b w
  have HB := Lib.hid hb; clear hb
  go_enter Tryd.func36, Tryd.ntmps36
  go_wp2
  go_ret
  refine ⟨ret_bool ?_, rfl⟩
  have := HB.out
  unfold Fm.neg wrap64
  rw [Bool.eq_iff_iff]
  simp only [decide_eq_true_eq, beq_iff_eq]
  omega

theorem text_negzero (b : Nat) (hb : b < 18446744073709551616) (h1 : (FloatKind.f64.format.order b b != some Ordering.eq) = false) (h2 : (FloatKind.f64.format.order b 0 == some Ordering.eq) = true) (h3 : Fm.neg b = true) (w : World) :
    Calls Tryd.prog 20 #[.float .f64 b] w fun e w' => e = .returned (.string ⟨#[45, 48]⟩) ∧ w = w' := by
  have hs := fun w => signbit_any b hb w
  rw [h3] at hs
  clear h3 hb
  go_enter Tryd.func20, Tryd.ntmps20
  go_wp2_with (go_at_call 36; refine (hs _).mono ?_; rintro e w' ⟨rfl, rfl⟩)
  go_ret
  exact ⟨rfl, rfl⟩

theorem scale_10 (w : World) : Calls Tryd.prog 44 #[.int .u64 10, .float .f64 4609434218613702656] w fun e w' => e = .returned (.int .u64 15) ∧ w = w' := by
  have h := scale_any 10 4609434218613702656 (by omega) w
  have e : scaleW 10 4609434218613702656 = 15 := by decide +kernel
  rw [e] at h
  exact h
theorem scale_nan (w : World) : Calls Tryd.prog 44 #[.int .u64 10, .float .f64 9221120237041090561] w fun e w' => e = .returned (.int .u64 0) ∧ w = w' := by
  have h := scale_any 10 9221120237041090561 (by omega) w
  have e : scaleW 10 9221120237041090561 = 0 := by decide +kernel
  rw [e] at h
  exact h

theorem ret_float {a b : Nat} (h : a = b) : Ending.returned (.float .f64 a) = .returned (.float .f64 b) := by rw [h]

theorem copysign_lit (w : World) : Calls Tryd.prog 43 #[.float .f64 0, .float .f64 13830554455654793216] w fun e w' => e = .returned (.float .f64 9223372036854775808) ∧ w = w' := by
  have h1 := fun w => run_f64bits 0 w
  have h2 := fun w => run_f64bits 13830554455654793216 w
  have h3 := fun b w => run_frombits b w
  go_enter Tryd.func43, Tryd.ntmps43
  go_wp2
  go_ret
  exact ⟨ret_float (by decide +kernel), rfl⟩

theorem mnan_any (w : World) : Calls Tryd.prog 45 #[] w fun e w' => e = .returned (.float .f64 9221120237041090561) ∧ w = w' := by
  have hr := fun w => run_frombits 9221120237041090561 w
  go_enter Tryd.func45, Tryd.ntmps45
  go_wp2
  go_ret
  exact ⟨rfl, rfl⟩

theorem alive_any (w : World) : Calls Tryd.prog 22 #[] w fun e w' => e = .returned (.bool true) ∧ w = w' := by
  have t1 := fun w => text_negzero 9223372036854775808 (by omega) (by decide +kernel) (by decide +kernel) (by decide +kernel) w
  have T1 := Lib.hid t1; clear t1
  go_enter Tryd.func22, Tryd.ntmps22
  go_wp2_with fail
  refine (copysign_lit _).mono ?_
  rintro e w' ⟨rfl, rfl⟩
  go_wp2_with fail
  refine (T1.out _).mono ?_
  rintro e w' ⟨rfl, rfl⟩
  go_wp2_with fail
  refine (scale_10 _).mono ?_
  rintro e w' ⟨rfl, rfl⟩
  go_wp2_with fail
  refine (mnan_any _).mono ?_
  rintro e w' ⟨rfl, rfl⟩
  go_wp2_with fail
  refine (scale_nan _).mono ?_
  rintro e w' ⟨rfl, rfl⟩
  go_wp2_with fail
  go_ret
  exact ⟨rfl, rfl⟩
end Nm
end Go.Proofs.YtdibokeinmhmbaaDoor
