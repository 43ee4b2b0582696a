/- The reference's Scale; policies: Valid, Delay, Next, Total, Default of both sides. -/
import Derived.Test.YtdibokeinmhmbaaDoorNmA
namespace Go.Proofs.YtdibokeinmhmbaaDoor
open Go.RowKit
namespace Nm

theorem rscale_zero_b (n b : Nat) (hb : b < 18446744073709551616) (h : n = 0 ∨ pos b = false) (w : World) : Calls Tryd.prog 34 #[.int .u64 n, .float .f64 b] w fun e w' => e = .returned (.int .u64 0) ∧ w = w' := by
  have hr := fun w => rbits_any b hb w
  have HP : Hid (n = 0 ∨ bitsW b = 9221120237041090561 ∨ bitsW b = 0 ∨ (9223372036854775808 ≤ bitsW b ∧ bitsW b < 18446744073709551616)) := by
    show n = 0 ∨ bitsW b = 9221120237041090561 ∨ bitsW b = 0 ∨ (9223372036854775808 ≤ bitsW b ∧ bitsW b < 18446744073709551616)
    rcases h with h | h
    · exact Or.inl h
    · unfold pos at h
      unfold bitsW
      cases hn : Fm.isNan b with
      | true => simp [quietW]
      | false =>
        rw [hn] at h
        simp only [Bool.false_eq_true, if_false]
        simp only [Bool.not_false, Bool.and_true, Bool.and_eq_false_iff, Bool.not_eq_false', decide_eq_false_iff_not] at h
        unfold Fm.neg at h
        simp only [beq_iff_eq] at h
        omega
  clear h hb
  generalize bitsW b = x at *
  rcases HP.out with h | h | h | h
  · subst h
    go_enter Tryd.func34, Tryd.ntmps34
    go_wp2_with (go_at_call 26; refine (hr _).mono ?_; rintro e w' ⟨rfl, rfl⟩)
    all_goals
      go_ret
      exact ⟨rfl, rfl⟩
  all_goals
    by_cases hn : n = 0
    · subst hn
      go_enter Tryd.func34, Tryd.ntmps34
      go_wp2_with (go_at_call 26; refine (hr _).mono ?_; rintro e w' ⟨rfl, rfl⟩)
      all_goals
        go_ret
        exact ⟨rfl, rfl⟩
    · first | subst h | obtain ⟨h, h'⟩ := h
      have hn' : ((n : Int) == 0) = false := by simp; omega
      clear hn
      go_enter Tryd.func34, Tryd.ntmps34
      go_wp2_with (go_at_call 26; refine (hr _).mono ?_; rintro e w' ⟨rfl, rfl⟩)
      all_goals first
        | (go_ret; exact ⟨rfl, rfl⟩)
        | (exfalso; simp only [beq_eq_false_iff_ne, ne_eq] at *; omega)

theorem rscale_pos (n b : Nat) (hn : n ≠ 0) (hn' : n < 18446744073709551616) (hb : b < 18446744073709551616) (hp : pos b = true) (w : World) :
    Calls Tryd.prog 34 #[.int .u64 n, .float .f64 b] w fun e w' => e = .returned (.int .u64 (Fm.scl n (b % 2 ^ 63))) ∧ w = w' := by
  have hr := fun w => rbits_any b hb w
  have hm := fun w => mul_run n b hn hn' hp w
  have hq := Fm.prod_le n (b % 2 ^ 63)
  have hs : Fm.scl n (b % 2 ^ 63) = min (Fm.whole (Fm.prod n (b % 2 ^ 63))) 9223372036854775807 := rfl
  have hn1 : ((n : Int) == 0) = false := by simp; omega
  have hx : ¬ ((bitsW b : Int) = 9221120237041090561) ∧ ¬ (bitsW b = 0) ∧ ¬ ((bitsW b : Int) / 9223372036854775808 = 1) := by
    unfold pos at hp
    simp only [Bool.and_eq_true, Bool.not_eq_true', decide_eq_true_eq] at hp
    obtain ⟨⟨h1, h2⟩, h3⟩ := hp
    have e : bitsW b = b := by unfold bitsW; rw [h2]; rfl
    rw [e]
    unfold Fm.isNan at h2
    unfold Fm.neg at h1
    simp only [decide_eq_false_iff_not, beq_eq_false_iff_ne] at h1 h2
    omega
  obtain ⟨x1, x2, x3⟩ := hx
  generalize bitsW b = x at *
  generalize Fm.scl n (b % 2 ^ 63) = z at *
  generalize Fm.prod n (b % 2 ^ 63) = q at *
  have HQ := Lib.hid hq
  have HS := Lib.hid hs
  clear hq hs hp hb hn' hn
  by_cases hw : Fm.whole q < 9223372036854775808
  · have hqi : q < 2047 * 2 ^ 52 := (floor_lt q HQ.out hw).1
    have hl := lt_of q top63 HQ.out (by decide) (by
      refine Nat.lt_of_not_le fun hc => ?_
      have := (whole_ge q).2 hc
      omega)
    have hv := conv_lt q hqi hw
    have hz : z = Fm.whole q := by rw [HS.out]; omega
    have hcv := fun w => run_convert_float_int (P := Tryd.prog) w 23 22 .f64 .u64 q _ (by kernel_rfl) Tryd.underlying22 hv
    rw [← hz] at hcv
    unfold top63 at hl
    clear hqi hv hz hw
    go_enter Tryd.func34, Tryd.ntmps34
    go_wp2_with (go_at_call 26; refine (hr _).mono ?_; rintro e w' ⟨rfl, rfl⟩)
    all_goals first
      | (go_ret; exact ⟨rfl, rfl⟩)
      | (exfalso; clear hr hm hcv; simp only [beq_iff_eq, beq_eq_false_iff_ne, ne_eq] at *; omega)
  · have hl := ge_of q top63 HQ.out (by decide) ((whole_ge q).1 (by omega))
    have hz : z = 9223372036854775807 := by rw [HS.out]; omega
    have HZ := Lib.hid hz
    unfold top63 at hl
    clear hz hw
    go_enter Tryd.func34, Tryd.ntmps34
    go_wp2_with (go_at_call 26; refine (hr _).mono ?_; rintro e w' ⟨rfl, rfl⟩)
    all_goals first
      | (go_ret; exact ⟨ret_int (by rw [HZ.out]; rfl), rfl⟩)
      | (exfalso; clear hr hm; simp only [beq_iff_eq, beq_eq_false_iff_ne, ne_eq] at *; omega)

/-- The reference's Scale. -/
theorem rscale_any (n b : Nat) (hn' : n < 18446744073709551616) (hb : b < 18446744073709551616) (w : World) :
    Calls Tryd.prog 34 #[.int .u64 n, .float .f64 b] w fun e w' => e = .returned (.int .u64 (scaleW n b)) ∧ w = w' := by
  unfold scaleW
  by_cases h : n ≠ 0 ∧ pos b = true
  · rw [if_pos h]; exact rscale_pos n b h.1 hn' hb h.2 w
  · rw [if_neg h]
    refine rscale_zero_b n b hb ?_ w
    by_cases hn : n = 0
    · exact Or.inl hn
    · refine Or.inr ?_
      cases hp : pos b with
      | false => rfl
      | true => exact absurd ⟨hn, hp⟩ h
end Nm
end Go.Proofs.YtdibokeinmhmbaaDoor
