/- The program's Compare and Same are the reference's; the law NumOrders. -/
import Derived.Test.YtdibokeinmhmbaaDoorNmF
namespace Go.Proofs.YtdibokeinmhmbaaDoor
open Go.RowKit
namespace Nm

theorem eq0 (a : Nat) (ha : Fm.isNan a = false) : (FloatKind.f64.format.order a 0 == some Ordering.eq) = decide (Fm.SV a = 0) := by
  rw [ord_sv a 0 ha (by decide), sv_zero]
  by_cases h : Fm.SV a = 0
  · rw [h]; simp
  · rcases Int.lt_or_gt_of_ne h with h' | h'
    · rw [Int.compare_eq_lt.2 h']; simp [h]
    · rw [Int.compare_eq_gt.2 h']; simp [h]

theorem not_nan (b : Nat) (h : Fm.isNan b = false) : bitsW b = b ∧ b % 9223372036854775808 ≤ 9218868437227405312 := by
  refine ⟨by unfold bitsW; rw [h]; rfl, ?_⟩
  unfold Fm.isNan at h
  simp only [decide_eq_false_iff_not] at h
  omega
theorem is_nan (b : Nat) (h : Fm.isNan b = true) : bitsW b = 9221120237041090561 := by unfold bitsW; rw [h]; rfl
theorem rank_cases (b : Nat) : (9223372036854775808 ≤ b ∧ rankW b = 18446744073709551615 - b) ∨ (b < 9223372036854775808 ∧ rankW b = b + 9223372036854775808) := by
  unfold rankW
  by_cases h : 9223372036854775808 ≤ b
  · rw [if_pos h]; omega
  · rw [if_neg h]; omega

theorem rank_inj (x y : Nat) (hx : x < 18446744073709551616) (hy : y < 18446744073709551616) (h : rankW x = rankW y) : x = y := by
  have := rank_cases x; have := rank_cases y; omega
theorem rcmp_cases (a b : Nat) (ha : a < 18446744073709551616) (hb : b < 18446744073709551616) :
    (rcmpW a b = -1 ∧ rcmpW b a = 1 ∧ ((bitsW a : Int) == bitsW b) = false) ∨ (rcmpW a b = 0 ∧ rcmpW b a = 0 ∧ ((bitsW a : Int) == bitsW b) = true) ∨ (rcmpW a b = 1 ∧ rcmpW b a = -1 ∧ ((bitsW a : Int) == bitsW b) = false) := by
  have c1 := cmp3_cases (rankW (bitsW a)) (rankW (bitsW b))
  have c2 := cmp3_cases (rankW (bitsW b)) (rankW (bitsW a))
  have hi := rank_inj (bitsW a) (bitsW b) (bitsW_lt a ha) (bitsW_lt b hb)
  unfold rcmpW
  by_cases h : bitsW a = bitsW b
  · have hB : ((bitsW a : Int) == bitsW b) = true := by rw [h]; simp
    have he : rankW (bitsW a) = rankW (bitsW b) := by rw [h]
    exact Or.inr (Or.inl ⟨by omega, by omega, hB⟩)
  · have hB : ((bitsW a : Int) == bitsW b) = false := by rw [beq_eq_false_iff_ne]; omega
    have hne : rankW (bitsW a) ≠ rankW (bitsW b) := fun e => h (hi e)
    rcases c1 with ⟨p, q⟩ | ⟨p, q⟩ | ⟨p, q⟩
    · exact Or.inl ⟨p, by omega, hB⟩
    · exact absurd q hne
    · exact Or.inr (Or.inr ⟨p, by omega, hB⟩)
theorem rcmp_trans (a b c : Nat) (h1 : rcmpW a b ≤ 0) (h2 : rcmpW b c ≤ 0) : rcmpW a c ≤ 0 := by
  unfold rcmpW at *
  have := cmp3_cases (rankW (bitsW a)) (rankW (bitsW b)); have := cmp3_cases (rankW (bitsW b)) (rankW (bitsW c)); have := cmp3_cases (rankW (bitsW a)) (rankW (bitsW c)); omega
theorem rcmp_lt (a b : Nat) (ha : a < 18446744073709551616) (hb : b < 18446744073709551616) (h : 0 ≤ rcmpW a b) : (FloatKind.f64.format.order a b == some Ordering.lt) = false := by
  cases h1 : Fm.isNan a with
  | true => show (Ieee.double.order a b == some Ordering.lt) = false; rw [Fm.order_nan_l a b h1]; rfl
  | false =>
    cases h2 : Fm.isNan b with
    | true => show (Ieee.double.order a b == some Ordering.lt) = false; rw [Fm.order_nan_r a b h2]; rfl
    | false =>
      rw [ord_sv a b h1 h2]
      by_cases hl : Fm.SV a < Fm.SV b
      · have hc := cmp_num a b ha hb h1 h2 (by omega)
        unfold cmpI at hc
        rw [if_pos hl] at hc
        omega
      · by_cases hg : Fm.SV b < Fm.SV a
        · rw [Int.compare_eq_gt.2 hg]; rfl
        · have e : Fm.SV a = Fm.SV b := by omega
          rw [e]; simp

theorem rsame_any (a b : Nat) (ha : a < 18446744073709551616) (hb : b < 18446744073709551616) (w : World) :
    Calls Tryd.prog 9 #[.float .f64 a, .float .f64 b] w fun e w' => e = .returned (.bool ((bitsW a : Int) == bitsW b)) ∧ w = w' := by
  have C1 := Lib.hid (fun w => rbits_any a ha w)
  have C2 := Lib.hid (fun w => rbits_any b hb w)
  clear ha hb
  generalize bitsW a = x at *
  generalize bitsW b = y at *
  go_enter Tryd.func9, Tryd.ntmps9
  go_wp2_with fail
  refine (C1.out _).mono ?_
  rintro e w' ⟨rfl, rfl⟩
  go_wp2_with fail
  refine (C2.out _).mono ?_
  rintro e w' ⟨rfl, rfl⟩
  go_wp2_with fail
  go_ret
  exact ⟨rfl, rfl⟩

end Nm
end Go.Proofs.YtdibokeinmhmbaaDoor
