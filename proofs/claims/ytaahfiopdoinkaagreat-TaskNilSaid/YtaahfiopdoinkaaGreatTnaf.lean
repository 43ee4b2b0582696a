/- The program's Compare and Same are the reference's; the law NumOrders. -/
import Derived.Test.YtaahfiopdoinkaaGreatTnad
open Go.RowKit
namespace Go.Proofs.YtaahfiopdoinkaaGreat
namespace Nm

theorem eq0 (a : Nat) (ha : Fm.isNan a = false) : (FloatKind.f64.format.order a 0 == some Ordering.eq) = decide (Fm.SV a = 0) := by
 rw [ord_sv a 0 ha (by decide), sv_zero]
 by_cases h : Fm.SV a = 0
 ·rw [h]; simp
 ·rcases Int.lt_or_gt_of_ne h with h' | h'
  ·rw [Int.compare_eq_lt.2 h']; simp [h]
  ·rw [Int.compare_eq_gt.2 h']; simp [h]

theorem not_nan (b : Nat) (h : Fm.isNan b = false) : bitsW b = b ∧ b % 9223372036854775808 ≤ 9218868437227405312 := by
 refine ⟨by unfold bitsW; rw [h]; rfl, ?_⟩
 unfold Fm.isNan at h
 simp only [decide_eq_false_iff_not] at h
 omega
theorem is_nan (b : Nat) (h : Fm.isNan b = true) : bitsW b = 9221120237041090561 := by unfold bitsW; rw [h]; rfl
theorem rank_cases (b : Nat) : (9223372036854775808 ≤ b ∧ rankW b = 18446744073709551615 - b) ∨ (b < 9223372036854775808 ∧ rankW b = b + 9223372036854775808) := by
 unfold rankW
 by_cases h : 9223372036854775808 ≤ b
 ·rw [if_pos h]; omega
 ·rw [if_neg h]; omega

theorem ncompare_any (a b : Nat) (ha : a < 18446744073709551616) (hb : b < 18446744073709551616) (w : World) :
  Calls Tryz.prog 179 #[.float .f64 a, .float .f64 b] w fun e w' => e = .returned (.int .i64 (rcmpW a b)) ∧ w = w' := by
 have C1 := Lib.hid (fun w => misnan_any a w)
 have C2 := Lib.hid (fun w => misnan_any b w)
 have c3 := cmp3_cases (rankW (bitsW a)) (rankW (bitsW b))
 have r1 := rank_cases (bitsW a)
 have r2 := rank_cases (bitsW b)
 cases h1 : Fm.isNan a with
 | true =>
  have e1 := is_nan a h1
  rw [e1] at c3 r1
  rw [h1] at C1
  cases h2 : Fm.isNan b with
  | true =>
   have e2 := is_nan b h2
   rw [e2] at c3 r2
   rw [h2] at C2
   have R : Hid (rcmpW a b = 0) := by show rcmpW a b = 0; unfold rcmpW; rw [e1, e2]; omega
   clear c3 r1 r2 e1 e2 h1 h2 ha hb
   go_enter Tryz.func179, Tryz.ntmps179
   go_wp2_with fail
   refine (C1.out _).mono ?_
   rintro e w' ⟨rfl, rfl⟩
   go_wp2_with fail
   refine (C2.out _).mono ?_
   rintro e w' ⟨rfl, rfl⟩
   go_wp2_with fail
   go_ret
   exact ⟨ret_int R.out.symm, rfl⟩
  | false =>
   have e2 := not_nan b h2
   rw [e2.1] at c3 r2
   rw [h2] at C2
   have R : Hid (rcmpW a b = 1) := by show rcmpW a b = 1; unfold rcmpW; rw [e1, e2.1]; omega
   clear c3 r1 r2 e1 e2 h1 h2 ha hb
   go_enter Tryz.func179, Tryz.ntmps179
   go_wp2_with fail
   refine (C1.out _).mono ?_
   rintro e w' ⟨rfl, rfl⟩
   go_wp2_with fail
   refine (C2.out _).mono ?_
   rintro e w' ⟨rfl, rfl⟩
   go_wp2_with fail
   go_ret
   exact ⟨ret_int R.out.symm, rfl⟩
 | false =>
  have e1 := not_nan a h1
  rw [e1.1] at c3 r1
  cases h2 : Fm.isNan b with
  | true =>
   have e2 := is_nan b h2
   rw [e2] at c3 r2
   rw [h1] at C1
   rw [h2] at C2
   have R : Hid (rcmpW a b = -1) := by show rcmpW a b = -1; unfold rcmpW; rw [e1.1, e2]; omega
   clear c3 r1 r2 e1 e2 h1 h2 ha hb
   go_enter Tryz.func179, Tryz.ntmps179
   go_wp2_with fail
   refine (C1.out _).mono ?_
   rintro e w' ⟨rfl, rfl⟩
   go_wp2_with fail
   refine (C2.out _).mono ?_
   rintro e w' ⟨rfl, rfl⟩
   go_wp2_with fail
   go_ret
   exact ⟨ret_int R.out.symm, rfl⟩
  | false =>
   have e2 := not_nan b h2
   rw [e2.1] at c3 r2
   have z1 := eq0 a h1
   have z2 := eq0 b h2
   have C3 := Lib.hid (fun w => sign_any a ha w)
   have C4 := Lib.hid (fun w => sign_any b hb w)
   have C5 := Lib.hid (fun x y w => cmpi_any x y w)
   have C6 := Lib.hid (fun w => cmpf_any a b h1 h2 w)
   have na : Fm.neg a = decide (9223372036854775808 ≤ a) := by
    unfold Fm.neg; rw [Bool.eq_iff_iff]; simp only [beq_iff_eq, decide_eq_true_eq]; omega
   have nb : Fm.neg b = decide (9223372036854775808 ≤ b) := by
    unfold Fm.neg; rw [Bool.eq_iff_iff]; simp only [beq_iff_eq, decide_eq_true_eq]; omega
   have za := sv_zero_iff a
   have zb := sv_zero_iff b
   have hc := cmp_num a b ha hb h1 h2
   rw [h1] at C1
   rw [h2] at C2
   by_cases hz : Fm.SV a = 0 ∧ Fm.SV b = 0
   ·have R : Hid (rcmpW a b = cmpI (if Fm.neg a = true then -1 else 1) (if Fm.neg b = true then -1 else 1)) := by
     show rcmpW a b = cmpI (if Fm.neg a = true then -1 else 1) (if Fm.neg b = true then -1 else 1)
     have y1 := za.1 hz.1
     have y2 := zb.1 hz.2
     unfold rcmpW
     rw [e1.1, e2.1, na, nb]
     clear za zb hc
     by_cases p : 9223372036854775808 ≤ a
     ·by_cases q : 9223372036854775808 ≤ b
      ·simp only [p, q, decide_true, if_true, cmpI]; simp; omega
      ·simp only [p, q, decide_true, decide_false, if_true, cmpI]; simp; omega
     ·by_cases q : 9223372036854775808 ≤ b
      ·simp only [p, q, decide_true, decide_false, if_true, cmpI]; simp; omega
      ·simp only [p, q, decide_false, cmpI]; simp; omega
    rw [decide_eq_true hz.1] at z1
    rw [decide_eq_true hz.2] at z2
    clear c3 r1 r2 e1 e2 h1 h2 ha hb hc na nb za zb hz
    generalize (if Fm.neg a = true then (-1 : Int) else 1) = x at *
    generalize (if Fm.neg b = true then (-1 : Int) else 1) = y at *
    go_enter Tryz.func179, Tryz.ntmps179
    go_wp2_with fail
    refine (C1.out _).mono ?_
    rintro e w' ⟨rfl, rfl⟩
    go_wp2_with fail
    refine (C2.out _).mono ?_
    rintro e w' ⟨rfl, rfl⟩
    go_wp2_with fail
    refine (C3.out _).mono ?_
    rintro e w' ⟨rfl, rfl⟩
    go_wp2_with fail
    refine (C4.out _).mono ?_
    rintro e w' ⟨rfl, rfl⟩
    go_wp2_with fail
    refine (C5.out x y _).mono ?_
    rintro e w' ⟨rfl, rfl⟩
    go_wp2_with fail
    go_ret
    exact ⟨ret_int R.out.symm, rfl⟩
   ·have R := Lib.hid (hc hz)
    by_cases hz1 : Fm.SV a = 0
    ·have hz2 : ¬ Fm.SV b = 0 := fun h => hz ⟨hz1, h⟩
     rw [decide_eq_true hz1] at z1
     rw [decide_eq_false hz2] at z2
     clear c3 r1 r2 e1 e2 h1 h2 ha hb hc na nb za zb hz hz1 hz2
     go_enter Tryz.func179, Tryz.ntmps179
     go_wp2_with fail
     refine (C1.out _).mono ?_
     rintro e w' ⟨rfl, rfl⟩
     go_wp2_with fail
     refine (C2.out _).mono ?_
     rintro e w' ⟨rfl, rfl⟩
     go_wp2_with fail
     refine (C6.out _).mono ?_
     rintro e w' ⟨rfl, rfl⟩
     go_wp2_with fail
     go_ret
     exact ⟨ret_int R.out, rfl⟩
    ·rw [decide_eq_false hz1] at z1
     clear c3 r1 r2 e1 e2 h1 h2 ha hb hc na nb za zb hz hz1 z2
     go_enter Tryz.func179, Tryz.ntmps179
     go_wp2_with fail
     refine (C1.out _).mono ?_
     rintro e w' ⟨rfl, rfl⟩
     go_wp2_with fail
     refine (C2.out _).mono ?_
     rintro e w' ⟨rfl, rfl⟩
     go_wp2_with fail
     refine (C6.out _).mono ?_
     rintro e w' ⟨rfl, rfl⟩
     go_wp2_with fail
     go_ret
     exact ⟨ret_int R.out, rfl⟩

theorem rank_inj (x y : Nat) (hx : x < 18446744073709551616) (hy : y < 18446744073709551616) (h : rankW x = rankW y) : x = y := by
 have := rank_cases x; have := rank_cases y; omega
theorem rcmp_cases (a b : Nat) (ha : a < 18446744073709551616) (hb : b < 18446744073709551616) :
  (rcmpW a b = -1 ∧ rcmpW b a = 1 ∧ ((bitsW a : Int) == bitsW b) = false) ∨ (rcmpW a b = 0 ∧ rcmpW b a = 0 ∧ ((bitsW a : Int) == bitsW b) = true) ∨ (rcmpW a b = 1 ∧ rcmpW b a = -1 ∧ ((bitsW a : Int) == bitsW b) = false) := by
 have c1 := cmp3_cases (rankW (bitsW a)) (rankW (bitsW b))
 have c2 := cmp3_cases (rankW (bitsW b)) (rankW (bitsW a))
 have hi := rank_inj (bitsW a) (bitsW b) (bitsW_lt a ha) (bitsW_lt b hb)
 unfold rcmpW
 by_cases h : bitsW a = bitsW b
 ·have hB : ((bitsW a : Int) == bitsW b) = true := by rw [h]; simp
  have he : rankW (bitsW a) = rankW (bitsW b) := by rw [h]
  exact Or.inr (Or.inl ⟨by omega, by omega, hB⟩)
 ·have hB : ((bitsW a : Int) == bitsW b) = false := by rw [beq_eq_false_iff_ne]; omega
  have hne : rankW (bitsW a) ≠ rankW (bitsW b) := fun e => h (hi e)
  rcases c1 with ⟨p, q⟩ | ⟨p, q⟩ | ⟨p, q⟩
  ·exact Or.inl ⟨p, by omega, hB⟩
  ·exact absurd q hne
  ·exact Or.inr (Or.inr ⟨p, by omega, hB⟩)
theorem nsame_any (a b : Nat) (ha : a < 18446744073709551616) (hb : b < 18446744073709551616) (w : World) :
  Calls Tryz.prog 165 #[.float .f64 a, .float .f64 b] w fun e w' => e = .returned (.bool (rcmpW a b == 0)) ∧ w = w' := by
 have C := Lib.hid (fun w => ncompare_any a b ha hb w)
 clear ha hb
 generalize rcmpW a b = n at *
 go_enter Tryz.func165, Tryz.ntmps165
 go_wp2_with fail
 refine (C.out _).mono ?_
 rintro e w' ⟨rfl, rfl⟩
 go_wp2_with fail
 go_ret
 exact ⟨rfl, rfl⟩

end Nm
end Go.Proofs.YtaahfiopdoinkaaGreat
