/- The program's order of numbers (num.Compare, num.Same) is the reference's; the law NumOrders. -/
/- The program's Compare and Same are the reference's; the law NumOrders. -/
/- Contract of the reference's Same of two trees. -/
import Derived.Test.YtpneejlilgepfaaGreatDoorMbae
import Derived.Test.YtpneejlilgepfaaGreatDoorMbac
import Derived.StillTailTactics
namespace Go.Proofs.YtpneejlilgepfaaGreatDoor
open Go.RowKit
namespace Nm

theorem misnan_any (b : Nat) (w : World) : Calls Tryz.prog 150 #[.float .f64 b] w fun e w' => e = .returned (.bool (Fm.isNan b)) ∧ w = w' := by
  have hs := neq_self b
  generalize Fm.isNan b = z at *
  go_enter Tryz.func150, Tryz.ntmps150
  go_wp2
  go_ret
  exact ⟨rfl, rfl⟩

theorem sign_any (b : Nat) (hb : b < 18446744073709551616) (w : World) : Calls Tryz.prog 152 #[.float .f64 b] w fun e w' => e = .returned (.int .i64 (if Fm.neg b = true then -1 else 1)) ∧ w = w' := by
  have C := Lib.hid (fun w => signbit_any b hb w)
  clear hb
  cases h : Fm.neg b with
  | true =>
    rw [h] at C; clear h
    go_enter Tryz.func152, Tryz.ntmps152
    go_wp2_with (go_at_call 158; refine (C.out _).mono ?_; rintro e w' ⟨rfl, rfl⟩)
    go_ret
    exact ⟨rfl, rfl⟩
  | false =>
    rw [h] at C; clear h
    go_enter Tryz.func152, Tryz.ntmps152
    go_wp2_with (go_at_call 158; refine (C.out _).mono ?_; rintro e w' ⟨rfl, rfl⟩)
    go_ret
    exact ⟨rfl, rfl⟩

def cmpI (a b : Int) : Int := if a < b then -1 else if b < a then 1 else 0

theorem cmpi_any (a b : Int) (w : World) : Calls Tryz.prog 151 #[.int .i64 a, .int .i64 b] w fun e w' => e = .returned (.int .i64 (cmpI a b)) ∧ w = w' := by
  unfold cmpI
  by_cases h : a < b
  · rw [if_pos h]
    go_enter Tryz.func151, Tryz.ntmps151
    go_wp2
    go_ret
    exact ⟨rfl, rfl⟩
  · rw [if_neg h]
    by_cases h2 : b < a
    · rw [if_pos h2]
      go_enter Tryz.func151, Tryz.ntmps151
      go_wp2
      go_ret
      exact ⟨rfl, rfl⟩
    · rw [if_neg h2]
      go_enter Tryz.func151, Tryz.ntmps151
      go_wp2
      go_ret
      exact ⟨rfl, rfl⟩

/-- How two words that are no NaN stand to each other. -/
theorem ord_sv (a b : Nat) (ha : Fm.isNan a = false) (hb : Fm.isNan b = false) : FloatKind.f64.format.order a b = some (compare (Fm.SV a) (Fm.SV b)) := Fm.order_eq a b ha hb

theorem cmpf_any (a b : Nat) (ha : Fm.isNan a = false) (hb : Fm.isNan b = false) (w : World) :
    Calls Tryz.prog 153 #[.float .f64 a, .float .f64 b] w fun e w' => e = .returned (.int .i64 (cmpI (Fm.SV a) (Fm.SV b))) ∧ w = w' := by
  have h1 := neq_self a
  have h2 := neq_self b
  have h3 := ord_sv a b ha hb
  rw [ha] at h1
  rw [hb] at h2
  unfold cmpI
  by_cases h : Fm.SV a < Fm.SV b
  · rw [if_pos h]
    rw [Int.compare_eq_lt.2 h] at h3
    clear h ha hb
    go_enter Tryz.func153, Tryz.ntmps153
    go_wp2
    go_ret
    exact ⟨rfl, rfl⟩
  · rw [if_neg h]
    by_cases h' : Fm.SV b < Fm.SV a
    · rw [if_pos h']
      rw [Int.compare_eq_gt.2 h'] at h3
      clear h h' ha hb
      go_enter Tryz.func153, Tryz.ntmps153
      go_wp2
      go_ret
      exact ⟨rfl, rfl⟩
    · rw [if_neg h']
      have e : Fm.SV a = Fm.SV b := by omega
      rw [e] at h3
      have h4 : FloatKind.f64.format.order a b = some Ordering.eq := by rw [h3]; simp
      clear h h' ha hb e h3
      go_enter Tryz.func153, Tryz.ntmps153
      go_wp2
      go_ret
      exact ⟨rfl, rfl⟩

/-! ### The two orders are one -/
theorem sv_zero_iff (b : Nat) : Fm.SV b = 0 ↔ b % 2 ^ 63 = 0 := by
  have h1 := Fm.SV_abs b
  constructor
  · intro h
    refine Classical.byContradiction fun hn => ?_
    have := V_pos hn
    omega
  · intro h
    rw [h, Fm.V_zero] at h1
    omega

theorem cmp_num (a b : Nat) (ha : a < 18446744073709551616) (hb : b < 18446744073709551616) (h1 : Fm.isNan a = false) (h2 : Fm.isNan b = false) (hz : ¬ (Fm.SV a = 0 ∧ Fm.SV b = 0)) :
    cmpI (Fm.SV a) (Fm.SV b) = rcmpW a b := by
  have ea : bitsW a = a := by unfold bitsW; rw [h1]; rfl
  have eb : bitsW b = b := by unfold bitsW; rw [h2]; rfl
  have za := sv_zero_iff a
  have zb := sv_zero_iff b
  have hl := Fm.V_lt_iff (a % 2 ^ 63) (b % 2 ^ 63)
  have hg := Fm.V_lt_iff (b % 2 ^ 63) (a % 2 ^ 63)
  have na : Fm.neg a = decide (9223372036854775808 ≤ a) := by
    unfold Fm.neg; rw [Bool.eq_iff_iff]; simp only [beq_iff_eq, decide_eq_true_eq]; omega
  have nb : Fm.neg b = decide (9223372036854775808 ≤ b) := by
    unfold Fm.neg; rw [Bool.eq_iff_iff]; simp only [beq_iff_eq, decide_eq_true_eq]; omega
  have c3 := cmp3_cases (rankW a) (rankW b)
  unfold rcmpW
  rw [ea, eb]
  unfold cmpI
  have sa : Fm.SV a = if 9223372036854775808 ≤ a then -(Fm.V (a % 2 ^ 63) : Int) else Fm.V (a % 2 ^ 63) := by
    unfold Fm.SV; rw [na]; simp only [decide_eq_true_eq]
  have sb : Fm.SV b = if 9223372036854775808 ≤ b then -(Fm.V (b % 2 ^ 63) : Int) else Fm.V (b % 2 ^ 63) := by
    unfold Fm.SV; rw [nb]; simp only [decide_eq_true_eq]
  generalize Fm.V (a % 2 ^ 63) = va at *
  generalize Fm.V (b % 2 ^ 63) = vb at *
  generalize Fm.SV a = x at *
  generalize Fm.SV b = y at *
  unfold rankW at *
  clear na nb ea eb h1 h2
  by_cases p : 9223372036854775808 ≤ a
  · rw [if_pos p] at sa c3
    by_cases q : 9223372036854775808 ≤ b
    · rw [if_pos q] at sb c3
      rw [if_pos p, if_pos q]
      by_cases l : x < y
      · rw [if_pos l]; omega
      · rw [if_neg l]
        by_cases g : y < x
        · rw [if_pos g]; omega
        · rw [if_neg g]; omega
    · rw [if_neg q] at sb c3
      rw [if_pos p, if_neg q]
      by_cases l : x < y
      · rw [if_pos l]; omega
      · rw [if_neg l]
        by_cases g : y < x
        · rw [if_pos g]; omega
        · rw [if_neg g]; omega
  · rw [if_neg p] at sa c3
    by_cases q : 9223372036854775808 ≤ b
    · rw [if_pos q] at sb c3
      rw [if_neg p, if_pos q]
      by_cases l : x < y
      · rw [if_pos l]; omega
      · rw [if_neg l]
        by_cases g : y < x
        · rw [if_pos g]; omega
        · rw [if_neg g]; omega
    · rw [if_neg q] at sb c3
      rw [if_neg p, if_neg q]
      by_cases l : x < y
      · rw [if_pos l]; omega
      · rw [if_neg l]
        by_cases g : y < x
        · rw [if_pos g]; omega
        · rw [if_neg g]; omega
end Nm
end Go.Proofs.YtpneejlilgepfaaGreatDoor
namespace Go.Proofs.YtpneejlilgepfaaGreatDoor
open Go.RowKit
namespace Nm

theorem eq0 (a : Nat) (ha : Fm.isNan a = false) : (FloatKind.f64.format.order a 0 == some Ordering.eq) = decide (Fm.SV a = 0) := by
  rw [ord_sv a 0 ha (by decide), sv_zero]
  by_cases h : Fm.SV a = 0
  · rw [h]; simp
  · rcases Int.lt_or_gt_of_ne h with h' | h'
    · rw [Int.compare_eq_lt.2 h']; simp [h]
    · rw [Int.compare_eq_gt.2 h']; simp [h]

theorem not_nan (b : Nat) (h : Fm.isNan b = false) : bitsW b = b ∧ b % 9223372036854775808 ≤ 9218868437227405312 := by
  refine ⟨by unfold bitsW; rw [h]; rfl, ?_⟩
  unfold Fm.isNan at h
  simp only [decide_eq_false_iff_not] at h
  omega
theorem is_nan (b : Nat) (h : Fm.isNan b = true) : bitsW b = 9221120237041090561 := by unfold bitsW; rw [h]; rfl
theorem rank_cases (b : Nat) : (9223372036854775808 ≤ b ∧ rankW b = 18446744073709551615 - b) ∨ (b < 9223372036854775808 ∧ rankW b = b + 9223372036854775808) := by
  unfold rankW
  by_cases h : 9223372036854775808 ≤ b
  · rw [if_pos h]; omega
  · rw [if_neg h]; omega

theorem ncompare_any (a b : Nat) (ha : a < 18446744073709551616) (hb : b < 18446744073709551616) (w : World) :
    Calls Tryz.prog 133 #[.float .f64 a, .float .f64 b] w fun e w' => e = .returned (.int .i64 (rcmpW a b)) ∧ w = w' := by
  have C1 := Lib.hid (fun w => misnan_any a w)
  have C2 := Lib.hid (fun w => misnan_any b w)
  have c3 := cmp3_cases (rankW (bitsW a)) (rankW (bitsW b))
  have r1 := rank_cases (bitsW a)
  have r2 := rank_cases (bitsW b)
  cases h1 : Fm.isNan a with
  | true =>
    have e1 := is_nan a h1
    rw [e1] at c3 r1
    rw [h1] at C1
    cases h2 : Fm.isNan b with
    | true =>
      have e2 := is_nan b h2
      rw [e2] at c3 r2
      rw [h2] at C2
      have R : Hid (rcmpW a b = 0) := by show rcmpW a b = 0; unfold rcmpW; rw [e1, e2]; omega
      clear c3 r1 r2 e1 e2 h1 h2 ha hb
      go_enter Tryz.func133, Tryz.ntmps133
      go_wp2_with fail
      refine (C1.out _).mono ?_
      rintro e w' ⟨rfl, rfl⟩
      go_wp2_with fail
      refine (C2.out _).mono ?_
      rintro e w' ⟨rfl, rfl⟩
      go_wp2_with fail
      go_ret
      exact ⟨ret_int R.out.symm, rfl⟩
    | false =>
      have e2 := not_nan b h2
      rw [e2.1] at c3 r2
      rw [h2] at C2
      have R : Hid (rcmpW a b = 1) := by show rcmpW a b = 1; unfold rcmpW; rw [e1, e2.1]; omega
      clear c3 r1 r2 e1 e2 h1 h2 ha hb
      go_enter Tryz.func133, Tryz.ntmps133
      go_wp2_with fail
      refine (C1.out _).mono ?_
      rintro e w' ⟨rfl, rfl⟩
      go_wp2_with fail
      refine (C2.out _).mono ?_
      rintro e w' ⟨rfl, rfl⟩
      go_wp2_with fail
      go_ret
      exact ⟨ret_int R.out.symm, rfl⟩
  | false =>
    have e1 := not_nan a h1
    rw [e1.1] at c3 r1
    cases h2 : Fm.isNan b with
    | true =>
      have e2 := is_nan b h2
      rw [e2] at c3 r2
      rw [h1] at C1
      rw [h2] at C2
      have R : Hid (rcmpW a b = -1) := by show rcmpW a b = -1; unfold rcmpW; rw [e1.1, e2]; omega
      clear c3 r1 r2 e1 e2 h1 h2 ha hb
      go_enter Tryz.func133, Tryz.ntmps133
      go_wp2_with fail
      refine (C1.out _).mono ?_
      rintro e w' ⟨rfl, rfl⟩
      go_wp2_with fail
      refine (C2.out _).mono ?_
      rintro e w' ⟨rfl, rfl⟩
      go_wp2_with fail
      go_ret
      exact ⟨ret_int R.out.symm, rfl⟩
    | false =>
      have e2 := not_nan b h2
      rw [e2.1] at c3 r2
      have z1 := eq0 a h1
      have z2 := eq0 b h2
      have C3 := Lib.hid (fun w => sign_any a ha w)
      have C4 := Lib.hid (fun w => sign_any b hb w)
      have C5 := Lib.hid (fun x y w => cmpi_any x y w)
      have C6 := Lib.hid (fun w => cmpf_any a b h1 h2 w)
      have na : Fm.neg a = decide (9223372036854775808 ≤ a) := by
        unfold Fm.neg; rw [Bool.eq_iff_iff]; simp only [beq_iff_eq, decide_eq_true_eq]; omega
      have nb : Fm.neg b = decide (9223372036854775808 ≤ b) := by
        unfold Fm.neg; rw [Bool.eq_iff_iff]; simp only [beq_iff_eq, decide_eq_true_eq]; omega
      have za := sv_zero_iff a
      have zb := sv_zero_iff b
      have hc := cmp_num a b ha hb h1 h2
      rw [h1] at C1
      rw [h2] at C2
      by_cases hz : Fm.SV a = 0 ∧ Fm.SV b = 0
      · have R : Hid (rcmpW a b = cmpI (if Fm.neg a = true then -1 else 1) (if Fm.neg b = true then -1 else 1)) := by
          show rcmpW a b = cmpI (if Fm.neg a = true then -1 else 1) (if Fm.neg b = true then -1 else 1)
          have y1 := za.1 hz.1
          have y2 := zb.1 hz.2
          unfold rcmpW
          rw [e1.1, e2.1, na, nb]
          clear za zb hc
          by_cases p : 9223372036854775808 ≤ a
          · by_cases q : 9223372036854775808 ≤ b
            · simp only [p, q, decide_true, if_true, cmpI]; simp; omega
            · simp only [p, q, decide_true, decide_false, if_true, cmpI]; simp; omega
          · by_cases q : 9223372036854775808 ≤ b
            · simp only [p, q, decide_true, decide_false, if_true, cmpI]; simp; omega
            · simp only [p, q, decide_false, cmpI]; simp; omega
        rw [decide_eq_true hz.1] at z1
        rw [decide_eq_true hz.2] at z2
        clear c3 r1 r2 e1 e2 h1 h2 ha hb hc na nb za zb hz
        generalize (if Fm.neg a = true then (-1 : Int) else 1) = x at *
        generalize (if Fm.neg b = true then (-1 : Int) else 1) = y at *
        go_enter Tryz.func133, Tryz.ntmps133
        go_wp2_with fail
        refine (C1.out _).mono ?_
        rintro e w' ⟨rfl, rfl⟩
        go_wp2_with fail
        refine (C2.out _).mono ?_
        rintro e w' ⟨rfl, rfl⟩
        go_wp2_with fail
        refine (C3.out _).mono ?_
        rintro e w' ⟨rfl, rfl⟩
        go_wp2_with fail
        refine (C4.out _).mono ?_
        rintro e w' ⟨rfl, rfl⟩
        go_wp2_with fail
        refine (C5.out x y _).mono ?_
        rintro e w' ⟨rfl, rfl⟩
        go_wp2_with fail
        go_ret
        exact ⟨ret_int R.out.symm, rfl⟩
      · have R := Lib.hid (hc hz)
        by_cases hz1 : Fm.SV a = 0
        · have hz2 : ¬ Fm.SV b = 0 := fun h => hz ⟨hz1, h⟩
          rw [decide_eq_true hz1] at z1
          rw [decide_eq_false hz2] at z2
          clear c3 r1 r2 e1 e2 h1 h2 ha hb hc na nb za zb hz hz1 hz2
          go_enter Tryz.func133, Tryz.ntmps133
          go_wp2_with fail
          refine (C1.out _).mono ?_
          rintro e w' ⟨rfl, rfl⟩
          go_wp2_with fail
          refine (C2.out _).mono ?_
          rintro e w' ⟨rfl, rfl⟩
          go_wp2_with fail
          refine (C6.out _).mono ?_
          rintro e w' ⟨rfl, rfl⟩
          go_wp2_with fail
          go_ret
          exact ⟨ret_int R.out, rfl⟩
        · rw [decide_eq_false hz1] at z1
          clear c3 r1 r2 e1 e2 h1 h2 ha hb hc na nb za zb hz hz1 z2
          go_enter Tryz.func133, Tryz.ntmps133
          go_wp2_with fail
          refine (C1.out _).mono ?_
          rintro e w' ⟨rfl, rfl⟩
          go_wp2_with fail
          refine (C2.out _).mono ?_
          rintro e w' ⟨rfl, rfl⟩
          go_wp2_with fail
          refine (C6.out _).mono ?_
          rintro e w' ⟨rfl, rfl⟩
          go_wp2_with fail
          go_ret
          exact ⟨ret_int R.out, rfl⟩

theorem rank_inj (x y : Nat) (hx : x < 18446744073709551616) (hy : y < 18446744073709551616) (h : rankW x = rankW y) : x = y := by
  have := rank_cases x; have := rank_cases y; omega
theorem rcmp_cases (a b : Nat) (ha : a < 18446744073709551616) (hb : b < 18446744073709551616) :
    (rcmpW a b = -1 ∧ rcmpW b a = 1 ∧ ((bitsW a : Int) == bitsW b) = false) ∨ (rcmpW a b = 0 ∧ rcmpW b a = 0 ∧ ((bitsW a : Int) == bitsW b) = true) ∨ (rcmpW a b = 1 ∧ rcmpW b a = -1 ∧ ((bitsW a : Int) == bitsW b) = false) := by
  have c1 := cmp3_cases (rankW (bitsW a)) (rankW (bitsW b))
  have c2 := cmp3_cases (rankW (bitsW b)) (rankW (bitsW a))
  have hi := rank_inj (bitsW a) (bitsW b) (bitsW_lt a ha) (bitsW_lt b hb)
  unfold rcmpW
  by_cases h : bitsW a = bitsW b
  · have hB : ((bitsW a : Int) == bitsW b) = true := by rw [h]; simp
    have he : rankW (bitsW a) = rankW (bitsW b) := by rw [h]
    exact Or.inr (Or.inl ⟨by omega, by omega, hB⟩)
  · have hB : ((bitsW a : Int) == bitsW b) = false := by rw [beq_eq_false_iff_ne]; omega
    have hne : rankW (bitsW a) ≠ rankW (bitsW b) := fun e => h (hi e)
    rcases c1 with ⟨p, q⟩ | ⟨p, q⟩ | ⟨p, q⟩
    · exact Or.inl ⟨p, by omega, hB⟩
    · exact absurd q hne
    · exact Or.inr (Or.inr ⟨p, by omega, hB⟩)
theorem rcmp_trans (a b c : Nat) (h1 : rcmpW a b ≤ 0) (h2 : rcmpW b c ≤ 0) : rcmpW a c ≤ 0 := by
  unfold rcmpW at *
  have := cmp3_cases (rankW (bitsW a)) (rankW (bitsW b)); have := cmp3_cases (rankW (bitsW b)) (rankW (bitsW c)); have := cmp3_cases (rankW (bitsW a)) (rankW (bitsW c)); omega
theorem rcmp_lt (a b : Nat) (ha : a < 18446744073709551616) (hb : b < 18446744073709551616) (h : 0 ≤ rcmpW a b) : (FloatKind.f64.format.order a b == some Ordering.lt) = false := by
  cases h1 : Fm.isNan a with
  | true => show (Ieee.double.order a b == some Ordering.lt) = false; rw [Fm.order_nan_l a b h1]; rfl
  | false =>
    cases h2 : Fm.isNan b with
    | true => show (Ieee.double.order a b == some Ordering.lt) = false; rw [Fm.order_nan_r a b h2]; rfl
    | false =>
      rw [ord_sv a b h1 h2]
      by_cases hl : Fm.SV a < Fm.SV b
      · have hc := cmp_num a b ha hb h1 h2 (by omega)
        unfold cmpI at hc
        rw [if_pos hl] at hc
        omega
      · by_cases hg : Fm.SV b < Fm.SV a
        · rw [Int.compare_eq_gt.2 hg]; rfl
        · have e : Fm.SV a = Fm.SV b := by omega
          rw [e]; simp

theorem nsame_any (a b : Nat) (ha : a < 18446744073709551616) (hb : b < 18446744073709551616) (w : World) :
    Calls Tryz.prog 107 #[.float .f64 a, .float .f64 b] w fun e w' => e = .returned (.bool (rcmpW a b == 0)) ∧ w = w' := by
  have C := Lib.hid (fun w => ncompare_any a b ha hb w)
  clear ha hb
  generalize rcmpW a b = n at *
  go_enter Tryz.func107, Tryz.ntmps107
  go_wp2_with fail
  refine (C.out _).mono ?_
  rintro e w' ⟨rfl, rfl⟩
  go_wp2_with fail
  go_ret
  exact ⟨rfl, rfl⟩

theorem rsame_any (a b : Nat) (ha : a < 18446744073709551616) (hb : b < 18446744073709551616) (w : World) :
    Calls Tryz.prog 106 #[.float .f64 a, .float .f64 b] w fun e w' => e = .returned (.bool ((bitsW a : Int) == bitsW b)) ∧ w = w' := by
  have C1 := Lib.hid (fun w => rbits_any a ha w)
  have C2 := Lib.hid (fun w => rbits_any b hb w)
  clear ha hb
  generalize bitsW a = x at *
  generalize bitsW b = y at *
  go_enter Tryz.func106, Tryz.ntmps106
  go_wp2_with fail
  refine (C1.out _).mono ?_
  rintro e w' ⟨rfl, rfl⟩
  go_wp2_with fail
  refine (C2.out _).mono ?_
  rintro e w' ⟨rfl, rfl⟩
  go_wp2_with fail
  go_ret
  exact ⟨rfl, rfl⟩

end Nm
end Go.Proofs.YtpneejlilgepfaaGreatDoor
namespace Go.Proofs.YtpneejlilgepfaaGreatDoor
open Go.RowKit
set_option linter.unusedVariables false
namespace Vt
open Nm (bitsW ret_int ret_bool)

theorem loop_eq (s : ByteArray) : ∀ (k i : Nat) (r : List UInt8), s.size - i = k → ByteArray.toList.loop s i r = r.reverse ++ s.data.toList.drop i := by
  intro k
  induction k with
  | zero =>
    intro i r h; rw [ByteArray.toList.loop, if_neg (by omega)]
    rw [List.drop_eq_nil_of_le (by have : s.data.toList.length = s.size := rfl; omega)]; simp
  | succ k ih =>
    intro i r h; rw [ByteArray.toList.loop, if_pos (by omega), ih _ _ (by omega)]
    have hl : i < s.data.toList.length := by have : s.data.toList.length = s.size := rfl; omega
    rw [List.drop_eq_getElem_cons hl]
    have : s.get! i = s.data.toList[i] := by
      cases s with | mk d => simp only [ByteArray.get!]; rw [getElem!_pos d i (by simpa using hl)]; simp
    simp [this]
theorem toList_data (s : ByteArray) : s.toList = s.data.toList := by
  unfold ByteArray.toList; rw [loop_eq s _ 0 [] rfl]; simp
theorem toList_inj (s s' : ByteArray) : s.toList = s'.toList ↔ s = s' := by
  rw [toList_data, toList_data]
  constructor
  · intro h
    cases s with | mk a => cases s' with | mk b => simp at h; rw [h]
  · intro h; rw [h]

/-- What Same asks of two values' own fields. -/
def HeadS (k n : Int) (f : Nat) (s : ByteArray) (m : Nat) (k' n' : Int) (f' : Nat) (s' : ByteArray) (m' : Nat) : Prop := k = k' ∧ n = n' ∧ s = s' ∧ bitsW f = bitsW f' ∧ m = m'

set_option maxRecDepth 100000 in
set_option maxHeartbeats 2000000 in
theorem rsame_pass (k n : Int) (f f' : Nat) (s : ByteArray) (l l' : List VT) (A A' : Option Addr) (cap cap' : Nat) (hf : f < 18446744073709551616) (hf' : f' < 18446744073709551616) (hff : bitsW f = bitsW f') (hll : l'.length = l.length) (hl : l.length ≤ cap) (hl' : l.length ≤ cap') (hc : cap ≤ maxLen) (hc' : cap' ≤ maxLen)
    (ih : ∀ (i : Nat) (hi : i < l.length) (t' : VT) (w : World) (lo hi lo' hi' : Nat) (v v' : Value) (_ : Rep w lo hi l[i] v) (_ : hi ≤ w.heap.size) (_ : Rep w lo' hi' t' v') (_ : hi' ≤ w.heap.size),
      Calls Tryz.prog 70 #[v, v'] w fun e w' => e = .returned (.bool (l[i].same t')) ∧ Below w.heap.size w w')
    (w : World) (lo hi lo' hi' : Nat) (hk : KidsAt w lo hi l A) (hz : hi ≤ w.heap.size) (hk' : KidsAt w lo' hi' l' A') (hz' : hi' ≤ w.heap.size) :
    Calls Tryz.prog 70 #[.agg #[.int .i64 k, .int .i64 n, .float .f64 f, .string s, .slice A l.length cap], .agg #[.int .i64 k, .int .i64 n, .float .f64 f', .string s, .slice A' l.length cap']] w fun e w' =>
      e = .returned (.bool ((l.zip l').all (fun p => p.1.same p.2))) ∧ Below w.heap.size w w' := by
  unfold maxLen at hc hc'
  have IH := Lib.hid ih; have HK := Lib.hid hk; have HK' := Lib.hid hk'; have HLL := Lib.hid hll; clear ih hk hk' hll
  have SF := Nm.rsame_any f f' hf hf'
  have e1 : ((bitsW f : Int) == bitsW f') = true := by rw [hff]; simp
  rw [e1] at SF
  have SF := Lib.hid SF
  clear e1 hff
  have HBA := Lib.hid ((BoxAt.new w k n f s A l.length cap).later ((Below.refl (w.heap.size + 1) _).alloc (by simp) (.cells #[.int .i64 k, .int .i64 n, .float .f64 f', .string s, .slice A' l.length cap'] 41)) (by omega))
  have HBB := BoxAt.new (w.alloc (.cells #[.int .i64 k, .int .i64 n, .float .f64 f, .string s, .slice A l.length cap] 41)) k n f' s A' l.length cap'
  rw [World.size_alloc] at HBB
  have HBB := Lib.hid HBB
  have HB0 := Lib.hid ((box_below w k n f s A l.length cap).alloc (by simp) (.cells #[.int .i64 k, .int .i64 n, .float .f64 f', .string s, .slice A' l.length cap'] 41))
  go_enter Tryz.func70, Tryz.ntmps70
  go_wp2_with (go_at_call 106; refine (SF.out _).mono ?_; rintro e w' ⟨rfl, rfl⟩)
  go_loopw [4, 5] (fun r i wr => ∃ (j : Nat), j ≤ l.length ∧ i = .int .i64 j ∧ r = .bool false ∧ ((l.zip l').take j).all (fun p => p.1.same p.2) = true ∧ BoxAt wr w.heap.size k n f s A l.length cap ∧ BoxAt wr (w.heap.size + 1) k n f' s A' l.length cap' ∧ Below w.heap.size w wr) (fun _ i _ => l.length - (intOf i).toNat)
  case atStart => exact ⟨0, by omega, rfl, rfl, rfl, HBA.out, HBB.out, HB0.out⟩
  case round =>
    obtain ⟨j, hj, rfl, rfl, hy, hbox, hbox', hb⟩ := hrel
    have HY := Lib.hid hy; clear hy
    have hlt0 := hbox'.lt
    obtain ⟨c0, c1, c2, c3, c4⟩ := hbox.cells
    obtain ⟨a0, a1, a2, a3, a4⟩ := hbox'.cells
    have HBX := Lib.hid hbox; have HBX' := Lib.hid hbox'; have HB := Lib.hid hb; clear hbox hbox' hb
    by_cases hlt : j < l.length
    · obtain ⟨b, off, hA, h1, h2, h3⟩ := (HK.out.later (HB.out.mono hz)).at_ (by omega)
      obtain ⟨k1, n1, f1, s1, L1, A1, cap1, e, d0, d1, d2, d3, d4, hr⟩ := h3 j hlt
      subst hA
      have HR := Lib.hid hr
      clear h3 e hr
      obtain ⟨b', off', hA', h1', h2', h3'⟩ := (HK'.out.later (HB.out.mono hz')).at_ (by have := HLL.out; omega)
      obtain ⟨k2, n2, f2, s2, L2, A2, cap2, e, g0, g1, g2, g3, g4, hr⟩ := h3' j (by have := HLL.out; omega)
      subst hA'
      have HR' := Lib.hid hr
      clear h3' e hr
      go_wp2_with fail
      go_still_tail 10, (by kernel_rfl)
      go_wp2_with fail
      refine (IH.out j hlt _ _ lo hi lo' hi' _ _ HR.out.drew (by show hi ≤ wr.heap.size; omega) HR'.out.drew (by show hi' ≤ wr.heap.size; omega)).mono ?_
      rintro e w1 ⟨rfl, hb1⟩
      have hb1' : Below wr.heap.size wr w1 := (below_drew (Below.refl _ _)).trans hb1
      clear hb1
      have HBX1 := Lib.hid (HBX.out.later hb1' (by omega))
      have HBX1' := Lib.hid (HBX'.out.later hb1' hlt0)
      have HB1 := Lib.hid (HB.out.trans (hb1'.mono (by omega)))
      clear HBX HBX' HB HR HR' hb1' c0 c1 c2 c3 c4 a0 a1 a2 a3 a4 d0 d1 d2 d3 d4 g0 g1 g2 g3 g4
      have hzl : j < (l.zip l').length := by rw [List.length_zip, HLL.out]; simpa using hlt
      have hge : ((l.zip l')[j]'hzl).1.same ((l.zip l')[j]'hzl).2 = l[j].same (l'[j]'(by have := HLL.out; omega)) := by rw [List.getElem_zip]
      have HGE := Lib.hid hge; clear hge
      cases hp : l[j].same (l'[j]'(by have := HLL.out; omega)) with
      | true =>
        have HP := Lib.hid hp; clear hp
        go_wp2_with fail
        go_roundw
        case rel => exact ⟨j + 1, by omega, by go_num, rfl, by rw [all_take_succ _ _ _ hzl, HY.out, HGE.out, HP.out]; rfl, HBX1.out, HBX1'.out, HB1.out⟩
        case measure => simp [intOf]; omega
      | false =>
        have HP := Lib.hid hp; clear hp
        go_wp2_with fail
        go_ret
        exact ⟨ret_bool (by rw [all_false _ _ j hzl (by rw [HGE.out]; exact HP.out)]), HB1.out⟩
    · have hj' : j = l.length := by omega
      have HJ := Lib.hid hj'
      clear hj'
      go_wp2_with fail
      go_ret
      have hall : (l.zip l').all (fun p => p.1.same p.2) = true := by
        have := HY.out
        rw [HJ.out, List.take_of_length_le (by rw [List.length_zip, HLL.out]; simp)] at this
        exact this
      exact ⟨ret_bool (by rw [hall]), HB.out⟩

set_option maxRecDepth 100000 in
set_option maxHeartbeats 2000000 in
theorem rsame_fail (k n : Int) (f : Nat) (s : ByteArray) (A : Option Addr) (m cap : Nat) (k' n' : Int) (f' : Nat) (s' : ByteArray) (A' : Option Addr) (m' cap' : Nat) (hf : f < 18446744073709551616) (hf' : f' < 18446744073709551616)
    (h : ¬ HeadS k n f s m k' n' f' s' m') (w : World) :
    Calls Tryz.prog 70 #[.agg #[.int .i64 k, .int .i64 n, .float .f64 f, .string s, .slice A m cap], .agg #[.int .i64 k', .int .i64 n', .float .f64 f', .string s', .slice A' m' cap']] w fun e w' =>
      e = .returned (.bool false) ∧ Below w.heap.size w w' := by
  have H := Lib.hid h; clear h
  have SF := Lib.hid (Nm.rsame_any f f' hf hf')
  go_enter Tryz.func70, Tryz.ntmps70
  go_wp2_with (go_at_call 106; refine (SF.out _).mono ?_; rintro e w' ⟨rfl, rfl⟩)
  all_goals first
    | (go_ret; exact ⟨rfl, ((Below.refl _ _).alloc (Nat.le_refl _) _).alloc (by simp) _⟩)
    | (exfalso
       refine H.out ⟨?_, ?_, ?_, ?_, ?_⟩
       all_goals clear H SF
       all_goals first
         | assumption
         | (exact (toList_inj s s').1 (by assumption))
         | omega
         | (have hm : ((m : Int) != (m' : Int)) = false := by assumption
            simp at hm; omega))

theorem rsame_any (t : VT) : ∀ (t' : VT) (w : World) (lo hi lo' hi' : Nat) (v v' : Value) (_ : Rep w lo hi t v) (_ : hi ≤ w.heap.size) (_ : Rep w lo' hi' t' v') (_ : hi' ≤ w.heap.size),
    Calls Tryz.prog 70 #[v, v'] w fun e w' => e = .returned (.bool (t.same t')) ∧ Below w.heap.size w w' := by
  induction t using VT.ind with
  | _ k n f s l ih =>
    intro t' w lo hi lo' hi' v v' hR hz hR' hz'
    obtain ⟨k', n', f', s', l'⟩ := t'
    obtain ⟨A, cap, rfl, ho, hl, hk⟩ := hR.head
    obtain ⟨A', cap', rfl, ho', hl', hk'⟩ := hR'.head
    by_cases hh : HeadS k n f s l.length k' n' f' s' l'.length
    · obtain ⟨rfl, rfl, rfl, hff, hll⟩ := hh
      have := rsame_pass k n f f' s l l' A A' cap cap' ho.f1 ho'.f1 hff hll.symm hl (by omega) ho.m1 ho'.m1 ih w lo hi lo' hi' hk hz hk' hz'
      rw [← hll]
      refine this.mono fun e w' h => ⟨?_, h.2⟩
      rw [h.1, same_mk, hff, hll]
      simp
    · refine (rsame_fail k n f s A l.length cap k' n' f' s' A' l'.length cap' ho.f1 ho'.f1 hh w).mono fun e w' h => ⟨?_, h.2⟩
      rw [h.1]
      congr 2
      rw [eq_comm, Bool.eq_false_iff]
      intro q
      obtain ⟨a, b, c, d, e, -⟩ := (same_iff ..).1 q
      exact hh ⟨a, b, c, d, e⟩
end Vt
end Go.Proofs.YtpneejlilgepfaaGreatDoor
