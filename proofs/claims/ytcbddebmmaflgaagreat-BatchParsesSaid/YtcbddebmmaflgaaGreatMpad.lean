/- Contracts of num's Canon, Bits, Of, of the reference's Of, of math's Signbit and IsNaN, and of the examples 'alive' of layer 3. -/
/- The laws NumScales, NumBits and NumGrows: each returns true and leaves the world as it was. -/
/- The reference's order of numbers (rank, Compare), and the law NumGrows. -/
/- The program's order of numbers (num.Compare, num.Same) is the reference's; the law NumOrders. -/
import Derived.Test.YtcbddebmmaflgaaGreatMpac
import Derived.ProofKit
import Derived.OpenShut
namespace Go.Proofs.YtcbddebmmaflgaaGreat
open Go.RowKit
namespace Nm

theorem canon_any (b : Nat) (w : World) : Calls Tryz.prog 96 #[.float .f64 b] w fun e w' => e = .returned (.float .f64 (bitsW b)) ∧ w = w' := by
  have hs := neq_self b
  have hr := fun w => run_frombits 9221120237041090561 w
  unfold bitsW
  cases h : Fm.isNan b with
  | true =>
    rw [h] at hs
    clear h
    go_enter Tryz.func96, Tryz.ntmps96
    go_wp2
    go_ret
    exact ⟨rfl, rfl⟩
  | false =>
    rw [h] at hs
    clear h
    go_enter Tryz.func96, Tryz.ntmps96
    go_wp2
    go_ret
    exact ⟨rfl, rfl⟩

theorem bits_any (b : Nat) (w : World) : Calls Tryz.prog 85 #[.float .f64 b] w fun e w' => e = .returned (.int .u64 (bitsW b)) ∧ w = w' := by
  have hr := fun w => run_f64bits (bitsW b) w
  go_enter Tryz.func85, Tryz.ntmps85
  go_wp2_with (go_at_call 96; refine (canon_any b _).mono ?_; rintro e w' ⟨rfl, rfl⟩)
  go_ret
  exact ⟨rfl, rfl⟩

/-- Are these the bits of a number? -/
def okW (b : Nat) : Bool := !(Fm.isNan b && decide (b ≠ quietW))
def ofW (b : Nat) : Nat := if okW b = true then b else 0

theorem of_any (b : Nat) (w : World) : Calls Tryz.prog 80 #[.int .u64 b] w fun e w' => e = .returned (.tuple #[.float .f64 (ofW b), .bool (okW b)]) ∧ w = w' := by
  have hs := neq_self b
  have hr := fun w => run_frombits b w
  unfold ofW okW
  cases h : Fm.isNan b with
  | true =>
    rw [h] at hs
    by_cases hq : b = quietW
    · have e : (!(true && decide (b ≠ quietW))) = true := by simp [hq]
      rw [e]
      have hq' : (b : Int) = 9221120237041090561 := by rw [hq]; rfl
      have HQ := Lib.hid hq'
      clear h e hq hq'
      go_enter Tryz.func80, Tryz.ntmps80
      go_wp2
      all_goals first
        | (go_ret2; exact ⟨rfl, rfl⟩)
        | (exfalso; have := HQ.out; clear hr hs; simp only [bne_iff_ne, ne_eq] at *; omega)
    · have e : (!(true && decide (b ≠ quietW))) = false := by simp [hq]
      rw [e]
      have hq' : ¬ ((b : Int) = 9221120237041090561) := by intro hh; apply hq; unfold quietW; omega
      clear h e hq
      go_enter Tryz.func80, Tryz.ntmps80
      go_wp2
      all_goals first
        | (go_ret2; exact ⟨rfl, rfl⟩)
        | (exfalso; clear hr hs; simp only [bne_iff_ne, ne_eq] at *; omega)
  | false =>
    rw [h] at hs
    have e : (!(false && decide (b ≠ quietW))) = true := rfl
    rw [e]
    clear h e
    go_enter Tryz.func80, Tryz.ntmps80
    go_wp2
    go_ret2
    exact ⟨rfl, rfl⟩

theorem rof_any (b : Nat) (hb : b < 18446744073709551616) (w : World) : Calls Tryz.prog 87 #[.int .u64 b] w fun e w' => e = .returned (.tuple #[.float .f64 (ofW b), .bool (okW b)]) ∧ w = w' := by
  have hn := fun w => nan_any b hb w
  have hr := fun w => run_frombits b w
  unfold ofW okW
  cases h : Fm.isNan b with
  | true =>
    rw [h] at hn
    by_cases hq : b = quietW
    · have e : (!(true && decide (b ≠ quietW))) = true := by simp [hq]
      rw [e]
      have hq' : (b : Int) = 9221120237041090561 := by rw [hq]; rfl
      have HQ := Lib.hid hq'
      clear h e hq hq' hb
      go_enter Tryz.func87, Tryz.ntmps87
      go_wp2_with (go_at_call 97; refine (hn _).mono ?_; rintro e w' ⟨rfl, rfl⟩)
      all_goals first
        | (go_ret2; exact ⟨rfl, rfl⟩)
        | (exfalso; have := HQ.out; clear hr hn; simp only [bne_iff_ne, ne_eq] at *; omega)
    · have e : (!(true && decide (b ≠ quietW))) = false := by simp [hq]
      rw [e]
      have hq' : ¬ ((b : Int) = 9221120237041090561) := by intro hh; apply hq; unfold quietW; omega
      clear h e hq hb
      go_enter Tryz.func87, Tryz.ntmps87
      go_wp2_with (go_at_call 97; refine (hn _).mono ?_; rintro e w' ⟨rfl, rfl⟩)
      all_goals first
        | (go_ret2; exact ⟨rfl, rfl⟩)
        | (exfalso; clear hr hn; simp only [bne_iff_ne, ne_eq, bne_eq_false_iff_eq] at *; omega)
  | false =>
    rw [h] at hn
    have e : (!(false && decide (b ≠ quietW))) = true := rfl
    rw [e]
    clear h e hb
    go_enter Tryz.func87, Tryz.ntmps87
    go_wp2_with (go_at_call 97; refine (hn _).mono ?_; rintro e w' ⟨rfl, rfl⟩)
    go_ret2
    exact ⟨rfl, rfl⟩

/-! ### The examples -/
theorem signbit_any (b : Nat) (hb : b < 18446744073709551616) (w : World) : Calls Tryz.prog 104 #[.float .f64 b] w fun e w' => e = .returned (.bool (Fm.neg b)) ∧ w = w' := by
  have hr := fun w => run_f64bits b w
  have HB := Lib.hid hb; clear hb
  go_enter Tryz.func104, Tryz.ntmps104
  go_wp2
  go_ret
  refine ⟨ret_bool ?_, rfl⟩
  have := HB.out
  unfold Fm.neg wrap64
  rw [Bool.eq_iff_iff]
  simp only [decide_eq_true_eq, beq_iff_eq]
  omega

end Nm
end Go.Proofs.YtcbddebmmaflgaaGreat
namespace Go.Proofs.YtcbddebmmaflgaaGreat
open Go.RowKit
namespace Nm

end Nm
end Go.Proofs.YtcbddebmmaflgaaGreat
namespace Go.Proofs.YtcbddebmmaflgaaGreat
open Go.RowKit
namespace Nm

def rankW (b : Nat) : Nat := if 9223372036854775808 ≤ b then 18446744073709551615 - b else b + 9223372036854775808
def cmp3 (a b : Nat) : Int := if a < b then -1 else if b < a then 1 else 0
theorem cmp3_cases (a b : Nat) : cmp3 a b = -1 ∧ a < b ∨ cmp3 a b = 0 ∧ a = b ∨ cmp3 a b = 1 ∧ b < a := by
  unfold cmp3
  by_cases h : a < b
  · rw [if_pos h]; omega
  · rw [if_neg h]
    by_cases h2 : b < a
    · rw [if_pos h2]; omega
    · rw [if_neg h2]; omega
def rcmpW (a b : Nat) : Int := cmp3 (rankW (bitsW a)) (rankW (bitsW b))

theorem bitsW_lt (b : Nat) (hb : b < 18446744073709551616) : bitsW b < 18446744073709551616 := by
  unfold bitsW quietW; split <;> omega

/-! ### The law NumGrows -/
end Nm
end Go.Proofs.YtcbddebmmaflgaaGreat
namespace Go.Proofs.YtcbddebmmaflgaaGreat
open Go.RowKit
namespace Nm

theorem misnan_any (b : Nat) (w : World) : Calls Tryz.prog 99 #[.float .f64 b] w fun e w' => e = .returned (.bool (Fm.isNan b)) ∧ w = w' := by
  have hs := neq_self b
  generalize Fm.isNan b = z at *
  go_enter Tryz.func99, Tryz.ntmps99
  go_wp2
  go_ret
  exact ⟨rfl, rfl⟩

theorem sign_any (b : Nat) (hb : b < 18446744073709551616) (w : World) : Calls Tryz.prog 101 #[.float .f64 b] w fun e w' => e = .returned (.int .i64 (if Fm.neg b = true then -1 else 1)) ∧ w = w' := by
  have C := Lib.hid (fun w => signbit_any b hb w)
  clear hb
  cases h : Fm.neg b with
  | true =>
    rw [h] at C; clear h
    go_enter Tryz.func101, Tryz.ntmps101
    go_wp2_with (go_at_call 104; refine (C.out _).mono ?_; rintro e w' ⟨rfl, rfl⟩)
    go_ret
    exact ⟨rfl, rfl⟩
  | false =>
    rw [h] at C; clear h
    go_enter Tryz.func101, Tryz.ntmps101
    go_wp2_with (go_at_call 104; refine (C.out _).mono ?_; rintro e w' ⟨rfl, rfl⟩)
    go_ret
    exact ⟨rfl, rfl⟩

def cmpI (a b : Int) : Int := if a < b then -1 else if b < a then 1 else 0

theorem cmpi_any (a b : Int) (w : World) : Calls Tryz.prog 100 #[.int .i64 a, .int .i64 b] w fun e w' => e = .returned (.int .i64 (cmpI a b)) ∧ w = w' := by
  unfold cmpI
  by_cases h : a < b
  · rw [if_pos h]
    go_enter Tryz.func100, Tryz.ntmps100
    go_wp2
    go_ret
    exact ⟨rfl, rfl⟩
  · rw [if_neg h]
    by_cases h2 : b < a
    · rw [if_pos h2]
      go_enter Tryz.func100, Tryz.ntmps100
      go_wp2
      go_ret
      exact ⟨rfl, rfl⟩
    · rw [if_neg h2]
      go_enter Tryz.func100, Tryz.ntmps100
      go_wp2
      go_ret
      exact ⟨rfl, rfl⟩

/-- How two words that are no NaN stand to each other. -/
theorem ord_sv (a b : Nat) (ha : Fm.isNan a = false) (hb : Fm.isNan b = false) : FloatKind.f64.format.order a b = some (compare (Fm.SV a) (Fm.SV b)) := Fm.order_eq a b ha hb

theorem cmpf_any (a b : Nat) (ha : Fm.isNan a = false) (hb : Fm.isNan b = false) (w : World) :
    Calls Tryz.prog 102 #[.float .f64 a, .float .f64 b] w fun e w' => e = .returned (.int .i64 (cmpI (Fm.SV a) (Fm.SV b))) ∧ w = w' := by
  have h1 := neq_self a
  have h2 := neq_self b
  have h3 := ord_sv a b ha hb
  rw [ha] at h1
  rw [hb] at h2
  unfold cmpI
  by_cases h : Fm.SV a < Fm.SV b
  · rw [if_pos h]
    rw [Int.compare_eq_lt.2 h] at h3
    clear h ha hb
    go_enter Tryz.func102, Tryz.ntmps102
    go_wp2
    go_ret
    exact ⟨rfl, rfl⟩
  · rw [if_neg h]
    by_cases h' : Fm.SV b < Fm.SV a
    · rw [if_pos h']
      rw [Int.compare_eq_gt.2 h'] at h3
      clear h h' ha hb
      go_enter Tryz.func102, Tryz.ntmps102
      go_wp2
      go_ret
      exact ⟨rfl, rfl⟩
    · rw [if_neg h']
      have e : Fm.SV a = Fm.SV b := by omega
      rw [e] at h3
      have h4 : FloatKind.f64.format.order a b = some Ordering.eq := by rw [h3]; simp
      clear h h' ha hb e h3
      go_enter Tryz.func102, Tryz.ntmps102
      go_wp2
      go_ret
      exact ⟨rfl, rfl⟩

/-! ### The two orders are one -/
theorem sv_zero_iff (b : Nat) : Fm.SV b = 0 ↔ b % 2 ^ 63 = 0 := by
  have h1 := Fm.SV_abs b
  constructor
  · intro h
    refine Classical.byContradiction fun hn => ?_
    have := V_pos hn
    omega
  · intro h
    rw [h, Fm.V_zero] at h1
    omega

theorem cmp_num (a b : Nat) (ha : a < 18446744073709551616) (hb : b < 18446744073709551616) (h1 : Fm.isNan a = false) (h2 : Fm.isNan b = false) (hz : ¬ (Fm.SV a = 0 ∧ Fm.SV b = 0)) :
    cmpI (Fm.SV a) (Fm.SV b) = rcmpW a b := by
  have ea : bitsW a = a := by unfold bitsW; rw [h1]; rfl
  have eb : bitsW b = b := by unfold bitsW; rw [h2]; rfl
  have za := sv_zero_iff a
  have zb := sv_zero_iff b
  have hl := Fm.V_lt_iff (a % 2 ^ 63) (b % 2 ^ 63)
  have hg := Fm.V_lt_iff (b % 2 ^ 63) (a % 2 ^ 63)
  have na : Fm.neg a = decide (9223372036854775808 ≤ a) := by
    unfold Fm.neg; rw [Bool.eq_iff_iff]; simp only [beq_iff_eq, decide_eq_true_eq]; omega
  have nb : Fm.neg b = decide (9223372036854775808 ≤ b) := by
    unfold Fm.neg; rw [Bool.eq_iff_iff]; simp only [beq_iff_eq, decide_eq_true_eq]; omega
  have c3 := cmp3_cases (rankW a) (rankW b)
  unfold rcmpW
  rw [ea, eb]
  unfold cmpI
  have sa : Fm.SV a = if 9223372036854775808 ≤ a then -(Fm.V (a % 2 ^ 63) : Int) else Fm.V (a % 2 ^ 63) := by
    unfold Fm.SV; rw [na]; simp only [decide_eq_true_eq]
  have sb : Fm.SV b = if 9223372036854775808 ≤ b then -(Fm.V (b % 2 ^ 63) : Int) else Fm.V (b % 2 ^ 63) := by
    unfold Fm.SV; rw [nb]; simp only [decide_eq_true_eq]
  generalize Fm.V (a % 2 ^ 63) = va at *
  generalize Fm.V (b % 2 ^ 63) = vb at *
  generalize Fm.SV a = x at *
  generalize Fm.SV b = y at *
  unfold rankW at *
  clear na nb ea eb h1 h2
  by_cases p : 9223372036854775808 ≤ a
  · rw [if_pos p] at sa c3
    by_cases q : 9223372036854775808 ≤ b
    · rw [if_pos q] at sb c3
      rw [if_pos p, if_pos q]
      by_cases l : x < y
      · rw [if_pos l]; omega
      · rw [if_neg l]
        by_cases g : y < x
        · rw [if_pos g]; omega
        · rw [if_neg g]; omega
    · rw [if_neg q] at sb c3
      rw [if_pos p, if_neg q]
      by_cases l : x < y
      · rw [if_pos l]; omega
      · rw [if_neg l]
        by_cases g : y < x
        · rw [if_pos g]; omega
        · rw [if_neg g]; omega
  · rw [if_neg p] at sa c3
    by_cases q : 9223372036854775808 ≤ b
    · rw [if_pos q] at sb c3
      rw [if_neg p, if_pos q]
      by_cases l : x < y
      · rw [if_pos l]; omega
      · rw [if_neg l]
        by_cases g : y < x
        · rw [if_pos g]; omega
        · rw [if_neg g]; omega
    · rw [if_neg q] at sb c3
      rw [if_neg p, if_neg q]
      by_cases l : x < y
      · rw [if_pos l]; omega
      · rw [if_neg l]
        by_cases g : y < x
        · rw [if_pos g]; omega
        · rw [if_neg g]; omega
end Nm
end Go.Proofs.YtcbddebmmaflgaaGreat
