/- Contracts of package num's arithmetic (Canon, Bits, Of, Scale, Add) and of the reference's. -/
import Derived.Test.YtpneejlilgepfaaRows
import Derived.Test.YtpneejlilgepfaaFm
import Derived.WalkKit
import Derived.WalkLawsBesides
import Derived.WalkSpells
import Derived.RowKit3
import Derived.Outline
import Derived.Lib.Hide
import Derived.Laws.Bits64b
import Derived.Laws.Externs
import Derived.Laws.FloatArith
import Derived.Deep.QuietTactic
import Derived.BigQuiet
namespace Go.Proofs.Ytpneejlilgepfaa
open Go.RowKit
namespace Nm

theorem ret_int {k : IntKind} {a b : Int} (h : a = b) : Ending.returned (.int k a) = .returned (.int k b) := by rw [h]
theorem ret_bool {a b : Bool} (h : a = b) : Ending.returned (.bool a) = .returned (.bool b) := by rw [h]

theorem run_f64bits (b : Nat) (w : World) : (callFunc 57 #[.float .f64 b]).run Try.prog w = .ok (.value (.int .u64 b)) w := by kernel_rfl
theorem run_frombits (b : Int) (w : World) : (callFunc 65 #[.int .u64 b]).run Try.prog w = .ok (.value (.float .f64 b.toNat)) w := by kernel_rfl

/-- The word of the whole part. -/
def floorW (q : Nat) : Nat := if q = 2047 * 2 ^ 52 then q else Ieee.double.nearest false (Fm.whole q) 0

theorem toI (q : Nat) (d : Ieee.Datum) (h : FloatKind.f64.decode q = d) (hn : ∀ s t, d ≠ .nan s t) :
    Extern.MathFloor.toIntegral "math.archFloor" .down #[.float .f64 q] = pure (.float .f64 (FloatKind.f64.encode (d.integral .down))) := by
  conv => lhs; whnf
  rw [h]
  cases d with
  | nan s t => exact absurd rfl (hn s t)
  | infinity s => rfl
  | number s m e => rfl

theorem mask63 (b : Nat) (hb : b < 18446744073709551616) : bits BinOp.and IntKind.u64 (b : Int) 9223372036854775807 = ((b % 9223372036854775808 : Nat) : Int) := by
  have h := bits_and_u64_nat b 9223372036854775807 hb (by omega)
  have e : b &&& 9223372036854775807 = b % 9223372036854775808 := Nat.and_two_pow_sub_one_eq_mod b 63
  rw [e] at h
  exact h

theorem nan_any (b : Nat) (hb : b < 18446744073709551616) (w : World) : Calls Try.prog 58 #[.int .u64 b] w fun e w' => e = .returned (.bool (Fm.isNan b)) ∧ w = w' := by
  have HB := Lib.hid hb; clear hb
  go_enter Try.func58, Try.ntmps58
  go_wp2
  go_ret
  refine ⟨ret_bool ?_, rfl⟩
  rw [mask63 b HB.out]
  unfold Fm.isNan
  rw [decide_eq_decide]
  omega

/-- Greater than 0. -/
def pos (b : Nat) : Bool := !Fm.neg b && !Fm.isNan b && decide (b % 2 ^ 63 ≠ 0)

theorem sv_zero : Fm.SV 0 = 0 := by
  have h := Fm.neg_small 0 (by omega)
  unfold Fm.SV; rw [h.1, h.2, Fm.V_zero]; rfl

theorem V_pos {r : Nat} (h : r ≠ 0) : 0 < Fm.V r := by
  have := Fm.V_strict (show 0 < r by omega); omega

theorem ord_zero (b : Nat) : (FloatKind.f64.format.order b 0 == some Ordering.gt) = pos b := by
  show (Ieee.double.order b 0 == some Ordering.gt) = pos b
  unfold pos
  cases hn : Fm.isNan b with
  | true => rw [Fm.order_nan_l b 0 hn]; simp
  | false =>
    rw [Fm.order_eq b 0 hn (by decide), sv_zero]
    unfold Fm.SV
    cases hs : Fm.neg b with
    | true =>
      simp only [if_true, Bool.not_true, Bool.false_and]
      rw [beq_eq_false_iff_ne]
      intro h
      have := Int.compare_eq_gt.1 (Option.some.inj h)
      omega
    | false =>
      simp only [Bool.false_eq_true, if_false, Bool.not_false, Bool.true_and]
      by_cases h0 : b % 2 ^ 63 = 0
      · rw [h0, Fm.V_zero]; rfl
      · have := V_pos h0
        rw [Int.compare_eq_gt.2 (by omega)]; simp [h0]

/-- 2^63 as a float64. -/
def top63 : Nat := 4890909195324358656
theorem V_top : Fm.V top63 = 9223372036854775808 * Fm.U := by
  have h : top63 = Fm.fl 9223372036854775808 := by decide
  rw [h]
  have e : Fm.fl 9223372036854775808 = Fm.R 9223372036854775808 0 := rfl
  rw [e, Fm.V_R _ _ (by omega)]
  have k1 : Fm.kept 9223372036854775808 0 = 2 ^ 52 := by decide
  have k2 : Fm.last 9223372036854775808 0 = 11 := by decide
  rw [k1, k2, Fm.U_eq ((11 + 1074 : Int).toNat - 11) (by decide)]
  have k3 : (9223372036854775808 : Nat) = 2 ^ 52 * 2 ^ 11 := by decide
  have k4 : (11 + 1074 : Int).toNat = 11 + ((11 + 1074 : Int).toNat - 11) := by omega
  rw [k3, Nat.mul_assoc, ← Nat.pow_add 2 11, ← k4]

theorem ord_small (q c : Nat) (hq : q ≤ 2047 * 2 ^ 52) (hc : c ≤ 2047 * 2 ^ 52) : FloatKind.f64.format.order q c = some (compare (Fm.V q : Int) (Fm.V c : Int)) := by
  show Ieee.double.order q c = _
  have h1 := Fm.neg_small q (by omega)
  have h2 := Fm.neg_small c (by omega)
  have n1 : Fm.isNan q = false := by unfold Fm.isNan; rw [h1.2]; simp; omega
  have n2 : Fm.isNan c = false := by unfold Fm.isNan; rw [h2.2]; simp; omega
  rw [Fm.order_eq q c n1 n2]
  unfold Fm.SV
  rw [h1.1, h2.1, h1.2, h2.2]; rfl

theorem ge_of (q c : Nat) (hq : q ≤ 2047 * 2 ^ 52) (hc : c ≤ 2047 * 2 ^ 52) (h : Fm.V c ≤ Fm.V q) :
    (FloatKind.f64.format.order q c == some Ordering.gt || FloatKind.f64.format.order q c == some Ordering.eq) = true := by
  rw [ord_small q c hq hc]
  by_cases e : Fm.V c = Fm.V q
  · rw [e]; simp
  · rw [Int.compare_eq_gt.2 (by omega)]; rfl
theorem lt_of (q c : Nat) (hq : q ≤ 2047 * 2 ^ 52) (hc : c ≤ 2047 * 2 ^ 52) (h : Fm.V q < Fm.V c) : FloatKind.f64.format.order q c = some Ordering.lt := by
  rw [ord_small q c hq hc, Int.compare_eq_lt.2 (by omega)]

theorem whole_ge (q : Nat) : 9223372036854775808 ≤ Fm.whole q ↔ Fm.V top63 ≤ Fm.V q := by
  unfold Fm.whole
  rw [V_top, Nat.le_div_iff_mul_le Fm.U_pos]

/-- The whole part's word. -/
theorem floor_lt (q : Nat) (hq : q ≤ 2047 * 2 ^ 52) (h : Fm.whole q < 9223372036854775808) : q < 2047 * 2 ^ 52 ∧ floorW q = Fm.fl (Fm.whole q) ∧ Fm.V (floorW q) = Fm.whole q * Fm.U ∧ floorW q < 2047 * 2 ^ 52 ∧ Fm.whole (floorW q) = Fm.whole q := by
  have hqi : q ≠ 2047 * 2 ^ 52 := by
    intro e
    have h1 : Fm.V top63 < Fm.V q := Fm.V_strict (by rw [e]; decide)
    have := (whole_ge q).2 (Nat.le_of_lt h1)
    omega
  have e1 : floorW q = Fm.fl (Fm.whole q) := by
    unfold floorW; rw [if_neg hqi, Fm.nearest_nat _ (by omega)]
  have e2 := Fm.V_fl_whole q (by omega) (by omega)
  refine ⟨by omega, e1, by rw [e1, e2], by rw [e1]; exact Fm.fl_lt _ (by omega), ?_⟩
  rw [e1]
  show Fm.V (Fm.fl (Fm.whole q)) / Fm.U = _
  rw [e2, Nat.mul_div_cancel _ Fm.U_pos]

theorem floor_ge (q : Nat) (hq : q ≤ 2047 * 2 ^ 52) (h : 9223372036854775808 ≤ Fm.whole q) : floorW q ≤ 2047 * 2 ^ 52 ∧ Fm.V top63 ≤ Fm.V (floorW q) := by
  unfold floorW
  by_cases hi : q = 2047 * 2 ^ 52
  · rw [if_pos hi]; exact ⟨hq, (whole_ge q).1 h⟩
  · rw [if_neg hi, Fm.nearest_eq false _ 0 (by omega), Fm.word_false]
    refine ⟨Nat.min_le_right _ _, Fm.V_mono ?_⟩
    have h1 := Fm.R_mono 0 h (by omega)
    have h2 : Fm.R 9223372036854775808 0 = top63 := by decide
    have h3 : top63 ≤ 2047 * 2 ^ 52 := by decide
    exact Nat.le_min.2 ⟨by omega, h3⟩

/-- uint64 of a float below 2^63. -/
theorem conv_lt (q : Nat) (hq : q < 2047 * 2 ^ 52) (h : Fm.whole q < 9223372036854775808) : floatToIntVal .f64 q .u64 = some (Fm.whole q : Int) := by
  unfold floatToIntVal
  have e : (FloatKind.f64.decode q).toInt .zero = some (Fm.whole q : Int) := Fm.toInt_eq q hq
  rw [e]
  have h1 : IntKind.u64.min = 0 := by decide
  have h2 : IntKind.u64.max = 18446744073709551615 := by decide
  show (if IntKind.u64.min ≤ (Fm.whole q : Int) ∧ (Fm.whole q : Int) ≤ IntKind.u64.max then some (Fm.whole q : Int) else none) = _
  rw [h1, h2, if_pos (by omega)]

/-- What Scale gives. -/
def scaleW (n b : Nat) : Nat := if n ≠ 0 ∧ pos b = true then Fm.scl n (b % 2 ^ 63) else 0

theorem mul_run (n b : Nat) (hn : n ≠ 0) (hn' : n < 18446744073709551616) (hp : pos b = true) (w : World) :
    (binOp .mul 30 (.float .f64 (floatOfInt .f64 n)) (.float .f64 b)).run Try.prog w = .ok (.float .f64 (Fm.prod n (b % 2 ^ 63))) w := by
  refine run_float_arith w .mul _ .f64 _ _ _ ?_
  unfold pos at hp
  simp only [Bool.and_eq_true, Bool.not_eq_true', decide_eq_true_eq] at hp
  obtain ⟨⟨h1, h2⟩, h3⟩ := hp
  unfold Fm.isNan at h2
  simp only [decide_eq_false_iff_not] at h2
  have e : floatOfInt .f64 n = Fm.fl n := by
    show Ieee.double.nearest (decide ((n : Int) < 0)) (n : Int).natAbs 0 = _
    have : decide ((n : Int) < 0) = false := by simp
    rw [this, Int.natAbs_natCast]
    exact Fm.nearest_nat n (by omega)
  rw [e]
  exact Fm.mul_eq n b hn (by omega) h1 h3 (by omega)

/-! ### Sums -/
def addW (a b : Nat) : Nat := if a + b ≤ 9223372036854775807 then a + b else 9223372036854775807

/-! ### Bits -/
/-- The bits of the NaN. -/
def quietW : Nat := 9221120237041090561
def bitsW (b : Nat) : Nat := if Fm.isNan b = true then quietW else b

theorem neq_self (b : Nat) : (FloatKind.f64.format.order b b != some Ordering.eq) = Fm.isNan b := by
  show (Ieee.double.order b b != some Ordering.eq) = Fm.isNan b
  cases hn : Fm.isNan b with
  | true => rw [Fm.order_nan_l b b hn]; rfl
  | false => rw [Fm.order_eq b b hn hn]; simp

theorem rbits_any (b : Nat) (hb : b < 18446744073709551616) (w : World) : Calls Try.prog 50 #[.float .f64 b] w fun e w' => e = .returned (.int .u64 (bitsW b)) ∧ w = w' := by
  have hr := fun w => run_f64bits b w
  have hn := fun w => nan_any b hb w
  unfold bitsW
  cases h : Fm.isNan b with
  | true =>
    rw [h] at hn
    clear h hb
    go_enter Try.func50, Try.ntmps50
    go_wp2_with (go_at_call 58; refine (hn _).mono ?_; rintro e w' ⟨rfl, rfl⟩)
    go_ret
    exact ⟨rfl, rfl⟩
  | false =>
    rw [h] at hn
    clear h hb
    go_enter Try.func50, Try.ntmps50
    go_wp2_with (go_at_call 58; refine (hn _).mono ?_; rintro e w' ⟨rfl, rfl⟩)
    go_ret
    exact ⟨rfl, rfl⟩
end Nm
end Go.Proofs.Ytpneejlilgepfaa
