/- RetryGrows: the plain facts, and Same and NaN. -/
import Derived.Test.YtbhfnaihfilahaaRtLater
namespace Go.Proofs.Ytbhfnaihfilahaa
open Go.RowKit
namespace Rt
open Nm (ret_int ret_bool scaleW addW bitsW rbits_any pos)

theorem rsame_any (a b : Nat) (ha : a < 18446744073709551616) (hb : b < 18446744073709551616) (w : World) :
    Calls Try.prog 9 #[.float .f64 a, .float .f64 b] w fun e w' => e = .returned (.bool ((bitsW a : Int) == bitsW b)) ∧ w = w' := by
  have C1 := Lib.hid (fun w => rbits_any a ha w)
  have C2 := Lib.hid (fun w => rbits_any b hb w)
  clear ha hb
  generalize bitsW a = x at *
  generalize bitsW b = y at *
  go_enter Try.func9, Try.ntmps9
  go_wp2_with fail
  refine (C1.out _).mono ?_
  rintro e w' ⟨rfl, rfl⟩
  go_wp2_with fail
  refine (C2.out _).mono ?_
  rintro e w' ⟨rfl, rfl⟩
  go_wp2_with fail
  go_ret
  exact ⟨rfl, rfl⟩

theorem mnan_any (w : World) : Calls Try.prog 10 #[] w fun e w' => e = .returned (.float .f64 9221120237041090561) ∧ w = w' := by
  have hr := fun w => Nm.run_frombits 9221120237041090561 w
  go_enter Try.func10, Try.ntmps10
  go_wp2
  go_ret
  exact ⟨rfl, rfl⟩

/-- Is the factor NaN (by the reference's Same)? -/
def nanF (fb : Nat) : Bool := (bitsW fb : Int) == 9221120237041090561
theorem same_nan (fb : Nat) (hfb : fb < 18446744073709551616) (w : World) :
    Calls Try.prog 9 #[.float .f64 fb, .float .f64 9221120237041090561] w fun e w' => e = .returned (.bool (nanF fb)) ∧ w = w' :=
  (rsame_any fb 9221120237041090561 hfb (by omega) w).mono fun e w' ⟨he, hw⟩ => ⟨he.trans (ret_bool (by unfold nanF; rw [show bitsW 9221120237041090561 = 9221120237041090561 from by decide +kernel]; rfl)), hw⟩
theorem nan_zero (fb n : Nat) (h : nanF fb = true) : scaleW n fb = 0 := by
  have hp : pos fb = false := by
    unfold nanF bitsW at h
    have h2 : Fm.isNan fb = true := by
      cases hn : Fm.isNan fb with
      | true => rfl
      | false =>
        rw [hn] at h
        simp only [Bool.false_eq_true, if_false, beq_iff_eq] at h
        have : fb = 9221120237041090561 := by omega
        rw [this] at hn
        exact absurd hn (by decide +kernel)
    unfold pos
    rw [h2]; simp
  unfold scaleW
  rw [if_neg (by rw [hp]; simp)]

/-- Is the factor at least 1 (by the processor)? -/
def geOne (fb : Nat) : Bool := FloatKind.f64.format.order fb 4607182418800017408 == some .gt || FloatKind.f64.format.order fb 4607182418800017408 == some .eq
theorem ge_one_le (fb n : Nat) (h : geOne fb = true) (hn : n < 9007199254740992) : n ≤ scaleW n fb := by
  by_cases h0 : n = 0
  · omega
  unfold geOne at h
  have ho : FloatKind.f64.format.order fb 4607182418800017408 = Ieee.double.order fb 4607182418800017408 := rfl
  rw [ho] at h
  have hN : Fm.isNan fb = false := by
    cases hn : Fm.isNan fb with
    | false => rfl
    | true => rw [Fm.order_nan_l fb _ hn] at h; exact absurd h (by simp)
  rw [Fm.order_eq fb _ hN (by decide +kernel)] at h
  have s1 : Fm.SV 4607182418800017408 = Fm.V 4607182418800017408 := by
    have h1 := Fm.neg_small 4607182418800017408 (by omega)
    unfold Fm.SV; rw [h1.1, h1.2]; rfl
  have p1 := Nm.V_pos (r := 4607182418800017408) (by omega)
  rw [s1] at h
  have hle : (Fm.V 4607182418800017408 : Int) ≤ Fm.SV fb := by
    by_cases hc : Fm.SV fb < (Fm.V 4607182418800017408 : Int)
    · rw [Int.compare_eq_lt.2 hc] at h; exact absurd h (by decide)
    · omega
  have hs : Fm.neg fb = false := by
    cases hs : Fm.neg fb with
    | false => rfl
    | true =>
      exfalso
      unfold Fm.SV at hle
      rw [hs] at hle
      simp only [if_true] at hle
      omega
  have hr : 4607182418800017408 ≤ fb % 2 ^ 63 := by
    unfold Fm.SV at hle
    rw [hs] at hle
    simp only [Bool.false_eq_true, if_false] at hle
    by_cases hc : 4607182418800017408 ≤ fb % 2 ^ 63
    · exact hc
    · have := Fm.V_strict (show fb % 2 ^ 63 < 4607182418800017408 by omega)
      omega
  have hp : pos fb = true := by
    unfold pos
    rw [hs, hN]
    have : fb % 2 ^ 63 ≠ 0 := by omega
    simp [this]
  unfold scaleW
  rw [if_pos ⟨h0, hp⟩]
  have m := Fm.scl_mono (n := n) h0 (show (1023 * 2 ^ 52 : Nat) ≠ 0 by omega) (show 1023 * 2 ^ 52 ≤ fb % 2 ^ 63 by omega)
  rw [Fm.scl_one n h0 (by omega)] at m
  exact m

theorem dl_grows (wt fb lim k : Nat) (h : geOne fb = true) (hn : dl wt fb lim k < 9007199254740992) : dl wt fb lim k ≤ dl wt fb lim (k + 1) := by
  have h1 := ge_one_le fb (dl wt fb lim k) h hn
  have h2 := dl_le wt fb lim k
  rw [dl_succ]; omega
theorem dl_nan (wt fb lim k : Nat) (h : nanF fb = true) : dl wt fb lim (k + 1) = 0 := by
  rw [dl_succ, nan_zero fb _ h]; omega
theorem delayP_at (wt fb lim k : Nat) (h : k < 100) : delayP wt fb lim ((k : Int) + 1) = dl wt fb lim k := by
  unfold delayP
  rw [if_pos (by omega)]
  congr 1; omega
end Rt
end Go.Proofs.Ytbhfnaihfilahaa
