/- The reference's order of numbers (rank, Compare), and the law NumGrows. -/
import Derived.Test.YtbhfnaihfilahaaDoorNmD
namespace Go.Proofs.YtbhfnaihfilahaaDoor
open Go.RowKit
namespace Nm

def rankW (b : Nat) : Nat := if 9223372036854775808 ≤ b then 18446744073709551615 - b else b + 9223372036854775808
def cmp3 (a b : Nat) : Int := if a < b then -1 else if b < a then 1 else 0
theorem cmp3_cases (a b : Nat) : cmp3 a b = -1 ∧ a < b ∨ cmp3 a b = 0 ∧ a = b ∨ cmp3 a b = 1 ∧ b < a := by
  unfold cmp3
  by_cases h : a < b
  · rw [if_pos h]; omega
  · rw [if_neg h]
    by_cases h2 : b < a
    · rw [if_pos h2]; omega
    · rw [if_neg h2]; omega
def rcmpW (a b : Nat) : Int := cmp3 (rankW (bitsW a)) (rankW (bitsW b))

theorem not_eq (b : Nat) (hb : b < 18446744073709551616) : bits BinOp.xor IntKind.u64 IntKind.u64.max (b : Int) = ((18446744073709551615 - b : Nat) : Int) := by
  have e0 : IntKind.u64.max = ((18446744073709551615 : Nat) : Int) := by decide
  rw [e0, bits_xor_u64_nat _ _ (by omega) hb]
  have h1 : (BitVec.allOnes 64 ^^^ BitVec.ofNat 64 b).toNat = 18446744073709551615 ^^^ b := by
    rw [BitVec.toNat_xor, BitVec.toNat_ofNat, Nat.mod_eq_of_lt (by omega)]; rfl
  have h2 : BitVec.allOnes 64 ^^^ BitVec.ofNat 64 b = ~~~(BitVec.ofNat 64 b) := BitVec.allOnes_xor
  rw [h2, BitVec.toNat_not, BitVec.toNat_ofNat, Nat.mod_eq_of_lt (by omega)] at h1
  omega

theorem rank_any (b : Nat) (hb : b < 18446744073709551616) (w : World) : Calls Tryd.prog 42 #[.int .u64 b] w fun e w' => e = .returned (.int .u64 (rankW b)) ∧ w = w' := by
  have HB := Lib.hid hb; clear hb
  unfold rankW
  by_cases h : 9223372036854775808 ≤ b
  · rw [if_pos h]
    have H := Lib.hid h; clear h
    go_enter Tryd.func42, Tryd.ntmps42
    go_wp2
    all_goals first
      | (exfalso; have h1 := H.out; have h2 := HB.out; simp only [beq_eq_false_iff_ne, ne_eq] at *; omega)
      | (go_ret; exact ⟨ret_int (not_eq b HB.out), rfl⟩)
  · rw [if_neg h]
    have H := Lib.hid h; clear h
    go_enter Tryd.func42, Tryd.ntmps42
    go_wp2
    all_goals first
      | (exfalso; have h1 := H.out; have h2 := HB.out; simp only [beq_iff_eq] at *; omega)
      | (go_ret; exact ⟨ret_int (by rw [IntKind.wrap_u64]; have h1 := H.out; omega), rfl⟩)

theorem bitsW_lt (b : Nat) (hb : b < 18446744073709551616) : bitsW b < 18446744073709551616 := by
  unfold bitsW quietW; split <;> omega

theorem rcompare_any (a b : Nat) (ha : a < 18446744073709551616) (hb : b < 18446744073709551616) (w : World) :
    Calls Tryd.prog 12 #[.float .f64 a, .float .f64 b] w fun e w' => e = .returned (.int .i64 (rcmpW a b)) ∧ w = w' := by
  have C1 := Lib.hid (fun w => rbits_any a ha w)
  have C2 := Lib.hid (fun w => rbits_any b hb w)
  have C3 := Lib.hid (fun w => rank_any (bitsW a) (bitsW_lt a ha) w)
  have C4 := Lib.hid (fun w => rank_any (bitsW b) (bitsW_lt b hb) w)
  unfold rcmpW
  clear ha hb
  generalize rankW (bitsW a) = p at *
  generalize rankW (bitsW b) = q at *
  generalize bitsW a = x at *
  generalize bitsW b = y at *
  unfold cmp3
  by_cases h1 : p < q
  · rw [if_pos h1]
    have h1' : (p : Int) < q := by omega
    clear h1
    go_enter Tryd.func12, Tryd.ntmps12
    go_wp2_with fail
    refine (C1.out _).mono ?_
    rintro e w' ⟨rfl, rfl⟩
    go_wp2_with fail
    refine (C3.out _).mono ?_
    rintro e w' ⟨rfl, rfl⟩
    go_wp2_with fail
    refine (C2.out _).mono ?_
    rintro e w' ⟨rfl, rfl⟩
    go_wp2_with fail
    refine (C4.out _).mono ?_
    rintro e w' ⟨rfl, rfl⟩
    go_wp2_with fail
    go_ret
    exact ⟨rfl, rfl⟩
  · rw [if_neg h1]
    by_cases h2 : q < p
    · rw [if_pos h2]
      have h2' : (q : Int) < p := by omega
      clear h1 h2
      go_enter Tryd.func12, Tryd.ntmps12
      go_wp2_with fail
      refine (C1.out _).mono ?_
      rintro e w' ⟨rfl, rfl⟩
      go_wp2_with fail
      refine (C3.out _).mono ?_
      rintro e w' ⟨rfl, rfl⟩
      go_wp2_with fail
      refine (C2.out _).mono ?_
      rintro e w' ⟨rfl, rfl⟩
      go_wp2_with fail
      refine (C4.out _).mono ?_
      rintro e w' ⟨rfl, rfl⟩
      go_wp2_with fail
      go_ret
      exact ⟨rfl, rfl⟩
    · rw [if_neg h2]
      obtain rfl : p = q := by omega
      clear h1 h2
      go_enter Tryd.func12, Tryd.ntmps12
      go_wp2_with fail
      refine (C1.out _).mono ?_
      rintro e w' ⟨rfl, rfl⟩
      go_wp2_with fail
      refine (C3.out _).mono ?_
      rintro e w' ⟨rfl, rfl⟩
      go_wp2_with fail
      refine (C2.out _).mono ?_
      rintro e w' ⟨rfl, rfl⟩
      go_wp2_with fail
      refine (C4.out _).mono ?_
      rintro e w' ⟨rfl, rfl⟩
      go_wp2_with fail
      go_ret
      exact ⟨rfl, rfl⟩

/-! ### The law NumGrows -/
theorem pos_iff (b : Nat) (hb : b < 18446744073709551616) : pos b = true ↔ 0 < b ∧ b ≤ 9218868437227405312 := by
  unfold pos Fm.neg Fm.isNan
  simp only [Bool.and_eq_true, Bool.not_eq_true', beq_eq_false_iff_ne, decide_eq_false_iff_not, decide_eq_true_eq]
  omega

theorem grows_key (n a b : Nat) (ha : a < 18446744073709551616) (hb : b < 18446744073709551616) (h1 : rcmpW a b ≤ 0) (h2 : Fm.isNan b = false) : scaleW n a ≤ scaleW n b := by
  unfold scaleW
  by_cases hn : n ≠ 0 ∧ pos a = true
  · obtain ⟨hn0, hp⟩ := hn
    have hpa := (pos_iff a ha).1 hp
    have e1 : bitsW a = a := by
      unfold bitsW Fm.isNan
      rw [if_neg]
      simp only [decide_eq_true_eq]; omega
    have e2 : bitsW b = b := by unfold bitsW; rw [h2]; rfl
    unfold Fm.isNan at h2
    simp only [decide_eq_false_iff_not] at h2
    unfold rcmpW at h1
    rw [e1, e2] at h1
    have ra : rankW a = a + 9223372036854775808 := by unfold rankW; rw [if_neg (by omega)]
    have hpb : 0 < b ∧ b ≤ 9218868437227405312 ∧ a ≤ b := by
      have hc := cmp3_cases (rankW a) (rankW b)
      by_cases hs : 9223372036854775808 ≤ b
      · have rb : rankW b = 18446744073709551615 - b := by unfold rankW; rw [if_pos hs]
        omega
      · have rb : rankW b = b + 9223372036854775808 := by unfold rankW; rw [if_neg hs]
        omega
    have hpb' := (pos_iff b hb).2 ⟨hpb.1, hpb.2.1⟩
    rw [if_pos ⟨hn0, hp⟩, if_pos ⟨hn0, hpb'⟩]
    exact Fm.scl_mono hn0 (by omega) (by omega)
  · rw [if_neg hn]; omega

theorem grows_one (k : Nat) (hk : k < 9007199254740992) : scaleW k 4607182418800017408 = k := by
  have hp : pos 4607182418800017408 = true := by decide
  unfold scaleW
  by_cases h0 : k = 0
  · rw [if_neg (by intro h; exact h.1 h0), h0]
  · rw [if_pos ⟨h0, hp⟩]
    have := Fm.scl_one k h0 (by omega)
    exact this

theorem rcmp_le_one (a b : Nat) : -1 ≤ rcmpW a b ∧ rcmpW a b ≤ 1 := by
  unfold rcmpW; have := cmp3_cases (rankW (bitsW a)) (rankW (bitsW b)); omega

set_option maxHeartbeats 1000000 in
theorem grows_walk (n x y : Nat) (hn : n < 18446744073709551616) (hx : x < 18446744073709551616) (hy : y < 18446744073709551616) (w : World) :
    Calls Tryd.prog 3 #[.int .u64 n, .int .u64 x, .int .u64 y] w fun e w' => e = .returned (.bool true) ∧ w = w' := by
  have hr := fun b w => run_frombits b w
  have hs := neq_self y
  have C1 := Lib.hid (fun w => rcompare_any x y hx hy w)
  have C2 := Lib.hid (fun w => scale_any n x hn w)
  have C3 := Lib.hid (fun w => scale_any n y hn w)
  have C4 := Lib.hid (fun w => scale_any (n % 9007199254740992) 4607182418800017408 (by omega) w)
  rw [grows_one _ (Nat.mod_lt _ (by omega))] at C4
  have K := Lib.hid (grows_key n x y hx hy)
  have hk : ((n : Int) % 9007199254740992) = ((n % 9007199254740992 : Nat) : Int) := by omega
  have HK := Lib.hid hk
  clear hn hx hy hk
  generalize scaleW n x = p at *
  generalize scaleW n y = q at *
  generalize rcmpW x y = c at *
  by_cases h1 : 0 < c
  · go_enter Tryd.func3, Tryd.ntmps3
    go_wp2_with fail
    refine (C1.out _).mono ?_
    rintro e w' ⟨rfl, rfl⟩
    go_wp2_with fail
    refine (alive_any _).mono ?_
    rintro e w' ⟨rfl, rfl⟩
    go_wp2_with fail
    go_ret
    exact ⟨rfl, rfl⟩
  · have h1' : c ≤ 0 := by omega
    cases hnan : Fm.isNan y with
    | true =>
      rw [hnan] at hs
      clear K hnan h1
      go_enter Tryd.func3, Tryd.ntmps3
      go_wp2_with fail
      refine (C1.out _).mono ?_
      rintro e w' ⟨rfl, rfl⟩
      go_wp2_with fail
      refine (alive_any _).mono ?_
      rintro e w' ⟨rfl, rfl⟩
      go_wp2_with fail
      go_ret
      exact ⟨rfl, rfl⟩
    | false =>
      rw [hnan] at hs
      have hle : (p : Int) ≤ q := by have := K.out h1' hnan; omega
      clear K hnan h1
      go_enter Tryd.func3, Tryd.ntmps3
      go_wp2_with fail
      refine (C1.out _).mono ?_
      rintro e w' ⟨rfl, rfl⟩
      go_wp2_with fail
      refine (alive_any _).mono ?_
      rintro e w' ⟨rfl, rfl⟩
      go_wp2_with fail
      refine (C2.out _).mono ?_
      rintro e w' ⟨rfl, rfl⟩
      go_wp2_with fail
      refine (C3.out _).mono ?_
      rintro e w' ⟨rfl, rfl⟩
      go_wp2_with fail
      rw [HK.out]
      refine (C4.out _).mono ?_
      rintro e w' ⟨rfl, rfl⟩
      go_wp2_with fail
      go_ret
      exact ⟨rfl, rfl⟩

set_option maxRecDepth 100000 in
theorem grows_open {H : Type} {enc : TypeId × Value → H} {base b1 : Nat} {spare : Nat → Bool} {held : Bool} {d0 d1 d2 : DataW H} {p0 p1 p2 : List MemPlace} (v0 v1 v2 : Value) (W : World)
    (o0 : Value.okWide Tryd.prog W .any base 22 v0) (k0 : DataW.Trod enc Tryd.prog W b1 spare held 22 v0 d0 p0)
    (o1 : Value.okWide Tryd.prog W .any base 22 v1) (k1 : DataW.Trod enc Tryd.prog W b1 spare held 22 v1 d1 p1)
    (o2 : Value.okWide Tryd.prog W .any base 22 v2) (k2 : DataW.Trod enc Tryd.prog W b1 spare held 22 v2 d2 p2) :
    Calls Tryd.prog 3 #[v0, v1, v2] W fun e w' => e = .returned (.bool true) ∧ Below W.heap.size W w' := by
  obtain ⟨n0, rfl, l0⟩ := u64_open v0 W o0 k0
  obtain ⟨n1, rfl, l1⟩ := u64_open v1 W o1 k1
  obtain ⟨n2, rfl, l2⟩ := u64_open v2 W o2 k2
  exact (grows_walk n0 n1 n2 l0 l1 l2 W).mono fun e w' h => ⟨h.1, h.2 ▸ Below.refl _ _⟩
end Nm
end Go.Proofs.YtbhfnaihfilahaaDoor
