/- The reference's order of numbers (rank, Compare), and the law NumGrows. -/
import Derived.Test.YtpneejlilgepfaaNmD
namespace Go.Proofs.Ytpneejlilgepfaa
open Go.RowKit
namespace Nm

def rankW (b : Nat) : Nat := if 9223372036854775808 ≤ b then 18446744073709551615 - b else b + 9223372036854775808
def cmp3 (a b : Nat) : Int := if a < b then -1 else if b < a then 1 else 0
theorem cmp3_cases (a b : Nat) : cmp3 a b = -1 ∧ a < b ∨ cmp3 a b = 0 ∧ a = b ∨ cmp3 a b = 1 ∧ b < a := by
  unfold cmp3
  by_cases h : a < b
  · rw [if_pos h]; omega
  · rw [if_neg h]
    by_cases h2 : b < a
    · rw [if_pos h2]; omega
    · rw [if_neg h2]; omega
def rcmpW (a b : Nat) : Int := cmp3 (rankW (bitsW a)) (rankW (bitsW b))

theorem not_eq (b : Nat) (hb : b < 18446744073709551616) : bits BinOp.xor IntKind.u64 IntKind.u64.max (b : Int) = ((18446744073709551615 - b : Nat) : Int) := by
  have e0 : IntKind.u64.max = ((18446744073709551615 : Nat) : Int) := by decide
  rw [e0, bits_xor_u64_nat _ _ (by omega) hb]
  have h1 : (BitVec.allOnes 64 ^^^ BitVec.ofNat 64 b).toNat = 18446744073709551615 ^^^ b := by
    rw [BitVec.toNat_xor, BitVec.toNat_ofNat, Nat.mod_eq_of_lt (by omega)]; rfl
  have h2 : BitVec.allOnes 64 ^^^ BitVec.ofNat 64 b = ~~~(BitVec.ofNat 64 b) := BitVec.allOnes_xor
  rw [h2, BitVec.toNat_not, BitVec.toNat_ofNat, Nat.mod_eq_of_lt (by omega)] at h1
  omega

theorem bitsW_lt (b : Nat) (hb : b < 18446744073709551616) : bitsW b < 18446744073709551616 := by
  unfold bitsW quietW; split <;> omega

/-! ### The law NumGrows -/
theorem pos_iff (b : Nat) (hb : b < 18446744073709551616) : pos b = true ↔ 0 < b ∧ b ≤ 9218868437227405312 := by
  unfold pos Fm.neg Fm.isNan
  simp only [Bool.and_eq_true, Bool.not_eq_true', beq_eq_false_iff_ne, decide_eq_false_iff_not, decide_eq_true_eq]
  omega

theorem grows_key (n a b : Nat) (ha : a < 18446744073709551616) (hb : b < 18446744073709551616) (h1 : rcmpW a b ≤ 0) (h2 : Fm.isNan b = false) : scaleW n a ≤ scaleW n b := by
  unfold scaleW
  by_cases hn : n ≠ 0 ∧ pos a = true
  · obtain ⟨hn0, hp⟩ := hn
    have hpa := (pos_iff a ha).1 hp
    have e1 : bitsW a = a := by
      unfold bitsW Fm.isNan
      rw [if_neg]
      simp only [decide_eq_true_eq]; omega
    have e2 : bitsW b = b := by unfold bitsW; rw [h2]; rfl
    unfold Fm.isNan at h2
    simp only [decide_eq_false_iff_not] at h2
    unfold rcmpW at h1
    rw [e1, e2] at h1
    have ra : rankW a = a + 9223372036854775808 := by unfold rankW; rw [if_neg (by omega)]
    have hpb : 0 < b ∧ b ≤ 9218868437227405312 ∧ a ≤ b := by
      have hc := cmp3_cases (rankW a) (rankW b)
      by_cases hs : 9223372036854775808 ≤ b
      · have rb : rankW b = 18446744073709551615 - b := by unfold rankW; rw [if_pos hs]
        omega
      · have rb : rankW b = b + 9223372036854775808 := by unfold rankW; rw [if_neg hs]
        omega
    have hpb' := (pos_iff b hb).2 ⟨hpb.1, hpb.2.1⟩
    rw [if_pos ⟨hn0, hp⟩, if_pos ⟨hn0, hpb'⟩]
    exact Fm.scl_mono hn0 (by omega) (by omega)
  · rw [if_neg hn]; omega

theorem grows_one (k : Nat) (hk : k < 9007199254740992) : scaleW k 4607182418800017408 = k := by
  have hp : pos 4607182418800017408 = true := by decide
  unfold scaleW
  by_cases h0 : k = 0
  · rw [if_neg (by intro h; exact h.1 h0), h0]
  · rw [if_pos ⟨h0, hp⟩]
    have := Fm.scl_one k h0 (by omega)
    exact this

theorem rcmp_le_one (a b : Nat) : -1 ≤ rcmpW a b ∧ rcmpW a b ≤ 1 := by
  unfold rcmpW; have := cmp3_cases (rankW (bitsW a)) (rankW (bitsW b)); omega

end Nm
end Go.Proofs.Ytpneejlilgepfaa
