/- Contracts of package level's arithmetic (New, Slot, Fits, Start, turn) and of the reference's (Width, Slot, Fits, Start): what each call computes. -/
import Derived.Test.YtkjlfoihojfnbaaDoorRows
import Derived.WalkKit
import Derived.WalkLawsBesides
import Derived.WalkSpells
import Derived.RowKit3
import Derived.Outline
import Derived.Lib.Hide
import Derived.Laws.Bits64b
import Derived.Deep.QuietTactic
import Derived.BigQuiet
import Derived.Laws.Tables
namespace Go.Proofs.YtkjlfoihojfnbaaDoor
open Go.RowKit
namespace Lv

theorem ret_int {k : IntKind} {a b : Int} (h : a = b) : Ending.returned (.int k a) = .returned (.int k b) := by rw [h]

/-- 64^k. -/
def W64 (k : Nat) : Nat := 64 ^ k
theorem W64_succ (j : Nat) : W64 (j + 1) = W64 j * 64 := Nat.pow_succ ..
theorem W64_le (j : Nat) (hj : j ≤ 4) : W64 j ≤ 16777216 := Nat.pow_le_pow_right (by omega) hj
theorem W64_pos (j : Nat) : 0 < W64 j := Nat.pow_pos (by omega)

/-- 64^k. -/
theorem width_any (k : Nat) (hk : k ≤ 4) (w : World) :
    Calls Tryd.prog 58 #[.int .i64 k] w fun e w' => e = .returned (.int .u64 (W64 k)) ∧ w = w' := by
  go_enter Tryd.func58, Tryd.ntmps58
  go_wp2
  go_loop [3, 4] (fun x i => ∃ j z : Nat, j ≤ k ∧ i = .int .i64 j ∧ x = .int .u64 z ∧ z = W64 j) (fun _ i => k - (intOf i).toNat)
  case atStart => exact ⟨0, 1, Nat.zero_le _, rfl, rfl, rfl⟩
  case round =>
    obtain ⟨j, z, hj, rfl, rfl, hz⟩ := hrel
    have HZ := Lib.hid hz; clear hz
    by_cases hlt : j < k
    · have hb : (z : Int) * 64 ≤ 16777216 := by
        have h := W64_succ j; have h2 := W64_le (j + 1) (by omega); have := HZ.out; omega
      have hb0 : 0 ≤ (z : Int) * 64 := by omega
      go_wp2
      go_round
      case rel => exact ⟨j + 1, z * 64, by omega, by go_num, by go_num, by rw [W64_succ j, HZ.out]⟩
      case measure => simp [intOf]; omega
    · go_wp2
      go_ret
      have : j = k := by omega
      exact ⟨ret_int (by rw [HZ.out, this]), rfl⟩

/-- The block of a new level. -/
def fresh (k : Nat) : Array Value := #[.int .i64 k] ++ Array.replicate 64 (.slice none 0 0) ++ #[.int .u64 0]

set_option maxRecDepth 100000 in
theorem new_any (k : Nat) (hk : k ≤ 3) (w : World) :
    Calls Tryd.prog 9 #[.int .i64 k] w fun e w' => e = .returned (.pointer (some ⟨w.heap.size, 0, none⟩)) ∧ w.alloc (.cells (fresh k) 74) = w' := by
  have h0 : 0 ≤ (k : Int) := by omega
  have h1 : (k : Int) ≤ 3 := by omega
  have hb : Tryd.prog.built 74 [(0, .int .i64 k)] = some (fresh k) := by kernel_rfl
  go_enter Tryd.func9, Tryd.ntmps9
  go_wp2_with (refine wpList_build rfl 74 _ rfl ?_ ?_)
  go_ret
  exact ⟨rfl, rfl⟩

/-- x & 63. -/
theorem mask_eq (x : Int) (h0 : 0 ≤ x) (h1 : x < 18446744073709551616) : bits BinOp.and IntKind.u64 x 63 = x % 64 := by
  obtain ⟨n, rfl⟩ := Int.eq_ofNat_of_zero_le h0
  have h := bits_and_u64_nat n 63 (by omega) (by omega)
  have e : n &&& 63 = n % 64 := Nat.and_two_pow_sub_one_eq_mod n 6
  rw [e] at h
  exact h.trans (by omega)
theorem mask_bd (x : Int) (h0 : 0 ≤ x) (h1 : x < 18446744073709551616) : -9223372036854775808 ≤ bits BinOp.and IntKind.u64 x 63 ∧ bits BinOp.and IntKind.u64 x 63 ≤ 9223372036854775807 := by
  rw [mask_eq x h0 h1]; omega

theorem shr_eq (n k : Nat) : (n : Int) / 2 ^ (6 * k) = ((n / W64 k : Nat) : Int) := by
  have e : (2 : Int) ^ (6 * k) = ((W64 k : Nat) : Int) := by
    unfold W64
    rw [show (64 : Nat) ^ k = 2 ^ (6 * k) from by rw [Nat.pow_mul]]
    simp
  rw [e]; simp

/-- The slot of a tick; the number of its turn. (Plain defs: the walk must not carry casts into them.) -/
def slotOf (k at' : Nat) : Nat := at' / W64 k % 64
def turnOf (k at' : Nat) : Nat := at' / W64 (k + 1)
theorem slotOf_lt (k at' : Nat) : slotOf k at' < 64 := Nat.mod_lt _ (by omega)

theorem slot_any (k : Nat) (hk : k ≤ 3) (b : Nat) (at' : Nat) (h : at' < 18446744073709551616) (w : World) (hc : w.cell? ⟨b, 0, none⟩ = some (.int .i64 k)) :
    Calls Tryd.prog 37 #[.pointer (some ⟨b, 0, none⟩), .int .u64 at'] w fun e w' => e = .returned (.int .i64 (slotOf k at')) ∧ w = w' := by
  go_enter Tryd.func37, Tryd.ntmps37
  go_wp2
  go_ret
  have h1 := shr_eq at' k
  have h2 : at' / W64 k ≤ at' := Nat.div_le_self _ _
  refine ⟨ret_int ?_, rfl⟩
  have h0 : (0 : Int) ≤ ((at' / W64 k : Nat) : Int) := Int.natCast_nonneg _
  have h3 := mask_eq ((at' / W64 k : Nat) : Int) h0 (by omega)
  rw [h1, h3, IntWalk.wrap64_in (((at' / W64 k : Nat) : Int) % 64) (by omega)]
  unfold slotOf
  omega

theorem turn_any (k : Nat) (hk : k ≤ 3) (b : Nat) (at' : Nat) (w : World) (hc : w.cell? ⟨b, 0, none⟩ = some (.int .i64 k)) :
    Calls Tryd.prog 56 #[.pointer (some ⟨b, 0, none⟩), .int .u64 at'] w fun e w' => e = .returned (.int .u64 (turnOf k at')) ∧ w = w' := by
  go_enter Tryd.func56, Tryd.ntmps56
  go_wp2
  go_ret
  exact ⟨ret_int (shr_eq at' (k + 1)), rfl⟩

theorem fits_any (k : Nat) (hk : k ≤ 3) (b : Nat) (now at' : Nat) (w : World) (hc : w.cell? ⟨b, 0, none⟩ = some (.int .i64 k)) :
    Calls Tryd.prog 63 #[.pointer (some ⟨b, 0, none⟩), .int .u64 now, .int .u64 at'] w fun e w' => e = .returned (.bool ((turnOf k now : Int) == (turnOf k at' : Int))) ∧ w = w' := by
  go_enter Tryd.func63, Tryd.ntmps63
  go_wp2_with (go_at_call 56; refine (turn_any k hk b _ _ hc).mono ?_; rintro e w' ⟨rfl, rfl⟩)
  go_ret
  exact ⟨rfl, rfl⟩

/-- The tick at which a slot begins. -/
def startOf (k now slot : Nat) : Nat := now / W64 (k + 1) * W64 (k + 1) + slot * W64 k

theorem w0 : ((W64 0 : Nat) : Int) = 1 := rfl
theorem w1 : ((W64 1 : Nat) : Int) = 64 := rfl
theorem w2 : ((W64 2 : Nat) : Int) = 4096 := rfl
theorem w3 : ((W64 3 : Nat) : Int) = 262144 := rfl
theorem w4 : ((W64 4 : Nat) : Int) = 16777216 := rfl

theorem or_eq (a s i : Nat) (hs : s < 2 ^ i) (h : a * 2 ^ i < 18446744073709551616) (hi : 2 ^ i < 18446744073709551616) :
    bits BinOp.or IntKind.u64 ((a * 2 ^ i : Nat) : Int) (s : Int) = ((a * 2 ^ i + s : Nat) : Int) := by
  rw [bits_or_u64_nat _ _ h (by omega), Nat.mul_comm a, Nat.two_pow_add_eq_or_of_lt hs]

theorem join_eq (now slot k : Nat) (hk : k ≤ 3) (h : now < 18446744073709551616) (hs : slot < 64) :
    bits BinOp.or IntKind.u64 (IntKind.u64.wrap ((now : Int) / (W64 (k + 1) : Nat) * (W64 (k + 1) : Nat))) ((slot : Int) * (W64 k : Nat)) = startOf k now slot := by
  have e1 : W64 (k + 1) = 2 ^ (6 * (k + 1)) := by unfold W64; rw [Nat.pow_mul]
  have hd : now / W64 (k + 1) * W64 (k + 1) ≤ now := Nat.div_mul_le_self _ _
  have e2 : ((now : Int) / (W64 (k + 1) : Nat) * (W64 (k + 1) : Nat)) = ((now / W64 (k + 1) * W64 (k + 1) : Nat) : Int) := by simp
  have e3 : ((slot : Int) * (W64 k : Nat)) = ((slot * W64 k : Nat) : Int) := by simp
  have e4 : slot * W64 k < W64 (k + 1) := by
    rw [W64_succ, Nat.mul_comm]
    exact Nat.mul_lt_mul_of_pos_left hs (W64_pos k)
  have e5 := W64_le (k + 1) (by omega)
  rw [e2, e3, IntKind.wrap_u64, Int.emod_eq_of_lt (by omega) (by omega)]
  unfold startOf
  rw [e1] at *
  exact or_eq _ _ _ e4 (by omega) (by omega)

theorem start_in (k : Nat) (hk : k ≤ 3) (b : Nat) (now slot : Nat) (hs : slot < 64) (h : now < 18446744073709551616) (w : World) (hc : w.cell? ⟨b, 0, none⟩ = some (.int .i64 k)) :
    Calls Tryd.prog 38 #[.pointer (some ⟨b, 0, none⟩), .int .u64 now, .int .i64 slot] w fun e w' => e = .returned (.int .u64 (startOf k now slot)) ∧ ∃ n, w' = w.drewN n := by
  have s0 : 0 ≤ (slot : Int) := by omega
  have s1 : (slot : Int) < 64 := by omega
  rcases (by omega : k = 0 ∨ k = 1 ∨ k = 2 ∨ k = 3) with rfl | rfl | rfl | rfl
  all_goals
    go_enter Tryd.func38, Tryd.ntmps38
    go_wp2_with fail
    go_quiet ((go_at_call 56; exact Calls.quiet_of_same ((turn_any _ (by omega) b _ _ (by simpa using hc)).mono fun _ _ h => ⟨h.1, h.2.symm⟩)))
    go_wp2
    go_ret
    refine ⟨ret_int ?_, _, rfl⟩
  · have J := join_eq now slot 0 (by omega) h hs
    simp only [Nat.zero_add, w0, w1, Int.mul_one] at J ⊢
    exact J
  · have J := join_eq now slot 1 (by omega) h hs
    simp only [Nat.reduceAdd, w1, w2] at J ⊢
    exact J
  · have J := join_eq now slot 2 (by omega) h hs
    simp only [Nat.reduceAdd, w2, w3] at J ⊢
    exact J
  · have J := join_eq now slot 3 (by omega) h hs
    simp only [Nat.reduceAdd, w3, w4] at J ⊢
    exact J

theorem start_out (b : Nat) (now : Nat) (slot : Int) (hs : slot < 0 ∨ 64 ≤ slot) (w : World) :
    Calls Tryd.prog 38 #[.pointer (some ⟨b, 0, none⟩), .int .u64 now, .int .i64 slot] w fun e w' => e = .returned (.int .u64 0) ∧ w = w' := by
  by_cases h0 : slot < 0
  · go_enter Tryd.func38, Tryd.ntmps38
    go_wp2_with fail
    go_ret
    exact ⟨rfl, rfl⟩
  · have h1 : 64 ≤ slot := by omega
    go_enter Tryd.func38, Tryd.ntmps38
    go_wp2_with fail
    go_ret
    exact ⟨rfl, rfl⟩
end Lv
end Go.Proofs.YtkjlfoihojfnbaaDoor
