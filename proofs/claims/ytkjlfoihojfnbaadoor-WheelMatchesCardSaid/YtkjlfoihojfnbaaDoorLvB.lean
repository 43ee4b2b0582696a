/- Contracts of the reference's Slot, Fits, Start, and of the example 'alive' of layer 15. -/
import Derived.Test.YtkjlfoihojfnbaaDoorLvA
namespace Go.Proofs.YtkjlfoihojfnbaaDoor
open Go.RowKit
namespace Lv

theorem width_q (x : Int) (h0 : 0 ≤ x) (h1 : x ≤ 4) (w : World) (n : Nat) :
    Calls Tryd.prog 58 #[.int .i64 x] (w.drewN n) fun e w'' => e = .returned (.int .u64 (W64 x.toNat)) ∧ ∃ m, w'' = w.drewN m := by
  obtain ⟨k, rfl⟩ := Int.eq_ofNat_of_zero_le h0
  exact Calls.quiet_of_same ((width_any k (by omega) _).mono fun _ _ h => ⟨h.1, h.2.symm⟩)

theorem ret_bool {a b : Bool} (h : a = b) : Ending.returned (.bool a) = .returned (.bool b) := by rw [h]

theorem divw (n k : Nat) (h : n < 18446744073709551616) : IntKind.u64.wrap ((n : Int) / ((W64 k : Nat) : Int)) = ((n / W64 k : Nat) : Int) := by
  have h1 : n / W64 k ≤ n := Nat.div_le_self _ _
  have e : (n : Int) / ((W64 k : Nat) : Int) = ((n / W64 k : Nat) : Int) := by simp
  have h0 : (0 : Int) ≤ ((n / W64 k : Nat) : Int) := Int.natCast_nonneg _
  rw [e, IntKind.wrap_u64, Int.emod_eq_of_lt h0 (by omega)]

theorem natw (n : Nat) (h : n < 18446744073709551616) : IntKind.u64.wrap (n : Int) = n := by
  rw [IntKind.wrap_u64]; omega

theorem rslot_any (k : Nat) (hk : k ≤ 3) (at' : Nat) (h : at' < 18446744073709551616) (w : World) :
    Calls Tryd.prog 43 #[.int .i64 k, .int .u64 at'] w fun e w' => e = .returned (.int .i64 (slotOf k at')) ∧ w = w' := by
  have hp := W64_pos k
  have hp' : (1 : Int) ≤ ((W64 k : Nat) : Int) := by omega
  go_enter Tryd.func43, Tryd.ntmps43
  go_wp2_with (go_at_call 58; refine (width_any k (by omega) _).mono ?_; rintro e w' ⟨rfl, rfl⟩)
  go_ret
  refine ⟨ret_int ?_, rfl⟩
  have e : ((at' / W64 k : Nat) : Int).tmod 64 = ((at' / W64 k % 64 : Nat) : Int) := by
    rw [Int.tmod_eq_emod_of_nonneg (Int.natCast_nonneg _)]; simp
  rw [divw _ _ h, e, IntWalk.wrap64_in _ (by omega)]
  rfl

theorem startOf_lt (k now slot : Nat) (hk : k ≤ 3) (hs : slot < 64) (h : now < 18446744073709551616) : startOf k now slot < 18446744073709551616 := by
  have h1 : now / W64 (k + 1) < 18446744073709551616 / W64 (k + 1) := by
    rcases (by omega : k = 0 ∨ k = 1 ∨ k = 2 ∨ k = 3) with rfl | rfl | rfl | rfl
    all_goals simp only [W64, Nat.reduceAdd, Nat.reducePow, Nat.reduceDiv]
    all_goals omega
  have h2 : slot * W64 k < W64 (k + 1) := by
    rw [W64_succ, Nat.mul_comm]
    exact Nat.mul_lt_mul_of_pos_left hs (W64_pos k)
  have h3 : (now / W64 (k + 1) + 1) * W64 (k + 1) ≤ 18446744073709551616 / W64 (k + 1) * W64 (k + 1) := Nat.mul_le_mul_right _ h1
  have h4 : 18446744073709551616 / W64 (k + 1) * W64 (k + 1) ≤ 18446744073709551616 := Nat.div_mul_le_self _ _
  have h5 : (now / W64 (k + 1) + 1) * W64 (k + 1) = now / W64 (k + 1) * W64 (k + 1) + W64 (k + 1) := by rw [Nat.add_mul, Nat.one_mul]
  unfold startOf
  omega

theorem cell_new (w : World) (k : Nat) : (w.alloc (.cells (fresh k) 74)).cell? ⟨w.heap.size, 0, none⟩ = some (.int .i64 k) := by
  rw [World.cell?_alloc_new]; simp [fresh]

theorem slot_130 (w : World) : Calls Tryd.prog 37 #[.pointer (some ⟨w.heap.size, 0, none⟩), .int .u64 130] (w.alloc (.cells (fresh 1) 74)) fun e w' => e = .returned (.int .i64 2) ∧ (w.alloc (.cells (fresh 1) 74)) = w' :=
  slot_any 1 (by omega) _ 130 (by omega) _ (cell_new w 1)

theorem start_130 (w : World) : Calls Tryd.prog 38 #[.pointer (some ⟨w.heap.size, 0, none⟩), .int .u64 130, .int .i64 2] (w.alloc (.cells (fresh 1) 74)) fun e w' => e = .returned (.int .u64 128) ∧ ∃ n, w' = (w.alloc (.cells (fresh 1) 74)).drewN n :=
  start_in 1 (by omega) _ 130 2 (by omega) (by omega) _ (cell_new w 1)

/-- What Start gives of any slot. -/
def startI (k now : Nat) (x : Int) : Nat := if 0 ≤ x ∧ x < 64 then startOf k now x.toNat else 0

theorem start_any (k : Nat) (hk : k ≤ 3) (b : Nat) (now : Nat) (x : Int) (h : now < 18446744073709551616) (w : World) (hc : w.cell? ⟨b, 0, none⟩ = some (.int .i64 k)) :
    Calls Tryd.prog 38 #[.pointer (some ⟨b, 0, none⟩), .int .u64 now, .int .i64 x] w fun e w' => e = .returned (.int .u64 (startI k now x)) ∧ ∃ n, w' = w.drewN n := by
  unfold startI
  by_cases hx : 0 ≤ x ∧ x < 64
  · obtain ⟨j, rfl⟩ := Int.eq_ofNat_of_zero_le hx.1
    rw [if_pos hx]
    exact start_in k hk b now j (by omega) h w hc
  · rw [if_neg hx]
    exact (start_out b now x (by omega) w).mono fun _ _ h => ⟨h.1, 0, h.2.symm⟩

/-- The example of the chapter. -/
theorem alive_any (w : World) : Calls Tryd.prog 10 #[] w fun e w' => e = .returned (.bool true) ∧ Below w.heap.size w w' := by
  have n1 := fun w => new_any 1 (by omega) w
  go_enter Tryd.func10, Tryd.ntmps10
  go_wp2_with fail
  refine (n1 _).mono ?_
  rintro e w' ⟨rfl, rfl⟩
  go_wp2_with fail
  refine (slot_130 w).mono ?_
  rintro e w' ⟨rfl, rfl⟩
  go_wp2_with fail
  refine (start_130 w).mono ?_
  rintro e w' ⟨rfl, n, rfl⟩
  go_wp2_with fail
  go_ret
  exact ⟨rfl, below_drewN ((Below.refl _ _).alloc (Nat.le_refl _) _) n⟩
end Lv
end Go.Proofs.YtkjlfoihojfnbaaDoor
