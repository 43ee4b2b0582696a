/- A level with items: its marks. -/
import Derived.Test.YtkjlfoihojfnbaaDoorLnD
import Derived.Laws.BitsAllLaws
namespace Go.Proofs.YtkjlfoihojfnbaaDoor
open Go.RowKit
set_option linter.unusedVariables false
namespace Lo
open Lv (W64 slotOf slotOf_lt fresh ret_int slot_any)
open Ln (lvCells LV upd only_set only_refl only_drew)
variable {w : World} {b k : Nat} {f : Nat → Value}
theorem or_bit (m s : Nat) (hm : m < 18446744073709551616) (hs : s < 64) : bits BinOp.or IntKind.u64 (m : Int) ((2 ^ s : Nat) : Int) = ((m ||| 2 ^ s : Nat) : Int) := by
  have h2 : 2 ^ s < 18446744073709551616 := Nat.pow_lt_pow_right (by omega) hs (m := s) (n := 64)
  exact bits_or_u64_nat m (2 ^ s) hm h2
theorem clear_bit (m s : Nat) (hm : m < 18446744073709551616) (hs : s < 64) : bits BinOp.andNot IntKind.u64 (m : Int) ((2 ^ s : Nat) : Int) = ((m &&& (18446744073709551615 - 2 ^ s) : Nat) : Int) := by
  have h2 : 2 ^ s < 18446744073709551616 := Nat.pow_lt_pow_right (by omega) hs (m := s) (n := 64)
  exact u64_andNot_nat m (2 ^ s) hm h2
theorem wrap_bit (s : Nat) (hs : s < 64) : IntKind.u64.wrap ((2 : Int) ^ s) = ((2 ^ s : Nat) : Int) := by
  have h2 : 2 ^ s < 18446744073709551616 := Nat.pow_lt_pow_right (by omega) hs (m := s) (n := 64)
  have h3 : ((2 : Int) ^ s) = ((2 ^ s : Nat) : Int) := by simp
  rw [h3, IntKind.wrap_u64]
  generalize 2 ^ s = p at *
  omega
/-- The marks behind a change of one slot. -/
def marked (m s n : Nat) : Nat := if n = 0 then m &&& (18446744073709551615 - 2 ^ s) else m ||| 2 ^ s
theorem marked_lt (m s n : Nat) (hm : m < 18446744073709551616) (hs : s < 64) : marked m s n < 18446744073709551616 := by
  unfold marked
  split
  · exact Nat.lt_of_le_of_lt Nat.and_le_left hm
  · exact Nat.or_lt_two_pow (n := 64) hm (Nat.pow_lt_pow_right (by omega) hs)
theorem marked_bit (m s n i : Nat) (hs : s < 64) (hi : i < 64) : (marked m s n).testBit i = if i = s then decide (n ≠ 0) else m.testBit i := by
  unfold marked
  by_cases hn : n = 0
  · rw [if_pos hn, Nat.testBit_and]
    have e : (18446744073709551615 - 2 ^ s) = 2 ^ 64 - (2 ^ s + 1) := by omega
    rw [e, Nat.testBit_two_pow_sub_succ (Nat.pow_lt_pow_right (by omega) hs), Nat.testBit_two_pow]
    by_cases h : i = s
    · simp [h, hn]
    · rw [if_neg h]
      have h' : ¬ (s = i) := fun e => h e.symm
      simp [h', hi]
  · rw [if_neg hn, Nat.testBit_or, Nat.testBit_two_pow]
    by_cases h : i = s
    · simp [h, hn]
    · rw [if_neg h]
      have h' : ¬ (s = i) := fun e => h e.symm
      simp [h']
set_option maxRecDepth 100000 in
set_option maxHeartbeats 1000000 in
theorem mark_exact (s : Nat) (hs : s < 64) (m : Nat) (hm : m < 18446744073709551616) (A : Option Addr) (n cap : Nat) (hf : f s = .slice A n cap) (r : LV w b k f m) :
    Calls Tryd.prog 39 #[.pointer (some ⟨b, 0, none⟩), .int .i64 s] w fun e w' => (∃ v, e = .returned v) ∧ LV w' b k f (marked m s n : Nat) ∧ w.grownBy w' (some b) := by
  have c := r.slot s hs
  rw [hf] at c
  have d := r.marks
  have fz := r.free 65
  have hs0 : (0 : Int) ≤ s := by omega
  have hs1 : (s : Int) < 64 := by omega
  have R := Lib.hid r
  clear r
  by_cases hn : n = 0
  · have he : Hid ((marked m s n : Nat) = m &&& (18446744073709551615 - 2 ^ s)) := Lib.hid (by unfold marked; rw [if_pos hn])
    subst hn
    have HX := Lib.hid (clear_bit m s hm hs)
    have HW := Lib.hid (wrap_bit s hs)
    go_enter Tryd.func39, Tryd.ntmps39
    go_wp2_with fail
    go_region
    all_goals
      go_wp2_with fail
      refine bodyPost_end (results_none rfl _ _ _) rfl ?_
      rw [HW.out, HX.out, he.out]
      exact ⟨⟨_, rfl⟩, LV.keep (R.out.setMarks _) rfl, only_drew _ _ _ (only_set _ _ _ _ _ (only_refl _ _))⟩
  · have he : Hid ((marked m s n : Nat) = m ||| 2 ^ s) := Lib.hid (by unfold marked; rw [if_neg hn])
    have hp : (0 : Int) < n := by omega
    have HX := Lib.hid (or_bit m s hm hs)
    have HW := Lib.hid (wrap_bit s hs)
    go_enter Tryd.func39, Tryd.ntmps39
    go_wp2_with fail
    go_region
    all_goals
      go_wp2_with fail
      refine bodyPost_end (results_none rfl _ _ _) rfl ?_
      rw [HW.out, HX.out, he.out]
      exact ⟨⟨_, rfl⟩, LV.keep (R.out.setMarks _) rfl, only_drew _ _ _ (only_set _ _ _ _ _ (only_refl _ _))⟩
end Lo
end Go.Proofs.YtkjlfoihojfnbaaDoor
