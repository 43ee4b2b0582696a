/- A level as a block: its number, its 64 lists and its marks; the nil level's answers. -/
import Derived.Test.YtkjlfoihojfnbaaDoorLvC
namespace Go.Proofs.YtkjlfoihojfnbaaDoor
open Go.RowKit
set_option linter.unusedVariables false
namespace Ln
open Lv (W64 slotOf fresh ret_int)

/-- The cells of a level. -/
def lvCells (k : Nat) (f : Nat → Value) (full : Int) : Array Value := (Value.int .i64 k :: ((List.range 64).map f ++ [.int .u64 full])).toArray
theorem fresh_eq (k : Nat) : fresh k = lvCells k (fun _ => .slice none 0 0) 0 := by
  unfold fresh lvCells
  apply Array.ext'
  rw [List.map_const', List.length_range]
  simp [Array.toList_append, -List.reduceReplicate]
def upd (f : Nat → Value) (s : Nat) (v : Value) : Nat → Value := fun i => if i = s then v else f i
theorem set_slot (k : Nat) (f : Nat → Value) (full : Int) (s : Nat) (h : s < 64) (v : Value) : (lvCells k f full).setIfInBounds (1 + s) v = lvCells k (upd f s v) full := by
  unfold lvCells
  rw [List.setIfInBounds_toArray, Nat.add_comm, List.set_cons_succ, List.set_append_left _ _ (by simpa using h)]
  congr 3
  apply List.ext_getElem (by simp)
  intro i h1 h2
  simp only [List.getElem_set, List.getElem_map, List.getElem_range, upd]
  by_cases hs : s = i
  · simp [hs]
  · rw [if_neg hs, if_neg (fun e => hs e.symm)]
theorem set_full (k : Nat) (f : Nat → Value) (full x : Int) : (lvCells k f full).setIfInBounds 65 (.int .u64 x) = lvCells k f x := by
  unfold lvCells
  rw [List.setIfInBounds_toArray]
  rfl

/-- A level at b. -/
def LV (w : World) (b k : Nat) (f : Nat → Value) (full : Int) : Prop := w.heap[b]? = some (.cells (lvCells k f full) 74 (0, 0))
variable {w : World} {b k : Nat} {full : Int} {f : Nat → Value}
theorem LV.lt (r : LV w b k f full) : b < w.heap.size := (Array.getElem?_eq_some_iff.1 r).1
theorem LV.n (r : LV w b k f full) : w.cell? ⟨b, 0, none⟩ = some (.int .i64 k) := by unfold LV at r; simp [World.cell?, r, lvCells]
theorem LV.slot (r : LV w b k f full) (s : Nat) (h : s < 64) : w.cell? ⟨b, 1 + s, none⟩ = some (f s) := by
  unfold LV at r
  simp only [World.cell?, r, lvCells, Nat.add_comm 1 s]
  simp [List.getElem?_append, h]
theorem LV.marks (r : LV w b k f full) : w.cell? ⟨b, 65, none⟩ = some (.int .u64 full) := by unfold LV at r; simp [World.cell?, r, lvCells]
theorem LV.free (r : LV w b k f full) (o : Nat) : w.frozen? ⟨b, o, none⟩ = false := by unfold LV at r; simp [World.frozen?, r]
theorem LV.setSlot (r : LV w b k f full) (s : Nat) (h : s < 64) (v : Value) : LV (w.setCell ⟨b, 1 + s, none⟩ v) b k (upd f s v) full := by
  have : (w.setCell ⟨b, 1 + s, none⟩ v).heap[b]? = some (.cells ((lvCells k f full).setIfInBounds (1 + s) v) 74 (0, 0)) := by unfold LV at r; simp [World.setCell, Array.getElem?_modify, r]
  rw [set_slot k f full s h v] at this
  exact this
theorem LV.setMarks (r : LV w b k f full) (x : Int) : LV (w.setCell ⟨b, 65, none⟩ (.int .u64 x)) b k f x := by
  have : (w.setCell ⟨b, 65, none⟩ (.int .u64 x)).heap[b]? = some (.cells ((lvCells k f full).setIfInBounds 65 (.int .u64 x)) 74 (0, 0)) := by unfold LV at r; simp [World.setCell, Array.getElem?_modify, r]
  rw [set_full] at this
  exact this
theorem LV.later {w' : World} {B : Nat} (r : LV w b k f full) (hb : Below B w w') (h : b < B) : LV w' b k f full := (hb.block b h).trans r
theorem LV.keep {w' : World} (r : LV w b k f full) (h : w'.heap[b]? = w.heap[b]?) : LV w' b k f full := h.trans r

theorem new_out (n : Int) (h0 : -9223372036854775808 ≤ n) (h1 : n ≤ 9223372036854775807) (h : n < 0 ∨ 3 < n) (w : World) : Calls Tryd.prog 9 #[.int .i64 n] w fun e w' => e = .returned (.pointer none) ∧ w = w' := by
  rcases h with h | h
  all_goals
    go_enter Tryd.func9, Tryd.ntmps9
    go_wp2_with fail
    go_ret
    exact ⟨rfl, rfl⟩
theorem put_nil (i a : Nat) (w : World) : Calls Tryd.prog 12 #[.pointer none, .agg #[.int .u64 i, .int .u64 a]] w fun e w' => e = .returned (.bool false) ∧ Below w.heap.size w w' := by
  go_enter Tryd.func12, Tryd.ntmps12
  go_wp2_with fail
  go_ret
  exact ⟨rfl, (Below.refl _ _).alloc (Nat.le_refl _) _⟩
theorem remove_nil (i a : Nat) (w : World) : Calls Tryd.prog 14 #[.pointer none, .agg #[.int .u64 i, .int .u64 a]] w fun e w' => e = .returned (.bool false) ∧ Below w.heap.size w w' := by
  go_enter Tryd.func14, Tryd.ntmps14
  go_wp2_with fail
  go_ret
  exact ⟨rfl, (Below.refl _ _).alloc (Nat.le_refl _) _⟩
theorem take_nil (s : Int) (w : World) : Calls Tryd.prog 19 #[.pointer none, .int .i64 s] w fun e w' => e = .returned (.slice none 0 0) ∧ w = w' := by
  go_enter Tryd.func19, Tryd.ntmps19
  go_wp2_with fail
  go_ret
  exact ⟨rfl, rfl⟩
theorem first_nil (s : Int) (w : World) : Calls Tryd.prog 20 #[.pointer none, .int .i64 s] w fun e w' => e = .returned (.int .i64 (-1)) ∧ w = w' := by
  go_enter Tryd.func20, Tryd.ntmps20
  go_wp2_with fail
  go_ret
  exact ⟨rfl, rfl⟩
theorem count_nil (w : World) : Calls Tryd.prog 22 #[.pointer none] w fun e w' => e = .returned (.int .i64 0) ∧ w = w' := by
  go_enter Tryd.func22, Tryd.ntmps22
  go_wp2_with fail
  go_ret
  exact ⟨rfl, rfl⟩
theorem slot_nil (a : Nat) (w : World) : Calls Tryd.prog 37 #[.pointer none, .int .u64 a] w fun e w' => e = .returned (.int .i64 0) ∧ w = w' := by
  go_enter Tryd.func37, Tryd.ntmps37
  go_wp2_with fail
  go_ret
  exact ⟨rfl, rfl⟩
theorem fits_nil (a c : Nat) (w : World) : Calls Tryd.prog 63 #[.pointer none, .int .u64 a, .int .u64 c] w fun e w' => e = .returned (.bool false) ∧ w = w' := by
  go_enter Tryd.func63, Tryd.ntmps63
  go_wp2_with fail
  go_ret
  exact ⟨rfl, rfl⟩
theorem start_nil (a : Nat) (s : Int) (w : World) : Calls Tryd.prog 38 #[.pointer none, .int .u64 a, .int .i64 s] w fun e w' => e = .returned (.int .u64 0) ∧ w = w' := by
  go_enter Tryd.func38, Tryd.ntmps38
  go_wp2_with fail
  go_ret
  exact ⟨rfl, rfl⟩

/-- What a call on a level at b leaves of the rest. -/
theorem only_set (w w' : World) (b o : Nat) (v : Value) (h : w.grownBy w' (some b)) : w.grownBy (w'.setCell ⟨b, o, none⟩ v) (some b) :=
  ⟨h.os, h.tape, h.output, by simpa [World.setCell] using h.size, fun j h1 h2 => (Below.heap_setCell w' ⟨b, o, none⟩ v j (by simp only []; intro e; exact h2 (by rw [e]))).trans (h.block j h1 h2)⟩
theorem only_refl (w : World) (b : Nat) : w.grownBy w (some b) := ⟨rfl, rfl, rfl, Nat.le_refl _, fun _ _ _ => rfl⟩
theorem only_drew (w w' : World) (b : Nat) (h : w.grownBy w' (some b)) : w.grownBy w'.drew (some b) := ⟨h.os, h.tape, h.output, h.size, h.block⟩

set_option maxRecDepth 100000 in
set_option maxHeartbeats 1000000 in
theorem mark_any (s : Nat) (hs : s < 64) (A : Option Addr) (n cap : Nat) (hf : f s = .slice A n cap) (r : LV w b k f full) :
    Calls Tryd.prog 39 #[.pointer (some ⟨b, 0, none⟩), .int .i64 s] w fun e w' => (∃ v, e = .returned v) ∧ (∃ x, LV w' b k f x) ∧ w.grownBy w' (some b) := by
  have c := r.slot s hs
  rw [hf] at c
  have d := r.marks
  have fz := r.free 65
  have hs0 : (0 : Int) ≤ s := by omega
  have hs1 : (s : Int) < 64 := by omega
  have R := Lib.hid r
  clear r
  by_cases hn : n = 0
  · subst hn
    go_enter Tryd.func39, Tryd.ntmps39
    go_wp2_with fail
    go_region
    all_goals
      go_wp2_with fail
      refine bodyPost_end (results_none rfl _ _ _) rfl ?_
      exact ⟨⟨_, rfl⟩, ⟨_, LV.keep (R.out.setMarks _) rfl⟩, only_drew _ _ _ (only_set _ _ _ _ _ (only_refl _ _))⟩
  · have hp : (0 : Int) < n := by omega
    go_enter Tryd.func39, Tryd.ntmps39
    go_wp2_with fail
    go_region
    all_goals
      go_wp2_with fail
      refine bodyPost_end (results_none rfl _ _ _) rfl ?_
      exact ⟨⟨_, rfl⟩, ⟨_, LV.keep (R.out.setMarks _) rfl⟩, only_drew _ _ _ (only_set _ _ _ _ _ (only_refl _ _))⟩
end Ln
end Go.Proofs.YtkjlfoihojfnbaaDoor
