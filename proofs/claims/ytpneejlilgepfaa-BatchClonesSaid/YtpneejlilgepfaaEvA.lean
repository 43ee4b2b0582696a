/- Contract of package event's table of kinds: with, of. -/
import Derived.Test.YtpneejlilgepfaaVtC
namespace Go.Proofs.Ytpneejlilgepfaa
open Go.RowKit
set_option linter.unusedVariables false
namespace Ev
open Nm (ret_int ret_bool)

/-- A row of the table: the name, and which fields a kind has. -/
def rowCellsOf (s : ByteArray) (l : List Nat) : Array Value := #[.string s, .bool (l.contains 0), .bool (l.contains 1), .bool (l.contains 2), .bool (l.contains 3), .bool (l.contains 4), .bool (l.contains 5)]

def RowAt (w : World) (g : Nat) (cs : Array Value) : Prop := w.heap[g]? = some (.cells cs 64 (0, 0))
theorem RowAt.cells {w : World} {g : Nat} {a b c d e f h : Value} (r : RowAt w g #[a, b, c, d, e, f, h]) :
    w.cell? ⟨g, 0, none⟩ = some a ∧ w.cell? ⟨g, 1, none⟩ = some b ∧ w.cell? ⟨g, 2, none⟩ = some c ∧ w.cell? ⟨g, 3, none⟩ = some d ∧ w.cell? ⟨g, 4, none⟩ = some e ∧ w.cell? ⟨g, 5, none⟩ = some f ∧ w.cell? ⟨g, 6, none⟩ = some h := by
  unfold RowAt at r; simp [World.cell?, r]
theorem RowAt.free {w : World} {g : Nat} {cs : Array Value} (r : RowAt w g cs) (o : Nat) : w.frozen? ⟨g, o, none⟩ = false := by unfold RowAt at r; simp [World.frozen?, r]
theorem RowAt.lt {w : World} {g : Nat} {cs : Array Value} (r : RowAt w g cs) : g < w.heap.size := (Array.getElem?_eq_some_iff.1 r).1
theorem RowAt.set {w : World} {g : Nat} {cs : Array Value} (r : RowAt w g cs) (o : Nat) (v : Value) : RowAt (w.setCell ⟨g, o, none⟩ v) g (cs.setIfInBounds o v) := by
  unfold RowAt at *; simp [World.setCell, Array.getElem?_modify, r]
theorem RowAt.far {w : World} {g b : Nat} {cs : Array Value} (r : RowAt w g cs) (h : g ≠ b) (o : Nat) (v : Value) : RowAt (w.setCell ⟨b, o, none⟩ v) g cs :=
  (Below.heap_setCell w ⟨b, o, none⟩ v g (by simpa using h)).trans r

theorem contains_take (l : List Nat) (j : Nat) (h : j < l.length) (x : Nat) : (l.take (j + 1)).contains x = ((l.take j).contains x || x == l[j]) := by
  rw [List.take_succ_eq_append_getElem h]
  generalize l.take j = a
  generalize l[j] = b
  rw [Bool.eq_iff_iff]
  simp

theorem row_step (s : ByteArray) (l : List Nat) (j : Nat) (h : j < l.length) (hf : l[j] < 6) : (rowCellsOf s (l.take j)).setIfInBounds (1 + l[j]) (.bool true) = rowCellsOf s (l.take (j + 1)) := by
  have e := contains_take l j h
  unfold rowCellsOf
  rw [e, e, e, e, e, e]
  rcases (by omega : l[j] = 0 ∨ l[j] = 1 ∨ l[j] = 2 ∨ l[j] = 3 ∨ l[j] = 4 ∨ l[j] = 5) with q | q | q | q | q | q
  all_goals
    rw [q]
    simp

set_option maxHeartbeats 1000000 in
theorem with_any (s : ByteArray) (l : List Nat) (hl : l.length ≤ 6) (hf : ∀ (i : Nat) (h : i < l.length), l[i] < 6) (b : Nat) (w : World) (hb : b < w.heap.size) (hc : ∀ (i : Nat) (h : i < l.length), w.cell? ⟨b, i, none⟩ = some (.int .i64 (l[i] : Int))) :
    Calls Try.prog 47 #[.string s, .slice (some ⟨b, 0, none⟩) l.length l.length] w fun e w' => e = .returned (.agg (rowCellsOf s l)) ∧ Below w.heap.size w w' := by
  have HF := Lib.hid hf; have HC := Lib.hid hc; clear hf hc
  go_enter Try.func47, Try.ntmps47
  go_wp2_with fail
  go_loopw [12] (fun i wr => ∃ (j : Nat), j ≤ l.length ∧ i = .int .i64 j ∧ RowAt wr (w.heap.size + 1) (rowCellsOf s (l.take j)) ∧ RowAt wr w.heap.size (rowCellsOf ⟨#[]⟩ []) ∧ Below w.heap.size w wr) (fun i _ => l.length - (intOf i).toNat)
  case atStart =>
    refine ⟨0, by omega, rfl, ?_, ?_, ((Below.refl _ _).alloc (Nat.le_refl _) _).alloc (by simp) _⟩
    · have := heap_alloc_new (w.alloc (.cells (rowCellsOf ⟨#[]⟩ []) 64)) (.cells (rowCellsOf s []) 64)
      rw [World.size_alloc] at this
      exact this
    · exact (Below.heap_alloc _ _ _ (by simp)).trans (heap_alloc_new w _)
  case round =>
    obtain ⟨j, hj, rfl, hr, hr0, hbl⟩ := hrel
    have hlt0 := hr.lt
    by_cases hlt : j < l.length
    · have hcj : wr.cell? ⟨b, j, none⟩ = some (.int .i64 (l[j] : Int)) := (hbl.cell (p := ⟨b, j, none⟩) hb).trans (HC.out j hlt)
      have hfj := HF.out j hlt
      have HS := Lib.hid (row_step s l j hlt hfj)
      have HR := Lib.hid hr; have HR0 := Lib.hid hr0; have HB := Lib.hid hbl
      have hfr := hr.free
      obtain ⟨x, hx⟩ : ∃ x, x = l[j] := ⟨_, rfl⟩
      rw [← hx] at hcj hfj HS
      clear hbl hr0
      unfold rowCellsOf at hr
      obtain ⟨c0, c1, c2, c3, c4, c5, c6⟩ := hr.cells
      clear hr hx
      have HFR := Lib.hid hfr; clear hfr
      have f1 := HFR.out 1; have f2 := HFR.out 2; have f3 := HFR.out 3; have f4 := HFR.out 4; have f5 := HFR.out 5; have f6 := HFR.out 6
      rcases (by omega : x = 0 ∨ x = 1 ∨ x = 2 ∨ x = 3 ∨ x = 4 ∨ x = 5) with rfl | rfl | rfl | rfl | rfl | rfl
      all_goals
        go_wp2_with fail
        go_roundw
        case rel => exact ⟨j + 1, by omega, by go_num, by rw [← HS.out]; exact HR.out.set _ _, HR0.out.far (by omega) _ _, HB.out.setCell (by simp) _⟩
        case measure => simp [intOf]; omega
    · have hj' : j = l.length := by omega
      subst hj'
      rw [List.take_length] at hr
      have HB := Lib.hid hbl; clear hbl
      have f0 := hr0.free 0; have f1 := hr0.free 1; have f2 := hr0.free 2; have f3 := hr0.free 3; have f4 := hr0.free 4; have f5 := hr0.free 5; have f6 := hr0.free 6
      have HX := Lib.hid (show rowCellsOf s l = rowCellsOf s l from rfl)
      unfold rowCellsOf at hr hr0
      obtain ⟨c0, c1, c2, c3, c4, c5, c6⟩ := hr.cells
      obtain ⟨d0, d1, d2, d3, d4, d5, d6⟩ := hr0.cells
      clear hr hr0
      go_wp2_with fail
      refine bodyPost_ret (v := .agg (rowCellsOf s l)) (by simp [results, Try.results47, go_sem, rowCellsOf, d0, d1, d2, d3, d4, d5, d6]) rfl ⟨rfl, ?_⟩
      exact ((((((HB.out.setCell (p := ⟨w.heap.size, 0, none⟩) (Nat.le_refl _) _).setCell (p := ⟨w.heap.size, 1, none⟩) (Nat.le_refl _) _).setCell (p := ⟨w.heap.size, 2, none⟩) (Nat.le_refl _) _).setCell (p := ⟨w.heap.size, 3, none⟩) (Nat.le_refl _) _).setCell (p := ⟨w.heap.size, 4, none⟩) (Nat.le_refl _) _).setCell (p := ⟨w.heap.size, 5, none⟩) (Nat.le_refl _) _).setCell (p := ⟨w.heap.size, 6, none⟩) (Nat.le_refl _) _

/-- The table. -/
def nameOf (k : Nat) : ByteArray := match k with
  | 1 => ⟨#[115, 116, 97, 114, 116, 101, 100]⟩
  | 2 => ⟨#[100, 105, 115, 112, 97, 116, 99, 104, 101, 100]⟩
  | 3 => ⟨#[102, 105, 110, 105, 115, 104, 101, 100]⟩
  | 4 => ⟨#[98, 114, 111, 107, 101, 110]⟩
  | 5 => ⟨#[102, 105, 114, 101, 100]⟩
  | 6 => ⟨#[115, 105, 103, 110, 97, 108]⟩
  | 7 => ⟨#[115, 99, 104, 101, 100, 117, 108, 101, 100]⟩
  | 8 => ⟨#[97, 114, 109, 101, 100]⟩
  | 9 => ⟨#[99, 111, 109, 112, 108, 101, 116, 101, 100]⟩
  | 10 => ⟨#[102, 97, 105, 108, 101, 100]⟩
  | 11 => ⟨#[112, 97, 110, 105, 99, 107, 101, 100]⟩
  | _ => ⟨#[]⟩
def fieldsOf (k : Nat) : List Nat := match k with
  | 1 => [3, 5]
  | 2 => [0, 1, 2]
  | 3 => [0, 1, 5]
  | 4 => [0, 1, 2, 4]
  | 5 => [0]
  | 6 => [3, 4, 5]
  | 7 => [0, 3, 5]
  | 8 => [0, 2]
  | 9 => [5]
  | 10 => [4]
  | 11 => [4]
  | _ => []

theorem with_lit (l : List Nat) (hl : l.length ≤ 6) (hf : ∀ (i : Nat) (h : i < l.length), l[i] < 6) (s : ByteArray) (w : World) (n m : Nat) (L R : Array Value) (hR : rowCellsOf s l = R) (hn : w.heap.size = n) (hm : l.length = m) (hL : L = (l.map fun x : Nat => Value.int .i64 (x : Int)).toArray) :
    Calls Try.prog 47 #[.string s, .slice (some ⟨n, 0, none⟩) m m] (w.alloc (.cells L 3)) fun e w' =>
      e = .returned (.agg R) ∧ Below n w w' ∧ n < w'.heap.size := by
  subst hn hm hL hR
  have := with_any s l hl hf w.heap.size (w.alloc (.cells ((l.map fun x : Nat => Value.int .i64 (x : Int)).toArray) 3)) (by simp) (fun i h => by
    rw [World.cell?_alloc_new]; simp [h])
  rw [World.size_alloc] at this
  exact this.mono fun e w' h => ⟨h.1, ((Below.refl _ _).alloc (Nat.le_refl _) _).trans (h.2.mono (by omega)), by have := h.2.size; simp at this; omega⟩
end Ev
end Go.Proofs.Ytpneejlilgepfaa
