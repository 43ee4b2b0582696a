/- Contract of package value's Valid of a tree, whole. -/
/- Contract of package event's table of kinds: with, of. -/
/- Contract of package event's of. -/
/- The program's order of numbers (num.Compare, num.Same) is the reference's; the law NumOrders. -/
import Derived.Test.YtcbddebmmaflgaaGreatDoorMhad
import Derived.Laws.EntriesVeiled
import Derived.Test.YtcbddebmmaflgaaGreatDoorMhab
import Derived.Deep.WholeRow
import Derived.Laws.Tables
namespace Go.Proofs.YtcbddebmmaflgaaGreatDoor
open Go.RowKit
set_option linter.unusedVariables false
namespace Vt
open Nm (bitsW ret_int ret_bool)

set_option maxRecDepth 100000 in
set_option maxHeartbeats 1000000 in
theorem vout (k : Int) (hk : k < 0 ∨ 4 < k) (n : Int) (f : Nat) (s : ByteArray) (m cap : Nat) (A : Option Addr) (x : Int) (g : Nat) (w : World) :
    Calls Tryz.prog 88 #[.agg #[.int .i64 k, .int .i64 n, .float .f64 f, .string s, .slice A m cap], .int .i64 x, .pointer (some ⟨g, 0, none⟩)] w fun e w' => e = .returned (.bool false) ∧ Below w.heap.size w w' := by
  have HAB := Lib.hid (box_below w k n f s A m cap)
  have HBX := Lib.hid (BoxAt.new w k n f s A m cap)
  have BL := blank_any k n f s A m cap
  have e0 : blankV k n f s A m cap = .agg #[.int .i64 k, .int .i64 n, .float .f64 f, .string s, .slice A m cap] := by unfold blankV; rw [if_neg (by omega), if_neg (by omega), if_neg (by omega), if_neg (by omega)]
  have e1 : kindV k = .nilIface := by unfold kindV; rw [if_neg (by omega), if_neg (by omega), if_neg (by omega), if_neg (by omega), if_neg (by omega)]
  rw [e0] at BL
  have BL := Lib.hid BL
  have O := of_any k
  rw [e1] at O
  have O := Lib.hid O
  clear e0 e1
  go_enter Tryz.func88, Tryz.ntmps88
  go_wp2_with fail
  refine (BL.out _).mono ?_
  rintro e w1 ⟨rfl, hb1⟩
  have hbox := HBX.out.later hb1 (by simp)
  obtain ⟨c0, c1, c2, c3, c4⟩ := hbox.cells
  have hlt := hbox.lt
  have HB1 := Lib.hid (HAB.out.trans (hb1.mono (by simp)))
  clear hbox hb1 HBX HAB BL
  go_wp2_with fail
  refine (O.out _).mono ?_
  rintro e w' ⟨rfl, rfl⟩
  go_wp2_with fail
  go_ret
  exact ⟨rfl, HB1.out.alloc (by omega) _⟩

theorem walk_any (t : VT) : ∀ (x : Int) (_ : 0 ≤ x) (_ : x ≤ 8) (g : Nat) (w : World) (lo hi : Nat) (v : Value) (_ : Rep w lo hi t v) (_ : hi ≤ w.heap.size) (_ : WalkAt w g),
    Calls Tryz.prog 88 #[v, .int .i64 x, .pointer (some ⟨g, 0, none⟩)] w fun e w' => e = .returned (.bool (t.valid x.toNat)) ∧ Below w.heap.size w w' := by
  induction t using VT.ind with
  | _ k n f s l ih =>
    intro x hx0 hx1 g w lo hi v hR hz hw
    obtain ⟨A, cap, rfl, ho, hl, hk⟩ := hR.head
    have hp := parts_iff k n f s l x hx0
    generalize (VT.mk k n f s l).valid x.toNat = R at hp ⊢
    by_cases hh : HeadV k n f s l.length
    · rcases (by omega : k = 0 ∨ k = 1 ∨ k = 2 ∨ k = 3 ∨ k = 4 ∨ (k < 0 ∨ 4 < k)) with rfl | rfl | rfl | rfl | rfl | h6
      · rcases headV_cases hh with ⟨q, -⟩ | ⟨q, -⟩ | ⟨q, -⟩ | ⟨q, -⟩ | ⟨e1, e2, e3, e4, rfl, q1, q2, q3⟩ <;> first | (exfalso; omega) | skip
        obtain rfl := List.eq_nil_of_length_eq_zero q3
        refine (vpass_0 f s q1 q2 A cap x g w).mono fun e w' h => ⟨?_, h.2⟩
        rw [h.1]
        exact parts_true hp ⟨by omega, by omega, .inr rfl, .inr q1, .inr q2, .inr rfl, by omega, rfl⟩
      · rcases headV_cases hh with ⟨-, q1, q2, q3⟩ | ⟨q, -⟩ | ⟨q, -⟩ | ⟨q, -⟩ | ⟨q, -⟩ <;> first | (exfalso; omega) | skip
        obtain rfl := List.eq_nil_of_length_eq_zero q3
        refine (vpass_1 n f s q1 q2 A cap x g w).mono fun e w' h => ⟨?_, h.2⟩
        rw [h.1]
        exact parts_true hp ⟨by omega, by omega, .inl rfl, .inr q1, .inr q2, .inr rfl, by omega, rfl⟩
      · rcases headV_cases hh with ⟨q, -⟩ | ⟨-, rfl, q2, q3⟩ | ⟨q, -⟩ | ⟨q, -⟩ | ⟨-, q, -⟩ <;> first | (exfalso; omega) | skip
        obtain rfl := List.eq_nil_of_length_eq_zero q3
        refine (vpass_2 f s q2 A cap x g w).mono fun e w' h => ⟨?_, h.2⟩
        rw [h.1]
        exact parts_true hp ⟨by omega, by omega, .inr rfl, .inl rfl, .inr q2, .inr rfl, by omega, rfl⟩
      · rcases headV_cases hh with ⟨q, -⟩ | ⟨q, -⟩ | ⟨-, rfl, q2, q3⟩ | ⟨q, -⟩ | ⟨-, -, q, -⟩ <;> first | (exfalso; omega) | skip
        obtain rfl := List.eq_nil_of_length_eq_zero q3
        refine (vpass_3 f s q2 A cap x g w).mono fun e w' h => ⟨?_, h.2⟩
        rw [h.1]
        exact parts_true hp ⟨by omega, by omega, .inr rfl, .inr q2, .inl rfl, .inr rfl, by omega, rfl⟩
      · rcases headV_cases hh with ⟨q, -⟩ | ⟨q, -⟩ | ⟨q, -⟩ | ⟨-, rfl, q2, q3⟩ | ⟨-, -, -, q, -⟩ <;> first | (exfalso; omega) | skip
        refine (vlist f s l A cap q2 q3 hl ho.m1 x hx0 hx1 g (fun i hi x a b w lo hi' v c d e => ih i hi x a b g w lo hi' v c d e) w lo hi hk hz hw).mono fun e w' h => ⟨?_, h.2⟩
        rw [h.1]
        congr 2
        rw [Bool.eq_iff_iff, hp]
        unfold Parts
        simp only [Bool.and_eq_true, decide_eq_true_iff]
        constructor
        · rintro ⟨h1, h2⟩
          exact ⟨by omega, by omega, by simp, .inr q2, .inr q3, by simp, fun _ => h1, h2⟩
        · rintro ⟨-, -, -, -, -, -, h1, h2⟩
          exact ⟨h1 (by simp), h2⟩
      · refine (vout k h6 n f s l.length cap A x g w).mono fun e w' h => ⟨?_, h.2⟩
        rw [h.1]
        exact parts_false hp fun q => by obtain ⟨a, b, -⟩ := q; omega
    · have ff : Calls Tryz.prog 88 #[.agg #[.int .i64 k, .int .i64 n, .float .f64 f, .string s, .slice A l.length cap], .int .i64 x, .pointer (some ⟨g, 0, none⟩)] w fun e w' => e = .returned (.bool false) ∧ Below w.heap.size w w' := by
        rcases (by omega : k = 0 ∨ k = 1 ∨ k = 2 ∨ k = 3 ∨ k = 4 ∨ (k < 0 ∨ 4 < k)) with rfl | rfl | rfl | rfl | rfl | h6
        · exact vfail_0 n f s l.length cap A hh x g w
        · exact vfail_1 n f s l.length cap A hh x g w
        · exact vfail_2 n f s l.length cap A hh x g w
        · exact vfail_3 n f s l.length cap A hh x g w
        · exact vfail_4 n f s l.length cap A hh x g w
        · exact vout k h6 n f s l.length cap A x g w
      refine ff.mono fun e w' h => ⟨?_, h.2⟩
      rw [h.1]
      exact parts_false hp fun q => hh (headV_of q)

set_option maxHeartbeats 1000000 in
theorem valid_any (t : VT) (w : World) (lo hi : Nat) (v : Value) (hR : Rep w lo hi t v) (hz : hi ≤ w.heap.size) :
    Calls Tryz.prog 50 #[v] w fun e w' => e = .returned (.bool (t.valid 8)) ∧ Below w.heap.size w w' := by
  have hv := hR
  obtain ⟨k, n, f, s, l, A, cap, rfl, rfl, ho, hl, hk⟩ := hR.open_
  generalize ht : VT.mk k n f s l = t at *
  have HV := Lib.hid hv
  have WA := Lib.hid (walk_any t 8 (by omega) (by omega))
  clear hv hR ho hk ht
  go_enter Tryz.func50, Tryz.ntmps50
  go_wp2_with fail
  refine (WA.out (w.heap.size + 1) _ lo hi _ ?h1 ?h2 ?h3).mono ?_
  case h1 => exact (HV.out.alloc hz _).alloc (by simp; omega) _
  case h2 => simp; omega
  case h3 => exact ⟨by simp [go_sem], by simp⟩
  rintro e w1 ⟨rfl, hb1⟩
  have HB2 := Lib.hid ((((Below.refl w.heap.size w).alloc (Nat.le_refl _) _).alloc (by simp) _).trans (hb1.mono (by simp; omega)))
  clear hb1
  go_wp2_with fail
  go_ret
  exact ⟨rfl, HB2.out⟩
end Vt
end Go.Proofs.YtcbddebmmaflgaaGreatDoor
namespace Go.Proofs.YtcbddebmmaflgaaGreatDoor
open Go.RowKit
set_option linter.unusedVariables false
namespace Ev
open Nm (ret_int ret_bool)

/-- A row of the table: the name, and which fields a kind has. -/
def rowCellsOf (s : ByteArray) (l : List Nat) : Array Value := #[.string s, .bool (l.contains 0), .bool (l.contains 1), .bool (l.contains 2), .bool (l.contains 3), .bool (l.contains 4), .bool (l.contains 5)]

def RowAt (w : World) (g : Nat) (cs : Array Value) : Prop := w.heap[g]? = some (.cells cs 69 (0, 0))
theorem RowAt.cells {w : World} {g : Nat} {a b c d e f h : Value} (r : RowAt w g #[a, b, c, d, e, f, h]) :
    w.cell? ⟨g, 0, none⟩ = some a ∧ w.cell? ⟨g, 1, none⟩ = some b ∧ w.cell? ⟨g, 2, none⟩ = some c ∧ w.cell? ⟨g, 3, none⟩ = some d ∧ w.cell? ⟨g, 4, none⟩ = some e ∧ w.cell? ⟨g, 5, none⟩ = some f ∧ w.cell? ⟨g, 6, none⟩ = some h := by
  unfold RowAt at r; simp [World.cell?, r]
theorem RowAt.free {w : World} {g : Nat} {cs : Array Value} (r : RowAt w g cs) (o : Nat) : w.frozen? ⟨g, o, none⟩ = false := by unfold RowAt at r; simp [World.frozen?, r]
theorem RowAt.lt {w : World} {g : Nat} {cs : Array Value} (r : RowAt w g cs) : g < w.heap.size := (Array.getElem?_eq_some_iff.1 r).1
theorem RowAt.set {w : World} {g : Nat} {cs : Array Value} (r : RowAt w g cs) (o : Nat) (v : Value) : RowAt (w.setCell ⟨g, o, none⟩ v) g (cs.setIfInBounds o v) := by
  unfold RowAt at *; simp [World.setCell, Array.getElem?_modify, r]
theorem RowAt.far {w : World} {g b : Nat} {cs : Array Value} (r : RowAt w g cs) (h : g ≠ b) (o : Nat) (v : Value) : RowAt (w.setCell ⟨b, o, none⟩ v) g cs :=
  (Below.heap_setCell w ⟨b, o, none⟩ v g (by simpa using h)).trans r

theorem contains_take (l : List Nat) (j : Nat) (h : j < l.length) (x : Nat) : (l.take (j + 1)).contains x = ((l.take j).contains x || x == l[j]) := by
  rw [List.take_succ_eq_append_getElem h]
  generalize l.take j = a
  generalize l[j] = b
  rw [Bool.eq_iff_iff]
  simp

theorem row_step (s : ByteArray) (l : List Nat) (j : Nat) (h : j < l.length) (hf : l[j] < 6) : (rowCellsOf s (l.take j)).setIfInBounds (1 + l[j]) (.bool true) = rowCellsOf s (l.take (j + 1)) := by
  have e := contains_take l j h
  unfold rowCellsOf
  rw [e, e, e, e, e, e]
  rcases (by omega : l[j] = 0 ∨ l[j] = 1 ∨ l[j] = 2 ∨ l[j] = 3 ∨ l[j] = 4 ∨ l[j] = 5) with q | q | q | q | q | q
  all_goals
    rw [q]
    simp

set_option maxHeartbeats 1000000 in
theorem with_any (s : ByteArray) (l : List Nat) (hl : l.length ≤ 6) (hf : ∀ (i : Nat) (h : i < l.length), l[i] < 6) (b : Nat) (w : World) (hb : b < w.heap.size) (hc : ∀ (i : Nat) (h : i < l.length), w.cell? ⟨b, i, none⟩ = some (.int .i64 (l[i] : Int))) :
    Calls Tryz.prog 80 #[.string s, .slice (some ⟨b, 0, none⟩) l.length l.length] w fun e w' => e = .returned (.agg (rowCellsOf s l)) ∧ Below w.heap.size w w' := by
  have HF := Lib.hid hf; have HC := Lib.hid hc; clear hf hc
  go_enter Tryz.func80, Tryz.ntmps80
  go_wp2_with fail
  go_loopw [12] (fun i wr => ∃ (j : Nat), j ≤ l.length ∧ i = .int .i64 j ∧ RowAt wr (w.heap.size + 1) (rowCellsOf s (l.take j)) ∧ RowAt wr w.heap.size (rowCellsOf ⟨#[]⟩ []) ∧ Below w.heap.size w wr) (fun i _ => l.length - (intOf i).toNat)
  case atStart =>
    refine ⟨0, by omega, rfl, ?_, ?_, ((Below.refl _ _).alloc (Nat.le_refl _) _).alloc (by simp) _⟩
    · have := heap_alloc_new (w.alloc (.cells (rowCellsOf ⟨#[]⟩ []) 69)) (.cells (rowCellsOf s []) 69)
      rw [World.size_alloc] at this
      exact this
    · exact (Below.heap_alloc _ _ _ (by simp)).trans (heap_alloc_new w _)
  case round =>
    obtain ⟨j, hj, rfl, hr, hr0, hbl⟩ := hrel
    have hlt0 := hr.lt
    by_cases hlt : j < l.length
    · have hcj : wr.cell? ⟨b, j, none⟩ = some (.int .i64 (l[j] : Int)) := (hbl.cell (p := ⟨b, j, none⟩) hb).trans (HC.out j hlt)
      have hfj := HF.out j hlt
      have HS := Lib.hid (row_step s l j hlt hfj)
      have HR := Lib.hid hr; have HR0 := Lib.hid hr0; have HB := Lib.hid hbl
      have hfr := hr.free
      obtain ⟨x, hx⟩ : ∃ x, x = l[j] := ⟨_, rfl⟩
      rw [← hx] at hcj hfj HS
      clear hbl hr0
      unfold rowCellsOf at hr
      obtain ⟨c0, c1, c2, c3, c4, c5, c6⟩ := hr.cells
      clear hr hx
      have HFR := Lib.hid hfr; clear hfr
      have f1 := HFR.out 1; have f2 := HFR.out 2; have f3 := HFR.out 3; have f4 := HFR.out 4; have f5 := HFR.out 5; have f6 := HFR.out 6
      rcases (by omega : x = 0 ∨ x = 1 ∨ x = 2 ∨ x = 3 ∨ x = 4 ∨ x = 5) with rfl | rfl | rfl | rfl | rfl | rfl
      all_goals
        go_wp2_with fail
        go_roundw
        case rel => exact ⟨j + 1, by omega, by go_num, by rw [← HS.out]; exact HR.out.set _ _, HR0.out.far (by omega) _ _, HB.out.setCell (by simp) _⟩
        case measure => simp [intOf]; omega
    · have hj' : j = l.length := by omega
      subst hj'
      rw [List.take_length] at hr
      have HB := Lib.hid hbl; clear hbl
      have f0 := hr0.free 0; have f1 := hr0.free 1; have f2 := hr0.free 2; have f3 := hr0.free 3; have f4 := hr0.free 4; have f5 := hr0.free 5; have f6 := hr0.free 6
      have HX := Lib.hid (show rowCellsOf s l = rowCellsOf s l from rfl)
      unfold rowCellsOf at hr hr0
      obtain ⟨c0, c1, c2, c3, c4, c5, c6⟩ := hr.cells
      obtain ⟨d0, d1, d2, d3, d4, d5, d6⟩ := hr0.cells
      clear hr hr0
      go_wp2_with fail
      refine bodyPost_ret (v := .agg (rowCellsOf s l)) (by simp [results, Tryz.results80, go_sem, rowCellsOf, d0, d1, d2, d3, d4, d5, d6]) rfl ⟨rfl, ?_⟩
      exact ((((((HB.out.setCell (p := ⟨w.heap.size, 0, none⟩) (Nat.le_refl _) _).setCell (p := ⟨w.heap.size, 1, none⟩) (Nat.le_refl _) _).setCell (p := ⟨w.heap.size, 2, none⟩) (Nat.le_refl _) _).setCell (p := ⟨w.heap.size, 3, none⟩) (Nat.le_refl _) _).setCell (p := ⟨w.heap.size, 4, none⟩) (Nat.le_refl _) _).setCell (p := ⟨w.heap.size, 5, none⟩) (Nat.le_refl _) _).setCell (p := ⟨w.heap.size, 6, none⟩) (Nat.le_refl _) _

/-- The table. -/
def nameOf (k : Nat) : ByteArray := match k with
  | 1 => ⟨#[115, 116, 97, 114, 116, 101, 100]⟩
  | 2 => ⟨#[100, 105, 115, 112, 97, 116, 99, 104, 101, 100]⟩
  | 3 => ⟨#[102, 105, 110, 105, 115, 104, 101, 100]⟩
  | 4 => ⟨#[98, 114, 111, 107, 101, 110]⟩
  | 5 => ⟨#[102, 105, 114, 101, 100]⟩
  | 6 => ⟨#[115, 105, 103, 110, 97, 108]⟩
  | 7 => ⟨#[115, 99, 104, 101, 100, 117, 108, 101, 100]⟩
  | 8 => ⟨#[97, 114, 109, 101, 100]⟩
  | 9 => ⟨#[99, 111, 109, 112, 108, 101, 116, 101, 100]⟩
  | 10 => ⟨#[102, 97, 105, 108, 101, 100]⟩
  | 11 => ⟨#[112, 97, 110, 105, 99, 107, 101, 100]⟩
  | _ => ⟨#[]⟩
def fieldsOf (k : Nat) : List Nat := match k with
  | 1 => [3, 5]
  | 2 => [0, 1, 2]
  | 3 => [0, 1, 5]
  | 4 => [0, 1, 2, 4]
  | 5 => [0]
  | 6 => [3, 4, 5]
  | 7 => [0, 3, 5]
  | 8 => [0, 2]
  | 9 => [5]
  | 10 => [4]
  | 11 => [4]
  | _ => []

theorem with_lit (l : List Nat) (hl : l.length ≤ 6) (hf : ∀ (i : Nat) (h : i < l.length), l[i] < 6) (s : ByteArray) (w : World) (n m : Nat) (L R : Array Value) (hR : rowCellsOf s l = R) (hn : w.heap.size = n) (hm : l.length = m) (hL : L = (l.map fun x : Nat => Value.int .i64 (x : Int)).toArray) :
    Calls Tryz.prog 80 #[.string s, .slice (some ⟨n, 0, none⟩) m m] (w.alloc (.cells L 3)) fun e w' =>
      e = .returned (.agg R) ∧ Below n w w' ∧ n < w'.heap.size := by
  subst hn hm hL hR
  have := with_any s l hl hf w.heap.size (w.alloc (.cells ((l.map fun x : Nat => Value.int .i64 (x : Int)).toArray) 3)) (by simp) (fun i h => by
    rw [World.cell?_alloc_new]; simp [h])
  rw [World.size_alloc] at this
  exact this.mono fun e w' h => ⟨h.1, ((Below.refl _ _).alloc (Nat.le_refl _) _).trans (h.2.mono (by omega)), by have := h.2.size; simp at this; omega⟩
end Ev
end Go.Proofs.YtcbddebmmaflgaaGreatDoor
namespace Go.Proofs.YtcbddebmmaflgaaGreatDoor
open Go.RowKit
set_option linter.unusedVariables false
namespace Ev
open Nm (ret_int ret_bool)

/-- The table's cells. -/
def tbl : Array Value := #[.string ⟨#[]⟩, .bool false, .bool false, .bool false, .bool false, .bool false, .bool false, .string ⟨#[115, 116, 97, 114, 116, 101, 100]⟩, .bool false, .bool false, .bool false, .bool true, .bool false, .bool true, .string ⟨#[100, 105, 115, 112, 97, 116, 99, 104, 101, 100]⟩, .bool true, .bool true, .bool true, .bool false, .bool false, .bool false, .string ⟨#[102, 105, 110, 105, 115, 104, 101, 100]⟩, .bool true, .bool true, .bool false, .bool false, .bool false, .bool true, .string ⟨#[98, 114, 111, 107, 101, 110]⟩, .bool true, .bool true, .bool true, .bool false, .bool true, .bool false, .string ⟨#[102, 105, 114, 101, 100]⟩, .bool true, .bool false, .bool false, .bool false, .bool false, .bool false, .string ⟨#[115, 105, 103, 110, 97, 108]⟩, .bool false, .bool false, .bool false, .bool true, .bool true, .bool true, .string ⟨#[115, 99, 104, 101, 100, 117, 108, 101, 100]⟩, .bool true, .bool false, .bool false, .bool true, .bool false, .bool true, .string ⟨#[97, 114, 109, 101, 100]⟩, .bool true, .bool false, .bool true, .bool false, .bool false, .bool false, .string ⟨#[99, 111, 109, 112, 108, 101, 116, 101, 100]⟩, .bool false, .bool false, .bool false, .bool false, .bool false, .bool true, .string ⟨#[102, 97, 105, 108, 101, 100]⟩, .bool false, .bool false, .bool false, .bool false, .bool true, .bool false, .string ⟨#[112, 97, 110, 105, 99, 107, 101, 100]⟩, .bool false, .bool false, .bool false, .bool false, .bool true, .bool false]
def ztbl : Array Value := #[.string ⟨#[]⟩, .bool false, .bool false, .bool false, .bool false, .bool false, .bool false, .string ⟨#[]⟩, .bool false, .bool false, .bool false, .bool false, .bool false, .bool false, .string ⟨#[]⟩, .bool false, .bool false, .bool false, .bool false, .bool false, .bool false, .string ⟨#[]⟩, .bool false, .bool false, .bool false, .bool false, .bool false, .bool false, .string ⟨#[]⟩, .bool false, .bool false, .bool false, .bool false, .bool false, .bool false, .string ⟨#[]⟩, .bool false, .bool false, .bool false, .bool false, .bool false, .bool false, .string ⟨#[]⟩, .bool false, .bool false, .bool false, .bool false, .bool false, .bool false, .string ⟨#[]⟩, .bool false, .bool false, .bool false, .bool false, .bool false, .bool false, .string ⟨#[]⟩, .bool false, .bool false, .bool false, .bool false, .bool false, .bool false, .string ⟨#[]⟩, .bool false, .bool false, .bool false, .bool false, .bool false, .bool false, .string ⟨#[]⟩, .bool false, .bool false, .bool false, .bool false, .bool false, .bool false, .string ⟨#[]⟩, .bool false, .bool false, .bool false, .bool false, .bool false, .bool false]

theorem tbl_built : Tryz.prog.built 107 [(1, .agg #[.string ⟨#[115, 116, 97, 114, 116, 101, 100]⟩, .bool false, .bool false, .bool false, .bool true, .bool false, .bool true]), (2, .agg #[.string ⟨#[100, 105, 115, 112, 97, 116, 99, 104, 101, 100]⟩, .bool true, .bool true, .bool true, .bool false, .bool false, .bool false]), (3, .agg #[.string ⟨#[102, 105, 110, 105, 115, 104, 101, 100]⟩, .bool true, .bool true, .bool false, .bool false, .bool false, .bool true]), (4, .agg #[.string ⟨#[98, 114, 111, 107, 101, 110]⟩, .bool true, .bool true, .bool true, .bool false, .bool true, .bool false]), (5, .agg #[.string ⟨#[102, 105, 114, 101, 100]⟩, .bool true, .bool false, .bool false, .bool false, .bool false, .bool false]), (6, .agg #[.string ⟨#[115, 105, 103, 110, 97, 108]⟩, .bool false, .bool false, .bool false, .bool true, .bool true, .bool true]), (7, .agg #[.string ⟨#[115, 99, 104, 101, 100, 117, 108, 101, 100]⟩, .bool true, .bool false, .bool false, .bool true, .bool false, .bool true]), (8, .agg #[.string ⟨#[97, 114, 109, 101, 100]⟩, .bool true, .bool false, .bool true, .bool false, .bool false, .bool false]), (9, .agg #[.string ⟨#[99, 111, 109, 112, 108, 101, 116, 101, 100]⟩, .bool false, .bool false, .bool false, .bool false, .bool false, .bool true]), (10, .agg #[.string ⟨#[102, 97, 105, 108, 101, 100]⟩, .bool false, .bool false, .bool false, .bool false, .bool true, .bool false]), (11, .agg #[.string ⟨#[112, 97, 110, 105, 99, 107, 101, 100]⟩, .bool false, .bool false, .bool false, .bool false, .bool true, .bool false])] = some tbl := by kernel_rfl
theorem tbl_zero : (Tryz.prog.info? 107).map (fun i => (i.zero, i.size)) = some (some (.agg ztbl), 84) := by kernel_rfl

theorem tbl_at (k : Nat) (h1 : 1 ≤ k) (h2 : k ≤ 11) : tbl[k * 7]? = some (.string (nameOf k)) ∧ tbl[k * 7 + 1]? = some (.bool ((fieldsOf k).contains 0)) ∧ tbl[k * 7 + 2]? = some (.bool ((fieldsOf k).contains 1)) ∧ tbl[k * 7 + 3]? = some (.bool ((fieldsOf k).contains 2)) ∧
    tbl[k * 7 + 4]? = some (.bool ((fieldsOf k).contains 3)) ∧ tbl[k * 7 + 5]? = some (.bool ((fieldsOf k).contains 4)) ∧ tbl[k * 7 + 6]? = some (.bool ((fieldsOf k).contains 5)) := by
  rcases (by omega : k = 1 ∨ k = 2 ∨ k = 3 ∨ k = 4 ∨ k = 5 ∨ k = 6 ∨ k = 7 ∨ k = 8 ∨ k = 9 ∨ k = 10 ∨ k = 11) with rfl | rfl | rfl | rfl | rfl | rfl | rfl | rfl | rfl | rfl | rfl
  all_goals exact ⟨rfl, rfl, rfl, rfl, rfl, rfl, rfl⟩

theorem seven_size (w' : World) (B : Nat) (a b c d e f g : Value) : (((((((w'.setCell ⟨B, 0, none⟩ a).setCell ⟨B, 1, none⟩ b).setCell ⟨B, 2, none⟩ c).setCell ⟨B, 3, none⟩ d).setCell ⟨B, 4, none⟩ e).setCell ⟨B, 5, none⟩ f).setCell ⟨B, 6, none⟩ g).heap.size = w'.heap.size := by simp [World.setCell]
theorem seven_below {B : Nat} {w w' : World} (h : Below B w w') (a b c d e f g : Value) :
    Below B w (((((((w'.setCell ⟨B, 0, none⟩ a).setCell ⟨B, 1, none⟩ b).setCell ⟨B, 2, none⟩ c).setCell ⟨B, 3, none⟩ d).setCell ⟨B, 4, none⟩ e).setCell ⟨B, 5, none⟩ f).setCell ⟨B, 6, none⟩ g) :=
  ((((((h.setCell (p := ⟨B, 0, none⟩) (Nat.le_refl _) _).setCell (p := ⟨B, 1, none⟩) (Nat.le_refl _) _).setCell (p := ⟨B, 2, none⟩) (Nat.le_refl _) _).setCell (p := ⟨B, 3, none⟩) (Nat.le_refl _) _).setCell (p := ⟨B, 4, none⟩) (Nat.le_refl _) _).setCell (p := ⟨B, 5, none⟩) (Nat.le_refl _) _).setCell (p := ⟨B, 6, none⟩) (Nat.le_refl _) _

set_option maxRecDepth 100000 in
set_option maxHeartbeats 1000000 in
theorem of_in' (k : Nat) (h1 : 1 ≤ k) (h2 : k ≤ 11) (nm : ByteArray) (b0 b1 b2 b3 b4 b5 : Bool) (t0 : tbl[k * 7]? = some (.string nm)) (t1 : tbl[k * 7 + 1]? = some (.bool b0)) (t2 : tbl[k * 7 + 2]? = some (.bool b1)) (t3 : tbl[k * 7 + 3]? = some (.bool b2)) (t4 : tbl[k * 7 + 4]? = some (.bool b3)) (t5 : tbl[k * 7 + 5]? = some (.bool b4)) (t6 : tbl[k * 7 + 6]? = some (.bool b5)) (w : World) :
    Calls Tryz.prog 41 #[.int .i64 k] w fun e w' => e = .returned (.tuple #[.agg #[.string nm, .bool b0, .bool b1, .bool b2, .bool b3, .bool b4, .bool b5], .bool true]) ∧ Below w.heap.size w w' := by
  have T0 := Lib.hid t0; have T1 := Lib.hid t1; have T2 := Lib.hid t2; have T3 := Lib.hid t3; have T4 := Lib.hid t4; have T5 := Lib.hid t5; have T6 := Lib.hid t6
  clear t0 t1 t2 t3 t4 t5 t6
  have HR0 : Hid (RowAt (w.alloc (.cells (rowCellsOf ⟨#[]⟩ []) 69)) w.heap.size (rowCellsOf ⟨#[]⟩ [])) := Lib.hid (heap_alloc_new w _)
  have HB := Lib.hid ((Below.refl w.heap.size w).alloc (Nat.le_refl _) (.cells #[.string ⟨#[]⟩, .bool false, .bool false, .bool false, .bool false, .bool false, .bool false] 69))
  have W1 := Lib.hid (with_lit [3, 5] (by decide) (by decide))
  have W2 := Lib.hid (with_lit [0, 1, 2] (by decide) (by decide))
  have W3 := Lib.hid (with_lit [0, 1, 5] (by decide) (by decide))
  have W4 := Lib.hid (with_lit [0, 1, 2, 4] (by decide) (by decide))
  have W5 := Lib.hid (with_lit [0] (by decide) (by decide))
  have W6 := Lib.hid (with_lit [3, 4, 5] (by decide) (by decide))
  have W7 := Lib.hid (with_lit [0, 3, 5] (by decide) (by decide))
  have W8 := Lib.hid (with_lit [0, 2] (by decide) (by decide))
  have W9 := Lib.hid (with_lit [5] (by decide) (by decide))
  have W10 := Lib.hid (with_lit [4] (by decide) (by decide))
  have W11 := Lib.hid (with_lit [4] (by decide) (by decide))
  have hbt := tbl_built
  obtain ⟨hzt, hsz⟩ := zero_of_info tbl_zero
  have HSZ := Lib.hid hsz; clear hsz
  go_enter Tryz.func41, Tryz.ntmps41
  go_wp2_with fail
  refine (W1.out _ _ _ _ _ #[.string ⟨#[115, 116, 97, 114, 116, 101, 100]⟩, .bool false, .bool false, .bool false, .bool true, .bool false, .bool true] rfl (by simp) rfl rfl).mono ?_
  rintro e w1 ⟨rfl, hb, hz1⟩
  have B1 := Lib.hid (HB.out.trans (hb.mono (by omega)))
  have hy1 : w.heap.size < w1.heap.size := by omega
  have R1 := Lib.hid (show RowAt w1 w.heap.size _ from (hb.block w.heap.size (by omega)).trans HR0.out)
  clear hb HB HR0
  go_wp2_with fail
  refine (W2.out _ _ _ _ _ #[.string ⟨#[100, 105, 115, 112, 97, 116, 99, 104, 101, 100]⟩, .bool true, .bool true, .bool true, .bool false, .bool false, .bool false] rfl (by rfl) rfl rfl).mono ?_
  rintro e w2 ⟨rfl, hb, hz2⟩
  have B2 := Lib.hid (B1.out.trans (hb.mono (by omega)))
  have hy2 : w.heap.size < w2.heap.size := by omega
  have R2 := Lib.hid (show RowAt w2 w.heap.size _ from (hb.block w.heap.size (by omega)).trans R1.out)
  clear hb B1 R1 W2
  go_wp2_with fail
  refine (W3.out _ _ _ _ _ #[.string ⟨#[102, 105, 110, 105, 115, 104, 101, 100]⟩, .bool true, .bool true, .bool false, .bool false, .bool false, .bool true] rfl (by rfl) rfl rfl).mono ?_
  rintro e w3 ⟨rfl, hb, hz3⟩
  have B3 := Lib.hid (B2.out.trans (hb.mono (by omega)))
  have hy3 : w.heap.size < w3.heap.size := by omega
  have R3 := Lib.hid (show RowAt w3 w.heap.size _ from (hb.block w.heap.size (by omega)).trans R2.out)
  clear hb B2 R2 W3
  go_wp2_with fail
  refine (W4.out _ _ _ _ _ #[.string ⟨#[98, 114, 111, 107, 101, 110]⟩, .bool true, .bool true, .bool true, .bool false, .bool true, .bool false] rfl (by rfl) rfl rfl).mono ?_
  rintro e w4 ⟨rfl, hb, hz4⟩
  have B4 := Lib.hid (B3.out.trans (hb.mono (by omega)))
  have hy4 : w.heap.size < w4.heap.size := by omega
  have R4 := Lib.hid (show RowAt w4 w.heap.size _ from (hb.block w.heap.size (by omega)).trans R3.out)
  clear hb B3 R3 W4
  go_wp2_with fail
  refine (W5.out _ _ _ _ _ #[.string ⟨#[102, 105, 114, 101, 100]⟩, .bool true, .bool false, .bool false, .bool false, .bool false, .bool false] rfl (by rfl) rfl rfl).mono ?_
  rintro e w5 ⟨rfl, hb, hz5⟩
  have B5 := Lib.hid (B4.out.trans (hb.mono (by omega)))
  have hy5 : w.heap.size < w5.heap.size := by omega
  have R5 := Lib.hid (show RowAt w5 w.heap.size _ from (hb.block w.heap.size (by omega)).trans R4.out)
  clear hb B4 R4 W5
  go_wp2_with fail
  refine (W6.out _ _ _ _ _ #[.string ⟨#[115, 105, 103, 110, 97, 108]⟩, .bool false, .bool false, .bool false, .bool true, .bool true, .bool true] rfl (by rfl) rfl rfl).mono ?_
  rintro e w6 ⟨rfl, hb, hz6⟩
  have B6 := Lib.hid (B5.out.trans (hb.mono (by omega)))
  have hy6 : w.heap.size < w6.heap.size := by omega
  have R6 := Lib.hid (show RowAt w6 w.heap.size _ from (hb.block w.heap.size (by omega)).trans R5.out)
  clear hb B5 R5 W6
  go_wp2_with fail
  refine (W7.out _ _ _ _ _ #[.string ⟨#[115, 99, 104, 101, 100, 117, 108, 101, 100]⟩, .bool true, .bool false, .bool false, .bool true, .bool false, .bool true] rfl (by rfl) rfl rfl).mono ?_
  rintro e w7 ⟨rfl, hb, hz7⟩
  have B7 := Lib.hid (B6.out.trans (hb.mono (by omega)))
  have hy7 : w.heap.size < w7.heap.size := by omega
  have R7 := Lib.hid (show RowAt w7 w.heap.size _ from (hb.block w.heap.size (by omega)).trans R6.out)
  clear hb B6 R6 W7
  go_wp2_with fail
  refine (W8.out _ _ _ _ _ #[.string ⟨#[97, 114, 109, 101, 100]⟩, .bool true, .bool false, .bool true, .bool false, .bool false, .bool false] rfl (by rfl) rfl rfl).mono ?_
  rintro e w8 ⟨rfl, hb, hz8⟩
  have B8 := Lib.hid (B7.out.trans (hb.mono (by omega)))
  have hy8 : w.heap.size < w8.heap.size := by omega
  have R8 := Lib.hid (show RowAt w8 w.heap.size _ from (hb.block w.heap.size (by omega)).trans R7.out)
  clear hb B7 R7 W8
  go_wp2_with fail
  refine (W9.out _ _ _ _ _ #[.string ⟨#[99, 111, 109, 112, 108, 101, 116, 101, 100]⟩, .bool false, .bool false, .bool false, .bool false, .bool false, .bool true] rfl (by rfl) rfl rfl).mono ?_
  rintro e w9 ⟨rfl, hb, hz9⟩
  have B9 := Lib.hid (B8.out.trans (hb.mono (by omega)))
  have hy9 : w.heap.size < w9.heap.size := by omega
  have R9 := Lib.hid (show RowAt w9 w.heap.size _ from (hb.block w.heap.size (by omega)).trans R8.out)
  clear hb B8 R8 W9
  go_wp2_with fail
  refine (W10.out _ _ _ _ _ #[.string ⟨#[102, 97, 105, 108, 101, 100]⟩, .bool false, .bool false, .bool false, .bool false, .bool true, .bool false] rfl (by rfl) rfl rfl).mono ?_
  rintro e w10 ⟨rfl, hb, hz10⟩
  have B10 := Lib.hid (B9.out.trans (hb.mono (by omega)))
  have hy10 : w.heap.size < w10.heap.size := by omega
  have R10 := Lib.hid (show RowAt w10 w.heap.size _ from (hb.block w.heap.size (by omega)).trans R9.out)
  clear hb B9 R9 W10
  go_wp2_with fail
  refine (W11.out _ _ _ _ _ #[.string ⟨#[112, 97, 110, 105, 99, 107, 101, 100]⟩, .bool false, .bool false, .bool false, .bool false, .bool true, .bool false] rfl (by rfl) rfl rfl).mono ?_
  rintro e w11 ⟨rfl, hb, hz11⟩
  have B11 := Lib.hid (B10.out.trans (hb.mono (by omega)))
  have hy11 : w.heap.size < w11.heap.size := by omega
  have R11 := Lib.hid (show RowAt w11 w.heap.size _ from (hb.block w.heap.size (by omega)).trans R10.out)
  clear hb B10 R10 W11
  have hset : (w11.alloc (.cells ztbl 107)).setRow w11.heap.size tbl = w11.alloc (.cells tbl 107) := World.setRow_alloc_new ..
  have hrow := heap_alloc_new w11 (.cells ztbl 107)
  have HROW := Lib.hid hrow; clear hrow
  have hres := R11.out
  have f0 := hres.free 0; have f1 := hres.free 1; have f2 := hres.free 2; have f3 := hres.free 3; have f4 := hres.free 4; have f5 := hres.free 5; have f6 := hres.free 6
  unfold rowCellsOf at hres
  obtain ⟨d0, d1, d2, d3, d4, d5, d6⟩ := hres.cells
  clear hres R11 W1
  have t0 := T0.out; have t1 := T1.out; have t2 := T2.out; have t3 := T3.out; have t4 := T4.out; have t5 := T5.out; have t6 := T6.out
  clear T0 T1 T2 T3 T4 T5 T6
  go_wp2_with (first
    | (refine wpList_build rfl 107 _ rfl ?_ ?_)
    | (refine wpList_store_row rfl 107 _ _ rfl w11.heap.size tbl rfl rfl 107 ztbl HROW.out HSZ.out rfl (by kernel_rfl) ?_))
  refine bodyPost_ret (v := .tuple #[.agg #[.string nm, .bool b0, .bool b1, .bool b2, .bool b3, .bool b4, .bool b5], .bool true]) (by simp [results, Tryz.results41, go_sem, d0, d1, d2, d3, d4, d5, d6, hy11]) rfl ⟨rfl, ?_⟩
  exact (seven_below B11.out _ _ _ _ _ _ _).alloc (by rw [seven_size]; omega) _

set_option maxRecDepth 100000 in
set_option maxHeartbeats 1000000 in
theorem of_out (k : Int) (h : k < 1 ∨ 11 < k) (w : World) : Calls Tryz.prog 41 #[.int .i64 k] w fun e w' => e = .returned (.tuple #[.agg #[.string ⟨#[]⟩, .bool false, .bool false, .bool false, .bool false, .bool false, .bool false], .bool false]) ∧ Below w.heap.size w w' := by
  have H := Lib.hid h; clear h
  have HR0 : Hid (RowAt (w.alloc (.cells (rowCellsOf ⟨#[]⟩ []) 69)) w.heap.size (rowCellsOf ⟨#[]⟩ [])) := Lib.hid (heap_alloc_new w _)
  have HB := Lib.hid ((Below.refl w.heap.size w).alloc (Nat.le_refl _) (.cells #[.string ⟨#[]⟩, .bool false, .bool false, .bool false, .bool false, .bool false, .bool false] 69))
  have W1 := Lib.hid (with_lit [3, 5] (by decide) (by decide))
  have W2 := Lib.hid (with_lit [0, 1, 2] (by decide) (by decide))
  have W3 := Lib.hid (with_lit [0, 1, 5] (by decide) (by decide))
  have W4 := Lib.hid (with_lit [0, 1, 2, 4] (by decide) (by decide))
  have W5 := Lib.hid (with_lit [0] (by decide) (by decide))
  have W6 := Lib.hid (with_lit [3, 4, 5] (by decide) (by decide))
  have W7 := Lib.hid (with_lit [0, 3, 5] (by decide) (by decide))
  have W8 := Lib.hid (with_lit [0, 2] (by decide) (by decide))
  have W9 := Lib.hid (with_lit [5] (by decide) (by decide))
  have W10 := Lib.hid (with_lit [4] (by decide) (by decide))
  have W11 := Lib.hid (with_lit [4] (by decide) (by decide))
  have hbt := tbl_built
  obtain ⟨hzt, hsz⟩ := zero_of_info tbl_zero
  have HSZ := Lib.hid hsz; clear hsz
  go_enter Tryz.func41, Tryz.ntmps41
  go_wp2_with fail
  refine (W1.out _ _ _ _ _ #[.string ⟨#[115, 116, 97, 114, 116, 101, 100]⟩, .bool false, .bool false, .bool false, .bool true, .bool false, .bool true] rfl (by simp) rfl rfl).mono ?_
  rintro e w1 ⟨rfl, hb, hz1⟩
  have B1 := Lib.hid (HB.out.trans (hb.mono (by omega)))
  have hy1 : w.heap.size < w1.heap.size := by omega
  have R1 := Lib.hid (show RowAt w1 w.heap.size _ from (hb.block w.heap.size (by omega)).trans HR0.out)
  clear hb HB HR0
  go_wp2_with fail
  refine (W2.out _ _ _ _ _ #[.string ⟨#[100, 105, 115, 112, 97, 116, 99, 104, 101, 100]⟩, .bool true, .bool true, .bool true, .bool false, .bool false, .bool false] rfl (by rfl) rfl rfl).mono ?_
  rintro e w2 ⟨rfl, hb, hz2⟩
  have B2 := Lib.hid (B1.out.trans (hb.mono (by omega)))
  have hy2 : w.heap.size < w2.heap.size := by omega
  have R2 := Lib.hid (show RowAt w2 w.heap.size _ from (hb.block w.heap.size (by omega)).trans R1.out)
  clear hb B1 R1 W2
  go_wp2_with fail
  refine (W3.out _ _ _ _ _ #[.string ⟨#[102, 105, 110, 105, 115, 104, 101, 100]⟩, .bool true, .bool true, .bool false, .bool false, .bool false, .bool true] rfl (by rfl) rfl rfl).mono ?_
  rintro e w3 ⟨rfl, hb, hz3⟩
  have B3 := Lib.hid (B2.out.trans (hb.mono (by omega)))
  have hy3 : w.heap.size < w3.heap.size := by omega
  have R3 := Lib.hid (show RowAt w3 w.heap.size _ from (hb.block w.heap.size (by omega)).trans R2.out)
  clear hb B2 R2 W3
  go_wp2_with fail
  refine (W4.out _ _ _ _ _ #[.string ⟨#[98, 114, 111, 107, 101, 110]⟩, .bool true, .bool true, .bool true, .bool false, .bool true, .bool false] rfl (by rfl) rfl rfl).mono ?_
  rintro e w4 ⟨rfl, hb, hz4⟩
  have B4 := Lib.hid (B3.out.trans (hb.mono (by omega)))
  have hy4 : w.heap.size < w4.heap.size := by omega
  have R4 := Lib.hid (show RowAt w4 w.heap.size _ from (hb.block w.heap.size (by omega)).trans R3.out)
  clear hb B3 R3 W4
  go_wp2_with fail
  refine (W5.out _ _ _ _ _ #[.string ⟨#[102, 105, 114, 101, 100]⟩, .bool true, .bool false, .bool false, .bool false, .bool false, .bool false] rfl (by rfl) rfl rfl).mono ?_
  rintro e w5 ⟨rfl, hb, hz5⟩
  have B5 := Lib.hid (B4.out.trans (hb.mono (by omega)))
  have hy5 : w.heap.size < w5.heap.size := by omega
  have R5 := Lib.hid (show RowAt w5 w.heap.size _ from (hb.block w.heap.size (by omega)).trans R4.out)
  clear hb B4 R4 W5
  go_wp2_with fail
  refine (W6.out _ _ _ _ _ #[.string ⟨#[115, 105, 103, 110, 97, 108]⟩, .bool false, .bool false, .bool false, .bool true, .bool true, .bool true] rfl (by rfl) rfl rfl).mono ?_
  rintro e w6 ⟨rfl, hb, hz6⟩
  have B6 := Lib.hid (B5.out.trans (hb.mono (by omega)))
  have hy6 : w.heap.size < w6.heap.size := by omega
  have R6 := Lib.hid (show RowAt w6 w.heap.size _ from (hb.block w.heap.size (by omega)).trans R5.out)
  clear hb B5 R5 W6
  go_wp2_with fail
  refine (W7.out _ _ _ _ _ #[.string ⟨#[115, 99, 104, 101, 100, 117, 108, 101, 100]⟩, .bool true, .bool false, .bool false, .bool true, .bool false, .bool true] rfl (by rfl) rfl rfl).mono ?_
  rintro e w7 ⟨rfl, hb, hz7⟩
  have B7 := Lib.hid (B6.out.trans (hb.mono (by omega)))
  have hy7 : w.heap.size < w7.heap.size := by omega
  have R7 := Lib.hid (show RowAt w7 w.heap.size _ from (hb.block w.heap.size (by omega)).trans R6.out)
  clear hb B6 R6 W7
  go_wp2_with fail
  refine (W8.out _ _ _ _ _ #[.string ⟨#[97, 114, 109, 101, 100]⟩, .bool true, .bool false, .bool true, .bool false, .bool false, .bool false] rfl (by rfl) rfl rfl).mono ?_
  rintro e w8 ⟨rfl, hb, hz8⟩
  have B8 := Lib.hid (B7.out.trans (hb.mono (by omega)))
  have hy8 : w.heap.size < w8.heap.size := by omega
  have R8 := Lib.hid (show RowAt w8 w.heap.size _ from (hb.block w.heap.size (by omega)).trans R7.out)
  clear hb B7 R7 W8
  go_wp2_with fail
  refine (W9.out _ _ _ _ _ #[.string ⟨#[99, 111, 109, 112, 108, 101, 116, 101, 100]⟩, .bool false, .bool false, .bool false, .bool false, .bool false, .bool true] rfl (by rfl) rfl rfl).mono ?_
  rintro e w9 ⟨rfl, hb, hz9⟩
  have B9 := Lib.hid (B8.out.trans (hb.mono (by omega)))
  have hy9 : w.heap.size < w9.heap.size := by omega
  have R9 := Lib.hid (show RowAt w9 w.heap.size _ from (hb.block w.heap.size (by omega)).trans R8.out)
  clear hb B8 R8 W9
  go_wp2_with fail
  refine (W10.out _ _ _ _ _ #[.string ⟨#[102, 97, 105, 108, 101, 100]⟩, .bool false, .bool false, .bool false, .bool false, .bool true, .bool false] rfl (by rfl) rfl rfl).mono ?_
  rintro e w10 ⟨rfl, hb, hz10⟩
  have B10 := Lib.hid (B9.out.trans (hb.mono (by omega)))
  have hy10 : w.heap.size < w10.heap.size := by omega
  have R10 := Lib.hid (show RowAt w10 w.heap.size _ from (hb.block w.heap.size (by omega)).trans R9.out)
  clear hb B9 R9 W10
  go_wp2_with fail
  refine (W11.out _ _ _ _ _ #[.string ⟨#[112, 97, 110, 105, 99, 107, 101, 100]⟩, .bool false, .bool false, .bool false, .bool false, .bool true, .bool false] rfl (by rfl) rfl rfl).mono ?_
  rintro e w11 ⟨rfl, hb, hz11⟩
  have B11 := Lib.hid (B10.out.trans (hb.mono (by omega)))
  have hy11 : w.heap.size < w11.heap.size := by omega
  have R11 := Lib.hid (show RowAt w11 w.heap.size _ from (hb.block w.heap.size (by omega)).trans R10.out)
  clear hb B10 R10 W11
  have hset : (w11.alloc (.cells ztbl 107)).setRow w11.heap.size tbl = w11.alloc (.cells tbl 107) := World.setRow_alloc_new ..
  have hrow := heap_alloc_new w11 (.cells ztbl 107)
  have HROW := Lib.hid hrow; clear hrow
  have hres := R11.out
  have f0 := hres.free 0; have f1 := hres.free 1; have f2 := hres.free 2; have f3 := hres.free 3; have f4 := hres.free 4; have f5 := hres.free 5; have f6 := hres.free 6
  unfold rowCellsOf at hres
  obtain ⟨d0, d1, d2, d3, d4, d5, d6⟩ := hres.cells
  clear hres R11 W1
  rcases H.out with h | h
  all_goals
    clear H
    go_wp2_with (first
      | (refine wpList_build rfl 107 _ rfl ?_ ?_)
      | (refine wpList_store_row rfl 107 _ _ rfl w11.heap.size tbl rfl rfl 107 ztbl HROW.out HSZ.out rfl (by kernel_rfl) ?_))
    refine bodyPost_ret (v := .tuple #[.agg #[.string ⟨#[]⟩, .bool false, .bool false, .bool false, .bool false, .bool false, .bool false], .bool false]) (by simp [results, Tryz.results41, go_sem, d0, d1, d2, d3, d4, d5, d6, hy11]) rfl ⟨rfl, ?_⟩
    exact (seven_below B11.out _ _ _ _ _ _ _).alloc (by rw [seven_size]; omega) _

theorem of_in (k : Nat) (h1 : 1 ≤ k) (h2 : k ≤ 11) (w : World) : Calls Tryz.prog 41 #[.int .i64 k] w fun e w' => e = .returned (.tuple #[.agg (rowCellsOf (nameOf k) (fieldsOf k)), .bool true]) ∧ Below w.heap.size w w' := by
  obtain ⟨t0, t1, t2, t3, t4, t5, t6⟩ := tbl_at k h1 h2
  exact of_in' k h1 h2 _ _ _ _ _ _ _ t0 t1 t2 t3 t4 t5 t6 w
end Ev
end Go.Proofs.YtcbddebmmaflgaaGreatDoor
namespace Go.Proofs.YtcbddebmmaflgaaGreatDoor
open Go.RowKit
namespace Nm

theorem misnan_any (b : Nat) (w : World) : Calls Tryz.prog 129 #[.float .f64 b] w fun e w' => e = .returned (.bool (Fm.isNan b)) ∧ w = w' := by
  have hs := neq_self b
  generalize Fm.isNan b = z at *
  go_enter Tryz.func129, Tryz.ntmps129
  go_wp2
  go_ret
  exact ⟨rfl, rfl⟩

theorem sign_any (b : Nat) (hb : b < 18446744073709551616) (w : World) : Calls Tryz.prog 131 #[.float .f64 b] w fun e w' => e = .returned (.int .i64 (if Fm.neg b = true then -1 else 1)) ∧ w = w' := by
  have C := Lib.hid (fun w => signbit_any b hb w)
  clear hb
  cases h : Fm.neg b with
  | true =>
    rw [h] at C; clear h
    go_enter Tryz.func131, Tryz.ntmps131
    go_wp2_with (go_at_call 142; refine (C.out _).mono ?_; rintro e w' ⟨rfl, rfl⟩)
    go_ret
    exact ⟨rfl, rfl⟩
  | false =>
    rw [h] at C; clear h
    go_enter Tryz.func131, Tryz.ntmps131
    go_wp2_with (go_at_call 142; refine (C.out _).mono ?_; rintro e w' ⟨rfl, rfl⟩)
    go_ret
    exact ⟨rfl, rfl⟩

def cmpI (a b : Int) : Int := if a < b then -1 else if b < a then 1 else 0

theorem cmpi_any (a b : Int) (w : World) : Calls Tryz.prog 130 #[.int .i64 a, .int .i64 b] w fun e w' => e = .returned (.int .i64 (cmpI a b)) ∧ w = w' := by
  unfold cmpI
  by_cases h : a < b
  · rw [if_pos h]
    go_enter Tryz.func130, Tryz.ntmps130
    go_wp2
    go_ret
    exact ⟨rfl, rfl⟩
  · rw [if_neg h]
    by_cases h2 : b < a
    · rw [if_pos h2]
      go_enter Tryz.func130, Tryz.ntmps130
      go_wp2
      go_ret
      exact ⟨rfl, rfl⟩
    · rw [if_neg h2]
      go_enter Tryz.func130, Tryz.ntmps130
      go_wp2
      go_ret
      exact ⟨rfl, rfl⟩

/-- How two words that are no NaN stand to each other. -/
theorem ord_sv (a b : Nat) (ha : Fm.isNan a = false) (hb : Fm.isNan b = false) : FloatKind.f64.format.order a b = some (compare (Fm.SV a) (Fm.SV b)) := Fm.order_eq a b ha hb

theorem cmpf_any (a b : Nat) (ha : Fm.isNan a = false) (hb : Fm.isNan b = false) (w : World) :
    Calls Tryz.prog 132 #[.float .f64 a, .float .f64 b] w fun e w' => e = .returned (.int .i64 (cmpI (Fm.SV a) (Fm.SV b))) ∧ w = w' := by
  have h1 := neq_self a
  have h2 := neq_self b
  have h3 := ord_sv a b ha hb
  rw [ha] at h1
  rw [hb] at h2
  unfold cmpI
  by_cases h : Fm.SV a < Fm.SV b
  · rw [if_pos h]
    rw [Int.compare_eq_lt.2 h] at h3
    clear h ha hb
    go_enter Tryz.func132, Tryz.ntmps132
    go_wp2
    go_ret
    exact ⟨rfl, rfl⟩
  · rw [if_neg h]
    by_cases h' : Fm.SV b < Fm.SV a
    · rw [if_pos h']
      rw [Int.compare_eq_gt.2 h'] at h3
      clear h h' ha hb
      go_enter Tryz.func132, Tryz.ntmps132
      go_wp2
      go_ret
      exact ⟨rfl, rfl⟩
    · rw [if_neg h']
      have e : Fm.SV a = Fm.SV b := by omega
      rw [e] at h3
      have h4 : FloatKind.f64.format.order a b = some Ordering.eq := by rw [h3]; simp
      clear h h' ha hb e h3
      go_enter Tryz.func132, Tryz.ntmps132
      go_wp2
      go_ret
      exact ⟨rfl, rfl⟩

/-! ### The two orders are one -/
theorem sv_zero_iff (b : Nat) : Fm.SV b = 0 ↔ b % 2 ^ 63 = 0 := by
  have h1 := Fm.SV_abs b
  constructor
  · intro h
    refine Classical.byContradiction fun hn => ?_
    have := V_pos hn
    omega
  · intro h
    rw [h, Fm.V_zero] at h1
    omega

theorem cmp_num (a b : Nat) (ha : a < 18446744073709551616) (hb : b < 18446744073709551616) (h1 : Fm.isNan a = false) (h2 : Fm.isNan b = false) (hz : ¬ (Fm.SV a = 0 ∧ Fm.SV b = 0)) :
    cmpI (Fm.SV a) (Fm.SV b) = rcmpW a b := by
  have ea : bitsW a = a := by unfold bitsW; rw [h1]; rfl
  have eb : bitsW b = b := by unfold bitsW; rw [h2]; rfl
  have za := sv_zero_iff a
  have zb := sv_zero_iff b
  have hl := Fm.V_lt_iff (a % 2 ^ 63) (b % 2 ^ 63)
  have hg := Fm.V_lt_iff (b % 2 ^ 63) (a % 2 ^ 63)
  have na : Fm.neg a = decide (9223372036854775808 ≤ a) := by
    unfold Fm.neg; rw [Bool.eq_iff_iff]; simp only [beq_iff_eq, decide_eq_true_eq]; omega
  have nb : Fm.neg b = decide (9223372036854775808 ≤ b) := by
    unfold Fm.neg; rw [Bool.eq_iff_iff]; simp only [beq_iff_eq, decide_eq_true_eq]; omega
  have c3 := cmp3_cases (rankW a) (rankW b)
  unfold rcmpW
  rw [ea, eb]
  unfold cmpI
  have sa : Fm.SV a = if 9223372036854775808 ≤ a then -(Fm.V (a % 2 ^ 63) : Int) else Fm.V (a % 2 ^ 63) := by
    unfold Fm.SV; rw [na]; simp only [decide_eq_true_eq]
  have sb : Fm.SV b = if 9223372036854775808 ≤ b then -(Fm.V (b % 2 ^ 63) : Int) else Fm.V (b % 2 ^ 63) := by
    unfold Fm.SV; rw [nb]; simp only [decide_eq_true_eq]
  generalize Fm.V (a % 2 ^ 63) = va at *
  generalize Fm.V (b % 2 ^ 63) = vb at *
  generalize Fm.SV a = x at *
  generalize Fm.SV b = y at *
  unfold rankW at *
  clear na nb ea eb h1 h2
  by_cases p : 9223372036854775808 ≤ a
  · rw [if_pos p] at sa c3
    by_cases q : 9223372036854775808 ≤ b
    · rw [if_pos q] at sb c3
      rw [if_pos p, if_pos q]
      by_cases l : x < y
      · rw [if_pos l]; omega
      · rw [if_neg l]
        by_cases g : y < x
        · rw [if_pos g]; omega
        · rw [if_neg g]; omega
    · rw [if_neg q] at sb c3
      rw [if_pos p, if_neg q]
      by_cases l : x < y
      · rw [if_pos l]; omega
      · rw [if_neg l]
        by_cases g : y < x
        · rw [if_pos g]; omega
        · rw [if_neg g]; omega
  · rw [if_neg p] at sa c3
    by_cases q : 9223372036854775808 ≤ b
    · rw [if_pos q] at sb c3
      rw [if_neg p, if_pos q]
      by_cases l : x < y
      · rw [if_pos l]; omega
      · rw [if_neg l]
        by_cases g : y < x
        · rw [if_pos g]; omega
        · rw [if_neg g]; omega
    · rw [if_neg q] at sb c3
      rw [if_neg p, if_neg q]
      by_cases l : x < y
      · rw [if_pos l]; omega
      · rw [if_neg l]
        by_cases g : y < x
        · rw [if_pos g]; omega
        · rw [if_neg g]; omega
end Nm
end Go.Proofs.YtcbddebmmaflgaaGreatDoor
