/- A reader in memory; the small methods of bin.Reader. -/
/- bin.Reader's peek. -/
import Derived.Test.YtcbddebmmaflgaaGreatDoorMhas
import Derived.Test.YtcbddebmmaflgaaGreatDoorMhai
import Derived.Test.YtcbddebmmaflgaaGreatDoorMhak
import Derived.Test.YtcbddebmmaflgaaGreatDoorMhag
import Derived.Laws.BitsAllLaws
namespace Go.Proofs.YtcbddebmmaflgaaGreatDoor
open Go.RowKit
set_option linter.unusedVariables false
set_option linter.unusedSimpArgs false
namespace Rd
open _root_.Go.Proofs.YtcbddebmmaflgaaGreatDoor.Nm (ret_int ret_bool)
open Vt (below_drew)
open Bt (BOwn BIn bv run_append_bytes)
open Cn (BRd brd_own)
open Cm (OnlyAt)

theorem brd_in {w : World} {v : Value} {l : List Nat} (h : BRd w v l) : BIn w v l := by
  rcases h with h | ⟨b, off, cap, h1, h2, h3, h4, h5⟩
  · exact .inl h
  · refine .inr ⟨⟨b, off, none⟩, cap, h1, h2, h3, h4, fun j u hu => ?_⟩
    rw [List.getElem?_map] at hu
    obtain ⟨x, hx, rfl⟩ := Option.map_eq_some_iff.1 hu
    obtain ⟨hj, rfl⟩ := List.getElem?_eq_some_iff.1 hx
    rw [show (⟨b, off, none⟩ : Addr).add j = ⟨b, off + j, none⟩ from by by_cases h : j = 0 <;> simp [Addr.add, h]]
    exact h5 j hj
/-- Bytes that lie below a block. -/
def Far (v : Value) (g : Nat) : Prop := ∀ k, v.ownBlock = some k → k < g
/-- A reader: what is left, and whether it is bad. -/
structure RAt (w : World) (g : Nat) (v : Value) (l : List Nat) (bad : Bool) : Prop where
  blk : w.heap[g]? = some (.cells #[v, .bool bad] 60 (0, 0))
  rd : BRd w v l
  far : Far v g
theorem RAt.cells {w : World} {g : Nat} {v : Value} {l : List Nat} {bad : Bool} (h : RAt w g v l bad) : w.cell? ⟨g, 0, none⟩ = some v ∧ w.cell? ⟨g, 1, none⟩ = some (.bool bad) ∧ (∀ o, w.frozen? ⟨g, o, none⟩ = false) ∧ g < w.heap.size := by
  have h1 := h.blk
  exact ⟨by simp [World.cell?, h1], by simp [World.cell?, h1], fun o => by simp [World.frozen?, h1], (Array.getElem?_eq_some_iff.1 h1).1⟩
theorem brd_block {w : World} {v : Value} {l : List Nat} (h : BRd w v l) : ∀ k, v.ownBlock = some k → k < w.heap.size := by
  intro k hk
  rcases h with ⟨rfl, -⟩ | ⟨b, off, cap, rfl, -, -, h4, -⟩
  · cases hk
  · rw [Bt.ownBlock_slice] at hk; cases hk; exact h4
theorem brd_keep {w w' : World} {v : Value} {l : List Nat} (h : BRd w v l) (hz : w.heap.size ≤ w'.heap.size) (hk : ∀ k, v.ownBlock = some k → w'.heap[k]? = w.heap[k]?) : BRd w' v l := by
  rcases h with h | ⟨b, off, cap, rfl, h2, h3, h4, h5⟩
  · exact .inl h
  · exact .inr ⟨b, off, cap, rfl, h2, h3, Nat.lt_of_lt_of_le h4 hz, fun j hj => (World.cell?_of_block (a := ⟨b, off + j, none⟩) (hk b (Bt.ownBlock_slice _ _ _))).trans (h5 j hj)⟩
theorem RAt.later {w w' : World} {g : Nat} {v : Value} {l : List Nat} {bad : Bool} (h : RAt w g v l bad) (hb : Below w.heap.size w w') : RAt w' g v l bad :=
  ⟨(hb.block g h.cells.2.2.2).trans h.blk, h.rd.later hb, h.far⟩
/-- What lies above the reader may turn. -/
theorem RAt.frame {w w' : World} {g : Nat} {v : Value} {l : List Nat} {bad : Bool} (h : RAt w g v l bad) (hz : w.heap.size ≤ w'.heap.size) (hk : ∀ b, b ≤ g → w'.heap[b]? = w.heap[b]?) : RAt w' g v l bad :=
  ⟨(hk g (Nat.le_refl _)).trans h.blk, brd_keep h.rd hz fun k e => hk k (Nat.le_of_lt (h.far k e)), h.far⟩
/-- The reader's own cells turn. -/
theorem brd_set {w : World} {g o : Nat} {v x : Value} {l : List Nat} (h : BRd w v l) (hf : Far v g) : BRd (w.setCell ⟨g, o, none⟩ x) v l :=
  brd_keep h (by simp [World.setCell]) fun k hk => Below.heap_setCell w ⟨g, o, none⟩ x k (by simpa using Nat.ne_of_lt (hf k hk))
theorem RAt.setBad {w : World} {g : Nat} {v : Value} {l : List Nat} {bad : Bool} (h : RAt w g v l bad) (b : Bool) : RAt (w.setCell ⟨g, 1, none⟩ (.bool b)) g v l b :=
  ⟨by have h1 := h.blk; simp [World.setCell, Array.getElem?_modify, h1], brd_set h.rd h.far, h.far⟩
theorem RAt.setB {w : World} {g : Nat} {v v' : Value} {l l' : List Nat} {bad : Bool} (h : RAt w g v l bad) (h' : BRd w v' l') (hf : Far v' g) : RAt (w.setCell ⟨g, 0, none⟩ v') g v' l' bad :=
  ⟨by have h1 := h.blk; simp [World.setCell, Array.getElem?_modify, h1], brd_set h' hf, hf⟩
/-- Cutting bytes. -/
theorem brd_take {w : World} {b off n cap : Nat} {l : List Nat} (h : BRd w (.slice (some ⟨b, off, none⟩) l.length cap) l) (hn : n ≤ l.length) : BRd w (.slice (some ⟨b, off, none⟩) n cap) (l.take n) := by
  rcases h with ⟨h, -⟩ | ⟨b', off', cap', h1, h2, h3, h4, h5⟩
  · cases h
  · injection h1 with h1 _ h1c
    injection h1 with h1
    injection h1 with h1a h1b
    subst h1a h1b h1c
    refine .inr ⟨b, off, cap, by rw [List.length_take, Nat.min_eq_left hn], by rw [List.length_take, Nat.min_eq_left hn]; omega, h3, h4, fun j hj => ?_⟩
    rw [List.length_take, Nat.min_eq_left hn] at hj
    rw [h5 j (by omega), List.getElem_take]
theorem brd_drop {w : World} {b off n cap : Nat} {l : List Nat} (h : BRd w (.slice (some ⟨b, off, none⟩) l.length cap) l) (hn : n ≤ l.length) : BRd w (.slice (some ⟨b, off + n, none⟩) (l.length - n) (cap - n)) (l.drop n) := by
  rcases h with ⟨h, -⟩ | ⟨b', off', cap', h1, h2, h3, h4, h5⟩
  · cases h
  · injection h1 with h1 _ h1c
    injection h1 with h1
    injection h1 with h1a h1b
    subst h1a h1b h1c
    refine .inr ⟨b, off + n, cap - n, by rw [List.length_drop], by rw [List.length_drop]; omega, by omega, h4, fun j hj => ?_⟩
    rw [List.length_drop] at hj
    rw [Nat.add_assoc, h5 (n + j) (by omega), List.getElem_drop]

set_option maxRecDepth 100000 in
theorem fail_any (g : Nat) (v : Value) (l : List Nat) (bad : Bool) (w : World) (h : RAt w g v l bad) :
    Calls Tryz.prog 77 #[.pointer (some ⟨g, 0, none⟩)] w fun r w' => r = .returned (.tuple #[]) ∧ RAt w' g v l true ∧ OnlyAt w w' g none := by
  obtain ⟨c0, c1, c2, c3⟩ := h.cells
  have f1 := c2 1
  have HR := Lib.hid (h.setBad true)
  have HO := Lib.hid ((OnlyAt.of_below (Below.refl w.heap.size w) : OnlyAt w w g none).set 1 (.bool true))
  clear h c2
  go_enter Tryz.func77, Tryz.ntmps77
  go_wp2_with fail
  exact bodyPost_end (results_none rfl _ _ _) rfl ⟨rfl, HR.out, HO.out⟩

set_option maxRecDepth 100000 in
theorem cut_no (g : Nat) (v : Value) (l : List Nat) (bad : Bool) (n : Int) (h0 : 0 ≤ n) (hn : bad = true ∨ (l.length : Int) < n) (w : World) (h : RAt w g v l bad) :
    Calls Tryz.prog 75 #[.pointer (some ⟨g, 0, none⟩), .int .i64 n] w fun r w' => r = .returned (.slice none 0 0) ∧ RAt w' g v l true ∧ OnlyAt w w' g none := by
  obtain ⟨A, cap, hv⟩ := h.rd.form
  obtain ⟨c0, c1, c2, c3⟩ := h.cells
  have HF := Lib.hid fun W (hW : RAt W g v l bad) => fail_any g v l bad W hW
  have HR := Lib.hid h
  have k1 : decide (n < 0) = false := decide_eq_false (by omega)
  rw [hv] at c0
  clear h c2
  cases bad with
  | true =>
    clear hn
    go_enter Tryz.func75, Tryz.ntmps75
    go_wp2_with fail
    refine (HF.out _ HR.out).mono ?_
    rintro x w1 ⟨rfl, hr, ho⟩
    have HR1 := Lib.hid hr; have HO1 := Lib.hid ho
    clear hr ho
    go_wp2_with fail
    go_ret
    exact ⟨rfl, HR1.out, HO1.out⟩
  | false =>
    have hn' : (l.length : Int) < n := hn.resolve_left (by simp)
    have k2 : decide (n > (l.length : Int)) = true := decide_eq_true hn'
    have k3 : decide ((l.length : Int) < n) = true := decide_eq_true hn'
    clear hn hn'
    go_enter Tryz.func75, Tryz.ntmps75
    go_wp2_with fail
    refine (HF.out _ HR.out).mono ?_
    rintro x w1 ⟨rfl, hr, ho⟩
    have HR1 := Lib.hid hr; have HO1 := Lib.hid ho
    clear hr ho
    go_wp2_with fail
    go_ret
    exact ⟨rfl, HR1.out, HO1.out⟩

/-- What a cut leaves. -/
def Cut (w : World) (g : Nat) (l : List Nat) (n : Nat) (r : Ending) (w' : World) : Prop := ∃ v' x, r = .returned x ∧ BRd w' x (l.take n) ∧ Far x g ∧ RAt w' g v' (l.drop n) false ∧ OnlyAt w w' g none
set_option maxRecDepth 100000 in
theorem cut_ok (g : Nat) (v : Value) (l : List Nat) (n : Nat) (hn : n ≤ l.length) (w : World) (h : RAt w g v l false) :
    Calls Tryz.prog 75 #[.pointer (some ⟨g, 0, none⟩), .int .i64 n] w (Cut w g l n) := by
  obtain ⟨c0, c1, c2, c3⟩ := h.cells
  have HR := Lib.hid h
  have f0 := c2 0
  have HO := Lib.hid fun x => (OnlyAt.of_below (Below.refl w.heap.size w) : OnlyAt w w g none).set 0 x
  have k1 : decide ((n : Int) < 0) = false := decide_eq_false (by omega)
  have k2 : decide ((n : Int) > (l.length : Int)) = false := decide_eq_false (by omega)
  have k3 : decide ((l.length : Int) < (n : Int)) = false := decide_eq_false (by omega)
  rcases h.rd with ⟨hv, hl⟩ | ⟨b, off, cap, hv, h2, h3, h4, h5⟩
  · have hn0 : n = 0 := by rw [hl] at hn; simpa using hn
    rw [hv] at c0
    have HV := Lib.hid hv; have HL := Lib.hid hl
    subst hn0
    simp only [hl, List.length_nil] at k2 k3
    have HR2 : Hid (RAt (w.setCell ⟨g, 0, none⟩ (.slice none 0 0)) g (.slice none 0 0) (l.drop 0) false) := Lib.hid (h.setB (.inl ⟨rfl, by rw [hl]; rfl⟩) (fun k hk => by cases hk))
    clear h c2 hv hl
    go_enter Tryz.func75, Tryz.ntmps75
    go_wp2_with fail
    go_ret
    exact ⟨_, _, rfl, .inl ⟨rfl, by rw [HL.out]; rfl⟩, fun k hk => (by cases hk), HR2.out, HO.out _⟩
  · rw [hv] at c0
    simp only [maxLen] at h3
    have hrd := h.rd
    rw [hv] at hrd
    have hbg : b < g := h.far b (by rw [hv]; exact Bt.ownBlock_slice _ _ _)
    have hfar : ∀ (o m c : Nat), Far (.slice (some ⟨b, o, none⟩) m c) g := fun o m c k hk => by rw [Bt.ownBlock_slice] at hk; cases hk; exact hbg
    by_cases hcn : cap = n
    · have hln : l.length = n := by omega
      have hd0 : BRd w (.slice (some ⟨b, off, none⟩) 0 0) (l.drop n) := .inr ⟨b, off, 0, by rw [List.length_drop, hln, Nat.sub_self], by rw [List.length_drop]; omega, Nat.zero_le _, h4, fun j hj => by rw [List.length_drop] at hj; omega⟩
      have HR2 := Lib.hid (h.setB hd0 (hfar _ _ _))
      have HT := Lib.hid (brd_set (g := g) (o := 0) (x := .slice (some ⟨b, off, none⟩) 0 0) (brd_take hrd hn) (hfar _ _ _))
      have HFA := Lib.hid (hfar off n cap)
      clear h c2 hv h5 hrd hd0 hfar hbg
      subst hcn
      go_enter Tryz.func75, Tryz.ntmps75
      go_wp2_with fail
      go_ret
      exact ⟨_, _, rfl, HT.out, HFA.out, HR2.out, HO.out _⟩
    · have HR2 := Lib.hid (h.setB (brd_drop hrd hn) (hfar _ _ _))
      have HT := Lib.hid (brd_set (g := g) (o := 0) (x := .slice (some ⟨b, off + n, none⟩) (l.length - n) (cap - n)) (brd_take hrd hn) (hfar _ _ _))
      have HFA := Lib.hid (hfar off n cap)
      clear h c2 hv h5 hrd hfar hbg
      go_enter Tryz.func75, Tryz.ntmps75
      go_wp2_with fail
      go_ret
      exact ⟨_, _, rfl, HT.out, HFA.out, HR2.out, HO.out _⟩

set_option maxRecDepth 100000 in
/-- Bytes copied. -/
theorem clone_nil (w : World) : Calls Tryz.prog 29 #[.slice none 0 0] w fun r w' => r = .returned (.slice none 0 0) ∧ Below w.heap.size w w' := by
  have hnil := fun w => Lib.run_eql_slice_nil (P := Tryz.prog) w 22 5 none 0 0 0 0 Tryz.underlying22
  go_enter Tryz.func29, Tryz.ntmps29
  go_wp2_with fail
  go_ret
  exact ⟨rfl, Below.refl _ _⟩
set_option maxRecDepth 100000 in
theorem clone_any (v : Value) (l : List Nat) (hl : l.length ≤ 17592186044416) (w : World) (h : BRd w v l) :
    Calls Tryz.prog 29 #[v] w fun r w' => ∃ x, r = .returned x ∧ BOwn w' w.heap.size x l ∧ Below w.heap.size w w' := by
  rcases h with ⟨rfl, rfl⟩ | ⟨b, off, cap, rfl, h2, h3, h4, h5⟩
  · have hnil := fun w => Lib.run_eql_slice_nil (P := Tryz.prog) w 22 5 none 0 0 0 0 Tryz.underlying22
    go_enter Tryz.func29, Tryz.ntmps29
    go_wp2_with fail
    go_ret
    exact ⟨_, rfl, ⟨rfl, .inl ⟨rfl, rfl⟩⟩, Below.refl _ _⟩
  · have hin : BIn w (.slice (some ⟨b, off, none⟩) l.length cap) l := brd_in (.inr ⟨b, off, cap, rfl, h2, h3, h4, h5⟩)
    obtain ⟨W4, hW4⟩ : ∃ W4, W4 = w.alloc (.cells #[] 5) := ⟨_, rfl⟩
    have hb4 : Below w.heap.size w W4 := by rw [hW4]; exact (Below.refl _ _).alloc (Nat.le_refl _) _
    have hblk : W4.heap[w.heap.size]? = some (.cells #[] 5 (0, 0)) := by rw [hW4]; exact heap_alloc_new w _
    have HO4 : Hid (BOwn W4 w.heap.size (.slice (some ⟨w.heap.size, 0, none⟩) 0 0) []) := Lib.hid ⟨rfl, .inr ⟨w.heap.size, 0, #[], rfl, Nat.le_refl _, hblk, by simp, by simp only [maxLen]; omega, rfl, rfl⟩⟩
    have HI4 := Lib.hid (hin.later hb4)
    have HB4 := Lib.hid hb4
    replace hW4 := Lib.hid hW4
    clear hin hb4 hblk h5
    generalize hn : l.length = n at *
    have HN := Lib.hid hn; clear hn
    have hnil := fun w => Lib.run_eql_slice_nil (P := Tryz.prog) w 22 5 (some ⟨b, off, none⟩) n cap 0 0 Tryz.underlying22
    go_enter Tryz.func29, Tryz.ntmps29
    go_wp2_with (at_builtin; rw [← hW4.out]; refine Bt.wpList_append_bytes _ rfl _ _ rfl w.heap.size _ _ [] l rfl rfl HO4.out HI4.out (by simp only [List.length_nil]; have := HN.out; omega) HB4.out.size ?_; intro v5 w5 hown5 hg5 hb5; have HO5 := Lib.hid hown5; have HB5 := Lib.hid (HB4.out.trans hb5); clear hown5 hg5 hb5)
    go_ret
    exact ⟨_, rfl, by simpa using HO5.out, HB5.out⟩

/-- What taking leaves. -/
def Took (w : World) (g : Nat) (l : List Nat) (n : Nat) (r : Ending) (w' : World) : Prop := ∃ v' x, r = .returned x ∧ BRd w' x (l.take n) ∧ RAt w' g v' (l.drop n) false ∧ OnlyAt w w' g none
set_option maxRecDepth 100000 in
theorem take_ok (g : Nat) (v : Value) (l : List Nat) (hl : l.length ≤ 17592186044416) (n : Nat) (hn : n ≤ l.length) (w : World) (h : RAt w g v l false) :
    Calls Tryz.prog 30 #[.pointer (some ⟨g, 0, none⟩), .int .i64 n] w (Took w g l n) := by
  have HC := Lib.hid (cut_ok g v l n hn w h)
  have HL : Hid ((l.take n).length ≤ 17592186044416) := Lib.hid (by rw [List.length_take]; omega)
  obtain ⟨c0, c1, c2, c3⟩ := h.cells
  clear h c2
  unfold Cut at HC
  go_enter Tryz.func30, Tryz.ntmps30
  go_wp2_with fail
  refine HC.out.mono ?_
  rintro e w1 ⟨v', x, rfl, hx, hfx, hr, ho⟩
  have HX := Lib.hid (clone_any x (l.take n) HL.out w1 hx)
  have HR := Lib.hid hr; have HO := Lib.hid ho
  clear hx hfx hr ho
  go_wp2_with fail
  refine HX.out.mono ?_
  rintro e w2 ⟨y, rfl, hy, hb⟩
  have HY := Lib.hid (brd_own hy); have HB := Lib.hid hb
  clear hy hb
  go_wp2_with fail
  go_ret
  exact ⟨v', y, rfl, HY.out, HR.out.later HB.out, HO.out.trans (OnlyAt.of_below HB.out)⟩
set_option maxRecDepth 100000 in
theorem take_no (g : Nat) (v : Value) (l : List Nat) (bad : Bool) (n : Int) (h0 : 0 ≤ n) (hn : bad = true ∨ (l.length : Int) < n) (w : World) (h : RAt w g v l bad) :
    Calls Tryz.prog 30 #[.pointer (some ⟨g, 0, none⟩), .int .i64 n] w fun r w' => r = .returned (.slice none 0 0) ∧ RAt w' g v l true ∧ OnlyAt w w' g none := by
  have HC := Lib.hid (cut_no g v l bad n h0 hn w h)
  have HX := Lib.hid fun W => clone_nil W
  obtain ⟨c0, c1, c2, c3⟩ := h.cells
  clear h c2
  go_enter Tryz.func30, Tryz.ntmps30
  go_wp2_with fail
  refine HC.out.mono ?_
  rintro e w1 ⟨rfl, hr, ho⟩
  have HR := Lib.hid hr; have HO := Lib.hid ho
  clear hr ho
  go_wp2_with fail
  refine (HX.out _).mono ?_
  rintro e w2 ⟨rfl, hb⟩
  have HB := Lib.hid hb
  clear hb
  go_wp2_with fail
  go_ret
  exact ⟨rfl, HR.out.later HB.out, HO.out.trans (OnlyAt.of_below HB.out)⟩
set_option maxRecDepth 100000 in
theorem ok_any (g : Nat) (v : Value) (l : List Nat) (bad : Bool) (w : World) (h : RAt w g v l bad) :
    Calls Tryz.prog 32 #[.pointer (some ⟨g, 0, none⟩)] w fun r w' => r = .returned (.bool (!bad)) ∧ w = w' := by
  obtain ⟨c0, c1, c2, c3⟩ := h.cells
  clear h c2
  go_enter Tryz.func32, Tryz.ntmps32
  go_wp2_with fail
  go_ret
  exact ⟨rfl, rfl⟩
set_option maxRecDepth 100000 in
theorem left_any (g : Nat) (v : Value) (l : List Nat) (bad : Bool) (w : World) (h : RAt w g v l bad) :
    Calls Tryz.prog 11 #[.pointer (some ⟨g, 0, none⟩)] w fun r w' => r = .returned (.int .i64 l.length) ∧ w = w' := by
  obtain ⟨c0, c1, c2, c3⟩ := h.cells
  obtain ⟨A, cap, hv⟩ := h.rd.form
  rw [hv] at c0
  clear h c2
  go_enter Tryz.func11, Tryz.ntmps11
  go_wp2_with fail
  go_ret
  exact ⟨rfl, rfl⟩
set_option maxRecDepth 100000 in
theorem done_any (g : Nat) (v : Value) (l : List Nat) (bad : Bool) (w : World) (h : RAt w g v l bad) :
    Calls Tryz.prog 19 #[.pointer (some ⟨g, 0, none⟩)] w fun r w' => r = .returned (.bool (!bad && l.isEmpty)) ∧ w = w' := by
  have HO := Lib.hid (ok_any g v l bad w h)
  have HL := Lib.hid (left_any g v l bad w h)
  clear h
  cases bad with
  | true =>
    go_enter Tryz.func19, Tryz.ntmps19
    go_wp2_with fail
    refine HO.out.mono ?_
    rintro e w1 ⟨rfl, rfl⟩
    go_wp2_with fail
    go_ret
    exact ⟨rfl, rfl⟩
  | false =>
    have hk : Hid (((l.length : Int) == 0) = l.isEmpty) := Lib.hid (by cases l with
      | nil => rfl
      | cons a l => rw [beq_eq_false_iff_ne.2 (by simp; omega)]; rfl)
    go_enter Tryz.func19, Tryz.ntmps19
    go_wp2_with fail
    refine HO.out.mono ?_
    rintro e w1 ⟨rfl, rfl⟩
    go_wp2_with fail
    refine HL.out.mono ?_
    rintro e w1 ⟨rfl, rfl⟩
    go_wp2_with fail
    go_ret
    exact ⟨ret_bool hk.out, rfl⟩
set_option maxRecDepth 100000 in
theorem new_any (v : Value) (l : List Nat) (hl : l.length ≤ 17592186044416) (w : World) (h : BRd w v l) :
    Calls Tryz.prog 7 #[v] w fun r w' => ∃ g x, r = .returned (.pointer (some ⟨g, 0, none⟩)) ∧ RAt w' g x l false ∧ w.heap.size ≤ g ∧ Below w.heap.size w w' := by
  have HC := Lib.hid (clone_any v l hl w h)
  clear h
  go_enter Tryz.func7, Tryz.ntmps7
  go_wp2_with fail
  refine HC.out.mono ?_
  rintro e w1 ⟨x, rfl, hx, hb⟩
  obtain ⟨A, n, cap, hxv⟩ := Cn.slice_form hx
  subst hxv
  have HX := Lib.hid hx; have HB := Lib.hid hb
  clear hx hb
  go_wp2_with fail
  go_ret
  have hblk := heap_alloc_new w1 (.cells #[.slice A n cap, .bool false] 60)
  have hb2 : Below w1.heap.size w1 (w1.alloc (.cells #[.slice A n cap, .bool false] 60)) := (Below.refl _ _).alloc (Nat.le_refl _) _
  exact ⟨w1.heap.size, _, rfl, ⟨hblk, (brd_own HX.out).later hb2, fun k hk => brd_block (brd_own HX.out) k hk⟩, HB.out.size, HB.out.trans (hb2.mono HB.out.size)⟩
end Rd
end Go.Proofs.YtcbddebmmaflgaaGreatDoor
namespace Go.Proofs.YtcbddebmmaflgaaGreatDoor
open Go.RowKit
set_option linter.unusedVariables false
set_option linter.unusedSimpArgs false
namespace Rd
open _root_.Go.Proofs.YtcbddebmmaflgaaGreatDoor.Nm (ret_int ret_bool)
open Vt (below_drew)
open Ev (take_drop tk cons_drop)
open Bt (BOwn BIn bv ubytes uint_any)
open Cn (BRd brd_own bequal_any)
open Cm (OnlyAt)

/-- Bytes are bytes. -/
def Byt (l : List Nat) : Prop := ∀ b ∈ l, b < 256
/-- What peeking leaves. -/
def Peeked (w : World) (l : List Nat) (bad : Bool) (r : Ending) (w' : World) : Prop := r = .returned (match (if bad then none else num l) with | some (x, n) => .tuple #[.int .u64 x, .int .i64 n, .bool true] | none => .tuple #[.int .u64 0, .int .i64 0, .bool false]) ∧ Below w.heap.size w w'

theorem and_127 : ∀ r : Fin 256, bits BinOp.and IntKind.u8 (r.val : Int) 127 = ((r.val % 128 : Nat) : Int) := by decide +kernel
theorem or_step (X c j : Nat) (hX : X < 18446744073709551616) : bits BinOp.or IntKind.u64 (X : Int) (IntKind.u64.wrap ((c : Int) % 128 * 2 ^ (7 * j))) = ((X ||| (c % 128 * 128 ^ j) % 18446744073709551616 : Nat) : Int) := by
  have e1 : (2 : Int) ^ (7 * j) = ((128 ^ j : Nat) : Int) := by
    rw [show ((128 : Nat) ^ j) = 2 ^ (7 * j) from by rw [show (128 : Nat) = 2 ^ 7 from rfl, ← Nat.pow_mul]]
    simp
  rw [e1, IntKind.wrap_u64, show (c : Int) % 128 * ((128 ^ j : Nat) : Int) = ((c % 128 * 128 ^ j : Nat) : Int) from by rw [Int.natCast_mul]; rfl]
  generalize c % 128 * 128 ^ j = y
  rw [show ((y : Nat) : Int) % 18446744073709551616 = ((y % 18446744073709551616 : Nat) : Int) from by omega]
  exact bits_or_u64_nat X _ hX (Nat.mod_lt _ (by omega))
theorem or_step_lt (X c j : Nat) (hX : X < 18446744073709551616) : X ||| (c % 128 * 128 ^ j) % 18446744073709551616 < 18446744073709551616 := Nat.or_lt_two_pow (n := 64) hX (Nat.mod_lt _ (by omega))
theorem drop_cons {l : List Nat} {j : Nat} (h : j < l.length) : l.drop j = l[j] :: l.drop (j + 1) := List.drop_eq_getElem_cons h
theorem peeked_yes {w w' : World} {l : List Nat} {x n : Nat} (h : num l = some (x, n)) (hb : Below w.heap.size w w') : Peeked w l false (.returned (.tuple #[.int .u64 x, .int .i64 n, .bool true])) w' := by
  unfold Peeked; rw [if_neg (by simp), h]; exact ⟨rfl, hb⟩
theorem peeked_no {w w' : World} {l : List Nat} (h : num l = none) (hb : Below w.heap.size w w') : Peeked w l false (.returned (.tuple #[.int .u64 0, .int .i64 0, .bool false])) w' := by
  unfold Peeked; rw [if_neg (by simp), h]; exact ⟨rfl, hb⟩

set_option maxRecDepth 100000 in
set_option maxHeartbeats 2000000 in
theorem peek_bad (g : Nat) (v : Value) (l : List Nat) (w : World) (h : RAt w g v l true) :
    Calls Tryz.prog 76 #[.pointer (some ⟨g, 0, none⟩)] w (Peeked w l true) := by
  obtain ⟨c0, c1, c2, c3⟩ := h.cells
  clear h c2
  go_enter Tryz.func76, Tryz.ntmps76
  go_wp2_with fail
  exact bodyPost_ret (v := .tuple #[.int .u64 0, .int .i64 0, .bool false]) (by simp [results, Tryz.results76, go_sem]) rfl ⟨rfl, Below.refl _ _⟩

set_option maxRecDepth 100000 in
set_option maxHeartbeats 2000000 in
theorem peek_good (g : Nat) (v : Value) (l : List Nat) (hb : Byt l) (w : World) (h : RAt w g v l false) (hne : ¬ (v = .slice none 0 0 ∧ l = [])) :
    Calls Tryz.prog 76 #[.pointer (some ⟨g, 0, none⟩)] w (Peeked w l false) := by
  obtain ⟨b, off, cap, hv, h2, h3, h4, h5⟩ := h.rd.resolve_left hne
  subst hv
  simp only [maxLen] at h3
  have HNE := Lib.hid hne
  clear h5 hne
  have HR := Lib.hid h
  obtain ⟨c0, c1, c2, c3⟩ := h.cells
  have KS : Hid (∀ W' : World, Below w.heap.size w W' → (W'.cell? ⟨g, 0, none⟩ = some (.slice (some ⟨b, off, none⟩) l.length cap) ∧ W'.cell? ⟨g, 1, none⟩ = some (.bool false))) := Lib.hid fun W' hW => by
    obtain ⟨c0, c1, -, -⟩ := (HR.out.later hW).cells
    exact ⟨c0, c1⟩
  clear h c2
  go_enter Tryz.func76, Tryz.ntmps76
  obtain ⟨k, hk⟩ : ∃ k, k = min l.length 10 := ⟨_, rfl⟩
  have hmin : (if (10 : Int) < (l.length : Int) then (10 : Int) else (l.length : Int)) = (k : Int) := by split <;> omega
  have hk2 : k ≤ cap := by omega
  have hk3 : k ≤ l.length := by omega
  have HK := Lib.hid hk
  clear hk
  go_upto_region 3 with fail
  clear c0 c1
  refine wp_region_noPanic ?_
  refine wp_region_held_drew (S := (fun W' : World => W'.cell? ⟨g, 0, none⟩ = some (.slice (some ⟨b, off, none⟩) l.length cap) ∧ W'.cell? ⟨g, 1, none⟩ = some (.bool false))) (by kernel_rfl) ?_ (fun hHeld => ?_)
  · exact KS.out _ (below_drew (Below.refl _ _))
  refine tk (i := 0) rfl ?_
  try simp only [Act.put, List.setIfInBounds_toArray, List.set_cons_zero, List.set_cons_succ]
  refine tk (i := 1) rfl ?_
  try simp only [Act.put, List.setIfInBounds_toArray, List.set_cons_zero, List.set_cons_succ]
  refine tk (i := 2) rfl ?_
  try simp only [Act.put, List.setIfInBounds_toArray, List.set_cons_zero, List.set_cons_succ]
  refine tk (i := 3) rfl ?_
  try simp only [Act.put, List.setIfInBounds_toArray, List.set_cons_zero, List.set_cons_succ]
  refine tk (i := 4) rfl ?_
  try simp only [Act.put, List.setIfInBounds_toArray, List.set_cons_zero, List.set_cons_succ]
  refine tk (i := 5) rfl ?_
  try simp only [Act.put, List.setIfInBounds_toArray, List.set_cons_zero, List.set_cons_succ]
  refine tk (i := 6) rfl ?_
  try simp only [Act.put, List.setIfInBounds_toArray, List.set_cons_zero, List.set_cons_succ]
  refine tk (i := 7) rfl ?_
  try simp only [Act.put, List.setIfInBounds_toArray, List.set_cons_zero, List.set_cons_succ]
  refine tk (i := 8) rfl ?_
  try simp only [Act.put, List.setIfInBounds_toArray, List.set_cons_zero, List.set_cons_succ]
  refine tk (i := 9) rfl ?_
  try simp only [Act.put, List.setIfInBounds_toArray, List.set_cons_zero, List.set_cons_succ]
  refine tk (i := 10) rfl ?_
  try simp only [Act.put, List.setIfInBounds_toArray, List.set_cons_zero, List.set_cons_succ]
  refine tk (i := 11) rfl ?_
  try simp only [Act.put, List.setIfInBounds_toArray, List.set_cons_zero, List.set_cons_succ]
  refine tk (i := 12) rfl ?_
  try simp only [Act.put, List.setIfInBounds_toArray, List.set_cons_zero, List.set_cons_succ]
  refine tk (i := 13) rfl ?_
  try simp only [Act.put, List.setIfInBounds_toArray, List.set_cons_zero, List.set_cons_succ]
  refine tk (i := 14) rfl ?_
  try simp only [Act.put, List.setIfInBounds_toArray, List.set_cons_zero, List.set_cons_succ]
  refine wpAnyH_done (by kernel_rfl) ?_ _
  refine NoPanic.normal ?_
  go_wp2_with fail
  go_loopw [2, 3, 30] (fun xv nv iv wr => ∃ (j X : Nat), j ≤ k ∧ iv = .int .i64 j ∧ nv = .int .i64 0 ∧ xv = .int .u64 X ∧ X < 18446744073709551616 ∧ pk 10 0 0 l = pk (10 - j) j X (l.drop j) ∧ Below w.heap.size w wr) (fun _ _ i _ => k - (intOf i).toNat)
  case atStart => exact ⟨0, 0, by omega, rfl, rfl, rfl, by omega, rfl, below_drew (Below.refl _ _)⟩
  case round =>
    obtain ⟨j, X, hj, rfl, rfl, rfl, hX, hpk, hbw⟩ := hrel
    have HB := Lib.hid hbw
    have HPK := Lib.hid hpk
    clear hpk hbw
    by_cases hlt : j < k
    · have hjl : j < l.length := by omega
      obtain ⟨b', off', cap', e1, -, -, e4, e5⟩ := (HR.out.rd.later HB.out).resolve_left HNE.out
      injection e1 with e1 _ e2
      injection e1 with e1
      injection e1 with e1 e3
      subst e1 e3 e2
      have c1 := e5 j hjl
      obtain ⟨c, hc⟩ : ∃ c, c = l[j] := ⟨_, rfl⟩
      rw [← hc] at c1
      have hcb : c < 256 := by rw [hc]; exact hb _ (List.getElem_mem hjl)
      have HC := Lib.hid hc
      clear hc e5
      have hand : bits BinOp.and IntKind.u8 (c : Int) 127 = ((c % 128 : Nat) : Int) := and_127 ⟨c, hcb⟩
      obtain ⟨d, hd⟩ : ∃ d, d = c % 128 := ⟨_, rfl⟩
      rw [← hd] at hand
      by_cases hc128 : c < 128
      · go_wp2_with fail
        rw [or_step X c j hX]
        obtain ⟨Y, hY⟩ : ∃ Y, Y = X ||| (c % 128 * 128 ^ j) % 18446744073709551616 := ⟨_, rfl⟩
        have hYl : Y < 18446744073709551616 := by rw [hY]; exact or_step_lt X c j hX
        rw [← hY]
        have hfin : pk 10 0 0 l = (Y, j + 1) := by
          rw [HPK.out, drop_cons hjl, show 10 - j = (10 - j - 1) + 1 by omega, ← HC.out, pk, if_pos hc128, hY]
        have HFIN : Hid (num l = if ubytes 10 Y ≠ l.take (j + 1) then none else some (Y, j + 1)) := Lib.hid (by
          rw [peek_num hb, hfin]
          by_cases q : ubytes 10 Y = l.take (j + 1)
          · rw [if_neg (by simp [q]), if_neg (by simp [q])]
          · rw [if_pos (.inr q), if_pos q])
        have hj1 : ((j : Int) + 1 == 0) = false := by simp; omega
        have hj2 : j + 1 ≤ cap := by omega
        have hj3 : (0 : Int) ≤ (j : Int) + 1 := by omega
        have hj4 : (j : Int) + 1 ≤ (cap : Int) := by omega
        have HU := Lib.hid fun W => uint_any Y hYl W
        have HT : Hid (∀ W, Below wr.heap.size wr W → BRd W (.slice (some ⟨b, off, none⟩) (j + 1) cap) (l.take (j + 1))) := Lib.hid fun W hW => brd_take ((HR.out.rd.later HB.out).later hW) (by omega)
        clear hfin hY hand hd c1
        go_upto_region 10 with fail
        refine wp_region_noPanic ?_
        refine wp_region_held_drew (S := (fun W' : World => W'.cell? ⟨g, 0, none⟩ = some (.slice (some ⟨b, off, none⟩) l.length cap) ∧ W'.cell? ⟨g, 1, none⟩ = some (.bool false))) (by kernel_rfl) ?_ (fun hHeld => ?_)
        · exact KS.out _ (HB.out.trans ((below_drew (Below.refl wr.heap.size wr)).mono HB.out.size))
        refine tk (i := 0) rfl ?_
        try simp only [Act.put, List.setIfInBounds_toArray, List.set_cons_zero, List.set_cons_succ]
        refine tk (i := 1) rfl ?_
        try simp only [Act.put, List.setIfInBounds_toArray, List.set_cons_zero, List.set_cons_succ]
        refine tk (i := 2) rfl ?_
        try simp only [Act.put, List.setIfInBounds_toArray, List.set_cons_zero, List.set_cons_succ]
        refine tk (i := 3) rfl ?_
        try simp only [Act.put, List.setIfInBounds_toArray, List.set_cons_zero, List.set_cons_succ]
        refine tk (i := 5) rfl ?_
        try simp only [Act.put, List.setIfInBounds_toArray, List.set_cons_zero, List.set_cons_succ]
        refine tk (i := 6) rfl ?_
        try simp only [Act.put, List.setIfInBounds_toArray, List.set_cons_zero, List.set_cons_succ]
        refine tk (i := 7) rfl ?_
        try simp only [Act.put, List.setIfInBounds_toArray, List.set_cons_zero, List.set_cons_succ]
        refine tk (i := 8) rfl ?_
        try simp only [Act.put, List.setIfInBounds_toArray, List.set_cons_zero, List.set_cons_succ]
        refine tk (i := 9) rfl ?_
        try simp only [Act.put, List.setIfInBounds_toArray, List.set_cons_zero, List.set_cons_succ]
        refine tk (i := 10) rfl ?_
        try simp only [Act.put, List.setIfInBounds_toArray, List.set_cons_zero, List.set_cons_succ]
        refine tk (i := 11) rfl ?_
        try simp only [Act.put, List.setIfInBounds_toArray, List.set_cons_zero, List.set_cons_succ]
        refine wpAnyH_ready (rs := [4]) (by kernel_rfl) (by simp) ?_
        refine cons_drop rfl (fun K hK => ?_) AllReadyH.nil
        go_simp
        refine (HU.out _).mono ?_
        rintro e w2 ⟨v2, rfl, ho, hb2⟩
        have HB2 : Hid (Below wr.heap.size wr w2) := Lib.hid ((below_drew (Below.refl _ _)).trans hb2)
        have HO := Lib.hid (brd_own ho)
        clear ho hb2
        go_wp2_with fail
        refine hK.out _ _ (KS.out _ (HB.out.trans (HB2.out.mono HB.out.size))) (fun hHeld2 => ?_)
        clear hK K hHeld
        try simp only [Act.put, List.setIfInBounds_toArray, List.set_cons_zero, List.set_cons_succ]
        refine wpAnyH_ready (rs := [12]) (by kernel_rfl) (by simp) ?_
        refine cons_drop rfl (fun K hK => ?_) AllReadyH.nil
        go_simp
        refine (bequal_any (ubytes 10 Y) (l.take (j + 1)) v2 _ _ HO.out (HT.out _ HB2.out)).mono ?_
        rintro e w3 ⟨rfl, hb2⟩
        have HB3 : Hid (Below wr.heap.size wr w3) := Lib.hid (HB2.out.trans (hb2.mono HB2.out.size))
        clear hb2
        go_wp2_with fail
        refine hK.out _ _ (KS.out _ (HB.out.trans (HB3.out.mono HB.out.size))) (fun hHeld3 => ?_)
        clear hK K hHeld2
        try simp only [Act.put, List.setIfInBounds_toArray, List.set_cons_zero, List.set_cons_succ]
        have HBF := Lib.hid (HB.out.trans (HB3.out.mono HB.out.size))
        obtain ⟨q, hq⟩ : ∃ q, q = decide (ubytes 10 Y = l.take (j + 1)) := ⟨_, rfl⟩
        rw [← hq]
        have HQ := Lib.hid hq
        clear hq
        cases q with
        | true =>
          refine tk (i := 13) rfl ?_
          try simp only [Act.put, List.setIfInBounds_toArray, List.set_cons_zero, List.set_cons_succ]
          refine tk (i := 14) rfl ?_
          try simp only [Act.put, List.setIfInBounds_toArray, List.set_cons_zero, List.set_cons_succ]
          refine wpAnyH_done (by kernel_rfl) ?_ _
          refine NoPanic.normal ?_
          go_wp2_with fail
          have hn : num l = some (Y, j + 1) := by rw [HFIN.out, if_neg]; exact fun h => h (of_decide_eq_true HQ.out.symm)
          exact bodyPost_ret (v := .tuple #[.int .u64 Y, .int .i64 (j + 1 : Nat), .bool true]) (by simp [results, Tryz.results76, go_sem]) rfl (peeked_yes hn HBF.out)
        | false =>
          refine tk (i := 13) rfl ?_
          try simp only [Act.put, List.setIfInBounds_toArray, List.set_cons_zero, List.set_cons_succ]
          refine tk (i := 14) rfl ?_
          try simp only [Act.put, List.setIfInBounds_toArray, List.set_cons_zero, List.set_cons_succ]
          refine wpAnyH_done (by kernel_rfl) ?_ _
          refine NoPanic.normal ?_
          go_wp2_with fail
          have hn : num l = none := by rw [HFIN.out, if_pos (of_decide_eq_false HQ.out.symm)]
          exact bodyPost_ret (v := .tuple #[.int .u64 0, .int .i64 0, .bool false]) (by simp [results, Tryz.results76, go_sem]) rfl (peeked_no hn HBF.out)
      · go_wp2_with fail
        rw [or_step X c j hX]
        go_roundw
        case rel => exact ⟨j + 1, _, by omega, by go_num, rfl, rfl, or_step_lt X c j hX, by rw [HPK.out, drop_cons hjl, show 10 - j = (10 - (j + 1)) + 1 by omega, ← HC.out, pk, if_neg hc128], HB.out⟩
        case measure => simp [intOf]; omega
    · have hjk : j = k := by omega
      have hfin : pk 10 0 0 l = (X, 0) := by
        rw [HPK.out]
        by_cases h10 : j = 10
        · rw [h10]; rfl
        · rw [List.drop_eq_nil_of_le (by have := HK.out; omega), show 10 - j = (10 - j - 1) + 1 by omega]; rfl
      have HNO : Hid (num l = none) := Lib.hid (by rw [peek_num hb, hfin, if_pos (.inl rfl)])
      subst hjk
      clear hfin
      go_upto_region 10 with fail
      refine wp_region_noPanic ?_
      refine wp_region_held_drew (S := (fun W' : World => W'.cell? ⟨g, 0, none⟩ = some (.slice (some ⟨b, off, none⟩) l.length cap) ∧ W'.cell? ⟨g, 1, none⟩ = some (.bool false))) (by kernel_rfl) ?_ (fun hHeld => ?_)
      · exact KS.out _ (HB.out.trans ((below_drew (Below.refl wr.heap.size wr)).mono HB.out.size))
      refine tk (i := 0) rfl ?_
      try simp only [Act.put, List.setIfInBounds_toArray, List.set_cons_zero, List.set_cons_succ]
      refine tk (i := 1) rfl ?_
      try simp only [Act.put, List.setIfInBounds_toArray, List.set_cons_zero, List.set_cons_succ]
      refine tk (i := 2) rfl ?_
      try simp only [Act.put, List.setIfInBounds_toArray, List.set_cons_zero, List.set_cons_succ]
      refine tk (i := 3) rfl ?_
      try simp only [Act.put, List.setIfInBounds_toArray, List.set_cons_zero, List.set_cons_succ]
      refine tk (i := 4) rfl ?_
      try simp only [Act.put, List.setIfInBounds_toArray, List.set_cons_zero, List.set_cons_succ]
      refine tk (i := 5) rfl ?_
      try simp only [Act.put, List.setIfInBounds_toArray, List.set_cons_zero, List.set_cons_succ]
      refine tk (i := 6) rfl ?_
      try simp only [Act.put, List.setIfInBounds_toArray, List.set_cons_zero, List.set_cons_succ]
      refine tk (i := 7) rfl ?_
      try simp only [Act.put, List.setIfInBounds_toArray, List.set_cons_zero, List.set_cons_succ]
      refine tk (i := 8) rfl ?_
      try simp only [Act.put, List.setIfInBounds_toArray, List.set_cons_zero, List.set_cons_succ]
      refine tk (i := 9) rfl ?_
      try simp only [Act.put, List.setIfInBounds_toArray, List.set_cons_zero, List.set_cons_succ]
      refine tk (i := 10) rfl ?_
      try simp only [Act.put, List.setIfInBounds_toArray, List.set_cons_zero, List.set_cons_succ]
      refine tk (i := 11) rfl ?_
      try simp only [Act.put, List.setIfInBounds_toArray, List.set_cons_zero, List.set_cons_succ]
      refine tk (i := 12) rfl ?_
      try simp only [Act.put, List.setIfInBounds_toArray, List.set_cons_zero, List.set_cons_succ]
      refine tk (i := 13) rfl ?_
      try simp only [Act.put, List.setIfInBounds_toArray, List.set_cons_zero, List.set_cons_succ]
      refine tk (i := 14) rfl ?_
      try simp only [Act.put, List.setIfInBounds_toArray, List.set_cons_zero, List.set_cons_succ]
      refine wpAnyH_done (by kernel_rfl) ?_ _
      refine NoPanic.normal ?_
      go_wp2_with fail
      exact bodyPost_ret (v := .tuple #[.int .u64 0, .int .i64 0, .bool false]) (by simp [results, Tryz.results76, go_sem]) rfl (peeked_no HNO.out (below_drew HB.out))

set_option maxRecDepth 100000 in
set_option maxHeartbeats 2000000 in
theorem peek_nil (g : Nat) (w : World) (h : RAt w g (.slice none 0 0) [] false) :
    Calls Tryz.prog 76 #[.pointer (some ⟨g, 0, none⟩)] w (Peeked w [] false) := by
  have HR := Lib.hid h
  obtain ⟨c0, c1, c2, c3⟩ := h.cells
  have KS : Hid (∀ W' : World, Below w.heap.size w W' → (W'.cell? ⟨g, 0, none⟩ = some (.slice none 0 0) ∧ W'.cell? ⟨g, 1, none⟩ = some (.bool false))) := Lib.hid fun W' hW => by
    obtain ⟨c0, c1, -, -⟩ := (HR.out.later hW).cells
    exact ⟨c0, c1⟩
  have HNO : Hid (num [] = none) := Lib.hid rfl
  clear h c2
  go_enter Tryz.func76, Tryz.ntmps76
  go_upto_region 3 with fail
  clear c0 c1
  refine wp_region_noPanic ?_
  refine wp_region_held_drew (S := (fun W' : World => W'.cell? ⟨g, 0, none⟩ = some (.slice none 0 0) ∧ W'.cell? ⟨g, 1, none⟩ = some (.bool false))) (by kernel_rfl) ?_ (fun hHeld => ?_)
  · exact KS.out _ (below_drew (Below.refl _ _))
  refine tk (i := 0) rfl ?_
  try simp only [Act.put, List.setIfInBounds_toArray, List.set_cons_zero, List.set_cons_succ]
  refine tk (i := 1) rfl ?_
  try simp only [Act.put, List.setIfInBounds_toArray, List.set_cons_zero, List.set_cons_succ]
  refine tk (i := 2) rfl ?_
  try simp only [Act.put, List.setIfInBounds_toArray, List.set_cons_zero, List.set_cons_succ]
  refine tk (i := 3) rfl ?_
  try simp only [Act.put, List.setIfInBounds_toArray, List.set_cons_zero, List.set_cons_succ]
  refine tk (i := 4) rfl ?_
  try simp only [Act.put, List.setIfInBounds_toArray, List.set_cons_zero, List.set_cons_succ]
  refine tk (i := 5) rfl ?_
  try simp only [Act.put, List.setIfInBounds_toArray, List.set_cons_zero, List.set_cons_succ]
  refine tk (i := 6) rfl ?_
  try simp only [Act.put, List.setIfInBounds_toArray, List.set_cons_zero, List.set_cons_succ]
  refine tk (i := 7) rfl ?_
  try simp only [Act.put, List.setIfInBounds_toArray, List.set_cons_zero, List.set_cons_succ]
  refine tk (i := 8) rfl ?_
  try simp only [Act.put, List.setIfInBounds_toArray, List.set_cons_zero, List.set_cons_succ]
  refine tk (i := 9) rfl ?_
  try simp only [Act.put, List.setIfInBounds_toArray, List.set_cons_zero, List.set_cons_succ]
  refine tk (i := 10) rfl ?_
  try simp only [Act.put, List.setIfInBounds_toArray, List.set_cons_zero, List.set_cons_succ]
  refine tk (i := 11) rfl ?_
  try simp only [Act.put, List.setIfInBounds_toArray, List.set_cons_zero, List.set_cons_succ]
  refine tk (i := 12) rfl ?_
  try simp only [Act.put, List.setIfInBounds_toArray, List.set_cons_zero, List.set_cons_succ]
  refine tk (i := 13) rfl ?_
  try simp only [Act.put, List.setIfInBounds_toArray, List.set_cons_zero, List.set_cons_succ]
  refine tk (i := 14) rfl ?_
  try simp only [Act.put, List.setIfInBounds_toArray, List.set_cons_zero, List.set_cons_succ]
  refine wpAnyH_done (by kernel_rfl) ?_ _
  refine NoPanic.normal ?_
  go_wp2_with fail
  go_loopw [2, 3, 30] (fun xv nv iv wr => iv = .int .i64 0 ∧ nv = .int .i64 0 ∧ xv = .int .u64 0 ∧ Below w.heap.size w wr) (fun _ _ i _ => 0)
  case atStart => exact ⟨rfl, rfl, rfl, below_drew (Below.refl _ _)⟩
  case round =>
    obtain ⟨rfl, rfl, rfl, hbw⟩ := hrel
    have HB := Lib.hid hbw
    clear hbw
    go_upto_region 10 with fail
    refine wp_region_noPanic ?_
    refine wp_region_held_drew (S := (fun W' : World => W'.cell? ⟨g, 0, none⟩ = some (.slice none 0 0) ∧ W'.cell? ⟨g, 1, none⟩ = some (.bool false))) (by kernel_rfl) ?_ (fun hHeld => ?_)
    · exact KS.out _ (HB.out.trans ((below_drew (Below.refl wr.heap.size wr)).mono HB.out.size))
    refine tk (i := 0) rfl ?_
    try simp only [Act.put, List.setIfInBounds_toArray, List.set_cons_zero, List.set_cons_succ]
    refine tk (i := 1) rfl ?_
    try simp only [Act.put, List.setIfInBounds_toArray, List.set_cons_zero, List.set_cons_succ]
    refine tk (i := 2) rfl ?_
    try simp only [Act.put, List.setIfInBounds_toArray, List.set_cons_zero, List.set_cons_succ]
    refine tk (i := 3) rfl ?_
    try simp only [Act.put, List.setIfInBounds_toArray, List.set_cons_zero, List.set_cons_succ]
    refine tk (i := 4) rfl ?_
    try simp only [Act.put, List.setIfInBounds_toArray, List.set_cons_zero, List.set_cons_succ]
    refine tk (i := 5) rfl ?_
    try simp only [Act.put, List.setIfInBounds_toArray, List.set_cons_zero, List.set_cons_succ]
    refine tk (i := 6) rfl ?_
    try simp only [Act.put, List.setIfInBounds_toArray, List.set_cons_zero, List.set_cons_succ]
    refine tk (i := 7) rfl ?_
    try simp only [Act.put, List.setIfInBounds_toArray, List.set_cons_zero, List.set_cons_succ]
    refine tk (i := 8) rfl ?_
    try simp only [Act.put, List.setIfInBounds_toArray, List.set_cons_zero, List.set_cons_succ]
    refine tk (i := 9) rfl ?_
    try simp only [Act.put, List.setIfInBounds_toArray, List.set_cons_zero, List.set_cons_succ]
    refine tk (i := 10) rfl ?_
    try simp only [Act.put, List.setIfInBounds_toArray, List.set_cons_zero, List.set_cons_succ]
    refine tk (i := 11) rfl ?_
    try simp only [Act.put, List.setIfInBounds_toArray, List.set_cons_zero, List.set_cons_succ]
    refine tk (i := 12) rfl ?_
    try simp only [Act.put, List.setIfInBounds_toArray, List.set_cons_zero, List.set_cons_succ]
    refine tk (i := 13) rfl ?_
    try simp only [Act.put, List.setIfInBounds_toArray, List.set_cons_zero, List.set_cons_succ]
    refine tk (i := 14) rfl ?_
    try simp only [Act.put, List.setIfInBounds_toArray, List.set_cons_zero, List.set_cons_succ]
    refine wpAnyH_done (by kernel_rfl) ?_ _
    refine NoPanic.normal ?_
    go_wp2_with fail
    exact bodyPost_ret (v := .tuple #[.int .u64 0, .int .i64 0, .bool false]) (by simp [results, Tryz.results76, go_sem]) rfl (peeked_no HNO.out (below_drew HB.out))

theorem peek_any (g : Nat) (v : Value) (l : List Nat) (bad : Bool) (hb : Byt l) (w : World) (h : RAt w g v l bad) :
    Calls Tryz.prog 76 #[.pointer (some ⟨g, 0, none⟩)] w (Peeked w l bad) := by
  cases bad with
  | true => exact peek_bad g v l w h
  | false =>
    by_cases hne : v = .slice none 0 0 ∧ l = []
    · obtain ⟨rfl, rfl⟩ := hne
      exact peek_nil g w h
    · exact peek_good g v l hb w h hne
end Rd
end Go.Proofs.YtcbddebmmaflgaaGreatDoor
