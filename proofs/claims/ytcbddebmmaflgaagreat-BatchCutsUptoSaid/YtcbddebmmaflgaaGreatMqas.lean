/- A reader in memory; the small methods of bin.Reader. -/
/- Forms of numbers, bytes and values: what a form is, and that no form is the beginning of another. No program in sight. -/
/- Numbers that are read. No program in sight. -/
import Derived.Test.YtcbddebmmaflgaaGreatMqar
import Derived.Test.YtcbddebmmaflgaaGreatMqai
import Derived.Test.YtcbddebmmaflgaaGreatMqap
import Derived.Test.YtcbddebmmaflgaaGreatMqae
import Derived.Test.YtcbddebmmaflgaaGreatMqab
namespace Go.Proofs.YtcbddebmmaflgaaGreat
open Go.RowKit
set_option linter.unusedVariables false
set_option linter.unusedSimpArgs false
namespace Rd
open _root_.Go.Proofs.YtcbddebmmaflgaaGreat.Nm (ret_int ret_bool)
open Vt (below_drew)
open Bt (BOwn BIn bv run_append_bytes)
open Cn (BRd brd_own)
open Cm (OnlyAt)

theorem brd_in {w : World} {v : Value} {l : List Nat} (h : BRd w v l) : BIn w v l := by
  rcases h with h | ⟨b, off, cap, h1, h2, h3, h4, h5⟩
  · exact .inl h
  · refine .inr ⟨⟨b, off, none⟩, cap, h1, h2, h3, h4, fun j u hu => ?_⟩
    rw [List.getElem?_map] at hu
    obtain ⟨x, hx, rfl⟩ := Option.map_eq_some_iff.1 hu
    obtain ⟨hj, rfl⟩ := List.getElem?_eq_some_iff.1 hx
    rw [show (⟨b, off, none⟩ : Addr).add j = ⟨b, off + j, none⟩ from by by_cases h : j = 0 <;> simp [Addr.add, h]]
    exact h5 j hj
/-- Bytes that lie below a block. -/
def Far (v : Value) (g : Nat) : Prop := ∀ k, v.ownBlock = some k → k < g
/-- A reader: what is left, and whether it is bad. -/
structure RAt (w : World) (g : Nat) (v : Value) (l : List Nat) (bad : Bool) : Prop where
  blk : w.heap[g]? = some (.cells #[v, .bool bad] 73 (0, 0))
  rd : BRd w v l
  far : Far v g
theorem RAt.cells {w : World} {g : Nat} {v : Value} {l : List Nat} {bad : Bool} (h : RAt w g v l bad) : w.cell? ⟨g, 0, none⟩ = some v ∧ w.cell? ⟨g, 1, none⟩ = some (.bool bad) ∧ (∀ o, w.frozen? ⟨g, o, none⟩ = false) ∧ g < w.heap.size := by
  have h1 := h.blk
  exact ⟨by simp [World.cell?, h1], by simp [World.cell?, h1], fun o => by simp [World.frozen?, h1], (Array.getElem?_eq_some_iff.1 h1).1⟩
theorem brd_block {w : World} {v : Value} {l : List Nat} (h : BRd w v l) : ∀ k, v.ownBlock = some k → k < w.heap.size := by
  intro k hk
  rcases h with ⟨rfl, -⟩ | ⟨b, off, cap, rfl, -, -, h4, -⟩
  · cases hk
  · rw [Bt.ownBlock_slice] at hk; cases hk; exact h4
theorem brd_keep {w w' : World} {v : Value} {l : List Nat} (h : BRd w v l) (hz : w.heap.size ≤ w'.heap.size) (hk : ∀ k, v.ownBlock = some k → w'.heap[k]? = w.heap[k]?) : BRd w' v l := by
  rcases h with h | ⟨b, off, cap, rfl, h2, h3, h4, h5⟩
  · exact .inl h
  · exact .inr ⟨b, off, cap, rfl, h2, h3, Nat.lt_of_lt_of_le h4 hz, fun j hj => (World.cell?_of_block (a := ⟨b, off + j, none⟩) (hk b (Bt.ownBlock_slice _ _ _))).trans (h5 j hj)⟩
theorem RAt.later {w w' : World} {g : Nat} {v : Value} {l : List Nat} {bad : Bool} (h : RAt w g v l bad) (hb : Below w.heap.size w w') : RAt w' g v l bad :=
  ⟨(hb.block g h.cells.2.2.2).trans h.blk, h.rd.later hb, h.far⟩
/-- What lies above the reader may turn. -/
theorem RAt.frame {w w' : World} {g : Nat} {v : Value} {l : List Nat} {bad : Bool} (h : RAt w g v l bad) (hz : w.heap.size ≤ w'.heap.size) (hk : ∀ b, b ≤ g → w'.heap[b]? = w.heap[b]?) : RAt w' g v l bad :=
  ⟨(hk g (Nat.le_refl _)).trans h.blk, brd_keep h.rd hz fun k e => hk k (Nat.le_of_lt (h.far k e)), h.far⟩
/-- The reader's own cells turn. -/
theorem brd_set {w : World} {g o : Nat} {v x : Value} {l : List Nat} (h : BRd w v l) (hf : Far v g) : BRd (w.setCell ⟨g, o, none⟩ x) v l :=
  brd_keep h (by simp [World.setCell]) fun k hk => Below.heap_setCell w ⟨g, o, none⟩ x k (by simpa using Nat.ne_of_lt (hf k hk))
theorem RAt.setBad {w : World} {g : Nat} {v : Value} {l : List Nat} {bad : Bool} (h : RAt w g v l bad) (b : Bool) : RAt (w.setCell ⟨g, 1, none⟩ (.bool b)) g v l b :=
  ⟨by have h1 := h.blk; simp [World.setCell, Array.getElem?_modify, h1], brd_set h.rd h.far, h.far⟩
theorem RAt.setB {w : World} {g : Nat} {v v' : Value} {l l' : List Nat} {bad : Bool} (h : RAt w g v l bad) (h' : BRd w v' l') (hf : Far v' g) : RAt (w.setCell ⟨g, 0, none⟩ v') g v' l' bad :=
  ⟨by have h1 := h.blk; simp [World.setCell, Array.getElem?_modify, h1], brd_set h' hf, hf⟩
/-- Cutting bytes. -/
theorem brd_take {w : World} {b off n cap : Nat} {l : List Nat} (h : BRd w (.slice (some ⟨b, off, none⟩) l.length cap) l) (hn : n ≤ l.length) : BRd w (.slice (some ⟨b, off, none⟩) n cap) (l.take n) := by
  rcases h with ⟨h, -⟩ | ⟨b', off', cap', h1, h2, h3, h4, h5⟩
  · cases h
  · injection h1 with h1 _ h1c
    injection h1 with h1
    injection h1 with h1a h1b
    subst h1a h1b h1c
    refine .inr ⟨b, off, cap, by rw [List.length_take, Nat.min_eq_left hn], by rw [List.length_take, Nat.min_eq_left hn]; omega, h3, h4, fun j hj => ?_⟩
    rw [List.length_take, Nat.min_eq_left hn] at hj
    rw [h5 j (by omega), List.getElem_take]
theorem brd_drop {w : World} {b off n cap : Nat} {l : List Nat} (h : BRd w (.slice (some ⟨b, off, none⟩) l.length cap) l) (hn : n ≤ l.length) : BRd w (.slice (some ⟨b, off + n, none⟩) (l.length - n) (cap - n)) (l.drop n) := by
  rcases h with ⟨h, -⟩ | ⟨b', off', cap', h1, h2, h3, h4, h5⟩
  · cases h
  · injection h1 with h1 _ h1c
    injection h1 with h1
    injection h1 with h1a h1b
    subst h1a h1b h1c
    refine .inr ⟨b, off + n, cap - n, by rw [List.length_drop], by rw [List.length_drop]; omega, by omega, h4, fun j hj => ?_⟩
    rw [List.length_drop] at hj
    rw [Nat.add_assoc, h5 (n + j) (by omega), List.getElem_drop]

set_option maxRecDepth 100000 in
theorem fail_any (g : Nat) (v : Value) (l : List Nat) (bad : Bool) (w : World) (h : RAt w g v l bad) :
    Calls Tryz.prog 38 #[.pointer (some ⟨g, 0, none⟩)] w fun r w' => r = .returned (.tuple #[]) ∧ RAt w' g v l true ∧ OnlyAt w w' g none := by
  obtain ⟨c0, c1, c2, c3⟩ := h.cells
  have f1 := c2 1
  have HR := Lib.hid (h.setBad true)
  have HO := Lib.hid ((OnlyAt.of_below (Below.refl w.heap.size w) : OnlyAt w w g none).set 1 (.bool true))
  clear h c2
  go_enter Tryz.func38, Tryz.ntmps38
  go_wp2_with fail
  exact bodyPost_end (results_none rfl _ _ _) rfl ⟨rfl, HR.out, HO.out⟩

set_option maxRecDepth 100000 in
theorem cut_no (g : Nat) (v : Value) (l : List Nat) (bad : Bool) (n : Int) (h0 : 0 ≤ n) (hn : bad = true ∨ (l.length : Int) < n) (w : World) (h : RAt w g v l bad) :
    Calls Tryz.prog 39 #[.pointer (some ⟨g, 0, none⟩), .int .i64 n] w fun r w' => r = .returned (.slice none 0 0) ∧ RAt w' g v l true ∧ OnlyAt w w' g none := by
  obtain ⟨A, cap, hv⟩ := h.rd.form
  obtain ⟨c0, c1, c2, c3⟩ := h.cells
  have HF := Lib.hid fun W (hW : RAt W g v l bad) => fail_any g v l bad W hW
  have HR := Lib.hid h
  have k1 : decide (n < 0) = false := decide_eq_false (by omega)
  rw [hv] at c0
  clear h c2
  cases bad with
  | true =>
    clear hn
    go_enter Tryz.func39, Tryz.ntmps39
    go_wp2_with fail
    refine (HF.out _ HR.out).mono ?_
    rintro x w1 ⟨rfl, hr, ho⟩
    have HR1 := Lib.hid hr; have HO1 := Lib.hid ho
    clear hr ho
    go_wp2_with fail
    go_ret
    exact ⟨rfl, HR1.out, HO1.out⟩
  | false =>
    have hn' : (l.length : Int) < n := hn.resolve_left (by simp)
    have k2 : decide (n > (l.length : Int)) = true := decide_eq_true hn'
    have k3 : decide ((l.length : Int) < n) = true := decide_eq_true hn'
    clear hn hn'
    go_enter Tryz.func39, Tryz.ntmps39
    go_wp2_with fail
    refine (HF.out _ HR.out).mono ?_
    rintro x w1 ⟨rfl, hr, ho⟩
    have HR1 := Lib.hid hr; have HO1 := Lib.hid ho
    clear hr ho
    go_wp2_with fail
    go_ret
    exact ⟨rfl, HR1.out, HO1.out⟩

/-- What a cut leaves. -/
def Cut (w : World) (g : Nat) (l : List Nat) (n : Nat) (r : Ending) (w' : World) : Prop := ∃ v' x, r = .returned x ∧ BRd w' x (l.take n) ∧ Far x g ∧ RAt w' g v' (l.drop n) false ∧ OnlyAt w w' g none
set_option maxRecDepth 100000 in
theorem cut_ok (g : Nat) (v : Value) (l : List Nat) (n : Nat) (hn : n ≤ l.length) (w : World) (h : RAt w g v l false) :
    Calls Tryz.prog 39 #[.pointer (some ⟨g, 0, none⟩), .int .i64 n] w (Cut w g l n) := by
  obtain ⟨c0, c1, c2, c3⟩ := h.cells
  have HR := Lib.hid h
  have f0 := c2 0
  have HO := Lib.hid fun x => (OnlyAt.of_below (Below.refl w.heap.size w) : OnlyAt w w g none).set 0 x
  have k1 : decide ((n : Int) < 0) = false := decide_eq_false (by omega)
  have k2 : decide ((n : Int) > (l.length : Int)) = false := decide_eq_false (by omega)
  have k3 : decide ((l.length : Int) < (n : Int)) = false := decide_eq_false (by omega)
  rcases h.rd with ⟨hv, hl⟩ | ⟨b, off, cap, hv, h2, h3, h4, h5⟩
  · have hn0 : n = 0 := by rw [hl] at hn; simpa using hn
    rw [hv] at c0
    have HV := Lib.hid hv; have HL := Lib.hid hl
    subst hn0
    simp only [hl, List.length_nil] at k2 k3
    have HR2 : Hid (RAt (w.setCell ⟨g, 0, none⟩ (.slice none 0 0)) g (.slice none 0 0) (l.drop 0) false) := Lib.hid (h.setB (.inl ⟨rfl, by rw [hl]; rfl⟩) (fun k hk => by cases hk))
    clear h c2 hv hl
    go_enter Tryz.func39, Tryz.ntmps39
    go_wp2_with fail
    go_ret
    exact ⟨_, _, rfl, .inl ⟨rfl, by rw [HL.out]; rfl⟩, fun k hk => (by cases hk), HR2.out, HO.out _⟩
  · rw [hv] at c0
    simp only [maxLen] at h3
    have hrd := h.rd
    rw [hv] at hrd
    have hbg : b < g := h.far b (by rw [hv]; exact Bt.ownBlock_slice _ _ _)
    have hfar : ∀ (o m c : Nat), Far (.slice (some ⟨b, o, none⟩) m c) g := fun o m c k hk => by rw [Bt.ownBlock_slice] at hk; cases hk; exact hbg
    by_cases hcn : cap = n
    · have hln : l.length = n := by omega
      have hd0 : BRd w (.slice (some ⟨b, off, none⟩) 0 0) (l.drop n) := .inr ⟨b, off, 0, by rw [List.length_drop, hln, Nat.sub_self], by rw [List.length_drop]; omega, Nat.zero_le _, h4, fun j hj => by rw [List.length_drop] at hj; omega⟩
      have HR2 := Lib.hid (h.setB hd0 (hfar _ _ _))
      have HT := Lib.hid (brd_set (g := g) (o := 0) (x := .slice (some ⟨b, off, none⟩) 0 0) (brd_take hrd hn) (hfar _ _ _))
      have HFA := Lib.hid (hfar off n cap)
      clear h c2 hv h5 hrd hd0 hfar hbg
      subst hcn
      go_enter Tryz.func39, Tryz.ntmps39
      go_wp2_with fail
      go_ret
      exact ⟨_, _, rfl, HT.out, HFA.out, HR2.out, HO.out _⟩
    · have HR2 := Lib.hid (h.setB (brd_drop hrd hn) (hfar _ _ _))
      have HT := Lib.hid (brd_set (g := g) (o := 0) (x := .slice (some ⟨b, off + n, none⟩) (l.length - n) (cap - n)) (brd_take hrd hn) (hfar _ _ _))
      have HFA := Lib.hid (hfar off n cap)
      clear h c2 hv h5 hrd hfar hbg
      go_enter Tryz.func39, Tryz.ntmps39
      go_wp2_with fail
      go_ret
      exact ⟨_, _, rfl, HT.out, HFA.out, HR2.out, HO.out _⟩

set_option maxRecDepth 100000 in
/-- Bytes copied. -/
theorem clone_nil (w : World) : Calls Tryz.prog 13 #[.slice none 0 0] w fun r w' => r = .returned (.slice none 0 0) ∧ Below w.heap.size w w' := by
  have hnil := fun w => Lib.run_eql_slice_nil (P := Tryz.prog) w 22 5 none 0 0 0 0 Tryz.underlying22
  go_enter Tryz.func13, Tryz.ntmps13
  go_wp2_with fail
  go_ret
  exact ⟨rfl, Below.refl _ _⟩
set_option maxRecDepth 100000 in
theorem clone_any (v : Value) (l : List Nat) (hl : l.length ≤ 17592186044416) (w : World) (h : BRd w v l) :
    Calls Tryz.prog 13 #[v] w fun r w' => ∃ x, r = .returned x ∧ BOwn w' w.heap.size x l ∧ Below w.heap.size w w' := by
  rcases h with ⟨rfl, rfl⟩ | ⟨b, off, cap, rfl, h2, h3, h4, h5⟩
  · have hnil := fun w => Lib.run_eql_slice_nil (P := Tryz.prog) w 22 5 none 0 0 0 0 Tryz.underlying22
    go_enter Tryz.func13, Tryz.ntmps13
    go_wp2_with fail
    go_ret
    exact ⟨_, rfl, ⟨rfl, .inl ⟨rfl, rfl⟩⟩, Below.refl _ _⟩
  · have hin : BIn w (.slice (some ⟨b, off, none⟩) l.length cap) l := brd_in (.inr ⟨b, off, cap, rfl, h2, h3, h4, h5⟩)
    obtain ⟨W4, hW4⟩ : ∃ W4, W4 = w.alloc (.cells #[] 5) := ⟨_, rfl⟩
    have hb4 : Below w.heap.size w W4 := by rw [hW4]; exact (Below.refl _ _).alloc (Nat.le_refl _) _
    have hblk : W4.heap[w.heap.size]? = some (.cells #[] 5 (0, 0)) := by rw [hW4]; exact heap_alloc_new w _
    have HO4 : Hid (BOwn W4 w.heap.size (.slice (some ⟨w.heap.size, 0, none⟩) 0 0) []) := Lib.hid ⟨rfl, .inr ⟨w.heap.size, 0, #[], rfl, Nat.le_refl _, hblk, by simp, by simp only [maxLen]; omega, rfl, rfl⟩⟩
    have HI4 := Lib.hid (hin.later hb4)
    have HB4 := Lib.hid hb4
    replace hW4 := Lib.hid hW4
    clear hin hb4 hblk h5
    generalize hn : l.length = n at *
    have HN := Lib.hid hn; clear hn
    have hnil := fun w => Lib.run_eql_slice_nil (P := Tryz.prog) w 22 5 (some ⟨b, off, none⟩) n cap 0 0 Tryz.underlying22
    go_enter Tryz.func13, Tryz.ntmps13
    go_wp2_with (at_builtin; rw [← hW4.out]; refine Bt.wpList_append_bytes _ rfl _ _ rfl w.heap.size _ _ [] l rfl rfl HO4.out HI4.out (by simp only [List.length_nil]; have := HN.out; omega) HB4.out.size ?_; intro v5 w5 hown5 hg5 hb5; have HO5 := Lib.hid hown5; have HB5 := Lib.hid (HB4.out.trans hb5); clear hown5 hg5 hb5)
    go_ret
    exact ⟨_, rfl, by simpa using HO5.out, HB5.out⟩

/-- What taking leaves. -/
def Took (w : World) (g : Nat) (l : List Nat) (n : Nat) (r : Ending) (w' : World) : Prop := ∃ v' x, r = .returned x ∧ BRd w' x (l.take n) ∧ RAt w' g v' (l.drop n) false ∧ OnlyAt w w' g none
set_option maxRecDepth 100000 in
theorem take_ok (g : Nat) (v : Value) (l : List Nat) (hl : l.length ≤ 17592186044416) (n : Nat) (hn : n ≤ l.length) (w : World) (h : RAt w g v l false) :
    Calls Tryz.prog 40 #[.pointer (some ⟨g, 0, none⟩), .int .i64 n] w (Took w g l n) := by
  have HC := Lib.hid (cut_ok g v l n hn w h)
  have HL : Hid ((l.take n).length ≤ 17592186044416) := Lib.hid (by rw [List.length_take]; omega)
  obtain ⟨c0, c1, c2, c3⟩ := h.cells
  clear h c2
  unfold Cut at HC
  go_enter Tryz.func40, Tryz.ntmps40
  go_wp2_with fail
  refine HC.out.mono ?_
  rintro e w1 ⟨v', x, rfl, hx, hfx, hr, ho⟩
  have HX := Lib.hid (clone_any x (l.take n) HL.out w1 hx)
  have HR := Lib.hid hr; have HO := Lib.hid ho
  clear hx hfx hr ho
  go_wp2_with fail
  refine HX.out.mono ?_
  rintro e w2 ⟨y, rfl, hy, hb⟩
  have HY := Lib.hid (brd_own hy); have HB := Lib.hid hb
  clear hy hb
  go_wp2_with fail
  go_ret
  exact ⟨v', y, rfl, HY.out, HR.out.later HB.out, HO.out.trans (OnlyAt.of_below HB.out)⟩
set_option maxRecDepth 100000 in
theorem take_no (g : Nat) (v : Value) (l : List Nat) (bad : Bool) (n : Int) (h0 : 0 ≤ n) (hn : bad = true ∨ (l.length : Int) < n) (w : World) (h : RAt w g v l bad) :
    Calls Tryz.prog 40 #[.pointer (some ⟨g, 0, none⟩), .int .i64 n] w fun r w' => r = .returned (.slice none 0 0) ∧ RAt w' g v l true ∧ OnlyAt w w' g none := by
  have HC := Lib.hid (cut_no g v l bad n h0 hn w h)
  have HX := Lib.hid fun W => clone_nil W
  obtain ⟨c0, c1, c2, c3⟩ := h.cells
  clear h c2
  go_enter Tryz.func40, Tryz.ntmps40
  go_wp2_with fail
  refine HC.out.mono ?_
  rintro e w1 ⟨rfl, hr, ho⟩
  have HR := Lib.hid hr; have HO := Lib.hid ho
  clear hr ho
  go_wp2_with fail
  refine (HX.out _).mono ?_
  rintro e w2 ⟨rfl, hb⟩
  have HB := Lib.hid hb
  clear hb
  go_wp2_with fail
  go_ret
  exact ⟨rfl, HR.out.later HB.out, HO.out.trans (OnlyAt.of_below HB.out)⟩
set_option maxRecDepth 100000 in
theorem ok_any (g : Nat) (v : Value) (l : List Nat) (bad : Bool) (w : World) (h : RAt w g v l bad) :
    Calls Tryz.prog 41 #[.pointer (some ⟨g, 0, none⟩)] w fun r w' => r = .returned (.bool (!bad)) ∧ w = w' := by
  obtain ⟨c0, c1, c2, c3⟩ := h.cells
  clear h c2
  go_enter Tryz.func41, Tryz.ntmps41
  go_wp2_with fail
  go_ret
  exact ⟨rfl, rfl⟩
set_option maxRecDepth 100000 in
theorem left_any (g : Nat) (v : Value) (l : List Nat) (bad : Bool) (w : World) (h : RAt w g v l bad) :
    Calls Tryz.prog 51 #[.pointer (some ⟨g, 0, none⟩)] w fun r w' => r = .returned (.int .i64 l.length) ∧ w = w' := by
  obtain ⟨c0, c1, c2, c3⟩ := h.cells
  obtain ⟨A, cap, hv⟩ := h.rd.form
  rw [hv] at c0
  clear h c2
  go_enter Tryz.func51, Tryz.ntmps51
  go_wp2_with fail
  go_ret
  exact ⟨rfl, rfl⟩
set_option maxRecDepth 100000 in
theorem done_any (g : Nat) (v : Value) (l : List Nat) (bad : Bool) (w : World) (h : RAt w g v l bad) :
    Calls Tryz.prog 18 #[.pointer (some ⟨g, 0, none⟩)] w fun r w' => r = .returned (.bool (!bad && l.isEmpty)) ∧ w = w' := by
  have HO := Lib.hid (ok_any g v l bad w h)
  have HL := Lib.hid (left_any g v l bad w h)
  clear h
  cases bad with
  | true =>
    go_enter Tryz.func18, Tryz.ntmps18
    go_wp2_with fail
    refine HO.out.mono ?_
    rintro e w1 ⟨rfl, rfl⟩
    go_wp2_with fail
    go_ret
    exact ⟨rfl, rfl⟩
  | false =>
    have hk : Hid (((l.length : Int) == 0) = l.isEmpty) := Lib.hid (by cases l with
      | nil => rfl
      | cons a l => rw [beq_eq_false_iff_ne.2 (by simp; omega)]; rfl)
    go_enter Tryz.func18, Tryz.ntmps18
    go_wp2_with fail
    refine HO.out.mono ?_
    rintro e w1 ⟨rfl, rfl⟩
    go_wp2_with fail
    refine HL.out.mono ?_
    rintro e w1 ⟨rfl, rfl⟩
    go_wp2_with fail
    go_ret
    exact ⟨ret_bool hk.out, rfl⟩
set_option maxRecDepth 100000 in
theorem new_any (v : Value) (l : List Nat) (hl : l.length ≤ 17592186044416) (w : World) (h : BRd w v l) :
    Calls Tryz.prog 14 #[v] w fun r w' => ∃ g x, r = .returned (.pointer (some ⟨g, 0, none⟩)) ∧ RAt w' g x l false ∧ w.heap.size ≤ g ∧ Below w.heap.size w w' := by
  have HC := Lib.hid (clone_any v l hl w h)
  clear h
  go_enter Tryz.func14, Tryz.ntmps14
  go_wp2_with fail
  refine HC.out.mono ?_
  rintro e w1 ⟨x, rfl, hx, hb⟩
  obtain ⟨A, n, cap, hxv⟩ := Cn.slice_form hx
  subst hxv
  have HX := Lib.hid hx; have HB := Lib.hid hb
  clear hx hb
  go_wp2_with fail
  go_ret
  have hblk := heap_alloc_new w1 (.cells #[.slice A n cap, .bool false] 73)
  have hb2 : Below w1.heap.size w1 (w1.alloc (.cells #[.slice A n cap, .bool false] 73)) := (Below.refl _ _).alloc (Nat.le_refl _) _
  exact ⟨w1.heap.size, _, rfl, ⟨hblk, (brd_own HX.out).later hb2, fun k hk => brd_block (brd_own HX.out) k hk⟩, HB.out.size, HB.out.trans (hb2.mono HB.out.size)⟩
end Rd
end Go.Proofs.YtcbddebmmaflgaaGreat
namespace Go.Proofs.YtcbddebmmaflgaaGreat
open Go.RowKit
set_option linter.unusedVariables false
namespace Pf
open _root_.Go.Proofs.YtcbddebmmaflgaaGreat.Nm (bitsW)
open Vt (VT)
open Bt (ubytes sb sb_len)

theorem ubytes_split (f : Nat) : ∀ (x y : Nat) (r r' : List Nat), x < 128 ^ (f + 1) → y < 128 ^ (f + 1) → ubytes f x ++ r = ubytes f y ++ r' → x = y ∧ r = r' := by
  induction f with
  | zero =>
    intro x y r r' hx hy h
    simp only [ubytes, List.cons_append, List.nil_append, List.cons.injEq] at h
    exact h
  | succ f ih =>
    intro x y r r' hx hy h
    simp only [ubytes] at h
    by_cases h1 : x < 128
    · by_cases h2 : y < 128
      · rw [if_pos h1, if_pos h2] at h
        simpa using h
      · rw [if_pos h1, if_neg h2] at h
        simp only [List.cons_append, List.nil_append, List.cons.injEq] at h
        omega
    · by_cases h2 : y < 128
      · rw [if_neg h1, if_pos h2] at h
        simp only [List.cons_append, List.nil_append, List.cons.injEq] at h
        omega
      · rw [if_neg h1, if_neg h2] at h
        simp only [List.cons_append, List.cons.injEq] at h
        have hp : (128 : Nat) ^ (f + 1 + 1) = 128 ^ (f + 1) * 128 := Nat.pow_succ ..
        obtain ⟨h3, h4⟩ := ih (x / 128) (y / 128) r r' (by omega) (by omega) h.2
        exact ⟨by omega, h4⟩
theorem ub_split {x y : Nat} {r r' : List Nat} (hx : x < 18446744073709551616) (hy : y < 18446744073709551616) (h : ubytes 10 x ++ r = ubytes 10 y ++ r') : x = y ∧ r = r' := by
  have hp : (18446744073709551616 : Nat) < 128 ^ (10 + 1) := by decide
  generalize (128 : Nat) ^ (10 + 1) = B at hp
  refine ubytes_split 10 x y r r' ?_ ?_ h
  · have : (18446744073709551616 : Nat) < 128 ^ (10 + 1) := by decide
    exact Nat.lt_trans hx this
  · have : (18446744073709551616 : Nat) < 128 ^ (10 + 1) := by decide
    exact Nat.lt_trans hy this
theorem sb_inj {a b : ByteArray} (h : sb a = sb b) : a = b := by
  apply ByteArray.ext
  apply Array.toList_inj.1
  have : ∀ (l l' : List UInt8), l.map (·.toNat) = l'.map (·.toNat) → l = l' := by
    intro l
    induction l with
    | nil => intro l' h; cases l' with
      | nil => rfl
      | cons _ _ => simp at h
    | cons x l ih => intro l' h; cases l' with
      | nil => simp at h
      | cons y l' =>
        simp only [List.map_cons, List.cons.injEq] at h
        rw [UInt8.toNat_inj.1 h.1, ih l' h.2]
  exact this _ _ h
/-- The form of a string. -/
def sform (s : ByteArray) : List Nat := ubytes 10 s.size ++ sb s
theorem sform_split {s s' : ByteArray} {r r' : List Nat} (hs : s.size < 18446744073709551616) (hs' : s'.size < 18446744073709551616) (h : sform s ++ r = sform s' ++ r') : s = s' ∧ r = r' := by
  unfold sform at h
  rw [List.append_assoc, List.append_assoc] at h
  obtain ⟨h1, h2⟩ := ub_split hs hs' h
  obtain ⟨h3, h4⟩ := List.append_inj h2 (by rw [sb_len, sb_len, h1])
  exact ⟨sb_inj h3, h4⟩

/-- A number with a sign as one without. -/
def zz (n : Int) : Nat := if 0 ≤ n then (2 * n).toNat else (-2 * n - 1).toNat
theorem zz_inj {n m : Int} (h : zz n = zz m) : n = m := by unfold zz at h; split at h <;> split at h <;> omega
theorem zz_lt {n : Int} (h0 : -9223372036854775808 ≤ n) (h1 : n ≤ 9223372036854775807) : zz n < 18446744073709551616 := by unfold zz; split <;> omega
/-- Eight bytes, the highest first. -/
def be8 (v : Nat) : List Nat := [v / 72057594037927936 % 256, v / 281474976710656 % 256, v / 1099511627776 % 256, v / 4294967296 % 256, v / 16777216 % 256, v / 65536 % 256, v / 256 % 256, v % 256]
theorem be8_inj {v w : Nat} (hv : v < 18446744073709551616) (hw : w < 18446744073709551616) (h : be8 v = be8 w) : v = w := by
  simp only [be8, List.cons.injEq] at h
  obtain ⟨h0, h1, h2, h3, h4, h5, h6, h7, -⟩ := h
  omega

/-- The form of a value. -/
def VT.form (t : VT) : List Nat := t.fold fun k n f s r => ubytes 10 k.toNat ++ (if k = 1 then ubytes 10 (zz n) else if k = 2 then be8 (bitsW f) else if k = 3 then sform s else if k = 4 then ubytes 10 r.length ++ r.flatten else [])
theorem form_mk (k n : Int) (f : Nat) (s : ByteArray) (l : List VT) : VT.form (.mk k n f s l) = ubytes 10 k.toNat ++ (if k = 1 then ubytes 10 (zz n) else if k = 2 then be8 (bitsW f) else if k = 3 then sform s else if k = 4 then ubytes 10 l.length ++ (l.map VT.form).flatten else []) := by
  unfold VT.form; rw [VT.fold, List.length_map]

/-- What bounds a value's own fields, all the way down. -/
def VT.fine (t : VT) : Prop := t.fold (α := Prop) fun k n f s r => (-9223372036854775808 ≤ n ∧ n ≤ 9223372036854775807 ∧ f < 18446744073709551616 ∧ s.size < 18446744073709551616 ∧ r.length < 18446744073709551616) ∧ ∀ p ∈ r, p
theorem fine_mk {k n : Int} {f : Nat} {s : ByteArray} {l : List VT} : VT.fine (.mk k n f s l) ↔ (-9223372036854775808 ≤ n ∧ n ≤ 9223372036854775807 ∧ f < 18446744073709551616 ∧ s.size < 18446744073709551616 ∧ l.length < 18446744073709551616) ∧ ∀ t ∈ l, VT.fine t := by
  unfold VT.fine; rw [VT.fold, List.length_map]
  simp only [List.mem_map, forall_exists_index, and_imp, forall_apply_eq_imp_iff₂]

theorem Rep.fine {w : World} {lo hi : Nat} {t : VT} : ∀ {v : Value}, Vt.Rep w lo hi t v → VT.fine t := by
  induction t using VT.ind with
  | _ k n f s l ih =>
    intro v h
    obtain ⟨A, cap, rfl, ho, hl, hk⟩ := h.head
    obtain ⟨k0, k1, n0, n1, f1, s1, m1⟩ := ho
    simp only [maxLen] at s1 m1
    refine fine_mk.2 ⟨⟨n0, n1, f1, by omega, by omega⟩, fun t ht => ?_⟩
    obtain ⟨i, hi, rfl⟩ := List.getElem_of_mem ht
    obtain ⟨b, off, -, -, -, h3⟩ := hk.at_ (by omega)
    obtain ⟨_, _, _, _, _, _, _, -, -, -, -, -, -, hr⟩ := h3 i hi
    exact ih i hi hr

/-- What is valid of a value's own fields. -/
theorem valid_cases {k n : Int} {f : Nat} {s : ByteArray} {l : List VT} {d : Nat} (h : (VT.mk k n f s l).valid d = true) :
    (k = 0 ∧ n = 0 ∧ bitsW f = 0 ∧ s.size = 0 ∧ l = []) ∨ (k = 1 ∧ bitsW f = 0 ∧ s.size = 0 ∧ l = []) ∨ (k = 2 ∧ n = 0 ∧ s.size = 0 ∧ l = []) ∨ (k = 3 ∧ n = 0 ∧ bitsW f = 0 ∧ l = []) ∨ (k = 4 ∧ n = 0 ∧ bitsW f = 0 ∧ s.size = 0 ∧ ∀ t ∈ l, t.valid (d - 1) = true) := by
  rw [Vt.valid_mk] at h
  simp only [Bool.and_eq_true, Bool.or_eq_true, decide_eq_true_iff, beq_iff_eq, bne_iff_ne, List.all_eq_true, List.length_eq_zero_iff] at h
  obtain ⟨⟨⟨⟨⟨⟨⟨h0, h1⟩, h2⟩, h3⟩, h4⟩, h5⟩, h6⟩, h7⟩ := h
  rcases (by omega : k = 0 ∨ k = 1 ∨ k = 2 ∨ k = 3 ∨ k = 4) with rfl | rfl | rfl | rfl | rfl
  · exact .inl ⟨rfl, by simpa using h2, by simpa using h3, by simpa using h4, by simpa using h5⟩
  · exact .inr (.inl ⟨rfl, by simpa using h3, by simpa using h4, by simpa using h5⟩)
  · exact .inr (.inr (.inl ⟨rfl, by simpa using h2, by simpa using h4, by simpa using h5⟩))
  · exact .inr (.inr (.inr (.inl ⟨rfl, by simpa using h2, by simpa using h3, by simpa using h5⟩)))
  · exact .inr (.inr (.inr (.inr ⟨rfl, by simpa using h2, by simpa using h3, by simpa using h4, h7⟩)))
theorem size_zero {s : ByteArray} (h : s.size = 0) : s = ⟨#[]⟩ := by
  apply ByteArray.ext
  apply Array.eq_empty_of_size_eq_zero
  exact h
theorem same_mk_of {k n : Int} {f f' : Nat} {s : ByteArray} {l l' : List VT} (hf : bitsW f = bitsW f') (hl : l.length = l'.length) (h : ∀ (i : Nat) (hi : i < l.length) (hi' : i < l'.length), l[i].same l'[i] = true) : (VT.mk k n f s l).same (.mk k n f' s l') = true :=
  (Vt.same_iff ..).2 ⟨rfl, rfl, rfl, hf, hl, h⟩

theorem bits_lt {f : Nat} (h : f < 18446744073709551616) : bitsW f < 18446744073709551616 := by
  unfold bitsW _root_.Go.Proofs.YtcbddebmmaflgaaGreat.Nm.quietW; split <;> omega

theorem forms_split (l : List VT) : ∀ (l' : List VT) (r r' : List Nat), (∀ t ∈ l, ∀ t' ∈ l', ∀ (r r' : List Nat), VT.form t ++ r = VT.form t' ++ r' → t.same t' = true ∧ r = r') → l.length = l'.length →
    (l.map VT.form).flatten ++ r = (l'.map VT.form).flatten ++ r' → (∀ (i : Nat) (hi : i < l.length) (hi' : i < l'.length), l[i].same l'[i] = true) ∧ r = r' := by
  induction l with
  | nil => intro l' r r' _ hl h; cases l' with
    | nil => exact ⟨fun i hi => absurd hi (by simp), by simpa using h⟩
    | cons _ _ => simp at hl
  | cons t l ih => intro l' r r' hk hl h; cases l' with
    | nil => simp at hl
    | cons t' l' =>
      simp only [List.map_cons, List.flatten_cons, List.append_assoc] at h
      obtain ⟨h1, h2⟩ := hk t (by simp) t' (by simp) _ _ h
      obtain ⟨h3, h4⟩ := ih l' r r' (fun x hx y hy => hk x (List.mem_cons_of_mem _ hx) y (List.mem_cons_of_mem _ hy)) (by simpa using hl) h2
      refine ⟨fun i hi hi' => ?_, h4⟩
      cases i with
      | zero => simpa using h1
      | succ i => simpa using h3 i (by simpa using hi) (by simpa using hi')

/-- No form of a valid value is the beginning of another's. -/
theorem form_split (t : VT) : ∀ (t' : VT) (d d' : Nat) (r r' : List Nat), t.valid d = true → t'.valid d' = true → VT.fine t → VT.fine t' → VT.form t ++ r = VT.form t' ++ r' → t.same t' = true ∧ r = r' := by
  induction t using VT.ind with
  | _ k n f s l ih =>
    rintro ⟨k', n', f', s', l'⟩ d d' r r' hv hv' hg hg' h
    rw [form_mk, form_mk] at h
    obtain ⟨⟨n0, n1, f1, s1, m1⟩, hkg⟩ := fine_mk.1 hg
    obtain ⟨⟨n0', n1', f1', s1', m1'⟩, hkg'⟩ := fine_mk.1 hg'
    have hk : 0 ≤ k ∧ k ≤ 4 := by rcases valid_cases hv with h | h | h | h | h <;> omega
    have hk' : 0 ≤ k' ∧ k' ≤ 4 := by rcases valid_cases hv' with h | h | h | h | h <;> omega
    rw [List.append_assoc, List.append_assoc] at h
    obtain ⟨e, h⟩ := ub_split (by omega) (by omega) h
    have hkk : k = k' := by omega
    subst hkk
    clear e
    rcases valid_cases hv with ⟨rfl, rfl, b1, b2, rfl⟩ | ⟨rfl, b1, b2, rfl⟩ | ⟨rfl, rfl, b2, rfl⟩ | ⟨rfl, rfl, b1, rfl⟩ | ⟨rfl, rfl, b1, b2, b3⟩
    · rcases valid_cases hv' with ⟨-, rfl, c1, c2, rfl⟩ | ⟨c, -⟩ | ⟨c, -⟩ | ⟨c, -⟩ | ⟨c, -⟩ <;> try omega
      rw [size_zero b2, size_zero c2]
      exact ⟨same_mk_of (b1.trans c1.symm) rfl (fun i hi => absurd hi (by simp)), by simpa using h⟩
    · rcases valid_cases hv' with ⟨c, -⟩ | ⟨-, c1, c2, rfl⟩ | ⟨c, -⟩ | ⟨c, -⟩ | ⟨c, -⟩ <;> try omega
      rw [if_pos rfl, if_pos rfl] at h
      obtain ⟨e, h⟩ := ub_split (zz_lt n0 n1) (zz_lt n0' n1') h
      rw [size_zero b2, size_zero c2, zz_inj e]
      exact ⟨same_mk_of (b1.trans c1.symm) rfl (fun i hi => absurd hi (by simp)), h⟩
    · rcases valid_cases hv' with ⟨c, -⟩ | ⟨c, -⟩ | ⟨-, rfl, c2, rfl⟩ | ⟨c, -⟩ | ⟨c, -⟩ <;> try omega
      rw [if_neg (by omega), if_pos rfl, if_neg (by omega), if_pos rfl] at h
      obtain ⟨e, h⟩ := List.append_inj h rfl
      rw [size_zero b2, size_zero c2]
      exact ⟨same_mk_of (be8_inj (bits_lt f1) (bits_lt f1') e) rfl (fun i hi => absurd hi (by simp)), h⟩
    · rcases valid_cases hv' with ⟨c, -⟩ | ⟨c, -⟩ | ⟨c, -⟩ | ⟨-, rfl, c1, rfl⟩ | ⟨c, -⟩ <;> try omega
      rw [if_neg (by omega), if_neg (by omega), if_pos rfl, if_neg (by omega), if_neg (by omega), if_pos rfl] at h
      obtain ⟨e, h⟩ := sform_split s1 s1' h
      rw [e]
      exact ⟨same_mk_of (b1.trans c1.symm) rfl (fun i hi => absurd hi (by simp)), h⟩
    · rcases valid_cases hv' with ⟨c, -⟩ | ⟨c, -⟩ | ⟨c, -⟩ | ⟨c, -⟩ | ⟨-, rfl, c1, c2, c3⟩ <;> try omega
      rw [if_neg (by omega), if_neg (by omega), if_neg (by omega), if_pos rfl, if_neg (by omega), if_neg (by omega), if_neg (by omega), if_pos rfl, List.append_assoc, List.append_assoc] at h
      obtain ⟨e, h⟩ := ub_split m1 m1' h
      obtain ⟨h1, h2⟩ := forms_split l l' r r' (fun t ht t' ht' r r' hh => by
        obtain ⟨i, hi, rfl⟩ := List.getElem_of_mem ht
        exact ih i hi t' (d - 1) (d' - 1) r r' (b3 _ ht) (c3 _ ht') (hkg _ ht) (hkg' _ ht') hh) e h
      rw [size_zero b2, size_zero c2]
      exact ⟨same_mk_of (b1.trans c1.symm) e h1, h2⟩

end Pf
end Go.Proofs.YtcbddebmmaflgaaGreat
namespace Go.Proofs.YtcbddebmmaflgaaGreat
open Go.RowKit
set_option linter.unusedVariables false
set_option linter.unusedSimpArgs false
namespace Rd
open Bt (ubytes sb)
open Pf (ub_split)

/-- The number that bytes begin with, and its length: as the reference reads it (f places are left, i were read, x is what they make). -/
def nf : (f i x : Nat) → List Nat → Option (Nat × Nat)
  | 0, _, _, _ => none
  | _ + 1, _, _, [] => none
  | f + 1, i, x, c :: l => if i = 9 ∧ 1 < c % 128 then none else if c < 128 then (if 0 < i ∧ c % 128 = 0 then none else some (x + c % 128 * 128 ^ i, i + 1)) else nf f (i + 1) (x + c % 128 * 128 ^ i) l
def num (l : List Nat) : Option (Nat × Nat) := nf 10 0 0 l
/-- The same as the program reads it, ahead of its comparison. -/
def pk : (f i x : Nat) → List Nat → Nat × Nat
  | 0, _, x, _ => (x, 0)
  | _ + 1, _, x, [] => (x, 0)
  | f + 1, i, x, c :: l => if c < 128 then (x ||| (c % 128 * 128 ^ i) % 18446744073709551616, i + 1) else pk f (i + 1) (x ||| (c % 128 * 128 ^ i) % 18446744073709551616) l

theorem p128 (i : Nat) : 0 < 128 ^ i := Nat.pow_pos (by omega)
theorem p128s (i : Nat) : 128 ^ (i + 1) = 128 ^ i * 128 := Nat.pow_succ ..
theorem or_add {x i d : Nat} (h : x < 128 ^ i) : x ||| d * 128 ^ i = x + d * 128 ^ i := by
  have e : (128 : Nat) ^ i = 2 ^ (7 * i) := by rw [show (128 : Nat) = 2 ^ 7 from rfl, ← Nat.pow_mul]
  rw [e] at h ⊢
  have := Nat.two_pow_add_eq_or_of_lt h d
  rw [Nat.mul_comm d, Nat.add_comm, this, Nat.or_comm]
theorem ub_small {F z : Nat} (h : z < 128) : ubytes F z = [z] := by
  cases F with
  | zero => rfl
  | succ F => simp [ubytes, h]

/-- What was read is a form. -/
theorem nf_some (f : Nat) : ∀ (i x : Nat) (l : List Nat) (y m : Nat), f + i = 10 → x < 128 ^ i → (∀ b ∈ l, b < 256) → nf f i x l = some (y, m) →
    ∃ z r, y = x + z * 128 ^ i ∧ l = ubytes f z ++ r ∧ m = i + (ubytes f z).length ∧ (0 < z ∨ i = 0) ∧ y < 18446744073709551616 := by
  induction f with
  | zero => intro i x l y m _ _ _ h; simp [nf] at h
  | succ f ih =>
    intro i x l y m hi hx hb h
    cases l with
    | nil => simp [nf] at h
    | cons c l =>
      have hc : c < 256 := hb c (by simp)
      rw [nf] at h
      by_cases h9 : i = 9 ∧ 1 < c % 128
      · rw [if_pos h9] at h; cases h
      · rw [if_neg h9] at h
        have hp := p128 i
        have hps := p128s i
        by_cases h1 : c < 128
        · rw [if_pos h1] at h
          by_cases h0 : 0 < i ∧ c % 128 = 0
          · rw [if_pos h0] at h; cases h
          · rw [if_neg h0] at h
            injection h with h
            injection h with h2 h3
            have hm : c % 128 = c := Nat.mod_eq_of_lt h1
            rw [hm] at h2 h9 h0
            refine ⟨c, l, h2.symm, by rw [ub_small h1]; rfl, by rw [ub_small h1]; exact h3.symm, by omega, ?_⟩
            rw [← h2]
            have q9 : (128 : Nat) ^ 9 = 9223372036854775808 := by decide
            by_cases hi9 : i = 9
            · have hc1 : c ≤ 1 := by
                rcases Nat.lt_or_ge 1 c with h | h
                · exact absurd ⟨hi9, h⟩ h9
                · exact h
              rw [hi9] at hx ⊢
              have := Nat.mul_le_mul_right (128 ^ 9) hc1
              omega
            · have hle : (128 : Nat) ^ i ≤ 128 ^ 8 := Nat.pow_le_pow_right (by omega) (by omega)
              have q8 : (128 : Nat) ^ 8 = 72057594037927936 := by decide
              have := Nat.mul_le_mul (show c ≤ 127 by omega) hle
              omega
        · rw [if_neg h1] at h
          have hd : c % 128 < 128 := Nat.mod_lt _ (by omega)
          have hx' : x + c % 128 * 128 ^ i < 128 ^ (i + 1) := by
            have := Nat.mul_le_mul_right (128 ^ i) (show c % 128 ≤ 127 by omega)
            rw [hps]; omega
          obtain ⟨z, r, e1, e2, e3, e4, e5⟩ := ih (i + 1) _ l y m (by omega) hx' (fun b h => hb b (List.mem_cons_of_mem _ h)) h
          have hz : 0 < z := e4.resolve_right (by omega)
          have hz2 : ¬ (c % 128 + 128 * z < 128) := by omega
          have hu : ubytes (f + 1) (c % 128 + 128 * z) = c :: ubytes f z := by
            rw [ubytes, if_neg hz2, show (c % 128 + 128 * z) % 128 + 128 = c by omega, show (c % 128 + 128 * z) / 128 = z by omega]
          refine ⟨c % 128 + 128 * z, r, ?_, by rw [hu, e2]; rfl, by rw [hu, e3, List.length_cons]; omega, .inl (by omega), e5⟩
          rw [e1, hps, Nat.add_mul, Nat.add_assoc, Nat.mul_comm 128 z, Nat.mul_assoc, Nat.mul_comm 128 (128 ^ i)]

/-- A form is read. -/
theorem nf_form (f : Nat) : ∀ (i x z : Nat) (r : List Nat), f + i = 10 → x < 128 ^ i → (0 < z ∨ i = 0) → x + z * 128 ^ i < 18446744073709551616 → nf f i x (ubytes f z ++ r) = some (x + z * 128 ^ i, i + (ubytes f z).length) := by
  induction f with
  | zero =>
    intro i x z r hi hx hz h
    exfalso
    obtain rfl : i = 10 := by omega
    have : (128 : Nat) ^ 10 = 1180591620717411303424 := by decide
    have := Nat.mul_le_mul_right (128 ^ 10) (show 1 ≤ z by omega)
    omega
  | succ f ih =>
    intro i x z r hi hx hz h
    have hp := p128 i
    have hps := p128s i
    by_cases h1 : z < 128
    · rw [ub_small h1]
      show nf (f + 1) i x (z :: r) = _
      have hm : z % 128 = z := Nat.mod_eq_of_lt h1
      rw [nf, hm, if_neg, if_pos h1, if_neg (by omega)]
      · rfl
      · rintro ⟨rfl, h2⟩
        have : (128 : Nat) ^ 9 = 9223372036854775808 := by decide
        have := Nat.mul_le_mul_right (128 ^ 9) h2
        omega
    · have hu : ubytes (f + 1) z = (z % 128 + 128) :: ubytes f (z / 128) := by rw [ubytes, if_neg h1]
      have hdm : (z % 128 + 128) % 128 = z % 128 := by omega
      have hsum : x + z % 128 * 128 ^ i + z / 128 * 128 ^ (i + 1) = x + z * 128 ^ i := by
        rw [hps, ← Nat.mul_assoc, Nat.mul_right_comm, Nat.add_assoc, ← Nat.add_mul]
        congr 2
        omega
      rw [hu]
      show nf (f + 1) i x ((z % 128 + 128) :: (ubytes f (z / 128) ++ r)) = _
      have hx' : x + z % 128 * 128 ^ i < 128 ^ (i + 1) := by
        have := Nat.mul_le_mul_right (128 ^ i) (show z % 128 ≤ 127 by omega)
        rw [hps]; omega
      rw [nf, hdm, if_neg, if_neg (by omega), ih (i + 1) _ (z / 128) r (by omega) hx' (.inl (by omega)) (by rw [hsum]; exact h), hsum, List.length_cons]
      · congr 2; omega
      · rintro ⟨rfl, h2⟩
        have : (128 : Nat) ^ 9 = 9223372036854775808 := by decide
        have := Nat.mul_le_mul_right (128 ^ 9) (show 128 ≤ z by omega)
        omega
/-- A form is read by the program. -/
theorem pk_form (f : Nat) : ∀ (i x z : Nat) (r : List Nat), f + i = 10 → x < 128 ^ i → (0 < z ∨ i = 0) → x + z * 128 ^ i < 18446744073709551616 → pk f i x (ubytes f z ++ r) = (x + z * 128 ^ i, i + (ubytes f z).length) := by
  induction f with
  | zero =>
    intro i x z r hi hx hz h
    exfalso
    obtain rfl : i = 10 := by omega
    have : (128 : Nat) ^ 10 = 1180591620717411303424 := by decide
    have := Nat.mul_le_mul_right (128 ^ 10) (show 1 ≤ z by omega)
    omega
  | succ f ih =>
    intro i x z r hi hx hz h
    have hp := p128 i
    have hps := p128s i
    by_cases h1 : z < 128
    · rw [ub_small h1]
      show pk (f + 1) i x (z :: r) = _
      have hm : z % 128 = z := Nat.mod_eq_of_lt h1
      rw [pk, hm, if_pos h1, Nat.mod_eq_of_lt (by omega), or_add hx]
      rfl
    · have hu : ubytes (f + 1) z = (z % 128 + 128) :: ubytes f (z / 128) := by rw [ubytes, if_neg h1]
      have hdm : (z % 128 + 128) % 128 = z % 128 := by omega
      have hsum : x + z % 128 * 128 ^ i + z / 128 * 128 ^ (i + 1) = x + z * 128 ^ i := by
        rw [hps, ← Nat.mul_assoc, Nat.mul_right_comm, Nat.add_assoc, ← Nat.add_mul]
        congr 2
        omega
      rw [hu]
      show pk (f + 1) i x ((z % 128 + 128) :: (ubytes f (z / 128) ++ r)) = _
      have hx' : x + z % 128 * 128 ^ i < 128 ^ (i + 1) := by
        have := Nat.mul_le_mul_right (128 ^ i) (show z % 128 ≤ 127 by omega)
        rw [hps]; omega
      rw [pk, hdm, if_neg (by omega), Nat.mod_eq_of_lt (by omega), or_add hx, ih (i + 1) _ (z / 128) r (by omega) hx' (.inl (by omega)) (by rw [hsum]; exact h), hsum, List.length_cons]
      congr 1; omega

theorem num_some {l : List Nat} (hb : ∀ b ∈ l, b < 256) {x n : Nat} (h : num l = some (x, n)) : x < 18446744073709551616 ∧ n = (ubytes 10 x).length ∧ l = ubytes 10 x ++ l.drop n ∧ n ≤ l.length ∧ 0 < n := by
  obtain ⟨z, r, e1, e2, e3, -, e5⟩ := nf_some 10 0 0 l x n (by omega) (by decide) hb h
  simp only [Nat.pow_zero, Nat.mul_one, Nat.zero_add] at e1 e3
  subst e1
  refine ⟨e5, e3, ?_, by rw [e2, List.length_append, ← e3]; omega, ?_⟩
  · rw [e3, e2, List.drop_left]
  · rw [e3]; unfold ubytes; split <;> simp
theorem num_form {x : Nat} (hx : x < 18446744073709551616) (r : List Nat) : num (ubytes 10 x ++ r) = some (x, (ubytes 10 x).length) := by
  have h := nf_form 10 0 0 x r (by omega) (by decide) (.inr rfl) (by simpa using hx)
  unfold num
  simpa using h
theorem pk_lt (f : Nat) : ∀ (i x : Nat) (l : List Nat), x < 18446744073709551616 → (pk f i x l).1 < 18446744073709551616 := by
  induction f with
  | zero => intro i x l h; exact h
  | succ f ih =>
    intro i x l h
    have hor : ∀ y, x ||| y % 18446744073709551616 < 18446744073709551616 := fun y => Nat.or_lt_two_pow (n := 64) h (Nat.mod_lt _ (by omega))
    cases l with
    | nil => exact h
    | cons c l =>
      rw [pk]
      split
      · exact hor _
      · exact ih _ _ _ (hor _)
/-- What the program's comparison leaves is what the reference reads. -/
theorem peek_num {l : List Nat} (hb : ∀ b ∈ l, b < 256) : num l = if (pk 10 0 0 l).2 = 0 ∨ ubytes 10 (pk 10 0 0 l).1 ≠ l.take (pk 10 0 0 l).2 then none else some (pk 10 0 0 l) := by
  cases h : num l with
  | some p =>
    obtain ⟨x, n⟩ := p
    obtain ⟨h1, h2, h3, h4, h5⟩ := num_some hb h
    have hp := pk_form 10 0 0 x (l.drop n) (by omega) (by decide) (.inr rfl) (by simpa using h1)
    simp only [Nat.pow_zero, Nat.mul_one, Nat.zero_add] at hp
    rw [← h3, ← h2] at hp
    rw [hp]
    have ht : l.take n = ubytes 10 x := by
      conv => lhs; rw [h3]
      rw [h2, List.take_left]
    rw [if_neg]
    rintro (h6 | h6)
    · simp at h6; omega
    · exact h6 ht.symm
  | none =>
    split
    · rfl
    · rename_i hh
      exfalso
      obtain ⟨q1, q2⟩ := not_or.1 hh
      have q3 : ubytes 10 (pk 10 0 0 l).1 = l.take (pk 10 0 0 l).2 := Classical.not_not.1 q2
      have e : l = ubytes 10 (pk 10 0 0 l).1 ++ l.drop (pk 10 0 0 l).2 := by rw [q3, List.take_append_drop]
      rw [e, num_form (pk_lt 10 0 0 l (by omega))] at h
      cases h
end Rd
end Go.Proofs.YtcbddebmmaflgaaGreat
