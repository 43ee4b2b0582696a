/- A level's state in a walk. -/
import Derived.Test.YtkjlfoihojfnbaaDoorLoL
import Derived.Test.YtkjlfoihojfnbaaDoorLoD
import Derived.Test.YtkjlfoihojfnbaaDoorLoE
import Derived.Test.YtkjlfoihojfnbaaDoorLoI
import Derived.Test.YtkjlfoihojfnbaaDoorLoK
namespace Go.Proofs.YtkjlfoihojfnbaaDoor
open Go.RowKit
set_option linter.unusedVariables false
namespace Lo
open Lv (W64 slotOf slotOf_lt fresh)
open Ln (lvCells LV upd only_set only_refl only_drew fresh_eq)
/-- A level at b with these items. -/
structure St (base : Nat) (w : World) (b k : Nat) (f : Nat → Value) (m : Nat) (L : Nat → List (Nat × Nat)) : Prop where
  lv : LV w b k f m
  rows : ∀ s, s < 64 → IRow 34 w base (f s) (L s)
  nob : ∀ s, s < 64 → ∀ g, (f s).ownBlock = some g → g ≠ b
  dis : ∀ s t, s < 64 → t < 64 → s ≠ t → ∀ g, (f s).ownBlock = some g → (f t).ownBlock ≠ some g
  mlt : m < 18446744073709551616
  bits : ∀ s, s < 64 → m.testBit s = decide ((L s).length ≠ 0)
/-- The level's own blocks. -/
def Own (b : Nat) (f : Nat → Value) (g : Nat) : Prop := g = b ∨ ∃ s, s < 64 ∧ (f s).ownBlock = some g
/-- A value apart from the level. -/
def Ap (b : Nat) (f : Nat → Value) (v : Value) : Prop := ∀ g, v.ownBlock = some g → ¬ Own b f g
variable {base b k m : Nat} {w w' : World} {f : Nat → Value} {L : Nat → List (Nat × Nat)}
theorem St.lt (h : St base w b k f m L) : ∀ g, Own b f g → g < w.heap.size := by
  intro g hg
  rcases hg with rfl | ⟨s, hs, hg⟩
  · exact h.lv.lt
  · exact ((h.rows s hs).lt g hg).2
theorem St.keep (h : St base w b k f m L) {S : Nat → Prop} (kb : KB w w' S) (hS : ∀ g, Own b f g → ¬ S g) : St base w' b k f m L :=
  ⟨h.lv.keep (kb.block b h.lv.lt (hS b (.inl rfl))), fun s hs => (h.rows s hs).keep fun g hg => kb.block g ((h.rows s hs).lt g hg).2 (hS g (.inr ⟨s, hs, hg⟩)), h.nob, h.dis, h.mlt, h.bits⟩
theorem St.later (h : St base w b k f m L) (hb : Below w.heap.size w w') : St base w' b k f m L := h.keep (KB.of_below (fun _ => False) hb) (fun _ _ e => e)
theorem IRow.keepKB {T : TypeId} {v : Value} {l : List (Nat × Nat)} (h : IRow T w base v l) {S : Nat → Prop} (kb : KB w w' S) (hS : ∀ g, v.ownBlock = some g → ¬ S g) : IRow T w' base v l :=
  h.keep fun g hg => kb.block g (h.lt g hg).2 (hS g hg)
theorem St.fresh (w : World) (T : TypeId) (hT : T = 74) (k : Nat) (hb : base ≤ w.heap.size) : St base (w.alloc (.cells (Lv.fresh k) T)) w.heap.size k (fun _ => .slice none 0 0) 0 (fun _ => []) := by
  subst hT
  refine ⟨?_, fun s _ => IRow.nil _ _ _, fun s _ g hg => (by cases hg), fun s t _ _ _ g hg => (by cases hg), by omega, fun s _ => by simp⟩
  unfold LV
  rw [fresh_eq k]
  exact heap_alloc_new w _
theorem St.put {s : Nat} {x : Nat × Nat} (h : St base w b k f m L) (hs : s < 64) (hp : PutOut w w' base b k f m s (L s) x) :
    ∃ f' m', St base w' b k f' m' (updL L s (L s ++ [x])) ∧ KB w w' (Own b f) ∧ (∀ v, Ap b f v → (∀ g, v.ownBlock = some g → g < w.heap.size) → Ap b f' v) := by
  obtain ⟨v', row', lv', kb, hown⟩ := hp
  have hlt := h.lt
  refine ⟨upd f s v', marked m s ((L s).length + 1), ⟨lv', fun t ht => ?_, fun t ht g hg => ?_, fun t u ht hu htu g hg hg2 => ?_, marked_lt m s _ h.mlt hs, fun t ht => ?_⟩, ⟨kb.os, kb.tape, kb.output, kb.size, fun j hj hn => kb.block j hj (fun e => hn (by rcases e with e | e; exact .inl e; exact .inr ⟨s, hs, e⟩))⟩, fun v hv hvl g hg => ?_⟩
  · unfold upd updL
    by_cases he : t = s
    · rw [if_pos he, if_pos he]; exact row'
    · rw [if_neg he, if_neg he]
      exact (h.rows t ht).keepKB kb (fun g hg e => by
        rcases e with e | e
        · exact h.nob t ht g hg e
        · exact h.dis t s ht hs he g hg e)
  · unfold upd at hg
    by_cases he : t = s
    · rw [if_pos he] at hg
      rcases hown g hg with e | e
      · exact h.nob s hs g e
      · have := h.lv.lt; omega
    · rw [if_neg he] at hg; exact h.nob t ht g hg
  · unfold upd at hg hg2
    by_cases he : t = s
    · rw [if_pos he] at hg
      have hus : u ≠ s := fun e => htu (he.trans e.symm)
      rw [if_neg hus] at hg2
      rcases hown g hg with e | e
      · exact h.dis s u hs hu (fun e => hus e.symm) g e hg2
      · have := hlt g (.inr ⟨u, hu, hg2⟩); omega
    · rw [if_neg he] at hg
      by_cases he2 : u = s
      · rw [if_pos he2] at hg2
        rcases hown g hg2 with e | e
        · exact h.dis s t hs ht (fun e => he e.symm) g e hg
        · have := hlt g (.inr ⟨t, ht, hg⟩); omega
      · rw [if_neg he2] at hg2; exact h.dis t u ht hu htu g hg hg2
  · rw [marked_bit m s _ t hs ht]
    unfold updL
    by_cases he : t = s
    · rw [if_pos he, if_pos he]; simp
    · rw [if_neg he, if_neg he]; exact h.bits t ht
  · intro e
    rcases e with e | ⟨t, ht, e⟩
    · exact hv g hg (.inl e)
    · unfold upd at e
      by_cases he : t = s
      · rw [if_pos he] at e
        rcases hown g e with q | q
        · exact hv g hg (.inr ⟨s, hs, q⟩)
        · have := hvl g hg; omega
      · rw [if_neg he] at e
        exact hv g hg (.inr ⟨t, ht, e⟩)
theorem St.take {s : Nat} (h : St base w b k f m L) (hs : s < 64) (lv' : LV w' b k (upd f s (.slice none 0 0)) (marked m s 0 : Nat)) (kb : KB w w' (fun g => g = b ∨ (f s).ownBlock = some g)) :
    St base w' b k (upd f s (.slice none 0 0)) (marked m s 0) (updL L s []) ∧ KB w w' (Own b f) ∧ (∀ v, Ap b f v → Ap b (upd f s (.slice none 0 0)) v) := by
  refine ⟨⟨lv', fun t ht => ?_, fun t ht g hg => ?_, fun t u ht hu htu g hg hg2 => ?_, marked_lt m s _ h.mlt hs, fun t ht => ?_⟩, ⟨kb.os, kb.tape, kb.output, kb.size, fun j hj hn => kb.block j hj (fun e => hn (by rcases e with e | e; exact .inl e; exact .inr ⟨s, hs, e⟩))⟩, fun v hv g hg => ?_⟩
  · unfold upd updL
    by_cases he : t = s
    · rw [if_pos he, if_pos he]; exact IRow.nil _ _ _
    · rw [if_neg he, if_neg he]
      exact (h.rows t ht).keepKB kb (fun g hg e => by
        rcases e with e | e
        · exact h.nob t ht g hg e
        · exact h.dis t s ht hs he g hg e)
  · unfold upd at hg
    by_cases he : t = s
    · rw [if_pos he] at hg; cases hg
    · rw [if_neg he] at hg; exact h.nob t ht g hg
  · unfold upd at hg hg2
    by_cases he : t = s
    · rw [if_pos he] at hg; cases hg
    · rw [if_neg he] at hg
      by_cases he2 : u = s
      · rw [if_pos he2] at hg2; cases hg2
      · rw [if_neg he2] at hg2; exact h.dis t u ht hu htu g hg hg2
  · rw [marked_bit m s _ t hs ht]
    unfold updL
    by_cases he : t = s
    · rw [if_pos he, if_pos he]; simp
    · rw [if_neg he, if_neg he]; exact h.bits t ht
  · intro e
    rcases e with e | ⟨t, ht, e⟩
    · exact hv g hg (.inl e)
    · unfold upd at e
      by_cases he : t = s
      · rw [if_pos he] at e; cases e
      · rw [if_neg he] at e
        exact hv g hg (.inr ⟨t, ht, e⟩)
/-- Loop 1's state: the first items are in. -/
structure L1 (base : Nat) (w0 w : World) (b k j : Nat) (vW : Value) (l : List (Nat × Nat)) : Prop where
  ex : ∃ f m L, St base w b k f m L ∧ Ap b f vW ∧ Inv k L l
  row : IRow 29 w base vW l
  len : l.length ≤ j
  sm : ∀ x ∈ l, x.2 < 18446744073709551616
  bel : Below base w0 w
  hb : base ≤ b
  hw : base ≤ w.heap.size
theorem L1.later {w0 : World} {j : Nat} {vW : Value} {l : List (Nat × Nat)} (h : L1 base w0 w b k j vW l) (hb : Below w.heap.size w w') : L1 base w0 w' b k j vW l := by
  obtain ⟨f, m, L, h1, h2, h3⟩ := h.ex
  exact ⟨⟨f, m, L, h1.later hb, h2, h3⟩, h.row.later hb, h.len, h.sm, h.bel.trans (hb.mono h.hw), h.hb, Nat.le_trans h.hw hb.size⟩
theorem L1.mono {w0 : World} {j j' : Nat} {vW : Value} {l : List (Nat × Nat)} (h : L1 base w0 w b k j vW l) (hj : j ≤ j') : L1 base w0 w b k j' vW l :=
  ⟨h.ex, h.row, Nat.le_trans h.len hj, h.sm, h.bel, h.hb, h.hw⟩
/-- What stands behind a Put of a new item. -/
structure P1 (base : Nat) (w0 w : World) (b k j : Nat) (vW : Value) (l : List (Nat × Nat)) (x : Nat × Nat) : Prop where
  ex : ∃ f m L, St base w b k f m (updL L (slotOf k x.2) (L (slotOf k x.2) ++ [x])) ∧ Ap b f vW ∧ Inv k L l
  row : IRow 29 w base vW l
  len : l.length ≤ j
  sm : ∀ x ∈ l, x.2 < 18446744073709551616
  bel : Below base w0 w
  hb : base ≤ b
  hw : base ≤ w.heap.size
  new : x ∉ l
theorem P1.later {w0 : World} {j : Nat} {vW : Value} {l : List (Nat × Nat)} {x : Nat × Nat} (h : P1 base w0 w b k j vW l x) (hb : Below w.heap.size w w') : P1 base w0 w' b k j vW l x := by
  obtain ⟨f, m, L, h1, h2, h3⟩ := h.ex
  exact ⟨⟨f, m, L, h1.later hb, h2, h3⟩, h.row.later hb, h.len, h.sm, h.bel.trans (hb.mono h.hw), h.hb, Nat.le_trans h.hw hb.size, h.new⟩
theorem P1.next {w0 : World} {j : Nat} {vW v' : Value} {l : List (Nat × Nat)} {x : Nat × Nat} (h : P1 base w0 w b k j vW l x) (ha : x.2 < 18446744073709551616) (p : Nat) (hp : p ≤ l.length)
    (h1 : ∀ (i : Nat) (hi : i < l.length), i < p → bef l[i] x) (h2 : ∀ (hp : p < l.length), ¬ bef l[p] x) (row : IRow 29 w' w.heap.size v' (l.take p ++ x :: l.drop p)) (hb : Below w.heap.size w w') :
    L1 base w0 w' b k (j + 1) v' (l.take p ++ x :: l.drop p) := by
  obtain ⟨f, m, L, s1, s2, s3⟩ := h.ex
  have hlen := h.len
  refine ⟨⟨f, m, _, s1.later hb, fun g hg e => ?_, s3.put x h.new p hp h1 h2⟩, row.base_le h.hw, ?_, fun y hy => ?_, h.bel.trans (hb.mono h.hw), h.hb, Nat.le_trans h.hw hb.size⟩
  · have q1 := (row.lt g hg).1
    have q2 := s1.lt g e
    omega
  · simp only [List.length_append, List.length_cons, List.length_take, List.length_drop]; omega
  · rcases List.mem_append.1 hy with hy | hy
    · exact h.sm y (List.mem_of_mem_take hy)
    · rcases List.mem_cons.1 hy with rfl | hy
      · exact ha
      · exact h.sm y (List.mem_of_mem_drop hy)
theorem L1.put {w0 wr : World} {j : Nat} {vW : Value} {l : List (Nat × Nat)} (h : L1 base w0 wr b k j vW l) (hbw : Below wr.heap.size wr w) (hk : k ≤ 3) (hj : j ≤ 100) (x : Nat × Nat) (ha : x.2 < 18446744073709551616) :
    Calls Tryd.prog 12 #[.pointer (some ⟨b, 0, none⟩), .agg #[.int .u64 (x.1 : Nat), .int .u64 (x.2 : Nat)]] w fun e w' =>
      (e = .returned (.bool false) ∧ x ∈ l ∧ L1 base w0 w' b k j vW l ∧ KB w w' (fun g => g < wr.heap.size)) ∨ (e = .returned (.bool true) ∧ P1 base w0 w' b k j vW l x ∧ KB w w' (fun g => g < wr.heap.size)) := by
  obtain ⟨f, m, L, h1, h2, h3⟩ := h.ex
  have h1w := h1.later hbw
  have hlen : (L (slotOf k x.2)).length ≤ 1000 := by
    have e := (h3.perm (slotOf k x.2) (slotOf_lt k x.2)).length_eq
    have e2 : (inSlot k (slotOf k x.2) l).length ≤ l.length := List.length_filter_le _ _
    have := h.len
    omega
  have hbase : base ≤ w.heap.size := Nat.le_trans h.hw hbw.size
  refine (put_any x hk ha base m (L (slotOf k x.2)) hbase hlen h1w.mlt (h1w.rows _ (slotOf_lt k x.2)) (h1w.nob _ (slotOf_lt k x.2)) h1w.lv).mono fun e w' he => ?_
  rcases he with ⟨e1, e2, e3⟩ | ⟨e1, e2, e3⟩
  · exact .inl ⟨e1, (h3.mem x).1 e2, (h.later hbw).later e3, KB.of_below _ e3⟩
  · obtain ⟨f', m', s1, s2, s3⟩ := h1w.put (slotOf_lt k x.2) e3
    have kb : KB w w' (fun g => g < wr.heap.size) := ⟨s2.os, s2.tape, s2.output, s2.size, fun i hi hn => s2.block i hi (fun e => hn (h1.lt i e))⟩
    have rw' := h.row.later hbw
    refine .inr ⟨e1, ⟨⟨f', m', L, s1, s3 vW h2 (fun g hg => (rw'.lt g hg).2), h3⟩, rw'.keepKB s2 h2, h.len, h.sm, (h.bel.trans (hbw.mono h.hw)).trans (s2.below hbase (fun g hg => ?_)), h.hb, Nat.le_trans hbase s2.size, fun hx => e2 ((h3.mem x).2 hx)⟩, kb⟩
    rcases hg with rfl | ⟨s, hs, hg⟩
    · exact h.hb
    · exact ((h1.rows s hs).lt g hg).1
theorem box_keep {g n : Nat} {T : TypeId} {cs : Array Value} (h : w.heap[g]? = some (.cells cs T (0, 0))) (kb : KB w w' (fun g => g < n)) (hg : n ≤ g) : w'.heap[g]? = some (.cells cs T (0, 0)) :=
  (kb.block g (Array.getElem?_eq_some_iff.1 h).1 (by omega)).trans h
end Lo
end Go.Proofs.YtkjlfoihojfnbaaDoor
