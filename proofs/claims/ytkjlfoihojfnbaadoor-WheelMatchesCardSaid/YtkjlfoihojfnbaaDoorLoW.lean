/- A level's state in LevelMatches' walk. -/
import Derived.Test.YtkjlfoihojfnbaaDoorLoM
import Derived.Test.YtkjlfoihojfnbaaDoorLoS
import Derived.Test.YtkjlfoihojfnbaaDoorLoT
import Derived.Test.YtkjlfoihojfnbaaDoorLoI
namespace Go.Proofs.YtkjlfoihojfnbaaDoor
open Go.RowKit
set_option linter.unusedVariables false
set_option linter.unusedSimpArgs false
namespace Lo
open Lv (W64 slotOf slotOf_lt fresh)
open Ln (lvCells LV upd only_set only_refl only_drew fresh_eq)
variable {base b k m : Nat} {w w' : World} {f : Nat → Value} {L : Nat → List (Nat × Nat)}
theorem PutOut.chg {s : Nat} {l : List (Nat × Nat)} {x : Nat × Nat} (h : PutOut w w' base b k f m s l x) : ChgOut w w' base b k f m s (l ++ [x]) := by
  obtain ⟨v', h1, h2, h3, h4⟩ := h
  exact ⟨v', h1, by rw [List.length_append]; exact h2, h3, h4⟩
theorem St.chg {s : Nat} {l' : List (Nat × Nat)} (h : St base w b k f m L) (hs : s < 64) (hp : ChgOut w w' base b k f m s l') :
    ∃ f' m', St base w' b k f' m' (updL L s l') ∧ KB w w' (Own b f) ∧ (∀ g, Own b f' g → Own b f g ∨ w.heap.size ≤ g) := by
  obtain ⟨v', row', lv', kb, hown⟩ := hp
  have hlt := h.lt
  refine ⟨upd f s v', marked m s l'.length, ⟨lv', fun t ht => ?_, fun t ht g hg => ?_, fun t u ht hu htu g hg hg2 => ?_, marked_lt m s _ h.mlt hs, fun t ht => ?_⟩, ⟨kb.os, kb.tape, kb.output, kb.size, fun j hj hn => kb.block j hj (fun e => hn (by rcases e with e | e; exact .inl e; exact .inr ⟨s, hs, e⟩))⟩, fun g e => ?_⟩
  · unfold upd updL
    by_cases he : t = s
    · rw [if_pos he, if_pos he]; exact row'
    · rw [if_neg he, if_neg he]
      exact (h.rows t ht).keepKB kb (fun g hg e => by
        rcases e with e | e
        · exact h.nob t ht g hg e
        · exact h.dis t s ht hs he g hg e)
  · unfold upd at hg
    by_cases he : t = s
    · rw [if_pos he] at hg
      rcases hown g hg with e | e
      · exact h.nob s hs g e
      · have := h.lv.lt; omega
    · rw [if_neg he] at hg; exact h.nob t ht g hg
  · unfold upd at hg hg2
    by_cases he : t = s
    · rw [if_pos he] at hg
      have hus : u ≠ s := fun e => htu (he.trans e.symm)
      rw [if_neg hus] at hg2
      rcases hown g hg with e | e
      · exact h.dis s u hs hu (fun e => hus e.symm) g e hg2
      · have := hlt g (.inr ⟨u, hu, hg2⟩); omega
    · rw [if_neg he] at hg
      by_cases he2 : u = s
      · rw [if_pos he2] at hg2
        rcases hown g hg2 with e | e
        · exact h.dis s t hs ht (fun e => he e.symm) g e hg
        · have := hlt g (.inr ⟨t, ht, hg⟩); omega
      · rw [if_neg he2] at hg2; exact h.dis t u ht hu htu g hg hg2
  · rw [marked_bit m s _ t hs ht]
    unfold updL
    by_cases he : t = s
    · rw [if_pos he, if_pos he]
    · rw [if_neg he, if_neg he]; exact h.bits t ht
  · rcases e with e | ⟨t, ht, e⟩
    · exact .inl (.inl e)
    · unfold upd at e
      by_cases he : t = s
      · rw [if_pos he] at e
        rcases hown g e with q | q
        · exact .inl (.inr ⟨s, hs, q⟩)
        · exact .inr q
      · rw [if_neg he] at e
        exact .inl (.inr ⟨t, ht, e⟩)
theorem Ap.chg {f' : Nat → Value} {v : Value} {n : Nat} (h : Ap b f v) (ho : ∀ g, Own b f' g → Own b f g ∨ n ≤ g) (hl : ∀ g, v.ownBlock = some g → g < n) : Ap b f' v := fun g hg e => by
  rcases ho g e with q | q
  · exact h g hg q
  · have := hl g hg; omega
/-- The level has the items l', the reference's list l. -/
structure M1 (base : Nat) (w0 w : World) (b k j : Nat) (vW : Value) (l l' : List (Nat × Nat)) : Prop where
  ex : ∃ f m L, St base w b k f m L ∧ Ap b f vW ∧ Inv k L l'
  row : IRow 29 w base vW l
  len : l.length ≤ j
  len' : l'.length ≤ j
  sm : ∀ x ∈ l, x.2 < 18446744073709551616
  bel : Below base w0 w
  hb : base ≤ b
  hw : base ≤ w.heap.size
variable {w0 wr : World} {j : Nat} {vW : Value} {l l' : List (Nat × Nat)}
theorem M1.later (h : M1 base w0 w b k j vW l l') (hb : Below w.heap.size w w') : M1 base w0 w' b k j vW l l' := by
  obtain ⟨f, m, L, h1, h2, h3⟩ := h.ex
  exact ⟨⟨f, m, L, h1.later hb, h2, h3⟩, h.row.later hb, h.len, h.len', h.sm, h.bel.trans (hb.mono h.hw), h.hb, Nat.le_trans h.hw hb.size⟩
theorem M1.l1 (h : M1 base w0 w b k j vW l l') (e : l = l') : L1 base w0 w b k j vW l := by
  subst e
  exact ⟨h.ex, h.row, h.len, h.sm, h.bel, h.hb, h.hw⟩
theorem L1.m1 (h : L1 base w0 w b k j vW l) : M1 base w0 w b k j vW l l := ⟨h.ex, h.row, h.len, h.len, h.sm, h.bel, h.hb, h.hw⟩
theorem M1.without (h : M1 base w0 w b k j vW l l') (hj : j ≤ 100) (x : Nat × Nat) :
    Calls Tryd.prog 15 #[vW, .agg #[.int .u64 (x.1 : Nat), .int .u64 (x.2 : Nat)]] w fun e w' => ∃ v', e = .returned v' ∧ M1 base w0 w' b k j v' (wo l x) l' ∧ Below w.heap.size w w' := by
  refine (rwithout_any l (by have := h.len; omega) vW x w h.row.lies).mono fun e w' ⟨v', he, row, hb⟩ => ⟨v', he, ?_, hb⟩
  obtain ⟨f, m, L, h1, h2, h3⟩ := h.ex
  refine ⟨⟨f, m, L, h1.later hb, fun g hg e => ?_, h3⟩, row.base_le h.hw, Nat.le_trans (wo_le l x) h.len, h.len', fun y hy => h.sm y (wo_mem hy), h.bel.trans (hb.mono h.hw), h.hb, Nat.le_trans h.hw hb.size⟩
  have q1 := (row.lt g hg).1
  have q2 := h1.lt g e
  omega
theorem own_le (h : St base w b k f m L) (hb : base ≤ b) : ∀ g, Own b f g → base ≤ g := by
  intro g hg
  rcases hg with rfl | ⟨s, hs, hg⟩
  · exact hb
  · exact ((h.rows s hs).lt g hg).1
theorem L1.slots (h3 : Inv k L l) (hlen : l.length ≤ 100) (s : Nat) (hs : s < 64) : (L s).length ≤ 1000 := by
  have e := (h3.perm s hs).length_eq
  have e2 : (inSlot k s l).length ≤ l.length := List.length_filter_le _ _
  omega
theorem L1.remove (h : L1 base w0 wr b k j vW l) (hbw : Below wr.heap.size wr w) (hk : k ≤ 3) (hj : j ≤ 100) (x : Nat × Nat) (ha : x.2 < 18446744073709551616) :
    Calls Tryd.prog 14 #[.pointer (some ⟨b, 0, none⟩), .agg #[.int .u64 (x.1 : Nat), .int .u64 (x.2 : Nat)]] w fun e w' =>
      e = .returned (.bool (decide (x ∈ l))) ∧ M1 base w0 w' b k j vW l (wo l x) ∧ KB w w' (fun g => g < wr.heap.size) := by
  obtain ⟨f, m, L, h1, h2, h3⟩ := h.ex
  have h1w := h1.later hbw
  have hl := h.len
  have hlen := L1.slots h3 (by omega) _ (slotOf_lt k x.2)
  have hbase : base ≤ w.heap.size := Nat.le_trans h.hw hbw.size
  refine (remove_any x hk ha base m (L (slotOf k x.2)) hlen h1w.mlt (h1w.rows _ (slotOf_lt k x.2)) (h1w.nob _ (slotOf_lt k x.2)) h1w.lv).mono fun e w' he => ?_
  rcases he with ⟨e1, e2, e3⟩ | ⟨e1, i, hi, hx, e3⟩
  · have hnx : x ∉ l := fun hx => e2 ((h3.mem x).2 hx)
    refine ⟨by rw [decide_eq_false hnx]; exact e1, ?_, KB.of_below _ e3⟩
    rw [wo_not hnx]
    exact ((h.m1).later hbw).later e3
  · have hxl : x ∈ l := (h3.mem x).1 (by have h := List.getElem_mem hi; rw [hx] at h; exact h)
    obtain ⟨f', m', s1, s2, s3⟩ := h1w.chg (slotOf_lt k x.2) e3
    have rw' := h.row.later hbw
    refine ⟨by rw [decide_eq_true hxl]; exact e1, ⟨⟨f', m', _, s1, h2.chg s3 (fun g hg => (rw'.lt g hg).2), h3.remove x i hi hx⟩, rw'.keepKB s2 h2, hl, Nat.le_trans (wo_le l x) hl, h.sm, (h.bel.trans (hbw.mono h.hw)).trans (s2.below hbase (own_le h1 h.hb)), h.hb, Nat.le_trans hbase s2.size⟩, ⟨s2.os, s2.tape, s2.output, s2.size, fun i hi hn => s2.block i hi (fun e => hn (h1.lt i e))⟩⟩
theorem L1.takeIn (h : L1 base w0 wr b k j vW l) (hbw : Below wr.heap.size wr w) (hj : j ≤ 100) (s : Nat) (hs : s < 64) :
    Calls Tryd.prog 19 #[.pointer (some ⟨b, 0, none⟩), .int .i64 s] w fun e w' => ∃ u, e = .returned u ∧ Lies w' u (inSlot k s l) ∧ M1 base w0 w' b k j vW l (woL l (inSlot k s l)) ∧ KB w w' (fun g => g < wr.heap.size) := by
  obtain ⟨f, m, L, h1, h2, h3⟩ := h.ex
  have h1w := h1.later hbw
  have hl := h.len
  have hbase : base ≤ w.heap.size := Nat.le_trans h.hw hbw.size
  refine (take_any s hs base m h1w.mlt (L s) (L1.slots h3 (by omega) s hs) (h1w.rows s hs) (h1w.nob s hs) h1w.lv).mono fun e w' ⟨he, hli, lv', kb⟩ => ?_
  obtain ⟨s1, s2, s3⟩ := h1w.take hs lv' kb
  rw [h3.sort s hs] at hli
  have rw' := h.row.later hbw
  refine ⟨f s, he, hli, ⟨⟨_, _, _, s1, s3 _ h2, h3.taken s hs⟩, rw'.keepKB s2 h2, hl, Nat.le_trans (List.length_filter_le _ _) hl, h.sm, (h.bel.trans (hbw.mono h.hw)).trans (s2.below hbase (own_le h1 h.hb)), h.hb, Nat.le_trans hbase s2.size⟩, ⟨s2.os, s2.tape, s2.output, s2.size, fun i hi hn => s2.block i hi (fun e => hn (h1.lt i e))⟩⟩
theorem take_out (b : Nat) (s : Int) (hs : s < 0 ∨ 64 ≤ s) (w : World) : Calls Tryd.prog 19 #[.pointer (some ⟨b, 0, none⟩), .int .i64 s] w fun e w' => e = .returned (.slice none 0 0) ∧ w = w' := by
  by_cases h0 : s < 0
  · go_enter Tryd.func19, Tryd.ntmps19
    go_wp2_with fail
    go_ret
    exact ⟨rfl, rfl⟩
  · have h1 : 64 ≤ s := by omega
    go_enter Tryd.func19, Tryd.ntmps19
    go_wp2_with fail
    go_ret
    exact ⟨rfl, rfl⟩
theorem lt_len (k : Nat) (l : List (Nat × Nat)) (j : Nat) : (l.filter fun x => decide (slotOf k x.2 < j + 1)).length = (l.filter fun x => decide (slotOf k x.2 < j)).length + (inSlot k j l).length := by
  unfold inSlot
  induction l with
  | nil => rfl
  | cons y t ih =>
    simp only [List.filter_cons]
    by_cases h1 : slotOf k y.2 < j
    · rw [if_pos (decide_eq_true (by omega)), if_pos (decide_eq_true h1), if_neg (by simp; omega)]
      simp only [List.length_cons]; omega
    · by_cases h2 : slotOf k y.2 = j
      · rw [if_pos (decide_eq_true (by omega)), if_neg (by simp; omega), if_pos (decide_eq_true (by omega))]
        simp only [List.length_cons]; omega
      · rw [if_neg (by simp; omega), if_neg (by simp; omega), if_neg (by simp; omega)]
        exact ih
theorem Inv.cnt (h : Inv k L l) : ∀ j, j ≤ 64 → cntL L j = (l.filter fun x => decide (slotOf k x.2 < j)).length
  | 0, _ => by
    have : (l.filter fun x => decide (slotOf k x.2 < 0)) = [] := List.filter_eq_nil_iff.2 fun y _ => by simp
    rw [this]; rfl
  | j + 1, hj => by
    rw [cntL, h.cnt j (by omega), lt_len, (h.perm j (by omega)).length_eq]
theorem Inv.total (h : Inv k L l) : cntL L 64 = l.length := by
  rw [h.cnt 64 (Nat.le_refl _)]
  congr 1
  exact List.filter_eq_self.2 fun y _ => decide_eq_true (slotOf_lt k y.2)
theorem L1.count (h : L1 base w0 w b k j vW l) (hj : j ≤ 100) : Calls Tryd.prog 22 #[.pointer (some ⟨b, 0, none⟩)] w fun e w' => e = .returned (.int .i64 (l.length : Nat)) ∧ w' = w := by
  obtain ⟨f, m, L, h1, h2, h3⟩ := h.ex
  have hl := h.len
  have hc := count_any L m h1.lv (fun s hs => by obtain ⟨A, cap, e, -, -⟩ := (h1.rows s hs).opened; exact ⟨A, cap, e⟩) (L1.slots h3 (by omega))
  rw [h3.total] at hc
  exact hc
theorem L1.first (h : L1 base w0 wr b k j vW l) (hbw : Below wr.heap.size wr w) (a : Int) (h0 : -9223372036854775808 ≤ a) (h1 : a ≤ 9223372036854775807) (hd : Deb w) :
    Calls Tryd.prog 20 #[.pointer (some ⟨b, 0, none⟩), .int .i64 a] w fun e w' => (∃ r, e = .returned (.int .i64 r) ∧ IsFirst (HasS k l) a.toNat r) ∧ w' = w := by
  obtain ⟨f, m, L, g1, g2, g3⟩ := h.ex
  have g1w := g1.later hbw
  refine (first_any m g1w.mlt a h0 h1 hd g1w.lv).mono fun e w' ⟨⟨r, he, hr⟩, hw⟩ => ⟨⟨r, he, hr.congr fun s hs => ?_⟩, hw⟩
  rw [g1.bits s hs, decide_eq_true_eq, (g3.perm s hs).length_eq]
  unfold HasS inSlot
  rw [ne_eq, ne_eq, List.length_eq_zero_iff]
theorem L1.rfirst (h : L1 base w0 wr b k j vW l) (hbw : Below wr.heap.size wr w) (hk : k ≤ 3) (hj : j ≤ 100) (a : Int) (h0 : -9223372036854775808 ≤ a) (h1 : a ≤ 9223372036854775807) :
    Calls Tryd.prog 21 #[.int .i64 k, vW, .int .i64 a] w fun e w' => (∃ r, e = .returned (.int .i64 r) ∧ IsFirst (HasS k l) a.toNat r) ∧ Below w.heap.size w w' :=
  rfirst_any k hk l h.sm (by have := h.len; omega) vW a h0 h1 w (h.row.lies.later hbw)
end Lo
end Go.Proofs.YtkjlfoihojfnbaaDoor
