/- Taking the slots in order: the state. -/
import Derived.Test.YtmemjljajbfdlaaDoorLoM
namespace Go.Proofs.YtmemjljajbfdlaaDoor
open Go.RowKit
set_option linter.unusedVariables false
namespace Lo
open Lv (W64 slotOf slotOf_lt)
open Ln (lvCells LV upd only_set only_refl only_drew)
/-- The slots below jl are empty; two lists hold the items of those below jg, jh. -/
structure L2 (base : Nat) (w0 w : World) (b k : Nat) (l : List (Nat × Nat)) (vW vG vH : Value) (jl jg jh : Nat) : Prop where
  ex : ∃ f m L, St base w b k f m L ∧ Ap b f vW ∧ Ap b f vG ∧ Ap b f vH ∧ (∀ s, s < 64 → jl ≤ s → sortI (L s) = inSlot k s l) ∧ (∀ s, s < jl → L s = []) ∧ (∀ i, i < jl → i < 64 → m.testBit i = false) ∧ (∀ s, s < 64 → (L s).length ≤ 100)
  rowW : IRow 28 w base vW l
  rowG : IRow 28 w base vG (byS k l jg)
  rowH : IRow 28 w base vH (byS k l jh)
  dGH : ∀ g, vG.ownBlock = some g → vH.ownBlock ≠ some g
  dGW : ∀ g, vG.ownBlock = some g → vW.ownBlock ≠ some g
  dHW : ∀ g, vH.ownBlock = some g → vW.ownBlock ≠ some g
  len : l.length ≤ 100
  sm : ∀ x ∈ l, x.2 < 18446744073709551616
  bel : Below base w0 w
  hb : base ≤ b
  hw : base ≤ w.heap.size
variable {base b k jl jg jh : Nat} {w0 w w' : World} {l : List (Nat × Nat)} {vW vG vH : Value}
theorem L2.start {j : Nat} (h : L1 base w0 w b k j vW l) (hj : j ≤ 100) : L2 base w0 w b k l vW (.slice none 0 0) (.slice none 0 0) 0 0 0 := by
  obtain ⟨f, m, L, h1, h2, h3⟩ := h.ex
  refine ⟨⟨f, m, L, h1, h2, fun g hg => (by cases hg), fun g hg => (by cases hg), fun s hs _ => h3.sort s hs, fun s hs => (by omega), fun i hi => (by omega), fun s hs => ?_⟩, h.row, IRow.nil _ _ _, IRow.nil _ _ _, fun g hg => (by cases hg), fun g hg => (by cases hg), fun g hg => (by cases hg), Nat.le_trans h.len hj, h.sm, h.bel, h.hb, h.hw⟩
  have e := (h3.perm s hs).length_eq
  have e2 : (inSlot k s l).length ≤ l.length := List.length_filter_le _ _
  have := h.len
  omega
theorem L2.later (h : L2 base w0 w b k l vW vG vH jl jg jh) (hb : Below w.heap.size w w') : L2 base w0 w' b k l vW vG vH jl jg jh := by
  obtain ⟨f, m, L, h1, h2⟩ := h.ex
  exact ⟨⟨f, m, L, h1.later hb, h2⟩, h.rowW.later hb, h.rowG.later hb, h.rowH.later hb, h.dGH, h.dGW, h.dHW, h.len, h.sm, h.bel.trans (hb.mono h.hw), h.hb, Nat.le_trans h.hw hb.size⟩
theorem L2.take (h : L2 base w0 w b k l vW vG vH jl jg jh) (hj : jl < 64) :
    Calls Tryd.prog 12 #[.pointer (some ⟨b, 0, none⟩), .int .i64 jl] w fun e w' => ∃ u, e = .returned u ∧ Lies w' u (inSlot k jl l) ∧ L2 base w0 w' b k l vW vG vH (jl + 1) jg jh := by
  obtain ⟨f, m, L, h1, aW, aG, aH, h2, h3, h4, h5⟩ := h.ex
  refine (take_any jl hj base m h1.mlt (L jl) (by have := h5 jl hj; omega) (h1.rows jl hj) (h1.nob jl hj) h1.lv).mono fun e w' ⟨he, hl, lv', kb⟩ => ?_
  obtain ⟨s1, s2, s3⟩ := h1.take hj lv' kb
  rw [h2 jl hj (Nat.le_refl _)] at hl
  refine ⟨f jl, he, hl, ⟨_, _, _, s1, s3 _ aW, s3 _ aG, s3 _ aH, fun s hs hle => ?_, fun s hs => ?_, fun i hi hi2 => ?_, fun s hs => ?_⟩, h.rowW.keepKB s2 aW, h.rowG.keepKB s2 aG, h.rowH.keepKB s2 aH, h.dGH, h.dGW, h.dHW, h.len, h.sm, h.bel.trans (s2.below h.hw fun g hg => ?_), h.hb, Nat.le_trans h.hw s2.size⟩
  · unfold updL
    rw [if_neg (by omega)]
    exact h2 s hs (by omega)
  · unfold updL
    by_cases e : s = jl
    · rw [if_pos e]
    · rw [if_neg e]; exact h3 s (by omega)
  · rw [marked_bit m jl 0 i hj hi2]
    by_cases e : i = jl
    · rw [if_pos e]; simp
    · rw [if_neg e]; exact h4 i (by omega) hi2
  · unfold updL
    by_cases e : s = jl
    · rw [if_pos e]; simp
    · rw [if_neg e]; exact h5 s hs
  · rcases hg with rfl | ⟨s, hs, hg⟩
    · exact h.hb
    · exact ((h1.rows s hs).lt g hg).1
theorem L2.appG {v' : Value} (h : L2 base w0 w b k l vW vG vH jl jg jh) (row : IRow 28 w' base v' (byS k l jg ++ inSlot k jg l)) (hg : w.grownBy w' vG.ownBlock) (ho : v'.ownBlock = vG.ownBlock ∨ v'.ownBlock = some w.heap.size) :
    L2 base w0 w' b k l vW v' vH jl (jg + 1) jh := by
  obtain ⟨f, m, L, h1, aW, aG, aH, h2⟩ := h.ex
  have kb : KB w w' (fun g => vG.ownBlock = some g) := KB.of_grown _ hg (fun g e => e)
  have hap : Ap b f v' := fun g hg2 e => by
    rcases ho with o | o
    · exact aG g (o ▸ hg2) e
    · have := h1.lt g e; rw [o] at hg2; cases hg2; omega
  refine ⟨⟨f, m, L, h1.keep kb (fun g e1 e2 => aG g e2 e1), aW, hap, aH, h2⟩, h.rowW.keepKB kb (fun g e1 e2 => h.dGW g e2 e1), row, h.rowH.keepKB kb (fun g e1 e2 => h.dGH g e2 e1), fun g e1 e2 => ?_, fun g e1 e2 => ?_, h.dHW, h.len, h.sm, h.bel.trans (kb.below h.hw fun g e => (h.rowG.lt g e).1), h.hb, Nat.le_trans h.hw kb.size⟩
  · rcases ho with o | o
    · exact h.dGH g (o ▸ e1) e2
    · have := (h.rowH.lt g e2).2; rw [o] at e1; cases e1; omega
  · rcases ho with o | o
    · exact h.dGW g (o ▸ e1) e2
    · have := (h.rowW.lt g e2).2; rw [o] at e1; cases e1; omega
theorem L2.appH {v' : Value} (h : L2 base w0 w b k l vW vG vH jl jg jh) (row : IRow 28 w' base v' (byS k l jh ++ inSlot k jh l)) (hg : w.grownBy w' vH.ownBlock) (ho : v'.ownBlock = vH.ownBlock ∨ v'.ownBlock = some w.heap.size) :
    L2 base w0 w' b k l vW vG v' jl jg (jh + 1) := by
  obtain ⟨f, m, L, h1, aW, aG, aH, h2⟩ := h.ex
  have kb : KB w w' (fun g => vH.ownBlock = some g) := KB.of_grown _ hg (fun g e => e)
  have hap : Ap b f v' := fun g hg2 e => by
    rcases ho with o | o
    · exact aH g (o ▸ hg2) e
    · have := h1.lt g e; rw [o] at hg2; cases hg2; omega
  refine ⟨⟨f, m, L, h1.keep kb (fun g e1 e2 => aH g e2 e1), aW, aG, hap, h2⟩, h.rowW.keepKB kb (fun g e1 e2 => h.dHW g e2 e1), h.rowG.keepKB kb (fun g e1 e2 => h.dGH g e1 e2), row, fun g e1 e2 => ?_, h.dGW, fun g e1 e2 => ?_, h.len, h.sm, h.bel.trans (kb.below h.hw fun g e => (h.rowH.lt g e).1), h.hb, Nat.le_trans h.hw kb.size⟩
  · rcases ho with o | o
    · exact h.dGH g e1 (o ▸ e2)
    · have := (h.rowG.lt g e1).2; rw [o] at e2; cases e2; omega
  · rcases ho with o | o
    · exact h.dHW g (o ▸ e1) e2
    · have := (h.rowW.lt g e2).2; rw [o] at e1; cases e1; omega
theorem L2.of (h : L2 base w0 w b k l vW vG vH jl jg jh) (hk : k ≤ 3) (s : Nat) :
    Calls Tryd.prog 13 #[.int .i64 k, vW, .int .i64 s] w fun e w' => ∃ u, e = .returned u ∧ Lies w' u (inSlot k s l) ∧ L2 base w0 w' b k l vW vG vH jl jg jh :=
  (rof_any k hk l h.sm (by have := h.len; omega) vW s w h.rowW.lies).mono fun e w' ⟨u, he, row, hb⟩ => ⟨u, he, row.lies, h.later hb⟩
theorem L2.back {u : Value} {s : Nat} (h : L2 base w0 w b k l vW vG vH jl jg jh) (hl : Lies w u (inSlot k s l)) :
    Calls Tryd.prog 11 #[u] w fun e w' => ∃ u', e = .returned u' ∧ Lies w' u' (inSlot k s l) ∧ L2 base w0 w' b k l vW vG vH jl jg jh :=
  (back_any (inSlot k s l) (by have := h.len; have : (inSlot k s l).length ≤ l.length := List.length_filter_le _ _; omega) u w hl).mono fun e w' ⟨u', he, row, hb⟩ => ⟨u', he, row.lies, h.later hb⟩
theorem cnt_zero (L : Nat → List (Nat × Nat)) : ∀ j, (∀ s, s < j → L s = []) → cntL L j = 0
  | 0, _ => rfl
  | j + 1, h => by
    have e := h j (by omega)
    simp only [cntL, cnt_zero L j (fun s hs => h s (by omega)), e, List.length_nil]
theorem L2.count (h : L2 base w0 w b k l vW vG vH 64 jg jh) : Calls Tryd.prog 15 #[.pointer (some ⟨b, 0, none⟩)] w fun e w' => e = .returned (.int .i64 0) ∧ w' = w := by
  obtain ⟨f, m, L, h1, -, -, -, -, h3, -, h5⟩ := h.ex
  have hc := count_any L m h1.lv (fun s hs => by obtain ⟨A, cap, e, -, -⟩ := (h1.rows s hs).opened; exact ⟨A, cap, e⟩) (fun s hs => by have := h5 s hs; omega)
  rw [cnt_zero L 64 h3] at hc
  exact hc
theorem L2.first (h : L2 base w0 w b k l vW vG vH 64 jg jh) : Calls Tryd.prog 16 #[.pointer (some ⟨b, 0, none⟩), .int .i64 0] w fun e w' => e = .returned (.int .i64 (-1)) ∧ w' = w := by
  obtain ⟨f, m, L, h1, -, -, -, -, -, h4, -⟩ := h.ex
  have hm := zero_of_bits m h1.mlt (fun i hi => h4 i hi hi)
  have hlv := h1.lv
  rw [hm] at hlv
  exact first_zero hlv
theorem L2.equal (h : L2 base w0 w b k l vW vG vH jl 64 64) : Calls Tryd.prog 14 #[vG, vH] w fun e w' => e = .returned (.bool true) ∧ Below w.heap.size w w' :=
  equal_same (byS k l 64) (by have := byS_le k l 64; have := h.len; omega) vG vH w h.rowG.lies h.rowH.lies
end Lo
end Go.Proofs.YtmemjljajbfdlaaDoor
