/- A wheel in memory. -/
import Derived.Test.YtkjlfoihojfnbaaDoorWhB
import Derived.Test.YtkjlfoihojfnbaaDoorLoW
namespace Go.Proofs.YtkjlfoihojfnbaaDoor
open Go.RowKit
set_option linter.unusedVariables false
namespace Wh
open Lv (slotOf slotOf_lt turnOf startOf W64)
open Ln (LV upd only_set only_refl)
open Lo (IRow KB St Own updL ChgOut)
/-- What a wheel's cells point to. -/
structure WV where
  bm : Nat
  bl : Nat → Nat
  f : Nat → Nat → Value
  m : Nat → Nat
  vd : Value
  vf : Value
def whCells (now : Nat) (V : WV) : Array Value :=
  #[.int .u64 (now : Nat), .map (some V.bm), .pointer (some ⟨V.bl 0, 0, none⟩), .pointer (some ⟨V.bl 1, 0, none⟩), .pointer (some ⟨V.bl 2, 0, none⟩), .pointer (some ⟨V.bl 3, 0, none⟩), V.vd, V.vf]
/-- The blocks of a wheel's parts: 0 to 3 the levels, 4 due, 5 far, 6 itself, 7 the map. -/
def Part (b : Nat) (V : WV) (p g : Nat) : Prop :=
  if p = 4 then V.vd.ownBlock = some g else if p = 5 then V.vf.ownBlock = some g else if p = 6 then g = b else if p = 7 then g = V.bm else Own (V.bl p) (V.f p) g
theorem part4 (b : Nat) (V : WV) (g : Nat) : Part b V 4 g = (V.vd.ownBlock = some g) := rfl
theorem part5 (b : Nat) (V : WV) (g : Nat) : Part b V 5 g = (V.vf.ownBlock = some g) := rfl
theorem part6 (b : Nat) (V : WV) (g : Nat) : Part b V 6 g = (g = b) := rfl
theorem part7 (b : Nat) (V : WV) (g : Nat) : Part b V 7 g = (g = V.bm) := rfl
theorem partL (b : Nat) (V : WV) (i g : Nat) (h : i < 4) : Part b V i g = Own (V.bl i) (V.f i) g := by
  unfold Part
  rw [if_neg (by omega), if_neg (by omega), if_neg (by omega), if_neg (by omega)]
def Any (b : Nat) (V : WV) (g : Nat) : Prop := ∃ p, p < 8 ∧ Part b V p g
structure WW (base : Nat) (w : World) (b now : Nat) (V : WV) (L : Nat → Nat → List (Nat × Nat)) (D F M : List (Nat × Nat)) : Prop where
  blk : w.heap[b]? = some (.cells (whCells now V) 88 (0, 0))
  lev : ∀ i, i < 4 → St base w (V.bl i) i (V.f i) (V.m i) (L i)
  due : IRow 34 w base V.vd D
  far : IRow 34 w base V.vf F
  map : MapIs w V.bm M
  apart : ∀ p p', p < 8 → p' < 8 → p ≠ p' → ∀ g, Part b V p g → ¬ Part b V p' g
  hb : base ≤ b
  hm : base ≤ V.bm
  hl : ∀ i, i < 4 → base ≤ V.bl i
/-- What a change of a wheel leaves. -/
structure Chg (w w' : World) (S S' : Nat → Prop) : Prop where
  kb : KB w w' S
  grow : ∀ g, S' g → S g ∨ w.heap.size ≤ g
theorem Chg.trans {w w1 w2 : World} {S S1 S2 : Nat → Prop} (h : Chg w w1 S S1) (h' : Chg w1 w2 S1 S2) : Chg w w2 S S2 :=
  ⟨h.kb.trans h'.kb (fun j hj e => (h.grow j e).elim id (fun e => by omega)), fun g e => (h'.grow g e).elim (h.grow g) (fun e => .inr (Nat.le_trans h.kb.size e))⟩
theorem Chg.refl (w : World) (S : Nat → Prop) : Chg w w S S := ⟨⟨rfl, rfl, rfl, Nat.le_refl _, fun _ _ _ => rfl⟩, fun g e => .inl e⟩
theorem Chg.of_below {w w' : World} (S : Nat → Prop) (h : Below w.heap.size w w') : Chg w w' S S := ⟨KB.of_below _ h, fun g e => .inl e⟩
variable {base b now : Nat} {w w' w1 : World} {V V' : WV} {L : Nat → Nat → List (Nat × Nat)} {D F M : List (Nat × Nat)}
theorem WW.lt (h : WW base w b now V L D F M) : ∀ g, Any b V g → g < w.heap.size := by
  rintro g ⟨p, hp, hg⟩
  rcases (by omega : p < 4 ∨ p = 4 ∨ p = 5 ∨ p = 6 ∨ p = 7) with e | rfl | rfl | rfl | rfl
  · rw [partL b V p g e] at hg; exact (h.lev p e).lt g hg
  · exact (h.due.lt g hg).2
  · exact (h.far.lt g hg).2
  · rw [part6] at hg; subst hg; exact (Array.getElem?_eq_some_iff.1 h.blk).1
  · rw [part7] at hg; subst hg; exact h.map.lt
theorem WW.ge (h : WW base w b now V L D F M) : ∀ g, Any b V g → base ≤ g := by
  rintro g ⟨p, hp, hg⟩
  rcases (by omega : p < 4 ∨ p = 4 ∨ p = 5 ∨ p = 6 ∨ p = 7) with e | rfl | rfl | rfl | rfl
  · rw [partL b V p g e] at hg; exact Lo.own_le (h.lev p e) (h.hl p e) g hg
  · exact (h.due.lt g hg).1
  · exact (h.far.lt g hg).1
  · rw [part6] at hg; subst hg; exact h.hb
  · rw [part7] at hg; subst hg; exact h.hm
theorem WW.keep (h : WW base w b now V L D F M) {S : Nat → Prop} (kb : KB w w' S) (hS : ∀ g, Any b V g → ¬ S g) : WW base w' b now V L D F M :=
  ⟨(kb.block b (h.lt b ⟨6, by omega, rfl⟩) (hS b ⟨6, by omega, rfl⟩)).trans h.blk, fun i hi => (h.lev i hi).keep kb fun g hg => hS g ⟨i, by omega, by rw [partL b V i g hi]; exact hg⟩,
    h.due.keepKB kb fun g hg => hS g ⟨4, by omega, hg⟩, h.far.keepKB kb fun g hg => hS g ⟨5, by omega, hg⟩, h.map.keep (kb.block _ (h.lt _ ⟨7, by omega, rfl⟩) (hS _ ⟨7, by omega, rfl⟩)), h.apart, h.hb, h.hm, h.hl⟩
theorem WW.later (h : WW base w b now V L D F M) (hb : Below w.heap.size w w') : WW base w' b now V L D F M := h.keep (KB.of_below (fun _ => False) hb) (fun _ _ e => e)
theorem apart_of {n p0 : Nat} (h : ∀ p p', p < 8 → p' < 8 → p ≠ p' → ∀ g, Part b V p g → ¬ Part b V p' g) (hlt : ∀ g, Any b V g → g < n) (hs : ∀ p, p < 8 → ∀ g, Part b V' p g → Part b V p g ∨ (p = p0 ∧ n ≤ g)) :
    ∀ p p', p < 8 → p' < 8 → p ≠ p' → ∀ g, Part b V' p g → ¬ Part b V' p' g := by
  intro p p' hp hp' hne g h1 h2
  rcases hs p hp g h1 with a | ⟨a1, a2⟩
  · rcases hs p' hp' g h2 with c | ⟨c1, c2⟩
    · exact h p p' hp hp' hne g a c
    · have := hlt g ⟨p, hp, a⟩; omega
  · rcases hs p' hp' g h2 with c | ⟨c1, c2⟩
    · have := hlt g ⟨p', hp', c⟩; omega
    · exact hne (a1.trans c1.symm)
theorem grow_of {n p0 : Nat} (hs : ∀ p, p < 8 → ∀ g, Part b V' p g → Part b V p g ∨ (p = p0 ∧ n ≤ g)) : ∀ g, Any b V' g → Any b V g ∨ n ≤ g := by
  rintro g ⟨p, hp, hg⟩
  rcases hs p hp g hg with a | ⟨-, a⟩
  · exact .inl ⟨p, hp, a⟩
  · exact .inr a
/-- A part's blocks against the others'. -/
theorem WW.off (h : WW base w b now V L D F M) {p : Nat} (hp : p < 8) {S : Nat → Prop} (hS : ∀ g, S g → Part b V p g) {p' : Nat} (hp' : p' < 8) (hne : p' ≠ p) (g : Nat) (hg : Part b V p' g) : ¬ S g :=
  fun e => h.apart p' p hp' hp hne g hg (hS g e)
/-- One level's change. -/
theorem WW.level (h : WW base w b now V L D F M) {i : Nat} (hi : i < 4) {f' : Nat → Value} {m' : Nat} {g' : Nat → List (Nat × Nat)} (st : St base w' (V.bl i) i f' m' g') (kb : KB w w' (Own (V.bl i) (V.f i)))
    (hown : ∀ g, Own (V.bl i) f' g → Own (V.bl i) (V.f i) g ∨ w.heap.size ≤ g) :
    ∃ V', WW base w' b now V' (updLL L i g') D F M ∧ Chg w w' (Any b V) (Any b V') ∧ V'.bl = V.bl ∧ V'.vd = V.vd ∧ V'.vf = V.vf := by
  have hS : ∀ g, Own (V.bl i) (V.f i) g → Part b V i g := fun g e => by rw [partL b V i g hi]; exact e
  have hs : ∀ p, p < 8 → ∀ g, Part b { V with f := fun j => if j = i then f' else V.f j, m := fun j => if j = i then m' else V.m j } p g → Part b V p g ∨ (p = i ∧ w.heap.size ≤ g) := by
    intro p hp g hg
    rcases (by omega : p < 4 ∨ p = 4 ∨ p = 5 ∨ p = 6 ∨ p = 7) with e | rfl | rfl | rfl | rfl
    · rw [partL _ _ p g e] at hg ⊢
      dsimp only at hg
      by_cases hpi : p = i
      · subst hpi
        rw [if_pos rfl] at hg
        exact (hown g hg).elim .inl (fun e => .inr ⟨rfl, e⟩)
      · rw [if_neg hpi] at hg; exact .inl hg
    · exact .inl hg
    · exact .inl hg
    · exact .inl hg
    · exact .inl hg
  refine ⟨{ V with f := fun j => if j = i then f' else V.f j, m := fun j => if j = i then m' else V.m j }, ⟨?_, fun j hj => ?_, ?_, ?_, ?_, apart_of h.apart h.lt hs, h.hb, h.hm, h.hl⟩, ⟨⟨kb.os, kb.tape, kb.output, kb.size, fun j hj hn => kb.block j hj (fun e => hn ⟨i, by omega, hS j e⟩)⟩, grow_of hs⟩, rfl, rfl, rfl⟩
  · exact (kb.block b (h.lt b ⟨6, by omega, rfl⟩) (h.off (by omega) hS (p' := 6) (by omega) (by omega) b rfl)).trans h.blk
  · dsimp only
    by_cases e : j = i
    · subst e
      rw [if_pos rfl, if_pos rfl, updLL_same]
      exact st
    · rw [if_neg e, if_neg e, updLL_other _ e]
      exact (h.lev j hj).keep kb fun g hg => h.off (by omega) hS (p' := j) (by omega) e g (by rw [partL b V j g hj]; exact hg)
  · exact h.due.keepKB kb fun g hg => h.off (by omega) hS (p' := 4) (by omega) (by omega) g hg
  · exact h.far.keepKB kb fun g hg => h.off (by omega) hS (p' := 5) (by omega) (by omega) g hg
  · exact h.map.keep (kb.block _ (h.lt _ ⟨7, by omega, rfl⟩) (h.off (by omega) hS (p' := 7) (by omega) (by omega) _ rfl))
theorem blk_set {w : World} {b o : Nat} {cs cs' : Array Value} {T : TypeId} {v : Value} (h : w.heap[b]? = some (.cells cs T (0, 0))) (e : cs.setIfInBounds o v = cs') : (w.setCell ⟨b, o, none⟩ v).heap[b]? = some (.cells cs' T (0, 0)) := by
  simp [World.setCell, Array.getElem?_modify, h, e]
theorem kb_set (w : World) (b o : Nat) (v : Value) : KB w (w.setCell ⟨b, o, none⟩ v) (fun g => g = b) :=
  KB.of_grown _ (only_set w w b o v (only_refl w b)) (fun g e => by cases e; rfl)
/-- The time is set. -/
theorem WW.setNow (h : WW base w b now V L D F M) (t : Nat) : WW base (w.setCell ⟨b, 0, none⟩ (.int .u64 (t : Nat))) b t V L D F M ∧ Chg w (w.setCell ⟨b, 0, none⟩ (.int .u64 (t : Nat))) (Any b V) (Any b V) := by
  have kb := kb_set w b 0 (.int .u64 (t : Nat))
  have hS : ∀ g, g = b → Part b V 6 g := fun g e => e
  refine ⟨⟨blk_set h.blk (by simp [whCells]), fun j hj => (h.lev j hj).keep kb fun g hg => h.off (by omega) hS (p' := j) (by omega) (by omega) g (by rw [partL b V j g hj]; exact hg), h.due.keepKB kb fun g hg => h.off (by omega) hS (p' := 4) (by omega) (by omega) g hg,
    h.far.keepKB kb fun g hg => h.off (by omega) hS (p' := 5) (by omega) (by omega) g hg, h.map.keep (kb.block _ (h.lt _ ⟨7, by omega, rfl⟩) (h.off (by omega) hS (p' := 7) (by omega) (by omega) _ rfl)), h.apart, h.hb, h.hm, h.hl⟩,
    ⟨⟨kb.os, kb.tape, kb.output, kb.size, fun j hj hn => kb.block j hj (fun e => hn ⟨6, by omega, e⟩)⟩, fun g e => .inl e⟩⟩
/-- Another list due. -/
theorem WW.setD (h : WW base w b now V L D F M) {v' : Value} {D' : List (Nat × Nat)} (kb : KB w w1 (fun g => V.vd.ownBlock = some g)) (row : IRow 34 w1 base v' D') (ho : ∀ g, v'.ownBlock = some g → V.vd.ownBlock = some g ∨ w.heap.size ≤ g) :
    WW base (w1.setCell ⟨b, 6, none⟩ v') b now { V with vd := v' } L D' F M ∧ Chg w (w1.setCell ⟨b, 6, none⟩ v') (Any b V) (Any b { V with vd := v' }) := by
  have kb2 := (KB.trans (⟨kb.os, kb.tape, kb.output, kb.size, fun j hj hn => kb.block j hj (fun e => hn (.inr e))⟩ : KB w w1 (fun g => g = b ∨ V.vd.ownBlock = some g)) (kb_set w1 b 6 v') (fun j _ e => .inl e))
  have hblt : b < w.heap.size := h.lt b ⟨6, by omega, rfl⟩
  have hb1 : w1.heap[b]? = some (.cells (whCells now V) 88 (0, 0)) := (kb.block b hblt (h.off (p := 4) (by omega) (fun g e => e) (p' := 6) (by omega) (by omega) b rfl)).trans h.blk
  have hout : ∀ p, p < 8 → p ≠ 4 → p ≠ 6 → ∀ g, Part b V p g → ¬ (g = b ∨ V.vd.ownBlock = some g) := fun p hp h4 h6 g hg e => by
    rcases e with e | e
    · exact h.apart p 6 hp (by omega) h6 g hg e
    · exact h.apart p 4 hp (by omega) h4 g hg e
  have hs : ∀ p, p < 8 → ∀ g, Part b { V with vd := v' } p g → Part b V p g ∨ (p = 4 ∧ w.heap.size ≤ g) := by
    intro p hp g hg
    rcases (by omega : p < 4 ∨ p = 4 ∨ p = 5 ∨ p = 6 ∨ p = 7) with e | rfl | rfl | rfl | rfl
    · rw [partL _ _ p g e] at hg ⊢; exact .inl hg
    · exact (ho g hg).elim .inl (fun e => .inr ⟨rfl, e⟩)
    · exact .inl hg
    · exact .inl hg
    · exact .inl hg
  refine ⟨⟨blk_set hb1 (by simp [whCells]), fun j hj => (h.lev j hj).keep kb2 fun g hg => hout j (by omega) (by omega) (by omega) g (by rw [partL b V j g hj]; exact hg), ?_, h.far.keepKB kb2 fun g hg => hout 5 (by omega) (by omega) (by omega) g hg,
    h.map.keep (kb2.block _ (h.lt _ ⟨7, by omega, rfl⟩) (hout 7 (by omega) (by omega) (by omega) _ rfl)), apart_of h.apart h.lt hs, h.hb, h.hm, h.hl⟩,
    ⟨⟨kb2.os, kb2.tape, kb2.output, kb2.size, fun j hj hn => kb2.block j hj (fun e => hn (e.elim (fun e => ⟨6, by omega, e⟩) (fun e => ⟨4, by omega, e⟩)))⟩, grow_of hs⟩⟩
  refine row.keepKB (kb_set w1 b 6 v') fun g hg e => ?_
  rcases ho g hg with a | a
  · exact h.apart 4 6 (by omega) (by omega) (by omega) g a e
  · omega
/-- Another list of those that are far. -/
theorem WW.setF (h : WW base w b now V L D F M) {v' : Value} {F' : List (Nat × Nat)} (kb : KB w w1 (fun g => V.vf.ownBlock = some g)) (row : IRow 34 w1 base v' F') (ho : ∀ g, v'.ownBlock = some g → V.vf.ownBlock = some g ∨ w.heap.size ≤ g) :
    WW base (w1.setCell ⟨b, 7, none⟩ v') b now { V with vf := v' } L D F' M ∧ Chg w (w1.setCell ⟨b, 7, none⟩ v') (Any b V) (Any b { V with vf := v' }) := by
  have kb2 := (KB.trans (⟨kb.os, kb.tape, kb.output, kb.size, fun j hj hn => kb.block j hj (fun e => hn (.inr e))⟩ : KB w w1 (fun g => g = b ∨ V.vf.ownBlock = some g)) (kb_set w1 b 7 v') (fun j _ e => .inl e))
  have hblt : b < w.heap.size := h.lt b ⟨6, by omega, rfl⟩
  have hb1 : w1.heap[b]? = some (.cells (whCells now V) 88 (0, 0)) := (kb.block b hblt (h.off (p := 5) (by omega) (fun g e => e) (p' := 6) (by omega) (by omega) b rfl)).trans h.blk
  have hout : ∀ p, p < 8 → p ≠ 5 → p ≠ 6 → ∀ g, Part b V p g → ¬ (g = b ∨ V.vf.ownBlock = some g) := fun p hp h4 h6 g hg e => by
    rcases e with e | e
    · exact h.apart p 6 hp (by omega) h6 g hg e
    · exact h.apart p 5 hp (by omega) h4 g hg e
  have hs : ∀ p, p < 8 → ∀ g, Part b { V with vf := v' } p g → Part b V p g ∨ (p = 5 ∧ w.heap.size ≤ g) := by
    intro p hp g hg
    rcases (by omega : p < 4 ∨ p = 4 ∨ p = 5 ∨ p = 6 ∨ p = 7) with e | rfl | rfl | rfl | rfl
    · rw [partL _ _ p g e] at hg ⊢; exact .inl hg
    · exact .inl hg
    · exact (ho g hg).elim .inl (fun e => .inr ⟨rfl, e⟩)
    · exact .inl hg
    · exact .inl hg
  refine ⟨⟨blk_set hb1 (by simp [whCells]), fun j hj => (h.lev j hj).keep kb2 fun g hg => hout j (by omega) (by omega) (by omega) g (by rw [partL b V j g hj]; exact hg), h.due.keepKB kb2 fun g hg => hout 4 (by omega) (by omega) (by omega) g hg, ?_,
    h.map.keep (kb2.block _ (h.lt _ ⟨7, by omega, rfl⟩) (hout 7 (by omega) (by omega) (by omega) _ rfl)), apart_of h.apart h.lt hs, h.hb, h.hm, h.hl⟩,
    ⟨⟨kb2.os, kb2.tape, kb2.output, kb2.size, fun j hj hn => kb2.block j hj (fun e => hn (e.elim (fun e => ⟨6, by omega, e⟩) (fun e => ⟨5, by omega, e⟩)))⟩, grow_of hs⟩⟩
  refine row.keepKB (kb_set w1 b 7 v') fun g hg e => ?_
  rcases ho g hg with a | a
  · exact h.apart 5 6 (by omega) (by omega) (by omega) g a e
  · omega
/-- The map's change. -/
theorem WW.setM (h : WW base w b now V L D F M) {M' : List (Nat × Nat)} (turn : w.mapTurned w' V.bm) (hm : MapIs w' V.bm M') : WW base w' b now V L D F M' ∧ Chg w w' (Any b V) (Any b V) := by
  have kb : KB w w' (fun g => g = V.bm) := KB.of_grown _ turn.grown (fun g e => by cases e; rfl)
  have hS : ∀ g, g = V.bm → Part b V 7 g := fun g e => e
  refine ⟨⟨(kb.block b (h.lt b ⟨6, by omega, rfl⟩) (h.off (by omega) hS (p' := 6) (by omega) (by omega) b rfl)).trans h.blk, fun j hj => (h.lev j hj).keep kb fun g hg => h.off (by omega) hS (p' := j) (by omega) (by omega) g (by rw [partL b V j g hj]; exact hg), h.due.keepKB kb fun g hg => h.off (by omega) hS (p' := 4) (by omega) (by omega) g hg,
    h.far.keepKB kb fun g hg => h.off (by omega) hS (p' := 5) (by omega) (by omega) g hg, hm, h.apart, h.hb, h.hm, h.hl⟩,
    ⟨⟨kb.os, kb.tape, kb.output, kb.size, fun j hj hn => kb.block j hj (fun e => hn ⟨7, by omega, e⟩)⟩, fun g e => .inl e⟩⟩
/-- The cells. -/
theorem WW.cells (h : WW base w b now V L D F M) : w.cell? ⟨b, 0, none⟩ = some (.int .u64 (now : Nat)) ∧ w.cell? ⟨b, 1, none⟩ = some (.map (some V.bm)) ∧ (∀ i, i < 4 → w.cell? ⟨b, 2 + i, none⟩ = some (.pointer (some ⟨V.bl i, 0, none⟩))) ∧ w.cell? ⟨b, 6, none⟩ = some V.vd ∧ w.cell? ⟨b, 7, none⟩ = some V.vf ∧ ∀ o, w.frozen? ⟨b, o, none⟩ = false := by
  have e := h.blk
  refine ⟨by simp [World.cell?, e, whCells], by simp [World.cell?, e, whCells], fun i hi => ?_, by simp [World.cell?, e, whCells], by simp [World.cell?, e, whCells], fun o => by simp [World.frozen?, e]⟩
  rcases (by omega : i = 0 ∨ i = 1 ∨ i = 2 ∨ i = 3) with rfl | rfl | rfl | rfl <;> simp [World.cell?, e, whCells]
end Wh
end Go.Proofs.YtkjlfoihojfnbaaDoor
