/- Plain: the histories of an index are those of each workflow's batches; an order in which they all fit. -/
import Derived.Test.YtfmnacebgplpcaaGreatIoan
set_option linter.unusedVariables false
set_option linter.unusedSimpArgs false
open Go.RowKit
namespace Go.Proofs.YtfmnacebgplpcaaGreat
namespace Hi
open Ev (EV)
open Cn (BT bvalid)

theorem snoc_ind {α : Type} {P : List α → Prop} (h0 : P []) (h1 : ∀ l a, P l → P (l ++ [a])) (l : List α) : P l := by
 have : ∀ n (l : List α), l.length = n → P l := by
  intro n
  induction n with
  | zero => intro l hl; rw [List.eq_nil_of_length_eq_zero hl]; exact h0
  | succ n ih =>
   intro l hl
   rcases List.eq_nil_or_concat l with rfl | ⟨r, a, rfl⟩
   ·simp at hl
   ·rw [List.concat_eq_append] at hl ⊢
    exact h1 r a (ih r (by simp at hl; omega))
 exact this _ l rfl
def ofF (f : ByteArray) (l : List BT) : List BT := l.filter fun b => decide (b.flow = f)
theorem ofF_snoc (f : ByteArray) (l : List BT) (b : BT) : ofF f (l ++ [b]) = if b.flow = f then ofF f l ++ [b] else ofF f l := by
 unfold ofF
 rw [List.filter_append]
 by_cases h : b.flow = f
 ·simp [h]
 ·simp [h]
theorem findX_set {l : List HM} {i : Nat} {g : HM} (hi : i < l.length) (hg : g.flow = l[i].flow) (f : ByteArray) : findX (l.set i g) f = findX l f := by
 have hmap : (l.set i g).map (·.flow) = l.map (·.flow) := by
  rw [List.map_set, hg]
  exact M70
 have hp : ∀ l : List HM, findX l f = (l.map (·.flow)).findIdx? (fun x => decide (x = f)) := fun l => by
  unfold findX
  rw [List.findIdx?_map]; rfl
 rw [hp, hmap, ← hp]
theorem histX_set {x : XM} {i : Nat} {g : HM} (hi : i < x.flows.length) (hg : g.flow = x.flows[i].flow) (all : List BT) (f : ByteArray) (hf : findX x.flows (x.flows[i].flow) = some i) :
  histX ⟨x.flows.set i g, all⟩ f = if x.flows[i].flow = f then g else histX x f := by
 unfold histX
 simp only
 rw [findX_set hi hg]
 by_cases h : x.flows[i].flow = f
 ·rw [if_pos h, ← h, hf]
  simp [hi]
 ·rw [if_neg h]
  cases hk : findX x.flows f with
  | none => rfl
  | some k =>
   obtain ⟨hk1, hk2, -⟩ := findX_some hk
   have hne : i ≠ k := fun e => by subst e; exact h hk2
   simp [List.getD_eq_getElem?_getD, List.getElem?_set_ne hne]
theorem histX_new {x : XM} {g : HM} (hn : findX x.flows g.flow = none) (all : List BT) (f : ByteArray) : histX ⟨x.flows ++ [g], all⟩ f = if g.flow = f then g else histX x f := by
 unfold histX
 simp only
 have happ : findX (x.flows ++ [g]) f = match findX x.flows f with
  | some i => some i
  | none => if g.flow = f then some x.flows.length else none := by
  unfold findX
  rw [List.findIdx?_append]
  cases List.findIdx? (fun h => decide (h.flow = f)) x.flows with
  | some i => rfl
  | none =>
   by_cases h : g.flow = f
   ·simp [h, List.findIdx?_cons]
   ·simp [h, List.findIdx?_cons]
 rw [happ]
 by_cases h : g.flow = f
 ·subst h
  rw [hn]
  simp
 ·rw [if_neg h]
  cases hk : findX x.flows f with
  | none => simp [h]
  | some k =>
   obtain ⟨hk1, -, -⟩ := findX_some hk
   rw [if_neg h]
   show (x.flows ++ [g]).getD k (HM.new f) = x.flows.getD k (HM.new f)
   rw [List.getD_eq_getElem?_getD, List.getD_eq_getElem?_getD, List.getElem?_append_left hk1]
theorem histX_flow (x : XM) (f : ByteArray) : (histX x f).flow = f := by
 unfold histX
 cases hf : findX x.flows f with
 | none => rfl
 | some i =>
  obtain ⟨hi, h1, -⟩ := findX_some hf
  simp only [List.getD_eq_getElem?_getD, List.getElem?_eq_getElem hi, Option.getD_some]
  exact h1
theorem histX_add {x : XM} {b : BT} (hc : (addX x b).1 = 0) (f : ByteArray) : histX (addX x b).2 f = if b.flow = f then (addM (histX x f) b).2 else histX x f := by
 obtain ⟨ha, hm, hv, hk⟩ := addX_all hc
 have hx : addX x b = match findX x.flows b.flow with
  | some i => (0, ⟨x.flows.set i (addM (histX x b.flow) b).2, x.all ++ [b]⟩)
  | none => (0, ⟨x.flows ++ [(addM (histX x b.flow) b).2], x.all ++ [b]⟩) := by
  unfold addX
  rw [if_neg (by rw [hv]; decide), if_neg (by omega), if_neg (fun q => q hm)]
  cases findX x.flows b.flow <;> rfl
 have hfl : (addM (histX x b.flow) b).2.flow = b.flow := by rw [addM_flow, histX_flow]
 rw [hx]
 cases hf : findX x.flows b.flow with
 | none =>
  simp only
  rw [histX_new (by rw [hfl]; exact hf), hfl]
  by_cases h : b.flow = f
  ·rw [if_pos h, if_pos h, h]
  ·rw [if_neg h, if_neg h]
 | some i =>
  obtain ⟨hi, h1, -⟩ := findX_some hf
  simp only
  rw [histX_set hi (by rw [hfl, h1]) _ f (by rw [h1]; exact hf), h1]
  by_cases h : b.flow = f
  ·rw [if_pos h, if_pos h, h]
  ·rw [if_neg h, if_neg h]
def OKX (l : List BT) : Prop := ∀ a b r, l = a ++ b :: r → (addX (repX a) b).1 = 0
def OKM (f : ByteArray) (l : List BT) : Prop := ∀ a b r, l = a ++ b :: r → (addM (rep f a) b).1 = 0
theorem snoc_split {α : Type} {l a r : List α} {x b : α} (e : l ++ [x] = a ++ b :: r) : (r = [] ∧ a = l ∧ b = x) ∨ ∃ r', r = r' ++ [x] ∧ l = a ++ b :: r' := by
 rcases List.eq_nil_or_concat r with rfl | ⟨r', y, rfl⟩
 ·left
  have := List.append_inj' e (by simp)
  exact ⟨rfl, this.1.symm, (List.cons.inj this.2).1.symm⟩
 ·right
  rw [List.concat_eq_append] at e ⊢
  have e2 : l ++ [x] = (a ++ b :: r') ++ [y] := by rw [e]; simp
  have := List.append_inj' e2 (by simp)
  exact ⟨r', by rw [(List.cons.inj this.2).1], this.1⟩
theorem M91 {p : Prop} (h : p := by
 constructor
 ·intro h
  exact ⟨fun a c r e => h a c (r ++ [b]) (by rw [e]; simp), h l b [] rfl⟩
 ·rintro ⟨h1, h2⟩ a c r e
  rcases snoc_split e with ⟨rfl, rfl, rfl⟩ | ⟨r', rfl, e2⟩
  ·exact h2
  ·exact h1 a c r' e2) : p := h
theorem okX_snoc {l : List BT} {b : BT} : OKX (l ++ [b]) ↔ OKX l ∧ (addX (repX l) b).1 = 0 := by
 exact M91
theorem okM_snoc {f : ByteArray} {l : List BT} {b : BT} : OKM f (l ++ [b]) ↔ OKM f l ∧ (addM (rep f l) b).1 = 0 := by
 exact M91
theorem M106 {p : Prop} (h : p := by
 rw [repX_snoc]
 refine ⟨by rw [(addX_all h2).1, e1], fun f => ?_⟩
 rw [histX_add h2, ofF_snoc]
 by_cases hf : b.flow = f
 ·rw [if_pos hf, if_pos hf, rep_snoc, e2]
 ·rw [if_neg hf, if_neg hf, e2]) : p := h
theorem okX_is (l : List BT) : OKX l ↔ Rises l ∧ (∀ b ∈ l, bvalid b.flow b.at' b.es = true) ∧ ∀ f, OKM f (ofF f l) := by
 have key : (OKX l ↔ Rises l ∧ (∀ b ∈ l, bvalid b.flow b.at' b.es = true) ∧ ∀ f, OKM f (ofF f l)) ∧ (OKX l → (repX l).all = l ∧ ∀ f, histX (repX l) f = rep f (ofF f l)) := by
  induction l using snoc_ind with
  | h0 =>
   refine ⟨⟨fun _ => ⟨List.Pairwise.nil, fun b hb => by simp at hb, fun f a b r e => by simp [ofF] at e⟩, fun _ a b r e => by simp at e⟩, fun _ => ⟨rfl, fun f => rfl⟩⟩
  | h1 l b ih =>
   obtain ⟨ih1, ih2⟩ := ih
   constructor
   ·rw [okX_snoc, ih1]
    constructor
    ·rintro ⟨⟨h1, h2, h3⟩, h4⟩
     obtain ⟨e1, e2⟩ := ih2 (ih1.2 ⟨h1, h2, h3⟩)
     obtain ⟨-, hm, hv, hk⟩ := addX_all h4
     refine ⟨List.pairwise_append.2 ⟨h1, List.pairwise_singleton .., fun a ha c hc => ?_⟩, fun c hc => ?_, fun f => ?_⟩
     ·rw [List.mem_singleton.1 hc]
      refine Nat.le_trans (le_clock ha) ?_
      unfold XM.clock at hk; rw [e1] at hk; exact hk
     ·rcases List.mem_append.1 hc with q | q
      ·exact h2 c q
      ·rw [List.mem_singleton.1 q]; exact hv
     ·rw [ofF_snoc]
      split
      ·rename_i hf
       subst hf
       exact okM_snoc.2 ⟨h3 _, by rw [← e2]; exact hm⟩
      ·exact h3 f
    ·rintro ⟨h1, h2, h3⟩
     have g1 : Rises l := (List.pairwise_append.1 h1).1
     have g2 : ∀ c ∈ l, bvalid c.flow c.at' c.es = true := fun c hc => h2 c (by simp [hc])
     have g3 : ∀ f, OKM f (ofF f l) := fun f => by
      have := h3 f
      rw [ofF_snoc] at this
      split at this
      ·exact (okM_snoc.1 this).1
      ·exact this
     refine ⟨⟨g1, g2, g3⟩, ?_⟩
     obtain ⟨e1, e2⟩ := ih2 (ih1.2 ⟨g1, g2, g3⟩)
     have hv := h2 b (by simp)
     have hm := h3 b.flow
     rw [ofF_snoc, if_pos rfl] at hm
     have hm := (okM_snoc.1 hm).2
     rw [← e2] at hm
     have hk : ¬ b.at' < (repX l).clock := by
      unfold XM.clock
      rw [e1]
      have h5 := (List.pairwise_append.1 h1).2.2
      have : ∀ l : List BT, (∀ a ∈ l, a.at' ≤ b.at') → clockL l ≤ b.at' := by
       intro l
       induction l with
       | nil => intro _; exact Nat.zero_le _
       | cons c l ih => intro hh; unfold clockL; exact Nat.max_le.2 ⟨hh c (by simp), ih fun a ha => hh a (by simp [ha])⟩
      have := this l fun a ha => h5 a ha b (by simp)
      omega
     unfold addX
     rw [if_neg (by rw [hv]; decide), if_neg hk, if_neg (fun q => q hm)]
     cases findX (repX l).flows b.flow <;> rfl
   ·intro h
    obtain ⟨h1, h2⟩ := okX_snoc.1 h
    obtain ⟨e1, e2⟩ := ih2 h1
    exact M106
 exact key.1
theorem okX_hist {l : List BT} (h : OKX l) : (repX l).all = l ∧ ∀ f, histX (repX l) f = rep f (ofF f l) := by
 induction l using snoc_ind with
 | h0 => exact ⟨rfl, fun f => rfl⟩
 | h1 l b ih =>
  obtain ⟨h1, h2⟩ := okX_snoc.1 h
  obtain ⟨e1, e2⟩ := ih h1
  exact M106
theorem built_X (l : List BT) : OKX (repX l).all ∧ repX (repX l).all = repX l := by
 induction l using snoc_ind with
 | h0 => exact ⟨fun a b r e => by simp [repX, XM.new] at e, rfl⟩
 | h1 l b ih =>
  rw [repX_snoc]
  by_cases hc : (addX (repX l) b).1 = 0
  ·rw [(addX_all hc).1]
   refine ⟨okX_snoc.2 ⟨ih.1, by rw [ih.2]; exact hc⟩, by rw [repX_snoc, ih.2]⟩
  ·rw [addX_bad hc]; exact ih
theorem okX_swap {a r : List BT} {b c : BT} (h : OKX (a ++ b :: c :: r)) (hf : b.flow ≠ c.flow) (ht : b.at' = c.at') : OKX (a ++ c :: b :: r) ∧ ∀ f, ofF f (a ++ c :: b :: r) = ofF f (a ++ b :: c :: r) := by
 have he : ∀ f, ofF f (a ++ c :: b :: r) = ofF f (a ++ b :: c :: r) := fun f => by
  unfold ofF
  simp only [List.filter_append, List.filter_cons]
  by_cases h1 : b.flow = f
  ·have h2 : ¬ c.flow = f := fun e => hf (h1.trans e.symm)
   simp [h1, h2]
  ·simp [h1]
 refine ⟨?_, he⟩
 obtain ⟨h1, h2, h3⟩ := (okX_is _).1 h
 refine (okX_is _).2 ⟨?_, fun x hx => h2 x (by simp at hx ⊢; rcases hx with q | q | q | q <;> simp [q]), fun f => by rw [he]; exact h3 f⟩
 unfold Rises at h1 ⊢
 rw [List.pairwise_append] at h1 ⊢
 obtain ⟨k1, k2, k3⟩ := h1
 rw [List.pairwise_cons, List.pairwise_cons] at k2 ⊢
 obtain ⟨m1, m2, m3⟩ := k2
 refine ⟨k1, ⟨fun x hx => ?_, fun x hx => m1 x (by simp [hx]), m3⟩, fun x hx y hy => k3 x hx y (by simp at hy ⊢; rcases hy with q | q | q <;> simp [q])⟩
 rcases List.mem_cons.1 hx with q | q
 ·rw [q]; omega
 ·exact m2 x q
end Hi
end Go.Proofs.YtfmnacebgplpcaaGreat
