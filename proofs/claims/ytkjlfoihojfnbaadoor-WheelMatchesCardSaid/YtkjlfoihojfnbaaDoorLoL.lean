/- A level's slots and the reference's one list: plain lemmas. -/
import Derived.Test.YtkjlfoihojfnbaaDoorLoJ
import Derived.Test.YtkjlfoihojfnbaaDoorLoG
namespace Go.Proofs.YtkjlfoihojfnbaaDoor
open Go.RowKit Go.Sort
set_option linter.unusedVariables false
namespace Lo
open Lv (slotOf slotOf_lt ordI)
theorem bef_iff (y x : Nat × Nat) : bef y x ↔ y.2 < x.2 ∨ (y.2 = x.2 ∧ y.1 < x.1) := by
  have h := ord_lt y x
  unfold ltOf cfI at h
  unfold bef
  rw [decide_eq_decide] at h
  exact h
theorem bef_trans {x y z : Nat × Nat} (h1 : bef x y) (h2 : bef y z) : bef x z := by rw [bef_iff] at *; omega
theorem bef_asymm {x y : Nat × Nat} (h1 : bef x y) (h2 : bef y x) : False := by rw [bef_iff] at *; omega
theorem bef_total {x y : Nat × Nat} (h1 : ¬ bef x y) (h2 : ¬ bef y x) : x = y := by
  rw [bef_iff] at *
  exact Prod.ext (by omega) (by omega)
theorem eq_of_sorted : ∀ (l l' : List (Nat × Nat)), l.Perm l' → l.Pairwise bef → l'.Pairwise bef → l = l'
  | [], l', h, _, _ => (List.nil_perm.1 h).symm ▸ rfl
  | a :: t, [], h, _, _ => absurd h.length_eq (by simp)
  | a :: t, b :: t', h, h1, h2 => by
    obtain ⟨q1, q2⟩ := List.pairwise_cons.1 h1
    obtain ⟨r1, r2⟩ := List.pairwise_cons.1 h2
    have e : a = b := by
      rcases List.mem_cons.1 (h.mem_iff.1 List.mem_cons_self) with e | ha
      · exact e
      · rcases List.mem_cons.1 (h.mem_iff.2 List.mem_cons_self) with e | hb
        · exact e.symm
        · exact absurd (bef_asymm (q1 b hb) (r1 a ha)) id
    subst e
    rw [eq_of_sorted t t' (List.Perm.cons_inv h) q2 r2]
theorem sortI_eq {l l' : List (Nat × Nat)} (h : l.Perm l') (hs : l'.Pairwise bef) : sortI l = l' := by
  have hp : (sortI l).Perm l' := (List.mergeSort_perm _ _).trans h
  refine eq_of_sorted _ _ hp ?_ hs
  have hnd : l'.Pairwise (· ≠ ·) := hs.imp fun h e => by subst e; exact bef_asymm h h
  have hnd2 : (sortI l).Pairwise (· ≠ ·) := hp.symm.pairwise hnd (fun h e => h e.symm)
  have hle : (sortI l).Pairwise (fun x y => (!(ltOf cfI) y x) = true) := List.pairwise_mergeSort (fun a b c h1 h2 => by
    simp only [Bool.not_eq_true', ord_lt, decide_eq_false_iff_not] at *; omega) (fun a b => by
    simp only [Bool.or_eq_true, Bool.not_eq_true', ord_lt, decide_eq_false_iff_not]; omega) l
  refine (hle.and hnd2).imp fun {x y} ⟨h1, h2⟩ => ?_
  rw [bef_iff]
  simp only [Bool.not_eq_true', ord_lt, decide_eq_false_iff_not] at h1
  by_cases h : x.2 = y.2
  · by_cases h3 : x.1 = y.1
    · exact absurd (Prod.ext h3 h) h2
    · omega
  · omega
/-- The items of a slot. -/
def inSlot (k : Nat) (s : Nat) (l : List (Nat × Nat)) : List (Nat × Nat) := l.filter fun x => decide ((slotOf k x.2 : Int) = (s : Int))
/-- Slots and list have the same items. -/
structure Inv (k : Nat) (L : Nat → List (Nat × Nat)) (l : List (Nat × Nat)) : Prop where
  perm : ∀ s, s < 64 → (L s).Perm (inSlot k s l)
  sorted : l.Pairwise bef
theorem Inv.mem {k : Nat} {L : Nat → List (Nat × Nat)} {l : List (Nat × Nat)} (h : Inv k L l) (x : Nat × Nat) : x ∈ L (slotOf k x.2) ↔ x ∈ l := by
  rw [(h.perm _ (slotOf_lt k x.2)).mem_iff]
  simp [inSlot]
def updL (L : Nat → List (Nat × Nat)) (s : Nat) (l : List (Nat × Nat)) : Nat → List (Nat × Nat) := fun i => if i = s then l else L i
theorem Inv.put {k : Nat} {L : Nat → List (Nat × Nat)} {l : List (Nat × Nat)} (h : Inv k L l) (x : Nat × Nat) (hx : x ∉ l) (p : Nat) (hp : p ≤ l.length)
    (h1 : ∀ (i : Nat) (hi : i < l.length), i < p → bef l[i] x) (h2 : ∀ (hp : p < l.length), ¬ bef l[p] x) : Inv k (updL L (slotOf k x.2) (L (slotOf k x.2) ++ [x])) (l.take p ++ x :: l.drop p) := by
  refine ⟨fun s hs => ?_, ?_⟩
  · have e : (inSlot k s (l.take p ++ x :: l.drop p)).Perm (inSlot k s l ++ inSlot k s [x]) := by
      unfold inSlot
      rw [← List.filter_append]
      refine List.Perm.filter _ ?_
      refine (List.perm_middle).trans ?_
      rw [List.take_append_drop]
      exact (List.perm_append_comm (l₁ := [x]) (l₂ := l))
    refine List.Perm.trans ?_ e.symm
    unfold updL
    by_cases hsl : s = slotOf k x.2
    · rw [if_pos hsl]
      have e2 : inSlot k s [x] = [x] := by simp [inSlot, hsl]
      rw [e2, ← hsl]
      exact (h.perm s hs).append_right _
    · rw [if_neg hsl]
      have e2 : inSlot k s [x] = [] := by
        simp only [inSlot, List.filter_cons, List.filter_nil]
        rw [if_neg]
        simp only [decide_eq_true_eq]
        omega
      rw [e2, List.append_nil]
      exact h.perm s hs
  · have hs := h.sorted
    have hall : ∀ (i : Nat) (hi : i < l.length), p ≤ i → bef x l[i] := by
      intro i hi hpi
      have hplt : p < l.length := by omega
      have hpx : bef x l[p] := by
        rcases Classical.em (bef x l[p]) with h | h
        · exact h
        · exact absurd (by rw [← bef_total (h2 hplt) h]; exact List.getElem_mem hplt) hx
      rcases Nat.lt_or_ge p i with hlt | hge
      · exact bef_trans hpx (List.pairwise_iff_getElem.1 hs p i hplt hi hlt)
      · have : i = p := by omega
        subst this
        exact hpx
    rw [List.pairwise_append]
    refine ⟨hs.sublist (List.take_sublist _ _), ?_, ?_⟩
    · rw [List.pairwise_cons]
      refine ⟨fun y hy => ?_, hs.sublist (List.drop_sublist _ _)⟩
      obtain ⟨i, hi, rfl⟩ := List.getElem_of_mem hy
      rw [List.getElem_drop]
      rw [List.length_drop] at hi
      exact hall (p + i) (by omega) (by omega)
    · intro y hy z hz
      obtain ⟨i, hi, rfl⟩ := List.getElem_of_mem hy
      rw [List.length_take] at hi
      rw [List.getElem_take]
      have hyx := h1 i (by omega) (by omega)
      rcases List.mem_cons.1 hz with rfl | hz
      · exact hyx
      · obtain ⟨j, hj, rfl⟩ := List.getElem_of_mem hz
        rw [List.getElem_drop]
        rw [List.length_drop] at hj
        exact bef_trans hyx (hall (p + j) (by omega) (by omega))
theorem Inv.sort {k : Nat} {L : Nat → List (Nat × Nat)} {l : List (Nat × Nat)} (h : Inv k L l) (s : Nat) (hs : s < 64) : sortI (L s) = inSlot k s l := sortI_eq (h.perm s hs) (h.sorted.sublist List.filter_sublist)
/-- The items by slots. -/
def byS (k : Nat) (l : List (Nat × Nat)) : Nat → List (Nat × Nat)
  | 0 => []
  | j + 1 => byS k l j ++ inSlot k j l
theorem byS_le (k : Nat) (l : List (Nat × Nat)) : ∀ j, (byS k l j).length ≤ l.length * j
  | 0 => by simp [byS]
  | j + 1 => by
    have := byS_le k l j
    have h2 : (inSlot k j l).length ≤ l.length := List.length_filter_le _ _
    simp only [byS, List.length_append, Nat.mul_succ]; omega
theorem zero_of_bits (m : Nat) (hm : m < 18446744073709551616) (h : ∀ i, i < 64 → m.testBit i = false) : m = 0 := by
  apply Nat.eq_of_testBit_eq
  intro i
  rw [Nat.zero_testBit]
  by_cases hi : i < 64
  · exact h i hi
  · exact Nat.testBit_lt_two_pow (Nat.lt_of_lt_of_le hm (by exact Nat.pow_le_pow_right (n := 2) (i := 64) (by omega) (by omega)))
end Lo
end Go.Proofs.YtkjlfoihojfnbaaDoor
