/- A level and the reference's list: removing, the first slot; plain lemmas. -/
import Derived.Test.YtkjlfoihojfnbaaDoorLoL
import Derived.Test.YtkjlfoihojfnbaaDoorLoU
import Derived.Test.YtkjlfoihojfnbaaDoorLoV
namespace Go.Proofs.YtkjlfoihojfnbaaDoor
open Go.RowKit Go.Sort
set_option linter.unusedVariables false
namespace Lo
open Lv (slotOf slotOf_lt ordI)
theorem bef_ne {x y : Nat × Nat} (h : bef x y) : x ≠ y := fun e => by subst e; exact bef_asymm h h
theorem Inv.nodup {k : Nat} {L : Nat → List (Nat × Nat)} {l : List (Nat × Nat)} (h : Inv k L l) : l.Nodup := h.sorted.imp bef_ne
theorem inSlot_sub (k s : Nat) (l : List (Nat × Nat)) : (inSlot k s l).Sublist l := List.filter_sublist
theorem drop_one {l : List (Nat × Nat)} (hn : l.Nodup) (i : Nat) (hi : i < l.length) : l.take i ++ l.drop (i + 1) = l.filter fun y => decide (y ≠ l[i]) := by
  have e : l = l.take i ++ l[i] :: l.drop (i + 1) := by rw [← List.drop_eq_getElem_cons hi, List.take_append_drop]
  have hnd : (l.take i ++ l[i] :: l.drop (i + 1)).Nodup := by rw [← e]; exact hn
  have h1 : ∀ y ∈ l.take i, y ≠ l[i] := by
    intro y hy e
    have := (List.nodup_append.1 hnd).2.2 y hy l[i] List.mem_cons_self
    exact this e
  have h2 : ∀ y ∈ l.drop (i + 1), y ≠ l[i] := by
    intro y hy e2
    have := (List.nodup_cons.1 (List.nodup_append.1 hnd).2.1).1
    exact this (e2 ▸ hy)
  generalize hx : l[i] = x at *
  conv => rhs; rw [e]
  rw [List.filter_append, List.filter_cons_of_neg (by simp)]
  rw [List.filter_eq_self.2 (fun y hy => decide_eq_true (h1 y hy)), List.filter_eq_self.2 (fun y hy => decide_eq_true (h2 y hy))]
theorem wo_le (l : List (Nat × Nat)) (x : Nat × Nat) : (wo l x).length ≤ l.length := List.length_filter_le _ _
theorem wo_mem {l : List (Nat × Nat)} {x y : Nat × Nat} (h : y ∈ wo l x) : y ∈ l := (List.mem_filter.1 h).1
theorem wo_not {l : List (Nat × Nat)} {x : Nat × Nat} (h : x ∉ l) : wo l x = l := List.filter_eq_self.2 fun y hy => decide_eq_true fun e => h (e ▸ hy)
theorem inSlot_wo (k s : Nat) (l : List (Nat × Nat)) (x : Nat × Nat) : inSlot k s (wo l x) = wo (inSlot k s l) x := by
  unfold inSlot wo
  rw [List.filter_filter, List.filter_filter]
  congr 1
  funext y
  exact Bool.and_comm _ _
theorem Inv.remove {k : Nat} {L : Nat → List (Nat × Nat)} {l : List (Nat × Nat)} (h : Inv k L l) (x : Nat × Nat) (i : Nat) (hi : i < (L (slotOf k x.2)).length) (hx : (L (slotOf k x.2))[i] = x) :
    Inv k (updL L (slotOf k x.2) ((L (slotOf k x.2)).take i ++ (L (slotOf k x.2)).drop (i + 1))) (wo l x) := by
  have hs := slotOf_lt k x.2
  have hp := h.perm _ hs
  have hnd : (L (slotOf k x.2)).Nodup := hp.nodup_iff.2 (h.nodup.sublist (inSlot_sub _ _ _))
  refine ⟨fun s hss => ?_, h.sorted.sublist List.filter_sublist⟩
  rw [inSlot_wo]
  unfold updL
  by_cases e : s = slotOf k x.2
  · rw [if_pos e, drop_one hnd i hi, hx, e]
    exact hp.filter _
  · rw [if_neg e, wo_not]
    · exact h.perm s hss
    · intro hm
      unfold inSlot at hm
      have := (List.mem_filter.1 hm).2
      simp only [decide_eq_true_eq] at this
      omega
/-- A list without these. -/
def woL (l d : List (Nat × Nat)) : List (Nat × Nat) := l.filter fun y => decide (y ∉ d)
theorem woL_nil (l : List (Nat × Nat)) : woL l [] = l := by unfold woL; exact List.filter_eq_self.2 fun y _ => by simp
theorem woL_snoc (l d : List (Nat × Nat)) (x : Nat × Nat) : wo (woL l d) x = woL l (d ++ [x]) := by
  unfold wo woL
  rw [List.filter_filter]
  congr 1
  funext y
  rw [Bool.eq_iff_iff]
  simp only [Bool.and_eq_true, decide_eq_true_eq, List.mem_append, List.mem_singleton]
  exact ⟨fun ⟨a, b⟩ c => c.elim b a, fun a => ⟨fun e => a (.inr e), fun e => a (.inl e)⟩⟩
theorem Inv.taken {k : Nat} {L : Nat → List (Nat × Nat)} {l : List (Nat × Nat)} (h : Inv k L l) (s : Nat) (hs : s < 64) : Inv k (updL L s []) (woL l (inSlot k s l)) := by
  have e : ∀ y ∈ l, (decide (y ∉ inSlot k s l)) = decide (¬ (slotOf k y.2 = s)) := fun y hy => by
    rw [decide_eq_decide]
    unfold inSlot
    rw [List.mem_filter]
    simp only [decide_eq_true_eq]
    exact ⟨fun a b => a ⟨hy, by omega⟩, fun a b => a (by omega)⟩
  refine ⟨fun t ht => ?_, h.sorted.sublist List.filter_sublist⟩
  unfold woL
  rw [List.filter_congr e]
  unfold updL
  by_cases hts : t = s
  · rw [if_pos hts]
    have : inSlot k t (l.filter fun y => decide (¬ (slotOf k y.2 = s))) = [] := by
      unfold inSlot
      rw [List.filter_filter, List.filter_eq_nil_iff]
      intro y hy
      simp only [Bool.and_eq_true, decide_eq_true_eq]
      omega
    rw [this]
  · rw [if_neg hts]
    have : inSlot k t (l.filter fun y => decide (¬ (slotOf k y.2 = s))) = inSlot k t l := by
      unfold inSlot
      rw [List.filter_filter]
      congr 1
      funext y
      rw [Bool.eq_iff_iff]
      simp only [Bool.and_eq_true, decide_eq_true_eq]
      omega
    rw [this]
    exact h.perm t ht
theorem inSlot_out (k : Nat) (s : Int) (hs : s < 0 ∨ 64 ≤ s) (l : List (Nat × Nat)) : (l.filter fun x => decide ((slotOf k x.2 : Int) = s)) = [] := by
  rw [List.filter_eq_nil_iff]
  intro y _
  have := slotOf_lt k y.2
  simp only [decide_eq_true_eq]
  omega
end Lo
end Go.Proofs.YtkjlfoihojfnbaaDoor
