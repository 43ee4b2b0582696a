/- slices.Delete of one item of a slot. -/
import Derived.Test.YtkjlfoihojfnbaaDoorLoC
import Derived.Test.YtkjlfoihojfnbaaDoorLoB
import Derived.Lib.SliceRun
import Derived.Deep.RegionLaw
import Derived.Deep.Upon
import Derived.Shelf.RegionOpenPlain
namespace Go.Proofs.YtkjlfoihojfnbaaDoor
open Go.RowKit Go.Lib
set_option linter.unusedVariables false
set_option linter.unusedSimpArgs false
namespace Lo
theorem setCells_keeps (g : Nat) : ∀ (vs : List Value) (o : Nat) (w : World), (w.setCells g o vs).os = w.os ∧ (w.setCells g o vs).tape = w.tape ∧ (w.setCells g o vs).output = w.output ∧ (w.setCells g o vs).heap.size = w.heap.size ∧ ∀ j, j ≠ g → (w.setCells g o vs).heap[j]? = w.heap[j]?
  | [], o, w => ⟨rfl, rfl, rfl, rfl, fun _ _ => rfl⟩
  | v :: r, o, w => by
    obtain ⟨h1, h2, h3, h4, h5⟩ := setCells_keeps g r (o + 1) (w.setCell ⟨g, o, none⟩ v)
    refine ⟨h1, h2, h3, ?_, fun j hj => ?_⟩
    · show (World.setCells _ _ _ _).heap.size = _
      rw [World.setCells, h4]; simp [World.setCell]
    · rw [World.setCells, h5 j hj]; simp [World.setCell, Array.getElem?_modify, Ne.symm hj]
theorem setCells_heap {g : Nat} {t : TypeId} : ∀ (vs : List Value) (o : Nat) (w : World) (cur : Array Value), w.heap[g]? = some (.cells cur t (0, 0)) → o + vs.length ≤ cur.size →
    ∃ cur', (w.setCells g o vs).heap[g]? = some (.cells cur' t (0, 0)) ∧ cur'.size = cur.size ∧ (∀ q, q < o → cur'[q]? = cur[q]?) ∧ ∀ j (h : j < vs.length), cur'[o + j]? = some vs[j] := by
  intro vs
  induction vs with
  | nil => intro o w cur h _; exact ⟨cur, h, rfl, fun _ _ => rfl, fun j h => absurd h (by simp)⟩
  | cons v vs ih =>
    intro o w cur h hs
    simp only [List.length_cons] at hs
    have h1 : (w.setCell ⟨g, o, none⟩ v).heap[g]? = some (.cells (cur.setIfInBounds o v) t (0, 0)) := by simp [World.setCell, Array.getElem?_modify, h]
    obtain ⟨cur', k1, k2, k3, k4⟩ := ih (o + 1) _ _ h1 (by simp; omega)
    refine ⟨cur', k1, by simpa using k2, fun q hq => ?_, fun j hj => ?_⟩
    · rw [k3 q (by omega), Array.getElem?_setIfInBounds, if_neg (by omega)]
    · cases j with
      | zero =>
        rw [Nat.add_zero, k3 o (by omega), Array.getElem?_setIfInBounds, if_pos rfl, if_pos (by omega)]
        rfl
      | succ j =>
        have := k4 j (by simpa using hj)
        rw [show o + (j + 1) = o + 1 + j from by omega, this]
        rfl
theorem cell_block {w : World} {g : Nat} {cur : Array Value} {T : TypeId} (h : w.heap[g]? = some (.cells cur T (0, 0))) (o : Nat) : w.cell? ⟨g, o, none⟩ = cur[o]? := by simp [World.cell?, h]
theorem free_block {w : World} {g : Nat} {cur : Array Value} {T : TypeId} (h : w.heap[g]? = some (.cells cur T (0, 0))) (o : Nat) : w.frozen? ⟨g, o, none⟩ = false := by simp [World.frozen?, h]
/-- Clearing one item. -/
theorem run_clear_item (w : World) (ty : TypeId) (b o c : Nat) (hc : ∀ j, j < 2 → (w.cell? ⟨b, o + j, none⟩).isSome = true) (hf : ∀ j, j < 2 → w.frozen? ⟨b, o + j, none⟩ = false) :
    (Builtin.clear_ #[39] ty #[.slice (some ⟨b, o, none⟩) 1 c]).run Tryd.prog w = .ok (.tuple #[]) (w.setCells b o [.int .u64 0, .int .u64 0]) := by
  have t := Tryd.underlying39
  have hv := Tryd.zeroValue34
  have hst := run_storeCells_cells (P := Tryd.prog) b o [.int .u64 0, .int .u64 0] 0 w (by simpa using hc) (by simpa using hf) (by intro v hv'; simp at hv'; subst hv'; rfl)
  simp only [Nat.add_zero] at hst
  have hz : (Builtin.zeroCells (Value.agg #[.int .u64 0, .int .u64 0]).cells 1).toList = [.int .u64 0, .int .u64 0] := by kernel_rfl
  simp [Builtin.clear_, run_underlying t, hv, hz, hst]
set_option maxRecDepth 100000 in
set_option maxHeartbeats 4000000 in
theorem delete_any (l : List (Nat × Nat)) (hl : l.length ≤ 1000) (base : Nat) (v : Value) (w : World) (row : IRow 34 w base v l) (i : Nat) (hi : i < l.length) :
    Calls Tryd.prog 42 #[v, .int .i64 i, .int .i64 (i + 1 : Nat)] w fun e w' => ∃ v', e = .returned v' ∧ v'.ownBlock = v.ownBlock ∧ IRow 34 w' base v' (l.take i ++ l.drop (i + 1)) ∧ KB w w' (fun g => v.ownBlock = some g) := by
  rcases row.2 with ⟨h1, h2⟩ | ⟨g, cap, cur, rfl, q2, q3, q4, q5, q6, q7⟩
  · omega
  obtain ⟨i0, hi0, hz0, hz1, hz2⟩ := info_parts Tryd.infoI2
  have ht := Tryd.underlying39
  obtain ⟨news, hnews⟩ : ∃ n, n = itcs (l.drop (i + 1)) := ⟨_, rfl⟩
  have hlen : news.length = (l.length - (i + 1)) * 2 := by rw [hnews, itcs_len, List.length_drop]
  have hcur : ∀ q, q < l.length * 2 → cur[q]? = (itcs l)[q]? := fun q hq => by
    have e : (cur.toList.take (l.length * 2))[q]? = (itcs l)[q]? := by rw [q7]
    rw [List.getElem?_take, if_pos hq, Array.getElem?_toList] at e
    exact e
  have hsplit : itcs l = itcs (l.take (i + 1)) ++ news := by rw [hnews, ← itcs_append, List.take_append_drop]
  have hsrcs : ∀ t u, news[t]? = some u → w.drew.cell? ⟨g, (i + 1) * 2 + t, none⟩ = some u := fun t u hu => by
    have h1 := (List.getElem?_eq_some_iff.1 hu).1
    rw [hlen] at h1
    have h2 : w.drew.cell? ⟨g, (i + 1) * 2 + t, none⟩ = cur[(i + 1) * 2 + t]? := cell_block (w := w.drew) q3 _
    rw [h2, hcur _ (by omega), hsplit, List.getElem?_append_right (by rw [itcs_len, List.length_take]; omega), ← hu]
    congr 1
    rw [itcs_len, List.length_take, Nat.min_eq_left (by omega)]; omega
  obtain ⟨A, hA, hsrc⟩ : ∃ A : Addr, (if cap = i + 1 then some (⟨g, 0, none⟩ : Addr) else some ⟨g, (i + 1) * 2, none⟩) = some A ∧ Hid (∀ t u, news[t]? = some u → w.drew.cell? (A.add t) = some u) := by
    by_cases h : cap = i + 1
    · refine ⟨⟨g, 0, none⟩, by simp [h], fun t u hu => ?_⟩
      have h0 : news.length = 0 := by rw [hlen]; omega
      rw [List.length_eq_zero_iff.1 h0] at hu
      simp at hu
    · refine ⟨⟨g, (i + 1) * 2, none⟩, by simp [h], fun t u hu => ?_⟩
      rw [Addr.add_lit]
      exact hsrcs t u hu
  have s1 : Hid (news.length = (l.length - (i + 1)) * 2) := hlen
  have s2 : Hid (∀ u ∈ news, u.oneCell' = true) := by rw [hnews]; exact itcs_one _
  have s3 : Hid (∀ t, t < news.length → (w.drew.cell? ⟨g, 0 + i * 2 + t, none⟩).isSome = true ∧ w.drew.frozen? ⟨g, 0 + i * 2 + t, none⟩ = false) := fun t h3 => by
    rw [hlen] at h3
    refine ⟨?_, free_block (w := w.drew) q3 _⟩
    have h2 : w.drew.cell? ⟨g, 0 + i * 2 + t, none⟩ = cur[0 + i * 2 + t]? := cell_block (w := w.drew) q3 _
    rw [h2, Array.getElem?_eq_getElem (by omega)]; rfl
  obtain ⟨W1, hW1⟩ : ∃ W1, W1 = w.drew.setCells g (0 + i * 2) news := ⟨_, rfl⟩
  obtain ⟨c1, k1, k2, k3, k4⟩ := setCells_heap news (0 + i * 2) w.drew cur q3 (by rw [hlen]; omega)
  rw [← hW1] at k1
  have hk1 : KB w W1 (fun j => j = g) := by
    obtain ⟨e1, e2, e3, e4, e5⟩ := setCells_keeps g news (0 + i * 2) w.drew
    rw [hW1]
    exact ⟨e1, e2, e3, Nat.le_of_eq e4.symm, fun j hj hn => e5 j hn⟩
  obtain ⟨p, hp⟩ : ∃ p, p = (i + (l.length - (i + 1))) * 2 := ⟨_, rfl⟩
  have hp2 : p + 2 = l.length * 2 := by omega
  obtain ⟨c2, m1, m2, m3, m4⟩ := setCells_heap [.int .u64 0, .int .u64 0] p W1 c1 k1 (by simp; omega)
  obtain ⟨W2, hW2⟩ : ∃ W2, W2 = W1.setCells g p [.int .u64 0, .int .u64 0] := ⟨_, rfl⟩
  rw [← hW2] at m1
  have hk2 : KB W1 W2 (fun j => j = g) := by
    obtain ⟨e1, e2, e3, e4, e5⟩ := setCells_keeps g [.int .u64 0, .int .u64 0] p W1
    rw [hW2]
    exact ⟨e1, e2, e3, Nat.le_of_eq e4.symm, fun j hj hn => e5 j hn⟩
  have hcl : Hid (∀ ty c, (Builtin.clear_ #[39] ty #[.slice (some ⟨g, p, none⟩) 1 c]).run Tryd.prog W1 = .ok (.tuple #[]) W2) := Lib.hid fun ty c => by
    rw [hW2]
    refine run_clear_item W1 ty g p c (fun j hj => ?_) (fun j hj => free_block k1 _)
    rw [cell_block k1, Array.getElem?_eq_getElem (by omega)]; rfl
  have HF : Hid (IRow 34 W2 base (.slice (some ⟨g, 0, none⟩) (l.length - 1) cap) (l.take i ++ l.drop (i + 1)) ∧ KB w W2 (fun j => j = g)) := Lib.hid (by
    have hll : (l.take i ++ l.drop (i + 1)).length = l.length - 1 := by simp; omega
    refine ⟨⟨by rw [itcs_len], .inr ⟨g, cap, c2, by rw [hll], q2, m1, by rw [hll]; omega, q5, by rw [m2, k2]; exact q6, ?_⟩⟩, hk1.trans hk2 (fun j _ h => h)⟩
    rw [hll]
    apply List.ext_getElem?
    intro q
    rw [List.getElem?_take]
    by_cases hq : q < (l.length - 1) * 2
    · rw [if_pos hq, Array.getElem?_toList, m3 q (by omega), itcs_append, ← hnews]
      by_cases hq2 : q < i * 2
      · rw [k3 q (by omega), hcur q (by omega), List.getElem?_append_left (by rw [itcs_len, List.length_take]; omega)]
        have e : itcs l = itcs (l.take i) ++ itcs (l.drop i) := by rw [← itcs_append, List.take_append_drop]
        rw [e, List.getElem?_append_left (by rw [itcs_len, List.length_take]; omega)]
      · have h4 := k4 (q - i * 2) (by rw [hlen]; omega)
        rw [show 0 + i * 2 + (q - i * 2) = q by omega] at h4
        rw [h4, List.getElem?_append_right (by rw [itcs_len, List.length_take]; omega), itcs_len, List.length_take, Nat.min_eq_left (by omega), List.getElem?_eq_getElem (by rw [hlen]; omega)]
    · rw [if_neg hq, List.getElem?_eq_none (by rw [itcs_len, hll]; omega)])
  have hW : Hid (W1 = w.drew.setCells g (0 + i * 2) news) := hW1
  have hic : i ≤ cap := by omega
  have hjc : i + 1 ≤ cap := by omega
  have hib : (i : Int) + 1 ≤ l.length := by omega
  have hib0 : (0 : Int) ≤ (i : Int) + 1 := by omega
  have hl' : (l.length : Int) ≤ 1000 := by omega
  have hmx : cap ≤ 9223372036854775807 := q5
  have HP := Lib.hid hp
  clear hW1 hW2 k1 k2 k3 k4 m1 m2 m3 m4 hk1 hk2 hsrcs hcur hsplit q3 q6 q7 row hp hnews hlen
  go_enter Tryd.func42, Tryd.ntmps42
  go_wp2_with fail
  go_region_law (refine step_append_room rfl (.tmp 22) (.tmp 25) 39 rfl 34 i0 2 ht hi0 hz1 g 0 i cap (by simp [Act.eval, Act.put]) A (l.length - (i + 1)) (cap - (i + 1)) news (by simp [Act.eval, Act.put]) s1.out hsrc.out s2.out (by omega) s3.out ?_; rw [← hW.out])
  have hcl' : ∀ ty c, (Builtin.clear_ #[39] ty #[.slice (some ⟨g, (i + (l.length - (i + 1))) * 2, none⟩) (l.length - (i + (l.length - (i + 1)))) c]).run Tryd.prog W1 = .ok (.tuple #[]) W2 := fun ty c => by
    have h := hcl.out ty c
    rw [HP.out] at h
    rw [show l.length - (i + (l.length - (i + 1))) = 1 by omega]
    exact h
  clear hcl HP hp2
  go_wp2_with fail
  go_ret
  have e : i + (l.length - (i + 1)) = l.length - 1 := by omega
  rw [e]
  exact ⟨_, rfl, rfl, HF.out.1, ⟨HF.out.2.os, HF.out.2.tape, HF.out.2.output, HF.out.2.size, fun j hj hn => HF.out.2.block j hj (fun e => hn (by rw [e]; rfl))⟩⟩
end Lo
end Go.Proofs.YtkjlfoihojfnbaaDoor
