/- Contracts: slices.DeleteFunc of events; batch.Commands. -/
import Derived.Test.YtpneejlilgepfaaCnE
import Derived.Lib.SliceRun
namespace Go.Proofs.Ytpneejlilgepfaa
open Go.RowKit
set_option linter.unusedVariables false
set_option linter.unusedSimpArgs false
namespace Cn
open Nm (bitsW ret_int ret_bool)
open Vt (VT Rep BoxAt below_drew Cloned put5 KidsAt HeadOk)
open Ev (EV FieldsOk evCells vCells EBox ERep zeroT take_drop cons_drop)
open Cm (rowOf EvsIn EvsAt EvNew evsSame evSame setCells_heap)

/-- A row of events that is being thinned out in place: L at its beginning, R from place j on. -/
structure DRow (w : World) (base r cap : Nat) (L R : List EV) (j : Nat) : Prop where
  ge : base ≤ r
  le : j + R.length ≤ cap
  lj : L.length ≤ j
  cap_le : cap ≤ maxLen
  blk : ∃ cur, w.heap[r]? = some (.cells cur 35 (0, 0)) ∧ cur.size = cap * 11 ∧ (∀ i (h : i < L.length), EvNew w base (some r) cur.toList i L[i]) ∧ ∀ i (h : i < R.length), EvNew w base (some r) cur.toList (j + i) R[i]

theorem DRow.lt {w : World} {base r cap j : Nat} {L R : List EV} (h : DRow w base r cap L R j) : r < w.heap.size := by
  obtain ⟨cur, h1, -⟩ := h.blk
  exact (Array.getElem?_eq_some_iff.1 h1).1
theorem evnew_later {w w' : World} {base : Nat} {ro : Option Nat} {xs : List Value} {i : Nat} {e : EV} (h : EvNew w base ro xs i e) (hb : Below w.heap.size w w') : EvNew w' base ro xs i e := h.keep hb.size (fun b hb' _ => hb.block b hb')
theorem DRow.later {w w' : World} {base r cap j : Nat} {L R : List EV} (h : DRow w base r cap L R j) (hb : Below w.heap.size w w') : DRow w' base r cap L R j := by
  have hl := h.lt
  obtain ⟨h1, h2, h3, h4, cur, h5, h6, h7, h8⟩ := h
  exact ⟨h1, h2, h3, h4, cur, (hb.block r hl).trans h5, h6, fun i hi => evnew_later (h7 i hi) hb, fun i hi => evnew_later (h8 i hi) hb⟩

theorem DRow.start {w : World} {base r cap j : Nat} {es : List EV} (h : EvsAt w base (some ⟨r, 0, none⟩) cap es.length es) (hp : 0 < es.length) (hj : j ≤ es.length) (n : Nat) (hn : n ≤ j) : DRow w base r cap (es.take n) (es.drop j) j := by
  obtain ⟨-, xs, h1, h3⟩ := h
  rcases h1.2 with ⟨h2, -⟩ | ⟨r', cp, cur, q1, q2, q3, q4, q5, q6, q7⟩
  · cases h2
  · injection q1 with q1 _ qc
    injection q1 with q1
    injection q1 with q1
    subst q1 qc
    have hx : ∀ q, q < es.length * 11 → cur.toList[q]? = xs[q]? := fun q hq => by rw [← q7, List.getElem?_take_of_lt hq]
    have key : ∀ i (h : i < es.length), EvNew w base (some r) cur.toList i es[i] := fun i hi => by
      obtain ⟨lo, hi', vk, vn, vf, vs, A, m, c, h0, h1, h2, h3, h5, hfr, h6⟩ := h3 i hi
      exact ⟨lo, hi', vk, vn, vf, vs, A, m, c, h0, h1, h2, h3, h5, hfr, fun q hq => (hx _ (by omega)).trans (h6 q hq)⟩
    refine ⟨q2, by rw [List.length_drop]; omega, by rw [List.length_take]; omega, q5, cur, q3, q6, fun i hi => ?_, fun i hi => ?_⟩
    · rw [List.getElem_take]; exact key i (by rw [List.length_take] at hi; omega)
    · rw [List.getElem_drop]; exact key (j + i) (by rw [List.length_drop] at hi; omega)

/-- The cells of the first event of the rest. -/
theorem DRow.cells {w : World} {base r cap j : Nat} {L R : List EV} (h : DRow w base r cap L R j) (hp : 0 < R.length) : ∃ lo hi vk vn vf vs A m c, base ≤ lo ∧ FieldsOk R[0] ∧ Rep w lo hi R[0].v (vCells vk vn vf vs A m c) ∧ hi ≤ w.heap.size ∧ (r < lo ∨ hi ≤ r) ∧ (0 < R[0].v.l.length → ∀ b off, A = some ⟨b, off, none⟩ → ∀ o, w.frozen? ⟨b, o, none⟩ = false) ∧
    (∀ q, q < 11 → w.cell? ⟨r, j * 11 + q, none⟩ = (evCells R[0] vk vn vf vs A m c)[q]?) ∧ (∀ o, o < cap * 11 → ∃ u, w.cell? ⟨r, o, none⟩ = some u) ∧ ∀ o, w.frozen? ⟨r, o, none⟩ = false := by
  obtain ⟨cur, h1, h2, -, h4⟩ := h.blk
  obtain ⟨lo, hi', vk, vn, vf, vs, A, m, c, k0, k1, k2, k3, k5, kfr, k6⟩ := h4 0 hp
  refine ⟨lo, hi', vk, vn, vf, vs, A, m, c, k0, k1, k2, k3, k5 r rfl, kfr, fun q hq => ?_, fun o ho => ?_, fun o => by simp [World.frozen?, h1]⟩
  · rw [← k6 q hq, Nat.add_zero, Array.getElem?_toList]
    simp [World.cell?, h1]
  · refine ⟨cur[o]'(by omega), ?_⟩
    simp [World.cell?, h1, Array.getElem?_eq_getElem (show o < cur.size by omega)]

theorem setCells_far {r : Nat} : ∀ (vs : List Value) (o : Nat) (w : World), (w.setCells r o vs).heap.size = w.heap.size ∧ ∀ b, b ≠ r → (w.setCells r o vs).heap[b]? = w.heap[b]? := fun vs => by
  induction vs with
  | nil => intro o w; exact ⟨rfl, fun _ _ => rfl⟩
  | cons v vs ih =>
    intro o w
    obtain ⟨h1, h2⟩ := ih (o + 1) (w.setCell ⟨r, o, none⟩ v)
    refine ⟨h1.trans (by simp [World.setCell]), fun b hb => (h2 b hb).trans (Below.heap_setCell w ⟨r, o, none⟩ v b hb)⟩
theorem setCells_behind {r : Nat} {t : TypeId} : ∀ (vs : List Value) (o : Nat) (w : World) (cur : Array Value), w.heap[r]? = some (.cells cur t (0, 0)) → ∃ cur', (w.setCells r o vs).heap[r]? = some (.cells cur' t (0, 0)) ∧ ∀ q, o + vs.length ≤ q → cur'[q]? = cur[q]? := fun vs => by
  induction vs with
  | nil => intro o w cur h; exact ⟨cur, h, fun _ _ => rfl⟩
  | cons v vs ih =>
    intro o w cur h
    have h1 : (w.setCell ⟨r, o, none⟩ v).heap[r]? = some (.cells (cur.setIfInBounds o v) t (0, 0)) := by simp [World.setCell, Array.getElem?_modify, h]
    obtain ⟨cur', z1, z2⟩ := ih (o + 1) _ _ h1
    refine ⟨cur', z1, fun q hq => ?_⟩
    simp only [List.length_cons] at hq
    rw [z2 q (by omega), Array.getElem?_setIfInBounds, if_neg (by omega)]
theorem evnew_set {w : World} {base r o : Nat} {cur cur' : Array Value} {vs : List Value} {i : Nat} {e : EV} (h : EvNew w base (some r) cur.toList i e) (hc : ∀ q, q < 11 → cur'[i * 11 + q]? = cur[i * 11 + q]?) : EvNew (w.setCells r o vs) base (some r) cur'.toList i e := by
  have hkk := setCells_far (r := r) vs o w
  have h' : EvNew (w.setCells r o vs) base (some r) cur.toList i e := h.keep (by rw [hkk.1]; exact Nat.le_refl _) (fun b _ hne => hkk.2 b (fun e => hne (by rw [e])))
  obtain ⟨lo, hi', vk, vn, vf, vs', A, m, c, k0, k1, k2, k3, k5, kfr, k6⟩ := h'
  exact ⟨lo, hi', vk, vn, vf, vs', A, m, c, k0, k1, k2, k3, k5, kfr, fun q hq => by rw [← k6 q hq, Array.getElem?_toList, Array.getElem?_toList]; exact hc q hq⟩

theorem setCells_below {r : Nat} : ∀ (vs : List Value) (o : Nat) (w w' : World) (base : Nat), Below base w w' → base ≤ r → Below base w (w'.setCells r o vs)
  | [], _, _, _, _, h, _ => h
  | v :: vs, o, w, w', base, h, hr => setCells_below vs (o + 1) w (w'.setCell ⟨r, o, none⟩ v) base (h.setCell (p := ⟨r, o, none⟩) hr v) hr

/-- The first event of the rest is kept. -/
theorem DRow.keepOne {w : World} {base r cap j : Nat} {L R : List EV} (h : DRow w base r cap L R j) (hp : 0 < R.length) {lo hi' : Nat} {vk vn : Int} {vf : Nat} {vs : ByteArray} {A : Option Addr} {m c : Nat}
    (h0 : base ≤ lo) (h1 : FieldsOk R[0]) (h2 : Rep w lo hi' R[0].v (vCells vk vn vf vs A m c)) (h3 : hi' ≤ w.heap.size) (h5 : r < lo ∨ hi' ≤ r) (hfr : 0 < R[0].v.l.length → ∀ b off, A = some ⟨b, off, none⟩ → ∀ o, w.frozen? ⟨b, o, none⟩ = false) :
    DRow (w.setCells r (L.length * 11) (evCells R[0] vk vn vf vs A m c).toList) base r cap (L ++ [R[0]]) (R.drop 1) (j + 1) := by
  obtain ⟨k1, k2, k3, k4, cur, k5, k6, k7, k8⟩ := h
  obtain ⟨l, hl⟩ : ∃ l, l = (evCells R[0] vk vn vf vs A m c).toList := ⟨_, rfl⟩
  have hlen : l.length = 11 := by rw [hl]; rfl
  have hlq : ∀ q, l[q]? = (evCells R[0] vk vn vf vs A m c)[q]? := fun q => by rw [hl, Array.getElem?_toList]
  rw [← hl]
  clear hl
  obtain ⟨cur', c1, c2, c3, c4⟩ := setCells_heap l (L.length * 11) w cur k5 (by rw [hlen, k6]; omega)
  have c5 : ∀ q, L.length * 11 + 11 ≤ q → cur'[q]? = cur[q]? := by
    intro q hq
    obtain ⟨cur'', z1, z2⟩ := setCells_behind l (L.length * 11) w cur k5
    rw [c1] at z1
    injection z1 with z1
    injection z1 with z1
    subst z1
    exact z2 q (by rw [hlen]; omega)
  have hkk := setCells_far (r := r) l (L.length * 11) w
  refine ⟨k1, by rw [List.length_drop]; omega, by rw [List.length_append, List.length_singleton]; omega, k4, cur', c1, c2.trans k6, fun i hi => ?_, fun i hi => ?_⟩
  · by_cases hil : i < L.length
    · rw [List.getElem_append_left hil]
      exact evnew_set (k7 i hil) (fun q hq => c3 _ (by omega))
    · have hie : i = L.length := by rw [List.length_append, List.length_singleton] at hi; omega
      subst hie
      rw [List.getElem_append_right (Nat.le_refl _)]
      simp only [Nat.sub_self, List.getElem_cons_zero]
      have hin := Cm.rep_row h2
      refine ⟨lo, hi', vk, vn, vf, vs, A, m, c, h0, h1, h2.keep fun b o hb1 hb2 => World.cell?_of_block (a := ⟨b, o, none⟩) (hkk.2 b (by omega)), by rw [hkk.1]; exact h3, fun r' hr' => by cases hr'; exact h5, fun hp b off hA o => ?_, fun q hq => ?_⟩
      · have := hin hp b off hA
        exact (Cm.frozen_of_block (hkk.2 b (by omega)) o).trans (hfr hp b off hA o)
      · rw [Array.getElem?_toList, c4 q (by omega), ← hlq q, List.getElem?_eq_getElem]
  · rw [List.getElem_drop]
    have := k8 (1 + i) (by rw [List.length_drop] at hi; omega)
    rw [show j + (1 + i) = j + 1 + i by omega] at this
    exact evnew_set this (fun q hq => c5 _ (by omega))
/-- The first event of the rest is left out. -/
theorem DRow.dropOne {w : World} {base r cap j : Nat} {L R : List EV} (h : DRow w base r cap L R j) (hp : 0 < R.length) : DRow w base r cap L (R.drop 1) (j + 1) := by
  obtain ⟨k1, k2, k3, k4, cur, k5, k6, k7, k8⟩ := h
  refine ⟨k1, by rw [List.length_drop]; omega, by omega, k4, cur, k5, k6, k7, fun i hi => ?_⟩
  rw [List.getElem_drop]
  have := k8 (1 + i) (by rw [List.length_drop] at hi; omega)
  rwa [show j + (1 + i) = j + 1 + i by omega] at this
/-- What is behind place L is overwritten. -/
theorem DRow.cleared {w : World} {base r cap j : Nat} {L R : List EV} (h : DRow w base r cap L R j) (vs : List Value) (hv : L.length * 11 + vs.length ≤ cap * 11) : EvsAt (w.setCells r (L.length * 11) vs) base (some ⟨r, 0, none⟩) cap L.length L := by
  obtain ⟨k1, k2, k3, k4, cur, k5, k6, k7, k8⟩ := h
  obtain ⟨cur', c1, c2, c3, c4⟩ := setCells_heap vs (L.length * 11) w cur k5 (by omega)
  have e : cur'.toList.length = cap * 11 := by simpa using c2.trans k6
  refine ⟨rfl, cur'.toList.take (L.length * 11), ⟨by rw [List.length_take, e]; omega, .inr ⟨r, cap, cur', rfl, k1, c1, by omega, k4, c2.trans k6, rfl⟩⟩, fun i hi => ?_⟩
  obtain ⟨lo, hi', vk, vn, vf, vs', A, m, c, q0, q1, q2, q3, q5, qfr, q6⟩ := evnew_set (vs := vs) (o := L.length * 11) (k7 i hi) (cur' := cur') (fun q hq => c3 _ (by omega))
  exact ⟨lo, hi', vk, vn, vf, vs', A, m, c, q0, q1, q2, q3, q5, qfr, fun q hq => by rw [List.getElem?_take_of_lt (by omega)]; exact q6 q hq⟩

/-- Clearing events. -/
theorem run_clear_events (w : World) (ty : TypeId) (b o n c : Nat) (hn : 0 < n) (hc : ∀ j, j < n * 11 → ∃ u, w.cell? ⟨b, o + j, none⟩ = some u) (hf : ∀ j, w.frozen? ⟨b, j, none⟩ = false) :
    ∃ vs : List Value, vs.length = n * 11 ∧ (Builtin.clear_ #[23] ty #[.slice (some ⟨b, o, none⟩) n c]).run Try.prog w = .ok (.tuple #[]) (w.setCells b o vs) := by
  have t := Try.underlying23
  have hv := Try.zeroValue35
  obtain ⟨zc, hzc⟩ : ∃ zc : Array Value, zc = (Value.agg #[.int .i64 0, .int .u64 0, .int .i64 0, .int .u64 0, .string ⟨#[]⟩, .string ⟨#[]⟩, .int .i64 0, .int .i64 0, .float .f64 0, .string ⟨#[]⟩, .slice none 0 0]).cells := ⟨_, rfl⟩
  have hz11 : zc = #[.int .i64 0, .int .u64 0, .int .i64 0, .int .u64 0, .string ⟨#[]⟩, .string ⟨#[]⟩, .int .i64 0, .int .i64 0, .float .f64 0, .string ⟨#[]⟩, .slice none 0 0] := by rw [hzc]; kernel_rfl
  have hsz : (Builtin.zeroCells zc n).toList.length = n * 11 := by rw [hz11]; simp [Builtin.zeroCells]
  have hone : ∀ v ∈ (Builtin.zeroCells zc n).toList, v.oneCell' = true := by
    intro v hv'
    rw [hz11] at hv'
    simp [Builtin.zeroCells] at hv'
    obtain ⟨i, hi, rfl⟩ := hv'
    rcases (by omega : i % 11 = 0 ∨ i % 11 = 1 ∨ i % 11 = 2 ∨ i % 11 = 3 ∨ i % 11 = 4 ∨ i % 11 = 5 ∨ i % 11 = 6 ∨ i % 11 = 7 ∨ i % 11 = 8 ∨ i % 11 = 9 ∨ i % 11 = 10) with q | q | q | q | q | q | q | q | q | q | q <;> simp [q] <;> rfl
  have hst := run_storeCells_cells (P := Try.prog) b o (Builtin.zeroCells zc n).toList 0 w (fun j hj => by
      rw [hsz] at hj
      obtain ⟨u, hu⟩ := hc j hj
      rw [Nat.add_zero, hu]; rfl) (fun j _ => hf _) hone
  simp only [Nat.add_zero] at hst
  refine ⟨_, hsz, ?_⟩
  obtain ⟨m, rfl⟩ : ∃ m, n = m + 1 := ⟨n - 1, by omega⟩
  simp only [Builtin.clear_, Sem.run_bind, Sem.run_pure, Result.andThen_ok, List.getElem?_toArray, List.getElem?_cons_zero, run_underlying t, hv]
  rw [← hzc]
  simp [hst]
end Cn
end Go.Proofs.Ytpneejlilgepfaa
