/- A wheel's map of timers. -/
import Derived.Test.YtkjlfoihojfnbaaDoorWhA
import Derived.Maps.OwnSet
import Derived.Maps.RangeWalk
import Derived.Carry
namespace Go.Proofs.YtkjlfoihojfnbaaDoor
open Go.RowKit Go.ChangeShapes Go.WideShapes Go.WideMaps Go.Maps
set_option linter.unusedVariables false
namespace Wh
/-- An item as a value, and as read. -/
def itemV (x : Nat × Nat) : Value := .agg #[.int .u64 (x.1 : Nat), .int .u64 (x.2 : Nat)]
def itemD (x : Nat × Nat) : DataW Unit := .agg [.lit (.int .u64 (x.1 : Nat)), .lit (.int .u64 (x.2 : Nat))]
def pairR : List Value → Option (DataW Unit × List MemPlace)
  | [.int .u64 i, .int .u64 a] => some (.agg [.lit (.int .u64 i), .lit (.int .u64 a)], [])
  | _ => none
def elemR : Value → Option (DataW Unit × List MemPlace)
  | .agg cs => pairR cs.toList
  | _ => none
theorem elemR_mk (x : Nat × Nat) : elemR (itemV x) = some (itemD x, []) := rfl
theorem elemR_inv {v : Value} {x : Nat × Nat} {ps : List MemPlace} (h : elemR v = some (itemD x, ps)) : v = itemV x := by
  unfold elemR at h
  split at h
  · rename_i cs
    unfold pairR at h
    split at h
    · rename_i i a e
      simp only [itemD, Option.some.injEq, Prod.mk.injEq, DataW.agg.injEq, List.cons.injEq, DataW.lit.injEq, Lit.int.injEq, true_and, and_true] at h
      obtain ⟨⟨rfl, rfl⟩, rfl⟩ := h
      unfold itemV
      rw [← e, Array.toArray_toList]
    · cases h
  · cases h
/-- Is there an item with this number? -/
def hasId (M : List (Nat × Nat)) (id : Nat) : Bool := decide (∃ x ∈ M, x.1 = id)
theorem hasId_iff (M : List (Nat × Nat)) (id : Nat) : hasId M id = true ↔ ∃ x ∈ M, x.1 = id := decide_eq_true_iff
def keyL (id : Nat) : Lit := .int .u64 (id : Nat)
theorem keyL_ne {a b : Nat} (h : a ≠ b) : keyL a ≠ keyL b := fun e => h (by unfold keyL at e; injection e with _ e; omega)
/-- The block is a map of these items by their numbers. -/
def MapIs (w : World) (bm : Nat) (M : List (Nat × Nat)) : Prop := ∃ D : DataW Unit, w.ownsMap Tryd.prog 27 elemR bm M.length D ∧ Maps.size D = M.length ∧
  (∀ id, id < 18446744073709551616 → Maps.has D (keyL id) = hasId M id) ∧ ∀ x ∈ M, x.1 < 18446744073709551616 ∧ x.2 < 18446744073709551616 ∧ ∀ z, D.atKey (keyL x.1) z = itemD x
theorem keyed : Keyed Tryd.prog 27 := int_keyed Tryd.underlying27
theorem key_of (id : Nat) (h : id < 18446744073709551616) : keyOf Tryd.prog 27 (.int .u64 (id : Nat)) = some (keyL id) :=
  keyOf_int_mk Tryd.underlying27 (by simp [Lit.wf, IntKind.min, IntKind.max, IntKind.bits, IntKind.signed]; omega)
theorem resize {w : World} {b n : Nat} {D : DataW Unit} (h : w.ownsMap Tryd.prog 27 elemR b n D) : w.ownsMap Tryd.prog 27 elemR b (Maps.size D) D := by
  obtain ⟨es, clock, hb, F, hs, rfl⟩ := h
  exact ⟨es, clock, hb, F, by simp [Maps.size, length_sorted], rfl⟩
variable {w w' : World} {bm : Nat} {M M' : List (Nat × Nat)}
theorem MapIs.congr (h : MapIs w bm M) (hm : ∀ x, x ∈ M ↔ x ∈ M') (hl : M.length = M'.length) : MapIs w bm M' := by
  obtain ⟨D, h1, h2, h3, h4⟩ := h
  refine ⟨D, hl ▸ h1, hl ▸ h2, fun id hid => ?_, fun x hx => h4 x ((hm x).2 hx)⟩
  rw [h3 id hid]
  unfold hasId
  rw [decide_eq_decide]
  exact ⟨fun ⟨x, a, b⟩ => ⟨x, (hm x).1 a, b⟩, fun ⟨x, a, b⟩ => ⟨x, (hm x).2 a, b⟩⟩
theorem MapIs.lt (h : MapIs w bm M) : bm < w.heap.size := let ⟨D, h1, _⟩ := h; h1.lt
theorem MapIs.keep (h : MapIs w bm M) (hk : w'.heap[bm]? = w.heap[bm]?) : MapIs w' bm M := by
  obtain ⟨D, ⟨es, clock, hb, r⟩, h2⟩ := h
  exact ⟨D, ⟨es, clock, hk.trans hb, r⟩, h2⟩
theorem MapIs.made (w : World) : MapIs (w.alloc (.map #[] 0)) w.heap.size [] :=
  ⟨.map [], World.ownsMap_made _ _ _ _, rfl, fun id _ => (by unfold hasId; simp [Maps.has]), fun x hx => (by simp at hx)⟩
theorem MapIs.len (h : MapIs w bm M) (ty : TypeId) : (Builtin.len_ #[85] ty #[.map (some bm)]).run Tryd.prog w = .ok (.int .i64 (M.length : Nat)) w := by
  obtain ⟨D, h1, h2, h3, h4⟩ := h
  rw [← h2]
  exact h1.len Tryd.underlying85 ty
theorem zero_item (w : World) : (zeroValue 34).run Tryd.prog w = .ok (itemV (0, 0)) w := by
  rw [Tryd.zeroValue34]; rfl
theorem MapIs.look (h : MapIs w bm M) (id : Nat) (hid : id < 18446744073709551616) :
    ∃ v, (Instr.lookup 85 (.map (some bm)) (.int .u64 (id : Nat)) true).run Tryd.prog w = .ok (.tuple #[itemV v, .bool (hasId M id)]) w := by
  obtain ⟨D, h1, h2, h3, h4⟩ := h
  obtain ⟨v, ps, hr, hv⟩ := h1.look_ok keyed Tryd.underlying85 (z := itemV (0, 0)) (zero_item w) (zd := itemD (0, 0)) (zp := []) (elemR_mk _) (key_of id hid)
  rw [h3 id hid] at hr
  by_cases e : ∃ x ∈ M, x.1 = id
  · obtain ⟨x, hx, rfl⟩ := e
    rw [(h4 x hx).2.2] at hv
    rw [elemR_inv hv] at hr
    exact ⟨x, hr⟩
  · have : Maps.has D (keyL id) = false := by rw [h3 id hid]; exact decide_eq_false e
    rw [atKey_of_not_has this] at hv
    rw [elemR_inv hv] at hr
    exact ⟨(0, 0), hr⟩
theorem MapIs.at (h : MapIs w bm M) (x : Nat × Nat) (hx : x ∈ M) :
    (Instr.lookup 85 (.map (some bm)) (.int .u64 (x.1 : Nat)) false).run Tryd.prog w = .ok (itemV x) w := by
  obtain ⟨D, h1, h2, h3, h4⟩ := h
  obtain ⟨v, ps, hr, hv⟩ := h1.lookup keyed Tryd.underlying85 (z := itemV (0, 0)) (zero_item w) (zd := itemD (0, 0)) (zp := []) (elemR_mk _) (key_of x.1 (h4 x hx).1)
  rw [(h4 x hx).2.2] at hv
  rw [elemR_inv hv] at hr
  exact hr
theorem MapIs.store (h : MapIs w bm M) (hM : M.length ≤ 100000) (x : Nat × Nat) (h1 : x.1 < 18446744073709551616) (h2 : x.2 < 18446744073709551616) (hnew : hasId M x.1 = false) :
    ∃ w', (Instr.mapUpdate 85 (.map (some bm)) (.int .u64 (x.1 : Nat)) (itemV x)).run Tryd.prog w = .ok () w' ∧ MapIs w' bm (x :: M) ∧ w.mapTurned w' bm := by
  obtain ⟨D, g1, g2, g3, g4⟩ := h
  obtain ⟨w', hr, own, turn⟩ := g1.store keyed Tryd.underlying85 (by unfold maxLen; omega) (key_of x.1 h1) (elemR_mk x)
  have hk : WideAt.IsKeyLit (keyL x.1) := trivial
  have hsz : Maps.size (D.put (keyL x.1) (itemD x)) = M.length + 1 := by
    rw [size_put (g1.tidy keyed), g3 x.1 h1, hnew, g2]; rfl
  refine ⟨w', hr, ⟨D.put (keyL x.1) (itemD x), by rw [List.length_cons]; exact hsz ▸ resize own, hsz, fun id hid => ?_, fun y hy => ?_⟩, turn⟩
  · by_cases e : id = x.1
    · subst e
      rw [has_put_same g1.isMap hk]
      exact ((hasId_iff _ _).2 ⟨x, List.mem_cons_self, rfl⟩).symm
    · rw [has_put_other (keyL_ne e), g3 id hid]
      unfold hasId
      rw [decide_eq_decide]
      exact ⟨fun ⟨y, a, b⟩ => ⟨y, List.mem_cons_of_mem _ a, b⟩, fun ⟨y, a, b⟩ => by
        rcases List.mem_cons.1 a with rfl | a
        · exact absurd b.symm e
        · exact ⟨y, a, b⟩⟩
  · rcases List.mem_cons.1 hy with rfl | hy
    · exact ⟨h1, h2, fun z => atKey_put_same g1.isMap hk _ _⟩
    · obtain ⟨a1, a2, a3⟩ := g4 y hy
      have : y.1 ≠ x.1 := fun e => by
        have := (hasId_iff M x.1).2 ⟨y, hy, e⟩
        rw [hnew] at this; cases this
      exact ⟨a1, a2, fun z => (atKey_put_other (keyL_ne this) _ _).trans (a3 z)⟩
/-- Without the item of a number. -/
def noId (M : List (Nat × Nat)) (id : Nat) : List (Nat × Nat) := M.filter fun y => decide (y.1 ≠ id)
theorem noId_mem {M : List (Nat × Nat)} {id : Nat} {y : Nat × Nat} : y ∈ noId M id ↔ y ∈ M ∧ y.1 ≠ id := by
  unfold noId; rw [List.mem_filter, decide_eq_true_iff]
theorem noId_none : ∀ (M : List (Nat × Nat)) (id : Nat), hasId M id = false → noId M id = M := fun M id h => by
  refine List.filter_eq_self.2 fun y hy => decide_eq_true fun e => ?_
  have := (hasId_iff M id).2 ⟨y, hy, e⟩
  rw [h] at this; cases this
theorem noId_len : ∀ (M : List (Nat × Nat)) (id : Nat), (M.map Prod.fst).Nodup → (noId M id).length + (if hasId M id then 1 else 0) = M.length
  | [], id, _ => by simp [noId, hasId]
  | y :: t, id, h => by
    rw [List.map_cons, List.nodup_cons] at h
    by_cases e : y.1 = id
    · have hn : hasId t id = false := by
        cases ht : hasId t id
        · rfl
        · obtain ⟨x, hx, e2⟩ := (hasId_iff t id).1 ht
          exact absurd (List.mem_map.2 ⟨x, hx, e2.trans e.symm⟩) h.1
      have hy : hasId (y :: t) id = true := (hasId_iff _ _).2 ⟨y, List.mem_cons_self, e⟩
      have h2 : noId (y :: t) id = noId t id := by unfold noId; rw [List.filter_cons_of_neg (by simp [e])]
      rw [hy, h2, noId_none t id hn]; simp
    · have h1 : hasId (y :: t) id = hasId t id := by
        unfold hasId
        rw [decide_eq_decide]
        exact ⟨fun ⟨x, a, b⟩ => by
          rcases List.mem_cons.1 a with rfl | a
          · exact absurd b e
          · exact ⟨x, a, b⟩, fun ⟨x, a, b⟩ => ⟨x, List.mem_cons_of_mem _ a, b⟩⟩
      have h2 : noId (y :: t) id = y :: noId t id := by unfold noId; rw [List.filter_cons_of_pos (by simp [e])]
      have ih := noId_len t id h.2
      rw [h1, h2, List.length_cons, List.length_cons]
      omega
theorem MapIs.drop (h : MapIs w bm M) (hn : (M.map Prod.fst).Nodup) (id : Nat) (hid : id < 18446744073709551616) (ty : TypeId) :
    ∃ w', (Builtin.delete_ #[85, 27] ty #[.map (some bm), .int .u64 (id : Nat)]).run Tryd.prog w = .ok (.tuple #[]) w' ∧ MapIs w' bm (noId M id) ∧ w.mapTurned w' bm := by
  obtain ⟨D, g1, g2, g3, g4⟩ := h
  obtain ⟨w', hr, own, turn⟩ := g1.drop keyed Tryd.underlying85 (key_of id hid) ty
  have hsz : Maps.size (D.del (keyL id)) = (noId M id).length := by
    have h1 := size_del (k := keyL id) (g1.tidy keyed)
    have h2 := noId_len M id hn
    rw [g3 id hid, g2] at h1
    omega
  refine ⟨w', hr, ⟨D.del (keyL id), hsz ▸ resize own, hsz, fun i hi => ?_, fun y hy => ?_⟩, turn⟩
  · by_cases e : i = id
    · subst e
      rw [has_del_same]
      refine (decide_eq_false ?_).symm
      rintro ⟨x, a, b⟩
      exact (noId_mem.1 a).2 b
    · rw [has_del_other (keyL_ne e), g3 i hi]
      unfold hasId
      rw [decide_eq_decide]
      exact ⟨fun ⟨x, a, b⟩ => ⟨x, noId_mem.2 ⟨a, fun e2 => e (b.symm.trans e2)⟩, b⟩, fun ⟨x, a, b⟩ => ⟨x, (noId_mem.1 a).1, b⟩⟩
  · obtain ⟨a, b⟩ := noId_mem.1 hy
    obtain ⟨a1, a2, a3⟩ := g4 y a
    exact ⟨a1, a2, fun z => (atKey_del_other (keyL_ne b) _).trans (a3 z)⟩
end Wh
end Go.Proofs.YtkjlfoihojfnbaaDoor
