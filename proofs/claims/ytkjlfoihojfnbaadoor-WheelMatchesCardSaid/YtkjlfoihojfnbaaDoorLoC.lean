/- Rows of items: appending; Has, Back, Of, Equal. -/
import Derived.Test.YtkjlfoihojfnbaaDoorLoB
import Derived.Lib.AppendZeros
namespace Go.Proofs.YtkjlfoihojfnbaaDoor
open Go.RowKit
set_option linter.unusedVariables false
namespace Lo
open Lv (W64 slotOf slotOf_lt fresh ret_int ret_bool slot_any rslot_any)
open Ln (lvCells LV upd only_set only_refl only_drew)
/-- Items that can be read. -/
def Lies (w : World) (v : Value) (l : List (Nat × Nat)) : Prop := ∃ A cap, v = .slice A l.length cap ∧ l.length ≤ cap ∧
  ∀ (j : Nat) (hj : j < l.length), ∃ g, A = some ⟨g, 0, none⟩ ∧ g < w.heap.size ∧ w.cell? ⟨g, j * 2, none⟩ = some (.int .u64 (l[j].1 : Nat)) ∧ w.cell? ⟨g, j * 2 + 1, none⟩ = some (.int .u64 (l[j].2 : Nat))
theorem IRow.lies {T : TypeId} {w : World} {base : Nat} {v : Value} {l : List (Nat × Nat)} (h : IRow T w base v l) : Lies w v l := by
  obtain ⟨A, cap, h1, h2, h3⟩ := h.opened
  exact ⟨A, cap, h1, h2, fun j hj => by obtain ⟨g, q1, q2, q3, q4, q5⟩ := h3 j hj; exact ⟨g, q1, q3, q4, q5⟩⟩
theorem Lies.later {w w' : World} {v : Value} {l : List (Nat × Nat)} (h : Lies w v l) (hb : Below w.heap.size w w') : Lies w' v l := by
  obtain ⟨A, cap, h1, h2, h3⟩ := h
  exact ⟨A, cap, h1, h2, fun j hj => by
    obtain ⟨g, q1, q3, q4, q5⟩ := h3 j hj
    exact ⟨g, q1, Nat.lt_of_lt_of_le q3 hb.size, (hb.cell (p := ⟨g, j * 2, none⟩) q3).trans q4, (hb.cell (p := ⟨g, j * 2 + 1, none⟩) q3).trans q5⟩⟩
theorem Tryd.infoR2 : (Tryd.prog.info? 29).map (fun i => (i.zero, i.size, i.bytes)) = some (some (.agg #[.int .u64 0, .int .u64 0]), 2, 16) := by kernel_rfl
theorem itcs_append (l l' : List (Nat × Nat)) : itcs (l ++ l') = itcs l ++ itcs l' := by simp [itcs]
theorem itcs_cells {w : World} {g : Nat} {l : List (Nat × Nat)} (h : ∀ (j : Nat) (hj : j < l.length), w.cell? ⟨g, j * 2, none⟩ = some (.int .u64 (l[j].1 : Nat)) ∧ w.cell? ⟨g, j * 2 + 1, none⟩ = some (.int .u64 (l[j].2 : Nat))) (i : Nat) (u : Value) (hu : (itcs l)[i]? = some u) : w.cell? ⟨g, i, none⟩ = some u := by
  have hlt := (List.getElem?_eq_some_iff.1 hu).1
  rw [itcs_len] at hlt
  obtain ⟨q1, q2⟩ := itcs_get l (i / 2) (by omega)
  obtain ⟨c1, c2⟩ := h (i / 2) (by omega)
  rcases (by omega : i = i / 2 * 2 ∨ i = i / 2 * 2 + 1) with e | e
  · rw [e] at hu ⊢
    rw [q1] at hu; rw [c1, ← hu]
  · rw [e] at hu ⊢
    rw [q2] at hu; rw [c2, ← hu]
theorem itcs_one (l : List (Nat × Nat)) : ∀ u ∈ itcs l, u.oneCell' = true := by
  intro u hu
  simp only [itcs, List.mem_flatMap, itc] at hu
  obtain ⟨x, -, hx⟩ := hu
  simp at hx
  rcases hx with rfl | rfl <;> rfl
/-- Appending nothing. -/
theorem run_append_none (W : World) (ty : TypeId) (B : Option Addr) (n c c2 : Nat) (h : n ≤ c) : (Builtin.append_ #[26, 26] ty #[.slice B n c, .slice none 0 c2]).run Tryd.prog W = .ok (.slice B n c) W := by
  have t := Tryd.underlying26
  have z := Tryd.sizeOf29
  cases B <;> simp [Builtin.append_, run_underlying t, z, Builtin.lenOf, Builtin.firstCells, h, storeCells]
/-- Appending items that lie somewhere. -/
theorem run_append_items (W : World) (ty : TypeId) (base : Nat) (v u : Value) (l l' : List (Nat × Nat)) (row : IRow 29 W base v l) (lies : Lies W u l') (hl : l.length + l'.length ≤ 100000) (hbase : base ≤ W.heap.size) :
    ∃ v' W', (Builtin.append_ #[26, 26] ty #[v, u]).run Tryd.prog W = .ok v' W' ∧ IRow 29 W' base v' (l ++ l') ∧ W.grownBy W' v.ownBlock ∧ (v'.ownBlock = v.ownBlock ∨ v'.ownBlock = some W.heap.size) := by
  obtain ⟨i0, hi, hz0, hz1, hz2⟩ := info_parts Tryd.infoR2
  obtain ⟨A, c, rfl, hc, hcells⟩ := lies
  cases l' with
  | nil =>
    cases A with
    | none =>
      obtain ⟨B, cap, rfl, h2, -⟩ := row.opened
      exact ⟨_, W, run_append_none W ty B l.length cap c h2, by rw [List.append_nil]; exact row, ⟨rfl, rfl, rfl, Nat.le_refl _, fun _ _ _ => rfl⟩, .inl rfl⟩
    | some a =>
      obtain ⟨v', W', hr, ho, hg, -, hb⟩ := run_append_own_at (P := Tryd.prog) W base 26 ty 29 i0 (.agg #[.int .u64 0, .int .u64 0]) 2 16 Tryd.underlying26 hi hz0 hz1 hz2 rfl (by decide) v l.length (itcs l) row a 0 c [] (by simp) (fun j u hu => by simp at hu) (by simp) (by simp only [maxLen]; omega) (by omega) hbase
      exact ⟨v', W', hr, by simpa [IRow] using ho, hg, hb⟩
  | cons x r =>
    obtain ⟨g, rfl, hg, -, -⟩ := hcells 0 (by simp)
    obtain ⟨v', W', hr, ho, hg, -, hb⟩ := run_append_own_at (P := Tryd.prog) W base 26 ty 29 i0 (.agg #[.int .u64 0, .int .u64 0]) 2 16 Tryd.underlying26 hi hz0 hz1 hz2 rfl (by decide) v l.length (itcs l) row ⟨g, 0, none⟩ (x :: r).length c (itcs (x :: r)) (itcs_len _) (fun j u hu => by
      have h := itcs_cells (w := W) (g := g) (l := x :: r) (fun j hj => by obtain ⟨g', e, -, q4, q5⟩ := hcells j hj; cases e; exact ⟨q4, q5⟩) j u hu
      cases j <;> simpa [Addr.add] using h) (itcs_one _) (by simp only [maxLen]; omega) (by omega) hbase
    refine ⟨v', W', hr, ?_, hg, hb⟩
    unfold IRow
    rw [itcs_append, List.length_append]
    exact ho
theorem wpList_append_items {ops : Array Oper} {rest : List Oper} {o : Oper} {a : Act} {Q : Exit → Act → World → Prop} (W : World) (hgd : o.guard = none) (s x : Operand)
    (ho : o.op = .call { callee := .builtin .append, args := #[s, x], argTypes := #[26, 26] }) (base : Nat) (v u : Value) (l l' : List (Nat × Nat)) (hv : a.eval s = v) (hx : a.eval x = u) (row : IRow 29 W base v l) (lies : Lies W u l') (hl : l.length + l'.length ≤ 100000) (hbase : base ≤ W.heap.size)
    (h : ∀ v' W', IRow 29 W' base v' (l ++ l') → W.grownBy W' v.ownBlock → (v'.ownBlock = v.ownBlock ∨ v'.ownBlock = some W.heap.size) → wpList Tryd.prog ops Q rest (a.put o.dst v') W') : wpList Tryd.prog ops Q (o :: rest) a W := by
  obtain ⟨v', W', hr, q1, q2, q3⟩ := run_append_items W o.type base v u l l' row lies hl hbase
  exact Lib.wpList_append_run W hgd s x _ _ ho _ _ hv hx _ W' hr (h v' W' q1 q2 q3)
/-- One item in a new block lies. -/
theorem lies_new (w : World) (T : TypeId) (x : Nat × Nat) : Lies (w.alloc (.cells #[.int .u64 (x.1 : Nat), .int .u64 (x.2 : Nat)] T)) (.slice (some ⟨w.heap.size, 0, none⟩) 1 1) [x] := by
  have h : (w.alloc (.cells #[.int .u64 (x.1 : Nat), .int .u64 (x.2 : Nat)] T)).heap[w.heap.size]? = some (.cells #[.int .u64 (x.1 : Nat), .int .u64 (x.2 : Nat)] T (0, 0)) := heap_alloc_new w _
  refine ⟨_, 1, rfl, by simp, fun j hj => ⟨w.heap.size, rfl, (Array.getElem?_eq_some_iff.1 h).1, ?_⟩⟩
  have : j = 0 := by simpa using hj
  subst this
  exact ⟨by unfold World.cell?; rw [h]; rfl, by unfold World.cell?; rw [h]; rfl⟩
end Lo
end Go.Proofs.YtkjlfoihojfnbaaDoor
