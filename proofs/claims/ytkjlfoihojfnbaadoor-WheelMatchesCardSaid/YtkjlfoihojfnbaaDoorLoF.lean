/- The reference's Insert. -/
import Derived.Test.YtkjlfoihojfnbaaDoorLoC
import Derived.Deep.RegionHeld3
import Derived.WalkLawsBesides
namespace Go.Proofs.YtkjlfoihojfnbaaDoor
open Go.RowKit
set_option linter.unusedVariables false
set_option linter.unusedSimpArgs false
namespace Lo
open Lv (W64 slotOf slotOf_lt fresh ret_int ret_bool slot_any rslot_any ordI rcompare_any)
open Ln (lvCells LV upd only_set only_refl only_drew)
section
variable {P : Program} {md : Region.Mode} {ops : Array Oper} {Q : Exit → Act → World → Prop} {S : World → Prop}
theorem drop_get {i : Nat} {o : Oper} {rest : List Oper} (h : ops.toList.drop i = o :: rest) : ops[i]? = some o := by
  have e : (ops.toList.drop i)[0]? = some o := by rw [h]; rfl
  rw [List.getElem?_drop] at e
  simpa using e
theorem take_drop {i : Nat} {oi : Oper} {rest : List Oper} {v : Value} {fuel : Nat} {listed : Array Bool} {a : Act} {w : World} (hi : ops.toList.drop i = oi :: rest)
    (hs : Region.noSelect ops = true) (hf : Region.free md ops listed i = true) (hr : (Region.ready md ops listed).contains i = true)
    (hQ : ∀ c a w, Q (.panic c) (a.put oi.dst v) w → Q (.panic c) a w) (hy : YieldsIf P ops S oi v a) (hS : S w)
    (h : wpAnyH P md ops Q S fuel (listed.setIfInBounds i true) (a.put oi.dst v) w) : wpAnyH P md ops Q S (fuel + 1) listed a w :=
  wpAnyH_take (drop_get hi) hs hf hr hQ hy hS h
theorem cons_drop {fuel : Nat} {listed : Array Bool} {a : Act} {w : World} {i : Nat} {o : Oper} {rest : List Oper} {rs : List Nat} (ho : ops.toList.drop i = o :: rest)
    (h : ∀ K' : Act → World → Prop, Shut (∀ a w, S w → (S w → wpAnyH P md ops Q S fuel (listed.setIfInBounds i true) a w) → K' a w) → if Region.wanted o (yielded ops a.tmps) = true then Oper.wp P o a w K' Q else K' (a.put o.dst undef) w)
    (hs : AllReadyH P md ops Q S fuel listed a w rs) : AllReadyH P md ops Q S fuel listed a w (i :: rs) := AllReadyH.cons (drop_get ho) h hs
end
theorem below_drew {m : Nat} {w W : World} (h : Below m w W) : Below m w W.drew := ⟨h.os, h.tape, h.output, h.size, h.block⟩
/-- Items that can be read, from whatever place of a block. -/
def LiesO (w : World) (v : Value) (l : List (Nat × Nat)) : Prop := ∃ A cap, v = .slice A l.length cap ∧ l.length ≤ cap ∧
  ∀ (j : Nat) (hj : j < l.length), ∃ g o, A = some ⟨g, o, none⟩ ∧ w.cell? ⟨g, o + j * 2, none⟩ = some (.int .u64 (l[j].1 : Nat)) ∧ w.cell? ⟨g, o + (j * 2 + 1), none⟩ = some (.int .u64 (l[j].2 : Nat))
theorem itcs_cellsO {w : World} {g o : Nat} {l : List (Nat × Nat)} (h : ∀ (j : Nat) (hj : j < l.length), w.cell? ⟨g, o + j * 2, none⟩ = some (.int .u64 (l[j].1 : Nat)) ∧ w.cell? ⟨g, o + (j * 2 + 1), none⟩ = some (.int .u64 (l[j].2 : Nat))) (i : Nat) (u : Value) (hu : (itcs l)[i]? = some u) : w.cell? ⟨g, o + i, none⟩ = some u := by
  have hlt := (List.getElem?_eq_some_iff.1 hu).1
  rw [itcs_len] at hlt
  obtain ⟨q1, q2⟩ := itcs_get l (i / 2) (by omega)
  obtain ⟨c1, c2⟩ := h (i / 2) (by omega)
  rcases (by omega : i = i / 2 * 2 ∨ i = i / 2 * 2 + 1) with e | e
  · rw [e] at hu ⊢
    rw [q1] at hu; rw [c1, ← hu]
  · rw [e] at hu ⊢
    rw [q2] at hu; rw [c2, ← hu]
theorem run_append_itemsO (W : World) (ty : TypeId) (base : Nat) (v u : Value) (l l' : List (Nat × Nat)) (row : IRow 29 W base v l) (lies : LiesO W u l') (hl : l.length + l'.length ≤ 100000) (hbase : base ≤ W.heap.size) :
    ∃ v' W', (Builtin.append_ #[26, 26] ty #[v, u]).run Tryd.prog W = .ok v' W' ∧ IRow 29 W' base v' (l ++ l') ∧ W.grownBy W' v.ownBlock ∧ (v'.ownBlock = v.ownBlock ∨ v'.ownBlock = some W.heap.size) := by
  obtain ⟨i0, hi, hz0, hz1, hz2⟩ := info_parts Tryd.infoR2
  obtain ⟨A, c, rfl, hc, hcells⟩ := lies
  cases l' with
  | nil =>
    cases A with
    | none =>
      obtain ⟨B, cap, rfl, h2, -⟩ := row.opened
      exact ⟨_, W, run_append_none W ty B l.length cap c h2, by rw [List.append_nil]; exact row, ⟨rfl, rfl, rfl, Nat.le_refl _, fun _ _ _ => rfl⟩, .inl rfl⟩
    | some a =>
      obtain ⟨v', W', hr, ho, hg, -, hb⟩ := run_append_own_at (P := Tryd.prog) W base 26 ty 29 i0 (.agg #[.int .u64 0, .int .u64 0]) 2 16 Tryd.underlying26 hi hz0 hz1 hz2 rfl (by decide) v l.length (itcs l) row a 0 c [] (by simp) (fun j u hu => by simp at hu) (by simp) (by simp only [maxLen]; omega) (by omega) hbase
      exact ⟨v', W', hr, by simpa [IRow] using ho, hg, hb⟩
  | cons x r =>
    obtain ⟨g, o, rfl, -, -⟩ := hcells 0 (by simp)
    obtain ⟨v', W', hr, ho, hg, -, hb⟩ := run_append_own_at (P := Tryd.prog) W base 26 ty 29 i0 (.agg #[.int .u64 0, .int .u64 0]) 2 16 Tryd.underlying26 hi hz0 hz1 hz2 rfl (by decide) v l.length (itcs l) row ⟨g, o, none⟩ (x :: r).length c (itcs (x :: r)) (itcs_len _) (fun j u hu => by
      have h := itcs_cellsO (w := W) (g := g) (o := o) (l := x :: r) (fun j hj => by obtain ⟨g', o', e, q4, q5⟩ := hcells j hj; cases e; exact ⟨q4, q5⟩) j u hu
      cases j <;> simpa [Addr.add] using h) (itcs_one _) (by simp only [maxLen]; omega) (by omega) hbase
    refine ⟨v', W', hr, ?_, hg, hb⟩
    unfold IRow
    rw [itcs_append, List.length_append]
    exact ho
theorem Lies.toO {w : World} {v : Value} {l : List (Nat × Nat)} (h : Lies w v l) : LiesO w v l := by
  obtain ⟨A, cap, h1, h2, h3⟩ := h
  exact ⟨A, cap, h1, h2, fun j hj => by obtain ⟨g, q1, -, q4, q5⟩ := h3 j hj; exact ⟨g, 0, q1, by simpa using q4, by simpa using q5⟩⟩
theorem step_append_items {ops : Array Oper} {o : Oper} {a : Act} {K : Act → World → Prop} {Q : Exit → Act → World → Prop} {E : Prop} (W : World) (hgd : o.guard = none) (s x : Operand)
    (ho : o.op = .call { callee := .builtin .append, args := #[s, x], argTypes := #[26, 26] }) (base : Nat) (v u : Value) (l l' : List (Nat × Nat)) (hv : a.eval s = v) (hx : a.eval x = u) (row : IRow 29 W base v l) (lies : LiesO W u l') (hl : l.length + l'.length ≤ 100000) (hbase : base ≤ W.heap.size)
    (h : ∀ v' W', IRow 29 W' base v' (l ++ l') → W.grownBy W' v.ownBlock → K (a.put o.dst v') W') : if Region.wanted o (yielded ops a.tmps) = true then Oper.wp Tryd.prog o a W K Q else E := by
  have hw : Region.wanted o (yielded ops a.tmps) = true := by simp [Region.wanted, hgd]
  rw [if_pos hw]
  obtain ⟨v', W', hr, q1, q2, -⟩ := run_append_itemsO W o.type base v u l l' row lies hl hbase
  exact Lib.wp_append_run W s x _ _ ho _ _ hv hx _ W' hr (h v' W' q1 q2)
theorem lies_keep {W W' : World} {o : Option Nat} {g c : Nat} {l : List (Nat × Nat)} (h : Lies W (.slice (some ⟨g, 0, none⟩) 1 c) l) (hg : W.grownBy W' o) (hne : some g ≠ o) : Lies W' (.slice (some ⟨g, 0, none⟩) 1 c) l := by
  obtain ⟨A, cap, h1, h2, h3⟩ := h
  refine ⟨A, cap, h1, h2, fun j hj => ?_⟩
  obtain ⟨g', q1, q2, q3, q4⟩ := h3 j hj
  have e : g' = g := by
    have e1 := (Value.slice.inj h1).1
    rw [q1] at e1
    cases e1
    rfl
  subst e
  have hb := hg.block g' q2 hne
  exact ⟨g', q1, Nat.lt_of_lt_of_le q2 hg.size, by rw [← q3]; simp [World.cell?, hb], by rw [← q4]; simp [World.cell?, hb]⟩
theorem row_empty (W : World) (T : TypeId) (base : Nat) (h : base ≤ W.heap.size) : IRow T (W.alloc (.cells #[] T)) base (.slice (some ⟨W.heap.size, 0, none⟩) 0 0) [] :=
  ⟨rfl, .inr ⟨W.heap.size, 0, #[], rfl, h, heap_alloc_new W _, Nat.le_refl _, by simp [maxLen], rfl, rfl⟩⟩
theorem IRow.base_le {T : TypeId} {w : World} {b b' : Nat} {v : Value} {l : List (Nat × Nat)} (h : IRow T w b v l) (hb : b' ≤ b) : IRow T w b' v l := by
  refine ⟨h.1, ?_⟩
  rcases h.2 with h | ⟨g, cap, cur, q1, q2, q3, q4⟩
  · exact .inl h
  · exact .inr ⟨g, cap, cur, q1, Nat.le_trans hb q2, q3, q4⟩
/-- An item before another. -/
def bef (y x : Nat × Nat) : Prop := ordI y.1 y.2 x.1 x.2 < 0
set_option maxRecDepth 100000 in
set_option maxHeartbeats 4000000 in
theorem rinsert_some (l : List (Nat × Nat)) (hl : l.length ≤ 1000) (g cap : Nat) (hcap : l.length ≤ cap) (x : Nat × Nat) (w : World) (hg1 : g < w.heap.size)
    (hcells : ∀ (j : Nat) (hj : j < l.length), w.cell? ⟨g, j * 2, none⟩ = some (.int .u64 (l[j].1 : Nat)) ∧ w.cell? ⟨g, j * 2 + 1, none⟩ = some (.int .u64 (l[j].2 : Nat))) :
    Calls Tryd.prog 13 #[.slice (some ⟨g, 0, none⟩) l.length cap, .agg #[.int .u64 (x.1 : Nat), .int .u64 (x.2 : Nat)]] w fun e w' => ∃ v' p, e = .returned v' ∧ p ≤ l.length ∧ (∀ (i : Nat) (hi : i < l.length), i < p → bef l[i] x) ∧ (∀ (hp : p < l.length), ¬ bef l[p] x) ∧ IRow 29 w' w.heap.size v' (l.take p ++ x :: l.drop p) ∧ Below w.heap.size w w' := by
  obtain ⟨W0, hW0⟩ : ∃ W0, W0 = w.alloc (.cells #[.int .u64 (x.1 : Nat), .int .u64 (x.2 : Nat)] 29) := ⟨_, rfl⟩
  have hb0 : Below w.heap.size w W0 := by rw [hW0]; exact (Below.refl _ _).alloc (Nat.le_refl _) _
  have hx0 : W0.heap[w.heap.size]? = some (.cells #[.int .u64 (x.1 : Nat), .int .u64 (x.2 : Nat)] 29 (0, 0)) := by rw [hW0]; exact heap_alloc_new w _
  have hzw : w.heap.size < W0.heap.size := by rw [hW0]; simp
  have HXX : Hid (∀ W, Below W0.heap.size W0 W → W.cell? ⟨w.heap.size, 0, none⟩ = some (.int .u64 (x.1 : Nat)) ∧ W.cell? ⟨w.heap.size, 1, none⟩ = some (.int .u64 (x.2 : Nat))) := Lib.hid fun W hW => by
    have h := (hW.block w.heap.size hzw).trans hx0
    exact ⟨by simp [World.cell?, h], by simp [World.cell?, h]⟩
  have HW := Lib.hid hb0
  replace hW0 := Lib.hid hW0
  have HCE : Hid (∀ W, Below W0.heap.size W0 W → ∀ (j : Nat) (hj : j < l.length), W.cell? ⟨g, j * 2, none⟩ = some (.int .u64 (l[j].1 : Nat)) ∧ W.cell? ⟨g, j * 2 + 1, none⟩ = some (.int .u64 (l[j].2 : Nat))) := Lib.hid fun W hW j hj => by
    obtain ⟨c1, c2⟩ := hcells j hj
    have h := hb0.trans (hW.mono hb0.size)
    exact ⟨(h.cell (p := ⟨g, j * 2, none⟩) hg1).trans c1, (h.cell (p := ⟨g, j * 2 + 1, none⟩) hg1).trans c2⟩
  have hl' : (l.length : Int) ≤ 1000 := by omega
  clear hcells hx0 hb0
  go_enter Tryd.func13, Tryd.ntmps13
  go_upto_region 1 with fail
  rw [← hW0.out]
  go_wp2_with fail
  go_loopw [5] (fun vj wr => ∃ j : Nat, vj = .int .i64 (j : Int) ∧ j ≤ l.length ∧ Hid (∀ (i : Nat) (hi : i < l.length), i < j → bef l[i] x) ∧ Below W0.heap.size W0 wr) (fun vj _ => l.length + 1 - (intOf vj).toNat)
  case atStart => exact ⟨0, rfl, by omega, Lib.hid (fun i hi h => by omega), Below.refl _ _⟩
  case round =>
    obtain ⟨j, rfl, hj, HJ, hbr⟩ := hrel
    rename_i wr
    have HBR := Lib.hid hbr
    have KB : Hid (∀ W, Below wr.heap.size wr W → W.cell? ⟨w.heap.size, 0, none⟩ = some (.int .u64 (x.1 : Nat)) ∧ W.cell? ⟨w.heap.size, 1, none⟩ = some (.int .u64 (x.2 : Nat))) := Lib.hid fun W hW => HXX.out W (HBR.out.trans (hW.mono HBR.out.size))
    by_cases hjn : j < l.length
    · have hjn' : (j : Int) < l.length := by omega
      have HCJ : Hid (∀ W, Below wr.heap.size wr W → W.cell? ⟨g, j * 2, none⟩ = some (.int .u64 (l[j].1 : Nat)) ∧ W.cell? ⟨g, j * 2 + 1, none⟩ = some (.int .u64 (l[j].2 : Nat))) := Lib.hid fun W hW => HCE.out W (HBR.out.trans (hW.mono HBR.out.size)) j hjn
      have HJS : Hid (bef l[j] x → ∀ (i : Nat) (hi : i < l.length), i < j + 1 → bef l[i] x) := Lib.hid fun h i hi hi2 => by
        by_cases he : i < j
        · exact HJ.out i hi he
        · have : i = j := by omega
          subst this
          exact h
      have HJE : Hid (¬ bef l[j] x → ∀ (hp : j < l.length), ¬ bef l[j] x) := Lib.hid fun h _ => h
      have HC := Lib.hid (fun W => rcompare_any l[j].1 l[j].2 x.1 x.2 W)
      unfold bef at HJS HJE
      generalize ordI l[j].1 l[j].2 x.1 x.2 = c at *
      generalize hy : l[j] = y at HC HCJ
      have KS : Hid (∀ W, Below wr.heap.size wr W → W.cell? ⟨w.heap.size, 0, none⟩ = some (.int .u64 (x.1 : Nat)) ∧ W.cell? ⟨w.heap.size, 1, none⟩ = some (.int .u64 (x.2 : Nat)) ∧ W.cell? ⟨g, j * 2, none⟩ = some (.int .u64 (y.1 : Nat)) ∧ W.cell? ⟨g, j * 2 + 1, none⟩ = some (.int .u64 (y.2 : Nat))) := Lib.hid fun W hW => ⟨(KB.out W hW).1, (KB.out W hW).2, (HCJ.out W hW).1, (HCJ.out W hW).2⟩
      clear hy hbr
      by_cases hc : c < 0
      · have HJ2 := Lib.hid (HJS.out hc)
        go_upto_region 2 with fail
        have HD0 : Hid (Below wr.heap.size wr wr.drew) := Lib.hid (below_drew (Below.refl _ _))
        refine wp_region_noPanic ?_
        refine wp_region_held_drew (S := (fun w' : World => w'.cell? ⟨w.heap.size, 0, none⟩ = some (.int .u64 (x.1 : Nat)) ∧ w'.cell? ⟨w.heap.size, 1, none⟩ = some (.int .u64 (x.2 : Nat)) ∧ w'.cell? ⟨g, j * 2, none⟩ = some (.int .u64 (y.1 : Nat)) ∧ w'.cell? ⟨g, j * 2 + 1, none⟩ = some (.int .u64 (y.2 : Nat)))) (by kernel_rfl) ?_ (fun hH0 => ?_)
        · exact KS.out _ HD0.out
        first
          | (refine take_drop (i := 0) (v := ?_) rfl (by kernel_rfl) (by kernel_rfl) (by kernel_rfl) (fun _ _ _ h => h) (Or.inl ⟨by rfl, ?_⟩) (by assumption) ?_; rotate_left 1; (focus (intro w hSw; (try dsimp only at hSw); go_simp; try with_reducible rfl)); try simp only [Act.put, List.setIfInBounds_toArray, List.set_cons_zero, List.set_cons_succ])
          | (refine take_drop (i := 0) (v := undef) rfl (by kernel_rfl) (by kernel_rfl) (by kernel_rfl) (fun _ _ _ h => h) (Or.inr ⟨by rfl, rfl⟩) (by assumption) ?_; try simp only [Act.put, List.setIfInBounds_toArray, List.set_cons_zero, List.set_cons_succ])
        first
          | (refine take_drop (i := 1) (v := ?_) rfl (by kernel_rfl) (by kernel_rfl) (by kernel_rfl) (fun _ _ _ h => h) (Or.inl ⟨by rfl, ?_⟩) (by assumption) ?_; rotate_left 1; (focus (intro w hSw; (try dsimp only at hSw); go_simp; try with_reducible rfl)); try simp only [Act.put, List.setIfInBounds_toArray, List.set_cons_zero, List.set_cons_succ])
          | (refine take_drop (i := 1) (v := undef) rfl (by kernel_rfl) (by kernel_rfl) (by kernel_rfl) (fun _ _ _ h => h) (Or.inr ⟨by rfl, rfl⟩) (by assumption) ?_; try simp only [Act.put, List.setIfInBounds_toArray, List.set_cons_zero, List.set_cons_succ])
        first
          | (refine take_drop (i := 2) (v := ?_) rfl (by kernel_rfl) (by kernel_rfl) (by kernel_rfl) (fun _ _ _ h => h) (Or.inl ⟨by rfl, ?_⟩) (by assumption) ?_; rotate_left 1; (focus (intro w hSw; (try dsimp only at hSw); go_simp; try with_reducible rfl)); try simp only [Act.put, List.setIfInBounds_toArray, List.set_cons_zero, List.set_cons_succ])
          | (refine take_drop (i := 2) (v := undef) rfl (by kernel_rfl) (by kernel_rfl) (by kernel_rfl) (fun _ _ _ h => h) (Or.inr ⟨by rfl, rfl⟩) (by assumption) ?_; try simp only [Act.put, List.setIfInBounds_toArray, List.set_cons_zero, List.set_cons_succ])
        first
          | (refine take_drop (i := 3) (v := ?_) rfl (by kernel_rfl) (by kernel_rfl) (by kernel_rfl) (fun _ _ _ h => h) (Or.inl ⟨by rfl, ?_⟩) (by assumption) ?_; rotate_left 1; (focus (intro w hSw; (try dsimp only at hSw); go_simp; try with_reducible rfl)); try simp only [Act.put, List.setIfInBounds_toArray, List.set_cons_zero, List.set_cons_succ])
          | (refine take_drop (i := 3) (v := undef) rfl (by kernel_rfl) (by kernel_rfl) (by kernel_rfl) (fun _ _ _ h => h) (Or.inr ⟨by rfl, rfl⟩) (by assumption) ?_; try simp only [Act.put, List.setIfInBounds_toArray, List.set_cons_zero, List.set_cons_succ])
        first
          | (refine take_drop (i := 4) (v := ?_) rfl (by kernel_rfl) (by kernel_rfl) (by kernel_rfl) (fun _ _ _ h => h) (Or.inl ⟨by rfl, ?_⟩) (by assumption) ?_; rotate_left 1; (focus (intro w hSw; (try dsimp only at hSw); go_simp; try with_reducible rfl)); try simp only [Act.put, List.setIfInBounds_toArray, List.set_cons_zero, List.set_cons_succ])
          | (refine take_drop (i := 4) (v := undef) rfl (by kernel_rfl) (by kernel_rfl) (by kernel_rfl) (fun _ _ _ h => h) (Or.inr ⟨by rfl, rfl⟩) (by assumption) ?_; try simp only [Act.put, List.setIfInBounds_toArray, List.set_cons_zero, List.set_cons_succ])
        first
          | (refine take_drop (i := 5) (v := ?_) rfl (by kernel_rfl) (by kernel_rfl) (by kernel_rfl) (fun _ _ _ h => h) (Or.inl ⟨by rfl, ?_⟩) (by assumption) ?_; rotate_left 1; (focus (intro w hSw; (try dsimp only at hSw); go_simp; try with_reducible rfl)); try simp only [Act.put, List.setIfInBounds_toArray, List.set_cons_zero, List.set_cons_succ])
          | (refine take_drop (i := 5) (v := undef) rfl (by kernel_rfl) (by kernel_rfl) (by kernel_rfl) (fun _ _ _ h => h) (Or.inr ⟨by rfl, rfl⟩) (by assumption) ?_; try simp only [Act.put, List.setIfInBounds_toArray, List.set_cons_zero, List.set_cons_succ])
        first
          | (refine take_drop (i := 6) (v := ?_) rfl (by kernel_rfl) (by kernel_rfl) (by kernel_rfl) (fun _ _ _ h => h) (Or.inl ⟨by rfl, ?_⟩) (by assumption) ?_; rotate_left 1; (focus (intro w hSw; (try dsimp only at hSw); go_simp; try with_reducible rfl)); try simp only [Act.put, List.setIfInBounds_toArray, List.set_cons_zero, List.set_cons_succ])
          | (refine take_drop (i := 6) (v := undef) rfl (by kernel_rfl) (by kernel_rfl) (by kernel_rfl) (fun _ _ _ h => h) (Or.inr ⟨by rfl, rfl⟩) (by assumption) ?_; try simp only [Act.put, List.setIfInBounds_toArray, List.set_cons_zero, List.set_cons_succ])
        first
          | (refine take_drop (i := 7) (v := ?_) rfl (by kernel_rfl) (by kernel_rfl) (by kernel_rfl) (fun _ _ _ h => h) (Or.inl ⟨by rfl, ?_⟩) (by assumption) ?_; rotate_left 1; (focus (intro w hSw; (try dsimp only at hSw); go_simp; try with_reducible rfl)); try simp only [Act.put, List.setIfInBounds_toArray, List.set_cons_zero, List.set_cons_succ])
          | (refine take_drop (i := 7) (v := undef) rfl (by kernel_rfl) (by kernel_rfl) (by kernel_rfl) (fun _ _ _ h => h) (Or.inr ⟨by rfl, rfl⟩) (by assumption) ?_; try simp only [Act.put, List.setIfInBounds_toArray, List.set_cons_zero, List.set_cons_succ])
        first
          | (refine take_drop (i := 8) (v := ?_) rfl (by kernel_rfl) (by kernel_rfl) (by kernel_rfl) (fun _ _ _ h => h) (Or.inl ⟨by rfl, ?_⟩) (by assumption) ?_; rotate_left 1; (focus (intro w hSw; (try dsimp only at hSw); go_simp; try with_reducible rfl)); try simp only [Act.put, List.setIfInBounds_toArray, List.set_cons_zero, List.set_cons_succ])
          | (refine take_drop (i := 8) (v := undef) rfl (by kernel_rfl) (by kernel_rfl) (by kernel_rfl) (fun _ _ _ h => h) (Or.inr ⟨by rfl, rfl⟩) (by assumption) ?_; try simp only [Act.put, List.setIfInBounds_toArray, List.set_cons_zero, List.set_cons_succ])
        first
          | (refine take_drop (i := 9) (v := ?_) rfl (by kernel_rfl) (by kernel_rfl) (by kernel_rfl) (fun _ _ _ h => h) (Or.inl ⟨by rfl, ?_⟩) (by assumption) ?_; rotate_left 1; (focus (intro w hSw; (try dsimp only at hSw); go_simp; try with_reducible rfl)); try simp only [Act.put, List.setIfInBounds_toArray, List.set_cons_zero, List.set_cons_succ])
          | (refine take_drop (i := 9) (v := undef) rfl (by kernel_rfl) (by kernel_rfl) (by kernel_rfl) (fun _ _ _ h => h) (Or.inr ⟨by rfl, rfl⟩) (by assumption) ?_; try simp only [Act.put, List.setIfInBounds_toArray, List.set_cons_zero, List.set_cons_succ])
        refine wpAnyH_ready (rs := [10]) (by kernel_rfl) (by simp) ?_
        refine cons_drop rfl (fun K hK => ?_) AllReadyH.nil
        go_simp
        refine (HC.out _).mono ?_
        rintro e u1 ⟨rfl, hb⟩
        have HD1 : Hid (Below wr.heap.size wr u1) := Lib.hid (HD0.out.trans (hb.mono HD0.out.size))
        clear hb
        go_wp2_with fail
        refine hK.out _ _ (KS.out _ HD1.out) (fun hH1 => ?_)
        clear hK K hH0
        try simp only [Act.put, List.setIfInBounds_toArray, List.set_cons_zero, List.set_cons_succ]
        first
          | (refine take_drop (i := 11) (v := ?_) rfl (by kernel_rfl) (by kernel_rfl) (by kernel_rfl) (fun _ _ _ h => h) (Or.inl ⟨by rfl, ?_⟩) (by assumption) ?_; rotate_left 1; (focus (intro w hSw; (try dsimp only at hSw); go_simp; try with_reducible rfl)); try simp only [Act.put, List.setIfInBounds_toArray, List.set_cons_zero, List.set_cons_succ])
          | (refine take_drop (i := 11) (v := undef) rfl (by kernel_rfl) (by kernel_rfl) (by kernel_rfl) (fun _ _ _ h => h) (Or.inr ⟨by rfl, rfl⟩) (by assumption) ?_; try simp only [Act.put, List.setIfInBounds_toArray, List.set_cons_zero, List.set_cons_succ])
        first
          | (refine take_drop (i := 12) (v := ?_) rfl (by kernel_rfl) (by kernel_rfl) (by kernel_rfl) (fun _ _ _ h => h) (Or.inl ⟨by rfl, ?_⟩) (by assumption) ?_; rotate_left 1; (focus (intro w hSw; (try dsimp only at hSw); go_simp; try with_reducible rfl)); try simp only [Act.put, List.setIfInBounds_toArray, List.set_cons_zero, List.set_cons_succ])
          | (refine take_drop (i := 12) (v := undef) rfl (by kernel_rfl) (by kernel_rfl) (by kernel_rfl) (fun _ _ _ h => h) (Or.inr ⟨by rfl, rfl⟩) (by assumption) ?_; try simp only [Act.put, List.setIfInBounds_toArray, List.set_cons_zero, List.set_cons_succ])
        refine wpAnyH_done (by kernel_rfl) ?_ _
        refine NoPanic.normal ?_
        go_wp2_with fail
        exact ⟨⟨j + 1, rfl, by omega, HJ2, HBR.out.trans (HD1.out.mono HBR.out.size)⟩, by simp [intOf]; omega⟩
      · have HJ2 := Lib.hid (HJE.out hc)
        go_upto_region 2 with fail
        have HD0 : Hid (Below wr.heap.size wr wr.drew) := Lib.hid (below_drew (Below.refl _ _))
        refine wp_region_noPanic ?_
        refine wp_region_held_drew (S := (fun w' : World => w'.cell? ⟨w.heap.size, 0, none⟩ = some (.int .u64 (x.1 : Nat)) ∧ w'.cell? ⟨w.heap.size, 1, none⟩ = some (.int .u64 (x.2 : Nat)) ∧ w'.cell? ⟨g, j * 2, none⟩ = some (.int .u64 (y.1 : Nat)) ∧ w'.cell? ⟨g, j * 2 + 1, none⟩ = some (.int .u64 (y.2 : Nat)))) (by kernel_rfl) ?_ (fun hH0 => ?_)
        · exact KS.out _ HD0.out
        first
          | (refine take_drop (i := 0) (v := ?_) rfl (by kernel_rfl) (by kernel_rfl) (by kernel_rfl) (fun _ _ _ h => h) (Or.inl ⟨by rfl, ?_⟩) (by assumption) ?_; rotate_left 1; (focus (intro w hSw; (try dsimp only at hSw); go_simp; try with_reducible rfl)); try simp only [Act.put, List.setIfInBounds_toArray, List.set_cons_zero, List.set_cons_succ])
          | (refine take_drop (i := 0) (v := undef) rfl (by kernel_rfl) (by kernel_rfl) (by kernel_rfl) (fun _ _ _ h => h) (Or.inr ⟨by rfl, rfl⟩) (by assumption) ?_; try simp only [Act.put, List.setIfInBounds_toArray, List.set_cons_zero, List.set_cons_succ])
        first
          | (refine take_drop (i := 1) (v := ?_) rfl (by kernel_rfl) (by kernel_rfl) (by kernel_rfl) (fun _ _ _ h => h) (Or.inl ⟨by rfl, ?_⟩) (by assumption) ?_; rotate_left 1; (focus (intro w hSw; (try dsimp only at hSw); go_simp; try with_reducible rfl)); try simp only [Act.put, List.setIfInBounds_toArray, List.set_cons_zero, List.set_cons_succ])
          | (refine take_drop (i := 1) (v := undef) rfl (by kernel_rfl) (by kernel_rfl) (by kernel_rfl) (fun _ _ _ h => h) (Or.inr ⟨by rfl, rfl⟩) (by assumption) ?_; try simp only [Act.put, List.setIfInBounds_toArray, List.set_cons_zero, List.set_cons_succ])
        first
          | (refine take_drop (i := 2) (v := ?_) rfl (by kernel_rfl) (by kernel_rfl) (by kernel_rfl) (fun _ _ _ h => h) (Or.inl ⟨by rfl, ?_⟩) (by assumption) ?_; rotate_left 1; (focus (intro w hSw; (try dsimp only at hSw); go_simp; try with_reducible rfl)); try simp only [Act.put, List.setIfInBounds_toArray, List.set_cons_zero, List.set_cons_succ])
          | (refine take_drop (i := 2) (v := undef) rfl (by kernel_rfl) (by kernel_rfl) (by kernel_rfl) (fun _ _ _ h => h) (Or.inr ⟨by rfl, rfl⟩) (by assumption) ?_; try simp only [Act.put, List.setIfInBounds_toArray, List.set_cons_zero, List.set_cons_succ])
        first
          | (refine take_drop (i := 3) (v := ?_) rfl (by kernel_rfl) (by kernel_rfl) (by kernel_rfl) (fun _ _ _ h => h) (Or.inl ⟨by rfl, ?_⟩) (by assumption) ?_; rotate_left 1; (focus (intro w hSw; (try dsimp only at hSw); go_simp; try with_reducible rfl)); try simp only [Act.put, List.setIfInBounds_toArray, List.set_cons_zero, List.set_cons_succ])
          | (refine take_drop (i := 3) (v := undef) rfl (by kernel_rfl) (by kernel_rfl) (by kernel_rfl) (fun _ _ _ h => h) (Or.inr ⟨by rfl, rfl⟩) (by assumption) ?_; try simp only [Act.put, List.setIfInBounds_toArray, List.set_cons_zero, List.set_cons_succ])
        first
          | (refine take_drop (i := 4) (v := ?_) rfl (by kernel_rfl) (by kernel_rfl) (by kernel_rfl) (fun _ _ _ h => h) (Or.inl ⟨by rfl, ?_⟩) (by assumption) ?_; rotate_left 1; (focus (intro w hSw; (try dsimp only at hSw); go_simp; try with_reducible rfl)); try simp only [Act.put, List.setIfInBounds_toArray, List.set_cons_zero, List.set_cons_succ])
          | (refine take_drop (i := 4) (v := undef) rfl (by kernel_rfl) (by kernel_rfl) (by kernel_rfl) (fun _ _ _ h => h) (Or.inr ⟨by rfl, rfl⟩) (by assumption) ?_; try simp only [Act.put, List.setIfInBounds_toArray, List.set_cons_zero, List.set_cons_succ])
        first
          | (refine take_drop (i := 5) (v := ?_) rfl (by kernel_rfl) (by kernel_rfl) (by kernel_rfl) (fun _ _ _ h => h) (Or.inl ⟨by rfl, ?_⟩) (by assumption) ?_; rotate_left 1; (focus (intro w hSw; (try dsimp only at hSw); go_simp; try with_reducible rfl)); try simp only [Act.put, List.setIfInBounds_toArray, List.set_cons_zero, List.set_cons_succ])
          | (refine take_drop (i := 5) (v := undef) rfl (by kernel_rfl) (by kernel_rfl) (by kernel_rfl) (fun _ _ _ h => h) (Or.inr ⟨by rfl, rfl⟩) (by assumption) ?_; try simp only [Act.put, List.setIfInBounds_toArray, List.set_cons_zero, List.set_cons_succ])
        first
          | (refine take_drop (i := 6) (v := ?_) rfl (by kernel_rfl) (by kernel_rfl) (by kernel_rfl) (fun _ _ _ h => h) (Or.inl ⟨by rfl, ?_⟩) (by assumption) ?_; rotate_left 1; (focus (intro w hSw; (try dsimp only at hSw); go_simp; try with_reducible rfl)); try simp only [Act.put, List.setIfInBounds_toArray, List.set_cons_zero, List.set_cons_succ])
          | (refine take_drop (i := 6) (v := undef) rfl (by kernel_rfl) (by kernel_rfl) (by kernel_rfl) (fun _ _ _ h => h) (Or.inr ⟨by rfl, rfl⟩) (by assumption) ?_; try simp only [Act.put, List.setIfInBounds_toArray, List.set_cons_zero, List.set_cons_succ])
        first
          | (refine take_drop (i := 7) (v := ?_) rfl (by kernel_rfl) (by kernel_rfl) (by kernel_rfl) (fun _ _ _ h => h) (Or.inl ⟨by rfl, ?_⟩) (by assumption) ?_; rotate_left 1; (focus (intro w hSw; (try dsimp only at hSw); go_simp; try with_reducible rfl)); try simp only [Act.put, List.setIfInBounds_toArray, List.set_cons_zero, List.set_cons_succ])
          | (refine take_drop (i := 7) (v := undef) rfl (by kernel_rfl) (by kernel_rfl) (by kernel_rfl) (fun _ _ _ h => h) (Or.inr ⟨by rfl, rfl⟩) (by assumption) ?_; try simp only [Act.put, List.setIfInBounds_toArray, List.set_cons_zero, List.set_cons_succ])
        first
          | (refine take_drop (i := 8) (v := ?_) rfl (by kernel_rfl) (by kernel_rfl) (by kernel_rfl) (fun _ _ _ h => h) (Or.inl ⟨by rfl, ?_⟩) (by assumption) ?_; rotate_left 1; (focus (intro w hSw; (try dsimp only at hSw); go_simp; try with_reducible rfl)); try simp only [Act.put, List.setIfInBounds_toArray, List.set_cons_zero, List.set_cons_succ])
          | (refine take_drop (i := 8) (v := undef) rfl (by kernel_rfl) (by kernel_rfl) (by kernel_rfl) (fun _ _ _ h => h) (Or.inr ⟨by rfl, rfl⟩) (by assumption) ?_; try simp only [Act.put, List.setIfInBounds_toArray, List.set_cons_zero, List.set_cons_succ])
        first
          | (refine take_drop (i := 9) (v := ?_) rfl (by kernel_rfl) (by kernel_rfl) (by kernel_rfl) (fun _ _ _ h => h) (Or.inl ⟨by rfl, ?_⟩) (by assumption) ?_; rotate_left 1; (focus (intro w hSw; (try dsimp only at hSw); go_simp; try with_reducible rfl)); try simp only [Act.put, List.setIfInBounds_toArray, List.set_cons_zero, List.set_cons_succ])
          | (refine take_drop (i := 9) (v := undef) rfl (by kernel_rfl) (by kernel_rfl) (by kernel_rfl) (fun _ _ _ h => h) (Or.inr ⟨by rfl, rfl⟩) (by assumption) ?_; try simp only [Act.put, List.setIfInBounds_toArray, List.set_cons_zero, List.set_cons_succ])
        refine wpAnyH_ready (rs := [10]) (by kernel_rfl) (by simp) ?_
        refine cons_drop rfl (fun K hK => ?_) AllReadyH.nil
        go_simp
        refine (HC.out _).mono ?_
        rintro e u1 ⟨rfl, hb⟩
        have HD1 : Hid (Below wr.heap.size wr u1) := Lib.hid (HD0.out.trans (hb.mono HD0.out.size))
        clear hb
        go_wp2_with fail
        refine hK.out _ _ (KS.out _ HD1.out) (fun hH1 => ?_)
        clear hK K hH0
        try simp only [Act.put, List.setIfInBounds_toArray, List.set_cons_zero, List.set_cons_succ]
        first
          | (refine take_drop (i := 11) (v := ?_) rfl (by kernel_rfl) (by kernel_rfl) (by kernel_rfl) (fun _ _ _ h => h) (Or.inl ⟨by rfl, ?_⟩) (by assumption) ?_; rotate_left 1; (focus (intro w hSw; (try dsimp only at hSw); go_simp; try with_reducible rfl)); try simp only [Act.put, List.setIfInBounds_toArray, List.set_cons_zero, List.set_cons_succ])
          | (refine take_drop (i := 11) (v := undef) rfl (by kernel_rfl) (by kernel_rfl) (by kernel_rfl) (fun _ _ _ h => h) (Or.inr ⟨by rfl, rfl⟩) (by assumption) ?_; try simp only [Act.put, List.setIfInBounds_toArray, List.set_cons_zero, List.set_cons_succ])
        first
          | (refine take_drop (i := 12) (v := ?_) rfl (by kernel_rfl) (by kernel_rfl) (by kernel_rfl) (fun _ _ _ h => h) (Or.inl ⟨by rfl, ?_⟩) (by assumption) ?_; rotate_left 1; (focus (intro w hSw; (try dsimp only at hSw); go_simp; try with_reducible rfl)); try simp only [Act.put, List.setIfInBounds_toArray, List.set_cons_zero, List.set_cons_succ])
          | (refine take_drop (i := 12) (v := undef) rfl (by kernel_rfl) (by kernel_rfl) (by kernel_rfl) (fun _ _ _ h => h) (Or.inr ⟨by rfl, rfl⟩) (by assumption) ?_; try simp only [Act.put, List.setIfInBounds_toArray, List.set_cons_zero, List.set_cons_succ])
        refine wpAnyH_done (by kernel_rfl) ?_ _
        refine NoPanic.normal ?_
        have HB4 : Hid (Below W0.heap.size W0 u1) := Lib.hid (HBR.out.trans (HD1.out.mono HBR.out.size))
        go_upto_region 4 with fail
        have hjc : j ≤ cap := by omega
        have KB4 : Hid (∀ W, Below u1.heap.size u1 W → W.cell? ⟨w.heap.size, 0, none⟩ = some (.int .u64 (x.1 : Nat)) ∧ W.cell? ⟨w.heap.size, 1, none⟩ = some (.int .u64 (x.2 : Nat))) := Lib.hid fun W hW => HXX.out W (HB4.out.trans (hW.mono HB4.out.size))
        have HU2 : Hid (∀ W, Below u1.heap.size u1 W → LiesO W (.slice (some ⟨g, 0, none⟩) j cap) (l.take j)) := Lib.hid fun W hW => ⟨_, cap, by rw [List.length_take, Nat.min_eq_left hj], by rw [List.length_take]; omega, fun i hi => ⟨g, 0, rfl, by have h := (HCE.out W (HB4.out.trans (hW.mono HB4.out.size)) i (by rw [List.length_take] at hi; omega)).1; simpa [List.getElem_take] using h, by have h := (HCE.out W (HB4.out.trans (hW.mono HB4.out.size)) i (by rw [List.length_take] at hi; omega)).2; simpa [List.getElem_take] using h⟩⟩
        have HU3 : Hid (∀ W, Below u1.heap.size u1 W → LiesO W (.slice (if cap = j then some ⟨g, 0, none⟩ else some ⟨g, j * 2, none⟩) (l.length - j) (cap - j)) (l.drop j)) := Lib.hid fun W hW => ⟨_, cap - j, by rw [List.length_drop], by rw [List.length_drop]; omega, fun i hi => by
          rw [List.length_drop] at hi
          obtain ⟨h1, h2⟩ := HCE.out W (HB4.out.trans (hW.mono HB4.out.size)) (j + i) (by omega)
          refine ⟨g, j * 2, by rw [if_neg (by omega)], ?_, ?_⟩
          · rw [show j * 2 + i * 2 = (j + i) * 2 by omega, List.getElem_drop]; exact h1
          · rw [show j * 2 + (i * 2 + 1) = (j + i) * 2 + 1 by omega, List.getElem_drop]; exact h2⟩
        have HD0 : Hid (Below u1.heap.size u1 u1.drew) := Lib.hid (below_drew (Below.refl _ _))
        refine wp_region_noPanic ?_
        refine wp_region_held_drew (S := (fun w' : World => w'.cell? ⟨w.heap.size, 0, none⟩ = some (.int .u64 (x.1 : Nat)) ∧ w'.cell? ⟨w.heap.size, 1, none⟩ = some (.int .u64 (x.2 : Nat)))) (by kernel_rfl) ?_ (fun hH0 => ?_)
        · exact KB4.out _ HD0.out
        first
          | (refine take_drop (i := 1) (v := ?_) rfl (by kernel_rfl) (by kernel_rfl) (by kernel_rfl) (fun _ _ _ h => h) (Or.inl ⟨by rfl, ?_⟩) (by assumption) ?_; rotate_left 1; (focus (intro w hSw; (try dsimp only at hSw); go_simp; try with_reducible rfl)); try simp only [Act.put, List.setIfInBounds_toArray, List.set_cons_zero, List.set_cons_succ])
          | (refine take_drop (i := 1) (v := undef) rfl (by kernel_rfl) (by kernel_rfl) (by kernel_rfl) (fun _ _ _ h => h) (Or.inr ⟨by rfl, rfl⟩) (by assumption) ?_; try simp only [Act.put, List.setIfInBounds_toArray, List.set_cons_zero, List.set_cons_succ])
        first
          | (refine take_drop (i := 2) (v := ?_) rfl (by kernel_rfl) (by kernel_rfl) (by kernel_rfl) (fun _ _ _ h => h) (Or.inl ⟨by rfl, ?_⟩) (by assumption) ?_; rotate_left 1; (focus (intro w hSw; (try dsimp only at hSw); go_simp; try with_reducible rfl)); try simp only [Act.put, List.setIfInBounds_toArray, List.set_cons_zero, List.set_cons_succ])
          | (refine take_drop (i := 2) (v := undef) rfl (by kernel_rfl) (by kernel_rfl) (by kernel_rfl) (fun _ _ _ h => h) (Or.inr ⟨by rfl, rfl⟩) (by assumption) ?_; try simp only [Act.put, List.setIfInBounds_toArray, List.set_cons_zero, List.set_cons_succ])
        first
          | (refine take_drop (i := 3) (v := ?_) rfl (by kernel_rfl) (by kernel_rfl) (by kernel_rfl) (fun _ _ _ h => h) (Or.inl ⟨by rfl, ?_⟩) (by assumption) ?_; rotate_left 1; (focus (intro w hSw; (try dsimp only at hSw); go_simp; try with_reducible rfl)); try simp only [Act.put, List.setIfInBounds_toArray, List.set_cons_zero, List.set_cons_succ])
          | (refine take_drop (i := 3) (v := undef) rfl (by kernel_rfl) (by kernel_rfl) (by kernel_rfl) (fun _ _ _ h => h) (Or.inr ⟨by rfl, rfl⟩) (by assumption) ?_; try simp only [Act.put, List.setIfInBounds_toArray, List.set_cons_zero, List.set_cons_succ])
        first
          | (refine take_drop (i := 5) (v := ?_) rfl (by kernel_rfl) (by kernel_rfl) (by kernel_rfl) (fun _ _ _ h => h) (Or.inl ⟨by rfl, ?_⟩) (by assumption) ?_; rotate_left 1; (focus (intro w hSw; (try dsimp only at hSw); go_simp; try with_reducible rfl)); try simp only [Act.put, List.setIfInBounds_toArray, List.set_cons_zero, List.set_cons_succ])
          | (refine take_drop (i := 5) (v := undef) rfl (by kernel_rfl) (by kernel_rfl) (by kernel_rfl) (fun _ _ _ h => h) (Or.inr ⟨by rfl, rfl⟩) (by assumption) ?_; try simp only [Act.put, List.setIfInBounds_toArray, List.set_cons_zero, List.set_cons_succ])
        first
          | (refine take_drop (i := 8) (v := ?_) rfl (by kernel_rfl) (by kernel_rfl) (by kernel_rfl) (fun _ _ _ h => h) (Or.inl ⟨by rfl, ?_⟩) (by assumption) ?_; rotate_left 1; (focus (intro w hSw; (try dsimp only at hSw); go_simp; try with_reducible rfl)); try simp only [Act.put, List.setIfInBounds_toArray, List.set_cons_zero, List.set_cons_succ])
          | (refine take_drop (i := 8) (v := undef) rfl (by kernel_rfl) (by kernel_rfl) (by kernel_rfl) (fun _ _ _ h => h) (Or.inr ⟨by rfl, rfl⟩) (by assumption) ?_; try simp only [Act.put, List.setIfInBounds_toArray, List.set_cons_zero, List.set_cons_succ])
        first
          | (refine take_drop (i := 9) (v := ?_) rfl (by kernel_rfl) (by kernel_rfl) (by kernel_rfl) (fun _ _ _ h => h) (Or.inl ⟨by rfl, ?_⟩) (by assumption) ?_; rotate_left 1; (focus (intro w hSw; (try dsimp only at hSw); go_simp; try with_reducible rfl)); try simp only [Act.put, List.setIfInBounds_toArray, List.set_cons_zero, List.set_cons_succ])
          | (refine take_drop (i := 9) (v := undef) rfl (by kernel_rfl) (by kernel_rfl) (by kernel_rfl) (fun _ _ _ h => h) (Or.inr ⟨by rfl, rfl⟩) (by assumption) ?_; try simp only [Act.put, List.setIfInBounds_toArray, List.set_cons_zero, List.set_cons_succ])
        first
          | (refine take_drop (i := 10) (v := ?_) rfl (by kernel_rfl) (by kernel_rfl) (by kernel_rfl) (fun _ _ _ h => h) (Or.inl ⟨by rfl, ?_⟩) (by assumption) ?_; rotate_left 1; (focus (intro w hSw; (try dsimp only at hSw); go_simp; try with_reducible rfl)); try simp only [Act.put, List.setIfInBounds_toArray, List.set_cons_zero, List.set_cons_succ])
          | (refine take_drop (i := 10) (v := undef) rfl (by kernel_rfl) (by kernel_rfl) (by kernel_rfl) (fun _ _ _ h => h) (Or.inr ⟨by rfl, rfl⟩) (by assumption) ?_; try simp only [Act.put, List.setIfInBounds_toArray, List.set_cons_zero, List.set_cons_succ])
        refine wpAnyH_ready (rs := [0, 6]) (by kernel_rfl) (by simp) ?_
        refine cons_drop rfl (fun K hK => ?_) (cons_drop rfl (fun K hK => ?_) AllReadyH.nil)
        · go_simp
          obtain ⟨u11, hu11⟩ : ∃ u, u = (u1.alloc (.cells #[] 29)).drew := ⟨_, rfl⟩
          rw [← hu11]
          have hbz : Below u1.heap.size u1 u11 := by rw [hu11]; exact below_drew ((Below.refl _ _).alloc (Nat.le_refl _) _)
          have HZ11 : Hid (u11.heap.size = u1.heap.size + 1) := Lib.hid (by rw [hu11]; simp)
          have HD11 : Hid (Below u1.heap.size u1 u11) := Lib.hid hbz
          have HR11 : Hid (IRow 29 u11 u1.heap.size (.slice (some ⟨u1.heap.size, 0, none⟩) 0 0) []) := Lib.hid (by rw [hu11]; exact row_empty u1 29 _ (Nat.le_refl _))
          clear hbz
          replace hu11 := Lib.hid hu11
          refine hK.out _ _ (KB4.out _ HD11.out) (fun hH11 => ?_)
          clear hK K hH0
          try simp only [Act.put, List.setIfInBounds_toArray, List.set_cons_zero, List.set_cons_succ]
          refine wpAnyH_ready (rs := [4, 6]) (by kernel_rfl) (by simp) ?_
          refine cons_drop rfl (fun K hK => ?_) (cons_drop rfl (fun K hK => ?_) AllReadyH.nil)
          · refine step_append_items _ rfl _ _ rfl u1.heap.size _ _ [] (l.take j) rfl rfl HR11.out (HU2.out _ HD11.out) (by simp only [List.length_append, List.length_take, List.length_drop, List.length_singleton, List.length_nil]; omega) HD11.out.size ?_
            intro v12 u12 hrow12 hgr
            have HD12 : Hid (Below u1.heap.size u1 u12) := Lib.hid (HD11.out.grown hgr HD11.out.size (fun k hk => (HR11.out.lt k hk).1))
            have HR12 := Lib.hid hrow12
            clear hrow12 hgr
            refine hK.out _ _ (KB4.out _ HD12.out) (fun hH12 => ?_)
            clear hK K hH11
            try simp only [Act.put, List.setIfInBounds_toArray, List.set_cons_zero, List.set_cons_succ]
            refine wpAnyH_ready (rs := [6]) (by kernel_rfl) (by simp) ?_
            refine cons_drop rfl (fun K hK => ?_) AllReadyH.nil
            go_simp
            obtain ⟨u13, hu13⟩ : ∃ u, u = u12.alloc (.cells #[.int .u64 (x.1 : Nat), .int .u64 (x.2 : Nat)] 29) := ⟨_, rfl⟩
            rw [← hu13]
            have hbz : Below u12.heap.size u12 u13 := by rw [hu13]; exact (Below.refl _ _).alloc (Nat.le_refl _) _
            have HZ13 : Hid (u13.heap.size = u12.heap.size + 1) := Lib.hid (by rw [hu13]; simp)
            have HD13 : Hid (Below u1.heap.size u1 u13) := Lib.hid (HD12.out.trans (hbz.mono HD12.out.size))
            have HR13 := Lib.hid (HR12.out.later hbz)
            have HX13 : Hid (Lies u13 (.slice (some ⟨u12.heap.size, 0, none⟩) 1 1) [x]) := Lib.hid (by rw [hu13]; exact lies_new u12 29 x)
            clear hbz
            replace hu13 := Lib.hid hu13
            refine hK.out _ _ (KB4.out _ HD13.out) (fun hH13 => ?_)
            clear hK K hH12
            try simp only [Act.put, List.setIfInBounds_toArray, List.set_cons_zero, List.set_cons_succ]
            refine wpAnyH_ready (rs := [7]) (by kernel_rfl) (by simp) ?_
            refine cons_drop rfl (fun K hK => ?_) AllReadyH.nil
            refine step_append_items _ rfl _ _ rfl u1.heap.size _ _ ([] ++ (l.take j)) [x] rfl rfl HR13.out HX13.out.toO (by simp only [List.length_append, List.length_take, List.length_drop, List.length_singleton, List.length_nil]; omega) HD13.out.size ?_
            intro v14 u14 hrow14 hgr
            have HD14 : Hid (Below u1.heap.size u1 u14) := Lib.hid (HD13.out.grown hgr HD13.out.size (fun k hk => (HR13.out.lt k hk).1))
            have HR14 := Lib.hid hrow14
            clear hrow14 hgr
            refine hK.out _ _ (KB4.out _ HD14.out) (fun hH14 => ?_)
            clear hK K hH13
            try simp only [Act.put, List.setIfInBounds_toArray, List.set_cons_zero, List.set_cons_succ]
            refine wpAnyH_ready (rs := [11]) (by kernel_rfl) (by simp) ?_
            refine cons_drop rfl (fun K hK => ?_) AllReadyH.nil
            refine step_append_items _ rfl _ _ rfl u1.heap.size _ _ (([] ++ (l.take j)) ++ [x]) (l.drop j) rfl rfl HR14.out (HU3.out _ HD14.out) (by simp only [List.length_append, List.length_take, List.length_drop, List.length_singleton, List.length_nil]; omega) HD14.out.size ?_
            intro v15 u15 hrow15 hgr
            have HD15 : Hid (Below u1.heap.size u1 u15) := Lib.hid (HD14.out.grown hgr HD14.out.size (fun k hk => (HR14.out.lt k hk).1))
            have HR15 := Lib.hid hrow15
            clear hrow15 hgr
            refine hK.out _ _ (KB4.out _ HD15.out) (fun hH15 => ?_)
            clear hK K hH14
            try simp only [Act.put, List.setIfInBounds_toArray, List.set_cons_zero, List.set_cons_succ]
            first
              | (refine take_drop (i := 12) (v := ?_) rfl (by kernel_rfl) (by kernel_rfl) (by kernel_rfl) (fun _ _ _ h => h) (Or.inl ⟨by rfl, ?_⟩) (by assumption) ?_; rotate_left 1; (focus (intro w hSw; (try dsimp only at hSw); go_simp; try with_reducible rfl)); try simp only [Act.put, List.setIfInBounds_toArray, List.set_cons_zero, List.set_cons_succ])
              | (refine take_drop (i := 12) (v := undef) rfl (by kernel_rfl) (by kernel_rfl) (by kernel_rfl) (fun _ _ _ h => h) (Or.inr ⟨by rfl, rfl⟩) (by assumption) ?_; try simp only [Act.put, List.setIfInBounds_toArray, List.set_cons_zero, List.set_cons_succ])
            refine wpAnyH_done (by kernel_rfl) ?_ _
            refine NoPanic.normal ?_
            go_wp2_with fail
            all_goals
              go_ret
              exact ⟨_, rfl, j, hj, HJ.out, (fun hp => by have h := HJ2.out hp; unfold bef; omega), by have h := HR15.out.base_le (Nat.le_trans (Nat.le_of_lt hzw) HB4.out.size); simpa using h, HW.out.trans ((HB4.out.trans (HD15.out.mono HB4.out.size)).mono HW.out.size)⟩
          · go_simp
            obtain ⟨u16, hu16⟩ : ∃ u, u = u11.alloc (.cells #[.int .u64 (x.1 : Nat), .int .u64 (x.2 : Nat)] 29) := ⟨_, rfl⟩
            rw [← hu16]
            have hbz : Below u11.heap.size u11 u16 := by rw [hu16]; exact (Below.refl _ _).alloc (Nat.le_refl _) _
            have HZ16 : Hid (u16.heap.size = u11.heap.size + 1) := Lib.hid (by rw [hu16]; simp)
            have HD16 : Hid (Below u1.heap.size u1 u16) := Lib.hid (HD11.out.trans (hbz.mono HD11.out.size))
            have HR16 := Lib.hid (HR11.out.later hbz)
            have HX16 : Hid (Lies u16 (.slice (some ⟨u11.heap.size, 0, none⟩) 1 1) [x]) := Lib.hid (by rw [hu16]; exact lies_new u11 29 x)
            clear hbz
            replace hu16 := Lib.hid hu16
            refine hK.out _ _ (KB4.out _ HD16.out) (fun hH16 => ?_)
            clear hK K hH11
            try simp only [Act.put, List.setIfInBounds_toArray, List.set_cons_zero, List.set_cons_succ]
            refine wpAnyH_ready (rs := [4]) (by kernel_rfl) (by simp) ?_
            refine cons_drop rfl (fun K hK => ?_) AllReadyH.nil
            refine step_append_items _ rfl _ _ rfl u1.heap.size _ _ [] (l.take j) rfl rfl HR16.out (HU2.out _ HD16.out) (by simp only [List.length_append, List.length_take, List.length_drop, List.length_singleton, List.length_nil]; omega) HD16.out.size ?_
            intro v17 u17 hrow17 hgr
            have HD17 : Hid (Below u1.heap.size u1 u17) := Lib.hid (HD16.out.grown hgr HD16.out.size (fun k hk => (HR16.out.lt k hk).1))
            have HR17 := Lib.hid hrow17
            have HX17 := Lib.hid (lies_keep HX16.out hgr (fun e => by have h := HZ11.out; have e2 : some u11.heap.size = some u1.heap.size := e; have e3 := Option.some.inj e2; omega))
            clear hrow17 hgr
            refine hK.out _ _ (KB4.out _ HD17.out) (fun hH17 => ?_)
            clear hK K hH16
            try simp only [Act.put, List.setIfInBounds_toArray, List.set_cons_zero, List.set_cons_succ]
            refine wpAnyH_ready (rs := [7]) (by kernel_rfl) (by simp) ?_
            refine cons_drop rfl (fun K hK => ?_) AllReadyH.nil
            refine step_append_items _ rfl _ _ rfl u1.heap.size _ _ ([] ++ (l.take j)) [x] rfl rfl HR17.out HX17.out.toO (by simp only [List.length_append, List.length_take, List.length_drop, List.length_singleton, List.length_nil]; omega) HD17.out.size ?_
            intro v18 u18 hrow18 hgr
            have HD18 : Hid (Below u1.heap.size u1 u18) := Lib.hid (HD17.out.grown hgr HD17.out.size (fun k hk => (HR17.out.lt k hk).1))
            have HR18 := Lib.hid hrow18
            clear hrow18 hgr
            refine hK.out _ _ (KB4.out _ HD18.out) (fun hH18 => ?_)
            clear hK K hH17
            try simp only [Act.put, List.setIfInBounds_toArray, List.set_cons_zero, List.set_cons_succ]
            refine wpAnyH_ready (rs := [11]) (by kernel_rfl) (by simp) ?_
            refine cons_drop rfl (fun K hK => ?_) AllReadyH.nil
            refine step_append_items _ rfl _ _ rfl u1.heap.size _ _ (([] ++ (l.take j)) ++ [x]) (l.drop j) rfl rfl HR18.out (HU3.out _ HD18.out) (by simp only [List.length_append, List.length_take, List.length_drop, List.length_singleton, List.length_nil]; omega) HD18.out.size ?_
            intro v19 u19 hrow19 hgr
            have HD19 : Hid (Below u1.heap.size u1 u19) := Lib.hid (HD18.out.grown hgr HD18.out.size (fun k hk => (HR18.out.lt k hk).1))
            have HR19 := Lib.hid hrow19
            clear hrow19 hgr
            refine hK.out _ _ (KB4.out _ HD19.out) (fun hH19 => ?_)
            clear hK K hH18
            try simp only [Act.put, List.setIfInBounds_toArray, List.set_cons_zero, List.set_cons_succ]
            first
              | (refine take_drop (i := 12) (v := ?_) rfl (by kernel_rfl) (by kernel_rfl) (by kernel_rfl) (fun _ _ _ h => h) (Or.inl ⟨by rfl, ?_⟩) (by assumption) ?_; rotate_left 1; (focus (intro w hSw; (try dsimp only at hSw); go_simp; try with_reducible rfl)); try simp only [Act.put, List.setIfInBounds_toArray, List.set_cons_zero, List.set_cons_succ])
              | (refine take_drop (i := 12) (v := undef) rfl (by kernel_rfl) (by kernel_rfl) (by kernel_rfl) (fun _ _ _ h => h) (Or.inr ⟨by rfl, rfl⟩) (by assumption) ?_; try simp only [Act.put, List.setIfInBounds_toArray, List.set_cons_zero, List.set_cons_succ])
            refine wpAnyH_done (by kernel_rfl) ?_ _
            refine NoPanic.normal ?_
            go_wp2_with fail
            all_goals
              go_ret
              exact ⟨_, rfl, j, hj, HJ.out, (fun hp => by have h := HJ2.out hp; unfold bef; omega), by have h := HR19.out.base_le (Nat.le_trans (Nat.le_of_lt hzw) HB4.out.size); simpa using h, HW.out.trans ((HB4.out.trans (HD19.out.mono HB4.out.size)).mono HW.out.size)⟩
        · go_simp
          obtain ⟨u20, hu20⟩ : ∃ u, u = (u1.alloc (.cells #[.int .u64 (x.1 : Nat), .int .u64 (x.2 : Nat)] 29)).drew := ⟨_, rfl⟩
          rw [← hu20]
          have hbz : Below u1.heap.size u1 u20 := by rw [hu20]; exact below_drew ((Below.refl _ _).alloc (Nat.le_refl _) _)
          have HZ20 : Hid (u20.heap.size = u1.heap.size + 1) := Lib.hid (by rw [hu20]; simp)
          have HD20 : Hid (Below u1.heap.size u1 u20) := Lib.hid hbz
          have HX20 : Hid (Lies u20 (.slice (some ⟨u1.heap.size, 0, none⟩) 1 1) [x]) := Lib.hid (by rw [hu20]; exact lies_new u1 29 x)
          clear hbz
          replace hu20 := Lib.hid hu20
          refine hK.out _ _ (KB4.out _ HD20.out) (fun hH20 => ?_)
          clear hK K hH0
          try simp only [Act.put, List.setIfInBounds_toArray, List.set_cons_zero, List.set_cons_succ]
          refine wpAnyH_ready (rs := [0]) (by kernel_rfl) (by simp) ?_
          refine cons_drop rfl (fun K hK => ?_) AllReadyH.nil
          go_simp
          obtain ⟨u21, hu21⟩ : ∃ u, u = u20.alloc (.cells #[] 29) := ⟨_, rfl⟩
          rw [← hu21]
          have hbz : Below u20.heap.size u20 u21 := by rw [hu21]; exact (Below.refl _ _).alloc (Nat.le_refl _) _
          have HZ21 : Hid (u21.heap.size = u20.heap.size + 1) := Lib.hid (by rw [hu21]; simp)
          have HD21 : Hid (Below u1.heap.size u1 u21) := Lib.hid (HD20.out.trans (hbz.mono HD20.out.size))
          have HX21 := Lib.hid (HX20.out.later hbz)
          have HR21 : Hid (IRow 29 u21 u1.heap.size (.slice (some ⟨u20.heap.size, 0, none⟩) 0 0) []) := Lib.hid (by rw [hu21]; exact row_empty u20 29 _ HD20.out.size)
          clear hbz
          replace hu21 := Lib.hid hu21
          refine hK.out _ _ (KB4.out _ HD21.out) (fun hH21 => ?_)
          clear hK K hH20
          try simp only [Act.put, List.setIfInBounds_toArray, List.set_cons_zero, List.set_cons_succ]
          refine wpAnyH_ready (rs := [4]) (by kernel_rfl) (by simp) ?_
          refine cons_drop rfl (fun K hK => ?_) AllReadyH.nil
          refine step_append_items _ rfl _ _ rfl u1.heap.size _ _ [] (l.take j) rfl rfl HR21.out (HU2.out _ HD21.out) (by simp only [List.length_append, List.length_take, List.length_drop, List.length_singleton, List.length_nil]; omega) HD21.out.size ?_
          intro v22 u22 hrow22 hgr
          have HD22 : Hid (Below u1.heap.size u1 u22) := Lib.hid (HD21.out.grown hgr HD21.out.size (fun k hk => (HR21.out.lt k hk).1))
          have HR22 := Lib.hid hrow22
          have HX22 := Lib.hid (lies_keep HX21.out hgr (fun e => by have h := HZ20.out; have e2 : some u1.heap.size = some u20.heap.size := e; have e3 := Option.some.inj e2; omega))
          clear hrow22 hgr
          refine hK.out _ _ (KB4.out _ HD22.out) (fun hH22 => ?_)
          clear hK K hH21
          try simp only [Act.put, List.setIfInBounds_toArray, List.set_cons_zero, List.set_cons_succ]
          refine wpAnyH_ready (rs := [7]) (by kernel_rfl) (by simp) ?_
          refine cons_drop rfl (fun K hK => ?_) AllReadyH.nil
          refine step_append_items _ rfl _ _ rfl u1.heap.size _ _ ([] ++ (l.take j)) [x] rfl rfl HR22.out HX22.out.toO (by simp only [List.length_append, List.length_take, List.length_drop, List.length_singleton, List.length_nil]; omega) HD22.out.size ?_
          intro v23 u23 hrow23 hgr
          have HD23 : Hid (Below u1.heap.size u1 u23) := Lib.hid (HD22.out.grown hgr HD22.out.size (fun k hk => (HR22.out.lt k hk).1))
          have HR23 := Lib.hid hrow23
          clear hrow23 hgr
          refine hK.out _ _ (KB4.out _ HD23.out) (fun hH23 => ?_)
          clear hK K hH22
          try simp only [Act.put, List.setIfInBounds_toArray, List.set_cons_zero, List.set_cons_succ]
          refine wpAnyH_ready (rs := [11]) (by kernel_rfl) (by simp) ?_
          refine cons_drop rfl (fun K hK => ?_) AllReadyH.nil
          refine step_append_items _ rfl _ _ rfl u1.heap.size _ _ (([] ++ (l.take j)) ++ [x]) (l.drop j) rfl rfl HR23.out (HU3.out _ HD23.out) (by simp only [List.length_append, List.length_take, List.length_drop, List.length_singleton, List.length_nil]; omega) HD23.out.size ?_
          intro v24 u24 hrow24 hgr
          have HD24 : Hid (Below u1.heap.size u1 u24) := Lib.hid (HD23.out.grown hgr HD23.out.size (fun k hk => (HR23.out.lt k hk).1))
          have HR24 := Lib.hid hrow24
          clear hrow24 hgr
          refine hK.out _ _ (KB4.out _ HD24.out) (fun hH24 => ?_)
          clear hK K hH23
          try simp only [Act.put, List.setIfInBounds_toArray, List.set_cons_zero, List.set_cons_succ]
          first
            | (refine take_drop (i := 12) (v := ?_) rfl (by kernel_rfl) (by kernel_rfl) (by kernel_rfl) (fun _ _ _ h => h) (Or.inl ⟨by rfl, ?_⟩) (by assumption) ?_; rotate_left 1; (focus (intro w hSw; (try dsimp only at hSw); go_simp; try with_reducible rfl)); try simp only [Act.put, List.setIfInBounds_toArray, List.set_cons_zero, List.set_cons_succ])
            | (refine take_drop (i := 12) (v := undef) rfl (by kernel_rfl) (by kernel_rfl) (by kernel_rfl) (fun _ _ _ h => h) (Or.inr ⟨by rfl, rfl⟩) (by assumption) ?_; try simp only [Act.put, List.setIfInBounds_toArray, List.set_cons_zero, List.set_cons_succ])
          refine wpAnyH_done (by kernel_rfl) ?_ _
          refine NoPanic.normal ?_
          go_wp2_with fail
          all_goals
            go_ret
            exact ⟨_, rfl, j, hj, HJ.out, (fun hp => by have h := HJ2.out hp; unfold bef; omega), by have h := HR24.out.base_le (Nat.le_trans (Nat.le_of_lt hzw) HB4.out.size); simpa using h, HW.out.trans ((HB4.out.trans (HD24.out.mono HB4.out.size)).mono HW.out.size)⟩
    · have hjn' : ¬ ((j : Int) < l.length) := by omega
      clear hbr
      go_upto_region 2 with fail
      have HD0 : Hid (Below wr.heap.size wr wr.drew) := Lib.hid (below_drew (Below.refl _ _))
      refine wp_region_noPanic ?_
      refine wp_region_held_drew (S := (fun w' : World => w'.cell? ⟨w.heap.size, 0, none⟩ = some (.int .u64 (x.1 : Nat)) ∧ w'.cell? ⟨w.heap.size, 1, none⟩ = some (.int .u64 (x.2 : Nat)))) (by kernel_rfl) ?_ (fun hH0 => ?_)
      · exact KB.out _ HD0.out
      first
        | (refine take_drop (i := 0) (v := ?_) rfl (by kernel_rfl) (by kernel_rfl) (by kernel_rfl) (fun _ _ _ h => h) (Or.inl ⟨by rfl, ?_⟩) (by assumption) ?_; rotate_left 1; (focus (intro w hSw; (try dsimp only at hSw); go_simp; try with_reducible rfl)); try simp only [Act.put, List.setIfInBounds_toArray, List.set_cons_zero, List.set_cons_succ])
        | (refine take_drop (i := 0) (v := undef) rfl (by kernel_rfl) (by kernel_rfl) (by kernel_rfl) (fun _ _ _ h => h) (Or.inr ⟨by rfl, rfl⟩) (by assumption) ?_; try simp only [Act.put, List.setIfInBounds_toArray, List.set_cons_zero, List.set_cons_succ])
      first
        | (refine take_drop (i := 1) (v := ?_) rfl (by kernel_rfl) (by kernel_rfl) (by kernel_rfl) (fun _ _ _ h => h) (Or.inl ⟨by rfl, ?_⟩) (by assumption) ?_; rotate_left 1; (focus (intro w hSw; (try dsimp only at hSw); go_simp; try with_reducible rfl)); try simp only [Act.put, List.setIfInBounds_toArray, List.set_cons_zero, List.set_cons_succ])
        | (refine take_drop (i := 1) (v := undef) rfl (by kernel_rfl) (by kernel_rfl) (by kernel_rfl) (fun _ _ _ h => h) (Or.inr ⟨by rfl, rfl⟩) (by assumption) ?_; try simp only [Act.put, List.setIfInBounds_toArray, List.set_cons_zero, List.set_cons_succ])
      first
        | (refine take_drop (i := 2) (v := ?_) rfl (by kernel_rfl) (by kernel_rfl) (by kernel_rfl) (fun _ _ _ h => h) (Or.inl ⟨by rfl, ?_⟩) (by assumption) ?_; rotate_left 1; (focus (intro w hSw; (try dsimp only at hSw); go_simp; try with_reducible rfl)); try simp only [Act.put, List.setIfInBounds_toArray, List.set_cons_zero, List.set_cons_succ])
        | (refine take_drop (i := 2) (v := undef) rfl (by kernel_rfl) (by kernel_rfl) (by kernel_rfl) (fun _ _ _ h => h) (Or.inr ⟨by rfl, rfl⟩) (by assumption) ?_; try simp only [Act.put, List.setIfInBounds_toArray, List.set_cons_zero, List.set_cons_succ])
      first
        | (refine take_drop (i := 3) (v := ?_) rfl (by kernel_rfl) (by kernel_rfl) (by kernel_rfl) (fun _ _ _ h => h) (Or.inl ⟨by rfl, ?_⟩) (by assumption) ?_; rotate_left 1; (focus (intro w hSw; (try dsimp only at hSw); go_simp; try with_reducible rfl)); try simp only [Act.put, List.setIfInBounds_toArray, List.set_cons_zero, List.set_cons_succ])
        | (refine take_drop (i := 3) (v := undef) rfl (by kernel_rfl) (by kernel_rfl) (by kernel_rfl) (fun _ _ _ h => h) (Or.inr ⟨by rfl, rfl⟩) (by assumption) ?_; try simp only [Act.put, List.setIfInBounds_toArray, List.set_cons_zero, List.set_cons_succ])
      first
        | (refine take_drop (i := 4) (v := ?_) rfl (by kernel_rfl) (by kernel_rfl) (by kernel_rfl) (fun _ _ _ h => h) (Or.inl ⟨by rfl, ?_⟩) (by assumption) ?_; rotate_left 1; (focus (intro w hSw; (try dsimp only at hSw); go_simp; try with_reducible rfl)); try simp only [Act.put, List.setIfInBounds_toArray, List.set_cons_zero, List.set_cons_succ])
        | (refine take_drop (i := 4) (v := undef) rfl (by kernel_rfl) (by kernel_rfl) (by kernel_rfl) (fun _ _ _ h => h) (Or.inr ⟨by rfl, rfl⟩) (by assumption) ?_; try simp only [Act.put, List.setIfInBounds_toArray, List.set_cons_zero, List.set_cons_succ])
      first
        | (refine take_drop (i := 5) (v := ?_) rfl (by kernel_rfl) (by kernel_rfl) (by kernel_rfl) (fun _ _ _ h => h) (Or.inl ⟨by rfl, ?_⟩) (by assumption) ?_; rotate_left 1; (focus (intro w hSw; (try dsimp only at hSw); go_simp; try with_reducible rfl)); try simp only [Act.put, List.setIfInBounds_toArray, List.set_cons_zero, List.set_cons_succ])
        | (refine take_drop (i := 5) (v := undef) rfl (by kernel_rfl) (by kernel_rfl) (by kernel_rfl) (fun _ _ _ h => h) (Or.inr ⟨by rfl, rfl⟩) (by assumption) ?_; try simp only [Act.put, List.setIfInBounds_toArray, List.set_cons_zero, List.set_cons_succ])
      first
        | (refine take_drop (i := 6) (v := ?_) rfl (by kernel_rfl) (by kernel_rfl) (by kernel_rfl) (fun _ _ _ h => h) (Or.inl ⟨by rfl, ?_⟩) (by assumption) ?_; rotate_left 1; (focus (intro w hSw; (try dsimp only at hSw); go_simp; try with_reducible rfl)); try simp only [Act.put, List.setIfInBounds_toArray, List.set_cons_zero, List.set_cons_succ])
        | (refine take_drop (i := 6) (v := undef) rfl (by kernel_rfl) (by kernel_rfl) (by kernel_rfl) (fun _ _ _ h => h) (Or.inr ⟨by rfl, rfl⟩) (by assumption) ?_; try simp only [Act.put, List.setIfInBounds_toArray, List.set_cons_zero, List.set_cons_succ])
      first
        | (refine take_drop (i := 7) (v := ?_) rfl (by kernel_rfl) (by kernel_rfl) (by kernel_rfl) (fun _ _ _ h => h) (Or.inl ⟨by rfl, ?_⟩) (by assumption) ?_; rotate_left 1; (focus (intro w hSw; (try dsimp only at hSw); go_simp; try with_reducible rfl)); try simp only [Act.put, List.setIfInBounds_toArray, List.set_cons_zero, List.set_cons_succ])
        | (refine take_drop (i := 7) (v := undef) rfl (by kernel_rfl) (by kernel_rfl) (by kernel_rfl) (fun _ _ _ h => h) (Or.inr ⟨by rfl, rfl⟩) (by assumption) ?_; try simp only [Act.put, List.setIfInBounds_toArray, List.set_cons_zero, List.set_cons_succ])
      first
        | (refine take_drop (i := 8) (v := ?_) rfl (by kernel_rfl) (by kernel_rfl) (by kernel_rfl) (fun _ _ _ h => h) (Or.inl ⟨by rfl, ?_⟩) (by assumption) ?_; rotate_left 1; (focus (intro w hSw; (try dsimp only at hSw); go_simp; try with_reducible rfl)); try simp only [Act.put, List.setIfInBounds_toArray, List.set_cons_zero, List.set_cons_succ])
        | (refine take_drop (i := 8) (v := undef) rfl (by kernel_rfl) (by kernel_rfl) (by kernel_rfl) (fun _ _ _ h => h) (Or.inr ⟨by rfl, rfl⟩) (by assumption) ?_; try simp only [Act.put, List.setIfInBounds_toArray, List.set_cons_zero, List.set_cons_succ])
      first
        | (refine take_drop (i := 9) (v := ?_) rfl (by kernel_rfl) (by kernel_rfl) (by kernel_rfl) (fun _ _ _ h => h) (Or.inl ⟨by rfl, ?_⟩) (by assumption) ?_; rotate_left 1; (focus (intro w hSw; (try dsimp only at hSw); go_simp; try with_reducible rfl)); try simp only [Act.put, List.setIfInBounds_toArray, List.set_cons_zero, List.set_cons_succ])
        | (refine take_drop (i := 9) (v := undef) rfl (by kernel_rfl) (by kernel_rfl) (by kernel_rfl) (fun _ _ _ h => h) (Or.inr ⟨by rfl, rfl⟩) (by assumption) ?_; try simp only [Act.put, List.setIfInBounds_toArray, List.set_cons_zero, List.set_cons_succ])
      refine wpAnyH_ready (rs := [10]) (by kernel_rfl) (by simp) ?_
      refine cons_drop rfl (fun K hK => ?_) AllReadyH.nil
      go_simp
      refine hK.out _ _ (KB.out _ HD0.out) (fun hH1 => ?_)
      clear hK K hH0
      try simp only [Act.put, List.setIfInBounds_toArray, List.set_cons_zero, List.set_cons_succ]
      first
        | (refine take_drop (i := 11) (v := ?_) rfl (by kernel_rfl) (by kernel_rfl) (by kernel_rfl) (fun _ _ _ h => h) (Or.inl ⟨by rfl, ?_⟩) (by assumption) ?_; rotate_left 1; (focus (intro w hSw; (try dsimp only at hSw); go_simp; try with_reducible rfl)); try simp only [Act.put, List.setIfInBounds_toArray, List.set_cons_zero, List.set_cons_succ])
        | (refine take_drop (i := 11) (v := undef) rfl (by kernel_rfl) (by kernel_rfl) (by kernel_rfl) (fun _ _ _ h => h) (Or.inr ⟨by rfl, rfl⟩) (by assumption) ?_; try simp only [Act.put, List.setIfInBounds_toArray, List.set_cons_zero, List.set_cons_succ])
      first
        | (refine take_drop (i := 12) (v := ?_) rfl (by kernel_rfl) (by kernel_rfl) (by kernel_rfl) (fun _ _ _ h => h) (Or.inl ⟨by rfl, ?_⟩) (by assumption) ?_; rotate_left 1; (focus (intro w hSw; (try dsimp only at hSw); go_simp; try with_reducible rfl)); try simp only [Act.put, List.setIfInBounds_toArray, List.set_cons_zero, List.set_cons_succ])
        | (refine take_drop (i := 12) (v := undef) rfl (by kernel_rfl) (by kernel_rfl) (by kernel_rfl) (fun _ _ _ h => h) (Or.inr ⟨by rfl, rfl⟩) (by assumption) ?_; try simp only [Act.put, List.setIfInBounds_toArray, List.set_cons_zero, List.set_cons_succ])
      refine wpAnyH_done (by kernel_rfl) ?_ _
      refine NoPanic.normal ?_
      have HJL : Hid (j = l.length) := Lib.hid (by omega)
      obtain ⟨wz, hwz⟩ : ∃ wz, wz = wr.drew := ⟨_, rfl⟩
      have HB4 : Hid (Below W0.heap.size W0 wz) := Lib.hid (by rw [hwz]; exact below_drew HBR.out)
      go_upto_region 4 with fail
      rw [← hwz]
      replace hwz := Lib.hid hwz
      have hjc : j ≤ cap := by omega
      have KB4 : Hid (∀ W, Below wz.heap.size wz W → W.cell? ⟨w.heap.size, 0, none⟩ = some (.int .u64 (x.1 : Nat)) ∧ W.cell? ⟨w.heap.size, 1, none⟩ = some (.int .u64 (x.2 : Nat))) := Lib.hid fun W hW => HXX.out W (HB4.out.trans (hW.mono HB4.out.size))
      have HU2 : Hid (∀ W, Below wz.heap.size wz W → LiesO W (.slice (some ⟨g, 0, none⟩) j cap) (l.take j)) := Lib.hid fun W hW => ⟨_, cap, by rw [List.length_take, Nat.min_eq_left hj], by rw [List.length_take]; omega, fun i hi => ⟨g, 0, rfl, by have h := (HCE.out W (HB4.out.trans (hW.mono HB4.out.size)) i (by rw [List.length_take] at hi; omega)).1; simpa [List.getElem_take] using h, by have h := (HCE.out W (HB4.out.trans (hW.mono HB4.out.size)) i (by rw [List.length_take] at hi; omega)).2; simpa [List.getElem_take] using h⟩⟩
      have HU3 : Hid (∀ W, Below wz.heap.size wz W → LiesO W (.slice (if cap = j then some ⟨g, 0, none⟩ else some ⟨g, j * 2, none⟩) (l.length - j) (cap - j)) (l.drop j)) := Lib.hid fun W hW => ⟨_, cap - j, by rw [List.length_drop], by rw [List.length_drop]; omega, fun i hi => by
        rw [List.length_drop] at hi
        obtain ⟨h1, h2⟩ := HCE.out W (HB4.out.trans (hW.mono HB4.out.size)) (j + i) (by omega)
        refine ⟨g, j * 2, by rw [if_neg (by omega)], ?_, ?_⟩
        · rw [show j * 2 + i * 2 = (j + i) * 2 by omega, List.getElem_drop]; exact h1
        · rw [show j * 2 + (i * 2 + 1) = (j + i) * 2 + 1 by omega, List.getElem_drop]; exact h2⟩
      have HD0 : Hid (Below wz.heap.size wz wz.drew) := Lib.hid (below_drew (Below.refl _ _))
      refine wp_region_noPanic ?_
      refine wp_region_held_drew (S := (fun w' : World => w'.cell? ⟨w.heap.size, 0, none⟩ = some (.int .u64 (x.1 : Nat)) ∧ w'.cell? ⟨w.heap.size, 1, none⟩ = some (.int .u64 (x.2 : Nat)))) (by kernel_rfl) ?_ (fun hH0 => ?_)
      · exact KB4.out _ HD0.out
      first
        | (refine take_drop (i := 1) (v := ?_) rfl (by kernel_rfl) (by kernel_rfl) (by kernel_rfl) (fun _ _ _ h => h) (Or.inl ⟨by rfl, ?_⟩) (by assumption) ?_; rotate_left 1; (focus (intro w hSw; (try dsimp only at hSw); go_simp; try with_reducible rfl)); try simp only [Act.put, List.setIfInBounds_toArray, List.set_cons_zero, List.set_cons_succ])
        | (refine take_drop (i := 1) (v := undef) rfl (by kernel_rfl) (by kernel_rfl) (by kernel_rfl) (fun _ _ _ h => h) (Or.inr ⟨by rfl, rfl⟩) (by assumption) ?_; try simp only [Act.put, List.setIfInBounds_toArray, List.set_cons_zero, List.set_cons_succ])
      first
        | (refine take_drop (i := 2) (v := ?_) rfl (by kernel_rfl) (by kernel_rfl) (by kernel_rfl) (fun _ _ _ h => h) (Or.inl ⟨by rfl, ?_⟩) (by assumption) ?_; rotate_left 1; (focus (intro w hSw; (try dsimp only at hSw); go_simp; try with_reducible rfl)); try simp only [Act.put, List.setIfInBounds_toArray, List.set_cons_zero, List.set_cons_succ])
        | (refine take_drop (i := 2) (v := undef) rfl (by kernel_rfl) (by kernel_rfl) (by kernel_rfl) (fun _ _ _ h => h) (Or.inr ⟨by rfl, rfl⟩) (by assumption) ?_; try simp only [Act.put, List.setIfInBounds_toArray, List.set_cons_zero, List.set_cons_succ])
      first
        | (refine take_drop (i := 3) (v := ?_) rfl (by kernel_rfl) (by kernel_rfl) (by kernel_rfl) (fun _ _ _ h => h) (Or.inl ⟨by rfl, ?_⟩) (by assumption) ?_; rotate_left 1; (focus (intro w hSw; (try dsimp only at hSw); go_simp; try with_reducible rfl)); try simp only [Act.put, List.setIfInBounds_toArray, List.set_cons_zero, List.set_cons_succ])
        | (refine take_drop (i := 3) (v := undef) rfl (by kernel_rfl) (by kernel_rfl) (by kernel_rfl) (fun _ _ _ h => h) (Or.inr ⟨by rfl, rfl⟩) (by assumption) ?_; try simp only [Act.put, List.setIfInBounds_toArray, List.set_cons_zero, List.set_cons_succ])
      first
        | (refine take_drop (i := 5) (v := ?_) rfl (by kernel_rfl) (by kernel_rfl) (by kernel_rfl) (fun _ _ _ h => h) (Or.inl ⟨by rfl, ?_⟩) (by assumption) ?_; rotate_left 1; (focus (intro w hSw; (try dsimp only at hSw); go_simp; try with_reducible rfl)); try simp only [Act.put, List.setIfInBounds_toArray, List.set_cons_zero, List.set_cons_succ])
        | (refine take_drop (i := 5) (v := undef) rfl (by kernel_rfl) (by kernel_rfl) (by kernel_rfl) (fun _ _ _ h => h) (Or.inr ⟨by rfl, rfl⟩) (by assumption) ?_; try simp only [Act.put, List.setIfInBounds_toArray, List.set_cons_zero, List.set_cons_succ])
      first
        | (refine take_drop (i := 8) (v := ?_) rfl (by kernel_rfl) (by kernel_rfl) (by kernel_rfl) (fun _ _ _ h => h) (Or.inl ⟨by rfl, ?_⟩) (by assumption) ?_; rotate_left 1; (focus (intro w hSw; (try dsimp only at hSw); go_simp; try with_reducible rfl)); try simp only [Act.put, List.setIfInBounds_toArray, List.set_cons_zero, List.set_cons_succ])
        | (refine take_drop (i := 8) (v := undef) rfl (by kernel_rfl) (by kernel_rfl) (by kernel_rfl) (fun _ _ _ h => h) (Or.inr ⟨by rfl, rfl⟩) (by assumption) ?_; try simp only [Act.put, List.setIfInBounds_toArray, List.set_cons_zero, List.set_cons_succ])
      first
        | (refine take_drop (i := 9) (v := ?_) rfl (by kernel_rfl) (by kernel_rfl) (by kernel_rfl) (fun _ _ _ h => h) (Or.inl ⟨by rfl, ?_⟩) (by assumption) ?_; rotate_left 1; (focus (intro w hSw; (try dsimp only at hSw); go_simp; try with_reducible rfl)); try simp only [Act.put, List.setIfInBounds_toArray, List.set_cons_zero, List.set_cons_succ])
        | (refine take_drop (i := 9) (v := undef) rfl (by kernel_rfl) (by kernel_rfl) (by kernel_rfl) (fun _ _ _ h => h) (Or.inr ⟨by rfl, rfl⟩) (by assumption) ?_; try simp only [Act.put, List.setIfInBounds_toArray, List.set_cons_zero, List.set_cons_succ])
      first
        | (refine take_drop (i := 10) (v := ?_) rfl (by kernel_rfl) (by kernel_rfl) (by kernel_rfl) (fun _ _ _ h => h) (Or.inl ⟨by rfl, ?_⟩) (by assumption) ?_; rotate_left 1; (focus (intro w hSw; (try dsimp only at hSw); go_simp; try with_reducible rfl)); try simp only [Act.put, List.setIfInBounds_toArray, List.set_cons_zero, List.set_cons_succ])
        | (refine take_drop (i := 10) (v := undef) rfl (by kernel_rfl) (by kernel_rfl) (by kernel_rfl) (fun _ _ _ h => h) (Or.inr ⟨by rfl, rfl⟩) (by assumption) ?_; try simp only [Act.put, List.setIfInBounds_toArray, List.set_cons_zero, List.set_cons_succ])
      refine wpAnyH_ready (rs := [0, 6]) (by kernel_rfl) (by simp) ?_
      refine cons_drop rfl (fun K hK => ?_) (cons_drop rfl (fun K hK => ?_) AllReadyH.nil)
      · go_simp
        obtain ⟨u11, hu11⟩ : ∃ u, u = (wz.alloc (.cells #[] 29)).drew := ⟨_, rfl⟩
        rw [← hu11]
        have hbz : Below wz.heap.size wz u11 := by rw [hu11]; exact below_drew ((Below.refl _ _).alloc (Nat.le_refl _) _)
        have HZ11 : Hid (u11.heap.size = wz.heap.size + 1) := Lib.hid (by rw [hu11]; simp)
        have HD11 : Hid (Below wz.heap.size wz u11) := Lib.hid hbz
        have HR11 : Hid (IRow 29 u11 wz.heap.size (.slice (some ⟨wz.heap.size, 0, none⟩) 0 0) []) := Lib.hid (by rw [hu11]; exact row_empty wz 29 _ (Nat.le_refl _))
        clear hbz
        replace hu11 := Lib.hid hu11
        refine hK.out _ _ (KB4.out _ HD11.out) (fun hH11 => ?_)
        clear hK K hH0
        try simp only [Act.put, List.setIfInBounds_toArray, List.set_cons_zero, List.set_cons_succ]
        refine wpAnyH_ready (rs := [4, 6]) (by kernel_rfl) (by simp) ?_
        refine cons_drop rfl (fun K hK => ?_) (cons_drop rfl (fun K hK => ?_) AllReadyH.nil)
        · refine step_append_items _ rfl _ _ rfl wz.heap.size _ _ [] (l.take j) rfl rfl HR11.out (HU2.out _ HD11.out) (by simp only [List.length_append, List.length_take, List.length_drop, List.length_singleton, List.length_nil]; omega) HD11.out.size ?_
          intro v12 u12 hrow12 hgr
          have HD12 : Hid (Below wz.heap.size wz u12) := Lib.hid (HD11.out.grown hgr HD11.out.size (fun k hk => (HR11.out.lt k hk).1))
          have HR12 := Lib.hid hrow12
          clear hrow12 hgr
          refine hK.out _ _ (KB4.out _ HD12.out) (fun hH12 => ?_)
          clear hK K hH11
          try simp only [Act.put, List.setIfInBounds_toArray, List.set_cons_zero, List.set_cons_succ]
          refine wpAnyH_ready (rs := [6]) (by kernel_rfl) (by simp) ?_
          refine cons_drop rfl (fun K hK => ?_) AllReadyH.nil
          go_simp
          obtain ⟨u13, hu13⟩ : ∃ u, u = u12.alloc (.cells #[.int .u64 (x.1 : Nat), .int .u64 (x.2 : Nat)] 29) := ⟨_, rfl⟩
          rw [← hu13]
          have hbz : Below u12.heap.size u12 u13 := by rw [hu13]; exact (Below.refl _ _).alloc (Nat.le_refl _) _
          have HZ13 : Hid (u13.heap.size = u12.heap.size + 1) := Lib.hid (by rw [hu13]; simp)
          have HD13 : Hid (Below wz.heap.size wz u13) := Lib.hid (HD12.out.trans (hbz.mono HD12.out.size))
          have HR13 := Lib.hid (HR12.out.later hbz)
          have HX13 : Hid (Lies u13 (.slice (some ⟨u12.heap.size, 0, none⟩) 1 1) [x]) := Lib.hid (by rw [hu13]; exact lies_new u12 29 x)
          clear hbz
          replace hu13 := Lib.hid hu13
          refine hK.out _ _ (KB4.out _ HD13.out) (fun hH13 => ?_)
          clear hK K hH12
          try simp only [Act.put, List.setIfInBounds_toArray, List.set_cons_zero, List.set_cons_succ]
          refine wpAnyH_ready (rs := [7]) (by kernel_rfl) (by simp) ?_
          refine cons_drop rfl (fun K hK => ?_) AllReadyH.nil
          refine step_append_items _ rfl _ _ rfl wz.heap.size _ _ ([] ++ (l.take j)) [x] rfl rfl HR13.out HX13.out.toO (by simp only [List.length_append, List.length_take, List.length_drop, List.length_singleton, List.length_nil]; omega) HD13.out.size ?_
          intro v14 u14 hrow14 hgr
          have HD14 : Hid (Below wz.heap.size wz u14) := Lib.hid (HD13.out.grown hgr HD13.out.size (fun k hk => (HR13.out.lt k hk).1))
          have HR14 := Lib.hid hrow14
          clear hrow14 hgr
          refine hK.out _ _ (KB4.out _ HD14.out) (fun hH14 => ?_)
          clear hK K hH13
          try simp only [Act.put, List.setIfInBounds_toArray, List.set_cons_zero, List.set_cons_succ]
          refine wpAnyH_ready (rs := [11]) (by kernel_rfl) (by simp) ?_
          refine cons_drop rfl (fun K hK => ?_) AllReadyH.nil
          refine step_append_items _ rfl _ _ rfl wz.heap.size _ _ (([] ++ (l.take j)) ++ [x]) (l.drop j) rfl rfl HR14.out (HU3.out _ HD14.out) (by simp only [List.length_append, List.length_take, List.length_drop, List.length_singleton, List.length_nil]; omega) HD14.out.size ?_
          intro v15 u15 hrow15 hgr
          have HD15 : Hid (Below wz.heap.size wz u15) := Lib.hid (HD14.out.grown hgr HD14.out.size (fun k hk => (HR14.out.lt k hk).1))
          have HR15 := Lib.hid hrow15
          clear hrow15 hgr
          refine hK.out _ _ (KB4.out _ HD15.out) (fun hH15 => ?_)
          clear hK K hH14
          try simp only [Act.put, List.setIfInBounds_toArray, List.set_cons_zero, List.set_cons_succ]
          first
            | (refine take_drop (i := 12) (v := ?_) rfl (by kernel_rfl) (by kernel_rfl) (by kernel_rfl) (fun _ _ _ h => h) (Or.inl ⟨by rfl, ?_⟩) (by assumption) ?_; rotate_left 1; (focus (intro w hSw; (try dsimp only at hSw); go_simp; try with_reducible rfl)); try simp only [Act.put, List.setIfInBounds_toArray, List.set_cons_zero, List.set_cons_succ])
            | (refine take_drop (i := 12) (v := undef) rfl (by kernel_rfl) (by kernel_rfl) (by kernel_rfl) (fun _ _ _ h => h) (Or.inr ⟨by rfl, rfl⟩) (by assumption) ?_; try simp only [Act.put, List.setIfInBounds_toArray, List.set_cons_zero, List.set_cons_succ])
          refine wpAnyH_done (by kernel_rfl) ?_ _
          refine NoPanic.normal ?_
          go_wp2_with fail
          all_goals
            go_ret
            exact ⟨_, rfl, j, hj, HJ.out, fun hp => absurd hp (by have h := HJL.out; omega), by have h := HR15.out.base_le (Nat.le_trans (Nat.le_of_lt hzw) HB4.out.size); simpa using h, HW.out.trans ((HB4.out.trans (HD15.out.mono HB4.out.size)).mono HW.out.size)⟩
        · go_simp
          obtain ⟨u16, hu16⟩ : ∃ u, u = u11.alloc (.cells #[.int .u64 (x.1 : Nat), .int .u64 (x.2 : Nat)] 29) := ⟨_, rfl⟩
          rw [← hu16]
          have hbz : Below u11.heap.size u11 u16 := by rw [hu16]; exact (Below.refl _ _).alloc (Nat.le_refl _) _
          have HZ16 : Hid (u16.heap.size = u11.heap.size + 1) := Lib.hid (by rw [hu16]; simp)
          have HD16 : Hid (Below wz.heap.size wz u16) := Lib.hid (HD11.out.trans (hbz.mono HD11.out.size))
          have HR16 := Lib.hid (HR11.out.later hbz)
          have HX16 : Hid (Lies u16 (.slice (some ⟨u11.heap.size, 0, none⟩) 1 1) [x]) := Lib.hid (by rw [hu16]; exact lies_new u11 29 x)
          clear hbz
          replace hu16 := Lib.hid hu16
          refine hK.out _ _ (KB4.out _ HD16.out) (fun hH16 => ?_)
          clear hK K hH11
          try simp only [Act.put, List.setIfInBounds_toArray, List.set_cons_zero, List.set_cons_succ]
          refine wpAnyH_ready (rs := [4]) (by kernel_rfl) (by simp) ?_
          refine cons_drop rfl (fun K hK => ?_) AllReadyH.nil
          refine step_append_items _ rfl _ _ rfl wz.heap.size _ _ [] (l.take j) rfl rfl HR16.out (HU2.out _ HD16.out) (by simp only [List.length_append, List.length_take, List.length_drop, List.length_singleton, List.length_nil]; omega) HD16.out.size ?_
          intro v17 u17 hrow17 hgr
          have HD17 : Hid (Below wz.heap.size wz u17) := Lib.hid (HD16.out.grown hgr HD16.out.size (fun k hk => (HR16.out.lt k hk).1))
          have HR17 := Lib.hid hrow17
          have HX17 := Lib.hid (lies_keep HX16.out hgr (fun e => by have h := HZ11.out; have e2 : some u11.heap.size = some wz.heap.size := e; have e3 := Option.some.inj e2; omega))
          clear hrow17 hgr
          refine hK.out _ _ (KB4.out _ HD17.out) (fun hH17 => ?_)
          clear hK K hH16
          try simp only [Act.put, List.setIfInBounds_toArray, List.set_cons_zero, List.set_cons_succ]
          refine wpAnyH_ready (rs := [7]) (by kernel_rfl) (by simp) ?_
          refine cons_drop rfl (fun K hK => ?_) AllReadyH.nil
          refine step_append_items _ rfl _ _ rfl wz.heap.size _ _ ([] ++ (l.take j)) [x] rfl rfl HR17.out HX17.out.toO (by simp only [List.length_append, List.length_take, List.length_drop, List.length_singleton, List.length_nil]; omega) HD17.out.size ?_
          intro v18 u18 hrow18 hgr
          have HD18 : Hid (Below wz.heap.size wz u18) := Lib.hid (HD17.out.grown hgr HD17.out.size (fun k hk => (HR17.out.lt k hk).1))
          have HR18 := Lib.hid hrow18
          clear hrow18 hgr
          refine hK.out _ _ (KB4.out _ HD18.out) (fun hH18 => ?_)
          clear hK K hH17
          try simp only [Act.put, List.setIfInBounds_toArray, List.set_cons_zero, List.set_cons_succ]
          refine wpAnyH_ready (rs := [11]) (by kernel_rfl) (by simp) ?_
          refine cons_drop rfl (fun K hK => ?_) AllReadyH.nil
          refine step_append_items _ rfl _ _ rfl wz.heap.size _ _ (([] ++ (l.take j)) ++ [x]) (l.drop j) rfl rfl HR18.out (HU3.out _ HD18.out) (by simp only [List.length_append, List.length_take, List.length_drop, List.length_singleton, List.length_nil]; omega) HD18.out.size ?_
          intro v19 u19 hrow19 hgr
          have HD19 : Hid (Below wz.heap.size wz u19) := Lib.hid (HD18.out.grown hgr HD18.out.size (fun k hk => (HR18.out.lt k hk).1))
          have HR19 := Lib.hid hrow19
          clear hrow19 hgr
          refine hK.out _ _ (KB4.out _ HD19.out) (fun hH19 => ?_)
          clear hK K hH18
          try simp only [Act.put, List.setIfInBounds_toArray, List.set_cons_zero, List.set_cons_succ]
          first
            | (refine take_drop (i := 12) (v := ?_) rfl (by kernel_rfl) (by kernel_rfl) (by kernel_rfl) (fun _ _ _ h => h) (Or.inl ⟨by rfl, ?_⟩) (by assumption) ?_; rotate_left 1; (focus (intro w hSw; (try dsimp only at hSw); go_simp; try with_reducible rfl)); try simp only [Act.put, List.setIfInBounds_toArray, List.set_cons_zero, List.set_cons_succ])
            | (refine take_drop (i := 12) (v := undef) rfl (by kernel_rfl) (by kernel_rfl) (by kernel_rfl) (fun _ _ _ h => h) (Or.inr ⟨by rfl, rfl⟩) (by assumption) ?_; try simp only [Act.put, List.setIfInBounds_toArray, List.set_cons_zero, List.set_cons_succ])
          refine wpAnyH_done (by kernel_rfl) ?_ _
          refine NoPanic.normal ?_
          go_wp2_with fail
          all_goals
            go_ret
            exact ⟨_, rfl, j, hj, HJ.out, fun hp => absurd hp (by have h := HJL.out; omega), by have h := HR19.out.base_le (Nat.le_trans (Nat.le_of_lt hzw) HB4.out.size); simpa using h, HW.out.trans ((HB4.out.trans (HD19.out.mono HB4.out.size)).mono HW.out.size)⟩
      · go_simp
        obtain ⟨u20, hu20⟩ : ∃ u, u = (wz.alloc (.cells #[.int .u64 (x.1 : Nat), .int .u64 (x.2 : Nat)] 29)).drew := ⟨_, rfl⟩
        rw [← hu20]
        have hbz : Below wz.heap.size wz u20 := by rw [hu20]; exact below_drew ((Below.refl _ _).alloc (Nat.le_refl _) _)
        have HZ20 : Hid (u20.heap.size = wz.heap.size + 1) := Lib.hid (by rw [hu20]; simp)
        have HD20 : Hid (Below wz.heap.size wz u20) := Lib.hid hbz
        have HX20 : Hid (Lies u20 (.slice (some ⟨wz.heap.size, 0, none⟩) 1 1) [x]) := Lib.hid (by rw [hu20]; exact lies_new wz 29 x)
        clear hbz
        replace hu20 := Lib.hid hu20
        refine hK.out _ _ (KB4.out _ HD20.out) (fun hH20 => ?_)
        clear hK K hH0
        try simp only [Act.put, List.setIfInBounds_toArray, List.set_cons_zero, List.set_cons_succ]
        refine wpAnyH_ready (rs := [0]) (by kernel_rfl) (by simp) ?_
        refine cons_drop rfl (fun K hK => ?_) AllReadyH.nil
        go_simp
        obtain ⟨u21, hu21⟩ : ∃ u, u = u20.alloc (.cells #[] 29) := ⟨_, rfl⟩
        rw [← hu21]
        have hbz : Below u20.heap.size u20 u21 := by rw [hu21]; exact (Below.refl _ _).alloc (Nat.le_refl _) _
        have HZ21 : Hid (u21.heap.size = u20.heap.size + 1) := Lib.hid (by rw [hu21]; simp)
        have HD21 : Hid (Below wz.heap.size wz u21) := Lib.hid (HD20.out.trans (hbz.mono HD20.out.size))
        have HX21 := Lib.hid (HX20.out.later hbz)
        have HR21 : Hid (IRow 29 u21 wz.heap.size (.slice (some ⟨u20.heap.size, 0, none⟩) 0 0) []) := Lib.hid (by rw [hu21]; exact row_empty u20 29 _ HD20.out.size)
        clear hbz
        replace hu21 := Lib.hid hu21
        refine hK.out _ _ (KB4.out _ HD21.out) (fun hH21 => ?_)
        clear hK K hH20
        try simp only [Act.put, List.setIfInBounds_toArray, List.set_cons_zero, List.set_cons_succ]
        refine wpAnyH_ready (rs := [4]) (by kernel_rfl) (by simp) ?_
        refine cons_drop rfl (fun K hK => ?_) AllReadyH.nil
        refine step_append_items _ rfl _ _ rfl wz.heap.size _ _ [] (l.take j) rfl rfl HR21.out (HU2.out _ HD21.out) (by simp only [List.length_append, List.length_take, List.length_drop, List.length_singleton, List.length_nil]; omega) HD21.out.size ?_
        intro v22 u22 hrow22 hgr
        have HD22 : Hid (Below wz.heap.size wz u22) := Lib.hid (HD21.out.grown hgr HD21.out.size (fun k hk => (HR21.out.lt k hk).1))
        have HR22 := Lib.hid hrow22
        have HX22 := Lib.hid (lies_keep HX21.out hgr (fun e => by have h := HZ20.out; have e2 : some wz.heap.size = some u20.heap.size := e; have e3 := Option.some.inj e2; omega))
        clear hrow22 hgr
        refine hK.out _ _ (KB4.out _ HD22.out) (fun hH22 => ?_)
        clear hK K hH21
        try simp only [Act.put, List.setIfInBounds_toArray, List.set_cons_zero, List.set_cons_succ]
        refine wpAnyH_ready (rs := [7]) (by kernel_rfl) (by simp) ?_
        refine cons_drop rfl (fun K hK => ?_) AllReadyH.nil
        refine step_append_items _ rfl _ _ rfl wz.heap.size _ _ ([] ++ (l.take j)) [x] rfl rfl HR22.out HX22.out.toO (by simp only [List.length_append, List.length_take, List.length_drop, List.length_singleton, List.length_nil]; omega) HD22.out.size ?_
        intro v23 u23 hrow23 hgr
        have HD23 : Hid (Below wz.heap.size wz u23) := Lib.hid (HD22.out.grown hgr HD22.out.size (fun k hk => (HR22.out.lt k hk).1))
        have HR23 := Lib.hid hrow23
        clear hrow23 hgr
        refine hK.out _ _ (KB4.out _ HD23.out) (fun hH23 => ?_)
        clear hK K hH22
        try simp only [Act.put, List.setIfInBounds_toArray, List.set_cons_zero, List.set_cons_succ]
        refine wpAnyH_ready (rs := [11]) (by kernel_rfl) (by simp) ?_
        refine cons_drop rfl (fun K hK => ?_) AllReadyH.nil
        refine step_append_items _ rfl _ _ rfl wz.heap.size _ _ (([] ++ (l.take j)) ++ [x]) (l.drop j) rfl rfl HR23.out (HU3.out _ HD23.out) (by simp only [List.length_append, List.length_take, List.length_drop, List.length_singleton, List.length_nil]; omega) HD23.out.size ?_
        intro v24 u24 hrow24 hgr
        have HD24 : Hid (Below wz.heap.size wz u24) := Lib.hid (HD23.out.grown hgr HD23.out.size (fun k hk => (HR23.out.lt k hk).1))
        have HR24 := Lib.hid hrow24
        clear hrow24 hgr
        refine hK.out _ _ (KB4.out _ HD24.out) (fun hH24 => ?_)
        clear hK K hH23
        try simp only [Act.put, List.setIfInBounds_toArray, List.set_cons_zero, List.set_cons_succ]
        first
          | (refine take_drop (i := 12) (v := ?_) rfl (by kernel_rfl) (by kernel_rfl) (by kernel_rfl) (fun _ _ _ h => h) (Or.inl ⟨by rfl, ?_⟩) (by assumption) ?_; rotate_left 1; (focus (intro w hSw; (try dsimp only at hSw); go_simp; try with_reducible rfl)); try simp only [Act.put, List.setIfInBounds_toArray, List.set_cons_zero, List.set_cons_succ])
          | (refine take_drop (i := 12) (v := undef) rfl (by kernel_rfl) (by kernel_rfl) (by kernel_rfl) (fun _ _ _ h => h) (Or.inr ⟨by rfl, rfl⟩) (by assumption) ?_; try simp only [Act.put, List.setIfInBounds_toArray, List.set_cons_zero, List.set_cons_succ])
        refine wpAnyH_done (by kernel_rfl) ?_ _
        refine NoPanic.normal ?_
        go_wp2_with fail
        all_goals
          go_ret
          exact ⟨_, rfl, j, hj, HJ.out, fun hp => absurd hp (by have h := HJL.out; omega), by have h := HR24.out.base_le (Nat.le_trans (Nat.le_of_lt hzw) HB4.out.size); simpa using h, HW.out.trans ((HB4.out.trans (HD24.out.mono HB4.out.size)).mono HW.out.size)⟩
end Lo
end Go.Proofs.YtkjlfoihojfnbaaDoor
