/- DeleteFunc of one item. -/
import Derived.Test.YtkjlfoihojfnbaaDoorWhN
namespace Go.Proofs.YtkjlfoihojfnbaaDoor
open Go.RowKit
set_option linter.unusedVariables false
set_option linter.unusedSimpArgs false
namespace Wh
open Lo (IRow KB Lies below_drew wo itcs itc itcs_len itcs_get setCells_heap setCells_keeps cell_block free_block run_clear_item)
variable {base b xb now t : Nat} {w w' w1 : World} {l m : List (Nat × Nat)} {x y : Nat × Nat} {v : Value}
theorem cellsY {w : World} {g : Nat} {c v : Value} {t : TypeId} (h : w.heap[g]? = some (.cells #[c, v] t (0, 0))) :
    w.cell? ⟨g, 0, none⟩ = some c ∧ w.cell? ⟨g, 1, none⟩ = some v ∧ ∀ o, w.frozen? ⟨g, o, none⟩ = false := ⟨by simp [World.cell?, h], by simp [World.cell?, h], fun o => by simp [World.frozen?, h]⟩
theorem wo_cut (hn : l.Nodup) {i : Nat} (hi : i < l.length) (hx : l[i] = x) : wo l x = l.take i ++ l.drop (i + 1) := by
  have e : l = l.take i ++ x :: l.drop (i + 1) := by rw [← hx, ← List.drop_eq_getElem_cons hi, List.take_append_drop]
  have hn' := hn
  rw [e, List.nodup_append] at hn'
  obtain ⟨-, h2, h3⟩ := hn'
  have h1 : x ∉ l.drop (i + 1) := (List.nodup_cons.1 h2).1
  have h0 : x ∉ l.take i := fun e => h3 x e x (List.mem_cons_self ..) rfl
  have e2 : wo l x = wo (l.take i ++ x :: l.drop (i + 1)) x := congrArg (fun q => wo q x) e
  rw [e2]
  unfold wo
  rw [List.filter_append, List.filter_cons_of_neg (by simp), List.filter_eq_self.2, List.filter_eq_self.2]
  · intro y hy; exact decide_eq_true fun e => h1 (e ▸ hy)
  · intro y hy; exact decide_eq_true fun e => h0 (e ▸ hy)
theorem itcs_set : ∀ (l : List (Nat × Nat)) (k : Nat), itcs (l.set k y) = ((itcs l).set (k * 2) (.int .u64 (y.1 : Nat))).set (k * 2 + 1) (.int .u64 (y.2 : Nat))
  | [], _ => rfl
  | x :: r, 0 => rfl
  | x :: r, k + 1 => by
    have ih := itcs_set r k
    have e : ∀ (z : Nat × Nat) (q : List (Nat × Nat)), itcs (z :: q) = .int .u64 (z.1 : Nat) :: .int .u64 (z.2 : Nat) :: itcs q := fun _ _ => rfl
    rw [List.set_cons_succ, e, e, ih, show (k + 1) * 2 = k * 2 + 1 + 1 by omega]
    rfl
theorem row_set {T : TypeId} {g cap : Nat} (row : IRow T w base (.slice (some ⟨g, 0, none⟩) l.length cap) l) (k : Nat) (y : Nat × Nat) :
    IRow T ((w.setCell ⟨g, k * 2, none⟩ (.int .u64 (y.1 : Nat))).setCell ⟨g, k * 2 + 1, none⟩ (.int .u64 (y.2 : Nat))) base (.slice (some ⟨g, 0, none⟩) l.length cap) (l.set k y) := by
  rcases row.2 with ⟨h1, h2⟩ | ⟨g', cap', cur, e, q2, q3, q4, q5, q6, q7⟩
  · cases h1
  · cases e
    refine ⟨by rw [itcs_len], .inr ⟨g, cap, _, by rw [List.length_set], q2, blk_set (blk_set q3 rfl) rfl, by rw [List.length_set]; exact q4, q5, by simpa using q6, ?_⟩⟩
    rw [List.length_set, itcs_set, ← q7]
    simp [List.take_set]
theorem row_nodup_cell {T : TypeId} {g cap : Nat} (row : IRow T w base (.slice (some ⟨g, 0, none⟩) l.length cap) l) : (∀ o, w.frozen? ⟨g, o, none⟩ = false) ∧ ∀ (j : Nat) (hj : j < l.length), w.cell? ⟨g, j * 2, none⟩ = some (.int .u64 (l[j].1 : Nat)) ∧ w.cell? ⟨g, j * 2 + 1, none⟩ = some (.int .u64 (l[j].2 : Nat)) := by
  refine ⟨fun o => ?_, fun j hj => ?_⟩
  · rcases row.2 with ⟨h1, h2⟩ | ⟨g', cap', cur, e, q2, q3, q4, q5, q6, q7⟩
    · cases h1
    · cases e; exact free_block q3 o
  · obtain ⟨A, c, e, h2, h3⟩ := row.opened
    obtain ⟨g', e1, -, -, e4, e5⟩ := h3 j hj
    cases e; cases e1
    exact ⟨e4, e5⟩
/-- What the closure answers. -/
theorem isx_any (y x : Nat × Nat) (xb : Nat) (w : World) (hx : w.heap[xb]? = some (.cells #[.int .u64 (x.1 : Nat), .int .u64 (x.2 : Nat)] 34 (0, 0))) :
    Calls Tryd.prog 52 #[.agg #[.int .u64 (y.1 : Nat), .int .u64 (y.2 : Nat)], .pointer (some ⟨xb, 0, none⟩)] w fun e w' => e = .returned (.bool (decide (y = x))) ∧ Below w.heap.size w w' := by
  obtain ⟨x0, x1, -⟩ := cellsY hx
  obtain ⟨W0, hW0⟩ : ∃ W0, W0 = w.alloc (.cells #[.int .u64 (y.1 : Nat), .int .u64 (y.2 : Nat)] 34) := ⟨_, rfl⟩
  have hb0 : Below w.heap.size w W0 := by rw [hW0]; exact (Below.refl _ _).alloc (Nat.le_refl _) _
  have hxl : xb < w.heap.size := (Array.getElem?_eq_some_iff.1 hx).1
  have hy0 : W0.heap[w.heap.size]? = some (.cells #[.int .u64 (y.1 : Nat), .int .u64 (y.2 : Nat)] 34 (0, 0)) := by rw [hW0]; exact heap_alloc_new w _
  obtain ⟨y0, y1, -⟩ := cellsY hy0
  have x0 := (hb0.cell (p := ⟨xb, 0, none⟩) hxl).trans x0
  have x1 := (hb0.cell (p := ⟨xb, 1, none⟩) hxl).trans x1
  have HB := Lib.hid hb0
  have hq : (decide (y = x) = true ∧ (((y.1 : Nat) : Int) == (x.1 : Nat)) = true ∧ (((y.2 : Nat) : Int) == (x.2 : Nat)) = true) ∨ (decide (y = x) = false ∧ (((y.1 : Nat) : Int) == (x.1 : Nat)) = false) ∨ (decide (y = x) = false ∧ (((y.1 : Nat) : Int) == (x.1 : Nat)) = true ∧ (((y.2 : Nat) : Int) == (x.2 : Nat)) = false) := by
    by_cases h : y = x
    · exact .inl ⟨decide_eq_true h, by rw [h]; exact beq_self_eq_true _, by rw [h]; exact beq_self_eq_true _⟩
    · by_cases h1 : y.1 = x.1
      · exact .inr (.inr ⟨decide_eq_false h, by rw [h1]; exact beq_self_eq_true _, beq_eq_false_iff_ne.2 fun h2 => h (Prod.ext h1 (by omega))⟩)
      · exact .inr (.inl ⟨decide_eq_false h, beq_eq_false_iff_ne.2 fun h2 => h1 (by omega)⟩)
  obtain ⟨r, hr⟩ : ∃ r, r = decide (y = x) := ⟨_, rfl⟩
  rw [← hr] at hq ⊢
  replace hW0 := Lib.hid hW0
  clear hx hb0 hy0 hxl hr
  rcases hq with ⟨rfl, q1, q2⟩ | ⟨rfl, q1⟩ | ⟨rfl, q1, q2⟩
  all_goals
    go_enter Tryd.func52, Tryd.ntmps52
    go_upto_region 1 with fail
    rw [← hW0.out]
    go_wp2_with fail
    go_ret
    exact ⟨rfl, HB.out⟩
set_option maxRecDepth 100000 in
set_option maxHeartbeats 2000000 in
theorem indexfunc_any (l : List (Nat × Nat)) (hl : l.length ≤ 1000) (v : Value) (x : Nat × Nat) (xb : Nat) (w : World) (lies : Lies w v l) (hx : w.heap[xb]? = some (.cells #[.int .u64 (x.1 : Nat), .int .u64 (x.2 : Nat)] 34 (0, 0))) :
    Calls Tryd.prog 64 #[v, .func (.func 52) #[] #[.pointer (some ⟨xb, 0, none⟩)]] w fun e w' => Below w.heap.size w w' ∧
      ((e = .returned (.int .i64 (-1)) ∧ x ∉ l) ∨ ∃ i : Nat, ∃ hi : i < l.length, e = .returned (.int .i64 (i : Nat)) ∧ l[i] = x) := by
  obtain ⟨A, cap, rfl, hcap, hcells⟩ := lies
  have hxl : xb < w.heap.size := (Array.getElem?_eq_some_iff.1 hx).1
  have HX := Lib.hid (fun (W : World) (hW : Below w.heap.size w W) (y : Nat × Nat) => isx_any y x xb W ((hW.block xb hxl).trans hx))
  have HCE := Lib.hid hcells
  have hl' : (l.length : Int) ≤ 1000 := by omega
  clear hcells hx hxl
  go_enter Tryd.func64, Tryd.ntmps64
  go_wp2_with fail
  go_loopw [5, 8] (fun _ vj wr => ∃ j : Nat, vj = .int .i64 (j : Int) ∧ j ≤ l.length ∧ Hid (x ∉ l.take j) ∧ Below w.heap.size w wr) (fun _ vj _ => l.length + 1 - (intOf vj).toNat)
  case atStart => exact ⟨0, rfl, by omega, Lib.hid (by simp), Below.refl _ _⟩
  case round =>
    obtain ⟨j, rfl, hj, HJ, hbr⟩ := hrel
    rename_i wr
    have HBR := Lib.hid hbr
    by_cases hjn : j < l.length
    · obtain ⟨g, rfl, hg1, hg2, hg3⟩ := HCE.out j hjn
      have hg2 := (hbr.cell (p := ⟨g, j * 2, none⟩) hg1).trans hg2
      have hg3 := (hbr.cell (p := ⟨g, j * 2 + 1, none⟩) hg1).trans hg3
      have hjn' : (j : Int) < l.length := by omega
      have HIS := Lib.hid (HX.out wr hbr l[j])
      clear hbr
      by_cases hxy : l[j] = x
      · have HXM : Hid (∃ hi : j < l.length, l[j] = x) := Lib.hid ⟨hjn, hxy⟩
        rw [decide_eq_true hxy] at HIS
        clear hxy
        generalize l[j] = y at HIS hg2 hg3
        go_wp2_with fail
        refine HIS.out.mono ?_
        rintro e w1 ⟨rfl, hb1⟩
        have HB1 := Lib.hid (HBR.out.trans (hb1.mono HBR.out.size))
        clear hb1
        go_wp2_with fail
        go_ret
        refine ⟨HB1.out, .inr ⟨j, hjn, rfl, ?_⟩⟩
        obtain ⟨_, h⟩ := HXM.out
        exact h
      · have HJ2 : Hid (x ∉ l.take (j + 1)) := Lib.hid (by
          rw [List.take_succ_eq_append_getElem hjn]
          intro h
          rcases List.mem_append.1 h with h | h
          · exact HJ.out h
          · exact hxy (List.mem_singleton.1 h).symm)
        rw [decide_eq_false hxy] at HIS
        clear hxy
        generalize l[j] = y at HIS hg2 hg3
        go_wp2_with fail
        refine HIS.out.mono ?_
        rintro e w1 ⟨rfl, hb1⟩
        have HB1 := Lib.hid (HBR.out.trans (hb1.mono HBR.out.size))
        clear hb1
        go_wp2_with fail
        exact ⟨⟨j + 1, rfl, by omega, HJ2, HB1.out⟩, by simp [intOf]; omega⟩
    · have hjn' : ¬ ((j : Int) < l.length) := by omega
      have HJL : Hid (x ∉ l) := Lib.hid (by
        have h := HJ.out
        rwa [List.take_of_length_le (by omega)] at h)
      clear hbr
      go_wp2_with fail
      go_ret
      exact ⟨HBR.out, .inl ⟨rfl, HJL.out⟩⟩
/-- The list while items move up. -/
structure Up (l m : List (Nat × Nat)) (i j : Nat) : Prop where
  len : m.length = l.length
  lo : ∀ q, q + 1 < j → m[q]? = (l.take i ++ l.drop (i + 1))[q]?
  hi : ∀ q, j ≤ q + 1 → m[q]? = l[q]?
theorem Up.start (l : List (Nat × Nat)) (i : Nat) (h : i < l.length) : Up l l i (i + 1) := ⟨rfl, fun q hq => by
  rw [List.getElem?_append_left (by rw [List.length_take]; omega), List.getElem?_take_of_lt (by omega)], fun q _ => rfl⟩
theorem Up.step {i j : Nat} (h : Up l m i j) (hij : i < j) (hj : j < l.length) : Up l (m.set (j - 1) l[j]) i (j + 1) := by
  refine ⟨by rw [List.length_set]; exact h.len, fun q hq => ?_, fun q hq => ?_⟩
  · rw [List.getElem?_set]
    by_cases e : j - 1 = q
    · subst e
      rw [if_pos rfl, if_pos (by rw [h.len]; omega), List.getElem?_append_right (by rw [List.length_take]; omega), List.length_take, List.getElem?_drop, Nat.min_eq_left (by omega), ← List.getElem?_eq_getElem hj]
      congr 1; omega
    · rw [if_neg e]; exact h.lo q (by omega)
  · rw [List.getElem?_set_ne (by omega)]; exact h.hi q (by omega)
theorem Up.fin {i : Nat} (h : Up l m i l.length) (hi : i < l.length) : m.take (l.length - 1) = l.take i ++ l.drop (i + 1) := by
  apply List.ext_getElem?
  intro q
  rw [List.getElem?_take]
  by_cases hq : q < l.length - 1
  · rw [if_pos hq]; exact h.lo q (by omega)
  · rw [if_neg hq, List.getElem?_eq_none]
    rw [List.length_append, List.length_take, List.length_drop]; omega
/-- The last item is cleared. -/
theorem row_last {T : TypeId} {g cap : Nat} (row : IRow T w base (.slice (some ⟨g, 0, none⟩) m.length cap) m) (hm : 0 < m.length) (hT : T = 34) :
    ∃ W2, (∀ ty c, (Builtin.clear_ #[39] ty #[.slice (some ⟨g, (m.length - 1) * 2, none⟩) 1 c]).run Tryd.prog w = .ok (.tuple #[]) W2) ∧ IRow T W2 base (.slice (some ⟨g, 0, none⟩) (m.length - 1) cap) (m.take (m.length - 1)) ∧ KB w W2 (fun j => j = g) := by
  rcases row.2 with ⟨h1, h2⟩ | ⟨g', cap', cur, e, q2, q3, q4, q5, q6, q7⟩
  · cases h1
  · cases e
    have hcs : m.length * 2 ≤ cur.size := by
      have h := congrArg List.length q7
      rw [List.length_take, itcs_len, Array.length_toList] at h; omega
    obtain ⟨c2, m1, m2, m3, m4⟩ := setCells_heap [.int .u64 0, .int .u64 0] ((m.length - 1) * 2) w cur q3 (by simp; omega)
    refine ⟨w.setCells g ((m.length - 1) * 2) [.int .u64 0, .int .u64 0], fun ty c => ?_, ?_, ?_⟩
    · refine run_clear_item w ty g _ c (fun j hj => ?_) (fun j hj => free_block q3 _)
      rw [cell_block q3, Array.getElem?_eq_getElem (by omega)]; rfl
    · have hll : (m.take (m.length - 1)).length = m.length - 1 := by rw [List.length_take]; omega
      refine ⟨by rw [itcs_len], .inr ⟨g, cap, c2, by rw [hll], q2, m1, by rw [hll]; omega, q5, by rw [m2]; exact q6, ?_⟩⟩
      rw [hll]
      apply List.ext_getElem?
      intro q
      rw [List.getElem?_take]
      by_cases hq : q < (m.length - 1) * 2
      · rw [if_pos hq, Array.getElem?_toList, m3 q (by omega)]
        have e : (cur.toList.take (m.length * 2))[q]? = (itcs m)[q]? := by rw [q7]
        rw [List.getElem?_take, if_pos (by omega), Array.getElem?_toList] at e
        rw [e]
        have e2 : itcs m = itcs (m.take (m.length - 1)) ++ itcs (m.drop (m.length - 1)) := by rw [← Lo.itcs_append, List.take_append_drop]
        rw [e2, List.getElem?_append_left (by rw [itcs_len, hll]; exact hq)]
      · rw [if_neg hq, List.getElem?_eq_none (by rw [itcs_len, hll]; omega)]
    · obtain ⟨e1, e2, e3, e4, e5⟩ := setCells_keeps g [.int .u64 0, .int .u64 0] ((m.length - 1) * 2) w
      exact ⟨e1, e2, e3, Nat.le_of_eq e4.symm, fun j hj hn => e5 j hn⟩
set_option maxRecDepth 100000 in
set_option maxHeartbeats 4000000 in
theorem delfunc_any (l : List (Nat × Nat)) (hl : l.length ≤ 1000) (hn : l.Nodup) (v : Value) (x : Nat × Nat) (xb : Nat) (w : World) (row : IRow 34 w base v l) (hx : w.heap[xb]? = some (.cells #[.int .u64 (x.1 : Nat), .int .u64 (x.2 : Nat)] 34 (0, 0))) (hne : v.ownBlock ≠ some xb) :
    Calls Tryd.prog 53 #[v, .func (.func 52) #[] #[.pointer (some ⟨xb, 0, none⟩)]] w fun e w' => ∃ v', e = .returned v' ∧ v'.ownBlock = v.ownBlock ∧ IRow 34 w' base v' (wo l x) ∧ KB w w' (fun g => v.ownBlock = some g) := by
  have hxl : xb < w.heap.size := (Array.getElem?_eq_some_iff.1 hx).1
  have HIX := Lib.hid (indexfunc_any l hl v x xb w row.lies hx)
  have HX := Lib.hid (fun (W : World) (hW : W.heap[xb]? = w.heap[xb]?) (y : Nat × Nat) => isx_any y x xb W (hW.trans hx))
  have ROW := Lib.hid row
  have HN := Lib.hid hn
  have HNE := Lib.hid hne
  have HXL := Lib.hid hxl
  obtain ⟨A, cap, rfl, hcap, hcells⟩ := row.opened
  have hl' : (l.length : Int) ≤ 1000 := by omega
  have HCE := Lib.hid hcells
  clear hcells row hx hn hne hxl
  go_enter Tryd.func53, Tryd.ntmps53
  go_wp2_with fail
  refine HIX.out.mono ?_
  rintro e w1 ⟨hb1, hpost⟩
  rcases hpost with ⟨rfl, hnx⟩ | ⟨i, hi, rfl, hix⟩
  · have HB1 := Lib.hid hb1
    have HNX := Lib.hid hnx
    clear hb1 hnx
    go_wp2_with fail
    go_ret
    exact ⟨_, rfl, rfl, by rw [Lo.wo_not HNX.out]; exact ROW.out.later HB1.out, KB.of_below _ HB1.out⟩
  · obtain ⟨g, rfl, -⟩ := HCE.out i hi
    have HW := Lib.hid (wo_cut HN.out hi hix)
    have HIX2 := Lib.hid hix
    have HR1 := Lib.hid (ROW.out.later hb1)
    have HK1 : Hid (KB w w1 (fun j => j = g)) := Lib.hid (KB.of_below _ hb1)
    have hgx : Hid (g ≠ xb) := Lib.hid fun e => HNE.out (by rw [e]; rfl)
    have hcx : cap ≤ 9223372036854775807 := by
      rcases ROW.out.2 with ⟨h1, h2⟩ | ⟨g', cap', cur, e, q2, q3, q4, q5, q6, q7⟩
      · cases h1
      · cases e; exact q5
    have hi0 : (0 : Int) ≤ i := by omega
    have hi9 : ¬ ((i : Int) = -1) := by omega
    have hil : (i : Int) < l.length := by omega
    clear hb1 hix HIX
    go_wp2_with fail
    go_loopw [5, 6] (fun vi vj wr => ∃ (j : Nat) (m : List (Nat × Nat)), vi = .int .i64 ((j : Int) - 1) ∧ vj = .int .i64 (j : Int) ∧ i < j ∧ j ≤ l.length ∧ Up l m i j ∧ IRow 34 wr base (.slice (some ⟨g, 0, none⟩) l.length cap) m ∧ KB w wr (fun j => j = g)) (fun _ vj _ => l.length + 1 - (intOf vj).toNat)
    case atStart => exact ⟨i + 1, l, by simp, by simp, by omega, by omega, Up.start l i hi, HR1.out, HK1.out⟩
    case round =>
      obtain ⟨j, m, rfl, rfl, hij, hj, hup, hrow, hkb⟩ := hrel
      rename_i wr
      have hml := hup.len
      rw [← hml] at hrow
      have HUP := Lib.hid hup
      have HROW := Lib.hid hrow
      have HKB := Lib.hid hkb
      obtain ⟨j1, hj1⟩ : ∃ j1, j1 = j - 1 := ⟨_, rfl⟩
      have hj1' : (j : Int) - 1 = (j1 : Nat) := by omega
      rw [hj1']
      by_cases hjn : j < l.length
      · obtain ⟨hfz, hcl⟩ := row_nodup_cell hrow
        obtain ⟨hg2, hg3⟩ := hcl j (by omega)
        have hmj : m[j]'(by omega) = l[j] := by
          have h := hup.hi j (by omega)
          rw [List.getElem?_eq_getElem (by omega), List.getElem?_eq_getElem hjn] at h
          injection h
        rw [hmj] at hg2 hg3
        have hne : ¬ (l[j] = x) := fun e => by
          have h := HIX2.out
          exact List.pairwise_iff_getElem.1 HN.out i j hi hjn hij (h.trans e.symm)
        have HST := Lib.hid (hup.step hij hjn)
        have hjn' : (j : Int) < l.length := by omega
        have hj1l : (j1 : Int) < l.length := by omega
        have hj10 : (0 : Int) ≤ j1 := by omega
        rw [← hj1] at HST
        have HD : Hid (decide (l[j] = x) = false) := Lib.hid (decide_eq_false hne)
        have hj1m : j1 < m.length := by omega
        have hj1e : Hid (j = j1 + 1) := Lib.hid (by omega)
        clear hup hrow hkb hcl hmj hne hfz hj1 hj1'
        generalize l[j] = y at *
        obtain ⟨wb, hwb⟩ : ∃ wb, wb = wr.alloc (.cells #[.int .u64 (y.1 : Nat), .int .u64 (y.2 : Nat)] 34) := ⟨_, rfl⟩
        have hbb : Below wr.heap.size wr wb := by rw [hwb]; exact (Below.refl _ _).alloc (Nat.le_refl _) _
        have hby : wb.heap[wr.heap.size]? = some (.cells #[.int .u64 (y.1 : Nat), .int .u64 (y.2 : Nat)] 34 (0, 0)) := by rw [hwb]; exact heap_alloc_new wr _
        have hzb : wr.heap.size < wb.heap.size := by rw [hwb, World.size_alloc]; omega
        have hxx : wr.heap[xb]? = w.heap[xb]? := HKB.out.block xb HXL.out (fun e => hgx.out e.symm)
        have HIS := Lib.hid (HX.out wb ((hbb.block xb (Nat.lt_of_lt_of_le HXL.out HKB.out.size)).trans hxx) y)
        rw [HD.out] at HIS
        obtain ⟨y0, y1, -⟩ := cellsY hby
        have HBB := Lib.hid hbb
        have HBY := Lib.hid hby
        have HZB := Lib.hid hzb
        replace hwb := Lib.hid hwb
        clear hbb hby hzb hxx
        go_upto_region 8 with fail
        rw [← hwb.out]
        clear hg2 hg3
        go_wp2_with fail
        refine HIS.out.mono ?_
        rintro e w4 ⟨rfl, hb4⟩
        have hrow4 := (HROW.out.later HBB.out).later hb4
        have HROW4 := Lib.hid hrow4
        have HKB4 : Hid (KB w w4 (fun j => j = g)) := Lib.hid ((HKB.out.trans (KB.of_below (fun j => j = g) HBB.out) (fun j _ e => e)).trans (KB.of_below (fun j => j = g) hb4) (fun j _ e => e))
        obtain ⟨hfz, hcl⟩ := row_nodup_cell hrow4
        obtain ⟨p2, p3⟩ := hcl j1 hj1m
        have f2 := hfz (j1 * 2)
        have f3 := hfz (j1 * 2 + 1)
        obtain ⟨y0, y1, -⟩ := cellsY ((hb4.block wr.heap.size HZB.out).trans HBY.out)
        have HRS := Lib.hid (row_set hrow4 j1 y)
        clear hb4 hrow4 hfz hcl
        go_wp2_with fail
        refine ⟨⟨_, _, _, _, _, _, _, _, _, _, _, _, _, _, _, _, _, _, _, _, _, _, _, ?_, rfl⟩, ?_⟩
        · refine ⟨j + 1, m.set j1 y, ?_, by simp, by omega, by omega, HST.out, by have h := HRS.out; rw [hml] at h; exact h, HKB4.out.trans ((kb_set w4 g _ _).trans (kb_set _ g _ _) (fun j _ e => e)) (fun j _ e => e)⟩
          have h := hj1e.out
          rw [h]; simp
        · simp [intOf]; omega
      · have hje : j = l.length := by omega
        subst hje
        have hml' : m.length - 1 = j1 := by omega
        obtain ⟨W2, hcl, hrow2, hk2⟩ := row_last hrow (by omega) rfl
        have HFIN := Lib.hid (hup.fin hi)
        rw [hml'] at hcl hrow2
        have HR2 := Lib.hid hrow2
        have HK2 := Lib.hid (hkb.trans hk2 (fun j _ e => e))
        have hjn' : ¬ ((l.length : Int) < l.length) := by omega
        have hj1c : (j1 : Int) ≤ cap := by omega
        have hj1l : (j1 : Int) ≤ l.length := by omega
        have hj10 : (0 : Int) ≤ j1 := by omega
        have hncap : ¬ (cap = j1) := by omega
        have hone : l.length - j1 = 1 := by omega
        have HC : Hid (∀ ty c, (Builtin.clear_ #[39] ty #[.slice (some ⟨g, j1 * 2, none⟩) (l.length - j1) c]).run Tryd.prog wr = .ok (.tuple #[]) W2) := Lib.hid (by rw [hone]; exact hcl)
        have hcl := HC.out
        have hj1e : Hid (l.length - 1 = j1) := Lib.hid (by omega)
        clear hup hrow hkb hrow2 hk2 hml' hj1 hj1' hone
        go_wp2_with fail
        go_ret
        refine ⟨_, rfl, rfl, ?_, ⟨HK2.out.os, HK2.out.tape, HK2.out.output, HK2.out.size, fun j hj hn => HK2.out.block j hj (fun e => hn (by rw [e]; rfl))⟩⟩
        rw [HW.out, ← HFIN.out, hj1e.out]
        exact HR2.out
end Wh
end Go.Proofs.YtkjlfoihojfnbaaDoor
