/- The reference's Cancel. -/
import Derived.Test.YtkjlfoihojfnbaaDoorWhP
import Derived.Test.YtkjlfoihojfnbaaDoorWhW
namespace Go.Proofs.YtkjlfoihojfnbaaDoor
open Go.RowKit
set_option linter.unusedVariables false
set_option linter.unusedSimpArgs false
namespace Wh
open Lo (IRow KB Lies LiesO below_drew bef wo takeA consA)
variable {base b now t : Nat} {w w' w1 : World} {T : List (Nat × Nat)}
def RCan (w : World) (now : Nat) (v : Value) (T : List (Nat × Nat)) (id : Nat) (e : Ending) (w' : World) : Prop :=
  ((hasId T id = false ∧ e = .returned (.tuple #[.agg #[.int .u64 (now : Nat), v], .int .i64 6])) ∨
    ∃ x, x ∈ T ∧ x.1 = id ∧ ∃ v', e = .returned (.tuple #[.agg #[.int .u64 (now : Nat), v'], .int .i64 0]) ∧ IRow 29 w' w.heap.size v' (wo T x)) ∧ Below w.heap.size w w'
set_option maxRecDepth 100000 in
set_option maxHeartbeats 8000000 in
theorem rcancel_any (hT : T.length ≤ 900) (hn : T.Nodup) (v : Value) (id : Nat) (row : IRow 29 w base v T) :
    Calls Tryd.prog 54 #[.agg #[.int .u64 (now : Nat), v], .int .u64 (id : Nat)] w (RCan w now v T id) := by
  obtain ⟨A, cap, rfl, hcap, -⟩ := row.opened
  obtain ⟨W0, hW0⟩ : ∃ W0, W0 = (w.alloc (.cells #[.int .u64 (now : Nat), .slice A T.length cap] 49)).alloc (.cells #[.int .u64 0, .slice none 0 0] 49) := ⟨_, rfl⟩
  have hb0 : Below w.heap.size w W0 := by rw [hW0]; exact ((Below.refl _ _).alloc (Nat.le_refl _) _).alloc (by simp) _
  have hx0 : W0.heap[w.heap.size]? = some (.cells #[.int .u64 (now : Nat), .slice A T.length cap] 49 (0, 0)) := by rw [hW0]; exact (heap_alloc_old _ _ (by simp)).trans (heap_alloc_new w _)
  have hr0 : W0.heap[w.heap.size + 1]? = some (.cells #[.int .u64 (0 : Nat), .slice none 0 0] 49 (0, 0)) := by
    rw [hW0]
    have e := heap_alloc_new (w.alloc (.cells #[.int .u64 (now : Nat), .slice A T.length cap] 49)) (.cells #[.int .u64 0, .slice none 0 0] 49)
    rw [World.size_alloc] at e
    exact e
  have hzw : w.heap.size + 2 = W0.heap.size := by rw [hW0]; simp
  obtain ⟨x0, x1, xf⟩ := cellsW hx0
  have HB0 := Lib.hid hb0
  have HX0 := Lib.hid hx0
  have HR0 := Lib.hid hr0
  have ROW := Lib.hid (row.later hb0)
  have HZ := Lib.hid hzw
  have HN := Lib.hid hn
  replace hW0 := Lib.hid hW0
  have HF := Lib.hid (rfind_any (now := now) (by omega) (.slice A T.length cap) id ROW.out.lies)
  clear hb0 hx0 hr0 row xf hzw hn
  go_enter Tryd.func54, Tryd.ntmps54
  go_upto_region 1 with fail
  rw [← hW0.out]
  go_wp2_with fail
  refine HF.out.mono ?_
  rintro e w1 ⟨hpost, hb1⟩
  have X1 := Lib.hid (boxB HX0.out hb1)
  have R1 := Lib.hid (boxB HR0.out hb1)
  have HB1 := Lib.hid (HB0.out.trans (hb1.mono HB0.out.size))
  have ROW1 := Lib.hid (ROW.out.later hb1)
  have hz1 : w.heap.size + 2 ≤ w1.heap.size := by have := hb1.size; have := HZ.out; omega
  clear hb1 x0 x1
  rcases hpost with ⟨hno, rfl⟩ | ⟨i, hi, hid, rfl⟩
  · have HNO := Lib.hid hno
    obtain ⟨x0, x1, xf⟩ := cellsW X1.out
    obtain ⟨r0, r1, rf⟩ := cellsW R1.out
    have rf0 := rf 0
    have rf1 := rf 1
    clear hno xf rf
    go_wp2_with fail
    refine bodyPost_ret (v := .tuple #[.agg #[.int .u64 (now : Nat), .slice A T.length cap], .int .i64 6]) (by simp [results, Tryd.results54, go_sem, r0, r1]) rfl ⟨.inl ⟨HNO.out, rfl⟩, ?_⟩
    exact (HB1.out.setCell (by simp) _).setCell (by simp) _
  · have HIDX := Lib.hid hid
    have HWO := Lib.hid (wo_cut HN.out hi rfl)
    obtain ⟨g, rfl, hgl⟩ : ∃ g, A = some ⟨g, 0, none⟩ ∧ g < w1.heap.size := by
      obtain ⟨A', c', e, -, h3⟩ := ROW1.out.opened
      obtain ⟨g, e2, -, h4, -⟩ := h3 i hi
      injection e with e _ _
      exact ⟨g, e.trans e2, h4⟩
    have HCE : Hid (∀ (W : World), Below w1.heap.size w1 W → ∀ (j : Nat) (hj : j < T.length), W.cell? ⟨g, j * 2, none⟩ = some (.int .u64 (T[j].1 : Nat)) ∧ W.cell? ⟨g, j * 2 + 1, none⟩ = some (.int .u64 (T[j].2 : Nat))) := Lib.hid fun W hW j hj => by
      obtain ⟨A', c', e, -, h3⟩ := (ROW1.out.later hW).opened
      obtain ⟨g', e2, -, -, h5, h6⟩ := h3 j hj
      injection e with e _ _
      rw [e2] at e
      injection e with e
      injection e with e
      subst e
      exact ⟨h5, h6⟩
    have HCX : Hid (∀ (W : World), Below w1.heap.size w1 W → W.cell? ⟨w.heap.size, 1, none⟩ = some (.slice (some ⟨g, 0, none⟩) T.length cap)) := Lib.hid fun W hW => (cellsW (boxB X1.out hW)).2.1
    have hic : i ≤ cap := by omega
    have hjc : i + 1 ≤ cap := by omega
    have HU2 : Hid (∀ W, Below w1.heap.size w1 W → LiesO W (.slice (some ⟨g, 0, none⟩) i cap) (T.take i)) := Lib.hid fun W hW => ⟨_, cap, by rw [List.length_take, Nat.min_eq_left (by omega)], by rw [List.length_take]; omega, fun k hk => by
      rw [List.length_take] at hk
      obtain ⟨h1, h2⟩ := HCE.out W hW k (by omega)
      exact ⟨g, 0, rfl, by rw [Nat.zero_add, List.getElem_take]; exact h1, by rw [Nat.zero_add, List.getElem_take]; exact h2⟩⟩
    have HU3 : Hid (∀ W, Below w1.heap.size w1 W → LiesO W (.slice (if cap = i + 1 then some ⟨g, 0, none⟩ else some ⟨g, (i + 1) * 2, none⟩) (T.length - (i + 1)) (cap - (i + 1))) (T.drop (i + 1))) := Lib.hid fun W hW => ⟨_, cap - (i + 1), by rw [List.length_drop], by rw [List.length_drop]; omega, fun k hk => by
      rw [List.length_drop] at hk
      obtain ⟨h1, h2⟩ := HCE.out W hW (i + 1 + k) (by omega)
      refine ⟨g, (i + 1) * 2, by rw [if_neg (by omega)], ?_, ?_⟩
      · rw [show (i + 1) * 2 + k * 2 = (i + 1 + k) * 2 by omega, List.getElem_drop]; exact h1
      · rw [show (i + 1) * 2 + (k * 2 + 1) = (i + 1 + k) * 2 + 1 by omega, List.getElem_drop]; exact h2⟩
    have hi0 : (0 : Int) ≤ i := by omega
    have hil : (i : Int) < T.length := by omega
    have hTl : (T.length : Int) ≤ 900 := by omega
    have hmx : cap ≤ 9223372036854775807 := by
      rcases ROW1.out.2 with ⟨h1, h2⟩ | ⟨g', cap', cur, e, q2, q3, q4, q5, q6, q7⟩
      · cases h1
      · cases e; exact q5
    have hia : IntKind.i64.wrap ((i : Int) + 1) = i + 1 := IntWalk.i64_in _ (by omega)
    have hib0 : (0 : Int) ≤ (i : Int) + 1 := by omega
    have hib : (i : Int) + 1 ≤ T.length := by omega
    clear hid hgl
    go_wp2_with fail
    refine wp_region_any (by kernel_rfl) ?_
    change wpAny _ _ _ _ _ _ _ (World.drew _)
    have HD0 : Hid (Below w1.heap.size w1 w1.drew) := Lib.hid (below_drew (Below.refl _ _))
    obtain ⟨u0, hu0⟩ : ∃ u, u = w1.drew := ⟨_, rfl⟩
    rw [← hu0] at HD0 ⊢
    replace hu0 := Lib.hid hu0
    refine takeA (i := 1) (v := ?_) rfl (by kernel_rfl) (by kernel_rfl) (by kernel_rfl) (fun _ _ _ h => h) (Or.inl ⟨by rfl, ?_⟩) ?_
    rotate_left 1
    focus (intro w; go_simp; try with_reducible rfl)
    try simp only [Act.put, List.setIfInBounds_toArray, List.set_cons_zero, List.set_cons_succ]
    refine takeA (i := 3) (v := ?_) rfl (by kernel_rfl) (by kernel_rfl) (by kernel_rfl) (fun _ _ _ h => h) (Or.inl ⟨by rfl, ?_⟩) ?_
    rotate_left 1
    focus (intro w; go_simp; try with_reducible rfl)
    try simp only [Act.put, List.setIfInBounds_toArray, List.set_cons_zero, List.set_cons_succ]
    refine takeA (i := 6) (v := ?_) rfl (by kernel_rfl) (by kernel_rfl) (by kernel_rfl) (fun _ _ _ h => h) (Or.inl ⟨by rfl, ?_⟩) ?_
    rotate_left 1
    focus (intro w; go_simp; try with_reducible rfl)
    try simp only [Act.put, List.setIfInBounds_toArray, List.set_cons_zero, List.set_cons_succ]
    refine takeA (i := 8) (v := ?_) rfl (by kernel_rfl) (by kernel_rfl) (by kernel_rfl) (fun _ _ _ h => h) (Or.inl ⟨by rfl, ?_⟩) ?_
    rotate_left 1
    focus (intro w; go_simp; try with_reducible rfl)
    try simp only [Act.put, List.setIfInBounds_toArray, List.set_cons_zero, List.set_cons_succ]
    refine takeA (i := 9) (v := ?_) rfl (by kernel_rfl) (by kernel_rfl) (by kernel_rfl) (fun _ _ _ h => h) (Or.inl ⟨by rfl, ?_⟩) ?_
    rotate_left 1
    focus (intro w; go_simp; try with_reducible rfl)
    try simp only [Act.put, List.setIfInBounds_toArray, List.set_cons_zero, List.set_cons_succ]
    refine wpAny_ready (rs := [0, 2, 7]) (by kernel_rfl) (by simp) ?_
    refine consA rfl (fun K hK => ?_) (consA rfl (fun K hK => ?_) (consA rfl (fun K hK => ?_) AllReady.nil))
    · go_simp
      obtain ⟨u1, hu1⟩ : ∃ u, u = u0.alloc (.cells #[] 29) := ⟨_, rfl⟩
      rw [← hu1]
      have hbz : Below u0.heap.size u0 u1 := by rw [hu1]; exact (Below.refl _ _).alloc (Nat.le_refl _) _
      have HD1 : Hid (Below w1.heap.size w1 u1) := Lib.hid (HD0.out.trans (hbz.mono HD0.out.size))
      have HR1 : Hid (IRow 29 u1 w1.heap.size (.slice (some ⟨u0.heap.size, 0, none⟩) 0 0) []) := Lib.hid (by rw [hu1]; exact Lo.row_empty u0 29 _ HD0.out.size)
      clear hbz
      replace hu1 := Lib.hid hu1
      refine hK _ _ ?_
      clear hK K
      try simp only [Act.put, List.setIfInBounds_toArray, List.set_cons_zero, List.set_cons_succ]
      refine wpAny_ready (rs := [2, 7]) (by kernel_rfl) (by simp) ?_
      refine consA rfl (fun K hK => ?_) (consA rfl (fun K hK => ?_) AllReady.nil)
      · have cx := HCX.out u1 HD1.out
        go_simp
        refine hK _ _ ?_
        clear hK K cx
        try simp only [Act.put, List.setIfInBounds_toArray, List.set_cons_zero, List.set_cons_succ]
        refine takeA (i := 4) (v := ?_) rfl (by kernel_rfl) (by kernel_rfl) (by kernel_rfl) (fun _ _ _ h => h) (Or.inl ⟨by rfl, ?_⟩) ?_
        rotate_left 1
        focus (intro w; go_simp; try with_reducible rfl)
        try simp only [Act.put, List.setIfInBounds_toArray, List.set_cons_zero, List.set_cons_succ]
        refine wpAny_ready (rs := [5, 7]) (by kernel_rfl) (by simp) ?_
        refine consA rfl (fun K hK => ?_) (consA rfl (fun K hK => ?_) AllReady.nil)
        · refine Lo.step_append_items _ rfl _ _ rfl w1.heap.size _ _ [] (T.take i) rfl rfl HR1.out (HU2.out _ HD1.out) (by simp only [List.length_append, List.length_take, List.length_drop, List.length_nil]; omega) HD1.out.size ?_
          intro v2 u2 hrow2 hgr
          have HD2 : Hid (Below w1.heap.size w1 u2) := Lib.hid (HD1.out.grown hgr HD1.out.size (fun k hk => (HR1.out.lt k hk).1))
          have HR2 := Lib.hid hrow2
          clear hrow2 hgr
          refine hK _ _ ?_
          clear hK K
          try simp only [Act.put, List.setIfInBounds_toArray, List.set_cons_zero, List.set_cons_succ]
          refine wpAny_ready (rs := [7]) (by kernel_rfl) (by simp) ?_
          refine consA rfl (fun K hK => ?_) AllReady.nil
          have cx := HCX.out u2 HD2.out
          go_simp
          refine hK _ _ ?_
          clear hK K cx
          try simp only [Act.put, List.setIfInBounds_toArray, List.set_cons_zero, List.set_cons_succ]
          refine takeA (i := 10) (v := ?_) rfl (by kernel_rfl) (by kernel_rfl) (by kernel_rfl) (fun _ _ _ h => h) (Or.inl ⟨by rfl, ?_⟩) ?_
          rotate_left 1
          focus (intro w; go_simp; try with_reducible rfl)
          try simp only [Act.put, List.setIfInBounds_toArray, List.set_cons_zero, List.set_cons_succ]
          refine wpAny_ready (rs := [11]) (by kernel_rfl) (by simp) ?_
          refine consA rfl (fun K hK => ?_) AllReady.nil
          refine Lo.step_append_items _ rfl _ _ rfl w1.heap.size _ _ ([] ++ (T.take i)) (T.drop (i + 1)) rfl rfl HR2.out (HU3.out _ HD2.out) (by simp only [List.length_append, List.length_take, List.length_drop, List.length_nil]; omega) HD2.out.size ?_
          intro v3 u3 hrow3 hgr
          have HD3 : Hid (Below w1.heap.size w1 u3) := Lib.hid (HD2.out.grown hgr HD2.out.size (fun k hk => (HR2.out.lt k hk).1))
          have HR3 := Lib.hid hrow3
          clear hrow3 hgr
          refine hK _ _ ?_
          clear hK K
          try simp only [Act.put, List.setIfInBounds_toArray, List.set_cons_zero, List.set_cons_succ]
          have hrw := HR3.out
          rw [List.nil_append, ← HWO.out] at hrw
          obtain ⟨A2, cap2, rfl, hcap2, -⟩ := hrw.opened
          have HRW := Lib.hid hrw
          clear hrw
          obtain ⟨x0, x1, xf⟩ := cellsW (boxB X1.out HD3.out)
          obtain ⟨r0, r1, rf⟩ := cellsW (boxB R1.out HD3.out)
          have rf0 := rf 0
          have rf1 := rf 1
          have xf1 := xf 1
          clear xf rf
          refine takeA (i := 12) (v := ?_) rfl (by kernel_rfl) (by kernel_rfl) (by kernel_rfl) (fun _ _ _ h => h) (Or.inl ⟨by rfl, ?_⟩) ?_
          rotate_left 1
          focus (intro w; go_simp; try with_reducible rfl)
          try simp only [Act.put, List.setIfInBounds_toArray, List.set_cons_zero, List.set_cons_succ]
          refine wpAny_ready (rs := [13]) (by kernel_rfl) (by simp) ?_
          refine consA rfl (fun K hK => ?_) AllReady.nil
          go_simp
          refine hK _ _ ?_
          clear hK K
          try simp only [Act.put, List.setIfInBounds_toArray, List.set_cons_zero, List.set_cons_succ]
          refine wpAny_done (by kernel_rfl) ?_ _
          go_wp2_with fail
          all_goals
            refine bodyPost_ret (v := .tuple #[.agg #[.int .u64 (now : Nat), .slice A2 (wo T T[i]).length cap2], .int .i64 0]) (by simp [results, Tryd.results54, go_sem, r0, r1, x0, x1]) rfl ⟨.inr ⟨T[i], List.getElem_mem hi, HIDX.out, _, rfl, ?_⟩, ?_⟩
            · refine (HRW.out.keep fun g hg => ?_).base_le (by omega)
              have := (HRW.out.lt g hg).1
              rw [Below.heap_setCell _ _ _ _ (by simp; omega), Below.heap_setCell _ _ _ _ (by simp; omega), Below.heap_setCell _ _ _ _ (by simp; omega)]
            · exact (((HB1.out.trans (HD3.out.mono HB1.out.size)).setCell (by simp) _).setCell (by simp) _).setCell (by simp) _
        · have cx := HCX.out u1 HD1.out
          go_simp
          refine hK _ _ ?_
          clear hK K cx
          try simp only [Act.put, List.setIfInBounds_toArray, List.set_cons_zero, List.set_cons_succ]
          refine takeA (i := 10) (v := ?_) rfl (by kernel_rfl) (by kernel_rfl) (by kernel_rfl) (fun _ _ _ h => h) (Or.inl ⟨by rfl, ?_⟩) ?_
          rotate_left 1
          focus (intro w; go_simp; try with_reducible rfl)
          try simp only [Act.put, List.setIfInBounds_toArray, List.set_cons_zero, List.set_cons_succ]
          refine wpAny_ready (rs := [5]) (by kernel_rfl) (by simp) ?_
          refine consA rfl (fun K hK => ?_) AllReady.nil
          refine Lo.step_append_items _ rfl _ _ rfl w1.heap.size _ _ [] (T.take i) rfl rfl HR1.out (HU2.out _ HD1.out) (by simp only [List.length_append, List.length_take, List.length_drop, List.length_nil]; omega) HD1.out.size ?_
          intro v4 u4 hrow4 hgr
          have HD4 : Hid (Below w1.heap.size w1 u4) := Lib.hid (HD1.out.grown hgr HD1.out.size (fun k hk => (HR1.out.lt k hk).1))
          have HR4 := Lib.hid hrow4
          clear hrow4 hgr
          refine hK _ _ ?_
          clear hK K
          try simp only [Act.put, List.setIfInBounds_toArray, List.set_cons_zero, List.set_cons_succ]
          refine wpAny_ready (rs := [11]) (by kernel_rfl) (by simp) ?_
          refine consA rfl (fun K hK => ?_) AllReady.nil
          refine Lo.step_append_items _ rfl _ _ rfl w1.heap.size _ _ ([] ++ (T.take i)) (T.drop (i + 1)) rfl rfl HR4.out (HU3.out _ HD4.out) (by simp only [List.length_append, List.length_take, List.length_drop, List.length_nil]; omega) HD4.out.size ?_
          intro v5 u5 hrow5 hgr
          have HD5 : Hid (Below w1.heap.size w1 u5) := Lib.hid (HD4.out.grown hgr HD4.out.size (fun k hk => (HR4.out.lt k hk).1))
          have HR5 := Lib.hid hrow5
          clear hrow5 hgr
          refine hK _ _ ?_
          clear hK K
          try simp only [Act.put, List.setIfInBounds_toArray, List.set_cons_zero, List.set_cons_succ]
          have hrw := HR5.out
          rw [List.nil_append, ← HWO.out] at hrw
          obtain ⟨A2, cap2, rfl, hcap2, -⟩ := hrw.opened
          have HRW := Lib.hid hrw
          clear hrw
          obtain ⟨x0, x1, xf⟩ := cellsW (boxB X1.out HD5.out)
          obtain ⟨r0, r1, rf⟩ := cellsW (boxB R1.out HD5.out)
          have rf0 := rf 0
          have rf1 := rf 1
          have xf1 := xf 1
          clear xf rf
          refine takeA (i := 12) (v := ?_) rfl (by kernel_rfl) (by kernel_rfl) (by kernel_rfl) (fun _ _ _ h => h) (Or.inl ⟨by rfl, ?_⟩) ?_
          rotate_left 1
          focus (intro w; go_simp; try with_reducible rfl)
          try simp only [Act.put, List.setIfInBounds_toArray, List.set_cons_zero, List.set_cons_succ]
          refine wpAny_ready (rs := [13]) (by kernel_rfl) (by simp) ?_
          refine consA rfl (fun K hK => ?_) AllReady.nil
          go_simp
          refine hK _ _ ?_
          clear hK K
          try simp only [Act.put, List.setIfInBounds_toArray, List.set_cons_zero, List.set_cons_succ]
          refine wpAny_done (by kernel_rfl) ?_ _
          go_wp2_with fail
          all_goals
            refine bodyPost_ret (v := .tuple #[.agg #[.int .u64 (now : Nat), .slice A2 (wo T T[i]).length cap2], .int .i64 0]) (by simp [results, Tryd.results54, go_sem, r0, r1, x0, x1]) rfl ⟨.inr ⟨T[i], List.getElem_mem hi, HIDX.out, _, rfl, ?_⟩, ?_⟩
            · refine (HRW.out.keep fun g hg => ?_).base_le (by omega)
              have := (HRW.out.lt g hg).1
              rw [Below.heap_setCell _ _ _ _ (by simp; omega), Below.heap_setCell _ _ _ _ (by simp; omega), Below.heap_setCell _ _ _ _ (by simp; omega)]
            · exact (((HB1.out.trans (HD5.out.mono HB1.out.size)).setCell (by simp) _).setCell (by simp) _).setCell (by simp) _
      · have cx := HCX.out u1 HD1.out
        go_simp
        refine hK _ _ ?_
        clear hK K cx
        try simp only [Act.put, List.setIfInBounds_toArray, List.set_cons_zero, List.set_cons_succ]
        refine takeA (i := 10) (v := ?_) rfl (by kernel_rfl) (by kernel_rfl) (by kernel_rfl) (fun _ _ _ h => h) (Or.inl ⟨by rfl, ?_⟩) ?_
        rotate_left 1
        focus (intro w; go_simp; try with_reducible rfl)
        try simp only [Act.put, List.setIfInBounds_toArray, List.set_cons_zero, List.set_cons_succ]
        refine wpAny_ready (rs := [2]) (by kernel_rfl) (by simp) ?_
        refine consA rfl (fun K hK => ?_) AllReady.nil
        have cx := HCX.out u1 HD1.out
        go_simp
        refine hK _ _ ?_
        clear hK K cx
        try simp only [Act.put, List.setIfInBounds_toArray, List.set_cons_zero, List.set_cons_succ]
        refine takeA (i := 4) (v := ?_) rfl (by kernel_rfl) (by kernel_rfl) (by kernel_rfl) (fun _ _ _ h => h) (Or.inl ⟨by rfl, ?_⟩) ?_
        rotate_left 1
        focus (intro w; go_simp; try with_reducible rfl)
        try simp only [Act.put, List.setIfInBounds_toArray, List.set_cons_zero, List.set_cons_succ]
        refine wpAny_ready (rs := [5]) (by kernel_rfl) (by simp) ?_
        refine consA rfl (fun K hK => ?_) AllReady.nil
        refine Lo.step_append_items _ rfl _ _ rfl w1.heap.size _ _ [] (T.take i) rfl rfl HR1.out (HU2.out _ HD1.out) (by simp only [List.length_append, List.length_take, List.length_drop, List.length_nil]; omega) HD1.out.size ?_
        intro v6 u6 hrow6 hgr
        have HD6 : Hid (Below w1.heap.size w1 u6) := Lib.hid (HD1.out.grown hgr HD1.out.size (fun k hk => (HR1.out.lt k hk).1))
        have HR6 := Lib.hid hrow6
        clear hrow6 hgr
        refine hK _ _ ?_
        clear hK K
        try simp only [Act.put, List.setIfInBounds_toArray, List.set_cons_zero, List.set_cons_succ]
        refine wpAny_ready (rs := [11]) (by kernel_rfl) (by simp) ?_
        refine consA rfl (fun K hK => ?_) AllReady.nil
        refine Lo.step_append_items _ rfl _ _ rfl w1.heap.size _ _ ([] ++ (T.take i)) (T.drop (i + 1)) rfl rfl HR6.out (HU3.out _ HD6.out) (by simp only [List.length_append, List.length_take, List.length_drop, List.length_nil]; omega) HD6.out.size ?_
        intro v7 u7 hrow7 hgr
        have HD7 : Hid (Below w1.heap.size w1 u7) := Lib.hid (HD6.out.grown hgr HD6.out.size (fun k hk => (HR6.out.lt k hk).1))
        have HR7 := Lib.hid hrow7
        clear hrow7 hgr
        refine hK _ _ ?_
        clear hK K
        try simp only [Act.put, List.setIfInBounds_toArray, List.set_cons_zero, List.set_cons_succ]
        have hrw := HR7.out
        rw [List.nil_append, ← HWO.out] at hrw
        obtain ⟨A2, cap2, rfl, hcap2, -⟩ := hrw.opened
        have HRW := Lib.hid hrw
        clear hrw
        obtain ⟨x0, x1, xf⟩ := cellsW (boxB X1.out HD7.out)
        obtain ⟨r0, r1, rf⟩ := cellsW (boxB R1.out HD7.out)
        have rf0 := rf 0
        have rf1 := rf 1
        have xf1 := xf 1
        clear xf rf
        refine takeA (i := 12) (v := ?_) rfl (by kernel_rfl) (by kernel_rfl) (by kernel_rfl) (fun _ _ _ h => h) (Or.inl ⟨by rfl, ?_⟩) ?_
        rotate_left 1
        focus (intro w; go_simp; try with_reducible rfl)
        try simp only [Act.put, List.setIfInBounds_toArray, List.set_cons_zero, List.set_cons_succ]
        refine wpAny_ready (rs := [13]) (by kernel_rfl) (by simp) ?_
        refine consA rfl (fun K hK => ?_) AllReady.nil
        go_simp
        refine hK _ _ ?_
        clear hK K
        try simp only [Act.put, List.setIfInBounds_toArray, List.set_cons_zero, List.set_cons_succ]
        refine wpAny_done (by kernel_rfl) ?_ _
        go_wp2_with fail
        all_goals
          refine bodyPost_ret (v := .tuple #[.agg #[.int .u64 (now : Nat), .slice A2 (wo T T[i]).length cap2], .int .i64 0]) (by simp [results, Tryd.results54, go_sem, r0, r1, x0, x1]) rfl ⟨.inr ⟨T[i], List.getElem_mem hi, HIDX.out, _, rfl, ?_⟩, ?_⟩
          · refine (HRW.out.keep fun g hg => ?_).base_le (by omega)
            have := (HRW.out.lt g hg).1
            rw [Below.heap_setCell _ _ _ _ (by simp; omega), Below.heap_setCell _ _ _ _ (by simp; omega), Below.heap_setCell _ _ _ _ (by simp; omega)]
          · exact (((HB1.out.trans (HD7.out.mono HB1.out.size)).setCell (by simp) _).setCell (by simp) _).setCell (by simp) _
    · have cx := HCX.out u0 HD0.out
      go_simp
      refine hK _ _ ?_
      clear hK K cx
      try simp only [Act.put, List.setIfInBounds_toArray, List.set_cons_zero, List.set_cons_succ]
      refine takeA (i := 4) (v := ?_) rfl (by kernel_rfl) (by kernel_rfl) (by kernel_rfl) (fun _ _ _ h => h) (Or.inl ⟨by rfl, ?_⟩) ?_
      rotate_left 1
      focus (intro w; go_simp; try with_reducible rfl)
      try simp only [Act.put, List.setIfInBounds_toArray, List.set_cons_zero, List.set_cons_succ]
      refine wpAny_ready (rs := [0, 7]) (by kernel_rfl) (by simp) ?_
      refine consA rfl (fun K hK => ?_) (consA rfl (fun K hK => ?_) AllReady.nil)
      · go_simp
        obtain ⟨u8, hu8⟩ : ∃ u, u = u0.alloc (.cells #[] 29) := ⟨_, rfl⟩
        rw [← hu8]
        have hbz : Below u0.heap.size u0 u8 := by rw [hu8]; exact (Below.refl _ _).alloc (Nat.le_refl _) _
        have HD8 : Hid (Below w1.heap.size w1 u8) := Lib.hid (HD0.out.trans (hbz.mono HD0.out.size))
        have HR8 : Hid (IRow 29 u8 w1.heap.size (.slice (some ⟨u0.heap.size, 0, none⟩) 0 0) []) := Lib.hid (by rw [hu8]; exact Lo.row_empty u0 29 _ HD0.out.size)
        clear hbz
        replace hu8 := Lib.hid hu8
        refine hK _ _ ?_
        clear hK K
        try simp only [Act.put, List.setIfInBounds_toArray, List.set_cons_zero, List.set_cons_succ]
        refine wpAny_ready (rs := [5, 7]) (by kernel_rfl) (by simp) ?_
        refine consA rfl (fun K hK => ?_) (consA rfl (fun K hK => ?_) AllReady.nil)
        · refine Lo.step_append_items _ rfl _ _ rfl w1.heap.size _ _ [] (T.take i) rfl rfl HR8.out (HU2.out _ HD8.out) (by simp only [List.length_append, List.length_take, List.length_drop, List.length_nil]; omega) HD8.out.size ?_
          intro v9 u9 hrow9 hgr
          have HD9 : Hid (Below w1.heap.size w1 u9) := Lib.hid (HD8.out.grown hgr HD8.out.size (fun k hk => (HR8.out.lt k hk).1))
          have HR9 := Lib.hid hrow9
          clear hrow9 hgr
          refine hK _ _ ?_
          clear hK K
          try simp only [Act.put, List.setIfInBounds_toArray, List.set_cons_zero, List.set_cons_succ]
          refine wpAny_ready (rs := [7]) (by kernel_rfl) (by simp) ?_
          refine consA rfl (fun K hK => ?_) AllReady.nil
          have cx := HCX.out u9 HD9.out
          go_simp
          refine hK _ _ ?_
          clear hK K cx
          try simp only [Act.put, List.setIfInBounds_toArray, List.set_cons_zero, List.set_cons_succ]
          refine takeA (i := 10) (v := ?_) rfl (by kernel_rfl) (by kernel_rfl) (by kernel_rfl) (fun _ _ _ h => h) (Or.inl ⟨by rfl, ?_⟩) ?_
          rotate_left 1
          focus (intro w; go_simp; try with_reducible rfl)
          try simp only [Act.put, List.setIfInBounds_toArray, List.set_cons_zero, List.set_cons_succ]
          refine wpAny_ready (rs := [11]) (by kernel_rfl) (by simp) ?_
          refine consA rfl (fun K hK => ?_) AllReady.nil
          refine Lo.step_append_items _ rfl _ _ rfl w1.heap.size _ _ ([] ++ (T.take i)) (T.drop (i + 1)) rfl rfl HR9.out (HU3.out _ HD9.out) (by simp only [List.length_append, List.length_take, List.length_drop, List.length_nil]; omega) HD9.out.size ?_
          intro v10 u10 hrow10 hgr
          have HD10 : Hid (Below w1.heap.size w1 u10) := Lib.hid (HD9.out.grown hgr HD9.out.size (fun k hk => (HR9.out.lt k hk).1))
          have HR10 := Lib.hid hrow10
          clear hrow10 hgr
          refine hK _ _ ?_
          clear hK K
          try simp only [Act.put, List.setIfInBounds_toArray, List.set_cons_zero, List.set_cons_succ]
          have hrw := HR10.out
          rw [List.nil_append, ← HWO.out] at hrw
          obtain ⟨A2, cap2, rfl, hcap2, -⟩ := hrw.opened
          have HRW := Lib.hid hrw
          clear hrw
          obtain ⟨x0, x1, xf⟩ := cellsW (boxB X1.out HD10.out)
          obtain ⟨r0, r1, rf⟩ := cellsW (boxB R1.out HD10.out)
          have rf0 := rf 0
          have rf1 := rf 1
          have xf1 := xf 1
          clear xf rf
          refine takeA (i := 12) (v := ?_) rfl (by kernel_rfl) (by kernel_rfl) (by kernel_rfl) (fun _ _ _ h => h) (Or.inl ⟨by rfl, ?_⟩) ?_
          rotate_left 1
          focus (intro w; go_simp; try with_reducible rfl)
          try simp only [Act.put, List.setIfInBounds_toArray, List.set_cons_zero, List.set_cons_succ]
          refine wpAny_ready (rs := [13]) (by kernel_rfl) (by simp) ?_
          refine consA rfl (fun K hK => ?_) AllReady.nil
          go_simp
          refine hK _ _ ?_
          clear hK K
          try simp only [Act.put, List.setIfInBounds_toArray, List.set_cons_zero, List.set_cons_succ]
          refine wpAny_done (by kernel_rfl) ?_ _
          go_wp2_with fail
          all_goals
            refine bodyPost_ret (v := .tuple #[.agg #[.int .u64 (now : Nat), .slice A2 (wo T T[i]).length cap2], .int .i64 0]) (by simp [results, Tryd.results54, go_sem, r0, r1, x0, x1]) rfl ⟨.inr ⟨T[i], List.getElem_mem hi, HIDX.out, _, rfl, ?_⟩, ?_⟩
            · refine (HRW.out.keep fun g hg => ?_).base_le (by omega)
              have := (HRW.out.lt g hg).1
              rw [Below.heap_setCell _ _ _ _ (by simp; omega), Below.heap_setCell _ _ _ _ (by simp; omega), Below.heap_setCell _ _ _ _ (by simp; omega)]
            · exact (((HB1.out.trans (HD10.out.mono HB1.out.size)).setCell (by simp) _).setCell (by simp) _).setCell (by simp) _
        · have cx := HCX.out u8 HD8.out
          go_simp
          refine hK _ _ ?_
          clear hK K cx
          try simp only [Act.put, List.setIfInBounds_toArray, List.set_cons_zero, List.set_cons_succ]
          refine takeA (i := 10) (v := ?_) rfl (by kernel_rfl) (by kernel_rfl) (by kernel_rfl) (fun _ _ _ h => h) (Or.inl ⟨by rfl, ?_⟩) ?_
          rotate_left 1
          focus (intro w; go_simp; try with_reducible rfl)
          try simp only [Act.put, List.setIfInBounds_toArray, List.set_cons_zero, List.set_cons_succ]
          refine wpAny_ready (rs := [5]) (by kernel_rfl) (by simp) ?_
          refine consA rfl (fun K hK => ?_) AllReady.nil
          refine Lo.step_append_items _ rfl _ _ rfl w1.heap.size _ _ [] (T.take i) rfl rfl HR8.out (HU2.out _ HD8.out) (by simp only [List.length_append, List.length_take, List.length_drop, List.length_nil]; omega) HD8.out.size ?_
          intro v11 u11 hrow11 hgr
          have HD11 : Hid (Below w1.heap.size w1 u11) := Lib.hid (HD8.out.grown hgr HD8.out.size (fun k hk => (HR8.out.lt k hk).1))
          have HR11 := Lib.hid hrow11
          clear hrow11 hgr
          refine hK _ _ ?_
          clear hK K
          try simp only [Act.put, List.setIfInBounds_toArray, List.set_cons_zero, List.set_cons_succ]
          refine wpAny_ready (rs := [11]) (by kernel_rfl) (by simp) ?_
          refine consA rfl (fun K hK => ?_) AllReady.nil
          refine Lo.step_append_items _ rfl _ _ rfl w1.heap.size _ _ ([] ++ (T.take i)) (T.drop (i + 1)) rfl rfl HR11.out (HU3.out _ HD11.out) (by simp only [List.length_append, List.length_take, List.length_drop, List.length_nil]; omega) HD11.out.size ?_
          intro v12 u12 hrow12 hgr
          have HD12 : Hid (Below w1.heap.size w1 u12) := Lib.hid (HD11.out.grown hgr HD11.out.size (fun k hk => (HR11.out.lt k hk).1))
          have HR12 := Lib.hid hrow12
          clear hrow12 hgr
          refine hK _ _ ?_
          clear hK K
          try simp only [Act.put, List.setIfInBounds_toArray, List.set_cons_zero, List.set_cons_succ]
          have hrw := HR12.out
          rw [List.nil_append, ← HWO.out] at hrw
          obtain ⟨A2, cap2, rfl, hcap2, -⟩ := hrw.opened
          have HRW := Lib.hid hrw
          clear hrw
          obtain ⟨x0, x1, xf⟩ := cellsW (boxB X1.out HD12.out)
          obtain ⟨r0, r1, rf⟩ := cellsW (boxB R1.out HD12.out)
          have rf0 := rf 0
          have rf1 := rf 1
          have xf1 := xf 1
          clear xf rf
          refine takeA (i := 12) (v := ?_) rfl (by kernel_rfl) (by kernel_rfl) (by kernel_rfl) (fun _ _ _ h => h) (Or.inl ⟨by rfl, ?_⟩) ?_
          rotate_left 1
          focus (intro w; go_simp; try with_reducible rfl)
          try simp only [Act.put, List.setIfInBounds_toArray, List.set_cons_zero, List.set_cons_succ]
          refine wpAny_ready (rs := [13]) (by kernel_rfl) (by simp) ?_
          refine consA rfl (fun K hK => ?_) AllReady.nil
          go_simp
          refine hK _ _ ?_
          clear hK K
          try simp only [Act.put, List.setIfInBounds_toArray, List.set_cons_zero, List.set_cons_succ]
          refine wpAny_done (by kernel_rfl) ?_ _
          go_wp2_with fail
          all_goals
            refine bodyPost_ret (v := .tuple #[.agg #[.int .u64 (now : Nat), .slice A2 (wo T T[i]).length cap2], .int .i64 0]) (by simp [results, Tryd.results54, go_sem, r0, r1, x0, x1]) rfl ⟨.inr ⟨T[i], List.getElem_mem hi, HIDX.out, _, rfl, ?_⟩, ?_⟩
            · refine (HRW.out.keep fun g hg => ?_).base_le (by omega)
              have := (HRW.out.lt g hg).1
              rw [Below.heap_setCell _ _ _ _ (by simp; omega), Below.heap_setCell _ _ _ _ (by simp; omega), Below.heap_setCell _ _ _ _ (by simp; omega)]
            · exact (((HB1.out.trans (HD12.out.mono HB1.out.size)).setCell (by simp) _).setCell (by simp) _).setCell (by simp) _
      · have cx := HCX.out u0 HD0.out
        go_simp
        refine hK _ _ ?_
        clear hK K cx
        try simp only [Act.put, List.setIfInBounds_toArray, List.set_cons_zero, List.set_cons_succ]
        refine takeA (i := 10) (v := ?_) rfl (by kernel_rfl) (by kernel_rfl) (by kernel_rfl) (fun _ _ _ h => h) (Or.inl ⟨by rfl, ?_⟩) ?_
        rotate_left 1
        focus (intro w; go_simp; try with_reducible rfl)
        try simp only [Act.put, List.setIfInBounds_toArray, List.set_cons_zero, List.set_cons_succ]
        refine wpAny_ready (rs := [0]) (by kernel_rfl) (by simp) ?_
        refine consA rfl (fun K hK => ?_) AllReady.nil
        go_simp
        obtain ⟨u13, hu13⟩ : ∃ u, u = u0.alloc (.cells #[] 29) := ⟨_, rfl⟩
        rw [← hu13]
        have hbz : Below u0.heap.size u0 u13 := by rw [hu13]; exact (Below.refl _ _).alloc (Nat.le_refl _) _
        have HD13 : Hid (Below w1.heap.size w1 u13) := Lib.hid (HD0.out.trans (hbz.mono HD0.out.size))
        have HR13 : Hid (IRow 29 u13 w1.heap.size (.slice (some ⟨u0.heap.size, 0, none⟩) 0 0) []) := Lib.hid (by rw [hu13]; exact Lo.row_empty u0 29 _ HD0.out.size)
        clear hbz
        replace hu13 := Lib.hid hu13
        refine hK _ _ ?_
        clear hK K
        try simp only [Act.put, List.setIfInBounds_toArray, List.set_cons_zero, List.set_cons_succ]
        refine wpAny_ready (rs := [5]) (by kernel_rfl) (by simp) ?_
        refine consA rfl (fun K hK => ?_) AllReady.nil
        refine Lo.step_append_items _ rfl _ _ rfl w1.heap.size _ _ [] (T.take i) rfl rfl HR13.out (HU2.out _ HD13.out) (by simp only [List.length_append, List.length_take, List.length_drop, List.length_nil]; omega) HD13.out.size ?_
        intro v14 u14 hrow14 hgr
        have HD14 : Hid (Below w1.heap.size w1 u14) := Lib.hid (HD13.out.grown hgr HD13.out.size (fun k hk => (HR13.out.lt k hk).1))
        have HR14 := Lib.hid hrow14
        clear hrow14 hgr
        refine hK _ _ ?_
        clear hK K
        try simp only [Act.put, List.setIfInBounds_toArray, List.set_cons_zero, List.set_cons_succ]
        refine wpAny_ready (rs := [11]) (by kernel_rfl) (by simp) ?_
        refine consA rfl (fun K hK => ?_) AllReady.nil
        refine Lo.step_append_items _ rfl _ _ rfl w1.heap.size _ _ ([] ++ (T.take i)) (T.drop (i + 1)) rfl rfl HR14.out (HU3.out _ HD14.out) (by simp only [List.length_append, List.length_take, List.length_drop, List.length_nil]; omega) HD14.out.size ?_
        intro v15 u15 hrow15 hgr
        have HD15 : Hid (Below w1.heap.size w1 u15) := Lib.hid (HD14.out.grown hgr HD14.out.size (fun k hk => (HR14.out.lt k hk).1))
        have HR15 := Lib.hid hrow15
        clear hrow15 hgr
        refine hK _ _ ?_
        clear hK K
        try simp only [Act.put, List.setIfInBounds_toArray, List.set_cons_zero, List.set_cons_succ]
        have hrw := HR15.out
        rw [List.nil_append, ← HWO.out] at hrw
        obtain ⟨A2, cap2, rfl, hcap2, -⟩ := hrw.opened
        have HRW := Lib.hid hrw
        clear hrw
        obtain ⟨x0, x1, xf⟩ := cellsW (boxB X1.out HD15.out)
        obtain ⟨r0, r1, rf⟩ := cellsW (boxB R1.out HD15.out)
        have rf0 := rf 0
        have rf1 := rf 1
        have xf1 := xf 1
        clear xf rf
        refine takeA (i := 12) (v := ?_) rfl (by kernel_rfl) (by kernel_rfl) (by kernel_rfl) (fun _ _ _ h => h) (Or.inl ⟨by rfl, ?_⟩) ?_
        rotate_left 1
        focus (intro w; go_simp; try with_reducible rfl)
        try simp only [Act.put, List.setIfInBounds_toArray, List.set_cons_zero, List.set_cons_succ]
        refine wpAny_ready (rs := [13]) (by kernel_rfl) (by simp) ?_
        refine consA rfl (fun K hK => ?_) AllReady.nil
        go_simp
        refine hK _ _ ?_
        clear hK K
        try simp only [Act.put, List.setIfInBounds_toArray, List.set_cons_zero, List.set_cons_succ]
        refine wpAny_done (by kernel_rfl) ?_ _
        go_wp2_with fail
        all_goals
          refine bodyPost_ret (v := .tuple #[.agg #[.int .u64 (now : Nat), .slice A2 (wo T T[i]).length cap2], .int .i64 0]) (by simp [results, Tryd.results54, go_sem, r0, r1, x0, x1]) rfl ⟨.inr ⟨T[i], List.getElem_mem hi, HIDX.out, _, rfl, ?_⟩, ?_⟩
          · refine (HRW.out.keep fun g hg => ?_).base_le (by omega)
            have := (HRW.out.lt g hg).1
            rw [Below.heap_setCell _ _ _ _ (by simp; omega), Below.heap_setCell _ _ _ _ (by simp; omega), Below.heap_setCell _ _ _ _ (by simp; omega)]
          · exact (((HB1.out.trans (HD15.out.mono HB1.out.size)).setCell (by simp) _).setCell (by simp) _).setCell (by simp) _
    · have cx := HCX.out u0 HD0.out
      go_simp
      refine hK _ _ ?_
      clear hK K cx
      try simp only [Act.put, List.setIfInBounds_toArray, List.set_cons_zero, List.set_cons_succ]
      refine takeA (i := 10) (v := ?_) rfl (by kernel_rfl) (by kernel_rfl) (by kernel_rfl) (fun _ _ _ h => h) (Or.inl ⟨by rfl, ?_⟩) ?_
      rotate_left 1
      focus (intro w; go_simp; try with_reducible rfl)
      try simp only [Act.put, List.setIfInBounds_toArray, List.set_cons_zero, List.set_cons_succ]
      refine wpAny_ready (rs := [0, 2]) (by kernel_rfl) (by simp) ?_
      refine consA rfl (fun K hK => ?_) (consA rfl (fun K hK => ?_) AllReady.nil)
      · go_simp
        obtain ⟨u16, hu16⟩ : ∃ u, u = u0.alloc (.cells #[] 29) := ⟨_, rfl⟩
        rw [← hu16]
        have hbz : Below u0.heap.size u0 u16 := by rw [hu16]; exact (Below.refl _ _).alloc (Nat.le_refl _) _
        have HD16 : Hid (Below w1.heap.size w1 u16) := Lib.hid (HD0.out.trans (hbz.mono HD0.out.size))
        have HR16 : Hid (IRow 29 u16 w1.heap.size (.slice (some ⟨u0.heap.size, 0, none⟩) 0 0) []) := Lib.hid (by rw [hu16]; exact Lo.row_empty u0 29 _ HD0.out.size)
        clear hbz
        replace hu16 := Lib.hid hu16
        refine hK _ _ ?_
        clear hK K
        try simp only [Act.put, List.setIfInBounds_toArray, List.set_cons_zero, List.set_cons_succ]
        refine wpAny_ready (rs := [2]) (by kernel_rfl) (by simp) ?_
        refine consA rfl (fun K hK => ?_) AllReady.nil
        have cx := HCX.out u16 HD16.out
        go_simp
        refine hK _ _ ?_
        clear hK K cx
        try simp only [Act.put, List.setIfInBounds_toArray, List.set_cons_zero, List.set_cons_succ]
        refine takeA (i := 4) (v := ?_) rfl (by kernel_rfl) (by kernel_rfl) (by kernel_rfl) (fun _ _ _ h => h) (Or.inl ⟨by rfl, ?_⟩) ?_
        rotate_left 1
        focus (intro w; go_simp; try with_reducible rfl)
        try simp only [Act.put, List.setIfInBounds_toArray, List.set_cons_zero, List.set_cons_succ]
        refine wpAny_ready (rs := [5]) (by kernel_rfl) (by simp) ?_
        refine consA rfl (fun K hK => ?_) AllReady.nil
        refine Lo.step_append_items _ rfl _ _ rfl w1.heap.size _ _ [] (T.take i) rfl rfl HR16.out (HU2.out _ HD16.out) (by simp only [List.length_append, List.length_take, List.length_drop, List.length_nil]; omega) HD16.out.size ?_
        intro v17 u17 hrow17 hgr
        have HD17 : Hid (Below w1.heap.size w1 u17) := Lib.hid (HD16.out.grown hgr HD16.out.size (fun k hk => (HR16.out.lt k hk).1))
        have HR17 := Lib.hid hrow17
        clear hrow17 hgr
        refine hK _ _ ?_
        clear hK K
        try simp only [Act.put, List.setIfInBounds_toArray, List.set_cons_zero, List.set_cons_succ]
        refine wpAny_ready (rs := [11]) (by kernel_rfl) (by simp) ?_
        refine consA rfl (fun K hK => ?_) AllReady.nil
        refine Lo.step_append_items _ rfl _ _ rfl w1.heap.size _ _ ([] ++ (T.take i)) (T.drop (i + 1)) rfl rfl HR17.out (HU3.out _ HD17.out) (by simp only [List.length_append, List.length_take, List.length_drop, List.length_nil]; omega) HD17.out.size ?_
        intro v18 u18 hrow18 hgr
        have HD18 : Hid (Below w1.heap.size w1 u18) := Lib.hid (HD17.out.grown hgr HD17.out.size (fun k hk => (HR17.out.lt k hk).1))
        have HR18 := Lib.hid hrow18
        clear hrow18 hgr
        refine hK _ _ ?_
        clear hK K
        try simp only [Act.put, List.setIfInBounds_toArray, List.set_cons_zero, List.set_cons_succ]
        have hrw := HR18.out
        rw [List.nil_append, ← HWO.out] at hrw
        obtain ⟨A2, cap2, rfl, hcap2, -⟩ := hrw.opened
        have HRW := Lib.hid hrw
        clear hrw
        obtain ⟨x0, x1, xf⟩ := cellsW (boxB X1.out HD18.out)
        obtain ⟨r0, r1, rf⟩ := cellsW (boxB R1.out HD18.out)
        have rf0 := rf 0
        have rf1 := rf 1
        have xf1 := xf 1
        clear xf rf
        refine takeA (i := 12) (v := ?_) rfl (by kernel_rfl) (by kernel_rfl) (by kernel_rfl) (fun _ _ _ h => h) (Or.inl ⟨by rfl, ?_⟩) ?_
        rotate_left 1
        focus (intro w; go_simp; try with_reducible rfl)
        try simp only [Act.put, List.setIfInBounds_toArray, List.set_cons_zero, List.set_cons_succ]
        refine wpAny_ready (rs := [13]) (by kernel_rfl) (by simp) ?_
        refine consA rfl (fun K hK => ?_) AllReady.nil
        go_simp
        refine hK _ _ ?_
        clear hK K
        try simp only [Act.put, List.setIfInBounds_toArray, List.set_cons_zero, List.set_cons_succ]
        refine wpAny_done (by kernel_rfl) ?_ _
        go_wp2_with fail
        all_goals
          refine bodyPost_ret (v := .tuple #[.agg #[.int .u64 (now : Nat), .slice A2 (wo T T[i]).length cap2], .int .i64 0]) (by simp [results, Tryd.results54, go_sem, r0, r1, x0, x1]) rfl ⟨.inr ⟨T[i], List.getElem_mem hi, HIDX.out, _, rfl, ?_⟩, ?_⟩
          · refine (HRW.out.keep fun g hg => ?_).base_le (by omega)
            have := (HRW.out.lt g hg).1
            rw [Below.heap_setCell _ _ _ _ (by simp; omega), Below.heap_setCell _ _ _ _ (by simp; omega), Below.heap_setCell _ _ _ _ (by simp; omega)]
          · exact (((HB1.out.trans (HD18.out.mono HB1.out.size)).setCell (by simp) _).setCell (by simp) _).setCell (by simp) _
      · have cx := HCX.out u0 HD0.out
        go_simp
        refine hK _ _ ?_
        clear hK K cx
        try simp only [Act.put, List.setIfInBounds_toArray, List.set_cons_zero, List.set_cons_succ]
        refine takeA (i := 4) (v := ?_) rfl (by kernel_rfl) (by kernel_rfl) (by kernel_rfl) (fun _ _ _ h => h) (Or.inl ⟨by rfl, ?_⟩) ?_
        rotate_left 1
        focus (intro w; go_simp; try with_reducible rfl)
        try simp only [Act.put, List.setIfInBounds_toArray, List.set_cons_zero, List.set_cons_succ]
        refine wpAny_ready (rs := [0]) (by kernel_rfl) (by simp) ?_
        refine consA rfl (fun K hK => ?_) AllReady.nil
        go_simp
        obtain ⟨u19, hu19⟩ : ∃ u, u = u0.alloc (.cells #[] 29) := ⟨_, rfl⟩
        rw [← hu19]
        have hbz : Below u0.heap.size u0 u19 := by rw [hu19]; exact (Below.refl _ _).alloc (Nat.le_refl _) _
        have HD19 : Hid (Below w1.heap.size w1 u19) := Lib.hid (HD0.out.trans (hbz.mono HD0.out.size))
        have HR19 : Hid (IRow 29 u19 w1.heap.size (.slice (some ⟨u0.heap.size, 0, none⟩) 0 0) []) := Lib.hid (by rw [hu19]; exact Lo.row_empty u0 29 _ HD0.out.size)
        clear hbz
        replace hu19 := Lib.hid hu19
        refine hK _ _ ?_
        clear hK K
        try simp only [Act.put, List.setIfInBounds_toArray, List.set_cons_zero, List.set_cons_succ]
        refine wpAny_ready (rs := [5]) (by kernel_rfl) (by simp) ?_
        refine consA rfl (fun K hK => ?_) AllReady.nil
        refine Lo.step_append_items _ rfl _ _ rfl w1.heap.size _ _ [] (T.take i) rfl rfl HR19.out (HU2.out _ HD19.out) (by simp only [List.length_append, List.length_take, List.length_drop, List.length_nil]; omega) HD19.out.size ?_
        intro v20 u20 hrow20 hgr
        have HD20 : Hid (Below w1.heap.size w1 u20) := Lib.hid (HD19.out.grown hgr HD19.out.size (fun k hk => (HR19.out.lt k hk).1))
        have HR20 := Lib.hid hrow20
        clear hrow20 hgr
        refine hK _ _ ?_
        clear hK K
        try simp only [Act.put, List.setIfInBounds_toArray, List.set_cons_zero, List.set_cons_succ]
        refine wpAny_ready (rs := [11]) (by kernel_rfl) (by simp) ?_
        refine consA rfl (fun K hK => ?_) AllReady.nil
        refine Lo.step_append_items _ rfl _ _ rfl w1.heap.size _ _ ([] ++ (T.take i)) (T.drop (i + 1)) rfl rfl HR20.out (HU3.out _ HD20.out) (by simp only [List.length_append, List.length_take, List.length_drop, List.length_nil]; omega) HD20.out.size ?_
        intro v21 u21 hrow21 hgr
        have HD21 : Hid (Below w1.heap.size w1 u21) := Lib.hid (HD20.out.grown hgr HD20.out.size (fun k hk => (HR20.out.lt k hk).1))
        have HR21 := Lib.hid hrow21
        clear hrow21 hgr
        refine hK _ _ ?_
        clear hK K
        try simp only [Act.put, List.setIfInBounds_toArray, List.set_cons_zero, List.set_cons_succ]
        have hrw := HR21.out
        rw [List.nil_append, ← HWO.out] at hrw
        obtain ⟨A2, cap2, rfl, hcap2, -⟩ := hrw.opened
        have HRW := Lib.hid hrw
        clear hrw
        obtain ⟨x0, x1, xf⟩ := cellsW (boxB X1.out HD21.out)
        obtain ⟨r0, r1, rf⟩ := cellsW (boxB R1.out HD21.out)
        have rf0 := rf 0
        have rf1 := rf 1
        have xf1 := xf 1
        clear xf rf
        refine takeA (i := 12) (v := ?_) rfl (by kernel_rfl) (by kernel_rfl) (by kernel_rfl) (fun _ _ _ h => h) (Or.inl ⟨by rfl, ?_⟩) ?_
        rotate_left 1
        focus (intro w; go_simp; try with_reducible rfl)
        try simp only [Act.put, List.setIfInBounds_toArray, List.set_cons_zero, List.set_cons_succ]
        refine wpAny_ready (rs := [13]) (by kernel_rfl) (by simp) ?_
        refine consA rfl (fun K hK => ?_) AllReady.nil
        go_simp
        refine hK _ _ ?_
        clear hK K
        try simp only [Act.put, List.setIfInBounds_toArray, List.set_cons_zero, List.set_cons_succ]
        refine wpAny_done (by kernel_rfl) ?_ _
        go_wp2_with fail
        all_goals
          refine bodyPost_ret (v := .tuple #[.agg #[.int .u64 (now : Nat), .slice A2 (wo T T[i]).length cap2], .int .i64 0]) (by simp [results, Tryd.results54, go_sem, r0, r1, x0, x1]) rfl ⟨.inr ⟨T[i], List.getElem_mem hi, HIDX.out, _, rfl, ?_⟩, ?_⟩
          · refine (HRW.out.keep fun g hg => ?_).base_le (by omega)
            have := (HRW.out.lt g hg).1
            rw [Below.heap_setCell _ _ _ _ (by simp; omega), Below.heap_setCell _ _ _ _ (by simp; omega), Below.heap_setCell _ _ _ _ (by simp; omega)]
          · exact (((HB1.out.trans (HD21.out.mono HB1.out.size)).setCell (by simp) _).setCell (by simp) _).setCell (by simp) _
end Wh
end Go.Proofs.YtkjlfoihojfnbaaDoor
