/- A wheel's place. -/
import Derived.Test.YtkjlfoihojfnbaaDoorWhC
namespace Go.Proofs.YtkjlfoihojfnbaaDoor
open Go.RowKit
set_option linter.unusedVariables false
set_option linter.unusedSimpArgs false
namespace Wh
open Lv (slotOf slotOf_lt turnOf startOf W64 fits_any)
open Ln (LV upd only_set only_refl)
open Lo (IRow KB St Own updL ChgOut itcs itcs_app below_drew put_any)
variable {base b now : Nat} {w w' w1 : World} {V V' : WV} {L : Nat → Nat → List (Nat × Nat)} {D F M : List (Nat × Nat)} {P : Nat × Nat → Prop}
/-- What is there behind a change that leaves the time: the timers P are placed. -/
def Placed (base : Nat) (w w' : World) (b now : Nat) (V : WV) (M : List (Nat × Nat)) (P : Nat × Nat → Prop) : Prop :=
  ∃ V' L' D' F', WW base w' b now V' L' D' F' M ∧ Pl now L' D' F' P ∧ Chg w w' (Any b V) (Any b V')
theorem Placed.begun {W0 : World} (h : Placed base W0 w' b now V M P) (hb : Below w.heap.size w W0) : Placed base w w' b now V M P := by
  obtain ⟨V', L', D', F', h1, h2, h3⟩ := h
  exact ⟨V', L', D', F', h1, h2, (Chg.of_below _ hb).trans h3⟩
theorem below_drewN {m : Nat} {w W : World} (h : Below m w W) (n : Nat) : Below m w (W.drewN n) := ⟨h.os, h.tape, h.output, h.size, h.block⟩
theorem appD (h : WW base w b now V L D F M) {x : Nat × Nat} (hp : Pl now L D F P) (hx : ¬ P x) (hd : x.2 ≤ now) {W : World} (hW : Below w.heap.size w W) {g cap' : Nat} {Z : Obj} (hgrow : (W.alloc Z).grownBy w' V.vd.ownBlock)
    (hown : w'.ownsRow base 34 2 (.slice (some ⟨g, 0, none⟩) (D.length + 1) cap') (D.length + 1) (itcs D ++ [.int .u64 (x.1 : Nat), .int .u64 (x.2 : Nat)])) (hat : V.vd.ownBlock = some g ∨ g = (W.alloc Z).heap.size) :
    Placed base w (w'.setCell ⟨b, 6, none⟩ (.slice (some ⟨g, 0, none⟩) (D.length + 1) cap')) b now V M (fun y => P y ∨ y = x) := by
  have hz : (W.alloc Z).heap.size = W.heap.size + 1 := by rw [World.size_alloc]
  have hs := hW.size
  have row' : IRow 34 w' base (.slice (some ⟨g, 0, none⟩) (D.length + 1) cap') (D ++ [x]) := by
    unfold IRow
    rw [itcs_app, List.length_append]
    exact hown
  have kb : KB w w' (fun j => V.vd.ownBlock = some j) := (KB.of_below _ (hW.trans ((Below.refl W.heap.size W |>.alloc (Nat.le_refl _) Z).mono hs))).trans (KB.of_grown (fun j => V.vd.ownBlock = some j) hgrow (fun j e => e)) (fun j _ e => e)
  obtain ⟨q1, q2⟩ := h.setD kb row' (fun j hj => by
    have hj' : some g = some j := hj
    injection hj' with hj'
    subst hj'
    rcases hat with e | e
    · exact .inl e
    · exact .inr (by omega))
  exact ⟨_, _, _, _, q1, hp.putD hx hd, q2⟩
theorem appF (h : WW base w b now V L D F M) {x : Nat × Nat} (hp : Pl now L D F P) (hx : ¬ P x) (hd : q 4 now < q 4 x.2) {W : World} (hW : Below w.heap.size w W) {g cap' : Nat} {Z : Obj} (hgrow : (W.alloc Z).grownBy w' V.vf.ownBlock)
    (hown : w'.ownsRow base 34 2 (.slice (some ⟨g, 0, none⟩) (F.length + 1) cap') (F.length + 1) (itcs F ++ [.int .u64 (x.1 : Nat), .int .u64 (x.2 : Nat)])) (hat : V.vf.ownBlock = some g ∨ g = (W.alloc Z).heap.size) :
    Placed base w (w'.setCell ⟨b, 7, none⟩ (.slice (some ⟨g, 0, none⟩) (F.length + 1) cap')) b now V M (fun y => P y ∨ y = x) := by
  have hz : (W.alloc Z).heap.size = W.heap.size + 1 := by rw [World.size_alloc]
  have hs := hW.size
  have row' : IRow 34 w' base (.slice (some ⟨g, 0, none⟩) (F.length + 1) cap') (F ++ [x]) := by
    unfold IRow
    rw [itcs_app, List.length_append]
    exact hown
  have kb : KB w w' (fun j => V.vf.ownBlock = some j) := (KB.of_below _ (hW.trans ((Below.refl W.heap.size W |>.alloc (Nat.le_refl _) Z).mono hs))).trans (KB.of_grown (fun j => V.vf.ownBlock = some j) hgrow (fun j e => e)) (fun j _ e => e)
  obtain ⟨q1, q2⟩ := h.setF kb row' (fun j hj => by
    have hj' : some g = some j := hj
    injection hj' with hj'
    subst hj'
    rcases hat with e | e
    · exact .inl e
    · exact .inr (by omega))
  exact ⟨_, _, _, _, q1, hp.putF hx hd, q2⟩
set_option maxRecDepth 100000 in
set_option maxHeartbeats 4000000 in
theorem place_due (x : Nat × Nat) (h : WW base w b now V L D F M) (hp : Pl now L D F P) (hx : ¬ P x) (hd : x.2 ≤ now) (hbase : base ≤ w.heap.size) (hl : D.length ≤ 1000) :
    Calls Tryd.prog 47 #[.pointer (some ⟨b, 0, none⟩), .agg #[.int .u64 (x.1 : Nat), .int .u64 (x.2 : Nat)]] w fun e w' => (∃ v, e = .returned v) ∧ Placed base w w' b now V M (fun y => P y ∨ y = x) := by
  obtain ⟨i0, hi0, hz0, hz1, hz2⟩ := info_parts Lo.Tryd.infoI2
  obtain ⟨W0, hW0⟩ : ∃ W0, W0 = w.alloc (.cells #[.int .u64 (x.1 : Nat), .int .u64 (x.2 : Nat)] 34) := ⟨_, rfl⟩
  have hb0 : Below w.heap.size w W0 := by rw [hW0]; exact (Below.refl _ _).alloc (Nat.le_refl _) _
  have hx0 : W0.heap[w.heap.size]? = some (.cells #[.int .u64 (x.1 : Nat), .int .u64 (x.2 : Nat)] 34 (0, 0)) := by rw [hW0]; exact heap_alloc_new w _
  have hzw : w.heap.size < W0.heap.size := by rw [hW0]; simp
  have x0 : W0.cell? ⟨w.heap.size, 0, none⟩ = some (.int .u64 (x.1 : Nat)) := by simp [World.cell?, hx0]
  have x1 : W0.cell? ⟨w.heap.size, 1, none⟩ = some (.int .u64 (x.2 : Nat)) := by simp [World.cell?, hx0]
  have h0 := h.later hb0
  obtain ⟨c0, -, -, c6, -, fz⟩ := h0.cells
  obtain ⟨AD, capD, hvd, hcD, -⟩ := h0.due.opened
  rw [hvd] at c6
  have hle : (x.2 : Int) ≤ now := by omega
  have H0 := Lib.hid h0
  have HB0 := Lib.hid hb0
  have HP := Lib.hid hp
  have HX := Lib.hid hx
  have HVD := Lib.hid hvd
  have hbb : base ≤ W0.heap.size := Nat.le_trans hbase hb0.size
  have h1c : Hid (∀ u ∈ [Value.int .u64 (x.1 : Nat), .int .u64 (x.2 : Nat)], u.oneCell' = true) := Lib.hid (by intro u hu; simp at hu; rcases hu with rfl | rfl <;> rfl)
  have HRW : Hid (∀ Z, (W0.drew.drew.alloc Z).ownsRow base 34 2 (.slice AD D.length capD) D.length (itcs D)) := Lib.hid fun Z => by
    have e := IRow.keep (w' := W0.drew.drew.alloc Z) H0.out.due (fun g hg => heap_alloc_old W0.drew.drew Z (H0.out.due.lt g hg).2)
    rw [hvd] at e
    exact e
  have hblt : b < W0.heap.size := h0.lt b ⟨6, by omega, rfl⟩
  have HNB : Hid (some b ≠ (Value.slice AD D.length capD).ownBlock) := Lib.hid (by rw [← hvd]; exact fun e => h0.apart 4 6 (by omega) (by omega) (by omega) b e.symm rfl)
  have fz6 := fz 6
  have HBK : Hid (∀ Z, (W0.drew.drew.alloc Z).heap[b]? = some (.cells (whCells now V) 88 (0, 0))) := Lib.hid fun Z => (heap_alloc_old W0.drew.drew Z hblt).trans h0.blk
  have HLT : Hid (∀ Z, b < (W0.drew.drew.alloc Z).heap.size) := Lib.hid fun Z => by rw [World.size_alloc]; exact Nat.lt_succ_of_lt hblt
  replace hW0 := Lib.hid hW0
  clear h h0 hb0 hx0 hp hx hd fz hvd
  go_enter Tryd.func47, Tryd.ntmps47
  go_upto_region 1 with fail
  rw [← hW0.out]
  go_region
  go_wp2_with fail
  go_region_law (refine step_append_lies _ rfl (.tmp 17) (.tmp 19) 39 rfl base 34 i0 _ 2 16 Tryd.underlying39 hi0 hz0 hz1 hz2 rfl (by decide) _ D.length (itcs D) (by simp [Act.eval]; try rfl) (HRW.out _) ⟨_, 0, none⟩ 1 1 [.int .u64 (x.1 : Nat), .int .u64 (x.2 : Nat)] (by simp [Act.eval]; try rfl) rfl (World.news_of_block (heap_alloc_new _ _)) h1c.out (by decide) (by simp only [maxLen]; omega) (by omega) (by simp; omega) _ rfl ?_; intro g cap' w' hown' hgrow hat hrl; have hbk := (hgrow.block b (HLT.out _) HNB.out).trans (HBK.out _); have kf : w'.frozen? ⟨b, 6, none⟩ = false := Lo.free_block hbk 6; have kc : w'.cell? ⟨b, 6, none⟩ = some V.vd := Lo.cell_block hbk 6; clear hbk)
  all_goals
    go_wp2_with fail
    refine bodyPost_ret (results_none rfl _ _ _) rfl ?_
    refine ⟨⟨_, rfl⟩, ?_⟩
    exact (appD H0.out HP.out HX.out (by omega) (W := W0.drew.drew) (below_drew (below_drew (Below.refl _ _))) (by rw [HVD.out]; exact hgrow) hown' (by rw [HVD.out]; exact hat)).begun HB0.out
/-- The array of the levels. -/
def lvArr (V : WV) : Array Value := #[.pointer (some ⟨V.bl 0, 0, none⟩), .pointer (some ⟨V.bl 1, 0, none⟩), .pointer (some ⟨V.bl 2, 0, none⟩), .pointer (some ⟨V.bl 3, 0, none⟩)]
theorem index_lv (V : WV) (i : Nat) (hi : i < 4) (W : World) : (Instr.index 86 (.agg (lvArr V)) (.int .i64 (i : Int))).run Tryd.prog W = .ok (.pointer (some ⟨V.bl i, 0, none⟩)) W := by
  have t := Tryd.underlying86
  rcases (by omega : i = 0 ∨ i = 1 ∨ i = 2 ∨ i = 3) with rfl | rfl | rfl | rfl <;> simp [Instr.index, run_underlying t, asIntOf, lvArr, go_sem]
theorem load_lv (h : WW base w b now V L D F M) : (Instr.loadAt 86 (.pointer (some ⟨b, 2, none⟩))).run Tryd.prog w = .ok (.agg (lvArr V)) w := by
  obtain ⟨-, -, c, -⟩ := h.cells
  have hlc : (loadCells ⟨b, 2, none⟩ 4).run Tryd.prog w = .ok ((List.range 4).map fun i => Value.pointer (some ⟨V.bl i, 0, none⟩)).toArray w := run_loadCells (P := Tryd.prog) w ⟨b, 2, none⟩ 4 (fun i => Value.pointer (some ⟨V.bl i, 0, none⟩)) (fun j hj => by
    have h := c j hj
    cases j <;> simp_all [Addr.add, Nat.add_comm])
  have ha := Tryd.isAgg86
  have hz := Tryd.sizeOf86
  have e : ((List.range 4).map fun i => Value.pointer (some ⟨V.bl i, 0, none⟩)).toArray = lvArr V := rfl
  rw [e] at hlc
  generalize lvArr V = arr at *
  simp [Instr.loadAt, Instr.sureAddr, loadVar, ha, hz, hlc]
/-- Putting into a level. -/
theorem putL (h : WW base w b now V L D F M) {x : Nat × Nat} (hp : Pl now L D F P) (hx : ¬ P x) {i : Nat} (hi : i < 4) (h1 : q i now < q i x.2) (h2 : q (i + 1) now = q (i + 1) x.2) (ha : x.2 < 18446744073709551616) (hbase : base ≤ w.heap.size) (hl : ∀ s, s < 64 → (L i s).length ≤ 1000)
    {W : World} (hW : Below w.heap.size w W) :
    Calls Tryd.prog 12 #[.pointer (some ⟨V.bl i, 0, none⟩), .agg #[.int .u64 (x.1 : Nat), .int .u64 (x.2 : Nat)]] W fun e w' => e = .returned (.bool true) ∧ Placed base w w' b now V M (fun y => P y ∨ y = x) := by
  have hs := slotOf_lt i x.2
  obtain ⟨hnew, hpl⟩ := hp.putL hx hi h1 h2
  have hWW := h.later hW
  have st := hWW.lev i hi
  refine (put_any x (by omega) ha base (V.m i) (L i (slotOf i x.2)) (Nat.le_trans hbase hW.size) (hl _ hs) st.mlt (st.rows _ hs) (st.nob _ hs) st.lv).mono fun e w' he => ?_
  rcases he with ⟨-, e2, -⟩ | ⟨e1, -, e3⟩
  · exact absurd e2 hnew
  · obtain ⟨f', m', s1, s2, s3⟩ := st.chg hs (e3.chg)
    obtain ⟨V', q1, q2, -⟩ := hWW.level hi s1 s2 s3
    exact ⟨e1, V', _, _, _, q1, hpl, (Chg.of_below _ hW).trans q2⟩
theorem fit_iff (i now at' : Nat) : ((turnOf i now : Int) == (turnOf i at' : Int)) = decide (q (i + 1) now = q (i + 1) at') := by
  rw [q_turn, q_turn, Bool.eq_iff_iff, beq_iff_eq, decide_eq_true_eq]; omega
set_option maxRecDepth 100000 in
set_option maxHeartbeats 4000000 in
theorem place_up (x : Nat × Nat) (h : WW base w b now V L D F M) (hp : Pl now L D F P) (hx : ¬ P x) (hd : now < x.2) (ha : x.2 < 18446744073709551616) (hbase : base ≤ w.heap.size) (hl : ∀ i s, i < 4 → s < 64 → (L i s).length ≤ 1000) (hlF : F.length ≤ 1000) :
    Calls Tryd.prog 47 #[.pointer (some ⟨b, 0, none⟩), .agg #[.int .u64 (x.1 : Nat), .int .u64 (x.2 : Nat)]] w fun e w' => (∃ v, e = .returned v) ∧ Placed base w w' b now V M (fun y => P y ∨ y = x) := by
  obtain ⟨i0, hi0, hz0, hz1, hz2⟩ := info_parts Lo.Tryd.infoI2
  obtain ⟨W0, hW0⟩ : ∃ W0, W0 = w.alloc (.cells #[.int .u64 (x.1 : Nat), .int .u64 (x.2 : Nat)] 34) := ⟨_, rfl⟩
  have hb0 : Below w.heap.size w W0 := by rw [hW0]; exact (Below.refl _ _).alloc (Nat.le_refl _) _
  have hx0 : W0.heap[w.heap.size]? = some (.cells #[.int .u64 (x.1 : Nat), .int .u64 (x.2 : Nat)] 34 (0, 0)) := by rw [hW0]; exact heap_alloc_new w _
  have hzw : w.heap.size < W0.heap.size := by rw [hW0]; simp
  have HXX : Hid (∀ W, Below W0.heap.size W0 W → W.cell? ⟨w.heap.size, 0, none⟩ = some (.int .u64 (x.1 : Nat)) ∧ W.cell? ⟨w.heap.size, 1, none⟩ = some (.int .u64 (x.2 : Nat))) := Lib.hid fun W hW => by
    have h := (hW.block w.heap.size hzw).trans hx0
    exact ⟨by simp [World.cell?, h], by simp [World.cell?, h]⟩
  obtain ⟨x0, x1⟩ := HXX.out W0 (Below.refl _ _)
  have h0 := h.later hb0
  obtain ⟨c0, -, -, -, c7, fz⟩ := h0.cells
  obtain ⟨AF, capF, hvf, hcF, -⟩ := h0.far.opened
  have hle : ¬ ((x.2 : Int) ≤ now) := by omega
  have H0 := Lib.hid h0
  have HB0 := Lib.hid hb0
  have HP := Lib.hid hp
  have HX := Lib.hid hx
  have HVF := Lib.hid hvf
  have HL := Lib.hid hl
  have HD := Lib.hid hd
  have hbb : base ≤ W0.heap.size := Nat.le_trans hbase hb0.size
  have HLD := Lib.hid (load_lv (h0.later (w' := W0.drew) (below_drew (Below.refl _ _))))
  obtain ⟨arr, harr⟩ : ∃ a : Array Value, a = lvArr V := ⟨_, rfl⟩
  have HI : Hid (∀ (i : Nat) (hi : i < 4) (W : World), (Instr.index 86 (.agg arr) (.int .i64 (i : Int))).run Tryd.prog W = .ok (.pointer (some ⟨V.bl i, 0, none⟩)) W) := Lib.hid fun i hi W => by rw [harr]; exact index_lv V i hi W
  rw [← harr] at HLD
  replace harr := Lib.hid harr
  replace hW0 := Lib.hid hW0
  clear h h0 hb0 hx0 hp hx hd fz hvf hl
  go_enter Tryd.func47, Tryd.ntmps47
  go_upto_region 1 with fail
  rw [← hW0.out]
  go_region
  go_wp2_with (refine Lo.wpList_load_run W0.drew rfl 86 (.tmp 25) rfl (.agg arr) (.pointer (some ⟨b, 2, none⟩)) rfl HLD.out ?_)
  go_loopw [5, 27] (fun _ vi wr => ∃ i : Nat, vi = .int .i64 (i : Int) ∧ i ≤ 4 ∧ Hid (∀ j, j < i → q (j + 1) now ≠ q (j + 1) x.2) ∧ Below W0.heap.size W0 wr) (fun _ vi _ => 5 - (intOf vi).toNat)
  case atStart => exact ⟨0, rfl, by omega, Lib.hid (fun j hj => by omega), below_drew (Below.refl _ _)⟩
  case round =>
    obtain ⟨i, rfl, hi, HN, hbr⟩ := hrel
    rename_i wr
    have HBR := Lib.hid hbr
    obtain ⟨x0, x1⟩ := HXX.out wr hbr
    have hr := H0.out.later hbr
    by_cases hi4 : i < 4
    · have hi4' : (i : Int) < 4 := by omega
      have hix := HI.out i hi4
      have hq := HN.out
      obtain ⟨c0, -⟩ := hr.cells
      have hcl := (hr.lev i hi4).lv.n
      have HR := Lib.hid hr
      by_cases hf : q (i + 1) now = q (i + 1) x.2
      · have hfit : ((turnOf i now : Int) == (turnOf i x.2 : Int)) = true := by rw [fit_iff]; exact decide_eq_true hf
        have HFT := Lib.hid (fun W (hc : W.cell? ⟨V.bl i, 0, none⟩ = some (.int .i64 i)) => fits_any i (by omega) (V.bl i) now x.2 W hc)
        rw [hfit] at HFT
        have HF := Lib.hid hf
        clear hr hbr hfit hf hq
        go_wp2_with fail
        go_quiet ((go_at_call 63; exact Calls.quiet_of_same ((HFT.out _ (by simpa using hcl)).mono fun _ _ h => ⟨h.1, h.2.symm⟩)))
        go_wp2_with fail
        refine (putL HR.out HP.out HX.out hi4 (up_lt HD.out HN.out) HF.out ha (Nat.le_trans hbb HBR.out.size) (HL.out i · hi4) (below_drewN (Below.refl _ _) _)).mono ?_
        rintro e w9 ⟨rfl, hpl⟩
        have HPL := Lib.hid hpl
        clear hpl
        go_wp2_with fail
        refine bodyPost_ret (results_none rfl _ _ _) rfl ?_
        exact ⟨⟨_, rfl⟩, HPL.out.begun (HB0.out.trans (HBR.out.mono HB0.out.size))⟩
      · have hfit : ((turnOf i now : Int) == (turnOf i x.2 : Int)) = false := by rw [fit_iff]; exact decide_eq_false hf
        have HFT := Lib.hid (fun W (hc : W.cell? ⟨V.bl i, 0, none⟩ = some (.int .i64 i)) => fits_any i (by omega) (V.bl i) now x.2 W hc)
        rw [hfit] at HFT
        have HN2 : Hid (∀ j, j < i + 1 → q (j + 1) now ≠ q (j + 1) x.2) := Lib.hid fun j hj => by
          by_cases e : j = i
          · rw [e]; exact hf
          · exact hq j (by omega)
        clear hr hbr hfit hf hq
        go_wp2_with fail
        go_quiet ((go_at_call 63; exact Calls.quiet_of_same ((HFT.out _ (by simpa using hcl)).mono fun _ _ h => ⟨h.1, h.2.symm⟩)))
        go_wp2_with fail
        exact ⟨⟨i + 1, rfl, by omega, HN2, below_drewN HBR.out _⟩, by simp [intOf]; omega⟩
    · have hi4' : ¬ ((i : Int) < 4) := by omega
      have HN4 : Hid (q 4 now < q 4 x.2) := Lib.hid (up_lt (i := 4) HD.out fun j hj => HN.out j (by omega))
      obtain ⟨-, -, -, -, c7, fz⟩ := hr.cells
      rw [HVF.out] at c7
      have fz7 := fz 7
      have hblt : b < wr.heap.size := hr.lt b ⟨6, by omega, rfl⟩
      have h1c : Hid (∀ u ∈ [Value.int .u64 (x.1 : Nat), .int .u64 (x.2 : Nat)], u.oneCell' = true) := Lib.hid (by intro u hu; simp at hu; rcases hu with rfl | rfl <;> rfl)
      have HRW : Hid (∀ Z, (wr.drew.alloc Z).ownsRow base 34 2 (.slice AF F.length capF) F.length (itcs F)) := Lib.hid fun Z => by
        have e := IRow.keep (w' := wr.drew.alloc Z) hr.far (fun g hg => heap_alloc_old wr.drew Z (hr.far.lt g hg).2)
        rw [HVF.out] at e
        exact e
      have HNB : Hid (some b ≠ (Value.slice AF F.length capF).ownBlock) := Lib.hid (by rw [← HVF.out]; exact fun e => hr.apart 5 6 (by omega) (by omega) (by omega) b e.symm rfl)
      have HBK : Hid (∀ Z, (wr.drew.alloc Z).heap[b]? = some (.cells (whCells now V) 88 (0, 0))) := Lib.hid fun Z => (heap_alloc_old wr.drew Z hblt).trans hr.blk
      have HLT : Hid (∀ Z, b < (wr.drew.alloc Z).heap.size) := Lib.hid fun Z => by rw [World.size_alloc]; exact Nat.lt_succ_of_lt hblt
      have hbbr : base ≤ wr.heap.size := Nat.le_trans hbb hbr.size
      have HR := Lib.hid hr
      clear hr hbr fz
      go_wp2_with fail
      go_region_law (refine step_append_lies _ rfl (.tmp 46) (.tmp 48) 39 rfl base 34 i0 _ 2 16 Tryd.underlying39 hi0 hz0 hz1 hz2 rfl (by decide) _ F.length (itcs F) (by simp [Act.eval]; try rfl) (HRW.out _) ⟨_, 0, none⟩ 1 1 [.int .u64 (x.1 : Nat), .int .u64 (x.2 : Nat)] (by simp [Act.eval]; try rfl) rfl (World.news_of_block (heap_alloc_new _ _)) h1c.out (by decide) (by simp only [maxLen]; omega) (by omega) (by simp; omega) _ rfl ?_; intro g cap' w' hown' hgrow hat hrl; have hbk := (hgrow.block b (HLT.out _) HNB.out).trans (HBK.out _); have kf : w'.frozen? ⟨b, 7, none⟩ = false := Lo.free_block hbk 7; have kc : w'.cell? ⟨b, 7, none⟩ = some V.vf := Lo.cell_block hbk 7; clear hbk)
      all_goals
        go_wp2_with fail
        refine bodyPost_end (results_none rfl _ _ _) rfl ?_
        refine ⟨⟨_, rfl⟩, ?_⟩
        exact (appF HR.out HP.out HX.out HN4.out (W := wr.drew) (below_drew (Below.refl _ _)) (by rw [HVF.out]; exact hgrow) hown' (by rw [HVF.out]; exact hat)).begun (HB0.out.trans (HBR.out.mono HB0.out.size))
end Wh
end Go.Proofs.YtkjlfoihojfnbaaDoor
