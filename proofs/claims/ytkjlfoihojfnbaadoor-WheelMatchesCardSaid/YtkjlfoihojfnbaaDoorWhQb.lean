/- WheelMatches: the walk of play, of the law, the opener (WhPb and WhPc in one). -/
import Derived.Test.YtkjlfoihojfnbaaDoorWhQa
import Derived.Test.YtkjlfoihojfnbaaDoorWhDb
namespace Go.Proofs.YtkjlfoihojfnbaaDoor
open Go.RowKit
set_option linter.unusedVariables false
set_option linter.unusedSimpArgs false
namespace Wh
open Lo (IRow KB Lies LiesO below_drew bef Deb wo back_any equal_same take_drop cons_drop)
variable {base b bx rx xb x2 nw nm t now : Nat} {w w' w0 wr w1 : World} {T TW : List (Nat × Nat)} {v : Value}
theorem cells3 {g : Nat} {a c d : Value} {t : TypeId} (h : w.heap[g]? = some (.cells #[a, c, d] t (0, 0))) : w.cell? ⟨g, 0, none⟩ = some a ∧ w.cell? ⟨g, 1, none⟩ = some c ∧ w.cell? ⟨g, 2, none⟩ = some d := ⟨by simp [World.cell?, h], by simp [World.cell?, h], by simp [World.cell?, h]⟩
theorem cellsT {g : Nat} {a c d : Value} {t : TypeId} (h : w.heap[g]? = some (.cells #[a, c, d] t (0, 0))) : w.cell? ⟨g, 1, none⟩ = some c := (cells3 h).2.1
theorem noId_le (T : List (Nat × Nat)) (id : Nat) : (noId T id).length ≤ T.length := List.length_filter_le _ _
theorem advT_le (now : Nat) (T : List (Nat × Nat)) (t : Nat) : (advT now T t).length ≤ T.length := by
  unfold advT
  split
  · exact List.length_filter_le _ _
  · exact Nat.le_refl _
theorem advD_le (now : Nat) (T : List (Nat × Nat)) (t : Nat) : (advD now T t).length ≤ T.length := by
  unfold advD
  split
  · exact List.length_filter_le _ _
  · simp
set_option maxRecDepth 100000 in
set_option maxHeartbeats 8000000 in
theorem play_walk (st : Nat) (A : Option Addr) (cap : Nat) (ops : List WOp) {S : Nat → Prop} (w0 w : World) (h : Whl base w b st [] S) (hS : ∀ g, S g → base ≤ g ∧ g < w.heap.size) (bel : Below base w0 w) (hw0 : base = w0.heap.size) (hin : WOpsIn w0 A cap ops) (hlen : ops.length ≤ 100) (hd : Deb w0) :
    Calls Tryd.prog 36 #[.pointer (some ⟨b, 0, none⟩), .agg #[.int .u64 (st : Nat), .slice none 0 0], .slice A ops.length cap] w fun e w' => (∃ n A' l' c', e = .returned (.tuple #[.agg #[.int .u64 (n : Nat), .slice A' l' c'], .bool true])) ∧ Below base w0 w' := by
  obtain ⟨W0, hW0⟩ : ∃ W0, W0 = (w.alloc (.cells #[.int .u64 (st : Nat), .slice none 0 0] 49)).alloc (.cells #[.int .u64 0, .slice none 0 0] 49) := ⟨_, rfl⟩
  have hb0 : Below w.heap.size w W0 := by rw [hW0]; exact ((Below.refl _ _).alloc (Nat.le_refl _) _).alloc (by simp) _
  have hx0 : W0.heap[w.heap.size]? = some (.cells #[.int .u64 (st : Nat), .slice none 0 0] 49 (0, 0)) := by rw [hW0]; exact (heap_alloc_old _ _ (by simp)).trans (heap_alloc_new w _)
  have hr0 : W0.heap[w.heap.size + 1]? = some (.cells #[.int .u64 (0 : Nat), .slice none 0 0] 49 (0, 0)) := by
    rw [hW0]
    have e := heap_alloc_new (w.alloc (.cells #[.int .u64 (st : Nat), .slice none 0 0] 49)) (.cells #[.int .u64 0, .slice none 0 0] 49)
    rw [World.size_alloc] at e
    exact e
  have hbw : base ≤ w.heap.size := by rw [hw0]; have := bel.size; omega
  obtain ⟨bx, hbx⟩ : ∃ bx, bx = w.heap.size := ⟨_, rfl⟩
  obtain ⟨rob, hrob⟩ : ∃ rob, rob = (.cells #[.int .u64 (0 : Nat), .slice none 0 0] 49 (0, 0) : Obj) := ⟨_, rfl⟩
  have HP0 : Hid (P1 base w0 W0 b bx (bx + 1) (bx + 1) st [] st [] (.slice none 0 0) rob rob) := Lib.hid (by
    rw [hbx, hrob]
    exact ⟨⟨S, h.later hb0, fun g e => let q := hS g e; ⟨q.1, by have := hb0.size; omega, by simp [Value.ownBlock], by omega, by omega, by omega⟩⟩, IRow.nil _ _ _, fun g hg => (by cases hg), hx0, hr0, hr0, bel.trans (hb0.mono hbw), by have := hb0.size; omega, by omega, hbw, by omega, by omega, by rw [hw0]; exact hd.2, hd⟩)
  have HIN := Lib.hid hin
  have HW0 := Lib.hid hw0
  have HROB := Lib.hid hrob
  have hcap := hin.1
  have hlen' : (ops.length : Int) ≤ 100 := by omega
  replace hW0 := Lib.hid hW0
  replace hbx := Lib.hid hbx
  clear h hS bel hw0 hin hd hb0 hx0 hr0 hbw hrob
  go_enter Tryd.func36, Tryd.ntmps36
  go_upto_region 1 with fail
  rw [← hW0.out, ← hbx.out]
  clear hW0 hbx
  go_wp2_with fail
  go_loopw [16] (fun vi wr => ∃ (i nw : Nat) (T : List (Nat × Nat)) (v : Value), vi = .int .i64 (i : Int) ∧ i ≤ ops.length ∧ T.length ≤ i ∧ P1 base w0 wr b bx (bx + 1) (bx + 1) nw T nw T v rob rob) (fun vi _ => ops.length + 1 - (intOf vi).toNat)
  case atStart => exact ⟨0, st, [], _, rfl, by omega, Nat.le_refl _, HP0.out⟩
  case round =>
    obtain ⟨i, nw, T, v, rfl, hi, hTl, hs⟩ := hrel
    rename_i wr
    obtain ⟨A1, cap1, rfl, -, -⟩ := hs.row.opened
    by_cases hin : i < ops.length
    · obtain ⟨g, o, rfl, hg1, hg2, hg3, hg4⟩ := HIN.out.2.2 i hin
      have HOK := Lib.hid (HIN.out.2.1 _ (List.getElem_mem hin))
      have hg2 := (hs.bel.cell (p := ⟨g, o + i * 3, none⟩) (by rw [HW0.out]; exact hg1)).trans hg2
      have hg3 := (hs.bel.cell (p := ⟨g, o + i * 3 + 1, none⟩) (by rw [HW0.out]; exact hg1)).trans hg3
      have hg4 := (hs.bel.cell (p := ⟨g, o + i * 3 + 2, none⟩) (by rw [HW0.out]; exact hg1)).trans hg4
      have hin' : (i : Int) < ops.length := by omega
      generalize ops[i] = oo at *
      obtain ⟨k, x⟩ := oo
      dsimp only at hg2 hg3 hg4
      obtain ⟨wb, hwb⟩ : ∃ wb, wb = wr.alloc (.cells #[.int .i64 k, .int .u64 (x.1 : Nat), .int .u64 (x.2 : Nat)] 96) := ⟨_, rfl⟩
      have hbb : Below wr.heap.size wr wb := by rw [hwb]; exact (Below.refl _ _).alloc (Nat.le_refl _) _
      have hh1 : wb.heap[wr.heap.size]? = some (.cells #[.int .i64 k, .int .u64 (x.1 : Nat), .int .u64 (x.2 : Nat)] 96 (0, 0)) := by rw [hwb]; exact heap_alloc_new wr _
      obtain ⟨y0, y1, y2⟩ := cells3 hh1
      have hs1 := hs.other hbb (Nat.le_refl _) hh1
      obtain ⟨xb, hxb⟩ : ∃ xb, xb = wr.heap.size := ⟨_, rfl⟩
      rw [← hxb] at y0 y1 y2 hs1
      have H1 := Lib.hid hs1
      have SO : Hid (T.Pairwise bef ∧ (T.map Prod.fst).Nodup) := Lib.hid ⟨hs1.sorted.1, by obtain ⟨S, q, -⟩ := hs1.ex; exact q.ids⟩
      replace hwb := Lib.hid hwb
      replace hxb := Lib.hid hxb
      clear hs hs1 hbb hh1 hg1
      go_upto_region 4 with fail
      rw [← hwb.out, ← hxb.out]
      clear hg2 hg3 hg4 hwb hxb
      by_cases hk0 : k = 0
      · subst hk0
        have HA := Lib.hid (H1.out.sched x HOK.out.2 (by omega))
        go_wp2_with fail
        refine HA.out.mono ?_
        rintro e w5 ⟨rfl, h5⟩
        obtain ⟨b0, b1, -⟩ := cellsW h5.box
        clear y0 y1 y2
        obtain ⟨y0, y1, y2⟩ := cells3 h5.xbx
        have HR := Lib.hid (rsched4 (now := nw) (by omega) SO.out.1 (.slice A1 T.length cap1) x h5.row h5.hw)
        have H5 := Lib.hid h5
        clear h5
        go_wp2_with fail
        refine HR.out.mono ?_
        rintro e w6 ⟨v6, rfl, hst⟩
        obtain ⟨A9, cap9, rfl, -, -⟩ := hst.1.opened
        obtain ⟨T2, hT2⟩ : ∃ q, q = schT T x := ⟨_, rfl⟩
        have hz := H5.out.put (nm' := nw) hst.2.2 hst.1 hst.2.1
        rw [← hT2] at hz ⊢
        have hb6 := boxB H5.out.box hst.2.2
        clear b0 b1 y0 y1 y2
        obtain ⟨b0, b1, bf⟩ := cellsW hb6
        have bf0 := bf 0
        have bf1 := bf 1
        have hlt2 : T2.length ≤ 100 := by rw [hT2]; have := schT_len T x; omega
        have hlt3 : T2.length ≤ i + 1 := by rw [hT2]; have := schT_len T x; omega
        generalize schC T x = c at *
        clear hT2 hst hb6 bf
        obtain ⟨wz, hwz⟩ : ∃ wz, wz = ((w6.setCell ⟨bx, 0, none⟩ (.int .u64 (nw : Nat))).setCell ⟨bx, 1, none⟩ (.slice A9 T2.length cap9)) := ⟨_, rfl⟩
        rw [← hwz] at hz
        have HZ := Lib.hid hz
        replace hwz := Lib.hid hwz
        clear hz
        have hl9 : ([] : List (Nat × Nat)).length = 0 := rfl
        obtain ⟨L9, hL9⟩ : ∃ q : List (Nat × Nat), q = [] := ⟨_, rfl⟩
        subst hL9
        go_upto_region 17 with fail
        rw [← hwz.out]
        clear hwz b0 b1 bf0 bf1
        have HDD0 : Hid (Below wz.heap.size wz wz.drew) := Lib.hid (below_drew (Below.refl _ _))
        have HSS : Hid (∀ (W : World), Below wz.heap.size wz W → (fun w' : World => w'.cell? ⟨bx, 0, none⟩ = some (.int .u64 (nw : Nat)) ∧ w'.cell? ⟨bx, 1, none⟩ = some (.slice A9 T2.length cap9) ∧ w'.cell? ⟨xb, 1, none⟩ = some (.int .u64 (x.1 : Nat))) W) := Lib.hid fun W hW => let q := cellsW (boxB HZ.out.box hW); let r := cellsT (boxB HZ.out.xbx hW); ⟨q.1, q.2.1, r⟩
        have HBK := Lib.hid (back_any [] (by simp) (.slice none 0 0) wz.drew ((IRow.nil 34 wz 0).lies.later HDD0.out))
        go_upto_region 17 with fail
        refine wp_region_noPanic ?_
        refine wp_region_held_drew (S := (fun w' : World => w'.cell? ⟨bx, 0, none⟩ = some (.int .u64 (nw : Nat)) ∧ w'.cell? ⟨bx, 1, none⟩ = some (.slice A9 T2.length cap9) ∧ w'.cell? ⟨xb, 1, none⟩ = some (.int .u64 (x.1 : Nat)))) (by kernel_rfl) ?_ (fun hH0 => ?_)
        · exact HSS.out _ HDD0.out
        first
          | (refine take_drop (i := 0) (v := ?_) rfl (by kernel_rfl) (by kernel_rfl) (by kernel_rfl) (fun _ _ _ h => h) (Or.inl ⟨by rfl, ?_⟩) (by assumption) ?_; rotate_left 1; (focus (intro w hSw; (try dsimp only at hSw); go_simp; try with_reducible rfl)); try simp only [Act.put, List.setIfInBounds_toArray, List.set_cons_zero, List.set_cons_succ])
          | (refine take_drop (i := 0) (v := undef) rfl (by kernel_rfl) (by kernel_rfl) (by kernel_rfl) (fun _ _ _ h => h) (Or.inr ⟨by rfl, rfl⟩) (by assumption) ?_; try simp only [Act.put, List.setIfInBounds_toArray, List.set_cons_zero, List.set_cons_succ])
        first
          | (refine take_drop (i := 1) (v := ?_) rfl (by kernel_rfl) (by kernel_rfl) (by kernel_rfl) (fun _ _ _ h => h) (Or.inl ⟨by rfl, ?_⟩) (by assumption) ?_; rotate_left 1; (focus (intro w hSw; (try dsimp only at hSw); go_simp; try with_reducible rfl)); try simp only [Act.put, List.setIfInBounds_toArray, List.set_cons_zero, List.set_cons_succ])
          | (refine take_drop (i := 1) (v := undef) rfl (by kernel_rfl) (by kernel_rfl) (by kernel_rfl) (fun _ _ _ h => h) (Or.inr ⟨by rfl, rfl⟩) (by assumption) ?_; try simp only [Act.put, List.setIfInBounds_toArray, List.set_cons_zero, List.set_cons_succ])
        first
          | (refine take_drop (i := 2) (v := ?_) rfl (by kernel_rfl) (by kernel_rfl) (by kernel_rfl) (fun _ _ _ h => h) (Or.inl ⟨by rfl, ?_⟩) (by assumption) ?_; rotate_left 1; (focus (intro w hSw; (try dsimp only at hSw); go_simp; try with_reducible rfl)); try simp only [Act.put, List.setIfInBounds_toArray, List.set_cons_zero, List.set_cons_succ])
          | (refine take_drop (i := 2) (v := undef) rfl (by kernel_rfl) (by kernel_rfl) (by kernel_rfl) (fun _ _ _ h => h) (Or.inr ⟨by rfl, rfl⟩) (by assumption) ?_; try simp only [Act.put, List.setIfInBounds_toArray, List.set_cons_zero, List.set_cons_succ])
        first
          | (refine take_drop (i := 3) (v := ?_) rfl (by kernel_rfl) (by kernel_rfl) (by kernel_rfl) (fun _ _ _ h => h) (Or.inl ⟨by rfl, ?_⟩) (by assumption) ?_; rotate_left 1; (focus (intro w hSw; (try dsimp only at hSw); go_simp; try with_reducible rfl)); try simp only [Act.put, List.setIfInBounds_toArray, List.set_cons_zero, List.set_cons_succ])
          | (refine take_drop (i := 3) (v := undef) rfl (by kernel_rfl) (by kernel_rfl) (by kernel_rfl) (fun _ _ _ h => h) (Or.inr ⟨by rfl, rfl⟩) (by assumption) ?_; try simp only [Act.put, List.setIfInBounds_toArray, List.set_cons_zero, List.set_cons_succ])
        first
          | (refine take_drop (i := 4) (v := ?_) rfl (by kernel_rfl) (by kernel_rfl) (by kernel_rfl) (fun _ _ _ h => h) (Or.inl ⟨by rfl, ?_⟩) (by assumption) ?_; rotate_left 1; (focus (intro w hSw; (try dsimp only at hSw); go_simp; try with_reducible rfl)); try simp only [Act.put, List.setIfInBounds_toArray, List.set_cons_zero, List.set_cons_succ])
          | (refine take_drop (i := 4) (v := undef) rfl (by kernel_rfl) (by kernel_rfl) (by kernel_rfl) (fun _ _ _ h => h) (Or.inr ⟨by rfl, rfl⟩) (by assumption) ?_; try simp only [Act.put, List.setIfInBounds_toArray, List.set_cons_zero, List.set_cons_succ])
        first
          | (refine take_drop (i := 6) (v := ?_) rfl (by kernel_rfl) (by kernel_rfl) (by kernel_rfl) (fun _ _ _ h => h) (Or.inl ⟨by rfl, ?_⟩) (by assumption) ?_; rotate_left 1; (focus (intro w hSw; (try dsimp only at hSw); go_simp; try with_reducible rfl)); try simp only [Act.put, List.setIfInBounds_toArray, List.set_cons_zero, List.set_cons_succ])
          | (refine take_drop (i := 6) (v := undef) rfl (by kernel_rfl) (by kernel_rfl) (by kernel_rfl) (fun _ _ _ h => h) (Or.inr ⟨by rfl, rfl⟩) (by assumption) ?_; try simp only [Act.put, List.setIfInBounds_toArray, List.set_cons_zero, List.set_cons_succ])
        refine wpAnyH_ready (rs := [5]) (by kernel_rfl) (by simp) ?_
        refine cons_drop rfl (fun K hK => ?_) AllReadyH.nil
        go_simp
        refine HBK.out.mono ?_
        rintro e g1 ⟨v1, rfl, row1, hb⟩
        have HDD := Lib.hid (HDD0.out.trans (hb.mono HDD0.out.size))
        have HEQ := Lib.hid (equal_same [] (by simp) v1 (.slice none 0 0) g1 row1.lies ((IRow.nil 34 wz 0).lies.later HDD.out))
        clear row1 hb
        go_wp2_with fail
        refine hK.out _ _ (HSS.out _ HDD.out) (fun hH1 => ?_)
        clear hK K hH0
        try simp only [Act.put, List.setIfInBounds_toArray, List.set_cons_zero, List.set_cons_succ]
        refine wpAnyH_ready (rs := [7]) (by kernel_rfl) (by simp) ?_
        refine cons_drop rfl (fun K hK => ?_) AllReadyH.nil
        go_simp
        refine HEQ.out.mono ?_
        rintro e g2 ⟨rfl, hb⟩
        replace HDD := Lib.hid (HDD.out.trans (hb.mono HDD.out.size))
        have HSM := Lib.hid ((HZ.out.later HDD.out).same (by omega))
        clear hb
        go_wp2_with fail
        refine hK.out _ _ (HSS.out _ HDD.out) (fun hH2 => ?_)
        clear hK K hH1
        try simp only [Act.put, List.setIfInBounds_toArray, List.set_cons_zero, List.set_cons_succ]
        first
          | (refine take_drop (i := 8) (v := ?_) rfl (by kernel_rfl) (by kernel_rfl) (by kernel_rfl) (fun _ _ _ h => h) (Or.inl ⟨by rfl, ?_⟩) (by assumption) ?_; rotate_left 1; (focus (intro w hSw; (try dsimp only at hSw); go_simp; try with_reducible rfl)); try simp only [Act.put, List.setIfInBounds_toArray, List.set_cons_zero, List.set_cons_succ])
          | (refine take_drop (i := 8) (v := undef) rfl (by kernel_rfl) (by kernel_rfl) (by kernel_rfl) (fun _ _ _ h => h) (Or.inr ⟨by rfl, rfl⟩) (by assumption) ?_; try simp only [Act.put, List.setIfInBounds_toArray, List.set_cons_zero, List.set_cons_succ])
        first
          | (refine take_drop (i := 9) (v := ?_) rfl (by kernel_rfl) (by kernel_rfl) (by kernel_rfl) (fun _ _ _ h => h) (Or.inl ⟨by rfl, ?_⟩) (by assumption) ?_; rotate_left 1; (focus (intro w hSw; (try dsimp only at hSw); go_simp; try with_reducible rfl)); try simp only [Act.put, List.setIfInBounds_toArray, List.set_cons_zero, List.set_cons_succ])
          | (refine take_drop (i := 9) (v := undef) rfl (by kernel_rfl) (by kernel_rfl) (by kernel_rfl) (fun _ _ _ h => h) (Or.inr ⟨by rfl, rfl⟩) (by assumption) ?_; try simp only [Act.put, List.setIfInBounds_toArray, List.set_cons_zero, List.set_cons_succ])
        first
          | (refine take_drop (i := 10) (v := ?_) rfl (by kernel_rfl) (by kernel_rfl) (by kernel_rfl) (fun _ _ _ h => h) (Or.inl ⟨by rfl, ?_⟩) (by assumption) ?_; rotate_left 1; (focus (intro w hSw; (try dsimp only at hSw); go_simp; try with_reducible rfl)); try simp only [Act.put, List.setIfInBounds_toArray, List.set_cons_zero, List.set_cons_succ])
          | (refine take_drop (i := 10) (v := undef) rfl (by kernel_rfl) (by kernel_rfl) (by kernel_rfl) (fun _ _ _ h => h) (Or.inr ⟨by rfl, rfl⟩) (by assumption) ?_; try simp only [Act.put, List.setIfInBounds_toArray, List.set_cons_zero, List.set_cons_succ])
        first
          | (refine take_drop (i := 11) (v := ?_) rfl (by kernel_rfl) (by kernel_rfl) (by kernel_rfl) (fun _ _ _ h => h) (Or.inl ⟨by rfl, ?_⟩) (by assumption) ?_; rotate_left 1; (focus (intro w hSw; (try dsimp only at hSw); go_simp; try with_reducible rfl)); try simp only [Act.put, List.setIfInBounds_toArray, List.set_cons_zero, List.set_cons_succ])
          | (refine take_drop (i := 11) (v := undef) rfl (by kernel_rfl) (by kernel_rfl) (by kernel_rfl) (fun _ _ _ h => h) (Or.inr ⟨by rfl, rfl⟩) (by assumption) ?_; try simp only [Act.put, List.setIfInBounds_toArray, List.set_cons_zero, List.set_cons_succ])
        first
          | (refine take_drop (i := 12) (v := ?_) rfl (by kernel_rfl) (by kernel_rfl) (by kernel_rfl) (fun _ _ _ h => h) (Or.inl ⟨by rfl, ?_⟩) (by assumption) ?_; rotate_left 1; (focus (intro w hSw; (try dsimp only at hSw); go_simp; try with_reducible rfl)); try simp only [Act.put, List.setIfInBounds_toArray, List.set_cons_zero, List.set_cons_succ])
          | (refine take_drop (i := 12) (v := undef) rfl (by kernel_rfl) (by kernel_rfl) (by kernel_rfl) (fun _ _ _ h => h) (Or.inr ⟨by rfl, rfl⟩) (by assumption) ?_; try simp only [Act.put, List.setIfInBounds_toArray, List.set_cons_zero, List.set_cons_succ])
        refine wpAnyH_ready (rs := [13]) (by kernel_rfl) (by simp) ?_
        refine cons_drop rfl (fun K hK => ?_) AllReadyH.nil
        go_simp
        refine HSM.out.mono ?_
        rintro e g3 ⟨rfl, hb⟩
        replace HDD := Lib.hid (HDD.out.trans (hb.mono HDD.out.size))
        have HHS := Lib.hid ((HZ.out.later HDD.out).has x.1 HOK.out.2.1)
        clear hb
        go_wp2_with fail
        refine hK.out _ _ (HSS.out _ HDD.out) (fun hH3 => ?_)
        clear hK K hH2
        try simp only [Act.put, List.setIfInBounds_toArray, List.set_cons_zero, List.set_cons_succ]
        first
          | (refine take_drop (i := 14) (v := ?_) rfl (by kernel_rfl) (by kernel_rfl) (by kernel_rfl) (fun _ _ _ h => h) (Or.inl ⟨by rfl, ?_⟩) (by assumption) ?_; rotate_left 1; (focus (intro w hSw; (try dsimp only at hSw); go_simp; try with_reducible rfl)); try simp only [Act.put, List.setIfInBounds_toArray, List.set_cons_zero, List.set_cons_succ])
          | (refine take_drop (i := 14) (v := undef) rfl (by kernel_rfl) (by kernel_rfl) (by kernel_rfl) (fun _ _ _ h => h) (Or.inr ⟨by rfl, rfl⟩) (by assumption) ?_; try simp only [Act.put, List.setIfInBounds_toArray, List.set_cons_zero, List.set_cons_succ])
        first
          | (refine take_drop (i := 15) (v := ?_) rfl (by kernel_rfl) (by kernel_rfl) (by kernel_rfl) (fun _ _ _ h => h) (Or.inl ⟨by rfl, ?_⟩) (by assumption) ?_; rotate_left 1; (focus (intro w hSw; (try dsimp only at hSw); go_simp; try with_reducible rfl)); try simp only [Act.put, List.setIfInBounds_toArray, List.set_cons_zero, List.set_cons_succ])
          | (refine take_drop (i := 15) (v := undef) rfl (by kernel_rfl) (by kernel_rfl) (by kernel_rfl) (fun _ _ _ h => h) (Or.inr ⟨by rfl, rfl⟩) (by assumption) ?_; try simp only [Act.put, List.setIfInBounds_toArray, List.set_cons_zero, List.set_cons_succ])
        first
          | (refine take_drop (i := 16) (v := ?_) rfl (by kernel_rfl) (by kernel_rfl) (by kernel_rfl) (fun _ _ _ h => h) (Or.inl ⟨by rfl, ?_⟩) (by assumption) ?_; rotate_left 1; (focus (intro w hSw; (try dsimp only at hSw); go_simp; try with_reducible rfl)); try simp only [Act.put, List.setIfInBounds_toArray, List.set_cons_zero, List.set_cons_succ])
          | (refine take_drop (i := 16) (v := undef) rfl (by kernel_rfl) (by kernel_rfl) (by kernel_rfl) (fun _ _ _ h => h) (Or.inr ⟨by rfl, rfl⟩) (by assumption) ?_; try simp only [Act.put, List.setIfInBounds_toArray, List.set_cons_zero, List.set_cons_succ])
        first
          | (refine take_drop (i := 17) (v := ?_) rfl (by kernel_rfl) (by kernel_rfl) (by kernel_rfl) (fun _ _ _ h => h) (Or.inl ⟨by rfl, ?_⟩) (by assumption) ?_; rotate_left 1; (focus (intro w hSw; (try dsimp only at hSw); go_simp; try with_reducible rfl)); try simp only [Act.put, List.setIfInBounds_toArray, List.set_cons_zero, List.set_cons_succ])
          | (refine take_drop (i := 17) (v := undef) rfl (by kernel_rfl) (by kernel_rfl) (by kernel_rfl) (fun _ _ _ h => h) (Or.inr ⟨by rfl, rfl⟩) (by assumption) ?_; try simp only [Act.put, List.setIfInBounds_toArray, List.set_cons_zero, List.set_cons_succ])
        first
          | (refine take_drop (i := 18) (v := ?_) rfl (by kernel_rfl) (by kernel_rfl) (by kernel_rfl) (fun _ _ _ h => h) (Or.inl ⟨by rfl, ?_⟩) (by assumption) ?_; rotate_left 1; (focus (intro w hSw; (try dsimp only at hSw); go_simp; try with_reducible rfl)); try simp only [Act.put, List.setIfInBounds_toArray, List.set_cons_zero, List.set_cons_succ])
          | (refine take_drop (i := 18) (v := undef) rfl (by kernel_rfl) (by kernel_rfl) (by kernel_rfl) (fun _ _ _ h => h) (Or.inr ⟨by rfl, rfl⟩) (by assumption) ?_; try simp only [Act.put, List.setIfInBounds_toArray, List.set_cons_zero, List.set_cons_succ])
        first
          | (refine take_drop (i := 19) (v := ?_) rfl (by kernel_rfl) (by kernel_rfl) (by kernel_rfl) (fun _ _ _ h => h) (Or.inl ⟨by rfl, ?_⟩) (by assumption) ?_; rotate_left 1; (focus (intro w hSw; (try dsimp only at hSw); go_simp; try with_reducible rfl)); try simp only [Act.put, List.setIfInBounds_toArray, List.set_cons_zero, List.set_cons_succ])
          | (refine take_drop (i := 19) (v := undef) rfl (by kernel_rfl) (by kernel_rfl) (by kernel_rfl) (fun _ _ _ h => h) (Or.inr ⟨by rfl, rfl⟩) (by assumption) ?_; try simp only [Act.put, List.setIfInBounds_toArray, List.set_cons_zero, List.set_cons_succ])
        first
          | (refine take_drop (i := 21) (v := ?_) rfl (by kernel_rfl) (by kernel_rfl) (by kernel_rfl) (fun _ _ _ h => h) (Or.inl ⟨by rfl, ?_⟩) (by assumption) ?_; rotate_left 1; (focus (intro w hSw; (try dsimp only at hSw); go_simp; try with_reducible rfl)); try simp only [Act.put, List.setIfInBounds_toArray, List.set_cons_zero, List.set_cons_succ])
          | (refine take_drop (i := 21) (v := undef) rfl (by kernel_rfl) (by kernel_rfl) (by kernel_rfl) (fun _ _ _ h => h) (Or.inr ⟨by rfl, rfl⟩) (by assumption) ?_; try simp only [Act.put, List.setIfInBounds_toArray, List.set_cons_zero, List.set_cons_succ])
        first
          | (refine take_drop (i := 22) (v := ?_) rfl (by kernel_rfl) (by kernel_rfl) (by kernel_rfl) (fun _ _ _ h => h) (Or.inl ⟨by rfl, ?_⟩) (by assumption) ?_; rotate_left 1; (focus (intro w hSw; (try dsimp only at hSw); go_simp; try with_reducible rfl)); try simp only [Act.put, List.setIfInBounds_toArray, List.set_cons_zero, List.set_cons_succ])
          | (refine take_drop (i := 22) (v := undef) rfl (by kernel_rfl) (by kernel_rfl) (by kernel_rfl) (fun _ _ _ h => h) (Or.inr ⟨by rfl, rfl⟩) (by assumption) ?_; try simp only [Act.put, List.setIfInBounds_toArray, List.set_cons_zero, List.set_cons_succ])
        first
          | (refine take_drop (i := 23) (v := ?_) rfl (by kernel_rfl) (by kernel_rfl) (by kernel_rfl) (fun _ _ _ h => h) (Or.inl ⟨by rfl, ?_⟩) (by assumption) ?_; rotate_left 1; (focus (intro w hSw; (try dsimp only at hSw); go_simp; try with_reducible rfl)); try simp only [Act.put, List.setIfInBounds_toArray, List.set_cons_zero, List.set_cons_succ])
          | (refine take_drop (i := 23) (v := undef) rfl (by kernel_rfl) (by kernel_rfl) (by kernel_rfl) (fun _ _ _ h => h) (Or.inr ⟨by rfl, rfl⟩) (by assumption) ?_; try simp only [Act.put, List.setIfInBounds_toArray, List.set_cons_zero, List.set_cons_succ])
        refine wpAnyH_ready (rs := [20]) (by kernel_rfl) (by simp) ?_
        refine cons_drop rfl (fun K hK => ?_) AllReadyH.nil
        go_simp
        refine HHS.out.mono ?_
        rintro e g4 ⟨rfl, hb⟩
        replace HDD := Lib.hid (HDD.out.trans (hb.mono HDD.out.size))
        have HFI := Lib.hid (rfind2 (now := nw) (by omega) (.slice A9 T2.length cap9) x.1 (HZ.out.later HDD.out).row.lies)
        clear hb
        generalize hasId T2 x.1 = r at *
        go_wp2_with fail
        refine hK.out _ _ (HSS.out _ HDD.out) (fun hH4 => ?_)
        clear hK K hH3
        try simp only [Act.put, List.setIfInBounds_toArray, List.set_cons_zero, List.set_cons_succ]
        refine wpAnyH_ready (rs := [24]) (by kernel_rfl) (by simp) ?_
        refine cons_drop rfl (fun K hK => ?_) AllReadyH.nil
        go_simp
        refine HFI.out.mono ?_
        rintro e g5 ⟨⟨fi, rfl, hfi⟩, hb⟩
        replace HDD := Lib.hid (HDD.out.trans (hb.mono HDD.out.size))
        have HZ5 := Lib.hid ((HZ.out.later HDD.out).head)
        clear hb
        go_wp2_with fail
        refine hK.out _ _ (HSS.out _ HDD.out) (fun hH5 => ?_)
        clear hK K hH4
        try simp only [Act.put, List.setIfInBounds_toArray, List.set_cons_zero, List.set_cons_succ]
        first
          | (refine take_drop (i := 25) (v := ?_) rfl (by kernel_rfl) (by kernel_rfl) (by kernel_rfl) (fun _ _ _ h => h) (Or.inl ⟨by rfl, ?_⟩) (by assumption) ?_; rotate_left 1; (focus (intro w hSw; (try dsimp only at hSw); go_simp; try with_reducible rfl)); try simp only [Act.put, List.setIfInBounds_toArray, List.set_cons_zero, List.set_cons_succ])
          | (refine take_drop (i := 25) (v := undef) rfl (by kernel_rfl) (by kernel_rfl) (by kernel_rfl) (fun _ _ _ h => h) (Or.inr ⟨by rfl, rfl⟩) (by assumption) ?_; try simp only [Act.put, List.setIfInBounds_toArray, List.set_cons_zero, List.set_cons_succ])
        first
          | (refine take_drop (i := 26) (v := ?_) rfl (by kernel_rfl) (by kernel_rfl) (by kernel_rfl) (fun _ _ _ h => h) (Or.inl ⟨by rfl, ?_⟩) (by assumption) ?_; rotate_left 1; (focus (intro w hSw; (try dsimp only at hSw); go_simp; try with_reducible rfl)); try simp only [Act.put, List.setIfInBounds_toArray, List.set_cons_zero, List.set_cons_succ])
          | (refine take_drop (i := 26) (v := undef) rfl (by kernel_rfl) (by kernel_rfl) (by kernel_rfl) (fun _ _ _ h => h) (Or.inr ⟨by rfl, rfl⟩) (by assumption) ?_; try simp only [Act.put, List.setIfInBounds_toArray, List.set_cons_zero, List.set_cons_succ])
        first
          | (refine take_drop (i := 27) (v := ?_) rfl (by kernel_rfl) (by kernel_rfl) (by kernel_rfl) (fun _ _ _ h => h) (Or.inl ⟨by rfl, ?_⟩) (by assumption) ?_; rotate_left 1; (focus (intro w hSw; (try dsimp only at hSw); go_simp; try with_reducible rfl)); try simp only [Act.put, List.setIfInBounds_toArray, List.set_cons_zero, List.set_cons_succ])
          | (refine take_drop (i := 27) (v := undef) rfl (by kernel_rfl) (by kernel_rfl) (by kernel_rfl) (fun _ _ _ h => h) (Or.inr ⟨by rfl, rfl⟩) (by assumption) ?_; try simp only [Act.put, List.setIfInBounds_toArray, List.set_cons_zero, List.set_cons_succ])
        refine wpAnyH_done (by kernel_rfl) ?_ _
        refine NoPanic.normal ?_
        go_wp2_with fail
        exact ⟨⟨i + 1, nw, T2, _, rfl, by omega, by omega, HZ5.out⟩, by simp [intOf]; omega⟩
      · by_cases hk1 : k = 1
        · subst hk1
          have HA := Lib.hid (H1.out.cancel x.1 HOK.out.2.1 (by omega))
          go_wp2_with fail
          refine HA.out.mono ?_
          rintro e w5 ⟨rfl, h5⟩
          obtain ⟨b0, b1, -⟩ := cellsW h5.box
          clear y0 y1 y2
          obtain ⟨y0, y1, y2⟩ := cells3 h5.xbx
          have HR := Lib.hid (rcancel4 (now := nw) (by omega) SO.out.2 (.slice A1 T.length cap1) x.1 h5.row h5.hw)
          have H5 := Lib.hid h5
          clear h5
          go_wp2_with fail
          refine HR.out.mono ?_
          rintro e w6 ⟨v6, rfl, hst⟩
          obtain ⟨A9, cap9, rfl, -, -⟩ := hst.1.opened
          obtain ⟨T2, hT2⟩ : ∃ q, q = noId T x.1 := ⟨_, rfl⟩
          have hz := H5.out.put (nm' := nw) hst.2.2 hst.1 hst.2.1
          rw [← hT2] at hz ⊢
          have hb6 := boxB H5.out.box hst.2.2
          clear b0 b1 y0 y1 y2
          obtain ⟨b0, b1, bf⟩ := cellsW hb6
          have bf0 := bf 0
          have bf1 := bf 1
          have hlt2 : T2.length ≤ 100 := by rw [hT2]; have := noId_le T x.1; omega
          have hlt3 : T2.length ≤ i + 1 := by rw [hT2]; have := noId_le T x.1; omega
          generalize cancC T x.1 = c at *
          clear hT2 hst hb6 bf
          obtain ⟨wz, hwz⟩ : ∃ wz, wz = ((w6.setCell ⟨bx, 0, none⟩ (.int .u64 (nw : Nat))).setCell ⟨bx, 1, none⟩ (.slice A9 T2.length cap9)) := ⟨_, rfl⟩
          rw [← hwz] at hz
          have HZ := Lib.hid hz
          replace hwz := Lib.hid hwz
          clear hz
          have hl9 : ([] : List (Nat × Nat)).length = 0 := rfl
          obtain ⟨L9, hL9⟩ : ∃ q : List (Nat × Nat), q = [] := ⟨_, rfl⟩
          subst hL9
          go_upto_region 17 with fail
          rw [← hwz.out]
          clear hwz b0 b1 bf0 bf1
          have HDD0 : Hid (Below wz.heap.size wz wz.drew) := Lib.hid (below_drew (Below.refl _ _))
          have HSS : Hid (∀ (W : World), Below wz.heap.size wz W → (fun w' : World => w'.cell? ⟨bx, 0, none⟩ = some (.int .u64 (nw : Nat)) ∧ w'.cell? ⟨bx, 1, none⟩ = some (.slice A9 T2.length cap9) ∧ w'.cell? ⟨xb, 1, none⟩ = some (.int .u64 (x.1 : Nat))) W) := Lib.hid fun W hW => let q := cellsW (boxB HZ.out.box hW); let r := cellsT (boxB HZ.out.xbx hW); ⟨q.1, q.2.1, r⟩
          have HBK := Lib.hid (back_any [] (by simp) (.slice none 0 0) wz.drew ((IRow.nil 34 wz 0).lies.later HDD0.out))
          go_upto_region 17 with fail
          refine wp_region_noPanic ?_
          refine wp_region_held_drew (S := (fun w' : World => w'.cell? ⟨bx, 0, none⟩ = some (.int .u64 (nw : Nat)) ∧ w'.cell? ⟨bx, 1, none⟩ = some (.slice A9 T2.length cap9) ∧ w'.cell? ⟨xb, 1, none⟩ = some (.int .u64 (x.1 : Nat)))) (by kernel_rfl) ?_ (fun hH0 => ?_)
          · exact HSS.out _ HDD0.out
          first
            | (refine take_drop (i := 0) (v := ?_) rfl (by kernel_rfl) (by kernel_rfl) (by kernel_rfl) (fun _ _ _ h => h) (Or.inl ⟨by rfl, ?_⟩) (by assumption) ?_; rotate_left 1; (focus (intro w hSw; (try dsimp only at hSw); go_simp; try with_reducible rfl)); try simp only [Act.put, List.setIfInBounds_toArray, List.set_cons_zero, List.set_cons_succ])
            | (refine take_drop (i := 0) (v := undef) rfl (by kernel_rfl) (by kernel_rfl) (by kernel_rfl) (fun _ _ _ h => h) (Or.inr ⟨by rfl, rfl⟩) (by assumption) ?_; try simp only [Act.put, List.setIfInBounds_toArray, List.set_cons_zero, List.set_cons_succ])
          first
            | (refine take_drop (i := 1) (v := ?_) rfl (by kernel_rfl) (by kernel_rfl) (by kernel_rfl) (fun _ _ _ h => h) (Or.inl ⟨by rfl, ?_⟩) (by assumption) ?_; rotate_left 1; (focus (intro w hSw; (try dsimp only at hSw); go_simp; try with_reducible rfl)); try simp only [Act.put, List.setIfInBounds_toArray, List.set_cons_zero, List.set_cons_succ])
            | (refine take_drop (i := 1) (v := undef) rfl (by kernel_rfl) (by kernel_rfl) (by kernel_rfl) (fun _ _ _ h => h) (Or.inr ⟨by rfl, rfl⟩) (by assumption) ?_; try simp only [Act.put, List.setIfInBounds_toArray, List.set_cons_zero, List.set_cons_succ])
          first
            | (refine take_drop (i := 2) (v := ?_) rfl (by kernel_rfl) (by kernel_rfl) (by kernel_rfl) (fun _ _ _ h => h) (Or.inl ⟨by rfl, ?_⟩) (by assumption) ?_; rotate_left 1; (focus (intro w hSw; (try dsimp only at hSw); go_simp; try with_reducible rfl)); try simp only [Act.put, List.setIfInBounds_toArray, List.set_cons_zero, List.set_cons_succ])
            | (refine take_drop (i := 2) (v := undef) rfl (by kernel_rfl) (by kernel_rfl) (by kernel_rfl) (fun _ _ _ h => h) (Or.inr ⟨by rfl, rfl⟩) (by assumption) ?_; try simp only [Act.put, List.setIfInBounds_toArray, List.set_cons_zero, List.set_cons_succ])
          first
            | (refine take_drop (i := 3) (v := ?_) rfl (by kernel_rfl) (by kernel_rfl) (by kernel_rfl) (fun _ _ _ h => h) (Or.inl ⟨by rfl, ?_⟩) (by assumption) ?_; rotate_left 1; (focus (intro w hSw; (try dsimp only at hSw); go_simp; try with_reducible rfl)); try simp only [Act.put, List.setIfInBounds_toArray, List.set_cons_zero, List.set_cons_succ])
            | (refine take_drop (i := 3) (v := undef) rfl (by kernel_rfl) (by kernel_rfl) (by kernel_rfl) (fun _ _ _ h => h) (Or.inr ⟨by rfl, rfl⟩) (by assumption) ?_; try simp only [Act.put, List.setIfInBounds_toArray, List.set_cons_zero, List.set_cons_succ])
          first
            | (refine take_drop (i := 4) (v := ?_) rfl (by kernel_rfl) (by kernel_rfl) (by kernel_rfl) (fun _ _ _ h => h) (Or.inl ⟨by rfl, ?_⟩) (by assumption) ?_; rotate_left 1; (focus (intro w hSw; (try dsimp only at hSw); go_simp; try with_reducible rfl)); try simp only [Act.put, List.setIfInBounds_toArray, List.set_cons_zero, List.set_cons_succ])
            | (refine take_drop (i := 4) (v := undef) rfl (by kernel_rfl) (by kernel_rfl) (by kernel_rfl) (fun _ _ _ h => h) (Or.inr ⟨by rfl, rfl⟩) (by assumption) ?_; try simp only [Act.put, List.setIfInBounds_toArray, List.set_cons_zero, List.set_cons_succ])
          first
            | (refine take_drop (i := 6) (v := ?_) rfl (by kernel_rfl) (by kernel_rfl) (by kernel_rfl) (fun _ _ _ h => h) (Or.inl ⟨by rfl, ?_⟩) (by assumption) ?_; rotate_left 1; (focus (intro w hSw; (try dsimp only at hSw); go_simp; try with_reducible rfl)); try simp only [Act.put, List.setIfInBounds_toArray, List.set_cons_zero, List.set_cons_succ])
            | (refine take_drop (i := 6) (v := undef) rfl (by kernel_rfl) (by kernel_rfl) (by kernel_rfl) (fun _ _ _ h => h) (Or.inr ⟨by rfl, rfl⟩) (by assumption) ?_; try simp only [Act.put, List.setIfInBounds_toArray, List.set_cons_zero, List.set_cons_succ])
          refine wpAnyH_ready (rs := [5]) (by kernel_rfl) (by simp) ?_
          refine cons_drop rfl (fun K hK => ?_) AllReadyH.nil
          go_simp
          refine HBK.out.mono ?_
          rintro e g1 ⟨v1, rfl, row1, hb⟩
          have HDD := Lib.hid (HDD0.out.trans (hb.mono HDD0.out.size))
          have HEQ := Lib.hid (equal_same [] (by simp) v1 (.slice none 0 0) g1 row1.lies ((IRow.nil 34 wz 0).lies.later HDD.out))
          clear row1 hb
          go_wp2_with fail
          refine hK.out _ _ (HSS.out _ HDD.out) (fun hH1 => ?_)
          clear hK K hH0
          try simp only [Act.put, List.setIfInBounds_toArray, List.set_cons_zero, List.set_cons_succ]
          refine wpAnyH_ready (rs := [7]) (by kernel_rfl) (by simp) ?_
          refine cons_drop rfl (fun K hK => ?_) AllReadyH.nil
          go_simp
          refine HEQ.out.mono ?_
          rintro e g2 ⟨rfl, hb⟩
          replace HDD := Lib.hid (HDD.out.trans (hb.mono HDD.out.size))
          have HSM := Lib.hid ((HZ.out.later HDD.out).same (by omega))
          clear hb
          go_wp2_with fail
          refine hK.out _ _ (HSS.out _ HDD.out) (fun hH2 => ?_)
          clear hK K hH1
          try simp only [Act.put, List.setIfInBounds_toArray, List.set_cons_zero, List.set_cons_succ]
          first
            | (refine take_drop (i := 8) (v := ?_) rfl (by kernel_rfl) (by kernel_rfl) (by kernel_rfl) (fun _ _ _ h => h) (Or.inl ⟨by rfl, ?_⟩) (by assumption) ?_; rotate_left 1; (focus (intro w hSw; (try dsimp only at hSw); go_simp; try with_reducible rfl)); try simp only [Act.put, List.setIfInBounds_toArray, List.set_cons_zero, List.set_cons_succ])
            | (refine take_drop (i := 8) (v := undef) rfl (by kernel_rfl) (by kernel_rfl) (by kernel_rfl) (fun _ _ _ h => h) (Or.inr ⟨by rfl, rfl⟩) (by assumption) ?_; try simp only [Act.put, List.setIfInBounds_toArray, List.set_cons_zero, List.set_cons_succ])
          first
            | (refine take_drop (i := 9) (v := ?_) rfl (by kernel_rfl) (by kernel_rfl) (by kernel_rfl) (fun _ _ _ h => h) (Or.inl ⟨by rfl, ?_⟩) (by assumption) ?_; rotate_left 1; (focus (intro w hSw; (try dsimp only at hSw); go_simp; try with_reducible rfl)); try simp only [Act.put, List.setIfInBounds_toArray, List.set_cons_zero, List.set_cons_succ])
            | (refine take_drop (i := 9) (v := undef) rfl (by kernel_rfl) (by kernel_rfl) (by kernel_rfl) (fun _ _ _ h => h) (Or.inr ⟨by rfl, rfl⟩) (by assumption) ?_; try simp only [Act.put, List.setIfInBounds_toArray, List.set_cons_zero, List.set_cons_succ])
          first
            | (refine take_drop (i := 10) (v := ?_) rfl (by kernel_rfl) (by kernel_rfl) (by kernel_rfl) (fun _ _ _ h => h) (Or.inl ⟨by rfl, ?_⟩) (by assumption) ?_; rotate_left 1; (focus (intro w hSw; (try dsimp only at hSw); go_simp; try with_reducible rfl)); try simp only [Act.put, List.setIfInBounds_toArray, List.set_cons_zero, List.set_cons_succ])
            | (refine take_drop (i := 10) (v := undef) rfl (by kernel_rfl) (by kernel_rfl) (by kernel_rfl) (fun _ _ _ h => h) (Or.inr ⟨by rfl, rfl⟩) (by assumption) ?_; try simp only [Act.put, List.setIfInBounds_toArray, List.set_cons_zero, List.set_cons_succ])
          first
            | (refine take_drop (i := 11) (v := ?_) rfl (by kernel_rfl) (by kernel_rfl) (by kernel_rfl) (fun _ _ _ h => h) (Or.inl ⟨by rfl, ?_⟩) (by assumption) ?_; rotate_left 1; (focus (intro w hSw; (try dsimp only at hSw); go_simp; try with_reducible rfl)); try simp only [Act.put, List.setIfInBounds_toArray, List.set_cons_zero, List.set_cons_succ])
            | (refine take_drop (i := 11) (v := undef) rfl (by kernel_rfl) (by kernel_rfl) (by kernel_rfl) (fun _ _ _ h => h) (Or.inr ⟨by rfl, rfl⟩) (by assumption) ?_; try simp only [Act.put, List.setIfInBounds_toArray, List.set_cons_zero, List.set_cons_succ])
          first
            | (refine take_drop (i := 12) (v := ?_) rfl (by kernel_rfl) (by kernel_rfl) (by kernel_rfl) (fun _ _ _ h => h) (Or.inl ⟨by rfl, ?_⟩) (by assumption) ?_; rotate_left 1; (focus (intro w hSw; (try dsimp only at hSw); go_simp; try with_reducible rfl)); try simp only [Act.put, List.setIfInBounds_toArray, List.set_cons_zero, List.set_cons_succ])
            | (refine take_drop (i := 12) (v := undef) rfl (by kernel_rfl) (by kernel_rfl) (by kernel_rfl) (fun _ _ _ h => h) (Or.inr ⟨by rfl, rfl⟩) (by assumption) ?_; try simp only [Act.put, List.setIfInBounds_toArray, List.set_cons_zero, List.set_cons_succ])
          refine wpAnyH_ready (rs := [13]) (by kernel_rfl) (by simp) ?_
          refine cons_drop rfl (fun K hK => ?_) AllReadyH.nil
          go_simp
          refine HSM.out.mono ?_
          rintro e g3 ⟨rfl, hb⟩
          replace HDD := Lib.hid (HDD.out.trans (hb.mono HDD.out.size))
          have HHS := Lib.hid ((HZ.out.later HDD.out).has x.1 HOK.out.2.1)
          clear hb
          go_wp2_with fail
          refine hK.out _ _ (HSS.out _ HDD.out) (fun hH3 => ?_)
          clear hK K hH2
          try simp only [Act.put, List.setIfInBounds_toArray, List.set_cons_zero, List.set_cons_succ]
          first
            | (refine take_drop (i := 14) (v := ?_) rfl (by kernel_rfl) (by kernel_rfl) (by kernel_rfl) (fun _ _ _ h => h) (Or.inl ⟨by rfl, ?_⟩) (by assumption) ?_; rotate_left 1; (focus (intro w hSw; (try dsimp only at hSw); go_simp; try with_reducible rfl)); try simp only [Act.put, List.setIfInBounds_toArray, List.set_cons_zero, List.set_cons_succ])
            | (refine take_drop (i := 14) (v := undef) rfl (by kernel_rfl) (by kernel_rfl) (by kernel_rfl) (fun _ _ _ h => h) (Or.inr ⟨by rfl, rfl⟩) (by assumption) ?_; try simp only [Act.put, List.setIfInBounds_toArray, List.set_cons_zero, List.set_cons_succ])
          first
            | (refine take_drop (i := 15) (v := ?_) rfl (by kernel_rfl) (by kernel_rfl) (by kernel_rfl) (fun _ _ _ h => h) (Or.inl ⟨by rfl, ?_⟩) (by assumption) ?_; rotate_left 1; (focus (intro w hSw; (try dsimp only at hSw); go_simp; try with_reducible rfl)); try simp only [Act.put, List.setIfInBounds_toArray, List.set_cons_zero, List.set_cons_succ])
            | (refine take_drop (i := 15) (v := undef) rfl (by kernel_rfl) (by kernel_rfl) (by kernel_rfl) (fun _ _ _ h => h) (Or.inr ⟨by rfl, rfl⟩) (by assumption) ?_; try simp only [Act.put, List.setIfInBounds_toArray, List.set_cons_zero, List.set_cons_succ])
          first
            | (refine take_drop (i := 16) (v := ?_) rfl (by kernel_rfl) (by kernel_rfl) (by kernel_rfl) (fun _ _ _ h => h) (Or.inl ⟨by rfl, ?_⟩) (by assumption) ?_; rotate_left 1; (focus (intro w hSw; (try dsimp only at hSw); go_simp; try with_reducible rfl)); try simp only [Act.put, List.setIfInBounds_toArray, List.set_cons_zero, List.set_cons_succ])
            | (refine take_drop (i := 16) (v := undef) rfl (by kernel_rfl) (by kernel_rfl) (by kernel_rfl) (fun _ _ _ h => h) (Or.inr ⟨by rfl, rfl⟩) (by assumption) ?_; try simp only [Act.put, List.setIfInBounds_toArray, List.set_cons_zero, List.set_cons_succ])
          first
            | (refine take_drop (i := 17) (v := ?_) rfl (by kernel_rfl) (by kernel_rfl) (by kernel_rfl) (fun _ _ _ h => h) (Or.inl ⟨by rfl, ?_⟩) (by assumption) ?_; rotate_left 1; (focus (intro w hSw; (try dsimp only at hSw); go_simp; try with_reducible rfl)); try simp only [Act.put, List.setIfInBounds_toArray, List.set_cons_zero, List.set_cons_succ])
            | (refine take_drop (i := 17) (v := undef) rfl (by kernel_rfl) (by kernel_rfl) (by kernel_rfl) (fun _ _ _ h => h) (Or.inr ⟨by rfl, rfl⟩) (by assumption) ?_; try simp only [Act.put, List.setIfInBounds_toArray, List.set_cons_zero, List.set_cons_succ])
          first
            | (refine take_drop (i := 18) (v := ?_) rfl (by kernel_rfl) (by kernel_rfl) (by kernel_rfl) (fun _ _ _ h => h) (Or.inl ⟨by rfl, ?_⟩) (by assumption) ?_; rotate_left 1; (focus (intro w hSw; (try dsimp only at hSw); go_simp; try with_reducible rfl)); try simp only [Act.put, List.setIfInBounds_toArray, List.set_cons_zero, List.set_cons_succ])
            | (refine take_drop (i := 18) (v := undef) rfl (by kernel_rfl) (by kernel_rfl) (by kernel_rfl) (fun _ _ _ h => h) (Or.inr ⟨by rfl, rfl⟩) (by assumption) ?_; try simp only [Act.put, List.setIfInBounds_toArray, List.set_cons_zero, List.set_cons_succ])
          first
            | (refine take_drop (i := 19) (v := ?_) rfl (by kernel_rfl) (by kernel_rfl) (by kernel_rfl) (fun _ _ _ h => h) (Or.inl ⟨by rfl, ?_⟩) (by assumption) ?_; rotate_left 1; (focus (intro w hSw; (try dsimp only at hSw); go_simp; try with_reducible rfl)); try simp only [Act.put, List.setIfInBounds_toArray, List.set_cons_zero, List.set_cons_succ])
            | (refine take_drop (i := 19) (v := undef) rfl (by kernel_rfl) (by kernel_rfl) (by kernel_rfl) (fun _ _ _ h => h) (Or.inr ⟨by rfl, rfl⟩) (by assumption) ?_; try simp only [Act.put, List.setIfInBounds_toArray, List.set_cons_zero, List.set_cons_succ])
          first
            | (refine take_drop (i := 21) (v := ?_) rfl (by kernel_rfl) (by kernel_rfl) (by kernel_rfl) (fun _ _ _ h => h) (Or.inl ⟨by rfl, ?_⟩) (by assumption) ?_; rotate_left 1; (focus (intro w hSw; (try dsimp only at hSw); go_simp; try with_reducible rfl)); try simp only [Act.put, List.setIfInBounds_toArray, List.set_cons_zero, List.set_cons_succ])
            | (refine take_drop (i := 21) (v := undef) rfl (by kernel_rfl) (by kernel_rfl) (by kernel_rfl) (fun _ _ _ h => h) (Or.inr ⟨by rfl, rfl⟩) (by assumption) ?_; try simp only [Act.put, List.setIfInBounds_toArray, List.set_cons_zero, List.set_cons_succ])
          first
            | (refine take_drop (i := 22) (v := ?_) rfl (by kernel_rfl) (by kernel_rfl) (by kernel_rfl) (fun _ _ _ h => h) (Or.inl ⟨by rfl, ?_⟩) (by assumption) ?_; rotate_left 1; (focus (intro w hSw; (try dsimp only at hSw); go_simp; try with_reducible rfl)); try simp only [Act.put, List.setIfInBounds_toArray, List.set_cons_zero, List.set_cons_succ])
            | (refine take_drop (i := 22) (v := undef) rfl (by kernel_rfl) (by kernel_rfl) (by kernel_rfl) (fun _ _ _ h => h) (Or.inr ⟨by rfl, rfl⟩) (by assumption) ?_; try simp only [Act.put, List.setIfInBounds_toArray, List.set_cons_zero, List.set_cons_succ])
          first
            | (refine take_drop (i := 23) (v := ?_) rfl (by kernel_rfl) (by kernel_rfl) (by kernel_rfl) (fun _ _ _ h => h) (Or.inl ⟨by rfl, ?_⟩) (by assumption) ?_; rotate_left 1; (focus (intro w hSw; (try dsimp only at hSw); go_simp; try with_reducible rfl)); try simp only [Act.put, List.setIfInBounds_toArray, List.set_cons_zero, List.set_cons_succ])
            | (refine take_drop (i := 23) (v := undef) rfl (by kernel_rfl) (by kernel_rfl) (by kernel_rfl) (fun _ _ _ h => h) (Or.inr ⟨by rfl, rfl⟩) (by assumption) ?_; try simp only [Act.put, List.setIfInBounds_toArray, List.set_cons_zero, List.set_cons_succ])
          refine wpAnyH_ready (rs := [20]) (by kernel_rfl) (by simp) ?_
          refine cons_drop rfl (fun K hK => ?_) AllReadyH.nil
          go_simp
          refine HHS.out.mono ?_
          rintro e g4 ⟨rfl, hb⟩
          replace HDD := Lib.hid (HDD.out.trans (hb.mono HDD.out.size))
          have HFI := Lib.hid (rfind2 (now := nw) (by omega) (.slice A9 T2.length cap9) x.1 (HZ.out.later HDD.out).row.lies)
          clear hb
          generalize hasId T2 x.1 = r at *
          go_wp2_with fail
          refine hK.out _ _ (HSS.out _ HDD.out) (fun hH4 => ?_)
          clear hK K hH3
          try simp only [Act.put, List.setIfInBounds_toArray, List.set_cons_zero, List.set_cons_succ]
          refine wpAnyH_ready (rs := [24]) (by kernel_rfl) (by simp) ?_
          refine cons_drop rfl (fun K hK => ?_) AllReadyH.nil
          go_simp
          refine HFI.out.mono ?_
          rintro e g5 ⟨⟨fi, rfl, hfi⟩, hb⟩
          replace HDD := Lib.hid (HDD.out.trans (hb.mono HDD.out.size))
          have HZ5 := Lib.hid ((HZ.out.later HDD.out).head)
          clear hb
          go_wp2_with fail
          refine hK.out _ _ (HSS.out _ HDD.out) (fun hH5 => ?_)
          clear hK K hH4
          try simp only [Act.put, List.setIfInBounds_toArray, List.set_cons_zero, List.set_cons_succ]
          first
            | (refine take_drop (i := 25) (v := ?_) rfl (by kernel_rfl) (by kernel_rfl) (by kernel_rfl) (fun _ _ _ h => h) (Or.inl ⟨by rfl, ?_⟩) (by assumption) ?_; rotate_left 1; (focus (intro w hSw; (try dsimp only at hSw); go_simp; try with_reducible rfl)); try simp only [Act.put, List.setIfInBounds_toArray, List.set_cons_zero, List.set_cons_succ])
            | (refine take_drop (i := 25) (v := undef) rfl (by kernel_rfl) (by kernel_rfl) (by kernel_rfl) (fun _ _ _ h => h) (Or.inr ⟨by rfl, rfl⟩) (by assumption) ?_; try simp only [Act.put, List.setIfInBounds_toArray, List.set_cons_zero, List.set_cons_succ])
          first
            | (refine take_drop (i := 26) (v := ?_) rfl (by kernel_rfl) (by kernel_rfl) (by kernel_rfl) (fun _ _ _ h => h) (Or.inl ⟨by rfl, ?_⟩) (by assumption) ?_; rotate_left 1; (focus (intro w hSw; (try dsimp only at hSw); go_simp; try with_reducible rfl)); try simp only [Act.put, List.setIfInBounds_toArray, List.set_cons_zero, List.set_cons_succ])
            | (refine take_drop (i := 26) (v := undef) rfl (by kernel_rfl) (by kernel_rfl) (by kernel_rfl) (fun _ _ _ h => h) (Or.inr ⟨by rfl, rfl⟩) (by assumption) ?_; try simp only [Act.put, List.setIfInBounds_toArray, List.set_cons_zero, List.set_cons_succ])
          first
            | (refine take_drop (i := 27) (v := ?_) rfl (by kernel_rfl) (by kernel_rfl) (by kernel_rfl) (fun _ _ _ h => h) (Or.inl ⟨by rfl, ?_⟩) (by assumption) ?_; rotate_left 1; (focus (intro w hSw; (try dsimp only at hSw); go_simp; try with_reducible rfl)); try simp only [Act.put, List.setIfInBounds_toArray, List.set_cons_zero, List.set_cons_succ])
            | (refine take_drop (i := 27) (v := undef) rfl (by kernel_rfl) (by kernel_rfl) (by kernel_rfl) (fun _ _ _ h => h) (Or.inr ⟨by rfl, rfl⟩) (by assumption) ?_; try simp only [Act.put, List.setIfInBounds_toArray, List.set_cons_zero, List.set_cons_succ])
          refine wpAnyH_done (by kernel_rfl) ?_ _
          refine NoPanic.normal ?_
          go_wp2_with fail
          exact ⟨⟨i + 1, nw, T2, _, rfl, by omega, by omega, HZ5.out⟩, by simp [intOf]; omega⟩
        · have hk0' : (k == 0) = false := beq_eq_false_iff_ne.2 hk0
          have hk1' : (k == 1) = false := beq_eq_false_iff_ne.2 hk1
          have HA := Lib.hid (H1.out.adv (t := x.2) HOK.out.2.2 (by omega))
          go_wp2_with fail
          refine HA.out.mono ?_
          rintro e w5 ⟨q5, rfl, hl5, hq5, h5⟩
          obtain ⟨A5, cap5, rfl, -, -⟩ := id hl5
          have HL5 := Lib.hid hl5
          have HQ5 := Lib.hid hq5
          clear hl5 hq5
          obtain ⟨b0, b1, -⟩ := cellsW h5.box
          clear y0 y1 y2
          obtain ⟨y0, y1, y2⟩ := cells3 h5.xbx
          have HR := Lib.hid (radv4 (now := nw) (t := x.2) (by omega) SO.out.1 (.slice A1 T.length cap1) h5.row h5.hw)
          have H5 := Lib.hid h5
          clear h5
          go_wp2_with fail
          refine HR.out.mono ?_
          rintro e w6 ⟨v6, u6, rfl, hl6, hu6, hst⟩
          obtain ⟨A6, cap6, rfl, -, -⟩ := id hl6
          have HL6 := Lib.hid hl6
          have HU6 := Lib.hid hu6
          clear hl6 hu6
          obtain ⟨A9, cap9, rfl, -, -⟩ := hst.1.opened
          obtain ⟨T2, hT2⟩ : ∃ q, q = advT nw T x.2 := ⟨_, rfl⟩
          obtain ⟨nw2, hnw2⟩ : ∃ q : Nat, q = advN nw x.2 := ⟨_, rfl⟩
          have hz := H5.out.put (nm' := advN nw x.2) hst.2.2 hst.1 hst.2.1
          rw [← hT2] at hz ⊢
          rw [← hnw2] at hz ⊢
          have hb6 := boxB H5.out.box hst.2.2
          clear b0 b1 y0 y1 y2
          obtain ⟨b0, b1, bf⟩ := cellsW hb6
          have bf0 := bf 0
          have bf1 := bf 1
          have hlt2 : T2.length ≤ 100 := by rw [hT2]; have := advT_le nw T x.2; omega
          have hlt3 : T2.length ≤ i + 1 := by rw [hT2]; have := advT_le nw T x.2; omega
          generalize advC nw x.2 = c at *
          clear hT2 hnw2 hb6 bf
          obtain ⟨wz, hwz⟩ : ∃ wz, wz = ((w6.setCell ⟨bx, 0, none⟩ (.int .u64 (nw2 : Nat))).setCell ⟨bx, 1, none⟩ (.slice A9 T2.length cap9)) := ⟨_, rfl⟩
          rw [← hwz] at hz
          have HZ := Lib.hid hz
          replace hwz := Lib.hid hwz
          clear hz
          have hl9 := advD_le nw T x.2
          obtain ⟨L9, hL9⟩ : ∃ q, q = advD nw T x.2 := ⟨_, rfl⟩
          have HG9 : Hid (Lies wz (.slice A5 (advD nw T x.2).length cap5) (advD nw T x.2)) := Lib.hid (by rw [hwz.out]; exact Wh.lies_keep (HL5.out.later hst.2.2) HQ5.out ((kb_set w6 bx 0 _).trans (kb_set _ bx 1 _) (fun j _ e => e)))
          have HW9 : Hid (Lies wz (.slice A6 (advD nw T x.2).length cap6) (advD nw T x.2)) := Lib.hid (by rw [hwz.out]; exact Wh.lies_keep HL6.out (fun g hg => (H5.out.vb g (HU6.out g hg)).1) ((kb_set w6 bx 0 _).trans (kb_set _ bx 1 _) (fun j _ e => e)))
          rw [← hL9] at HG9 HW9 hl9 ⊢
          clear hL9 hst
          go_upto_region 17 with fail
          rw [← hwz.out]
          clear hwz b0 b1 bf0 bf1
          have HDD0 : Hid (Below wz.heap.size wz wz.drew) := Lib.hid (below_drew (Below.refl _ _))
          have HSS : Hid (∀ (W : World), Below wz.heap.size wz W → (fun w' : World => w'.cell? ⟨bx, 0, none⟩ = some (.int .u64 (nw2 : Nat)) ∧ w'.cell? ⟨bx, 1, none⟩ = some (.slice A9 T2.length cap9) ∧ w'.cell? ⟨xb, 1, none⟩ = some (.int .u64 (x.1 : Nat))) W) := Lib.hid fun W hW => let q := cellsW (boxB HZ.out.box hW); let r := cellsT (boxB HZ.out.xbx hW); ⟨q.1, q.2.1, r⟩
          have HBK := Lib.hid (back_any L9 (by omega) (.slice A5 L9.length cap5) wz.drew (HG9.out.later HDD0.out))
          go_upto_region 17 with fail
          refine wp_region_noPanic ?_
          refine wp_region_held_drew (S := (fun w' : World => w'.cell? ⟨bx, 0, none⟩ = some (.int .u64 (nw2 : Nat)) ∧ w'.cell? ⟨bx, 1, none⟩ = some (.slice A9 T2.length cap9) ∧ w'.cell? ⟨xb, 1, none⟩ = some (.int .u64 (x.1 : Nat)))) (by kernel_rfl) ?_ (fun hH0 => ?_)
          · exact HSS.out _ HDD0.out
          first
            | (refine take_drop (i := 0) (v := ?_) rfl (by kernel_rfl) (by kernel_rfl) (by kernel_rfl) (fun _ _ _ h => h) (Or.inl ⟨by rfl, ?_⟩) (by assumption) ?_; rotate_left 1; (focus (intro w hSw; (try dsimp only at hSw); go_simp; try with_reducible rfl)); try simp only [Act.put, List.setIfInBounds_toArray, List.set_cons_zero, List.set_cons_succ])
            | (refine take_drop (i := 0) (v := undef) rfl (by kernel_rfl) (by kernel_rfl) (by kernel_rfl) (fun _ _ _ h => h) (Or.inr ⟨by rfl, rfl⟩) (by assumption) ?_; try simp only [Act.put, List.setIfInBounds_toArray, List.set_cons_zero, List.set_cons_succ])
          first
            | (refine take_drop (i := 1) (v := ?_) rfl (by kernel_rfl) (by kernel_rfl) (by kernel_rfl) (fun _ _ _ h => h) (Or.inl ⟨by rfl, ?_⟩) (by assumption) ?_; rotate_left 1; (focus (intro w hSw; (try dsimp only at hSw); go_simp; try with_reducible rfl)); try simp only [Act.put, List.setIfInBounds_toArray, List.set_cons_zero, List.set_cons_succ])
            | (refine take_drop (i := 1) (v := undef) rfl (by kernel_rfl) (by kernel_rfl) (by kernel_rfl) (fun _ _ _ h => h) (Or.inr ⟨by rfl, rfl⟩) (by assumption) ?_; try simp only [Act.put, List.setIfInBounds_toArray, List.set_cons_zero, List.set_cons_succ])
          first
            | (refine take_drop (i := 2) (v := ?_) rfl (by kernel_rfl) (by kernel_rfl) (by kernel_rfl) (fun _ _ _ h => h) (Or.inl ⟨by rfl, ?_⟩) (by assumption) ?_; rotate_left 1; (focus (intro w hSw; (try dsimp only at hSw); go_simp; try with_reducible rfl)); try simp only [Act.put, List.setIfInBounds_toArray, List.set_cons_zero, List.set_cons_succ])
            | (refine take_drop (i := 2) (v := undef) rfl (by kernel_rfl) (by kernel_rfl) (by kernel_rfl) (fun _ _ _ h => h) (Or.inr ⟨by rfl, rfl⟩) (by assumption) ?_; try simp only [Act.put, List.setIfInBounds_toArray, List.set_cons_zero, List.set_cons_succ])
          first
            | (refine take_drop (i := 3) (v := ?_) rfl (by kernel_rfl) (by kernel_rfl) (by kernel_rfl) (fun _ _ _ h => h) (Or.inl ⟨by rfl, ?_⟩) (by assumption) ?_; rotate_left 1; (focus (intro w hSw; (try dsimp only at hSw); go_simp; try with_reducible rfl)); try simp only [Act.put, List.setIfInBounds_toArray, List.set_cons_zero, List.set_cons_succ])
            | (refine take_drop (i := 3) (v := undef) rfl (by kernel_rfl) (by kernel_rfl) (by kernel_rfl) (fun _ _ _ h => h) (Or.inr ⟨by rfl, rfl⟩) (by assumption) ?_; try simp only [Act.put, List.setIfInBounds_toArray, List.set_cons_zero, List.set_cons_succ])
          first
            | (refine take_drop (i := 4) (v := ?_) rfl (by kernel_rfl) (by kernel_rfl) (by kernel_rfl) (fun _ _ _ h => h) (Or.inl ⟨by rfl, ?_⟩) (by assumption) ?_; rotate_left 1; (focus (intro w hSw; (try dsimp only at hSw); go_simp; try with_reducible rfl)); try simp only [Act.put, List.setIfInBounds_toArray, List.set_cons_zero, List.set_cons_succ])
            | (refine take_drop (i := 4) (v := undef) rfl (by kernel_rfl) (by kernel_rfl) (by kernel_rfl) (fun _ _ _ h => h) (Or.inr ⟨by rfl, rfl⟩) (by assumption) ?_; try simp only [Act.put, List.setIfInBounds_toArray, List.set_cons_zero, List.set_cons_succ])
          first
            | (refine take_drop (i := 6) (v := ?_) rfl (by kernel_rfl) (by kernel_rfl) (by kernel_rfl) (fun _ _ _ h => h) (Or.inl ⟨by rfl, ?_⟩) (by assumption) ?_; rotate_left 1; (focus (intro w hSw; (try dsimp only at hSw); go_simp; try with_reducible rfl)); try simp only [Act.put, List.setIfInBounds_toArray, List.set_cons_zero, List.set_cons_succ])
            | (refine take_drop (i := 6) (v := undef) rfl (by kernel_rfl) (by kernel_rfl) (by kernel_rfl) (fun _ _ _ h => h) (Or.inr ⟨by rfl, rfl⟩) (by assumption) ?_; try simp only [Act.put, List.setIfInBounds_toArray, List.set_cons_zero, List.set_cons_succ])
          refine wpAnyH_ready (rs := [5]) (by kernel_rfl) (by simp) ?_
          refine cons_drop rfl (fun K hK => ?_) AllReadyH.nil
          go_simp
          refine HBK.out.mono ?_
          rintro e g1 ⟨v1, rfl, row1, hb⟩
          have HDD := Lib.hid (HDD0.out.trans (hb.mono HDD0.out.size))
          have HEQ := Lib.hid (equal_same L9 (by omega) v1 (.slice A6 L9.length cap6) g1 row1.lies (HW9.out.later HDD.out))
          clear row1 hb
          go_wp2_with fail
          refine hK.out _ _ (HSS.out _ HDD.out) (fun hH1 => ?_)
          clear hK K hH0
          try simp only [Act.put, List.setIfInBounds_toArray, List.set_cons_zero, List.set_cons_succ]
          refine wpAnyH_ready (rs := [7]) (by kernel_rfl) (by simp) ?_
          refine cons_drop rfl (fun K hK => ?_) AllReadyH.nil
          go_simp
          refine HEQ.out.mono ?_
          rintro e g2 ⟨rfl, hb⟩
          replace HDD := Lib.hid (HDD.out.trans (hb.mono HDD.out.size))
          have HSM := Lib.hid ((HZ.out.later HDD.out).same (by omega))
          clear hb
          go_wp2_with fail
          refine hK.out _ _ (HSS.out _ HDD.out) (fun hH2 => ?_)
          clear hK K hH1
          try simp only [Act.put, List.setIfInBounds_toArray, List.set_cons_zero, List.set_cons_succ]
          first
            | (refine take_drop (i := 8) (v := ?_) rfl (by kernel_rfl) (by kernel_rfl) (by kernel_rfl) (fun _ _ _ h => h) (Or.inl ⟨by rfl, ?_⟩) (by assumption) ?_; rotate_left 1; (focus (intro w hSw; (try dsimp only at hSw); go_simp; try with_reducible rfl)); try simp only [Act.put, List.setIfInBounds_toArray, List.set_cons_zero, List.set_cons_succ])
            | (refine take_drop (i := 8) (v := undef) rfl (by kernel_rfl) (by kernel_rfl) (by kernel_rfl) (fun _ _ _ h => h) (Or.inr ⟨by rfl, rfl⟩) (by assumption) ?_; try simp only [Act.put, List.setIfInBounds_toArray, List.set_cons_zero, List.set_cons_succ])
          first
            | (refine take_drop (i := 9) (v := ?_) rfl (by kernel_rfl) (by kernel_rfl) (by kernel_rfl) (fun _ _ _ h => h) (Or.inl ⟨by rfl, ?_⟩) (by assumption) ?_; rotate_left 1; (focus (intro w hSw; (try dsimp only at hSw); go_simp; try with_reducible rfl)); try simp only [Act.put, List.setIfInBounds_toArray, List.set_cons_zero, List.set_cons_succ])
            | (refine take_drop (i := 9) (v := undef) rfl (by kernel_rfl) (by kernel_rfl) (by kernel_rfl) (fun _ _ _ h => h) (Or.inr ⟨by rfl, rfl⟩) (by assumption) ?_; try simp only [Act.put, List.setIfInBounds_toArray, List.set_cons_zero, List.set_cons_succ])
          first
            | (refine take_drop (i := 10) (v := ?_) rfl (by kernel_rfl) (by kernel_rfl) (by kernel_rfl) (fun _ _ _ h => h) (Or.inl ⟨by rfl, ?_⟩) (by assumption) ?_; rotate_left 1; (focus (intro w hSw; (try dsimp only at hSw); go_simp; try with_reducible rfl)); try simp only [Act.put, List.setIfInBounds_toArray, List.set_cons_zero, List.set_cons_succ])
            | (refine take_drop (i := 10) (v := undef) rfl (by kernel_rfl) (by kernel_rfl) (by kernel_rfl) (fun _ _ _ h => h) (Or.inr ⟨by rfl, rfl⟩) (by assumption) ?_; try simp only [Act.put, List.setIfInBounds_toArray, List.set_cons_zero, List.set_cons_succ])
          first
            | (refine take_drop (i := 11) (v := ?_) rfl (by kernel_rfl) (by kernel_rfl) (by kernel_rfl) (fun _ _ _ h => h) (Or.inl ⟨by rfl, ?_⟩) (by assumption) ?_; rotate_left 1; (focus (intro w hSw; (try dsimp only at hSw); go_simp; try with_reducible rfl)); try simp only [Act.put, List.setIfInBounds_toArray, List.set_cons_zero, List.set_cons_succ])
            | (refine take_drop (i := 11) (v := undef) rfl (by kernel_rfl) (by kernel_rfl) (by kernel_rfl) (fun _ _ _ h => h) (Or.inr ⟨by rfl, rfl⟩) (by assumption) ?_; try simp only [Act.put, List.setIfInBounds_toArray, List.set_cons_zero, List.set_cons_succ])
          first
            | (refine take_drop (i := 12) (v := ?_) rfl (by kernel_rfl) (by kernel_rfl) (by kernel_rfl) (fun _ _ _ h => h) (Or.inl ⟨by rfl, ?_⟩) (by assumption) ?_; rotate_left 1; (focus (intro w hSw; (try dsimp only at hSw); go_simp; try with_reducible rfl)); try simp only [Act.put, List.setIfInBounds_toArray, List.set_cons_zero, List.set_cons_succ])
            | (refine take_drop (i := 12) (v := undef) rfl (by kernel_rfl) (by kernel_rfl) (by kernel_rfl) (fun _ _ _ h => h) (Or.inr ⟨by rfl, rfl⟩) (by assumption) ?_; try simp only [Act.put, List.setIfInBounds_toArray, List.set_cons_zero, List.set_cons_succ])
          refine wpAnyH_ready (rs := [13]) (by kernel_rfl) (by simp) ?_
          refine cons_drop rfl (fun K hK => ?_) AllReadyH.nil
          go_simp
          refine HSM.out.mono ?_
          rintro e g3 ⟨rfl, hb⟩
          replace HDD := Lib.hid (HDD.out.trans (hb.mono HDD.out.size))
          have HHS := Lib.hid ((HZ.out.later HDD.out).has x.1 HOK.out.2.1)
          clear hb
          go_wp2_with fail
          refine hK.out _ _ (HSS.out _ HDD.out) (fun hH3 => ?_)
          clear hK K hH2
          try simp only [Act.put, List.setIfInBounds_toArray, List.set_cons_zero, List.set_cons_succ]
          first
            | (refine take_drop (i := 14) (v := ?_) rfl (by kernel_rfl) (by kernel_rfl) (by kernel_rfl) (fun _ _ _ h => h) (Or.inl ⟨by rfl, ?_⟩) (by assumption) ?_; rotate_left 1; (focus (intro w hSw; (try dsimp only at hSw); go_simp; try with_reducible rfl)); try simp only [Act.put, List.setIfInBounds_toArray, List.set_cons_zero, List.set_cons_succ])
            | (refine take_drop (i := 14) (v := undef) rfl (by kernel_rfl) (by kernel_rfl) (by kernel_rfl) (fun _ _ _ h => h) (Or.inr ⟨by rfl, rfl⟩) (by assumption) ?_; try simp only [Act.put, List.setIfInBounds_toArray, List.set_cons_zero, List.set_cons_succ])
          first
            | (refine take_drop (i := 15) (v := ?_) rfl (by kernel_rfl) (by kernel_rfl) (by kernel_rfl) (fun _ _ _ h => h) (Or.inl ⟨by rfl, ?_⟩) (by assumption) ?_; rotate_left 1; (focus (intro w hSw; (try dsimp only at hSw); go_simp; try with_reducible rfl)); try simp only [Act.put, List.setIfInBounds_toArray, List.set_cons_zero, List.set_cons_succ])
            | (refine take_drop (i := 15) (v := undef) rfl (by kernel_rfl) (by kernel_rfl) (by kernel_rfl) (fun _ _ _ h => h) (Or.inr ⟨by rfl, rfl⟩) (by assumption) ?_; try simp only [Act.put, List.setIfInBounds_toArray, List.set_cons_zero, List.set_cons_succ])
          first
            | (refine take_drop (i := 16) (v := ?_) rfl (by kernel_rfl) (by kernel_rfl) (by kernel_rfl) (fun _ _ _ h => h) (Or.inl ⟨by rfl, ?_⟩) (by assumption) ?_; rotate_left 1; (focus (intro w hSw; (try dsimp only at hSw); go_simp; try with_reducible rfl)); try simp only [Act.put, List.setIfInBounds_toArray, List.set_cons_zero, List.set_cons_succ])
            | (refine take_drop (i := 16) (v := undef) rfl (by kernel_rfl) (by kernel_rfl) (by kernel_rfl) (fun _ _ _ h => h) (Or.inr ⟨by rfl, rfl⟩) (by assumption) ?_; try simp only [Act.put, List.setIfInBounds_toArray, List.set_cons_zero, List.set_cons_succ])
          first
            | (refine take_drop (i := 17) (v := ?_) rfl (by kernel_rfl) (by kernel_rfl) (by kernel_rfl) (fun _ _ _ h => h) (Or.inl ⟨by rfl, ?_⟩) (by assumption) ?_; rotate_left 1; (focus (intro w hSw; (try dsimp only at hSw); go_simp; try with_reducible rfl)); try simp only [Act.put, List.setIfInBounds_toArray, List.set_cons_zero, List.set_cons_succ])
            | (refine take_drop (i := 17) (v := undef) rfl (by kernel_rfl) (by kernel_rfl) (by kernel_rfl) (fun _ _ _ h => h) (Or.inr ⟨by rfl, rfl⟩) (by assumption) ?_; try simp only [Act.put, List.setIfInBounds_toArray, List.set_cons_zero, List.set_cons_succ])
          first
            | (refine take_drop (i := 18) (v := ?_) rfl (by kernel_rfl) (by kernel_rfl) (by kernel_rfl) (fun _ _ _ h => h) (Or.inl ⟨by rfl, ?_⟩) (by assumption) ?_; rotate_left 1; (focus (intro w hSw; (try dsimp only at hSw); go_simp; try with_reducible rfl)); try simp only [Act.put, List.setIfInBounds_toArray, List.set_cons_zero, List.set_cons_succ])
            | (refine take_drop (i := 18) (v := undef) rfl (by kernel_rfl) (by kernel_rfl) (by kernel_rfl) (fun _ _ _ h => h) (Or.inr ⟨by rfl, rfl⟩) (by assumption) ?_; try simp only [Act.put, List.setIfInBounds_toArray, List.set_cons_zero, List.set_cons_succ])
          first
            | (refine take_drop (i := 19) (v := ?_) rfl (by kernel_rfl) (by kernel_rfl) (by kernel_rfl) (fun _ _ _ h => h) (Or.inl ⟨by rfl, ?_⟩) (by assumption) ?_; rotate_left 1; (focus (intro w hSw; (try dsimp only at hSw); go_simp; try with_reducible rfl)); try simp only [Act.put, List.setIfInBounds_toArray, List.set_cons_zero, List.set_cons_succ])
            | (refine take_drop (i := 19) (v := undef) rfl (by kernel_rfl) (by kernel_rfl) (by kernel_rfl) (fun _ _ _ h => h) (Or.inr ⟨by rfl, rfl⟩) (by assumption) ?_; try simp only [Act.put, List.setIfInBounds_toArray, List.set_cons_zero, List.set_cons_succ])
          first
            | (refine take_drop (i := 21) (v := ?_) rfl (by kernel_rfl) (by kernel_rfl) (by kernel_rfl) (fun _ _ _ h => h) (Or.inl ⟨by rfl, ?_⟩) (by assumption) ?_; rotate_left 1; (focus (intro w hSw; (try dsimp only at hSw); go_simp; try with_reducible rfl)); try simp only [Act.put, List.setIfInBounds_toArray, List.set_cons_zero, List.set_cons_succ])
            | (refine take_drop (i := 21) (v := undef) rfl (by kernel_rfl) (by kernel_rfl) (by kernel_rfl) (fun _ _ _ h => h) (Or.inr ⟨by rfl, rfl⟩) (by assumption) ?_; try simp only [Act.put, List.setIfInBounds_toArray, List.set_cons_zero, List.set_cons_succ])
          first
            | (refine take_drop (i := 22) (v := ?_) rfl (by kernel_rfl) (by kernel_rfl) (by kernel_rfl) (fun _ _ _ h => h) (Or.inl ⟨by rfl, ?_⟩) (by assumption) ?_; rotate_left 1; (focus (intro w hSw; (try dsimp only at hSw); go_simp; try with_reducible rfl)); try simp only [Act.put, List.setIfInBounds_toArray, List.set_cons_zero, List.set_cons_succ])
            | (refine take_drop (i := 22) (v := undef) rfl (by kernel_rfl) (by kernel_rfl) (by kernel_rfl) (fun _ _ _ h => h) (Or.inr ⟨by rfl, rfl⟩) (by assumption) ?_; try simp only [Act.put, List.setIfInBounds_toArray, List.set_cons_zero, List.set_cons_succ])
          first
            | (refine take_drop (i := 23) (v := ?_) rfl (by kernel_rfl) (by kernel_rfl) (by kernel_rfl) (fun _ _ _ h => h) (Or.inl ⟨by rfl, ?_⟩) (by assumption) ?_; rotate_left 1; (focus (intro w hSw; (try dsimp only at hSw); go_simp; try with_reducible rfl)); try simp only [Act.put, List.setIfInBounds_toArray, List.set_cons_zero, List.set_cons_succ])
            | (refine take_drop (i := 23) (v := undef) rfl (by kernel_rfl) (by kernel_rfl) (by kernel_rfl) (fun _ _ _ h => h) (Or.inr ⟨by rfl, rfl⟩) (by assumption) ?_; try simp only [Act.put, List.setIfInBounds_toArray, List.set_cons_zero, List.set_cons_succ])
          refine wpAnyH_ready (rs := [20]) (by kernel_rfl) (by simp) ?_
          refine cons_drop rfl (fun K hK => ?_) AllReadyH.nil
          go_simp
          refine HHS.out.mono ?_
          rintro e g4 ⟨rfl, hb⟩
          replace HDD := Lib.hid (HDD.out.trans (hb.mono HDD.out.size))
          have HFI := Lib.hid (rfind2 (now := nw2) (by omega) (.slice A9 T2.length cap9) x.1 (HZ.out.later HDD.out).row.lies)
          clear hb
          generalize hasId T2 x.1 = r at *
          go_wp2_with fail
          refine hK.out _ _ (HSS.out _ HDD.out) (fun hH4 => ?_)
          clear hK K hH3
          try simp only [Act.put, List.setIfInBounds_toArray, List.set_cons_zero, List.set_cons_succ]
          refine wpAnyH_ready (rs := [24]) (by kernel_rfl) (by simp) ?_
          refine cons_drop rfl (fun K hK => ?_) AllReadyH.nil
          go_simp
          refine HFI.out.mono ?_
          rintro e g5 ⟨⟨fi, rfl, hfi⟩, hb⟩
          replace HDD := Lib.hid (HDD.out.trans (hb.mono HDD.out.size))
          have HZ5 := Lib.hid ((HZ.out.later HDD.out).head)
          clear hb
          go_wp2_with fail
          refine hK.out _ _ (HSS.out _ HDD.out) (fun hH5 => ?_)
          clear hK K hH4
          try simp only [Act.put, List.setIfInBounds_toArray, List.set_cons_zero, List.set_cons_succ]
          first
            | (refine take_drop (i := 25) (v := ?_) rfl (by kernel_rfl) (by kernel_rfl) (by kernel_rfl) (fun _ _ _ h => h) (Or.inl ⟨by rfl, ?_⟩) (by assumption) ?_; rotate_left 1; (focus (intro w hSw; (try dsimp only at hSw); go_simp; try with_reducible rfl)); try simp only [Act.put, List.setIfInBounds_toArray, List.set_cons_zero, List.set_cons_succ])
            | (refine take_drop (i := 25) (v := undef) rfl (by kernel_rfl) (by kernel_rfl) (by kernel_rfl) (fun _ _ _ h => h) (Or.inr ⟨by rfl, rfl⟩) (by assumption) ?_; try simp only [Act.put, List.setIfInBounds_toArray, List.set_cons_zero, List.set_cons_succ])
          first
            | (refine take_drop (i := 26) (v := ?_) rfl (by kernel_rfl) (by kernel_rfl) (by kernel_rfl) (fun _ _ _ h => h) (Or.inl ⟨by rfl, ?_⟩) (by assumption) ?_; rotate_left 1; (focus (intro w hSw; (try dsimp only at hSw); go_simp; try with_reducible rfl)); try simp only [Act.put, List.setIfInBounds_toArray, List.set_cons_zero, List.set_cons_succ])
            | (refine take_drop (i := 26) (v := undef) rfl (by kernel_rfl) (by kernel_rfl) (by kernel_rfl) (fun _ _ _ h => h) (Or.inr ⟨by rfl, rfl⟩) (by assumption) ?_; try simp only [Act.put, List.setIfInBounds_toArray, List.set_cons_zero, List.set_cons_succ])
          first
            | (refine take_drop (i := 27) (v := ?_) rfl (by kernel_rfl) (by kernel_rfl) (by kernel_rfl) (fun _ _ _ h => h) (Or.inl ⟨by rfl, ?_⟩) (by assumption) ?_; rotate_left 1; (focus (intro w hSw; (try dsimp only at hSw); go_simp; try with_reducible rfl)); try simp only [Act.put, List.setIfInBounds_toArray, List.set_cons_zero, List.set_cons_succ])
            | (refine take_drop (i := 27) (v := undef) rfl (by kernel_rfl) (by kernel_rfl) (by kernel_rfl) (fun _ _ _ h => h) (Or.inr ⟨by rfl, rfl⟩) (by assumption) ?_; try simp only [Act.put, List.setIfInBounds_toArray, List.set_cons_zero, List.set_cons_succ])
          refine wpAnyH_done (by kernel_rfl) ?_ _
          refine NoPanic.normal ?_
          go_wp2_with fail
          exact ⟨⟨i + 1, nw2, T2, _, rfl, by omega, by omega, HZ5.out⟩, by simp [intOf]; omega⟩
    · have hin' : ¬ ((i : Int) < ops.length) := by omega
      obtain ⟨b0, b1, -⟩ := cellsW hs.box
      have hrr := hs.rbx
      rw [HROB.out] at hrr
      obtain ⟨r0, r1, rf⟩ := cellsW hrr
      have rf0 := rf 0
      have rf1 := rf 1
      have HB := Lib.hid hs.bel
      have hbx := hs.hbx
      clear hs hrr rf
      go_wp2_with fail
      refine bodyPost_ret (v := .tuple #[.agg #[.int .u64 (nw : Nat), .slice A1 T.length cap1], .bool true]) (by simp [results, Tryd.results36, go_sem, r0, r1, b0, b1]) rfl ⟨⟨nw, A1, _, cap1, rfl⟩, ?_⟩
      exact (HB.out.setCell (by simp; omega) _).setCell (by simp; omega) _
end Wh
end Go.Proofs.YtkjlfoihojfnbaaDoor

namespace Go.Proofs.YtkjlfoihojfnbaaDoor
open Go.RowKit
set_option linter.unusedVariables false
set_option linter.unusedSimpArgs false
namespace Wh
open Lo (IRow KB Lies below_drew Deb)
set_option maxRecDepth 100000 in
set_option maxHeartbeats 8000000 in
theorem wm_walk (n0 : Nat) (hn : n0 < 18446744073709551616) (A : Option Addr) (cap : Nat) (ops : List WOp) (w : World) (hin : WOpsIn w A cap ops) (hlen : ops.length ≤ 100) (hd : Deb w) :
    Calls Tryd.prog 8 #[.int .u64 (n0 : Nat), .slice A ops.length cap] w fun e w' => e = .returned (.bool true) ∧ Below w.heap.size w w' := by
  obtain ⟨st, hst⟩ : ∃ st : Nat, st = min n0 9223372036854775807 := ⟨_, rfl⟩
  have HN := Lib.hid (wnew_any n0 st hn hst w)
  have HR := Lib.hid (fun W => rnew_any n0 st hst W)
  have hlen' : (ops.length : Int) ≤ 100 := by omega
  have hg : ¬ ((100 : Int) < ops.length) := by omega
  have HP := Lib.hid (fun (w1 w2 : World) (h1 : Whl w.heap.size w1 (w.heap.size + 1) st [] (fun g => w.heap.size ≤ g)) (hb1 : Below w.heap.size w w1) (hb2 : Below w1.heap.size w1 w2) =>
    play_walk (base := w.heap.size) (b := w.heap.size + 1) st A cap ops w w2 (h1.cut.later hb2) (fun g e => ⟨e.1, Nat.lt_of_lt_of_le e.2 hb2.size⟩) (hb1.trans (hb2.mono hb1.size)) rfl hin hlen hd)
  have HD := Lib.hid hd
  clear hin hd hst hn
  go_enter Tryd.func8, Tryd.ntmps8
  go_wp2_with fail
  refine HN.out.mono ?_
  rintro e w1 ⟨rfl, h1, hb1⟩
  have H1 := Lib.hid h1
  have HB1 := Lib.hid hb1
  clear h1 hb1
  go_wp2_with fail
  refine (HR.out w1).mono ?_
  rintro e w2 ⟨rfl, hb2⟩
  have HPL := Lib.hid (HP.out w1 w2 H1.out HB1.out hb2)
  clear hb2
  go_wp2_with fail
  refine HPL.out.mono ?_
  rintro e w3 ⟨⟨n, A', l', c', rfl⟩, hb3⟩
  have HB3 := Lib.hid hb3
  obtain ⟨w4, hw4⟩ : ∃ w4, w4 = w3.alloc (.cells #[.int .u64 (n : Nat), .slice A' l' c'] 49) := ⟨_, rfl⟩
  have HB4 : Hid (Below w.heap.size w w4) := Lib.hid (by rw [hw4]; exact hb3.alloc hb3.size _)
  have HA := Lib.hid (walive_any w4 (deb_ge HD.out HD.out.2 HB4.out (Nat.le_refl _)))
  replace hw4 := Lib.hid hw4
  clear hb3
  go_upto_region 5 with fail
  rw [← hw4.out]
  go_wp2_with fail
  refine HA.out.mono ?_
  rintro e w5 ⟨rfl, hb5⟩
  have HB5 := Lib.hid (HB4.out.trans (hb5.mono HB4.out.size))
  clear hb5
  go_wp2_with fail
  go_ret
  exact ⟨rfl, HB5.out⟩
set_option maxRecDepth 100000 in
set_option maxHeartbeats 8000000 in
theorem wm_long (n0 : Nat) (hn : n0 < 18446744073709551616) (A : Option Addr) (cap len : Nat) (w : World) (hm : len ≤ 9223372036854775807) (hlen : 100 < len) (hd : Deb w) :
    Calls Tryd.prog 8 #[.int .u64 (n0 : Nat), .slice A len cap] w fun e w' => e = .returned (.bool true) ∧ Below w.heap.size w w' := by
  have HN := Lib.hid (wnew_any n0 _ hn rfl w)
  have HA := Lib.hid (fun W (h : Deb W) => walive_any W h)
  have HD := Lib.hid hd
  have hlen' : (100 : Int) < len := by omega
  have hm' : (len : Int) ≤ 9223372036854775807 := by omega
  clear hd hn
  go_enter Tryd.func8, Tryd.ntmps8
  go_wp2_with fail
  refine HN.out.mono ?_
  rintro e w1 ⟨rfl, -, hb1⟩
  have HB2 := Lib.hid hb1
  clear hb1
  go_wp2_with fail
  refine (HA.out w1 (deb_ge HD.out HD.out.2 HB2.out (Nat.le_refl _))).mono ?_
  rintro e w3 ⟨rfl, hb3⟩
  have HB3 := Lib.hid (HB2.out.trans (hb3.mono HB2.out.size))
  clear hb3
  go_wp2_with fail
  go_ret
  exact ⟨rfl, HB3.out⟩
set_option maxRecDepth 100000 in
open Go.ChangeShapes Go.WideShapes Go.ChangeAt Go.ChangeMaps in
theorem wm_open {H : Type} {enc : TypeId × Value → H} {base b1 : Nat} {spare : Nat → Bool} {held : Bool} {d0 d1 : DataW H} {p0 p1 : List MemPlace} (v0 v1 : Value) (W : World)
    (o0 : Value.okWide Tryd.prog W .any base 27 v0) (k0 : DataW.Trod enc Tryd.prog W b1 spare held 27 v0 d0 p0)
    (o1 : Value.okWide Tryd.prog W .any base 68 v1) (k1 : DataW.Trod enc Tryd.prog W b1 spare held 68 v1 d1 p1) (hL : laidMetH Tryd.prog Rows.wheelMatchesRow.laid W) :
    Calls Tryd.prog 8 #[v0, v1] W fun e w' => e = .returned (.bool true) ∧ Below W.heap.size W w' := by
  obtain ⟨n, rfl, rfl, rfl, w0⟩ := open_int Tryd.underlying27 o0 k0
  obtain ⟨l, A, cap, rfl, hin, hm⟩ := wops_open v1 W o1 k1
  simp [Lit.wf, IntKind.min, IntKind.max, IntKind.bits, IntKind.signed] at w0
  obtain ⟨m, rfl⟩ : ∃ m : Nat, n = m := ⟨n.toNat, by omega⟩
  have hd : Deb W := deb_of_laid (by kernel_rfl) hL
  by_cases h : l.length ≤ 100
  · exact wm_walk m (by omega) A cap l W hin h hd
  · exact wm_long m (by omega) A cap l.length W hm (by omega) hd
end Wh
end Go.Proofs.YtkjlfoihojfnbaaDoor
