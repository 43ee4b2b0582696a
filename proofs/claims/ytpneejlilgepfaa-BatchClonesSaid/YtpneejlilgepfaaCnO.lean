/- BatchClones: the walk. -/
import Derived.Test.YtpneejlilgepfaaCnN
import Derived.Test.YtpneejlilgepfaaCnK
import Derived.Test.YtpneejlilgepfaaCnD
import Derived.Deep.Cut
namespace Go.Proofs.Ytpneejlilgepfaa
open Go.RowKit
set_option linter.unusedVariables false
set_option linter.unusedSimpArgs false
namespace Cn
open Nm (bitsW ret_int ret_bool)
open Vt (VT Rep BoxAt below_drew Cloned put5 KidsAt HeadOk)
open Ev (EV FieldsOk evCells vCells EBox ERep zeroT take_drop cons_drop)
open Cm (rowOf EvsIn EvsAt EvNew evsSame evSame evsSame_refl)

theorem few_slim {es : List EV} (h : ∀ k (hk : k < es.length), efew es[k] = true) : ∀ i (h : i < es.length), es[i].v.Slim 900 := fun i hi => by
  have h1 := h i hi
  unfold efew at h1
  simp only [Bool.and_eq_true] at h1
  exact Vt.slim_of_few _ h1.1.1

set_option maxRecDepth 100000 in
set_option maxHeartbeats 8000000 in
theorem clones_walk (es : List EV) (hl40 : es.length ≤ 1099511627775) (f : ByteArray) (hfs : f.size ≤ maxLen) (at' : Nat) (hat : at' < 18446744073709551616) (A : Option Addr) (cap : Nat) (w : World) (h : EvsIn w A cap es) :
    Calls Try.prog 3 #[.agg #[.string f, .int .u64 at', .slice A es.length cap]] w fun r w' => r = .returned (.bool true) ∧ Below w.heap.size w w' := by
  have hle := h.le
  have hc := h.cap_le
  simp only [maxLen] at hc
  obtain ⟨W0, hW0⟩ : ∃ W0, W0 = w.alloc (.cells #[.string f, .int .u64 at', .slice A es.length cap] 25) := ⟨_, rfl⟩
  have hx0 : BB W0 w.heap.size f at' A es.length cap := by rw [hW0]; exact heap_alloc_new w _
  have hb0 : Below w.heap.size w W0 := by rw [hW0]; exact (Below.refl _ _).alloc (Nat.le_refl _) _
  have hz0 : w.heap.size < W0.heap.size := by rw [hW0]; simp
  obtain ⟨c0, c1, c2, -⟩ := hx0.cells
  have HX0 := Lib.hid hx0; have HB0 := Lib.hid hb0
  have HK := Lib.hid (h.later hb0)
  have HFW := Lib.hid (fewlaw_any es f hfs at' A cap W0 HK.out)
  have HSE : Hid (evsSame es es = true) := Lib.hid (evsSame_refl es)
  have HSC : Hid (evsSame (cmds es) (cmds es) = true) := Lib.hid (evsSame_refl _)
  replace hW0 := Lib.hid hW0
  clear h hx0 hb0 hfs
  go_enter Try.func3, Try.ntmps3
  go_upto_region 1 with fail
  rw [← hW0.out]
  go_wp2_with fail
  refine HFW.out.mono ?_
  rintro x w1 ⟨b, rfl, hfew, hb1⟩
  have HB1 := Lib.hid (HB0.out.trans (hb1.mono HB0.out.size))
  have HX1 := Lib.hid (HX0.out.later hb1 hz0)
  have HK1 := Lib.hid (HK.out.later hb1)
  have hz1 : w.heap.size < w1.heap.size := Nat.lt_of_lt_of_le hz0 hb1.size
  clear hb1 c0 c1 c2 hz0 HX0 HK HFW
  cases b with
  | false =>
    have HA := Lib.hid (balive_any w1)
    clear hfew
    go_wp2_with fail
    refine HA.out.mono ?_
    rintro x w2 ⟨rfl, hb2⟩
    have HB2 := Lib.hid (HB1.out.trans (hb2.mono (Nat.le_of_lt hz1)))
    clear hb2
    go_wp2_with fail
    go_ret
    exact ⟨rfl, HB2.out⟩
  | true =>
    have hS := few_slim (hfew rfl).2
    have HC := Lib.hid (r13clone_any es hl40 hS f at' A cap w1 HK1.out)
    have HS := Lib.hid hS
    obtain ⟨c0, c1, c2, -⟩ := HX1.out.cells
    clear hfew hS
    go_wp2_with fail
    refine HC.out.mono ?_
    rintro x w2 ⟨A1, cc1, rfl, hb2, hev⟩
    obtain ⟨W2, hW2⟩ : ∃ W2, W2 = w2.alloc (.cells #[.string f, .int .u64 at', .slice A1 es.length cc1] 25) := ⟨_, rfl⟩
    have hbz : Below w2.heap.size w2 W2 := by rw [hW2]; exact (Below.refl _ _).alloc (Nat.le_refl _) _
    have hx2 : BB W2 w2.heap.size f at' A1 es.length cc1 := by rw [hW2]; exact heap_alloc_new w2 _
    have hz2 : w2.heap.size < W2.heap.size := by rw [hW2]; simp
    have hz12 : w1.heap.size ≤ w2.heap.size := hb2.size
    have HX2 := Lib.hid hx2
    have H12 := Lib.hid (hb2.trans (hbz.mono hz12))
    have HM2 : Hid (MutB W2 w1.heap.size w2.heap.size A1 es.length) := Lib.hid ((EvsAt.mutb hev).later hbz)
    have HE2 : Hid (EvsIn W2 A1 cc1 es) := Lib.hid (hev.read.later hbz)
    have hle1 := hev.read.le
    have hc1 := hev.read.cap_le
    simp only [maxLen] at hc1
    have HB2 := Lib.hid (HB1.out.trans ((hb2.trans (hbz.mono hz12)).mono (Nat.le_of_lt hz1)))
    have HXA : Hid (BB W2 w.heap.size f at' A es.length cap) := Lib.hid (HX1.out.later (hb2.trans (hbz.mono hz12)) hz1)
    have HKA : Hid (EvsIn W2 A cap es) := Lib.hid (HK1.out.later (hb2.trans (hbz.mono hz12)))
    have HCl : Hid (∀ W, Below W2.heap.size W2 W → Calls Try.prog 7 #[.agg #[.string f, .int .u64 at', .slice A1 es.length cc1]] W fun r w' => ∃ A2 cap2, r = .returned (.agg #[.string f, .int .u64 at', .slice A2 es.length cap2]) ∧ Below W.heap.size W w' ∧ EvsAt w' W.heap.size A2 cap2 es.length es) := Lib.hid fun W hW => bclone_any es hl40 HS.out f at' A1 cc1 W (HE2.out.later hW)
    have HCm : Hid (∀ W, Below W2.heap.size W2 W → Calls Try.prog 8 #[.agg #[.string f, .int .u64 at', .slice A1 es.length cc1]] W fun r w' => ∃ A2 cap2 n, r = .returned (.slice A2 n cap2) ∧ Below W.heap.size W w' ∧ EvsAt w' W.heap.size A2 cap2 n (cmds es)) := Lib.hid fun W hW => bcmds_any es hl40 HS.out f at' A1 cc1 W (HE2.out.later hW)
    have KS : Hid (∀ W', Below W2.heap.size W2 W' → W'.cell? ⟨w2.heap.size, 0, none⟩ = some (.string f) ∧ W'.cell? ⟨w2.heap.size, 1, none⟩ = some (.int .u64 at') ∧ W'.cell? ⟨w2.heap.size, 2, none⟩ = some (.slice A1 es.length cc1)) := Lib.hid fun W' hW => by
      obtain ⟨z0, z1, z2, -⟩ := (HX2.out.later hW (by omega)).cells
      exact ⟨z0, z1, z2⟩
    replace hW2 := Lib.hid hW2
    clear hb2 hev hbz hx2 c0 c1 c2
    go_upto_region 4 with fail
    rw [← hW2.out]
    go_cut [4, 5] from 14 to 17 (fun z l wx => ∃ bc A2 c2 A3 c3 n3, z = .pointer (some ⟨bc, 0, none⟩) ∧ l = .slice A3 n3 c3 ∧ W2.heap.size ≤ bc ∧ BB wx bc f at' A2 es.length c2 ∧ EvsAt wx W2.heap.size A2 c2 es.length es ∧ EvsAt wx W2.heap.size A3 c3 n3 (cmds es) ∧ Below W2.heap.size W2 wx)
    case first =>
      have HBd : Hid (Below W2.heap.size W2 W2.drew) := Lib.hid (below_drew (Below.refl _ _))
      refine wp_region_noPanic ?_
      refine wp_region_held_drew (S := fun W' => W'.cell? ⟨w2.heap.size, 0, none⟩ = some (.string f) ∧ W'.cell? ⟨w2.heap.size, 1, none⟩ = some (.int .u64 at') ∧ W'.cell? ⟨w2.heap.size, 2, none⟩ = some (.slice A1 es.length cc1)) (by kernel_rfl) ?_ (fun hHeld => ?_)
      · exact KS.out _ (below_drew (Below.refl _ _))
      first
        | (refine take_drop (i := 0) (v := ?_) rfl (by kernel_rfl) (by kernel_rfl) (by kernel_rfl) (fun _ _ _ h => h) (Or.inl ⟨by rfl, ?_⟩) (by assumption) ?_; rotate_left 1; (focus (intro w hSw; (try dsimp only at hSw); go_simp; try with_reducible rfl)); try simp only [Act.put, List.setIfInBounds_toArray, List.set_cons_zero, List.set_cons_succ])
        | (refine take_drop (i := 0) (v := undef) rfl (by kernel_rfl) (by kernel_rfl) (by kernel_rfl) (fun _ _ _ h => h) (Or.inr ⟨by rfl, rfl⟩) (by assumption) ?_; try simp only [Act.put, List.setIfInBounds_toArray, List.set_cons_zero, List.set_cons_succ])
      first
        | (refine take_drop (i := 2) (v := ?_) rfl (by kernel_rfl) (by kernel_rfl) (by kernel_rfl) (fun _ _ _ h => h) (Or.inl ⟨by rfl, ?_⟩) (by assumption) ?_; rotate_left 1; (focus (intro w hSw; (try dsimp only at hSw); go_simp; try with_reducible rfl)); try simp only [Act.put, List.setIfInBounds_toArray, List.set_cons_zero, List.set_cons_succ])
        | (refine take_drop (i := 2) (v := undef) rfl (by kernel_rfl) (by kernel_rfl) (by kernel_rfl) (fun _ _ _ h => h) (Or.inr ⟨by rfl, rfl⟩) (by assumption) ?_; try simp only [Act.put, List.setIfInBounds_toArray, List.set_cons_zero, List.set_cons_succ])
      refine wpAnyH_ready (rs := [1, 4]) (by kernel_rfl) (by simp) ?_
      refine cons_drop rfl (fun K hK => ?_) (cons_drop rfl (fun K hK => ?_) AllReadyH.nil)
      · go_simp
        refine (HCl.out _ HBd.out).mono ?_
        rintro x wa ⟨A2, c2, rfl, hb9, hev9⟩
        have HRa := Lib.hid hb9
        have HBwa : Hid (Below W2.heap.size W2 wa) := Lib.hid (Below.trans HBd.out (hb9.mono (Below.size HBd.out)))
        have HEwa := Lib.hid hev9
        clear hb9 hev9
        go_wp2_with fail
        refine hK.out _ _ (KS.out _ HBwa.out) (fun hHeld2 => ?_)
        clear hK K
        try simp only [Act.put, List.setIfInBounds_toArray, List.set_cons_zero, List.set_cons_succ]
        refine wpAnyH_ready (rs := [3, 4]) (by kernel_rfl) (by simp) ?_
        refine cons_drop rfl (fun K hK => ?_) (cons_drop rfl (fun K hK => ?_) AllReadyH.nil)
        · go_simp
          refine (HCm.out _ HBwa.out).mono ?_
          rintro x wb ⟨A3, c3, n3, rfl, hb9, hev9⟩
          have HRb := Lib.hid hb9
          have HBwb : Hid (Below W2.heap.size W2 wb) := Lib.hid (Below.trans HBwa.out (hb9.mono (Below.size HBwa.out)))
          have HEwb := Lib.hid hev9
          clear hb9 hev9
          go_wp2_with fail
          refine hK.out _ _ (KS.out _ HBwb.out) (fun hHeld2 => ?_)
          clear hK K
          try simp only [Act.put, List.setIfInBounds_toArray, List.set_cons_zero, List.set_cons_succ]
          refine wpAnyH_ready (rs := [4]) (by kernel_rfl) (by simp) ?_
          refine cons_drop rfl (fun K hK => ?_) AllReadyH.nil
          go_simp
          obtain ⟨wz, hwz⟩ : ∃ x, x = wb.alloc (.cells #[.string ⟨#[]⟩, .int .u64 0, .slice none 0 0] 25) := ⟨_, rfl⟩
          rw [← hwz]
          have hb9 : Below wb.heap.size wb wz := by rw [hwz]; exact (Below.refl _ _).alloc (Nat.le_refl _) _
          have HRz := Lib.hid hb9
          have HBX : Hid (BB wz wb.heap.size ⟨#[]⟩ 0 none 0 0) := Lib.hid (by rw [hwz]; exact heap_alloc_new wb _)
          have HBwz : Hid (Below W2.heap.size W2 wz) := Lib.hid (Below.trans HBwb.out (hb9.mono (Below.size HBwb.out)))
          have hzz : wz.heap.size = wb.heap.size + 1 := by rw [hwz]; simp
          replace hwz := Lib.hid hwz
          clear hb9
          have HZZ := Lib.hid hzz
          clear hzz
          refine hK.out _ _ (KS.out _ HBwz.out) (fun hHeld2 => ?_)
          clear hK K
          try simp only [Act.put, List.setIfInBounds_toArray, List.set_cons_zero, List.set_cons_succ]
          have HXF := Lib.hid (show BB wz wb.heap.size ⟨#[]⟩ 0 none 0 0 from HBX.out)
          obtain ⟨y0, y1, y2, yf⟩ := BB.cells HXF.out
          have yf0 := yf 0; have yf1 := yf 1; have yf2 := yf 2
          obtain ⟨wf, hwf⟩ : ∃ x, x = ((wz.setCell ⟨wb.heap.size, 0, none⟩ (.string f)).setCell ⟨wb.heap.size, 1, none⟩ (.int .u64 at')).setCell ⟨wb.heap.size, 2, none⟩ (.slice A2 es.length c2) := ⟨_, rfl⟩
          have HEC : Hid (EvsAt wf W2.heap.size A2 c2 es.length es) := Lib.hid (by rw [hwf]; exact evs_base (Cm.EvsAt.later HEwa.out ((((((Below.refl wa.heap.size wa).trans (HRb.out.mono (Below.size (Below.refl wa.heap.size wa)))).trans (HRz.out.mono (Below.size ((Below.refl wa.heap.size wa).trans (HRb.out.mono (Below.size (Below.refl wa.heap.size wa))))))).setCell (by have := Below.size ((Below.refl wa.heap.size wa).trans (HRb.out.mono (Below.size (Below.refl wa.heap.size wa)))); exact this) _).setCell (by have := Below.size ((Below.refl wa.heap.size wa).trans (HRb.out.mono (Below.size (Below.refl wa.heap.size wa)))); exact this) _).setCell (by have := Below.size ((Below.refl wa.heap.size wa).trans (HRb.out.mono (Below.size (Below.refl wa.heap.size wa)))); exact this) _)) (Nat.le_refl _))
          have HEL : Hid (EvsAt wf W2.heap.size A3 c3 n3 (cmds es)) := Lib.hid (by rw [hwf]; exact evs_base (Cm.EvsAt.later HEwb.out (((((Below.refl wb.heap.size wb).trans (HRz.out.mono (Below.size (Below.refl wb.heap.size wb)))).setCell (by have := Below.size (Below.refl wb.heap.size wb); exact this) _).setCell (by have := Below.size (Below.refl wb.heap.size wb); exact this) _).setCell (by have := Below.size (Below.refl wb.heap.size wb); exact this) _)) (Below.size HBwa.out))
          have HBC : Hid (BB wf wb.heap.size f at' A2 es.length c2) := Lib.hid (by rw [hwf]; have h := HXF.out; unfold BB at h ⊢; simp [World.setCell, Array.getElem?_modify, h])
          have HBF : Hid (Below W2.heap.size W2 wf) := Lib.hid (by rw [hwf]; exact ((HBwz.out.setCell (Below.size HBwb.out) _).setCell (Below.size HBwb.out) _).setCell (Below.size HBwb.out) _)
          replace hwf := Lib.hid hwf
          refine wpAnyH_ready (rs := [5]) (by kernel_rfl) (by simp) ?_
          refine cons_drop rfl (fun K hK => ?_) AllReadyH.nil
          go_simp
          rw [← hwf.out]
          refine hK.out _ _ (KS.out _ HBF.out) (fun hHeld5 => ?_)
          clear hK K
          try simp only [Act.put, List.setIfInBounds_toArray, List.set_cons_zero, List.set_cons_succ]
          first
            | (refine take_drop (i := 6) (v := ?_) rfl (by kernel_rfl) (by kernel_rfl) (by kernel_rfl) (fun _ _ _ h => h) (Or.inl ⟨by rfl, ?_⟩) (by assumption) ?_; rotate_left 1; (focus (intro w hSw; (try dsimp only at hSw); go_simp; try with_reducible rfl)); try simp only [Act.put, List.setIfInBounds_toArray, List.set_cons_zero, List.set_cons_succ])
            | (refine take_drop (i := 6) (v := undef) rfl (by kernel_rfl) (by kernel_rfl) (by kernel_rfl) (fun _ _ _ h => h) (Or.inr ⟨by rfl, rfl⟩) (by assumption) ?_; try simp only [Act.put, List.setIfInBounds_toArray, List.set_cons_zero, List.set_cons_succ])
          refine wpAnyH_done (by kernel_rfl) ?_ _
          refine NoPanic.normal ?_
          clear y0 y1 y2 yf yf0 yf1 yf2
          go_wp2_with fail
          go_meet
          case rel => exact ⟨_, A2, c2, A3, c3, n3, rfl, rfl, Below.size HBwb.out, HBC.out, HEC.out, HEL.out, HBF.out⟩
        · go_simp
          obtain ⟨wz, hwz⟩ : ∃ x, x = wa.alloc (.cells #[.string ⟨#[]⟩, .int .u64 0, .slice none 0 0] 25) := ⟨_, rfl⟩
          rw [← hwz]
          have hb9 : Below wa.heap.size wa wz := by rw [hwz]; exact (Below.refl _ _).alloc (Nat.le_refl _) _
          have HRz := Lib.hid hb9
          have HBX : Hid (BB wz wa.heap.size ⟨#[]⟩ 0 none 0 0) := Lib.hid (by rw [hwz]; exact heap_alloc_new wa _)
          have HBwz : Hid (Below W2.heap.size W2 wz) := Lib.hid (Below.trans HBwa.out (hb9.mono (Below.size HBwa.out)))
          have hzz : wz.heap.size = wa.heap.size + 1 := by rw [hwz]; simp
          replace hwz := Lib.hid hwz
          clear hb9
          have HZZ := Lib.hid hzz
          clear hzz
          refine hK.out _ _ (KS.out _ HBwz.out) (fun hHeld2 => ?_)
          clear hK K
          try simp only [Act.put, List.setIfInBounds_toArray, List.set_cons_zero, List.set_cons_succ]
          refine wpAnyH_ready (rs := [3]) (by kernel_rfl) (by simp) ?_
          refine cons_drop rfl (fun K hK => ?_) AllReadyH.nil
          go_simp
          refine (HCm.out _ HBwz.out).mono ?_
          rintro x wb ⟨A3, c3, n3, rfl, hb9, hev9⟩
          have HRb := Lib.hid hb9
          have HBwb : Hid (Below W2.heap.size W2 wb) := Lib.hid (Below.trans HBwz.out (hb9.mono (Below.size HBwz.out)))
          have HEwb := Lib.hid hev9
          clear hb9 hev9
          go_wp2_with fail
          refine hK.out _ _ (KS.out _ HBwb.out) (fun hHeld2 => ?_)
          clear hK K
          try simp only [Act.put, List.setIfInBounds_toArray, List.set_cons_zero, List.set_cons_succ]
          have HXF := Lib.hid (show BB wb wa.heap.size ⟨#[]⟩ 0 none 0 0 from HBX.out.later ((Below.refl wz.heap.size wz).trans (HRb.out.mono (Below.size (Below.refl wz.heap.size wz)))) (by have := HZZ.out; omega))
          obtain ⟨y0, y1, y2, yf⟩ := BB.cells HXF.out
          have yf0 := yf 0; have yf1 := yf 1; have yf2 := yf 2
          obtain ⟨wf, hwf⟩ : ∃ x, x = ((wb.setCell ⟨wa.heap.size, 0, none⟩ (.string f)).setCell ⟨wa.heap.size, 1, none⟩ (.int .u64 at')).setCell ⟨wa.heap.size, 2, none⟩ (.slice A2 es.length c2) := ⟨_, rfl⟩
          have HEC : Hid (EvsAt wf W2.heap.size A2 c2 es.length es) := Lib.hid (by rw [hwf]; exact evs_base (Cm.EvsAt.later HEwa.out ((((((Below.refl wa.heap.size wa).trans (HRz.out.mono (Below.size (Below.refl wa.heap.size wa)))).trans (HRb.out.mono (Below.size ((Below.refl wa.heap.size wa).trans (HRz.out.mono (Below.size (Below.refl wa.heap.size wa))))))).setCell (by have := Below.size (Below.refl wa.heap.size wa); exact this) _).setCell (by have := Below.size (Below.refl wa.heap.size wa); exact this) _).setCell (by have := Below.size (Below.refl wa.heap.size wa); exact this) _)) (Nat.le_refl _))
          have HEL : Hid (EvsAt wf W2.heap.size A3 c3 n3 (cmds es)) := Lib.hid (by rw [hwf]; exact evs_base (evs_setCell (evs_setCell (evs_setCell (Cm.EvsAt.later HEwb.out (Below.refl wb.heap.size wb)) (Nat.le_of_eq HZZ.out.symm) _) (Nat.le_of_eq HZZ.out.symm) _) (Nat.le_of_eq HZZ.out.symm) _) (Below.size HBwz.out))
          have HBC : Hid (BB wf wa.heap.size f at' A2 es.length c2) := Lib.hid (by rw [hwf]; have h := HXF.out; unfold BB at h ⊢; simp [World.setCell, Array.getElem?_modify, h])
          have HBF : Hid (Below W2.heap.size W2 wf) := Lib.hid (by rw [hwf]; exact ((HBwb.out.setCell (Below.size HBwa.out) _).setCell (Below.size HBwa.out) _).setCell (Below.size HBwa.out) _)
          replace hwf := Lib.hid hwf
          refine wpAnyH_ready (rs := [5]) (by kernel_rfl) (by simp) ?_
          refine cons_drop rfl (fun K hK => ?_) AllReadyH.nil
          go_simp
          rw [← hwf.out]
          refine hK.out _ _ (KS.out _ HBF.out) (fun hHeld5 => ?_)
          clear hK K
          try simp only [Act.put, List.setIfInBounds_toArray, List.set_cons_zero, List.set_cons_succ]
          first
            | (refine take_drop (i := 6) (v := ?_) rfl (by kernel_rfl) (by kernel_rfl) (by kernel_rfl) (fun _ _ _ h => h) (Or.inl ⟨by rfl, ?_⟩) (by assumption) ?_; rotate_left 1; (focus (intro w hSw; (try dsimp only at hSw); go_simp; try with_reducible rfl)); try simp only [Act.put, List.setIfInBounds_toArray, List.set_cons_zero, List.set_cons_succ])
            | (refine take_drop (i := 6) (v := undef) rfl (by kernel_rfl) (by kernel_rfl) (by kernel_rfl) (fun _ _ _ h => h) (Or.inr ⟨by rfl, rfl⟩) (by assumption) ?_; try simp only [Act.put, List.setIfInBounds_toArray, List.set_cons_zero, List.set_cons_succ])
          refine wpAnyH_done (by kernel_rfl) ?_ _
          refine NoPanic.normal ?_
          clear y0 y1 y2 yf yf0 yf1 yf2
          go_wp2_with fail
          go_meet
          case rel => exact ⟨_, A2, c2, A3, c3, n3, rfl, rfl, Below.size HBwa.out, HBC.out, HEC.out, HEL.out, HBF.out⟩
      · go_simp
        obtain ⟨wz, hwz⟩ : ∃ x, x = (W2.alloc (.cells #[.string ⟨#[]⟩, .int .u64 0, .slice none 0 0] 25)).drew := ⟨_, rfl⟩
        rw [← hwz]
        have hb9 : Below W2.heap.size W2 wz := by rw [hwz]; exact below_drew ((Below.refl _ _).alloc (Nat.le_refl _) _)
        have HRz := Lib.hid hb9
        have HBX : Hid (BB wz W2.heap.size ⟨#[]⟩ 0 none 0 0) := Lib.hid (by rw [hwz]; exact heap_alloc_new W2 _)
        have HBwz : Hid (Below W2.heap.size W2 wz) := Lib.hid hb9
        have hzz : wz.heap.size = W2.heap.size + 1 := by rw [hwz]; exact World.size_alloc ..
        replace hwz := Lib.hid hwz
        clear hb9
        have HZZ := Lib.hid hzz
        clear hzz
        refine hK.out _ _ (KS.out _ HBwz.out) (fun hHeld2 => ?_)
        clear hK K
        try simp only [Act.put, List.setIfInBounds_toArray, List.set_cons_zero, List.set_cons_succ]
        refine wpAnyH_ready (rs := [1]) (by kernel_rfl) (by simp) ?_
        refine cons_drop rfl (fun K hK => ?_) AllReadyH.nil
        go_simp
        refine (HCl.out _ HBwz.out).mono ?_
        rintro x wa ⟨A2, c2, rfl, hb9, hev9⟩
        have HRa := Lib.hid hb9
        have HBwa : Hid (Below W2.heap.size W2 wa) := Lib.hid (Below.trans HBwz.out (hb9.mono (Below.size HBwz.out)))
        have HEwa := Lib.hid hev9
        clear hb9 hev9
        go_wp2_with fail
        refine hK.out _ _ (KS.out _ HBwa.out) (fun hHeld2 => ?_)
        clear hK K
        try simp only [Act.put, List.setIfInBounds_toArray, List.set_cons_zero, List.set_cons_succ]
        refine wpAnyH_ready (rs := [3]) (by kernel_rfl) (by simp) ?_
        refine cons_drop rfl (fun K hK => ?_) AllReadyH.nil
        go_simp
        refine (HCm.out _ HBwa.out).mono ?_
        rintro x wb ⟨A3, c3, n3, rfl, hb9, hev9⟩
        have HRb := Lib.hid hb9
        have HBwb : Hid (Below W2.heap.size W2 wb) := Lib.hid (Below.trans HBwa.out (hb9.mono (Below.size HBwa.out)))
        have HEwb := Lib.hid hev9
        clear hb9 hev9
        go_wp2_with fail
        refine hK.out _ _ (KS.out _ HBwb.out) (fun hHeld2 => ?_)
        clear hK K
        try simp only [Act.put, List.setIfInBounds_toArray, List.set_cons_zero, List.set_cons_succ]
        have HXF := Lib.hid (show BB wb W2.heap.size ⟨#[]⟩ 0 none 0 0 from HBX.out.later (((Below.refl wz.heap.size wz).trans (HRa.out.mono (Below.size (Below.refl wz.heap.size wz)))).trans (HRb.out.mono (Below.size ((Below.refl wz.heap.size wz).trans (HRa.out.mono (Below.size (Below.refl wz.heap.size wz))))))) (by have := HZZ.out; omega))
        obtain ⟨y0, y1, y2, yf⟩ := BB.cells HXF.out
        have yf0 := yf 0; have yf1 := yf 1; have yf2 := yf 2
        obtain ⟨wf, hwf⟩ : ∃ x, x = ((wb.setCell ⟨W2.heap.size, 0, none⟩ (.string f)).setCell ⟨W2.heap.size, 1, none⟩ (.int .u64 at')).setCell ⟨W2.heap.size, 2, none⟩ (.slice A2 es.length c2) := ⟨_, rfl⟩
        have HEC : Hid (EvsAt wf W2.heap.size A2 c2 es.length es) := Lib.hid (by rw [hwf]; exact evs_base (evs_setCell (evs_setCell (evs_setCell (Cm.EvsAt.later HEwa.out ((Below.refl wa.heap.size wa).trans (HRb.out.mono (Below.size (Below.refl wa.heap.size wa))))) (Nat.le_of_eq HZZ.out.symm) _) (Nat.le_of_eq HZZ.out.symm) _) (Nat.le_of_eq HZZ.out.symm) _) (Below.size HBwz.out))
        have HEL : Hid (EvsAt wf W2.heap.size A3 c3 n3 (cmds es)) := Lib.hid (by rw [hwf]; exact evs_base (evs_setCell (evs_setCell (evs_setCell (Cm.EvsAt.later HEwb.out (Below.refl wb.heap.size wb)) (Nat.le_trans (Nat.le_of_eq HZZ.out.symm) (Below.size HRa.out)) _) (Nat.le_trans (Nat.le_of_eq HZZ.out.symm) (Below.size HRa.out)) _) (Nat.le_trans (Nat.le_of_eq HZZ.out.symm) (Below.size HRa.out)) _) (Below.size HBwa.out))
        have HBC : Hid (BB wf W2.heap.size f at' A2 es.length c2) := Lib.hid (by rw [hwf]; have h := HXF.out; unfold BB at h ⊢; simp [World.setCell, Array.getElem?_modify, h])
        have HBF : Hid (Below W2.heap.size W2 wf) := Lib.hid (by rw [hwf]; exact ((HBwb.out.setCell (Nat.le_refl _) _).setCell (Nat.le_refl _) _).setCell (Nat.le_refl _) _)
        replace hwf := Lib.hid hwf
        refine wpAnyH_ready (rs := [5]) (by kernel_rfl) (by simp) ?_
        refine cons_drop rfl (fun K hK => ?_) AllReadyH.nil
        go_simp
        rw [← hwf.out]
        refine hK.out _ _ (KS.out _ HBF.out) (fun hHeld5 => ?_)
        clear hK K
        try simp only [Act.put, List.setIfInBounds_toArray, List.set_cons_zero, List.set_cons_succ]
        first
          | (refine take_drop (i := 6) (v := ?_) rfl (by kernel_rfl) (by kernel_rfl) (by kernel_rfl) (fun _ _ _ h => h) (Or.inl ⟨by rfl, ?_⟩) (by assumption) ?_; rotate_left 1; (focus (intro w hSw; (try dsimp only at hSw); go_simp; try with_reducible rfl)); try simp only [Act.put, List.setIfInBounds_toArray, List.set_cons_zero, List.set_cons_succ])
          | (refine take_drop (i := 6) (v := undef) rfl (by kernel_rfl) (by kernel_rfl) (by kernel_rfl) (fun _ _ _ h => h) (Or.inr ⟨by rfl, rfl⟩) (by assumption) ?_; try simp only [Act.put, List.setIfInBounds_toArray, List.set_cons_zero, List.set_cons_succ])
        refine wpAnyH_done (by kernel_rfl) ?_ _
        refine NoPanic.normal ?_
        clear y0 y1 y2 yf yf0 yf1 yf2
        go_wp2_with fail
        go_meet
        case rel => exact ⟨_, A2, c2, A3, c3, n3, rfl, rfl, Nat.le_refl _, HBC.out, HEC.out, HEL.out, HBF.out⟩
    case rest =>
      obtain ⟨bc, A2, c2, A3, c3, n3, rfl, rfl, hbc, hxc, hec, hel, hbf⟩ := hcut
      have HBC := Lib.hid hbc
      have hlc := hec.read.le
      have hcc := hec.read.cap_le
      simp only [maxLen] at hcc
      have hll := hel.read.le
      have hcl := hel.read.cap_le
      simp only [maxLen] at hcl
      have HXO := Lib.hid (HX2.out.later hbf (by omega))
      have HM := Lib.hid (HM2.out.later (hbf.mono (by omega)))
      have HEC := Lib.hid hec; have HEL := Lib.hid hel; have HXC := Lib.hid hxc
      have HBB := Lib.hid hbf
      obtain ⟨o0, o1, o2, -⟩ := HXO.out.cells
      clear hbc hxc hec hel hbf HCl HCm KS HS HC HM2
      go_wp2_with fail
      clear o0 o1 o2
      go_loopw [21] (fun i wr => ∃ (p : Nat), p ≤ es.length ∧ i = .int .i64 p ∧ MutB wr w1.heap.size w2.heap.size A1 es.length ∧ BB wr w2.heap.size f at' A1 es.length cc1 ∧ EvsAt wr W2.heap.size A2 c2 es.length es ∧ EvsAt wr W2.heap.size A3 c3 n3 (cmds es) ∧ BB wr bc f at' A2 es.length c2 ∧ Below w1.heap.size W2 wr) (fun i _ => es.length - (intOf i).toNat)
      case atStart => exact ⟨0, by omega, rfl, HM.out, HXO.out, HEC.out, HEL.out, HXC.out, HBB.out.mono (by omega)⟩
      case round =>
        obtain ⟨p, hp, rfl, hm, hxo, hec, hel, hxc, hbw⟩ := hrel
        obtain ⟨o0, o1, o2, -⟩ := hxo.cells
        by_cases hlt : p < es.length
        · obtain ⟨r, rfl, hr1, hr2, hrf, hr3⟩ := hm (by omega)
          obtain ⟨⟨x, hx⟩, A4, m4, c4, h10, hm4, hc4, hnb⟩ := hr3 p hlt
          have hrfz := hrf (p * 11 + 1)
          simp only [maxLen] at hc4
          have HM3 : Hid (∀ y, MutB (wr.setCell ⟨r, p * 11 + 1, none⟩ (.int .u64 y)) w1.heap.size w2.heap.size (some ⟨r, 0, none⟩) es.length) := Lib.hid fun y => hm.setID y
          have HXO3 : Hid (∀ y, BB (wr.setCell ⟨r, p * 11 + 1, none⟩ (.int .u64 y)) w2.heap.size f at' (some ⟨r, 0, none⟩) es.length cc1) := Lib.hid fun y => hxo.far (by omega) _
          have HEC3 : Hid (∀ y, EvsAt (wr.setCell ⟨r, p * 11 + 1, none⟩ (.int .u64 y)) W2.heap.size A2 c2 es.length es) := Lib.hid fun y => evs_setCell hec (by simp only []; omega) _
          have HEL3 : Hid (∀ y, EvsAt (wr.setCell ⟨r, p * 11 + 1, none⟩ (.int .u64 y)) W2.heap.size A3 c3 n3 (cmds es)) := Lib.hid fun y => evs_setCell hel (by simp only []; omega) _
          have HXC3 : Hid (∀ y, BB (wr.setCell ⟨r, p * 11 + 1, none⟩ (.int .u64 y)) bc f at' A2 es.length c2) := Lib.hid fun y => hxc.far (by have := HBC.out; omega) _
          have HBW3 : Hid (∀ y, Below w1.heap.size W2 (wr.setCell ⟨r, p * 11 + 1, none⟩ (.int .u64 y))) := Lib.hid fun y => hbw.setCell hr1 _
          have HNB3 : Hid (∀ y, NB (wr.setCell ⟨r, p * 11 + 1, none⟩ (.int .u64 y)) w1.heap.size w2.heap.size r A4 m4) := Lib.hid fun y => hnb.far (.inl rfl) _
          have H103 : Hid (∀ y, (wr.setCell ⟨r, p * 11 + 1, none⟩ (.int .u64 y)).cell? ⟨r, p * 11 + 10, none⟩ = some (.slice A4 m4 c4)) := Lib.hid fun y => (World.cell?_setCell_other _ _ _ _ (fun e => by injection e with _ e; omega)).trans h10
          clear hm hxo hec hel hxc hbw hnb hr3 hrf
          go_upto_region 9 with fail
          obtain ⟨w3, hw3⟩ : ∃ w3, w3 = wr.setCell ⟨r, p * 11 + 1, none⟩ (.int .u64 (IntKind.u64.wrap (x + 1))) := ⟨_, rfl⟩
          rw [← hw3]
          have HM4 := Lib.hid (HM3.out (IntKind.u64.wrap (x + 1))); have HXO4 := Lib.hid (HXO3.out (IntKind.u64.wrap (x + 1))); have HEC4 := Lib.hid (HEC3.out (IntKind.u64.wrap (x + 1))); have HEL4 := Lib.hid (HEL3.out (IntKind.u64.wrap (x + 1))); have HXC4 := Lib.hid (HXC3.out (IntKind.u64.wrap (x + 1))); have HBW4 := Lib.hid (HBW3.out (IntKind.u64.wrap (x + 1))); have HNB4 := Lib.hid (HNB3.out (IntKind.u64.wrap (x + 1))); have h104 := H103.out (IntKind.u64.wrap (x + 1))
          rw [← hw3] at HM4 HXO4 HEC4 HEL4 HXC4 HBW4 HNB4 h104
          replace hw3 := Lib.hid hw3
          clear HM3 HXO3 HEC3 HEL3 HXC3 HBW3 HNB3 H103 o0 o1 o2 hx h10 hrfz
          obtain ⟨o0, o1, o2, -⟩ := HXO4.out.cells
          go_wp2_with fail
          have H10 := Lib.hid h104
          clear o0 o1 o2 h104
          go_loopw [41] (fun i wk => ∃ (q : Nat), q ≤ m4 ∧ i = .int .i64 q ∧ MutB wk w1.heap.size w2.heap.size (some ⟨r, 0, none⟩) es.length ∧ NB wk w1.heap.size w2.heap.size r A4 m4 ∧ wk.cell? ⟨r, p * 11 + 10, none⟩ = some (.slice A4 m4 c4) ∧ BB wk w2.heap.size f at' (some ⟨r, 0, none⟩) es.length cc1 ∧ EvsAt wk W2.heap.size A2 c2 es.length es ∧ EvsAt wk W2.heap.size A3 c3 n3 (cmds es) ∧ BB wk bc f at' A2 es.length c2 ∧ Below w1.heap.size W2 wk) (fun i _ => m4 - (intOf i).toNat)
          case atStart => exact ⟨0, by omega, rfl, HM4.out, HNB4.out, H10.out, HXO4.out, HEC4.out, HEL4.out, HXC4.out, HBW4.out⟩
          case round =>
            obtain ⟨q, hq, rfl, hm, hnb, h10, hxo, hec, hel, hxc, hbw⟩ := hrel
            obtain ⟨o0, o1, o2, -⟩ := hxo.cells
            by_cases hql : q < m4
            · obtain ⟨b3, off3, rfl, hb3r, hb31, hb32, hb33⟩ := hnb (by omega)
              obtain ⟨⟨x3, hx3⟩, hf3⟩ := hb33 q hql
              have HMk := Lib.hid hm; have HNk := Lib.hid hnb; have HXOk := Lib.hid hxo; have HECk := Lib.hid hec; have HELk := Lib.hid hel; have HXCk := Lib.hid hxc; have HBWk := Lib.hid hbw; have H10k := Lib.hid h10
              clear hm hnb hxo hec hel hxc hbw hb33
              go_wp2_with fail
              refine ⟨⟨q + 1, by omega, by go_num, HMk.out.setN _ (fun r' hr' => by cases hr'; exact hb3r) _, HNk.out.setN _ _, ?_, HXOk.out.far (by omega) _, evs_setCell HECk.out (by simp only []; omega) _, evs_setCell HELk.out (by simp only []; omega) _, HXCk.out.far (by have := HBC.out; omega) _, HBWk.out.setCell hb31 _⟩, by simp [intOf]; omega⟩
              exact (World.cell?_setCell_other _ _ _ _ (fun e => by injection e with e; omega)).trans H10k.out
            · have hq' : q = m4 := by omega
              subst hq'
              have HMk := Lib.hid hm; have HXOk := Lib.hid hxo; have HECk := Lib.hid hec; have HELk := Lib.hid hel; have HXCk := Lib.hid hxc; have HBWk := Lib.hid hbw
              clear hm hnb hxo hec hel hxc hbw h10
              go_wp2_with fail
              exact ⟨⟨p + 1, by omega, by go_num, HMk.out, HXOk.out, HECk.out, HELk.out, HXCk.out, HBWk.out⟩, by simp [intOf]; omega⟩
        · have hp' : p = es.length := by omega
          subst hp'
          have hz9 : w1.heap.size ≤ wr.heap.size := by have := hbw.size; omega
          have HBWr : Hid (Below w.heap.size w wr) := Lib.hid (HB2.out.trans (hbw.mono (Nat.le_of_lt hz1)))
          have HXAr : Hid (∀ W, Below wr.heap.size wr W → BB W w.heap.size f at' A es.length cap) := Lib.hid fun W hW => (HXA.out.later hbw hz1).later hW (by omega)
          have HKAr : Hid (∀ W, Below wr.heap.size wr W → EvsIn W A cap es) := Lib.hid fun W hW => (HK1.out.later (H12.out.trans hbw)).later hW
          have HECr : Hid (∀ W, Below wr.heap.size wr W → EvsIn W A2 c2 es) := Lib.hid fun W hW => hec.read.later hW
          have HELr : Hid (∀ W, Below wr.heap.size wr W → EvsIn W A3 c3 (cmds es)) := Lib.hid fun W hW => hel.read.later hW
          have HXCr : Hid (∀ W, Below wr.heap.size wr W → BB W bc f at' A2 es.length c2) := Lib.hid fun W hW => hxc.later hW hxc.lt
          have hn3 : (cmds es).length = n3 := hel.1
          subst hn3
          have HAl := Lib.hid (balive_any wr)
          have HSB : Hid (∀ W, Below wr.heap.size wr W → Calls Try.prog 9 #[.agg #[.string f, .int .u64 at', .slice A2 es.length c2], .agg #[.string f, .int .u64 at', .slice A es.length cap]] W fun r w' => r = .returned (.bool true) ∧ Below W.heap.size W w') := Lib.hid fun W hW => by
            have h9 := rsameb_len es es rfl f at' A2 A c2 cap W (HECr.out W hW) (HKAr.out W hW)
            rw [HSE.out] at h9
            exact h9
          have HRC := Lib.hid fun W (hW : Below wr.heap.size wr W) => rcmds_any es hl40 f at' A cap W (HKAr.out W hW)
          have HSV : Hid (∀ W A5 c5, Below wr.heap.size wr W → EvsIn W A5 c5 (cmds es) → Calls Try.prog 10 #[.slice A3 (cmds es).length c3, .slice A5 (cmds es).length c5] W fun r w' => r = .returned (.bool true) ∧ Below W.heap.size W w') := Lib.hid fun W A5 c5 hW h5 => by
            have h9 := Cm.sevs_any (cmds es) (cmds es) A3 A5 c3 c5 W (HELr.out W hW) h5
            rw [HSC.out] at h9
            exact h9
          clear hm hxo hec hel hxc hbw o0 o1 o2
          generalize hN : (cmds es).length = N at *
          have HN := Lib.hid hN
          clear hN
          go_wp2_with fail
          refine HAl.out.mono ?_
          rintro x v1 ⟨rfl, hb1⟩
          have HV1 := Lib.hid hb1
          obtain ⟨y0, y1, y2, -⟩ := (HXCr.out _ hb1).cells
          obtain ⟨z0, z1, z2, -⟩ := (HXAr.out _ hb1).cells
          clear hb1
          go_wp2_with fail
          refine (HSB.out _ HV1.out).mono ?_
          rintro x v2 ⟨rfl, hb2⟩
          have HV2 := Lib.hid (HV1.out.trans (hb2.mono HV1.out.size))
          obtain ⟨k0, k1, k2, -⟩ := (HXAr.out _ HV2.out).cells
          clear hb2 y0 y1 y2 z0 z1 z2
          go_wp2_with fail
          refine (HRC.out _ HV2.out).mono ?_
          rintro x v3 ⟨A5, c5, n5, rfl, hb3, he5⟩
          have HV3 := Lib.hid (HV2.out.trans (hb3.mono HV2.out.size))
          have hn5 : n5 = N := by rw [← HN.out]; exact he5.1.symm
          subst hn5
          have HE5 := Lib.hid he5.read
          clear hb3 he5 k0 k1 k2
          go_wp2_with fail
          refine (HSV.out _ _ _ HV3.out HE5.out).mono ?_
          rintro x v4 ⟨rfl, hb4⟩
          have HV4 := Lib.hid (HV3.out.trans (hb4.mono HV3.out.size))
          clear hb4
          go_wp2_with fail
          go_ret
          exact ⟨ret_bool rfl, HBWr.out.trans (HV4.out.mono HBWr.out.size)⟩
end Cn
end Go.Proofs.Ytpneejlilgepfaa
