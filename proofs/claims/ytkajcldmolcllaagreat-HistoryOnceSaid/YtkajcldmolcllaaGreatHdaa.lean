/- HistoryOnce: the walk. -/
/- HistoryOnce: the walk at what came in. -/
import Derived.Test.YtkajcldmolcllaaGreatHabg
import Derived.Test.YtkajcldmolcllaaGreatHaaq
set_option linter.unusedVariables false
set_option linter.unusedSimpArgs false
open Go.RowKit
namespace Go.Proofs.YtkajcldmolcllaaGreat
namespace Hi
open _root_.Go.Proofs.YtkajcldmolcllaaGreat.Nm (ret_int ret_bool)
open Vt (VT Rep below_drew)
open Ev (EV)
open Cm (rowOf EvsIn)
open Cn (BT BtsIn few12_any)
variable {w w' w0 : World} {hb : Nat} {h : HM}

set_option maxRecDepth 100000 in
set_option maxHeartbeats 4000000 in
theorem once_walk (bl : List BT) (B : Option Addr) (bc : Nat) (w0 : World) (hB : BtsIn w0 B bc bl) (hlen : ∀ b ∈ bl, b.es.length ≤ 1099511627775) :
  Calls Tryz.prog 6 #[.slice B bl.length bc] w0 fun r w' => r = .returned (.bool true) ∧ Below w0.heap.size w0 w' := by
 have hle := hB.le; have hbc := hB.cap_le
 simp only [maxLen] at hbc
 have HBT := Lib.hid hB; have HLEN := Lib.hid hlen
 clear hB hlen
 obtain ⟨m, hm⟩ : ∃ m, m = bl.length := ⟨_, rfl⟩
 rw [← hm] at hle ⊢
 have HM := Lib.hid hm; clear hm
 have HAL := Lib.hid fun W => halive_any W
 have HFC := Lib.hid (show Calls _ _ _ _ _ from by have q := few12_any bl B bc w0 HBT.out; rw [← HM.out] at q; exact q)
 go_enter Tryz.func6, Tryz.ntmps6
 go_wp2_with fail
 refine HFC.out.mono ?_
 rintro r w1 ⟨bb, rfl, hfew, hb1⟩
 have HB1 := Lib.hid hb1; have HFEW := Lib.hid hfew
 clear hb1 hfew HFC
 cases bb with
 | false =>
  go_wp2_with fail
  refine (HAL.out _).mono ?_
  rintro r w3 ⟨rfl, hb3⟩
  have HB3 := Lib.hid (HB1.out.trans (hb3.mono HB1.out.size))
  clear hb3
  go_wp2_with fail
  go_ret
  exact ⟨rfl, HB3.out⟩
 | true =>
 have HLI := Lib.hid (lin_of (HFEW.out rfl) HLEN.out)
 go_wp2_with fail
 refine (hnew_any ⟨#[119]⟩ (by decide) w1 (fun _ => False) (fun _ h => h.elim)).mono ?_
 rintro r w2 ⟨hb, bt, bm, bk, rfl, hb2, hbge, H2⟩
 have HGE : Hid (w0.heap.size ≤ hb) := Lib.hid (Nat.le_trans HB1.out.size hbge)
 have HB2 := Lib.hid (HB1.out.trans (hb2.mono HB1.out.size))
 have HH2 := Lib.hid H2
 clear hb2 H2 hbge
 go_wp2_with fail
 refine (rnew_any ⟨#[119]⟩ w2).mono ?_
 rintro r w3 ⟨rfl, hb3⟩
 obtain ⟨W4, hW4⟩ : ∃ W4, W4 = w3.alloc (.cells #[.string ⟨#[119]⟩, .slice none 0 0, .int .i64 0, .int .u64 1, .slice none 0 0, .slice none 0 0, .slice none 0 0] 32) := ⟨_, rfl⟩
 have hb04 : Below w2.heap.size w2 W4 := by rw [hW4]; exact hb3.alloc hb3.size _
 obtain ⟨g6, hg6⟩ : ∃ g, g = w3.heap.size := ⟨_, rfl⟩
 have HL0 : Hid (LW w0 g6 W4 hb (rep ⟨#[119]⟩ (bl.take 0))) := Lib.hid (by
  rw [List.take_zero]
  have hge : w0.heap.size ≤ g6 := by rw [hg6]; exact Nat.le_trans HB2.out.size hb3.size
  have hz4 : W4.heap.size = w3.heap.size + 1 := by rw [hW4]; simp
  refine ⟨bt, bm, bk, 0, none, 0, .slice none 0 0, .slice none 0 0, .slice none 0 0, .slice none 0 0, ⟨(HH2.out.more (Y' := fun c => c = g6) fun c hc e => ?_).later hb04, fun c hc => ?_, fun c hc => ?_, HB2.out.trans (hb04.mono HB2.out.size)⟩, ?_, rh_new _ _⟩
  ·have e : c = g6 := e
   have := hb3.size; omega
  ·rcases hc with e | e | e
   ·have e : c = g6 := e
    omega
   ·rw [e]; exact HGE.out
   ·cases e
  ·have e : c = g6 := hc
   omega
  ·rw [hW4, hg6]; exact heap_alloc_new w3 _)
 have HG6 := Lib.hid hg6
 clear hb04 hb3 hg6 HH2
 replace hW4 := Lib.hid hW4
 unfold rhC
 go_wp2_with fail
 rw [← hW4.out, ← HG6.out]
 clear HG6 hW4 HB2 HFEW HGE
 go_loopw [20] (fun i wz => ∃ j : Nat, j ≤ m ∧ i = .int .i64 j ∧ LW w0 g6 wz hb (rep ⟨#[119]⟩ (bl.take j))) (fun i _ => m - (intOf i).toNat)
 case atStart => exact ⟨0, by omega, rfl, HL0.out⟩
 case round =>
  obtain ⟨j, hj, rfl, hlw⟩ := hrel
  clear HL0
  by_cases hjm : j < m
  rotate_left
  ·have hj' : j = m := by omega
   subst hj'
   obtain ⟨bt, bm, bk, n, A, cap, ub, uk, ut, um, S, hx, hr⟩ := hlw.ex
   obtain ⟨⟨Bu, nu, cu, rfl⟩, ⟨Ak, nk, ck, rfl⟩, ⟨Aq, nt, ct, rfl⟩, ⟨Am, nm, cm, rfl⟩⟩ := hr.slices
   have hg := good_rep HLI.out ⟨#[119]⟩ j (by have := HM.out; omega)
   have hT := HLI.out.tot
   have hN := HLI.out.len
   have hfw : (rep ⟨#[119]⟩ (bl.take j)).flow = ⟨#[119]⟩ := rep_flow _ _
   have HBZ := Lib.hid S.bel
   have HCS := Lib.hid fun W (hW : Below wr.heap.size wr W) => (S.later hW).same _ _ _ _ (hr.leads (veil_below _ hW)) hg (by rw [List.take_of_length_le (by have := HM.out; omega)]; omega) (by have := HM.out; omega)
   have HXX := Lib.hid hx
   rw [hfw] at HCS HXX
   unfold rhC at HCS
   clear hlw S hx hr hg hT hN hfw hjm
   generalize (rep ⟨#[119]⟩ (bl.take j)).s.closed = cl at *
   generalize (rep ⟨#[119]⟩ (bl.take j)).s.next = nx at *
   go_wp2_with fail
   refine (HAL.out _).mono ?_
   rintro r w5 ⟨rfl, hb5⟩
   have HB5 := Lib.hid (HBZ.out.trans (hb5.mono HBZ.out.size))
   have HCS5 := Lib.hid (HCS.out _ hb5)
   obtain ⟨x0, x1, x2, x3, x4, x5, x6, -⟩ := (HXX.out.later hb5 HXX.out.lt).cells
   clear hb5 HCS HXX
   go_wp2_with fail
   refine HCS5.out.mono ?_
   rintro r w6 ⟨rfl, hb6⟩
   have HB6 := Lib.hid (HB5.out.trans (hb6.mono HB5.out.size))
   clear hb6 x0 x1 x2 x3 x4 x5 x6
   go_wp2_with fail
   go_ret
   exact ⟨rfl, HB6.out⟩
  have hjl : j < bl.length := by have := HM.out; omega
  obtain ⟨bt, bm, bk, n, A, cap, ub, uk, ut, um, S, hx, hr⟩ := hlw.ex
  obtain ⟨⟨Bu, nu, cu, rfl⟩, ⟨Ak, nk, ck, rfl⟩, ⟨Aq, nt, ct, rfl⟩, ⟨Am, nm, cm, rfl⟩⟩ := hr.slices
  obtain ⟨b0, off, rfl, hblt, h3⟩ := (S.bts HBT.out).at_ (by omega)
  obtain ⟨A2, c2, hfl, hat, hes, d0, d1, d2⟩ := h3 j hjl
  replace d0 := (leads_veil _ _).cell d0; replace d1 := (leads_veil _ _).cell d1; replace d2 := (leads_veil _ _).cell d2
  have hg := good_rep HLI.out ⟨#[119]⟩ j (by omega)
  have hT := HLI.out.take j hjl
  have hN : j ≤ 1000000 := by have := HLI.out.len; omega
  have hbin := HLI.out.bin j hjl
  have HNEXT : Hid (rep ⟨#[119]⟩ (bl.take (j + 1)) = (addM (rep ⟨#[119]⟩ (bl.take j)) bl[j]).2) := Lib.hid (rep_take _ bl j hjl)
  obtain ⟨b, hbj⟩ : ∃ b, b = bl[j] := ⟨_, rfl⟩
  rw [← hbj] at hfl hat hes d0 d1 d2 hT hbin HNEXT
  obtain ⟨hm, hhm⟩ : ∃ hm, hm = rep ⟨#[119]⟩ (bl.take j) := ⟨_, rfl⟩
  rw [← hhm] at S hx hr hg HNEXT
  have hfw : hm.flow = ⟨#[119]⟩ := by rw [hhm]; exact rep_flow _ _
  clear h3 hlw hbj hhm hblt
  obtain ⟨W1, hW1⟩ : ∃ W1, W1 = wr.alloc (.cells #[.string b.flow, .int .u64 (b.at' : Nat), .slice A2 b.es.length c2] 36) := ⟨_, rfl⟩
  have hb01 : Below wr.heap.size wr W1 := by rw [hW1]; exact (Below.refl _ _).alloc (Nat.le_refl _) _
  obtain ⟨g8, hg8⟩ : ∃ g, g = wr.heap.size := ⟨_, rfl⟩
  have hz1 : W1.heap.size = wr.heap.size + 1 := by rw [hW1]; simp
  have hb8 : Cn.BB W1 g8 b.flow b.at' A2 b.es.length c2 := by rw [hW1, hg8]; exact heap_alloc_new wr _
  have hgx : g8 ≠ hb ∧ (∀ r, rowOf A = some r → r ≠ g8) ∧ g8 ≠ g6 := ⟨by have := S.hat.lt; omega, fun r hr' => by have := S.hat.row.row_lt r hr'; omega, by have := hx.lt; omega⟩
  have S1 := S.later hb01
  have hr1 := hr.leads (veil_below _ hb01)
  have hes1 := EvsIn.leads hes (veil_below _ hb01)
  have hx1 := hx.later hb01 hx.lt
  have HC1 := Lib.hid (S1.radd _ _ _ _ hr1 hg b A2 c2 hes1 hbin (by omega) hN hfl hat)
  have HS1 := Lib.hid S1; have HES1 := Lib.hid hes1; have HG := Lib.hid hg; have HBIN := Lib.hid hbin; have HT := Lib.hid hT; have HFL := Lib.hid hfl; have HATB := Lib.hid hat; have HN := Lib.hid hN
  have HX1 := Lib.hid hx1; have HB8 := Lib.hid hb8; have HGX := Lib.hid hgx
  have HG8 : Hid (g8 < W1.heap.size) := Lib.hid (by rw [hg8, hz1]; omega)
  obtain ⟨x0, x1, x2, x3, x4, x5, x6, -⟩ := hx1.cells
  obtain ⟨y0, y1, y2, -⟩ := hb8.cells
  have HW1 := Lib.hid hW1; have HGG8 := Lib.hid hg8
  clear S hx hr hg hT hbin hfl hat hes hes1 hr1 hx1 hb8 hb01 hz1 hW1 hg8 S1 hgx hN
  rw [hfw] at x0 HC1 HX1
  unfold rhC at HC1
  generalize hcl : hm.s.closed = cl at *
  generalize hnx : hm.s.next = nx at *
  generalize hff : b.flow = ff at *
  generalize hatt : b.at' = at' at *
  generalize hen : b.es.length = en at *
  go_upto_region 10 with fail
  rw [← HW1.out, ← HGG8.out]
  go_wp2_with fail
  refine HC1.out.mono ?_
  rintro r w2 ⟨hb2, ub1, uk1, ut1, um1, rfl, hr2⟩
  obtain ⟨⟨Bu1, nu1, cu1, rfl⟩, ⟨Ak1, nk1, ck1, rfl⟩, ⟨Aq1, nt1, ct1, rfl⟩, ⟨Am1, nm1, cm1, rfl⟩⟩ := hr2.slices
  rw [hfw]
  unfold rhC
  obtain ⟨hm1, hhm1⟩ : ∃ h', h' = (addM hm b).2 := ⟨_, rfl⟩
  obtain ⟨cd, hcd⟩ : ∃ c, c = (addM hm b).1 := ⟨_, rfl⟩
  have hfw1 : hm1.flow = ⟨#[119]⟩ := by rw [hhm1, addM_flow, hfw]
  rw [← hhm1] at hr2 HNEXT ⊢
  rw [← hcd]
  obtain ⟨cl1, hcl1⟩ : ∃ x, x = hm1.s.closed := ⟨_, rfl⟩
  obtain ⟨nx1, hnx1⟩ : ∃ x, x = hm1.s.next := ⟨_, rfl⟩
  rw [← hcl1, ← hnx1]
  obtain ⟨W3, hW3⟩ : ∃ W3, W3 = w2.alloc (.cells #[.string ⟨#[119]⟩, .slice Bu1 nu1 cu1, .int .i64 cl1, .int .u64 (nx1 : Nat), .slice Ak1 nk1 ck1, .slice Aq1 nt1 ct1, .slice Am1 nm1 cm1] 32) := ⟨_, rfl⟩
  obtain ⟨g9, hg9⟩ : ∃ g, g = w2.heap.size := ⟨_, rfl⟩
  have hb23 : Below w2.heap.size w2 W3 := by rw [hW3]; exact (Below.refl _ _).alloc (Nat.le_refl _) _
  have hb13 : Below W1.heap.size W1 W3 := hb2.trans (hb23.mono hb2.size)
  have S3 := HS1.out.later hb13
  have hes3 := EvsIn.leads HES1.out (veil_below _ hb13)
  have hr3 := hr2.leads (veil_below _ hb23)
  have hx3 := HX1.out.later hb13 HX1.out.lt
  have hx9 : RX W3 g9 ⟨#[119]⟩ (.slice Bu1 nu1 cu1) cl1 nx1 (.slice Ak1 nk1 ck1) (.slice Aq1 nt1 ct1) (.slice Am1 nm1 cm1) := by rw [hW3, hg9]; exact heap_alloc_new w2 _
  have hb83 := HB8.out.later hb13 HG8.out
  obtain ⟨W4, hW4⟩ : ∃ W4, W4 = ((((((W3.setCell ⟨g6, 0, none⟩ (.string ⟨#[119]⟩)).setCell ⟨g6, 1, none⟩ (.slice Bu1 nu1 cu1)).setCell ⟨g6, 2, none⟩ (.int .i64 cl1)).setCell ⟨g6, 3, none⟩ (.int .u64 (nx1 : Nat))).setCell ⟨g6, 4, none⟩ (.slice Ak1 nk1 ck1)).setCell ⟨g6, 5, none⟩ (.slice Aq1 nt1 ct1)).setCell ⟨g6, 6, none⟩ (.slice Am1 nm1 cm1) := ⟨_, rfl⟩
  have hc4 : Chg (fun c => c = g6) W3 W4 := by rw [hW4]; exact setCells7_chg (Y := fun c => c = g6) (g := g6) rfl _ _ _ _ _ _ _
  have hx4 : RX W4 g6 ⟨#[119]⟩ (.slice Bu1 nu1 cu1) cl1 nx1 (.slice Ak1 nk1 ck1) (.slice Aq1 nt1 ct1) (.slice Am1 nm1 cm1) := by rw [hW4]; exact hx3.seven
  have hb84 : Cn.BB W4 g8 ff at' A2 en c2 := (hc4.block g8 (Nat.lt_of_lt_of_le HG8.out hb13.size) (fun e => HGX.out.2.2 e)).trans hb83
  have S4 := S3.chg hc4
  have hr4 := hr3.leads (chgY_leads hc4)
  have hes4 := EvsIn.leads hes3 (chgY_leads hc4)
  have HC2 := Lib.hid (S4.add HG.out b A2 c2 hes4 HBIN.out (by have := HT.out; omega) HN.out (by rw [hff]; exact HFL.out) (by rw [hatt]; exact HATB.out))
  rw [hff, hatt, hen] at HC2
  have HS4 := Lib.hid S4; have HES4 := Lib.hid hes4; have HR4 := Lib.hid hr4; have HX4 := Lib.hid hx4; have HB84 := Lib.hid hb84; have HG84 := Lib.hid (Nat.lt_of_lt_of_le (Nat.lt_of_lt_of_le HG8.out hb13.size) hc4.size)
  have HW3 := Lib.hid hW3; have HGG9 := Lib.hid hg9; have HW4 := Lib.hid hW4; have HHM1 := Lib.hid hhm1; have HCD := Lib.hid hcd; have HCL1 := Lib.hid hcl1; have HNX1 := Lib.hid hnx1; have HFW1 := Lib.hid hfw1
  clear x0 x1 x2 x3 x4 x5 x6 y0 y1 y2
  obtain ⟨x0, x1, x2, x3, x4, x5, x6, xf⟩ := hx3.cells
  have xf0 := xf 0; have xf1 := xf 1; have xf2 := xf 2; have xf3 := xf 3; have xf4 := xf 4; have xf5 := xf 5; have xf6 := xf 6
  obtain ⟨z0, z1, z2, z3, z4, z5, z6, -⟩ := hx9.cells
  obtain ⟨y0, y1, y2, -⟩ := hb84.cells
  clear xf hb23 hb13 S3 hes3 hr3 hx3 hx9 hb83 hW3 hg9 hhm1 hcd hcl1 hnx1 hfw1 hr2 hb2 HC1 HX1 HES1 hW4 hc4 hx4 hb84 S4 hr4 hes4 HB8
  go_upto_region 11 with fail
  rw [← HW3.out, ← HGG9.out]
  go_upto_region 12 with fail
  rw [← HW4.out]
  clear x0 x1 x2 x3 x4 x5 x6 xf0 xf1 xf2 xf3 xf4 xf5 xf6 z0 z1 z2 z3 z4 z5 z6
  go_wp2_with fail
  refine HC2.out.mono ?_
  rintro r w5 ⟨rfl, bt5, bm5, bk5, n5, A5, cap5, S5, hl5, hc5⟩
  rw [← HHM1.out] at S5
  have hx5 := HX4.out.off HS4.out rfl hc5
  have hr5 := HR4.out.leads hl5
  have hes5 := EvsIn.leads HES4.out hl5
  have hb85 : Cn.BB w5 g8 ff at' A2 en c2 := (hc5.block g8 HG84.out fun e => by
   rcases e with e | e
   ·exact HGX.out.1 e
   ·exact HGX.out.2.1 g8 e rfl).trans HB84.out
  have HL5 : Hid (LW w0 g6 w5 hb (rep ⟨#[119]⟩ (bl.take (j + 1)))) := Lib.hid (by
   rw [HNEXT.out]
   refine ⟨bt5, bm5, bk5, n5, A5, cap5, _, _, _, _, S5, ?_, hr5⟩
   rw [HFW1.out, ← HCL1.out, ← HNX1.out]
   exact hx5)
  have hg1 := good_rep HLI.out ⟨#[119]⟩ (j + 1) (by have := HM.out; omega)
  rw [HNEXT.out] at hg1
  have HG1 := Lib.hid hg1; have HS5 := Lib.hid S5; have HES5 := Lib.hid hes5; have HB85 := Lib.hid hb85
  have HG85 := Lib.hid (Nat.lt_of_lt_of_le HG84.out hc5.size)
  clear y0 y1 y2 S5 hl5 hc5 hx5 hr5 hes5 hb85 hg1 HC2 HR4 HX4 HES4 HB84 HS4
  rw [← HCD.out]
  by_cases hc0 : cd = 0
  rotate_left
  ·have k0 : (cd == 0) = false := by simpa using hc0
   clear hc0
   go_wp2_with fail
   go_roundw
   case rel => exact ⟨j + 1, by omega, by go_num, HL5.out⟩
   case measure => simp [intOf]; omega
  subst hc0
  have hpos : 0 < en := by
   rw [← hen]
   exact bOk_pos (fun q => by rw [addM_2 q] at HCD; exact absurd (show (0 : Int) = 2 from HCD.out) (by decide))
  have hpe : 0 < b.es.length := by omega
  obtain ⟨eb, eo, lo, hi, vk, vn, vf, vs, A6, m6, c6, rfl, heb, hfo, -, -, e0, -, -, -, -, e5, -⟩ := ((EvsIn.leads HES5.out (leads_veil _ _))).get 0 hpe
  rw [show eo + 0 * 11 = eo by omega] at e0 e5
  have hbok : ¬ bOk b = false := fun q => by rw [addM_2 q] at HCD; exact absurd (show (0 : Int) = 2 from HCD.out) (by decide)
  have hval : b.es[0].valid = true := by
   have hany : b.es.any Cn.wrongE = false := by
    unfold bOk at hbok
    cases hx : b.es.any (fun e => !e.valid) with
    | false => exact hx
    | true => exfalso; apply hbok; rw [hx]; simp
   exact valid_of hany 0 hpe
  have hk0 := (evOk_of hfo hval (HBIN.out.slim 0 hpe)).k0
  have HONCE : Hid ((b.es[0].k = 6 → b.es[0].text.size ≠ 0) → (addM hm1 b).1 ≠ 0 ∧ (cl1 = 0 → (addM hm1 b).1 = 12)) := Lib.hid fun h6 => by
   have q := addM_once HG.out.fine HCD.out.symm (by rw [kind1_of b hpe]; exact hk0) (fun hk e r he => by
    rw [kind1_of b hpe] at hk
    have := h6 hk
    have e9 : b.es[0] = e := by simp only [he, List.getElem_cons_zero]
    rw [e9] at this; exact this)
   rw [← HHM1.out] at q
   rw [HCL1.out]
   exact q
  have HC3 := Lib.hid fun W (hW : Below w5.heap.size w5 W) => (HS5.out.later hW).fits HG1.out b _ c2 (EvsIn.leads HES5.out (veil_below _ hW)) HBIN.out (by
   have h2 := HLI.out.tot
   have e : tot (bl.take (j + 1)) ≤ tot bl := by
    have e : tot bl = tot (bl.take (j + 1)) + tot (bl.drop (j + 1)) := by unfold tot; rw [← List.sum_append, ← List.map_append, List.take_append_drop]
    omega
   have := HBIN.out.len
   omega) (by rw [hff]; exact HFL.out) (by rw [hatt]; exact HATB.out)
  rw [hff, hatt, hen] at HC3
  have HC4 := Lib.hid fun W (hW : Below w5.heap.size w5 W) => hclosed_any (HS5.out.later hW).hat
  rw [← HCL1.out] at HC4
  have HY := Lib.hid fun W (hW : Below w5.heap.size w5 W) => HB85.out.later hW HG85.out
  obtain ⟨y0, y1, y2, -⟩ := HB85.out.cells
  clear hbok hval hk0 hfo heb HES5 HS5 HG1 HB85
  generalize b.es[0].k = kk at *
  generalize b.es[0].text = tx at *
  generalize (addM hm1 b).1 = cd2 at *
  clear hpe
  have hpi : (0 : Int) < (en : Int) := by omega
  by_cases h6 : kk = 6
  rotate_left
  ·have k6 : (kk != 6) = true := by simpa using h6
   have HON := Lib.hid (HONCE.out fun e => absurd e h6)
   clear h6
   have hz2 : (cd2 == 0) = false := by simpa using HON.out.1
   go_wp2_with fail
   refine (HC3.out _ (Below.refl _ _)).mono ?_
   rintro r w6 ⟨rfl, hb6⟩
   have HB6 := Lib.hid hb6
   clear y0 y1 y2 e0 e5
   obtain ⟨y0, y1, y2, -⟩ := (HY.out _ hb6).cells
   by_cases h2 : kk = 2
   ·have k2 : (kk != 2) = false := by rw [h2]; rfl
    have HREL := Lib.hid (HL5.out.later hb6)
    clear hb6 h2 k6
    go_wp2_with fail
    go_roundw
    case rel => exact ⟨j + 1, by omega, by go_num, HREL.out⟩
    case measure => simp [intOf]; omega
   have k2 : (kk != 2) = true := by simpa using h2
   have HC5 := Lib.hid (HC4.out w6 hb6)
   clear h2 hb6
   go_wp2_with fail
   refine HC5.out.mono ?_
   rintro r w7 ⟨rfl, rfl⟩
   by_cases h3 : cl1 = 0
   rotate_left
   ·have k3 : (cl1 == 0) = false := by simpa using h3
    have HREL := Lib.hid (HL5.out.later HB6.out)
    clear h3 k6
    go_wp2_with fail
    go_roundw
    case rel => exact ⟨j + 1, by omega, by go_num, HREL.out⟩
    case measure => simp [intOf]; omega
   have k3 : (cl1 == 0) = true := by simpa using h3
   have HTW := Lib.hid (HON.out.2 h3)
   have k4 : (cd2 != 12) = false := by rw [HTW.out]; rfl
   clear h3
   go_wp2_with fail
   refine (HC3.out _ HB6.out).mono ?_
   rintro r w8 ⟨rfl, hb8⟩
   have HREL := Lib.hid ((HL5.out.later HB6.out).later hb8)
   clear hb8 k6
   go_wp2_with fail
   go_roundw
   case rel => exact ⟨j + 1, by omega, by go_num, HREL.out⟩
   case measure => simp [intOf]; omega
  have k6 : (kk != 6) = false := by rw [h6]; rfl
  by_cases h7 : tx.size = 0
  ·have htx : tx = ⟨#[]⟩ := ByteArray.ext (Array.eq_empty_of_size_eq_zero h7)
   subst htx
   clear h6 h7
   go_wp2_with fail
   go_roundw
   case rel => exact ⟨j + 1, by omega, by go_num, HL5.out⟩
   case measure => simp [intOf]; omega
  have HON := Lib.hid (HONCE.out fun _ => h7)
  have hne : tx.toList.isEmpty = false := by rw [Vt.toList_data]; cases hd : tx.data.toList with
   | nil => exfalso; apply h7; show tx.data.size = 0; rw [← Array.length_toList, hd]; rfl
   | cons a l => rfl
  have hne2 : (tx.toList == []) = false := by cases hd : tx.toList with
   | nil => rw [hd] at hne; cases hne
   | cons a l => rfl
  have hne3 : (tx.toList != []) = true := by rw [bne, hne2]; rfl
  clear h6 h7
  have hz2 : (cd2 == 0) = false := by simpa using HON.out.1
  go_wp2_with fail
  refine (HC3.out _ (Below.refl _ _)).mono ?_
  rintro r w6 ⟨rfl, hb6⟩
  have HB6 := Lib.hid hb6
  clear y0 y1 y2 e0 e5
  obtain ⟨y0, y1, y2, -⟩ := (HY.out _ hb6).cells
  by_cases h2 : kk = 2
  ·have k2 : (kk != 2) = false := by rw [h2]; rfl
   have HREL := Lib.hid (HL5.out.later hb6)
   clear hb6 h2 k6 hne hne2 hne3
   go_wp2_with fail
   go_roundw
   case rel => exact ⟨j + 1, by omega, by go_num, HREL.out⟩
   case measure => simp [intOf]; omega
  have k2 : (kk != 2) = true := by simpa using h2
  have HC5 := Lib.hid (HC4.out w6 hb6)
  clear h2 hb6
  go_wp2_with fail
  refine HC5.out.mono ?_
  rintro r w7 ⟨rfl, rfl⟩
  by_cases h3 : cl1 = 0
  rotate_left
  ·have k3 : (cl1 == 0) = false := by simpa using h3
   have HREL := Lib.hid (HL5.out.later HB6.out)
   clear h3 k6 hne hne2 hne3
   go_wp2_with fail
   go_roundw
   case rel => exact ⟨j + 1, by omega, by go_num, HREL.out⟩
   case measure => simp [intOf]; omega
  have k3 : (cl1 == 0) = true := by simpa using h3
  have HTW := Lib.hid (HON.out.2 h3)
  have k4 : (cd2 != 12) = false := by rw [HTW.out]; rfl
  clear h3
  go_wp2_with fail
  refine (HC3.out _ HB6.out).mono ?_
  rintro r w8 ⟨rfl, hb8⟩
  have HREL := Lib.hid ((HL5.out.later HB6.out).later hb8)
  clear hb8 k6 hne hne2 hne3
  go_wp2_with fail
  go_roundw
  case rel => exact ⟨j + 1, by omega, by go_num, HREL.out⟩
  case measure => simp [intOf]; omega
end Hi
end Go.Proofs.YtkajcldmolcllaaGreat
namespace Go.Proofs.YtkajcldmolcllaaGreat
namespace Hi
set_option maxRecDepth 100000 in
theorem once_open {H : Type} {enc : TypeId × Value → H} {base b1 : Nat} {spare : Nat → Bool} {held : Bool} {d0 : DataW H} {p0 : List MemPlace} (v0 : Value) (W : World)
  (o0 : Value.okWide Tryz.prog W .any base 22 v0) (k0 : DataW.Trod enc Tryz.prog W b1 spare held 22 v0 d0 p0) (hs0 : ∀ x ∈ d0.weights Tryz.prog 22, x ≤ reachBytes) :
  Calls Tryz.prog 6 #[v0] W fun r w' => r = .returned (.bool true) ∧ Below W.heap.size W w' := by
 obtain ⟨bl, A, cap, rfl, hB, hl⟩ := bts_open v0 W o0 k0 hs0
 exact once_walk bl A cap W hB hl
end Hi
end Go.Proofs.YtkajcldmolcllaaGreat
