/- HistoryAdds: the walk. -/
/- HistoryAdds: the walk at what came in. -/
import Derived.Test.YtkajcldmolcllaaGreatHabg
import Derived.Test.YtkajcldmolcllaaGreatHaaq
set_option linter.unusedVariables false
set_option linter.unusedSimpArgs false
open Go.RowKit
namespace Go.Proofs.YtkajcldmolcllaaGreat
namespace Hi
open _root_.Go.Proofs.YtkajcldmolcllaaGreat.Nm (ret_int ret_bool)
open Vt (VT Rep below_drew)
open Ev (EV)
open Cm (rowOf EvsIn)
open Cn (BT BtsIn few12_any)
variable {w w' w0 : World} {hb : Nat} {h : HM}

set_option maxRecDepth 100000 in
set_option maxHeartbeats 4000000 in
theorem adds_walk (flow : ByteArray) (hfl0 : flow.size ≤ maxLen) (bl : List BT) (B : Option Addr) (bc : Nat) (w0 : World) (hB : BtsIn w0 B bc bl) (hlen : ∀ b ∈ bl, b.es.length ≤ 1099511627775) :
  Calls Tryz.prog 4 #[.string flow, .slice B bl.length bc] w0 fun r w' => r = .returned (.bool true) ∧ Below w0.heap.size w0 w' := by
 have hle := hB.le; have hbc := hB.cap_le
 simp only [maxLen] at hbc
 have HBT := Lib.hid hB; have HLEN := Lib.hid hlen
 clear hB hlen
 obtain ⟨m, hm⟩ : ∃ m, m = bl.length := ⟨_, rfl⟩
 rw [← hm] at hle ⊢
 have HM := Lib.hid hm; clear hm
 have HAL := Lib.hid fun W => halive_any W
 go_enter Tryz.func4, Tryz.ntmps4
 go_wp2_with fail
 refine (hnew_any flow hfl0 w0 (fun _ => False) (fun _ h => h.elim)).mono ?_
 rintro r w1 ⟨hb, bt, bm, bk, rfl, hb1, hbge, H1⟩
 have HB1 := Lib.hid hb1; have HH1 := Lib.hid H1; have HGE := Lib.hid hbge
 have HFC := Lib.hid (show Calls _ _ _ _ _ from by have q := few12_any bl B bc w1 (HBT.out.later HB1.out); rw [← HM.out] at q; exact q)
 clear hb1 H1 hbge
 go_wp2_with fail
 refine HFC.out.mono ?_
 rintro r w2 ⟨bb, rfl, hfew, hb2⟩
 have HB2 := Lib.hid (HB1.out.trans (hb2.mono HB1.out.size)); have HFEW := Lib.hid hfew
 have HH2 := Lib.hid (HH1.out.later hb2)
 clear hb2 hfew HFC HH1
 cases bb with
 | false =>
  go_wp2_with fail
  refine (HAL.out _).mono ?_
  rintro r w3 ⟨rfl, hb3⟩
  have HB3 := Lib.hid (HB2.out.trans (hb3.mono HB2.out.size))
  clear hb3
  go_wp2_with fail
  go_ret
  exact ⟨rfl, HB3.out⟩
 | true =>
 by_cases hs : 300 < flow.size
 ·have k1 : decide ((300 : Int) < (flow.size : Int)) = true := decide_eq_true (by omega)
  go_wp2_with fail
  refine (HAL.out _).mono ?_
  rintro r w3 ⟨rfl, hb3⟩
  have HB3 := Lib.hid (HB2.out.trans (hb3.mono HB2.out.size))
  clear hb3
  go_wp2_with fail
  go_ret
  exact ⟨rfl, HB3.out⟩
 have k1 : decide ((300 : Int) < (flow.size : Int)) = false := decide_eq_false (by omega)
 have HLI := Lib.hid (lin_of (HFEW.out rfl) HLEN.out)
 go_wp2_with fail
 refine (rnew_any flow w2).mono ?_
 rintro r w3 ⟨rfl, hb3⟩
 obtain ⟨W4, hW4⟩ : ∃ W4, W4 = w3.alloc (.cells #[.string flow, .slice none 0 0, .int .i64 0, .int .u64 1, .slice none 0 0, .slice none 0 0, .slice none 0 0] 32) := ⟨_, rfl⟩
 have hb04 : Below w2.heap.size w2 W4 := by rw [hW4]; exact hb3.alloc hb3.size _
 obtain ⟨g6, hg6⟩ : ∃ g, g = w3.heap.size := ⟨_, rfl⟩
 have HL0 : Hid (LW w0 g6 W4 hb (rep flow (bl.take 0))) := Lib.hid (by
  rw [List.take_zero]
  have hge : w0.heap.size ≤ g6 := by rw [hg6]; exact Nat.le_trans HB2.out.size hb3.size
  have hz4 : W4.heap.size = w3.heap.size + 1 := by rw [hW4]; simp
  refine ⟨bt, bm, bk, 0, none, 0, .slice none 0 0, .slice none 0 0, .slice none 0 0, .slice none 0 0, ⟨(HH2.out.more (Y' := fun c => c = g6) fun c hc e => ?_).later hb04, fun c hc => ?_, fun c hc => ?_, HB2.out.trans (hb04.mono HB2.out.size)⟩, ?_, rh_new _ flow⟩
  ·have e : c = g6 := e
   have := hb3.size; omega
  ·rcases hc with e | e | e
   ·have e : c = g6 := e
    omega
   ·rw [e]; exact HGE.out
   ·cases e
  ·have e : c = g6 := hc
   omega
  ·rw [hW4, hg6]; exact heap_alloc_new w3 _)
 have HG6 := Lib.hid hg6
 clear hb04 hb3 hg6 HH2
 replace hW4 := Lib.hid hW4
 unfold rhC
 go_wp2_with fail
 rw [← hW4.out, ← HG6.out]
 clear HG6 hW4 HB2 HFEW k1 hs HGE
 go_loopw [36] (fun i wz => ∃ j : Nat, j ≤ m ∧ i = .int .i64 j ∧ LW w0 g6 wz hb (rep flow (bl.take j))) (fun i _ => m - (intOf i).toNat)
 case atStart => exact ⟨0, by omega, rfl, HL0.out⟩
 case round =>
  obtain ⟨j, hj, rfl, hlw⟩ := hrel
  clear HL0
  by_cases hjm : j < m
  rotate_left
  ·have HBZ := Lib.hid (show Below w0.heap.size w0 wr from by obtain ⟨_, _, _, _, _, _, _, _, _, _, S, -⟩ := hlw.ex; exact S.bel)
   have hj' : j = m := by omega
   subst hj'
   clear hlw
   go_wp2_with fail
   refine (HAL.out _).mono ?_
   rintro r w5 ⟨rfl, hb5⟩
   have HB5 := Lib.hid (HBZ.out.trans (hb5.mono HBZ.out.size))
   clear hb5
   go_wp2_with fail
   go_ret
   exact ⟨rfl, HB5.out⟩
  have hjl : j < bl.length := by have := HM.out; omega
  obtain ⟨bt, bm, bk, n, A, cap, ub, uk, ut, um, S, hx, hr⟩ := hlw.ex
  obtain ⟨⟨Bu, nu, cu, rfl⟩, ⟨Ak, nk, ck, rfl⟩, ⟨Aq, nt, ct, rfl⟩, ⟨Am, nm, cm, rfl⟩⟩ := hr.slices
  obtain ⟨b0, off, rfl, hblt, h3⟩ := (S.bts HBT.out).at_ (by omega)
  obtain ⟨A2, c2, hfl, hat, hes, d0, d1, d2⟩ := h3 j hjl
  replace d0 := (leads_veil _ _).cell d0; replace d1 := (leads_veil _ _).cell d1; replace d2 := (leads_veil _ _).cell d2
  have hg := good_rep HLI.out flow j (by omega)
  have hT := HLI.out.take j hjl
  have hN : j ≤ 1000000 := by have := HLI.out.len; omega
  have hbin := HLI.out.bin j hjl
  have HNEXT : Hid (rep flow (bl.take (j + 1)) = (addM (rep flow (bl.take j)) bl[j]).2) := Lib.hid (rep_take flow bl j hjl)
  obtain ⟨b, hbj⟩ : ∃ b, b = bl[j] := ⟨_, rfl⟩
  rw [← hbj] at hfl hat hes d0 d1 d2 hT hbin HNEXT
  obtain ⟨hm, hhm⟩ : ∃ hm, hm = rep flow (bl.take j) := ⟨_, rfl⟩
  rw [← hhm] at S hx hr hg HNEXT
  have hfw : hm.flow = flow := by rw [hhm]; exact rep_flow flow _
  clear h3 hlw hbj hhm hblt
  obtain ⟨W1, hW1⟩ : ∃ W1, W1 = wr.alloc (.cells #[.string b.flow, .int .u64 (b.at' : Nat), .slice A2 b.es.length c2] 36) := ⟨_, rfl⟩
  have hb01 : Below wr.heap.size wr W1 := by rw [hW1]; exact (Below.refl _ _).alloc (Nat.le_refl _) _
  obtain ⟨g8, hg8⟩ : ∃ g, g = wr.heap.size := ⟨_, rfl⟩
  have hz1 : W1.heap.size = wr.heap.size + 1 := by rw [hW1]; simp
  have hb8 : Cn.BB W1 g8 b.flow b.at' A2 b.es.length c2 := by rw [hW1, hg8]; exact heap_alloc_new wr _
  have S1 := S.later hb01
  have hr1 := hr.leads (veil_below _ hb01)
  have hes1 := EvsIn.leads hes (veil_below _ hb01)
  have hx1 := hx.later hb01 hx.lt
  have HC1 := Lib.hid (S1.radd _ _ _ _ hr1 hg b A2 c2 hes1 hbin (by omega) hN hfl hat)
  have HS1 := Lib.hid S1; have HES1 := Lib.hid hes1; have HG := Lib.hid hg; have HBIN := Lib.hid hbin; have HT := Lib.hid hT; have HFL := Lib.hid hfl; have HATB := Lib.hid hat
  have HX1 := Lib.hid hx1; have HB8 := Lib.hid hb8
  have HG8 : Hid (g8 < W1.heap.size) := Lib.hid (by rw [hg8, hz1]; omega)
  obtain ⟨x0, x1, x2, x3, x4, x5, x6, -⟩ := hx1.cells
  obtain ⟨y0, y1, y2, -⟩ := hb8.cells
  have HW1 := Lib.hid hW1; have HGG8 := Lib.hid hg8
  clear S hx hr hg hT hbin hfl hat hes hes1 hr1 hx1 hb8 hb01 hz1 hW1 hg8 S1
  rw [hfw] at x0 HC1 HX1
  unfold rhC at HC1
  generalize hcl : hm.s.closed = cl at *
  generalize hnx : hm.s.next = nx at *
  generalize hff : b.flow = ff at *
  generalize hatt : b.at' = at' at *
  generalize hen : b.es.length = en at *
  go_upto_region 8 with fail
  rw [← HW1.out, ← HGG8.out]
  go_wp2_with fail
  refine HC1.out.mono ?_
  rintro r w2 ⟨hb2, ub1, uk1, ut1, um1, rfl, hr2⟩
  obtain ⟨⟨Bu1, nu1, cu1, rfl⟩, ⟨Ak1, nk1, ck1, rfl⟩, ⟨Aq1, nt1, ct1, rfl⟩, ⟨Am1, nm1, cm1, rfl⟩⟩ := hr2.slices
  rw [hfw]
  unfold rhC
  obtain ⟨hm1, hhm1⟩ : ∃ h', h' = (addM hm b).2 := ⟨_, rfl⟩
  obtain ⟨cd, hcd⟩ : ∃ c, c = (addM hm b).1 := ⟨_, rfl⟩
  have hfw1 : hm1.flow = flow := by rw [hhm1, addM_flow, hfw]
  rw [← hhm1] at hr2 HNEXT ⊢
  rw [← hcd]
  obtain ⟨cl1, hcl1⟩ : ∃ x, x = hm1.s.closed := ⟨_, rfl⟩
  obtain ⟨nx1, hnx1⟩ : ∃ x, x = hm1.s.next := ⟨_, rfl⟩
  rw [← hcl1, ← hnx1]
  obtain ⟨W3, hW3⟩ : ∃ W3, W3 = w2.alloc (.cells #[.string flow, .slice Bu1 nu1 cu1, .int .i64 cl1, .int .u64 (nx1 : Nat), .slice Ak1 nk1 ck1, .slice Aq1 nt1 ct1, .slice Am1 nm1 cm1] 32) := ⟨_, rfl⟩
  obtain ⟨g9, hg9⟩ : ∃ g, g = w2.heap.size := ⟨_, rfl⟩
  have hb23 : Below w2.heap.size w2 W3 := by rw [hW3]; exact (Below.refl _ _).alloc (Nat.le_refl _) _
  have hb13 : Below W1.heap.size W1 W3 := hb2.trans (hb23.mono hb2.size)
  have S3 := HS1.out.later hb13
  have hes3 := EvsIn.leads HES1.out (veil_below _ hb13)
  have hr3 := hr2.leads (veil_below _ hb23)
  have HC2 := Lib.hid (S3.fits HG.out b A2 c2 hes3 HBIN.out (by have := HT.out; omega) (by rw [hff]; exact HFL.out) (by rw [hatt]; exact HATB.out))
  rw [hff, hatt, hen, ← hcd] at HC2
  have hx3 := HX1.out.later hb13 HX1.out.lt
  have hx9 : RX W3 g9 flow (.slice Bu1 nu1 cu1) cl1 nx1 (.slice Ak1 nk1 ck1) (.slice Aq1 nt1 ct1) (.slice Am1 nm1 cm1) := by rw [hW3, hg9]; exact heap_alloc_new w2 _
  have hb83 := HB8.out.later hb13 HG8.out
  have HG9 : Hid (W1.heap.size ≤ g9) := Lib.hid (by rw [hg9]; exact hb2.size)
  have HS3 := Lib.hid S3; have HES3 := Lib.hid hes3; have HR3 := Lib.hid hr3; have HX3 := Lib.hid hx3; have HX9 := Lib.hid hx9; have HB83 := Lib.hid hb83
  have HW3 := Lib.hid hW3; have HGG9 := Lib.hid hg9; have HHM1 := Lib.hid hhm1; have HCD := Lib.hid hcd; have HCL1 := Lib.hid hcl1; have HNX1 := Lib.hid hnx1; have HFW1 := Lib.hid hfw1
  have HG83 : Hid (g8 < W3.heap.size) := Lib.hid (Nat.lt_of_lt_of_le HG8.out hb13.size)
  clear x0 x1 x2 x3 x4 x5 x6 y0 y1 y2
  obtain ⟨y0, y1, y2, -⟩ := hb83.cells
  clear hb23 hb13 S3 hes3 hr3 hx3 hx9 hb83 hW3 hg9 hhm1 hcd hcl1 hnx1 hfw1 hr2 hb2 HC1 HX1 HES1
  go_upto_region 9 with fail
  rw [← HW3.out, ← HGG9.out]
  go_wp2_with fail
  refine HC2.out.mono ?_
  rintro r w4 ⟨rfl, hb4⟩
  have S4 := HS3.out.later hb4
  have hes4 := EvsIn.leads HES3.out (veil_below _ hb4)
  have HC3 := Lib.hid (S4.add HG.out b A2 c2 hes4 HBIN.out (by have := HT.out; omega) (by have := HLI.out.len; have := HM.out; omega) (by rw [hff]; exact HFL.out) (by rw [hatt]; exact HATB.out))
  rw [hff, hatt, hen] at HC3
  have HS4 := Lib.hid S4
  have HR4 := Lib.hid (HR3.out.leads (veil_below _ hb4))
  have HX4 := Lib.hid (HX3.out.later hb4 HX3.out.lt)
  have HX94 := Lib.hid (HX9.out.later hb4 HX9.out.lt)
  clear y0 y1 y2
  obtain ⟨y0, y1, y2, -⟩ := (HB83.out.later hb4 HG83.out).cells
  clear hb4 S4 hes4 HC2 HR3 HX3 HX9 HB83 HES3 HS3
  go_wp2_with fail
  refine HC3.out.mono ?_
  rintro r w5 ⟨rfl, bt5, bm5, bk5, n5, A5, cap5, S5, hl5, hc5⟩
  have hx65 := HX4.out.off HS4.out rfl hc5
  have hx95 : RX w5 g9 flow (.slice Bu1 nu1 cu1) cl1 nx1 (.slice Ak1 nk1 ck1) (.slice Aq1 nt1 ct1) (.slice Am1 nm1 cm1) := (hc5.block g9 HX94.out.lt fun e => by
   have := HS1.out.xb g9 (.inr e)
   have := HG9.out
   omega).trans HX94.out
  obtain ⟨W6, hW6⟩ : ∃ W6, W6 = ((((((w5.setCell ⟨g6, 0, none⟩ (.string flow)).setCell ⟨g6, 1, none⟩ (.slice Bu1 nu1 cu1)).setCell ⟨g6, 2, none⟩ (.int .i64 cl1)).setCell ⟨g6, 3, none⟩ (.int .u64 (nx1 : Nat))).setCell ⟨g6, 4, none⟩ (.slice Ak1 nk1 ck1)).setCell ⟨g6, 5, none⟩ (.slice Aq1 nt1 ct1)).setCell ⟨g6, 6, none⟩ (.slice Am1 nm1 cm1) := ⟨_, rfl⟩
  have hc6 : Chg (fun c => c = g6) w5 W6 := by rw [hW6]; exact setCells7_chg (Y := fun c => c = g6) (g := g6) rfl _ _ _ _ _ _ _
  have hx6 : RX W6 g6 flow (.slice Bu1 nu1 cu1) cl1 nx1 (.slice Ak1 nk1 ck1) (.slice Aq1 nt1 ct1) (.slice Am1 nm1 cm1) := by rw [hW6]; exact hx65.seven
  rw [← HHM1.out] at S5
  have S6 := S5.chg hc6
  have hr6 := (HR4.out.leads hl5).leads (chgY_leads hc6)
  have hg1 := good_rep HLI.out flow (j + 1) (by have := HM.out; omega)
  rw [HNEXT.out] at hg1
  have HC4 := Lib.hid (S6.same _ _ _ _ hr6 hg1 (by
   have := HLI.out.tot
   have e : tot (bl.take (j + 1)) ≤ tot bl := by
    have e : tot bl = tot (bl.take (j + 1)) + tot (bl.drop (j + 1)) := by unfold tot; rw [← List.sum_append, ← List.map_append, List.take_append_drop]
    omega
   omega) (by have := HLI.out.len; have := HM.out; omega))
  rw [HFW1.out, ← HCL1.out, ← HNX1.out] at HC4
  unfold rhC at HC4
  have HS6 := Lib.hid S6; have HR6 := Lib.hid hr6; have HX6 := Lib.hid hx6; have HW6 := Lib.hid hW6
  obtain ⟨z0, z1, z2, z3, z4, z5, z6, -⟩ := hx95.cells
  obtain ⟨q0, q1, q2, q3, q4, q5, q6, xf⟩ := hx65.cells
  have xf0 := xf 0; have xf1 := xf 1; have xf2 := xf 2; have xf3 := xf 3; have xf4 := xf 4; have xf5 := xf 5; have xf6 := xf 6
  clear xf S5 hl5 hc5 hx65 hx95 hc6 hx6 S6 hr6 hg1 hW6 HC3 HR4 HX4 HX94 HS4 y0 y1 y2
  rw [← HCD.out]
  go_upto_region 12 with fail
  rw [← HW6.out]
  clear q0 q1 q2 q3 q4 q5 q6 z0 z1 z2 z3 z4 z5 z6 xf0 xf1 xf2 xf3 xf4 xf5 xf6
  obtain ⟨z0, z1, z2, z3, z4, z5, z6, -⟩ := HX6.out.cells
  go_wp2_with fail
  refine HC4.out.mono ?_
  rintro r w7 ⟨rfl, hb7⟩
  have HREL : Hid (LW w0 g6 w7 hb (rep flow (bl.take (j + 1)))) := Lib.hid (by
   rw [HNEXT.out]
   refine LW.later ⟨bt5, bm5, bk5, n5, A5, cap5, _, _, _, _, HS6.out, ?_, HR6.out⟩ hb7
   rw [HFW1.out, ← HCL1.out, ← HNX1.out]
   exact HX6.out)
  clear hb7 z0 z1 z2 z3 z4 z5 z6
  go_wp2_with fail
  go_roundw
  case rel => exact ⟨j + 1, by omega, by go_num, HREL.out⟩
  case measure => simp [intOf]; omega
end Hi
end Go.Proofs.YtkajcldmolcllaaGreat
namespace Go.Proofs.YtkajcldmolcllaaGreat
namespace Hi
set_option maxRecDepth 100000 in
theorem adds_open {H : Type} {enc : TypeId × Value → H} {base b1 : Nat} {spare : Nat → Bool} {held : Bool} {d0 d1 : DataW H} {p0 p1 : List MemPlace} (v0 v1 : Value) (W : World)
  (o0 : Value.okWide Tryz.prog W .any base 9 v0) (k0 : DataW.Trod enc Tryz.prog W b1 spare held 9 v0 d0 p0) (hs0 : ∀ x ∈ d0.weights Tryz.prog 9, x ≤ reachBytes)
  (o1 : Value.okWide Tryz.prog W .any base 22 v1) (k1 : DataW.Trod enc Tryz.prog W b1 spare held 22 v1 d1 p1) (hs1 : ∀ x ∈ d1.weights Tryz.prog 22, x ≤ reachBytes) :
  Calls Tryz.prog 4 #[v0, v1] W fun r w' => r = .returned (.bool true) ∧ Below W.heap.size W w' := by
 obtain ⟨s, rfl, hs⟩ := str_open v0 W o0 k0
 obtain ⟨bl, A, cap, rfl, hB, hl⟩ := bts_open v1 W o1 k1 hs1
 exact adds_walk s hs bl A cap W hB hl
end Hi
end Go.Proofs.YtkajcldmolcllaaGreat
