/- HistoryAgain: the walk. -/
/- HistoryAgain: the walk at what came in. -/
import Derived.Test.YtkajcldmolcllaaGreatHabg
import Derived.Test.YtkajcldmolcllaaGreatHaaq
set_option linter.unusedVariables false
set_option linter.unusedSimpArgs false
open Go.RowKit
namespace Go.Proofs.YtkajcldmolcllaaGreat
namespace Hi
open _root_.Go.Proofs.YtkajcldmolcllaaGreat.Nm (ret_int ret_bool)
open Vt (VT Rep below_drew)
open Ev (EV)
open Cm (rowOf EvsIn)
open Cn (BT BtsIn few12_any)
variable {w w' w0 : World} {hb : Nat} {h : HM} {Y : Nat → Prop}

structure R1 (w0 : World) (g : Nat) (w : World) (h : HM) : Prop where
 ex : ∃ ub uk ut um, RX w g h.flow ub h.s.closed h.s.next uk ut um ∧ RH (veil (fun c => c = g) w) h ub uk ut um
 bel : Below w0.heap.size w0 w
 low : w0.heap.size ≤ g
theorem tot_take_le (l : List BT) (j : Nat) : tot (l.take j) ≤ tot l := by
 have e : tot l = tot (l.take j) + tot (l.drop j) := by unfold tot; rw [← List.sum_append, ← List.map_append, List.take_append_drop]
 omega
theorem Chg.mono {Y' : Nat → Prop} (h : Chg Y w w') (hY : ∀ c, Y c → Y' c) : Chg Y' w w' := ⟨h.os, h.tape, h.output, h.size, fun b hb hx => h.block b hb fun e => hx (hY b e)⟩
structure AG (w0 : World) (Y : Nat → Prop) (g : Nat) (w : World) (hb : Nat) (hw hp : HM) (ub uk ut um : Value) (g10 : Nat) (part : Prop) : Prop where
 ex : ∃ bt bm bk n A cap, LS w0 Y w hb bt bm bk n A cap hp ∧ RH (veil (YH Y hb A) w) hw ub uk ut um ∧ (part → ∃ ub1 uk1 ut1 um1, RX w g10 hp.flow ub1 hp.s.closed hp.s.next uk1 ut1 um1 ∧ RH (veil (YH Y hb A) w) hp ub1 uk1 ut1 um1)
 box : RX w g hw.flow ub hw.s.closed hw.s.next uk ut um
theorem AG.later {g g10 : Nat} {hw hp : HM} {ub uk ut um : Value} {part : Prop} (k : AG w0 Y g w hb hw hp ub uk ut um g10 part) (hw' : Below w.heap.size w w') : AG w0 Y g w' hb hw hp ub uk ut um g10 part := by
 obtain ⟨bt, bm, bk, n, A, cap, h1, h2, h3⟩ := k.ex
 refine ⟨⟨bt, bm, bk, n, A, cap, h1.later hw', h2.leads (veil_below _ hw'), fun hp => ?_⟩, k.box.later hw' k.box.lt⟩
 obtain ⟨a, b, c, d, h4, h5⟩ := h3 hp
 exact ⟨a, b, c, d, h4.later hw' h4.lt, h5.leads (veil_below _ hw')⟩

set_option maxRecDepth 100000 in
set_option maxHeartbeats 4000000 in
theorem again_walk (bl : List BT) (B : Option Addr) (bc : Nat) (n : Nat) (hn : n < 256) (w0 : World) (hB : BtsIn w0 B bc bl) (hlen : ∀ b ∈ bl, b.es.length ≤ 1099511627775) :
  Calls Tryz.prog 5 #[.slice B bl.length bc, .int .u8 (n : Nat)] w0 fun r w' => r = .returned (.bool true) ∧ Below w0.heap.size w0 w' := by
 have hle := hB.le; have hbc := hB.cap_le
 simp only [maxLen] at hbc
 have HBT := Lib.hid hB; have HLEN := Lib.hid hlen
 clear hB hlen
 obtain ⟨m, hm⟩ : ∃ m, m = bl.length := ⟨_, rfl⟩
 rw [← hm] at hle ⊢
 have HM := Lib.hid hm; clear hm
 have HAL := Lib.hid fun W => halive_any W
 have HFC := Lib.hid (show Calls _ _ _ _ _ from by have q := few12_any bl B bc w0 HBT.out; rw [← HM.out] at q; exact q)
 go_enter Tryz.func5, Tryz.ntmps5
 go_wp2_with fail
 refine HFC.out.mono ?_
 rintro r w1 ⟨bb, rfl, hfew, hb1⟩
 have HB1 := Lib.hid hb1; have HFEW := Lib.hid hfew
 clear hb1 hfew HFC
 cases bb with
 | false =>
  go_wp2_with fail
  refine (HAL.out _).mono ?_
  rintro r w3 ⟨rfl, hb3⟩
  have HB3 := Lib.hid (HB1.out.trans (hb3.mono HB1.out.size))
  clear hb3
  go_wp2_with fail
  go_ret
  exact ⟨rfl, HB3.out⟩
 | true =>
 have HLI := Lib.hid (lin_of (HFEW.out rfl) HLEN.out)
 go_wp2_with fail
 refine (rnew_any ⟨#[119]⟩ w1).mono ?_
 rintro r w3 ⟨rfl, hb3⟩
 obtain ⟨W4, hW4⟩ : ∃ W4, W4 = w3.alloc (.cells #[.string ⟨#[119]⟩, .slice none 0 0, .int .i64 0, .int .u64 1, .slice none 0 0, .slice none 0 0, .slice none 0 0] 32) := ⟨_, rfl⟩
 have hb04 : Below w1.heap.size w1 W4 := by rw [hW4]; exact hb3.alloc hb3.size _
 obtain ⟨g5, hg5⟩ : ∃ g, g = w3.heap.size := ⟨_, rfl⟩
 have HL0 : Hid (R1 w0 g5 W4 (rep ⟨#[119]⟩ (bl.take 0))) := Lib.hid (by
  rw [List.take_zero]
  refine ⟨⟨.slice none 0 0, .slice none 0 0, .slice none 0 0, .slice none 0 0, ?_, rh_new _ _⟩, HB1.out.trans (hb04.mono HB1.out.size), by rw [hg5]; exact Nat.le_trans HB1.out.size hb3.size⟩
  rw [hW4, hg5]; exact heap_alloc_new w3 _)
 have HG5 := Lib.hid hg5
 clear hb04 hb3 hg5
 replace hW4 := Lib.hid hW4
 unfold rhC
 go_wp2_with fail
 rw [← hW4.out, ← HG5.out]
 clear HG5 hW4 HB1 HFEW
 go_loopw [22] (fun i wz => ∃ j : Nat, j ≤ m ∧ i = .int .i64 j ∧ R1 w0 g5 wz (rep ⟨#[119]⟩ (bl.take j))) (fun i _ => m - (intOf i).toNat)
 case atStart => exact ⟨0, by omega, rfl, HL0.out⟩
 case round =>
  obtain ⟨j, hj, rfl, hr1⟩ := hrel
  clear HL0
  obtain ⟨ub, uk, ut, um, hx, hr⟩ := hr1.ex
  obtain ⟨⟨Bu, nu, cu, rfl⟩, ⟨Ak, nk, ck, rfl⟩, ⟨Aq, nt, ct, rfl⟩, ⟨Am, nm, cm, rfl⟩⟩ := hr.slices
  have hbel := hr1.bel; have hlow := hr1.low
  clear hr1
  have hg := good_rep HLI.out ⟨#[119]⟩ j (by have := HM.out; omega)
  obtain ⟨hm, hhm⟩ : ∃ hm, hm = rep ⟨#[119]⟩ (bl.take j) := ⟨_, rfl⟩
  have hfw : hm.flow = ⟨#[119]⟩ := by rw [hhm]; exact rep_flow _ _
  by_cases hjm : j < m
  ·have hjl : j < bl.length := by have := HM.out; omega
   obtain ⟨b0, off, rfl, hblt, h3⟩ := (HBT.out.later hbel).at_ (by omega)
   obtain ⟨A2, c2, hfl, hat, -, d0, d1, d2⟩ := h3 j hjl
   have hes : EvsIn (veil (fun c => c = g5) wr) A2 c2 bl[j].es := by
    obtain ⟨b0', off', heq, -, h3'⟩ := (BtsIn.leads HBT.out (leads_from (X := fun c => c = g5) hbel (fun c hc => by have hc : c = g5 := hc; omega))).at_ (by omega)
    cases heq
    obtain ⟨A3, c3, -, -, he, -, -, e2⟩ := h3' j hjl
    replace e2 := (leads_veil _ _).cell e2
    rw [e2] at d2
    injection d2 with d2
    injection d2 with d21 d22 d23
    rw [← d21, ← d23]; exact he
   have hT := HLI.out.take j hjl
   have hN : j ≤ 1000000 := by have := HLI.out.len; omega
   have hbin := HLI.out.bin j hjl
   have HNEXT : Hid (rep ⟨#[119]⟩ (bl.take (j + 1)) = (addM (rep ⟨#[119]⟩ (bl.take j)) bl[j]).2) := Lib.hid (rep_take _ bl j hjl)
   obtain ⟨b, hbj⟩ : ∃ b, b = bl[j] := ⟨_, rfl⟩
   rw [← hbj] at hfl hat hes d0 d1 d2 hT hbin HNEXT
   rw [← hhm] at hx hr hg HNEXT
   clear h3 hbj hhm hblt
   obtain ⟨W1, hW1⟩ : ∃ W1, W1 = wr.alloc (.cells #[.string b.flow, .int .u64 (b.at' : Nat), .slice A2 b.es.length c2] 36) := ⟨_, rfl⟩
   have hb01 : Below wr.heap.size wr W1 := by rw [hW1]; exact (Below.refl _ _).alloc (Nat.le_refl _) _
   obtain ⟨g8, hg8⟩ : ∃ g, g = wr.heap.size := ⟨_, rfl⟩
   have hb8 : Cn.BB W1 g8 b.flow b.at' A2 b.es.length c2 := by rw [hW1, hg8]; exact heap_alloc_new wr _
   have hr1 := hr.leads (veil_below _ hb01)
   have hes1 := EvsIn.leads hes (veil_below _ hb01)
   have hx1 := hx.later hb01 hx.lt
   have HC1 := Lib.hid (radd_any (X := fun c => c = g5) hm _ _ _ _ b A2 c2 W1 (fun c hc => by have hc : c = g5 := hc; rw [hc]; exact hx1.lt) hr1 hg.fine hg.keys (by have := hg.tot; omega) (by have := hg.len; omega) hes1 hbin.slim hfl hat)
   have HX1 := Lib.hid hx1; have HB01 := Lib.hid (hbel.trans (hb01.mono hbel.size)); have HLOW := Lib.hid hlow
   obtain ⟨x0, x1, x2, x3, x4, x5, x6, -⟩ := hx1.cells
   obtain ⟨y0, y1, y2, -⟩ := hb8.cells
   have HW1 := Lib.hid hW1; have HGG8 := Lib.hid hg8
   clear hx hr hg hT hbin hfl hat hes hes1 hr1 hx1 hb8 hb01 hW1 hg8 hbel hlow hN
   rw [hfw] at x0 HC1 HX1
   unfold rhC at HC1
   generalize hcl : hm.s.closed = cl at *
   generalize hnx : hm.s.next = nx at *
   generalize hff : b.flow = ff at *
   generalize hatt : b.at' = at' at *
   generalize hen : b.es.length = en at *
   go_upto_region 7 with fail
   rw [← HW1.out, ← HGG8.out]
   go_wp2_with fail
   refine HC1.out.mono ?_
   rintro r w2 ⟨hb2, ub1, uk1, ut1, um1, rfl, hr2⟩
   obtain ⟨⟨Bu1, nu1, cu1, rfl⟩, ⟨Ak1, nk1, ck1, rfl⟩, ⟨Aq1, nt1, ct1, rfl⟩, ⟨Am1, nm1, cm1, rfl⟩⟩ := hr2.slices
   rw [hfw]
   unfold rhC
   obtain ⟨hm1, hhm1⟩ : ∃ h', h' = (addM hm b).2 := ⟨_, rfl⟩
   have hfw1 : hm1.flow = ⟨#[119]⟩ := by rw [hhm1, addM_flow, hfw]
   rw [← hhm1] at hr2 HNEXT ⊢
   generalize (addM hm b).1 = cd at *
   obtain ⟨cl1, hcl1⟩ : ∃ x, x = hm1.s.closed := ⟨_, rfl⟩
   obtain ⟨nx1, hnx1⟩ : ∃ x, x = hm1.s.next := ⟨_, rfl⟩
   rw [← hcl1, ← hnx1]
   obtain ⟨W4, hW4⟩ : ∃ W4, W4 = ((((((w2.setCell ⟨g5, 0, none⟩ (.string ⟨#[119]⟩)).setCell ⟨g5, 1, none⟩ (.slice Bu1 nu1 cu1)).setCell ⟨g5, 2, none⟩ (.int .i64 cl1)).setCell ⟨g5, 3, none⟩ (.int .u64 (nx1 : Nat))).setCell ⟨g5, 4, none⟩ (.slice Ak1 nk1 ck1)).setCell ⟨g5, 5, none⟩ (.slice Aq1 nt1 ct1)).setCell ⟨g5, 6, none⟩ (.slice Am1 nm1 cm1) := ⟨_, rfl⟩
   have hx3 := HX1.out.later hb2 HX1.out.lt
   have hc4 : Chg (fun c => c = g5) w2 W4 := by rw [hW4]; exact setCells7_chg (Y := fun c => c = g5) (g := g5) rfl _ _ _ _ _ _ _
   have hx4 : RX W4 g5 ⟨#[119]⟩ (.slice Bu1 nu1 cu1) cl1 nx1 (.slice Ak1 nk1 ck1) (.slice Aq1 nt1 ct1) (.slice Am1 nm1 cm1) := by rw [hW4]; exact hx3.seven
   have HREL : Hid (R1 w0 g5 W4 (rep ⟨#[119]⟩ (bl.take (j + 1)))) := Lib.hid (by
    rw [HNEXT.out]
    have hb02 := HB01.out.trans (hb2.mono HB01.out.size)
    refine ⟨⟨_, _, _, _, ?_, hr2.leads hc4.leads⟩, hb02.trans (hc4.below hb02.size fun c hc => by have hc : c = g5 := hc; rw [hc]; exact HLOW.out), HLOW.out⟩
    rw [hfw1, ← hcl1, ← hnx1]
    exact hx4)
   have HW4 := Lib.hid hW4
   clear x0 x1 x2 x3 x4 x5 x6 y0 y1 y2
   obtain ⟨x0, x1, x2, x3, x4, x5, x6, xf⟩ := hx3.cells
   have xf0 := xf 0; have xf1 := xf 1; have xf2 := xf 2; have xf3 := xf 3; have xf4 := xf 4; have xf5 := xf 5; have xf6 := xf 6
   clear xf hc4 hx4 hx3 hW4 hr2 hb2 hhm1 hcl1 hnx1 hfw1 HX1 HC1
   go_wp2_with fail
   rw [← HW4.out]
   go_roundw
   case rel => exact ⟨j + 1, by omega, by go_num, HREL.out⟩
   case measure => simp [intOf]; omega
  have hj' : j = m := by omega
  subst hj'
  rw [List.take_of_length_le (by have := HM.out; omega)] at hhm
  rw [List.take_of_length_le (by have := HM.out; omega)] at hx hr hg
  rw [← hhm] at hx hr hg
  have HBEL := Lib.hid hbel; have HLOW := Lib.hid hlow; have HHM := Lib.hid hhm
  obtain ⟨Bu', cu', hueq, hbts⟩ := hr.bs.open
  injection hueq with e1 e2 e3
  subst e1; subst e3
  obtain ⟨wb, hwb⟩ : ∃ wb, wb = hm.bs := ⟨_, rfl⟩
  have HWB := Lib.hid hwb
  rw [← hwb] at e2 hbts
  have hble := hbts.le; have hbcm := hbts.cap_le
  simp only [maxLen] at hbcm
  rw [← e2] at hble
  have HE2 := Lib.hid e2
  have HLW : Hid (LIn wb) := Lib.hid (by rw [hwb, hhm]; exact lin_bs HLI.out _)
  have HBW : Hid (Built ⟨#[119]⟩ hm) := Lib.hid (by rw [hhm]; exact built_rep _ _)
  have hn60 : nu ≤ 60 := by have := HLW.out.len; rw [e2]; exact this
  rw [hfw] at hx
  have HX := Lib.hid hx; have HR := Lib.hid hr; have HGD := Lib.hid hg; have HFW := Lib.hid hfw
  have HG5L := Lib.hid hx.lt
  clear hx hr hg hbel hlow hhm hbts hwb e2 hfw hjm
  generalize hcl : hm.s.closed = cl at *
  generalize hnx : hm.s.next = nx at *
  go_wp2_with fail
  refine (hnew_any ⟨#[119]⟩ (by decide) wr (fun c => c = g5) (fun c hc => by have hc : c = g5 := hc; rw [hc]; exact HG5L.out)).mono ?_
  rintro r w2 ⟨hb, bt, bm, bk, rfl, hb2, hbge, H2⟩
  have HGE : Hid (w0.heap.size ≤ hb) := Lib.hid (Nat.le_trans HBEL.out.size hbge)
  have HNE : Hid (hb ≠ g5) := Lib.hid (by have := HG5L.out; omega)
  have HGEW : Hid (wr.heap.size ≤ hb) := Lib.hid hbge
  have HB2 := Lib.hid hb2
  have HX2 := Lib.hid (HX.out.later hb2 HX.out.lt)
  have HH2 := Lib.hid H2
  obtain ⟨x0, x1, x2, x3, x4, x5, x6, -⟩ := HX2.out.cells
  clear hb2 H2 hbge
  go_upto_region 12 with fail
  have kk1 : ((nu : Int) + 1) ≠ 0 := by omega
  go_upto_region 13 with fail
  obtain ⟨kk, hkk⟩ : ∃ kk, kk = n % (nu + 1) := ⟨_, rfl⟩
  have hke : (n : Int) % ((nu : Int) + 1) = (kk : Int) := by rw [hkk]; exact (Int.natCast_emod n (nu + 1)).symm
  have hkl : kk ≤ nu := by rw [hkk]; exact Nat.le_of_lt_succ (Nat.mod_lt n (Nat.succ_pos nu))
  rw [hke]
  clear hke hkk kk1 x0 x1 x2 x3 x4 x5 x6
  go_wp2_with fail
  refine (rnew_any ⟨#[119]⟩ w2).mono ?_
  rintro r w3 ⟨rfl, hb3⟩
  obtain ⟨W4, hW4⟩ : ∃ W4, W4 = w3.alloc (.cells #[.string ⟨#[119]⟩, .slice none 0 0, .int .i64 0, .int .u64 1, .slice none 0 0, .slice none 0 0, .slice none 0 0] 32) := ⟨_, rfl⟩
  have hb04 : Below w2.heap.size w2 W4 := by rw [hW4]; exact hb3.alloc hb3.size _
  obtain ⟨g10, hg10⟩ : ∃ g, g = w3.heap.size := ⟨_, rfl⟩
  have hg510 : g5 < g10 := by rw [hg10]; have := HX2.out.lt; have := hb3.size; omega
  obtain ⟨YY, hYY⟩ : ∃ YY : Nat → Prop, YY = fun c => c = g5 ∨ c = g10 := ⟨_, rfl⟩
  have HY5 : Hid (YY g5) := Lib.hid (by rw [hYY]; exact .inl rfl)
  have HY10 : Hid (YY g10) := Lib.hid (by rw [hYY]; exact .inr rfl)
  have HAG0 : Hid (AG w0 YY g5 W4 hb hm (rep ⟨#[119]⟩ (wb.take 0)) (.slice Bu nu cu) (.slice Ak nk ck) (.slice Aq nt ct) (.slice Am nm cm) g10 True ∧ RX W4 g5 ⟨#[119]⟩ (.slice Bu nu cu) cl nx (.slice Ak nk ck) (.slice Aq nt ct) (.slice Am nm cm)) := Lib.hid (by
   rw [List.take_zero]
   have hx4 := HX2.out.later hb04 HX2.out.lt
   refine ⟨⟨⟨bt, bm, bk, 0, none, 0, ⟨(HH2.out.more (Y' := YY) fun c hc e => ?_).later hb04, fun c hc => ?_, fun c hc => ?_, (HBEL.out.trans (HB2.out.mono HBEL.out.size)).trans (hb04.mono (HBEL.out.trans (HB2.out.mono HBEL.out.size)).size)⟩, ?_, fun _ => ⟨_, _, _, _, ?_, rh_new _ _⟩⟩, by rw [HFW.out, hcl, hnx]; exact hx4⟩, hx4⟩
   ·rw [hYY] at e
    rcases e with e | e
    ·exact e
    ·have := hb3.size; omega
   ·rcases hc with e | e | e
    ·rw [hYY] at e
     have := HLOW.out
     rcases e with e | e <;> omega
    ·rw [e]; exact HGE.out
    ·cases e
   ·rw [hYY] at hc
    have := hx4.lt
    have hz4 : W4.heap.size = w3.heap.size + 1 := by rw [hW4]; simp
    rcases hc with e | e <;> omega
   ·refine HR.out.leads (leads_veils (Nat.le_trans HB2.out.size hb04.size) fun c hc hx => ⟨fun e => ?_, (hb04.block c (Nat.lt_of_lt_of_le hc HB2.out.size)).trans (HB2.out.block c hc)⟩)
    rcases e with e | e | e
    ·rw [hYY] at e
     rcases e with e | e
     ·exact hx e
     ·have := hb3.size; have := HB2.out.size; omega
    ·have := HNE.out; have := HH2.out.lt; have := HGEW.out; omega
    ·cases e
   ·rw [hW4, hg10]; exact heap_alloc_new w3 _)
  have HG10 := Lib.hid hg10; have HYY := Lib.hid hYY
  clear hb04 hb3 hg10 HH2 hYY
  replace hW4 := Lib.hid hW4
  unfold rhC
  obtain ⟨x0, x1, x2, x3, x4, x5, x6, -⟩ := HAG0.out.2.cells
  go_upto_region 14 with fail
  rw [← hW4.out, ← HG10.out]
  have hki : (kk : Int) ≤ (cu : Int) := by omega
  have hk0 : (0 : Int) ≤ (kk : Int) := by omega
  go_wp2_with fail
  clear x0 x1 x2 x3 x4 x5 x6 HX2 HG10 HR HX HB2 HGE HGEW HNE hW4
  go_loopw [49] (fun i wz => ∃ q : Nat, q ≤ kk ∧ i = .int .i64 q ∧ AG w0 YY g5 wz hb hm (rep ⟨#[119]⟩ (wb.take q)) (.slice Bu nu cu) (.slice Ak nk ck) (.slice Aq nt ct) (.slice Am nm cm) g10 True) (fun i _ => kk - (intOf i).toNat)
  case atStart => exact ⟨0, by omega, rfl, HAG0.out.1⟩
  case round =>
   obtain ⟨q, hq, rfl, hag⟩ := hrel
   clear HAG0
   by_cases hqk : q < kk
   ·have hql : q < wb.length := by have := HE2.out; omega
    have hn60' : wb.length ≤ 60 := HLW.out.len
    obtain ⟨bt, bm, bk, n2, A, cap, S, hrw, hpt⟩ := hag.ex
    obtain ⟨ub1, uk1, ut1, um1, hx, hr⟩ := hpt trivial
    obtain ⟨⟨Bp, np, cp, rfl⟩, ⟨Akp, nkp, ckp, rfl⟩, ⟨Aqp, ntp, ctp, rfl⟩, ⟨Amp, nmp, cmp, rfl⟩⟩ := hr.slices
    have hbx := hag.box
    obtain ⟨Bu', cu', hueq, hbts⟩ := hrw.bs.open
    injection hueq with e1 e2 e3
    subst e1; subst e3
    clear e2
    obtain ⟨b0, off, rfl, hblt, h3⟩ := hbts.at_ (by rw [← HWB.out]; omega)
    obtain ⟨A2, c2, hfl, hat, hes, d0, d1, d2⟩ := h3 (q) (by rw [← HWB.out]; omega)
    replace d0 := (leads_veil _ _).cell d0; replace d1 := (leads_veil _ _).cell d1; replace d2 := (leads_veil _ _).cell d2
    have hg := good_rep HLW.out ⟨#[119]⟩ (q) (by omega)
    have hT := HLW.out.take (q) hql
    have hN : (q) ≤ 1000000 := by omega
    have hbin := HLW.out.bin (q) hql
    have HNEXT : Hid (rep ⟨#[119]⟩ (wb.take (q + 1)) = (addM (rep ⟨#[119]⟩ (wb.take (q))) (wb[q]'hql)).2) := Lib.hid (rep_take _ wb (q) hql)
    have hqm : (q) < hm.bs.length := by rw [← HWB.out]; exact hql
    have HOKB : Hid ((addM (rep ⟨#[119]⟩ (wb.take (q))) (wb[q]'hql)).1 = 0) := Lib.hid (by
     have e := HBW.out.fits (q) hqm
     have e2 : ∀ (l : List BT) (h1 : (q) < l.length), l = hm.bs → (addM (rep ⟨#[119]⟩ (l.take (q))) (l[q]'h1)).1 = 0 := by
      intro l h1 h2
      subst h2
      exact e
     exact e2 wb hql HWB.out)
    have hbq : (hm.bs[q]'hqm) = (wb[q]'hql) := by
     have e2 : ∀ (l : List BT) (h1 : (q) < l.length), l = hm.bs → (hm.bs[q]'hqm) = (l[q]'h1) := by
      intro l h1 h2
      subst h2
      rfl
     exact e2 wb hql HWB.out
    rw [hbq] at hfl hat hes d0 d1 d2
    obtain ⟨b, hbj⟩ : ∃ b, b = (wb[q]'hql) := ⟨_, rfl⟩
    rw [← hbj] at hfl hat hes d0 d1 d2 hT hbin HNEXT HOKB
    obtain ⟨hp, hhp⟩ : ∃ hp, hp = rep ⟨#[119]⟩ (wb.take (q)) := ⟨_, rfl⟩
    have hfp : hp.flow = ⟨#[119]⟩ := by rw [hhp]; exact rep_flow _ _
    rw [← hhp] at S hx hr hg HNEXT HOKB
    clear h3 hag hpt hbj hhp hblt hbts hbq
    obtain ⟨W1, hW1⟩ : ∃ W1, W1 = wr.alloc (.cells #[.string b.flow, .int .u64 (b.at' : Nat), .slice A2 b.es.length c2] 36) := ⟨_, rfl⟩
    have hb01 : Below wr.heap.size wr W1 := by rw [hW1]; exact (Below.refl _ _).alloc (Nat.le_refl _) _
    obtain ⟨g8, hg8⟩ : ∃ g, g = wr.heap.size := ⟨_, rfl⟩
    have hz1 : W1.heap.size = wr.heap.size + 1 := by rw [hW1]; simp
    have hb8 : Cn.BB W1 g8 b.flow b.at' A2 b.es.length c2 := by rw [hW1, hg8]; exact heap_alloc_new wr _
    have hgx : g8 ≠ hb ∧ (∀ r, rowOf A = some r → r ≠ g8) ∧ g8 ≠ g10 := ⟨by have := S.hat.lt; omega, fun r hr' => by have := S.hat.row.row_lt r hr'; omega, by have := hx.lt; omega⟩
    have S1 := S.later hb01
    have hr1 := hr.leads (veil_below _ hb01)
    have hrw1 := hrw.leads (veil_below _ hb01)
    have hes1 := EvsIn.leads hes (veil_below _ hb01)
    have hx1 := hx.later hb01 hx.lt
    have hbx1 := hbx.later hb01 hbx.lt
    have HC1 := Lib.hid (S1.radd _ _ _ _ hr1 hg b A2 c2 hes1 hbin (by omega) hN hfl hat)
    have HS1 := Lib.hid S1; have HES1 := Lib.hid hes1; have HG := Lib.hid hg; have HBIN := Lib.hid hbin; have HT := Lib.hid hT; have HFL := Lib.hid hfl; have HATB := Lib.hid hat; have HN := Lib.hid hN; have HRW1 := Lib.hid hrw1
    have HX1 := Lib.hid hx1; have HB8 := Lib.hid hb8; have HGX := Lib.hid hgx; have HBX1 := Lib.hid hbx1
    have HG8 : Hid (g8 < W1.heap.size) := Lib.hid (by rw [hg8, hz1]; omega)
    obtain ⟨x0, x1, x2, x3, x4, x5, x6, -⟩ := hx1.cells
    obtain ⟨y0, y1, y2, -⟩ := hb8.cells
    have HW1 := Lib.hid hW1; have HGG8 := Lib.hid hg8
    clear S hx hr hg hT hbin hfl hat hes hes1 hr1 hx1 hb8 hb01 hz1 hW1 hg8 S1 hgx hN hrw hrw1 hbx hbx1
    rw [hfp] at x0 HC1 HX1
    unfold rhC at HC1
    generalize hclp : hp.s.closed = clp at *
    generalize hnxp : hp.s.next = nxp at *
    generalize hff : b.flow = ff at *
    generalize hatt : b.at' = at' at *
    generalize hen : b.es.length = en at *
    go_upto_region 17 with fail
    rw [← HW1.out, ← HGG8.out]
    go_wp2_with fail
    refine HC1.out.mono ?_
    rintro r w2 ⟨hb2, ub2, uk2, ut2, um2, rfl, hr2⟩
    obtain ⟨⟨Bu1, nu1, cu1, rfl⟩, ⟨Ak1, nk1, ck1, rfl⟩, ⟨Aq1, nt1, ct1, rfl⟩, ⟨Am1, nm1, cm1, rfl⟩⟩ := hr2.slices
    rw [hfp]
    unfold rhC
    obtain ⟨hp1, hhp1⟩ : ∃ h', h' = (addM hp b).2 := ⟨_, rfl⟩
    have hfp1 : hp1.flow = ⟨#[119]⟩ := by rw [hhp1, addM_flow, hfp]
    rw [← hhp1] at hr2 HNEXT ⊢
    rw [HOKB.out]
    obtain ⟨cl1, hcl1⟩ : ∃ x, x = hp1.s.closed := ⟨_, rfl⟩
    obtain ⟨nx1, hnx1⟩ : ∃ x, x = hp1.s.next := ⟨_, rfl⟩
    rw [← hcl1, ← hnx1]
    obtain ⟨W5, hW5⟩ : ∃ W5, W5 = ((((((w2.setCell ⟨g10, 0, none⟩ (.string ⟨#[119]⟩)).setCell ⟨g10, 1, none⟩ (.slice Bu1 nu1 cu1)).setCell ⟨g10, 2, none⟩ (.int .i64 cl1)).setCell ⟨g10, 3, none⟩ (.int .u64 (nx1 : Nat))).setCell ⟨g10, 4, none⟩ (.slice Ak1 nk1 ck1)).setCell ⟨g10, 5, none⟩ (.slice Aq1 nt1 ct1)).setCell ⟨g10, 6, none⟩ (.slice Am1 nm1 cm1) := ⟨_, rfl⟩
    have hx3 := HX1.out.later hb2 HX1.out.lt
    have hbx3 := HBX1.out.later hb2 HBX1.out.lt
    have hc5 : Chg (fun c => c = g10) w2 W5 := by rw [hW5]; exact setCells7_chg (Y := fun c => c = g10) (g := g10) rfl _ _ _ _ _ _ _
    have hc5Y : Chg YY w2 W5 := hc5.mono (fun c hc => by have hc : c = g10 := hc; rw [hc]; exact HY10.out)
    have hx5 : RX W5 g10 ⟨#[119]⟩ (.slice Bu1 nu1 cu1) cl1 nx1 (.slice Ak1 nk1 ck1) (.slice Aq1 nt1 ct1) (.slice Am1 nm1 cm1) := by rw [hW5]; exact hx3.seven
    have hbx5 := (hc5.block g5 hbx3.lt (fun e => by have e : g5 = g10 := e; omega)).trans hbx3
    have hb85 : Cn.BB W5 g8 ff at' A2 en c2 := (hc5.block g8 (Nat.lt_of_lt_of_le HG8.out hb2.size) (fun e => HGX.out.2.2 e)).trans (HB8.out.later hb2 HG8.out)
    have S5 := (HS1.out.later hb2).chg hc5Y
    have hr5 := hr2.leads (chgY_leads hc5Y)
    have hrw5 := (HRW1.out.leads (veil_below _ hb2)).leads (chgY_leads hc5Y)
    have hes5 := EvsIn.leads (EvsIn.leads HES1.out (veil_below _ hb2)) (chgY_leads hc5Y)
    have HC2 := Lib.hid (S5.add HG.out b A2 c2 hes5 HBIN.out (by have := HT.out; omega) HN.out (by rw [hff]; exact HFL.out) (by rw [hatt]; exact HATB.out))
    rw [hff, hatt, hen] at HC2
    have HS5 := Lib.hid S5; have HR5 := Lib.hid hr5; have HRW5 := Lib.hid hrw5; have HX5 := Lib.hid hx5; have HBX5 := Lib.hid hbx5
    have HW5 := Lib.hid hW5; have HHP1 := Lib.hid hhp1; have HCL1 := Lib.hid hcl1; have HNX1 := Lib.hid hnx1; have HFP1 := Lib.hid hfp1
    clear x0 x1 x2 x3 x4 x5 x6 y0 y1 y2
    obtain ⟨x0, x1, x2, x3, x4, x5, x6, xf⟩ := hx3.cells
    have xf0 := xf 0; have xf1 := xf 1; have xf2 := xf 2; have xf3 := xf 3; have xf4 := xf 4; have xf5 := xf 5; have xf6 := xf 6
    clear xf hx3 hbx3 hc5 hc5Y hx5 hbx5 S5 hr5 hrw5 hes5 hW5 hhp1 hcl1 hnx1 hfp1 hr2 hb2 HC1 HX1 HES1 HB8 HRW1 HBX1 HS1
    go_upto_region 18 with fail
    rw [← HW5.out]
    clear x0 x1 x2 x3 x4 x5 x6 xf0 xf1 xf2 xf3 xf4 xf5 xf6
    obtain ⟨y0, y1, y2, -⟩ := hb85.cells
    go_wp2_with fail
    refine HC2.out.mono ?_
    rintro r w6 ⟨rfl, bt5, bm5, bk5, n5, A5, cap5, S6, hl6, hc6⟩
    rw [← HHP1.out] at S6
    have HREL : Hid (AG w0 YY g5 w6 hb hm (rep ⟨#[119]⟩ (wb.take (q + 1))) (.slice (some ⟨b0, off, none⟩) nu cu) (.slice Ak nk ck) (.slice Aq nt ct) (.slice Am nm cm) g10 True) := Lib.hid (by
     rw [HNEXT.out]
     refine ⟨⟨bt5, bm5, bk5, n5, A5, cap5, S6, HRW5.out.leads hl6, fun _ => ⟨_, _, _, _, ?_, HR5.out.leads hl6⟩⟩, RX.off HBX5.out HS5.out HY5.out hc6⟩
     rw [HFP1.out, ← HCL1.out, ← HNX1.out]
     exact RX.off HX5.out HS5.out HY10.out hc6)
    rw [HOKB.out]
    clear y0 y1 y2 S6 hl6 hc6 hb85
    go_wp2_with fail
    go_roundw
    case rel => exact ⟨q + 1, by omega, by go_num, HREL.out⟩
    case measure => simp [intOf]; omega
   ·have hqk' : q = kk := by omega
    subst hqk'
    obtain ⟨bt, bm, bk, n2, A, cap, S, hrw, hpt⟩ := hag.ex
    obtain ⟨ub1, uk1, ut1, um1, hx, hr⟩ := hpt trivial
    obtain ⟨⟨Bp, np, cp, rfl⟩, ⟨Akp, nkp, ckp, rfl⟩, ⟨Aqp, ntp, ctp, rfl⟩, ⟨Amp, nmp, cmp, rfl⟩⟩ := hr.slices
    have hq60 : q ≤ wb.length := by have := HE2.out; omega
    have hg := good_rep HLW.out ⟨#[119]⟩ q hq60
    have hfp : (rep ⟨#[119]⟩ (wb.take q)).flow = ⟨#[119]⟩ := rep_flow _ _
    have HCS := Lib.hid (S.same _ _ _ _ hr hg (Nat.le_trans (tot_take_le wb q) (by have := HLW.out.tot; omega)) (by have := HLW.out.len; omega))
    rw [hfp] at HCS hx
    unfold rhC at HCS
    obtain ⟨x0, x1, x2, x3, x4, x5, x6, -⟩ := hx.cells
    have HAG := Lib.hid hag
    clear hag hpt S hrw hx hr hg hfp hqk
    generalize (rep ⟨#[119]⟩ (wb.take q)).s.closed = clp at *
    generalize (rep ⟨#[119]⟩ (wb.take q)).s.next = nxp at *
    go_wp2_with fail
    refine HCS.out.mono ?_
    rintro r w3 ⟨rfl, hb3⟩
    have HAG3 := Lib.hid (HAG.out.later hb3)
    clear x0 x1 x2 x3 x4 x5 x6 hb3 HAG HCS
    have hbx := HAG3.out.box
    rw [HFW.out, hcl, hnx] at hbx
    obtain ⟨x0, x1, x2, x3, x4, x5, x6, -⟩ := hbx.cells
    have HBX := Lib.hid hbx
    clear hbx
    have hcase : (q < nu ∧ q < cu ∧ ∃ b0 off, Bu = some ⟨b0, off, none⟩) ∨ (q = nu ∧ Bu = none) ∨ (q = nu ∧ q < cu ∧ ∃ a, Bu = some a) ∨ (q = nu ∧ q = cu ∧ ∃ a, Bu = some a) := by
     obtain ⟨bt, bm, bk, n2, A, cap, S, hrw, hpt⟩ := HAG3.out.ex
     obtain ⟨Bu', cu', hueq, hbts⟩ := hrw.bs.open
     injection hueq with e1 e2 e3
     by_cases h1 : q < nu
     ·obtain ⟨b0, off, e4, -⟩ := hbts.at_ (by omega)
      exact .inl ⟨h1, by omega, b0, off, by rw [e1]; exact e4⟩
     ·have h2 : q = nu := by omega
      cases Bu with
      | none => exact .inr (.inl ⟨h2, rfl⟩)
      | some a =>
       by_cases h3 : q = cu
       ·exact .inr (.inr (.inr ⟨h2, h3, a, rfl⟩))
       ·exact .inr (.inr (.inl ⟨h2, by omega, a, rfl⟩))
    go_upto_region 23 with fail
    rcases hcase with ⟨h1, h2, b0, off, rfl⟩ | ⟨h1, rfl⟩ | ⟨h1, h2, a, rfl⟩ | ⟨h1, h2, a, rfl⟩
    all_goals (go_wp2_with fail)
    all_goals
     clear x0 x1 x2 x3 x4 x5 x6
     go_loopw [73] (fun i wz => ∃ p : Nat, p ≤ nu - q ∧ i = .int .i64 p ∧ AG w0 YY g5 wz hb hm (rep ⟨#[119]⟩ (wb.take (q + p))) (.slice _ nu cu) (.slice Ak nk ck) (.slice Aq nt ct) (.slice Am nm cm) g10 False) (fun i _ => (nu - q) - (intOf i).toNat)
     case atStart => exact ⟨0, by omega, rfl, by rw [Nat.add_zero]; exact ⟨(HAG3.out.ex).imp fun _ h => h.imp fun _ h => h.imp fun _ h => h.imp fun _ h => h.imp fun _ h => h.imp fun _ h => ⟨h.1, h.2.1, fun e => e.elim⟩, HAG3.out.box⟩⟩
     case round =>
      obtain ⟨p, hp, rfl, hag⟩ := hrel
      by_cases hpk : p < nu - q
      ·first
       | (exfalso; omega)
       | (have hql : q + p < wb.length := by have := HE2.out; omega
          have hn60' : wb.length ≤ 60 := HLW.out.len
          obtain ⟨bt, bm, bk, n2, A, cap, S, hrw, -⟩ := hag.ex
          have hbx := hag.box
          obtain ⟨Bu', cu', hueq, hbts⟩ := hrw.bs.open
          injection hueq with e1 e2 e3
          subst e1; subst e3
          clear e2
          obtain ⟨b0', off', heq, hblt, h3⟩ := hbts.at_ (by rw [← HWB.out]; omega)
          cases heq
          obtain ⟨A2, c2, hfl, hat, hes, d0, d1, d2⟩ := h3 (q + p) (by rw [← HWB.out]; omega)
          replace d0 := (leads_veil _ _).cell d0; replace d1 := (leads_veil _ _).cell d1; replace d2 := (leads_veil _ _).cell d2
          have hg := good_rep HLW.out ⟨#[119]⟩ (q + p) (by omega)
          have hT := HLW.out.take (q + p) hql
          have hN : (q + p) ≤ 1000000 := by omega
          have hbin := HLW.out.bin (q + p) hql
          have HNEXT : Hid (rep ⟨#[119]⟩ (wb.take (q + p + 1)) = (addM (rep ⟨#[119]⟩ (wb.take (q + p))) (wb[q + p]'hql)).2) := Lib.hid (rep_take _ wb (q + p) hql)
          have hqm : (q + p) < hm.bs.length := by rw [← HWB.out]; exact hql
          have HOKB : Hid ((addM (rep ⟨#[119]⟩ (wb.take (q + p))) (wb[q + p]'hql)).1 = 0) := Lib.hid (by
           have e := HBW.out.fits (q + p) hqm
           have e2 : ∀ (l : List BT) (h1 : (q + p) < l.length), l = hm.bs → (addM (rep ⟨#[119]⟩ (l.take (q + p))) (l[q + p]'h1)).1 = 0 := by
            intro l h1 h2
            subst h2
            exact e
           exact e2 wb hql HWB.out)
          have hbq : (hm.bs[q + p]'hqm) = (wb[q + p]'hql) := by
           have e2 : ∀ (l : List BT) (h1 : (q + p) < l.length), l = hm.bs → (hm.bs[q + p]'hqm) = (l[q + p]'h1) := by
            intro l h1 h2
            subst h2
            rfl
           exact e2 wb hql HWB.out
          rw [hbq] at hfl hat hes d0 d1 d2
          obtain ⟨b, hbj⟩ : ∃ b, b = (wb[q + p]'hql) := ⟨_, rfl⟩
          rw [← hbj] at hfl hat hes d0 d1 d2 hT hbin HNEXT HOKB
          obtain ⟨hp, hhp⟩ : ∃ hp, hp = rep ⟨#[119]⟩ (wb.take (q + p)) := ⟨_, rfl⟩
          have hfp : hp.flow = ⟨#[119]⟩ := by rw [hhp]; exact rep_flow _ _
          rw [← hhp] at S hg HNEXT HOKB
          rw [show off + (q + p) * 3 = off + q * 3 + p * 3 by omega] at d0 d1 d2
          clear h3 hag hbj hhp hblt hbts hbq
          obtain ⟨W1, hW1⟩ : ∃ W1, W1 = wr.alloc (.cells #[.string b.flow, .int .u64 (b.at' : Nat), .slice A2 b.es.length c2] 36) := ⟨_, rfl⟩
          have hb01 : Below wr.heap.size wr W1 := by rw [hW1]; exact (Below.refl _ _).alloc (Nat.le_refl _) _
          obtain ⟨g8, hg8⟩ : ∃ g, g = wr.heap.size := ⟨_, rfl⟩
          have hz1 : W1.heap.size = wr.heap.size + 1 := by rw [hW1]; simp
          have hb8 : Cn.BB W1 g8 b.flow b.at' A2 b.es.length c2 := by rw [hW1, hg8]; exact heap_alloc_new wr _
          have hgx : g8 ≠ hb ∧ (∀ r, rowOf A = some r → r ≠ g8) := ⟨by have := S.hat.lt; omega, fun r hr' => by have := S.hat.row.row_lt r hr'; omega⟩
          have S1 := S.later hb01
          have hrw1 := hrw.leads (veil_below _ hb01)
          have hes1 := EvsIn.leads hes (veil_below _ hb01)
          have hbx1 := hbx.later hb01 hbx.lt
          have HC1 := Lib.hid (S1.fits hg b A2 c2 hes1 hbin (by omega) hfl hat)
          have HS1 := Lib.hid S1; have HES1 := Lib.hid hes1; have HG := Lib.hid hg; have HBIN := Lib.hid hbin; have HT := Lib.hid hT; have HFL := Lib.hid hfl; have HATB := Lib.hid hat; have HN := Lib.hid hN; have HRW1 := Lib.hid hrw1
          have HB8 := Lib.hid hb8; have HGX := Lib.hid hgx; have HBX1 := Lib.hid hbx1
          have HG8 : Hid (g8 < W1.heap.size) := Lib.hid (by rw [hg8, hz1]; omega)
          obtain ⟨y0, y1, y2, -⟩ := hb8.cells
          have HW1 := Lib.hid hW1; have HGG8 := Lib.hid hg8
          clear S hg hT hbin hfl hat hes hes1 hb8 hb01 hz1 hW1 hg8 S1 hgx hN hrw hrw1 hbx hbx1
          rw [HOKB.out] at HC1
          generalize hff : b.flow = ff at *
          generalize hatt : b.at' = at' at *
          generalize hen : b.es.length = en at *
          go_upto_region 26 with fail
          rw [← HW1.out, ← HGG8.out]
          go_wp2_with fail
          refine HC1.out.mono ?_
          rintro r w2 ⟨rfl, hb2⟩
          have S2 := HS1.out.later hb2
          have hes2 := EvsIn.leads HES1.out (veil_below _ hb2)
          have HC2 := Lib.hid (S2.add HG.out b A2 c2 hes2 HBIN.out (by have := HT.out; omega) HN.out (by rw [hff]; exact HFL.out) (by rw [hatt]; exact HATB.out))
          rw [hff, hatt, hen] at HC2
          have HS2 := Lib.hid S2; have HRW2 := Lib.hid (HRW1.out.leads (veil_below _ hb2)); have HBX2 := Lib.hid (HBX1.out.later hb2 HBX1.out.lt)
          clear y0 y1 y2
          obtain ⟨y0, y1, y2, -⟩ := (HB8.out.later hb2 HG8.out).cells
          clear hb2 S2 hes2 HC1 HRW1 HBX1 HES1 HS1
          go_wp2_with fail
          refine HC2.out.mono ?_
          rintro r w6 ⟨rfl, bt5, bm5, bk5, n5, A5, cap5, S6, hl6, hc6⟩
          have HREL : Hid (AG w0 YY g5 w6 hb hm (rep ⟨#[119]⟩ (wb.take (q + (p + 1)))) (.slice (some ⟨b0, off, none⟩) nu cu) (.slice Ak nk ck) (.slice Aq nt ct) (.slice Am nm cm) g10 False) := Lib.hid (by
           rw [← Nat.add_assoc, HNEXT.out]
           exact ⟨⟨bt5, bm5, bk5, n5, A5, cap5, S6, HRW2.out.leads hl6, fun e => e.elim⟩, RX.off HBX2.out HS2.out HY5.out hc6⟩)
          rw [HOKB.out]
          clear y0 y1 y2 S6 hl6 hc6
          go_wp2_with fail
          go_roundw
          case rel => exact ⟨p + 1, by omega, by go_num, HREL.out⟩
          case measure => simp [intOf]; omega)
      ·have hpe : p = nu - q := by omega
       have hrep : rep ⟨#[119]⟩ (wb.take (q + p)) = hm := by
        rw [List.take_of_length_le (by have := HE2.out; omega), HWB.out]
        exact HBW.out.same
       rw [hrep] at hag
       obtain ⟨bt, bm, bk, n2, A, cap, S, hrw, -⟩ := hag.ex
       have hbx := hag.box
       have HCS := Lib.hid fun W (hW : Below wr.heap.size wr W) => (S.later hW).same _ _ _ _ (hrw.leads (veil_below _ hW)) HGD.out (by have := HLI.out.tot; omega) (by have := HLI.out.len; have := HM.out; omega)
       have HBZ := Lib.hid S.bel
       rw [HFW.out, hcl, hnx] at hbx HCS
       unfold rhC at HCS
       have HBX := Lib.hid hbx
       clear hag S hrw hbx hrep
       go_wp2_with fail
       refine (HAL.out _).mono ?_
       rintro r w5 ⟨rfl, hb5⟩
       have HB5 := Lib.hid (HBZ.out.trans (hb5.mono HBZ.out.size))
       have HCS5 := Lib.hid (HCS.out _ hb5)
       obtain ⟨x0, x1, x2, x3, x4, x5, x6, -⟩ := (HBX.out.later hb5 HBX.out.lt).cells
       clear hb5 HCS HBX
       go_wp2_with fail
       refine HCS5.out.mono ?_
       rintro r w6 ⟨rfl, hb6⟩
       have HB6 := Lib.hid (HB5.out.trans (hb6.mono HB5.out.size))
       clear hb6 x0 x1 x2 x3 x4 x5 x6
       go_wp2_with fail
       go_ret
       exact ⟨rfl, HB6.out⟩
end Hi
end Go.Proofs.YtkajcldmolcllaaGreat
namespace Go.Proofs.YtkajcldmolcllaaGreat
namespace Hi
open Go.ChangeShapes Go.WideShapes Go.ChangeAt Go.Joins Go.Deep
set_option maxRecDepth 100000 in
theorem again_open {H : Type} {enc : TypeId × Value → H} {base b1 : Nat} {spare : Nat → Bool} {held : Bool} {d0 d1 : DataW H} {p0 p1 : List MemPlace} (v0 v1 : Value) (W : World)
  (o0 : Value.okWide Tryz.prog W .any base 22 v0) (k0 : DataW.Trod enc Tryz.prog W b1 spare held 22 v0 d0 p0) (hs0 : ∀ x ∈ d0.weights Tryz.prog 22, x ≤ reachBytes)
  (o1 : Value.okWide Tryz.prog W .any base 5 v1) (k1 : DataW.Trod enc Tryz.prog W b1 spare held 5 v1 d1 p1) (hs1 : ∀ x ∈ d1.weights Tryz.prog 5, x ≤ reachBytes) :
  Calls Tryz.prog 5 #[v0, v1] W fun r w' => r = .returned (.bool true) ∧ Below W.heap.size W w' := by
 obtain ⟨bl, A, cap, rfl, hB, hl⟩ := bts_open v0 W o0 k0 hs0
 obtain ⟨n, rfl, hn⟩ : ∃ n : Nat, v1 = .int .u8 (n : Nat) ∧ n < 256 := by
  obtain ⟨m, rfl⟩ : ∃ m, v1 = .int .u8 m := okWide_int Tryz.underlying5 o1
  obtain ⟨fuel, hf⟩ := k1
  have hcs : (Value.int .u8 m).cells.toList = [.int .u8 m] := rfl
  rw [hcs] at hf
  obtain ⟨m', e, -, w⟩ := DataW.trod_int Tryz.underlying5 hf
  obtain e := List.singleton_inj.1 e
  injection e with _ e
  subst e
  simp [Lit.wf, IntKind.min, IntKind.max, IntKind.bits, IntKind.signed] at w
  exact ⟨m.toNat, by congr 1; omega, by omega⟩
 exact again_walk bl A cap n hn W hB hl
end Hi
end Go.Proofs.YtkajcldmolcllaaGreat
