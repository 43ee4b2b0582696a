/- IndexOrders: the walk. -/
import Derived.Test.YtfmnacebgplpcaaGreatIoaz
import Derived.Test.YtfmnacebgplpcaaGreatIoay
import Derived.Test.YtfmnacebgplpcaaGreatIoai
import Derived.Test.YtfmnacebgplpcaaGreatIoah
import Derived.Test.YtfmnacebgplpcaaGreatRows
set_option linter.unusedVariables false
set_option linter.unusedSimpArgs false
open Go.RowKit
namespace Go.Proofs.YtfmnacebgplpcaaGreat
namespace Hi
open _root_.Go.Proofs.YtfmnacebgplpcaaGreat.Nm (ret_int ret_bool)
open Vt (VT Rep below_drew)
open Ev (EV FieldsOk evCells vCells take_drop tk ap rd1 rd2 cons_drop)
open Cm (rowOf EvsIn)
open Cn (BT BB BtsIn bvalid few12_any efew FewB)
variable {w w' w0 : World} {xb : Nat} {x : XM}

theorem lin_perm {l l' : List BT} (h : LIn l) (hp : l'.Perm l) : LIn l' := by
 obtain ⟨h1, h2, h3⟩ := perm_facts hp
 refine ⟨by rw [h1]; exact h.len, by rw [h2]; exact h.tot, fun i hi => ?_⟩
 obtain ⟨k, hk, e⟩ := List.getElem_of_mem (h3 _ (List.getElem_mem hi))
 rw [← e]; exact h.bin k hk
theorem lin_all {bl : List BT} (h : LIn bl) : LIn (repX bl).all := by
 have g := xgood_rep h bl.length (Nat.le_refl _)
 rw [List.take_length] at g
 exact ⟨Nat.le_trans g.alen h.len, Nat.le_trans g.total h.tot, fun i hi => g.bin _ (List.getElem_mem hi)⟩
theorem forms_mem {bl l : List BT} (h : Forms bl) (hm : ∀ b ∈ l, b ∈ bl) : Forms l := fun i hi hv => by
 obtain ⟨k, hk, e⟩ := List.getElem_of_mem (hm _ (List.getElem_mem hi))
 have q := h k hk
 rw [e] at q
 exact q hv
theorem btc_swap {xs : List Value} {a r : List BT} {b c : BT} (h : BtC w xs (a ++ b :: c :: r)) {A A' : Option Addr} {k k' : Nat}
  (hb : b.flow.size ≤ maxLen ∧ b.at' < 18446744073709551616 ∧ EvsIn w A k b.es) (hc : c.flow.size ≤ maxLen ∧ c.at' < 18446744073709551616 ∧ EvsIn w A' k' c.es) (n : Nat) (hn : n = a.length * 3) :
  BtC w ((((((xs.set n (.string c.flow)).set (n + 1) (.int .u64 (c.at' : Nat))).set (n + 2) (.slice A' c.es.length k')).set (n + 3) (.string b.flow)).set (n + 4) (.int .u64 (b.at' : Nat))).set (n + 5) (.slice A b.es.length k)) (a ++ c :: b :: r) := by
 have h1 := h.1
 have hlen : (a ++ c :: b :: r).length = (a ++ b :: c :: r).length := by simp
 refine ⟨by simp only [List.length_set]; rw [hlen]; exact h1, fun i hi => ?_⟩
 have hx : n + 5 < xs.length := by rw [h1, hn]; simp; omega
 have hcase : i = a.length ∨ i = a.length + 1 ∨ (i ≠ a.length ∧ i ≠ a.length + 1) := by omega
 rcases hcase with e | e | ⟨e1, e2⟩
 ·have ei : (a ++ c :: b :: r)[i] = c := by subst e; simp
  rw [ei]
  refine ⟨A', k', hc.1, hc.2.1, hc.2.2, ?_, ?_, ?_⟩
  all_goals
   rw [e, ← hn]
   simp only [List.getElem?_set, List.length_set]
   simp; omega
 ·have ei : (a ++ c :: b :: r)[i] = b := by
   subst e
   rw [List.getElem_append_right (by omega)]
   simp
  rw [ei]
  refine ⟨A, k, hb.1, hb.2.1, hb.2.2, ?_, ?_, ?_⟩
  all_goals
   rw [e, show (a.length + 1) * 3 = n + 3 by omega]
   simp only [List.getElem?_set, List.length_set]
   simp; omega
 ·have hi' : i < (a ++ b :: c :: r).length := by rw [← hlen]; exact hi
  have ei : (a ++ c :: b :: r)[i] = (a ++ b :: c :: r)[i] := by
   rcases Nat.lt_or_ge i a.length with q | q
   ·rw [List.getElem_append_left q, List.getElem_append_left q]
   ·rw [List.getElem_append_right q, List.getElem_append_right q]
    obtain ⟨p, hp⟩ : ∃ p, i - a.length = p + 2 := ⟨i - a.length - 2, by omega⟩
    simp only [hp, List.getElem_cons_succ]
  rw [ei]
  obtain ⟨A2, k2, q1, q2, q3, q4, q5, q6⟩ := h.2 i hi'
  refine ⟨A2, k2, q1, q2, q3, ?_, ?_, ?_⟩
  ·rw [← q4]; repeat rw [List.getElem?_set_ne (by omega)]
  ·rw [← q5]; repeat rw [List.getElem?_set_ne (by omega)]
  ·rw [← q6]; repeat rw [List.getElem?_set_ne (by omega)]
theorem cut_at {l : List BT} {i : Nat} (h : i + 1 < l.length) : l = l.take i ++ l[i] :: l[i + 1] :: l.drop (i + 2) := by
 have e1 : l.drop i = l[i] :: l.drop (i + 1) := List.drop_eq_getElem_cons (by omega)
 have e2 : l.drop (i + 1) = l[i + 1] :: l.drop (i + 2) := List.drop_eq_getElem_cons h
 rw [← e2, ← e1, List.take_append_drop]
structure OW (w9 : World) (u8 : Value) (x : XM) (l : List BT) (W : World) : Prop where
 turned : Turned x l
 perm : l.Perm x.all
 bel : Below w9.heap.size w9 W
 row : ∃ xs, W.ownsRow w9.heap.size 33 3 u8 l.length xs ∧ (∀ y ∈ xs, y.oneCell' = true) ∧ BtC w9 xs l
theorem OW.later {w9 : World} {u8 : Value} {l : List BT} (h : OW w9 u8 x l w) (hb : Below w.heap.size w w') : OW w9 u8 x l w' := by
 obtain ⟨h1, h2, h3, xs, h4, h5, h6⟩ := h
 exact ⟨h1, h2, h3.trans (hb.mono h3.size), xs, own_stay h4 hb, h5, h6⟩
theorem ow_swap {w8 u0 : World} {r8 nA c8 k : Nat} {l : List BT} {xs : List Value} {b c : BT} {A A' : Option Addr} {q q' : Nat} (ht : Turned x l) (hp : l.Perm x.all) (hll : l.length = nA) (hbel : Below w8.heap.size w8 u0)
  (hown : u0.ownsRow w8.heap.size 33 3 (.slice (some ⟨r8, 0, none⟩) nA c8) nA xs) (h1 : ∀ y ∈ xs, y.oneCell' = true) (hbc : BtC w8 xs l) (hcut : l = l.take k ++ b :: c :: l.drop (k + 2))
  (hb : b.flow.size ≤ maxLen ∧ b.at' < 18446744073709551616 ∧ EvsIn w8 A q b.es) (hc : c.flow.size ≤ maxLen ∧ c.at' < 18446744073709551616 ∧ EvsIn w8 A' q' c.es) (hf : b.flow ≠ c.flow) (ha : b.at' = c.at') :
  OW w8 (.slice (some ⟨r8, 0, none⟩) nA c8) x (l.take k ++ c :: b :: l.drop (k + 2)) ((((((u0.setCell ⟨r8, k * 3, none⟩ (.string c.flow)).setCell ⟨r8, k * 3 + 1, none⟩ (.int .u64 (c.at' : Nat))).setCell ⟨r8, k * 3 + 2, none⟩ (.slice A' c.es.length q')).setCell ⟨r8, (k + 1) * 3, none⟩ (.string b.flow)).setCell ⟨r8, (k + 1) * 3 + 1, none⟩ (.int .u64 (b.at' : Nat))).setCell ⟨r8, (k + 1) * 3 + 2, none⟩ (.slice A b.es.length q)) := by
 have e3 : (k + 1) * 3 = k * 3 + 3 := by omega
 rw [e3]
 have hge := (own_free (j := 0) hown).2
 have hlen' : (l.take k ++ c :: b :: l.drop (k + 2)).length = l.length := by
  conv => rhs; rw [hcut]
  simp
 have hk : k + 1 < l.length := by
  have := congrArg List.length hcut
  rcases Nat.lt_or_ge (k + 1) l.length with h | h
  ·exact h
  ·rw [List.length_append, List.length_cons, List.length_cons, List.length_take, List.length_drop] at this
   omega
 have hk0 : (l.take k).length = k := by rw [List.length_take]; omega
 have hbc' := hbc
 rw [hcut] at hbc'
 refine ⟨?_, ?_, ?_, _, ?_, ?_, btc_swap hbc' hb hc (k * 3) (by rw [hk0])⟩
 ·rw [hcut] at ht
  exact ht.swap hf ha
 ·refine (swap_perm _ _ _ _).trans ?_
  rw [← hcut]
  exact hp
 ·exact (((((hbel.setCell (p := ⟨r8, k * 3, none⟩) hge _).setCell (p := ⟨r8, k * 3 + 1, none⟩) hge _).setCell (p := ⟨r8, k * 3 + 2, none⟩) hge _).setCell (p := ⟨r8, k * 3 + 3, none⟩) hge _).setCell (p := ⟨r8, k * 3 + 3 + 1, none⟩) hge _).setCell (p := ⟨r8, k * 3 + 3 + 2, none⟩) hge _
 ·rw [hlen', hll]
  exact own_set (own_set (own_set (own_set (own_set (own_set hown _) _) _) _) _) _
 ·exact all_set (all_set (all_set (all_set (all_set (all_set h1 rfl) rfl) rfl) rfl) rfl) rfl
theorem M51 {p : Prop} (h : p := by
 go_simp
 refine hK.out _ _ hHeld (fun hHeld3 => ?_)
 clear hK K
 try simp only [ap]
 refine tk 14 rfl ?_
 try simp only [ap]
 refine rd1 15 rfl fun K hK => ?_
 go_simp
 refine hK.out _ _ (by simpa [World.setCell] using hHeld) (fun hHeld4 => ?_)
 clear hK K
 try simp only [ap]
 refine tk 16 rfl ?_
 try simp only [ap]
 refine rd1 17 rfl fun K hK => ?_
 go_simp
 rw [← HW5.out]
 refine hK.out _ _ (by rw [HW5.out]; simpa [World.setCell] using hHeld) (fun hHeld5 => ?_)
 clear hK K
 try simp only [ap]
 refine wpAnyH_done (by kernel_rfl) ?_ _
 refine NoPanic.normal ?_
 clear hHeld5
 obtain ⟨l', how'⟩ := HOUT.out
 have HOW' := Lib.hid how'
 clear how'
 go_wp2_with fail
 go_roundw
 case rel => exact ⟨k + 2, l', by omega, by go_num, HOW'.out⟩
 case measure => simp [intOf]; omega) : p := h
theorem M59 {p : Prop} (h : p := by
 go_upto_region 13 with fail
 go_quiet (fail)
 generalize hw2 : wr.drewN nq = w2 at *
 have hbq : Below wr.heap.size wr w2 := by rw [← hw2]; exact below_drewN (Below.refl _ _) nq
 have HOW2 := Lib.hid (HOW.out.later hbq)
 clear hbq hw2 d0 d1 d2 e0 e1 e2
 go_wp2_with fail
 go_roundw
 case rel => exact ⟨k + 2, l, by omega, by go_num, HOW2.out⟩
 case measure => simp [intOf]; omega) : p := h
set_option maxRecDepth 100000 in
set_option maxHeartbeats 4000000 in
theorem iorders_walk (bl : List BT) (B : Option Addr) (bc : Nat) (n8 : Nat) (hn8 : n8 < 256) (w0 : World) (hB : BtsIn w0 B bc bl) (hlen : ∀ b ∈ bl, b.es.length ≤ 2097152) :
  Calls Tryz.prog 4 #[.slice B bl.length bc, .int .u8 (n8 : Nat)] w0 fun r w' => r = .returned (.bool true) ∧ Below w0.heap.size w0 w' := by
 have hle := hB.le; have hbc := hB.cap_le
 simp only [maxLen] at hbc
 have HBT := Lib.hid hB; have HLEN := Lib.hid hlen
 have HFC := Lib.hid (few12_any bl B bc w0 hB)
 obtain ⟨m, hm⟩ : ∃ m, m = bl.length := ⟨_, rfl⟩
 rw [← hm] at hle HFC ⊢
 have HMM := Lib.hid hm
 clear hB hlen hm
 have HAL := Lib.hid fun W => xalive_any W
 go_enter Tryz.func4, Tryz.ntmps4
 go_wp2_with fail
 refine HFC.out.mono ?_
 rintro r w2 ⟨bb, rfl, hfew, hb2⟩
 have HB2 := Lib.hid hb2; have HFEW := Lib.hid hfew
 clear hb2 hfew HFC
 cases bb with
 | false =>
  go_wp2_with fail
  refine (HAL.out _).mono ?_
  rintro r w3 ⟨rfl, hb3⟩
  have HB3 := Lib.hid (HB2.out.trans (hb3.mono HB2.out.size))
  clear hb3
  go_wp2_with fail
  go_ret
  exact ⟨rfl, HB3.out⟩
 | true =>
 have HLI := Lib.hid (lin_of (HFEW.out rfl) fun b hb => by have := HLEN.out b hb; omega)
 have HFO := Lib.hid (forms_few (HFEW.out rfl) HLEN.out)
 obtain ⟨W3, hW3⟩ : ∃ W3, W3 = w2.alloc (.cells #[.slice none 0 0, .slice none 0 0] 29) := ⟨_, rfl⟩
 obtain ⟨g5, hg5⟩ : ∃ g, g = w2.heap.size := ⟨_, rfl⟩
 have HB3 : Hid (Below w0.heap.size w0 W3) := Lib.hid (by rw [hW3]; exact HB2.out.alloc HB2.out.size _)
 have HX3 : Hid (IBox W3 g5 (.slice none 0 0) (.slice none 0 0)) := Lib.hid (by rw [hW3, hg5]; exact IBox.new ..)
 have HG5 : Hid (w0.heap.size ≤ g5) := Lib.hid (by rw [hg5]; exact HB2.out.size)
 have HG5' := Lib.hid hg5
 clear hg5
 replace hW3 := Lib.hid hW3
 go_wp2_with fail
 rw [← hW3.out, ← HG5'.out]
 clear HG5' hW3 HB2 HFEW
 go_loopw [23] (fun i wz => ∃ j : Nat, j ≤ m ∧ i = .int .i64 j ∧ Below w0.heap.size w0 wz ∧ ∃ uA uF, IBox wz g5 uA uF ∧ RIx (veil (fun c => c = g5) wz) (repX (bl.take j)) uA uF) (fun i _ => m - (intOf i).toNat)
 case atStart => exact ⟨0, by omega, rfl, HB3.out, _, _, HX3.out, by rw [List.take_zero]; exact rix_new _⟩
 case round =>
  obtain ⟨j, hj, rfl, hbw, uA, uF, hbox, hri⟩ := hrel
  clear HB3 HX3
  obtain ⟨⟨AA, cA, rfl, -, -⟩, AF, cF, rfl, -, -⟩ := hri.slices
  by_cases hjm : j < m
  ·have hjl : j < bl.length := by have := HMM.out; omega
   have hZ : ∀ c, c = g5 → w0.heap.size ≤ c := fun c q => by rw [q]; exact HG5.out
   have hbts := lx_bts HBT.out hbw hZ
   obtain ⟨b0, off, rfl, hblt, h3⟩ := hbts.at_ (by omega)
   obtain ⟨A2, c2, hfl, hat, hes, d0, d1, d2⟩ := h3 j hjl
   replace d0 := (leads_veil _ _).cell d0; replace d1 := (leads_veil _ _).cell d1; replace d2 := (leads_veil _ _).cell d2
   have hnext := repX_take bl j hjl
   have hgood := xgood_rep HLI.out j (by omega)
   obtain ⟨W1, hW1⟩ : ∃ W1, W1 = wr.alloc (.cells #[.string bl[j].flow, .int .u64 (bl[j].at' : Nat), .slice A2 bl[j].es.length c2] 33) := ⟨_, rfl⟩
   have hb01 : Below wr.heap.size wr W1 := by rw [hW1]; exact (Below.refl _ _).alloc (Nat.le_refl _) _
   obtain ⟨g7, hg7⟩ : ∃ g, g = wr.heap.size := ⟨_, rfl⟩
   have hb7 : BB W1 g7 bl[j].flow bl[j].at' A2 bl[j].es.length c2 := by rw [hW1, hg7]; exact heap_alloc_new wr _
   have hbox1 := hbox.later hb01 hbox.lt
   have HC1 := Lib.hid (rxadd_any (X := fun c => c = g5) _ _ _ bl[j] A2 c2 W1 (fun c q => by rw [q]; exact hbox1.lt) (hri.leads (veil_below _ hb01)) hgood (by have := HLI.out.take j hjl; omega) (by have := HLI.out.len; omega) (HLI.out.bin j hjl) (EvsIn.leads hes (veil_below _ hb01)) hfl hat)
   have HNX := Lib.hid hnext
   have HBW1 := Lib.hid (hbw.trans (hb01.mono hbw.size))
   have HBOX1 := Lib.hid hbox1
   have HW1 := Lib.hid hW1; have HG7 := Lib.hid hg7
   obtain ⟨x0, x1, -⟩ := hbox1.cells
   obtain ⟨y0, y1, y2, -⟩ := hb7.cells
   clear hbts h3 hes hfl hat hnext hgood hri hbox hbox1 hb7 hb01 hW1 hg7 hbw hblt hZ
   obtain ⟨x, hx⟩ : ∃ x, x = repX (bl.take j) := ⟨_, rfl⟩
   rw [← hx] at x0 x1 HC1 HNX HBOX1
   clear hx
   generalize bl[j] = b at *
   generalize b.flow = ff at *
   generalize b.at' = at' at *
   generalize hen : b.es.length = en at *
   generalize x.all.length = nA at *
   generalize x.flows.length = nF at *
   clear hen
   go_upto_region 7 with fail
   rw [← HW1.out, ← HG7.out]
   go_wp2_with fail
   refine HC1.out.mono ?_
   rintro r w2 ⟨hb2, uA1, uF1, rfl, hr2⟩
   obtain ⟨⟨AA1, cA1, rfl, -, -⟩, AF1, cF1, rfl, -, -⟩ := hr2.slices
   have hbox2 := HBOX1.out.later hb2 HBOX1.out.lt
   obtain ⟨W4, hW4⟩ : ∃ W4, W4 = (w2.setCell ⟨g5, 0, none⟩ (.slice AA1 (addX x b).2.all.length cA1)).setCell ⟨g5, 1, none⟩ (.slice AF1 (addX x b).2.flows.length cF1) := ⟨_, rfl⟩
   have HREL : Hid (Below w0.heap.size w0 W4 ∧ IBox W4 g5 (.slice AA1 (addX x b).2.all.length cA1) (.slice AF1 (addX x b).2.flows.length cF1) ∧ RIx (veil (fun c => c = g5) W4) (repX (bl.take (j + 1))) (.slice AA1 (addX x b).2.all.length cA1) (.slice AF1 (addX x b).2.flows.length cF1)) := Lib.hid (by
    have hc4 : Chg (fun c => c = g5) w2 W4 := by rw [hW4]; exact set2_chg _ _
    have hb := HBW1.out.trans (hb2.mono HBW1.out.size)
    refine ⟨hb.trans (hc4.below hb.size fun c q => by rw [q]; exact HG5.out), by rw [hW4]; exact hbox2.set2, ?_⟩
    rw [HNX.out]
    exact hr2.leads hc4.leads)
   obtain ⟨q0, q1, qf⟩ := hbox2.cells
   have qf0 := qf 0; have qf1 := qf 1
   have HW4 := Lib.hid hW4
   clear hb2 hr2 hbox2 hW4 qf HC1 x0 x1 y0 y1 y2
   generalize (addX x b).2.all.length = nA1 at *
   generalize (addX x b).2.flows.length = nF1 at *
   generalize (addX x b).1 = cd at *
   go_wp2_with fail
   rw [← HW4.out]
   go_roundw
   case rel => exact ⟨j + 1, by omega, by go_num, HREL.out.1, _, _, HREL.out.2.1, HREL.out.2.2⟩
   case measure => simp [intOf]; omega
  have hj' : j = m := by omega
  subst hj'
  rw [show bl.take j = bl by rw [HMM.out]; exact List.take_length] at hri hbox
  obtain ⟨x, hx⟩ : ∃ x, x = repX bl := ⟨_, rfl⟩
  rw [← hx] at hri hbox
  have hri' := hri.leads (leads_veil _ _)
  obtain ⟨xsA, hcA, hbA⟩ := hri'.all
  have hlin : LIn x.all := by rw [hx]; exact lin_all HLI.out
  have hgx := xgood_rep HLI.out bl.length (Nat.le_refl _)
  rw [List.take_length, ← hx] at hgx
  have HCL := Lib.hid (btclone_any x.all _ xsA wr hcA (by have := hlin.len; omega))
  have HBW := Lib.hid hbw; have HBOX := Lib.hid hbox; have HRI := Lib.hid hri'; have HBA := Lib.hid hbA; have HONE := Lib.hid hcA.2.1; have HLX := Lib.hid hlin; have HXE := Lib.hid hx; have HGX := Lib.hid hgx
  obtain ⟨x0, x1, -⟩ := hbox.cells
  clear hbw hbox hri hri' hcA hbA hlin hx hgx
  obtain ⟨nA, hnA⟩ : ∃ n, n = x.all.length := ⟨_, rfl⟩
  obtain ⟨nF, hnF⟩ : ∃ n, n = x.flows.length := ⟨_, rfl⟩
  rw [← hnA, ← hnF] at HBOX HRI
  rw [← hnA] at x0 HCL
  rw [← hnF] at x1
  have HNA := Lib.hid hnA; have HNF := Lib.hid hnF
  clear hnA hnF
  go_wp2_with fail
  refine HCL.out.mono ?_
  rintro r w9 ⟨A8, c8, rfl, hown, hb9⟩
  have HB9 := Lib.hid (HBW.out.trans (hb9.mono HBW.out.size))
  have HOW0 : Hid (OW wr (.slice A8 nA c8) x x.all w9) := Lib.hid ⟨by rw [HXE.out]; exact turned_self bl, List.Perm.refl _, hb9, xsA, by rw [← HNA.out]; exact hown, HONE.out, HBA.out⟩
  clear hown hb9 HCL x0 x1
  obtain ⟨w8, hw8⟩ : ∃ w8, w8 = wr := ⟨_, rfl⟩
  subst hw8
  obtain ⟨i0, hi0, hi3⟩ : ∃ i0 : Nat, ((n8 : Int) % 3) = (i0 : Nat) ∧ i0 < 3 := ⟨n8 % 3, by omega, by omega⟩
  have hnA0 : nA ≤ 1000000 := by have := HLX.out.len; have := HNA.out; omega
  go_upto_region 11 with fail
  rw [hi0]
  clear hi0
  go_loopw [9] (fun i wz => ∃ (k : Nat) (l : List BT), k ≤ nA + 3 ∧ i = .int .i64 k ∧ OW w8 (.slice A8 nA c8) x l wz) (fun i _ => nA + 5 - (intOf i).toNat)
  case atStart => exact ⟨i0, x.all, by omega, rfl, HOW0.out⟩
  case round =>
   obtain ⟨k, l, hk, rfl, how⟩ := hrel
   have f5 : ((k : Int) + 1).toNat = k + 1 := by omega
   have ka := IntWalk.i64_in ((k : Int) + 1) (by omega)
   have kb := IntWalk.i64_in ((k : Int) + 2) (by omega)
   have hll : l.length = nA := by rw [how.perm.length_eq, HNA.out]
   have HOW := Lib.hid how
   clear how
   by_cases hlt : k + 1 < nA
   ·have hk1 : k + 1 < l.length := by omega
    obtain ⟨xs, hown, h1c, hbc⟩ := HOW.out.row
    rw [hll] at hown
    obtain ⟨r8, rfl⟩ : ∃ r, A8 = some ⟨r, 0, none⟩ := by
     rcases hown.2 with ⟨e, h0⟩ | ⟨r, cp, cur, e, -⟩
     ·omega
     ·injection e with e; exact ⟨r, e⟩
    obtain ⟨Ab, cb, b1, b2, b3, b4, b5, b6⟩ := hbc.2 k (by omega)
    obtain ⟨Ac, cc, c1, c2, c3, c4, c5, c6⟩ := hbc.2 (k + 1) hk1
    have d0 := own_cell hown b4; have d1 := own_cell hown b5; have d2 := own_cell hown b6
    have e0 := own_cell hown c4; have e1 := own_cell hown c5; have e2 := own_cell hown c6
    have hfree : ∀ q, wr.frozen? ⟨r8, q, none⟩ = false := fun q => (own_free hown).1
    have hcut := cut_at hk1
    have HBB := Lib.hid (And.intro b1 (And.intro b2 b3)); have HCC := Lib.hid (And.intro c1 (And.intro c2 c3)); have HCUT := Lib.hid hcut; have HROW := Lib.hid (And.intro hown (And.intro h1c hbc)); have HFREE := Lib.hid hfree
    have h1n : (k : Int) + 1 < (nA : Int) := by omega
    have h0n : (k : Int) < (nA : Int) := by omega
    have f3 : (0 : Int) ≤ (k : Int) + 1 := by omega
    clear hown h1c hbc b1 b2 b3 b4 b5 b6 c1 c2 c3 c4 c5 c6 hfree hcut
    generalize l[k] = b at *
    generalize l[k + 1] = c at *
    generalize hbf : b.flow = bf at *
    generalize hcf : c.flow = cf at *
    generalize hba : b.at' = ba at *
    generalize hca : c.at' = ca at *
    generalize hbe : b.es.length = be at *
    generalize hce : c.es.length = ce at *
    have HE := Lib.hid (And.intro hbf (And.intro hcf (And.intro hba (And.intro hca (And.intro hbe hce)))))
    clear hbf hcf hba hca hbe hce hk1
    by_cases hff : bf = cf
    ·have k1 : (bf.toList == cf.toList) = true := by rw [hff]; exact beq_self_eq_true _
     have k2 : (bf.toList != cf.toList) = false := by rw [bne, k1]; rfl
     clear hff
     exact M59
    have k1 : (bf.toList == cf.toList) = false := bytes_beq_ne hff
    have k2 : (bf.toList != cf.toList) = true := by rw [bne, k1]; rfl
    by_cases haa : ba = ca
    rotate_left
    ·have k3 : ((ba : Int) == (ca : Int)) = false := by rw [beq_eq_false_iff_ne]; omega
     clear haa
     exact M59
    have k3 : ((ba : Int) == (ca : Int)) = true := by rw [haa]; exact beq_self_eq_true _
    have HFN := Lib.hid hff; have HAA := Lib.hid haa
    clear hff haa
    go_upto_region 13 with fail
    go_quiet (fail)
    generalize hw2 : wr.drewN nq = w2 at *
    have hbq : Below wr.heap.size wr w2 := by rw [← hw2]; exact below_drewN (Below.refl _ _) nq
    have HOW2 := Lib.hid (HOW.out.later hbq)
    have hown2 := own_stay HROW.out.1 hbq
    have hr8 : r8 < wr.heap.size := (HROW.out.1.lt r8 rfl).2
    replace d0 := (hbq.cell (p := ⟨r8, k * 3, none⟩) hr8).trans d0
    replace d1 := (hbq.cell (p := ⟨r8, k * 3 + 1, none⟩) hr8).trans d1
    replace d2 := (hbq.cell (p := ⟨r8, k * 3 + 2, none⟩) hr8).trans d2
    replace e0 := (hbq.cell (p := ⟨r8, (k + 1) * 3, none⟩) hr8).trans e0
    replace e1 := (hbq.cell (p := ⟨r8, (k + 1) * 3 + 1, none⟩) hr8).trans e1
    replace e2 := (hbq.cell (p := ⟨r8, (k + 1) * 3 + 2, none⟩) hr8).trans e2
    have hfree : ∀ q, w2.frozen? ⟨r8, q, none⟩ = false := fun q => (own_free hown2).1
    have fr0 := hfree (k * 3); have fr1 := hfree (k * 3 + 1); have fr2 := hfree (k * 3 + 2)
    have gr0 := hfree ((k + 1) * 3); have gr1 := hfree ((k + 1) * 3 + 1); have gr2 := hfree ((k + 1) * 3 + 2)
    have HOWN2 := Lib.hid hown2
    clear hbq hw2 hown2 hfree hr8
    go_upto_region 14 with fail
    obtain ⟨u0, hu0⟩ : ∃ u, u = w2.drew := ⟨_, rfl⟩
    have hbu : Below w2.heap.size w2 u0 := by rw [hu0]; exact below_drew (Below.refl _ _)
    have hr82 : r8 < w2.heap.size := (HOWN2.out.lt r8 rfl).2
    replace d0 := (hbu.cell (p := ⟨r8, k * 3, none⟩) hr82).trans d0
    replace d1 := (hbu.cell (p := ⟨r8, k * 3 + 1, none⟩) hr82).trans d1
    replace d2 := (hbu.cell (p := ⟨r8, k * 3 + 2, none⟩) hr82).trans d2
    replace e0 := (hbu.cell (p := ⟨r8, (k + 1) * 3, none⟩) hr82).trans e0
    replace e1 := (hbu.cell (p := ⟨r8, (k + 1) * 3 + 1, none⟩) hr82).trans e1
    replace e2 := (hbu.cell (p := ⟨r8, (k + 1) * 3 + 2, none⟩) hr82).trans e2
    have hown3 := own_stay HOWN2.out hbu
    have hfree : ∀ q, u0.frozen? ⟨r8, q, none⟩ = false := fun q => (own_free hown3).1
    have fr0 := hfree (k * 3); have fr1 := hfree (k * 3 + 1); have fr2 := hfree (k * 3 + 2)
    have gr0 := hfree ((k + 1) * 3); have gr1 := hfree ((k + 1) * 3 + 1); have gr2 := hfree ((k + 1) * 3 + 2)
    obtain ⟨W5, hW5⟩ : ∃ W5, W5 = ((((((u0.setCell ⟨r8, k * 3, none⟩ (.string cf)).setCell ⟨r8, k * 3 + 1, none⟩ (.int .u64 (ca : Nat))).setCell ⟨r8, k * 3 + 2, none⟩ (.slice Ac ce cc)).setCell ⟨r8, (k + 1) * 3, none⟩ (.string bf)).setCell ⟨r8, (k + 1) * 3 + 1, none⟩ (.int .u64 (ba : Nat))).setCell ⟨r8, (k + 1) * 3 + 2, none⟩ (.slice Ab be cb)) := ⟨_, rfl⟩
    have HOUT : Hid (∃ l', OW w8 (.slice (some ⟨r8, 0, none⟩) nA c8) x l' W5) := Lib.hid (by
     obtain ⟨E1, E2, E3, E4, E5, E6⟩ := HE.out
     have q := ow_swap HOW2.out.turned HOW2.out.perm hll (HOW2.out.bel.trans (hbu.mono HOW2.out.bel.size)) hown3 HROW.out.2.1 HROW.out.2.2 HCUT.out (A := Ab) (q := cb) (A' := Ac) (q' := cc) (by rw [E1, E3]; exact HBB.out) (by rw [E2, E4]; exact HCC.out) (by rw [E1, E2]; exact HFN.out) (by rw [E3, E4]; exact HAA.out)
     rw [E1, E2, E3, E4, E5, E6, ← hW5] at q
     exact ⟨_, q⟩)
    have HW5 := Lib.hid hW5
    clear hfree hown3 hbu hr82 hW5
    refine wp_region_noPanic ?_
    refine wp_region_held_drew (S := fun W : World => w2.heap.size ≤ W.heap.size) (by kernel_rfl) (Nat.le_refl _) (fun hHeld => ?_)
    rw [← hu0] at hHeld
    rw [← hu0]
    replace hu0 := Lib.hid hu0
    refine tk 0 rfl ?_
    try simp only [ap]
    refine tk 1 rfl ?_
    try simp only [ap]
    refine tk 2 rfl ?_
    try simp only [ap]
    refine tk 3 rfl ?_
    try simp only [ap]
    refine tk 4 rfl ?_
    try simp only [ap]
    refine tk 5 rfl ?_
    try simp only [ap]
    refine tk 6 rfl ?_
    try simp only [ap]
    refine tk 7 rfl ?_
    try simp only [ap]
    refine tk 8 rfl ?_
    try simp only [ap]
    refine tk 10 rfl ?_
    try simp only [ap]
    refine tk 11 rfl ?_
    try simp only [ap]
    refine tk 12 rfl ?_
    try simp only [ap]
    refine rd2 9 13 rfl rfl (fun K hK => ?_) fun K hK => ?_
    ·go_simp
     refine hK.out _ _ hHeld (fun hHeld2 => ?_)
     clear hK K
     try simp only [ap]
     refine rd1 13 rfl fun K hK => ?_
     exact M51
    ·go_simp
     refine hK.out _ _ hHeld (fun hHeld2 => ?_)
     clear hK K
     try simp only [ap]
     refine rd1 9 rfl fun K hK => ?_
     exact M51
   ·have hge : ¬ ((k : Int) + 1 < (nA : Int)) := by omega
    obtain ⟨wq, hwq⟩ : ∃ wq, wq = wr := ⟨_, rfl⟩
    subst hwq
    clear hlt
    go_wp2_with fail
    refine (xnew_any wq (fun _ => False) (fun _ h => h.elim)).mono ?_
    rintro r w10 ⟨xb, Z0, rfl, hb10, H10, hZ10⟩
    have HT : Hid (Turned (repX bl) l) := Lib.hid (by rw [← HXE.out]; exact HOW.out.turned)
    have HLL : Hid (LIn l) := Lib.hid (lin_perm HLX.out HOW.out.perm)
    have HFL : Hid (Forms l) := Lib.hid (forms_mem HFO.out fun b hb => mem_all bl b (by rw [← HXE.out]; exact HOW.out.perm.mem_iff.1 hb))
    have HBQ := Lib.hid HOW.out.bel
    obtain ⟨xs, hown, h1c, hbc⟩ := HOW.out.row
    rw [hll] at hown
    have HCI := Lib.hid (CIn.of_own hown h1c); have HBC := Lib.hid hbc
    have HATL : Hid (∀ i (h : i < l.length), l[i].at' < 18446744073709551616) := Lib.hid fun i h => by
     obtain ⟨A2, c2, -, q2, -⟩ := HBC.out.2 i h
     exact q2
    have HNL := Lib.hid hll
    have H10' := Lib.hid H10; have HZ10 : Hid (∀ c, Z0 c → wq.heap.size ≤ c) := Lib.hid fun c q => (hZ10 c q).elim (fun e => e.elim) id
    have HB10 := Lib.hid hb10
    clear hown h1c hbc H10 hZ10 hb10 HOW hge f5 ka kb hll
    go_wp2_with fail
    go_loopw [4, 92] (fun t4 i wz => ∃ (j : Nat) (Z : Nat → Prop), j ≤ nA ∧ i = .int .i64 j ∧ t4 = .bool false ∧ XAt (fun _ => False) wz xb Z (repX (l.take j)) ∧ (∀ c, Z c → wq.heap.size ≤ c) ∧ Below wq.heap.size wq wz) (fun _ i _ => nA - (intOf i).toNat)
    case atStart => exact ⟨0, Z0, by omega, rfl, rfl, by rw [List.take_zero]; exact H10'.out, HZ10.out, HB10.out⟩
    case round =>
     obtain ⟨j2, Z, hj2, rfl, rfl, hx, hZ, hbw⟩ := hrel
     clear H10' HZ10 HB10
     by_cases hlt : j2 < nA
     ·have hjl : j2 < l.length := by have := HNL.out; omega
      obtain ⟨-, -, A9, c9, e9, -, -, hrd⟩ := HCI.out.later hbw
      obtain ⟨rfl, rfl⟩ : A8 = A9 ∧ c8 = c9 := by injection e9 with a1 a2 a3; exact ⟨a1, a3⟩
      obtain ⟨b0', off', rfl, hbl', hq⟩ := hrd (by omega)
      obtain ⟨A2, c2, b1, b2, b3, b4, b5, b6⟩ := HBC.out.2 j2 hjl
      have d0 := hq _ _ b4; have d1 := hq _ _ b5; have d2 := hq _ _ b6
      rw [← Nat.add_assoc] at d1 d2
      have hbel8 : Below w8.heap.size w8 wr := HBQ.out.trans (hbw.mono HBQ.out.size)
      have hZ8 : ∀ c, Z c → w8.heap.size ≤ c := fun c q => Nat.le_trans HBQ.out.size (hZ c q)
      obtain ⟨W1, hW1⟩ : ∃ W1, W1 = wr.alloc (.cells #[.string l[j2].flow, .int .u64 (l[j2].at' : Nat), .slice A2 l[j2].es.length c2] 33) := ⟨_, rfl⟩
      have hb01 : Below wr.heap.size wr W1 := by rw [hW1]; exact (Below.refl _ _).alloc (Nat.le_refl _) _
      obtain ⟨g12, hg12⟩ : ∃ g, g = wr.heap.size := ⟨_, rfl⟩
      have hb12 : BB W1 g12 l[j2].flow l[j2].at' A2 l[j2].es.length c2 := by rw [hW1, hg12]; exact heap_alloc_new wr _
      have hcode : (addX (repX (l.take j2)) l[j2]).1 = 0 := HT.out.ok (l.take j2) l[j2] (l.drop (j2 + 1)) (by rw [← List.drop_eq_getElem_cons hjl, List.take_append_drop])
      have HC := Lib.hid (xadd_any (hx.later hb01) (xgood_rep HLL.out j2 (by omega)) l[j2] A2 c2 (EvsIn.leads b3 (leads_from (hbel8.trans (hb01.mono hbel8.size)) hZ8)) (HLL.out.bin j2 hjl) (by have := HLL.out.take j2 hjl; omega) (by have := HLL.out.len; omega) b1 b2 (clkX_lt HATL.out j2 (by omega)) (HFL.out j2 hjl))
      have HNX := Lib.hid (repX_take l j2 hjl)
      have HB1 := Lib.hid (hbw.trans (hb01.mono hbw.size)); have HZ := Lib.hid hZ; have HCD := Lib.hid hcode
      have HW1 := Lib.hid hW1; have HG12 := Lib.hid hg12
      obtain ⟨y0, y1, y2, -⟩ := hb12.cells
      clear hq hrd b1 b2 b3 b4 b5 b6 hbel8 hZ8 hb01 hb12 hcode hx hZ hbw hW1 hg12 hbl' e9
      obtain ⟨xx, hxx⟩ : ∃ xx, xx = repX (l.take j2) := ⟨_, rfl⟩
      rw [← hxx] at HC HNX HCD
      clear hxx
      obtain ⟨bb, hbb⟩ : ∃ bb, bb = l[j2] := ⟨_, rfl⟩
      rw [← hbb] at HC HNX HCD d0 d1 d2 HW1 y0 y1 y2
      clear hbb
      generalize bb.flow = ff at *
      generalize bb.at' = at' at *
      generalize hen : bb.es.length = en at *
      clear hen
      go_upto_region 19 with fail
      rw [← HW1.out, ← HG12.out]
      clear d0 d1 d2
      go_wp2_with fail
      refine HC.out.mono ?_
      rintro r w13 ⟨rfl, hchg, -, Z', H', hz'⟩
      rw [HCD.out]
      have HREL : Hid (XAt (fun _ => False) w13 xb Z' (repX (l.take (j2 + 1))) ∧ (∀ c, Z' c → wq.heap.size ≤ c) ∧ Below wq.heap.size wq w13) := Lib.hid ⟨by rw [HNX.out]; exact H', fun c q => (hz' c q).elim (HZ.out c) (fun e => Nat.le_trans HB1.out.size e), HB1.out.trans (hchg.below HB1.out.size HZ.out)⟩
      clear hchg H' hz' HC y0 y1 y2
      go_wp2_with fail
      go_roundw
      case rel => exact ⟨j2 + 1, Z', by omega, by go_num, rfl, HREL.out⟩
      case measure => simp [intOf]; omega
     have hj2' : nA = j2 := by omega
     subst hj2'
     obtain ⟨w11, hw11⟩ : ∃ w11, w11 = wr := ⟨_, rfl⟩
     subst hw11
     rw [show l.take nA = l by rw [← HNL.out]; exact List.take_length] at hx
     have hb811 : Below w8.heap.size w8 w11 := HBQ.out.trans (hbw.mono HBQ.out.size)
     have HXL := Lib.hid hx; have HB811 := Lib.hid hb811
     have HBW11 : Hid (Below w0.heap.size w0 w11) := Lib.hid (HBW.out.trans (hb811.mono HBW.out.size))
     have HBX : Hid (∀ W, Below w11.heap.size w11 W → IBox W g5 (.slice AA nA cA) (.slice AF nF cF)) := Lib.hid fun W hW => (HBOX.out.later hb811 HBOX.out.lt).later hW (Nat.lt_of_lt_of_le HBOX.out.lt hb811.size)
     obtain ⟨xsF, ⟨-, -, A9, c9, e9, -, hcF, hrdF⟩, hcFF⟩ := HRI.out.flows
     rw [← HNF.out] at hrdF e9
     obtain ⟨rfl, rfl⟩ : AF = A9 ∧ cF = c9 := by injection e9 with a1 a2 a3; exact ⟨a1, a3⟩
     simp only [maxLen] at hcF
     have HRF := Lib.hid hrdF; have HFF := Lib.hid hcFF
     have hnF0 : nF ≤ 1000000 := by have := HGX.out.len; have := HNF.out; have := HLI.out.len; omega
     have HAPX := Lib.hid HGX.out.apart
     clear hx hZ hbw hb811 hrdF hcFF e9 hj2 hlt
     obtain ⟨x0, x1, -⟩ := (HBX.out w11 (Below.refl _ _)).cells
     go_wp2_with fail
     clear x0 x1
     go_loopw [4, 104] (fun t4 i wz => ∃ j : Nat, j ≤ nF ∧ i = .int .i64 j ∧ t4 = .bool false ∧ Below w11.heap.size w11 wz) (fun _ i _ => nF - (intOf i).toNat)
     case atStart => exact ⟨0, by omega, rfl, rfl, Below.refl _ _⟩
     case round =>
      obtain ⟨j4, hj4, rfl, rfl, hb⟩ := hrel
      have HB := Lib.hid hb
      clear hb
      by_cases hlt : j4 < nF
      ·have hjx : j4 < x.flows.length := by have := HNF.out; omega
       obtain ⟨b0', off', rfl, hbl', hrr⟩ := HRF.out (by omega)
       obtain ⟨hfs, ub, uk, ut, um, hrh, hq⟩ := HFF.out.2 j4 hjx
       obtain ⟨⟨Bu, nu, cu, rfl⟩, ⟨Ak, nk, ck, rfl⟩, ⟨Aq, nt, ct, rfl⟩, ⟨Am, nm, cm, rfl⟩⟩ := hrh.slices
       have hb8 : Below w8.heap.size w8 wr := HB811.out.trans (HB.out.mono HB811.out.size)
       obtain ⟨kk, hk1, hk2⟩ : ∃ k, findX (repX l).flows x.flows[j4].flow = some k ∧ (repX l).flows[k]? = some x.flows[j4] := by
        have ht := HT.out; rw [← HXE.out] at ht
        have hap := HAPX.out
        have := Turned.hist (bl := bl) (l := l) (by rw [← HXE.out]; exact ht) (by rw [← HXE.out]; exact hap) j4 (by rw [← HXE.out]; exact hjx)
        simpa only [← HXE.out] using this
       have d : ∀ q (hq7 : q < 7) v, (rhC x.flows[j4].flow (.slice Bu nu cu) x.flows[j4].s.closed x.flows[j4].s.next (.slice Ak nk ck) (.slice Aq nt ct) (.slice Am nm cm))[q]? = some v → wr.cell? ⟨b0', off' + j4 * 7 + q, none⟩ = some v := fun q hq7 v hv => by
        have := hrr (j4 * 7 + q) v (by rw [hq q hq7]; exact hv)
        rw [← Nat.add_assoc] at this
        exact (hb8.cell (p := ⟨b0', off' + j4 * 7 + q, none⟩) hbl').trans this
       have d0 := d 0 (by omega) (.string x.flows[j4].flow) rfl; have d1 := d 1 (by omega) (.slice Bu nu cu) rfl; have d2 := d 2 (by omega) (.int .i64 x.flows[j4].s.closed) rfl; have d3 := d 3 (by omega) (.int .u64 (x.flows[j4].s.next : Nat)) rfl; have d4 := d 4 (by omega) (.slice Ak nk ck) rfl; have d5 := d 5 (by omega) (.slice Aq nt ct) rfl; have d6 := d 6 (by omega) (.slice Am nm cm) rfl
       rw [Nat.add_zero] at d0
       have hgx := HGX.out.good _ (List.getElem_mem hjx)
       have HRH := Lib.hid (hrh.later hb8); have HK1 := Lib.hid hk1; have HK2 := Lib.hid hk2; have HGH := Lib.hid hgx; have HFS := Lib.hid hfs
       clear d hq hrh hk1 hk2 hgx hfs hrr hbl' hb8
       generalize x.flows[j4] = hy at *
       obtain ⟨cl, hcl⟩ : ∃ cl, cl = hy.s.closed := ⟨_, rfl⟩
       obtain ⟨nx, hnx⟩ : ∃ nx, nx = hy.s.next := ⟨_, rfl⟩
       obtain ⟨ff, hff⟩ : ∃ ff, ff = hy.flow := ⟨_, rfl⟩
       rw [← hcl] at d2
       rw [← hnx] at d3
       rw [← hff] at d0 HK1 HFS
       obtain ⟨W1, hW1⟩ : ∃ W1, W1 = wr.alloc (.cells #[.string ff, .slice Bu nu cu, .int .i64 cl, .int .u64 (nx : Nat), .slice Ak nk ck, .slice Aq nt ct, .slice Am nm cm] 52) := ⟨_, rfl⟩
       obtain ⟨g14, hg14⟩ : ∃ g, g = wr.heap.size := ⟨_, rfl⟩
       have hb1 : Below wr.heap.size wr W1 := by rw [hW1]; exact (Below.refl _ _).alloc (Nat.le_refl _) _
       have hrx : RX W1 g14 ff (.slice Bu nu cu) cl nx (.slice Ak nk ck) (.slice Aq nt ct) (.slice Am nm cm) := by rw [hW1, hg14]; exact heap_alloc_new wr _
       have HB1 := Lib.hid (HB.out.trans (hb1.mono HB.out.size))
       have HFLW := Lib.hid (xflow_any (HXL.out.later HB1.out) ff HFS.out)
       have HRH1 := Lib.hid (HRH.out.later hb1)
       have HW1 := Lib.hid hW1; have HG14 := Lib.hid hg14; have HCL := Lib.hid hcl; have HNX := Lib.hid hnx; have HFF2 := Lib.hid hff
       obtain ⟨z0, z1, z2, z3, z4, z5, z6, -⟩ := hrx.cells
       clear hb1 hrx hW1 hg14 hcl hnx hff hjx
       go_upto_region 25 with fail
       rw [← HW1.out, ← HG14.out]
       clear d0 d1 d2 d3 d4 d5 d6
       go_wp2_with fail
       refine HFLW.out.mono ?_
       rintro r w6 ⟨hw6, hcase⟩
       rw [hw6]
       clear hw6 w6 HFLW
       obtain ⟨p, Y, rfl, hat⟩ : ∃ (p : Hi.HB) (Y : Nat → Prop), r = .returned (.pointer (some ⟨p.hb, 0, none⟩)) ∧ p.at_ Y W1 hy := by
        rcases hcase with ⟨hn, -⟩ | ⟨i', h', p, Y, hf, hh, e, hat, -⟩
        ·rw [HK1.out] at hn; cases hn
        ·rw [HK1.out] at hf
         obtain rfl := Option.some.inj hf
         rw [HK2.out] at hh
         obtain rfl := Option.some.inj hh
         exact ⟨p, Y, e, hat⟩
       have HC : Hid (Calls Tryz.prog 22 #[.pointer (some ⟨p.hb, 0, none⟩), .agg (rhC ff (.slice Bu nu cu) cl nx (.slice Ak nk ck) (.slice Aq nt ct) (.slice Am nm cm))] W1 fun r w' => r = .returned (.int .i64 1) ∧ Below W1.heap.size W1 w') := Lib.hid (by
        have q := lsame_any hat _ _ _ _ HRH1.out (by have := HGH.out.tot; have := HLI.out.tot; omega) (by have := HGH.out.len; have := HLI.out.len; omega) HGH.out.bs HGH.out.slim
        rw [← HFF2.out, ← HCL.out, ← HNX.out] at q
        exact q)
       unfold rhC at HC
       generalize p.hb = qb at *
       clear hcase hat
       go_wp2_with fail
       refine HC.out.mono ?_
       rintro r w7 ⟨rfl, hb7⟩
       have HB7 : Hid (Below w11.heap.size w11 w7) := Lib.hid (HB1.out.trans (hb7.mono HB1.out.size))
       clear hb7 HC z0 z1 z2 z3 z4 z5 z6
       go_wp2_with fail
       go_roundw
       case rel => exact ⟨j4 + 1, by omega, by go_num, rfl, HB7.out⟩
       case measure => simp [intOf]; omega
      have hj4' : j4 = nF := by omega
      subst hj4'
      have hgl := xgood_rep HLL.out l.length (Nat.le_refl _)
      rw [List.take_length] at hgl
      have hlen : (repX l).flows.length = j4 := by
       rw [HNF.out]
       have := Turned.len (bl := bl) (l := l) HT.out (by rw [← HXE.out]; exact HAPX.out) hgl.apart
       rw [← HXE.out] at this
       exact this
      have HNM : Hid (∀ W, Below w11.heap.size w11 W → Calls Tryz.prog 18 #[.pointer (some ⟨xb, 0, none⟩)] W fun e w' => ∃ A c, e = .returned (.slice A j4 c) ∧ Below W.heap.size W w') := Lib.hid fun W hW => by
       have hfl : ∀ h ∈ (repX l).flows, h.flow.size ≤ maxLen := fun h hh => by
        have hm := (names_of l h.flow).1 (List.mem_map.2 ⟨h, hh, rfl⟩)
        obtain ⟨b, hb⟩ := List.exists_mem_of_ne_nil _ hm
        unfold ofF at hb
        obtain ⟨hb1, hb2⟩ := List.mem_filter.1 hb
        obtain ⟨k, hk, e⟩ := List.getElem_of_mem (mem_all l b hb1)
        obtain ⟨A2, c2, q1, -⟩ := HBC.out.2 k hk
        rw [e] at q1
        rw [← of_decide_eq_true hb2]; exact q1
       refine (xnames_any (HXL.out.later hW) hgl.apart hfl (by omega)).mono fun e w' => ?_
       rintro ⟨A, c, rfl, -, hb⟩
       exact ⟨A, c, by rw [hlen], hb⟩
      have KS : Hid (∀ W, Below w11.heap.size w11 W → (fun W : World => W.cell? ⟨g5, 1, none⟩ = some (.slice AF j4 cF)) W) := Lib.hid fun W hW => (HBX.out W hW).cells.2.1
      clear hgl hlen hlt
      have HAL2 := Lib.hid fun W => HAL.out W
      go_upto_region 29 with fail
      obtain ⟨w1, hw1⟩ : ∃ u, u = wr.drew := ⟨_, rfl⟩
      have HB1 : Hid (Below w11.heap.size w11 w1) := Lib.hid (by rw [hw1]; exact below_drew HB.out)
      refine wp_region_noPanic ?_
      refine wp_region_held_drew (S := (fun W : World => W.cell? ⟨g5, 1, none⟩ = some (.slice AF j4 cF))) (by kernel_rfl) ?_ (fun hHeld1 => ?_)
      ·rw [← hw1]; exact KS.out _ HB1.out
      rw [← hw1] at hHeld1
      rw [← hw1]
      clear hw1
      refine rd1 0 rfl fun K hK => ?_
      go_simp
      (with_reducible refine (HAL2.out _).mono ?_)
      rintro r w2 ⟨rfl, hb2⟩
      have HB2 : Hid (Below w11.heap.size w11 w2) := Lib.hid (HB1.out.trans (hb2.mono HB1.out.size))
      clear hb2
      go_wp2_with fail
      refine hK.out _ _ (KS.out _ HB2.out) (fun hHeld2 => ?_)
      clear hK K hHeld1
      try simp only [ap]
      refine tk 1 rfl ?_
      try simp only [ap]
      refine tk 2 rfl ?_
      try simp only [ap]
      refine tk 5 rfl ?_
      try simp only [ap]
      refine tk 6 rfl ?_
      try simp only [ap]
      refine tk 7 rfl ?_
      try simp only [ap]
      refine rd1 3 rfl fun K hK => ?_
      go_simp
      (with_reducible refine (HNM.out _ HB2.out).mono ?_)
      rintro r w3 ⟨An, cn, rfl, hb3⟩
      have HB3 : Hid (Below w11.heap.size w11 w3) := Lib.hid (HB2.out.trans (hb3.mono HB2.out.size))
      clear hb3
      go_wp2_with fail
      refine hK.out _ _ (KS.out _ HB3.out) (fun hHeld3 => ?_)
      clear hK K hHeld2
      try simp only [ap]
      refine tk 4 rfl ?_
      try simp only [ap]
      refine tk 8 rfl ?_
      try simp only [ap]
      refine tk 9 rfl ?_
      try simp only [ap]
      refine tk 10 rfl ?_
      try simp only [ap]
      refine wpAnyH_done (by kernel_rfl) ?_ _
      refine NoPanic.normal ?_
      clear hHeld3
      go_wp2_with fail
      go_ret
      exact ⟨rfl, HBW11.out.trans (HB3.out.mono HBW11.out.size)⟩
end Hi
end Go.Proofs.YtfmnacebgplpcaaGreat
namespace Go.Proofs.YtfmnacebgplpcaaGreat
namespace Hi
open Vt (VT Rep)
open Ev (EV FieldsOk evCells vCells)
open Cm (EvsIn)
open Cn (BT BtsIn three evs_trod)
open Go.ChangeShapes Go.WideShapes Go.ChangeAt Go.Joins Go.Deep

theorem bulk_pos {H : Type} (d : DataW H) : 1 ≤ Rows.uptoBulk d := by
 cases d with
 | lit l => cases l <;> simp [Rows.uptoBulk]
 | _ => simp only [Rows.uptoBulk]; omega
theorem bulk_len {H : Type} (l : List (DataW H)) : l.length ≤ Rows.uptoBulkAll l := by
 induction l with
 | nil => simp
 | cons d l ih =>
  simp only [Rows.uptoBulkAll, List.length_cons]
  have := bulk_pos d
  omega
theorem bulk_mem {H : Type} : ∀ {l : List (DataW H)} {i : Nat} {d : DataW H}, l[i]? = some d → Rows.uptoBulk d ≤ Rows.uptoBulkAll l
 | [], i, d, h => by simp at h
 | d0 :: r, 0, d, h => by
  have h : d0 = d := by simpa using h
  subst h
  simp only [Rows.uptoBulkAll]; omega
 | d0 :: r, i + 1, d, h => by
  have := bulk_mem (l := r) (i := i) (d := d) (by simpa using h)
  simp only [Rows.uptoBulkAll]; omega
theorem small_one {H : Type} {d : DataW H} {l : List (DataW H)} {i : Nat} (h : Rows.uptoSmall H l = true) (hi : l[i]? = some d) : Rows.uptoBulk d ≤ 1048576 := Nat.le_trans (bulk_mem hi) (of_decide_eq_true h)
set_option maxRecDepth 100000 in
theorem open_bts {H : Type} {enc : TypeId × Value → H} {W : World} {base : Nat} {spare : Nat → Bool} {held : Bool} (fuel : Nat) (cs : List Value) (x : DataW H × List MemPlace)
  (h : DataW.trod enc Tryz.prog W base spare held fuel 33 cs = some x) :
  ∃ (b : BT) (A' : Option Addr) (c : Nat), b.flow.size ≤ maxLen ∧ b.at' < 18446744073709551616 ∧ EvsIn W A' c b.es ∧ (Rows.uptoBulk x.1 ≤ 1048576 → b.es.length ≤ 2097152) ∧ cs = [.string b.flow, .int .u64 b.at', .slice A' b.es.length c] := by
 have hC : Tryz.prog.cellsOf 33 = 3 := by kernel_rfl
 obtain ⟨xs, n, hn, hx, hlen, hxl, hg⟩ := DataW.trod_struct Tryz.underlying33 h
 obtain ⟨c0, c1, c2, rfl⟩ := three cs (hlen.trans hC)
 obtain ⟨x0, x1, x2, rfl⟩ : ∃ x0 x1 x2, xs = [x0, x1, x2] := by
  have : xs.length = 3 := hxl
  match xs, this with
  | [a, b, c], _ => exact ⟨a, b, c, rfl⟩
 have g0 := hg 0 _ rfl; have g1 := hg 1 _ rfl; have g2 := hg 2 _ rfl
 have k2 : Tryz.prog.cellsOf 9 = 1 := by kernel_rfl
 have k3 : Tryz.prog.cellsOf 31 = 1 := by kernel_rfl
 have k4 : Tryz.prog.cellsOf 30 = 1 := by kernel_rfl
 simp [k2, k3, k4] at g0 g1 g2
 obtain ⟨s, e0, -, w0⟩ := DataW.trod_string Tryz.underlying9 g0
 obtain ⟨m, e1, -, w1⟩ := DataW.trod_int Tryz.underlying30 g1
 obtain rfl := List.singleton_inj.1 e0
 obtain rfl := List.singleton_inj.1 e1
 simp [Lit.wf, IntKind.min, IntKind.max, IntKind.bits, IntKind.signed] at w1
 obtain ⟨es, A, cap, rfl, hes, hd⟩ := evs_trod n c2 x2 g2
 obtain ⟨mn, hmn⟩ : ∃ mn : Nat, m = mn := ⟨m.toNat, by omega⟩
 subst hmn
 have hdd : x.1 = .agg [x0.1, x1.1, x2.1] := by rw [hx]; rfl
 refine ⟨⟨s, mn, es⟩, A, cap, w0, by show mn < _; omega, hes, ?_, rfl⟩
 intro hb
 rcases hd with ⟨rfl, -⟩ | ⟨elems, rest, h2, hl⟩
 ·simp
 ·rw [hdd, h2] at hb
  simp only [Rows.uptoBulk, Rows.uptoBulkAll] at hb
  have := bulk_len elems
  show es.length ≤ _
  omega
set_option maxRecDepth 100000 in
theorem bts_small {H : Type} {enc : TypeId × Value → H} {base b1 : Nat} {spare : Nat → Bool} {held : Bool} {d : DataW H} {p : List MemPlace} (v : Value) (W : World)
  (o : Value.okWide Tryz.prog W .any base 22 v) (k : DataW.Trod enc Tryz.prog W b1 spare held 22 v d p) :
  ∃ (bl : List BT) (A : Option Addr) (cap : Nat), v = .slice A bl.length cap ∧ BtsIn W A cap bl ∧ (Rows.uptoBulk d ≤ 1048576 → ∀ b ∈ bl, b.es.length ≤ 2097152) := by
 have hC : Tryz.prog.cellsOf 33 = 3 := by kernel_rfl
 obtain ⟨fuel, hf⟩ := k
 have hcs : ∃ A n c, v = .slice A n c := by
  obtain ⟨A, n, c, rfl⟩ := okWide_slice Tryz.underlying22 o
  exact ⟨_, _, _, rfl⟩
 obtain ⟨A0, n0, cp, rfl⟩ := hcs
 have hcs : (Value.slice A0 n0 cp).cells.toList = [.slice A0 n0 cp] := rfl
 rw [hcs] at hf
 rcases DataW.trod_slice Tryz.underlying22 hf with ⟨e4, hx⟩ | ⟨a, l0, cp0, elems, rest, n', hn', e4, hx, hb, hl, hm, hel, he, -, -⟩
 ·obtain e4 := List.singleton_inj.1 e4
  refine ⟨[], none, 0, e4, ⟨Nat.le_refl _, Nat.zero_le _, fun h => absurd h (by simp)⟩, fun _ b hb => absurd hb (by simp)⟩
 ·obtain e4 := List.singleton_inj.1 e4
  have hd : d = .slice (elems.map (·.1)) (rest.map (·.1)) := by
   have := congrArg Prod.fst hx
   exact this
  have h4 : ∀ i : Nat, ∃ tC : BT × (Option Addr × Nat), i < l0 → tC.1.flow.size ≤ maxLen ∧ tC.1.at' < 18446744073709551616 ∧ EvsIn W tC.2.1 tC.2.2 tC.1.es ∧ (Rows.uptoBulk d ≤ 1048576 → tC.1.es.length ≤ 2097152) ∧
    ∀ j, j < 3 → W.cell? (a.add (i * 3) |>.add j) = ([Value.string tC.1.flow, .int .u64 tC.1.at', .slice tC.2.1 tC.1.es.length tC.2.2] : List Value)[j]? := fun i => by
   by_cases hi : i < l0
   ·have e := he i hi
    rw [List.getElem?_eq_getElem (by omega)] at e
    obtain ⟨cs', q1, q2⟩ := Option.bind_eq_some_iff.1 e
    obtain ⟨b, A', c, p1, p2, p3, p4, rfl⟩ := open_bts n' cs' _ q2
    rw [hC] at q1
    obtain ⟨_, ql, qc⟩ := World.cells?_some q1
    exact ⟨(b, A', c), fun _ => ⟨p1, p2, p3, fun hb => p4 (by
     refine Nat.le_trans (bulk_mem (l := elems.map (·.1)) (i := i) (by rw [List.getElem?_map, List.getElem?_eq_getElem (by omega)]; rfl)) ?_
     rw [hd] at hb
     simp only [Rows.uptoBulk] at hb
     omega), fun j hj => by rw [qc j hj]⟩⟩
   ·exact ⟨(⟨.empty, 0, []⟩, none, 0), fun h => absurd h hi⟩
  obtain ⟨F, hF⟩ := Classical.axiomOfChoice h4
  have hlen' : ((List.range l0).map fun i => (F i).1).length = l0 := by simp
  refine ⟨(List.range l0).map fun i => (F i).1, some a, cp0, by rw [hlen']; exact e4, ⟨by rw [hlen']; exact hl, hm, fun hp => ?_⟩, fun hbu b hb => ?_⟩
  rotate_left
  ·obtain ⟨i, hi, rfl⟩ := List.mem_map.1 hb
   exact (hF i (List.mem_range.1 hi)).2.2.2.1 hbu
  rw [hlen'] at hp
  have h0 := (hF 0 hp).2.2.2.2 0 (by omega)
  obtain ⟨b, off, spot⟩ := a
  have hs : spot = none := by
   cases spot with
   | none => rfl
   | some q =>
    simp [Addr.add, World.cell?] at h0
    split at h0 <;> simp at h0
  subst hs
  have hlt : b < W.heap.size := by
   rcases Nat.lt_or_ge b W.heap.size with q | q
   ·exact q
   ·simp [Addr.add, World.cell?, Array.getElem?_eq_none q] at h0
  refine ⟨b, off, rfl, hlt, fun i hi => ?_⟩
  rw [hlen'] at hi
  obtain ⟨p1, p2, p3, -, p5⟩ := hF i hi
  have ad : ∀ j, (Addr.add ⟨b, off, none⟩ (i * 3)).add j = ⟨b, off + i * 3 + j, none⟩ := fun j => by rw [Go.Deep.add_add, add_plain, Nat.add_assoc]
  refine ⟨(F i).2.1, (F i).2.2, by simpa using p1, by simpa using p2, by simpa using p3, ?_, ?_, ?_⟩
  ·have := p5 0 (by omega); rw [ad] at this; simpa using this
  ·have := p5 1 (by omega); rw [ad] at this; simpa using this
  ·have := p5 2 (by omega); rw [ad] at this; simpa using this
end Hi
end Go.Proofs.YtfmnacebgplpcaaGreat
namespace Go.Proofs.YtfmnacebgplpcaaGreat
namespace Hi
open Go.ChangeShapes Go.WideShapes Go.ChangeAt Go.Joins Go.Deep
set_option maxRecDepth 100000 in
theorem iorders_open {H : Type} {enc : TypeId × Value → H} {base b1 : Nat} {spare : Nat → Bool} {held : Bool} {d0 d1 : DataW H} {p0 p1 : List MemPlace} (v0 v1 : Value) (W : World)
  (o0 : Value.okWide Tryz.prog W .any base 22 v0) (k0 : DataW.Trod enc Tryz.prog W b1 spare held 22 v0 d0 p0)
  (o1 : Value.okWide Tryz.prog W .any base 5 v1) (k1 : DataW.Trod enc Tryz.prog W b1 spare held 5 v1 d1 p1) (hu : Rows.uptoSmall H [d0, d1] = true) :
  Calls Tryz.prog 4 #[v0, v1] W fun r w' => r = .returned (.bool true) ∧ Below W.heap.size W w' := by
 obtain ⟨bl, A, cap, rfl, hB, hl⟩ := bts_small v0 W o0 k0
 obtain ⟨n, rfl⟩ := okWide_int Tryz.underlying5 o1
 obtain ⟨fuel, hf⟩ := k1
 obtain ⟨m, e1, -, w1⟩ := DataW.trod_int Tryz.underlying5 hf
 have e1 : [Value.int .u8 n] = [Value.int .u8 m] := e1
 injection e1 with e1
 injection e1 with _ e1
 subst e1
 simp [Lit.wf, IntKind.min, IntKind.max, IntKind.bits, IntKind.signed] at w1
 obtain ⟨k, hk⟩ : ∃ k : Nat, n = (k : Nat) := ⟨n.toNat, by omega⟩
 subst hk
 exact iorders_walk bl A cap k (by omega) W hB (hl (small_one (i := 0) hu rfl))
end Hi
end Go.Proofs.YtfmnacebgplpcaaGreat
