/- HistoryKeys: slices.Clone of strings, and the walk. -/
/- HistoryKeys: the walk at what came in. -/
import Derived.Test.YtkajcldmolcllaaGreatHabg
import Derived.Test.YtkajcldmolcllaaGreatHaaq
set_option linter.unusedVariables false
set_option linter.unusedSimpArgs false
open Go.RowKit
namespace Go.Proofs.YtkajcldmolcllaaGreat
namespace Hi
open _root_.Go.Proofs.YtkajcldmolcllaaGreat.Nm (ret_int ret_bool)
open Vt (VT Rep below_drew)
open Ev (EV take_drop tk ap cons_drop)
open Cm (rowOf EvsIn)
open Cn (BT BtsIn few12_any)
variable {w w' w0 : World} {hb : Nat} {h : HM}

set_option maxRecDepth 100000 in
set_option maxHeartbeats 1000000 in
theorem sclone_any (u : Value) (n : Nat) (xs : List Value) (w : World) (h : CIn w u n 1 xs) (hn : n ≤ 1200000000000) :
  Calls Tryz.prog 14 #[u] w fun r w' => ∃ v, r = .returned v ∧ w'.ownsRow w.heap.size 9 1 v n xs ∧ Below w.heap.size w w' := by
 have h0 := h
 obtain ⟨h1, h2, A, c, rfl, h4, h5, h6⟩ := h
 simp only [maxLen] at h5
 cases A with
 | none =>
  obtain rfl : n = 0 := by
   rcases Nat.eq_zero_or_pos n with e | e
   ·exact e
   ·obtain ⟨b, off, q, -⟩ := h6 e; cases q
  have hx : xs = [] := List.eq_nil_of_length_eq_zero (by rw [h1])
  subst hx
  clear h0 h1 h2 h6
  have hnil := fun w => Lib.run_eql_slice_nil (P := Tryz.prog) w 28 9 none 0 c 0 0 Tryz.underlying28
  go_enter Tryz.func14, Tryz.ntmps14
  go_wp2_with fail
  go_ret
  exact ⟨_, rfl, ⟨rfl, .inl ⟨rfl, rfl⟩⟩, Below.refl _ _⟩
 | some a =>
  obtain ⟨i0, hi0, hz0, hz1, hz2⟩ := info_parts Tryz.infoStr
  have HSZ := Lib.hid (sz_of hi0 hz1)
  obtain ⟨W1, hW1⟩ : ∃ W1, W1 = w.alloc (.cells #[] 9) := ⟨_, rfl⟩
  have hb1 : Below w.heap.size w W1 := by rw [hW1]; exact (Below.refl _ _).alloc (Nat.le_refl _) _
  have HO1 : Hid (W1.ownsRow w.heap.size 9 1 (.slice (some ⟨w.heap.size, 0, none⟩) 0 0) 0 []) := Lib.hid (by rw [hW1]; exact World.ownsRow_lit w #[] 0 (Nat.le_refl _) (Nat.zero_le _) (by simp))
  have HI1 := Lib.hid (h0.later hb1)
  have HB1 := Lib.hid hb1
  clear h0 h1 h2 h6 hb1
  replace hW1 := Lib.hid hW1
  have hnil := fun w => Lib.run_eql_slice_nil (P := Tryz.prog) w 28 9 (some a) n c 0 0 Tryz.underlying28
  go_enter Tryz.func14, Tryz.ntmps14
  go_wp2_with (at_builtin; rw [← hW1.out]; refine wpList_append_any _ rfl _ _ 28 9 rfl i0 _ 1 16 Tryz.underlying28 HSZ.out hi0 hz0 hz1 hz2 rfl (by decide) w.heap.size _ _ 0 n [] xs rfl rfl HO1.out HI1.out (by simp only [maxLen]; omega) (by omega) HB1.out.size ?_; intro v1 w1 hown2 hgrow2 hat2)
  have hb2 := below_grown HB1.out hgrow2 (fun r hr => (HO1.out.lt r hr).1) HB1.out.size
  rw [Nat.zero_add, List.nil_append] at hown2
  have HO := Lib.hid hown2; have HB := Lib.hid hb2
  clear hown2 hb2 hgrow2 hat2
  go_wp2_with fail
  go_ret
  exact ⟨_, rfl, HO.out, HB.out⟩
set_option maxRecDepth 100000 in
set_option maxHeartbeats 4000000 in
theorem keys_walk (bl : List BT) (B : Option Addr) (bc : Nat) (key : ByteArray) (hkey : key.size ≤ maxLen) (w0 : World) (hB : BtsIn w0 B bc bl) (hlen : ∀ b ∈ bl, b.es.length ≤ 1099511627775) :
  Calls Tryz.prog 3 #[.slice B bl.length bc, .string key] w0 fun r w' => r = .returned (.bool true) ∧ Below w0.heap.size w0 w' := by
 have hle := hB.le; have hbc := hB.cap_le
 simp only [maxLen] at hbc
 have HBT := Lib.hid hB; have HLEN := Lib.hid hlen; have HKEY := Lib.hid hkey
 clear hB hlen hkey
 obtain ⟨m, hm⟩ : ∃ m, m = bl.length := ⟨_, rfl⟩
 rw [← hm] at hle ⊢
 have HM := Lib.hid hm; clear hm
 have HAL := Lib.hid fun W => halive_any W
 go_enter Tryz.func3, Tryz.ntmps3
 go_wp2_with fail
 refine (hnew_any ⟨#[119]⟩ (by decide) w0 (fun _ => False) (fun _ h => h.elim)).mono ?_
 rintro r w1 ⟨hb, bt, bm, bk, rfl, hb1, hbge, H1⟩
 have HB1 := Lib.hid hb1; have HH1 := Lib.hid H1; have HGE := Lib.hid hbge
 have HFC := Lib.hid (show Calls _ _ _ _ _ from by have q := few12_any bl B bc w1 (HBT.out.later HB1.out); rw [← HM.out] at q; exact q)
 clear hb1 H1 hbge
 go_wp2_with fail
 refine HFC.out.mono ?_
 rintro r w2 ⟨bb, rfl, hfew, hb2⟩
 have HB2 := Lib.hid (HB1.out.trans (hb2.mono HB1.out.size)); have HFEW := Lib.hid hfew
 have HH2 := Lib.hid (HH1.out.later hb2)
 clear hb2 hfew HFC HH1
 cases bb with
 | false =>
  go_wp2_with fail
  refine (HAL.out _).mono ?_
  rintro r w3 ⟨rfl, hb3⟩
  have HB3 := Lib.hid (HB2.out.trans (hb3.mono HB2.out.size))
  clear hb3
  go_wp2_with fail
  go_ret
  exact ⟨rfl, HB3.out⟩
 | true =>
 by_cases hs : 300 < key.size
 ·have k1 : decide ((300 : Int) < (key.size : Int)) = true := decide_eq_true (by omega)
  go_wp2_with fail
  refine (HAL.out _).mono ?_
  rintro r w3 ⟨rfl, hb3⟩
  have HB3 := Lib.hid (HB2.out.trans (hb3.mono HB2.out.size))
  clear hb3
  go_wp2_with fail
  go_ret
  exact ⟨rfl, HB3.out⟩
 have k1 : decide ((300 : Int) < (key.size : Int)) = false := decide_eq_false (by omega)
 have HLI := Lib.hid (lin_of (HFEW.out rfl) HLEN.out)
 go_wp2_with fail
 refine (rnew_any ⟨#[119]⟩ w2).mono ?_
 rintro r w3 ⟨rfl, hb3⟩
 obtain ⟨W4, hW4⟩ : ∃ W4, W4 = w3.alloc (.cells #[.string ⟨#[119]⟩, .slice none 0 0, .int .i64 0, .int .u64 1, .slice none 0 0, .slice none 0 0, .slice none 0 0] 32) := ⟨_, rfl⟩
 have hb04 : Below w2.heap.size w2 W4 := by rw [hW4]; exact hb3.alloc hb3.size _
 obtain ⟨g6, hg6⟩ : ∃ g, g = w3.heap.size := ⟨_, rfl⟩
 have HL0 : Hid (LW w0 g6 W4 hb (rep ⟨#[119]⟩ (bl.take 0))) := Lib.hid (by
  rw [List.take_zero]
  have hge : w0.heap.size ≤ g6 := by rw [hg6]; exact Nat.le_trans HB2.out.size hb3.size
  have hz4 : W4.heap.size = w3.heap.size + 1 := by rw [hW4]; simp
  refine ⟨bt, bm, bk, 0, none, 0, .slice none 0 0, .slice none 0 0, .slice none 0 0, .slice none 0 0, ⟨(HH2.out.more (Y' := fun c => c = g6) fun c hc e => ?_).later hb04, fun c hc => ?_, fun c hc => ?_, HB2.out.trans (hb04.mono HB2.out.size)⟩, ?_, rh_new _ _⟩
  ·have e : c = g6 := e
   have := hb3.size; omega
  ·rcases hc with e | e | e
   ·have e : c = g6 := e
    omega
   ·rw [e]; exact HGE.out
   ·cases e
  ·have e : c = g6 := hc
   omega
  ·rw [hW4, hg6]; exact heap_alloc_new w3 _)
 have HG6 := Lib.hid hg6
 clear hb04 hb3 hg6 HH2
 replace hW4 := Lib.hid hW4
 unfold rhC
 go_wp2_with fail
 rw [← hW4.out, ← HG6.out]
 clear HG6 hW4 HB2 HFEW k1 hs HGE
 go_loopw [32] (fun i wz => ∃ j : Nat, j ≤ m ∧ i = .int .i64 j ∧ LW w0 g6 wz hb (rep ⟨#[119]⟩ (bl.take j))) (fun i _ => m - (intOf i).toNat)
 case atStart => exact ⟨0, by omega, rfl, HL0.out⟩
 case round =>
  obtain ⟨j, hj, rfl, hlw⟩ := hrel
  clear HL0
  obtain ⟨bt, bm, bk, n, A, cap, ub, uk, ut, um, S, hx, hr⟩ := hlw.ex
  obtain ⟨⟨Bu, nu, cu, rfl⟩, ⟨Ak, nk, ck, rfl⟩, ⟨Aq, nt, ct, rfl⟩, ⟨Am, nm, cm, rfl⟩⟩ := hr.slices
  have hg := good_rep HLI.out ⟨#[119]⟩ j (by have := HM.out; omega)
  obtain ⟨hm, hhm⟩ : ∃ hm, hm = rep ⟨#[119]⟩ (bl.take j) := ⟨_, rfl⟩
  have hfw : hm.flow = ⟨#[119]⟩ := by rw [hhm]; exact rep_flow _ _
  by_cases hjm : j < m
  rotate_left
  ·have hj' : j = m := by omega
   subst hj'
   obtain ⟨xs, hcin, hst⟩ := (hr.leads (leads_veil _ _)).keys
   rw [← hhm] at S hx hr hcin hst hg
   have hxs := hst.1; have hks := hst.2
   obtain ⟨ks, hkk⟩ : ∃ ks, ks = hm.s.keys := ⟨_, rfl⟩
   have hln : ks.length ≤ 1200000000000 := by have h1 := hg.keys; have h2 := hg.tot; have h3 := HLI.out.tot; rw [List.take_of_length_le (by have := HM.out; omega)] at h2; rw [hkk]; omega
   rw [← hkk] at hcin hxs hks
   obtain ⟨kn, hkn⟩ : ∃ kn, kn = ks.length := ⟨_, rfl⟩
   rw [← hkn] at hcin hln
   obtain rfl : nk = kn := by obtain ⟨-, -, A9, c9, heq, -⟩ := hcin; injection heq
   have HCL := Lib.hid (sclone_any _ nk xs wr hcin hln)
   have HKS := Lib.hid hks; have HXS := Lib.hid hxs; have HKN := Lib.hid hkn; have HCI := Lib.hid hcin
   have HSX := Lib.hid S; have HXX := Lib.hid hx; have HRX := Lib.hid hr; have HKK := Lib.hid hkk
   rw [hfw] at hx HXX
   obtain ⟨x0, x1, x2, x3, x4, x5, x6, -⟩ := hx.cells
   clear S hx hr hg hcin hks hxs hkn hst hjm hkk hlw
   generalize hcl : hm.s.closed = cl at *
   generalize hnx : hm.s.next = nx at *
   obtain ⟨i0, hi0, hz0, hz1, hz2⟩ := info_parts Tryz.infoStr
   have HSZ := Lib.hid (sz_of hi0 hz1)
   go_wp2_with fail
   refine HCL.out.mono ?_
   rintro r w2 ⟨v, rfl, hown, hb2⟩
   obtain ⟨Av, cv, rfl, hav⟩ := own_slice hown
   obtain ⟨W3, hW3⟩ : ∃ W3, W3 = w2.alloc (.cells #[.string key] 9) := ⟨_, rfl⟩
   have hb23 : Below w2.heap.size w2 W3 := by rw [hW3]; exact (Below.refl _ _).alloc (Nat.le_refl _) _
   have HO3 := Lib.hid (own_stay hown hb23)
   have HI3 : Hid (CIn W3 (.slice (some ⟨w2.heap.size, 0, none⟩) 1 1) 1 1 (#[Value.string key] : Array Value).toList) := Lib.hid (by rw [hW3]; exact CIn.new w2 _ _ rfl (by intro x hx; simp at hx; rw [hx]; rfl))
   have HB3 := Lib.hid (hb2.trans (hb23.mono hb2.size))
   clear hown hav hb2 hb23 HCL x0 x1 x2 x3 x4 x5 x6
   replace hW3 := Lib.hid hW3
   go_wp2_with (at_builtin; rw [← hW3.out]; refine wpList_append_any _ rfl _ _ 28 9 rfl i0 _ 1 16 Tryz.underlying28 HSZ.out hi0 hz0 hz1 hz2 rfl (by decide) wr.heap.size _ _ nk 1 xs (#[Value.string key] : Array Value).toList rfl rfl HO3.out HI3.out (by simp only [maxLen]; omega) (by omega) HB3.out.size ?_; intro v4 w4 hown4 hgrow4 hat4)
   have hb4 := below_grown HB3.out hgrow4 (fun r hr => (HO3.out.lt r hr).1) HB3.out.size
   obtain ⟨A4, c4, rfl, -⟩ := own_slice hown4
   have hc4 := CIn.of_own hown4 (by
    intro x hx
    rcases List.mem_append.1 hx with q | q
    ·exact HCI.out.2.1 x q
    ·simp at q; rw [q]; rfl)
   obtain ⟨ys, hys⟩ : ∃ ys, ys = ks ++ [key] := ⟨_, rfl⟩
   have hyx : xs ++ (#[Value.string key] : Array Value).toList = ys.map Value.string := by rw [hys, HXS.out]; simp
   rw [hyx] at hc4
   have hall : ∀ x ∈ ks ++ [key], x.size ≤ maxLen := fun x hx => by
    rcases List.mem_append.1 hx with e | e
    ·exact HKS.out x e
    ·rw [List.mem_singleton.1 e]; exact HKEY.out
   have HYS : Hid (∀ q (hq : q < ys.length), ys[q].size ≤ maxLen) := Lib.hid fun q hq => hall _ (by rw [← hys]; exact List.getElem_mem hq)
   have HYL : Hid (ys.length = nk + 1) := Lib.hid (by rw [hys, List.length_append, ← HKN.out]; rfl)
   have HB4 := Lib.hid hb4; have HC4 := Lib.hid hc4
   obtain ⟨hle4, hle5⟩ : nk + 1 ≤ c4 ∧ c4 ≤ 2 ^ 63 - 1 := by
    obtain ⟨-, -, A9, c9, heq, h9, h10, -⟩ := hc4
    injection heq with e1 e2 e3
    simp only [maxLen] at h10
    omega
   obtain ⟨n1, hn1⟩ : ∃ n1, n1 = nk + 1 := ⟨_, rfl⟩
   rw [← hn1] at hle4 HYL HC4 ⊢
   clear hown4 hgrow4 hat4 hb4 hc4 hyx hys hall hn1 HO3 HI3 hW3
   have HS4 := Lib.hid (HSX.out.later HB4.out); have HX4 := Lib.hid (HXX.out.later HB4.out HXX.out.lt); have HR4 := Lib.hid ((HRX.out.leads (leads_veil _ _)).later HB4.out)
   clear HSX HXX HRX HB4 HB3
   go_simp
   go_wp2_with fail
   go_loopw [53] (fun i wz => ∃ q : Nat, q ≤ n1 ∧ i = .int .i64 q ∧ Below w4.heap.size w4 wz) (fun i _ => n1 - (intOf i).toNat)
   case atStart => exact ⟨0, by omega, rfl, Below.refl _ _⟩
   case round =>
    obtain ⟨q, hq, rfl, hbq⟩ := hrel
    have HBQ := Lib.hid hbq
    clear hbq
    have HBZ : Hid (Below w0.heap.size w0 wr) := Lib.hid (HS4.out.later HBQ.out).bel
    by_cases hqn : q < n1
    rotate_left
    ·have hq' : q = n1 := by omega
     subst hq'
     go_wp2_with fail
     refine (HAL.out _).mono ?_
     rintro r w5 ⟨rfl, hb5⟩
     have HB5 := Lib.hid (HBZ.out.trans (hb5.mono HBZ.out.size))
     clear hb5
     go_wp2_with fail
     go_ret
     exact ⟨rfl, HB5.out⟩
    have hql : q < ys.length := by have := HYL.out; omega
    obtain ⟨-, -, A9, c9, heq, -, -, h9⟩ := HC4.out.later HBQ.out
    obtain ⟨b9, off9, rfl, hb9, h10⟩ := h9 (by omega)
    injection heq with e1 e2 e3
    subst e1
    have d0 := h10 q (.string ys[q]) (by rw [List.getElem?_map, List.getElem?_eq_getElem hql]; rfl)
    have hsz := HYS.out q hql
    generalize ys[q] = kq at *
    have HH1 : Hid (∀ W, Below wr.heap.size wr W → Calls Tryz.prog 15 #[.pointer (some ⟨hb, 0, none⟩), .string kq] W fun r w' => r = .returned (.bool (hasK ks kq)) ∧ w' = W) := Lib.hid fun W hW => by rw [HKK.out]; exact hhas_any ((HS4.out.later HBQ.out).later hW).hat kq hsz
    have HH2 : Hid (∀ W, Below wr.heap.size wr W → Calls Tryz.prog 16 #[.agg #[.string ⟨#[119]⟩, .slice Bu nu cu, .int .i64 cl, .int .u64 (nx : Nat), .slice Ak nk ck, .slice Aq nt ct, .slice Am nm cm], .string kq] W fun r w' => r = .returned (.bool (hasK ks kq)) ∧ Below W.heap.size W w') := Lib.hid fun W hW => by rw [HKK.out]; exact rhas_any hm.s.keys kq hsz ⟨#[119]⟩ _ _ _ _ cl nx W ((HR4.out.later HBQ.out).later hW).keys
    have KS : Hid (∀ W, Below wr.heap.size wr W → (fun W : World => W.cell? ⟨g6, 0, none⟩ = some (.string ⟨#[119]⟩) ∧ W.cell? ⟨g6, 1, none⟩ = some (.slice Bu nu cu) ∧ W.cell? ⟨g6, 2, none⟩ = some (.int .i64 cl) ∧ W.cell? ⟨g6, 3, none⟩ = some (.int .u64 (nx : Nat)) ∧ W.cell? ⟨g6, 4, none⟩ = some (.slice Ak nk ck) ∧ W.cell? ⟨g6, 5, none⟩ = some (.slice Aq nt ct) ∧ W.cell? ⟨g6, 6, none⟩ = some (.slice Am nm cm)) W) := Lib.hid fun W hW => by
     obtain ⟨x0, x1, x2, x3, x4, x5, x6, -⟩ := ((HX4.out.later HBQ.out HX4.out.lt).later hW (HX4.out.later HBQ.out HX4.out.lt).lt).cells
     exact ⟨x0, x1, x2, x3, x4, x5, x6⟩
    clear h9 h10 e2 e3 hb9 hsz
    generalize hasK ks kq = hh at *
    go_upto_region 14 with fail
    have HBU : Hid (Below wr.heap.size wr wr.drew) := Lib.hid (below_drew (Below.refl _ _))
    have HBQ0 := Lib.hid HBQ.out.size
    refine wp_region_noPanic ?_
    refine wp_region_held_drew (S := (fun W : World => W.cell? ⟨g6, 0, none⟩ = some (.string ⟨#[119]⟩) ∧ W.cell? ⟨g6, 1, none⟩ = some (.slice Bu nu cu) ∧ W.cell? ⟨g6, 2, none⟩ = some (.int .i64 cl) ∧ W.cell? ⟨g6, 3, none⟩ = some (.int .u64 (nx : Nat)) ∧ W.cell? ⟨g6, 4, none⟩ = some (.slice Ak nk ck) ∧ W.cell? ⟨g6, 5, none⟩ = some (.slice Aq nt ct) ∧ W.cell? ⟨g6, 6, none⟩ = some (.slice Am nm cm))) (by kernel_rfl) ?_ (fun hHeld => ?_)
    ·exact KS.out _ HBU.out
    refine tk 0 rfl ?_
    try simp only [ap]
    refine tk 1 rfl ?_
    try simp only [ap]
    refine tk 3 rfl ?_
    try simp only [ap]
    refine tk 4 rfl ?_
    try simp only [ap]
    refine wpAnyH_ready (rs := [2]) (by kernel_rfl) (by simp) ?_
    refine cons_drop rfl (fun K hK => ?_) AllReadyH.nil
    go_simp
    (with_reducible refine (HH1.out _ HBU.out).mono ?_)
    rintro e5 w5 ⟨rfl, hw5⟩
    subst hw5
    go_wp2_with fail
    refine hK.out _ _ (KS.out _ HBU.out) (fun hHeld2 => ?_)
    clear hK K hHeld
    try simp only [ap]
    refine wpAnyH_ready (rs := [5]) (by kernel_rfl) (by simp) ?_
    refine cons_drop rfl (fun K hK => ?_) AllReadyH.nil
    go_simp
    (with_reducible refine (HH2.out _ HBU.out).mono ?_)
    rintro e6 w6 ⟨rfl, hb9⟩
    have HB6 : Hid (Below wr.heap.size wr w6) := Lib.hid (HBU.out.trans (hb9.mono HBU.out.size))
    clear hb9
    go_wp2_with fail
    refine hK.out _ _ (KS.out _ HB6.out) (fun hHeld3 => ?_)
    clear hK K hHeld2
    try simp only [ap]
    refine tk 6 rfl ?_
    try simp only [ap]
    refine wpAnyH_done (by kernel_rfl) ?_ _
    refine NoPanic.normal ?_
    clear hHeld3
    have hxx : (hh != hh) = false := by cases hh <;> rfl
    have HREL : Hid (Below w4.heap.size w4 w6) := Lib.hid (HBQ.out.trans (HB6.out.mono HBQ.out.size))
    go_wp2_with fail
    go_roundw
    case rel => exact ⟨q + 1, by omega, by go_num, HREL.out⟩
    case measure => simp [intOf]; omega
  clear hlw
  have hjl : j < bl.length := by have := HM.out; omega
  obtain ⟨b0, off, rfl, hblt, h3⟩ := (S.bts HBT.out).at_ (by omega)
  obtain ⟨A2, c2, hfl, hat, hes, d0, d1, d2⟩ := h3 j hjl
  replace d0 := (leads_veil _ _).cell d0; replace d1 := (leads_veil _ _).cell d1; replace d2 := (leads_veil _ _).cell d2
  have hT := HLI.out.take j hjl
  have hN : j ≤ 1000000 := by have := HLI.out.len; omega
  have hbin := HLI.out.bin j hjl
  have HNEXT : Hid (rep ⟨#[119]⟩ (bl.take (j + 1)) = (addM (rep ⟨#[119]⟩ (bl.take j)) bl[j]).2) := Lib.hid (rep_take _ bl j hjl)
  obtain ⟨b, hbj⟩ : ∃ b, b = bl[j] := ⟨_, rfl⟩
  rw [← hbj] at hfl hat hes d0 d1 d2 hT hbin HNEXT
  rw [← hhm] at S hx hr hg HNEXT
  clear h3 hbj hhm hblt
  obtain ⟨W1, hW1⟩ : ∃ W1, W1 = wr.alloc (.cells #[.string b.flow, .int .u64 (b.at' : Nat), .slice A2 b.es.length c2] 36) := ⟨_, rfl⟩
  have hb01 : Below wr.heap.size wr W1 := by rw [hW1]; exact (Below.refl _ _).alloc (Nat.le_refl _) _
  obtain ⟨g8, hg8⟩ : ∃ g, g = wr.heap.size := ⟨_, rfl⟩
  have hz1 : W1.heap.size = wr.heap.size + 1 := by rw [hW1]; simp
  have hb8 : Cn.BB W1 g8 b.flow b.at' A2 b.es.length c2 := by rw [hW1, hg8]; exact heap_alloc_new wr _
  have hgx : g8 ≠ hb ∧ ∀ r, rowOf A = some r → r ≠ g8 := ⟨by have := S.hat.lt; omega, fun r hr' => by have := S.hat.row.row_lt r hr'; omega⟩
  have S1 := S.later hb01
  have hr1 := hr.leads (veil_below _ hb01)
  have hes1 := EvsIn.leads hes (veil_below _ hb01)
  have hx1 := hx.later hb01 hx.lt
  have HC1 := Lib.hid (S1.add hg b A2 c2 hes1 hbin (by omega) hN hfl hat)
  have HS1 := Lib.hid S1; have HES1 := Lib.hid hes1; have HG := Lib.hid hg; have HBIN := Lib.hid hbin; have HT := Lib.hid hT; have HFL := Lib.hid hfl; have HATB := Lib.hid hat; have HR1 := Lib.hid hr1; have HN := Lib.hid hN
  have HX1 := Lib.hid hx1; have HB8 := Lib.hid hb8; have HGX := Lib.hid hgx
  have HG8 : Hid (g8 < W1.heap.size) := Lib.hid (by rw [hg8, hz1]; omega)
  obtain ⟨y0, y1, y2, -⟩ := hb8.cells
  have HW1 := Lib.hid hW1; have HGG8 := Lib.hid hg8
  clear S hx hr hg hT hbin hfl hat hes hes1 hr1 hx1 hb8 hb01 hz1 hW1 hg8 S1 hgx hN
  rw [hfw] at HX1
  generalize hcl : hm.s.closed = cl at *
  generalize hnx : hm.s.next = nx at *
  generalize hff : b.flow = ff at *
  generalize hatt : b.at' = at' at *
  generalize hen : b.es.length = en at *
  go_upto_region 8 with fail
  rw [← HW1.out, ← HGG8.out]
  go_wp2_with fail
  refine HC1.out.mono ?_
  rintro r w2 ⟨rfl, bt2, bm2, bk2, n2, A3, cap2, S2, hl2, hc2⟩
  have hx2 := HX1.out.off HS1.out rfl hc2
  have hr2 := HR1.out.leads hl2
  have hes2 := EvsIn.leads HES1.out hl2
  have hb82 : Cn.BB w2 g8 ff at' A2 en c2 := (hc2.block g8 HG8.out fun e => by
   rcases e with e | e
   ·exact HGX.out.1 e
   ·exact HGX.out.2 g8 e rfl).trans HB8.out
  have HC2 := Lib.hid (S2.radd (hx := hm) _ _ _ _ hr2 HG.out b A2 c2 hes2 HBIN.out (by have := HT.out; omega) HN.out (by rw [hff]; exact HFL.out) (by rw [hatt]; exact HATB.out))
  rw [hff, hatt, hen, hfw, hcl, hnx] at HC2
  unfold rhC at HC2
  have HS2 := Lib.hid S2; have HX2 := Lib.hid hx2; have HG6L := Lib.hid hx2.lt
  clear y0 y1 y2
  obtain ⟨y0, y1, y2, -⟩ := hb82.cells
  obtain ⟨x0, x1, x2, x3, x4, x5, x6, -⟩ := hx2.cells
  clear S2 hl2 hc2 hx2 hr2 hes2 hb82 HC1 HX1 HR1 HES1 HB8
  go_wp2_with fail
  refine HC2.out.mono ?_
  rintro r w3 ⟨hb3, ub1, uk1, ut1, um1, rfl, hr3⟩
  obtain ⟨⟨Bu1, nu1, cu1, rfl⟩, ⟨Ak1, nk1, ck1, rfl⟩, ⟨Aq1, nt1, ct1, rfl⟩, ⟨Am1, nm1, cm1, rfl⟩⟩ := hr3.slices
  rw [hfw]
  unfold rhC
  obtain ⟨hm1, hhm1⟩ : ∃ h', h' = (addM hm b).2 := ⟨_, rfl⟩
  have hfw1 : hm1.flow = ⟨#[119]⟩ := by rw [hhm1, addM_flow, hfw]
  rw [← hhm1] at hr3 HNEXT ⊢
  obtain ⟨cl1, hcl1⟩ : ∃ x, x = hm1.s.closed := ⟨_, rfl⟩
  obtain ⟨nx1, hnx1⟩ : ∃ x, x = hm1.s.next := ⟨_, rfl⟩
  rw [← hcl1, ← hnx1]
  generalize (addM hm b).1 = cd at *
  obtain ⟨W4, hW4⟩ : ∃ W4, W4 = ((((((w3.setCell ⟨g6, 0, none⟩ (.string ⟨#[119]⟩)).setCell ⟨g6, 1, none⟩ (.slice Bu1 nu1 cu1)).setCell ⟨g6, 2, none⟩ (.int .i64 cl1)).setCell ⟨g6, 3, none⟩ (.int .u64 (nx1 : Nat))).setCell ⟨g6, 4, none⟩ (.slice Ak1 nk1 ck1)).setCell ⟨g6, 5, none⟩ (.slice Aq1 nt1 ct1)).setCell ⟨g6, 6, none⟩ (.slice Am1 nm1 cm1) := ⟨_, rfl⟩
  have hx3 := HX2.out.later hb3 HX2.out.lt
  have hc4 : Chg (fun c => c = g6) w3 W4 := by rw [hW4]; exact setCells7_chg (Y := fun c => c = g6) (g := g6) rfl _ _ _ _ _ _ _
  have hx4 : RX W4 g6 ⟨#[119]⟩ (.slice Bu1 nu1 cu1) cl1 nx1 (.slice Ak1 nk1 ck1) (.slice Aq1 nt1 ct1) (.slice Am1 nm1 cm1) := by rw [hW4]; exact hx3.seven
  have S4 := (HS2.out.later hb3).chg hc4
  rw [← hhm1] at S4
  have HREL : Hid (LW w0 g6 W4 hb (rep ⟨#[119]⟩ (bl.take (j + 1)))) := Lib.hid (by
   rw [HNEXT.out]
   refine ⟨bt2, bm2, bk2, n2, A3, cap2, _, _, _, _, S4, ?_, hr3.leads (chgY_leads hc4)⟩
   rw [hfw1, ← hcl1, ← hnx1]
   exact hx4)
  have HW4 := Lib.hid hW4
  clear x0 x1 x2 x3 x4 x5 x6 y0 y1 y2
  obtain ⟨x0, x1, x2, x3, x4, x5, x6, xf⟩ := hx3.cells
  have xf0 := xf 0; have xf1 := xf 1; have xf2 := xf 2; have xf3 := xf 3; have xf4 := xf 4; have xf5 := xf 5; have xf6 := xf 6
  clear xf S4 hc4 hx4 hx3 hW4 hr3 hb3 hhm1 hcl1 hnx1 hfw1 HS2 HX2 HC2
  go_wp2_with fail
  rw [← HW4.out]
  go_roundw
  case rel => exact ⟨j + 1, by omega, by go_num, HREL.out⟩
  case measure => simp [intOf]; omega
end Hi
end Go.Proofs.YtkajcldmolcllaaGreat
namespace Go.Proofs.YtkajcldmolcllaaGreat
namespace Hi
set_option maxRecDepth 100000 in
theorem keys_open {H : Type} {enc : TypeId × Value → H} {base b1 : Nat} {spare : Nat → Bool} {held : Bool} {d0 d1 : DataW H} {p0 p1 : List MemPlace} (v0 v1 : Value) (W : World)
  (o0 : Value.okWide Tryz.prog W .any base 22 v0) (k0 : DataW.Trod enc Tryz.prog W b1 spare held 22 v0 d0 p0) (hs0 : ∀ x ∈ d0.weights Tryz.prog 22, x ≤ reachBytes)
  (o1 : Value.okWide Tryz.prog W .any base 9 v1) (k1 : DataW.Trod enc Tryz.prog W b1 spare held 9 v1 d1 p1) (hs1 : ∀ x ∈ d1.weights Tryz.prog 9, x ≤ reachBytes) :
  Calls Tryz.prog 3 #[v0, v1] W fun r w' => r = .returned (.bool true) ∧ Below W.heap.size W w' := by
 obtain ⟨s, rfl, hs⟩ := str_open v1 W o1 k1
 obtain ⟨bl, A, cap, rfl, hB, hl⟩ := bts_open v0 W o0 k0 hs0
 exact keys_walk bl A cap s hs W hB hl
end Hi
end Go.Proofs.YtkajcldmolcllaaGreat
