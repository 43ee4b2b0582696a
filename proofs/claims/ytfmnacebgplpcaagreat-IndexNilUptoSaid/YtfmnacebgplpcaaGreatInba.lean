/- The reference's Records; the same records. -/
import Derived.Test.YtfmnacebgplpcaaGreatInay
import Derived.Test.YtfmnacebgplpcaaGreatInaz
import Derived.Test.YtfmnacebgplpcaaGreatInat
import Derived.Test.YtfmnacebgplpcaaGreatInax
import Derived.Test.YtfmnacebgplpcaaGreatInaw
set_option maxRecDepth 100000
set_option maxHeartbeats 4000000
variable {p : Prop}
set_option linter.unusedVariables false
set_option linter.unusedSimpArgs false
open Go.RowKit
namespace Go.Proofs.YtfmnacebgplpcaaGreat
namespace Hi
open _root_.Go.Proofs.YtfmnacebgplpcaaGreat.Nm (Ds Df)
open Vt (VT Rep Da)
open Ev (EV Dk Dc Dn Dy tk ap rd1 rd2 Dj)
open Cm (Dl EvsIn)
open Cn (BT BB BtsIn Dt GO VD)
open Bt (BOwn)
variable {E Z : Nat → Prop} {u v w w' w0 V V' : World} {xb : Nat} {x : XM}
theorem SP {base base' n k : Nat} {T : TypeId} {v : Value} {xs : List Value} (h : w.ownsRow base T k v n xs) (hb : base' ≤ base) : w.ownsRow base' T k v n xs := by
 refine ⟨h.1, ?_⟩
 rcases h.2 with q | ⟨r, cp, cur, e, q2, q3⟩
 ·exact .inl q
 ·exact .inr ⟨r, cp, cur, e, Nat.le_trans hb q2, q3⟩
theorem RecV.base {base base' n : Nat} {u : Value} {ls : List (List Nat)} (h : RecV w base u n ls) (hb : base' ≤ base) : RecV w base' u n ls := by
 obtain ⟨h1, xs, h2, h3⟩ := h
 exact ⟨h1, xs, SP h2 hb, fun i hi => by
  obtain ⟨v, k1, k2, k3⟩ := h3 i hi
  exact ⟨v, k1, SP k2 hb, k3⟩⟩
def RIn (w : World) (u : Value) (ls : List (List Nat)) : Prop := ∃ A c, u = .slice A ls.length c ∧ ls.length ≤ c ∧ c ≤ maxLen ∧ (0 < ls.length → ∃ b off, A = some ⟨b, off, none⟩ ∧ b < w.heap.size ∧ ∀ i (h : i < ls.length), ∃ v, w.cell? ⟨b, off + i, none⟩ = some v ∧ Bt.BIn w v ls[i])
theorem RecV.rin {base n : Nat} {u : Value} {ls : List (List Nat)} (h : RecV w base u n ls) : RIn w u ls := by
 obtain ⟨rfl, xs, h2, h3⟩ := h
 have h1c : ∀ y ∈ xs, y.oneCell' = true := fun y hy => by
  obtain ⟨i, hi, rfl⟩ := List.getElem_of_mem hy
  have hl := h2.1
  obtain ⟨v, k1, k2, -⟩ := h3 i (by omega)
  rw [List.getElem?_eq_getElem hi] at k1
  rw [Option.some.inj k1]
  exact Cn.PK k2.read
 obtain ⟨-, -, A, c, e, q1, q2, q3⟩ := CIn.of_own h2 h1c
 refine ⟨A, c, e, q1, q2, fun hp => ?_⟩
 obtain ⟨b, off, e2, hb, hq⟩ := q3 hp
 refine ⟨b, off, e2, hb, fun i hi => ?_⟩
 obtain ⟨v, k1, k2, -⟩ := h3 i hi
 exact ⟨v, hq i v k1, k2.read⟩
theorem RIn.later {u : Value} {ls : List (List Nat)} (h : RIn w u ls) (hb : Below w.heap.size w w') : RIn w' u ls := by
 obtain ⟨A, c, e, h1, h2, h3⟩ := h
 refine ⟨A, c, e, h1, h2, fun hp => ?_⟩
 obtain ⟨b, off, e2, hbl, hq⟩ := h3 hp
 refine ⟨b, off, e2, Nat.lt_of_lt_of_le hbl hb.size, fun i hi => ?_⟩
 obtain ⟨v, k1, k2⟩ := hq i hi
 exact ⟨v, (hb.cell (p := ⟨b, off + i, none⟩) hbl).trans k1, k2.later hb⟩
theorem Xr (l : List Nat) (u u' : Value) (w : World) (hb : ∀ b ∈ l, b < 256) (h : Bt.BIn w u l) (h' : Bt.BIn w u' l) : Calls Tryz.prog 37 #[u, u'] w fun r w' => r = .returned (.bool true) ∧ Below w.heap.size w w' := by
 have hc := h.toText hb
 have hc' := h'.toText hb
 obtain ⟨A, c, rfl⟩ : ∃ A c, u = .slice A l.length c := by
  rcases h with ⟨e, q⟩ | ⟨ad, cap, e, -⟩
  ·exact ⟨_, _, by rw [e, q]; rfl⟩
  ·exact ⟨_, _, e⟩
 obtain ⟨A', c', rfl⟩ : ∃ A c, u' = .slice A l.length c := by
  rcases h' with ⟨e, q⟩ | ⟨ad, cap, e, -⟩
  ·exact ⟨_, _, by rw [e, q]; rfl⟩
  ·exact ⟨_, _, e⟩
 generalize (⟨(l.map UInt8.ofNat).toArray⟩ : ByteArray) = s at *
 have kk : (s.toList == s.toList) = true := beq_self_eq_true _
 clear h h' hb
 go_enter Tryz.func37, Tryz.ntmps37
 exact M84
theorem Q567.Y564 (h : p := by
 refine tk 7 rfl ?_
 refine rd1 8 rfl fun K hK => ?_
 go_simp
 (with_reducible refine HC.out.mono ?_)
 rintro r w2 ⟨rfl, hb2⟩
 have HB2 : Hid (Below wr.heap.size wr w2) := Lib.hid ((Da (Below.refl _ _) : Below wr.heap.size wr wr.drew).trans hb2)
 clear hb2
 go_wp2_with fail
 refine hK.out _ _ (KS.out _ HB2.out) (fun hHeld2 => ?_)
 clear hK K hHeld
 try simp only [ap]
 refine tk 9 rfl ?_
 refine wpAnyH_done (by kernel_rfl) ?_ _
 refine NoPanic.normal ?_
 clear hHeld2
 have HB3 : Hid (Below w.heap.size w w2) := Lib.hid (HB.out.trans (HB2.out.mono HB.out.size))
 go_wp2_with fail
 go_roundw
 case rel => exact ⟨j + 1, by omega, by go_num, rfl, HB3.out⟩
 case measure => simp [intOf]; omega) : p := h
theorem Xq (ls : List (List Nat)) (u u' : Value) (w : World) (hby : ∀ l ∈ ls, ∀ b ∈ l, b < 256) (h : RIn w u ls) (h' : RIn w u' ls) (hlen : ls.length ≤ 1000000) : Calls Tryz.prog 14 #[u, u'] w fun r w' => r = .returned (.bool true) ∧ Below w.heap.size w w' := by
 have HK := Lib.hid h; have HK' := Lib.hid h'; have HBY := Lib.hid hby
 obtain ⟨A, c, rfl, hle, hcm, -⟩ := h
 obtain ⟨A', c', rfl, hle', hcm', -⟩ := h'
 simp only [maxLen] at hcm hcm'
 obtain ⟨m, hm⟩ : ∃ m, m = ls.length := ⟨_, rfl⟩
 rw [← hm] at hle hle' hlen ⊢
 have HM := Lib.hid hm
 clear hm hby
 have kne : ((m : Int) != (m : Int)) = false := by rw [bne, beq_self_eq_true]; rfl
 go_enter Tryz.func14, Tryz.ntmps14
 go_wp2_with fail
 go_loopw [4, 5] (fun r i wr => ∃ j : Nat, j ≤ m ∧ i = .int .i64 j ∧ r = .bool false ∧ Below w.heap.size w wr) (fun _ i _ => m - (intOf i).toNat)
 case atStart => exact ⟨0, by omega, rfl, rfl, Below.refl _ _⟩
 case round =>
  obtain ⟨j, hj, rfl, rfl, hb⟩ := hrel
  have HB := Lib.hid hb
  by_cases hlt : j < m
  ·have hbd := hb.trans ((Da (Below.refl _ _) : Below wr.heap.size wr wr.drew).mono hb.size)
   obtain ⟨A1, c1, e1, -, -, k1⟩ := HK.out.later hbd
   obtain ⟨A2, c2, e2, -, -, k2⟩ := HK'.out.later hbd
   rw [← HM.out] at e1 e2
   obtain ⟨rfl, rfl⟩ : A = A1 ∧ c = c1 := by injection e1 with a1 a2 a3; exact ⟨a1, a3⟩
   obtain ⟨rfl, rfl⟩ : A' = A2 ∧ c' = c2 := by injection e2 with a1 a2 a3; exact ⟨a1, a3⟩
   obtain ⟨g, off, rfl, hg1, hg⟩ := k1 (by have := HM.out; omega)
   obtain ⟨g', off', rfl, hg1', hg'⟩ := k2 (by have := HM.out; omega)
   obtain ⟨y, d0, hy⟩ := hg j (by have := HM.out; omega)
   obtain ⟨y', d0', hy'⟩ := hg' j (by have := HM.out; omega)
   have d1 : wr.cell? ⟨g, off + j, none⟩ = some y := d0
   have d1' : wr.cell? ⟨g', off' + j, none⟩ = some y' := d0'
   have HC := Lib.hid (Xr _ y y' wr.drew (HBY.out _ (List.getElem_mem _)) hy hy')
   have hjn : (j : Int) < (m : Int) := by omega
   obtain ⟨B1, n1, cc1, rfl⟩ : ∃ A n c, y = .slice A n c := by
    rcases hy with ⟨e, -⟩ | ⟨ad, cap, e, -⟩ <;> exact ⟨_, _, _, e⟩
   obtain ⟨B2, n2, cc2, rfl⟩ : ∃ A n c, y' = .slice A n c := by
    rcases hy' with ⟨e, -⟩ | ⟨ad, cap, e, -⟩ <;> exact ⟨_, _, _, e⟩
   clear hb hbd e1 e2 k1 k2 hg hg' hy hy'
   go_upto_region 6 with fail
   have KS : Hid (∀ W, Below wr.heap.size wr W → (fun W : World => W.cell? ⟨g, off + j, none⟩ = some (.slice B1 n1 cc1) ∧ W.cell? ⟨g', off' + j, none⟩ = some (.slice B2 n2 cc2)) W) := Lib.hid fun W hW => ⟨(hW.cell (p := ⟨g, off + j, none⟩) hg1).trans d1, (hW.cell (p := ⟨g', off' + j, none⟩) hg1').trans d1'⟩
   refine wp_region_noPanic ?_
   refine wp_region_held_drew (S := (fun W : World => W.cell? ⟨g, off + j, none⟩ = some (.slice B1 n1 cc1) ∧ W.cell? ⟨g', off' + j, none⟩ = some (.slice B2 n2 cc2))) (by kernel_rfl) ?_ (fun hHeld => ?_)
   ·exact M49
   open Q567 in exact M564
  ·have hjm : j = m := by omega
   subst hjm
   clear hb
   exact M132
theorem frm_byt {b : BT} (hv : Dt b.flow b.at' b.es = true) (hl : b.es.length ≤ 2097152) {A : Option Addr} {c : Nat} (hev : EvsIn w A c b.es) : ∀ y ∈ frm b, y < 256 := by
 have h := hv
 unfold Dt at h
 simp only [Bool.and_eq_true, decide_eq_true_eq] at h
 exact Rd.LF h.1.1.1.2 (by omega) (by omega) (Rd.good_of hev hv)
theorem Q461.Y460 (h : p := by
 have HB04 : Hid (Below W0.heap.size W0 W4) := Lib.hid (HB.out.trans (HB4.out.mono HB.out.size))
 subst hv2
 have HW4 := Lib.hid hW4
 clear hb2 hb4 hbo hW4 HCL d0 d1 d2 x0 x1
 go_wp2_with (at_builtin; rw [← HW4.out]; refine DA _ rfl _ _ 38 40 rfl i0 _ 1 24 Tryz.underlying38 HSZ.out hi0 hz0 hz1 hz2 rfl (by decide) W0.heap.size _ _ j 1 xs3 [.slice A3 fb.length c3] rfl rfl HO4.out HIN.out (by simp only [maxLen]; omega) (by omega) HB04.out.size ?_; intro u5 w5 hown5 hgrow5 hat5)
 have HR5 : Hid (RecV w5 W0.heap.size u5 (j + 1) ((al.map frm).take (j + 1))) := Lib.hid (by
  rw [HST.out]
  refine RecV.push (w := W4) HLN.out hx3 (fun i h => ?_) (SP HBO.out HB.out.size) (fun k hk e => ?_) hown5 hgrow5 hat5
  ·exact M180
  ·have h1 := (HBO.out.lt k hk).1
   have h2 := (HOWN.out.lt k e).2
   omega)
 have HB5 : Hid (Below W0.heap.size W0 w5) := Lib.hid (DD HB04.out hgrow5 (fun r hr => (HO4.out.lt r hr).1) HB04.out.size)
 exact M142) : p := h
theorem Q483.Y481 (h : p := by
 have HB0 := Lib.hid hb0; have HC := Lib.hid hc; have HRD := Lib.hid hrd; have HOK := Lib.hid hok
 obtain ⟨al, hal⟩ : ∃ al, al = x.all := ⟨_, rfl⟩
 rw [← hal] at HC HOK HX HRD hle hW0 hlen ⊢
 obtain ⟨m, hm⟩ : ∃ m, m = al.length := ⟨_, rfl⟩
 rw [← hm] at hle HX hW0 HRD hlen ⊢
 have HM := Lib.hid hm
 generalize x.flows.length = nF at *
 clear h h1 hb0 hc hrd hm hl3 hx0 hok hal
 replace hW0 := Lib.hid hW0
 obtain ⟨i0, hi0, hz0, hz1, hz2⟩ := info_parts Tryz.infoRr
 have HSZ := Lib.hid (Oy hi0 hz1)
 go_enter Tryz.func15, Tryz.ntmps15
 go_upto_region 1 with fail
 rw [← hW0.out]
 go_wp2_with fail
 go_loopw [3, 4] (fun u3 i wr => ∃ j : Nat, j ≤ m ∧ i = .int .i64 j ∧ RecV wr W0.heap.size u3 j ((al.map frm).take j) ∧ Below W0.heap.size W0 wr) (fun _ i _ => m - (intOf i).toNat)
 case atStart => exact ⟨0, by omega, rfl, by rw [List.take_zero]; exact RecV.nil _ _, Below.refl _ _⟩
 case round =>
  obtain ⟨j, hj, rfl, hrec, hb⟩ := hrel
  have HB := Lib.hid hb
  obtain ⟨x0, x1, -⟩ := (HX.out wr HB.out).cells
  by_cases hlt : j < m
  ·have hjl : j < al.length := by have := HM.out; omega
   have hbw : Below w.heap.size w wr := HB0.out.trans (hb.mono HB0.out.size)
   obtain ⟨rb, off, rfl, hbl, hq⟩ := HRD.out (by omega)
   obtain ⟨A2, c2, b1, b2, b3, b4, b5, b6⟩ := HC.out.2 j hjl
   have d0 := (hbw.cell (p := ⟨rb, off + j * 3, none⟩) hbl).trans (hq _ _ b4)
   have d1 := (hbw.cell (p := ⟨rb, off + (j * 3 + 1), none⟩) hbl).trans (hq _ _ b5)
   have d2 := (hbw.cell (p := ⟨rb, off + (j * 3 + 2), none⟩) hbl).trans (hq _ _ b6)
   rw [← Nat.add_assoc] at d1 d2
   obtain ⟨o1, o2, o3⟩ := HOK.out _ (List.getElem_mem hjl)
   have HCL := Lib.hid ((Rf.Vr al[j].es o2 al[j].flow b1 al[j].at' b2 (fun _ => o3) A2 c2 wr (b3.later hbw)).mono fun r w' (k : Rf.RBB al[j].flow al[j].at' al[j].es wr r w') => (show ∃ v, r = .returned (.tuple #[v, .bool true]) ∧ BOwn w' wr.heap.size v (frm al[j]) ∧ Below wr.heap.size wr w' from by
    obtain ⟨v, q1, q2⟩ := k.1 o1
    exact ⟨v, q1, q2, k.2.2⟩))
   have hst : (al.map frm).take (j + 1) = (al.map frm).take j ++ [frm al[j]] := by rw [List.take_succ_eq_append_getElem (by rw [List.length_map]; exact hjl), List.getElem_map]
   obtain ⟨hln, xs3, hown3, hall3⟩ := hrec
   have hx3 : xs3.length = j := by have := hown3.1; omega
   have HST := Lib.hid hst; have HALL := Lib.hid hall3; have HOWN := Lib.hid hown3; have HLN := Lib.hid hln
   clear hb hq b1 b2 b3 b4 b5 b6 o1 o2 o3 hst hall3 hown3 hln hbl hbw
   obtain ⟨fb, hfb⟩ : ∃ fb, fb = frm al[j] := ⟨_, rfl⟩
   rw [← hfb] at HCL HST
   clear hfb
   generalize al[j].flow = ff at *
   generalize al[j].at' = at' at *
   generalize hen : al[j].es.length = en at *
   clear hen
   go_upto_region 5 with fail
   go_wp2_with fail
   refine HCL.out.mono ?_
   rintro r w2 ⟨v2, rfl, hbo, hb2⟩
   obtain ⟨A3, c3, hv2⟩ := UY hbo
   open Q461 in exact M460
  ·have hjm : j = m := by omega
   subst hjm
   rw [show (al.map frm).take j = al.map frm by rw [HM.out, ← List.length_map frm]; exact List.take_length] at hrec
   obtain ⟨A, c, rfl, -⟩ : ∃ A c, u3 = .slice A j c ∧ True := by
    exact M154
   have HREC := Lib.hid hrec
   clear hrec hb
   go_wp2_with fail
   go_ret
   exact ⟨A, c, rfl, HREC.out.base HB0.out.size, HB0.out.trans (HB.out.mono HB0.out.size)⟩) : p := h
theorem Vq (x : XM) (uA uF : Value) (w : World) (h : RIx w x uA uF) (hlen : x.all.length ≤ 1000000) (hok : ∀ b ∈ x.all, Dt b.flow b.at' b.es = true ∧ (∀ e ∈ b.es, e.v.few = true) ∧ ((b.es.map Vf.DM).flatten).length ≤ 17592186044416) :
  Calls Tryz.prog 15 #[.agg #[uA, uF]] w fun r w' => ∃ A c, r = .returned (.slice A x.all.length c) ∧ RecV w' w.heap.size (.slice A x.all.length c) x.all.length (x.all.map frm) ∧ Below w.heap.size w w' := by
 obtain ⟨-, A1, c1, rfl, -, -⟩ := h.slices
 obtain ⟨xs, ⟨hl3, h1, A, cap, rfl, hle, hcap, hrd⟩, hc⟩ := h.all
 open Q483 in exact M481
open Cn (OV)
variable {w w' w0 W : World} {xb : Nat} {x : XM}
theorem UC (l : List BT) : ∀ b ∈ (DT l).all, Dt b.flow b.at' b.es = true := by
 induction l using Pu with
 | h0 => intro b hb; simp [DT, XM.new] at hb
 | h1 l c ih =>
  intro b hb
  rw [GJ] at hb
  by_cases hc : (DC (DT l) c).1 = 0
  ·rw [(Fw hc).1] at hb
   rcases List.mem_append.1 hb with q | q
   ·exact ih b q
   ·rw [List.mem_singleton.1 q]; exact (Fw hc).2.2.1
  ·rw [Gs hc] at hb
   exact ih b hb
theorem frm_ne (b : BT) : frm b ≠ [] := by
 intro h
 have h2 := congrArg List.length h
 unfold frm Cn.GR at h2
 have h5 := Rd.PH 10 b.at'
 simp only [List.length_append, List.length_nil] at h2
 omega
theorem KU {bl : List BT} (hf : VD bl) (hl : ∀ b ∈ bl, b.es.length ≤ 2097152) : ∀ b ∈ (DT bl).all, (Dt b.flow b.at' b.es = true ∧ (∀ e ∈ b.es, e.v.few = true) ∧ ((b.es.map Vf.DM).flatten).length ≤ 17592186044416) ∧ (frm b).length ≤ 35184372088832 ∧ frm b ≠ [] := fun b hb => by
 have hv := UC bl b hb
 obtain ⟨i, hi, rfl⟩ := List.getElem_of_mem (JV bl b hb)
 have h1 := SY (hl _ (List.getElem_mem hi)) (fun k hk => hf.few i hi k hk) hv
 refine ⟨⟨hv, fun e he => ?_, h1.2.1⟩, ?_, frm_ne _⟩
 ·obtain ⟨k, hk, rfl⟩ := List.getElem_of_mem he
  exact few_v2 (hf.few i hi k hk)
 ·have h2 := h1.2.1
  have h3 := hv
  unfold Dt at h3
  simp only [Bool.and_eq_true, decide_eq_true_eq] at h3
  have h4 := h3.1.1.1.2
  unfold frm Cn.GR
  have h5 := Bt.Dh 10 bl[i].flow.size; have h6 := Bt.Dh 10 bl[i].at'; have h7 := Bt.Dh 10 bl[i].es.length; have h8 := Bt.Fi bl[i].flow
  simp only [List.length_append]
  omega
def RecT (W : World) (base : Nat) (A : Option Addr) (ns : List Nat) : Prop := 0 < ns.length → ∃ r, A = some ⟨r, 0, none⟩ ∧ base ≤ r ∧ r < W.heap.size ∧ ∀ i (h : i < ns.length), ∃ q cq, W.cell? ⟨r, i, none⟩ = some (.slice (some ⟨q, 0, none⟩) ns[i] cq) ∧ ns[i] ≤ cq ∧ cq ≤ maxLen ∧ q ≠ r ∧ base ≤ q ∧ ∃ cur, W.heap[q]? = some (.cells cur 5 (0, 0)) ∧ ∀ p, p < ns[i] → ∃ y : Nat, y < 256 ∧ cur[p]? = some (.int .u8 (y : Int))
theorem RecT.write {base r q p : Nat} {A : Option Addr} {ns : List Nat} (h : RecT W base A ns) (hA : A = some ⟨r, 0, none⟩) (hq : q ≠ r) (y : Nat) (hy : y < 256) : RecT (W.setCell ⟨q, p, none⟩ (.int .u8 (y : Int))) base A ns := fun hp => by
 obtain ⟨r', e, h1, h2, h3⟩ := h hp
 obtain rfl : r' = r := by rw [hA] at e; injection e with e; injection e with e; exact e.symm
 refine ⟨r', e, h1, by simpa [World.setCell] using h2, fun i hi => ?_⟩
 obtain ⟨q', cq, k1, k2, k3, k4, k5, cur, k6, k7⟩ := h3 i hi
 refine ⟨q', cq, (World.cell?_of_block (a := ⟨r', i, none⟩) (RowKit.Below.heap_setCell _ _ _ _ (fun e => hq (show q = r' from e.symm)))).trans k1, k2, k3, k4, k5, ?_⟩
 by_cases hqq : q' = q
 ·subst hqq
  refine ⟨cur.setIfInBounds p (.int .u8 (y : Int)), by simp [World.setCell, Array.getElem?_modify, k6], fun p' hp' => ?_⟩
  obtain ⟨z, z1, z2⟩ := k7 p' hp'
  have hlt := (Array.getElem?_eq_some_iff.1 z2).1
  by_cases hpp : p = p'
  ·subst hpp
   exact ⟨y, hy, by simp [Array.getElem?_setIfInBounds, hlt]⟩
  ·exact ⟨z, z1, by rw [Array.getElem?_setIfInBounds_ne hpp]; exact z2⟩
 ·exact ⟨cur, (RowKit.Below.heap_setCell _ _ _ _ (show q' ≠ q from hqq)).trans k6, k7⟩
theorem RecV.typed {base n c : Nat} {A : Option Addr} {ls : List (List Nat)} (h : RecV W base (.slice A n c) n ls) (hne : ∀ l ∈ ls, l ≠ []) (hby : ∀ l ∈ ls, ∀ b ∈ l, b < 256) : RecT W base A (ls.map List.length) := fun hp => by
 obtain ⟨hln, xs, hown, hall⟩ := h
 rw [List.length_map] at hp
 obtain ⟨r, rfl⟩ : ∃ r, A = some ⟨r, 0, none⟩ := by
  rcases hown.2 with ⟨e, h0⟩ | ⟨r, cp, cur, e, -⟩
  ·omega
  ·injection e with e; exact ⟨r, e⟩
 have hlt := hown.lt r rfl
 refine ⟨r, rfl, hlt.1, hlt.2, fun i hi => ?_⟩
 rw [List.length_map] at hi
 obtain ⟨v, k1, k2, k3⟩ := hall i hi
 have hc := XA hown k1
 simp only [List.getElem_map]
 rcases k2.2 with ⟨-, h0⟩ | ⟨q, cq, cur, e, q1, q2, q3, q4, q5, q6⟩
 ·exact absurd (List.eq_nil_of_length_eq_zero h0) (hne _ (List.getElem_mem hi))
 ·subst e
  refine ⟨q, cq, hc, q3, q4, fun e => k3 q rfl (by rw [e]; rfl), q1, cur, q2, fun p hp' => ?_⟩
  have e6 : (cur.toList.take (ls[i].length * 1))[p]? = (ls[i].map fun b : Nat => Value.int .u8 (b : Int))[p]? := by rw [q6]
  rw [List.getElem?_take_of_lt (by omega), Array.getElem?_toList] at e6
  refine ⟨ls[i][p], hby _ (List.getElem_mem hi) _ (List.getElem_mem hp'), ?_⟩
  rw [e6]
  simp [hp']
theorem Ll (bl : List BT) (B : Option Addr) (bc : Nat) (w0 : World) (hB : BtsIn w0 B bc bl) (hlen : ∀ b ∈ bl, b.es.length ≤ 2097152) :
  Calls Tryz.prog 3 #[.slice B bl.length bc] w0 fun r w' => r = .returned (.bool true) ∧ Below w0.heap.size w0 w' := by
 have hle := hB.le; have hbc := hB.cap_le
 simp only [maxLen] at hbc
 have HBT := Lib.hid hB; have HLEN := Lib.hid hlen
 clear hB hlen
 obtain ⟨m, hm⟩ : ∃ m, m = bl.length := ⟨_, rfl⟩
 rw [← hm] at hle ⊢
 have HMM := Lib.hid hm; clear hm
 have HAL := Lib.hid fun W => Yy W
 go_enter Tryz.func3, Tryz.ntmps3
 go_wp2_with fail
 refine (VJ w0 (fun _ => False) (fun _ h => h.elim)).mono ?_
 rintro r w1 ⟨xb, Z0, rfl, hb1, H1, hZ1⟩
 have HB1 := Lib.hid hb1; have HH1 := Lib.hid H1; have HZ1 : Hid (∀ c, Z0 c → w0.heap.size ≤ c) := Lib.hid fun c q => (hZ1 c q).elim (fun e => e.elim) id
 have HFC := Lib.hid (show Calls _ _ _ _ _ from by have q := OV bl B bc w1 (HBT.out.later HB1.out); rw [← HMM.out] at q; exact q)
 clear hb1 H1 hZ1
 go_wp2_with fail
 refine HFC.out.mono ?_
 rintro r w2 ⟨bb, rfl, hfew, hb2⟩
 have HB2 := Lib.hid (HB1.out.trans (hb2.mono HB1.out.size)); have HFEW := Lib.hid hfew
 have HH2 := Lib.hid (HH1.out.later hb2)
 clear hb2 hfew HFC HH1
 cases bb with
 | false =>
  go_wp2_with fail
  refine (HAL.out _).mono ?_
  rintro r w3 ⟨rfl, hb3⟩
  have HB3 := Lib.hid (HB2.out.trans (hb3.mono HB2.out.size))
  clear hb3
  go_wp2_with fail
  go_ret
  exact ⟨rfl, HB3.out⟩
 | true =>
 have HLI := Lib.hid (lin_of (HFEW.out rfl) fun b hb => by have := HLEN.out b hb; omega)
 have HFO := Lib.hid (Lt (HFEW.out rfl) HLEN.out)
 have HRF := Lib.hid (KU (HFEW.out rfl) HLEN.out)
 obtain ⟨W3, hW3⟩ : ∃ W3, W3 = w2.alloc (.cells #[.slice none 0 0, .slice none 0 0] 29) := ⟨_, rfl⟩
 obtain ⟨g4, hg4⟩ : ∃ g, g = w2.heap.size := ⟨_, rfl⟩
 have HL0 : Hid (LX w0 g4 W3 xb (DT (bl.take 0))) := Lib.hid (by rw [List.take_zero, hW3]; exact lx_new HH2.out HZ1.out HB2.out hg4)
 have HG4 := Lib.hid hg4
 clear hg4 HH2
 replace hW3 := Lib.hid hW3
 go_wp2_with fail
 rw [← hW3.out, ← HG4.out]
 clear HG4 hW3 HB2 HFEW HB1
 go_loopw [27] (fun i wz => ∃ j : Nat, j ≤ m ∧ i = .int .i64 j ∧ LX w0 g4 wz xb (DT (bl.take j))) (fun i _ => m - (intOf i).toNat)
 case atStart => exact ⟨0, by omega, rfl, HL0.out⟩
 case round =>
  obtain ⟨j, hj, rfl, hlx⟩ := hrel
  clear HL0
  by_cases hjm : j < m
  ·have hjl : j < bl.length := by have := HMM.out; omega
   obtain ⟨Z, uA, uF, HX0, hZ, hbw, hbox, hri⟩ := hlx.ex
   have hbts := lx_bts HBT.out hbw hZ
   obtain ⟨⟨AA, cA, rfl, -, -⟩, AF, cF, rfl, -, -⟩ := hri.slices
   obtain ⟨b0, off, rfl, hblt, h3⟩ := hbts.at_ (by omega)
   obtain ⟨A2, c2, hfl, hat, hes, d0, d1, d2⟩ := h3 j hjl
   replace d0 := (Dg _ _).cell d0; replace d1 := (Dg _ _).cell d1; replace d2 := (Dg _ _).cell d2
   have HNEXT : Hid (DT (bl.take (j + 1)) = (DC (DT (bl.take j)) bl[j]).2) := Lib.hid (PO bl j hjl)
   obtain ⟨b, hbj⟩ : ∃ b, b = bl[j] := ⟨_, rfl⟩
   rw [← hbj] at hfl hat hes d0 d1 d2 HNEXT
   obtain ⟨x, hx⟩ : ∃ x, x = DT (bl.take j) := ⟨_, rfl⟩
   rw [← hx] at HNEXT
   rw [← hx] at HX0 hri hbox
   have hclk : x.clock < 18446744073709551616 := by rw [hx]; exact clkX_lt (bts_lt HBT.out) j (by omega)
   obtain ⟨W1, hW1⟩ : ∃ W1, W1 = wr.alloc (.cells #[.string b.flow, .int .u64 (b.at' : Nat), .slice A2 b.es.length c2] 33) := ⟨_, rfl⟩
   have hb01 : Below wr.heap.size wr W1 := by rw [hW1]; exact (Below.refl _ _).alloc (Nat.le_refl _) _
   obtain ⟨g6, hg6⟩ : ∃ g, g = wr.heap.size := ⟨_, rfl⟩
   have hz1 : W1.heap.size = wr.heap.size + 1 := by rw [hW1]; simp
   have hb6 : BB W1 g6 b.flow b.at' A2 b.es.length c2 := by rw [hW1, hg6]; exact heap_alloc_new wr _
   have HX1 := HX0.later hb01
   have hri1 := hri.leads (Dw _ hb01)
   have hes1 := EvsIn.leads hes (Dw _ hb01)
   have hbox1 := hbox.later hb01 hbox.lt
   have HC1 := Lib.hid (LX.add HX1 HLI.out HFO.out hjl hx hbj A2 c2 hes1 hfl hat hclk)
   have hgood : XGood x (tot (bl.take j)) j := by rw [hx]; exact GC HLI.out j (by omega)
   have hT2 := HLI.out.take j hjl
   have hbin := HLI.out.bin j hjl
   rw [← hbj] at hT2 hbin
   have HCR : Hid (∀ (Z' : Nat → Prop) (W : World), (∀ c, Z' c → c < W.heap.size) → RIx (Du Z' W) x (.slice AA x.all.length cA) (.slice AF x.flows.length cF) → EvsIn (Du Z' W) A2 c2 b.es → Calls Tryz.prog 12 #[.agg #[.slice AA x.all.length cA, .slice AF x.flows.length cF], .agg #[.string b.flow, .int .u64 (b.at' : Nat), .slice A2 b.es.length c2]] W (Yq Z' x b W)) := Lib.hid fun Z' W hz hr he => KL x _ _ b A2 c2 W hz hr hgood (by omega) (by have := HLI.out.len; omega) hbin he hfl hat
   have HXA := Lib.hid HX1; have HES := Lib.hid hes1; have HRI1 := Lib.hid hri1; have HZ := Lib.hid hZ
   have HBOX1 := Lib.hid hbox1; have HB6 := Lib.hid hb6
   have HBW1 : Hid (Below w0.heap.size w0 W1) := Lib.hid (hbw.trans (hb01.mono hbw.size))
   have HG6 : Hid (g6 < W1.heap.size ∧ ¬ Z g6 ∧ g6 ≠ g4) := Lib.hid ⟨by omega, fun q => by have := HX0.zlt q; omega, fun q => by have := hbox.lt; omega⟩
   have HW1 := Lib.hid hW1; have HGG6 := Lib.hid hg6
   obtain ⟨y0, y1, y2, -⟩ := hb6.cells
   clear hbj hbts h3 hes hes1 hfl hat hclk hx hlx hri hri1 hbox hbox1 hb6 hb01 hz1 hW1 hg6 HX0 HX1 hZ hbw hblt hgood hT2 hbin hjl
   generalize b.flow = ff at *
   generalize b.at' = at' at *
   generalize hen : b.es.length = en at *
   generalize hnA : x.all.length = nA at *
   generalize hnF : x.flows.length = nF at *
   clear hen hnA hnF
   go_upto_region 8 with fail
   rw [← HW1.out, ← HGG6.out]
   clear d0 d1 d2
   go_wp2_with fail
   refine HC1.out.mono ?_
   rintro r w2 ⟨rfl, hchg, hke, Z', H', hz'⟩
   have hbx2 : IBox w2 g4 (.slice AA nA cA) (.slice AF nF cF) := (hke g4 rfl).trans HBOX1.out
   have hb62 : BB w2 g6 ff at' A2 en c2 := (hchg.block g6 HG6.out.1 HG6.out.2.1).trans HB6.out
   have hzl := Sn hchg hz'
   have HC2 := Lib.hid (HCR.out Z' w2 (fun c q => H'.zlt q) (HRI1.out.leads hzl) (EvsIn.leads HES.out hzl))
   have HX2 := Lib.hid H'; have HBX2 := Lib.hid hbx2
   have HBW2 : Hid (Below w0.heap.size w0 w2) := Lib.hid (HBW1.out.trans (hchg.below HBW1.out.size HZ.out))
   have HZ2 : Hid (∀ c, Z' c → w0.heap.size ≤ c) := Lib.hid fun c q => (hz' c q).elim (HZ.out c) (fun e => Nat.le_trans HBW1.out.size e)
   clear y0 y1 y2
   obtain ⟨y0, y1, y2, -⟩ := hb62.cells
   obtain ⟨x0, x1, -⟩ := hbx2.cells
   clear hchg hke H' hz' hbx2 hb62 hzl HC1 HCR
   go_wp2_with fail
   refine HC2.out.mono ?_
   rintro r w3 ⟨hb3, uA1, uF1, rfl, hr3⟩
   obtain ⟨⟨AA1, cA1, rfl, -, -⟩, AF1, cF1, rfl, -, -⟩ := hr3.slices
   have hbx3 := HBX2.out.later hb3 HBX2.out.lt
   obtain ⟨W4, hW4⟩ : ∃ W4, W4 = (w3.setCell ⟨g4, 0, none⟩ (.slice AA1 (DC x b).2.all.length cA1)).setCell ⟨g4, 1, none⟩ (.slice AF1 (DC x b).2.flows.length cF1) := ⟨_, rfl⟩
   have HREL : Hid (LX w0 g4 W4 xb (DT (bl.take (j + 1)))) := Lib.hid (by
    rw [HNEXT.out]
    have hc4 : Chg (fun c => c = g4) w3 W4 := by rw [hW4]; exact set2_chg _ _
    have HX4 := (HX2.out.later hb3).chg hc4
    have hz4 : Chg Z' w3 W4 := hc4.mono fun c q => by have q : c = g4 := q; exact HX4.ez q
    have hbw := HBW2.out.trans (hb3.mono HBW2.out.size)
    exact ⟨Z', _, _, HX4, HZ2.out, hbw.trans (hz4.below hbw.size HZ2.out), by rw [hW4]; exact hbx3.set2, hr3.leads hz4.leads⟩)
   obtain ⟨q0, q1, qf⟩ := hbx3.cells
   have qf0 := qf 0; have qf1 := qf 1
   have HW4 := Lib.hid hW4
   clear hb3 hr3 hbx3 hW4 qf HC2 x0 x1 y0 y1 y2
   generalize (DC x b).2.all.length = nA1 at *
   generalize (DC x b).2.flows.length = nF1 at *
   generalize (DC x b).1 = cd at *
   go_wp2_with fail
   rw [← HW4.out]
   go_roundw
   case rel => exact ⟨j + 1, by omega, by go_num, HREL.out⟩
   case measure => simp [intOf]; omega
  have hj' : m = j := by omega
  subst hj'
  rw [show bl.take m = bl by rw [HMM.out]; exact List.take_length] at hlx
  obtain ⟨wB, hwB⟩ : ∃ wB, wB = wr := ⟨_, rfl⟩
  subst hwB
  have HLX : Hid (∀ W, Below wB.heap.size wB W → LX w0 g4 W xb (DT bl)) := Lib.hid fun W hW => hlx.later hW
  have HBWB : Hid (Below w0.heap.size w0 wB) := Lib.hid (by obtain ⟨_, _, _, -, -, h, -⟩ := hlx.ex; exact h)
  have hgood := GC HLI.out bl.length (Nat.le_refl _)
  rw [List.take_length] at hgood
  have HALL : Hid ((DT bl).all.length ≤ 1000000) := Lib.hid (by have := hgood.alen; have := HLI.out.len; omega)
  have HBY : Hid (∀ l ∈ (DT bl).all.map frm, l ≠ [] ∧ ∀ y ∈ l, y < 256) := Lib.hid fun l hl => by
   obtain ⟨b, hb, rfl⟩ := List.mem_map.1 hl
   refine ⟨frm_ne b, ?_⟩
   obtain ⟨Z, uA, uF, -, -, -, -, hri⟩ := hlx.ex
   obtain ⟨xs, -, hc⟩ := hri.all
   obtain ⟨i, hi, rfl⟩ := List.getElem_of_mem hb
   obtain ⟨A2, c2, -, -, q3, -⟩ := hc.2 i hi
   exact frm_byt (UC bl _ hb) (HLEN.out _ (JV bl _ hb)) q3
  have HRC : Hid (∀ W, Below wB.heap.size wB W → Calls Tryz.prog 13 #[.pointer (some ⟨xb, 0, none⟩)] W fun r w' => ∃ A c, r = .returned (.slice A (DT bl).all.length c) ∧ RecV w' W.heap.size (.slice A (DT bl).all.length c) (DT bl).all.length ((DT bl).all.map frm) ∧ Below W.heap.size W w') := Lib.hid fun W hW => by
   obtain ⟨Z, uA, uF, hx, -⟩ := (HLX.out W hW).ex
   exact Vd hx HALL.out fun b hb => (HRF.out b hb).2
  clear hlx hgood hjm
  obtain ⟨rl, hrl⟩ : ∃ rl, rl = (DT bl).all.map frm := ⟨_, rfl⟩
  obtain ⟨nR, hnR⟩ : ∃ n, n = (DT bl).all.length := ⟨_, rfl⟩
  rw [← hrl] at HRC HBY
  rw [← hnR] at HRC
  have HNR : Hid (rl.length = nR) := Lib.hid (by rw [hrl, hnR, List.length_map])
  have HRL := Lib.hid hrl; have HNRE := Lib.hid hnR
  clear hrl hnR
  have hnR0 : nR ≤ 1000000 := by have := HALL.out; have := HNRE.out; omega
  go_wp2_with fail
  refine (HRC.out wB (Below.refl _ _)).mono ?_
  rintro r wC ⟨AR, cR, rfl, hrv, hbC⟩
  have HT0 := Lib.hid (RecV.typed hrv (fun l hl => (HBY.out l hl).1) (fun l hl => (HBY.out l hl).2))
  have HBC := Lib.hid hbC
  obtain ⟨ns, hns⟩ : ∃ ns, ns = rl.map List.length := ⟨_, rfl⟩
  rw [← hns] at HT0
  have HNS : Hid (ns.length = nR) := Lib.hid (by rw [hns, List.length_map]; exact HNR.out)
  clear hrv hbC hns
  go_wp2_with fail
  go_loopw [44] (fun i wz => ∃ j : Nat, j ≤ nR ∧ i = .int .i64 j ∧ RecT wz wB.heap.size AR ns ∧ Below wB.heap.size wB wz) (fun i _ => nR - (intOf i).toNat)
  case atStart => exact ⟨0, by omega, rfl, HT0.out, HBC.out⟩
  case round =>
   obtain ⟨j2, hj2, rfl, hrt, hb⟩ := hrel
   clear HT0 HBC
   by_cases hlt : j2 < nR
   ·have hjn : j2 < ns.length := by have := HNS.out; omega
    obtain ⟨r8, rfl, hr1, hr2, hr3⟩ := hrt (by omega)
    obtain ⟨q8, c8, d0, k2, k3, k4, k5, k6⟩ := hr3 j2 hjn
    obtain ⟨n8, hn8⟩ : ∃ n, n = ns[j2] := ⟨_, rfl⟩
    rw [← hn8] at d0 k2
    simp only [maxLen] at k3
    have HK4 := Lib.hid k4; have HK5 := Lib.hid k5; have HRT := Lib.hid hrt; have HB := Lib.hid hb; have HN8 := Lib.hid hn8; have HJN := Lib.hid hjn
    clear hrt hr3 k4 k5 k6 hb hn8 hr1 hr2
    have HD0 := Lib.hid d0
    obtain ⟨wD, hwD⟩ : ∃ wD, wD = wr := ⟨_, rfl⟩
    subst hwD
    go_upto_region 15 with fail
    clear d0
    go_loopw [50] (fun i wz => ∃ p : Nat, p ≤ n8 ∧ i = .int .i64 p ∧ RecT wz wB.heap.size (some ⟨r8, 0, none⟩) ns ∧ Below wB.heap.size wB wz ∧ wz.cell? ⟨r8, j2, none⟩ = some (.slice (some ⟨q8, 0, none⟩) n8 c8)) (fun i _ => n8 - (intOf i).toNat)
    case atStart => exact ⟨0, by omega, rfl, HRT.out, HB.out, HD0.out⟩
    case round =>
     obtain ⟨p, hp, rfl, hrt, hb, hd⟩ := hrel
     have HRT2 := Lib.hid hrt; have HB2 := Lib.hid hb; have HD2 := Lib.hid hd
     by_cases hlp : p < n8
     ·obtain ⟨r', e, hr1, hr2, hr3⟩ := hrt (by have := HJN.out; omega)
      obtain rfl : r' = r8 := by injection e with e; injection e with e; exact e.symm
      obtain ⟨q', c', f0, f2, f3, f4, f5, cur, f6, f7⟩ := hr3 j2 HJN.out
      rw [hd, ← HN8.out] at f0
      obtain ⟨rfl, rfl⟩ : q8 = q' ∧ c8 = c' := by
       injection f0 with f0
       injection f0 with a1 a2 a3
       injection a1 with a1
       injection a1 with a1
       exact ⟨a1, a3⟩
      obtain ⟨y, hy, f8⟩ := f7 p (by rw [← HN8.out]; exact hlp)
      have c0 : wr.cell? ⟨q8, p, none⟩ = some (.int .u8 (y : Int)) := by simp [World.cell?, f6, f8]
      have cf : wr.frozen? ⟨q8, p, none⟩ = false := by simp [World.frozen?, f6]
      have HY := Lib.hid hy
      have HREL2 : Hid (RecT (wr.setCell ⟨q8, p, none⟩ (.int .u8 (((y : Int) + 1) % 256))) wB.heap.size (some ⟨r', 0, none⟩) ns ∧ Below wB.heap.size wB (wr.setCell ⟨q8, p, none⟩ (.int .u8 (((y : Int) + 1) % 256))) ∧ (wr.setCell ⟨q8, p, none⟩ (.int .u8 (((y : Int) + 1) % 256))).cell? ⟨r', j2, none⟩ = some (.slice (some ⟨q8, 0, none⟩) n8 c8)) := Lib.hid (by
       rw [show ((y : Int) + 1) % 256 = (((y + 1) % 256 : Nat) : Int) by omega]
       exact ⟨hrt.write rfl f4 _ (by omega), hb.setCell (p := ⟨q8, p, none⟩) f5 _, (World.cell?_of_block (a := ⟨r', j2, none⟩) (RowKit.Below.heap_setCell _ _ _ _ (fun e => f4 (show q8 = r' from e.symm)))).trans hd⟩)
      clear hrt hb hd hr3 f0 f2 f3 f4 f5 f6 f7 f8 e hr1 hr2
      go_wp2_with fail
      exact ⟨⟨p + 1, by omega, by go_num, HREL2.out.1, HREL2.out.2.1, HREL2.out.2.2⟩, by simp [intOf]; omega⟩
     ·have hp' : n8 = p := by omega
      subst hp'
      clear hrt hb hd
      go_wp2_with fail
      go_roundw
      case rel => exact ⟨j2 + 1, by omega, by go_num, HRT2.out, HB2.out⟩
      case measure => simp [intOf]; omega
   ·have hj2' : nR = j2 := by omega
    subst hj2'
    have HB := Lib.hid hb
    clear hrt hb
    obtain ⟨wE, hwE⟩ : ∃ wE, wE = wr := ⟨_, rfl⟩
    subst hwE
    obtain ⟨Z, uA, uF, -, -, -, hbox, hri⟩ := (HLX.out wE HB.out).ex
    obtain ⟨⟨AA, cA, rfl, -, -⟩, AF, cF, rfl, -, -⟩ := hri.slices
    have HBX : Hid (∀ W, Below wE.heap.size wE W → IBox W g4 (.slice AA (DT bl).all.length cA) (.slice AF (DT bl).flows.length cF)) := Lib.hid fun W hW => hbox.later hW hbox.lt
    have HRR : Hid (∀ W, Below wE.heap.size wE W → Calls Tryz.prog 15 #[.agg #[.slice AA (DT bl).all.length cA, .slice AF (DT bl).flows.length cF]] W fun r w' => ∃ A c, r = .returned (.slice A nR c) ∧ RIn w' (.slice A nR c) rl ∧ Below W.heap.size W w') := Lib.hid fun W hW => by
     refine (Vq (DT bl) _ _ W ((hri.leads (Dg _ _)).later hW) HALL.out fun b hb => (HRF.out b hb).1).mono fun r w' => ?_
     rintro ⟨A, c, rfl, q, hb⟩
     rw [← HNRE.out, ← HRL.out] at q
     exact ⟨A, c, by rw [HNRE.out], q.rin, hb⟩
    have HRP : Hid (∀ W, Below wE.heap.size wE W → Calls Tryz.prog 13 #[.pointer (some ⟨xb, 0, none⟩)] W fun r w' => ∃ A c, r = .returned (.slice A nR c) ∧ RIn w' (.slice A nR c) rl ∧ Below W.heap.size W w') := Lib.hid fun W hW => (HRC.out W (HB.out.trans (hW.mono HB.out.size))).mono fun r w' => by
     rintro ⟨A, c, rfl, q, hb⟩
     exact ⟨A, c, rfl, q.rin, hb⟩
    have HNM : Hid (rl.length ≤ 1000000) := Lib.hid (by have := HNR.out; have := HNRE.out; have := HALL.out; omega)
    have HBYL : Hid (∀ l ∈ rl, ∀ b ∈ l, b < 256) := Lib.hid fun l hl => (HBY.out l hl).2
    have HBE : Hid (Below w0.heap.size w0 wE) := Lib.hid (HBWB.out.trans (HB.out.mono HBWB.out.size))
    generalize (DT bl).all.length = nA at *
    generalize (DT bl).flows.length = nF at *
    have KS : Hid (∀ W, Below wE.heap.size wE W → (fun W : World => W.cell? ⟨g4, 0, none⟩ = some (.slice AA nA cA) ∧ W.cell? ⟨g4, 1, none⟩ = some (.slice AF nF cF)) W) := Lib.hid fun W hW => by
     obtain ⟨a0, a1, -⟩ := (HBX.out W hW).cells
     exact ⟨a0, a1⟩
    clear hbox hri hlt
    have HAL2 := Lib.hid fun W => HAL.out W
    go_upto_region 21 with fail
    obtain ⟨v0, hv0⟩ : ∃ u, u = wE.drew := ⟨_, rfl⟩
    have HBv0 : Hid (Below wE.heap.size wE v0) := Lib.hid (by rw [hv0]; exact Da (Below.refl _ _))
    refine wp_region_noPanic ?_
    refine wp_region_held_drew (S := (fun W : World => W.cell? ⟨g4, 0, none⟩ = some (.slice AA nA cA) ∧ W.cell? ⟨g4, 1, none⟩ = some (.slice AF nF cF))) (by kernel_rfl) ?_ (fun hHeld0 => ?_)
    ·rw [← hv0]; exact KS.out _ HBv0.out
    rw [← hv0] at hHeld0
    rw [← hv0]
    clear hv0
    refine rd1 0 rfl fun K hK => ?_
    go_simp
    (with_reducible refine (HAL2.out v0).mono ?_)
    rintro r v1 ⟨rfl, hb⟩
    have HBv1 : Hid (Below wE.heap.size wE v1) := Lib.hid (HBv0.out.trans (hb.mono HBv0.out.size))
    have HBs1 := Lib.hid hb
    clear hb
    go_wp2_with fail
    refine hK.out _ _ (KS.out _ HBv1.out) (fun hHeld1 => ?_)
    clear hK K hHeld0
    try simp only [ap]
    refine tk 1 rfl ?_
    refine tk 2 rfl ?_
    refine tk 4 rfl ?_
    refine rd1 3 rfl fun K hK => ?_
    go_simp
    (with_reducible refine (HRP.out v1 HBv1.out).mono ?_)
    rintro r v2 ⟨A1, c1, rfl, hrin, hb⟩
    have HBv2 : Hid (Below wE.heap.size wE v2) := Lib.hid (HBv1.out.trans (hb.mono HBv1.out.size))
    have HBs2 := Lib.hid hb
    have HR1 := Lib.hid hrin
    clear hrin
    clear hb
    go_wp2_with fail
    refine hK.out _ _ (KS.out _ HBv2.out) (fun hHeld2 => ?_)
    clear hK K hHeld1
    try simp only [ap]
    refine rd1 5 rfl fun K hK => ?_
    go_simp
    (with_reducible refine (HRR.out v2 HBv2.out).mono ?_)
    rintro r v3 ⟨A2, c2, rfl, hrin, hb⟩
    have HBv3 : Hid (Below wE.heap.size wE v3) := Lib.hid (HBv2.out.trans (hb.mono HBv2.out.size))
    have HBs3 := Lib.hid hb
    have HR2 := Lib.hid hrin
    clear hrin
    clear hb
    go_wp2_with fail
    refine hK.out _ _ (KS.out _ HBv3.out) (fun hHeld3 => ?_)
    clear hK K hHeld2
    try simp only [ap]
    have HS3 := Lib.hid (Xq rl (.slice A1 nR c1) (.slice A2 nR c2) v3 HBYL.out (HR1.out.later HBs3.out) HR2.out HNM.out)
    refine rd1 6 rfl fun K hK => ?_
    go_simp
    (with_reducible refine HS3.out.mono ?_)
    rintro r v4 ⟨rfl, hb⟩
    have HBv4 : Hid (Below wE.heap.size wE v4) := Lib.hid (HBv3.out.trans (hb.mono HBv3.out.size))
    have HBs4 := Lib.hid hb
    clear hb
    go_wp2_with fail
    refine hK.out _ _ (KS.out _ HBv4.out) (fun hHeld4 => ?_)
    clear hK K hHeld3
    try simp only [ap]
    refine tk 7 rfl ?_
    refine tk 8 rfl ?_
    refine tk 9 rfl ?_
    refine tk 10 rfl ?_
    refine rd1 11 rfl fun K hK => ?_
    go_simp
    (with_reducible refine (nil_add v4).mono ?_)
    rintro r v5 ⟨rfl, hb⟩
    have HBv5 : Hid (Below wE.heap.size wE v5) := Lib.hid (HBv4.out.trans (hb.mono HBv4.out.size))
    have HBs5 := Lib.hid hb
    clear hb
    go_wp2_with fail
    refine hK.out _ _ (KS.out _ HBv5.out) (fun hHeld5 => ?_)
    clear hK K hHeld4
    try simp only [ap]
    refine tk 12 rfl ?_
    refine tk 13 rfl ?_
    refine tk 14 rfl ?_
    refine tk 15 rfl ?_
    refine tk 16 rfl ?_
    refine rd1 17 rfl fun K hK => ?_
    go_simp
    (with_reducible refine (XH v5).mono ?_)
    rintro r v6 ⟨rfl, hb⟩
    have HBv6 : Hid (Below wE.heap.size wE v6) := Lib.hid (HBv5.out.trans (hb.mono HBv5.out.size))
    have HBs6 := Lib.hid hb
    clear hb
    go_wp2_with fail
    refine hK.out _ _ (KS.out _ HBv6.out) (fun hHeld6 => ?_)
    clear hK K hHeld5
    try simp only [ap]
    refine tk 18 rfl ?_
    refine tk 19 rfl ?_
    refine tk 20 rfl ?_
    refine tk 21 rfl ?_
    refine rd1 22 rfl fun K hK => ?_
    go_simp
    (with_reducible refine (nil_flow ⟨#[119]⟩ v6).mono ?_)
    rintro r v7 ⟨rfl, hb⟩
    have HBv7 : Hid (Below wE.heap.size wE v7) := Lib.hid (HBv6.out.trans (hb.mono HBv6.out.size))
    have HBs7 := Lib.hid hb
    clear hb
    go_wp2_with fail
    refine hK.out _ _ (KS.out _ HBv7.out) (fun hHeld7 => ?_)
    clear hK K hHeld6
    try simp only [ap]
    refine tk 23 rfl ?_
    refine tk 24 rfl ?_
    refine tk 25 rfl ?_
    refine tk 26 rfl ?_
    refine rd1 27 rfl fun K hK => ?_
    go_simp
    (with_reducible refine (KY v7).mono ?_)
    rintro r v8 ⟨rfl, hb⟩
    have HBv8 : Hid (Below wE.heap.size wE v8) := Lib.hid (HBv7.out.trans (hb.mono HBv7.out.size))
    have HBs8 := Lib.hid hb
    clear hb
    go_wp2_with fail
    refine hK.out _ _ (KS.out _ HBv8.out) (fun hHeld8 => ?_)
    clear hK K hHeld7
    try simp only [ap]
    refine tk 28 rfl ?_
    refine tk 29 rfl ?_
    refine tk 30 rfl ?_
    refine tk 31 rfl ?_
    refine tk 32 rfl ?_
    refine rd1 33 rfl fun K hK => ?_
    go_simp
    (with_reducible refine (nil_open v8).mono ?_)
    rintro r v9 ⟨rfl, hb⟩
    have HBv9 : Hid (Below wE.heap.size wE v9) := Lib.hid (HBv8.out.trans (hb.mono HBv8.out.size))
    have HBs9 := Lib.hid hb
    clear hb
    go_wp2_with fail
    refine hK.out _ _ (KS.out _ HBv9.out) (fun hHeld9 => ?_)
    clear hK K hHeld8
    try simp only [ap]
    refine tk 34 rfl ?_
    refine tk 35 rfl ?_
    refine tk 36 rfl ?_
    refine tk 37 rfl ?_
    refine tk 38 rfl ?_
    refine rd1 39 rfl fun K hK => ?_
    go_simp
    (with_reducible refine (KZ v9).mono ?_)
    rintro r v10 ⟨rfl, hb⟩
    have HBv10 : Hid (Below wE.heap.size wE v10) := Lib.hid (HBv9.out.trans (hb.mono HBv9.out.size))
    have HBs10 := Lib.hid hb
    clear hb
    go_wp2_with fail
    refine hK.out _ _ (KS.out _ HBv10.out) (fun hHeld10 => ?_)
    clear hK K hHeld9
    try simp only [ap]
    refine tk 40 rfl ?_
    refine tk 41 rfl ?_
    refine tk 42 rfl ?_
    refine tk 43 rfl ?_
    refine rd1 44 rfl fun K hK => ?_
    go_simp
    (with_reducible refine (XG v10).mono ?_)
    rintro r v11 ⟨rfl, hb⟩
    have HBv11 : Hid (Below wE.heap.size wE v11) := Lib.hid (HBv10.out.trans (hb.mono HBv10.out.size))
    have HBs11 := Lib.hid hb
    clear hb
    go_wp2_with fail
    refine hK.out _ _ (KS.out _ HBv11.out) (fun hHeld11 => ?_)
    clear hK K hHeld10
    try simp only [ap]
    refine tk 45 rfl ?_
    refine tk 46 rfl ?_
    refine tk 47 rfl ?_
    refine tk 48 rfl ?_
    refine wpAnyH_done (by kernel_rfl) ?_ _
    refine NoPanic.normal ?_
    clear hHeld11
    go_wp2_with fail
    go_ret
    exact ⟨rfl, HBE.out.trans (HBv11.out.mono HBE.out.size)⟩
open Go.ChangeShapes Go.WideShapes Go.ChangeAt Go.Joins Go.Deep
theorem inil_open {H : Type} {enc : TypeId × Value → H} {base b1 : Nat} {spare : Nat → Bool} {held : Bool} {d0 : DataW H} {p0 : List MemPlace} (v0 : Value) (W : World)
  (o0 : Value.okWide Tryz.prog W .any base 22 v0) (k0 : DataW.Trod enc Tryz.prog W b1 spare held 22 v0 d0 p0) (hu : Rows.uptoSmall H [d0] = true) :
  Calls Tryz.prog 3 #[v0] W fun r w' => r = .returned (.bool true) ∧ Below W.heap.size W w' := by
 obtain ⟨bl, A, cap, rfl, hB, hl⟩ := LD v0 W o0 k0
 exact Ll bl A cap W hB (hl (KF (i := 0) hu rfl))
end Hi
end Go.Proofs.YtfmnacebgplpcaaGreat
