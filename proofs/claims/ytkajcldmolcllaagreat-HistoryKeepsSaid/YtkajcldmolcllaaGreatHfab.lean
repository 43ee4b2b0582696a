/- slices.Clone of events; rows of events that are changed in place. -/
/- HistoryKeeps: the walk. -/
/- HistoryKeeps: the walk at what came in. -/
import Derived.Test.YtkajcldmolcllaaGreatHabg
import Derived.Test.YtkajcldmolcllaaGreatHfaa
import Derived.Test.YtkajcldmolcllaaGreatHaaq
set_option linter.unusedVariables false
set_option linter.unusedSimpArgs false
open Go.RowKit
namespace Go.Proofs.YtkajcldmolcllaaGreat
namespace Hi
open Vt (VT Rep below_drew)
open Ev (EV FieldsOk evCells vCells)
open Cm (rowOf EvsIn EvsAt EvNew)
open Cn (BT BtsIn)
variable {Z : Nat → Prop} {w w' w0 : World} {hb : Nat} {h : HM} {A : Option Addr} {n q : Nat} {k : IntKind}

def MutC (w : World) (A : Option Addr) (n q : Nat) (k : IntKind) : Prop := 0 < n → ∃ r, A = some ⟨r, 0, none⟩ ∧ r < w.heap.size ∧ (∀ o, w.frozen? ⟨r, o, none⟩ = false) ∧ ∀ p, p < n → ∃ x, w.cell? ⟨r, p * 11 + q, none⟩ = some (.int k x)
theorem MutC.later (h : MutC w A n q k) (hb : Below w.heap.size w w') : MutC w' A n q k := fun hp => by
 obtain ⟨r, h1, h2, h3, h4⟩ := h hp
 exact ⟨r, h1, Nat.lt_of_lt_of_le h2 hb.size, fun o => (hb.frozen (p := ⟨r, o, none⟩) h2).trans (h3 o), fun p hp => by
  obtain ⟨x, hx⟩ := h4 p hp
  exact ⟨x, (hb.cell (p := ⟨r, _, none⟩) h2).trans hx⟩⟩
theorem MutC.set (h : MutC w A n q k) (a : Addr) (y : Int) : MutC (w.setCell a (.int k y)) A n q k := fun hp => by
 obtain ⟨r, h1, h2, h3, h4⟩ := h hp
 refine ⟨r, h1, by simpa [World.setCell] using h2, fun o => by simpa using h3 o, fun p hp => ?_⟩
 obtain ⟨x, hx⟩ := h4 p hp
 by_cases e : a = ⟨r, p * 11 + q, none⟩
 ·subst e; exact ⟨y, World.cell?_setCell_same w _ _ hx⟩
 ·exact ⟨x, by rw [World.cell?_setCell_other w a _ _ (fun h => e h)]; exact hx⟩
theorem MutC.keep (h : MutC w A n q k) (hr : ∀ r, rowOf A = some r → w'.heap[r]? = w.heap[r]?) : MutC w' A n q k := fun hp => by
 obtain ⟨r, h1, h2, h3, h4⟩ := h hp
 have e := hr r (by rw [h1]; rfl)
 refine ⟨r, h1, ?_, fun o => ?_, fun p hp => ?_⟩
 ·have e2 := e.trans (Array.getElem?_eq_getElem h2)
  exact (Array.getElem?_eq_some_iff.1 e2).1
 ·have := h3 o
  simp only [World.frozen?] at this ⊢
  rw [e]; exact this
 ·obtain ⟨x, hx⟩ := h4 p hp
  exact ⟨x, (World.cell?_of_block (a := ⟨r, _, none⟩) e).trans hx⟩
theorem own_mutc {base cap : Nat} {xs : List Value} (ho : w.ownsRow base 53 11 (.slice A n cap) n xs) (hx : ∀ p, p < n → ∃ x, xs[p * 11 + q]? = some (.int k x)) (hq : q < 11) : MutC w A n q k := fun hp => by
 rcases ho.2 with ⟨-, h0⟩ | ⟨r, cp, cur, q1, -⟩
 ·omega
 ·injection q1 with q1 _ _
  subst q1
  obtain ⟨c1, c2, c3, -⟩ := own_cells ho
  exact ⟨r, rfl, c3, c2, fun p hp => by
   obtain ⟨x, e⟩ := hx p hp
   exact ⟨x, (c1 _ (by omega)).trans e⟩⟩
theorem Tryz.infoEv : (Tryz.prog.info? 53).map (fun i => (i.zero, i.size, i.bytes)) = some (some (.agg #[.int .i64 0, .int .u64 0, .int .i64 0, .int .u64 0, .string ⟨#[]⟩, .string ⟨#[]⟩, .int .i64 0, .int .i64 0, .float .f64 0, .string ⟨#[]⟩, .slice none 0 0]), 11, 128) := by kernel_rfl
def ECl (Z : Nat → Prop) (es : List EV) (w : World) (r : Ending) (w' : World) : Prop := ∃ A' c', r = .returned (.slice A' es.length c') ∧ Below w.heap.size w w' ∧ EvsIn (veil Z w') A' c' es ∧ (∀ g, rowOf A' = some g → w.heap.size ≤ g ∧ g < w'.heap.size) ∧ MutC w' A' es.length 1 .u64
set_option maxRecDepth 100000 in
set_option maxHeartbeats 1000000 in
theorem eclone_any (es : List EV) (A : Option Addr) (cap : Nat) (w : World) (hZ : ∀ c, Z c → c < w.heap.size) (h : EvsIn (veil Z w) A cap es) (hn : es.length ≤ 1099511627776) :
  Calls Tryz.prog 20 #[.slice A es.length cap] w (ECl Z es w) := by
 have h4 := h.le; have h5 := h.cap_le
 simp only [maxLen] at h5
 cases A with
 | none =>
  have h0 : es.length = 0 := by
   rcases Nat.eq_zero_or_pos es.length with e | e
   ·exact e
   ·obtain ⟨b, off, q, -⟩ := h.at_ e; cases q
  have hx : es = [] := List.eq_nil_of_length_eq_zero h0
  subst hx
  clear h
  have hnil := fun w => Lib.run_eql_slice_nil (P := Tryz.prog) w 34 53 none 0 cap 0 0 Tryz.underlying34
  simp only [List.length_nil] at h4 h0 hn ⊢
  go_enter Tryz.func20, Tryz.ntmps20
  go_wp2_with fail
  go_ret
  exact ⟨none, 0, rfl, Below.refl _ _, ⟨Nat.le_refl _, Nat.zero_le _, fun h => absurd h (Nat.lt_irrefl 0)⟩, (fun g hg => by cases hg), fun h => absurd h (Nat.lt_irrefl 0)⟩
 | some a =>
  obtain ⟨i0, hi0, hz0, hz1, hz2⟩ := info_parts Tryz.infoEv
  have HSZ := Lib.hid (sz_of hi0 hz1)
  obtain ⟨xs, hlen, hone, hcin, hsrc⟩ : ∃ xs : List Value, xs.length = es.length * 11 ∧ (∀ x ∈ xs, x.oneCell' = true) ∧ CIn w (.slice (some a) es.length cap) es.length 11 xs ∧ ∀ i (hi : i < es.length), Src (veil Z w) xs i es[i] := by
   rcases Nat.eq_zero_or_pos es.length with e | e
   ·have hx : es = [] := List.eq_nil_of_length_eq_zero e
    subst hx
    exact ⟨[], rfl, by simp, ⟨rfl, by simp, _, _, rfl, h.le, h.cap_le, fun hp => absurd hp (by simp)⟩, fun i hi => absurd hi (by simp)⟩
   ·obtain ⟨b, off, q, hb, -⟩ := h.at_ e
    injection q with q
    subst q
    obtain ⟨s1, s2, s3⟩ := flatE_src h hb
    refine ⟨_, flatE_len _ _ _ _, s3, ⟨flatE_len _ _ _ _, s3, _, _, rfl, h.le, h.cap_le, fun _ => ⟨b, off, rfl, by rw [veil_size] at hb; exact hb, fun p x hx => ?_⟩⟩, s1⟩
    have := (leads_veil Z w).cell (s2 p x hx)
    rw [show (⟨b, off, none⟩ : Addr).add p = ⟨b, off + p, none⟩ from by unfold Addr.add; split <;> simp_all] at this
    exact this
  obtain ⟨m, hm⟩ : ∃ m, m = es.length := ⟨_, rfl⟩
  have HM := Lib.hid hm; have HSRC := Lib.hid hsrc; have HONE := Lib.hid hone; have HZ := Lib.hid hZ
  unfold ECl
  rw [← hm] at hcin h4 hn hlen ⊢
  obtain ⟨W1, hW1⟩ : ∃ W1, W1 = w.alloc (.cells #[] 53) := ⟨_, rfl⟩
  have hb1 : Below w.heap.size w W1 := by rw [hW1]; exact (Below.refl _ _).alloc (Nat.le_refl _) _
  have HO1 : Hid (W1.ownsRow w.heap.size 53 11 (.slice (some ⟨w.heap.size, 0, none⟩) 0 0) 0 []) := Lib.hid (by rw [hW1]; exact World.ownsRow_lit w #[] 0 (Nat.le_refl _) (Nat.zero_le _) (by simp))
  have HI1 := Lib.hid (hcin.later hb1)
  have HB1 := Lib.hid hb1
  clear h hcin hb1 hm hsrc hone hZ hlen
  replace hW1 := Lib.hid hW1
  have hnil := fun w => Lib.run_eql_slice_nil (P := Tryz.prog) w 34 53 (some a) m cap 0 0 Tryz.underlying34
  go_enter Tryz.func20, Tryz.ntmps20
  go_wp2_with (at_builtin; rw [← hW1.out]; refine wpList_append_any _ rfl _ _ 34 53 rfl i0 _ 11 128 Tryz.underlying34 HSZ.out hi0 hz0 hz1 hz2 rfl (by decide) w.heap.size _ _ 0 m [] xs rfl rfl HO1.out HI1.out (by simp only [maxLen]; omega) (by omega) HB1.out.size ?_; intro v1 w1 hown2 hgrow2 hat2)
  have hb2 := below_grown HB1.out hgrow2 (fun r hr => (HO1.out.lt r hr).1) HB1.out.size
  rw [Nat.zero_add, List.nil_append] at hown2
  obtain ⟨A1, c1, rfl, -⟩ := own_slice hown2
  have HO := Lib.hid hown2; have HB := Lib.hid hb2
  clear hown2 hb2 hgrow2 hat2
  go_wp2_with fail
  go_ret
  have hlt := fun g hg => Cn.own_lt HO.out g hg
  refine ⟨A1, c1, rfl, HB.out, ?_, fun g hg => ⟨(hlt g hg).2, (hlt g hg).1⟩, own_mutc HO.out (fun p hp => ?_) (by omega)⟩
  rotate_left
  ·obtain ⟨lo, hi, vk, vn, vf, vs, A, m', c, -, -, -, e⟩ := HSRC.out p (by have := HM.out; omega)
   exact ⟨_, e 1 (by omega)⟩
  obtain ⟨-, -, A9, c9, heq, h9, h10, h11⟩ := CIn.of_veil (X := Z) HO.out HONE.out HZ.out
  injection heq with e1 _ e3
  subst e1; subst e3
  refine ⟨by rw [← HM.out]; exact h9, h10, fun hp => ?_⟩
  obtain ⟨b, off, q1, q2, q3⟩ := h11 (by rw [HM.out]; exact hp)
  refine ⟨b, off, q1, q2, fun i hi => ?_⟩
  obtain ⟨lo, hi2, vk, vn, vf, vs, A, m', c, f1, f2, f3, f4⟩ := HSRC.out i hi
  have hl := veil_below Z HB.out
  refine ⟨lo, hi2, vk, vn, vf, vs, A, m', c, f1, Rep.leads f2 hl, Nat.le_trans f3 hl.size, fun p hp => ?_⟩
  have e := f4 p hp
  obtain ⟨y, hy⟩ : ∃ y, (evCells es[i] vk vn vf vs A m' c)[p]? = some y := ⟨_, Array.getElem?_eq_getElem (show p < 11 from hp)⟩
  rw [hy] at e ⊢
  rw [Nat.add_assoc]
  exact q3 _ _ e
theorem BNew.rows {base cap : Nat} {bl : List BT} (h : BNew w base A cap bl) (hp : 0 < bl.length) : ∃ r0, A = some ⟨r0, 0, none⟩ ∧ base ≤ r0 ∧ r0 < w.heap.size ∧ ∀ i (hi : i < bl.length), ∃ A' c', bl[i].es.length ≤ c' ∧ c' ≤ maxLen ∧
  w.cell? ⟨r0, i * 3, none⟩ = some (.string bl[i].flow) ∧ w.cell? ⟨r0, i * 3 + 1, none⟩ = some (.int .u64 (bl[i].at' : Nat)) ∧ w.cell? ⟨r0, i * 3 + 2, none⟩ = some (.slice A' bl[i].es.length c') ∧ MutC w A' bl[i].es.length 2 .i64 ∧ ∀ g, rowOf A' = some g → base ≤ g ∧ g ≠ r0 ∧ g < w.heap.size := by
 obtain ⟨xs, h1, h2⟩ := h
 rcases h1.2 with ⟨-, h0⟩ | ⟨r0, cp, cur, q1, -⟩
 ·omega
 injection q1 with q1 _ _
 subst q1
 obtain ⟨c1, c2, c3, c4⟩ := own_cells h1
 refine ⟨r0, rfl, c4, c3, fun i hi => ?_⟩
 obtain ⟨u, lo, A', c, n1, n2, n3, n4, n5, n6, n7, d0, d1, d2⟩ := h2 i hi
 obtain ⟨-, ys, k1, k2⟩ := n3
 have hrow : ∀ g, rowOf A' = some g → lo ≤ g ∧ g < u.heap.size := fun g hg => ⟨(Cn.own_lt k1 g hg).2, (Cn.own_lt k1 g hg).1⟩
 obtain ⟨f1, f2⟩ := own_form k1
 refine ⟨A', c, f1, f2, (c1 _ (by omega)).trans d0, (c1 _ (by omega)).trans d1, (c1 _ (by omega)).trans d2, fun hpos => ?_, fun g hg => ?_⟩
 ·obtain ⟨r, e1, e2, e3, e4⟩ := own_mutc (q := 2) (k := .i64) k1 (fun p hp => by
   obtain ⟨lo', hi', vk, vn, vf, vs, A, m', c, -, -, -, -, -, -, e⟩ := k2 p hp
   exact ⟨_, e 2 (by omega)⟩) (by omega) hpos
  have hr : rowOf A' = some r := by rw [e1]; rfl
  have hheap := n6 r (hrow r hr).1 e2
  refine ⟨r, e1, Nat.lt_of_lt_of_le e2 n5, fun o => ?_, fun p hp => ?_⟩
  ·have := e3 o
   simp only [World.frozen?] at this ⊢
   rw [hheap]; exact this
  ·obtain ⟨x, hx⟩ := e4 p hp
   exact ⟨x, (World.cell?_of_block (a := ⟨r, _, none⟩) hheap).trans hx⟩
 ·obtain ⟨g1, g2⟩ := hrow g hg
  refine ⟨Nat.le_trans n4 g1, fun e => ?_, Nat.lt_of_lt_of_le g2 n5⟩
  have := n7 r0 rfl
  omega
end Hi
end Go.Proofs.YtkajcldmolcllaaGreat
namespace Go.Proofs.YtkajcldmolcllaaGreat
namespace Hi
open _root_.Go.Proofs.YtkajcldmolcllaaGreat.Nm (ret_int ret_bool)
open Vt (VT Rep below_drew)
open Ev (EV take_drop tk ap cons_drop)
open Cm (rowOf EvsIn)
open Cn (BT BtsIn few12_any)
variable {w w' w0 : World} {hb : Nat} {h : HM}

set_option maxRecDepth 100000 in
set_option maxHeartbeats 4000000 in
theorem keeps_walk (bl : List BT) (B : Option Addr) (bc : Nat) (w0 : World) (hB : BtsIn w0 B bc bl) (hlen : ∀ b ∈ bl, b.es.length ≤ 1099511627775) :
  Calls Tryz.prog 7 #[.slice B bl.length bc] w0 fun r w' => r = .returned (.bool true) ∧ Below w0.heap.size w0 w' := by
 have hle := hB.le; have hbc := hB.cap_le
 simp only [maxLen] at hbc
 have HBT := Lib.hid hB; have HLEN := Lib.hid hlen
 clear hB hlen
 obtain ⟨m, hm⟩ : ∃ m, m = bl.length := ⟨_, rfl⟩
 rw [← hm] at hle ⊢
 have HM := Lib.hid hm; clear hm
 have HAL := Lib.hid fun W => halive_any W
 go_enter Tryz.func7, Tryz.ntmps7
 go_wp2_with fail
 refine (hnew_any ⟨#[119]⟩ (by decide) w0 (fun _ => False) (fun _ h => h.elim)).mono ?_
 rintro r w1 ⟨hb, bt, bm, bk, rfl, hb1, hbge, H1⟩
 have HB1 := Lib.hid hb1; have HH1 := Lib.hid H1; have HGE := Lib.hid hbge
 have HFC := Lib.hid (show Calls _ _ _ _ _ from by have q := few12_any bl B bc w1 (HBT.out.later HB1.out); rw [← HM.out] at q; exact q)
 clear hb1 H1 hbge
 go_wp2_with fail
 refine HFC.out.mono ?_
 rintro r w2 ⟨bb, rfl, hfew, hb2⟩
 have HB2 := Lib.hid (HB1.out.trans (hb2.mono HB1.out.size)); have HFEW := Lib.hid hfew
 have HH2 := Lib.hid (HH1.out.later hb2)
 clear hb2 hfew HFC HH1
 cases bb with
 | false =>
  go_wp2_with fail
  refine (HAL.out _).mono ?_
  rintro r w3 ⟨rfl, hb3⟩
  have HB3 := Lib.hid (HB2.out.trans (hb3.mono HB2.out.size))
  clear hb3
  go_wp2_with fail
  go_ret
  exact ⟨rfl, HB3.out⟩
 | true =>
 have HLI := Lib.hid (lin_of (HFEW.out rfl) HLEN.out)
 go_wp2_with fail
 refine (rnew_any ⟨#[119]⟩ w2).mono ?_
 rintro r w3 ⟨rfl, hb3⟩
 obtain ⟨W4, hW4⟩ : ∃ W4, W4 = w3.alloc (.cells #[.string ⟨#[119]⟩, .slice none 0 0, .int .i64 0, .int .u64 1, .slice none 0 0, .slice none 0 0, .slice none 0 0] 32) := ⟨_, rfl⟩
 have hb04 : Below w2.heap.size w2 W4 := by rw [hW4]; exact hb3.alloc hb3.size _
 obtain ⟨g6, hg6⟩ : ∃ g, g = w3.heap.size := ⟨_, rfl⟩
 have HL0 : Hid (LW w0 g6 W4 hb (rep ⟨#[119]⟩ (bl.take 0))) := Lib.hid (by
  rw [List.take_zero]
  have hge : w0.heap.size ≤ g6 := by rw [hg6]; exact Nat.le_trans HB2.out.size hb3.size
  have hz4 : W4.heap.size = w3.heap.size + 1 := by rw [hW4]; simp
  refine ⟨bt, bm, bk, 0, none, 0, .slice none 0 0, .slice none 0 0, .slice none 0 0, .slice none 0 0, ⟨(HH2.out.more (Y' := fun c => c = g6) fun c hc e => ?_).later hb04, fun c hc => ?_, fun c hc => ?_, HB2.out.trans (hb04.mono HB2.out.size)⟩, ?_, rh_new _ _⟩
  ·have e : c = g6 := e
   have := hb3.size; omega
  ·rcases hc with e | e | e
   ·have e : c = g6 := e
    omega
   ·rw [e]; exact HGE.out
   ·cases e
  ·have e : c = g6 := hc
   omega
  ·rw [hW4, hg6]; exact heap_alloc_new w3 _)
 have HG6 := Lib.hid hg6
 clear hb04 hb3 hg6 HH2
 replace hW4 := Lib.hid hW4
 unfold rhC
 go_wp2_with fail
 rw [← hW4.out, ← HG6.out]
 clear HG6 hW4 HB2 HFEW HGE
 go_loopw [29] (fun i wz => ∃ j : Nat, j ≤ m ∧ i = .int .i64 j ∧ LW w0 g6 wz hb (rep ⟨#[119]⟩ (bl.take j))) (fun i _ => m - (intOf i).toNat)
 case atStart => exact ⟨0, by omega, rfl, HL0.out⟩
 case round =>
  obtain ⟨j, hj, rfl, hlw⟩ := hrel
  clear HL0
  by_cases hjm : j < m
  rotate_left
  ·have hj' : j = m := by omega
   subst hj'
   obtain ⟨bt, bm, bk, n, A, cap, ub, uk, ut, um, S, hx, hr⟩ := hlw.ex
   obtain ⟨⟨Bu, nu, cu, rfl⟩, ⟨Ak, nk, ck, rfl⟩, ⟨Aq, nt, ct, rfl⟩, ⟨Am, nm, cm, rfl⟩⟩ := hr.slices
   have hg := good_rep HLI.out ⟨#[119]⟩ j (by have := HM.out; omega)
   have hj60 : j ≤ 60 := by have := HLI.out.len; have := HM.out; omega
   have hT := HLI.out.tot
   have hfw : (rep ⟨#[119]⟩ (bl.take j)).flow = ⟨#[119]⟩ := rep_flow _ _
   have HCS := Lib.hid fun W (hW : Below wr.heap.size wr W) => (S.later hW).same _ _ _ _ (hr.leads (veil_below _ hW)) hg (by rw [List.take_of_length_le (by have := HM.out; omega)]; omega) (by omega)
   have HXX := Lib.hid hx
   have HCB := Lib.hid (batches_any S.hat hg.bs (by have := hg.len; omega))
   have HBEL := Lib.hid S.bel
   rw [hfw] at HCS HXX
   unfold rhC at HCS
   have hbl : (rep ⟨#[119]⟩ (bl.take j)).bs.length ≤ 60 := by have := hg.len; omega
   clear hlw S hx hr hg hT hfw hjm
   generalize (rep ⟨#[119]⟩ (bl.take j)).s.closed = cl at *
   generalize (rep ⟨#[119]⟩ (bl.take j)).s.next = nx at *
   generalize (rep ⟨#[119]⟩ (bl.take j)).bs = bs at *
   obtain ⟨L, hL⟩ : ∃ L, L = bs.length := ⟨_, rfl⟩
   rw [← hL] at HCB hbl
   have HLL := Lib.hid hL
   clear hL
   generalize hwB : wr = wB at *
   clear hwB
   go_wp2_with fail
   refine HCB.out.mono ?_
   rintro r w2 ⟨A3, c3, rfl, hb2, hbn⟩
   have hc31 : L ≤ c3 := by have := hbn.read.le; rw [HLL.out]; exact this
   have hc32 : c3 ≤ 2 ^ 63 - 1 := by have := hbn.read.cap_le; simp only [maxLen] at this; exact this
   have HROW := Lib.hid fun (hp : 0 < bs.length) => hbn.rows hp
   have HB2 := Lib.hid hb2
   clear hb2 hbn HCB
   go_simp
   try go_wp2_with fail
   go_loopw [70] (fun i wz => ∃ p : Nat, p ≤ L ∧ i = .int .i64 p ∧ Below wB.heap.size wB wz ∧ w2.heap.size ≤ wz.heap.size ∧ (∀ Ax nx, MutC w2 Ax nx 2 .i64 → MutC wz Ax nx 2 .i64) ∧ (∀ r0, A3 = some ⟨r0, 0, none⟩ → wz.heap[r0]? = w2.heap[r0]?)) (fun i _ => L - (intOf i).toNat)
   case atStart => exact ⟨0, by omega, rfl, HB2.out, Nat.le_refl _, fun _ _ h => h, fun _ _ => rfl⟩
   case round =>
    obtain ⟨p, hp, rfl, hbz, hsz, hmu, hr0⟩ := hrel
    have HBZ := Lib.hid hbz; have HSZ := Lib.hid hsz; have HMU := Lib.hid hmu; have HR0 := Lib.hid hr0
    clear hbz hsz hmu hr0
    by_cases hpl : p < L
    ·obtain ⟨r0, rfl, hr1, hr2, hrows⟩ := HROW.out (by have := HLL.out; omega)
     obtain ⟨A4, c4, k1, k2, d0, d1, d2, hmut, hrow⟩ := hrows p (by have := HLL.out; omega)
     have hheap := HR0.out r0 rfl
     replace d0 := (World.cell?_of_block (a := ⟨r0, _, none⟩) hheap).trans d0
     replace d1 := (World.cell?_of_block (a := ⟨r0, _, none⟩) hheap).trans d1
     replace d2 := (World.cell?_of_block (a := ⟨r0, _, none⟩) hheap).trans d2
     have HMT := Lib.hid hmut; have HRW := Lib.hid hrow; have HR2 := Lib.hid hr2; have HHP := Lib.hid hheap
     simp only [maxLen] at k2
     obtain ⟨W1, hW1⟩ : ∃ W1, W1 = wr.alloc (.cells #[.string (bs[p]'(by have := HLL.out; omega)).flow, .int .u64 ((bs[p]'(by have := HLL.out; omega)).at' : Nat), .slice A4 (bs[p]'(by have := HLL.out; omega)).es.length c4] 36) := ⟨_, rfl⟩
     obtain ⟨g10, hg10⟩ : ∃ g, g = wr.heap.size := ⟨_, rfl⟩
     generalize (bs[p]'(by have := HLL.out; omega)).flow = ff at *
     generalize (bs[p]'(by have := HLL.out; omega)).at' = at' at *
     generalize (bs[p]'(by have := HLL.out; omega)).es.length = en at *
     have hb01 : Below wr.heap.size wr W1 := by rw [hW1]; exact (Below.refl _ _).alloc (Nat.le_refl _) _
     have hz1 : W1.heap.size = wr.heap.size + 1 := by rw [hW1]; simp
     have HBX : Hid (Cn.BB W1 g10 ff at' A4 en c4) := Lib.hid (by rw [hW1, hg10]; exact heap_alloc_new wr _)
     have HB1 : Hid (Below wB.heap.size wB W1) := Lib.hid (HBZ.out.trans (hb01.mono HBZ.out.size))
     have HS1 : Hid (w2.heap.size ≤ W1.heap.size ∧ w2.heap.size ≤ g10) := Lib.hid ⟨Nat.le_trans HSZ.out hb01.size, by rw [hg10]; exact HSZ.out⟩
     have HM1 : Hid (∀ Ax nx, MutC w2 Ax nx 2 .i64 → MutC W1 Ax nx 2 .i64) := Lib.hid fun Ax nx h => (HMU.out Ax nx h).later hb01
     have HH1 : Hid (W1.heap[r0]? = w2.heap[r0]?) := Lib.hid ((hb01.block r0 (Nat.lt_of_lt_of_le hr2 HSZ.out)).trans hheap)
     have HW1 := Lib.hid hW1; have HGG := Lib.hid hg10
     clear hmut hrow hrows hheap hb01 hz1 hW1 hg10 hr1 hr2
     obtain ⟨z0, z1, z2, -⟩ := Cn.BB.cells HBX.out
     go_upto_region 20 with fail
     rw [← HW1.out, ← HGG.out]
     go_wp2_with fail
     clear z0 z1 z2 d0 d1 d2
     go_loopw [77] (fun i wz => ∃ q : Nat, q ≤ en ∧ i = .int .i64 q ∧ Below wB.heap.size wB wz ∧ w2.heap.size ≤ wz.heap.size ∧ (∀ Ax nx, MutC w2 Ax nx 2 .i64 → MutC wz Ax nx 2 .i64) ∧ wz.heap[r0]? = w2.heap[r0]? ∧ Cn.BB wz g10 ff at' A4 en c4) (fun i _ => en - (intOf i).toNat)
     case atStart => exact ⟨0, by omega, rfl, HB1.out, HS1.out.1, HM1.out, HH1.out, HBX.out⟩
     case round =>
      obtain ⟨q, hq, rfl, hbz, hsz, hmu, hr0, hbx⟩ := hrel
      by_cases hqe : q < en
      ·obtain ⟨r, hA4, hlt, hfr, hcell⟩ := hmu _ _ HMT.out (by omega)
       obtain ⟨x, hx⟩ := hcell q hqe
       have hfr1 := hfr (q * 11 + 2)
       obtain ⟨z0, z1, z2, -⟩ := Cn.BB.cells hbx
       rw [hA4] at z2
       have HGS := Lib.hid (HRW.out r (by rw [hA4]; rfl))
       have HBY := Lib.hid hbz; have HSY := Lib.hid hsz; have HMY := Lib.hid hmu; have HRY := Lib.hid hr0; have HXY := Lib.hid hbx
       clear hA4 hlt hfr hcell hbz hsz hmu hr0 hbx
       go_wp2_with fail
       go_roundw
       case rel => exact ⟨q + 1, by omega, by go_num, HBY.out.setCell (p := ⟨r, _, none⟩) HGS.out.1 _, by simpa [World.setCell] using HSY.out, fun Ax nx h => (HMY.out Ax nx h).set _ _, (RowKit.Below.heap_setCell _ _ _ _ (Ne.symm HGS.out.2.1)).trans HRY.out, (RowKit.Below.heap_setCell _ _ _ _ (by have h1 := HGS.out.2.2; have h2 := HS1.out.2; show g10 ≠ r; omega)).trans HXY.out⟩
       case measure => simp [intOf]; omega
      ·have hqe' : q = en := by omega
       subst hqe'
       have HREL := Lib.hid (And.intro hbz (And.intro hsz (And.intro hmu hr0)))
       clear hbz hsz hmu hr0 hbx
       go_wp2_with fail
       go_roundw
       case rel =>
        obtain ⟨e1, e2, e3, e4⟩ := HREL.out
        exact ⟨p + 1, by omega, by go_num, e1, e2, e3, fun r h => by
         injection h with h
         injection h with h
         rw [← h]; exact e4⟩
       case measure => simp [intOf]; omega
    ·have hpl' : p = L := by omega
     subst hpl'
     have HCS1 := Lib.hid fun W (hW : Below wr.heap.size wr W) => HCS.out W (HBZ.out.trans (hW.mono HBZ.out.size))
     have HXX1 := Lib.hid (HXX.out.later HBZ.out HXX.out.lt)
     have HBQ := Lib.hid (HBEL.out.trans (HBZ.out.mono HBEL.out.size))
     clear HCS HXX
     go_wp2_with fail
     refine (HAL.out _).mono ?_
     rintro r w5 ⟨rfl, hb5⟩
     have HB5 := Lib.hid (HBQ.out.trans (hb5.mono HBQ.out.size))
     have HCS5 := Lib.hid (HCS1.out _ hb5)
     obtain ⟨x0, x1, x2, x3, x4, x5, x6, -⟩ := (HXX1.out.later hb5 HXX1.out.lt).cells
     clear hb5 HCS1 HXX1
     go_wp2_with fail
     refine HCS5.out.mono ?_
     rintro r w6 ⟨rfl, hb6⟩
     have HB6 := Lib.hid (HB5.out.trans (hb6.mono HB5.out.size))
     clear hb6 x0 x1 x2 x3 x4 x5 x6 HCS5 HB5
     go_wp2_with fail
     refine (nil_add ⟨#[]⟩ 0 none 0 0 _).mono ?_
     rintro r w7 ⟨rfl, hb7⟩
     have HB7 := Lib.hid (HB6.out.trans (hb7.mono HB6.out.size))
     clear hb7
     go_wp2_with fail
     refine (nil_fits ⟨#[]⟩ 0 none 0 0 _).mono ?_
     rintro r w8 ⟨rfl, hb8⟩
     have HB8 := Lib.hid (HB7.out.trans (hb8.mono HB7.out.size))
     clear hb8
     go_wp2_with fail
     refine (nil_flow _).mono ?_
     rintro r w9 ⟨rfl, rfl⟩
     go_wp2_with fail
     refine (nil_batches _).mono ?_
     rintro r w9 ⟨rfl, rfl⟩
     go_wp2_with fail
     refine (nil_closed _).mono ?_
     rintro r w9 ⟨rfl, rfl⟩
     go_wp2_with fail
     refine (nil_at _).mono ?_
     rintro r w9 ⟨rfl, rfl⟩
     go_wp2_with fail
     refine (nil_next _).mono ?_
     rintro r w9 ⟨rfl, rfl⟩
     go_wp2_with fail
     refine (nil_has _ _).mono ?_
     rintro r w9 ⟨rfl, rfl⟩
     go_wp2_with fail
     refine (nil_tasks _).mono ?_
     rintro r w9 ⟨rfl, rfl⟩
     go_wp2_with fail
     refine (nil_timers _).mono ?_
     rintro r w9 ⟨rfl, rfl⟩
     go_wp2_with fail
     go_ret
     exact ⟨rfl, HB8.out⟩
  have hjl : j < bl.length := by have := HM.out; omega
  obtain ⟨bt, bm, bk, n, A, cap, ub, uk, ut, um, S, hx, hr⟩ := hlw.ex
  obtain ⟨⟨Bu, nu, cu, rfl⟩, ⟨Ak, nk, ck, rfl⟩, ⟨Aq, nt, ct, rfl⟩, ⟨Am, nm, cm, rfl⟩⟩ := hr.slices
  obtain ⟨b0, off, rfl, hblt, h3⟩ := (S.bts HBT.out).at_ (by omega)
  obtain ⟨A2, c2, hfl, hat, hes, d0, d1, d2⟩ := h3 j hjl
  replace d0 := (leads_veil _ _).cell d0; replace d1 := (leads_veil _ _).cell d1; replace d2 := (leads_veil _ _).cell d2
  have hg := good_rep HLI.out ⟨#[119]⟩ j (by omega)
  have hT := HLI.out.take j hjl
  have hN : j ≤ 1000000 := by have := HLI.out.len; omega
  have hbin := HLI.out.bin j hjl
  have HNEXT : Hid (rep ⟨#[119]⟩ (bl.take (j + 1)) = (addM (rep ⟨#[119]⟩ (bl.take j)) bl[j]).2) := Lib.hid (rep_take _ bl j hjl)
  obtain ⟨b, hbj⟩ : ∃ b, b = bl[j] := ⟨_, rfl⟩
  rw [← hbj] at hfl hat hes d0 d1 d2 hT hbin HNEXT
  obtain ⟨hm, hhm⟩ : ∃ hm, hm = rep ⟨#[119]⟩ (bl.take j) := ⟨_, rfl⟩
  rw [← hhm] at S hx hr hg HNEXT
  have hfw : hm.flow = ⟨#[119]⟩ := by rw [hhm]; exact rep_flow _ _
  clear h3 hlw hbj hhm hblt
  obtain ⟨W1, hW1⟩ : ∃ W1, W1 = wr.alloc (.cells #[.string b.flow, .int .u64 (b.at' : Nat), .slice A2 b.es.length c2] 36) := ⟨_, rfl⟩
  have hb01 : Below wr.heap.size wr W1 := by rw [hW1]; exact (Below.refl _ _).alloc (Nat.le_refl _) _
  obtain ⟨g8, hg8⟩ : ∃ g, g = wr.heap.size := ⟨_, rfl⟩
  have hz1 : W1.heap.size = wr.heap.size + 1 := by rw [hW1]; simp
  have hb8 : Cn.BB W1 g8 b.flow b.at' A2 b.es.length c2 := by rw [hW1, hg8]; exact heap_alloc_new wr _
  have hgx : g8 ≠ hb ∧ (∀ r, rowOf A = some r → r ≠ g8) ∧ g8 ≠ g6 := ⟨by have := S.hat.lt; omega, fun r hr' => by have := S.hat.row.row_lt r hr'; omega, by have := hx.lt; omega⟩
  have S1 := S.later hb01
  have hr1 := hr.leads (veil_below _ hb01)
  have hes1 := EvsIn.leads hes (veil_below _ hb01)
  have hx1 := hx.later hb01 hx.lt
  have HS1 := Lib.hid S1; have HES1 := Lib.hid hes1; have HG := Lib.hid hg; have HBIN := Lib.hid hbin; have HT := Lib.hid hT; have HFL := Lib.hid hfl; have HATB := Lib.hid hat; have HN := Lib.hid hN; have HR1 := Lib.hid hr1
  have HX1 := Lib.hid hx1; have HB8 := Lib.hid hb8; have HGX := Lib.hid hgx
  have HG8 : Hid (g8 < W1.heap.size) := Lib.hid (by rw [hg8, hz1]; omega)
  have HZL : Hid (∀ c, HZ hb A c → c < W1.heap.size) := Lib.hid fun c hc => S1.xb c (.inr hc)
  have HCL : Hid (∀ (Z : Nat → Prop) W, (∀ c, HZ hb A c → Z c) → (∀ c, Z c → c < W.heap.size) → Below W1.heap.size W1 W → (∀ c, c < W1.heap.size → Z c → HZ hb A c) → Calls Tryz.prog 20 #[.slice A2 b.es.length c2] W (ECl Z b.es W)) := Lib.hid fun Z W _ h2 h3 h4 =>
   eclone_any b.es A2 c2 W h2 (EvsIn.leads hes1 (leads_veils h3.size fun c hc hx => ⟨fun e => hx (.inr (h4 c hc e)), h3.block c hc⟩)) hbin.len
  obtain ⟨y0, y1, y2, -⟩ := hb8.cells
  have HW1 := Lib.hid hW1; have HGG8 := Lib.hid hg8
  clear S hx hr hg hT hbin hfl hat hes hes1 hr1 hx1 hb8 hb01 hz1 hW1 hg8 S1 hgx hN
  rw [hfw] at HX1
  generalize hcl : hm.s.closed = cl at *
  generalize hnx : hm.s.next = nx at *
  generalize hff : b.flow = ff at *
  generalize hatt : b.at' = at' at *
  obtain ⟨en, hen⟩ : ∃ en, en = b.es.length := ⟨_, rfl⟩
  have HEN : Hid (b.es.length = en) := Lib.hid hen.symm
  rw [← hen] at d2 HW1 HB8 y2 HCL HT
  clear hen
  have KS : Hid (∀ W, Below W1.heap.size W1 W → (fun W : World => W.cell? ⟨g8, 0, none⟩ = some (.string ff) ∧ W.cell? ⟨g8, 1, none⟩ = some (.int .u64 (at' : Nat)) ∧ W.cell? ⟨g8, 2, none⟩ = some (.slice A2 en c2)) W) := Lib.hid fun W hW => by
   obtain ⟨a0, a1, a2, -⟩ := (HB8.out.later hW HG8.out).cells
   exact ⟨a0, a1, a2⟩
  have HCLA : Hid (Calls Tryz.prog 20 #[.slice A2 en c2] W1.drew (ECl (HZ hb A) b.es W1.drew)) := Lib.hid (HCL.out (HZ hb A) W1.drew (fun c hc => hc) (fun c hc => HZL.out c hc) (below_drew (Below.refl _ _)) (fun c _ hc => hc))
  go_upto_region 8 with fail
  rw [← HW1.out, ← HGG8.out]
  clear y0 y1 y2
  refine wp_region_noPanic ?_
  refine wp_region_held_drew (S := (fun W : World => W.cell? ⟨g8, 0, none⟩ = some (.string ff) ∧ W.cell? ⟨g8, 1, none⟩ = some (.int .u64 (at' : Nat)) ∧ W.cell? ⟨g8, 2, none⟩ = some (.slice A2 en c2))) (by kernel_rfl) ?_ (fun hHeld => ?_)
  ·exact KS.out _ (below_drew (Below.refl _ _))
  refine tk 0 rfl ?_
  try simp only [ap]
  refine tk 1 rfl ?_
  try simp only [ap]
  refine tk 2 rfl ?_
  try simp only [ap]
  refine tk 3 rfl ?_
  try simp only [ap]
  refine tk 4 rfl ?_
  try simp only [ap]
  refine tk 5 rfl ?_
  try simp only [ap]
  refine wpAnyH_ready (rs := [6, 8]) (by kernel_rfl) (by simp) ?_
  refine cons_drop rfl (fun K hK => ?_) (cons_drop rfl (fun K hK => ?_) AllReadyH.nil)
  go_simp
  (with_reducible refine HCLA.out.mono ?_)
  rintro e5 w5 ⟨Ac, cc, rfl, hb5, hec, hrow, hmut⟩
  have hb15 : Below W1.heap.size W1 w5 := (below_drew (Below.refl _ _)).trans hb5
  have HB15 := Lib.hid hb15
  rw [HEN.out]
  go_wp2_with fail
  refine hK.out _ _ (KS.out _ HB15.out) (fun hHeld2 => ?_)
  clear hK K hHeld
  try simp only [ap]
  refine tk 7 rfl ?_
  try simp only [ap]
  refine wpAnyH_ready (rs := [8]) (by kernel_rfl) (by simp) ?_
  refine cons_drop rfl (fun K hK => ?_) AllReadyH.nil
  go_simp
  obtain ⟨W6, hW6⟩ : ∃ W6, W6 = w5.alloc (.cells #[.string ⟨#[]⟩, .int .u64 0, .slice none 0 0] 36) := ⟨_, rfl⟩
  obtain ⟨g7, hg7⟩ : ∃ g, g = w5.heap.size := ⟨_, rfl⟩
  rw [← hW6, ← hg7]
  have hb6 : Below W1.heap.size W1 W6 := by rw [hW6]; exact HB15.out.alloc HB15.out.size _
  have h56 : Below w5.heap.size w5 W6 := by rw [hW6]; exact (Below.refl _ _).alloc (Nat.le_refl _) _
  have HCC : Hid (en ≤ cc ∧ cc ≤ 2 ^ 63 - 1) := Lib.hid ⟨by rw [← HEN.out]; exact hec.le, by have := hec.cap_le; simp only [maxLen] at this; exact this⟩
  have HX7 : Hid (W6.heap[g7]? = some (.cells #[.string ⟨#[]⟩, .int .u64 0, .slice none 0 0] 36 (0, 0)) ∧ W1.heap.size ≤ g7 ∧ g7 < W6.heap.size) := Lib.hid ⟨by rw [hW6, hg7]; exact heap_alloc_new w5 _, by rw [hg7]; exact HB15.out.size, by rw [hW6, World.size_alloc, hg7]; omega⟩
  have HOWN : Hid (EvsIn (veil (fun c => HZ hb A c ∨ c = g7) W6) Ac cc b.es ∧ (∀ g, rowOf Ac = some g → W1.heap.size ≤ g ∧ g < W6.heap.size ∧ g ≠ g7) ∧ MutC W6 Ac b.es.length 1 .u64) := Lib.hid ⟨EvsIn.leads hec (leads_veils h56.size fun c hc hx => ⟨by
   rintro (e | e)
   ·exact hx e
   ·omega, h56.block c hc⟩), fun g hg => by
   obtain ⟨r1, r2⟩ := hrow g hg
   have hd : W1.drew.heap.size = W1.heap.size := rfl
   have := h56.size
   omega, hmut.later h56⟩
  have HB6 := Lib.hid hb6
  clear hec hrow hmut h56 hb6 hb5 hb15 hW6 hg7
  refine hK.out _ _ (KS.out _ HB6.out) (fun hHeld3 => ?_)
  clear hK K hHeld2
  try simp only [ap]
  rotate_left
  go_simp
  obtain ⟨Wb, hWb⟩ : ∃ W, W = (W1.alloc (.cells #[.string ⟨#[]⟩, .int .u64 0, .slice none 0 0] 36)).drew := ⟨_, rfl⟩
  obtain ⟨g7, hg7⟩ : ∃ g, g = W1.heap.size := ⟨_, rfl⟩
  rw [← hWb]
  rw [← hg7]
  have hbb : Below W1.heap.size W1 Wb := by rw [hWb]; exact below_drew ((Below.refl _ _).alloc (Nat.le_refl _) _)
  have hxb : Wb.heap[g7]? = some (.cells #[.string ⟨#[]⟩, .int .u64 0, .slice none 0 0] 36 (0, 0)) := by rw [hWb, hg7]; exact heap_alloc_new W1 _
  have hzb : Wb.heap.size = W1.heap.size + 1 := by rw [hWb]; show (W1.alloc _).heap.size = _; rw [World.size_alloc]
  have HBb := Lib.hid hbb; have HXb := Lib.hid hxb; have HZb := Lib.hid hzb; have HG7 := Lib.hid hg7
  clear hWb hg7 hbb hxb hzb
  refine hK.out _ _ (KS.out _ HBb.out) (fun hHeld2 => ?_)
  clear hK K hHeld
  try simp only [ap]
  refine wpAnyH_ready (rs := [6]) (by kernel_rfl) (by simp) ?_
  refine cons_drop rfl (fun K hK => ?_) AllReadyH.nil
  go_simp
  have HCLB := Lib.hid (HCL.out (fun c => HZ hb A c ∨ c = g7) Wb (fun c hc => .inl hc) (fun c hc => by
   have h1 := HZb.out; have h2 := HG7.out
   rcases hc with e | e
   ·have := HZL.out c e; omega
   ·omega) HBb.out (fun c hlt hc => by
   have h2 := HG7.out
   rcases hc with e | e
   ·exact e
   ·omega))
  (with_reducible refine HCLB.out.mono ?_)
  rintro e5 W6 ⟨Ac, cc, rfl, hb5, hec, hrow, hmut⟩
  have hb6 : Below W1.heap.size W1 W6 := HBb.out.trans (hb5.mono HBb.out.size)
  have HCC : Hid (en ≤ cc ∧ cc ≤ 2 ^ 63 - 1) := Lib.hid ⟨by rw [← HEN.out]; exact hec.le, by have := hec.cap_le; simp only [maxLen] at this; exact this⟩
  have HX7 : Hid (W6.heap[g7]? = some (.cells #[.string ⟨#[]⟩, .int .u64 0, .slice none 0 0] 36 (0, 0)) ∧ W1.heap.size ≤ g7 ∧ g7 < W6.heap.size) := Lib.hid (by have h1 := HZb.out; have h2 := HG7.out; have h3 := hb5.size; exact ⟨(hb5.block g7 (by omega)).trans HXb.out, by omega, by omega⟩)
  have HOWN : Hid (EvsIn (veil (fun c => HZ hb A c ∨ c = g7) W6) Ac cc b.es ∧ (∀ g, rowOf Ac = some g → W1.heap.size ≤ g ∧ g < W6.heap.size ∧ g ≠ g7) ∧ MutC W6 Ac b.es.length 1 .u64) := Lib.hid ⟨hec, fun g hg => by have := hrow g hg; have h1 := HZb.out; have h2 := HG7.out; omega, hmut⟩
  have HB6 := Lib.hid hb6
  clear hec hrow hmut hb6 hb5 HBb HXb HZb HG7
  rw [HEN.out]
  go_wp2_with fail
  refine hK.out _ _ (KS.out _ HB6.out) (fun hHeld3 => ?_)
  clear hK K hHeld2
  try simp only [ap]
  refine tk 7 rfl ?_
  try simp only [ap]
  rotate_left
  all_goals
   have hx7 := HX7.out.1
   have z0 : W6.cell? ⟨g7, 0, none⟩ = some (.string ⟨#[]⟩) := by simp [World.cell?, hx7]
   have z1 : W6.cell? ⟨g7, 1, none⟩ = some (.int .u64 0) := by simp [World.cell?, hx7]
   have z2 : W6.cell? ⟨g7, 2, none⟩ = some (.slice none 0 0) := by simp [World.cell?, hx7]
   have zf0 : W6.frozen? ⟨g7, 0, none⟩ = false := by simp [World.frozen?, hx7]
   have zf1 : W6.frozen? ⟨g7, 1, none⟩ = false := by simp [World.frozen?, hx7]
   have zf2 : W6.frozen? ⟨g7, 2, none⟩ = false := by simp [World.frozen?, hx7]
   have HX8 : Hid (Cn.BB (((W6.setCell ⟨g7, 0, none⟩ (.string ff)).setCell ⟨g7, 1, none⟩ (.int .u64 (at' : Nat))).setCell ⟨g7, 2, none⟩ (.slice Ac en cc)) g7 ff at' Ac en cc) := Lib.hid (by unfold Cn.BB; simp [World.setCell, Array.getElem?_modify, hx7])
   have HKW : Hid ((fun W : World => W.cell? ⟨g8, 0, none⟩ = some (.string ff) ∧ W.cell? ⟨g8, 1, none⟩ = some (.int .u64 (at' : Nat)) ∧ W.cell? ⟨g8, 2, none⟩ = some (.slice A2 en c2)) (((W6.setCell ⟨g7, 0, none⟩ (.string ff)).setCell ⟨g7, 1, none⟩ (.int .u64 (at' : Nat))).setCell ⟨g7, 2, none⟩ (.slice Ac en cc))) := Lib.hid (by
    obtain ⟨a0, a1, a2⟩ := KS.out _ HB6.out
    have hne : g8 ≠ g7 := by have := HG8.out; have := HX7.out.2.1; omega
    have e : ∀ o, (((W6.setCell ⟨g7, 0, none⟩ (.string ff)).setCell ⟨g7, 1, none⟩ (.int .u64 (at' : Nat))).setCell ⟨g7, 2, none⟩ (.slice Ac en cc)).cell? ⟨g8, o, none⟩ = W6.cell? ⟨g8, o, none⟩ := fun o => World.cell?_of_block (a := ⟨g8, o, none⟩) (by repeat rw [RowKit.Below.heap_setCell _ _ _ _ hne])
    exact ⟨(e _).trans a0, (e _).trans a1, (e _).trans a2⟩)
   clear hx7
   refine wpAnyH_ready (rs := [9]) (by kernel_rfl) (by simp) ?_
   refine cons_drop rfl (fun K hK => ?_) AllReadyH.nil
   go_simp
   refine hK.out _ _ HKW.out (fun hHeld4 => ?_)
   clear hK K hHeld3 HKW
   try simp only [ap]
   refine wpAnyH_done (by kernel_rfl) ?_ _
   refine NoPanic.normal ?_
   clear hHeld4 z0 z1 z2 zf0 zf1 zf2
  all_goals
   obtain ⟨W7, hW7⟩ : ∃ W7, W7 = ((W6.setCell ⟨g7, 0, none⟩ (.string ff)).setCell ⟨g7, 1, none⟩ (.int .u64 (at' : Nat))).setCell ⟨g7, 2, none⟩ (.slice Ac en cc) := ⟨_, rfl⟩
   rw [← hW7] at HX8
   have ho7 : ∀ c, c ≠ g7 → W7.heap[c]? = W6.heap[c]? := fun c hc => by rw [hW7]; repeat rw [RowKit.Below.heap_setCell _ _ _ _ hc]
   have hz7 : W7.heap.size = W6.heap.size := by rw [hW7]; simp [World.setCell]
   have hb17 : Below W1.heap.size W1 W7 := by rw [hW7]; exact ((HB6.out.setCell (p := ⟨g7, 0, none⟩) HX7.out.2.1 _).setCell (p := ⟨g7, 1, none⟩) HX7.out.2.1 _).setCell (p := ⟨g7, 2, none⟩) HX7.out.2.1 _
   obtain ⟨Y, hY⟩ : ∃ Y : Nat → Prop, Y = fun c => c = g6 ∨ rowOf Ac = some c := ⟨_, rfl⟩
   have HY6 : Hid (Y g6) := Lib.hid (by rw [hY]; exact .inl rfl)
   have HYC : Hid (∀ c, rowOf Ac = some c → Y c) := Lib.hid fun c hc => by rw [hY]; exact .inr hc
   have HYD : Hid (∀ c, Y c → c = g6 ∨ rowOf Ac = some c) := Lib.hid fun c hc => by rw [hY] at hc; exact hc
   have hec7 : EvsIn (veil (HZ hb A) W7) Ac cc b.es := EvsIn.leads HOWN.out.1 (leads_veils (by rw [hz7]; exact Nat.le_refl _) fun c hc hx => ⟨fun e => hx (.inl e), ho7 c fun e => hx (.inr e)⟩)
   have hmut7 : MutC W7 Ac b.es.length 1 .u64 := HOWN.out.2.2.keep fun r hr => ho7 r (HOWN.out.2.1 r hr).2.2
   have S7 : LS w0 Y W7 hb bt bm bk n A cap hm := ⟨(HS1.out.hat.more (Y' := Y) (fun c hc e => by
     rcases HYD.out c e with e | e
     ·exact e
     ·have := (HOWN.out.2.1 c e).1; omega)).later hb17, fun c hc => by
     rcases hc with e | e
     ·rcases HYD.out c e with e | e
      ·exact HS1.out.low c (.inl e)
      ·exact Nat.le_trans HS1.out.bel.size (HOWN.out.2.1 c e).1
     ·exact HS1.out.low c (.inr e), fun c hc => by
     rcases HYD.out c hc with e | e
     ·rw [e]; exact Nat.lt_of_lt_of_le HX1.out.lt hb17.size
     ·rw [hz7]; exact (HOWN.out.2.1 c e).2.1, HS1.out.bel.trans (hb17.mono HS1.out.bel.size)⟩
   have hl17 : Leads (veil (YH (fun c => c = g6) hb A) W1) (veil (YH Y hb A) W7) := leads_veils hb17.size fun c hc hx => ⟨fun e => by
    rcases e with e | e
    ·rcases HYD.out c e with e | e
     ·exact hx (.inl e)
     ·have := (HOWN.out.2.1 c e).1; omega
    ·exact hx (.inr e), hb17.block c hc⟩
   have hr7 := HR1.out.leads hl17
   have hes7 := EvsIn.leads HES1.out hl17
   have HC9 := Lib.hid (S7.addz HG.out b Ac cc hec7 HBIN.out (by have := HT.out; have := HEN.out; omega) HN.out (by rw [hff]; exact HFL.out) (by rw [hatt]; exact HATB.out))
   rw [hff, hatt, HEN.out] at HC9
   have HS7 := Lib.hid S7; have HR7 := Lib.hid hr7; have HES7 := Lib.hid hes7; have HMUT7 := Lib.hid hmut7; have HB17 := Lib.hid hb17; have HZ7 := Lib.hid hz7
   have HX67 : Hid (RX W7 g6 ⟨#[119]⟩ (.slice Bu nu cu) cl nx (.slice Ak nk ck) (.slice Aq nt ct) (.slice Am nm cm)) := Lib.hid (HX1.out.later hb17 HX1.out.lt)
   have HB87 : Hid (Cn.BB W7 g8 ff at' A2 en c2) := Lib.hid (HB8.out.later hb17 HG8.out)
   have HW7 := Lib.hid hW7
   have HGR : Hid (∀ r, rowOf Ac = some r → W1.heap.size ≤ r ∧ r ≠ g7 ∧ r ≠ g6 ∧ r ≠ g8 ∧ r < W7.heap.size) := Lib.hid fun r hr => by
    obtain ⟨q1, q2, q3⟩ := HOWN.out.2.1 r hr
    have := HX1.out.lt; have := HG8.out
    exact ⟨q1, q3, by omega, by omega, by rw [hz7]; exact q2⟩
   obtain ⟨z0, z1, z2, -⟩ := Cn.BB.cells HX8.out
   clear ho7 hz7 hb17 hec7 hmut7 S7 hl17 hr7 hes7 hW7 hY HOWN HCL KS HB6 HCLA
   go_upto_region 9 with fail
   rw [← HW7.out]
   go_wp2_with fail
   refine HC9.out.mono ?_
   rintro r w8 ⟨rfl, bt8, bm8, bk8, n8, A8, cap8, S8, hl8, hc8⟩
   have hnz : ∀ c, c < W7.heap.size → c ≠ hb → (∀ r, rowOf A = some r → r ≠ c) → w8.heap[c]? = W7.heap[c]? := fun c hc h1 h2 => hc8.block c hc fun e => by
    rcases e with e | e
    ·exact h1 e
    ·exact h2 c e rfl
   have hlo := HS1.out.xb
   have hx68 := HX67.out.off HS7.out HY6.out hc8
   have hx78 : Cn.BB w8 g7 ff at' Ac en cc := (hnz g7 (by have := HX7.out.2.2; have := HZ7.out; omega) (by have := hlo hb (.inr (.inl rfl)); have := HX7.out.2.1; omega) (fun r hr e => by have := hlo r (.inr (.inr hr)); have := HX7.out.2.1; omega)).trans HX8.out
   have hx88 : Cn.BB w8 g8 ff at' A2 en c2 := (hnz g8 (Nat.lt_of_lt_of_le HG8.out HB17.out.size) HGX.out.1 HGX.out.2.1).trans HB87.out
   have hmut8 : MutC w8 Ac b.es.length 1 .u64 := HMUT7.out.keep fun r hr => by
    obtain ⟨q1, q2, q3, q4, q5⟩ := HGR.out r hr
    exact hnz r q5 (by have := hlo hb (.inr (.inl rfl)); omega) (fun r' hr' e => by have := hlo r' (.inr (.inr hr')); omega)
   have hr8 := HR7.out.leads hl8
   have hes8 := EvsIn.leads HES7.out hl8
   have HC10 := Lib.hid (S8.radd (hx := hm) _ _ _ _ hr8 HG.out b A2 c2 hes8 HBIN.out (by have := HT.out; have := HEN.out; omega) HN.out (by rw [hff]; exact HFL.out) (by rw [hatt]; exact HATB.out))
   rw [hff, hatt, HEN.out, hfw, hcl, hnx] at HC10
   unfold rhC at HC10
   have HS8 := Lib.hid S8; have HX68 := Lib.hid hx68; have HX78 := Lib.hid hx78; have HMUT8 := Lib.hid hmut8; have HSZ8 := Lib.hid hc8.size
   clear z0 z1 z2
   obtain ⟨y0, y1, y2, -⟩ := Cn.BB.cells hx88
   obtain ⟨x0, x1, x2, x3, x4, x5, x6, -⟩ := hx68.cells
   clear hnz hlo S8 hl8 hc8 hx68 hx78 hx88 hmut8 hr8 hes8 HC9 HR7 HES7 HMUT7
   generalize (addM hm b).1 = cd at *
   go_wp2_with fail
   refine HC10.out.mono ?_
   rintro r w9 ⟨hb9, ub1, uk1, ut1, um1, rfl, hr9⟩
   obtain ⟨⟨Bu1, nu1, cu1, rfl⟩, ⟨Ak1, nk1, ck1, rfl⟩, ⟨Aq1, nt1, ct1, rfl⟩, ⟨Am1, nm1, cm1, rfl⟩⟩ := hr9.slices
   rw [hfw]
   unfold rhC
   obtain ⟨hm1, hhm1⟩ : ∃ h', h' = (addM hm b).2 := ⟨_, rfl⟩
   have hfw1 : hm1.flow = ⟨#[119]⟩ := by rw [hhm1, addM_flow, hfw]
   rw [← hhm1] at hr9 HNEXT ⊢
   obtain ⟨cl1, hcl1⟩ : ∃ x, x = hm1.s.closed := ⟨_, rfl⟩
   obtain ⟨nx1, hnx1⟩ : ∃ x, x = hm1.s.next := ⟨_, rfl⟩
   rw [← hcl1, ← hnx1]
   obtain ⟨W10, hW10⟩ : ∃ W10, W10 = ((((((w9.setCell ⟨g6, 0, none⟩ (.string ⟨#[119]⟩)).setCell ⟨g6, 1, none⟩ (.slice Bu1 nu1 cu1)).setCell ⟨g6, 2, none⟩ (.int .i64 cl1)).setCell ⟨g6, 3, none⟩ (.int .u64 (nx1 : Nat))).setCell ⟨g6, 4, none⟩ (.slice Ak1 nk1 ck1)).setCell ⟨g6, 5, none⟩ (.slice Aq1 nt1 ct1)).setCell ⟨g6, 6, none⟩ (.slice Am1 nm1 cm1) := ⟨_, rfl⟩
   have hx9 := HX68.out.later hb9 HX68.out.lt
   have hx79 := Cn.BB.later HX78.out hb9 (Nat.lt_of_lt_of_le (by have := HX7.out.2.2; have := HZ7.out; omega) HSZ8.out)
   have hc10 : Chg (fun c => c = g6) w9 W10 := by rw [hW10]; exact setCells7_chg (Y := fun c => c = g6) (g := g6) rfl _ _ _ _ _ _ _
   have hc10Y : Chg Y w9 W10 := ⟨hc10.os, hc10.tape, hc10.output, hc10.size, fun c hc hx => hc10.block c hc fun e => hx (by have e : c = g6 := e; rw [e]; exact HY6.out)⟩
   have hx10 : RX W10 g6 ⟨#[119]⟩ (.slice Bu1 nu1 cu1) cl1 nx1 (.slice Ak1 nk1 ck1) (.slice Aq1 nt1 ct1) (.slice Am1 nm1 cm1) := by rw [hW10]; exact hx9.seven
   have HX710 : Hid (Cn.BB W10 g7 ff at' Ac en cc) := Lib.hid ((hc10.block g7 (by have := hx79; exact (Array.getElem?_eq_some_iff.1 this).1) (fun e => by have e : g7 = g6 := e; have := HX1.out.lt; have := HX7.out.2.1; omega)).trans hx79)
   have HMUT10 : Hid (MutC W10 Ac en 1 .u64) := Lib.hid (by rw [← HEN.out]; exact (HMUT8.out.later hb9).keep fun r hr => hc10.block r (Nat.lt_of_lt_of_le (HGR.out r hr).2.2.2.2 (Nat.le_trans HSZ8.out hb9.size)) fun e => (HGR.out r hr).2.2.1 e)
   have S10 := (HS8.out.later hb9).chg hc10Y
   rw [← hhm1] at S10
   have HS10 := Lib.hid S10; have HR10 := Lib.hid (hr9.leads (chgY_leads hc10Y)); have HX10 := Lib.hid hx10
   have HW10 := Lib.hid hW10; have HCL1 := Lib.hid hcl1; have HNX1 := Lib.hid hnx1; have HFW1 := Lib.hid hfw1
   clear x0 x1 x2 x3 x4 x5 x6 y0 y1 y2
   obtain ⟨x0, x1, x2, x3, x4, x5, x6, xf⟩ := hx9.cells
   have xf0 := xf 0; have xf1 := xf 1; have xf2 := xf 2; have xf3 := xf 3; have xf4 := xf 4; have xf5 := xf 5; have xf6 := xf 6
   clear xf hx9 hx79 hc10 hc10Y hx10 S10 hr9 hb9 hW10 hcl1 hnx1 hfw1 hhm1 HC10 HX68 HX78 HMUT8 HS8
   obtain ⟨z0, z1, z2, -⟩ := Cn.BB.cells HX710.out
   have hcc : en ≤ cc ∧ cc ≤ 2 ^ 63 - 1 := HCC.out
   obtain ⟨hcc1, hcc2⟩ := hcc
   go_upto_region 11 with fail
   rw [← HW10.out]
   clear x0 x1 x2 x3 x4 x5 x6 xf0 xf1 xf2 xf3 xf4 xf5 xf6
   go_wp2_with fail
   clear z0 z1 z2
   go_loopw [53] (fun i wz => ∃ p : Nat, p ≤ en ∧ i = .int .i64 p ∧ Chg (fun c => rowOf Ac = some c) W10 wz ∧ MutC wz Ac en 1 .u64) (fun i _ => en - (intOf i).toNat)
   case atStart => exact ⟨0, by omega, rfl, Chg.refl _ _, HMUT10.out⟩
   case round =>
    obtain ⟨p, hp, rfl, hcg, hmu⟩ := hrel
    by_cases hpe : p < en
    ·obtain ⟨r, hAc, hlt, hfr, hcell⟩ := hmu (by omega)
     obtain ⟨x, hx⟩ := hcell p hpe
     have hfr1 := hfr (p * 11 + 1)
     have hx7r : Cn.BB wr g7 ff at' Ac en cc := (hcg.block g7 (Array.getElem?_eq_some_iff.1 HX710.out).1 (fun e => (HGR.out g7 e).2.1 rfl)).trans HX710.out
     obtain ⟨z0, z1, z2, -⟩ := Cn.BB.cells hx7r
     rw [hAc] at z2
     have HAC := Lib.hid hAc; have HCG := Lib.hid hcg; have HMU := Lib.hid hmu
     clear hAc hcg hmu hlt hfr hcell hx7r
     go_wp2_with fail
     go_roundw
     case rel => exact ⟨p + 1, by omega, by go_num, HCG.out.trans (Chg.setCell (by rw [HAC.out]; rfl) _), HMU.out.set _ _⟩
     case measure => simp [intOf]; omega
    ·have hcY : Chg Y W10 wr := ⟨hcg.os, hcg.tape, hcg.output, hcg.size, fun c hc hx => hcg.block c hc fun e => hx (HYC.out c e)⟩
     have S11 := HS10.out.chg hcY
     have hr11 := HR10.out.leads (chgY_leads hcY)
     have HREL : Hid (LW w0 g6 wr hb (rep ⟨#[119]⟩ (bl.take (j + 1)))) := Lib.hid (by
      rw [HNEXT.out]
      have hsub : ∀ c, YH (fun c => c = g6) hb A8 c → YH Y hb A8 c := fun c hc => by
       rcases hc with e | e
       ·have e : c = g6 := e
        rw [e]; exact .inl HY6.out
       ·exact .inr e
      refine ⟨bt8, bm8, bk8, n8, A8, cap8, _, _, _, _, ⟨S11.hat.more (Y' := fun c => c = g6) (fun c _ e => by have e : c = g6 := e; rw [e]; exact HY6.out), fun c hc => S11.low c (hsub c hc), fun c hc => S11.yb c (by have e : c = g6 := hc; rw [e]; exact HY6.out), S11.bel⟩, ?_, hr11.leads (leads_veils (Nat.le_refl _) fun c hc hx => ⟨fun e => hx (hsub c e), rfl⟩)⟩
      rw [HFW1.out, ← HCL1.out, ← HNX1.out]
      exact (hcg.block g6 HX10.out.lt (fun e => (HGR.out g6 e).2.2.1 rfl)).trans HX10.out)
     have hpe' : p = en := by omega
     subst hpe'
     clear hcY S11 hr11 hcg hmu
     go_wp2_with fail
     go_roundw
     case rel => exact ⟨j + 1, by omega, by go_num, HREL.out⟩
     case measure => simp [intOf]; omega
end Hi
end Go.Proofs.YtkajcldmolcllaaGreat
namespace Go.Proofs.YtkajcldmolcllaaGreat
namespace Hi
set_option maxRecDepth 100000 in
theorem keeps_open {H : Type} {enc : TypeId × Value → H} {base b1 : Nat} {spare : Nat → Bool} {held : Bool} {d0 : DataW H} {p0 : List MemPlace} (v0 : Value) (W : World)
  (o0 : Value.okWide Tryz.prog W .any base 22 v0) (k0 : DataW.Trod enc Tryz.prog W b1 spare held 22 v0 d0 p0) (hs0 : ∀ x ∈ d0.weights Tryz.prog 22, x ≤ reachBytes) :
  Calls Tryz.prog 7 #[v0] W fun r w' => r = .returned (.bool true) ∧ Below W.heap.size W w' := by
 obtain ⟨bl, A, cap, rfl, hB, hl⟩ := bts_open v0 W o0 k0 hs0
 exact keeps_walk bl A cap W hB hl
end Hi
end Go.Proofs.YtkajcldmolcllaaGreat
