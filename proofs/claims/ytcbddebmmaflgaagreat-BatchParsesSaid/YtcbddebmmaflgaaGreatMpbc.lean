/- The reference's read of a value: lists; ref04.Read. -/
/- The reference's read of a value: ref04.Read. -/
/- The reference's Read of an event: nothing there. -/
/- The reference's Valid answers as the program's of any event of a kind from 1 to 11. -/
import Derived.Test.YtcbddebmmaflgaaGreatMpbb
import Derived.Test.YtcbddebmmaflgaaGreatMpay
import Derived.Test.YtcbddebmmaflgaaGreatMpan
import Derived.Test.YtcbddebmmaflgaaGreatMpav
namespace Go.Proofs.YtcbddebmmaflgaaGreat
open Go.RowKit
set_option linter.unusedVariables false
set_option linter.unusedSimpArgs false
namespace Rd
open _root_.Go.Proofs.YtcbddebmmaflgaaGreat.Nm (ret_int ret_bool bitsW ofW okW)
open Vt (VT Rep BoxAt below_drew put5 KidsAt HeadOk)
open Cm (OnlyAt rowOf)
open Cn (BRd brd_own VsAt VNew)
open Bt (BIn)
attribute [local go_sem] Vt.run_store_float

theorem fin7_keep (W : World) (b q : Nat) (x0 x1 d0 d1 d2 d3 d4 : Value) (h1 : q ≠ b) (h2 : q ≠ b + 1) : (put5 ((W.setCell ⟨b, 0, none⟩ x0).setCell ⟨b, 1, none⟩ x1) (b + 1) 0 d0 d1 d2 d3 d4).heap[q]? = W.heap[q]? :=
  (Vt.put5_other _ _ _ _ _ _ _ _ q h2).trans ((Below.heap_setCell _ ⟨b, 1, none⟩ _ q (by simpa using h1)).trans (Below.heap_setCell _ ⟨b, 0, none⟩ _ q (by simpa using h1)))
theorem fin7_size (W : World) (b : Nat) (x0 x1 d0 d1 d2 d3 d4 : Value) : (put5 ((W.setCell ⟨b, 0, none⟩ x0).setCell ⟨b, 1, none⟩ x1) (b + 1) 0 d0 d1 d2 d3 d4).heap.size = W.heap.size := by rw [Vt.put5_size]; simp [World.setCell]
theorem vs_rep2 {wr W' : World} {b1 lo : Nat} {acc : List VT} {A : Option Addr} {cap : Nat} (hvs : VsAt wr (b1 + 1) A cap acc.length acc) (hz : wr.heap.size ≤ W'.heap.size) (hk : ∀ q, b1 + 1 ≤ q → q < wr.heap.size → W'.heap[q]? = wr.heap[q]?) (hlo : lo ≤ b1 + 1) :
    Rep W' lo W'.heap.size (.mk 4 0 0 ⟨#[]⟩ acc) (.agg #[.int .i64 4, .int .i64 0, .float .f64 0, .string ⟨#[]⟩, .slice A acc.length cap]) := by
  obtain ⟨hk2, hl2, hc2, -⟩ := hvs.kids
  exact (Rep.close ⟨by decide, by decide, by decide, by decide, by decide, by decide, hc2⟩ hl2 (hk2.keep fun b o h1 h2 => World.cell?_of_block (a := ⟨b, o, none⟩) (hk b h1 h2))).more hlo hz
theorem rep_fin7 {wr : World} {c0 b1 lo : Nat} {acc : List VT} {A : Option Addr} {cap : Nat} (hvs : VsAt wr (b1 + 1) A cap acc.length acc) (hb : c0 + 1 + 1 < b1) (hlo : lo ≤ b1 + 1) (x0 x1 d0 d1 d2 d3 d4 : Value) :
    Rep (put5 ((wr.setCell ⟨c0 + 1, 0, none⟩ x0).setCell ⟨c0 + 1, 1, none⟩ x1) (c0 + 1 + 1) 0 d0 d1 d2 d3 d4).drew lo (put5 ((wr.setCell ⟨c0 + 1, 0, none⟩ x0).setCell ⟨c0 + 1, 1, none⟩ x1) (c0 + 1 + 1) 0 d0 d1 d2 d3 d4).drew.heap.size (.mk 4 0 0 ⟨#[]⟩ acc) (.agg #[.int .i64 4, .int .i64 0, .float .f64 0, .string ⟨#[]⟩, .slice A acc.length cap]) := by
  have h1 := fin7_size wr (c0 + 1) x0 x1 d0 d1 d2 d3 d4
  have h2 := fun q => fin7_keep wr (c0 + 1) q x0 x1 d0 d1 d2 d3 d4
  generalize put5 ((wr.setCell ⟨c0 + 1, 0, none⟩ x0).setCell ⟨c0 + 1, 1, none⟩ x1) (c0 + 1 + 1) 0 d0 d1 d2 d3 d4 = X at *
  exact vs_rep2 (W' := X.drew) hvs (Nat.le_of_eq h1.symm) (fun q a b => h2 q (by omega) (by omega)) hlo
theorem vs_keep {W W' : World} {base : Nat} {A : Option Addr} {cap n : Nat} {ts : List VT} (h : VsAt W base A cap n ts) (hz : W.heap.size ≤ W'.heap.size) (hk : ∀ q, base ≤ q → q < W.heap.size → W'.heap[q]? = W.heap[q]?) : VsAt W' base A cap n ts := by
  obtain ⟨h0, xs, h1, h3⟩ := h
  refine ⟨h0, xs, ⟨h1.1, ?_⟩, fun i hi => ?_⟩
  · rcases h1.2 with h | ⟨r, cp, cur, q1, q2, q3, q4⟩
    · exact .inl h
    · exact .inr ⟨r, cp, cur, q1, q2, (hk r q2 (Array.getElem?_eq_some_iff.1 q3).1).trans q3, q4⟩
  · obtain ⟨lo, hi', k, n, f, s, A, m, c, k0, k1, k2, k3, k4⟩ := h3 i hi
    exact ⟨lo, hi', k, n, f, s, A, m, c, k0, Nat.le_trans k1 hz, k2.keep fun b o hb1 hb2 => World.cell?_of_block (a := ⟨b, o, none⟩) (hk b (by omega) (by omega)), k3, k4⟩
/-- The loop over a list's elements. -/
def RInv (left B c0 b1 : Nat) (k : Int) (w : World) (nn : Nat) (sz : St) (iv : Value) (wr : World) : Prop :=
  ∃ (j : Nat) (A : Option Addr) (cap : Nat) (vj : Value) (sj : St) (acc : List VT), iv = .int .u64 (j : Nat) ∧ j ≤ nn ∧ QB wr c0 vj sj.2 ∧ QB wr (c0 + 1) (.slice none 0 0) false ∧ BoxAt wr (c0 + 1 + 1) 0 0 0 ⟨#[]⟩ none 0 0 ∧ BoxAt wr b1 k 0 0 ⟨#[]⟩ A j cap ∧ RP wr B vj sj.1 ∧ Below c0 w wr ∧
    VsAt wr (b1 + 1) A cap j acc ∧ rep (pv left) nn sz = (rep (pv left) (nn - j) sj).map (fun q => (q.1, acc ++ q.2)) ∧ j + sj.1.length ≤ 1099511627776

set_option maxRecDepth 100000 in
set_option maxHeartbeats 4000000 in
theorem rr_list0 (s : St) (x : Value) (w : World) (B : Nat) (hB : B ≤ w.heap.size) (h : RV w B s x) (hq : (rUint s).1.2 = false ∧ (rUint s).2 = 4) :
    Calls Tryz.prog 71 #[x, .int .i64 (0 : Nat)] w (RRead (0) s B w) := by
  have HP : Hid (pv (0) s = none) := Lib.hid (by rw [pv_eq, if_neg (by rw [hq.1, hq.2]; simp), if_neg (by rw [hq.2]; decide), if_neg (by rw [hq.2]; decide), if_neg (by rw [hq.2]; decide), if_neg (by rw [hq.2]; decide)] <;> rfl)
  have HQQ := Lib.hid hq
  clear hq
  obtain ⟨⟨v, rfl, hv, hf⟩, hb, hl⟩ := h
  obtain ⟨l, bad⟩ := s
  simp only at *
  obtain ⟨W0, hW0, hq, hqr, hx, hb0, hz0⟩ := three_boxes w v bad
  have hp0 : RP W0 B v l := RP.below ⟨hv, hf, hb, hl⟩ hb0 hB
  have HU := Lib.hid (rruint_any (l, bad) (.agg #[v, .bool bad]) W0 B (by omega) ⟨⟨v, rfl, hp0.1, hf⟩, hb, hl⟩)
  have HBY := Lib.hid (rUint_byt (s := (l, bad)) hb hl)
  have HQ := Lib.hid hq
  have HQR := Lib.hid hqr
  have HX := Lib.hid hx
  have HB0 := Lib.hid hb0
  have HST := Lib.hid hp0.store
  clear hv hf hb hl hx hq hqr hb0 hp0
  generalize rUint (l, bad) = q at *
  obtain ⟨⟨l1, bad1⟩, k⟩ := q
  simp only at *
  have HI := Lib.hid fun (W : World) (x : Value) (hW : B ≤ W.heap.size) (hx : RV W B (l1, bad1) x) => rruint_any (l1, bad1) x W B hW hx
  have HBZ := Lib.hid (rUint_byt (s := (l1, bad1)) HBY.out.1 HBY.out.2)
  have hnn := rUint_val (s := (l1, bad1)) HBY.out.1
  generalize rUint (l1, bad1) = z at *
  obtain ⟨⟨l4, bad4⟩, nn⟩ := z
  simp only at *
  obtain ⟨c0, hc0⟩ : ∃ c0, c0 = w.heap.size := ⟨_, rfl⟩
  rw [← hc0] at HQ HQR HX HB0 hz0 hB
  obtain ⟨a0, a1, af0, af1⟩ := HQ.out.cells
  replace hW0 := Lib.hid hW0
  have HC0 := Lib.hid hc0
  clear hc0
  go_enter Tryz.func71, Tryz.ntmps71
  go_upto_region 1 with fail
  rw [← hW0.out, ← HC0.out]
  go_wp2_with fail
  refine HU.out.mono ?_
  rintro e w1 ⟨y, rfl, ⟨⟨v1, rfl, hv1, hf1⟩, hb1, hl1⟩, hbl⟩
  simp only at hv1 hf1 hb1 hl1
  have hp1 : RP w1 B v1 l1 := ⟨hv1, hf1, hb1, hl1⟩
  have hst1 := hp1.store
  clear hv1 hf1 hb1 hl1 a0 a1 af0 af1
  have hzw := hbl.size
  have hq1 := HQ.out.later hbl (by omega)
  have hqr1 := HQR.out.later hbl (by omega)
  have hx1 := HX.out.later hbl (by omega)
  obtain ⟨b1, hb1⟩ : ∃ b1, b1 = w1.heap.size := ⟨_, rfl⟩
  obtain ⟨W2, hW2⟩ : ∃ W2, W2 = ((w1.setCell ⟨c0, 0, none⟩ v1).setCell ⟨c0, 1, none⟩ (.bool bad1)).alloc (.cells #[.int .i64 0, .int .i64 0, .float .f64 0, .string ⟨#[]⟩, .slice none 0 0] 42) := ⟨_, rfl⟩
  have hs2 : Below c0 w1 ((w1.setCell ⟨c0, 0, none⟩ v1).setCell ⟨c0, 1, none⟩ (.bool bad1)) := below_set2 (below_set2 (Below.refl _ _) (Nat.le_refl _) _ _) (Nat.le_refl _) _ _
  have hzs : ((w1.setCell ⟨c0, 0, none⟩ v1).setCell ⟨c0, 1, none⟩ (.bool bad1)).heap.size = b1 := by rw [hb1]; simp [World.setCell]
  have hb12 : Below c0 w1 W2 := by rw [hW2]; exact hs2.alloc (by omega) _
  have e2 : ∀ b, b < b1 → W2.heap[b]? = ((w1.setCell ⟨c0, 0, none⟩ v1).setCell ⟨c0, 1, none⟩ (.bool bad1)).heap[b]? := fun b hb => by rw [hW2]; exact heap_alloc_old _ _ (by rw [hzs]; exact hb)
  have HQ2 : Hid (QB W2 c0 v1 bad1) := Lib.hid ((e2 c0 (by omega)).trans (qb_set hq1))
  have HQR2 : Hid (QB W2 (c0 + 1) (.slice none 0 0) false) := Lib.hid ((e2 _ (by omega)).trans (qb_far (qb_far hqr1 (by omega) _) (by omega) _))
  have HX2 : Hid (BoxAt W2 (c0 + 1 + 1) 0 0 0 ⟨#[]⟩ none 0 0) := Lib.hid ((e2 _ (by omega)).trans (Vt.box_far (Vt.box_far hx1 (by omega) _) (by omega) _))
  have HV2 : Hid (BoxAt W2 b1 0 0 0 ⟨#[]⟩ none 0 0) := Lib.hid (by rw [hW2, ← hzs]; exact BoxAt.new ..)
  have hz2 : W2.heap.size = b1 + 1 := by rw [hW2, World.size_alloc, hzs]
  have HP2 := Lib.hid (hp1.below hb12 hB)
  have HB2 := Lib.hid (HB0.out.trans ((hbl.mono (by omega)).trans hb12))
  obtain ⟨a0, a1, af0, af1⟩ := hq1.cells
  have hlt3 : c0 + 1 + 1 < b1 := by omega
  clear hs2 hzs hb12 e2 hp1 hqr1 hx1 hbl hzw hq1
  replace hW2 := Lib.hid hW2
  have HB1 := Lib.hid hb1
  go_upto_region 3 with fail
  rw [← hW2.out, ← HB1.out]
  clear a0 a1 af0 af1 hst1 hb1
  have hst := HP2.out.store
  obtain rfl : bad1 = false := HQQ.out.1
  have k1 : decide ((k : Int) > 4) = false := decide_eq_false (by have := HQQ.out.2; omega)
  have k2 : decide ((4 : Int) < (k : Int)) = false := decide_eq_false (by have := HQQ.out.2; omega)
  have k3 : decide (4 < k) = false := decide_eq_false (by have := HQQ.out.2; omega)
  have hwk : IntKind.i64.wrap (k : Int) = (k : Int) := by have := HQQ.out.2; rw [IntKind.wrap_i64]; omega
  have e1 : ((k : Int) == 1) = false := beq_eq_false_iff_ne.2 (by have := HQQ.out.2; omega)
  have e2 : ((k : Int) == 2) = false := beq_eq_false_iff_ne.2 (by have := HQQ.out.2; omega)
  have e3 : ((k : Int) == 3) = false := beq_eq_false_iff_ne.2 (by have := HQQ.out.2; omega)
  have e4 : ((k : Int) == 4) = true := beq_iff_eq.2 (by have := HQQ.out.2; omega)
  have HK0 : Hid ((k : Int) = 4) := Lib.hid (by have := HQQ.out.2; omega)
  obtain ⟨W3, hW3⟩ : ∃ W3, W3 = W2.setCell ⟨b1, 0, none⟩ (.int .i64 (k : Int)) := ⟨_, rfl⟩
  have hs3 : Below c0 W2 W3 := by rw [hW3]; exact below_set2 (Below.refl _ _) (by omega) _ _
  have HQ3 : Hid (QB W3 c0 v1 false) := Lib.hid (by rw [hW3]; exact qb_far HQ2.out (by omega) _)
  have HQR3 : Hid (QB W3 (c0 + 1) (.slice none 0 0) false) := Lib.hid (by rw [hW3]; exact qb_far HQR2.out (by omega) _)
  have HX3 : Hid (BoxAt W3 (c0 + 1 + 1) 0 0 0 ⟨#[]⟩ none 0 0) := Lib.hid (by rw [hW3]; exact Vt.box_far HX2.out (by omega) _)
  have HV3 : Hid (BoxAt W3 b1 k 0 0 ⟨#[]⟩ none 0 0) := Lib.hid (by rw [hW3]; exact box_set0 HV2.out _)
  have hz3 : W3.heap.size = b1 + 1 := by rw [hW3]; simpa [World.setCell] using hz2
  have HP3 := Lib.hid (HP2.out.below hs3 hB)
  have HB3 := Lib.hid (HB2.out.trans hs3)
  clear hs3
  obtain ⟨a0, a1, af0, af1⟩ := HQ2.out.cells
  obtain ⟨d0, d1, d2, d3, d4⟩ := HV2.out.cells
  have m0 := Vt.box_free HV2.out 0
  have m1 := Vt.box_free HV2.out 1
  have m2 := Vt.box_free HV2.out 2
  have m3 := Vt.box_free HV2.out 3
  have m4 := Vt.box_free HV2.out 4
  have hz2x := hz2
  clear hz2x
  replace hW3 := Lib.hid hW3
  go_upto_region 6 with fail
  rw [← hW3.out]
  clear a0 a1 af0 af1 d0 d1 d2 d3 d4 m0 m1 m2 m3 m4 hst k1 k2 k3 hz2
  have hst := HP3.out.store
  obtain ⟨a0, a1, af0, af1⟩ := HQ3.out.cells
  go_wp2_with fail
  refine (HI.out W3 _ (by omega) ⟨⟨v1, rfl, HP3.out.1, HP3.out.2.1⟩, HP3.out.2.2⟩).mono ?_
  rintro e w4 ⟨y, rfl, ⟨⟨v4, rfl, hv4, hf4⟩, hb4, hl4⟩, hbl4⟩
  simp only at hv4 hf4 hb4 hl4
  have hp4 : RP w4 B v4 l4 := ⟨hv4, hf4, hb4, hl4⟩
  have hst4w := hp4.store
  have hz4w := hbl4.size
  have hq4 := HQ3.out.later hbl4 (by omega)
  have hqr4 := HQR3.out.later hbl4 (by omega)
  have hx4 := HX3.out.later hbl4 (by omega)
  have hv4b := HV3.out.later hbl4 (by omega)
  have hbw4 := HB3.out.trans (hbl4.mono (by omega))
  clear hv4 hf4 hb4 hl4 a0 a1 af0 af1 hst
  obtain ⟨a0, a1, af0, af1⟩ := hq4.cells
  obtain ⟨b2, hb2⟩ : ∃ b2, b2 = w4.heap.size := ⟨_, rfl⟩
  obtain ⟨Wa, hWa⟩ : ∃ Wa, Wa = ((w4.setCell ⟨c0, 0, none⟩ v4).setCell ⟨c0, 1, none⟩ (.bool bad4)).alloc (.cells #[v4, .bool bad4] 52) := ⟨_, rfl⟩
  have hzs : ((w4.setCell ⟨c0, 0, none⟩ v4).setCell ⟨c0, 1, none⟩ (.bool bad4)).heap.size = b2 := by rw [hb2]; simp [World.setCell]
  have ea : ∀ b, b < b2 → b ≠ c0 → Wa.heap[b]? = w4.heap[b]? := fun b hb hne => by
    rw [hWa]
    exact (heap_alloc_old _ _ (by rw [hzs]; exact hb)).trans ((Below.heap_setCell _ ⟨c0, 1, none⟩ _ b (by simpa using hne)).trans (Below.heap_setCell _ ⟨c0, 0, none⟩ _ b (by simpa using hne)))
  have hza : Wa.heap.size = b2 + 1 := by rw [hWa, World.size_alloc, hzs]
  have hsa : Below c0 w4 Wa := by rw [hWa]; exact (below_set2 (below_set2 (Below.refl _ _) (Nat.le_refl _) _ _) (Nat.le_refl _) _ _).alloc (by omega) _
  have HQa : Hid (QB Wa c0 v4 bad4) := Lib.hid (by rw [hWa]; exact (heap_alloc_old _ _ (by omega)).trans (qb_set hq4))
  have HQRa : Hid (QB Wa (c0 + 1) (.slice none 0 0) false) := Lib.hid ((ea _ (by omega) (by omega)).trans hqr4)
  have HXa : Hid (BoxAt Wa (c0 + 1 + 1) 0 0 0 ⟨#[]⟩ none 0 0) := Lib.hid ((ea _ (by omega) (by omega)).trans hx4)
  have HVa : Hid (BoxAt Wa b1 k 0 0 ⟨#[]⟩ none 0 0) := Lib.hid ((ea _ (by omega) (by omega)).trans hv4b)
  have HPa := Lib.hid (hp4.below hsa hB)
  have HBa := Lib.hid (hbw4.trans hsa)
  have hnb1 : ¬ (b2 = c0) := by omega
  have hnb2 : ¬ (c0 = b2) := by omega
  have hltc : c0 < w4.heap.size := by omega
  clear hp4 hqr4 hx4 hv4b hbw4 hbl4 ea hsa hq4 hzs
  replace hWa := Lib.hid hWa
  have HB2x := Lib.hid hb2
  clear hb2 hnb1 hnb2
  go_upto_region 26 with fail
  rw [← hWa.out]
  clear a0 a1 af0 af1 hst4w hltc
  have HQ4 := HQa; have HQR4 := HQRa; have HX4 := HXa; have HV4 := HVa; have HP4 := HPa; have HB4 := HBa
  clear HQa HQRa HXa HVa HPa HBa
  obtain ⟨a0, a1, af0, af1⟩ := HQ4.out.cells
  obtain ⟨q0, q1, qf0, qf1⟩ := HQR4.out.cells
  obtain ⟨r0, r1, r2, r3, r4⟩ := HX4.out.cells
  have f0 := Vt.box_free HX4.out 0
  have f1 := Vt.box_free HX4.out 1
  have f2 := Vt.box_free HX4.out 2
  have f3 := Vt.box_free HX4.out 3
  have f4 := Vt.box_free HX4.out 4
  obtain ⟨d0, d1, d2, d3, d4⟩ := HV4.out.cells
  have m0 := Vt.box_free HV4.out 0
  have m1 := Vt.box_free HV4.out 1
  have m2 := Vt.box_free HV4.out 2
  have m3 := Vt.box_free HV4.out 3
  have m4 := Vt.box_free HV4.out 4
  have hne1 : ¬ (b1 = c0) := by omega
  have hne2 : ¬ (b1 = c0 + 1) := by omega
  have hne3 : ¬ (b1 = c0 + 1 + 1) := by omega
  have hne4 : ¬ (c0 = b1) := by omega
  have hne5 : ¬ (c0 + 1 = b1) := by omega
  have hne6 : ¬ (c0 + 1 + 1 = b1) := by omega
  have hlt4 : b1 < Wa.heap.size := HV4.out.lt
  have hst4 := HP4.out.store
  go_wp2_with fail
  refine bodyPost_ret (v := .tuple #[.agg #[v4, .bool bad4], .agg #[.int .i64 0, .int .i64 0, .float .f64 0, .string ⟨#[]⟩, .slice none 0 0], .bool false]) (by simp [results, Tryz.results71, go_sem, q0, q1, r0, r1, r2, r3, r4]) rfl ?_
  exact rread_no (s' := (l4, bad4)) HP.out (HP4.out.below (C := c0) (fin7 (Below.refl _ _) (Nat.le_succ _) _ _ _ _ _ _ _) hB) (by rw [← HC0.out]; exact fin7 HB4.out (Nat.le_succ _) _ _ _ _ _ _ _)

set_option maxRecDepth 100000 in
set_option maxHeartbeats 4000000 in
theorem rr_list (left : Nat) (s : St) (x : Value) (w : World) (B : Nat) (hB : B ≤ w.heap.size) (h : RV w B s x) (hq : (rUint s).1.2 = false ∧ (rUint s).2 = 4) (hL : left ≤ 1000)
    (IH : Hid (∀ (s : St) (x : Value) (w : World) (B : Nat), B ≤ w.heap.size → RV w B s x → Calls Tryz.prog 71 #[x, .int .i64 (left : Nat)] w (RRead left s B w))) :
    Calls Tryz.prog 71 #[x, .int .i64 (left + 1 : Nat)] w (RRead (left + 1) s B w) := by
  have hwl : wrap64 (left : Int) = (left : Int) := by unfold wrap64; omega
  have hne0 : (((left : Int) + 1) == 0) = false := beq_eq_false_iff_ne.2 (by omega)
  have hne0b : ((((left + 1 : Nat) : Int)) == 0) = false := beq_eq_false_iff_ne.2 (by omega)
  have HP : Hid (pv (left + 1) s = match rep (pv left) (rUint (rUint s).1).2 (rUint (rUint s).1).1 with | none => none | some (s3, ts) => if s3.2 = true then none else some (s3, .mk 4 0 0 ⟨#[]⟩ ts)) := Lib.hid (by rw [pv_eq, if_neg (by rw [hq.1, hq.2]; simp), if_neg (by rw [hq.2]; decide), if_neg (by rw [hq.2]; decide), if_neg (by rw [hq.2]; decide), if_neg (by rw [hq.2]; decide)] <;> rfl)
  have HQQ := Lib.hid hq
  clear hq
  obtain ⟨⟨v, rfl, hv, hf⟩, hb, hl⟩ := h
  obtain ⟨l, bad⟩ := s
  simp only at *
  obtain ⟨W0, hW0, hq, hqr, hx, hb0, hz0⟩ := three_boxes w v bad
  have hp0 : RP W0 B v l := RP.below ⟨hv, hf, hb, hl⟩ hb0 hB
  have HU := Lib.hid (rruint_any (l, bad) (.agg #[v, .bool bad]) W0 B (by omega) ⟨⟨v, rfl, hp0.1, hf⟩, hb, hl⟩)
  have HBY := Lib.hid (rUint_byt (s := (l, bad)) hb hl)
  have HQ := Lib.hid hq
  have HQR := Lib.hid hqr
  have HX := Lib.hid hx
  have HB0 := Lib.hid hb0
  have HST := Lib.hid hp0.store
  clear hv hf hb hl hx hq hqr hb0 hp0
  generalize rUint (l, bad) = q at *
  obtain ⟨⟨l1, bad1⟩, k⟩ := q
  simp only at *
  have HI := Lib.hid fun (W : World) (x : Value) (hW : B ≤ W.heap.size) (hx : RV W B (l1, bad1) x) => rruint_any (l1, bad1) x W B hW hx
  have HBZ := Lib.hid (rUint_byt (s := (l1, bad1)) HBY.out.1 HBY.out.2)
  have hnn := rUint_val (s := (l1, bad1)) HBY.out.1
  generalize rUint (l1, bad1) = z at *
  obtain ⟨⟨l4, bad4⟩, nn⟩ := z
  simp only at *
  obtain ⟨c0, hc0⟩ : ∃ c0, c0 = w.heap.size := ⟨_, rfl⟩
  rw [← hc0] at HQ HQR HX HB0 hz0 hB
  obtain ⟨a0, a1, af0, af1⟩ := HQ.out.cells
  replace hW0 := Lib.hid hW0
  have HC0 := Lib.hid hc0
  clear hc0
  go_enter Tryz.func71, Tryz.ntmps71
  go_upto_region 1 with fail
  rw [← hW0.out, ← HC0.out]
  go_wp2_with fail
  refine HU.out.mono ?_
  rintro e w1 ⟨y, rfl, ⟨⟨v1, rfl, hv1, hf1⟩, hb1, hl1⟩, hbl⟩
  simp only at hv1 hf1 hb1 hl1
  have hp1 : RP w1 B v1 l1 := ⟨hv1, hf1, hb1, hl1⟩
  have hst1 := hp1.store
  clear hv1 hf1 hb1 hl1 a0 a1 af0 af1
  have hzw := hbl.size
  have hq1 := HQ.out.later hbl (by omega)
  have hqr1 := HQR.out.later hbl (by omega)
  have hx1 := HX.out.later hbl (by omega)
  obtain ⟨b1, hb1⟩ : ∃ b1, b1 = w1.heap.size := ⟨_, rfl⟩
  obtain ⟨W2, hW2⟩ : ∃ W2, W2 = ((w1.setCell ⟨c0, 0, none⟩ v1).setCell ⟨c0, 1, none⟩ (.bool bad1)).alloc (.cells #[.int .i64 0, .int .i64 0, .float .f64 0, .string ⟨#[]⟩, .slice none 0 0] 42) := ⟨_, rfl⟩
  have hs2 : Below c0 w1 ((w1.setCell ⟨c0, 0, none⟩ v1).setCell ⟨c0, 1, none⟩ (.bool bad1)) := below_set2 (below_set2 (Below.refl _ _) (Nat.le_refl _) _ _) (Nat.le_refl _) _ _
  have hzs : ((w1.setCell ⟨c0, 0, none⟩ v1).setCell ⟨c0, 1, none⟩ (.bool bad1)).heap.size = b1 := by rw [hb1]; simp [World.setCell]
  have hb12 : Below c0 w1 W2 := by rw [hW2]; exact hs2.alloc (by omega) _
  have e2 : ∀ b, b < b1 → W2.heap[b]? = ((w1.setCell ⟨c0, 0, none⟩ v1).setCell ⟨c0, 1, none⟩ (.bool bad1)).heap[b]? := fun b hb => by rw [hW2]; exact heap_alloc_old _ _ (by rw [hzs]; exact hb)
  have HQ2 : Hid (QB W2 c0 v1 bad1) := Lib.hid ((e2 c0 (by omega)).trans (qb_set hq1))
  have HQR2 : Hid (QB W2 (c0 + 1) (.slice none 0 0) false) := Lib.hid ((e2 _ (by omega)).trans (qb_far (qb_far hqr1 (by omega) _) (by omega) _))
  have HX2 : Hid (BoxAt W2 (c0 + 1 + 1) 0 0 0 ⟨#[]⟩ none 0 0) := Lib.hid ((e2 _ (by omega)).trans (Vt.box_far (Vt.box_far hx1 (by omega) _) (by omega) _))
  have HV2 : Hid (BoxAt W2 b1 0 0 0 ⟨#[]⟩ none 0 0) := Lib.hid (by rw [hW2, ← hzs]; exact BoxAt.new ..)
  have hz2 : W2.heap.size = b1 + 1 := by rw [hW2, World.size_alloc, hzs]
  have HP2 := Lib.hid (hp1.below hb12 hB)
  have HB2 := Lib.hid (HB0.out.trans ((hbl.mono (by omega)).trans hb12))
  obtain ⟨a0, a1, af0, af1⟩ := hq1.cells
  have hlt3 : c0 + 1 + 1 < b1 := by omega
  clear hs2 hzs hb12 e2 hp1 hqr1 hx1 hbl hzw hq1
  replace hW2 := Lib.hid hW2
  have HB1 := Lib.hid hb1
  go_upto_region 3 with fail
  rw [← hW2.out, ← HB1.out]
  clear a0 a1 af0 af1 hst1 hb1
  have hst := HP2.out.store
  obtain rfl : bad1 = false := HQQ.out.1
  have k1 : decide ((k : Int) > 4) = false := decide_eq_false (by have := HQQ.out.2; omega)
  have k2 : decide ((4 : Int) < (k : Int)) = false := decide_eq_false (by have := HQQ.out.2; omega)
  have k3 : decide (4 < k) = false := decide_eq_false (by have := HQQ.out.2; omega)
  have hwk : IntKind.i64.wrap (k : Int) = (k : Int) := by have := HQQ.out.2; rw [IntKind.wrap_i64]; omega
  have e1 : ((k : Int) == 1) = false := beq_eq_false_iff_ne.2 (by have := HQQ.out.2; omega)
  have e2 : ((k : Int) == 2) = false := beq_eq_false_iff_ne.2 (by have := HQQ.out.2; omega)
  have e3 : ((k : Int) == 3) = false := beq_eq_false_iff_ne.2 (by have := HQQ.out.2; omega)
  have e4 : ((k : Int) == 4) = true := beq_iff_eq.2 (by have := HQQ.out.2; omega)
  have HK0 : Hid ((k : Int) = 4) := Lib.hid (by have := HQQ.out.2; omega)
  obtain ⟨W3, hW3⟩ : ∃ W3, W3 = W2.setCell ⟨b1, 0, none⟩ (.int .i64 (k : Int)) := ⟨_, rfl⟩
  have hs3 : Below c0 W2 W3 := by rw [hW3]; exact below_set2 (Below.refl _ _) (by omega) _ _
  have HQ3 : Hid (QB W3 c0 v1 false) := Lib.hid (by rw [hW3]; exact qb_far HQ2.out (by omega) _)
  have HQR3 : Hid (QB W3 (c0 + 1) (.slice none 0 0) false) := Lib.hid (by rw [hW3]; exact qb_far HQR2.out (by omega) _)
  have HX3 : Hid (BoxAt W3 (c0 + 1 + 1) 0 0 0 ⟨#[]⟩ none 0 0) := Lib.hid (by rw [hW3]; exact Vt.box_far HX2.out (by omega) _)
  have HV3 : Hid (BoxAt W3 b1 k 0 0 ⟨#[]⟩ none 0 0) := Lib.hid (by rw [hW3]; exact box_set0 HV2.out _)
  have hz3 : W3.heap.size = b1 + 1 := by rw [hW3]; simpa [World.setCell] using hz2
  have HP3 := Lib.hid (HP2.out.below hs3 hB)
  have HB3 := Lib.hid (HB2.out.trans hs3)
  clear hs3
  obtain ⟨a0, a1, af0, af1⟩ := HQ2.out.cells
  obtain ⟨d0, d1, d2, d3, d4⟩ := HV2.out.cells
  have m0 := Vt.box_free HV2.out 0
  have m1 := Vt.box_free HV2.out 1
  have m2 := Vt.box_free HV2.out 2
  have m3 := Vt.box_free HV2.out 3
  have m4 := Vt.box_free HV2.out 4
  have hz2x := hz2
  clear hz2x
  replace hW3 := Lib.hid hW3
  go_upto_region 6 with fail
  rw [← hW3.out]
  clear a0 a1 af0 af1 d0 d1 d2 d3 d4 m0 m1 m2 m3 m4 hst k1 k2 k3 hz2
  have hst := HP3.out.store
  obtain ⟨a0, a1, af0, af1⟩ := HQ3.out.cells
  go_wp2_with fail
  refine (HI.out W3 _ (by omega) ⟨⟨v1, rfl, HP3.out.1, HP3.out.2.1⟩, HP3.out.2.2⟩).mono ?_
  rintro e w4 ⟨y, rfl, ⟨⟨v4, rfl, hv4, hf4⟩, hb4, hl4⟩, hbl4⟩
  simp only at hv4 hf4 hb4 hl4
  have hp4 : RP w4 B v4 l4 := ⟨hv4, hf4, hb4, hl4⟩
  have hst4w := hp4.store
  have hz4w := hbl4.size
  have hq4 := HQ3.out.later hbl4 (by omega)
  have hqr4 := HQR3.out.later hbl4 (by omega)
  have hx4 := HX3.out.later hbl4 (by omega)
  have hv4b := HV3.out.later hbl4 (by omega)
  have hbw4 := HB3.out.trans (hbl4.mono (by omega))
  clear hv4 hf4 hb4 hl4 a0 a1 af0 af1 hst
  obtain ⟨a0, a1, af0, af1⟩ := hq4.cells
  obtain ⟨b2, hb2⟩ : ∃ b2, b2 = w4.heap.size := ⟨_, rfl⟩
  obtain ⟨Wa, hWa⟩ : ∃ Wa, Wa = ((w4.setCell ⟨c0, 0, none⟩ v4).setCell ⟨c0, 1, none⟩ (.bool bad4)).alloc (.cells #[v4, .bool bad4] 52) := ⟨_, rfl⟩
  have hzs : ((w4.setCell ⟨c0, 0, none⟩ v4).setCell ⟨c0, 1, none⟩ (.bool bad4)).heap.size = b2 := by rw [hb2]; simp [World.setCell]
  have ea : ∀ b, b < b2 → b ≠ c0 → Wa.heap[b]? = w4.heap[b]? := fun b hb hne => by
    rw [hWa]
    exact (heap_alloc_old _ _ (by rw [hzs]; exact hb)).trans ((Below.heap_setCell _ ⟨c0, 1, none⟩ _ b (by simpa using hne)).trans (Below.heap_setCell _ ⟨c0, 0, none⟩ _ b (by simpa using hne)))
  have hza : Wa.heap.size = b2 + 1 := by rw [hWa, World.size_alloc, hzs]
  have hsa : Below c0 w4 Wa := by rw [hWa]; exact (below_set2 (below_set2 (Below.refl _ _) (Nat.le_refl _) _ _) (Nat.le_refl _) _ _).alloc (by omega) _
  have HQa : Hid (QB Wa c0 v4 bad4) := Lib.hid (by rw [hWa]; exact (heap_alloc_old _ _ (by omega)).trans (qb_set hq4))
  have HQRa : Hid (QB Wa (c0 + 1) (.slice none 0 0) false) := Lib.hid ((ea _ (by omega) (by omega)).trans hqr4)
  have HXa : Hid (BoxAt Wa (c0 + 1 + 1) 0 0 0 ⟨#[]⟩ none 0 0) := Lib.hid ((ea _ (by omega) (by omega)).trans hx4)
  have HVa : Hid (BoxAt Wa b1 k 0 0 ⟨#[]⟩ none 0 0) := Lib.hid ((ea _ (by omega) (by omega)).trans hv4b)
  have HPa := Lib.hid (hp4.below hsa hB)
  have HBa := Lib.hid (hbw4.trans hsa)
  have hnb1 : ¬ (b2 = c0) := by omega
  have hnb2 : ¬ (c0 = b2) := by omega
  have hltc : c0 < w4.heap.size := by omega
  clear hp4 hqr4 hx4 hv4b hbw4 hbl4 ea hsa hq4 hzs
  replace hWa := Lib.hid hWa
  have HB2x := Lib.hid hb2
  clear hb2 hnb1 hnb2
  go_upto_region 26 with fail
  rw [← hWa.out]
  clear a0 a1 af0 af1 hst4w hltc
  obtain ⟨i0, hi0, hz0, hz1, hz2⟩ := info_parts Vt.Tryz.infoV
  have I1 := Lib.hid hi0; have I2 := Lib.hid hz0; have I3 := Lib.hid hz1; have I4 := Lib.hid hz2
  clear hi0 hz0 hz1 hz2
  go_wp2_with fail
  go_loopw [18] (RInv left B c0 b1 k w nn (l4, bad4)) (fun iv _ => nn + 1 - (intOf iv).toNat)
  case atStart => exact ⟨0, none, 0, v4, (l4, bad4), [], rfl, Nat.zero_le _, HQa.out, HQRa.out, HXa.out, HVa.out, HPa.out, HBa.out, Cn.vs_nil _ _, by simp, by have := HBZ.out.2; simpa using this⟩
  case round =>
    obtain ⟨j, A, cap, vj, ⟨lj, badj⟩, acc, rfl, hj, hq, hqr, hx, hvb, hp, hbw, hvs, hrep, hlen40⟩ := hrel
    simp only at hq hp hlen40
    have HQj := Lib.hid hq
    have HQRj := Lib.hid hqr
    have HXj := Lib.hid hx
    have HVj := Lib.hid hvb
    have HPj := Lib.hid hp
    have HBj := Lib.hid hbw
    have HVS := Lib.hid hvs
    have HREPE := Lib.hid hrep
    have hltv := hvb.lt
    clear hq hqr hx hvb hp hbw hvs hrep
    by_cases hlt : j < nn
    · have hcond : decide ((j : Int) < (nn : Int)) = true := decide_eq_true (by omega)
      obtain ⟨a0, a1, af0, af1⟩ := HQj.out.cells
      have HC := Lib.hid (IH.out (lj, badj) (.agg #[vj, .bool badj]) wr B (by omega) ⟨⟨vj, rfl, HPj.out.1, HPj.out.2.1⟩, HPj.out.2.2⟩)
      go_wp2_with fail
      refine HC.out.mono ?_
      intro e w5r hvr
      obtain ⟨okb, y, ⟨l5, bad5⟩, k', n', f', s', A', m', c', tt, rfl, ⟨⟨v5, rfl, hv5, hf5⟩, hb5, hl5⟩, hrep5, hbl5, hyes, hno⟩ := hvr
      simp only at hv5 hf5 hb5 hl5
      have hp5 : RP w5r B v5 l5 := ⟨hv5, hf5, hb5, hl5⟩
      have hst5 := hp5.store
      have hz5 := hbl5.size
      have hq5 := HQj.out.later hbl5 (by omega)
      have hqr5 := HQRj.out.later hbl5 (by omega)
      have hx5 := HXj.out.later hbl5 (by omega)
      have hv5b := HVj.out.later hbl5 hltv
      have hbw5 := HBj.out.trans (hbl5.mono (by omega))
      clear hv5 hf5 hb5 hl5 a0 a1 af0 af1
      obtain ⟨b2, hb2⟩ : ∃ b2, b2 = w5r.heap.size := ⟨_, rfl⟩
      cases okb with
      | false =>
        obtain ⟨Wb, hWb⟩ : ∃ Wb, Wb = (w5r.alloc (.cells #[v5, .bool bad5] 52)).alloc (.cells #[.int .i64 k', .int .i64 n', .float .f64 f', .string s', .slice A' m' c'] 42) := ⟨_, rfl⟩
        have hsb : Below w5r.heap.size w5r Wb := by rw [hWb]; exact ((Below.refl _ _).alloc (Nat.le_refl _) _).alloc (by simp) _
        have HQRb : Hid (QB Wb (c0 + 1) (.slice none 0 0) false) := Lib.hid (hqr5.later hsb (by omega))
        have HXb : Hid (BoxAt Wb (c0 + 1 + 1) 0 0 0 ⟨#[]⟩ none 0 0) := Lib.hid (hx5.later hsb (by omega))
        have hrb : QB Wb b2 v5 bad5 := by rw [hWb, hb2]; exact (heap_alloc_old _ _ (by simp)).trans (heap_alloc_new _ _)
        have HPb := Lib.hid (hp5.below hsb (by omega))
        have HBb := Lib.hid (hbw5.trans (hsb.mono (by omega)))
        have hzb : Wb.heap.size = b2 + 2 := by rw [hWb, hb2]; simp
        have hstb := HPb.out.store
        have HN : Hid (pv (left + 1) (l, bad) = none) := Lib.hid (by rw [HP.out, rep_stop HREPE.out hlt (hno rfl)])
        have HRB2 := Lib.hid hrb
        clear hyes hno hrep5 hbl5 hq5 hqr5 hx5 hv5b hbw5 hsb hp5 hrb hst5
        have hne1 : ¬ (b2 = c0 + 1) := by omega
        have hne2 : ¬ (b2 = c0 + 1 + 1) := by omega
        replace hWb := Lib.hid hWb
        have HB2x := Lib.hid hb2
        clear hb2
        go_upto_region 33 with fail
        rw [← hWb.out, ← HB2x.out]
        obtain ⟨a0, a1, af0, af1⟩ := HRB2.out.cells
        obtain ⟨q0, q1, qf0, qf1⟩ := HQRb.out.cells
        obtain ⟨r0, r1, r2, r3, r4⟩ := HXb.out.cells
        have f0 := Vt.box_free HXb.out 0
        have f1 := Vt.box_free HXb.out 1
        have f2 := Vt.box_free HXb.out 2
        have f3 := Vt.box_free HXb.out 3
        have f4 := Vt.box_free HXb.out 4
        go_wp2_with fail
        refine bodyPost_ret (v := .tuple #[.agg #[v5, .bool bad5], .agg #[.int .i64 0, .int .i64 0, .float .f64 0, .string ⟨#[]⟩, .slice none 0 0], .bool false]) (by simp [results, Tryz.results71, go_sem, q0, q1, r0, r1, r2, r3, r4]) rfl ?_
        exact rread_no (s' := (l5, bad5)) HN.out (HPb.out.below (C := c0) (fin7 (Below.refl _ _) (Nat.le_succ _) _ _ _ _ _ _ _) hB) (by rw [← HC0.out]; exact fin7 HBb.out (Nat.le_succ _) _ _ _ _ _ _ _)
      | true =>
        obtain ⟨Wb, hWb⟩ : ∃ Wb, Wb = (((w5r.setCell ⟨c0, 0, none⟩ v5).setCell ⟨c0, 1, none⟩ (.bool bad5)).alloc (.cells #[v5, .bool bad5] 52)).alloc (.cells #[.int .i64 k', .int .i64 n', .float .f64 f', .string s', .slice A' m' c'] 42) := ⟨_, rfl⟩
        have hzs : ((w5r.setCell ⟨c0, 0, none⟩ v5).setCell ⟨c0, 1, none⟩ (.bool bad5)).heap.size = b2 := by rw [hb2]; simp [World.setCell]
        have eb : ∀ b, b < b2 → b ≠ c0 → Wb.heap[b]? = w5r.heap[b]? := fun b hb hne => by
          rw [hWb]
          exact (heap_alloc_old _ _ (by rw [World.size_alloc, hzs]; omega)).trans ((heap_alloc_old _ _ (by rw [hzs]; exact hb)).trans ((Below.heap_setCell _ ⟨c0, 1, none⟩ _ b (by simpa using hne)).trans (Below.heap_setCell _ ⟨c0, 0, none⟩ _ b (by simpa using hne))))
        have hzb : Wb.heap.size = b2 + 2 := by rw [hWb, World.size_alloc, World.size_alloc, hzs]
        have hsb : Below c0 w5r Wb := by rw [hWb]; exact ((below_set2 (below_set2 (Below.refl _ _) (Nat.le_refl _) _ _) (Nat.le_refl _) _ _).alloc (by omega) _).alloc (by rw [World.size_alloc]; omega) _
        have HQb : Hid (QB Wb c0 v5 bad5) := Lib.hid (by rw [hWb]; exact (heap_alloc_old _ _ (by rw [World.size_alloc]; omega)).trans ((heap_alloc_old _ _ (by omega)).trans (qb_set hq5)))
        have HQRb : Hid (QB Wb (c0 + 1) (.slice none 0 0) false) := Lib.hid ((eb _ (by omega) (by omega)).trans hqr5)
        have HXb : Hid (BoxAt Wb (c0 + 1 + 1) 0 0 0 ⟨#[]⟩ none 0 0) := Lib.hid ((eb _ (by omega) (by omega)).trans hx5)
        have HVb : Hid (BoxAt Wb b1 k 0 0 ⟨#[]⟩ A j cap) := Lib.hid ((eb _ (by omega) (by omega)).trans hv5b)
        have HXX : Hid (BoxAt Wb (b2 + 1) k' n' f' s' A' m' c') := Lib.hid (by rw [hWb, ← hzs]; have := BoxAt.new (((w5r.setCell ⟨c0, 0, none⟩ v5).setCell ⟨c0, 1, none⟩ (.bool bad5)).alloc (.cells #[v5, .bool bad5] 52)) k' n' f' s' A' m' c'; rw [World.size_alloc] at this; exact this)
        have HPb := Lib.hid (hp5.below hsb hB)
        have HBb := Lib.hid (hbw5.trans hsb)
        have hvsb := vs_keep HVS.out (W' := Wb) (by omega) fun q h1 h2 => (eb q (by omega) (by omega)).trans (hbl5.block q h2)
        have HREPb : Hid (Rep Wb wr.heap.size w5r.heap.size tt (.agg #[.int .i64 k', .int .i64 n', .float .f64 f', .string s', .slice A' m' c'])) := Lib.hid (hrep5.keep fun b o h1 h2 => World.cell?_of_block (a := ⟨b, o, none⟩) (eb b (by omega) (by omega)))
        obtain ⟨W4, hW4⟩ : ∃ W4, W4 = Wb.alloc (.cells #[.int .i64 k', .int .i64 n', .float .f64 f', .string s', .slice A' m' c'] 42) := ⟨_, rfl⟩
        have hbw4 : Below (b1 + 1) Wb W4 := by rw [hW4]; exact (Below.refl _ _).alloc (by omega) _
        have hbw4f : Below Wb.heap.size Wb W4 := by rw [hW4]; exact (Below.refl _ _).alloc (Nat.le_refl _) _
        have hz4 : W4.heap.size = b2 + 3 := by rw [hW4, World.size_alloc, hzb]
        have hvs4 := vs_keep hvsb (W' := W4) (by omega) fun q h1 h2 => hbw4f.block q h2
        have HREP : Hid (Rep W4 wr.heap.size w5r.heap.size tt (.agg #[.int .i64 k', .int .i64 n', .float .f64 f', .string s', .slice A' m' c'])) := Lib.hid (HREPb.out.keep fun b o h1 h2 => World.cell?_of_block (a := ⟨b, o, none⟩) (hbw4f.block b (by omega)))
        have K2 : Hid (∀ q u, (#[Value.int .i64 k', .int .i64 n', .float .f64 f', .string s', .slice A' m' c'].toList)[q]? = some u → W4.cell? ((⟨b2 + 2, 0, none⟩ : Addr).add q) = some u) := Lib.hid (World.news_of_block (t := 42) (fr := (0, 0)) (by rw [hW4, ← hzb]; exact heap_alloc_new _ _))
        have HRO := Lib.hid fun r hr => hvs4.lt r hr
        have HRB : Hid (∀ r, rowOf A = some r → r < wr.heap.size) := Lib.hid fun r hr => (HVS.out.lt r hr).1
        obtain ⟨xs, hlen, hlx, hxo, hxe⟩ := ownsRow_alloc hvs4
        have KO := Lib.hid hxo
        have HXE := Lib.hid hxe
        have HYES := Lib.hid (hyes rfl)
        have KF : Hid (∀ r2 cap4 w5, w5.ownsRow (b1 + 1) 42 5 (.slice (some ⟨r2, 0, none⟩) (j + 1) cap4) (j + 1) (xs ++ #[Value.int .i64 k', .int .i64 n', .float .f64 f', .string s', .slice A' m' c'].toList) → W4.grownBy w5 (rowOf A) → (rowOf A = some r2 ∨ r2 = W4.heap.size) →
            VsAt w5 (b1 + 1) (some ⟨r2, 0, none⟩) cap4 (j + 1) (acc ++ [tt]) ∧ Below (b1 + 1) Wb w5) := Lib.hid fun r2 cap4 w5 hown5 hgrow5 hat5 => by
          have hb5 : Below (b1 + 1) W4 w5 := ⟨hgrow5.os, hgrow5.tape, hgrow5.output, hgrow5.size, fun b hb => hgrow5.block b (by omega) (fun e => by have := (HRO.out b e.symm).2; omega)⟩
          exact ⟨VsAt.push (cap := cap) (lo := wr.heap.size) (hi := w5r.heap.size) hlen hlx (fun i h => HXE.out i h) (by omega) HREP.out (by omega) (fun r hr => .inl (HRB.out r hr)) hown5 hgrow5 hat5 (Nat.le_refl _), hbw4.trans hb5⟩
        have hj40 : j ≤ 1099511627776 := by omega
        have HQ5 := Lib.hid hq5
        clear hxe hxo hvs4 hvsb hyes hno hrep5 hbl5 hq5 hqr5 hx5 hv5b hbw5 hsb hp5 eb hzs hbw4 hbw4f
        have hstb := HPb.out.store
        replace hWb := Lib.hid hWb
        replace hW4 := Lib.hid hW4
        have HB2x := Lib.hid hb2
        clear hb2
        have hcc : c0 < w5r.heap.size := by omega
        obtain ⟨a0, a1, af0, af1⟩ := HQ5.out.cells
        go_upto_region 35 with fail
        rw [← hWb.out, ← HB2x.out]
        clear a0 a1 af0 af1 hst5 hcc
        obtain ⟨d0, d1, d2, d3, d4⟩ := HVb.out.cells
        obtain ⟨x0, x1, x2, x3, x4⟩ := HXX.out.cells
        have hltx : b2 + 1 < Wb.heap.size := HXX.out.lt
        have hltb : b1 < Wb.heap.size := HVb.out.lt
        go_wp2_with (at_builtin; rw [← hW4.out]; refine wpList_append_lies _ rfl _ _ 40 rfl (b1 + 1) 42 i0 _ 5 64 Tryz.underlying40 I1.out I2.out I3.out I4.out rfl (by decide) (.slice A j cap) j xs rfl KO.out ⟨b2 + 2, 0, none⟩ 1 1 #[Value.int .i64 k', .int .i64 n', .float .f64 f', .string s', .slice A' m' c'].toList rfl rfl K2.out (by intro u hu; simp at hu; rcases hu with rfl | rfl | rfl | rfl | rfl <;> rfl) (by decide) (by simp only [maxLen]; omega) (by omega) (by omega) _ rfl ?_; intro r2 cap4 w6 hown5 hgrow5 hat5 hrl5; rw [Cm.rowOf_own] at hgrow5 hat5; obtain ⟨hP, hb6⟩ := KF.out r2 cap4 w6 hown5 hgrow5 hat5; clear hown5 hgrow5 hat5; have HP5 := Lib.hid hP; have HB6 := Lib.hid hb6; have hv6 := HVb.out.later hb6 (Nat.lt_succ_self _); have hlt5 := hv6.lt; obtain ⟨q0, q1, q2, q3, q4⟩ := hv6.cells; have qf := Vt.box_free hv6 4; have HV6 := Lib.hid hv6; clear hP hb6 hv6)
        go_roundw
        case rel =>
          have hb6c := HB6.out.mono (show c0 ≤ b1 + 1 by omega)
          refine ⟨j + 1, some ⟨r2, 0, none⟩, cap4, v5, (l5, bad5), acc ++ [tt], by go_num, by omega, qb_far (HQb.out.later HB6.out (by omega)) (by omega) _, qb_far (HQRb.out.later HB6.out (by omega)) (by omega) _, Vt.box_far (HXb.out.later HB6.out (by omega)) (by omega) _, Vt.box_set HV6.out, HPb.out.below (below_set2 hb6c (by omega) _ _) hB, below_set2 (HBb.out.trans hb6c) (by omega) _ _, HP5.out.setCell (by simp only []; omega) _, rep_acc HREPE.out hlt HYES.out, ?_⟩
          have := pv_lt (s := (lj, badj)) HPj.out.2.2.1 HYES.out
          simp only at this ⊢
          omega
        case measure => simp [intOf]; omega
    · have hj2 : j = nn := by omega
      subst hj2
      have hcond : decide ((j : Int) < (j : Int)) = false := decide_eq_false (by omega)
      have HE := Lib.hid (rep_end HREPE.out)
      have hacc := HVS.out.1
      subst hacc
      obtain ⟨a0, a1, af0, af1⟩ := HQj.out.cells
      obtain ⟨q0, q1, qf0, qf1⟩ := HQRj.out.cells
      obtain ⟨r0, r1, r2, r3, r4⟩ := HXj.out.cells
      have f0 := Vt.box_free HXj.out 0
      have f1 := Vt.box_free HXj.out 1
      have f2 := Vt.box_free HXj.out 2
      have f3 := Vt.box_free HXj.out 3
      have f4 := Vt.box_free HXj.out 4
      obtain ⟨d0, d1, d2, d3, d4⟩ := HVj.out.cells
      have m0 := Vt.box_free HVj.out 0
      have m1 := Vt.box_free HVj.out 1
      have m2 := Vt.box_free HVj.out 2
      have m3 := Vt.box_free HVj.out 3
      have m4 := Vt.box_free HVj.out 4
      have hne1 : ¬ (b1 = c0) := by omega
      have hne2 : ¬ (b1 = c0 + 1) := by omega
      have hne3 : ¬ (b1 = c0 + 1 + 1) := by omega
      have hne4 : ¬ (c0 = b1) := by omega
      have hne5 : ¬ (c0 + 1 = b1) := by omega
      have hne6 : ¬ (c0 + 1 + 1 = b1) := by omega
      have hstj := HPj.out.store
      cases badj with
      | true =>
        have HN : pv (left + 1) (l, bad) = none := by rw [HP.out, HE.out]; rfl
        go_wp2_with fail
        refine bodyPost_ret (v := .tuple #[.agg #[vj, .bool true], .agg #[.int .i64 0, .int .i64 0, .float .f64 0, .string ⟨#[]⟩, .slice none 0 0], .bool false]) (by simp [results, Tryz.results71, go_sem, q0, q1, r0, r1, r2, r3, r4]) rfl ?_
        exact rread_no (s' := (lj, true)) HN (HPj.out.below (C := c0) (fin7 (Below.refl _ _) (Nat.le_succ _) _ _ _ _ _ _ _) hB) (by rw [← HC0.out]; exact fin7 HBj.out (Nat.le_succ _) _ _ _ _ _ _ _)
      | false =>
        have HY : pv (left + 1) (l, bad) = some ((lj, false), .mk 4 0 0 ⟨#[]⟩ acc) := by rw [HP.out, HE.out]; rfl
        have hvs := HVS.out
        have hloo : w.heap.size ≤ b1 + 1 := by rw [← HC0.out]; omega
        go_wp2_with fail
        go_region
        go_wp2_with fail
        refine bodyPost_ret (v := .tuple #[.agg #[vj, .bool false], .agg #[.int .i64 (k : Int), .int .i64 0, .float .f64 0, .string ⟨#[]⟩, .slice A acc.length cap], .bool true]) (by simp [results, Tryz.results71, go_sem, q0, q1, r0, r1, r2, r3, r4]) rfl ?_
        exact rread_yes (s' := (lj, false)) HY (HPj.out.below (C := c0) (below_drew (fin7 (Below.refl _ _) (Nat.le_succ _) _ _ _ _ _ _ _)) hB) (by rw [HK0.out]; exact rep_fin7 hvs hlt3 hloo _ _ _ _ _ _ _) (by rw [← HC0.out]; exact below_drew (fin7 HBj.out (Nat.le_succ _) _ _ _ _ _ _ _))

theorem rread_any (left : Nat) (hL : left ≤ 1000) : ∀ (s : St) (x : Value) (w : World) (B : Nat), B ≤ w.heap.size → RV w B s x → Calls Tryz.prog 71 #[x, .int .i64 (left : Nat)] w (RRead left s B w) := by
  have key : ∀ (left : Nat) (s : St) (x : Value) (w : World) (B : Nat), B ≤ w.heap.size → RV w B s x → ((rUint s).1.2 = false ∧ (rUint s).2 = 4 → Calls Tryz.prog 71 #[x, .int .i64 (left : Nat)] w (RRead left s B w)) → Calls Tryz.prog 71 #[x, .int .i64 (left : Nat)] w (RRead left s B w) := by
    intro left s x w B hB h h4
    by_cases hq : (rUint s).1.2 = true ∨ 4 < (rUint s).2
    · exact rr_bad left s x w B hB h hq
    · have hb : (rUint s).1.2 = false := bool_of fun hh => hq (.inl hh)
      have hk : (rUint s).2 ≤ 4 := by have := fun hh => hq (.inr hh); omega
      rcases (by omega : (rUint s).2 = 0 ∨ (rUint s).2 = 1 ∨ (rUint s).2 = 2 ∨ (rUint s).2 = 3 ∨ (rUint s).2 = 4) with k | k | k | k | k
      · exact rr_none left s x w B hB h ⟨hb, k⟩
      · exact rr_int left s x w B hB h ⟨hb, k⟩
      · exact rr_float left s x w B hB h ⟨hb, k⟩
      · exact rr_text left s x w B hB h ⟨hb, k⟩
      · exact h4 ⟨hb, k⟩
  induction left with
  | zero => exact fun s x w B hB h => key 0 s x w B hB h fun hq => rr_list0 s x w B hB h hq
  | succ left ih => exact fun s x w B hB h => key (left + 1) s x w B hB h fun hq => rr_list left s x w B hB h hq (by omega) (Lib.hid (ih (by omega)))
end Rd
end Go.Proofs.YtcbddebmmaflgaaGreat
namespace Go.Proofs.YtcbddebmmaflgaaGreat
open Go.RowKit
set_option linter.unusedVariables false
set_option linter.unusedSimpArgs false
namespace Rd
open _root_.Go.Proofs.YtcbddebmmaflgaaGreat.Nm (ret_int ret_bool bitsW ofW okW)
open Vt (VT Rep BoxAt below_drew put5 KidsAt HeadOk)
open Cm (OnlyAt rowOf)
open Cn (BRd brd_own VsAt VNew)
open Bt (BIn)
attribute [local go_sem] Vt.run_store_float

set_option maxRecDepth 100000 in
set_option maxHeartbeats 4000000 in
theorem rvread_any (s : St) (x : Value) (w : World) (B : Nat) (hB : B ≤ w.heap.size) (h : RV w B s x) : Calls Tryz.prog 57 #[x] w (RRead 8 s B w) := by
  obtain ⟨⟨v, rfl, hv, hf⟩, hb, hl⟩ := h
  obtain ⟨l, bad⟩ := s
  simp only at *
  obtain ⟨W0, hW0, hq, hqr, hx, hb0, hz0⟩ := three_boxes w v bad
  have hp0 : RP W0 B v l := RP.below ⟨hv, hf, hb, hl⟩ hb0 hB
  have HC : Hid (Calls Tryz.prog 71 #[.agg #[v, .bool bad], .int .i64 8] W0 (RRead 8 (l, bad) B W0)) := Lib.hid (rread_any 8 (by decide) (l, bad) (.agg #[v, .bool bad]) W0 B (by omega) ⟨⟨v, rfl, hp0.1, hf⟩, hb, hl⟩)
  have HQ := Lib.hid hq; have HQR := Lib.hid hqr; have HX := Lib.hid hx; have HB0 := Lib.hid hb0
  obtain ⟨a0, a1, af0, af1⟩ := HQ.out.cells
  have HZ0 := Lib.hid hz0
  have hlt0 : w.heap.size < W0.heap.size := by omega
  clear hv hf hb hl hx hq hqr hb0 hp0 hz0
  replace hW0 := Lib.hid hW0
  go_enter Tryz.func57, Tryz.ntmps57
  go_upto_region 1 with fail
  rw [← hW0.out]
  go_wp2_with fail
  refine HC.out.mono ?_
  intro e w5 hvr
  obtain ⟨okb, y, ⟨l5, bad5⟩, k', n', f', s', A', m', c', tt, rfl, ⟨⟨v5, rfl, hv5, hf5⟩, hb5, hl5⟩, hrep5, hbl5, hyes, hno⟩ := hvr
  simp only at hv5 hf5 hb5 hl5
  have hp5 : RP w5 B v5 l5 := ⟨hv5, hf5, hb5, hl5⟩
  have hst5 := hp5.store
  have hz0 := HZ0.out
  have hz5 := hbl5.size
  have hqr5 := HQR.out.later hbl5 (by omega)
  have hx5 := HX.out.later hbl5 (by omega)
  obtain ⟨q0, q1, qf0, qf1⟩ := hqr5.cells
  obtain ⟨r0, r1, r2, r3, r4⟩ := hx5.cells
  have f0 := Vt.box_free hx5 0
  have f1 := Vt.box_free hx5 1
  have f2 := Vt.box_free hx5 2
  have f3 := Vt.box_free hx5 3
  have f4 := Vt.box_free hx5 4
  have hlt5 : w.heap.size + 1 + 1 < w5.heap.size := hx5.lt
  have HP5 := Lib.hid hp5; have HREP := Lib.hid hrep5; have HY := Lib.hid hyes; have HN := Lib.hid hno; have HB5 := Lib.hid (HB0.out.trans (hbl5.mono (by omega)))
  clear hv5 hf5 hb5 hl5 hp5 hrep5 hyes hno hqr5 hx5 hbl5 hz0
  go_wp2_with fail
  refine bodyPost_ret (v := .tuple #[.agg #[v5, .bool bad5], .agg #[.int .i64 k', .int .i64 n', .float .f64 f', .string s', .slice A' m' c'], .bool okb]) (by simp [results, Tryz.results57, go_sem, q0, q1, r0, r1, r2, r3, r4]) rfl ?_
  have hp := HP5.out.below (C := w.heap.size) (fin7 (Below.refl _ _) (Nat.le_succ _) v5 (.bool bad5) (.int .i64 k') (.int .i64 n') (.float .f64 f') (.string s') (.slice A' m' c')) hB
  have hfin := fin7 HB5.out (Nat.le_succ _) v5 (.bool bad5) (.int .i64 k') (.int .i64 n') (.float .f64 f') (.string s') (.slice A' m' c')
  have h1 := fin7_size w5 (w.heap.size + 1) v5 (.bool bad5) (.int .i64 k') (.int .i64 n') (.float .f64 f') (.string s') (.slice A' m' c')
  have h2 := fun q => fin7_keep w5 (w.heap.size + 1) q v5 (.bool bad5) (.int .i64 k') (.int .i64 n') (.float .f64 f') (.string s') (.slice A' m' c')
  have hz0 := HZ0.out
  refine ⟨okb, _, (l5, bad5), k', n', f', s', A', m', c', tt, rfl, ⟨⟨v5, rfl, hp.1, hp.2.1⟩, hp.2.2⟩, ?_, hfin, HY.out, HN.out⟩
  have hk := HREP.out.keep (w' := put5 ((w5.setCell ⟨w.heap.size + 1, 0, none⟩ v5).setCell ⟨w.heap.size + 1, 1, none⟩ (.bool bad5)) (w.heap.size + 1 + 1) 0 (.int .i64 k') (.int .i64 n') (.float .f64 f') (.string s') (.slice A' m' c')) fun b o hb1 hb2 => World.cell?_of_block (a := ⟨b, o, none⟩) (h2 b (by omega) (by omega))
  exact hk.more (by omega) (by rw [← h1]; exact Nat.le_refl _)
end Rd
end Go.Proofs.YtcbddebmmaflgaaGreat
namespace Go.Proofs.YtcbddebmmaflgaaGreat
open Go.RowKit
set_option linter.unusedVariables false
set_option linter.unusedSimpArgs false
namespace Rd
open _root_.Go.Proofs.YtcbddebmmaflgaaGreat.Nm (ret_int ret_bool)
open Vt (VT Rep BoxAt below_drew put5)
open Ev (EV EBox ERep fieldsOf FieldsOk zeroT evCells vCells)
open Cm (OnlyAt has_field)
open Cn (BRd)
attribute [local go_sem] Vt.run_store_float

def RERead (s : St) (B : Nat) (w : World) (r : Ending) (w' : World) : Prop := ∃ (okb : Bool) (y x2 : Value) (s' : St) (e : EV), r = .returned (.tuple #[y, x2, .bool okb]) ∧ RV w' B s' y ∧ Below w.heap.size w w' ∧
    (okb = true → pe s = some (s', e) ∧ ERep w' w.heap.size w'.heap.size e x2) ∧ (okb = false → pe s = none ∧ x2 = zeroE)
theorem re_no {s s' : St} {B : Nat} {w w' : World} {v : Value} (h : pe s = none) (hv : RP w' B v s'.1) (hb : Below w.heap.size w w') :
    RERead s B w (.returned (.tuple #[.agg #[v, .bool s'.2], .agg #[.int .i64 0, .int .u64 0, .int .i64 0, .int .u64 0, .string ⟨#[]⟩, .string ⟨#[]⟩, .int .i64 0, .int .i64 0, .float .f64 0, .string ⟨#[]⟩, .slice none 0 0], .bool false])) w' :=
  ⟨false, _, _, s', ⟨0, 0, 0, 0, ⟨#[]⟩, ⟨#[]⟩, zeroT⟩, rfl, ⟨⟨v, rfl, hv.1, hv.2.1⟩, hv.2.2⟩, hb, fun h => Bool.noConfusion h, fun _ => ⟨h, rfl⟩⟩
theorem re_yes {s s' : St} {B : Nat} {w w' : World} {v x2 : Value} {e : EV} (h : pe s = some (s', e)) (hv : RP w' B v s'.1) (hb : Below w.heap.size w w') (he : ERep w' w.heap.size w'.heap.size e x2) :
    RERead s B w (.returned (.tuple #[.agg #[v, .bool s'.2], x2, .bool true])) w' :=
  ⟨true, _, _, s', e, rfl, ⟨⟨v, rfl, hv.1, hv.2.1⟩, hv.2.2⟩, hb, fun _ => ⟨h, he⟩, fun h => Bool.noConfusion h⟩
theorem ev_boxes (w : World) (v : Value) (bad : Bool) : ∃ W0, W0 = ((w.alloc (.cells #[v, .bool bad] 52)).alloc (.cells #[.slice none 0 0, .bool false] 52)).alloc (.cells #[.int .i64 0, .int .u64 0, .int .i64 0, .int .u64 0, .string ⟨#[]⟩, .string ⟨#[]⟩, .int .i64 0, .int .i64 0, .float .f64 0, .string ⟨#[]⟩, .slice none 0 0] 44) ∧ QB W0 w.heap.size v bad ∧ QB W0 (w.heap.size + 1) (.slice none 0 0) false ∧ EBox W0 (w.heap.size + 1 + 1) #[.int .i64 0, .int .u64 0, .int .i64 0, .int .u64 0, .string ⟨#[]⟩, .string ⟨#[]⟩, .int .i64 0, .int .i64 0, .float .f64 0, .string ⟨#[]⟩, .slice none 0 0] ∧ Below w.heap.size w W0 ∧ W0.heap.size = w.heap.size + 3 := by
  obtain ⟨W1, hW1, h1, h2, h3, h4⟩ := two_boxes w v bad
  refine ⟨_, rfl, ?_, ?_, ?_, ?_, ?_⟩
  · rw [← hW1]; exact (heap_alloc_old _ _ (by omega)).trans h1
  · rw [← hW1]; exact (heap_alloc_old _ _ (by omega)).trans h2
  · rw [← hW1, ← h4]; exact heap_alloc_new _ _
  · rw [← hW1]; exact h3.alloc h3.size _
  · rw [← hW1]; simp [h4]
theorem below_set11 {C : Nat} {w W : World} {b : Nat} (h : Below C w W) (hb : C ≤ b) (d0 d1 d2 d3 d4 d5 d6 d7 d8 d9 d10 : Value) : Below C w (set11 W b d0 d1 d2 d3 d4 d5 d6 d7 d8 d9 d10) :=
  Vt.put5_below (below_set2 (below_set2 (below_set2 (below_set2 (below_set2 (below_set2 h hb _ _) hb _ _) hb _ _) hb _ _) hb _ _) hb _ _) hb
/-- The result's cells written. -/
theorem fin13 {C : Nat} {w W : World} {b : Nat} (h : Below C w W) (hb : C ≤ b) (x0 x1 d0 d1 d2 d3 d4 d5 d6 d7 d8 d9 d10 : Value) : Below C w (set11 ((W.setCell ⟨b, 0, none⟩ x0).setCell ⟨b, 1, none⟩ x1) (b + 1) d0 d1 d2 d3 d4 d5 d6 d7 d8 d9 d10) :=
  below_set11 (below_set2 (below_set2 h hb _ _) hb _ _) (by omega) _ _ _ _ _ _ _ _ _ _ _
set_option maxRecDepth 100000 in
set_option maxHeartbeats 4000000 in
theorem re_bad (s : St) (x : Value) (w : World) (B : Nat) (hB : B ≤ w.heap.size) (h : RV w B s x) (hq : (rTake s 1).2 ≠ [1] ∨ (rUint (rTake s 1).1).1.2 = true ∨ (rUint (rTake s 1).1).2 < 1 ∨ 11 < (rUint (rTake s 1).1).2) (hn : pe s = none) :
    Calls Tryz.prog 22 #[x] w (RERead s B w) := by
  have HN := Lib.hid hn
  have HQQ := Lib.hid hq
  clear hq hn
  obtain ⟨⟨v, rfl, hv, hf⟩, hb, hl⟩ := h
  obtain ⟨l, bad⟩ := s
  simp only at *
  obtain ⟨W0, hW0, hq, hqr, hx, hb0, hz0⟩ := ev_boxes w v bad
  have hp0 : RP W0 B v l := RP.below ⟨hv, hf, hb, hl⟩ hb0 hB
  have HT : Hid (Calls Tryz.prog 55 #[.agg #[v, .bool bad], .int .i64 1] W0 fun r w' => ∃ y v2, r = .returned (.tuple #[y, v2]) ∧ RV w' B (rTake (l, bad) 1).1 y ∧ BRd w' v2 (rTake (l, bad) 1).2 ∧ Far v2 B ∧ Below W0.heap.size W0 w') := Lib.hid (rrtake_any (l, bad) 1 (.agg #[v, .bool bad]) W0 B (by omega) ⟨⟨v, rfl, hp0.1, hf⟩, hb, hl⟩)
  have HBY := Lib.hid (rTake_byt (s := (l, bad)) hb hl 1)
  have hl1 := rTake_len (l, bad) 1
  have HTF : Hid ((rTake (l, bad) 1).1.2 = false → (rTake (l, bad) 1).2.length = 1) := Lib.hid fun h => (rTake_form h).2.2
  have HQ := Lib.hid hq
  have HQR := Lib.hid hqr
  have HX := Lib.hid hx
  have HB0 := Lib.hid hb0
  have HST := Lib.hid hp0.store
  clear hv hf hb hl hx hq hqr hb0 hp0
  have HU := Lib.hid fun (W : World) (x : Value) (hW : B ≤ W.heap.size) (hx : RV W B (rTake (l, bad) 1).1 x) => rruint_any (rTake (l, bad) 1).1 x W B hW hx
  generalize rTake (l, bad) 1 = a at *
  obtain ⟨⟨l1, bad1⟩, lb⟩ := a
  simp only at *
  have HBU := Lib.hid (rUint_byt (s := (l1, bad1)) HBY.out.1 HBY.out.2)
  generalize rUint (l1, bad1) = q at *
  obtain ⟨⟨l2, bad2⟩, k⟩ := q
  simp only at *
  obtain ⟨c0, hc0⟩ : ∃ c0, c0 = w.heap.size := ⟨_, rfl⟩
  rw [← hc0] at HQ HQR HX HB0 hz0 hB
  obtain ⟨a0, a1, af0, af1⟩ := HQ.out.cells
  replace hW0 := Lib.hid hW0
  have HC0 := Lib.hid hc0
  clear hc0
  go_enter Tryz.func22, Tryz.ntmps22
  go_upto_region 1 with fail
  rw [← hW0.out, ← HC0.out]
  go_wp2_with fail
  refine HT.out.mono ?_
  rintro e w1 ⟨y, v2, rfl, ⟨⟨v1, rfl, hv1, hf1⟩, hb1, hl1w⟩, hv2, hf2, hbl⟩
  simp only at hv1 hf1 hb1 hl1w
  have hp1 : RP w1 B v1 l1 := ⟨hv1, hf1, hb1, hl1w⟩
  have hst1 := hp1.store
  clear hv1 hf1 hb1 hl1w a0 a1 af0 af1
  have hzw := hbl.size
  have hq1 := HQ.out.later hbl (by omega)
  have hqr1 := HQR.out.later hbl (by omega)
  have hx1 := HX.out.later hbl (show c0 + 1 + 1 < W0.heap.size by omega)
  obtain ⟨W2, hW2⟩ : ∃ W2, W2 = (w1.setCell ⟨c0, 0, none⟩ v1).setCell ⟨c0, 1, none⟩ (.bool bad1) := ⟨_, rfl⟩
  have hs2 : Below c0 w1 W2 := by rw [hW2]; exact below_set2 (below_set2 (Below.refl _ _) (Nat.le_refl _) _ _) (Nat.le_refl _) _ _
  have hz2 : W2.heap.size = w1.heap.size := by rw [hW2]; simp [World.setCell]
  have HQ2 : Hid (QB W2 c0 v1 bad1) := Lib.hid (by rw [hW2]; exact qb_set hq1)
  have HQR2 : Hid (QB W2 (c0 + 1) (.slice none 0 0) false) := Lib.hid (by rw [hW2]; exact qb_far (qb_far hqr1 (by omega) _) (by omega) _)
  have HX2 : Hid (EBox W2 (c0 + 1 + 1) #[.int .i64 0, .int .u64 0, .int .i64 0, .int .u64 0, .string ⟨#[]⟩, .string ⟨#[]⟩, .int .i64 0, .int .i64 0, .float .f64 0, .string ⟨#[]⟩, .slice none 0 0]) := Lib.hid (by rw [hW2]; exact ebox_far (ebox_far hx1 (by omega) _) (by omega) _)
  have HP2 := Lib.hid (hp1.below hs2 hB)
  have HB2 := Lib.hid (HB0.out.trans ((hbl.mono (by omega)).trans hs2))
  have HV2 : Hid (BRd W2 v2 lb) := Lib.hid (brd_keep hv2 hs2.size fun q hq => hs2.block q (by have := hf2 q hq; omega))
  obtain ⟨a0, a1, af0, af1⟩ := hq1.cells
  have hlt1 : c0 < w1.heap.size := by omega
  have hlt2 : c0 + 1 + 1 < W2.heap.size := by omega
  clear hs2 hp1 hqr1 hx1 hbl hq1 hv2 hf2
  replace hW2 := Lib.hid hW2
  go_upto_region 2 with fail
  rw [← hW2.out]
  clear a0 a1 af0 af1 hst1 hlt1 hzw
  have hst := HP2.out.store
  obtain ⟨a0, a1, af0, af1⟩ := HQ2.out.cells
  obtain ⟨q0, q1, qf0, qf1⟩ := HQR2.out.cells
  obtain ⟨r0, r1, r2, r3, r4, r5, r6, r7, r8, r9, r10⟩ := HX2.out.cells
  obtain ⟨f0, f1, f2, f3, f4, f5, f6, f7, f8, f9, f10⟩ := ebox_frees HX2.out
  cases bad1 with
  | true =>
    go_wp2_with fail
    refine bodyPost_ret (v := .tuple #[.agg #[v1, .bool true], .agg #[.int .i64 0, .int .u64 0, .int .i64 0, .int .u64 0, .string ⟨#[]⟩, .string ⟨#[]⟩, .int .i64 0, .int .i64 0, .float .f64 0, .string ⟨#[]⟩, .slice none 0 0], .bool false]) (by simp [results, Tryz.results22, go_sem, q0, q1, r0, r1, r2, r3, r4, r5, r6, r7, r8, r9, r10]) rfl ?_
    exact re_no (s' := (l1, true)) HN.out (HP2.out.below (C := c0) (fin13 (Below.refl _ _) (Nat.le_succ _) _ _ _ _ _ _ _ _ _ _ _ _ _) hB) (by rw [← HC0.out]; exact fin13 HB2.out (Nat.le_succ _) _ _ _ _ _ _ _ _ _ _ _ _ _)
  | false =>
    match lb, HTF.out rfl with
    | [c], _ =>
      rcases HV2.out with ⟨-, h2⟩ | ⟨b, off, cap, h1, h2, h3, h4, h5⟩
      · cases h2
      · subst h1
        have e1 := h5 0 (by simp)
        simp only [Nat.add_zero, List.getElem_cons_zero] at e1
        clear h5 h2 h3
        by_cases hc : c = 1
        · subst hc
          have hk0 : 0 < 1 := by decide
          go_wp2_with fail
          refine (HU.out W2 _ (by omega) ⟨⟨v1, rfl, HP2.out.1, HP2.out.2.1⟩, HP2.out.2.2⟩).mono ?_
          rintro e w3 ⟨y, rfl, ⟨⟨v3, rfl, hv3, hf3⟩, hb3, hl3⟩, hbl3⟩
          simp only at hv3 hf3 hb3 hl3
          have hp3 : RP w3 B v3 l2 := ⟨hv3, hf3, hb3, hl3⟩
          have hst3 := hp3.store
          have hz3 := hbl3.size
          clear a0 a1 af0 af1 q0 q1 qf0 qf1 r0 r1 r2 r3 r4 r5 r6 r7 r8 r9 r10 f0 f1 f2 f3 f4 f5 f6 f7 f8 f9 f10 hv3 hf3 hb3 hl3
          have hq3 := HQ2.out.later hbl3 (by omega)
          have hqr3 := HQR2.out.later hbl3 (by omega)
          have hx3 := HX2.out.later hbl3 hlt2
          obtain ⟨W3, hW3⟩ : ∃ W3, W3 = (w3.setCell ⟨c0, 0, none⟩ v3).setCell ⟨c0, 1, none⟩ (.bool bad2) := ⟨_, rfl⟩
          have hs3 : Below c0 w3 W3 := by rw [hW3]; exact below_set2 (below_set2 (Below.refl _ _) (Nat.le_refl _) _ _) (Nat.le_refl _) _ _
          have HQ3 : Hid (QB W3 c0 v3 bad2) := Lib.hid (by rw [hW3]; exact qb_set hq3)
          have HQR3 : Hid (QB W3 (c0 + 1) (.slice none 0 0) false) := Lib.hid (by rw [hW3]; exact qb_far (qb_far hqr3 (by omega) _) (by omega) _)
          have HX3 : Hid (EBox W3 (c0 + 1 + 1) #[.int .i64 0, .int .u64 0, .int .i64 0, .int .u64 0, .string ⟨#[]⟩, .string ⟨#[]⟩, .int .i64 0, .int .i64 0, .float .f64 0, .string ⟨#[]⟩, .slice none 0 0]) := Lib.hid (by rw [hW3]; exact ebox_far (ebox_far hx3 (by omega) _) (by omega) _)
          have HP3 := Lib.hid (hp3.below hs3 hB)
          have HB3 := Lib.hid (HB2.out.trans ((hbl3.mono (by omega)).trans hs3))
          obtain ⟨a0, a1, af0, af1⟩ := hq3.cells
          have hlt3 : c0 < w3.heap.size := by omega
          have hlt4 : c0 + 1 + 1 < W3.heap.size := HX3.out.lt
          clear hs3 hp3 hqr3 hx3 hbl3 hq3
          replace hW3 := Lib.hid hW3
          go_upto_region 5 with fail
          rw [← hW3.out]
          clear a0 a1 af0 af1 hst3 hlt3 hz3 hst
          have hst := HP3.out.store
          obtain ⟨a0, a1, af0, af1⟩ := HQ3.out.cells
          obtain ⟨q0, q1, qf0, qf1⟩ := HQR3.out.cells
          obtain ⟨r0, r1, r2, r3, r4, r5, r6, r7, r8, r9, r10⟩ := HX3.out.cells
          obtain ⟨f0, f1, f2, f3, f4, f5, f6, f7, f8, f9, f10⟩ := ebox_frees HX3.out
          cases bad2 with
          | true =>
            go_wp2_with fail
            refine bodyPost_ret (v := .tuple #[.agg #[v3, .bool true], .agg #[.int .i64 0, .int .u64 0, .int .i64 0, .int .u64 0, .string ⟨#[]⟩, .string ⟨#[]⟩, .int .i64 0, .int .i64 0, .float .f64 0, .string ⟨#[]⟩, .slice none 0 0], .bool false]) (by simp [results, Tryz.results22, go_sem, q0, q1, r0, r1, r2, r3, r4, r5, r6, r7, r8, r9, r10]) rfl ?_
            exact re_no (s' := (l2, true)) HN.out (HP3.out.below (C := c0) (fin13 (Below.refl _ _) (Nat.le_succ _) _ _ _ _ _ _ _ _ _ _ _ _ _) hB) (by rw [← HC0.out]; exact fin13 HB3.out (Nat.le_succ _) _ _ _ _ _ _ _ _ _ _ _ _ _)
          | false =>
            have hkk : k < 1 ∨ 11 < k := by
              rcases HQQ.out with h | h | h
              · exact absurd rfl h
              · cases h
              · exact h
            by_cases hk1 : k < 1
            · have k1 : decide ((k : Int) < 1) = true := decide_eq_true (by omega)
              go_wp2_with fail
              refine bodyPost_ret (v := .tuple #[.agg #[v3, .bool false], .agg #[.int .i64 0, .int .u64 0, .int .i64 0, .int .u64 0, .string ⟨#[]⟩, .string ⟨#[]⟩, .int .i64 0, .int .i64 0, .float .f64 0, .string ⟨#[]⟩, .slice none 0 0], .bool false]) (by simp [results, Tryz.results22, go_sem, q0, q1, r0, r1, r2, r3, r4, r5, r6, r7, r8, r9, r10]) rfl ?_
              exact re_no (s' := (l2, false)) HN.out (HP3.out.below (C := c0) (fin13 (Below.refl _ _) (Nat.le_succ _) _ _ _ _ _ _ _ _ _ _ _ _ _) hB) (by rw [← HC0.out]; exact fin13 HB3.out (Nat.le_succ _) _ _ _ _ _ _ _ _ _ _ _ _ _)
            · have k1 : decide ((k : Int) < 1) = false := decide_eq_false (by omega)
              have k2 : decide ((11 : Int) < (k : Int)) = true := decide_eq_true (by omega)
              have k3 : decide ((k : Int) > 11) = true := decide_eq_true (by omega)
              go_wp2_with fail
              refine bodyPost_ret (v := .tuple #[.agg #[v3, .bool false], .agg #[.int .i64 0, .int .u64 0, .int .i64 0, .int .u64 0, .string ⟨#[]⟩, .string ⟨#[]⟩, .int .i64 0, .int .i64 0, .float .f64 0, .string ⟨#[]⟩, .slice none 0 0], .bool false]) (by simp [results, Tryz.results22, go_sem, q0, q1, r0, r1, r2, r3, r4, r5, r6, r7, r8, r9, r10]) rfl ?_
              exact re_no (s' := (l2, false)) HN.out (HP3.out.below (C := c0) (fin13 (Below.refl _ _) (Nat.le_succ _) _ _ _ _ _ _ _ _ _ _ _ _ _) hB) (by rw [← HC0.out]; exact fin13 HB3.out (Nat.le_succ _) _ _ _ _ _ _ _ _ _ _ _ _ _)
        · have hcn : ¬ ((c : Int) = 1) := by omega
          go_wp2_with fail
          refine bodyPost_ret (v := .tuple #[.agg #[v1, .bool false], .agg #[.int .i64 0, .int .u64 0, .int .i64 0, .int .u64 0, .string ⟨#[]⟩, .string ⟨#[]⟩, .int .i64 0, .int .i64 0, .float .f64 0, .string ⟨#[]⟩, .slice none 0 0], .bool false]) (by simp [results, Tryz.results22, go_sem, q0, q1, r0, r1, r2, r3, r4, r5, r6, r7, r8, r9, r10]) rfl ?_
          exact re_no (s' := (l1, false)) HN.out (HP2.out.below (C := c0) (fin13 (Below.refl _ _) (Nat.le_succ _) _ _ _ _ _ _ _ _ _ _ _ _ _) hB) (by rw [← HC0.out]; exact fin13 HB2.out (Nat.le_succ _) _ _ _ _ _ _ _ _ _ _ _ _ _)

end Rd
end Go.Proofs.YtcbddebmmaflgaaGreat
namespace Go.Proofs.YtcbddebmmaflgaaGreat
open Go.RowKit
set_option linter.unusedVariables false
set_option linter.unusedSimpArgs false
namespace Rd
open _root_.Go.Proofs.YtcbddebmmaflgaaGreat.Nm (bitsW ret_int ret_bool)
open Vt (VT Rep)
open Ev (EV FieldsOk evCells vCells ERep zeroT fieldsOf goodL pickB)
open Cm (has_field)

theorem rv1 (b : Bool) (id : Nat) : (!(b != ((id : Int) != 0))) = pickB b (decide (0 < id)) ((id : Int) == 0) := by
  by_cases h : id = 0
  · subst h; cases b <;> rfl
  · have h1 : ((id : Int) == 0) = false := beq_eq_false_iff_ne.2 (by omega)
    have h2 : ((id : Int) != 0) = true := by simp [bne, h1]
    rw [h1, h2, decide_eq_true (by omega)]
    cases b <;> rfl
theorem rv2 (b : Bool) (n : Int) : (!((b && (decide (n < 1) || decide (2147483647 < n))) || (!b && (n != 0)))) = pickB b (decide (1 ≤ n ∧ n ≤ 2147483647)) (n == 0) := by
  cases b with
  | true =>
    unfold pickB
    rw [if_pos rfl]
    by_cases h1 : n < 1
    · rw [decide_eq_true h1, decide_eq_false (by omega : ¬ (1 ≤ n ∧ n ≤ 2147483647))]; rfl
    · by_cases h2 : 2147483647 < n
      · rw [decide_eq_false h1, decide_eq_true h2, decide_eq_false (by omega : ¬ (1 ≤ n ∧ n ≤ 2147483647))]; rfl
      · rw [decide_eq_false h1, decide_eq_false h2, decide_eq_true (by omega : (1 ≤ n ∧ n ≤ 2147483647))]; rfl
  | false =>
    unfold pickB
    rw [if_neg (by simp)]
    simp [bne]
theorem rv3 (b : Bool) (a : Nat) : (!(decide ((9223372036854775807 : Int) < (a : Int)) || (!b && ((a : Int) != 0)))) = pickB b (decide (a ≤ 9223372036854775807)) ((a : Int) == 0) := by
  by_cases h : (9223372036854775807 : Int) < (a : Int)
  · rw [decide_eq_true h, decide_eq_false (by omega : ¬ a ≤ 9223372036854775807), beq_eq_false_iff_ne.2 (by omega : (a : Int) ≠ 0)]
    cases b <;> rfl
  · rw [decide_eq_false h, decide_eq_true (by omega : a ≤ 9223372036854775807)]
    cases b <;> simp [pickB, bne]
theorem size_empty {s : ByteArray} (h : s.toList.isEmpty = true) : s.size = 0 := by rw [Vf.toList_nil h]; rfl
theorem rv4 (b c : Bool) (s t : ByteArray) : (!((b != !s.toList.isEmpty) || decide ((1000 : Int) < (s.size : Int)) || decide ((1000 : Int) < (t.size : Int)) || (!c && !t.toList.isEmpty))) = (pickB b (!s.toList.isEmpty && decide (s.size ≤ 1000)) s.toList.isEmpty && pickB c (decide (t.size ≤ 1000)) t.toList.isEmpty) := by
  have e1 : ∀ x : ByteArray, decide ((1000 : Int) < (x.size : Int)) = !decide (x.size ≤ 1000) := fun x => by
    by_cases h : x.size ≤ 1000
    · rw [decide_eq_true h, decide_eq_false (by omega)]; rfl
    · rw [decide_eq_false h, decide_eq_true (by omega)]; rfl
  rw [e1, e1]
  have hs : s.toList.isEmpty = true → decide (s.size ≤ 1000) = true := fun h => decide_eq_true (by rw [size_empty h]; omega)
  have ht : t.toList.isEmpty = true → decide (t.size ≤ 1000) = true := fun h => decide_eq_true (by rw [size_empty h]; omega)
  revert hs ht
  generalize s.toList.isEmpty = E
  generalize t.toList.isEmpty = T
  generalize decide (s.size ≤ 1000) = x
  generalize decide (t.size ≤ 1000) = y
  unfold pickB
  revert b c E T x y
  decide
theorem rv5 (b : Bool) (v : VT) : (v.valid 8 && (b || (v.k == 0))) = pickB b (v.valid 8) (v.same zeroT) := by
  cases b with
  | true => unfold pickB; simp
  | false =>
    unfold pickB
    rw [if_neg (by simp), Bool.false_or, Bool.eq_iff_iff, Bool.and_eq_true, beq_iff_eq]
    obtain ⟨k, n, f, s, l⟩ := v
    constructor
    · rintro ⟨h, rfl⟩
      rcases Pf.valid_cases h with ⟨-, rfl, h3, h4, rfl⟩ | ⟨h0, -⟩ | ⟨h0, -⟩ | ⟨h0, -⟩ | ⟨h0, -⟩
      · obtain rfl := Pf.size_zero h4
        exact Pf.same_mk_of (by rw [h3, bits0]) rfl fun i hi => absurd hi (by simp)
      all_goals exact absurd h0 (by decide)
    · intro h
      refine ⟨by rw [Vt.same_valid _ _ 8 h]; exact Vf.zero_val, ?_⟩
      exact ((Vt.same_iff ..).1 h).1
theorem rvalid_ev2 (e : EV) (h1 : 1 ≤ e.k) (h2 : e.k ≤ 11) (lo hi : Nat) (vk vn : Int) (vf : Nat) (vs : ByteArray) (A : Option Addr) (m c : Nat) (w : World) (hv : Rep w lo hi e.v (vCells vk vn vf vs A m c)) (hz : hi ≤ w.heap.size) :
    Calls Tryz.prog 58 #[.agg (evCells e vk vn vf vs A m c)] w fun r w' => r = .returned (.bool e.valid) ∧ Below w.heap.size w w' := by
  obtain ⟨k, id, n, at', name, text, v⟩ := e
  simp only at h1 h2 hv
  obtain ⟨k', rfl⟩ : ∃ k' : Nat, k = k' := ⟨k.toNat, by omega⟩
  have hvk : vk = v.k := by
    obtain ⟨kk, nn, ff, ss, ll⟩ := v
    obtain ⟨A', cap, heq, -⟩ := hv.head
    unfold vCells at heq
    injection heq with heq
    simp at heq
    exact heq.1
  have hf : ∀ cc q, (cc, q) ∈ [(105, 0), (110, 1), (97, 2), (115, 3), (116, 4), (118, 5)] → Hid (∀ W, Calls Tryz.prog 56 #[.int .i64 (k' : Nat), .int .u8 (cc : Nat)] W fun r w' => r = .returned (.bool ((fieldsOf k').contains q)) ∧ Below W.heap.size W w') := fun cc q hq => Lib.hid fun W => has_field k' (by omega) (by omega) cc q hq W
  have := rvalid_gen k' id n at' name text v lo hi vk vn vf vs A m c w hv hz (by omega) (by omega) ((fieldsOf k').contains 0) ((fieldsOf k').contains 1) ((fieldsOf k').contains 2) ((fieldsOf k').contains 3) ((fieldsOf k').contains 4) ((fieldsOf k').contains 5)
    _ _ _ _ _ _ _ _ _ _ _ rfl rfl rfl rfl rfl rfl rfl rfl rfl rfl rfl _ _ _ _ rfl rfl rfl rfl (hf 105 0 (by simp)) (hf 110 1 (by simp)) (hf 97 2 (by simp)) (hf 115 3 (by simp)) (hf 116 4 (by simp)) (hf 118 5 (by simp))
  refine this.mono fun r w' h => ⟨?_, h.2⟩
  rw [h.1]
  congr 2
  unfold EV.valid goodL
  simp only [Int.toNat_natCast, List.all_cons, List.all_nil, Bool.and_true]
  rw [decide_eq_true (show (1 : Int) ≤ (k' : Int) ∧ (k' : Int) ≤ 11 from ⟨h1, h2⟩), Bool.true_and, rv1, rv2, rv3, rv4, hvk, rv5]
  simp only [Bool.and_assoc]
end Rd
end Go.Proofs.YtcbddebmmaflgaaGreat
