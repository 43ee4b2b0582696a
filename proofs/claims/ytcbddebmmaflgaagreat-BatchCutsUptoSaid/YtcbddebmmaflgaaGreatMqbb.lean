/- The reference's read of a value: numbers and texts. -/
import Derived.Test.YtcbddebmmaflgaaGreatMqba
namespace Go.Proofs.YtcbddebmmaflgaaGreat
open Go.RowKit
set_option linter.unusedVariables false
set_option linter.unusedSimpArgs false
namespace Rd
open _root_.Go.Proofs.YtcbddebmmaflgaaGreat.Nm (ret_int ret_bool bitsW ofW okW)
open Vt (VT Rep BoxAt below_drew put5 KidsAt HeadOk)
open Cm (OnlyAt rowOf)
open Cn (BRd brd_own VsAt VNew)
open Bt (BIn)
attribute [local go_sem] Vt.run_store_float

set_option maxRecDepth 100000 in
set_option maxHeartbeats 4000000 in
theorem rr_text (left : Nat) (s : St) (x : Value) (w : World) (B : Nat) (hB : B ≤ w.heap.size) (h : RV w B s x) (hq : (rUint s).1.2 = false ∧ (rUint s).2 = 3) :
    Calls Tryz.prog 71 #[x, .int .i64 (left : Nat)] w (RRead (left) s B w) := by
  have HP : Hid (pv (left) s = if (rBytes (rUint s).1).1.2 = true then none else some ((rBytes (rUint s).1).1, .mk 3 0 0 (strOf (rBytes (rUint s).1).2) [])) := Lib.hid (by rw [pv_eq, if_neg (by rw [hq.1, hq.2]; simp), if_neg (by rw [hq.2]; decide), if_neg (by rw [hq.2]; decide), if_neg (by rw [hq.2]; decide), if_pos hq.2] <;> rfl)
  have HQQ := Lib.hid hq
  clear hq
  obtain ⟨⟨v, rfl, hv, hf⟩, hb, hl⟩ := h
  obtain ⟨l, bad⟩ := s
  simp only at *
  obtain ⟨W0, hW0, hq, hqr, hx, hb0, hz0⟩ := three_boxes w v bad
  have hp0 : RP W0 B v l := RP.below ⟨hv, hf, hb, hl⟩ hb0 hB
  have HU := Lib.hid (rruint_any (l, bad) (.agg #[v, .bool bad]) W0 B (by omega) ⟨⟨v, rfl, hp0.1, hf⟩, hb, hl⟩)
  have HBY := Lib.hid (rUint_byt (s := (l, bad)) hb hl)
  have HQ := Lib.hid hq
  have HQR := Lib.hid hqr
  have HX := Lib.hid hx
  have HB0 := Lib.hid hb0
  have HST := Lib.hid hp0.store
  clear hv hf hb hl hx hq hqr hb0 hp0
  generalize rUint (l, bad) = q at *
  obtain ⟨⟨l1, bad1⟩, k⟩ := q
  simp only at *
  have HZ : Hid ((strOf (rBytes (l1, bad1)).2).size ≤ maxLen) := Lib.hid (Nat.le_trans (rText_size (s := (l1, bad1)) HBY.out.1 HBY.out.2) (by decide))
  have HY2 := Lib.hid (rBytes_byt (s := (l1, bad1)) HBY.out.1 HBY.out.2).2.2
  have HI := Lib.hid fun (W : World) (x : Value) (hW : B ≤ W.heap.size) (hx : RV W B (l1, bad1) x) => rrbytes_any (l1, bad1) x W B hW hx
  generalize rBytes (l1, bad1) = z at *
  obtain ⟨⟨l4, bad4⟩, l2⟩ := z
  simp only at *
  obtain ⟨c0, hc0⟩ : ∃ c0, c0 = w.heap.size := ⟨_, rfl⟩
  rw [← hc0] at HQ HQR HX HB0 hz0 hB
  obtain ⟨a0, a1, af0, af1⟩ := HQ.out.cells
  replace hW0 := Lib.hid hW0
  have HC0 := Lib.hid hc0
  clear hc0
  go_enter Tryz.func71, Tryz.ntmps71
  go_upto_region 1 with fail
  rw [← hW0.out, ← HC0.out]
  go_wp2_with fail
  refine HU.out.mono ?_
  rintro e w1 ⟨y, rfl, ⟨⟨v1, rfl, hv1, hf1⟩, hb1, hl1⟩, hbl⟩
  simp only at hv1 hf1 hb1 hl1
  have hp1 : RP w1 B v1 l1 := ⟨hv1, hf1, hb1, hl1⟩
  have hst1 := hp1.store
  clear hv1 hf1 hb1 hl1 a0 a1 af0 af1
  have hzw := hbl.size
  have hq1 := HQ.out.later hbl (by omega)
  have hqr1 := HQR.out.later hbl (by omega)
  have hx1 := HX.out.later hbl (by omega)
  obtain ⟨b1, hb1⟩ : ∃ b1, b1 = w1.heap.size := ⟨_, rfl⟩
  obtain ⟨W2, hW2⟩ : ∃ W2, W2 = ((w1.setCell ⟨c0, 0, none⟩ v1).setCell ⟨c0, 1, none⟩ (.bool bad1)).alloc (.cells #[.int .i64 0, .int .i64 0, .float .f64 0, .string ⟨#[]⟩, .slice none 0 0] 42) := ⟨_, rfl⟩
  have hs2 : Below c0 w1 ((w1.setCell ⟨c0, 0, none⟩ v1).setCell ⟨c0, 1, none⟩ (.bool bad1)) := below_set2 (below_set2 (Below.refl _ _) (Nat.le_refl _) _ _) (Nat.le_refl _) _ _
  have hzs : ((w1.setCell ⟨c0, 0, none⟩ v1).setCell ⟨c0, 1, none⟩ (.bool bad1)).heap.size = b1 := by rw [hb1]; simp [World.setCell]
  have hb12 : Below c0 w1 W2 := by rw [hW2]; exact hs2.alloc (by omega) _
  have e2 : ∀ b, b < b1 → W2.heap[b]? = ((w1.setCell ⟨c0, 0, none⟩ v1).setCell ⟨c0, 1, none⟩ (.bool bad1)).heap[b]? := fun b hb => by rw [hW2]; exact heap_alloc_old _ _ (by rw [hzs]; exact hb)
  have HQ2 : Hid (QB W2 c0 v1 bad1) := Lib.hid ((e2 c0 (by omega)).trans (qb_set hq1))
  have HQR2 : Hid (QB W2 (c0 + 1) (.slice none 0 0) false) := Lib.hid ((e2 _ (by omega)).trans (qb_far (qb_far hqr1 (by omega) _) (by omega) _))
  have HX2 : Hid (BoxAt W2 (c0 + 1 + 1) 0 0 0 ⟨#[]⟩ none 0 0) := Lib.hid ((e2 _ (by omega)).trans (Vt.box_far (Vt.box_far hx1 (by omega) _) (by omega) _))
  have HV2 : Hid (BoxAt W2 b1 0 0 0 ⟨#[]⟩ none 0 0) := Lib.hid (by rw [hW2, ← hzs]; exact BoxAt.new ..)
  have hz2 : W2.heap.size = b1 + 1 := by rw [hW2, World.size_alloc, hzs]
  have HP2 := Lib.hid (hp1.below hb12 hB)
  have HB2 := Lib.hid (HB0.out.trans ((hbl.mono (by omega)).trans hb12))
  obtain ⟨a0, a1, af0, af1⟩ := hq1.cells
  have hlt3 : c0 + 1 + 1 < b1 := by omega
  clear hs2 hzs hb12 e2 hp1 hqr1 hx1 hbl hzw hq1
  replace hW2 := Lib.hid hW2
  have HB1 := Lib.hid hb1
  go_upto_region 3 with fail
  rw [← hW2.out, ← HB1.out]
  clear a0 a1 af0 af1 hst1 hb1
  have hst := HP2.out.store
  obtain rfl : bad1 = false := HQQ.out.1
  have k1 : decide ((k : Int) > 4) = false := decide_eq_false (by have := HQQ.out.2; omega)
  have k2 : decide ((4 : Int) < (k : Int)) = false := decide_eq_false (by have := HQQ.out.2; omega)
  have k3 : decide (4 < k) = false := decide_eq_false (by have := HQQ.out.2; omega)
  have hwk : IntKind.i64.wrap (k : Int) = (k : Int) := by have := HQQ.out.2; rw [IntKind.wrap_i64]; omega
  have e1 : ((k : Int) == 1) = false := beq_eq_false_iff_ne.2 (by have := HQQ.out.2; omega)
  have e2 : ((k : Int) == 2) = false := beq_eq_false_iff_ne.2 (by have := HQQ.out.2; omega)
  have e3 : ((k : Int) == 3) = true := beq_iff_eq.2 (by have := HQQ.out.2; omega)
  have e4 : ((k : Int) == 4) = false := beq_eq_false_iff_ne.2 (by have := HQQ.out.2; omega)
  have HK0 : Hid ((k : Int) = 3) := Lib.hid (by have := HQQ.out.2; omega)
  obtain ⟨W3, hW3⟩ : ∃ W3, W3 = W2.setCell ⟨b1, 0, none⟩ (.int .i64 (k : Int)) := ⟨_, rfl⟩
  have hs3 : Below c0 W2 W3 := by rw [hW3]; exact below_set2 (Below.refl _ _) (by omega) _ _
  have HQ3 : Hid (QB W3 c0 v1 false) := Lib.hid (by rw [hW3]; exact qb_far HQ2.out (by omega) _)
  have HQR3 : Hid (QB W3 (c0 + 1) (.slice none 0 0) false) := Lib.hid (by rw [hW3]; exact qb_far HQR2.out (by omega) _)
  have HX3 : Hid (BoxAt W3 (c0 + 1 + 1) 0 0 0 ⟨#[]⟩ none 0 0) := Lib.hid (by rw [hW3]; exact Vt.box_far HX2.out (by omega) _)
  have HV3 : Hid (BoxAt W3 b1 k 0 0 ⟨#[]⟩ none 0 0) := Lib.hid (by rw [hW3]; exact box_set0 HV2.out _)
  have hz3 : W3.heap.size = b1 + 1 := by rw [hW3]; simpa [World.setCell] using hz2
  have HP3 := Lib.hid (HP2.out.below hs3 hB)
  have HB3 := Lib.hid (HB2.out.trans hs3)
  clear hs3
  obtain ⟨a0, a1, af0, af1⟩ := HQ2.out.cells
  obtain ⟨d0, d1, d2, d3, d4⟩ := HV2.out.cells
  have m0 := Vt.box_free HV2.out 0
  have m1 := Vt.box_free HV2.out 1
  have m2 := Vt.box_free HV2.out 2
  have m3 := Vt.box_free HV2.out 3
  have m4 := Vt.box_free HV2.out 4
  have hz2x := hz2
  clear hz2x
  replace hW3 := Lib.hid hW3
  go_upto_region 6 with fail
  rw [← hW3.out]
  clear a0 a1 af0 af1 d0 d1 d2 d3 d4 m0 m1 m2 m3 m4 hst k1 k2 k3 hz2
  have hst := HP3.out.store
  obtain ⟨a0, a1, af0, af1⟩ := HQ3.out.cells
  go_wp2_with fail
  refine (HI.out W3 _ (by omega) ⟨⟨v1, rfl, HP3.out.1, HP3.out.2.1⟩, HP3.out.2.2⟩).mono ?_
  rintro e w4 ⟨y, v2, rfl, ⟨⟨v4, rfl, hv4, hf4⟩, hb4, hl4⟩, hv2, hf2, hbl4⟩
  simp only at hv4 hf4 hb4 hl4
  have hp4 : RP w4 B v4 l4 := ⟨hv4, hf4, hb4, hl4⟩
  have hst4w := hp4.store
  have hz4w := hbl4.size
  have hq4 := HQ3.out.later hbl4 (by omega)
  have hqr4 := HQR3.out.later hbl4 (by omega)
  have hx4 := HX3.out.later hbl4 (by omega)
  have hv4b := HV3.out.later hbl4 (by omega)
  have hbw4 := HB3.out.trans (hbl4.mono (by omega))
  clear hv4 hf4 hb4 hl4 a0 a1 af0 af1 hst
  obtain ⟨a0, a1, af0, af1⟩ := hq4.cells
  obtain ⟨b2, hb2⟩ : ∃ b2, b2 = w4.heap.size := ⟨_, rfl⟩
  obtain ⟨Wa, hWa⟩ : ∃ Wa, Wa = ((w4.setCell ⟨c0, 0, none⟩ v4).setCell ⟨c0, 1, none⟩ (.bool bad4)).alloc (.cells #[v4, .bool bad4] 52) := ⟨_, rfl⟩
  have hzs : ((w4.setCell ⟨c0, 0, none⟩ v4).setCell ⟨c0, 1, none⟩ (.bool bad4)).heap.size = b2 := by rw [hb2]; simp [World.setCell]
  have ea : ∀ b, b < b2 → b ≠ c0 → Wa.heap[b]? = w4.heap[b]? := fun b hb hne => by
    rw [hWa]
    exact (heap_alloc_old _ _ (by rw [hzs]; exact hb)).trans ((Below.heap_setCell _ ⟨c0, 1, none⟩ _ b (by simpa using hne)).trans (Below.heap_setCell _ ⟨c0, 0, none⟩ _ b (by simpa using hne)))
  have hza : Wa.heap.size = b2 + 1 := by rw [hWa, World.size_alloc, hzs]
  have hsa : Below c0 w4 Wa := by rw [hWa]; exact (below_set2 (below_set2 (Below.refl _ _) (Nat.le_refl _) _ _) (Nat.le_refl _) _ _).alloc (by omega) _
  have HQa : Hid (QB Wa c0 v4 bad4) := Lib.hid (by rw [hWa]; exact (heap_alloc_old _ _ (by omega)).trans (qb_set hq4))
  have HQRa : Hid (QB Wa (c0 + 1) (.slice none 0 0) false) := Lib.hid ((ea _ (by omega) (by omega)).trans hqr4)
  have HXa : Hid (BoxAt Wa (c0 + 1 + 1) 0 0 0 ⟨#[]⟩ none 0 0) := Lib.hid ((ea _ (by omega) (by omega)).trans hx4)
  have HVa : Hid (BoxAt Wa b1 k 0 0 ⟨#[]⟩ none 0 0) := Lib.hid ((ea _ (by omega) (by omega)).trans hv4b)
  have HPa := Lib.hid (hp4.below hsa hB)
  have HBa := Lib.hid (hbw4.trans hsa)
  have h2a : BRd Wa v2 l2 := brd_keep hv2 hsa.size fun q hq => hsa.block q (by have := hf2 q hq; omega)
  have H2a := Lib.hid h2a
  have hnb1 : ¬ (b2 = c0) := by omega
  have hnb2 : ¬ (c0 = b2) := by omega
  have hltc : c0 < w4.heap.size := by omega
  clear hv2 hf2 hp4 hqr4 hx4 hv4b hbw4 hbl4 ea hsa h2a hq4 hzs
  replace hWa := Lib.hid hWa
  have HB2x := Lib.hid hb2
  clear hb2 hnb1 hnb2
  go_upto_region 22 with fail
  rw [← hWa.out]
  clear a0 a1 af0 af1 hst4w hltc
  have hcv := (brd_in H2a.out).toText HY2.out
  have HTX : Hid (strOf l2 = ⟨(l2.map UInt8.ofNat).toArray⟩) := Lib.hid rfl
  rw [← HTX.out] at hcv
  generalize strOf l2 = vs at *
  obtain ⟨W4, hW4⟩ : ∃ W4, W4 = Wa.setCell ⟨b1, 3, none⟩ (.string vs) := ⟨_, rfl⟩
  have hs4 : Below c0 Wa W4 := by rw [hW4]; exact below_set2 (Below.refl _ _) (by omega) _ _
  have HQ4 : Hid (QB W4 c0 v4 bad4) := Lib.hid (by rw [hW4]; exact qb_far HQa.out (by omega) _)
  have HQR4 : Hid (QB W4 (c0 + 1) (.slice none 0 0) false) := Lib.hid (by rw [hW4]; exact qb_far HQRa.out (by omega) _)
  have HX4 : Hid (BoxAt W4 (c0 + 1 + 1) 0 0 0 ⟨#[]⟩ none 0 0) := Lib.hid (by rw [hW4]; exact Vt.box_far HXa.out (by omega) _)
  have HV4 : Hid (BoxAt W4 b1 k 0 0 vs none 0 0) := Lib.hid (by rw [hW4]; exact box_set3 HVa.out _)
  have HP4 := Lib.hid (HPa.out.below hs4 hB)
  have HB4 := Lib.hid (HBa.out.trans hs4)
  obtain ⟨d0, d1, d2, d3, d4⟩ := HVa.out.cells
  have m0 := Vt.box_free HVa.out 0
  have m1 := Vt.box_free HVa.out 1
  have m2 := Vt.box_free HVa.out 2
  have m3 := Vt.box_free HVa.out 3
  have m4 := Vt.box_free HVa.out 4
  have hltb : b1 < Wa.heap.size := HVa.out.lt
  clear hs4
  replace hW4 := Lib.hid hW4
  go_upto_region 36 with fail
  rw [← hW4.out]
  clear d0 d1 d2 d3 d4 m0 m1 m2 m3 m4 hltb
  clear hcv
  obtain ⟨a0, a1, af0, af1⟩ := HQ4.out.cells
  obtain ⟨q0, q1, qf0, qf1⟩ := HQR4.out.cells
  obtain ⟨r0, r1, r2, r3, r4⟩ := HX4.out.cells
  have f0 := Vt.box_free HX4.out 0
  have f1 := Vt.box_free HX4.out 1
  have f2 := Vt.box_free HX4.out 2
  have f3 := Vt.box_free HX4.out 3
  have f4 := Vt.box_free HX4.out 4
  obtain ⟨d0, d1, d2, d3, d4⟩ := HV4.out.cells
  have m0 := Vt.box_free HV4.out 0
  have m1 := Vt.box_free HV4.out 1
  have m2 := Vt.box_free HV4.out 2
  have m3 := Vt.box_free HV4.out 3
  have m4 := Vt.box_free HV4.out 4
  have hne1 : ¬ (b1 = c0) := by omega
  have hne2 : ¬ (b1 = c0 + 1) := by omega
  have hne3 : ¬ (b1 = c0 + 1 + 1) := by omega
  have hne4 : ¬ (c0 = b1) := by omega
  have hne5 : ¬ (c0 + 1 = b1) := by omega
  have hne6 : ¬ (c0 + 1 + 1 = b1) := by omega
  have hlt4 : b1 < W4.heap.size := HV4.out.lt
  have hst4 := HP4.out.store
  cases bad4 with
  | true =>
    have HN : pv (left) (l, bad) = none := by rw [HP.out]; rfl
    go_wp2_with fail
    refine bodyPost_ret (v := .tuple #[.agg #[v4, .bool true], .agg #[.int .i64 0, .int .i64 0, .float .f64 0, .string ⟨#[]⟩, .slice none 0 0], .bool false]) (by simp [results, Tryz.results71, go_sem, q0, q1, r0, r1, r2, r3, r4]) rfl ?_
    exact rread_no (s' := (l4, true)) HN (HP4.out.below (C := c0) (fin7 (Below.refl _ _) (Nat.le_succ _) _ _ _ _ _ _ _) hB) (by rw [← HC0.out]; exact fin7 HB4.out (Nat.le_succ _) _ _ _ _ _ _ _)
  | false =>
    have HY : pv (left) (l, bad) = some ((l4, false), .mk 3 0 0 vs []) := by rw [HP.out]; rfl
    go_wp2_with fail
    go_region
    go_wp2_with fail
    refine bodyPost_ret (v := .tuple #[.agg #[v4, .bool false], .agg #[.int .i64 (k : Int), .int .i64 0, .float .f64 0, .string vs, .slice none 0 0], .bool true]) (by simp [results, Tryz.results71, go_sem, q0, q1, r0, r1, r2, r3, r4]) rfl ?_
    exact rread_yes (s' := (l4, false)) HY (HP4.out.below (C := c0) (below_drew (fin7 (Below.refl _ _) (Nat.le_succ _) _ _ _ _ _ _ _)) hB) (by rw [HK0.out]; exact rep_leaf ⟨by decide, by decide, by decide, by decide, by decide, HZ.out, by decide⟩) (by rw [← HC0.out]; exact below_drew (fin7 HB4.out (Nat.le_succ _) _ _ _ _ _ _ _))

set_option maxRecDepth 100000 in
set_option maxHeartbeats 4000000 in
theorem rr_float (left : Nat) (s : St) (x : Value) (w : World) (B : Nat) (hB : B ≤ w.heap.size) (h : RV w B s x) (hq : (rUint s).1.2 = false ∧ (rUint s).2 = 2) :
    Calls Tryz.prog 71 #[x, .int .i64 (left : Nat)] w (RRead (left) s B w) := by
  have HP : Hid (pv (left) s = if (rTake (rUint s).1 8).1.2 = true ∨ okW (beN (rTake (rUint s).1 8).2) = false then none else some ((rTake (rUint s).1 8).1, .mk 2 0 (ofW (beN (rTake (rUint s).1 8).2)) ⟨#[]⟩ [])) := Lib.hid (by rw [pv_eq, if_neg (by rw [hq.1, hq.2]; simp), if_neg (by rw [hq.2]; decide), if_neg (by rw [hq.2]; decide), if_pos hq.2] <;> rfl)
  have HQQ := Lib.hid hq
  clear hq
  obtain ⟨⟨v, rfl, hv, hf⟩, hb, hl⟩ := h
  obtain ⟨l, bad⟩ := s
  simp only at *
  obtain ⟨W0, hW0, hq, hqr, hx, hb0, hz0⟩ := three_boxes w v bad
  have hp0 : RP W0 B v l := RP.below ⟨hv, hf, hb, hl⟩ hb0 hB
  have HU := Lib.hid (rruint_any (l, bad) (.agg #[v, .bool bad]) W0 B (by omega) ⟨⟨v, rfl, hp0.1, hf⟩, hb, hl⟩)
  have HBY := Lib.hid (rUint_byt (s := (l, bad)) hb hl)
  have HQ := Lib.hid hq
  have HQR := Lib.hid hqr
  have HX := Lib.hid hx
  have HB0 := Lib.hid hb0
  have HST := Lib.hid hp0.store
  clear hv hf hb hl hx hq hqr hb0 hp0
  generalize rUint (l, bad) = q at *
  obtain ⟨⟨l1, bad1⟩, k⟩ := q
  simp only at *
  have HI : Hid (∀ (W : World) (x : Value) (hW : B ≤ W.heap.size) (hx : RV W B (l1, bad1) x), Calls Tryz.prog 55 #[x, .int .i64 8] W fun r w' => ∃ y v2, r = .returned (.tuple #[y, v2]) ∧ RV w' B (rTake (l1, bad1) 8).1 y ∧ BRd w' v2 (rTake (l1, bad1) 8).2 ∧ Far v2 B ∧ Below W.heap.size W w') := Lib.hid fun W x hW hx => rrtake_any (l1, bad1) 8 x W B hW hx
  have hl8 := rTake_len (l1, bad1) 8
  have HBL := Lib.hid (rTake_byt2 (s := (l1, bad1)) HBY.out.1 8)
  generalize rTake (l1, bad1) 8 = z at *
  obtain ⟨⟨l4, bad4⟩, l2⟩ := z
  simp only at *
  obtain ⟨c0, hc0⟩ : ∃ c0, c0 = w.heap.size := ⟨_, rfl⟩
  rw [← hc0] at HQ HQR HX HB0 hz0 hB
  obtain ⟨a0, a1, af0, af1⟩ := HQ.out.cells
  replace hW0 := Lib.hid hW0
  have HC0 := Lib.hid hc0
  clear hc0
  go_enter Tryz.func71, Tryz.ntmps71
  go_upto_region 1 with fail
  rw [← hW0.out, ← HC0.out]
  go_wp2_with fail
  refine HU.out.mono ?_
  rintro e w1 ⟨y, rfl, ⟨⟨v1, rfl, hv1, hf1⟩, hb1, hl1⟩, hbl⟩
  simp only at hv1 hf1 hb1 hl1
  have hp1 : RP w1 B v1 l1 := ⟨hv1, hf1, hb1, hl1⟩
  have hst1 := hp1.store
  clear hv1 hf1 hb1 hl1 a0 a1 af0 af1
  have hzw := hbl.size
  have hq1 := HQ.out.later hbl (by omega)
  have hqr1 := HQR.out.later hbl (by omega)
  have hx1 := HX.out.later hbl (by omega)
  obtain ⟨b1, hb1⟩ : ∃ b1, b1 = w1.heap.size := ⟨_, rfl⟩
  obtain ⟨W2, hW2⟩ : ∃ W2, W2 = ((w1.setCell ⟨c0, 0, none⟩ v1).setCell ⟨c0, 1, none⟩ (.bool bad1)).alloc (.cells #[.int .i64 0, .int .i64 0, .float .f64 0, .string ⟨#[]⟩, .slice none 0 0] 42) := ⟨_, rfl⟩
  have hs2 : Below c0 w1 ((w1.setCell ⟨c0, 0, none⟩ v1).setCell ⟨c0, 1, none⟩ (.bool bad1)) := below_set2 (below_set2 (Below.refl _ _) (Nat.le_refl _) _ _) (Nat.le_refl _) _ _
  have hzs : ((w1.setCell ⟨c0, 0, none⟩ v1).setCell ⟨c0, 1, none⟩ (.bool bad1)).heap.size = b1 := by rw [hb1]; simp [World.setCell]
  have hb12 : Below c0 w1 W2 := by rw [hW2]; exact hs2.alloc (by omega) _
  have e2 : ∀ b, b < b1 → W2.heap[b]? = ((w1.setCell ⟨c0, 0, none⟩ v1).setCell ⟨c0, 1, none⟩ (.bool bad1)).heap[b]? := fun b hb => by rw [hW2]; exact heap_alloc_old _ _ (by rw [hzs]; exact hb)
  have HQ2 : Hid (QB W2 c0 v1 bad1) := Lib.hid ((e2 c0 (by omega)).trans (qb_set hq1))
  have HQR2 : Hid (QB W2 (c0 + 1) (.slice none 0 0) false) := Lib.hid ((e2 _ (by omega)).trans (qb_far (qb_far hqr1 (by omega) _) (by omega) _))
  have HX2 : Hid (BoxAt W2 (c0 + 1 + 1) 0 0 0 ⟨#[]⟩ none 0 0) := Lib.hid ((e2 _ (by omega)).trans (Vt.box_far (Vt.box_far hx1 (by omega) _) (by omega) _))
  have HV2 : Hid (BoxAt W2 b1 0 0 0 ⟨#[]⟩ none 0 0) := Lib.hid (by rw [hW2, ← hzs]; exact BoxAt.new ..)
  have hz2 : W2.heap.size = b1 + 1 := by rw [hW2, World.size_alloc, hzs]
  have HP2 := Lib.hid (hp1.below hb12 hB)
  have HB2 := Lib.hid (HB0.out.trans ((hbl.mono (by omega)).trans hb12))
  obtain ⟨a0, a1, af0, af1⟩ := hq1.cells
  have hlt3 : c0 + 1 + 1 < b1 := by omega
  clear hs2 hzs hb12 e2 hp1 hqr1 hx1 hbl hzw hq1
  replace hW2 := Lib.hid hW2
  have HB1 := Lib.hid hb1
  go_upto_region 3 with fail
  rw [← hW2.out, ← HB1.out]
  clear a0 a1 af0 af1 hst1 hb1
  have hst := HP2.out.store
  obtain rfl : bad1 = false := HQQ.out.1
  have k1 : decide ((k : Int) > 4) = false := decide_eq_false (by have := HQQ.out.2; omega)
  have k2 : decide ((4 : Int) < (k : Int)) = false := decide_eq_false (by have := HQQ.out.2; omega)
  have k3 : decide (4 < k) = false := decide_eq_false (by have := HQQ.out.2; omega)
  have hwk : IntKind.i64.wrap (k : Int) = (k : Int) := by have := HQQ.out.2; rw [IntKind.wrap_i64]; omega
  have e1 : ((k : Int) == 1) = false := beq_eq_false_iff_ne.2 (by have := HQQ.out.2; omega)
  have e2 : ((k : Int) == 2) = true := beq_iff_eq.2 (by have := HQQ.out.2; omega)
  have e3 : ((k : Int) == 3) = false := beq_eq_false_iff_ne.2 (by have := HQQ.out.2; omega)
  have e4 : ((k : Int) == 4) = false := beq_eq_false_iff_ne.2 (by have := HQQ.out.2; omega)
  have HK0 : Hid ((k : Int) = 2) := Lib.hid (by have := HQQ.out.2; omega)
  obtain ⟨W3, hW3⟩ : ∃ W3, W3 = W2.setCell ⟨b1, 0, none⟩ (.int .i64 (k : Int)) := ⟨_, rfl⟩
  have hs3 : Below c0 W2 W3 := by rw [hW3]; exact below_set2 (Below.refl _ _) (by omega) _ _
  have HQ3 : Hid (QB W3 c0 v1 false) := Lib.hid (by rw [hW3]; exact qb_far HQ2.out (by omega) _)
  have HQR3 : Hid (QB W3 (c0 + 1) (.slice none 0 0) false) := Lib.hid (by rw [hW3]; exact qb_far HQR2.out (by omega) _)
  have HX3 : Hid (BoxAt W3 (c0 + 1 + 1) 0 0 0 ⟨#[]⟩ none 0 0) := Lib.hid (by rw [hW3]; exact Vt.box_far HX2.out (by omega) _)
  have HV3 : Hid (BoxAt W3 b1 k 0 0 ⟨#[]⟩ none 0 0) := Lib.hid (by rw [hW3]; exact box_set0 HV2.out _)
  have hz3 : W3.heap.size = b1 + 1 := by rw [hW3]; simpa [World.setCell] using hz2
  have HP3 := Lib.hid (HP2.out.below hs3 hB)
  have HB3 := Lib.hid (HB2.out.trans hs3)
  clear hs3
  obtain ⟨a0, a1, af0, af1⟩ := HQ2.out.cells
  obtain ⟨d0, d1, d2, d3, d4⟩ := HV2.out.cells
  have m0 := Vt.box_free HV2.out 0
  have m1 := Vt.box_free HV2.out 1
  have m2 := Vt.box_free HV2.out 2
  have m3 := Vt.box_free HV2.out 3
  have m4 := Vt.box_free HV2.out 4
  have hz2x := hz2
  clear hz2x
  replace hW3 := Lib.hid hW3
  go_upto_region 6 with fail
  rw [← hW3.out]
  clear a0 a1 af0 af1 d0 d1 d2 d3 d4 m0 m1 m2 m3 m4 hst k1 k2 k3 hz2
  have hst := HP3.out.store
  obtain ⟨a0, a1, af0, af1⟩ := HQ3.out.cells
  go_wp2_with fail
  refine (HI.out W3 _ (by omega) ⟨⟨v1, rfl, HP3.out.1, HP3.out.2.1⟩, HP3.out.2.2⟩).mono ?_
  rintro e w4 ⟨y, v2, rfl, ⟨⟨v4, rfl, hv4, hf4⟩, hb4, hl4⟩, hv2, hf2, hbl4⟩
  simp only at hv4 hf4 hb4 hl4
  have hp4 : RP w4 B v4 l4 := ⟨hv4, hf4, hb4, hl4⟩
  have hst4w := hp4.store
  have hz4w := hbl4.size
  have hq4 := HQ3.out.later hbl4 (by omega)
  have hqr4 := HQR3.out.later hbl4 (by omega)
  have hx4 := HX3.out.later hbl4 (by omega)
  have hv4b := HV3.out.later hbl4 (by omega)
  have hbw4 := HB3.out.trans (hbl4.mono (by omega))
  clear hv4 hf4 hb4 hl4 a0 a1 af0 af1 hst
  obtain ⟨a0, a1, af0, af1⟩ := hq4.cells
  obtain ⟨b2, hb2⟩ : ∃ b2, b2 = w4.heap.size := ⟨_, rfl⟩
  obtain ⟨Wa, hWa⟩ : ∃ Wa, Wa = ((w4.setCell ⟨c0, 0, none⟩ v4).setCell ⟨c0, 1, none⟩ (.bool bad4)).alloc (.cells #[v4, .bool bad4] 52) := ⟨_, rfl⟩
  have hzs : ((w4.setCell ⟨c0, 0, none⟩ v4).setCell ⟨c0, 1, none⟩ (.bool bad4)).heap.size = b2 := by rw [hb2]; simp [World.setCell]
  have ea : ∀ b, b < b2 → b ≠ c0 → Wa.heap[b]? = w4.heap[b]? := fun b hb hne => by
    rw [hWa]
    exact (heap_alloc_old _ _ (by rw [hzs]; exact hb)).trans ((Below.heap_setCell _ ⟨c0, 1, none⟩ _ b (by simpa using hne)).trans (Below.heap_setCell _ ⟨c0, 0, none⟩ _ b (by simpa using hne)))
  have hza : Wa.heap.size = b2 + 1 := by rw [hWa, World.size_alloc, hzs]
  have hsa : Below c0 w4 Wa := by rw [hWa]; exact (below_set2 (below_set2 (Below.refl _ _) (Nat.le_refl _) _ _) (Nat.le_refl _) _ _).alloc (by omega) _
  have HQa : Hid (QB Wa c0 v4 bad4) := Lib.hid (by rw [hWa]; exact (heap_alloc_old _ _ (by omega)).trans (qb_set hq4))
  have HQRa : Hid (QB Wa (c0 + 1) (.slice none 0 0) false) := Lib.hid ((ea _ (by omega) (by omega)).trans hqr4)
  have HXa : Hid (BoxAt Wa (c0 + 1 + 1) 0 0 0 ⟨#[]⟩ none 0 0) := Lib.hid ((ea _ (by omega) (by omega)).trans hx4)
  have HVa : Hid (BoxAt Wa b1 k 0 0 ⟨#[]⟩ none 0 0) := Lib.hid ((ea _ (by omega) (by omega)).trans hv4b)
  have HPa := Lib.hid (hp4.below hsa hB)
  have HBa := Lib.hid (hbw4.trans hsa)
  have h2a : BRd Wa v2 l2 := brd_keep hv2 hsa.size fun q hq => hsa.block q (by have := hf2 q hq; omega)
  have H2a := Lib.hid h2a
  have hnb1 : ¬ (b2 = c0) := by omega
  have hnb2 : ¬ (c0 = b2) := by omega
  have hltc : c0 < w4.heap.size := by omega
  clear hv2 hf2 hp4 hqr4 hx4 hv4b hbw4 hbl4 ea hsa h2a hq4 hzs
  replace hWa := Lib.hid hWa
  have HB2x := Lib.hid hb2
  clear hb2 hnb1 hnb2
  go_upto_region 13 with fail
  rw [← hWa.out]
  clear a0 a1 af0 af1 hst4w hltc
  obtain ⟨A, cap, hv2f⟩ := H2a.out.form
  subst hv2f
  go_wp2_with fail
  go_loopw [12, 13] (fun bv iv wr => ∃ (j : Nat), j ≤ l2.length ∧ bv = .int .u64 (beN (l2.take j) : Nat) ∧ iv = .int .i64 j ∧ wr = Wa) (fun _ i _ => l2.length - (intOf i).toNat)
  case atStart => exact ⟨0, by omega, by simp [beN], rfl, rfl⟩
  case round =>
    obtain ⟨j, hj, rfl, rfl, rfl⟩ := hrel
    by_cases hlt : j < l2.length
    · rcases H2a.out with ⟨h1, h2⟩ | ⟨b, off, cap2, h1, h2, h3, h4, h5⟩
      · rw [h2] at hlt; exact absurd hlt (by simp)
      · injection h1 with h1 _ h1c
        subst h1 h1c
        have c1 := h5 j hlt
        have hBB : beN (l2.take j) < 72057594037927936 := Nat.lt_of_lt_of_le (beN_lt l2 HBL.out j hj) (pow256 j (by omega))
        obtain ⟨c, hc⟩ : ∃ c, c = l2[j] := ⟨_, rfl⟩
        have hcb : c < 256 := by rw [hc]; exact HBL.out _ (List.getElem_mem _)
        rw [← hc] at c1
        have HST : Hid (beN (l2.take (j + 1)) = beN (l2.take j) * 256 + c) := Lib.hid (by rw [hc]; exact beN_take l2 j hlt)
        clear h5 hc
        generalize beN (l2.take j) = BB at *
        have hmu : IntKind.u64.wrap ((BB : Int) * 256) = (BB : Int) * 256 := by rw [IntKind.wrap_u64]; omega
        have had : IntKind.u64.wrap ((BB : Int) * 256 + (c : Int)) = (BB : Int) * 256 + (c : Int) := by rw [IntKind.wrap_u64]; omega
        go_wp2_with fail
        go_roundw
        case rel => exact ⟨j + 1, by omega, by rw [HST.out]; push_cast; rfl, by go_num, by simp⟩
        case measure => simp [intOf]; omega
    · have hj2 : j = l2.length := by omega
      subst hj2
      rw [List.take_length]
      have hBl : beN l2 < 18446744073709551616 := by have := beN_lt l2 HBL.out l2.length (Nat.le_refl _); rw [List.take_length] at this; exact Nat.lt_of_lt_of_le this (pow2568 _ hl8)
      have HOFL : Hid (ofW (beN l2) < 18446744073709551616) := Lib.hid (by unfold ofW; split <;> omega)
      generalize beN l2 = BB at *
      go_wp2_with fail
      refine (_root_.Go.Proofs.YtcbddebmmaflgaaGreat.Nm.rof_any BB hBl wr).mono ?_
      rintro e w5 ⟨rfl, rfl⟩
      generalize ofW BB = vf at *
      obtain ⟨W4, hW4⟩ : ∃ W4, W4 = wr.setCell ⟨b1, 2, none⟩ (.float .f64 vf) := ⟨_, rfl⟩
      have hs4 : Below c0 wr W4 := by rw [hW4]; exact below_set2 (Below.refl _ _) (by omega) _ _
      have HQ4 : Hid (QB W4 c0 v4 bad4) := Lib.hid (by rw [hW4]; exact qb_far HQa.out (by omega) _)
      have HQR4 : Hid (QB W4 (c0 + 1) (.slice none 0 0) false) := Lib.hid (by rw [hW4]; exact qb_far HQRa.out (by omega) _)
      have HX4 : Hid (BoxAt W4 (c0 + 1 + 1) 0 0 0 ⟨#[]⟩ none 0 0) := Lib.hid (by rw [hW4]; exact Vt.box_far HXa.out (by omega) _)
      have HV4 : Hid (BoxAt W4 b1 k 0 vf ⟨#[]⟩ none 0 0) := Lib.hid (by rw [hW4]; exact box_set2 HVa.out _)
      have HP4 := Lib.hid (HPa.out.below hs4 hB)
      have HB4 := Lib.hid (HBa.out.trans hs4)
      obtain ⟨d0, d1, d2, d3, d4⟩ := HVa.out.cells
      have m0 := Vt.box_free HVa.out 0
      have m1 := Vt.box_free HVa.out 1
      have m2 := Vt.box_free HVa.out 2
      have m3 := Vt.box_free HVa.out 3
      have m4 := Vt.box_free HVa.out 4
      have hltb : b1 < wr.heap.size := HVa.out.lt
      clear hs4
      replace hW4 := Lib.hid hW4
      go_upto_region 36 with fail
      rw [← hW4.out]
      clear d0 d1 d2 d3 d4 m0 m1 m2 m3 m4 hltb
      cases hok : okW BB with
      | false =>
        obtain ⟨a0, a1, af0, af1⟩ := HQ4.out.cells
        obtain ⟨q0, q1, qf0, qf1⟩ := HQR4.out.cells
        obtain ⟨r0, r1, r2, r3, r4⟩ := HX4.out.cells
        have f0 := Vt.box_free HX4.out 0
        have f1 := Vt.box_free HX4.out 1
        have f2 := Vt.box_free HX4.out 2
        have f3 := Vt.box_free HX4.out 3
        have f4 := Vt.box_free HX4.out 4
        obtain ⟨d0, d1, d2, d3, d4⟩ := HV4.out.cells
        have m0 := Vt.box_free HV4.out 0
        have m1 := Vt.box_free HV4.out 1
        have m2 := Vt.box_free HV4.out 2
        have m3 := Vt.box_free HV4.out 3
        have m4 := Vt.box_free HV4.out 4
        have hne1 : ¬ (b1 = c0) := by omega
        have hne2 : ¬ (b1 = c0 + 1) := by omega
        have hne3 : ¬ (b1 = c0 + 1 + 1) := by omega
        have hne4 : ¬ (c0 = b1) := by omega
        have hne5 : ¬ (c0 + 1 = b1) := by omega
        have hne6 : ¬ (c0 + 1 + 1 = b1) := by omega
        have hlt4 : b1 < W4.heap.size := HV4.out.lt
        have hst4 := HP4.out.store
        have HN : pv left (l, bad) = none := by rw [HP.out, if_pos (.inr hok)]
        cases bad4 with
        | true =>
          go_wp2_with fail
          refine bodyPost_ret (v := .tuple #[.agg #[v4, .bool true], .agg #[.int .i64 0, .int .i64 0, .float .f64 0, .string ⟨#[]⟩, .slice none 0 0], .bool false]) (by simp [results, Tryz.results71, go_sem, q0, q1, r0, r1, r2, r3, r4]) rfl ?_
          exact rread_no (s' := (l4, true)) HN (HP4.out.below (C := c0) (fin7 (Below.refl _ _) (Nat.le_succ _) _ _ _ _ _ _ _) hB) (by rw [← HC0.out]; exact fin7 HB4.out (Nat.le_succ _) _ _ _ _ _ _ _)
        | false =>
          go_wp2_with fail
          refine bodyPost_ret (v := .tuple #[.agg #[v4, .bool false], .agg #[.int .i64 0, .int .i64 0, .float .f64 0, .string ⟨#[]⟩, .slice none 0 0], .bool false]) (by simp [results, Tryz.results71, go_sem, q0, q1, r0, r1, r2, r3, r4]) rfl ?_
          exact rread_no (s' := (l4, false)) HN (HP4.out.below (C := c0) (fin7 (Below.refl _ _) (Nat.le_succ _) _ _ _ _ _ _ _) hB) (by rw [← HC0.out]; exact fin7 HB4.out (Nat.le_succ _) _ _ _ _ _ _ _)
      | true =>
        replace HP : Hid (pv left (l, bad) = if bad4 = true then none else some ((l4, bad4), .mk 2 0 vf ⟨#[]⟩ [])) := Lib.hid (by
          rw [HP.out]; cases bad4 <;> simp [hok])
        obtain ⟨a0, a1, af0, af1⟩ := HQ4.out.cells
        obtain ⟨q0, q1, qf0, qf1⟩ := HQR4.out.cells
        obtain ⟨r0, r1, r2, r3, r4⟩ := HX4.out.cells
        have f0 := Vt.box_free HX4.out 0
        have f1 := Vt.box_free HX4.out 1
        have f2 := Vt.box_free HX4.out 2
        have f3 := Vt.box_free HX4.out 3
        have f4 := Vt.box_free HX4.out 4
        obtain ⟨d0, d1, d2, d3, d4⟩ := HV4.out.cells
        have m0 := Vt.box_free HV4.out 0
        have m1 := Vt.box_free HV4.out 1
        have m2 := Vt.box_free HV4.out 2
        have m3 := Vt.box_free HV4.out 3
        have m4 := Vt.box_free HV4.out 4
        have hne1 : ¬ (b1 = c0) := by omega
        have hne2 : ¬ (b1 = c0 + 1) := by omega
        have hne3 : ¬ (b1 = c0 + 1 + 1) := by omega
        have hne4 : ¬ (c0 = b1) := by omega
        have hne5 : ¬ (c0 + 1 = b1) := by omega
        have hne6 : ¬ (c0 + 1 + 1 = b1) := by omega
        have hlt4 : b1 < W4.heap.size := HV4.out.lt
        have hst4 := HP4.out.store
        cases bad4 with
        | true =>
          have HN : pv (left) (l, bad) = none := by rw [HP.out]; rfl
          go_wp2_with fail
          refine bodyPost_ret (v := .tuple #[.agg #[v4, .bool true], .agg #[.int .i64 0, .int .i64 0, .float .f64 0, .string ⟨#[]⟩, .slice none 0 0], .bool false]) (by simp [results, Tryz.results71, go_sem, q0, q1, r0, r1, r2, r3, r4]) rfl ?_
          exact rread_no (s' := (l4, true)) HN (HP4.out.below (C := c0) (fin7 (Below.refl _ _) (Nat.le_succ _) _ _ _ _ _ _ _) hB) (by rw [← HC0.out]; exact fin7 HB4.out (Nat.le_succ _) _ _ _ _ _ _ _)
        | false =>
          have HY : pv (left) (l, bad) = some ((l4, false), .mk 2 0 vf ⟨#[]⟩ []) := by rw [HP.out]; rfl
          go_wp2_with fail
          go_region
          go_wp2_with fail
          refine bodyPost_ret (v := .tuple #[.agg #[v4, .bool false], .agg #[.int .i64 (k : Int), .int .i64 0, .float .f64 vf, .string ⟨#[]⟩, .slice none 0 0], .bool true]) (by simp [results, Tryz.results71, go_sem, q0, q1, r0, r1, r2, r3, r4]) rfl ?_
          exact rread_yes (s' := (l4, false)) HY (HP4.out.below (C := c0) (below_drew (fin7 (Below.refl _ _) (Nat.le_succ _) _ _ _ _ _ _ _)) hB) (by rw [HK0.out]; exact rep_leaf ⟨by decide, by decide, by decide, by decide, HOFL.out, by decide, by decide⟩) (by rw [← HC0.out]; exact below_drew (fin7 HB4.out (Nat.le_succ _) _ _ _ _ _ _ _))

end Rd
end Go.Proofs.YtcbddebmmaflgaaGreat
