/- The law's build: an index with all batches that fit, and one of the reference. -/
import Derived.Test.YtaahfiopdoinkaaGreatTfax
import Derived.Test.YtaahfiopdoinkaaGreatTfag
import Derived.Test.YtaahfiopdoinkaaGreatTfao
import Derived.Test.YtaahfiopdoinkaaGreatTfan
import Derived.Test.YtaahfiopdoinkaaGreatRows
set_option maxRecDepth 100000
set_option maxHeartbeats 4000000
variable {p : Prop}
set_option linter.unusedVariables false
set_option linter.unusedSimpArgs false
open Go.RowKit
namespace Go.Proofs.YtaahfiopdoinkaaGreat
namespace Ta
open _root_.Go.Proofs.YtaahfiopdoinkaaGreat.Nm (Dn Dd)
open Vt (VT Rep Da)
open Ev (EV Dk Db Di)
open Cm (rowOf EvsIn)
open Cn (BT BB BtsIn Dw PF GH UP)
open Hi
attribute [local go_sem] Oper.semAt_some
variable {E Z : Nat → Prop} {w w' w0 : World} {xb : Nat} {x : XM}
def E2 (a b c : Nat) : Prop := c = a ∨ c = b
structure LT (w0 : World) (g g3 : Nat) (w : World) (xb : Nat) (x : XM) : Prop where
 ne : g ≠ g3
 ex : ∃ Z uA uF, XAt (E2 g g3) w xb Z x ∧ (∀ c, Z c → w0.heap.size ≤ c) ∧ Below w0.heap.size w0 w ∧ IBox w g uA uF ∧ RIx (Dp Z w) x uA uF ∧ IBox w g3 (.slice none 0 0) (.slice none 0 0)
theorem LT.later {g g3 : Nat} (k : LT w0 g g3 w xb x) (hb : Below w.heap.size w w') : LT w0 g g3 w' xb x := by
 obtain ⟨hne, Z, uA, uF, h1, h2, h3, h4, h5, h6⟩ := k
 exact ⟨hne, Z, uA, uF, h1.later hb, h2, h3.trans (hb.mono h3.size), h4.later hb h4.lt, h5.leads (Dr _ hb), h6.later hb h6.lt⟩
theorem Kd (bl : List BT) (B : Option Addr) (bc : Nat) (w0 : World) (hB : BtsIn w0 B bc bl) (hlen : ∀ b ∈ bl, b.es.length ≤ 2097152) :
  Calls Tryz.prog 8 #[.slice B bl.length bc] w0 fun r w' => Below w0.heap.size w0 w' ∧ ((∃ xb, r = .returned (.tuple #[.pointer (some ⟨xb, 0, none⟩), .agg #[.slice none 0 0, .slice none 0 0], .bool false])) ∨
   (UP bl ∧ ∃ xb g g3 Z uA uF, r = .returned (.tuple #[.pointer (some ⟨xb, 0, none⟩), .agg #[uA, uF], .bool true]) ∧ XAt (E2 g g3) w' xb Z (Gp bl) ∧ (∀ c, Z c → w0.heap.size ≤ c) ∧ RIx (Dp Z w') (Gp bl) uA uF)) := by
 have hle := hB.le; have hbc := hB.cap_le
 simp only [maxLen] at hbc
 have HBT := U hB; have HLEN := U hlen
 clear hB hlen
 obtain ⟨m, hm⟩ := Kt (bl.length)
 rw [← hm] at hle ⊢
 have HMM := U hm; clear hm
 obtain ⟨W0, hW0⟩ := Kt (w0.alloc (.cells #[.slice none 0 0, .slice none 0 0] 27))
 obtain ⟨g3, hg3⟩ : ∃ g, g = w0.heap.size := ⟨_, rfl⟩
 have hb0 : Below w0.heap.size w0 W0 := by rw [hW0]; exact Ks
 have hx0 : IBox W0 g3 (.slice none 0 0) (.slice none 0 0) := by rw [hW0, hg3]; exact IBox.new ..
 have HB0 := U hb0; have HX0 := U hx0; have HG3 := U hg3
 have HNW := U (Sa W0 (fun c => c = g3) (fun c e => by have e : c = g3 := e; rw [e]; exact hx0.lt))
 clear hb0 hx0
 replace hW0 := U hW0; replace hg3 := U hg3
 go_enter Tryz.func8, Tryz.ntmps8
 go_upto_region 1 with fail
 rw [← hW0.out, ← hg3.out]
 go_wp2_with fail
 refine HNW.out.mono ?_
 rintro r w1 ⟨xb, Z0, rfl, hb1, H1, hZ1⟩
 obtain ⟨W2, hW2⟩ := Kt (w1.alloc (.cells #[.slice none 0 0, .slice none 0 0] 27))
 obtain ⟨g4, hg4⟩ : ∃ g, g = w1.heap.size := ⟨_, rfl⟩
 have hb12 : Below w1.heap.size w1 W2 := by rw [hW2]; exact Ks
 have hb2 : Below w0.heap.size w0 W2 := HB0.out.trans ((hb1.trans (hb12.mono hb1.size)).mono HB0.out.size)
 have hx4 : IBox W2 g4 (.slice none 0 0) (.slice none 0 0) := by rw [hW2, hg4]; exact IBox.new ..
 have hx3 : IBox W2 g3 (.slice none 0 0) (.slice none 0 0) := HX0.out.later (hb1.trans (hb12.mono hb1.size)) HX0.out.lt
 have hne : g4 ≠ g3 := by have := HX0.out.lt; have := hb1.size; omega
 have HL0 : Hid (LT w0 g4 g3 W2 xb (Gp (bl.take 0))) := U (by
  obtain ⟨Z', H', h'⟩ := H1.step (E' := E2 g4 g3) hb12 (fun c q => by
   rcases q with q | q
   ·exact .inr (by omega)
   ·exact .inl q) (fun c q => by
   rcases q with q | q
   ·rw [q]; exact hx4.lt
   ·rw [q]; exact hx3.lt)
  rw [List.take_zero]
  refine ⟨hne, Z', _, _, H', fun c q => ?_, hb2, hx4, rix_new _, hx3⟩
  rcases h' c q with e | e
  ·rcases hZ1 c e with e | e
   ·have e : c = g3 := e; rw [e, HG3.out]; exact Nat.le_refl _
   ·exact Nat.le_trans HB0.out.size e
  ·have := hb1.size; have := HB0.out.size; omega)
 have HFC := U (show Calls _ _ _ _ _ from by have q := PF bl B bc W2 (HBT.out.later hb2); rw [← HMM.out] at q; exact q)
 have HB2 := U hb2; have HX4 := U hx4; have HX3 := U hx3; have HNE := U hne
 clear hb1 hb12 hb2 H1 hZ1 hx4 hx3 hne
 replace hW2 := U hW2; replace hg4 := U hg4
 go_upto_region 3 with fail
 rw [← hW2.out, ← hg4.out]
 go_wp2_with fail
 refine HFC.out.mono ?_
 rintro r w3 ⟨bb, rfl, hfew, hb3⟩
 have HB3 := U (HB2.out.trans (hb3.mono HB2.out.size)); have HFEW := U hfew
 have HB23 := U hb3
 clear hb3 hfew HFC
 cases bb with
 | false =>
  obtain ⟨q0, q1, qf⟩ := (HX4.out.later HB23.out HX4.out.lt).cells
  have hx3 := HX3.out.later HB23.out HX3.out.lt
  obtain ⟨y0, y1, yf⟩ := hx3.cells
  have yf0 := yf 0; have yf1 := yf 1
  obtain ⟨W5, hW5⟩ := Kt (((w3.setCell ⟨g3, 0, none⟩ (.slice none 0 0)).setCell ⟨g3, 1, none⟩ (.slice none 0 0)).drew)
  have HX5 : Hid (IBox W5 g3 (.slice none 0 0) (.slice none 0 0)) := U (by rw [hW5]; exact IBox.set2 (w := w3) hx3)
  have HB5 : Hid (Below w0.heap.size w0 W5) := U (by
   rw [hW5]
   exact Da (HB3.out.trans ((Sp (w := w3) (g := g3) _ _).below HB3.out.size fun c e => by have e : c = g3 := e; rw [e, hg3.out]; exact Nat.le_refl _)))
  replace hW5 := U hW5
  clear qf yf hx3
  go_wp2_with fail
  go_region
  go_wp2_with fail
  rw [← hW5.out]
  (try simp only [Exit.inBlock, Exit.then])
  refine bodyPost_ret (v := .tuple #[.pointer (some ⟨xb, 0, none⟩), .agg #[.slice none 0 0, .slice none 0 0], .bool false]) ?_ rfl ⟨HB5.out, .inl ⟨_, rfl⟩⟩
  obtain ⟨z0, z1, -⟩ := HX5.out.cells
  simp [results, Tryz.results8, go_sem, z0, z1]
 | true =>
  have HLI := U (XJ (HFEW.out rfl) fun b hb => by have := HLEN.out b hb; omega)
  have HFO := U (JS (HFEW.out rfl) HLEN.out)
  have HFB : Hid (UP bl) := U (HFEW.out rfl)
  have HL3 := U (HL0.out.later HB23.out)
  clear HL0 HB2 HB3 HB23 HFEW HX4 HX3 HX0
  go_wp2_with fail
  go_loopw [18] (fun i wz => ∃ j : Nat, j ≤ m ∧ i = .int .i64 j ∧ LT w0 g4 g3 wz xb (Gp (bl.take j))) (fun i _ => m - (intOf i).toNat)
  case atStart => exact ⟨0, by omega, rfl, HL3.out⟩
  case round =>
   obtain ⟨j, hj, rfl, hlx⟩ := hrel
   clear HL3
   by_cases hjm : j < m
   rotate_left
   ·have hj' : j = m := by omega
    subst hj'
    rw [show bl.take j = bl by rw [HMM.out]; exact List.take_length] at hlx
    obtain ⟨hne, Z, uA, uF, HX5, hZ5, hbw5, hbox5, hri5, hx35⟩ := hlx
    obtain ⟨⟨AA, cA, rfl, -, -⟩, AF, cF, rfl, -, -⟩ := hri5.slices
    obtain ⟨x0, x1, -⟩ := hbox5.cells
    obtain ⟨y0, y1, yf⟩ := hx35.cells
    have yf0 := yf 0; have yf1 := yf 1
    obtain ⟨x, hx⟩ := Kt (Gp bl)
    rw [← hx] at HX5 hri5
    rw [← hx] at x0 x1
    obtain ⟨nA, hnA⟩ : ∃ n, n = x.all.length := ⟨_, rfl⟩
    obtain ⟨nF, hnF⟩ : ∃ n, n = x.flows.length := ⟨_, rfl⟩
    rw [← hnA, ← hnF] at hri5
    rw [← hnA] at x0
    rw [← hnF] at x1
    obtain ⟨W5, hW5⟩ := Kt (((wr.setCell ⟨g3, 0, none⟩ (.slice AA nA cA)).setCell ⟨g3, 1, none⟩ (.slice AF nF cF)).drew)
    have hc5 : Chg (fun c => c = g3) wr W5 := by rw [hW5]; exact (Sp _ _).trans (Chg.of_below (Da (Below.refl _ _)))
    have HX6 : Hid (IBox W5 g3 (.slice AA nA cA) (.slice AF nF cF)) := U (by rw [hW5]; exact IBox.set2 (w := wr) hx35)
    have HB6 : Hid (Below w0.heap.size w0 W5) := U (by
     have h := hbw5
     exact h.trans (hc5.below h.size fun c e => by have e : c = g3 := e; rw [e, hg3.out]; exact Nat.le_refl _))
    have HXD := HX5.chg (hc5.mono fun c e => .inr e)
    have HAT := U HXD
    have HRI : Hid (RIx (Dp Z W5) x (.slice AA nA cA) (.slice AF nF cF)) := U (by
     have hz : Chg Z wr W5 := hc5.mono fun c e => HXD.ez (.inr e)
     exact hri5.leads hz.leads)
    have HZ5 := U hZ5
    have HXX := U hx
    replace hW5 := U hW5
    clear yf hne HX5 hZ5 hbw5 hbox5 hri5 hx35 hc5 HXD hx hnA hnF
    go_wp2_with fail
    go_region
    go_wp2_with fail
    rw [← hW5.out]
    (try simp only [Exit.inBlock, Exit.then])
    refine bodyPost_ret (v := .tuple #[.pointer (some ⟨xb, 0, none⟩), .agg #[.slice AA nA cA, .slice AF nF cF], .bool true]) ?_ rfl ⟨HB6.out, .inr ⟨HFB.out, xb, g4, g3, Z, _, _, rfl, by rw [← HXX.out]; exact HAT.out, HZ5.out, by rw [← HXX.out]; exact HRI.out⟩⟩
    obtain ⟨z0, z1, -⟩ := HX6.out.cells
    simp [results, Tryz.results8, go_sem, z0, z1]
   have hjl : j < bl.length := by have := HMM.out; omega
   obtain ⟨hne, Z, uA, uF, HX0, hZ, hbw, hbox, hri, hx3⟩ := hlx
   have hbts := lx_bts HBT.out hbw hZ
   obtain ⟨⟨AA, cA, rfl, -, -⟩, AF, cF, rfl, -, -⟩ := hri.slices
   obtain ⟨b0, off, rfl, hblt, h3⟩ := hbts.at_ (by omega)
   obtain ⟨A2, c2, hfl, hat, hes, d0, d1, d2⟩ := h3 j hjl
   replace d0 := (De _ _).cell d0; replace d1 := (De _ _).cell d1; replace d2 := (De _ _).cell d2
   have HNEXT : Hid (Gp (bl.take (j + 1)) = (DF (Gp (bl.take j)) bl[j]).2) := U (PD bl j hjl)
   have hgood := Gs HLI.out j (by omega)
   have htk := HLI.out.take j hjl
   have hbin := HLI.out.bin j hjl
   have hfo := HFO.out j hjl
   obtain ⟨b, hbj⟩ := Kt (bl[j])
   rw [← hbj] at hfl hat hes d0 d1 d2 HNEXT htk hbin hfo
   have hclk0 : (Gp (bl.take j)).clock < 18446744073709551616 := clkX_lt (bts_lt HBT.out) j (by omega)
   obtain ⟨x, hx⟩ := Kt (Gp (bl.take j))
   rw [← hx] at HNEXT HX0 hri hclk0 hgood
   rw [← hx] at hbox
   obtain ⟨W1, hW1⟩ := Kt (wr.alloc (.cells #[.string b.flow, .int .u64 (b.at' : Nat), .slice A2 b.es.length c2] 64))
   have hb01 : Below wr.heap.size wr W1 := by rw [hW1]; exact Ks
   obtain ⟨g8, hg8⟩ : ∃ g, g = wr.heap.size := ⟨_, rfl⟩
   have hb8 : BB W1 g8 b.flow b.at' A2 b.es.length c2 := by rw [hW1, hg8]; exact heap_alloc_new wr _
   have HX1 := HX0.later hb01
   have hes1 := EvsIn.leads hes (Dr _ hb01)
   have hri1 := hri.leads (Dr _ hb01)
   have hbox1 := hbox.later hb01 hbox.lt
   have hx31 := hx3.later hb01 hx3.lt
   have HC1 := U (Pa HX1 (T := tot (bl.take j)) (NN := j) hgood b A2 c2 hes1 hbin (by omega) (by have := HLI.out.len; omega) hfl hat hclk0 hfo)
   have HG8 : Hid (g8 < W1.heap.size ∧ ¬ Z g8) := U ⟨hb8.lt, fun q => by have := HX0.zlt q; omega⟩
   have HBW1 : Hid (Below w0.heap.size w0 W1) := U (hbw.trans (hb01.mono hbw.size))
   have HZ := U hZ; have HB8 := U hb8; have HBOX1 := U hbox1; have HX31 := U hx31; have HRI1 := U hri1; have HES1 := U hes1
   have HGOOD := U hgood; have HTK := U htk; have HBIN := U hbin; have HFL := U hfl; have HAT := U hat; have HNE := U hne
   have HEB : Hid (∀ W, W.heap[g8]? = W1.heap[g8]? → BB W g8 b.flow b.at' A2 b.es.length c2) := U fun W h => h.trans hb8
   obtain ⟨y0, y1, y2, -⟩ := hb8.cells
   clear hbts h3 hes hes1 hfl hat hri hri1 hbox hbox1 hx3 hx31 hb8 hb01 HX0 HX1 hZ hbw hblt hgood htk hbin hfo hclk0 hne
   replace hW1 := U hW1; replace hg8 := U hg8; replace hx := U hx; replace hbj := U hbj
   go_upto_region 8 with fail
   rw [← hW1.out, ← hg8.out]
   clear d0 d1 d2
   go_wp2_with fail
   refine HC1.out.mono ?_
   rintro r w2 ⟨rfl, hchg, hke, Z', HX2, hZ'⟩
   have hl := PZ hchg hZ'
   have hri2 : RIx (Dp Z' w2) x (.slice AA x.all.length cA) (.slice AF x.flows.length cF) := HRI1.out.leads hl
   have hes2 := EvsIn.leads HES1.out hl
   have h8 : w2.heap[g8]? = W1.heap[g8]? := hchg.block g8 HG8.out.1 HG8.out.2
   have hbox2 : IBox w2 g4 (.slice AA x.all.length cA) (.slice AF x.flows.length cF) := (hke g4 (.inl rfl)).trans HBOX1.out
   have hx32 : IBox w2 g3 (.slice none 0 0) (.slice none 0 0) := (hke g3 (.inr rfl)).trans HX31.out
   have HC2 := U (Jt x _ _ b A2 c2 w2 (fun c q => HX2.zlt q) hri2 (T := tot (bl.take j)) (N := j) HGOOD.out (by have := HTK.out; omega) (by have := HLI.out.len; omega) HBIN.out hes2 HFL.out HAT.out)
   have HBW2 : Hid (Below w0.heap.size w0 w2) := U (HBW1.out.trans (hchg.below HBW1.out.size HZ.out))
   have HZ2 : Hid (∀ c, Z' c → w0.heap.size ≤ c) := U fun c q => (hZ' c q).elim (HZ.out c) (fun e => Nat.le_trans HBW1.out.size e)
   have HX2' := U HX2; have HBOX2 := U hbox2; have HX32 := U hx32
   obtain ⟨q0, q1, -⟩ := hbox2.cells
   obtain ⟨y0', y1', y2', -⟩ := (HEB.out w2 h8).cells
   clear hchg hke hZ' HX2 hl hri2 hes2 h8 hbox2 hx32 HC1 y0 y1 y2
   go_wp2_with fail
   refine HC2.out.mono ?_
   rintro r w3 ⟨hb3, uA1, uF1, rfl, hr3⟩
   obtain ⟨⟨AA1, cA1, rfl, -, -⟩, AF1, cF1, rfl, -, -⟩ := hr3.slices
   rw [← HNEXT.out] at hr3 ⊢
   obtain ⟨y, hy⟩ := Kt (Gp (bl.take (j + 1)))
   rw [← hy] at hr3 ⊢
   obtain ⟨nA1, hnA1⟩ : ∃ n, n = y.all.length := ⟨_, rfl⟩
   obtain ⟨nF1, hnF1⟩ : ∃ n, n = y.flows.length := ⟨_, rfl⟩
   rw [← hnA1, ← hnF1] at hr3
   rw [← hnA1, ← hnF1]
   have hbox3 := HBOX2.out.later hb3 HBOX2.out.lt
   have hx33 := HX32.out.later hb3 HX32.out.lt
   obtain ⟨W4, hW4⟩ := Kt ((w3.setCell ⟨g4, 0, none⟩ (.slice AA1 nA1 cA1)).setCell ⟨g4, 1, none⟩ (.slice AF1 nF1 cF1))
   have hc4 : Chg (fun c => c = g4) w3 W4 := by rw [hW4]; exact Sp _ _
   have HLT : Hid (LT w0 g4 g3 W4 xb y) := U (by
    have HX4 := (HX2'.out.later hb3).chg (hc4.mono fun c e => .inl e)
    have hz : Chg Z' w3 W4 := hc4.mono fun c e => HX4.ez (.inl e)
    refine ⟨HNE.out, Z', _, _, ?_, HZ2.out, ?_, ?_, hr3.leads hz.leads, ?_⟩
    ·rw [hy, HNEXT.out]; exact HX4
    ·have h := HBW2.out.trans (hb3.mono HBW2.out.size)
     exact h.trans (hz.below h.size HZ2.out)
    ·rw [hW4]; exact hbox3.set2
    ·exact (hc4.block g3 hx33.lt fun e => HNE.out e.symm).trans hx33)
   obtain ⟨r0, r1, rf⟩ := hbox3.cells
   have rf0 := rf 0; have rf1 := rf 1
   have HY := U hy
   replace hW4 := U hW4
   clear rf hb3 hr3 hbox3 hx33 hc4 hnA1 hnF1 hy q0 q1 y0' y1' y2'
   go_upto_region 10 with fail
   rw [← hW4.out]
   go_wp2_with fail
   go_roundw
   case rel => exact ⟨j + 1, by omega, by go_num, by rw [← HY.out]; exact HLT.out⟩
   case measure => simp [intOf]; omega
open Hi (TK HM XM XGood XAt Good Dt DJ FF CIn Chg HB HAt DC FU VC Pw Px TkIn TmIn Dq TOk FX Dz GA YI tot OM Gv)
attribute [local go_sem] Oper.semAt_some
variable {E Z : Nat → Prop} {w w' : World} {xb : Nat} {x : XM}
theorem Tryz.infoRef : (Tryz.prog.info? 57).map (fun i => (i.zero, i.size, i.bytes)) = some (some (.agg #[.string ⟨#[]⟩, .int .u64 0, .int .i64 0, .int .u64 0]), 4, 40) := by kernel_rfl
theorem OI {e : TypeId} {i0 : TypeInfo} {k : Nat} (hi : Tryz.prog.info? e = some i0) (h1 : i0.size = k) : ∀ w, (Go.sizeOf e).run Tryz.prog w = .ok k w := fun w => by
 rw [run_sizeOf _ hi]; simp [Program.cellsOf, hi, h1]
theorem Fg {base n k : Nat} {T : TypeId} {u : Value} {xs : List Value} (h : w.ownsRow base T k u n xs) : ∃ A c, u = .slice A n c ∧ ∀ r, rowOf A = some r → base ≤ r := by
 rcases h.2 with ⟨rfl, h0⟩ | ⟨r, cp, cur, rfl, q2, q3⟩
 ·exact ⟨none, 0, by rw [h0], fun r h => by cases h⟩
 ·exact ⟨_, _, rfl, fun r' h => by cases h; exact q2⟩
theorem own_lt {base n k c : Nat} {T : TypeId} {A : Option Addr} {xs : List Value} (h : w.ownsRow base T k (.slice A n c) n xs) : ∀ r, rowOf A = some r → base ≤ r ∧ r < w.heap.size := by
 rcases h.2 with ⟨e, -⟩ | ⟨r, cp, cur, e, q2, q3, -⟩
 ·cases e; intro r h; cases h
 ·cases e; intro r' h; cases h; exact ⟨q2, (Array.getElem?_eq_some_iff.1 q3).1⟩
theorem JB {base n k : Nat} {T : TypeId} {v : Value} {xs : List Value} (h : w.ownsRow base T k v n xs) (hb : Below w.heap.size w w') : w'.ownsRow base T k v n xs := by
 obtain ⟨A, c, rfl, -⟩ := Fg h
 exact DC h fun r hr => hb.block r (own_lt h r hr).2
theorem own_ge {base n k : Nat} {T : TypeId} {v : Value} {xs : List Value} (h : w.ownsRow base T k v n xs) : ∀ r, v.ownBlock = some r → base ≤ r := by
 obtain ⟨A, c, rfl, -⟩ := Fg h
 intro r hr
 exact (own_lt h r (by cases A with | none => cases hr | some a => exact hr)).1
def UO (fl : List HM) (rs out : List RF) : Prop := out.length = rs.length ∧ ∀ (W : World) (A : Option Addr) (c pb nn base : Nat), PMap W pb nn fl → pb < base → base ≤ W.heap.size → W.ownsRow base 57 4 (.slice A rs.length c) rs.length (rs.flatMap rfL) →
 Calls Tryz.prog 60 #[.slice A rs.length c, .func (.func 46) #[.map (some pb)] #[]] W fun e w' => (∃ v, e = .returned v) ∧ Below base W w' ∧ CIn w' (.slice A rs.length c) rs.length 4 (out.flatMap rfL)
theorem sort_one (fl : List HM) (rs : List RF) (h : rs.length ≤ 1) : UO fl rs rs := ⟨rfl, fun W A c pb nn base _ _ hz ho => (Xo A rs.length c h _ W).mono fun e w' ⟨he, hw⟩ => by
 subst hw
 exact ⟨he, Below.refl _ _, CIn.of_own ho (rfs_one rs)⟩⟩
structure CSt (pb : Nat) (w2 : World) (nn : Nat) (fl : List HM) (W : World) (v : Value) (rs : List RF) : Prop where
 chg : Chg (fun c => c = pb) w2 W
 map : PMap W pb nn fl
 row : W.ownsRow w2.heap.size 57 4 v rs.length (rs.flatMap rfL)
section
variable {pb nn : Nat} {w2 W W' W8 : World} {fl : List HM} {v v' : Value} {rs : List RF}
theorem CSt.step (h : CSt pb w2 nn fl W v rs) (hp : pb < w2.heap.size) (hb : Below w2.heap.size W W') {rs' : List RF} (hr : W'.ownsRow w2.heap.size 57 4 v' rs'.length (rs'.flatMap rfL)) : CSt pb w2 nn fl W' v' rs' :=
 ⟨⟨hb.os.trans h.chg.os, hb.tape.trans h.chg.tape, hb.output.trans h.chg.output, Nat.le_trans h.chg.size hb.size, fun b hlt hx => (hb.block b hlt).trans (h.chg.block b hlt hx)⟩, h.map.keep (hb.block pb hp), hr⟩
theorem CSt.later (h : CSt pb w2 nn fl W v rs) (hp : pb < w2.heap.size) (hb : Below W.heap.size W W') : CSt pb w2 nn fl W' v rs := h.step hp (hb.mono h.chg.size) (JB h.row hb)
theorem CSt.append (h : CSt pb w2 nn fl W v rs) (hp : pb < w2.heap.size) (hb : Below W.heap.size W W8) {r : RF} (ho : W'.ownsRow w2.heap.size 57 4 v' (rs.length + 1) (rs.flatMap rfL ++ rfL r)) (hg : W8.grownBy W' v.ownBlock) : CSt pb w2 nn fl W' v' (rs ++ [r]) := by
 have h8 := h.later hp hb
 refine h8.step hp ((Below.refl _ W8).grown hg h8.chg.size (own_ge h8.row)) ?_
 rw [List.length_append, List.flatMap_append]
 simpa using ho
theorem CSt.turned (h : CSt pb w2 nn fl W v rs) (hp : pb < w2.heap.size) {nn' : Nat} {fl' : List HM} (hm : PMap W' pb nn' fl') (ht : W.mapTurned W' pb) : CSt pb w2 nn' fl' W' v rs := by
 obtain ⟨A, c, rfl, -⟩ := Fg h.row
 exact ⟨h.chg.trans (Chg.turned ht rfl), hm, DC h.row fun r hr => by
  obtain ⟨q1, q2⟩ := own_lt h.row r hr
  exact GA ht q2 (by omega)⟩
theorem CSt.below (h : CSt pb w2 nn fl W v rs) {w : World} (hp : w.heap.size ≤ pb) (hb : Below w.heap.size w w2) : Below w.heap.size w W := hb.trans (h.chg.below hb.size fun b e => by have e : b = pb := e; omega)
theorem CSt.names (hc : Chg (fun c => c = pb) w2 W) {A : Option Addr} {c base : Nat} (hp : pb < base) (ho : w2.ownsRow base 9 1 (.slice A fl.length c) fl.length (fl.map fun h => .string h.flow)) (i : Nat) (hi : i < fl.length) : ∃ b off, A = some ⟨b, off, none⟩ ∧ W.cell? ⟨b, off + i, none⟩ = some (.string fl[i].flow) := by
 have h1 := DC ho fun r hr => hc.block r (own_lt ho r hr).2 fun e => by have e : r = pb := e; have := (own_lt ho r hr).1; omega
 obtain ⟨-, -, A', c', e1, -, -, hrd⟩ := CIn.of_own h1 (by intro x hx; obtain ⟨s, -, rfl⟩ := List.mem_map.1 hx; rfl)
 obtain ⟨b, off, e2, -, hq⟩ := hrd (by omega)
 injection e1 with e1 _ _
 exact ⟨b, off, e1.trans e2, hq i _ (by simp [hi])⟩
end
def refK (fl : Bool) (f : ByteArray) (t : TK) : RF := ⟨f, t.id, if fl = true then t.n else t.n + 1, t.at'⟩
def FY (fl : Bool) (now : Nat) (f : ByteArray) (ts : List TK) : List RF := (ts.filter fun t => decide (t.fl = fl ∧ t.at' ≤ now)).map (refK fl f)
theorem XC (fl : Bool) (now : Nat) (f : ByteArray) (ts : List TK) (k : Nat) (hk : k < ts.length) : FY fl now f (ts.take (k + 1)) = FY fl now f (ts.take k) ++ if ts[k].fl = fl ∧ ts[k].at' ≤ now then [refK fl f ts[k]] else [] := by
 unfold FY
 rw [List.take_succ_eq_append_getElem hk, List.filter_append, List.map_append]
 congr 1
 by_cases h : ts[k].fl = fl ∧ ts[k].at' ≤ now <;> simp [h]
theorem Jz (fl : Bool) (now : Nat) (h : HM) : (refsOf fl now h).length ≤ h.s.tasks.length := by unfold refsOf; rw [List.length_map]; exact List.length_filter_le _ _
theorem refsK_le (fl : Bool) (now : Nat) (f : ByteArray) (ts : List TK) : (FY fl now f ts).length ≤ ts.length := by unfold FY; rw [List.length_map]; exact List.length_filter_le _ _
theorem YL {F : HM → List RF} {M : Nat} : ∀ {l : List HM}, (∀ h ∈ l, (F h).length ≤ M) → (l.flatMap F).length ≤ l.length * M
 | [], _ => by simp
 | a :: t, h => by
  have h1 := h a List.mem_cons_self
  have h2 := YL (l := t) fun g hg => h g (List.mem_cons_of_mem _ hg)
  rw [List.flatMap_cons, List.length_append, List.length_cons, Nat.succ_mul]; omega
theorem Ys {l : List HM} (ha : l.Pairwise fun a b => a.flow ≠ b.flow) (j : Nat) (hj : j < l.length) : Dt (l.take j) l[j].flow = none := by
 cases h : Dt (l.take j) l[j].flow with
 | none => rfl
 | some i =>
  obtain ⟨hi, h1, -⟩ := DJ h
  rw [List.length_take] at hi
  rw [List.getElem_take] at h1
  exact absurd h1 (List.pairwise_iff_getElem.1 ha i j (by omega) hj (by omega))
def KIn (w : World) (A : Option Addr) (ts : List TK) : Prop := 0 < ts.length → ∃ b off, A = some ⟨b, off, none⟩ ∧ b < w.heap.size ∧ ∀ i (h : i < ts.length), ∃ k n f s A' m c, TOk ts[i] ∧ ∀ q, q < 10 → w.cell? ⟨b, off + i * 10 + q, none⟩ = (Dq ts[i] k n f s A' m c)[q]?
def DIn (w : World) (A : Option Addr) (ts : List (Nat × Nat)) : Prop := 0 < ts.length → ∃ b, A = some ⟨b, 0, none⟩ ∧ b < w.heap.size ∧ ∀ i (h : i < ts.length), w.cell? ⟨b, i * 2, none⟩ = some (.int .u64 (ts[i].1 : Nat)) ∧ w.cell? ⟨b, i * 2 + 1, none⟩ = some (.int .u64 (ts[i].2 : Nat))
theorem GI {p : Addr} (h : w'.heap[p.block]? = w.heap[p.block]?) : w'.cell? p = w.cell? p := by unfold World.cell?; rw [h]
theorem TkIn.kin {A : Option Addr} {c : Nat} {ts : List TK} (h : TkIn w A c ts) : KIn w A ts := fun hp => by
 obtain ⟨b, off, h1, h2, h3⟩ := h.2.2 hp
 exact ⟨b, off, h1, h2, fun i hi => by
  obtain ⟨lo, hi2, k, n, f, s, A', m, c', q1, -, -, q2⟩ := h3 i hi
  exact ⟨k, n, f, s, A', m, c', q1, q2⟩⟩
theorem KIn.keep {A : Option Addr} {ts : List TK} (h : KIn w A ts) (hz : w.heap.size ≤ w'.heap.size) (hk : ∀ b, rowOf A = some b → b < w.heap.size → w'.heap[b]? = w.heap[b]?) : KIn w' A ts := fun hp => by
 obtain ⟨b, off, rfl, h2, h3⟩ := h hp
 exact ⟨b, off, rfl, by omega, fun i hi => by
  obtain ⟨k, n, f, s, A', m, c', q1, q2⟩ := h3 i hi
  exact ⟨k, n, f, s, A', m, c', q1, fun q hq => (GI (p := ⟨b, _, none⟩) (hk b rfl h2)).trans (q2 q hq)⟩⟩
theorem DIn.keep {A : Option Addr} {ts : List (Nat × Nat)} (h : DIn w A ts) (hz : w.heap.size ≤ w'.heap.size) (hk : ∀ b, rowOf A = some b → b < w.heap.size → w'.heap[b]? = w.heap[b]?) : DIn w' A ts := fun hp => by
 obtain ⟨b, rfl, h2, h3⟩ := h hp
 exact ⟨b, rfl, by omega, fun i hi => ⟨(GI (p := ⟨b, _, none⟩) (hk b rfl h2)).trans (h3 i hi).1, (GI (p := ⟨b, _, none⟩) (hk b rfl h2)).trans (h3 i hi).2⟩⟩
def Off (w3 : World) (A : Option Addr) (W : World) (v : Value) : Prop := ∀ b, rowOf A = some b → b < w3.heap.size → W.heap[b]? = w3.heap[b]? ∧ v.ownBlock ≠ some b
theorem Off.later {w3 W W' : World} {A : Option Addr} {v : Value} (h : Off w3 A W v) (hz : w3.heap.size ≤ W.heap.size) (hb : Below W.heap.size W W') : Off w3 A W' v := fun b hA hlt => ⟨(hb.block b (by omega)).trans (h b hA hlt).1, (h b hA hlt).2⟩
theorem Off.append {w3 W W' W8 : World} {A : Option Addr} {v v' : Value} (h : Off w3 A W v) (hz : w3.heap.size ≤ W.heap.size) (hb : Below W.heap.size W W8) (hg : W8.grownBy W' v.ownBlock) (hv : v'.ownBlock = v.ownBlock ∨ v'.ownBlock = some W8.heap.size) : Off w3 A W' v' := fun b hA hlt => by
 have h8 := h.later hz hb b hA hlt
 have := hb.size
 refine ⟨(hg.block b (by omega) fun e => h8.2 e.symm).trans h8.1, fun e => ?_⟩
 rcases hv with q | q
 ·exact h8.2 (q ▸ e)
 ·rw [q] at e; cases e; omega
theorem M130 (h : p := by
 go_wp2_with fail
 go_roundw
 case rel => exact ⟨k + 1, by omega, by go_num, HZ.out, HO.out, HR.out⟩
 case measure => simp [intOf]; omega) : p := h
theorem Q314.Y312 (h : p := by
 obtain ⟨W4, hW4⟩ := Kt (wr.alloc (.cells #[.int .u64 (tid : Nat), .string tnm, .int .i64 kk, .int .i64 n, .float .f64 f, .string s, .slice A' m' c', .int .i64 tn, .bool tf, .int .u64 (ta : Nat)] 36))
 have hb4 : Below wr.heap.size wr W4 := by rw [hW4]; exact Ks
 have HZ4 : Hid (W4.heap.size = wr.heap.size + 1) := U (by rw [hW4]; simp)
 have hx4 : W4.heap[wr.heap.size]? = some (.cells (Dq ⟨tid, tnm, tv, tn, tf, ta⟩ kk n f s A' m' c') 36 (0, 0)) := by rw [hW4]; exact heap_alloc_new _ _
 obtain ⟨g0, g1, g2, g3, g4, g5, g6, g7, g8, g9, -⟩ := Hi.DR hx4
 have hn0 := hok.n0; have hn1 := hok.n1
 clear hcell hok hx4
 have HB4 : Hid (Below w.heap.size w W4) := U (HBW.out.trans (hb4.mono HBW.out.size))
 have HB34 := U hb4
 have HC := U (Jj tid ta tnm kk n f s A' m' c' tn tf hn0 hn1 fb nb fl now W4 ((HB4.out.cell (p := ⟨fb, 0, none⟩) hfb).trans HHF.out) ((HB4.out.cell (p := ⟨nb, 0, none⟩) hnb).trans HHN.out) (Nat.lt_of_lt_of_le hfb HB4.out.size) (Nat.lt_of_lt_of_le hnb HB4.out.size))
 clear hn0 hn1
 clear hb4
 replace hW4 := U hW4
 go_upto_region 10 with fail
 rw [← hW4.out]
 clear e0 e1 e2 e3 e4 e5 e6 e7 e8 e9
 go_wp2_with fail
 refine HC.out.mono ?_
 rintro r w5 ⟨rfl, hb5⟩
 obtain ⟨p, hp⟩ := Kt (decide (tf = fl ∧ ta ≤ now))
 rw [← hp]
 have HP := U hp
 obtain ⟨n1, hn1⟩ := Kt ((if tf = true then tn else tn + 1))
 rw [← hn1]
 have HN1 := U hn1
 clear hn1
 obtain ⟨W6, hW6⟩ := Kt (w5.alloc (.cells #[.string ⟨#[]⟩, .int .u64 (tid : Nat), .int .i64 n1, .int .u64 (ta : Nat)] 57))
 have hb36 : Below wr.heap.size wr W6 := by rw [hW6]; exact (HB34.out.trans (hb5.mono HB34.out.size)).alloc (by have := HB34.out.size; have := hb5.size; omega) _
 have hx6 : W6.heap[w5.heap.size]? = some (.cells #[.string ⟨#[]⟩, .int .u64 (tid : Nat), .int .i64 n1, .int .u64 (ta : Nat)] 57 (0, 0)) := by rw [hW6]; exact heap_alloc_new _ _
 have HG6 : Hid (wr.heap.size < w5.heap.size) := U (by have := hb5.size; have := HZ4.out; omega)
 obtain ⟨gB, hg6⟩ : ∃ g, g = w5.heap.size := ⟨_, rfl⟩
 rw [← hg6] at hx6 HG6
 have HB36 := U hb36; have HX6 := U hx6
 clear hb5 hb36 hp HC hx6 g0 g1 g2 g3 g4 g5 g6 g7 g8 g9
 replace hW6 := U hW6
 go_upto_region 11 with fail
 rw [← hW6.out, ← hg6]
 clear hW6 hg6
 cases p with
 | false =>
  have HR : Hid (CSt w.heap.size w2 (nn + 1) (x.flows.take (j + 1)) W6 u7 ((x.flows.take j).flatMap (refsOf fl now) ++ FY fl now ff (ts.take (k + 1)))) := U (by
   rw [HSN.out, if_neg (of_decide_eq_false HP.out.symm), List.append_nil]
   exact HST2.out.later HPB.out HB36.out)
  have HO := U (HOFF.out.later HZ3.out HB36.out)
  have HZ : Hid (w3.heap.size ≤ W6.heap.size) := U (Nat.le_trans HZ3.out HB36.out.size)
  exact M130
 | true =>
  have y0 : W6.cell? ⟨gB, 0, none⟩ = some (.string ⟨#[]⟩) := by simp [World.cell?, HX6.out]
  have yf : W6.frozen? ⟨gB, 0, none⟩ = false := by simp [World.frozen?, HX6.out]
  obtain ⟨W7, hW7⟩ := Kt (W6.setCell ⟨gB, 0, none⟩ (.string ff))
  have hx7 : W7.heap[gB]? = some (.cells #[.string ff, .int .u64 (tid : Nat), .int .i64 n1, .int .u64 (ta : Nat)] 57 (0, 0)) := by rw [hW7]; simp [World.setCell, Array.getElem?_modify, HX6.out]
  have hb7 : Below wr.heap.size wr W7 := by rw [hW7]; exact HB36.out.setCell (p := ⟨gB, 0, none⟩) (Nat.le_of_lt HG6.out) _
  have z0 : W7.cell? ⟨gB, 0, none⟩ = some (.string ff) := by simp [World.cell?, hx7]
  have z1 : W7.cell? ⟨gB, 1, none⟩ = some (.int .u64 (tid : Nat)) := by simp [World.cell?, hx7]
  have z2 : W7.cell? ⟨gB, 2, none⟩ = some (.int .i64 n1) := by simp [World.cell?, hx7]
  have z3 : W7.cell? ⟨gB, 3, none⟩ = some (.int .u64 (ta : Nat)) := by simp [World.cell?, hx7]
  obtain ⟨W8, hW8⟩ := Kt (W7.alloc (.cells #[.string ff, .int .u64 (tid : Nat), .int .i64 n1, .int .u64 (ta : Nat)] 57))
  have hb8 : Below wr.heap.size wr W8 := by rw [hW8]; exact hb7.alloc hb7.size _
  have HB8 := U hb8
  have HS8 := U (HST2.out.later HPB.out hb8)
  have HI8 : Hid (CIn W8 (.slice (some ⟨W7.heap.size, 0, none⟩) 1 1) 1 4 (rfL ⟨ff, tid, n1, ta⟩)) := U (by rw [hW8]; exact CIn.new W7 57 #[.string ff, .int .u64 (tid : Nat), .int .i64 n1, .int .u64 (ta : Nat)] rfl (YD ⟨ff, tid, n1, ta⟩))
  obtain ⟨rs, hrs⟩ := Kt ((x.flows.take j).flatMap (refsOf fl now) ++ FY fl now ff (ts.take k))
  rw [← hrs] at HS8 HRS HST2
  have HSR := U hrs
  have hrl := HRS.out
  have HO8 := U HS8.out.row
  have HZ8 : Hid (w2.heap.size ≤ W8.heap.size) := U HS8.out.chg.size
  clear hx7 hb7 hb8 hrs
  replace hW7 := U hW7; replace hW8 := U hW8
  go_upto_region 13 with fail
  rw [← hW7.out]
  clear y0 yf
  go_wp2_with (at_builtin; rw [← hW8.out]; refine Dz _ rfl _ _ 48 57 rfl i0 _ 4 40 Tryz.underlying48 HSZ.out hi0 hz0 hz1 hz2 rfl (by decide) w2.heap.size _ _ rs.length 1 (rs.flatMap rfL) (rfL ⟨ff, tid, n1, ta⟩) rfl rfl HO8.out HI8.out (by simp only [maxLen]; omega) (by omega) HZ8.out ?_; intro v9 w9 hown9 hgr9 hat9)
  have HR : Hid (CSt w.heap.size w2 (nn + 1) (x.flows.take (j + 1)) w9 v9 ((x.flows.take j).flatMap (refsOf fl now) ++ FY fl now ff (ts.take (k + 1)))) := U (by
   rw [HSN.out, if_pos (of_decide_eq_true HP.out.symm), ← List.append_assoc, ← HSR.out, show refK fl ff ⟨tid, tnm, tv, tn, tf, ta⟩ = ⟨ff, tid, n1, ta⟩ from by have := (of_decide_eq_true HP.out.symm).1; unfold refK; rw [HN1.out, ← this]]
   exact HST2.out.append HPB.out HB8.out hown9 hgr9)
  have HO := U (HOFF.out.append HZ3.out HB8.out hgr9 hat9)
  have HZ : Hid (w3.heap.size ≤ w9.heap.size) := U (by have := HZ3.out; have := HB8.out.size; have := hgr9.size; omega)
  clear hown9 hgr9 hat9 z0 z1 z2 z3
  exact M130) : p := h
theorem M312 (h : p := by
 have e0 := hcell 0 (by omega); have e1 := hcell 1 (by omega); have e2 := hcell 2 (by omega); have e3 := hcell 3 (by omega); have e4 := hcell 4 (by omega); have e5 := hcell 5 (by omega); have e6 := hcell 6 (by omega); have e7 := hcell 7 (by omega); have e8 := hcell 8 (by omega); have e9 := hcell 9 (by omega)
 simp only [Dq, List.getElem?_toArray, List.getElem?_cons_zero, List.getElem?_cons_succ, Nat.add_zero] at e0 e1 e2 e3 e4 e5 e6 e7 e8 e9
 exact Y312) : p := h
theorem UK (H : XAt E w xb Z x) {T N : Nat} (hg : XGood x T N) (hT : T ≤ 1100000000000) (hN : x.flows.length ≤ 1000000) (hTN : x.flows.length * (T + 1) ≤ 1000000000000) (hfl : ∀ h ∈ x.flows, h.flow.size ≤ maxLen) (fl : Bool) (now nb : Nat) (fb : Nat) (hf : w.cell? ⟨fb, 0, none⟩ = some (.bool fl)) (hfb : fb < w.heap.size) (hn : w.cell? ⟨nb, 0, none⟩ = some (.int .u64 (now : Nat))) (hnb : nb < w.heap.size) (out : List RF) (hS : UO x.flows (x.flows.flatMap (refsOf fl now)) out) :
  Calls Tryz.prog 57 #[.pointer (some ⟨xb, 0, none⟩), .func (.func 30) #[] #[], .func (.func 58) #[] #[.pointer (some ⟨fb, 0, none⟩), .pointer (some ⟨nb, 0, none⟩)]] w fun r w' => ∃ A c, r = .returned (.slice A out.length c) ∧ Below w.heap.size w w' ∧ CIn w' (.slice A out.length c) out.length 4 (out.flatMap rfL) := by
 have hmm := @run_makeMap Tryz.prog
 obtain ⟨i0, hi0, hz0, hz1, hz2⟩ := info_parts Tryz.infoRef
 have HSZ := U (OI hi0 hz1)
 obtain ⟨W0, hW0⟩ := Kt (w.alloc (.map #[] 0))
 have hb0 : Below w.heap.size w W0 := by rw [hW0]; exact Ks
 have hz : W0.heap.size = w.heap.size + 1 := by rw [hW0]; simp
 have hp0 : PMap W0 w.heap.size 0 [] := by rw [hW0]; exact PMap.made w
 have HN := U (show Calls Tryz.prog 59 #[.pointer (some ⟨xb, 0, none⟩)] W0 fun e w' => ∃ v, e = .returned v ∧ w'.ownsRow W0.heap.size 9 1 v x.flows.length (x.flows.map fun h => .string h.flow) ∧ Below W0.heap.size W0 w' from by
  obtain ⟨mb, nm, N', cN, R, cR, ps, -, H⟩ := H.later hb0
  exact VC H hg.apart hfl hN)
 obtain ⟨m, hm⟩ := Kt (x.flows.length)
 have HM := U hm
 have hml : m ≤ 1000000 := by rw [hm]; exact hN
 have HRL : Hid (∀ j (hj : j < x.flows.length) ys, ys.length ≤ T + 1 → ((x.flows.take j).flatMap (refsOf fl now) ++ ys).length ≤ 1000000000000) := U fun j hj ys hy => by
  have h1 := YL (l := x.flows.take j) (F := (refsOf fl now)) (M := T + 1) fun h hh => by
   have g := hg.good h (List.mem_of_mem_take hh)
   refine Nat.le_trans (Jz fl now h) (Nat.le_trans (Gv g.fine) ?_)
   have := g.tot; omega
  rw [List.length_append]
  have h2 : (x.flows.take j).length * (T + 1) + (T + 1) ≤ x.flows.length * (T + 1) := by rw [← Nat.succ_mul]; exact Nat.mul_le_mul_right _ (by simp; omega)
  omega
 have HX := U H; have HG := U hg; have HFL := U hfl; have HS := U hS
 have HB0 := U hb0; have HZ0 := U hz; have HP0 := U hp0; have HHN := U hn
 have HHF := U hf
 clear H hg hfl hS hb0 hz hp0 hm hn hN hTN hf
 replace hW0 := U hW0
 go_enter Tryz.func57, Tryz.ntmps57
 go_upto_region 3 with fail
 rw [← hW0.out]
 go_wp2_with fail
 refine HN.out.mono ?_
 rintro e w2 ⟨v, rfl, hown, hb2⟩
 obtain ⟨A, c, rfl, -⟩ := Fg hown
 have HB2 : Hid (Below w.heap.size w w2) := U (HB0.out.trans (hb2.mono HB0.out.size))
 have HPB : Hid (w.heap.size < w2.heap.size) := U (by have := hb2.size; have := HZ0.out; omega)
 have HNM : Hid (∀ W, Chg (fun c => c = w.heap.size) w2 W → ∀ i (hi : i < x.flows.length), ∃ b off, A = some ⟨b, off, none⟩ ∧ W.cell? ⟨b, off + i, none⟩ = some (.string x.flows[i].flow)) := U fun W hW i hi => CSt.names hW (base := W0.heap.size) (by have := HZ0.out; omega) hown i hi
 have HC0 : Hid (CSt w.heap.size w2 0 (x.flows.take 0) w2 (.slice none 0 0) ((x.flows.take 0).flatMap (refsOf fl now))) := U ⟨Chg.refl _ _, HP0.out.keep (hb2.block _ (by have := HZ0.out; omega)), by simp only [List.take_zero, List.flatMap_nil]; exact ⟨rfl, .inl ⟨rfl, rfl⟩⟩⟩
 rw [← HM.out]
 clear hown hb2
 go_wp2_with fail
 go_loopw [7, 19] (fun u i wr => ∃ (j nn : Nat), j ≤ m ∧ nn ≤ j ∧ i = .int .i64 j ∧ CSt w.heap.size w2 nn (x.flows.take j) wr u ((x.flows.take j).flatMap (refsOf fl now))) (fun _ i _ => m - (intOf i).toNat)
 case atStart => exact ⟨0, 0, by omega, by omega, rfl, HC0.out⟩
 case round =>
  obtain ⟨j, nn, hj, hnn, rfl, hst⟩ := hrel
  have HST := U hst
  clear hst
  by_cases hlt : j < m
  ·have hjl : j < x.flows.length := by have := HM.out; omega
   obtain ⟨rN, off, rfl, n1⟩ := HNM.out wr HST.out.chg j hjl
   have hss := HFL.out _ (List.getElem_mem hjl)
   obtain ⟨W1, hrun, hmap, hturn⟩ := HST.out.map.put (by simp only [maxLen]; omega) x.flows[j] hss (Ys HG.out.apart j hjl)
   have hlen : (x.flows.take j).length = j := by simp; omega
   rw [hlen] at hrun
   rw [← List.take_succ_eq_append_getElem hjl] at hmap
   have HS1 := U (HST.out.turned HPB.out hmap hturn)
   have HH1 := U (HX.out.later (HS1.out.below (Nat.le_refl _) HB2.out))
   have HF := U (Pw HH1.out x.flows[j].flow hss)
   have hgj := HG.out.good _ (List.getElem_mem hjl)
   have HGJ := U hgj
   obtain ⟨ff, hff⟩ := Kt (x.flows[j].flow)
   have HFF := U hff
   rw [← hff] at hrun HF n1
   clear hmap hturn hss hff hlen hgj
   go_wp2_with fail
   refine HF.out.mono ?_
   rintro e w' ⟨hw', hcase⟩
   rw [hw']
   clear hw' w'
   obtain ⟨p, Y, rfl, hat⟩ : ∃ (p : HB) (Y : Nat → Prop), e = .returned (.pointer (some ⟨p.hb, 0, none⟩)) ∧ p.at_ Y W1 x.flows[j] := by
    have hfx := Ya HG.out.apart j hjl
    rcases hcase with ⟨q, -⟩ | ⟨i', h, p, Y, q1, q2, q3, q4, -⟩
    ·rw [HFF.out, hfx] at q; cases q
    ·rw [HFF.out, hfx] at q1
     cases q1
     rw [List.getElem?_eq_getElem hjl] at q2
     cases q2
     exact ⟨p, Y, q3, q4⟩
   have HK := U (Px hat (by have := HGJ.out.tot; omega) HGJ.out.slim)
   obtain ⟨ts, hts⟩ := Kt (x.flows[j].s.tasks)
   have HTS := U hts
   rw [← hts] at HK
   obtain ⟨L, hL⟩ := Kt (ts.length)
   have HL := U hL
   have HL2 : Hid (L ≤ 1200000000000) := U (by rw [hL, hts]; have := Gv HGJ.out.fine; have := HGJ.out.tot; omega)
   have HLT : Hid (ts.length ≤ T + 1) := U (by rw [hts]; have := Gv HGJ.out.fine; have := HGJ.out.tot; omega)
   have HQ := U hat.lt
   generalize p.hb = qb at *
   rw [← hL] at HK
   clear hat hcase hts hL n1 hrun HF
   go_wp2_with fail
   refine HK.out.mono ?_
   rintro e w3 ⟨A2, c2, rfl, hb3, hin, hnew⟩
   have hcp : c2 ≤ maxLen := hin.2.1
   have hcl : L ≤ c2 := by have := hin.1; have := HL.out; omega
   have HKI : Hid (KIn w3 A2 ts) := U (TkIn.kin hin.read)
   have HB3 := U hb3
   have HS3 := U (HS1.out.later HPB.out hb3)
   have HOF : Hid (Off w3 A2 w3 u7) := U fun b hA hlt => ⟨rfl, fun e => by
    have h1 := hnew b hA
    have h2 := HS1.out.row
    obtain ⟨A4, c4, rfl, -⟩ := Fg h2
    have := (own_lt h2 b (by cases A4 with | none => cases e | some a => exact e)).2
    omega⟩
   have HR0 : Hid (CSt w.heap.size w2 (nn + 1) (x.flows.take (j + 1)) w3 u7 ((x.flows.take j).flatMap (refsOf fl now) ++ FY fl now ff (ts.take 0))) := U (by rw [List.take_zero]; unfold FY; rw [List.filter_nil, List.map_nil, List.append_nil]; exact HS3.out)
   have HSZ3 : Hid (w2.heap.size ≤ w3.heap.size) := U HS3.out.chg.size
   simp only [maxLen] at hcp
   clear hb3 hin hnew
   go_wp2_with fail
   go_loopw [7, 33] (fun u2 i wr2 => ∃ k : Nat, k ≤ L ∧ i = .int .i64 k ∧ w3.heap.size ≤ wr2.heap.size ∧ Off w3 A2 wr2 u2 ∧ CSt w.heap.size w2 (nn + 1) (x.flows.take (j + 1)) wr2 u2 ((x.flows.take j).flatMap (refsOf fl now) ++ FY fl now ff (ts.take k))) (fun _ i _ => L - (intOf i).toNat)
   case atStart => exact ⟨0, by omega, rfl, Nat.le_refl _, HOF.out, HR0.out⟩
   case round =>
    obtain ⟨k, hk, rfl, hz3, hoff, hst⟩ := hrel
    have HST2 := U hst; have HOFF := U hoff; have HZ3 := U hz3
    clear hst hoff hz3
    by_cases hlk : k < L
    ·have hkl : k < ts.length := by have := HL.out; omega
     have HBW : Hid (Below w.heap.size w wr) := U (HST2.out.below (Nat.le_refl _) HB2.out)
     have HRS : Hid (((x.flows.take j).flatMap (refsOf fl now) ++ FY fl now ff (ts.take k)).length ≤ 1000000000000) := U (HRL.out j hjl _ (Nat.le_trans (refsK_le fl now _ _) (by have := HLT.out; simp; omega)))
     have HSN : Hid (FY fl now ff (ts.take (k + 1)) = FY fl now ff (ts.take k) ++ if ts[k].fl = fl ∧ ts[k].at' ≤ now then [refK fl ff ts[k]] else []) := U (XC fl now ff ts k hkl)
     obtain ⟨bb, off2, rfl, hbb, hcells⟩ := (KIn.keep HKI.out HZ3.out fun b hA hlt => (HOFF.out b hA hlt).1) (by omega)
     obtain ⟨kk, n, f, s, A', m', c', hok, hcell⟩ := hcells k hkl
     obtain ⟨t, ht⟩ := Kt (ts[k])
     rw [← ht] at hok hcell HSN
     have HT := U ht
     clear hcells ht
     obtain ⟨tid, tnm, tv, tn, tf, ta⟩ := t
     open Q314 in exact M312
    ·have hk' : L = k := by omega
     subst hk'
     have HR : Hid (CSt w.heap.size w2 (nn + 1) (x.flows.take (j + 1)) wr u7 ((x.flows.take (j + 1)).flatMap (refsOf fl now))) := U (by
      have h := HST2.out
      rw [show ts.take L = ts by rw [HL.out]; exact List.take_length, HTS.out, HFF.out] at h
      rw [show (x.flows.take (j + 1)).flatMap (refsOf fl now) = (x.flows.take j).flatMap (refsOf fl now) ++ FY fl now x.flows[j].flow x.flows[j].s.tasks by rw [List.take_succ_eq_append_getElem hjl, List.flatMap_append, List.flatMap_singleton]; rfl]
      exact h)
     go_wp2_with fail
     go_roundw
     case rel => exact ⟨j + 1, nn + 1, by omega, by omega, by go_num, HR.out⟩
     case measure => simp [intOf]; omega
  ·have hj' : m = j := by omega
   subst hj'
   rw [show x.flows.take m = x.flows by rw [HM.out]; exact List.take_length] at HST
   obtain ⟨A4, c4, rfl, -⟩ := Fg HST.out.row
   have HSC := U (HS.out.2 wr A4 c4 w.heap.size nn w2.heap.size HST.out.map HPB.out HST.out.chg.size HST.out.row)
   have HBW : Hid (Below w.heap.size w wr) := U (HST.out.below (Nat.le_refl _) HB2.out)
   rw [← HS.out.1] at HSC ⊢
   go_wp2_with fail
   refine HSC.out.mono ?_
   rintro e w6 ⟨⟨v6, rfl⟩, hb6, hin6⟩
   have HB6 : Hid (Below w.heap.size w w6) := U (HBW.out.trans (hb6.mono (Nat.le_of_lt HPB.out)))
   have HIN := U hin6
   clear hb6 hin6 HSC
   go_wp2_with fail
   go_ret
   exact ⟨A4, c4, rfl, HB6.out, HIN.out⟩
attribute [local go_sem] Oper.semAt_some
open Hi (Pp)
attribute [local go_sem] Oper.semAt_some
def YW (w : World) (out : List RF) (r : Ending) (w' : World) : Prop := ∃ A c, r = .returned (.slice A out.length c) ∧ Below w.heap.size w w' ∧ CIn w' (.slice A out.length c) out.length 4 (out.flatMap rfL)
theorem XU (H : XAt E w xb Z x) {T N : Nat} (hg : XGood x T N) (hT : T ≤ 1100000000000) (hN : x.flows.length ≤ 1000000) (hTN : x.flows.length * (T + 1) ≤ 1000000000000) (hfl : ∀ h ∈ x.flows, h.flow.size ≤ maxLen) (fl : Bool) (now : Nat) (out : List RF) (hS : UO x.flows (x.flows.flatMap (refsOf fl now)) out) :
  Calls Tryz.prog 33 #[.pointer (some ⟨xb, 0, none⟩), .bool fl, .int .u64 (now : Nat)] w (YW w out) := by
 obtain ⟨W0, hW0⟩ := Kt (w.alloc (.cells #[.bool fl] 4))
 obtain ⟨W1, hW1⟩ := Kt (W0.alloc (.cells #[.int .u64 (now : Nat)] 23))
 have hz0 : W0.heap.size = w.heap.size + 1 := by rw [hW0]; simp
 have hz1 : W1.heap.size = W0.heap.size + 1 := by rw [hW1]; simp
 have hb0 : Below w.heap.size w W0 := by rw [hW0]; exact Ks
 have hb01 : Below W0.heap.size W0 W1 := by rw [hW1]; exact Ks
 have hb1 : Below w.heap.size w W1 := hb0.trans (hb01.mono hb0.size)
 have c0 : W1.cell? ⟨w.heap.size, 0, none⟩ = some (.bool fl) := (hb01.cell (p := ⟨w.heap.size, 0, none⟩) (by show w.heap.size < _; omega)).trans (by rw [hW0]; exact (Pp (World.alloc_heap_new w _)).1)
 have c1 : W1.cell? ⟨W0.heap.size, 0, none⟩ = some (.int .u64 (now : Nat)) := by rw [hW1]; exact (Pp (World.alloc_heap_new W0 _)).1
 have HC := U (UK (H.later hb1) hg hT hN hTN hfl fl now W0.heap.size w.heap.size c0 (by omega) c1 (by omega) out hS)
 rw [hz0] at HC
 have HB1 := U hb1
 clear H hg hfl hS hN hTN hb1 hb0 hb01 hz0 hz1 c0 c1
 replace hW1 := U hW1; replace hW0 := U hW0
 go_enter Tryz.func33, Tryz.ntmps33
 go_upto_region 1 with fail
 rw [← hW0.out, ← hW1.out]
 go_wp2_with fail
 refine HC.out.mono ?_
 rintro r w2 ⟨A, c, rfl, hb2, hin⟩
 have HB2 := U (HB1.out.trans (hb2.mono HB1.out.size)); have HIN := U hin
 clear hb2 hin HC
 go_wp2_with fail
 go_ret
 exact ⟨A, c, rfl, HB2.out, HIN.out⟩
theorem JA (H : XAt E w xb Z x) {T N : Nat} (hg : XGood x T N) (hT : T ≤ 1100000000000) (hN : x.flows.length ≤ 1000000) (hTN : x.flows.length * (T + 1) ≤ 1000000000000) (hfl : ∀ h ∈ x.flows, h.flow.size ≤ maxLen) (now : Nat) (out : List RF) (hS : UO x.flows (x.flows.flatMap (refsOf false now)) out) :
  Calls Tryz.prog 14 #[.pointer (some ⟨xb, 0, none⟩), .int .u64 (now : Nat)] w (YW w out) := by
 have HC := U (XU H hg hT hN hTN hfl false now out hS)
 clear H hg hfl hS hN hTN
 go_enter Tryz.func14, Tryz.ntmps14
 go_wp2_with fail
 refine HC.out.mono ?_
 rintro r w2 ⟨A, c, rfl, hb2, hin⟩
 have HB2 := U hb2; have HIN := U hin
 clear hb2 hin HC
 go_wp2_with fail
 go_ret
 exact ⟨A, c, rfl, HB2.out, HIN.out⟩
open Ev (zeroT)
open Cn (Gl)
open Vf (FP)
open Hi (Du DF Pr GD bOk eA eB SB SA Pv UN ab_in BIn Sa Pa Sx Oz OA Dp Fo)
attribute [local go_sem] Oper.semAt_some
def bT : BT := ⟨⟨#[119]⟩, 5, [eA, eB]⟩
def hT : HM := ⟨⟨#[119]⟩, [bT], ⟨[⟨1, ⟨#[97]⟩, zeroT, 0, false, 5⟩], [], [], 2, 0⟩⟩
def rT : RF := ⟨⟨#[119]⟩, 1, 1, 5⟩
theorem bT_valid : Dw bT.flow bT.at' bT.es = true := by
 unfold Dw
 simp [bT, Cn.DG, SB, SA]
 try decide
theorem bT_addM : Du (HM.new ⟨#[119]⟩) bT = (0, hT) := by
 rw [Pr (by unfold bOk; simp [bT, SB, SA]) rfl rfl (by simp [bT, HM.at', HM.new, GD, eA])]
 rfl
theorem Ym : DF XM.new bT = (0, ⟨[hT], [bT]⟩) := by
 unfold DF
 rw [if_neg (by rw [bT_valid]; decide), if_neg (by simp [XM.clock, XM.new, Hi.Fh])]
 have e : Hi.DL XM.new bT.flow = HM.new ⟨#[119]⟩ := rfl
 rw [e, bT_addM]
 rfl
theorem bT_few : ∀ k (hk : k < bT.es.length), GH bT.es[k] = true := fun k hk => by
 rcases (by have : bT.es.length = 2 := rfl; omega : k = 0 ∨ k = 1) with rfl | rfl
 ·show GH eA = true
  unfold GH eA
  simp only [VT.few, zeroT, Vt.Fw, Vt.Pd, Vt.Dx]
  decide
 ·show GH eB = true
  unfold GH eB
  simp only [VT.few, zeroT, Vt.Fw, Vt.Pd, Vt.Dx]
  decide
theorem bT_bin : BIn bT := ⟨by decide, fun i hi => by
 rcases (by have : bT.es.length = 2 := rfl; omega : i = 0 ∨ i = 1) with rfl | rfl <;> exact Pv⟩
theorem xT_good : XGood ⟨[hT], [bT]⟩ 2 1 := by
 have h := OA Oz bT bT_bin
 rw [Ym] at h
 exact h
theorem xT_refs : (XM.mk [hT] [bT]).flows.flatMap (refsOf false 5) = [rT] := rfl
theorem Xm (w : World) : Calls Tryz.prog 9 #[] w fun r w' => r = .returned (.bool true) ∧ Below w.heap.size w w' := by
 go_enter Tryz.func9, Tryz.ntmps9
 go_wp2_with fail
 refine (Sa w (fun _ => False) (fun _ h => h.elim)).mono ?_
 rintro r w1 ⟨xb, Z, rfl, hb1, H, hZ⟩
 obtain ⟨W2, hW2⟩ := Kt (w1.alloc (.cells UN 61))
 have hb12 : Below w1.heap.size w1 W2 := by rw [hW2]; exact Ks
 have hev : EvsIn (Dp Z W2) (some ⟨w1.heap.size, 0, none⟩) 2 bT.es := ab_in _ _ (by
  rw [Fo (fun q => by have := H.zlt q; omega), hW2]
  exact heap_alloc_new w1 _)
 have HC := U (Pa (H.later hb12) Oz bT _ 2 hev bT_bin (by decide) (by decide) (by decide) (by decide) (by decide) (fun hv => Sx (by decide) bT_few hv))
 rw [show bT.es.length = 2 from rfl, show bT.flow = ⟨#[119]⟩ from rfl, show bT.at' = 5 from rfl] at HC
 have HB1 := U hb1; have HB12 := U hb12; have HZ := U hZ
 unfold UN at hW2
 clear hev hb12 hb1 H hZ
 replace hW2 := U hW2
 go_wp2_with fail
 rw [← hW2.out]
 refine HC.out.mono ?_
 rintro r w3 ⟨rfl, hchg, -, Z3, H3, hZ3⟩
 rw [Ym] at H3
 rw [Ym]
 have HB3 : Hid (Below w.heap.size w w3) := U (by
  have hb2 := HB1.out.trans (HB12.out.mono HB1.out.size)
  refine hb2.trans (hchg.below hb2.size fun c hc => ?_)
  rcases HZ.out c hc with e | e
  ·exact e.elim
  ·exact e)
 have HR := U (JA H3 xT_good (by decide) (by decide) (by decide) (fun h hh => by simp at hh; rw [hh]; decide) 5 [rT] (by rw [xT_refs]; exact sort_one _ _ (by decide)))
 clear H3 hchg hZ3 HC
 go_wp2_with fail
 refine HR.out.mono ?_
 rintro r w4 ⟨A, c, rfl, hb4, hin⟩
 obtain ⟨-, -, A', c', e1, hle, hcm, hrd⟩ := hin
 obtain ⟨rfl, -, rfl⟩ : A = A' ∧ True ∧ c = c' := by injection e1 with a1 a2 a3; exact ⟨a1, trivial, a3⟩
 obtain ⟨b, off, rfl, hbl, hq⟩ := hrd (by decide)
 have c0 : w4.cell? ⟨b, off, none⟩ = some (.string ⟨#[119]⟩) := hq 0 _ rfl
 have c1 : w4.cell? ⟨b, off + 1, none⟩ = some (.int .u64 1) := hq 1 _ rfl
 have c2 : w4.cell? ⟨b, off + 2, none⟩ = some (.int .i64 1) := hq 2 _ rfl
 have c3 : w4.cell? ⟨b, off + 3, none⟩ = some (.int .u64 5) := hq 3 _ rfl
 have HB4 : Hid (Below w.heap.size w w4) := U (HB3.out.trans (hb4.mono HB3.out.size))
 rw [show [rT].length = 1 from rfl] at hle ⊢
 simp only [maxLen] at hcm
 clear hrd hq e1 HR hb4
 go_wp2_with fail
 go_ret
 exact ⟨rfl, HB4.out⟩
attribute [local go_sem] Oper.semAt_some
variable {w w' : World}
def Nothing (w : World) (r : Ending) (w' : World) : Prop := r = .returned (.slice none 0 0) ∧ Below w.heap.size w w'
theorem XR (w : World) : Calls Tryz.prog 30 #[.pointer none] w (Nothing w) := by
 go_enter Tryz.func30, Tryz.ntmps30
 go_wp2_with fail
 go_ret
 exact ⟨rfl, Below.refl _ _⟩
def Og (w : World) (g : Nat) (a0 a1 a2 a3 a4 a5 a6 a7 a8 a9 : Value) : World := (((((((((w.setCell ⟨g, 0, none⟩ a0).setCell ⟨g, 1, none⟩ a1).setCell ⟨g, 2, none⟩ a2).setCell ⟨g, 3, none⟩ a3).setCell ⟨g, 4, none⟩ a4).setCell ⟨g, 5, none⟩ a5).setCell ⟨g, 6, none⟩ a6).setCell ⟨g, 7, none⟩ a7).setCell ⟨g, 8, none⟩ a8).setCell ⟨g, 9, none⟩ a9
theorem Ph {g : Nat} {T : TypeId} {b0 b1 b2 b3 b4 b5 b6 b7 b8 b9 a0 a1 a2 a3 a4 a5 a6 a7 a8 a9 : Value} (h : w.heap[g]? = some (.cells #[b0, b1, b2, b3, b4, b5, b6, b7, b8, b9] T (0, 0))) : (Og w g a0 a1 a2 a3 a4 a5 a6 a7 a8 a9).heap[g]? = some (.cells #[a0, a1, a2, a3, a4, a5, a6, a7, a8, a9] T (0, 0)) := by
 unfold Og; simp [World.setCell, Array.getElem?_modify, h]
theorem Gw (w : World) (g : Nat) (a0 a1 a2 a3 a4 a5 a6 a7 a8 a9 : Value) : Hi.Chg (fun c => c = g) w (Og w g a0 a1 a2 a3 a4 a5 a6 a7 a8 a9) := by
 unfold Og
 have h : ∀ (W : World) (o : Nat) (x : Value), Hi.Chg (fun c => c = g) W (W.setCell ⟨g, o, none⟩ x) := fun W o x => Hi.Chg.setCell (X := fun c => c = g) (p := ⟨g, o, none⟩) rfl x
 exact (((((((((h _ _ _).trans (h _ _ _)).trans (h _ _ _)).trans (h _ _ _)).trans (h _ _ _)).trans (h _ _ _)).trans (h _ _ _)).trans (h _ _ _)).trans (h _ _ _)).trans (h _ _ _)
theorem FI {g : Nat} {T : TypeId} {a0 a1 a2 a3 a4 a5 a6 a7 a8 a9 : Value} (h : w.heap[g]? = some (.cells #[a0, a1, a2, a3, a4, a5, a6, a7, a8, a9] T (0, 0))) : w.cell? ⟨g, 0, none⟩ = some a0 ∧ w.cell? ⟨g, 1, none⟩ = some a1 ∧ w.cell? ⟨g, 2, none⟩ = some a2 ∧ w.cell? ⟨g, 3, none⟩ = some a3 ∧ w.cell? ⟨g, 4, none⟩ = some a4 ∧ w.cell? ⟨g, 5, none⟩ = some a5 ∧ w.cell? ⟨g, 6, none⟩ = some a6 ∧ w.cell? ⟨g, 7, none⟩ = some a7 ∧ w.cell? ⟨g, 8, none⟩ = some a8 ∧ w.cell? ⟨g, 9, none⟩ = some a9 := by
 simp [World.cell?, h]
def DH : Array Value := #[.int .u64 0, .string ⟨#[]⟩, .int .i64 0, .int .i64 0, .float .f64 0, .string ⟨#[]⟩, .slice none 0 0, .int .i64 0, .bool false, .int .u64 0]
open Hi (DP TkNew DR)
attribute [local go_sem] Oper.semAt_some
variable {E Z : Nat → Prop} {w w' : World} {xb : Nat} {x : XM}
def Xi : TK := ⟨0, ⟨#[]⟩, zeroT, 0, false, 0⟩
theorem Jb : TOk Xi := ⟨by decide, by decide, by decide, by decide, by decide⟩
def Ff (x : XM) (f : ByteArray) : List TK := ((Dt x.flows f).bind fun i => x.flows[i]?).elim [] fun h => h.s.tasks
def Sz (x : XM) (f : ByteArray) (id : Nat) : TK × Bool := match DP (Ff x f) id with
 | some t => (t, true)
 | none => (Xi, false)
theorem tget_hit {ts : List TK} {j id : Nat} (hj : j < ts.length) (h : ts[j].id = id) (hno : ∀ q (hq : q < ts.length), q < j → ts[q].id ≠ id) : DP ts id = some ts[j] := by
 unfold DP
 rw [List.find?_eq_some_iff_getElem]
 exact ⟨by simpa using h, j, hj, rfl, fun q hq => by simpa using hno q (by omega) hq⟩
theorem Ji {ts : List TK} {id : Nat} (hno : ∀ q (hq : q < ts.length), ts[q].id ≠ id) : DP ts id = none := by
 unfold DP
 rw [List.find?_eq_none]
 intro t ht
 obtain ⟨q, hq, rfl⟩ := List.getElem_of_mem ht
 simpa using hno q hq
theorem JW {f : ByteArray} {ts : List TK} (hts : ts = Ff x f) {j id : Nat} (hj : j < ts.length) (h : ts[j].id = id) (hno : ∀ q (hq : q < ts.length), q < j → ts[q].id ≠ id) : Sz x f id = (ts[j], true) := by
 unfold Sz; rw [← hts, tget_hit hj h hno]
theorem Sy {f : ByteArray} {ts : List TK} (hts : ts = Ff x f) {id : Nat} (hno : ∀ q (hq : q < ts.length), ts[q].id ≠ id) : Sz x f id = (Xi, false) := by
 unfold Sz; rw [← hts, Ji hno]
def YY (w : World) (o : TK × Bool) (r : Ending) (w' : World) : Prop := ∃ lo hi k n g s A m c, r = .returned (.tuple #[.agg (Dq o.1 k n g s A m c), .bool o.2]) ∧ TOk o.1 ∧ Rep w' lo hi o.1.v (Di k n g s A m c) ∧ hi ≤ w'.heap.size ∧ Below w.heap.size w w'
theorem rep_zero (w : World) : Rep w 0 0 zeroT (Di 0 0 0 ⟨#[]⟩ none 0 0) := Rep.leaf ⟨by omega, by omega, by omega, by omega, by omega, by decide, by decide⟩
theorem XV (H : XAt E w xb Z x) {T N : Nat} (hg : XGood x T N) (hT : T ≤ 1100000000000) (f : ByteArray) (hf : f.size ≤ maxLen) : Calls Tryz.prog 29 #[.pointer (some ⟨xb, 0, none⟩), .string f] w fun r w' => w' = w ∧ ∃ v, r = .returned v ∧ Calls Tryz.prog 30 #[v] w fun r w' => ∃ A2 c2, r = .returned (.slice A2 (Ff x f).length c2) ∧ Below w.heap.size w w' ∧ TkNew w.heap.size w' A2 c2 (Ff x f) := by
 refine (Pw H f hf).mono ?_
 rintro r w' ⟨hw, hcase⟩
 refine ⟨hw, ?_⟩
 rcases hcase with ⟨q, rfl⟩ | ⟨i, h, p, Y, q1, q2, rfl, q4, -⟩
 ·refine ⟨_, rfl, (XR w).mono fun r w' h => ?_⟩
  have e : Ff x f = [] := by unfold Ff; rw [q]; rfl
  rw [e]
  exact ⟨none, 0, h.1, h.2, by simp, Nat.zero_le _, fun q => absurd q (by simp)⟩
 ·have g := hg.good h (List.mem_of_getElem? q2)
  refine ⟨_, rfl, (Px q4 (by have := g.tot; omega) g.slim).mono fun r w' h' => ?_⟩
  have e : Ff x f = h.s.tasks := by unfold Ff; rw [q1]; simp only [Option.bind_some]; rw [q2]; rfl
  rw [e]
  obtain ⟨A2, c2, h1, h2, h3, -⟩ := h'
  exact ⟨A2, c2, h1, h2, h3⟩
theorem M105 (h : p := by
 exact ⟨0, 0, 0, 0, 0, ⟨#[]⟩, none, 0, 0, rfl, Jb, rep_zero _, Nat.zero_le _, HB4.out⟩) : p := h
theorem M123 (h : p := by
 rw [JW HTS.out hjl (by rw [← HT.out]) HNO.out, ← HT.out]
 exact ⟨lo, hi, kk, n, fv, s, A', m', c', rfl, HOK.out, HR5.out.1, HR5.out.2, HB5.out⟩) : p := h
theorem M154 (h : p := by
 by_cases e : q' = j
 ·subst e; rw [← HT.out]; exact q
 ·exact HNO.out q' hq' (by omega)) : p := h
theorem M162 (h : p := by
 rw [Sy HTS.out fun q hq => HNO.out q hq (by have := HL.out; omega)]
 exact M105) : p := h
theorem M427 (h : p := by
 unfold DH at hx3
 have hfz : ∀ o, wr.frozen? ⟨g, o, none⟩ = false := fun o => by simp [World.frozen?, hx3]
 have f0 := hfz 0; have f1 := hfz 1; have f2 := hfz 2; have f3 := hfz 3; have f4 := hfz 4; have f5 := hfz 5; have f6 := hfz 6; have f7 := hfz 7; have f8 := hfz 8; have f9 := hfz 9
 exact Y427) : p := h
theorem Q315.Y312 (h : p := by
 obtain ⟨W4, hW4⟩ := Kt (wr.alloc (.cells #[.int .u64 (tid : Nat), .string tnm, .int .i64 kk, .int .i64 n, .float .f64 fv, .string s, .slice A' m' c', .int .i64 tn, .bool tf, .int .u64 (ta : Nat)] 36))
 have hb4 : Below w3.heap.size w3 W4 := by rw [hW4]; exact HBR.out.alloc HBR.out.size _
 have hx4 : W4.heap[wr.heap.size]? = some (.cells (Dq ⟨tid, tnm, tv, tn, tf, ta⟩ kk n fv s A' m' c') 36 (0, 0)) := by rw [hW4]; exact heap_alloc_new _ _
 obtain ⟨g0, g1, g2, g3, g4, g5, g6, g7, g8, g9, -⟩ := DR hx4
 have HB4 := U hb4
 have HG : Hid (W4.heap[g]? = some (.cells DH 36 (0, 0))) := U (by
  have hb := HB13.out.trans (hb4.mono HB13.out.size)
  exact (hb.block g HL1.out).trans HX1.out)
 clear hcell hx4 hb4
 replace hW4 := U hW4
 by_cases q : tid = id
 ·subst q
  have hx3 := HG.out
  unfold DH at hx3
  have hfz : ∀ o, W4.frozen? ⟨g, o, none⟩ = false := fun o => by simp [World.frozen?, hx3]
  have f0 := hfz 0; have f1 := hfz 1; have f2 := hfz 2; have f3 := hfz 3; have f4 := hfz 4; have f5 := hfz 5; have f6 := hfz 6; have f7 := hfz 7; have f8 := hfz 8; have f9 := hfz 9
  obtain ⟨c0, c1, c2', c3, c4, c5, c6, c7, c8, c9⟩ := FI hx3
  clear hfz
  obtain ⟨W5, hW5⟩ := Kt (Og W4 g (.int .u64 (tid : Nat)) (.string tnm) (.int .i64 kk) (.int .i64 n) (.float .f64 fv) (.string s) (.slice A' m' c') (.int .i64 tn) (.bool tf) (.int .u64 (ta : Nat)))
  have HX5 : Hid (W5.heap[g]? = some (.cells #[.int .u64 (tid : Nat), .string tnm, .int .i64 kk, .int .i64 n, .float .f64 fv, .string s, .slice A' m' c', .int .i64 tn, .bool tf, .int .u64 (ta : Nat)] 36 (0, 0))) := U (by rw [hW5]; exact Ph hx3)
  have HB5 : Hid (Below w.heap.size w W5) := U (by
   have hb := HB1.out.trans ((HB13.out.trans (HB4.out.mono HB13.out.size)).mono HB1.out.size)
   exact hb.trans (by rw [hW5]; exact (Gw ..).below hb.size fun c e => by have e : c = g := e; rw [e, hg'.out]; exact Nat.le_refl _))
  have HR5 : Hid (Rep W5 lo hi tv (Di kk n fv s A' m' c') ∧ hi ≤ W5.heap.size) := U (by
   have hc := (Gw W4 g (.int .u64 (tid : Nat)) (.string tnm) (.int .i64 kk) (.int .i64 n) (.float .f64 fv) (.string s) (.slice A' m' c') (.int .i64 tn) (.bool tf) (.int .u64 (ta : Nat)))
   rw [← hW5] at hc
   have hr := HREP.out.later (HB4.out.mono HHI.out)
   have hz := HB4.out.size; have hz2 := hc.size; have hz3 := HHI.out; have hl := HLO.out; have hgl := HL1.out
   exact ⟨hr.keep fun c o z1 z2 => GI (p := ⟨c, o, none⟩) (hc.block c (by omega) fun e => by have e : c = g := e; omega), by omega⟩)
  unfold Og at hW5
  have hW5' := U hW5
  clear hW5 hx3
  go_upto_region 4 with fail
  rw [← hW4.out]
  clear e0 e1 e2 e3 e4 e5 e6 e7 e8 e9
  go_wp2_with fail
  rw [← hW5'.out]
  (try simp only [Exit.inBlock, Exit.then])
  refine bodyPost_ret (v := .tuple #[.agg #[.int .u64 (tid : Nat), .string tnm, .int .i64 kk, .int .i64 n, .float .f64 fv, .string s, .slice A' m' c', .int .i64 tn, .bool tf, .int .u64 (ta : Nat)], .bool true]) ?_ rfl ?_
  ·obtain ⟨y0, y1, y2, y3, y4, y5, y6, y7, y8, y9⟩ := FI HX5.out
   simp [results, Tryz.results10, go_sem, y0, y1, y2, y3, y4, y5, y6, y7, y8, y9]
  ·exact M123
 ·have hq : ¬ (tid : Int) = (id : Int) := by omega
  have HNO2 : Hid (∀ q (hq : q < ts.length), q < j + 1 → ts[q].id ≠ id) := U fun q' hq' hlt' => by
   exact M154
  go_upto_region 4 with fail
  rw [← hW4.out]
  clear e0 e1 e2 e3 e4 e5 e6 e7 e8 e9
  go_wp2_with fail
  go_roundw
  case rel => exact ⟨j + 1, by omega, by go_num, HB4.out, HNO2.out⟩
  case measure => simp [intOf]; omega) : p := h
theorem Q428.Y427 (h : p := by
 obtain ⟨c0, c1, c2', c3, c4, c5, c6, c7, c8, c9⟩ := FI hx3
 clear hfz
 unfold Og at hW4
 have hW4' := U hW4
 clear hW4 hx3
 go_wp2_with fail
 rw [← hW4'.out]
 (try simp only [Exit.inBlock, Exit.then])
 refine bodyPost_ret (v := .tuple #[.agg DH, .bool false]) ?_ rfl ?_
 ·obtain ⟨y0, y1, y2, y3, y4, y5, y6, y7, y8, y9⟩ := FI HX4.out
  simp [results, Tryz.results10, go_sem, y0, y1, y2, y3, y4, y5, y6, y7, y8, y9, DH]
 ·exact M162) : p := h
theorem find_any (H : XAt E w xb Z x) {T N : Nat} (hg : XGood x T N) (hT : T ≤ 1100000000000) (f : ByteArray) (hf : f.size ≤ maxLen) (id : Nat) : Calls Tryz.prog 10 #[.pointer (some ⟨xb, 0, none⟩), .string f, .int .u64 (id : Nat)] w (YY w (Sz x f id)) := by
 obtain ⟨W1, hW1⟩ := Kt (w.alloc (.cells DH 36))
 have HB1 := U (show Below w.heap.size w W1 by rw [hW1]; exact Ks)
 have hx1 : W1.heap[w.heap.size]? = some (.cells DH 36 (0, 0)) := by rw [hW1]; exact heap_alloc_new _ _
 have HX1 := U hx1
 have HL1 : Hid (w.heap.size < W1.heap.size) := U (by rw [hW1]; simp)
 obtain ⟨g, hg'⟩ := Kt (w.heap.size)
 rw [← hg'] at HX1 HL1
 have HF := U (XV (H.later HB1.out) hg hT f hf)
 obtain ⟨ts, hts⟩ := Kt (Ff x f)
 rw [← hts] at HF
 obtain ⟨L, hL⟩ := Kt (ts.length)
 rw [← hL] at HF
 have HTS := U hts; have HL := U hL
 clear hx1 H hg hts hL
 unfold DH at hW1
 replace hW1 := U hW1; replace hg' := U hg'
 go_enter Tryz.func10, Tryz.ntmps10
 go_upto_region 1 with fail
 rw [← hW1.out, ← hg'.out]
 go_wp2_with fail
 refine HF.out.mono ?_
 rintro r w' ⟨hw', v, rfl, hK⟩
 rw [hw']
 clear hw' w'
 have HK := U hK
 clear hK
 go_wp2_with fail
 refine HK.out.mono ?_
 rintro r w3 ⟨A2, c2, rfl, hb3, hin⟩
 have hcp : c2 ≤ maxLen := hin.2.1
 have hcl : L ≤ c2 := by have := hin.1; have := HL.out; omega
 have HKI := U hin.2.2
 have HB13 := U hb3
 simp only [maxLen] at hcp
 clear hb3 hin HK HF
 go_wp2_with fail
 go_loopw [15] (fun i wr => ∃ j : Nat, j ≤ L ∧ i = .int .i64 j ∧ Below w3.heap.size w3 wr ∧ ∀ q (hq : q < ts.length), q < j → ts[q].id ≠ id) (fun i _ => L - (intOf i).toNat)
 case atStart => exact ⟨0, by omega, rfl, Below.refl _ _, fun q _ h => absurd h (by omega)⟩
 case round =>
  obtain ⟨j, hj, rfl, hb, hno⟩ := hrel
  have HBR := U hb; have HNO := U hno
  clear hb hno
  by_cases hlt : j < L
  ·have hjl : j < ts.length := by have := HL.out; omega
   obtain ⟨bb, off2, rfl, hbb, hcells⟩ := HKI.out (by omega)
   obtain ⟨lo, hi, kk, n, fv, s, A', m', c', hok, hrep, hhi, hlo, hcell0⟩ := hcells j hjl
   have hcell := fun q hq => (HBR.out.cell (p := ⟨bb, off2 + j * 10 + q, none⟩) hbb).trans (hcell0 q hq)
   have HREP := U hrep; have HHI := U hhi; have HOK := U hok
   obtain ⟨t, ht⟩ := Kt (ts[j])
   rw [← ht] at hcell HREP HOK
   have HT := U ht
   have HLO := U hlo
   clear hcells ht hcell0 hrep hhi hok hlo
   obtain ⟨tid, tnm, tv, tn, tf, ta⟩ := t
   open Q315 in exact M312
  ·have hj' : L = j := by omega
   subst hj'
   have hx3 : wr.heap[g]? = some (.cells DH 36 (0, 0)) := ((HB13.out.trans (HBR.out.mono HB13.out.size)).block g HL1.out).trans HX1.out
   obtain ⟨W4, hW4⟩ := Kt (Og wr g (.int .u64 0) (.string ⟨#[]⟩) (.int .i64 0) (.int .i64 0) (.float .f64 0) (.string ⟨#[]⟩) (.slice none 0 0) (.int .i64 0) (.bool false) (.int .u64 0))
   have HX4 : Hid (W4.heap[g]? = some (.cells DH 36 (0, 0))) := U (by rw [hW4]; exact Ph hx3)
   have HB4 : Hid (Below w.heap.size w W4) := U (by
    have hb := HB1.out.trans ((HB13.out.trans (HBR.out.mono HB13.out.size)).mono HB1.out.size)
    exact hb.trans (by rw [hW4]; exact (Gw ..).below hb.size fun c e => by have e : c = g := e; rw [e, hg'.out]; exact Nat.le_refl _))
   open Q428 in exact M427
open Hi (RIx IBox FO PC rhC RTk.open)
attribute [local go_sem] Oper.semAt_some
variable {w w' : World} {x : XM}
theorem M117 (h : p := by
 obtain ⟨y0, y1, y2, y3, y4, y5, y6, y7, y8, y9⟩ := FI HX4.out
 simp [results, Tryz.results11, go_sem, y0, y1, y2, y3, y4, y5, y6, y7, y8, y9, DH]) : p := h
theorem Q430.Y427 (h : p := by
 obtain ⟨c0, c1', c2', c3, c4, c5, c6, c7, c8, c9⟩ := FI hx3
 clear hfz
 obtain ⟨W5, hW5⟩ := Kt (Og wr g (.int .u64 (tid : Nat)) (.string tnm) (.int .i64 kk) (.int .i64 n) (.float .f64 fv) (.string s) (.slice A' m' c') (.int .i64 tn) (.bool tf) (.int .u64 (ta : Nat)))
 have HX5 : Hid (W5.heap[g]? = some (.cells #[.int .u64 (tid : Nat), .string tnm, .int .i64 kk, .int .i64 n, .float .f64 fv, .string s, .slice A' m' c', .int .i64 tn, .bool tf, .int .u64 (ta : Nat)] 39 (0, 0))) := U (by rw [hW5]; exact Ph hx3)
 have hc5 : Hi.Chg (fun c => c = g) wr W5 := by rw [hW5]; exact Gw ..
 have HB5 : Hid (Below w.heap.size w W5) := U (HHB.out.trans (hc5.below HHB.out.size fun c e => by have e : c = g := e; have := HGG.out; omega))
 have HR5 : Hid (Rep W5 lo hi tv (Di kk n fv s A' m' c') ∧ hi ≤ W5.heap.size) := U (by
  have hr := HREP.out.later (HHB.out.mono HHI.out)
  have hz := HHB.out.size; have hz2 := hc5.size; have hz3 := HHI.out; have hl := HGG.out
  exact ⟨hr.keep fun c o z1 z2 => GI (p := ⟨c, o, none⟩) (hc5.block c (by omega) fun e => by have e : c = g := e; omega), by omega⟩)
 unfold Og at hW5
 have hW5' := U hW5
 clear hW5 hx3 hc5
 go_wp2_with fail
 rw [← hW5'.out]
 (try simp only [Exit.inBlock, Exit.then])
 refine bodyPost_ret (v := .tuple #[.agg #[.int .u64 (tid : Nat), .string tnm, .int .i64 kk, .int .i64 n, .float .f64 fv, .string s, .slice A' m' c', .int .i64 tn, .bool tf, .int .u64 (ta : Nat)], .bool true]) ?_ rfl ?_
 ·obtain ⟨y0, y1, y2, y3, y4, y5, y6, y7, y8, y9⟩ := FI HX5.out
  simp [results, Tryz.results11, go_sem, y0, y1, y2, y3, y4, y5, y6, y7, y8, y9]
 ·exact M123) : p := h
theorem Q313.Y312 (h : p := by
 clear hcell
 by_cases q : tid = id
 ·subst q
  have hx3 := (HB1.out.block g HL1.out).trans HX1.out
  open Q430 in exact M427
 ·have hq : ¬ (tid : Int) = (id : Int) := by omega
  have HNO2 : Hid (∀ q (hq : q < ts.length), q < j + 1 → ts[q].id ≠ id) := U fun q' hq' hlt' => by
   exact M154
  clear e1 e2 e3 e4 e5 e6 e7 e8 e9
  go_wp2_with fail
  go_roundw
  case rel => exact ⟨j + 1, by omega, by go_num, by first | rfl | trivial, HNO2.out⟩
  case measure => simp [intOf]; omega) : p := h
theorem Q323.Y322 (h : p := by
 refine bodyPost_ret (v := .tuple #[.agg DH, .bool false]) ?_ rfl ?_
 ·exact M117
 ·rw [Sy HTS.out fun q hq => absurd hq (by simp)]
  exact M105) : p := h
theorem Q324.Y322 (h : p := by
 refine bodyPost_ret (v := .tuple #[.agg DH, .bool false]) ?_ rfl ?_
 ·exact M117
 ·exact M162) : p := h
theorem Q429.Y427 (h : p := by
 obtain ⟨c0, c1', c2', c3, c4, c5, c6, c7, c8, c9⟩ := FI hx3
 clear hfz
 unfold Og at hW4
 have hW4' := U hW4
 clear hW4 hx3
 go_wp2_with fail
 rw [← hW4'.out]
 (try simp only [Exit.inBlock, Exit.then])
 exact Y322) : p := h
theorem M322 (h : p := by
 have hx3 := (HB1.out.block g HL1.out).trans HX1.out
 obtain ⟨W4, hW4⟩ := Kt (Og wr g (.int .u64 0) (.string ⟨#[]⟩) (.int .i64 0) (.int .i64 0) (.float .f64 0) (.string ⟨#[]⟩) (.slice none 0 0) (.int .i64 0) (.bool false) (.int .u64 0))
 have HX4 : Hid (W4.heap[g]? = some (.cells DH 39 (0, 0))) := U (by rw [hW4]; exact Ph hx3)
 have HB4 : Hid (Below w.heap.size w W4) := U (by
  have hb := HB0.out.trans (HB1.out.mono HB0.out.size)
  exact hb.trans (by rw [hW4]; exact (Gw ..).below hb.size fun c e => by have e : c = g := e; have := HGG.out; omega))
 open Q429 in exact M427) : p := h
theorem XA (uA uF : Value) (f : ByteArray) (id : Nat) (w : World) (h : RIx w x uA uF) : Calls Tryz.prog 11 #[.agg #[uA, uF], .string f, .int .u64 (id : Nat)] w (YY w (Sz x f id)) := by
 obtain ⟨⟨AA, cA, rfl, -, -⟩, AF, cF, rfl, hF1, hF2⟩ := h.slices
 simp only [maxLen] at hF2
 obtain ⟨W0, hW0⟩ := Kt (w.alloc (.cells #[.slice AA x.all.length cA, .slice AF x.flows.length cF] 27))
 obtain ⟨W1, hW1⟩ := Kt (W0.alloc (.cells DH 39))
 have hz0 : W0.heap.size = w.heap.size + 1 := by rw [hW0]; simp
 have hb01 : Below W0.heap.size W0 W1 := by rw [hW1]; exact Ks
 have hb0 : Below w.heap.size w W1 := by rw [hW1, hW0]; exact Ks.alloc (by simp) _
 obtain ⟨gb, hgb⟩ : ∃ g, g = w.heap.size := ⟨_, rfl⟩
 obtain ⟨g, hg⟩ := Kt (w.heap.size + 1)
 have hi0 : IBox W1 gb (.slice AA x.all.length cA) (.slice AF x.flows.length cF) := (hb01.block gb (by omega)).trans (by rw [hW0, hgb]; exact IBox.new ..)
 have hx1 : W1.heap[g]? = some (.cells DH 39 (0, 0)) := by rw [hW1, hg, ← hz0]; exact heap_alloc_new _ _
 have HB0 := U hb0; have HI0 := U hi0; have HX1 := U hx1
 have HL1 : Hid (g < W1.heap.size) := U (by rw [hW1, hg, ← hz0]; simp)
 have HGG : Hid (w.heap.size ≤ g) := U (by omega)
 have HF := U (PC x _ _ f W1 (h.later hb0))
 have HH := U h
 obtain ⟨x0, x1, -⟩ := hi0.cells
 obtain ⟨nA, hnA⟩ : ∃ n, n = x.all.length := ⟨_, rfl⟩
 obtain ⟨nF, hnF⟩ : ∃ n, n = x.flows.length := ⟨_, rfl⟩
 rw [← hnA, ← hnF] at hW0 HF HI0
 rw [← hnA] at x0
 rw [← hnF] at x1 hF1
 rw [← hnA, ← hnF]
 have HNF := U hnF; have HNA := U hnA
 clear h hb0 hb01 hi0 hx1 hz0 hnA hnF
 unfold DH at hW1
 replace hW0 := U hW0; replace hW1 := U hW1; replace hg := U hg; replace hgb := U hgb
 go_enter Tryz.func11, Tryz.ntmps11
 go_upto_region 1 with fail
 rw [← hW0.out, ← hW1.out, ← hg.out, ← hgb.out]
 go_wp2_with fail
 refine HF.out.mono ?_
 rintro r wr ⟨rfl, hb1⟩
 have HB1 := U hb1
 obtain ⟨y0, y1, -⟩ := (HI0.out.later hb1 HI0.out.lt).cells
 clear hb1 HF x0 x1
 cases hfx : Dt x.flows f with
 | none =>
  have hfi : FO x.flows f = -1 := by unfold FO; rw [hfx]
  have HTS : Hid (([] : List TK) = Ff x f) := U (by unfold Ff; rw [hfx]; rfl)
  rw [hfi]
  clear hfi hfx
  open Q323 in exact M322
 | some i =>
  have hfi : FO x.flows f = (i : Nat) := by unfold FO; rw [hfx]
  obtain ⟨hil, -, -⟩ := DJ hfx
  obtain ⟨ts, hts⟩ := Kt (Ff x f)
  have hte : ts = x.flows[i].s.tasks := by rw [hts]; unfold Ff; rw [hfx]; simp only [Option.bind_some]; rw [List.getElem?_eq_getElem hil]; rfl
  rw [hfi]
  have hin : i < nF := by have := HNF.out; omega
  have hHB : Below w.heap.size w wr := HB0.out.trans (HB1.out.mono HB0.out.size)
  obtain ⟨xs, ⟨hlen, h1, A', cap', e1, hle, hcap, hrd⟩, hc⟩ := HH.out.flows
  obtain ⟨b, off, e2, hbl, hr⟩ := hrd (by omega)
  obtain rfl : AF = some ⟨b, off, none⟩ := by injection e1 with q _ _; rw [q, e2]
  obtain ⟨-, ub, uk, ut, um, hrh, hq⟩ := hc.2 i hil
  obtain ⟨A2, cap2, rfl, htk⟩ := RTk.open hrh.tasks
  have d0 := (hHB.cell (p := ⟨b, off + (i * 7 + 5), none⟩) hbl).trans (hr (i * 7 + 5) (.slice A2 x.flows[i].s.tasks.length cap2) (hq 5 (by omega)))
  rw [← hte] at d0 htk
  rw [← Nat.add_assoc] at d0
  have hcp : cap2 ≤ maxLen := htk.2.1
  have hcl : ts.length ≤ cap2 := htk.1
  simp only [maxLen] at hcp
  have HKI := U htk.2.2
  have HTS := U hts
  obtain ⟨L, hL⟩ := Kt (ts.length)
  rw [← hL] at d0 hcl
  have HL := U hL
  clear e1 e2 hle hcap hrd hc hrh hq htk hr hlen h1 hts hte hL hfi hfx hHB hbl
  obtain ⟨w3, hw3⟩ := Kt (wr)
  rw [← hw3] at HB1
  rw [← hw3] at y0 y1 d0
  rw [← hw3]
  clear hw3 wr
  go_wp2_with fail
  go_loopw [10] (fun i wz => ∃ j : Nat, j ≤ L ∧ i = .int .i64 j ∧ wz = w3 ∧ ∀ q (hq : q < ts.length), q < j → ts[q].id ≠ id) (fun i _ => L - (intOf i).toNat)
  case atStart => exact ⟨0, by omega, rfl, rfl, fun q _ h => absurd h (by omega)⟩
  case round =>
   obtain ⟨j, hj, rfl, rfl, hno⟩ := hrel
   have HNO := U hno
   clear hno
   by_cases hlt : j < L
   ·have hjl : j < ts.length := by have := HL.out; omega
    obtain ⟨bb, off2, rfl, hbb, hcells⟩ := HKI.out (by omega)
    obtain ⟨lo, hi, kk, n, fv, s, A', m', c', hok, hrep, hhi, hcell0⟩ := hcells j hjl
    have hHB : Below w.heap.size w wr := HB0.out.trans (HB1.out.mono HB0.out.size)
    have hcell := fun q hq => (hHB.cell (p := ⟨bb, off2 + j * 10 + q, none⟩) hbb).trans (hcell0 q hq)
    have HREP := U hrep; have HHI := U hhi; have HOK := U hok
    obtain ⟨t, ht⟩ := Kt (ts[j])
    rw [← ht] at hcell HREP HOK
    have HT := U ht
    have HHB := U hHB
    clear hcells ht hcell0 hrep hhi hok hHB
    obtain ⟨tid, tnm, tv, tn, tf, ta⟩ := t
    open Q313 in exact M312
   ·have hj' : L = j := by omega
    subst hj'
    open Q324 in exact M322
open Hi (Gp LIn XJ Gs De OJ)
attribute [local go_sem] Oper.semAt_some
variable {w w' w0 : World} {x : XM}
theorem VB {W W' : World} {T : TypeId} {t : TK} {lo hi : Nat} {k n : Int} {f : Nat} {s : ByteArray} {A : Option Addr} {m c : Nat} (hok : TOk t) (hr : Rep W lo hi t.v (Di k n f s A m c)) (hh : hi ≤ W.heap.size) (hb : Below W.heap.size W W') {g : Nat} (hx : W'.heap[g]? = some (.cells (Dq t k n f s A m c) T (0, 0))) : TkIn W' (some ⟨g, 0, none⟩) 1 [t] :=
 ⟨by simp, by decide, fun _ => ⟨g, 0, rfl, (Array.getElem?_eq_some_iff.1 hx).1, fun i hi' => by
  obtain rfl : i = 0 := by simp at hi'; omega
  exact ⟨lo, hi, k, n, f, s, A, m, c, hok, hr.later (hb.mono hh), Nat.le_trans hh hb.size, fun q hq => by rw [show 0 + 0 * 10 + q = q by omega]; simp [World.cell?, hx]⟩⟩⟩
theorem Vd (bl : List BT) (B : Option Addr) (bc : Nat) (f : ByteArray) (hf : f.size ≤ maxLen) (id : Nat) (w0 : World) (hB : BtsIn w0 B bc bl) (hlen : ∀ b ∈ bl, b.es.length ≤ 2097152) :
  Calls Tryz.prog 3 #[.slice B bl.length bc, .string f, .int .u64 (id : Nat)] w0 fun r w' => r = .returned (.bool true) ∧ Below w0.heap.size w0 w' := by
 have HBLD := U (Kd bl B bc w0 hB hlen)
 have HA := U fun W => Xm W
 have HLEN := U hlen
 clear hB hlen
 go_enter Tryz.func3, Tryz.ntmps3
 go_wp2_with fail
 refine HBLD.out.mono ?_
 rintro r w1 ⟨hb1, ⟨xb, rfl⟩ | ⟨hfew, xb, g, g3, Z, uA, uF, rfl, HX, hZ, hri⟩⟩
 ·have HB1 := U hb1
  clear hb1
  go_wp2_with fail
  refine (HA.out _).mono ?_
  rintro r w3 ⟨rfl, hb3⟩
  have HB3 : Hid (Below w0.heap.size w0 w3) := U ((HB1.out.alloc HB1.out.size _).trans (hb3.mono (by simp; exact Nat.le_succ_of_le HB1.out.size)))
  clear hb3
  go_wp2_with fail
  go_ret
  exact ⟨rfl, HB3.out⟩
 have hli := XJ hfew fun b hb => by have := HLEN.out b hb; omega
 have hgood := Gs hli bl.length (Nat.le_refl _)
 rw [List.take_length] at hgood
 have htt := hli.tot
 obtain ⟨T, hT⟩ := Kt (tot bl)
 rw [← hT] at hgood htt
 obtain ⟨x, hx⟩ := Kt (Gp bl)
 rw [← hx] at HX hri hgood
 obtain ⟨⟨AA, cA, rfl, -, -⟩, AF, cF, rfl, -, -⟩ := hri.slices
 obtain ⟨W2, hW2⟩ := Kt (w1.alloc (.cells #[.slice AA x.all.length cA, .slice AF x.flows.length cF] 27))
 obtain ⟨g8, hg8⟩ : ∃ g, g = w1.heap.size := ⟨_, rfl⟩
 have hb12 : Below w1.heap.size w1 W2 := by rw [hW2]; exact Ks
 have hi2 : IBox W2 g8 (.slice AA x.all.length cA) (.slice AF x.flows.length cF) := by rw [hW2, hg8]; exact IBox.new ..
 have HB2 : Hid (Below w0.heap.size w0 W2) := U (hb1.trans (hb12.mono hb1.size))
 have HRI : Hid (RIx W2 x (.slice AA x.all.length cA) (.slice AF x.flows.length cF)) := U ((hri.leads (De _ _)).later hb12)
 have HF := U (find_any (HX.later hb12) hgood (by omega) f hf id)
 have HI2 := U hi2
 clear HX hZ hri hgood hfew hli hb1 hb12 hi2 hx hT htt HBLD
 replace hW2 := U hW2; replace hg8 := U hg8
 obtain ⟨o, ho⟩ := Kt (Sz x f id)
 rw [← ho] at HF
 replace ho := U ho
 generalize x.all.length = nA at *
 generalize x.flows.length = nF at *
 go_upto_region 2 with fail
 rw [← hW2.out, ← hg8.out]
 by_cases h300 : 300 < f.size
 ·have k300 : decide ((300 : Int) < (f.size : Int)) = true := decide_eq_true (by omega)
  go_wp2_with fail
  refine (HA.out _).mono ?_
  rintro r w3 ⟨rfl, hb3⟩
  have HB3 : Hid (Below w0.heap.size w0 w3) := U (HB2.out.trans (hb3.mono HB2.out.size))
  clear hb3
  go_wp2_with fail
  go_ret
  exact ⟨rfl, HB3.out⟩
 ·have k300 : decide ((300 : Int) < (f.size : Int)) = false := decide_eq_false (by omega)
  go_wp2_with fail
  refine HF.out.mono ?_
  rintro r w3 ⟨lo, hi, k, n, fv, s, A, m, c, rfl, hok, hr, hh, hb3⟩
  obtain ⟨t, b⟩ := o
  dsimp only at hok hr ⊢
  have hb23 : Below w0.heap.size w0 w3 := HB2.out.trans (hb3.mono HB2.out.size)
  obtain ⟨W4, hW4⟩ := Kt (w3.alloc (.cells (Dq t k n fv s A m c) 36))
  obtain ⟨ga, hga⟩ : ∃ g, g = w3.heap.size := ⟨_, rfl⟩
  have hb34 : Below w3.heap.size w3 W4 := by rw [hW4]; exact Ks
  have hx4 : W4.heap[ga]? = some (.cells (Dq t k n fv s A m c) 36 (0, 0)) := by rw [hW4, hga]; exact heap_alloc_new _ _
  have hi4 := HI2.out.later (hb3.trans (hb34.mono hb3.size)) HI2.out.lt
  have HG := U (XA _ _ f id W4 (HRI.out.later (hb3.trans (hb34.mono hb3.size))))
  rw [← ho.out] at HG
  have HB4 : Hid (Below w0.heap.size w0 W4) := U (hb23.trans (hb34.mono hb23.size))
  have HX4 := U hx4; have HB34 := U hb34; have HOK := U hok; have HR := U hr; have HH := U hh
  have HGA : Hid (ga < W4.heap.size) := U (Array.getElem?_eq_some_iff.1 hx4).1
  obtain ⟨x0, x1, -⟩ := hi4.cells
  unfold Dq at hW4 ⊢
  clear hb3 hb23 hb34 hx4 hi4 hok hr hh HF HI2 HRI
  replace hW4 := U hW4; replace hga := U hga
  go_upto_region 5 with fail
  rw [← hW4.out, ← hga.out]
  go_wp2_with fail
  refine HG.out.mono ?_
  rintro r w5 ⟨lo', hi', k', n', fv', s', A', m', c', rfl, hok', hr', hh', hb5⟩
  dsimp only at hok' hr' ⊢
  obtain ⟨W6, hW6⟩ := Kt (w5.alloc (.cells (Dq t k' n' fv' s' A' m' c') 39))
  obtain ⟨gc, hgc⟩ : ∃ g, g = w5.heap.size := ⟨_, rfl⟩
  have hb56 : Below w5.heap.size w5 W6 := by rw [hW6]; exact Ks
  have hx6 : W6.heap[gc]? = some (.cells (Dq t k' n' fv' s' A' m' c') 39 (0, 0)) := by rw [hW6, hgc]; exact heap_alloc_new _ _
  have HB46 := U (hb5.trans (hb56.mono hb5.size))
  have HX6 := U hx6; have HB56 := U hb56; have HR' := U hr'; have HH' := U hh'
  have HGC : Hid (gc < W6.heap.size) := U (Array.getElem?_eq_some_iff.1 hx6).1
  unfold Dq at hW6 ⊢
  clear hb5 hb56 hx6 hok' hr' hh' x0 x1 HG
  replace hW6 := U hW6; replace hgc := U hgc
  go_upto_region 6 with fail
  rw [← hW6.out, ← hgc.out]
  go_wp2_with fail
  refine (HA.out _).mono ?_
  rintro r w7 ⟨rfl, hb7⟩
  have hx7 : w7.heap[ga]? = some (.cells (Dq t k n fv s A m c) 36 (0, 0)) := ((HB46.out.trans (hb7.mono HB46.out.size)).block ga HGA.out).trans HX4.out
  have hy7 : w7.heap[gc]? = some (.cells (Dq t k' n' fv' s' A' m' c') 39 (0, 0)) := (hb7.block gc HGC.out).trans HX6.out
  have HB7 : Hid (Below w0.heap.size w0 w7) := U (HB4.out.trans ((HB46.out.trans (hb7.mono HB46.out.size)).mono HB4.out.size))
  obtain ⟨W8, hW8⟩ := Kt (w7.alloc (.cells (Dq t k n fv s A m c) 36))
  obtain ⟨W9, hW9⟩ := Kt (W8.alloc (.cells (Dq t k' n' fv' s' A' m' c') 39))
  have hb78 : Below w7.heap.size w7 W8 := by rw [hW8]; exact Ks
  have hb89 : Below W8.heap.size W8 W9 := by rw [hW9]; exact Ks
  have hy8 : W8.heap[gc]? = some (.cells (Dq t k' n' fv' s' A' m' c') 39 (0, 0)) := (hb78.block gc (Nat.lt_of_lt_of_le HGC.out hb7.size)).trans hy7
  have hx8 : W8.heap[w7.heap.size]? = some (.cells (Dq t k n fv s A m c) 36 (0, 0)) := by rw [hW8]; exact heap_alloc_new _ _
  have hx9 : W9.heap[w7.heap.size]? = some (.cells (Dq t k n fv s A m c) 36 (0, 0)) := (hb89.block _ (Array.getElem?_eq_some_iff.1 hx8).1).trans hx8
  have hy9 : W9.heap[W8.heap.size]? = some (.cells (Dq t k' n' fv' s' A' m' c') 39 (0, 0)) := by rw [hW9]; exact heap_alloc_new _ _
  have b69 : Below W6.heap.size W6 W9 := hb7.trans ((hb78.trans (hb89.mono hb78.size)).mono hb7.size)
  have b49 : Below W4.heap.size W4 W9 := HB46.out.trans (b69.mono HB46.out.size)
  have b39 : Below w3.heap.size w3 W9 := HB34.out.trans (b49.mono HB34.out.size)
  have b59 : Below w5.heap.size w5 W9 := HB56.out.trans (b69.mono HB56.out.size)
  have HS := U (OJ [t] _ _ 1 1 W9 (VB HOK.out HR.out HH.out b39 hx9) (VB HOK.out HR'.out HH'.out b59 hy9))
  have HB9 : Hid (Below w0.heap.size w0 W9) := U (HB7.out.trans ((hb78.trans (hb89.mono hb78.size)).mono HB7.out.size))
  have hz8 : W8.heap.size = w7.heap.size + 1 := by rw [hW8]; simp
  rw [hz8] at HS
  obtain ⟨p0, p1, p2, p3, p4, p5, p6, p7, p8, p9⟩ := FI hx7
  obtain ⟨r0, r1, r2, r3, r4, r5, r6, r7, r8, r9⟩ := FI hy7
  have hgc7 : gc < w7.heap.size := Nat.lt_of_lt_of_le HGC.out hb7.size
  have kb : (b == b) = true := beq_self_eq_true b
  unfold Dq at hW8 hW9
  clear hb7 hb78 hb89 hx8 hx9 hy9 hy7 hy8 hx7 b69 b49 b39 b59 hz8
  replace hW8 := U hW8; replace hW9 := U hW9
  go_wp2_with fail
  rw [← hW8.out, ← hW9.out]
  refine HS.out.mono ?_
  rintro r w10 ⟨rfl, hb10⟩
  have HB10 : Hid (Below w0.heap.size w0 w10) := U (HB9.out.trans (hb10.mono HB9.out.size))
  clear hb10
  go_wp2_with fail
  go_ret
  exact ⟨rfl, HB10.out⟩
open Go.ChangeShapes Go.WideShapes Go.ChangeAt Go.Joins Go.Deep
theorem str_in {H : Type} {enc : TypeId × Value → H} {base b1 : Nat} {spare : Nat → Bool} {held : Bool} {d : DataW H} {p : List MemPlace} (v : Value) (W : World)
  (o : Value.okWide Tryz.prog W .any base 9 v) (k : DataW.Trod enc Tryz.prog W b1 spare held 9 v d p) : ∃ s, v = .string s ∧ s.size ≤ maxLen := by
 obtain ⟨s, rfl⟩ := okWide_string Tryz.underlying9 o
 obtain ⟨fuel, hf⟩ := k
 have hcs : (Value.string s).cells.toList = [.string s] := rfl
 rw [hcs] at hf
 obtain ⟨s', e, -, w⟩ := DataW.trod_string Tryz.underlying9 hf
 obtain e := List.singleton_inj.1 e
 injection e with e
 subst e
 exact ⟨_, rfl, w⟩
theorem tfinds_open {H : Type} {enc : TypeId × Value → H} {base b1 : Nat} {spare : Nat → Bool} {held : Bool} {d0 d1 d2 : DataW H} {p0 p1 p2 : List MemPlace} (v0 v1 v2 : Value) (W : World)
  (o0 : Value.okWide Tryz.prog W .any base 22 v0) (k0 : DataW.Trod enc Tryz.prog W b1 spare held 22 v0 d0 p0)
  (o1 : Value.okWide Tryz.prog W .any base 9 v1) (k1 : DataW.Trod enc Tryz.prog W b1 spare held 9 v1 d1 p1)
  (o2 : Value.okWide Tryz.prog W .any base 23 v2) (k2 : DataW.Trod enc Tryz.prog W b1 spare held 23 v2 d2 p2) (hu : Rows.uptoSmall H [d0, d1, d2] = true) :
  Calls Tryz.prog 3 #[v0, v1, v2] W fun r w' => r = .returned (.bool true) ∧ Below W.heap.size W w' := by
 obtain ⟨bl, A, cap, rfl, hB, hl⟩ := Hi.Ke v0 W o0 k0
 obtain ⟨s, rfl, hs⟩ := str_in v1 W o1 k1
 obtain ⟨n, rfl⟩ := okWide_int Tryz.underlying23 o2
 obtain ⟨fuel, hf⟩ := k2
 obtain ⟨m, e1, -, w1⟩ := DataW.trod_int Tryz.underlying23 hf
 have e1 : [Value.int .u64 n] = [Value.int .u64 m] := e1
 injection e1 with e1
 injection e1 with _ e1
 subst e1
 simp [Lit.wf, IntKind.min, IntKind.max, IntKind.bits, IntKind.signed] at w1
 obtain ⟨k, hk⟩ : ∃ k : Nat, n = (k : Nat) := ⟨n.toNat, by omega⟩
 subst hk
 exact Vd bl A cap s hs k W hB (hl (Hi.Jo (i := 0) hu rfl))
end Ta
end Go.Proofs.YtaahfiopdoinkaaGreat
