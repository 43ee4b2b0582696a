/- history.New, Fits, Add. -/
/- history.New; Batches; a nil history. -/
/- Plain: what stays within bounds while batches are added. -/
import Derived.Test.YtkajcldmolcllaaGreatHaat
import Derived.Deep.AppendLies
import Derived.Test.YtkajcldmolcllaaGreatHaan
set_option linter.unusedVariables false
set_option linter.unusedSimpArgs false
open Go.RowKit
namespace Go.Proofs.YtkajcldmolcllaaGreat
namespace Hi
open _root_.Go.Proofs.YtkajcldmolcllaaGreat.Nm (ret_int ret_bool)
open Vt (VT Rep below_drew Cloned)
open Ev (EV FieldsOk evCells vCells EBox take_drop tk ap cons_drop)
open Cm (rowOf EvsIn EvsAt EvNew)
open Cn (BT BB BtsIn own_keep wrongE Asks box_ev contains_any)
variable {X X' Y Y' : Nat → Prop} {u v w w' V V' : World} {hb bt bm bk n cap : Nat} {A : Option Addr} {h : HM}
theorem Tryz.infoBt : (Tryz.prog.info? 36).map (fun i => (i.zero, i.size, i.bytes)) = some (some (.agg #[.string ⟨#[]⟩, .int .u64 0, .slice none 0 0]), 3, 48) := by kernel_rfl
set_option maxRecDepth 100000 in
set_option maxHeartbeats 2000000 in
theorem fits_any (H : HAt Y w hb bt bm bk n A cap h) (hY : ∀ b, Y b → b < w.heap.size) (b : BT) (A2 : Option Addr) (c2 : Nat) (hev : EvsIn (veil (HZ hb A) w) A2 c2 b.es) (hbat : b.at' < 18446744073709551616) (hS : ∀ i (h : i < b.es.length), b.es[i].v.Slim 900) (hl40 : b.es.length ≤ 1099511627776)
  (htot : tot h.bs + b.es.length ≤ 8796093022208) (hfl : b.flow.size ≤ maxLen) :
  Calls Tryz.prog 17 #[.pointer (some ⟨hb, 0, none⟩), .agg #[.string b.flow, .int .u64 (b.at' : Nat), .slice A2 b.es.length c2]] w fun r w' => r = .returned (.int .i64 (addM h b).1) ∧ Below w.heap.size w w' := by
 obtain ⟨W0, hW0⟩ : ∃ W0, W0 = w.alloc (.cells #[.string b.flow, .int .u64 (b.at' : Nat), .slice A2 b.es.length c2] 36) := ⟨_, rfl⟩
 have hx0 : BB W0 w.heap.size b.flow b.at' A2 b.es.length c2 := by rw [hW0]; exact heap_alloc_new w _
 have hb0 : Below w.heap.size w W0 := by rw [hW0]; exact (Below.refl _ _).alloc (Nat.le_refl _) _
 have hz0 : W0.heap.size = w.heap.size + 1 := by rw [hW0]; simp
 have HT := Lib.hid (try_any (H.later hb0) (fun c hc => by have := hY c hc; omega) b A2 c2 ((EvsIn.leads hev (leads_veil _ _)).later hb0) hbat hS hl40 htot hfl)
 obtain ⟨a0, a1, a2, -⟩ := hx0.cells
 have HB0 := Lib.hid hb0
 clear H hev hx0 hb0 hz0 hS hY htot hl40
 replace hW0 := Lib.hid hW0
 generalize b.flow = ff at *
 generalize b.at' = at' at *
 generalize b.es.length = m at *
 go_enter Tryz.func17, Tryz.ntmps17
 go_upto_region 1 with fail
 rw [← hW0.out]
 go_wp2_with fail
 refine HT.out.mono ?_
 rintro x w1 ⟨hb1, ⟨hc, rfl⟩ | ⟨hc, ct, cm, ck, n2, rfl, -⟩⟩
 ·have HB1 := Lib.hid (HB0.out.trans (hb1.mono HB0.out.size))
  unfold ZS
  go_wp2_with fail
  go_ret
  exact ⟨rfl, (HB1.out.alloc HB1.out.size _)⟩
 ·have HB1 := Lib.hid (HB0.out.trans (hb1.mono HB0.out.size))
  unfold stC
  go_wp2_with fail
  go_ret
  exact ⟨by rw [hc]; rfl, (HB1.out.alloc HB1.out.size _)⟩
def AddOut (Y : Nat → Prop) (w : World) (hb : Nat) (A : Option Addr) (h : HM) (b : BT) (r : Ending) (w' : World) : Prop := r = .returned (.int .i64 (addM h b).1) ∧ Chg (HZ hb A) w w' ∧ ∃ bt bm bk n A' cap', HAt Y w' hb bt bm bk n A' cap' (addM h b).2 ∧ (∀ r, rowOf A' = some r → rowOf A = some r ∨ w.heap.size ≤ r)
set_option maxRecDepth 100000 in
set_option maxHeartbeats 4000000 in
theorem add_any (H : HAt Y w hb bt bm bk n A cap h) (hY : ∀ b, Y b → b < w.heap.size) (b : BT) (A2 : Option Addr) (c2 : Nat) (hev : EvsIn (veil (HZ hb A) w) A2 c2 b.es) (hbat : b.at' < 18446744073709551616) (hS : ∀ i (h : i < b.es.length), b.es[i].v.Slim 900) (hl40 : b.es.length ≤ 1099511627776)
  (htot : tot h.bs + b.es.length ≤ 8796093022208) (hfl : b.flow.size ≤ maxLen) (hL : h.bs.length ≤ 1000000) :
  Calls Tryz.prog 12 #[.pointer (some ⟨hb, 0, none⟩), .agg #[.string b.flow, .int .u64 (b.at' : Nat), .slice A2 b.es.length c2]] w (AddOut Y w hb A h b) := by
 obtain ⟨i0, hi0, hiz0, hiz1, hiz2⟩ := info_parts Tryz.infoBt
 obtain ⟨W0, hW0⟩ : ∃ W0, W0 = w.alloc (.cells #[.string b.flow, .int .u64 (b.at' : Nat), .slice A2 b.es.length c2] 36) := ⟨_, rfl⟩
 have hx0 : BB W0 w.heap.size b.flow b.at' A2 b.es.length c2 := by rw [hW0]; exact heap_alloc_new w _
 have hb0 : Below w.heap.size w W0 := by rw [hW0]; exact (Below.refl _ _).alloc (Nat.le_refl _) _
 have hz0 : W0.heap.size = w.heap.size + 1 := by rw [hW0]; simp
 have HT := Lib.hid (try_any (H.later hb0) (fun c hc => by have := hY c hc; omega) b A2 c2 ((EvsIn.leads hev (leads_veil _ _)).later hb0) hbat hS hl40 htot hfl)
 obtain ⟨a0, a1, a2, -⟩ := hx0.cells
 have HB0 := Lib.hid hb0; have H0 := Lib.hid H; have HEV := Lib.hid hev; have HY := Lib.hid hY; have HS := Lib.hid hS; have HX0 := Lib.hid hx0; have HZ0 := Lib.hid hz0
 have HFL := Lib.hid hfl; have HBAT := Lib.hid hbat
 have HPOS : Hid ((addM h b).1 = 0 → 0 < b.es.length) := Lib.hid fun q => by
  rcases Nat.eq_zero_or_pos b.es.length with e | e
  ·exfalso
   have : bOk b = false := by unfold bOk; rw [e]; simp
   unfold addM at q; rw [if_pos this] at q; exact absurd (show (2 : Int) = 0 from q) (by decide)
  ·exact e
 have HADD : Hid ((addM h b).1 = 0 → (addM h b).2.flow = h.flow ∧ (addM h b).2.bs = h.bs ++ [b]) := Lib.hid fun q => addM_ok q
 clear H hev hx0 hb0 hz0 hS hY htot
 replace hW0 := Lib.hid hW0
 obtain ⟨m, hm⟩ : ∃ m, m = b.es.length := ⟨_, rfl⟩
 obtain ⟨ff, hff⟩ : ∃ ff, ff = b.flow := ⟨_, rfl⟩
 obtain ⟨at', hat⟩ : ∃ at', at' = b.at' := ⟨_, rfl⟩
 obtain ⟨L, hLL⟩ : ∃ L, L = h.bs.length := ⟨_, rfl⟩
 rw [← hm, ← hff, ← hat] at HT
 rw [← hm, ← hff, ← hat] at HX0
 rw [← hff] at a0; rw [← hat] at a1; rw [← hm] at a2
 rw [← hm] at hl40
 rw [← hff, ← hat, ← hm]
 rw [← hLL] at hL
 rw [← hm, ← hff, ← hat] at hW0
 have HM := Lib.hid hm; have HFF := Lib.hid hff; have HAT := Lib.hid hat; have HFLF : Hid (ff.size ≤ maxLen) := Lib.hid (by rw [hff]; exact HFL.out); have HATB : Hid (at' < 18446744073709551616) := Lib.hid (by rw [hat]; exact HBAT.out); have HLL := Lib.hid hLL
 clear hm hff hat hLL hfl hbat
 go_enter Tryz.func12, Tryz.ntmps12
 go_upto_region 1 with fail
 rw [← hW0.out]
 go_wp2_with fail
 refine HT.out.mono ?_
 rintro x w1 ⟨hb1, ⟨hc, rfl⟩ | ⟨hc, ct, cm, ck, n2, rfl, hm3, hn2, k1, k2, k3⟩⟩
 ·have HB1 := Lib.hid (HB0.out.trans (hb1.mono HB0.out.size))
  have HBD := Lib.hid (addM_bad hc)
  generalize hcd : (addM h b).1 = cd at *
  have HCD := Lib.hid hcd
  have kc : (cd != 0) = true := by simpa using hc
  clear hc hb1 hcd
  unfold ZS
  go_wp2_with fail
  go_ret
  have hbw : Below w.heap.size w (w1.alloc (.cells #[.map none, .map none, .map none, .int .u64 0, .int .i64 0] 67)) := HB1.out.alloc HB1.out.size _
  exact ⟨by rw [HCD.out]; rfl, Chg.of_below hbw, bt, bm, bk, n, A, cap, by rw [HBD.out]; exact H0.out.later hbw, fun r hr => .inl hr⟩
 ·have HB1 := Lib.hid (HB0.out.trans (hb1.mono HB0.out.size))
  have hbs1 := hb1
  obtain ⟨hfl2, hbs2⟩ := HADD.out hc
  have hmp := HPOS.out hc
  rw [← HM.out] at hmp
  generalize hs2 : (addM h b).2 = h2 at *
  have HS2 := Lib.hid hs2; have HC := Lib.hid hc
  obtain ⟨W2, hW2⟩ : ∃ W2, W2 = w1.alloc (.cells (stC ct cm ck h2.s.next h2.s.closed) 67) := ⟨_, rfl⟩
  have hb2 : Below w1.heap.size w1 W2 := by rw [hW2]; exact (Below.refl _ _).alloc (Nat.le_refl _) _
  have hbw2 : Below w.heap.size w W2 := HB1.out.trans (hb2.mono HB1.out.size)
  have hH2 := H0.out.later hbw2
  obtain ⟨s0, s1, s2, s3, s4, s5, s6, sf⟩ := h_cells hH2.blk
  have sf0 := sf 0; have sf1 := sf 1; have sf2 := sf 2; have sf3 := sf 3; have sf4 := sf 4
  rw [← HLL.out] at s6
  have hst2 : W2.heap[w1.heap.size]? = some (.cells (stC ct cm ck h2.s.next h2.s.closed) 67 (0, 0)) := by rw [hW2]; exact heap_alloc_new _ _
  obtain ⟨t0, t1, t2, t3, t4, -, -, -, -, -⟩ := st_cells hst2
  obtain ⟨W3, hW3⟩ : ∃ W3, W3 = ((((W2.setCell ⟨hb, 0, none⟩ (.map (some ct))).setCell ⟨hb, 1, none⟩ (.map (some cm))).setCell ⟨hb, 2, none⟩ (.map (some ck))).setCell ⟨hb, 3, none⟩ (.int .u64 (h2.s.next : Nat))).setCell ⟨hb, 4, none⟩ (.int .i64 h2.s.closed) := ⟨_, rfl⟩
  have hbl3 : W3.heap[hb]? = some (.cells (hC ct cm ck h2.s.next h2.s.closed h.flow A h.bs.length cap) 69 (0, 0)) := by rw [hW3]; simp [World.setCell, Array.getElem?_modify, hH2.blk, hC]
  have ho3 : ∀ c, c ≠ hb → W3.heap[c]? = W2.heap[c]? := fun c hc => by rw [hW3, RowKit.Below.heap_setCell _ _ _ _ hc, RowKit.Below.heap_setCell _ _ _ _ hc, RowKit.Below.heap_setCell _ _ _ _ hc, RowKit.Below.heap_setCell _ _ _ _ hc, RowKit.Below.heap_setCell _ _ _ _ hc]
  have hz3 : W3.heap.size = W2.heap.size := by rw [hW3]; simp [World.setCell]
  have HC3 : Hid (Chg (HZ hb A) w W3) := Lib.hid ((Chg.of_below hbw2).trans (by rw [hW3]; exact ((((Chg.setCell (p := ⟨hb, 0, none⟩) (.inl rfl) _).trans (Chg.setCell (p := ⟨hb, 1, none⟩) (.inl rfl) _)).trans (Chg.setCell (p := ⟨hb, 2, none⟩) (.inl rfl) _)).trans (Chg.setCell (p := ⟨hb, 3, none⟩) (.inl rfl) _)).trans (Chg.setCell (p := ⟨hb, 4, none⟩) (.inl rfl) _)))
  unfold stC at hW2
  have HW2 := Lib.hid hW2
  have HBL3 := Lib.hid hbl3; have HO3 := Lib.hid ho3; have HZ3 := Lib.hid hz3; have HB2 := Lib.hid hb2; have HBW2 := Lib.hid hbw2; have HM3 := Lib.hid hm3
  have HK : Hid (W0.heap.size ≤ ct ∧ W0.heap.size ≤ cm ∧ W0.heap.size ≤ ck) := Lib.hid ⟨k1, k2, k3⟩
  have HN2 := Lib.hid hn2; have HFB := Lib.hid (And.intro hfl2 hbs2)
  clear hb1 hm3 hn2 k1 k2 k3 hfl2 hbs2 hs2 hc hb2 hbw2 hH2 hst2 hbl3 ho3 hz3 hW2 sf
  unfold stC
  go_upto_region 2 with fail
  rw [← HW2.out]
  go_upto_region 5 with fail
  rw [← hW3]
  replace hW3 := Lib.hid hW3
  obtain ⟨xs, hown, hcells⟩ := H0.out.row
  have hrlt := H0.out.row.row_lt
  have hz01 : W0.heap.size ≤ w1.heap.size := hbs1.size
  have hxl : xs.length = h.bs.length * 3 := hown.1
  have hlt0 := H0.out.lt
  have hzw := HZ0.out
  have hz13 : W3.heap.size = w1.heap.size + 1 := by rw [HZ3.out]; have := HW2.out; rw [this]; simp
  have hold : ∀ c, c < w1.heap.size → c ≠ hb → W3.heap[c]? = w1.heap[c]? := fun c hc hne => (HO3.out c hne).trans (HB2.out.block c hc)
  have holdw : ∀ c, c < w.heap.size → c ≠ hb → W3.heap[c]? = w.heap[c]? := fun c hc hne => (hold c (by omega) hne).trans (HB1.out.block c hc)
  have HC6 : Hid (∀ W, Below W3.heap.size W3 W → W.cell? ⟨hb, 6, none⟩ = some (.slice A L cap)) := Lib.hid fun W hW => by
   have := (hW.block hb (by omega)).trans HBL3.out
   rw [HLL.out]
   exact (h_cells this).2.2.2.2.2.2.1
  have HKS : Hid (∀ W : World, W.heap[w.heap.size]? = W3.heap[w.heap.size]? → (fun W : World => W.cell? ⟨w.heap.size, 0, none⟩ = some (.string ff) ∧ W.cell? ⟨w.heap.size, 1, none⟩ = some (.int .u64 (at' : Nat)) ∧ W.cell? ⟨w.heap.size, 2, none⟩ = some (.slice A2 m c2)) W) := Lib.hid fun W hW => by
   have e : BB W w.heap.size ff at' A2 m c2 := hW.trans ((hold _ (by omega) (by omega)).trans ((hbs1.block _ (by omega)).trans HX0.out))
   obtain ⟨q0, q1, q2, -⟩ := e.cells
   exact ⟨q0, q1, q2⟩
  have HCP : Hid (∀ W, Below W3.heap.size W3 W → Calls Tryz.prog 29 #[.agg #[.string ff, .int .u64 (at' : Nat), .slice A2 m c2]] W fun r w' => ∃ A3 cap3, r = .returned (.agg #[.string ff, .int .u64 (at' : Nat), .slice A3 m cap3]) ∧ Below W.heap.size W w' ∧ EvsAt w' W.heap.size A3 cap3 m b.es) := Lib.hid fun W hW => by
   have hv : EvsIn (veil (HZ hb A) W) A2 c2 b.es := EvsIn.leads HEV.out ((HC3.out.trans (Chg.of_below hW)).leads)
   have := hcopied_any b.es (by rw [← HM.out]; exact hmp) (by rw [← HM.out]; exact hl40) HS.out ff at' A2 c2 W (EvsIn.leads hv (leads_veil _ _))
   rw [← HM.out] at this
   exact this
  have HFIN : Hid (∀ (u w4 W5 w6 : World) (A3 : Option Addr) (cap3 r2 cap4 : Nat), Below W3.heap.size W3 u → Below u.heap.size u w4 → EvsAt w4 u.heap.size A3 cap3 m b.es → Below w4.heap.size w4 W5 → w6.ownsRow 0 36 3 (.slice (some ⟨r2, 0, none⟩) (L + 1) cap4) (L + 1) (xs ++ [.string ff, .int .u64 (at' : Nat), .slice A3 m cap3]) → W5.grownBy w6 (rowOf A) → (rowOf A = some r2 ∨ r2 = W5.heap.size) → r2 < w6.heap.size →
    AddOut Y w hb A h b (.returned (.int .i64 0)) (w6.setCell ⟨hb, 6, none⟩ (.slice (some ⟨r2, 0, none⟩) (L + 1) cap4))) := Lib.hid fun u w4 W5 w6 A3 cap3 r2 cap4 hu h4 hev4 h5 hown6 hgrow6 hat6 hrl => by
   obtain ⟨k1, k2, k3⟩ := HK.out
   obtain ⟨f1, f2⟩ := HFB.out
   have hm3 := HM3.out
   have z1 := hu.size; have z2 := h4.size; have z3 := h5.size; have z4 := hgrow6.size
   have hr2 : r2 ≠ hb := by
    rcases hat6 with e | e
    ·exact (H0.out.yr r2 e).2
    ·omega
   have hr2r : ∀ c, c < W5.heap.size → rowOf A ≠ some c → c ≠ r2 := fun c hc hne e => by
    rcases hat6 with q | q
    ·exact hne (e ▸ q)
    ·omega
   have o6 : ∀ c, c < W5.heap.size → c ≠ hb → rowOf A ≠ some c → (w6.setCell ⟨hb, 6, none⟩ (.slice (some ⟨r2, 0, none⟩) (L + 1) cap4)).heap[c]? = W5.heap[c]? := fun c hc hne hrn => (RowKit.Below.heap_setCell _ _ _ _ hne).trans (hgrow6.block c hc (fun e => hrn e.symm))
   have o5 : ∀ c, c < W3.heap.size → c ≠ hb → rowOf A ≠ some c → (w6.setCell ⟨hb, 6, none⟩ (.slice (some ⟨r2, 0, none⟩) (L + 1) cap4)).heap[c]? = W3.heap[c]? := fun c hc hne hrn => (o6 c (by omega) hne hrn).trans ((h5.block c (by omega)).trans ((h4.block c (by omega)).trans (hu.block c hc)))
   have ow : ∀ c, c < w.heap.size → c ≠ hb → rowOf A ≠ some c → (w6.setCell ⟨hb, 6, none⟩ (.slice (some ⟨r2, 0, none⟩) (L + 1) cap4)).heap[c]? = w.heap[c]? := fun c hc hne hrn => (o5 c (by omega) hne hrn).trans (holdw c hc hne)
   have o1 : ∀ c, c < w1.heap.size → c ≠ hb → rowOf A ≠ some c → (w6.setCell ⟨hb, 6, none⟩ (.slice (some ⟨r2, 0, none⟩) (L + 1) cap4)).heap[c]? = w1.heap[c]? := fun c hc hne hrn => (o5 c (by omega) hne hrn).trans (hold c hc hne)
   have hyh : ∀ c, c < W5.heap.size → ¬ YH Y hb A c → ¬ YH Y hb (some ⟨r2, 0, none⟩) c := fun c hc hx q => by
    rcases q with q | q | q
    ·exact hx (.inl q)
    ·exact hx (.inr (.inl q))
    ·have e : r2 = c := Option.some.inj q
     exact hr2r c hc (fun e' => hx (.inr (.inr e'))) e.symm
   have hsz : (w6.setCell ⟨hb, 6, none⟩ (.slice (some ⟨r2, 0, none⟩) (L + 1) cap4)).heap.size = w6.heap.size := by simp [World.setCell]
   have hbz := hbs1.size
   have hl1 : Leads (veil (YH Y hb A) w1) (veil (YH Y hb (some ⟨r2, 0, none⟩)) (w6.setCell ⟨hb, 6, none⟩ (.slice (some ⟨r2, 0, none⟩) (L + 1) cap4))) := leads_veils (by omega) fun c hc hx => ⟨hyh c (by omega) hx, o1 c hc (fun e => hx (.inr (.inl e))) (fun e => hx (.inr (.inr e)))⟩
   have hl0 : Leads (veil (YH Y hb A) w) (veil (YH Y hb (some ⟨r2, 0, none⟩)) (w6.setCell ⟨hb, 6, none⟩ (.slice (some ⟨r2, 0, none⟩) (L + 1) cap4))) := leads_veils (by omega) fun c hc hx => ⟨hyh c (by omega) hx, ow c hc (fun e => hx (.inr (.inl e))) (fun e => hx (.inr (.inr e)))⟩
   have hnY : ∀ c, w.heap.size < c → c < W5.heap.size → ¬ YH Y hb A c := fun c hc hc2 q => by
    rcases q with q | q | q
    ·have := HY.out c q; omega
    ·omega
    ·have := hrlt c q; omega
   have hnr : ∀ c, w.heap.size < c → rowOf A ≠ some c := fun c hc q => by have := hrlt c q; omega
   refine ⟨by rw [HC.out], ?_, ct, cm, ck, n2, some ⟨r2, 0, none⟩, cap4, ?_, fun r hr => ?_⟩
   ·refine HC3.out.trans ⟨?_, ?_, ?_, by omega, fun c hc hx => o5 c hc (fun e => hx (.inl e)) (fun e => hx (.inr e))⟩
    ·exact (hgrow6.os).trans (h5.os.trans (h4.os.trans hu.os))
    ·exact (hgrow6.tape).trans (h5.tape.trans (h4.tape.trans hu.tape))
    ·exact (hgrow6.output).trans (h5.output.trans (h4.output.trans hu.output))
   ·rw [HS2.out]
    have hlen : h2.bs.length = L + 1 := by rw [f2, List.length_append, HLL.out]; rfl
    refine ⟨?_, ⟨hm3.tasks.keep (o1 ct hm3.tasks.lt (by omega) (hnr ct (by omega))) hl1, hm3.timers.keep (o1 cm hm3.timers.lt (by omega) (hnr cm (by omega))), hm3.keys.keep (o1 ck hm3.keys.lt (by omega) (hnr ck (by omega)))⟩, ?_, H0.out.yb,
     hyh ct (by have := hm3.tasks.lt; omega) (hnY ct (by omega) (by have := hm3.tasks.lt; omega)), hyh cm (by have := hm3.timers.lt; omega) (hnY cm (by omega) (by have := hm3.timers.lt; omega)), hyh ck (by have := hm3.keys.lt; omega) (hnY ck (by omega) (by have := hm3.keys.lt; omega)), fun r hr => ?_, ?_, ?_, ?_⟩
    ·have e6 : w6.heap[hb]? = some (.cells (hC ct cm ck h2.s.next h2.s.closed h.flow A h.bs.length cap) 69 (0, 0)) := (hgrow6.block hb (by omega) (fun e => (H0.out.yr hb e.symm).2 rfl)).trans ((h5.block hb (by omega)).trans ((h4.block hb (by omega)).trans ((hu.block hb (by omega)).trans HBL3.out)))
     rw [hlen, f1]
     simp [World.setCell, Array.getElem?_modify, e6, hC]
    ·rw [f2]
     refine ⟨xs ++ [.string ff, .int .u64 (at' : Nat), .slice A3 m cap3], ?_, fun i hi => ?_⟩
     ·have := own_move (w' := w6.setCell ⟨hb, 6, none⟩ (.slice (some ⟨r2, 0, none⟩) (L + 1) cap4)) hown6 (fun r hr => RowKit.Below.heap_setCell _ _ _ _ (by have e : r2 = r := Option.some.inj hr; show r ≠ hb; omega))
      rw [List.length_append, ← HLL.out]
      exact this
     ·have hL3 : xs.length = L * 3 := by rw [hxl, HLL.out]
      by_cases hil : i < h.bs.length
      ·rw [List.getElem_append_left hil]
       obtain ⟨A4, c4, q1, q2, q3, q4, q5, q6⟩ := (hcells i hil).leads hl0
       have hil' : i < L := by rw [HLL.out]; exact hil
       exact ⟨A4, c4, q1, q2, q3, by rw [List.getElem?_append_left (by omega)]; exact q4, by rw [List.getElem?_append_left (by omega)]; exact q5, by rw [List.getElem?_append_left (by omega)]; exact q6⟩
      ·have hiL : i = h.bs.length := by rw [List.length_append] at hi; simp at hi; omega
       subst hiL
       rw [List.getElem_append_right (Nat.le_refl _)]
       simp only [Nat.sub_self, List.getElem_cons_zero]
       refine ⟨A3, cap3, by rw [← HFF.out]; exact HFLF.out, by rw [← HAT.out]; exact HATB.out, ?_, ?_, ?_, ?_⟩
       ·refine Cm.EvsAt.read (n := m) (base := u.heap.size) (evsAt_move hev4 (by rw [veil_size]; omega) fun c hc1 hc2 => ?_)
        rw [veil_off (hyh c (by omega) (hnY c (by omega) (by omega)))]
        exact (o6 c (by omega) (by omega) (hnr c (by omega))).trans (h5.block c hc2)
       ·rw [List.getElem?_append_right (by omega), show h.bs.length * 3 - xs.length = 0 by omega, ← HFF.out]; rfl
       ·rw [List.getElem?_append_right (by omega), show h.bs.length * 3 + 1 - xs.length = 1 by omega, ← HAT.out]; rfl
       ·rw [List.getElem?_append_right (by omega), show h.bs.length * 3 + 2 - xs.length = 2 by omega, ← HM.out]; rfl
    ·have e : r2 = r := Option.some.inj hr
     subst e
     refine ⟨fun q => ?_, hr2⟩
     rcases hat6 with e | e
     ·exact (H0.out.yr r2 e).1 q
     ·have := HY.out r2 q; omega
    ·have := hfine_add H0.out.fine b
     rw [HS2.out] at this
     exact this
    ·rw [f2, tot_snoc]; exact HN2.out
    ·rw [f1]; exact H0.out.fl
   ·have e : r2 = r := Option.some.inj hr
    rcases hat6 with q | q
    ·exact .inl (e ▸ q)
    ·exact .inr (by omega)
  have HOW : Hid (∀ W, Below W3.heap.size W3 W → W.ownsRow 0 36 3 (.slice A L cap) L xs) := Lib.hid fun W hW => by
   have := own_move (w' := W) hown (fun r hr => (hW.block r (by have := hrlt r hr; omega)).trans (holdw r (hrlt r hr) (H0.out.yr r hr).2))
   rw [HLL.out]; exact this
  have HRL : Hid (∀ r, rowOf A = some r → r < w.heap.size) := Lib.hid hrlt
  have HHB : Hid (hb < w.heap.size ∧ rowOf A ≠ some hb ∧ w.heap.size < W3.heap.size) := Lib.hid ⟨hlt0, fun e => (H0.out.yr hb e).2 rfl, by omega⟩
  clear hown hcells hrlt hz01 hxl hlt0 hzw hz13 hold holdw s0 s1 s2 s3 s4 s5 s6 sf0 sf1 sf2 sf3 sf4 t0 t1 t2 t3 t4 a0 a1 a2 hbs1
  obtain ⟨u0, hu0⟩ : ∃ u, u = W3.drew := ⟨_, rfl⟩
  have HD0 : Hid (Below W3.heap.size W3 u0) := Lib.hid (by rw [hu0]; exact below_drew (Below.refl _ _))
  refine wp_region_noPanic ?_
  refine wp_region_held_drew (S := (fun W : World => W.cell? ⟨w.heap.size, 0, none⟩ = some (.string ff) ∧ W.cell? ⟨w.heap.size, 1, none⟩ = some (.int .u64 (at' : Nat)) ∧ W.cell? ⟨w.heap.size, 2, none⟩ = some (.slice A2 m c2))) (by kernel_rfl) ?_ (fun hHeld => ?_)
  ·exact HKS.out _ rfl
  rw [← hu0] at hHeld
  rw [← hu0]
  replace hu0 := Lib.hid hu0
  refine tk 0 rfl ?_
  try simp only [ap]
  refine tk 1 rfl ?_
  try simp only [ap]
  refine tk 2 rfl ?_
  try simp only [ap]
  refine tk 3 rfl ?_
  try simp only [ap]
  refine tk 5 rfl ?_
  try simp only [ap]
  refine wpAnyH_ready (rs := [4, 6]) (by kernel_rfl) (by simp) ?_
  refine cons_drop rfl (fun K hK => ?_) (cons_drop rfl (fun K hK => ?_) AllReadyH.nil)
  ·have cx := HC6.out u0 HD0.out
   go_simp
   refine hK.out _ _ (HKS.out _ (HD0.out.block _ HHB.out.2.2)) (fun hHeld1 => ?_)
   clear hK K cx hHeld
   try simp only [ap]
   refine wpAnyH_ready (rs := [6]) (by kernel_rfl) (by simp) ?_
   refine cons_drop rfl (fun K hK => ?_) AllReadyH.nil
   go_simp
   (with_reducible refine (HCP.out u0 HD0.out).mono ?_)
   rintro e2 w2_ ⟨A3, cap3, rfl, hb9, hev9⟩
   have HD2 : Hid (Below W3.heap.size W3 w2_) := Lib.hid (HD0.out.trans (hb9.mono HD0.out.size))
   have HB42 := Lib.hid hb9; have HEV42 := Lib.hid hev9
   clear hb9 hev9
   go_wp2_with fail
   refine hK.out _ _ (HKS.out _ (HD2.out.block _ HHB.out.2.2)) (fun hHeld2 => ?_)
   clear hK K hHeld1
   try simp only [ap]
   refine wpAnyH_ready (rs := [7]) (by kernel_rfl) (by simp) ?_
   refine cons_drop rfl (fun K hK => ?_) AllReadyH.nil
   go_simp
   obtain ⟨u3, hu3⟩ : ∃ u, u = w2_.alloc (.cells #[.string ff, .int .u64 (at' : Nat), .slice A3 m cap3] 36) := ⟨_, rfl⟩
   rw [← hu3]
   have hbz : Below w2_.heap.size w2_ u3 := by rw [hu3]; exact (Below.refl _ _).alloc (Nat.le_refl _) _
   have HD3 : Hid (Below W3.heap.size W3 u3) := Lib.hid (HD2.out.trans (hbz.mono HD2.out.size))
   have HB53 := Lib.hid hbz
   have HN53 : Hid (∀ q y, ([.string ff, .int .u64 (at' : Nat), .slice A3 m cap3] : List Value)[q]? = some y → u3.cell? ((⟨w2_.heap.size, 0, none⟩ : Addr).add q) = some y) := Lib.hid (World.news_of_block (t := 36) (fr := (0, 0)) (by rw [hu3]; exact heap_alloc_new w2_ _))
   clear hbz
   replace hu3 := Lib.hid hu3
   refine hK.out _ _ (HKS.out _ (HD3.out.block _ HHB.out.2.2)) (fun hHeld3 => ?_)
   clear hK K hHeld2
   try simp only [ap]
   refine wpAnyH_ready (rs := [8]) (by kernel_rfl) (by simp) ?_
   refine cons_drop rfl (fun K hK => ?_) AllReadyH.nil
   refine step_append_lies u3 rfl _ _ 22 rfl 0 36 i0 _ 3 48 Tryz.underlying22 hi0 hiz0 hiz1 hiz2 rfl (by decide) (.slice A L cap) L xs rfl (HOW.out _ HD3.out) ⟨w2_.heap.size, 0, none⟩ 1 1 [.string ff, .int .u64 (at' : Nat), .slice A3 m cap3] rfl rfl HN53.out (by intro u hu; simp at hu; rcases hu with rfl | rfl | rfl <;> rfl) (by decide) (by simp only [maxLen]; omega) (by omega) (Nat.zero_le _) _ rfl ?_
   intro r2 cap4 w6 hown6 hgrow6 hat6 hrl6
   rw [Cm.rowOf_own] at hgrow6 hat6
   have HOUT := Lib.hid (HFIN.out u0 w2_ u3 w6 A3 cap3 r2 cap4 HD0.out HB42.out HEV42.out HB53.out hown6 hgrow6 hat6 hrl6)
   have hcx : w6.heap[hb]? = W3.heap[hb]? := (hgrow6.block hb (by have := HD3.out.size; have := HHB.out; omega) (fun e => HHB.out.2.1 e.symm)).trans (HD3.out.block hb (by have := HHB.out; omega))
   have hbx6 : w6.heap[w.heap.size]? = W3.heap[w.heap.size]? := (hgrow6.block _ (by have := HD3.out.size; have := HHB.out; omega) (fun e => by have := HRL.out _ e.symm; omega)).trans (HD3.out.block _ HHB.out.2.2)
   have hch := h_cells (hcx.trans HBL3.out)
   have cx6 := hch.2.2.2.2.2.2.1
   rw [← HLL.out] at cx6
   have fx6 := hch.2.2.2.2.2.2.2 6
   have HBX6 := Lib.hid hbx6
   clear hown6 hgrow6 hat6 hcx hbx6 hch
   refine hK.out _ _ (HKS.out _ HBX6.out) (fun hHeld4 => ?_)
   clear hK K hHeld3
   try simp only [ap]
   refine tk 9 rfl ?_
   try simp only [ap]
   refine tk 10 rfl ?_
   try simp only [ap]
   refine wpAnyH_ready (rs := [11]) (by kernel_rfl) (by simp) ?_
   refine cons_drop rfl (fun K hK => ?_) AllReadyH.nil
   go_simp
   refine hK.out _ _ (HKS.out _ ((RowKit.Below.heap_setCell _ _ _ _ (by have := HHB.out; show w.heap.size ≠ hb; omega)).trans HBX6.out)) (fun hHeldZ => ?_)
   clear hK K hHeld4
   try simp only [ap]
   refine wpAnyH_done (by kernel_rfl) ?_ _
   refine NoPanic.normal ?_
   clear hHeldZ
   go_wp2_with fail
   go_ret
   exact HOUT.out
  ·go_simp
   (with_reducible refine (HCP.out u0 HD0.out).mono ?_)
   rintro e5 w5_ ⟨A3, cap3, rfl, hb9, hev9⟩
   have HD5 : Hid (Below W3.heap.size W3 w5_) := Lib.hid (HD0.out.trans (hb9.mono HD0.out.size))
   have HB45 := Lib.hid hb9; have HEV45 := Lib.hid hev9
   clear hb9 hev9
   go_wp2_with fail
   refine hK.out _ _ (HKS.out _ (HD5.out.block _ HHB.out.2.2)) (fun hHeld5 => ?_)
   clear hK K hHeld
   try simp only [ap]
   refine wpAnyH_ready (rs := [4, 7]) (by kernel_rfl) (by simp) ?_
   refine cons_drop rfl (fun K hK => ?_) (cons_drop rfl (fun K hK => ?_) AllReadyH.nil)
   ·have cx := HC6.out w5_ HD5.out
    go_simp
    refine hK.out _ _ (HKS.out _ (HD5.out.block _ HHB.out.2.2)) (fun hHeld6 => ?_)
    clear hK K cx hHeld5
    try simp only [ap]
    refine wpAnyH_ready (rs := [7]) (by kernel_rfl) (by simp) ?_
    refine cons_drop rfl (fun K hK => ?_) AllReadyH.nil
    go_simp
    obtain ⟨u7, hu7⟩ : ∃ u, u = w5_.alloc (.cells #[.string ff, .int .u64 (at' : Nat), .slice A3 m cap3] 36) := ⟨_, rfl⟩
    rw [← hu7]
    have hbz : Below w5_.heap.size w5_ u7 := by rw [hu7]; exact (Below.refl _ _).alloc (Nat.le_refl _) _
    have HD7 : Hid (Below W3.heap.size W3 u7) := Lib.hid (HD5.out.trans (hbz.mono HD5.out.size))
    have HB57 := Lib.hid hbz
    have HN57 : Hid (∀ q y, ([.string ff, .int .u64 (at' : Nat), .slice A3 m cap3] : List Value)[q]? = some y → u7.cell? ((⟨w5_.heap.size, 0, none⟩ : Addr).add q) = some y) := Lib.hid (World.news_of_block (t := 36) (fr := (0, 0)) (by rw [hu7]; exact heap_alloc_new w5_ _))
    clear hbz
    replace hu7 := Lib.hid hu7
    refine hK.out _ _ (HKS.out _ (HD7.out.block _ HHB.out.2.2)) (fun hHeld7 => ?_)
    clear hK K hHeld6
    try simp only [ap]
    refine wpAnyH_ready (rs := [8]) (by kernel_rfl) (by simp) ?_
    refine cons_drop rfl (fun K hK => ?_) AllReadyH.nil
    refine step_append_lies u7 rfl _ _ 22 rfl 0 36 i0 _ 3 48 Tryz.underlying22 hi0 hiz0 hiz1 hiz2 rfl (by decide) (.slice A L cap) L xs rfl (HOW.out _ HD7.out) ⟨w5_.heap.size, 0, none⟩ 1 1 [.string ff, .int .u64 (at' : Nat), .slice A3 m cap3] rfl rfl HN57.out (by intro u hu; simp at hu; rcases hu with rfl | rfl | rfl <;> rfl) (by decide) (by simp only [maxLen]; omega) (by omega) (Nat.zero_le _) _ rfl ?_
    intro r2 cap4 w6 hown6 hgrow6 hat6 hrl6
    rw [Cm.rowOf_own] at hgrow6 hat6
    have HOUT := Lib.hid (HFIN.out u0 w5_ u7 w6 A3 cap3 r2 cap4 HD0.out HB45.out HEV45.out HB57.out hown6 hgrow6 hat6 hrl6)
    have hcx : w6.heap[hb]? = W3.heap[hb]? := (hgrow6.block hb (by have := HD7.out.size; have := HHB.out; omega) (fun e => HHB.out.2.1 e.symm)).trans (HD7.out.block hb (by have := HHB.out; omega))
    have hbx6 : w6.heap[w.heap.size]? = W3.heap[w.heap.size]? := (hgrow6.block _ (by have := HD7.out.size; have := HHB.out; omega) (fun e => by have := HRL.out _ e.symm; omega)).trans (HD7.out.block _ HHB.out.2.2)
    have hch := h_cells (hcx.trans HBL3.out)
    have cx6 := hch.2.2.2.2.2.2.1
    rw [← HLL.out] at cx6
    have fx6 := hch.2.2.2.2.2.2.2 6
    have HBX6 := Lib.hid hbx6
    clear hown6 hgrow6 hat6 hcx hbx6 hch
    refine hK.out _ _ (HKS.out _ HBX6.out) (fun hHeld8 => ?_)
    clear hK K hHeld7
    try simp only [ap]
    refine tk 9 rfl ?_
    try simp only [ap]
    refine tk 10 rfl ?_
    try simp only [ap]
    refine wpAnyH_ready (rs := [11]) (by kernel_rfl) (by simp) ?_
    refine cons_drop rfl (fun K hK => ?_) AllReadyH.nil
    go_simp
    refine hK.out _ _ (HKS.out _ ((RowKit.Below.heap_setCell _ _ _ _ (by have := HHB.out; show w.heap.size ≠ hb; omega)).trans HBX6.out)) (fun hHeldZ => ?_)
    clear hK K hHeld8
    try simp only [ap]
    refine wpAnyH_done (by kernel_rfl) ?_ _
    refine NoPanic.normal ?_
    clear hHeldZ
    go_wp2_with fail
    go_ret
    exact HOUT.out
   ·go_simp
    obtain ⟨u9, hu9⟩ : ∃ u, u = w5_.alloc (.cells #[.string ff, .int .u64 (at' : Nat), .slice A3 m cap3] 36) := ⟨_, rfl⟩
    rw [← hu9]
    have hbz : Below w5_.heap.size w5_ u9 := by rw [hu9]; exact (Below.refl _ _).alloc (Nat.le_refl _) _
    have HD9 : Hid (Below W3.heap.size W3 u9) := Lib.hid (HD5.out.trans (hbz.mono HD5.out.size))
    have HB59 := Lib.hid hbz
    have HN59 : Hid (∀ q y, ([.string ff, .int .u64 (at' : Nat), .slice A3 m cap3] : List Value)[q]? = some y → u9.cell? ((⟨w5_.heap.size, 0, none⟩ : Addr).add q) = some y) := Lib.hid (World.news_of_block (t := 36) (fr := (0, 0)) (by rw [hu9]; exact heap_alloc_new w5_ _))
    clear hbz
    replace hu9 := Lib.hid hu9
    refine hK.out _ _ (HKS.out _ (HD9.out.block _ HHB.out.2.2)) (fun hHeld9 => ?_)
    clear hK K hHeld5
    try simp only [ap]
    refine wpAnyH_ready (rs := [4]) (by kernel_rfl) (by simp) ?_
    refine cons_drop rfl (fun K hK => ?_) AllReadyH.nil
    have cx := HC6.out u9 HD9.out
    go_simp
    refine hK.out _ _ (HKS.out _ (HD9.out.block _ HHB.out.2.2)) (fun hHeld10 => ?_)
    clear hK K cx hHeld9
    try simp only [ap]
    refine wpAnyH_ready (rs := [8]) (by kernel_rfl) (by simp) ?_
    refine cons_drop rfl (fun K hK => ?_) AllReadyH.nil
    refine step_append_lies u9 rfl _ _ 22 rfl 0 36 i0 _ 3 48 Tryz.underlying22 hi0 hiz0 hiz1 hiz2 rfl (by decide) (.slice A L cap) L xs rfl (HOW.out _ HD9.out) ⟨w5_.heap.size, 0, none⟩ 1 1 [.string ff, .int .u64 (at' : Nat), .slice A3 m cap3] rfl rfl HN59.out (by intro u hu; simp at hu; rcases hu with rfl | rfl | rfl <;> rfl) (by decide) (by simp only [maxLen]; omega) (by omega) (Nat.zero_le _) _ rfl ?_
    intro r2 cap4 w6 hown6 hgrow6 hat6 hrl6
    rw [Cm.rowOf_own] at hgrow6 hat6
    have HOUT := Lib.hid (HFIN.out u0 w5_ u9 w6 A3 cap3 r2 cap4 HD0.out HB45.out HEV45.out HB59.out hown6 hgrow6 hat6 hrl6)
    have hcx : w6.heap[hb]? = W3.heap[hb]? := (hgrow6.block hb (by have := HD9.out.size; have := HHB.out; omega) (fun e => HHB.out.2.1 e.symm)).trans (HD9.out.block hb (by have := HHB.out; omega))
    have hbx6 : w6.heap[w.heap.size]? = W3.heap[w.heap.size]? := (hgrow6.block _ (by have := HD9.out.size; have := HHB.out; omega) (fun e => by have := HRL.out _ e.symm; omega)).trans (HD9.out.block _ HHB.out.2.2)
    have hch := h_cells (hcx.trans HBL3.out)
    have cx6 := hch.2.2.2.2.2.2.1
    rw [← HLL.out] at cx6
    have fx6 := hch.2.2.2.2.2.2.2 6
    have HBX6 := Lib.hid hbx6
    clear hown6 hgrow6 hat6 hcx hbx6 hch
    refine hK.out _ _ (HKS.out _ HBX6.out) (fun hHeld11 => ?_)
    clear hK K hHeld10
    try simp only [ap]
    refine tk 9 rfl ?_
    try simp only [ap]
    refine tk 10 rfl ?_
    try simp only [ap]
    refine wpAnyH_ready (rs := [11]) (by kernel_rfl) (by simp) ?_
    refine cons_drop rfl (fun K hK => ?_) AllReadyH.nil
    go_simp
    refine hK.out _ _ (HKS.out _ ((RowKit.Below.heap_setCell _ _ _ _ (by have := HHB.out; show w.heap.size ≠ hb; omega)).trans HBX6.out)) (fun hHeldZ => ?_)
    clear hK K hHeld11
    try simp only [ap]
    refine wpAnyH_done (by kernel_rfl) ?_ _
    refine NoPanic.normal ?_
    clear hHeldZ
    go_wp2_with fail
    go_ret
    exact HOUT.out
end Hi
end Go.Proofs.YtkajcldmolcllaaGreat
namespace Go.Proofs.YtkajcldmolcllaaGreat
namespace Hi
open _root_.Go.Proofs.YtkajcldmolcllaaGreat.Nm (ret_int ret_bool)
open Vt (VT Rep below_drew Cloned)
open Ev (EV FieldsOk evCells vCells EBox take_drop tk ap cons_drop)
open Cm (rowOf EvsIn EvsAt EvNew)
open Cn (BT BB BtsIn own_keep wrongE Asks box_ev contains_any)
variable {X X' Y Y' : Nat → Prop} {u v w w' V V' : World} {hb bt bm bk n cap : Nat} {A : Option Addr} {h : HM}

set_option maxRecDepth 100000 in
set_option maxHeartbeats 2000000 in
theorem hnew_any (f : ByteArray) (hf : f.size ≤ maxLen) (w : World) (Y : Nat → Prop) (hY : ∀ b, Y b → b < w.heap.size) : Calls Tryz.prog 8 #[.string f] w fun r w' => ∃ hb bt bm bk, r = .returned (.pointer (some ⟨hb, 0, none⟩)) ∧ Below w.heap.size w w' ∧ w.heap.size ≤ hb ∧ HAt Y w' hb bt bm bk 0 none 0 (HM.new f) := by
 have hmm := @run_makeMap Tryz.prog
 have HY := Lib.hid hY
 clear hY
 go_enter Tryz.func8, Tryz.ntmps8
 go_wp2_with fail
 go_ret
 obtain ⟨W1, hW1⟩ : ∃ W1, W1 = w.alloc (.map #[] 0) := ⟨_, rfl⟩
 have z1 : W1.heap.size = w.heap.size + 1 := by rw [hW1]; simp
 rw [← hW1]
 obtain ⟨W2, hW2⟩ : ∃ W2, W2 = W1.alloc (.map #[] 0) := ⟨_, rfl⟩
 have z2 : W2.heap.size = w.heap.size + 1 + 1 := by rw [hW2]; simp [z1]
 rw [← hW2]
 obtain ⟨W3, hW3⟩ : ∃ W3, W3 = W2.alloc (.map #[] 0) := ⟨_, rfl⟩
 have z3 : W3.heap.size = w.heap.size + 1 + 1 + 1 := by rw [hW3]; simp [z2]
 rw [← hW3]
 obtain ⟨W4, hW4⟩ : ∃ W4, W4 = W3.alloc (.cells #[.map (some w.heap.size), .map (some (w.heap.size + 1)), .map (some (w.heap.size + 1 + 1)), .int .u64 1, .int .i64 0, .string f, .slice none 0 0] 69) := ⟨_, rfl⟩
 have z4 : W4.heap.size = w.heap.size + 1 + 1 + 1 + 1 := by rw [hW4]; simp [z3]
 rw [← hW4]
 have b1 : Below w.heap.size w W1 := by rw [hW1]; exact (Below.refl _ _).alloc (Nat.le_refl _) _
 have b2 : Below W1.heap.size W1 W2 := by rw [hW2]; exact (Below.refl _ _).alloc (Nat.le_refl _) _
 have b3 : Below W2.heap.size W2 W3 := by rw [hW3]; exact (Below.refl _ _).alloc (Nat.le_refl _) _
 have b4 : Below W3.heap.size W3 W4 := by rw [hW4]; exact (Below.refl _ _).alloc (Nat.le_refl _) _
 have n0 : TMap W1 (veil (YH Y (w.heap.size + 1 + 1 + 1) none) W4) w.heap.size 0 [] := by rw [hW1]; exact TMap.made w _
 have n1 : MMap W2 (w.heap.size + 1) 0 [] := by rw [hW2, ← z1]; exact MMap.made W1
 have n2 : KMap W3 (w.heap.size + 1 + 1) 0 [] := by rw [hW3, ← z2]; exact KMap.made W2
 have nY : ∀ c, w.heap.size ≤ c → c ≠ w.heap.size + 1 + 1 + 1 → ¬ YH Y (w.heap.size + 1 + 1 + 1) none c := fun c hc hne q => by
  rcases q with q | q | q
  ·have := HY.out c q; omega
  ·exact hne q
  ·cases q
 refine ⟨w.heap.size + 1 + 1 + 1, w.heap.size, w.heap.size + 1, w.heap.size + 1 + 1, rfl, ((b1.trans (b2.mono (by omega))).trans (b3.mono (by omega))).trans (b4.mono (by omega)), by omega, ?_, ?_, BRow.nil _ _, fun q => by have := HY.out _ q; omega, nY _ (by omega) (by omega), nY _ (by omega) (by omega), nY _ (by omega) (by omega), fun r hr => (by cases hr), hfine_new f, Nat.zero_le _, hf⟩
 ·rw [hW4, ← z3]; exact heap_alloc_new _ _
 ·exact ⟨n0.keep ((b4.block _ (by omega)).trans ((b3.block _ (by omega)).trans (b2.block _ (by omega)))) (Leads.refl _), n1.keep ((b4.block _ (by omega)).trans (b3.block _ (by omega))), n2.keep (b4.block _ (by omega))⟩

def NCell (w : World) (base : Nat) (ro : Option Nat) (xs : List Value) (i : Nat) (b : BT) : Prop := ∃ (u : World) (lo : Nat) (A' : Option Addr) (c : Nat), b.flow.size ≤ maxLen ∧ b.at' < 18446744073709551616 ∧ EvsAt u lo A' c b.es.length b.es ∧ base ≤ lo ∧ u.heap.size ≤ w.heap.size ∧ (∀ k, lo ≤ k → k < u.heap.size → w.heap[k]? = u.heap[k]?) ∧ (∀ r, ro = some r → r < lo ∨ u.heap.size ≤ r) ∧
 xs[i * 3]? = some (.string b.flow) ∧ xs[i * 3 + 1]? = some (.int .u64 (b.at' : Nat)) ∧ xs[i * 3 + 2]? = some (.slice A' b.es.length c)
def BNew (w : World) (base : Nat) (A : Option Addr) (cap : Nat) (bl : List BT) : Prop := ∃ xs, w.ownsRow base 36 3 (.slice A bl.length cap) bl.length xs ∧ ∀ i (h : i < bl.length), NCell w base (rowOf A) xs i bl[i]
theorem BNew.nil (w : World) (base : Nat) : BNew w base none 0 [] := ⟨[], ⟨rfl, .inl ⟨rfl, rfl⟩⟩, fun i h => absurd h (by simp)⟩
theorem BNew.read {base : Nat} {bl : List BT} (h : BNew w base A cap bl) : BtsIn w A cap bl := by
 obtain ⟨xs, h1, h2⟩ := h
 refine BRow.read (V := w) ⟨xs, ?_, fun i hi => ?_⟩ (Leads.refl w)
 ·refine ⟨h1.1, ?_⟩
  rcases h1.2 with q | ⟨r, cp, cur, q1, q2, q3⟩
  ·exact .inl q
  ·exact .inr ⟨r, cp, cur, q1, Nat.zero_le _, q3⟩
 ·obtain ⟨u, lo, A', c, k1, k2, k3, z1, z2, z3, z4, k4⟩ := h2 i hi
  exact ⟨A', c, k1, k2, Cm.EvsAt.read (evsAt_move k3 z2 z3), k4⟩
def BsOk (bs : List BT) : Prop := ∀ b ∈ bs, b.es.length ≤ 1099511627776 ∧ ∀ i (h : i < b.es.length), b.es[i].v.Slim 900
set_option maxRecDepth 100000 in
set_option maxHeartbeats 4000000 in
theorem batches_any (H : HAt Y w hb bt bm bk n A cap h) (hS : BsOk h.bs) (hL : h.bs.length ≤ 1000000) :
  Calls Tryz.prog 21 #[.pointer (some ⟨hb, 0, none⟩)] w fun r w' => ∃ A2 cap2, r = .returned (.slice A2 h.bs.length cap2) ∧ Below w.heap.size w w' ∧ BNew w' w.heap.size A2 cap2 h.bs := by
 obtain ⟨i0, hi0, hz0, hz1, hz2⟩ := info_parts Tryz.infoBt
 obtain ⟨c0, c1, c2, c3, c4, c5, c6, cf⟩ := h_cells H.blk
 have HBT := Lib.hid H.batches
 have HP := Lib.hid H.fine.pos
 have HS := Lib.hid hS
 have hle := H.batches.le
 have hcm := H.batches.cap_le
 simp only [maxLen] at hcm
 clear H hS c0 c1 c2 c3 c4 c5 cf
 generalize h.bs = bs at *
 obtain ⟨L, hLL⟩ : ∃ L, L = bs.length := ⟨_, rfl⟩
 rw [← hLL] at c6 hL hle
 rw [← hLL]
 have HLL := Lib.hid hLL
 clear hLL
 go_enter Tryz.func21, Tryz.ntmps21
 go_wp2_with fail
 go_loopw [3, 13] (fun out i wr => ∃ (j : Nat) (A2 : Option Addr) (cap2 : Nat), j ≤ L ∧ i = .int .i64 j ∧ out = .slice A2 j cap2 ∧ BNew wr w.heap.size A2 cap2 (bs.take j) ∧ Below w.heap.size w wr) (fun _ i _ => L - (intOf i).toNat)
 case atStart => exact ⟨0, none, 0, by omega, rfl, rfl, by simpa using BNew.nil w _, Below.refl _ _⟩
 case round =>
  obtain ⟨j, A2, cap2, hj, rfl, rfl, hrow, hb1⟩ := hrel
  have HROW := Lib.hid hrow; have HB := Lib.hid hb1
  clear hrow hb1
  by_cases hlt : j < L
  ·have hjl : j < bs.length := by have := HLL.out; omega
   obtain ⟨b, off, rfl, hbl, h3⟩ := HBT.out.at_ (by omega)
   obtain ⟨A', c', k1, k2, k3, d0, d1, d2⟩ := h3 j hjl
   have hcw : ∀ o, wr.cell? ⟨b, o, none⟩ = w.cell? ⟨b, o, none⟩ := fun o => HB.out.cell (p := ⟨b, o, none⟩) hbl
   have e0 := (hcw _).trans d0; have e1 := (hcw _).trans d1; have e2 := (hcw _).trans d2
   obtain ⟨x, hx⟩ : ∃ x, x = bs[j] := ⟨_, rfl⟩
   have htk : bs.take (j + 1) = bs.take j ++ [x] := by rw [hx]; exact List.take_succ_eq_append_getElem hjl
   rw [← hx] at k1 k2 k3 e0 e1 e2
   have hxm : x ∈ bs := by rw [hx]; exact List.getElem_mem hjl
   obtain ⟨m, hm⟩ : ∃ m, m = x.es.length := ⟨_, rfl⟩
   rw [← hm] at e2
   obtain ⟨W3, hW3⟩ : ∃ W3, W3 = wr.alloc (.cells #[.string x.flow, .int .u64 (x.at' : Nat), .slice A' m c'] 36) := ⟨_, rfl⟩
   have hb3 : Below wr.heap.size wr W3 := by rw [hW3]; exact (Below.refl _ _).alloc (Nat.le_refl _) _
   have hx3 : BB W3 wr.heap.size x.flow x.at' A' m c' := by rw [hW3]; exact heap_alloc_new _ _
   obtain ⟨g0, g1, g2, -⟩ := hx3.cells
   have HC := hcopied_any x.es (HP.out x hxm) (HS.out x hxm).1 (HS.out x hxm).2 x.flow x.at' A' c' W3 (k3.later (HB.out.trans (hb3.mono HB.out.size)))
   rw [← hm] at HC
   replace HC := Lib.hid HC
   have HXF : Hid (x.flow.size ≤ maxLen) := Lib.hid k1; have HXA : Hid (x.at' < 18446744073709551616) := Lib.hid k2
   have HTK := Lib.hid htk; have HM := Lib.hid hm; have HB3 := Lib.hid hb3
   clear k1 k2 k3 d0 d1 d2 hcw h3 hx htk hxm hm hb3 hx3
   generalize hfx : x.flow = ff at *
   generalize hax : x.at' = at' at *
   have HFX := Lib.hid hfx; have HAX := Lib.hid hax
   clear hfx hax
   replace hW3 := Lib.hid hW3
   go_upto_region 7 with fail
   rw [← hW3.out]
   go_wp2_with fail
   refine HC.out.mono ?_
   rintro r4 w4 ⟨A3, cap3, rfl, hb4, hev4⟩
   obtain ⟨xs, hown, hcells⟩ := HROW.out
   have hlt2 : (bs.take j).length = j := by rw [List.length_take]; omega
   rw [hlt2] at hown
   obtain ⟨W5, hW5⟩ : ∃ W5, W5 = w4.alloc (.cells #[.string ff, .int .u64 (at' : Nat), .slice A3 m cap3] 36) := ⟨_, rfl⟩
   have hb5 : Below w4.heap.size w4 W5 := by rw [hW5]; exact (Below.refl _ _).alloc (Nat.le_refl _) _
   have hn5 : ∀ q y, ([.string ff, .int .u64 (at' : Nat), .slice A3 m cap3] : List Value)[q]? = some y → W5.cell? ((⟨w4.heap.size, 0, none⟩ : Addr).add q) = some y := World.news_of_block (t := 36) (fr := (0, 0)) (by rw [hW5]; exact heap_alloc_new w4 _)
   have hbw5 : Below wr.heap.size wr W5 := (HB3.out.trans (hb4.mono HB3.out.size)).trans (hb5.mono (by have := HB3.out.size; have := hb4.size; omega))
   have hown5 := own_keep hown hbw5
   have hrl := Cn.own_lt hown
   have hHW : w.heap.size ≤ W5.heap.size := by have := HB.out.size; have := hbw5.size; omega
   have HFIN : Hid (∀ (r2 cap4 : Nat) (w6 : World), w6.ownsRow w.heap.size 36 3 (.slice (some ⟨r2, 0, none⟩) (j + 1) cap4) (j + 1) (xs ++ [.string ff, .int .u64 (at' : Nat), .slice A3 m cap3]) → W5.grownBy w6 (rowOf A2) → (rowOf A2 = some r2 ∨ r2 = W5.heap.size) → BNew w6 w.heap.size (some ⟨r2, 0, none⟩) cap4 (bs.take (j + 1)) ∧ Below w.heap.size w w6) := Lib.hid fun r2 cap4 w6 hown6 hgrow6 hat6 => by
    have hrl' : ∀ r, rowOf A2 = some r → r < wr.heap.size := fun r hr => (hrl r hr).1
    have z1 := HB3.out.size; have z2 := hb4.size; have z3 := hb5.size; have z4 := hgrow6.size
    have hxl : xs.length = j * 3 := hown.1
    have o6 : ∀ k, k < W5.heap.size → rowOf A2 ≠ some k → w6.heap[k]? = W5.heap[k]? := fun k hk hne => hgrow6.block k hk (fun e => hne e.symm)
    refine ⟨?_, HB.out.trans ⟨hgrow6.os.trans hbw5.os, hgrow6.tape.trans hbw5.tape, hgrow6.output.trans hbw5.output, by omega, fun k hk => (o6 k (by have := HB.out.size; omega) (fun e => by have := (hrl k e).2; omega)).trans (hbw5.block k (by have := HB.out.size; omega))⟩⟩
    rw [HTK.out]
    refine ⟨xs ++ [.string ff, .int .u64 (at' : Nat), .slice A3 m cap3], by rw [List.length_append, hlt2]; exact hown6, fun i hi => ?_⟩
    by_cases hil : i < (bs.take j).length
    ·rw [List.getElem_append_left hil]
     obtain ⟨u, lo, A', c, k1, k2, k3, y1, y2, y3, y4, q4, q5, q6⟩ := hcells i hil
     refine ⟨u, lo, A', c, k1, k2, k3, y1, by omega, fun k hk1 hk2 => ?_, fun r hr => ?_, by rw [List.getElem?_append_left (by omega)]; exact q4, by rw [List.getElem?_append_left (by omega)]; exact q5, by rw [List.getElem?_append_left (by omega)]; exact q6⟩
     ·exact (o6 k (by omega) (fun e => by have := y4 k e; omega)).trans ((hbw5.block k (by omega)).trans (y3 k hk1 hk2))
     ·have e : r2 = r := Option.some.inj hr
      rcases hat6 with q | q
      ·exact y4 r (e ▸ q)
      ·exact .inr (by omega)
    ·have hiL : i = j := by rw [List.length_append] at hi; simp at hi; omega
     rw [List.getElem_append_right (by omega)]
     simp only [show i - (bs.take j).length = 0 by omega, List.getElem_cons_zero]
     refine ⟨w4, W3.heap.size, A3, cap3, by rw [HFX.out]; exact HXF.out, by rw [HAX.out]; exact HXA.out, by rw [← HM.out]; exact hev4, by have := HB.out.size; omega, by omega, fun k hk1 hk2 => ?_, fun r hr => ?_, ?_, ?_, ?_⟩
     ·exact (o6 k (by omega) (fun e => by have := hrl' k e; omega)).trans (hb5.block k hk2)
     ·have e : r2 = r := Option.some.inj hr
      rcases hat6 with q | q
      ·have := hrl' r2 q; exact .inl (by omega)
      ·exact .inr (by omega)
     ·rw [List.getElem?_append_right (by omega), show i * 3 - xs.length = 0 by omega, HFX.out]; rfl
     ·rw [List.getElem?_append_right (by omega), show i * 3 + 1 - xs.length = 1 by omega, HAX.out]; rfl
     ·rw [List.getElem?_append_right (by omega), show i * 3 + 2 - xs.length = 2 by omega, ← HM.out]; rfl
   have HOWN5 := Lib.hid hown5; have HN5 := Lib.hid hn5
   clear hown hcells hlt2 hb4 hev4 hb5 hn5 hbw5 hown5 hrl
   have hone : ∀ u ∈ ([.string ff, .int .u64 (at' : Nat), .slice A3 m cap3] : List Value), u.oneCell' = true := by intro u hu; simp at hu; rcases hu with rfl | rfl | rfl <;> rfl
   have HONE := Lib.hid hone
   clear hone
   replace hW5 := Lib.hid hW5
   go_wp2_with (at_builtin; rw [← hW5.out]; refine wpList_append_lies _ rfl _ _ 22 rfl w.heap.size 36 i0 _ 3 48 Tryz.underlying22 hi0 hz0 hz1 hz2 rfl (by decide) (.slice A2 j cap2) j xs rfl HOWN5.out ⟨w4.heap.size, 0, none⟩ 1 1 [.string ff, .int .u64 (at' : Nat), .slice A3 m cap3] rfl rfl HN5.out HONE.out (by decide) (by simp only [maxLen]; omega) (by omega) hHW _ rfl ?_; intro r2 cap4 w6 hown6 hgrow6 hat6 hrl6)
   rw [Cm.rowOf_own] at hgrow6 hat6
   obtain ⟨z1, z2⟩ := HFIN.out r2 cap4 w6 hown6 hgrow6 hat6
   clear hown6 hgrow6 hat6
   exact ⟨⟨j + 1, _, cap4, by omega, by go_num, rfl, z1, z2⟩, by simp [intOf]; omega⟩
  ·have hj' : j = L := by omega
   subst hj'
   go_wp2_with fail
   go_ret
   have := HROW.out
   rw [HLL.out, List.take_length] at this
   exact ⟨A2, cap2, rfl, HB.out, this⟩

end Hi
end Go.Proofs.YtkajcldmolcllaaGreat
namespace Go.Proofs.YtkajcldmolcllaaGreat
namespace Hi
open Vt (VT)
open Ev (EV)
open Cn (BT FewB wsum efew)

def SlimS (s : ST) : Prop := ∀ t ∈ s.tasks, t.v.Slim 900
theorem apply_slim {now : Nat} {alone : Bool} {e : EV} {s s' : ST} (hs : SlimS s) (he : e.v.Slim 900) (h : applyM now alone e s = some s') : SlimS s' := by
 have hput : ∀ (t t' : TK), t ∈ s.tasks → t'.v = t.v → SlimS { s with tasks := tput s.tasks t' } := fun t t' ht hv x hx => by
  obtain ⟨y, hy, e⟩ := List.mem_map.1 (show x ∈ s.tasks.map _ from hx)
  split at e
  ·rw [← e, hv]; exact hs t ht
  ·rw [← e]; exact hs y hy
 unfold applyM at h
 split at h
 ·split at h
  ·rename_i t ht
   split at h
   ·cases h; exact hput t _ (tget_some ht).1 rfl
   ·cases h
  ·cases h
 ·split at h
  ·split at h
   ·rename_i t ht
    split at h
    ·split at h
     ·cases h; exact fun x hx => hs x (List.mem_filter.1 hx).1
     ·split at h
      ·cases h; exact hput t _ (tget_some ht).1 rfl
      ·cases h
    ·cases h
   ·cases h
  ·split at h
   ·split at h
    ·split at h
     ·cases h; exact hs
     ·cases h
    ·cases h
   ·split at h
    ·split at h
     ·cases h
     ·cases h; exact hs
    ·split at h
     ·split at h
      ·cases h
       intro x hx
       rcases List.mem_append.1 hx with q | q
       ·exact hs x q
       ·rw [List.mem_singleton.1 q]; exact he
      ·cases h
     ·split at h
      ·split at h
       ·cases h; exact hs
       ·cases h
      ·split at h
       ·split at h
        ·cases h; exact fun x hx => absurd hx (by simp)
        ·cases h
       ·cases h; exact hs
theorem runM_slim {now : Nat} : ∀ (es : List EV) (first : Bool) (s s' : ST), SlimS s → (∀ e ∈ es, e.v.Slim 900) → runM now es first s = some s' → SlimS s'
 | [], _, s, s', hs, _, h => by cases h; exact hs
 | e :: r, first, s, s', hs, he, h => by
  unfold runM at h
  split at h
  ·cases ha : applyM now r.isEmpty e s with
   | none => rw [ha] at h; cases h
   | some s1 =>
    rw [ha] at h
    exact runM_slim r false s1 s' (apply_slim hs (he e (by simp)) ha) (fun x hx => he x (by simp [hx])) h
  ·cases h
structure Good (h : HM) (T N : Nat) : Prop where
 tot : tot h.bs ≤ T
 len : h.bs.length ≤ N
 keys : h.s.keys.length ≤ Hi.tot h.bs
 bs : BsOk h.bs
 slim : SlimS h.s
 fine : HFine h
theorem good_new (f : ByteArray) : Good (HM.new f) 0 0 := ⟨by simp [HM.new, tot], by simp [HM.new], by simp [HM.new], fun b hb => by simp [HM.new] at hb, fun t ht => by simp [HM.new] at ht, hfine_new f⟩
theorem Good.mono {h : HM} {T N T' N' : Nat} (g : Good h T N) (ht : T ≤ T') (hn : N ≤ N') : Good h T' N' := ⟨Nat.le_trans g.tot ht, Nat.le_trans g.len hn, g.keys, g.bs, g.slim, g.fine⟩
theorem good_add {h : HM} {T N : Nat} (g : Good h T N) (b : BT) (hl : b.es.length ≤ 1099511627776) (hs : ∀ i (h : i < b.es.length), b.es[i].v.Slim 900) : Good (addM h b).2 (T + b.es.length) (N + 1) := by
 by_cases hc : (addM h b).1 = 0
 ·have hbs := (addM_ok hc).2
  refine ⟨by rw [hbs, tot_snoc]; have := g.tot; omega, by rw [hbs, List.length_append]; have := g.len; simp; omega, ?_, ?_, ?_, hfine_add g.fine b⟩
  ·rw [hbs, tot_snoc]
   have p1 : ¬ bOk b = false := fun q => by rw [addM_2 q] at hc; exact absurd (show (2 : Int) = 0 from hc) (by decide)
   have p2 : b.flow = h.flow := Classical.byContradiction fun q => by rw [addM_6 p1 q] at hc; exact absurd (show (6 : Int) = 0 from hc) (by decide)
   have p3 : h.s.closed = 0 := Classical.byContradiction fun q => by rw [addM_8 p1 p2 q] at hc; exact absurd (show (8 : Int) = 0 from hc) (by decide)
   have p4 : ¬ (b.at' < h.at' ∨ ¬ (kind1 b = 1 ↔ h.bs = [])) := fun q => by rw [addM_12 p1 p2 p3 q] at hc; exact absurd (show (12 : Int) = 0 from hc) (by decide)
   have hr := addM_run p1 p2 p3 p4
   cases hrun : runM b.at' b.es true h.s with
   | none => rw [hrun] at hr; rw [hr] at hc; exact absurd (show (12 : Int) = 0 from hc) (by decide)
   | some s' =>
    rw [hrun] at hr
    rw [hr]
    have := (runM_next _ _ _ _ hrun).2
    have := g.keys
    show s'.keys.length ≤ _
    omega
  ·rw [hbs]
   intro x hx
   rcases List.mem_append.1 hx with q | q
   ·exact g.bs x q
   ·rw [List.mem_singleton.1 q]; exact ⟨hl, hs⟩
  ·have p1 : ¬ bOk b = false := fun q => by rw [addM_2 q] at hc; exact absurd (show (2 : Int) = 0 from hc) (by decide)
   have p2 : b.flow = h.flow := Classical.byContradiction fun q => by rw [addM_6 p1 q] at hc; exact absurd (show (6 : Int) = 0 from hc) (by decide)
   have p3 : h.s.closed = 0 := Classical.byContradiction fun q => by rw [addM_8 p1 p2 q] at hc; exact absurd (show (8 : Int) = 0 from hc) (by decide)
   have p4 : ¬ (b.at' < h.at' ∨ ¬ (kind1 b = 1 ↔ h.bs = [])) := fun q => by rw [addM_12 p1 p2 p3 q] at hc; exact absurd (show (12 : Int) = 0 from hc) (by decide)
   have hr := addM_run p1 p2 p3 p4
   cases hrun : runM b.at' b.es true h.s with
   | none => rw [hrun] at hr; rw [hr] at hc; exact absurd (show (12 : Int) = 0 from hc) (by decide)
   | some s' =>
    rw [hrun] at hr
    rw [hr]
    exact runM_slim _ _ _ _ g.slim (fun e he => by
     obtain ⟨i, hi, rfl⟩ := List.mem_iff_getElem.1 he
     exact hs i hi) hrun
 ·rw [addM_bad hc]
  exact g.mono (by omega) (by omega)
structure BIn (b : BT) : Prop where
 len : b.es.length ≤ 1099511627776
 slim : ∀ i (h : i < b.es.length), b.es[i].v.Slim 900
theorem few_tot (M : Nat) : ∀ (l : List BT), (∀ b ∈ l, b.es.length ≤ M) → (wsum l < 100 → tot l = wsum l) ∧ (wsum l ≤ 199 → tot l ≤ M + wsum l)
 | [], _ => by simp [wsum, tot]
 | b :: l, h => by
  obtain ⟨h1, h2⟩ := few_tot M l fun x hx => h x (by simp [hx])
  have hb := h b (by simp)
  have e1 : wsum (b :: l) = min b.es.length 100 + wsum l := by simp [wsum]
  have e2 : tot (b :: l) = b.es.length + tot l := by simp [tot]
  rw [e1, e2]
  constructor
  ·intro q
   have := h1 (by omega)
   omega
  ·intro q
   by_cases hc : b.es.length ≤ 100
   ·have := h2 (by omega); omega
   ·have := h1 (by omega); omega
theorem few_slim {bl : List BT} (h : FewB bl) (i : Nat) (hi : i < bl.length) : ∀ k (hk : k < bl[i].es.length), bl[i].es[k].v.Slim 900 := fun k hk => by
 have h1 := h.few i hi k hk
 unfold efew at h1
 simp only [Bool.and_eq_true] at h1
 exact Vt.slim_of_few _ h1.1.1
structure LIn (bl : List BT) : Prop where
 len : bl.length ≤ 60
 tot : tot bl ≤ 1099511628000
 bin : ∀ i (h : i < bl.length), BIn bl[i]
theorem lin_of {bl : List BT} (hf : FewB bl) (hl : ∀ b ∈ bl, b.es.length ≤ 1099511627775) : LIn bl :=
 ⟨hf.len, by have := (few_tot 1099511627775 bl hl).2 (by have := hf.sum; omega); have := hf.sum; omega, fun i hi => ⟨by have := hl _ (List.getElem_mem hi); omega, few_slim hf i hi⟩⟩
theorem LIn.take {bl : List BT} (h : LIn bl) (j : Nat) (hj : j < bl.length) : Hi.tot (bl.take j) + bl[j].es.length ≤ 1099511628000 := by
 rw [← tot_take _ _ hj]
 have : Hi.tot (bl.take (j + 1)) ≤ Hi.tot bl := by
  have e : Hi.tot bl = Hi.tot (bl.take (j + 1)) + Hi.tot (bl.drop (j + 1)) := by
   unfold Hi.tot
   rw [← List.sum_append, ← List.map_append, List.take_append_drop]
  omega
 have := h.tot; omega
theorem good_rep {bl : List BT} (h : LIn bl) (f : ByteArray) : ∀ j, j ≤ bl.length → Good (rep f (bl.take j)) (tot (bl.take j)) j
 | 0, _ => by rw [List.take_zero]; exact good_new f
 | j + 1, hj => by
  have g := good_add (good_rep h f j (by omega)) bl[j] (by have := (h.bin j hj).len; omega) (h.bin j hj).slim
  rw [rep_take f bl j hj, tot_take _ _ hj]
  exact g
theorem built_rep (f : ByteArray) : ∀ (l : List BT), Built f (rep f l) := fun l => by
 have : ∀ (l : List BT) (h : HM), Built f h → Built f (l.foldl (fun h b => (addM h b).2) h) := by
  intro l
  induction l with
  | nil => intro h hb; exact hb
  | cons b l ih => intro h hb; rw [List.foldl_cons]; exact ih _ (built_add hb b)
 exact this l _ (built_new f)
theorem lin_bs {bl : List BT} (h : LIn bl) (f : ByteArray) : LIn (rep f bl).bs := by
 have g := good_rep h f bl.length (Nat.le_refl _)
 rw [List.take_length] at g
 have h1 := g.len; have h2 := g.tot; have h3 := h.len; have h4 := h.tot
 exact ⟨by omega, by omega, fun i hi => ⟨(g.bs _ (List.getElem_mem hi)).1, (g.bs _ (List.getElem_mem hi)).2⟩⟩
end Hi
end Go.Proofs.YtkajcldmolcllaaGreat
