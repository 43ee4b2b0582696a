/- The law's alive: the example of the chapter. -/
/- A history beside others' blocks on the way through a law. -/
/- A history beside the reference's. -/
import Derived.Test.YtkajcldmolcllaaGreatHabc
import Derived.Test.YtkajcldmolcllaaGreatHabe
import Derived.Test.YtkajcldmolcllaaGreatHaan
import Derived.Test.YtkajcldmolcllaaGreatHabf
import Derived.Test.YtkajcldmolcllaaGreatHaau
import Derived.Test.YtkajcldmolcllaaGreatHaaq
set_option linter.unusedVariables false
set_option linter.unusedSimpArgs false
open Go.RowKit
namespace Go.Proofs.YtkajcldmolcllaaGreat
namespace Hi
open _root_.Go.Proofs.YtkajcldmolcllaaGreat.Nm (ret_int ret_bool)
open Vt (VT Rep below_drew)
open Ev (EV FieldsOk evCells vCells zeroT)
open Cm (rowOf EvsIn)
open Cn (BT BB BtsIn zero_valid)
variable {X X' Y Y' : Nat → Prop} {u v w w' V V' : World} {hb bt bm bk n cap : Nat} {A : Option Addr} {h : HM}

def eA : EV := ⟨1, 0, 0, 0, ⟨#[112]⟩, ⟨#[]⟩, zeroT⟩
def eB : EV := ⟨7, 1, 0, 0, ⟨#[97]⟩, ⟨#[]⟩, zeroT⟩
def bA : BT := ⟨⟨#[119]⟩, 0, [eA, eB]⟩
theorem eA_valid : eA.valid = true := by
 unfold EV.valid Ev.goodL eA
 simp [Ev.fieldsOf, Vt.same_refl, Ev.pickB, zero_valid]
 try decide
theorem eB_valid : eB.valid = true := by
 unfold EV.valid Ev.goodL eB
 simp [Ev.fieldsOf, Vt.same_refl, Ev.pickB, zero_valid]
 try decide
theorem eA_fields : FieldsOk eA := ⟨by decide, by decide, by decide, by decide, by decide, by decide, by decide, by decide⟩
theorem eB_fields : FieldsOk eB := ⟨by decide, by decide, by decide, by decide, by decide, by decide, by decide, by decide⟩
theorem zero_slim : zeroT.Slim 900 := Vt.slim_mk.2 ⟨by decide, by decide, fun i h => absurd h (by simp)⟩
theorem bA_add : addM (HM.new ⟨#[119]⟩) bA = (0, ⟨⟨#[119]⟩, [bA], ⟨[⟨1, ⟨#[97]⟩, zeroT, 0, false, 0⟩], [], [], 2, 0⟩⟩) := by
 rw [addM_run (by unfold bOk; simp [bA, eA_valid, eB_valid]) rfl rfl (by simp [bA, HM.at', HM.new, kind1, eA])]
 rfl
def aCells : Array Value := #[.int .i64 1, .int .u64 0, .int .i64 0, .int .u64 0, .string ⟨#[112]⟩, .string ⟨#[]⟩, .int .i64 0, .int .i64 0, .float .f64 0, .string ⟨#[]⟩, .slice none 0 0, .int .i64 7, .int .u64 1, .int .i64 0, .int .u64 0, .string ⟨#[97]⟩, .string ⟨#[]⟩, .int .i64 0, .int .i64 0, .float .f64 0, .string ⟨#[]⟩, .slice none 0 0]
theorem ab_in (w : World) (g : Nat) (h : w.heap[g]? = some (.cells aCells 53 (0, 0))) : EvsIn w (some ⟨g, 0, none⟩) 2 [eA, eB] :=
 ⟨by simp, by simp only [maxLen]; omega, fun _ => ⟨g, 0, rfl, (Array.getElem?_eq_some_iff.1 h).1, fun i hi => by
  have hr : Rep w 0 0 zeroT (vCells 0 0 0 ⟨#[]⟩ none 0 0) := Rep.leaf ⟨by omega, by omega, by omega, by omega, by omega, by decide, by decide⟩
  rcases (by simp at hi; omega : i = 0 ∨ i = 1) with rfl | rfl
  ·refine ⟨0, 0, 0, 0, 0, ⟨#[]⟩, none, 0, 0, eA_fields, hr, Nat.zero_le _, fun q hq => ?_⟩
   rcases (by omega : q = 0 ∨ q = 1 ∨ q = 2 ∨ q = 3 ∨ q = 4 ∨ q = 5 ∨ q = 6 ∨ q = 7 ∨ q = 8 ∨ q = 9 ∨ q = 10) with rfl | rfl | rfl | rfl | rfl | rfl | rfl | rfl | rfl | rfl | rfl <;> (simp only [World.cell?, h]; rfl)
  ·refine ⟨0, 0, 0, 0, 0, ⟨#[]⟩, none, 0, 0, eB_fields, hr, Nat.zero_le _, fun q hq => ?_⟩
   rcases (by omega : q = 0 ∨ q = 1 ∨ q = 2 ∨ q = 3 ∨ q = 4 ∨ q = 5 ∨ q = 6 ∨ q = 7 ∨ q = 8 ∨ q = 9 ∨ q = 10) with rfl | rfl | rfl | rfl | rfl | rfl | rfl | rfl | rfl | rfl | rfl <;> (simp only [World.cell?, h]; rfl)⟩⟩
set_option maxRecDepth 100000 in
set_option maxHeartbeats 2000000 in
theorem halive_any (w : World) : Calls Tryz.prog 10 #[] w fun r w' => r = .returned (.bool true) ∧ Below w.heap.size w w' := by
 go_enter Tryz.func10, Tryz.ntmps10
 go_wp2_with fail
 refine (hnew_any ⟨#[119]⟩ (by decide) w (fun _ => False) (fun _ h => h.elim)).mono ?_
 rintro r w1 ⟨hb, bt, bm, bk, rfl, hb1, hle, H⟩
 obtain ⟨W2, hW2⟩ : ∃ W2, W2 = w1.alloc (.cells aCells 53) := ⟨_, rfl⟩
 have hz2 : W2.heap.size = w1.heap.size + 1 := by rw [hW2]; simp
 have hb12 : Below w1.heap.size w1 W2 := by rw [hW2]; exact (Below.refl _ _).alloc (Nat.le_refl _) _
 have hlt := H.lt
 have hev : EvsIn (veil (HZ hb none) W2) (some ⟨w1.heap.size, 0, none⟩) 2 bA.es := ab_in _ _ (by
  rw [veil_off (fun q => by
   rcases q with q | q
   ·omega
   ·cases q), hW2]
  exact heap_alloc_new w1 _)
 have HC := Lib.hid (add_any (H.later hb12) (fun b h => h.elim) bA _ 2 hev (by decide) (fun i hi => by
  have hi' : i < 2 := hi
  rcases (by omega : i = 0 ∨ i = 1) with rfl | rfl <;> exact zero_slim) (by decide) (by decide) (by decide) (by decide))
 have HB1 := Lib.hid hb1; have HB12 := Lib.hid hb12; have HLE := Lib.hid hle
 unfold aCells at hW2
 clear hev hb12 hz2 hb1
 replace hW2 := Lib.hid hW2
 go_wp2_with fail
 rw [← hW2.out]
 refine HC.out.mono ?_
 rintro r w3 ⟨rfl, hchg, bt3, bm3, bk3, n3, A3, cap3, H3, -⟩
 rw [bA_add] at H3
 rw [bA_add]
 have HB3 : Hid (Below w.heap.size w w3) := Lib.hid (by
  have hb2 := HB1.out.trans (HB12.out.mono HB1.out.size)
  refine hb2.trans (hchg.below hb2.size fun c hc => ?_)
  rcases hc with e | e
  ·rw [e]; exact HLE.out
  ·cases e)
 have HT := Lib.hid (tasks_any H3 (by simp [tot, bA]) (fun t ht => by simp at ht; rw [ht]; exact zero_slim))
 have HN := Lib.hid fun W (hW : Below w3.heap.size w3 W) => hnext_any (H3.later hW)
 clear H3 hchg H HC
 go_wp2_with fail
 refine HT.out.mono ?_
 rintro r w4 ⟨A4, cap4, rfl, hb4, h1, h2, h3⟩
 obtain ⟨b, off, rfl, hbl, h4⟩ := h3 (by simp)
 obtain ⟨lo, hi, k, n, f, s, A', m, c, -, -, -, hq⟩ := h4 0 (by simp)
 have d0 : w4.cell? ⟨b, off, none⟩ = some (.int .u64 1) := by
  have := hq 0 (by omega)
  rw [show off + 0 * 10 + 0 = off by omega] at this
  exact this
 have HN4 := Lib.hid (HN.out w4 hb4)
 have HB4 := Lib.hid (HB3.out.trans (hb4.mono HB3.out.size))
 simp only [List.length_cons, List.length_nil, Nat.zero_add] at h1 ⊢
 clear h3 h4 hq hb4 HT
 go_wp2_with fail
 refine HN4.out.mono ?_
 rintro r w5 ⟨rfl, rfl⟩
 go_wp2_with fail
 go_ret
 exact ⟨rfl, HB4.out⟩
end Hi
end Go.Proofs.YtkajcldmolcllaaGreat
namespace Go.Proofs.YtkajcldmolcllaaGreat
namespace Hi
open Vt (VT Rep below_drew)
open Ev (EV)
open Cm (rowOf EvsIn)
open Cn (BT BtsIn)
variable {X X' Y Y' : Nat → Prop} {u v w w' w0 V V' : World} {hb bt bm bk n cap : Nat} {A A' : Option Addr} {h hx : HM}

theorem add_leads (ho : Chg (HZ hb A) w w') (hr : ∀ r, rowOf A' = some r → rowOf A = some r ∨ w.heap.size ≤ r) : Leads (veil (YH Y hb A) w) (veil (YH Y hb A') w') :=
 leads_veils ho.size fun c hc hx => ⟨fun q => by
  rcases q with q | q | q
  ·exact hx (.inl q)
  ·exact hx (.inr (.inl q))
  ·rcases hr c q with e | e
   ·exact hx (.inr (.inr e))
   ·omega, ho.block c hc (fun e => hx (.inr e))⟩
theorem leads_from (hb : Below w0.heap.size w0 w) (hX : ∀ c, X c → w0.heap.size ≤ c) : Leads w0 (veil X w) :=
 leads_into hb.size fun b o ho _ => ⟨fun e => by have := hX b e; have := (Array.getElem?_eq_some_iff.1 ho).1; omega, (hb.block b (Array.getElem?_eq_some_iff.1 ho).1).trans ho⟩
structure LS (w0 : World) (Y : Nat → Prop) (w : World) (hb bt bm bk n : Nat) (A : Option Addr) (cap : Nat) (h : HM) : Prop where
 hat : HAt Y w hb bt bm bk n A cap h
 low : ∀ c, YH Y hb A c → w0.heap.size ≤ c
 yb : ∀ c, Y c → c < w.heap.size
 bel : Below w0.heap.size w0 w
theorem LS.xb (S : LS w0 Y w hb bt bm bk n A cap h) : ∀ c, YH Y hb A c → c < w.heap.size := fun c hc => by
 rcases hc with e | e | e
 ·exact S.yb c e
 ·rw [e]; exact S.hat.lt
 ·exact S.hat.row.row_lt c e
theorem LS.later (S : LS w0 Y w hb bt bm bk n A cap h) (hw : Below w.heap.size w w') : LS w0 Y w' hb bt bm bk n A cap h :=
 ⟨S.hat.later hw, S.low, fun c hc => Nat.lt_of_lt_of_le (S.yb c hc) hw.size, S.bel.trans (hw.mono S.bel.size)⟩
theorem LS.chg (S : LS w0 Y w hb bt bm bk n A cap h) (hc : Chg Y w w') : LS w0 Y w' hb bt bm bk n A cap h :=
 ⟨S.hat.chg hc, S.low, fun c k => Nat.lt_of_lt_of_le (S.yb c k) hc.size, S.bel.trans (hc.below S.bel.size fun c k => S.low c (.inl k))⟩
theorem chgY_leads (hc : Chg Y w w') : Leads (veil (YH Y hb A) w) (veil (YH Y hb A) w') := leads_veils hc.size fun c k hx => ⟨hx, hc.block c k fun e => hx (.inl e)⟩
theorem LS.bts (S : LS w0 Y w hb bt bm bk n A cap h) {B : Option Addr} {bc : Nat} {bl : List BT} (hB : BtsIn w0 B bc bl) : BtsIn (veil (YH Y hb A) w) B bc bl := BtsIn.leads hB (leads_from S.bel S.low)
theorem yz_leads : Leads (veil (YH Y hb A) w) (veil (HZ hb A) w) := leads_veils (Nat.le_refl _) fun c _ hx => ⟨fun e => hx (.inr e), rfl⟩
theorem LS.radd (S : LS w0 Y w hb bt bm bk n A cap h) {T N : Nat} (ub uk ut um : Value) (hr : RH (veil (YH Y hb A) w) hx ub uk ut um) (hg : Good hx T N) (b : BT) (A2 : Option Addr) (c2 : Nat) (hev : EvsIn (veil (YH Y hb A) w) A2 c2 b.es) (hbin : BIn b) (hT : T + b.es.length ≤ 1100000000000) (hN : N ≤ 1000000) (hfl : b.flow.size ≤ maxLen) (hbat : b.at' < 18446744073709551616) :
  Calls Tryz.prog 13 #[.agg (rhC hx.flow ub hx.s.closed hx.s.next uk ut um), .agg #[.string b.flow, .int .u64 (b.at' : Nat), .slice A2 b.es.length c2]] w (RAdd (YH Y hb A) hx b w) :=
 radd_any hx ub uk ut um b A2 c2 w S.xb hr hg.fine hg.keys (by have := hg.tot; omega) (by have := hg.len; omega) hev hbin.slim hfl hbat
theorem LS.fits (S : LS w0 Y w hb bt bm bk n A cap h) {T N : Nat} (hg : Good h T N) (b : BT) (A2 : Option Addr) (c2 : Nat) (hev : EvsIn (veil (YH Y hb A) w) A2 c2 b.es) (hbin : BIn b) (hT : T + b.es.length ≤ 8000000000000) (hfl : b.flow.size ≤ maxLen) (hbat : b.at' < 18446744073709551616) :
  Calls Tryz.prog 17 #[.pointer (some ⟨hb, 0, none⟩), .agg #[.string b.flow, .int .u64 (b.at' : Nat), .slice A2 b.es.length c2]] w fun r w' => r = .returned (.int .i64 (addM h b).1) ∧ Below w.heap.size w w' :=
 fits_any S.hat S.yb b A2 c2 (EvsIn.leads hev yz_leads) hbat hbin.slim (by have := hbin.len; omega) (by have := hg.tot; omega) hfl
def LAdd (w0 : World) (Y : Nat → Prop) (w : World) (hb : Nat) (A : Option Addr) (h : HM) (b : BT) (r : Ending) (w' : World) : Prop := r = .returned (.int .i64 (addM h b).1) ∧ ∃ bt bm bk n A' cap', LS w0 Y w' hb bt bm bk n A' cap' (addM h b).2 ∧ Leads (veil (YH Y hb A) w) (veil (YH Y hb A') w') ∧ Chg (HZ hb A) w w'
theorem LS.addz (S : LS w0 Y w hb bt bm bk n A cap h) {T N : Nat} (hg : Good h T N) (b : BT) (A2 : Option Addr) (c2 : Nat) (hev : EvsIn (veil (HZ hb A) w) A2 c2 b.es) (hbin : BIn b) (hT : T + b.es.length ≤ 1100000000000) (hN : N ≤ 1000000) (hfl : b.flow.size ≤ maxLen) (hbat : b.at' < 18446744073709551616) :
  Calls Tryz.prog 12 #[.pointer (some ⟨hb, 0, none⟩), .agg #[.string b.flow, .int .u64 (b.at' : Nat), .slice A2 b.es.length c2]] w (LAdd w0 Y w hb A h b) :=
 (add_any S.hat S.yb b A2 c2 hev hbat hbin.slim (by have := hbin.len; omega) (by have := hg.tot; omega) hfl (by have := hg.len; omega)).mono fun r w' ⟨e, hc, bt, bm, bk, n, A', cap', H, hrow⟩ => by
  refine ⟨e, bt, bm, bk, n, A', cap', ⟨H, fun c k => ?_, fun c k => Nat.lt_of_lt_of_le (S.yb c k) hc.size, S.bel.trans (hc.below S.bel.size fun c k => S.low c (.inr k))⟩, add_leads hc hrow, hc⟩
  rcases k with k | k | k
  ·exact S.low c (.inl k)
  ·exact S.low c (.inr (.inl k))
  ·rcases hrow c k with q | q
   ·exact S.low c (.inr (.inr q))
   ·exact Nat.le_trans S.bel.size q
theorem LS.add (S : LS w0 Y w hb bt bm bk n A cap h) {T N : Nat} (hg : Good h T N) (b : BT) (A2 : Option Addr) (c2 : Nat) (hev : EvsIn (veil (YH Y hb A) w) A2 c2 b.es) (hbin : BIn b) (hT : T + b.es.length ≤ 1100000000000) (hN : N ≤ 1000000) (hfl : b.flow.size ≤ maxLen) (hbat : b.at' < 18446744073709551616) :
  Calls Tryz.prog 12 #[.pointer (some ⟨hb, 0, none⟩), .agg #[.string b.flow, .int .u64 (b.at' : Nat), .slice A2 b.es.length c2]] w (LAdd w0 Y w hb A h b) :=
 S.addz hg b A2 c2 (EvsIn.leads hev yz_leads) hbin hT hN hfl hbat
theorem LS.same (S : LS w0 Y w hb bt bm bk n A cap h) {T N : Nat} (ub uk ut um : Value) (hr : RH (veil (YH Y hb A) w) h ub uk ut um) (hg : Good h T N) (hT : T ≤ 1100000000000) (hN : N ≤ 1000000) :
  Calls Tryz.prog 18 #[.pointer (some ⟨hb, 0, none⟩), .agg (rhC h.flow ub h.s.closed h.s.next uk ut um)] w fun r w' => r = .returned (.int .i64 1) ∧ Below w.heap.size w w' :=
 lsame_any S.hat ub uk ut um (hr.leads (leads_veil _ _)) (by have := hg.tot; omega) (by have := hg.len; omega) hg.bs hg.slim
theorem RH.slices {ub uk ut um : Value} (r : RH w h ub uk ut um) : (∃ A n c, ub = .slice A n c) ∧ (∃ A n c, uk = .slice A n c) ∧ (∃ A n c, ut = .slice A n c) ∧ ∃ A n c, um = .slice A n c := by
 refine ⟨?_, ?_, ?_, ?_⟩
 ·obtain ⟨xs, ⟨-, -, A, c, e, -⟩, -⟩ := r.bs; exact ⟨_, _, _, e⟩
 ·obtain ⟨xs, ⟨-, -, A, c, e, -⟩, -⟩ := r.keys; exact ⟨_, _, _, e⟩
 ·obtain ⟨xs, ⟨-, -, A, c, e, -⟩, -⟩ := r.tasks; exact ⟨_, _, _, e⟩
 ·obtain ⟨xs, ⟨-, -, A, c, e, -⟩, -⟩ := r.timers; exact ⟨_, _, _, e⟩
theorem setCells7_chg {g : Nat} (hY : Y g) (a1 a2 a3 a4 a5 a6 a7 : Value) : Chg Y w (((((((w.setCell ⟨g, 0, none⟩ a1).setCell ⟨g, 1, none⟩ a2).setCell ⟨g, 2, none⟩ a3).setCell ⟨g, 3, none⟩ a4).setCell ⟨g, 4, none⟩ a5).setCell ⟨g, 5, none⟩ a6).setCell ⟨g, 6, none⟩ a7) :=
 ((((((Chg.setCell (p := ⟨g, 0, none⟩) hY a1).trans (Chg.setCell (p := ⟨g, 1, none⟩) hY a2)).trans (Chg.setCell (p := ⟨g, 2, none⟩) hY a3)).trans (Chg.setCell (p := ⟨g, 3, none⟩) hY a4)).trans (Chg.setCell (p := ⟨g, 4, none⟩) hY a5)).trans (Chg.setCell (p := ⟨g, 5, none⟩) hY a6)).trans (Chg.setCell (p := ⟨g, 6, none⟩) hY a7)
end Hi
end Go.Proofs.YtkajcldmolcllaaGreat
namespace Go.Proofs.YtkajcldmolcllaaGreat
namespace Hi
open _root_.Go.Proofs.YtkajcldmolcllaaGreat.Nm (ret_int ret_bool)
open Vt (VT Rep below_drew)
open Ev (EV)
open Cm (rowOf EvsIn)
open Cn (BT BtsIn few12_any)
variable {w w' w0 : World} {hb : Nat} {h : HM}

structure LW (w0 : World) (g : Nat) (w : World) (hb : Nat) (h : HM) : Prop where
 ex : ∃ bt bm bk n A cap ub uk ut um, LS w0 (fun c => c = g) w hb bt bm bk n A cap h ∧ RX w g h.flow ub h.s.closed h.s.next uk ut um ∧ RH (veil (YH (fun c => c = g) hb A) w) h ub uk ut um
theorem LW.later {g : Nat} (k : LW w0 g w hb h) (hw : Below w.heap.size w w') : LW w0 g w' hb h := by
 obtain ⟨bt, bm, bk, n, A, cap, ub, uk, ut, um, h1, h2, h3⟩ := k.ex
 exact ⟨bt, bm, bk, n, A, cap, ub, uk, ut, um, h1.later hw, h2.later hw h2.lt, h3.leads (veil_below _ hw)⟩
theorem RX.off {Y : Nat → Prop} {bt bm bk n g cap : Nat} {A : Option Addr} {h : HM} {f : ByteArray} {ub uk ut um : Value} {cl : Int} {nx : Nat} (r : RX w g f ub cl nx uk ut um) (S : LS w0 Y w hb bt bm bk n A cap h) (hY : Y g) (hc : Chg (HZ hb A) w w') : RX w' g f ub cl nx uk ut um :=
 (hc.block g r.lt fun e => by
  rcases e with e | e
  ·exact S.hat.yb (e ▸ hY)
  ·exact (S.hat.yr g e).1 hY).trans r
end Hi
end Go.Proofs.YtkajcldmolcllaaGreat
