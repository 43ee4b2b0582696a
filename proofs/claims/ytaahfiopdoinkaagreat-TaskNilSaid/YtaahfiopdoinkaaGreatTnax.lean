/- The reference's history: Add. -/
import Derived.Test.YtaahfiopdoinkaaGreatTnav
import Derived.Test.YtaahfiopdoinkaaGreatTnaj
import Derived.Test.YtaahfiopdoinkaaGreatTnap
import Derived.Test.YtaahfiopdoinkaaGreatTnaw
import Derived.Test.YtaahfiopdoinkaaGreatTnar
import Derived.Test.YtaahfiopdoinkaaGreatTnam
import Derived.Test.YtaahfiopdoinkaaGreatTnas
import Derived.Test.YtaahfiopdoinkaaGreatTnat
import Derived.Test.YtaahfiopdoinkaaGreatTnan
import Derived.Test.YtaahfiopdoinkaaGreatRows
set_option linter.unusedVariables false
set_option linter.unusedSimpArgs false
open Go.RowKit
namespace Go.Proofs.YtaahfiopdoinkaaGreat
namespace Hi
open _root_.Go.Proofs.YtaahfiopdoinkaaGreat.Nm (ret_int ret_bool)

open Vt (VT Rep below_drew Cloned put5)
open Ev (EV FieldsOk evCells vCells EBox take_drop tk ap rd1 rd2 cons_drop)
open Cm (rowOf EvsIn)
open Cn (BT BB BtsIn box_ev wrongE)
variable {X X' Y Y' : Nat → Prop} {u v w w' V V' : World} {hb bt bm bk n cap : Nat} {A : Option Addr} {h : HM}

end Hi
end Go.Proofs.YtaahfiopdoinkaaGreat
namespace Go.Proofs.YtaahfiopdoinkaaGreat
namespace Hi
open _root_.Go.Proofs.YtaahfiopdoinkaaGreat.Nm (ret_int ret_bool)
open Vt (VT Rep below_drew)
open Ev (EV FieldsOk evCells vCells zeroT)
open Cm (rowOf EvsIn)
open Cn (BT BB BtsIn zero_valid)
variable {X X' Y Y' : Nat → Prop} {u v w w' V V' : World} {hb bt bm bk n cap : Nat} {A : Option Addr} {h : HM}

def eA : EV := ⟨1, 0, 0, 0, ⟨#[112]⟩, ⟨#[]⟩, zeroT⟩
def eB : EV := ⟨7, 1, 0, 0, ⟨#[97]⟩, ⟨#[]⟩, zeroT⟩
theorem eA_valid : eA.valid = true := by
 unfold EV.valid Ev.goodL eA
 simp [Ev.fieldsOf, Vt.same_refl, Ev.pickB, zero_valid]
 try decide
theorem eB_valid : eB.valid = true := by
 unfold EV.valid Ev.goodL eB
 simp [Ev.fieldsOf, Vt.same_refl, Ev.pickB, zero_valid]
 try decide
theorem eA_fields : FieldsOk eA := ⟨by decide, by decide, by decide, by decide, by decide, by decide, by decide, by decide⟩
theorem eB_fields : FieldsOk eB := ⟨by decide, by decide, by decide, by decide, by decide, by decide, by decide, by decide⟩
theorem zero_slim : zeroT.Slim 900 := Vt.slim_mk.2 ⟨by decide, by decide, fun i h => absurd h (by simp)⟩
def aCells : Array Value := #[.int .i64 1, .int .u64 0, .int .i64 0, .int .u64 0, .string ⟨#[112]⟩, .string ⟨#[]⟩, .int .i64 0, .int .i64 0, .float .f64 0, .string ⟨#[]⟩, .slice none 0 0, .int .i64 7, .int .u64 1, .int .i64 0, .int .u64 0, .string ⟨#[97]⟩, .string ⟨#[]⟩, .int .i64 0, .int .i64 0, .float .f64 0, .string ⟨#[]⟩, .slice none 0 0]
theorem ab_in (w : World) (g : Nat) (h : w.heap[g]? = some (.cells aCells 61 (0, 0))) : EvsIn w (some ⟨g, 0, none⟩) 2 [eA, eB] :=
 ⟨by simp, by simp only [maxLen]; omega, fun _ => ⟨g, 0, rfl, (Array.getElem?_eq_some_iff.1 h).1, fun i hi => by
  have hr : Rep w 0 0 zeroT (vCells 0 0 0 ⟨#[]⟩ none 0 0) := Rep.leaf ⟨by omega, by omega, by omega, by omega, by omega, by decide, by decide⟩
  rcases (by simp at hi; omega : i = 0 ∨ i = 1) with rfl | rfl
  ·refine ⟨0, 0, 0, 0, 0, ⟨#[]⟩, none, 0, 0, eA_fields, hr, Nat.zero_le _, fun q hq => ?_⟩
   rcases (by omega : q = 0 ∨ q = 1 ∨ q = 2 ∨ q = 3 ∨ q = 4 ∨ q = 5 ∨ q = 6 ∨ q = 7 ∨ q = 8 ∨ q = 9 ∨ q = 10) with rfl | rfl | rfl | rfl | rfl | rfl | rfl | rfl | rfl | rfl | rfl <;> (simp only [World.cell?, h]; rfl)
  ·refine ⟨0, 0, 0, 0, 0, ⟨#[]⟩, none, 0, 0, eB_fields, hr, Nat.zero_le _, fun q hq => ?_⟩
   rcases (by omega : q = 0 ∨ q = 1 ∨ q = 2 ∨ q = 3 ∨ q = 4 ∨ q = 5 ∨ q = 6 ∨ q = 7 ∨ q = 8 ∨ q = 9 ∨ q = 10) with rfl | rfl | rfl | rfl | rfl | rfl | rfl | rfl | rfl | rfl | rfl <;> (simp only [World.cell?, h]; rfl)⟩⟩
end Hi
end Go.Proofs.YtaahfiopdoinkaaGreat
namespace Go.Proofs.YtaahfiopdoinkaaGreat
namespace Hi
open Vt (VT Rep below_drew)
open Ev (EV)
open Cm (rowOf EvsIn)
open Cn (BT BtsIn)
variable {X X' Y Y' : Nat → Prop} {u v w w' w0 V V' : World} {hb bt bm bk n cap : Nat} {A A' : Option Addr} {h hx : HM}

theorem add_leads (ho : Chg (HZ hb A) w w') (hr : ∀ r, rowOf A' = some r → rowOf A = some r ∨ w.heap.size ≤ r) : Leads (veil (YH Y hb A) w) (veil (YH Y hb A') w') :=
 leads_veils ho.size fun c hc hx => ⟨fun q => by
  rcases q with q | q | q
  ·exact hx (.inl q)
  ·exact hx (.inr (.inl q))
  ·rcases hr c q with e | e
   ·exact hx (.inr (.inr e))
   ·omega, ho.block c hc (fun e => hx (.inr e))⟩
structure LS (w0 : World) (Y : Nat → Prop) (w : World) (hb bt bm bk n : Nat) (A : Option Addr) (cap : Nat) (h : HM) : Prop where
 hat : HAt Y w hb bt bm bk n A cap h
 low : ∀ c, YH Y hb A c → w0.heap.size ≤ c
 yb : ∀ c, Y c → c < w.heap.size
 bel : Below w0.heap.size w0 w
theorem LS.xb (S : LS w0 Y w hb bt bm bk n A cap h) : ∀ c, YH Y hb A c → c < w.heap.size := fun c hc => by
 rcases hc with e | e | e
 ·exact S.yb c e
 ·rw [e]; exact S.hat.lt
 ·exact S.hat.row.row_lt c e
theorem LS.later (S : LS w0 Y w hb bt bm bk n A cap h) (hw : Below w.heap.size w w') : LS w0 Y w' hb bt bm bk n A cap h :=
 ⟨S.hat.later hw, S.low, fun c hc => Nat.lt_of_lt_of_le (S.yb c hc) hw.size, S.bel.trans (hw.mono S.bel.size)⟩
theorem LS.chg (S : LS w0 Y w hb bt bm bk n A cap h) (hc : Chg Y w w') : LS w0 Y w' hb bt bm bk n A cap h :=
 ⟨S.hat.chg hc, S.low, fun c k => Nat.lt_of_lt_of_le (S.yb c k) hc.size, S.bel.trans (hc.below S.bel.size fun c k => S.low c (.inl k))⟩
theorem yz_leads : Leads (veil (YH Y hb A) w) (veil (HZ hb A) w) := leads_veils (Nat.le_refl _) fun c _ hx => ⟨fun e => hx (.inr e), rfl⟩
def LAdd (w0 : World) (Y : Nat → Prop) (w : World) (hb : Nat) (A : Option Addr) (h : HM) (b : BT) (r : Ending) (w' : World) : Prop := r = .returned (.int .i64 (addM h b).1) ∧ ∃ bt bm bk n A' cap', LS w0 Y w' hb bt bm bk n A' cap' (addM h b).2 ∧ Leads (veil (YH Y hb A) w) (veil (YH Y hb A') w') ∧ Chg (HZ hb A) w w'
theorem LS.addz (S : LS w0 Y w hb bt bm bk n A cap h) {T N : Nat} (hg : Good h T N) (b : BT) (A2 : Option Addr) (c2 : Nat) (hev : EvsIn (veil (HZ hb A) w) A2 c2 b.es) (hbin : BIn b) (hT : T + b.es.length ≤ 1100000000000) (hN : N ≤ 1000000) (hfl : b.flow.size ≤ maxLen) (hbat : b.at' < 18446744073709551616) :
  Calls Tryz.prog 40 #[.pointer (some ⟨hb, 0, none⟩), .agg #[.string b.flow, .int .u64 (b.at' : Nat), .slice A2 b.es.length c2]] w (LAdd w0 Y w hb A h b) :=
 (add_any S.hat S.yb b A2 c2 hev hbat hbin.slim (by have := hbin.len; omega) (by have := hg.tot; omega) hfl (by have := hg.len; omega)).mono fun r w' ⟨e, hc, bt, bm, bk, n, A', cap', H, hrow⟩ => by
  refine ⟨e, bt, bm, bk, n, A', cap', ⟨H, fun c k => ?_, fun c k => Nat.lt_of_lt_of_le (S.yb c k) hc.size, S.bel.trans (hc.below S.bel.size fun c k => S.low c (.inr k))⟩, add_leads hc hrow, hc⟩
  rcases k with k | k | k
  ·exact S.low c (.inl k)
  ·exact S.low c (.inr (.inl k))
  ·rcases hrow c k with q | q
   ·exact S.low c (.inr (.inr q))
   ·exact Nat.le_trans S.bel.size q
theorem LS.add (S : LS w0 Y w hb bt bm bk n A cap h) {T N : Nat} (hg : Good h T N) (b : BT) (A2 : Option Addr) (c2 : Nat) (hev : EvsIn (veil (YH Y hb A) w) A2 c2 b.es) (hbin : BIn b) (hT : T + b.es.length ≤ 1100000000000) (hN : N ≤ 1000000) (hfl : b.flow.size ≤ maxLen) (hbat : b.at' < 18446744073709551616) :
  Calls Tryz.prog 40 #[.pointer (some ⟨hb, 0, none⟩), .agg #[.string b.flow, .int .u64 (b.at' : Nat), .slice A2 b.es.length c2]] w (LAdd w0 Y w hb A h b) :=
 S.addz hg b A2 c2 (EvsIn.leads hev yz_leads) hbin hT hN hfl hbat
end Hi
end Go.Proofs.YtaahfiopdoinkaaGreat
namespace Go.Proofs.YtaahfiopdoinkaaGreat
namespace Hi
open _root_.Go.Proofs.YtaahfiopdoinkaaGreat.Nm (ret_int ret_bool)

open Vt (VT Rep below_drew)
open Ev (EV FieldsOk evCells vCells take_drop tk ap rd1 rd2 cons_drop)
open Cm (rowOf EvsIn)
open Cn (BT BB BtsIn bvalid)
variable {X X' Y Y' : Nat → Prop} {u v w w' V V' : World} {cap : Nat} {A : Option Addr} {x : XM} {b : BT}

theorem Tryz.infoRh : (Tryz.prog.info? 84).map (fun i => (i.zero, i.size, i.bytes)) = some (some (.agg #[.string ⟨#[]⟩, .slice none 0 0, .int .i64 0, .int .u64 0, .slice none 0 0, .slice none 0 0, .slice none 0 0]), 7, 128) := by kernel_rfl
end Hi
end Go.Proofs.YtaahfiopdoinkaaGreat
namespace Go.Proofs.YtaahfiopdoinkaaGreat
namespace Hi
open _root_.Go.Proofs.YtaahfiopdoinkaaGreat.Nm (ret_int ret_bool)
open Vt (VT Rep below_drew)
open Ev (EV FieldsOk evCells vCells take_drop tk ap rd1 rd2 cons_drop)
open Cm (rowOf EvsIn)
open Cn (BT BB BtsIn bvalid)
variable {E Z : Nat → Prop} {u v w w' V V' : World} {xb : Nat} {x : XM}

theorem HSame.refl (h : HM) : HSame h h := ⟨rfl, rfl, rfl, rfl, rfl, rfl, fun i _ _ => ⟨rfl, rfl, Cm.evsSame_refl _⟩, rfl, fun i _ _ => ⟨rfl, rfl, rfl, rfl, rfl, Vt.same_refl _⟩⟩
structure XSame (x y : XM) : Prop where
 len : y.flows.length = x.flows.length
 flows : ∀ i (h : i < x.flows.length) (h' : i < y.flows.length), HSame x.flows[i] y.flows[i]
 clock : x.clock = y.clock
theorem XSame.refl (x : XM) : XSame x x := ⟨rfl, fun i _ _ => HSame.refl _, rfl⟩
theorem XSame.names {x y : XM} (h : XSame x y) : x.flows.map (·.flow) = y.flows.map (·.flow) := by
 refine List.ext_getElem (by simp [h.len]) fun i h1 h2 => ?_
 rw [List.getElem_map, List.getElem_map]
 exact (h.flows i (by simpa using h1) (by simpa using h2)).flow
theorem own_off {base n k : Nat} {T : TypeId} {v : Value} {xs : List Value} (h : w.ownsRow base T k v n xs) (hb : ∀ r, v.ownBlock = some r → w'.heap[r]? = w.heap[r]?) : w'.ownsRow base T k v n xs := by
 refine ⟨h.1, ?_⟩
 rcases h.2 with q | ⟨r, cp, cur, rfl, q2, q3, q4, q5, q6, q7⟩
 ·exact .inl q
 ·exact .inr ⟨r, cp, cur, rfl, q2, (hb r rfl).trans q3, q4, q5, q6, q7⟩
def SRows (base : Nat) (W : World) (v5 v6 : Value) (ns os : List ByteArray) : Prop := W.ownsRow base 9 1 v5 ns.length (ns.map .string) ∧ W.ownsRow base 9 1 v6 os.length (os.map .string) ∧ ∀ r, v5.ownBlock = some r → v6.ownBlock ≠ some r
theorem SRows.later {base : Nat} {v5 v6 : Value} {ns os : List ByteArray} (h : SRows base w v5 v6 ns os) (hb : Below w.heap.size w w') : SRows base w' v5 v6 ns os := ⟨own_stay h.1 hb, own_stay h.2.1 hb, h.2.2⟩
theorem SRows.name {base : Nat} {v5 v6 v' : Value} {ns os : List ByteArray} {f : ByteArray} (h : SRows base w v5 v6 ns os) (ho : w'.ownsRow base 9 1 v' (ns.length + 1) (ns.map .string ++ [.string f])) (hg : w.grownBy w' v5.ownBlock) (hat : v'.ownBlock = v5.ownBlock ∨ v'.ownBlock = some w.heap.size) : SRows base w' v' v6 (ns ++ [f]) os := by
 refine ⟨by rw [List.length_append, List.map_append]; exact ho, own_off h.2.1 fun r hr => hg.block r (h.2.1.lt r hr).2 fun e => h.2.2 r e.symm hr, fun r hr e => ?_⟩
 rcases hat with q | q
 ·exact h.2.2 r (q.symm.trans hr) e
 ·have e2 : w.heap.size = r := Option.some.inj (q.symm.trans hr)
  have := (h.2.1.lt r e).2
  omega
theorem SRows.open_ {base : Nat} {v5 v6 v' : Value} {ns os : List ByteArray} {f : ByteArray} (h : SRows base w v5 v6 ns os) (ho : w'.ownsRow base 9 1 v' (os.length + 1) (os.map .string ++ [.string f])) (hg : w.grownBy w' v6.ownBlock) (hat : v'.ownBlock = v6.ownBlock ∨ v'.ownBlock = some w.heap.size) : SRows base w' v5 v' ns (os ++ [f]) := by
 refine ⟨own_off h.1 fun r hr => hg.block r (h.1.lt r hr).2 fun e => h.2.2 r hr e.symm, by rw [List.length_append, List.map_append]; exact ho, fun r hr e => ?_⟩
 rcases hat with q | q
 ·exact h.2.2 r hr (q.symm.trans e)
 ·have e2 : w.heap.size = r := Option.some.inj (q.symm.trans e)
  have := (h.1.lt r hr).2
  omega
end Hi
end Go.Proofs.YtaahfiopdoinkaaGreat
namespace Go.Proofs.YtaahfiopdoinkaaGreat
namespace Hi
open _root_.Go.Proofs.YtaahfiopdoinkaaGreat.Nm (ret_int ret_bool)
open Vt (VT Rep below_drew)
open Ev (EV FieldsOk evCells vCells zeroT)
open Cm (rowOf EvsIn)
open Cn (BT BB BtsIn bvalid EvBytes efew)
open Vf (eform ve_of)
variable {E Z : Nat → Prop} {u v w w' V V' : World} {xb : Nat} {x : XM}

theorem few_v2 {e : EV} (h : efew e = true) : e.v.few = true := by
 unfold efew at h
 simp only [Bool.and_eq_true] at h
 exact h.1.1
theorem eform_len2 {e : EV} (hv : e.valid = true) (hfew : e.v.few = true) : (eform e).length ≤ 30000 := by
 have V := ve_of hv
 have h1 := V.s1; have h2 := V.t1
 have h3 := Vf.form_len_few hfew
 unfold eform
 rw [Vf.sel6]
 have hs : ∀ s : ByteArray, s.size ≤ 1000 → (Pf.sform s).length ≤ 1011 := fun s h => by unfold Pf.sform; rw [List.length_append, Bt.sb_len]; have := Bt.ubytes_len 10 s.size; omega
 have hi : ∀ (b : Bool) (l : List Nat) (n : Nat), l.length ≤ n → (if b = true then l else []).length ≤ n := fun b l n h => by split <;> simp [h]
 have a0 := hi (Vf.hasF e 0) _ _ (Bt.ubytes_len 10 e.id); have a1 := hi (Vf.hasF e 1) _ _ (Bt.ubytes_len 10 e.n.toNat); have a2 := hi (Vf.hasF e 2) _ _ (Bt.ubytes_len 10 e.at')
 have a3 := hi (Vf.hasF e 3) _ _ (hs _ h1); have a4 := hi (Vf.hasF e 4) _ _ (hs _ h2); have a5 := hi (Vf.hasF e 5) _ _ h3
 have a6 := Bt.ubytes_len 10 e.k.toNat
 simp only [List.length_append, List.length_singleton]
 omega
theorem flat_le2 {es : List EV} {M : Nat} (h : ∀ e ∈ es, (eform e).length ≤ M) : ((es.map eform).flatten).length ≤ es.length * M := by
 induction es with
 | nil => simp
 | cons x l ih =>
  have h1 := h x (List.mem_cons_self ..)
  have h2 := ih fun e he => h e (List.mem_cons_of_mem _ he)
  simp only [List.map_cons, List.flatten_cons, List.length_append, List.length_cons, Nat.succ_mul]
  omega
theorem forms_of {b : BT} (hl : b.es.length ≤ 2097152) (hF : ∀ k (hk : k < b.es.length), efew b.es[k] = true) (hv : bvalid b.flow b.at' b.es = true) : EvBytes b.es (b.es.map eform) ∧ (b.es.map eform).flatten.length ≤ 17592186044416 ∧ b.es.length ≤ 1099511627775 := by
 have hall : ∀ e ∈ b.es, e.valid = true := by
  unfold bvalid at hv
  simp only [Bool.and_eq_true, Bool.not_eq_true', List.any_eq_false] at hv
  intro e he
  have := hv.2 e he
  unfold Cn.wrongE at this
  simpa using this
 have hfew : ∀ e ∈ b.es, e.v.few = true := fun e he => by
  obtain ⟨i, hi, rfl⟩ := List.getElem_of_mem he
  exact few_v2 (hF i hi)
 refine ⟨⟨by simp, fun i h h' lo hi vk vn vf vs A m c w hf hr hz => ?_⟩, ?_, by omega⟩
 ·rw [List.getElem_map]
  exact Vf.ebytes_any b.es[i] (hall _ (List.getElem_mem h)) hf (hfew _ (List.getElem_mem h)) lo hi vk vn vf vs A m c w hr hz
 ·have := flat_le2 (es := b.es) (M := 30000) fun e he => eform_len2 (hall e he) (hfew e he)
  omega

end Hi
end Go.Proofs.YtaahfiopdoinkaaGreat
namespace Go.Proofs.YtaahfiopdoinkaaGreat
namespace Ta
open _root_.Go.Proofs.YtaahfiopdoinkaaGreat.Nm (ret_int ret_bool)
open Vt (VT Rep below_drew)
open Ev (EV FieldsOk evCells vCells zeroT)
open Cm (rowOf EvsIn)
open Cn (BT BB BtsIn bvalid EvBytes efew)
open Vf (eform)
open Hi (TK HM XM XGood XAt CIn box_cell addM addX addM_run kind1 bOk eA eB eA_valid eB_valid zero_slim aCells ab_in BIn xnew_any xadd_any forms_of xgood_new xgood_add veil veil_off)
attribute [local go_sem] Oper.semAt_some
variable {E Z : Nat → Prop} {w w' : World} {xb : Nat} {x : XM}

def bT : BT := ⟨⟨#[119]⟩, 5, [eA, eB]⟩
def hT : HM := ⟨⟨#[119]⟩, [bT], ⟨[⟨1, ⟨#[97]⟩, zeroT, 0, false, 5⟩], [], [], 2, 0⟩⟩
def rT : RF := ⟨⟨#[119]⟩, 1, 1, 5⟩
theorem bT_valid : bvalid bT.flow bT.at' bT.es = true := by
 unfold bvalid
 simp [bT, Cn.wrongE, eA_valid, eB_valid]
 try decide
theorem bT_addM : addM (HM.new ⟨#[119]⟩) bT = (0, hT) := by
 rw [addM_run (by unfold bOk; simp [bT, eA_valid, eB_valid]) rfl rfl (by simp [bT, HM.at', HM.new, kind1, eA])]
 rfl
theorem bT_add : addX XM.new bT = (0, ⟨[hT], [bT]⟩) := by
 unfold addX
 rw [if_neg (by rw [bT_valid]; decide), if_neg (by simp [XM.clock, XM.new, Hi.clockL])]
 have e : Hi.histX XM.new bT.flow = HM.new ⟨#[119]⟩ := rfl
 rw [e, bT_addM]
 rfl
theorem bT_few : ∀ k (hk : k < bT.es.length), efew bT.es[k] = true := fun k hk => by
 rcases (by have : bT.es.length = 2 := rfl; omega : k = 0 ∨ k = 1) with rfl | rfl
 ·show efew eA = true
  unfold efew eA
  simp only [VT.few, zeroT, Vt.weight_mk, Vt.small_mk, Vt.weightL]
  decide
 ·show efew eB = true
  unfold efew eB
  simp only [VT.few, zeroT, Vt.weight_mk, Vt.small_mk, Vt.weightL]
  decide
theorem bT_bin : BIn bT := ⟨by decide, fun i hi => by
 rcases (by have : bT.es.length = 2 := rfl; omega : i = 0 ∨ i = 1) with rfl | rfl <;> exact zero_slim⟩
theorem xT_good : XGood ⟨[hT], [bT]⟩ 2 1 := by
 have h := xgood_add xgood_new bT bT_bin
 rw [bT_add] at h
 exact h
theorem xT_refs : (XM.mk [hT] [bT]).flows.flatMap (refsOf false 5) = [rT] := rfl
set_option maxRecDepth 100000 in
set_option maxHeartbeats 2000000 in
theorem talive_any (w : World) : Calls Tryz.prog 9 #[] w fun r w' => r = .returned (.bool true) ∧ Below w.heap.size w w' := by
 go_enter Tryz.func9, Tryz.ntmps9
 go_wp2_with fail
 refine (xnew_any w (fun _ => False) (fun _ h => h.elim)).mono ?_
 rintro r w1 ⟨xb, Z, rfl, hb1, H, hZ⟩
 obtain ⟨W2, hW2⟩ : ∃ W2, W2 = w1.alloc (.cells aCells 61) := ⟨_, rfl⟩
 have hb12 : Below w1.heap.size w1 W2 := by rw [hW2]; exact (Below.refl _ _).alloc (Nat.le_refl _) _
 have hev : EvsIn (veil Z W2) (some ⟨w1.heap.size, 0, none⟩) 2 bT.es := ab_in _ _ (by
  rw [veil_off (fun q => by have := H.zlt q; omega), hW2]
  exact heap_alloc_new w1 _)
 have HC := Lib.hid (xadd_any (H.later hb12) xgood_new bT _ 2 hev bT_bin (by decide) (by decide) (by decide) (by decide) (by decide) (fun hv => forms_of (by decide) bT_few hv))
 rw [show bT.es.length = 2 from rfl, show bT.flow = ⟨#[119]⟩ from rfl, show bT.at' = 5 from rfl] at HC
 have HB1 := Lib.hid hb1; have HB12 := Lib.hid hb12; have HZ := Lib.hid hZ
 unfold aCells at hW2
 clear hev hb12 hb1 H hZ
 replace hW2 := Lib.hid hW2
 go_wp2_with fail
 rw [← hW2.out]
 refine HC.out.mono ?_
 rintro r w3 ⟨rfl, hchg, -, Z3, H3, hZ3⟩
 rw [bT_add] at H3
 rw [bT_add]
 have HB3 : Hid (Below w.heap.size w w3) := Lib.hid (by
  have hb2 := HB1.out.trans (HB12.out.mono HB1.out.size)
  refine hb2.trans (hchg.below hb2.size fun c hc => ?_)
  rcases HZ.out c hc with e | e
  ·exact e.elim
  ·exact e)
 have HR := Lib.hid (ready_any H3 xT_good (by decide) (by decide) (by decide) (fun h hh => by simp at hh; rw [hh]; decide) 5 [rT] (by rw [xT_refs]; exact sort_one _ _ (by decide)))
 clear H3 hchg hZ3 HC
 go_wp2_with fail
 refine HR.out.mono ?_
 rintro r w4 ⟨A, c, rfl, hb4, hin⟩
 obtain ⟨-, -, A', c', e1, hle, hcm, hrd⟩ := hin
 obtain ⟨rfl, -, rfl⟩ : A = A' ∧ True ∧ c = c' := by injection e1 with a1 a2 a3; exact ⟨a1, trivial, a3⟩
 obtain ⟨b, off, rfl, hbl, hq⟩ := hrd (by decide)
 have c0 : w4.cell? ⟨b, off, none⟩ = some (.string ⟨#[119]⟩) := hq 0 _ rfl
 have c1 : w4.cell? ⟨b, off + 1, none⟩ = some (.int .u64 1) := hq 1 _ rfl
 have c2 : w4.cell? ⟨b, off + 2, none⟩ = some (.int .i64 1) := hq 2 _ rfl
 have c3 : w4.cell? ⟨b, off + 3, none⟩ = some (.int .u64 5) := hq 3 _ rfl
 have HB4 : Hid (Below w.heap.size w w4) := Lib.hid (HB3.out.trans (hb4.mono HB3.out.size))
 rw [show [rT].length = 1 from rfl] at hle ⊢
 simp only [maxLen] at hcm
 clear hrd hq e1 HR hb4
 go_wp2_with fail
 go_ret
 exact ⟨rfl, HB4.out⟩
end Ta
end Go.Proofs.YtaahfiopdoinkaaGreat
namespace Go.Proofs.YtaahfiopdoinkaaGreat
namespace Ta
open _root_.Go.Proofs.YtaahfiopdoinkaaGreat.Nm (ret_int ret_bool)
attribute [local go_sem] Oper.semAt_some
set_option maxRecDepth 100000 in
set_option maxHeartbeats 2000000 in
theorem tnil_walk (now id : Nat) (w : World) : Calls Tryz.prog 6 #[.int .u64 (now : Nat), .int .u64 (id : Nat)] w fun r w' => r = .returned (.bool true) ∧ Below w.heap.size w w' := by
 have HN := Lib.hid (nil_next now w)
 have HF := Lib.hid fun W => nil_find ⟨#[119]⟩ id W
 have HA := Lib.hid fun W => talive_any W
 have HR := Lib.hid fun W => nil_ready now W
 have HL := Lib.hid fun W => nil_flying W
 have HE := Lib.hid fun W => nil_expired now W
 have HD := Lib.hid fun W => nil_due now W
 unfold zeroTaskC at HF
 go_enter Tryz.func6, Tryz.ntmps6
 go_wp2_with fail
 refine HN.out.mono ?_
 rintro r w1 ⟨rfl, hb1⟩
 have HB1 := Lib.hid hb1
 clear hb1
 go_wp2_with fail
 refine (HF.out _).mono ?_
 rintro r w2 ⟨rfl, hb2⟩
 have HB2 := Lib.hid (HB1.out.trans (hb2.mono HB1.out.size))
 clear hb2
 obtain ⟨W3, hW3⟩ : ∃ W3, W3 = w2.alloc (.cells #[.int .u64 0, .string ⟨#[]⟩, .int .i64 0, .int .i64 0, .float .f64 0, .string ⟨#[]⟩, .slice none 0 0, .int .i64 0, .bool false, .int .u64 0] 36) := ⟨_, rfl⟩
 have HB3 : Hid (Below w.heap.size w W3) := Lib.hid (by rw [hW3]; exact HB2.out.alloc HB2.out.size _)
 have hx3 : W3.heap[w2.heap.size]? = some (.cells #[.int .u64 0, .string ⟨#[]⟩, .int .i64 0, .int .i64 0, .float .f64 0, .string ⟨#[]⟩, .slice none 0 0, .int .i64 0, .bool false, .int .u64 0] 36 (0, 0)) := by rw [hW3]; exact heap_alloc_new _ _
 have HC3 : Hid (∀ W, Below W3.heap.size W3 W → W.cell? ⟨w2.heap.size, 0, none⟩ = some (.int .u64 0)) := Lib.hid fun W hW => (hW.cell (p := ⟨w2.heap.size, 0, none⟩) (by rw [hW3]; simp)).trans (by simp [World.cell?, hx3])
 obtain ⟨g, hg⟩ : ∃ g, g = w2.heap.size := ⟨_, rfl⟩
 rw [← hg] at HC3
 clear hx3
 replace hW3 := Lib.hid hW3; replace hg := Lib.hid hg
 go_upto_region 3 with fail
 rw [← hW3.out, ← hg.out]
 go_wp2_with fail
 refine (HA.out _).mono ?_
 rintro r w4 ⟨rfl, hb4⟩
 have HB4 := Lib.hid hb4
 clear hb4
 go_wp2_with fail
 refine (HR.out _).mono ?_
 rintro r w5 ⟨rfl, hb5⟩
 have HB5 := Lib.hid (HB4.out.trans (hb5.mono HB4.out.size))
 clear hb5
 go_wp2_with fail
 refine (HL.out _).mono ?_
 rintro r w6 ⟨rfl, hb6⟩
 have HB6 := Lib.hid (HB5.out.trans (hb6.mono HB5.out.size))
 clear hb6
 go_wp2_with fail
 refine (HE.out _).mono ?_
 rintro r w7 ⟨rfl, hb7⟩
 have HB7 := Lib.hid (HB6.out.trans (hb7.mono HB6.out.size))
 clear hb7
 go_wp2_with fail
 refine (HD.out _).mono ?_
 rintro r w8 ⟨rfl, hb8⟩
 have HB8 := Lib.hid (HB7.out.trans (hb8.mono HB7.out.size))
 clear hb8
 have c0 := HC3.out _ HB8.out
 go_wp2_with fail
 go_ret
 exact ⟨rfl, HB3.out.trans (HB8.out.mono HB3.out.size)⟩
open Go.ChangeShapes Go.WideShapes Go.ChangeAt
set_option maxRecDepth 100000 in
theorem tnil_open {H : Type} {enc : TypeId × Value → H} {base b1 : Nat} {spare : Nat → Bool} {held : Bool} {d0 d1 : DataW H} {p0 p1 : List MemPlace} (v0 v1 : Value) (W : World)
  (o0 : Value.okWide Tryz.prog W .any base 23 v0) (k0 : DataW.Trod enc Tryz.prog W b1 spare held 23 v0 d0 p0)
  (o1 : Value.okWide Tryz.prog W .any base 23 v1) (k1 : DataW.Trod enc Tryz.prog W b1 spare held 23 v1 d1 p1) :
  Calls Tryz.prog 6 #[v0, v1] W fun e w' => e = .returned (.bool true) ∧ Below W.heap.size W w' := by
 obtain ⟨a0, rfl, rfl, rfl, w0⟩ := open_int Tryz.underlying23 o0 k0
 obtain ⟨a1, rfl, rfl, rfl, w1⟩ := open_int Tryz.underlying23 o1 k1
 simp [Lit.wf, IntKind.min, IntKind.max, IntKind.bits, IntKind.signed] at w0 w1
 obtain ⟨n0, rfl⟩ := Int.eq_ofNat_of_zero_le w0.1
 obtain ⟨n1, rfl⟩ := Int.eq_ofNat_of_zero_le w1.1
 exact tnil_walk n0 n1 W
end Ta
end Go.Proofs.YtaahfiopdoinkaaGreat
