/- Forms of events: event.Bytes of any valid small event; no form is the beginning of another. -/
import Derived.Test.YtaahfiopdoinkaaGreatTfat
import Derived.Test.YtaahfiopdoinkaaGreatTfad
import Derived.Test.YtaahfiopdoinkaaGreatTfab
import Derived.Test.YtaahfiopdoinkaaGreatTfai
import Derived.Test.YtaahfiopdoinkaaGreatTfah
set_option maxRecDepth 100000
variable {p : Prop}
set_option linter.unusedVariables false
set_option linter.unusedSimpArgs false
open Go.RowKit
namespace Go.Proofs.YtaahfiopdoinkaaGreat
namespace Vf
open _root_.Go.Proofs.YtaahfiopdoinkaaGreat.Nm (Df Dn Dd)
open Bt (BOwn BIn Dj sb DU sel Ou)
open Pf (zz zz_lt be8 Gh Ud)
open Vt (VT Rep BoxAt Da KidsAt Fl)
open Ev (EV Dk Db Di EBox SJ zeroT fieldsOf nameOf YG Gb Ot DA)
open Cm (Gr)
def Fk (e : EV) (j : Nat) : Bool := (fieldsOf e.k.toNat).contains j
def FP (e : EV) : List Nat := [1] ++ Dj 10 e.k.toNat ++ sel [Fk e 0, Fk e 1, Fk e 2, Fk e 3, Fk e 4, Fk e 5] [Dj 10 e.id, Dj 10 e.n.toNat, Dj 10 e.at', Gh e.name, Gh e.text, Pf.VT.form e.v] 6
structure VE (e : EV) : Prop where
 k1 : 1 ≤ e.k
 k2 : e.k ≤ 11
 i0 : Fk e 0 = false → e.id = 0
 i1 : Fk e 0 = true → 0 < e.id
 n0 : Fk e 1 = false → e.n = 0
 n1 : 0 ≤ e.n
 n2 : e.n ≤ 2147483647
 n3 : Fk e 1 = true → 1 ≤ e.n
 a0 : Fk e 2 = false → e.at' = 0
 a1 : e.at' ≤ 9223372036854775807
 s0 : Fk e 3 = false → e.name = ⟨#[]⟩
 s1 : e.name.size ≤ 1000
 s2 : Fk e 3 = true → e.name.toList.isEmpty = false
 t0 : Fk e 4 = false → e.text = ⟨#[]⟩
 t1 : e.text.size ≤ 1000
 v0 : Fk e 5 = false → e.v.same zeroT = true
 v1 : e.v.valid 8 = true
theorem toList_nil {s : ByteArray} (h : s.toList.isEmpty = true) : s = ⟨#[]⟩ := by
 rw [Vt.toList_data] at h
 cases s with | mk d => simp at h; rw [h]
theorem UQ : zeroT.valid 8 = true := by unfold zeroT; rw [Vt.Gu]; simp; decide
theorem ve_of {e : EV} (h : e.valid = true) : VE e := by
 unfold EV.valid Ot at h
 simp only [Bool.and_eq_true, decide_eq_true_iff, List.all_cons, List.all_nil, Bool.and_true] at h
 obtain ⟨⟨k1, k2⟩, h0, h1, h2, h3, h4, h5⟩ := h
 have pick : ∀ {b f z : Bool}, DA b f z = true → (b = true → f = true) ∧ (b = false → z = true) := fun {b f z} hh => by
  unfold DA at hh
  cases b with
  | true => rw [if_pos rfl] at hh; exact ⟨fun _ => hh, fun h => Bool.noConfusion h⟩
  | false => rw [if_neg (by simp)] at hh; exact ⟨fun h => Bool.noConfusion h, fun _ => hh⟩
 obtain ⟨p0, q0⟩ := pick h0
 obtain ⟨p1, q1⟩ := pick h1
 obtain ⟨p2, q2⟩ := pick h2
 obtain ⟨p3, q3⟩ := pick h3
 obtain ⟨p4, q4⟩ := pick h4
 obtain ⟨p5, q5⟩ := pick h5
 have e1 : ∀ b : Bool, b = true ∨ b = false := fun b => by cases b <;> simp
 have fn : ∀ h : Fk e 1 = false, e.n = 0 := fun h => by have := q1 h; simpa using this
 have tn : ∀ h : Fk e 1 = true, 1 ≤ e.n ∧ e.n ≤ 2147483647 := fun h => by have := p1 h; simpa using this
 have fs : ∀ h : Fk e 3 = false, e.name = ⟨#[]⟩ := fun h => toList_nil (q3 h)
 have ts : ∀ h : Fk e 3 = true, e.name.toList.isEmpty = false ∧ e.name.size ≤ 1000 := fun h => by
  have := p3 h
  simp only [Bool.and_eq_true, Bool.not_eq_true', decide_eq_true_iff] at this
  exact this
 have ft : ∀ h : Fk e 4 = false, e.text = ⟨#[]⟩ := fun h => toList_nil (q4 h)
 refine ⟨k1, k2, fun h => by have := q0 h; simpa using this, fun h => by have := p0 h; simpa using this, fn, ?_, ?_, fun h => (tn h).1, fun h => by have := q2 h; simpa using this, ?_, fs, ?_, fun h => (ts h).1, ft, ?_, fun h => q5 h, ?_⟩
 ·rcases e1 (Fk e 1) with h | h
  ·have := tn h; omega
  ·rw [fn h]; omega
 ·rcases e1 (Fk e 1) with h | h
  ·exact (tn h).2
  ·rw [fn h]; omega
 ·rcases e1 (Fk e 2) with h | h
  ·have := p2 h; simpa using this
  ·have : e.at' = 0 := by have := q2 h; simpa using this
   omega
 ·rcases e1 (Fk e 3) with h | h
  ·exact (ts h).2
  ·rw [fs h]; decide
 ·rcases e1 (Fk e 4) with h | h
  ·have := p4 h; simpa using this
  ·rw [ft h]; decide
 ·rcases e1 (Fk e 5) with h | h
  ·exact p5 h
  ·rw [Vt.Sq e.v zeroT 8 (q5 h)]; exact UQ
theorem Yf (e : EV) (hval : e.valid = true) (hf : Dk e) (hfew : e.v.few = true) (lo hi : Nat) (vk vn : Int) (vf : Nat) (vs : ByteArray) (A : Option Addr) (m c : Nat) (w : World) (hv : Rep w lo hi e.v (Di vk vn vf vs A m c)) (hz : hi ≤ w.heap.size) :
  Calls Tryz.prog 70 #[.agg (Db e vk vn vf vs A m c)] w fun r w' => ∃ v, r = .returned (.tuple #[v, .bool true]) ∧ BOwn w' w.heap.size v (FP e) ∧ Below w.heap.size w w' := by
 have V := ve_of hval
 have hev := fun W (hW : Below w.heap.size w W) => Gb e W lo hi _ ⟨hf, vk, vn, vf, vs, A, m, c, rfl, hv.later (hW.mono hz)⟩ (Nat.le_trans hz hW.size)
 obtain ⟨kn, hkn⟩ : ∃ kn : Nat, e.k = kn := ⟨e.k.toNat, by have := V.k1; omega⟩
 obtain ⟨nn, hnn⟩ : ∃ nn : Nat, e.n = nn := ⟨e.n.toNat, by have := V.n1; omega⟩
 have k1 := V.k1; have k2 := V.k2; have n2 := V.n2
 have hkt : e.k.toNat = kn := by omega
 have hnt : e.n.toNat = nn := by omega
 unfold FP Fk
 rw [hkt, hnt]
 unfold Db at hev ⊢
 rw [hkn, hnn] at hev ⊢
 exact Ou kn e.id nn e.at' e.name e.text (by omega) hf.i1 (by omega) hf.a1 V.s1 V.t1 vk vn vf vs A m c (nameOf kn) ((fieldsOf kn).contains 0) ((fieldsOf kn).contains 1) ((fieldsOf kn).contains 2) ((fieldsOf kn).contains 3) ((fieldsOf kn).contains 4) ((fieldsOf kn).contains 5) (Pf.VT.form e.v) (by have := GV hfew; omega) w
  (fun W hW => (hev W hW).mono fun r w' h => by rw [hval] at h; exact h)
  (fun W => YG kn (by omega) (by omega) W)
  (fun W hW => Xk e.v hfew lo hi vk vn vf vs A m c W (hv.later (hW.mono hz)) (Nat.le_trans hz hW.size) V.v1)
theorem sel6 (b0 b1 b2 b3 b4 b5 : Bool) (p0 p1 p2 p3 p4 p5 : List Nat) : sel [b0, b1, b2, b3, b4, b5] [p0, p1, p2, p3, p4, p5] 6 = (if b0 then p0 else []) ++ ((if b1 then p1 else []) ++ ((if b2 then p2 else []) ++ ((if b3 then p3 else []) ++ ((if b4 then p4 else []) ++ (if b5 then p5 else []))))) := by simp [sel]
end Vf
namespace Rd
open _root_.Go.Proofs.YtaahfiopdoinkaaGreat.Nm (Df)
open Bt (Dj sb)
open Vt (VT)
open Ev (EV fieldsOf)
open Bt (GM)
open Pf (Gh zz be8 UH YM)
theorem YQ : Df 0 = 0 := by decide
open _root_.Go.Proofs.YtaahfiopdoinkaaGreat.Nm (Dn Dd)
open Vt (Rep)
open Ev (Dk Db Di SJ zeroT Ot DA)
open Cm (PE)
theorem rv1 (b : Bool) (id : Nat) : (!(b != ((id : Int) != 0))) = DA b (decide (0 < id)) ((id : Int) == 0) := by
 by_cases h : id = 0
 ·subst h; cases b <;> rfl
 ·have h1 : ((id : Int) == 0) = false := beq_eq_false_iff_ne.2 (by omega)
  have h2 : ((id : Int) != 0) = true := by simp [bne, h1]
  rw [h1, h2, decide_eq_true (by omega)]
  cases b <;> rfl
theorem rv2 (b : Bool) (n : Int) : (!((b && (decide (n < 1) || decide (2147483647 < n))) || (!b && (n != 0)))) = DA b (decide (1 ≤ n ∧ n ≤ 2147483647)) (n == 0) := by
 cases b with
 | true =>
  unfold DA
  rw [if_pos rfl]
  by_cases h1 : n < 1
  ·rw [decide_eq_true h1, decide_eq_false (by omega : ¬ (1 ≤ n ∧ n ≤ 2147483647))]; rfl
  ·by_cases h2 : 2147483647 < n
   ·rw [decide_eq_false h1, decide_eq_true h2, decide_eq_false (by omega : ¬ (1 ≤ n ∧ n ≤ 2147483647))]; rfl
   ·rw [decide_eq_false h1, decide_eq_false h2, decide_eq_true (by omega : (1 ≤ n ∧ n ≤ 2147483647))]; rfl
 | false =>
  unfold DA
  rw [if_neg (by simp)]
  simp [bne]
theorem rv3 (b : Bool) (a : Nat) : (!(decide ((9223372036854775807 : Int) < (a : Int)) || (!b && ((a : Int) != 0)))) = DA b (decide (a ≤ 9223372036854775807)) ((a : Int) == 0) := by
 by_cases h : (9223372036854775807 : Int) < (a : Int)
 ·rw [decide_eq_true h, decide_eq_false (by omega : ¬ a ≤ 9223372036854775807), beq_eq_false_iff_ne.2 (by omega : (a : Int) ≠ 0)]
  cases b <;> rfl
 ·rw [decide_eq_false h, decide_eq_true (by omega : a ≤ 9223372036854775807)]
  cases b <;> simp [DA, bne]
theorem size_empty {s : ByteArray} (h : s.toList.isEmpty = true) : s.size = 0 := by rw [Vf.toList_nil h]; rfl
theorem rv4 (b c : Bool) (s t : ByteArray) : (!((b != !s.toList.isEmpty) || decide ((1000 : Int) < (s.size : Int)) || decide ((1000 : Int) < (t.size : Int)) || (!c && !t.toList.isEmpty))) = (DA b (!s.toList.isEmpty && decide (s.size ≤ 1000)) s.toList.isEmpty && DA c (decide (t.size ≤ 1000)) t.toList.isEmpty) := by
 have e1 : ∀ x : ByteArray, decide ((1000 : Int) < (x.size : Int)) = !decide (x.size ≤ 1000) := fun x => by
  by_cases h : x.size ≤ 1000
  ·rw [decide_eq_true h, decide_eq_false (by omega)]; rfl
  ·rw [decide_eq_false h, decide_eq_true (by omega)]; rfl
 rw [e1, e1]
 have hs : s.toList.isEmpty = true → decide (s.size ≤ 1000) = true := fun h => decide_eq_true (by rw [size_empty h]; omega)
 have ht : t.toList.isEmpty = true → decide (t.size ≤ 1000) = true := fun h => decide_eq_true (by rw [size_empty h]; omega)
 revert hs ht
 generalize s.toList.isEmpty = E
 generalize t.toList.isEmpty = T
 generalize decide (s.size ≤ 1000) = x
 generalize decide (t.size ≤ 1000) = y
 unfold DA
 revert b c E T x y
 decide
theorem rv5 (b : Bool) (v : VT) : (v.valid 8 && (b || (v.k == 0))) = DA b (v.valid 8) (v.same zeroT) := by
 cases b with
 | true => unfold DA; simp
 | false =>
  unfold DA
  rw [if_neg (by simp), Bool.false_or, Bool.eq_iff_iff, Bool.and_eq_true, beq_iff_eq]
  obtain ⟨k, n, f, s, l⟩ := v
  constructor
  ·rintro ⟨h, rfl⟩
   rcases Pf.PI h with ⟨-, rfl, h3, h4, rfl⟩ | ⟨h0, -⟩ | ⟨h0, -⟩ | ⟨h0, -⟩ | ⟨h0, -⟩
   ·obtain rfl := Pf.Ud h4
    exact Pf.Xq (by rw [h3, YQ]) rfl fun i hi => absurd hi (by simp)
   all_goals exact absurd h0 (by decide)
  ·intro h
   refine ⟨by rw [Vt.Sq _ _ 8 h]; exact Vf.UQ, ?_⟩
   exact ((Vt.Gx ..).1 h).1
theorem Xt (e : EV) (h1 : 1 ≤ e.k) (h2 : e.k ≤ 11) (lo hi : Nat) (vk vn : Int) (vf : Nat) (vs : ByteArray) (A : Option Addr) (m c : Nat) (w : World) (hv : Rep w lo hi e.v (Di vk vn vf vs A m c)) (hz : hi ≤ w.heap.size) :
  Calls Tryz.prog 79 #[.agg (Db e vk vn vf vs A m c)] w fun r w' => r = .returned (.bool e.valid) ∧ Below w.heap.size w w' := by
 obtain ⟨k, id, n, at', name, text, v⟩ := e
 simp only at h1 h2 hv
 obtain ⟨k', rfl⟩ : ∃ k' : Nat, k = k' := ⟨k.toNat, by omega⟩
 have hvk : vk = v.k := by
  obtain ⟨kk, nn, ff, ss, ll⟩ := v
  obtain ⟨A', cap, heq, -⟩ := hv.head
  unfold Di at heq
  injection heq with heq
  simp at heq
  exact heq.1
 have hf : ∀ cc q, (cc, q) ∈ [(105, 0), (110, 1), (97, 2), (115, 3), (116, 4), (118, 5)] → Hid (∀ W, Calls Tryz.prog 111 #[.int .i64 (k' : Nat), .int .u8 (cc : Nat)] W fun r w' => r = .returned (.bool ((fieldsOf k').contains q)) ∧ Below W.heap.size W w') := fun cc q hq => U fun W => PE k' (by omega) (by omega) cc q hq W
 have := Xs k' id n at' name text v lo hi vk vn vf vs A m c w hv hz (by omega) (by omega) ((fieldsOf k').contains 0) ((fieldsOf k').contains 1) ((fieldsOf k').contains 2) ((fieldsOf k').contains 3) ((fieldsOf k').contains 4) ((fieldsOf k').contains 5)
  _ _ _ _ _ _ _ _ _ _ _ rfl rfl rfl rfl rfl rfl rfl rfl rfl rfl rfl _ _ _ _ rfl rfl rfl rfl (hf 105 0 (by simp)) (hf 110 1 (by simp)) (hf 97 2 (by simp)) (hf 115 3 (by simp)) (hf 116 4 (by simp)) (hf 118 5 (by simp))
 refine this.mono fun r w' h => ⟨?_, h.2⟩
 rw [h.1]
 congr 2
 unfold EV.valid Ot
 simp only [Int.toNat_natCast, List.all_cons, List.all_nil, Bool.and_true]
 rw [decide_eq_true (show (1 : Int) ≤ (k' : Int) ∧ (k' : Int) ≤ 11 from ⟨h1, h2⟩), Bool.true_and, rv1, rv2, rv3, rv4, hvk, rv5]
 simp only [Bool.and_assoc]
open Vt (BoxAt Da)
open Ev (EBox take_drop tk ap rd1 rd2 Dg)
open Cm (rowOf EvsIn)
open Cn (BB Dw DG)
theorem M49 (h : p := by
 clear hk
 refine wp_region_noPanic ?_
 refine wp_region_held_drew (S := (fun W' : World => W'.cell? ⟨w.heap.size, 0, none⟩ = some (.int .i64 k))) (by kernel_rfl) ?_ (fun hHeld => ?_)
 ·exact HS.out _ (Da (Below.refl _ _))
 refine tk 0 rfl ?_
 refine tk 1 rfl ?_
 refine tk 2 rfl ?_
 refine tk 3 rfl ?_
 refine tk 4 rfl ?_
 refine tk 5 rfl ?_
 refine tk 6 rfl ?_
 refine tk 7 rfl ?_
 refine tk 8 rfl ?_
 refine tk 9 rfl ?_
 refine tk 10 rfl ?_
 refine tk 11 rfl ?_
 refine tk 12 rfl ?_
 refine tk 13 rfl ?_
 refine tk 14 rfl ?_
 refine tk 15 rfl ?_
 refine tk 16 rfl ?_
 refine wpAnyH_done (by kernel_rfl) ?_ _
 refine NoPanic.normal ?_
 go_wp2_with fail
 go_ret
 exact ⟨rfl, Da HB0.out⟩) : p := h
theorem Xr (k : Int) (hk : k < 1 ∨ 11 < k) (id : Nat) (n : Int) (at' : Nat) (name text : ByteArray) (vk vn : Int) (vf : Nat) (vs : ByteArray) (A : Option Addr) (m c : Nat) (w : World) :
  Calls Tryz.prog 79 #[.agg #[.int .i64 k, .int .u64 (id : Nat), .int .i64 n, .int .u64 (at' : Nat), .string name, .string text, .int .i64 vk, .int .i64 vn, .float .f64 vf, .string vs, .slice A m c]] w fun r w' => r = .returned (.bool false) ∧ Below w.heap.size w w' := by
 obtain ⟨W0, hW0⟩ := Kt (w.alloc (.cells #[.int .i64 k, .int .u64 (id : Nat), .int .i64 n, .int .u64 (at' : Nat), .string name, .string text, .int .i64 vk, .int .i64 vn, .float .f64 vf, .string vs, .slice A m c] 61))
 have HB0 : Hid (Below w.heap.size w W0) := U (by rw [hW0]; exact Ks)
 have hbx : EBox W0 w.heap.size #[.int .i64 k, .int .u64 (id : Nat), .int .i64 n, .int .u64 (at' : Nat), .string name, .string text, .int .i64 vk, .int .i64 vn, .float .f64 vf, .string vs, .slice A m c] := by rw [hW0]; exact heap_alloc_new w _
 have HS : Hid (∀ W' : World, Below W0.heap.size W0 W' → W'.cell? ⟨w.heap.size, 0, none⟩ = some (.int .i64 k)) := U fun W hW => by
  obtain ⟨c0, -⟩ := EBox.cells (hbx.later hW (by rw [hW0]; simp))
  exact c0
 clear hbx
 replace hW0 := U hW0
 go_enter Tryz.func79, Tryz.ntmps79
 go_upto_region 1 with fail
 rw [← hW0.out]
 by_cases h1 : k < 1
 ·have g1 : decide (k < 1) = true := decide_eq_true h1
  exact M49
 ·have g1 : decide (k < 1) = false := decide_eq_false h1
  have g2 : decide (11 < k) = true := decide_eq_true (by omega)
  exact M49
theorem Je (e : EV) (h : ¬ (1 ≤ e.k ∧ e.k ≤ 11)) : e.valid = false := by unfold EV.valid; rw [decide_eq_false h]; rfl
theorem OP (e : EV) (lo hi : Nat) (vk vn : Int) (vf : Nat) (vs : ByteArray) (A : Option Addr) (m c : Nat) (w : World) (hv : Rep w lo hi e.v (Di vk vn vf vs A m c)) (hz : hi ≤ w.heap.size) :
  Calls Tryz.prog 79 #[.agg (Db e vk vn vf vs A m c)] w fun r w' => r = .returned (.bool e.valid) ∧ Below w.heap.size w w' := by
 by_cases hk : 1 ≤ e.k ∧ e.k ≤ 11
 ·exact Xt e hk.1 hk.2 lo hi vk vn vf vs A m c w hv hz
 ·rw [Je e hk]
  exact Xr e.k (by omega) e.id e.n e.at' e.name e.text vk vn vf vs A m c w
theorem SE (es : List EV) (j : Nat) (h : j < es.length) : (es.take (j + 1)).any DG = ((es.take j).any DG || DG es[j]) := by
 rw [List.take_succ_eq_append_getElem h, List.any_append]; simp
theorem Yt (es : List EV) (j : Nat) (h : j < es.length) (hw : DG es[j] = true) : es.any DG = true := List.any_eq_true.2 ⟨_, List.getElem_mem h, hw⟩
theorem M138 (h : p := by
 go_wp2_with fail
 go_ret
 exact ⟨Dd (by unfold Dw; rw [decide_eq_false HH.out]; simp), HBW.out⟩) : p := h
set_option maxHeartbeats 2000000 in
theorem Pj (es : List EV) (f : ByteArray) (hfs : f.size ≤ maxLen) (at' : Nat) (hat : at' < 18446744073709551616) (A : Option Addr) (cap : Nat) (w : World) (h : EvsIn w A cap es) :
  Calls Tryz.prog 48 #[.agg #[.string f, .int .u64 at', .slice A es.length cap]] w fun r w' => r = .returned (.bool (Dw f at' es)) ∧ Below w.heap.size w w' := by
 simp only [maxLen] at hfs
 have hle := h.le
 have hc := h.cap_le
 simp only [maxLen] at hc
 obtain ⟨W0, hW0⟩ := Kt (w.alloc (.cells #[.string f, .int .u64 at', .slice A es.length cap] 64))
 have hx0 : BB W0 w.heap.size f at' A es.length cap := by rw [hW0]; exact heap_alloc_new w _
 have hb0 : Below w.heap.size w W0 := by rw [hW0]; exact Ks
 have hz0 : w.heap.size < W0.heap.size := by rw [hW0]; simp
 have HK := U (h.later hb0)
 have HBX : Hid (∀ W, Below W0.heap.size W0 W → BB W w.heap.size f at' A es.length cap) := U fun W hW => hx0.later hW hz0
 have HB0 := U hb0
 have HFZ : Hid (f.toList.isEmpty = decide (f.size = 0)) := U (by rw [Vt.toList_data]; cases f with | mk d => cases d with | mk l => cases l <;> simp [ByteArray.size])
 clear h hx0 hb0
 replace hW0 := U hW0
 generalize hn : es.length = n at *
 have HN := U hn; clear hn
 go_enter Tryz.func48, Tryz.ntmps48
 go_upto_region 1 with fail
 rw [← hW0.out]
 go_wp2_with fail
 go_loopw [2, 3] (fun r i wr => ∃ (j : Nat), j ≤ n ∧ i = .int .i64 j ∧ r = .bool false ∧ (es.take j).any DG = false ∧ Below W0.heap.size W0 wr) (fun _ i _ => n - (intOf i).toNat)
 case atStart => exact ⟨0, by omega, rfl, rfl, rfl, Below.refl _ _⟩
 case round =>
  obtain ⟨j, hj, rfl, rfl, hany, hb⟩ := hrel
  have HA := U hany; have HB := U hb
  obtain ⟨d0, d1, d2, -⟩ := (HBX.out _ hb).cells
  clear hany hb
  have HBF : Hid (∀ W, Below wr.heap.size wr W → Below w.heap.size w W) := U fun W hW => HB0.out.trans ((HB.out.trans (hW.mono HB.out.size)).mono HB0.out.size)
  by_cases hkl : j < n
  ·have hke : j < es.length := by have := HN.out; omega
   obtain ⟨b2, off2, lo, hi, vk, vn, vf, vs, A2, m2, c2, rfl, hbl2, hf, hv, hhi, e0, e1, e2, e3, e4, e5, e6, e7, e8, e9, e10⟩ := (HK.out.later HB.out).get j hke
   have HC := U (OP es[j] lo hi vk vn vf vs A2 m2 c2 _ hv hhi)
   have HT := U (SE es j hke)
   have HTA := U (Yt es j hke)
   unfold Db at HC
   clear hf hv
   go_wp2_with fail
   refine HC.out.mono ?_
   rintro x w1 ⟨rfl, hb1⟩
   have HB1 := U hb1
   clear hb1 e0 e1 e2 e3 e4 e5 e6 e7 e8 e9 e10 d0 d1 d2 HC
   cases hp : es[j].valid with
   | true =>
    have HP := U hp; clear hp
    go_wp2_with fail
    go_roundw
    case rel => exact ⟨j + 1, by omega, by go_num, rfl, by rw [HT.out, HA.out]; simp [DG, HP.out], HB.out.trans (HB1.out.mono HB.out.size)⟩
    case measure => simp [intOf]; omega
   | false =>
    have HP := U hp; clear hp
    go_wp2_with fail
    go_ret
    exact ⟨Dd (by unfold Dw; rw [HTA.out (by simp [DG, HP.out])]; simp), HBF.out _ HB1.out⟩
  ·have hk' : j = n := by omega
   subst hk'
   have HAA : Hid (es.any DG = false) := U (by have := HA.out; rw [← HN.out, List.take_length] at this; exact this)
   have HBW : Hid (Below w.heap.size w wr) := U (HBF.out _ (Below.refl _ _))
   by_cases h1 : 1 ≤ f.size
   ·have g1 : decide ((1 : Int) ≤ (f.size : Int)) = true := decide_eq_true (by omega)
    by_cases h2 : f.size ≤ 1000
    ·have g2 : decide ((f.size : Int) ≤ 1000) = true := decide_eq_true (by omega)
     by_cases h3 : at' ≤ 9223372036854775807
     ·have g3 : decide ((at' : Int) ≤ 9223372036854775807) = true := decide_eq_true (by omega)
      have HH := U (And.intro h1 (And.intro h2 h3))
      clear h3
      go_wp2_with fail
      go_ret
      exact ⟨Dd (by obtain ⟨z1, z2, z3⟩ := HH.out; unfold Dw; rw [HAA.out, HFZ.out, HN.out, decide_eq_true z2, decide_eq_true z3, decide_eq_false (by omega : ¬ f.size = 0)]; simp), HBW.out⟩
     ·have g3 : decide ((at' : Int) ≤ 9223372036854775807) = false := decide_eq_false (by omega)
      have HH := U h3
      clear h3
      exact M138
    ·have g2 : decide ((f.size : Int) ≤ 1000) = false := decide_eq_false (by omega)
     have HH := U h2
     exact M138
   ·have g1 : decide ((1 : Int) ≤ (f.size : Int)) = false := decide_eq_false (by omega)
    have HH := U h1
    go_wp2_with fail
    go_ret
    exact ⟨Dd (by unfold Dw; rw [HFZ.out, decide_eq_true (by have := HH.out; omega : f.size = 0)]; simp), HBW.out⟩
end Rd
end Go.Proofs.YtaahfiopdoinkaaGreat
