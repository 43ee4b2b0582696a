/- value.Text, event.quoted, event.Text of any valid small event. -/
/- Texts of events tell the events: no program in sight. -/
/- Plain: where two lists of events differ. -/
/- command.Match and the reference's, of whatever two lists. -/
/- The reference's decimal text of a number with a sign; its hexadecimal text of a string. -/
/- EventSame: the walk. -/
/- Events that came in, opened; the listed tables; EventSame. -/
import Derived.Test.YtjfhnkhabipbdaaGreatDoorMjat
import Derived.Test.YtjfhnkhabipbdaaGreatDoorMjam
import Derived.Test.YtjfhnkhabipbdaaGreatDoorMjas
import Derived.Test.YtjfhnkhabipbdaaGreatDoorMjao
import Derived.Test.YtjfhnkhabipbdaaGreatDoorMjai
import Derived.Test.YtjfhnkhabipbdaaGreatDoorMjap
import Derived.Test.YtjfhnkhabipbdaaGreatDoorRows
import Derived.ChangeMaps5
import Derived.ChangeArms
import Derived.Deep.Draws
import Derived.ProofKit
import Derived.OpenShut
import Derived.Lib.SmallJoins
import Derived.Lib.LaidTab
import Derived.LaidSub
namespace Go.Proofs.YtjfhnkhabipbdaaGreatDoor
open Go.RowKit Go.Shelf
set_option linter.unusedVariables false
set_option linter.unusedSimpArgs false
namespace Vf
open _root_.Go.Proofs.YtjfhnkhabipbdaaGreatDoor.Nm (bitsW bits_any ret_int ret_bool)
open Bt (BOwn BIn sb SOwn join_any run_append_str selS etext_walk)
open Pf (hexL hexL_cons stext)
open Vt (VT Rep BoxAt below_drew KidsAt HeadOk kindV of_any)
open Ev (EV FieldsOk evCells vCells EBox ERep zeroT take_drop tk cons_drop fieldsOf nameOf of_in evalid_any)
open Fu (hd hd_lt textW)

theorem t_none (n : Nat) (w : World) : (method (n + 1) 113 (.agg #[]) "clockwork/value.text").run Tryz.prog w = .ok (136, .agg #[]) w := by kernel_rfl
theorem t_int (n : Nat) (w : World) : (method (n + 1) 109 (.agg #[]) "clockwork/value.text").run Tryz.prog w = .ok (113, .agg #[]) w := by kernel_rfl
theorem t_float (n : Nat) (w : World) : (method (n + 1) 110 (.agg #[]) "clockwork/value.text").run Tryz.prog w = .ok (117, .agg #[]) w := by kernel_rfl
theorem t_text (n : Nat) (w : World) : (method (n + 1) 111 (.agg #[]) "clockwork/value.text").run Tryz.prog w = .ok (130, .agg #[]) w := by kernel_rfl
theorem t_list (n : Nat) (w : World) : (method (n + 1) 112 (.agg #[]) "clockwork/value.text").run Tryz.prog w = .ok (133, .agg #[]) w := by kernel_rfl
theorem u_none (args : Array Value) (w : World) : (callFunc 136 args).run Tryz.prog w = .ok (.enter 136 args) w := by kernel_rfl
theorem u_int (args : Array Value) (w : World) : (callFunc 113 args).run Tryz.prog w = .ok (.enter 113 args) w := by kernel_rfl
theorem u_float (args : Array Value) (w : World) : (callFunc 117 args).run Tryz.prog w = .ok (.enter 117 args) w := by kernel_rfl
theorem u_text (args : Array Value) (w : World) : (callFunc 130 args).run Tryz.prog w = .ok (.enter 130 args) w := by kernel_rfl
theorem u_list (args : Array Value) (w : World) : (callFunc 133 args).run Tryz.prog w = .ok (.enter 133 args) w := by kernel_rfl

theorem tail_le (l : List VT) : ∀ (i : Nat) (h : i < l.length), (Pf.VT.text l[i]).length ≤ (Lib.joinTail [32] (l.map Pf.VT.text)).length := by
  induction l with
  | nil => intro i h; simp at h
  | cons t l ih =>
    intro i h
    rw [List.map_cons, show Lib.joinTail [32] (Pf.VT.text t :: l.map Pf.VT.text) = (32 :: Pf.VT.text t) ++ Lib.joinTail [32] (l.map Pf.VT.text) from by simp [Lib.joinTail], List.length_append, List.length_cons]
    cases i with
    | zero => simp only [List.getElem_cons_zero]; omega
    | succ i =>
      have := ih i (by simpa using h)
      simp only [List.getElem_cons_succ]
      omega
theorem elem_le (l : List VT) (i : Nat) (h : i < l.length) : (Pf.VT.text l[i]).length ≤ (Lib.join (l.map Pf.VT.text) [32]).length := by
  cases l with
  | nil => simp at h
  | cons t l =>
    rw [List.map_cons, Lib.join_cons, List.length_append]
    cases i with
    | zero => simp only [List.getElem_cons_zero]; omega
    | succ i =>
      have := tail_le l i (by simpa using h)
      simp only [List.getElem_cons_succ]
      omega

theorem slim_up {t : VT} (h : t.Slim 900) : t.Slim 1100 := by
  induction t using VT.ind with
  | _ k n f s l ih =>
    obtain ⟨h1, h2, h3⟩ := Vt.slim_mk.1 h
    exact Vt.slim_mk.2 ⟨by omega, by omega, fun i hi => ih i hi (h3 i hi)⟩
theorem txok (t : VT) : ∀ (d : Nat), t.valid d = true → (Pf.VT.text t).length ≤ 100000 → t.Slim 1100 → TxOk t := by
  induction t using VT.ind with
  | _ k n f s l ih =>
    intro d hv hlen hS
    obtain ⟨hs9, hl9, hkS⟩ := Vt.slim_mk.1 hS
    rw [Pf.text_mk] at hlen
    have e9 := Pf.text_mk k n f s l
    rcases Pf.valid_cases hv with ⟨rfl, -⟩ | ⟨rfl, -⟩ | ⟨rfl, -⟩ | ⟨rfl, -⟩ | ⟨rfl, -, -, -, hkv⟩
    · refine ⟨_, _, rfl, t_none, u_none, fun W lo hi v hR hz ht => ?_⟩
      obtain ⟨A, cap, rfl, ho, hl, hk⟩ := hR.head
      rw [e9]
      exact none_text _ n f s A _ _ W
    · refine ⟨_, _, rfl, t_int, u_int, fun W lo hi v hR hz ht => ?_⟩
      obtain ⟨A, cap, rfl, ho, hl, hk⟩ := hR.head
      rw [e9]
      exact int_text _ n ho.n0 ho.n1 f s A _ _ W ht
    · refine ⟨_, _, rfl, t_float, u_float, fun W lo hi v hR hz ht => ?_⟩
      obtain ⟨A, cap, rfl, ho, hl, hk⟩ := hR.head
      rw [e9]
      exact float_text _ n f ho.f1 s A _ _ W ht
    · refine ⟨_, _, rfl, t_text, u_text, fun W lo hi v hR hz ht => ?_⟩
      obtain ⟨A, cap, rfl, ho, hl, hk⟩ := hR.head
      rw [e9]
      exact text_text _ n f s (by omega) A _ _ W
    · rw [if_neg (by omega), if_neg (by omega), if_neg (by omega), if_pos rfl] at hlen e9
      rw [List.length_cons, List.length_append, List.length_singleton] at hlen
      refine ⟨_, _, rfl, t_list, u_list, fun W lo hi v hR hz ht => ?_⟩
      obtain ⟨A, cap, rfl, ho, hl, hk⟩ := hR.head
      rw [e9]
      exact list_text _ n f s l A cap hl hl9 ho.m1 W lo hi hk hz ht (by omega) (fun i hi => ih i hi (d - 1) (hkv _ (List.getElem_mem hi)) (by have := elem_le l i hi; omega) (hkS i hi))

set_option maxRecDepth 100000 in
set_option maxHeartbeats 1000000 in
theorem vtext_any (t : VT) (hlen : (Pf.VT.text t).length ≤ 100000) (hS : t.Slim 1100) (lo hi : Nat) (vk vn : Int) (vf : Nat) (vs : ByteArray) (A : Option Addr) (m c : Nat) (w : World) (hv : Rep w lo hi t (.agg #[.int .i64 vk, .int .i64 vn, .float .f64 vf, .string vs, .slice A m c])) (hz : hi ≤ w.heap.size) (hval : t.valid 8 = true) (ht : TB w) :
    Calls Tryz.prog 43 #[.agg #[.int .i64 vk, .int .i64 vn, .float .f64 vf, .string vs, .slice A m c]] w fun e w' => e = .returned (.string (textB t)) ∧ Below w.heap.size w w' := by
  obtain ⟨TT, MM, hkv, hM, hcall, hT⟩ := txok t 8 hval hlen hS
  have hvk : vk = t.k := by
    obtain ⟨k', n', f', s', l', A', cap', rfl, hc, -⟩ := hv.open_
    injection hc with hc
    simp at hc
    exact hc.1
  obtain ⟨W0, hW0⟩ : ∃ W0, W0 = w.alloc (.cells #[.int .i64 vk, .int .i64 vn, .float .f64 vf, .string vs, .slice A m c] 29) := ⟨_, rfl⟩
  have hB0 : Below w.heap.size w W0 := by rw [hW0]; exact (Below.refl _ _).alloc (Nat.le_refl _) _
  have hbx : BoxAt W0 w.heap.size vk vn vf vs A m c := by rw [hW0]; exact BoxAt.new ..
  have hz0 : w.heap.size < W0.heap.size := by rw [hW0]; simp
  have HBX : Hid (∀ W, Below W0.heap.size W0 W → BoxAt W w.heap.size vk vn vf vs A m c) := Lib.hid fun W hW => hbx.later hW hz0
  have HV := Lib.hid (Vt.valid_any t W0 lo hi _ (hv.later (hB0.mono hz)) (Nat.le_trans hz hB0.size))
  rw [hval] at HV
  have HT0 : Hid (∀ W, Below W0.heap.size W0 W → Calls Tryz.prog MM #[.agg #[], .agg #[.int .i64 vk, .int .i64 vn, .float .f64 vf, .string vs, .slice A m c]] W (KT W (Pf.VT.text t))) := Lib.hid fun W hW =>
    hT W lo hi _ ((hv.later (hB0.mono hz)).later (hW.mono (Nat.le_trans hz hB0.size))) (Nat.le_trans hz (Nat.le_trans hB0.size hW.size)) ((ht.later hB0).later hW)
  have HO : Hid (∀ W, Calls Tryz.prog 60 #[.int .i64 vk] W fun e w' => e = .returned (.iface TT (.agg #[])) ∧ W = w') := Lib.hid fun W => by
    have h9 := of_any vk W
    rw [hvk, hkv] at h9
    rw [hvk]
    exact h9
  have HB0 := Lib.hid hB0
  obtain ⟨c0, c1, c2, c3, c4⟩ := hbx.cells
  clear hB0 hbx hv hT hkv hvk ht
  replace hW0 := Lib.hid hW0
  go_enter Tryz.func43, Tryz.ntmps43
  go_upto_region 1 with fail
  rw [← hW0.out]
  go_wp2_with fail
  refine HV.out.mono ?_
  rintro e w1 ⟨rfl, hb1⟩
  obtain ⟨d0, d1, d2, d3, d4⟩ := (HBX.out w1 hb1).cells
  have HB1 := Lib.hid hb1
  have KS : Hid (∀ W' : World, Below w1.heap.size w1 W' → (W'.cell? ⟨w.heap.size, 0, none⟩ = some (.int .i64 vk) ∧ W'.cell? ⟨w.heap.size, 1, none⟩ = some (.int .i64 vn) ∧ W'.cell? ⟨w.heap.size, 2, none⟩ = some (.float .f64 vf) ∧ W'.cell? ⟨w.heap.size, 3, none⟩ = some (.string vs) ∧ W'.cell? ⟨w.heap.size, 4, none⟩ = some (.slice A m c))) := Lib.hid fun W' hW => (HBX.out W' (HB1.out.trans (hW.mono HB1.out.size))).cells
  have HT : Hid (∀ W, Below w1.heap.size w1 W → Calls Tryz.prog MM #[.agg #[], .agg #[.int .i64 vk, .int .i64 vn, .float .f64 vf, .string vs, .slice A m c]] W (KT W (Pf.VT.text t))) := Lib.hid fun W hW => HT0.out W (HB1.out.trans (hW.mono HB1.out.size))
  clear hb1 c0 c1 c2 c3 c4
  go_upto_region 3 with fail
  clear d0 d1 d2 d3 d4
  refine wp_region_noPanic ?_
  refine wp_region_held_drew (S := (fun W' : World => W'.cell? ⟨w.heap.size, 0, none⟩ = some (.int .i64 vk) ∧ W'.cell? ⟨w.heap.size, 1, none⟩ = some (.int .i64 vn) ∧ W'.cell? ⟨w.heap.size, 2, none⟩ = some (.float .f64 vf) ∧ W'.cell? ⟨w.heap.size, 3, none⟩ = some (.string vs) ∧ W'.cell? ⟨w.heap.size, 4, none⟩ = some (.slice A m c))) (by kernel_rfl) ?_ (fun hHeld => ?_)
  · exact KS.out _ (below_drew (Below.refl _ _))
  refine tk (i := 0) rfl ?_
  try simp only [Act.put, List.setIfInBounds_toArray, List.set_cons_zero, List.set_cons_succ]
  refine tk (i := 1) rfl ?_
  try simp only [Act.put, List.setIfInBounds_toArray, List.set_cons_zero, List.set_cons_succ]
  refine tk (i := 3) rfl ?_
  try simp only [Act.put, List.setIfInBounds_toArray, List.set_cons_zero, List.set_cons_succ]
  refine wpAnyH_ready (rs := [2]) (by kernel_rfl) (by simp) ?_
  refine cons_drop rfl (fun K hK => ?_) AllReadyH.nil
  go_simp
  refine (HO.out _).mono ?_
  rintro e w2 ⟨rfl, rfl⟩
  go_wp2_with fail
  refine hK.out _ _ (KS.out _ (below_drew (Below.refl _ _))) (fun hHeld2 => ?_)
  clear hK K
  try simp only [Act.put, List.setIfInBounds_toArray, List.set_cons_zero, List.set_cons_succ]
  refine wpAnyH_ready (rs := [4]) (by kernel_rfl) (by simp) ?_
  refine cons_drop rfl (fun K hK => ?_) AllReadyH.nil
  go_simp
  refine (HT.out _ (below_drew (Below.refl _ _))).mono ?_
  rintro e w3 ⟨rfl, hb3⟩
  have hbx3 : Below w1.heap.size w1 w3 := (below_drew (Below.refl _ _)).trans hb3
  have HB3 := Lib.hid hbx3
  clear hb3 hbx3
  go_wp2_with fail
  refine hK.out _ _ (KS.out _ (HB3.out)) (fun hHeld2 => ?_)
  clear hK K
  try simp only [Act.put, List.setIfInBounds_toArray, List.set_cons_zero, List.set_cons_succ]
  refine tk (i := 5) rfl ?_
  try simp only [Act.put, List.setIfInBounds_toArray, List.set_cons_zero, List.set_cons_succ]
  refine wpAnyH_done (by kernel_rfl) ?_ _
  refine NoPanic.normal ?_
  go_wp2_with fail
  go_ret
  exact ⟨rfl, HB0.out.trans ((HB1.out.trans (HB3.out.mono HB1.out.size)).mono HB0.out.size)⟩

theorem text_valid (s : ByteArray) : (VT.mk 3 0 0 s []).valid 8 = true := by
  rw [Vt.valid_mk]
  have : bitsW 0 = 0 := by decide
  simp [this]
theorem text_slim (s : ByteArray) (hs : s.size ≤ 1100) : (VT.mk 3 0 0 s []).Slim 1100 := Vt.slim_mk.2 ⟨hs, by simp, fun i h => absurd h (by simp)⟩
theorem stext_len (s : ByteArray) : (stext s).length = 2 * s.size + 2 := by
  unfold stext
  rw [List.length_cons, List.length_append, hexL_len, Bt.sb_len, List.length_singleton]
theorem text_of (s : ByteArray) : Pf.VT.text (.mk 3 0 0 s []) = stext s := by rw [Pf.text_mk, if_neg (by omega), if_neg (by omega), if_pos rfl]

set_option maxRecDepth 100000 in
theorem quoted_any (s : ByteArray) (hs : s.size ≤ 1000) (w : World) (ht : TB w) : Calls Tryz.prog 42 #[.string s] w fun e w' => e = .returned (.string ⟨(stext s).toArray⟩) ∧ Below w.heap.size w w' := by
  have HT : Hid (Calls Tryz.prog 43 #[.agg #[.int .i64 3, .int .i64 0, .float .f64 0, .string s, .slice none 0 0]] w fun e w' => e = .returned (.string ⟨(stext s).toArray⟩) ∧ Below w.heap.size w w') := Lib.hid (by
    have h := vtext_any (.mk 3 0 0 s []) (by rw [text_of, stext_len]; omega) (text_slim s (by omega)) 0 0 3 0 0 s none 0 0 w (Rep.leaf ⟨by omega, by omega, by omega, by omega, by omega, by simp only [maxLen]; omega, by decide⟩) (Nat.zero_le _) (text_valid s) ht
    unfold textB at h
    rw [text_of] at h
    exact h)
  go_enter Tryz.func42, Tryz.ntmps42
  go_wp2_with fail
  refine HT.out.mono ?_
  rintro e w1 ⟨rfl, hb⟩
  have HB := Lib.hid hb
  clear hb
  go_wp2_with fail
  go_ret
  exact ⟨rfl, HB.out⟩

/-- The text of a valid event. -/
def selT (b0 b1 b2 b3 b4 b5 : Bool) (p0 p1 p2 p3 p4 p5 : List UInt8) : List (List UInt8) := (if b0 then [p0] else []) ++ ((if b1 then [p1] else []) ++ ((if b2 then [p2] else []) ++ ((if b3 then [p3] else []) ++ ((if b4 then [p4] else []) ++ (if b5 then [p5] else [])))))
def etext (e : EV) : List UInt8 := (nameOf e.k.toNat).data.toList ++ Lib.joinTail [32] (selT (hasF e 0) (hasF e 1) (hasF e 2) (hasF e 3) (hasF e 4) (hasF e 5) (Lib.decDigits e.id) (Lib.itoa e.n) (Lib.decDigits e.at') (stext e.name) (stext e.text) (Pf.VT.text e.v))
theorem selS_map (b0 b1 b2 b3 b4 b5 : Bool) (p0 p1 p2 p3 p4 p5 : List UInt8) : (selS [b0, b1, b2, b3, b4, b5] [⟨p0.toArray⟩, ⟨p1.toArray⟩, ⟨p2.toArray⟩, ⟨p3.toArray⟩, ⟨p4.toArray⟩, ⟨p5.toArray⟩] 6).map (·.data.toList) = selT b0 b1 b2 b3 b4 b5 p0 p1 p2 p3 p4 p5 := by
  unfold selS selT
  cases b0 <;> cases b1 <;> cases b2 <;> cases b3 <;> cases b4 <;> cases b5 <;> rfl
theorem tail_len (l : List (List UInt8)) : (Lib.joinTail [32] l).length = (l.map (fun x => x.length + 1)).sum := by
  induction l with
  | nil => rfl
  | cons x l ih =>
    rw [show Lib.joinTail [32] (x :: l) = (32 :: x) ++ Lib.joinTail [32] l from by simp [Lib.joinTail], List.length_append, ih, List.map_cons, List.sum_cons, List.length_cons]
theorem selT_len (b0 b1 b2 b3 b4 b5 : Bool) (p0 p1 p2 p3 p4 p5 : List UInt8) : ((selT b0 b1 b2 b3 b4 b5 p0 p1 p2 p3 p4 p5).map (fun x => x.length + 1)).sum ≤ p0.length + p1.length + p2.length + p3.length + p4.length + p5.length + 6 := by
  unfold selT
  cases b0 <;> cases b1 <;> cases b2 <;> cases b3 <;> cases b4 <;> cases b5 <;> simp <;> omega
theorem dec_len (n : Nat) (h : n < 18446744073709551616) : (Lib.decDigits n).length ≤ 21 := by
  by_cases hn : n ≤ 9223372036854775807
  · have := Lib.itoa_length_le n (by omega) (by omega)
    unfold Lib.itoa at this
    rw [if_neg (by omega)] at this
    simpa using this
  · have h1 := Lib.itoa_length_le ((n / 10 : Nat) : Int) (by omega) (by omega)
    unfold Lib.itoa at h1
    rw [if_neg (by omega)] at h1
    rw [Fu.dec_big n (by omega), List.length_append, List.length_singleton]
    have h2 : (Lib.decDigits (n / 10)).length ≤ 20 := by
      have h3 := Lib.itoa_length_le (-((n / 10 : Nat) : Int)) (by omega) (by omega)
      unfold Lib.itoa at h3
      rw [if_pos (by omega), List.length_cons] at h3
      simp only [Int.natAbs_neg, Int.natAbs_natCast] at h3
      omega
    omega
theorem name_len (k : Nat) : (nameOf k).data.toList.length ≤ 20 := by
  by_cases h : k ≤ 11
  · have : ∀ r : Fin 12, (nameOf r.val).data.toList.length ≤ 20 := by decide +kernel
    exact this ⟨k, by omega⟩
  · unfold nameOf
    split <;> first | omega | (simp; done) | decide
theorem etext_len (e : EV) (hf : FieldsOk e) (V : VE e) (hfine : Pf.VT.fine e.v) (hfew : e.v.few = true) : (etext e).length ≤ 30000 := by
  unfold etext
  rw [List.length_append, tail_len]
  have h0 := selT_len (hasF e 0) (hasF e 1) (hasF e 2) (hasF e 3) (hasF e 4) (hasF e 5) (Lib.decDigits e.id) (Lib.itoa e.n) (Lib.decDigits e.at') (stext e.name) (stext e.text) (Pf.VT.text e.v)
  have h1 := dec_len e.id hf.i1
  have h2 := Lib.itoa_length_le e.n hf.n0 hf.n1
  have h3 := dec_len e.at' hf.a1
  have h4 := stext_len e.name
  have h5 := stext_len e.text
  have h6 := text_len_few hfine hfew
  have h7 := name_len e.k.toNat
  have h8 := V.s1
  have h9 := V.t1
  omega

theorem etext_any (e : EV) (hval : e.valid = true) (hf : FieldsOk e) (hfew : e.v.few = true) (lo hi : Nat) (vk vn : Int) (vf : Nat) (vs : ByteArray) (A : Option Addr) (m c : Nat) (w : World) (hv : Rep w lo hi e.v (vCells vk vn vf vs A m c)) (hz : hi ≤ w.heap.size) (ht : TB w) :
    Calls Tryz.prog 29 #[.agg (evCells e vk vn vf vs A m c)] w fun r w' => r = .returned (.string ⟨(etext e).toArray⟩) ∧ Below w.heap.size w w' := by
  have V := ve_of hval
  have hfine : Pf.VT.fine e.v := Pf.Rep.fine hv
  have hlen := etext_len e hf V hfine hfew
  have hev := fun W (hW : Below w.heap.size w W) => evalid_any e W lo hi _ ⟨hf, vk, vn, vf, vs, A, m, c, rfl, hv.later (hW.mono hz)⟩ (Nat.le_trans hz hW.size)
  obtain ⟨kn, hkn⟩ : ∃ kn : Nat, e.k = kn := ⟨e.k.toNat, by have := V.k1; omega⟩
  obtain ⟨nn, hnn⟩ : ∃ nn : Nat, e.n = nn := ⟨e.n.toNat, by have := V.n1; omega⟩
  have k1 := V.k1; have k2 := V.k2; have n2 := V.n2
  have hkt : e.k.toNat = kn := by omega
  unfold etext hasF at hlen ⊢
  rw [hkt, hnn] at hlen ⊢
  unfold evCells at hev ⊢
  rw [hkn, hnn] at hev ⊢
  have hj : Lib.join ((nameOf kn :: selS [(fieldsOf kn).contains 0, (fieldsOf kn).contains 1, (fieldsOf kn).contains 2, (fieldsOf kn).contains 3, (fieldsOf kn).contains 4, (fieldsOf kn).contains 5] [⟨(Lib.decDigits e.id).toArray⟩, ⟨(Lib.itoa nn).toArray⟩, ⟨(Lib.decDigits e.at').toArray⟩, ⟨(stext e.name).toArray⟩, ⟨(stext e.text).toArray⟩, ⟨(Pf.VT.text e.v).toArray⟩] 6).map (·.data.toList)) [32] =
      (nameOf kn).data.toList ++ Lib.joinTail [32] (selT ((fieldsOf kn).contains 0) ((fieldsOf kn).contains 1) ((fieldsOf kn).contains 2) ((fieldsOf kn).contains 3) ((fieldsOf kn).contains 4) ((fieldsOf kn).contains 5) (Lib.decDigits e.id) (Lib.itoa nn) (Lib.decDigits e.at') (stext e.name) (stext e.text) (Pf.VT.text e.v)) := by
    rw [List.map_cons, Lib.join_cons, selS_map]
  rw [← hj] at hlen ⊢
  exact etext_walk kn e.id nn e.at' e.name e.text vk vn vf vs A m c (nameOf kn) ⟨(Lib.decDigits e.id).toArray⟩ ⟨(Lib.itoa nn).toArray⟩ ⟨(Lib.decDigits e.at').toArray⟩ ⟨(stext e.name).toArray⟩ ⟨(stext e.text).toArray⟩ ⟨(Pf.VT.text e.v).toArray⟩ ((fieldsOf kn).contains 0) ((fieldsOf kn).contains 1) ((fieldsOf kn).contains 2) ((fieldsOf kn).contains 3) ((fieldsOf kn).contains 4) ((fieldsOf kn).contains 5) w (by omega)
    (fun W hW => (hev W hW).mono fun r w' h => by rw [hval] at h; exact h)
    (fun W => of_in kn (by omega) (by omega) W)
    (fun W hW => Fu.fmtu_any e.id hf.i1 W (ht.later hW).pow)
    (fun W hW => Fu.itoa_any nn (by omega) (by omega) W (ht.later hW).pow)
    (fun W hW => Fu.fmtu_any e.at' hf.a1 W (ht.later hW).pow)
    (fun W hW => quoted_any e.name V.s1 W (ht.later hW))
    (fun W hW => quoted_any e.text V.t1 W (ht.later hW))
    (fun W hW => vtext_any e.v (by have := text_len_few hfine hfew; omega) (slim_up (Vt.slim_of_few _ hfew)) lo hi vk vn vf vs A m c W (hv.later (hW.mono hz)) (Nat.le_trans hz hW.size) V.v1 (ht.later hW))
end Vf
end Go.Proofs.YtjfhnkhabipbdaaGreatDoor
namespace Go.Proofs.YtjfhnkhabipbdaaGreatDoor
open Go.RowKit
set_option linter.unusedVariables false
set_option linter.unusedSimpArgs false
namespace Vf
open Bt (sb)
open Pf (stext)
open Vt (VT)
open Ev (EV FieldsOk nameOf fieldsOf zeroT)
open Cm (evSame)


/-- A part of a text, behind a blank. -/
def optT (b : Bool) (p : List UInt8) : List UInt8 := if b then 32 :: p else []
theorem tail_selT (b0 b1 b2 b3 b4 b5 : Bool) (p0 p1 p2 p3 p4 p5 : List UInt8) : Lib.joinTail [32] (selT b0 b1 b2 b3 b4 b5 p0 p1 p2 p3 p4 p5) = optT b0 p0 ++ (optT b1 p1 ++ (optT b2 p2 ++ (optT b3 p3 ++ (optT b4 p4 ++ optT b5 p5)))) := by
  unfold selT optT
  cases b0 <;> cases b1 <;> cases b2 <;> cases b3 <;> cases b4 <;> cases b5 <;> simp [Lib.joinTail]
/-- The texts as strings. -/
def etextB (a : EV) : ByteArray := ⟨(etext a).toArray⟩
end Vf
end Go.Proofs.YtjfhnkhabipbdaaGreatDoor
namespace Go.Proofs.YtjfhnkhabipbdaaGreatDoor
open Go.RowKit
set_option linter.unusedVariables false
namespace Mc
open Vt (VT Rep)
open Ev (EV FieldsOk evCells vCells)
open Cm (evSame EvsIn)
open Vf (etextB)

theorem evSame_symm {a b : EV} (h : evSame a b = true) : evSame b a = true := by
  obtain ⟨h1, h2, h3, h4, h5, h6, h7⟩ := Vf.evSame_parts h
  unfold evSame
  rw [h1, h2, h3, h4, h5, h6, Vt.same_symm _ _ h7]
  simp
/-- The two lists are the same up to a place. -/
def Upto (a b : List EV) (k : Nat) : Prop := k ≤ a.length ∧ k ≤ b.length ∧ ∀ i (h : i < a.length) (h' : i < b.length), i < k → evSame a[i] b[i] = true
/-- They differ at a place. -/
def Diff (a b : List EV) (k : Nat) : Prop := (k < a.length ∨ k < b.length) ∧ ∀ (h : k < a.length) (h' : k < b.length), evSame a[k] b[k] = false
/-- The first place at which they differ; none: -1. -/
def MatchIs (a b : List EV) (n : Int) : Prop := (n = -1 ∧ a.length = b.length ∧ Upto a b a.length) ∨ ∃ k : Nat, n = k ∧ Upto a b k ∧ Diff a b k
theorem upto_zero (a b : List EV) : Upto a b 0 := ⟨Nat.zero_le _, Nat.zero_le _, fun i _ _ h => absurd h (by omega)⟩
theorem upto_step {a b : List EV} {k : Nat} (h : Upto a b k) (h1 : k < a.length) (h2 : k < b.length) (hs : evSame a[k] b[k] = true) : Upto a b (k + 1) :=
  ⟨h1, h2, fun i hi hi' hk => by
    rcases Nat.lt_or_ge i k with q | q
    · exact h.2.2 i hi hi' q
    · obtain rfl : i = k := by omega
      exact hs⟩
theorem upto_symm {a b : List EV} {k : Nat} (h : Upto a b k) : Upto b a k := ⟨h.2.1, h.1, fun i hi hi' hk => evSame_symm (h.2.2 i hi' hi hk)⟩
theorem diff_symm {a b : List EV} {k : Nat} (h : Diff a b k) : Diff b a k := ⟨h.1.symm, fun hi hi' => by
  cases hs : evSame b[k] a[k] with
  | false => rfl
  | true => rw [← evSame_symm hs, h.2 hi' hi]⟩
theorem match_symm {a b : List EV} {n : Int} (h : MatchIs a b n) : MatchIs b a n := by
  rcases h with ⟨h1, h2, h3⟩ | ⟨k, h1, h2, h3⟩
  · exact .inl ⟨h1, h2.symm, by rw [← h2]; exact upto_symm h3⟩
  · exact .inr ⟨k, h1, upto_symm h2, diff_symm h3⟩
theorem not_both {a b : List EV} {k m : Nat} (h : Upto a b m) (hk : k < m) (hd : Diff a b k) : False := by
  have h1 : k < a.length := Nat.lt_of_lt_of_le hk h.1
  have h2 : k < b.length := Nat.lt_of_lt_of_le hk h.2.1
  have := h.2.2 k h1 h2 hk
  rw [hd.2 h1 h2] at this
  cases this
theorem match_one {a b : List EV} {n m : Int} (h : MatchIs a b n) (h' : MatchIs a b m) : n = m := by
  rcases h with ⟨rfl, h2, h3⟩ | ⟨k, rfl, h2, h3⟩
  · rcases h' with ⟨rfl, -⟩ | ⟨k', rfl, g2, g3⟩
    · rfl
    · exfalso
      have : k' < a.length := by rcases g3.1 with q | q <;> omega
      exact not_both h3 this g3
  · rcases h' with ⟨rfl, g2, g3⟩ | ⟨k', rfl, g2, g3⟩
    · exfalso
      have : k < a.length := by rcases h3.1 with q | q <;> omega
      exact not_both g3 this h3
    · rcases Nat.lt_trichotomy k k' with q | q | q
      · exact absurd h3 (fun h => not_both g2 q h)
      · rw [q]
      · exact absurd g3 (fun h => not_both h2 q h)
theorem match_refl (a : List EV) : MatchIs a a (-1) := .inl ⟨rfl, rfl, Nat.le_refl _, Nat.le_refl _, fun i h _ _ => Cm.evSame_refl _⟩
theorem match_lo {a b : List EV} {n : Int} (h : MatchIs a b n) : n = -1 ∨ ∃ k : Nat, n = k ∧ k ≤ a.length ∧ k ≤ b.length := by
  rcases h with ⟨h, -⟩ | ⟨k, h, h2, -⟩
  · exact .inl h
  · exact .inr ⟨k, h, h2.1, h2.2.1⟩
/-- What is told of a list at a place. -/
def toldB (l : List EV) (i : Nat) : ByteArray := if h : i < l.length then if l[i].valid = true then etextB l[i] else ⟨#[110, 111, 110, 101]⟩ else ⟨#[110, 111, 110, 101]⟩
end Mc
end Go.Proofs.YtjfhnkhabipbdaaGreatDoor
namespace Go.Proofs.YtjfhnkhabipbdaaGreatDoor
open Go.RowKit
set_option linter.unusedVariables false
set_option linter.unusedSimpArgs false
namespace Mc
open _root_.Go.Proofs.YtjfhnkhabipbdaaGreatDoor.Nm (ret_int ret_bool)
open Vt (VT Rep below_drew)
open Ev (EV FieldsOk evCells vCells EBox ERep take_drop tk cons_drop)
open Cm (evSame EvsIn evsame_cut rsev_any)

def MRes (a b : List EV) (w : World) (r : Ending) (w' : World) : Prop := ∃ n, r = .returned (.int .i64 n) ∧ MatchIs a b n ∧ Below w.heap.size w w'
set_option maxRecDepth 100000 in
set_option maxHeartbeats 2000000 in
theorem pmatch_any (a b : List EV) (A A' : Option Addr) (cap cap' : Nat) (w : World) (h : EvsIn w A cap a) (h' : EvsIn w A' cap' b) :
    Calls Tryz.prog 6 #[.slice A a.length cap, .slice A' b.length cap'] w (MRes a b w) := by
  have hl := h.le
  have hc := h.cap_le
  have hl' := h'.le
  have hc' := h'.cap_le
  simp only [maxLen] at hc hc'
  have HK := Lib.hid h; have HK' := Lib.hid h'; clear h h'
  go_enter Tryz.func6, Tryz.ntmps6
  go_wp2_with fail
  go_loopw [4, 9] (fun r i wr => ∃ (j : Nat), j ≤ a.length ∧ i = .int .i64 j ∧ r = .int .i64 0 ∧ Hid (Upto a b j) ∧ Below w.heap.size w wr) (fun _ i _ => a.length - (intOf i).toNat)
  case atStart => exact ⟨0, by omega, rfl, rfl, Lib.hid (upto_zero a b), Below.refl _ _⟩
  case round =>
    obtain ⟨j, hj, rfl, rfl, HU, hb⟩ := hrel
    have HB := Lib.hid hb; clear hb
    by_cases hlt : j < a.length
    · obtain ⟨b1, off, lo, hi, vk, vn, vf, vs, A1, m, c, rfl, hblt, hf, hv, hz, d0, d1, d2, d3, d4, d5, d6, d7, d8, d9, d10⟩ := (HK.out.later HB.out).get j hlt
      obtain ⟨W1, hW1⟩ : ∃ W1, W1 = wr.alloc (.cells (evCells a[j] vk vn vf vs A1 m c) 31) := ⟨_, rfl⟩
      have HBa : Hid (Below wr.heap.size wr W1) := Lib.hid (by rw [hW1]; exact (Below.refl _ _).alloc (Nat.le_refl _) _)
      have hbox : EBox W1 wr.heap.size (evCells a[j] vk vn vf vs A1 m c) := by rw [hW1]; exact heap_alloc_new wr _
      obtain ⟨e0, e1, e2, e3, e4, e5, e6, e7, e8, e9, e10⟩ := EBox.cells hbox
      have hz1 := HBa.out.size
      by_cases hltb : j < b.length
      · obtain ⟨b', off', lo', hi', vk', vn', vf', vs', A1', m', c', rfl, hblt', hf', hv', hz', g0, g1, g2, g3, g4, g5, g6, g7, g8, g9, g10⟩ := (HK'.out.later (HB.out.trans (HBa.out.mono HB.out.size))).get j hltb
        have hge : decide (b.length ≤ j) = false := by simp; omega
        have HS := Lib.hid (evsame_cut a[j] b[j] W1.drew lo hi lo' hi' _ _ ⟨hf, vk, vn, vf, vs, A1, m, c, rfl, (hv.later (HBa.out.mono hz)).drew⟩ (Nat.le_trans hz hz1) ⟨hf', vk', vn', vf', vs', A1', m', c', rfl, hv'.drew⟩ hz')
        have HUS := Lib.hid (upto_step HU.out hlt hltb)
        have HDF : Hid (evSame a[j] b[j] = false → Diff a b j) := Lib.hid fun hs => ⟨.inl hlt, fun _ _ => hs⟩
        generalize evSame a[j] b[j] = sm at *
        clear hf hf' hv hv' hbox
        unfold evCells at HS hW1
        replace hW1 := Lib.hid hW1
        go_upto_region 4 with fail
        rw [← hW1.out]
        clear d0 d1 d2 d3 d4 d5 d6 d7 d8 d9 d10
        go_still_tail 10, (by kernel_rfl)
        go_wp2_with fail
        refine HS.out.mono ?_
        rintro e w1 ⟨rfl, hb1⟩
        have HB1 : Hid (Below w.heap.size w w1) := Lib.hid (HB.out.trans ((HBa.out.trans (((below_drew (Below.refl _ _)).trans hb1).mono hz1)).mono HB.out.size))
        clear hb1 HS g0 g1 g2 g3 g4 g5 g6 g7 g8 g9 g10 e0 e1 e2 e3 e4 e5 e6 e7 e8 e9 e10
        cases sm with
        | true =>
          go_wp2_with fail
          first
            | exact ⟨⟨j + 1, by omega, by go_num, rfl, Lib.hid (HUS.out (by simp)), HB1.out⟩, by simp [intOf]; omega⟩
            | (go_roundw
               case rel => exact ⟨j + 1, by omega, by go_num, rfl, Lib.hid (HUS.out (by simp)), HB1.out⟩
               case measure => simp [intOf]; omega)
        | false =>
          go_wp2_with fail
          go_ret
          exact ⟨_, rfl, .inr ⟨j, rfl, HU.out, HDF.out (by simp)⟩, HB1.out⟩
      · have hge : decide (b.length ≤ j) = true := by simp; omega
        have HDF : Hid (Diff a b j) := Lib.hid ⟨.inl hlt, fun _ h => absurd h hltb⟩
        have HB1 : Hid (Below w.heap.size w W1.drew) := Lib.hid (HB.out.trans ((below_drew HBa.out).mono HB.out.size))
        clear hf hv hbox
        unfold evCells at hW1
        replace hW1 := Lib.hid hW1
        go_upto_region 4 with fail
        rw [← hW1.out]
        clear d0 d1 d2 d3 d4 d5 d6 d7 d8 d9 d10 e0 e1 e2 e3 e4 e5 e6 e7 e8 e9 e10
        go_still_tail 10, (by kernel_rfl)
        go_wp2_with fail
        go_ret
        exact ⟨_, rfl, .inr ⟨j, rfl, HU.out, HDF.out⟩, HB1.out⟩
    · have hj' : j = a.length := by omega
      subst hj'
      by_cases hgt : a.length < b.length
      · have k1 : decide (a.length < b.length) = true := decide_eq_true hgt
        have k2 : decide ((a.length : Int) < b.length) = true := decide_eq_true (by omega)
        have HDF : Hid (Diff a b a.length) := Lib.hid ⟨.inr hgt, fun h _ => absurd h (Nat.lt_irrefl _)⟩
        go_wp2_with fail
        go_ret
        exact ⟨_, rfl, .inr ⟨a.length, rfl, HU.out, HDF.out⟩, HB.out⟩
      · have k1 : decide (a.length < b.length) = false := decide_eq_false hgt
        have k2 : decide ((a.length : Int) < b.length) = false := decide_eq_false (by omega)
        have HEQ : Hid (a.length = b.length) := Lib.hid (by have := HU.out.2.1; omega)
        go_wp2_with fail
        go_ret
        exact ⟨_, rfl, .inl ⟨rfl, HEQ.out, HU.out⟩, HB.out⟩

set_option maxRecDepth 100000 in
set_option maxHeartbeats 2000000 in
theorem rmatch_any (a b : List EV) (A A' : Option Addr) (cap cap' : Nat) (w : World) (h : EvsIn w A cap a) (h' : EvsIn w A' cap' b) :
    Calls Tryz.prog 7 #[.slice A a.length cap, .slice A' b.length cap'] w (MRes a b w) := by
  have hl := h.le
  have hc := h.cap_le
  have hl' := h'.le
  have hc' := h'.cap_le
  simp only [maxLen] at hc hc'
  have HK := Lib.hid h; have HK' := Lib.hid h'; clear h h'
  go_enter Tryz.func7, Tryz.ntmps7
  go_wp2_with fail
  go_loopw [4, 5] (fun r i wr => ∃ (j : Nat), j ≤ a.length ∧ i = .int .i64 j ∧ r = .int .i64 0 ∧ Hid (Upto a b j) ∧ Below w.heap.size w wr) (fun _ i _ => a.length + 1 - (intOf i).toNat)
  case atStart => exact ⟨0, by omega, rfl, rfl, Lib.hid (upto_zero a b), Below.refl _ _⟩
  case round =>
    obtain ⟨j, hj, rfl, rfl, HU, hb⟩ := hrel
    have HB := Lib.hid hb; clear hb
    have hjb := HU.out.2.1
    by_cases hlt : j < a.length
    · have k1 : decide (j < a.length) = true := decide_eq_true hlt
      have k1' : decide (a.length ≤ j) = false := decide_eq_false (by omega)
      by_cases hltb : j < b.length
      · have k2 : decide (j < b.length) = true := decide_eq_true hltb
        have k2' : decide (b.length ≤ j) = false := decide_eq_false (by omega)
        obtain ⟨b1, off, lo, hi, vk, vn, vf, vs, A1, m, c, rfl, hblt, hf, hv, hz, d0, d1, d2, d3, d4, d5, d6, d7, d8, d9, d10⟩ := (HK.out.later HB.out).get j hlt
        obtain ⟨b', off', lo', hi', vk', vn', vf', vs', A1', m', c', rfl, hblt', hf', hv', hz', g0, g1, g2, g3, g4, g5, g6, g7, g8, g9, g10⟩ := (HK'.out.later HB.out).get j hltb
        have HS := Lib.hid (rsev_any a[j] b[j] wr.drew lo hi lo' hi' _ _ ⟨hf, vk, vn, vf, vs, A1, m, c, rfl, hv.drew⟩ hz ⟨hf', vk', vn', vf', vs', A1', m', c', rfl, hv'.drew⟩ hz')
        have HUS := Lib.hid (upto_step HU.out hlt hltb)
        have HDF : Hid (evSame a[j] b[j] = false → Diff a b j) := Lib.hid fun hs => ⟨.inl hlt, fun _ _ => hs⟩
        generalize evSame a[j] b[j] = sm at *
        clear hf hf' hv hv'
        unfold evCells at HS
        go_upto_region 4 with fail
        go_still_tail 19, (by kernel_rfl)
        go_wp2_with fail
        refine HS.out.mono ?_
        rintro e w1 ⟨rfl, hb1⟩
        have HB1 : Hid (Below w.heap.size w w1) := Lib.hid (HB.out.trans (((below_drew (Below.refl _ _)).trans hb1).mono HB.out.size))
        clear hb1 HS d0 d1 d2 d3 d4 d5 d6 d7 d8 d9 d10 g0 g1 g2 g3 g4 g5 g6 g7 g8 g9 g10
        cases sm with
        | true =>
          go_wp2_with fail
          first
            | exact ⟨⟨j + 1, by omega, by go_num, rfl, Lib.hid (HUS.out (by simp)), HB1.out⟩, by simp [intOf]; omega⟩
            | (go_roundw
               case rel => exact ⟨j + 1, by omega, by go_num, rfl, Lib.hid (HUS.out (by simp)), HB1.out⟩
               case measure => simp [intOf]; omega)
        | false =>
          go_wp2_with fail
          go_ret
          exact ⟨_, rfl, .inr ⟨j, rfl, HU.out, HDF.out (by simp)⟩, HB1.out⟩
      · have k2 : decide (j < b.length) = false := decide_eq_false hltb
        have k2' : decide (b.length ≤ j) = true := decide_eq_true (by omega)
        have HDF : Hid (Diff a b j) := Lib.hid ⟨.inl hlt, fun _ h => absurd h hltb⟩
        go_upto_region 4 with fail
        refine wp_region_noPanic ?_
        refine wp_region_held_drew (S := fun _ => True) (by kernel_rfl) trivial (fun hHeld => ?_)
        refine tk (i := 0) rfl ?_
        try simp only [Act.put, List.setIfInBounds_toArray, List.set_cons_zero, List.set_cons_succ]
        refine tk (i := 1) rfl ?_
        try simp only [Act.put, List.setIfInBounds_toArray, List.set_cons_zero, List.set_cons_succ]
        refine tk (i := 2) rfl ?_
        try simp only [Act.put, List.setIfInBounds_toArray, List.set_cons_zero, List.set_cons_succ]
        refine tk (i := 3) rfl ?_
        try simp only [Act.put, List.setIfInBounds_toArray, List.set_cons_zero, List.set_cons_succ]
        refine tk (i := 4) rfl ?_
        try simp only [Act.put, List.setIfInBounds_toArray, List.set_cons_zero, List.set_cons_succ]
        refine tk (i := 5) rfl ?_
        try simp only [Act.put, List.setIfInBounds_toArray, List.set_cons_zero, List.set_cons_succ]
        refine tk (i := 6) rfl ?_
        try simp only [Act.put, List.setIfInBounds_toArray, List.set_cons_zero, List.set_cons_succ]
        refine tk (i := 7) rfl ?_
        try simp only [Act.put, List.setIfInBounds_toArray, List.set_cons_zero, List.set_cons_succ]
        refine tk (i := 8) rfl ?_
        try simp only [Act.put, List.setIfInBounds_toArray, List.set_cons_zero, List.set_cons_succ]
        refine tk (i := 9) rfl ?_
        try simp only [Act.put, List.setIfInBounds_toArray, List.set_cons_zero, List.set_cons_succ]
        refine tk (i := 10) rfl ?_
        try simp only [Act.put, List.setIfInBounds_toArray, List.set_cons_zero, List.set_cons_succ]
        refine tk (i := 11) rfl ?_
        try simp only [Act.put, List.setIfInBounds_toArray, List.set_cons_zero, List.set_cons_succ]
        refine tk (i := 12) rfl ?_
        try simp only [Act.put, List.setIfInBounds_toArray, List.set_cons_zero, List.set_cons_succ]
        refine tk (i := 13) rfl ?_
        try simp only [Act.put, List.setIfInBounds_toArray, List.set_cons_zero, List.set_cons_succ]
        refine tk (i := 14) rfl ?_
        try simp only [Act.put, List.setIfInBounds_toArray, List.set_cons_zero, List.set_cons_succ]
        refine tk (i := 15) rfl ?_
        try simp only [Act.put, List.setIfInBounds_toArray, List.set_cons_zero, List.set_cons_succ]
        refine tk (i := 16) rfl ?_
        try simp only [Act.put, List.setIfInBounds_toArray, List.set_cons_zero, List.set_cons_succ]
        refine tk (i := 17) rfl ?_
        try simp only [Act.put, List.setIfInBounds_toArray, List.set_cons_zero, List.set_cons_succ]
        refine tk (i := 18) rfl ?_
        try simp only [Act.put, List.setIfInBounds_toArray, List.set_cons_zero, List.set_cons_succ]
        refine tk (i := 19) rfl ?_
        try simp only [Act.put, List.setIfInBounds_toArray, List.set_cons_zero, List.set_cons_succ]
        refine tk (i := 20) rfl ?_
        try simp only [Act.put, List.setIfInBounds_toArray, List.set_cons_zero, List.set_cons_succ]
        refine tk (i := 21) rfl ?_
        try simp only [Act.put, List.setIfInBounds_toArray, List.set_cons_zero, List.set_cons_succ]
        refine wpAnyH_done (by kernel_rfl) ?_ _
        refine NoPanic.normal ?_
        go_wp2_with fail
        go_ret
        exact ⟨_, rfl, .inr ⟨j, rfl, HU.out, HDF.out⟩, below_drew HB.out⟩
    · have k1 : decide (j < a.length) = false := decide_eq_false hlt
      have k1' : decide (a.length ≤ j) = true := decide_eq_true (by omega)
      have hj' : j = a.length := by omega
      by_cases hltb : j < b.length
      · have k2 : decide (j < b.length) = true := decide_eq_true hltb
        have HDF : Hid (Diff a b j) := Lib.hid ⟨.inr hltb, fun h _ => absurd h hlt⟩
        go_upto_region 4 with fail
        refine wp_region_noPanic ?_
        refine wp_region_held_drew (S := fun _ => True) (by kernel_rfl) trivial (fun hHeld => ?_)
        refine tk (i := 0) rfl ?_
        try simp only [Act.put, List.setIfInBounds_toArray, List.set_cons_zero, List.set_cons_succ]
        refine tk (i := 1) rfl ?_
        try simp only [Act.put, List.setIfInBounds_toArray, List.set_cons_zero, List.set_cons_succ]
        refine tk (i := 2) rfl ?_
        try simp only [Act.put, List.setIfInBounds_toArray, List.set_cons_zero, List.set_cons_succ]
        refine tk (i := 3) rfl ?_
        try simp only [Act.put, List.setIfInBounds_toArray, List.set_cons_zero, List.set_cons_succ]
        refine tk (i := 4) rfl ?_
        try simp only [Act.put, List.setIfInBounds_toArray, List.set_cons_zero, List.set_cons_succ]
        refine tk (i := 5) rfl ?_
        try simp only [Act.put, List.setIfInBounds_toArray, List.set_cons_zero, List.set_cons_succ]
        refine tk (i := 6) rfl ?_
        try simp only [Act.put, List.setIfInBounds_toArray, List.set_cons_zero, List.set_cons_succ]
        refine tk (i := 7) rfl ?_
        try simp only [Act.put, List.setIfInBounds_toArray, List.set_cons_zero, List.set_cons_succ]
        refine tk (i := 8) rfl ?_
        try simp only [Act.put, List.setIfInBounds_toArray, List.set_cons_zero, List.set_cons_succ]
        refine tk (i := 9) rfl ?_
        try simp only [Act.put, List.setIfInBounds_toArray, List.set_cons_zero, List.set_cons_succ]
        refine tk (i := 10) rfl ?_
        try simp only [Act.put, List.setIfInBounds_toArray, List.set_cons_zero, List.set_cons_succ]
        refine tk (i := 11) rfl ?_
        try simp only [Act.put, List.setIfInBounds_toArray, List.set_cons_zero, List.set_cons_succ]
        refine tk (i := 12) rfl ?_
        try simp only [Act.put, List.setIfInBounds_toArray, List.set_cons_zero, List.set_cons_succ]
        refine tk (i := 13) rfl ?_
        try simp only [Act.put, List.setIfInBounds_toArray, List.set_cons_zero, List.set_cons_succ]
        refine tk (i := 14) rfl ?_
        try simp only [Act.put, List.setIfInBounds_toArray, List.set_cons_zero, List.set_cons_succ]
        refine tk (i := 15) rfl ?_
        try simp only [Act.put, List.setIfInBounds_toArray, List.set_cons_zero, List.set_cons_succ]
        refine tk (i := 16) rfl ?_
        try simp only [Act.put, List.setIfInBounds_toArray, List.set_cons_zero, List.set_cons_succ]
        refine tk (i := 17) rfl ?_
        try simp only [Act.put, List.setIfInBounds_toArray, List.set_cons_zero, List.set_cons_succ]
        refine tk (i := 18) rfl ?_
        try simp only [Act.put, List.setIfInBounds_toArray, List.set_cons_zero, List.set_cons_succ]
        refine tk (i := 19) rfl ?_
        try simp only [Act.put, List.setIfInBounds_toArray, List.set_cons_zero, List.set_cons_succ]
        refine tk (i := 20) rfl ?_
        try simp only [Act.put, List.setIfInBounds_toArray, List.set_cons_zero, List.set_cons_succ]
        refine tk (i := 21) rfl ?_
        try simp only [Act.put, List.setIfInBounds_toArray, List.set_cons_zero, List.set_cons_succ]
        refine wpAnyH_done (by kernel_rfl) ?_ _
        refine NoPanic.normal ?_
        go_wp2_with fail
        go_ret
        exact ⟨_, rfl, .inr ⟨j, rfl, HU.out, HDF.out⟩, below_drew HB.out⟩
      · have k2 : decide (j < b.length) = false := decide_eq_false hltb
        have HEQ : Hid (a.length = b.length ∧ Upto a b a.length) := Lib.hid ⟨by omega, hj' ▸ HU.out⟩
        clear k2
        have k2 : decide (a.length < b.length) = false := decide_eq_false (hj' ▸ hltb)
        go_wp2_with fail
        go_ret
        exact ⟨_, rfl, .inl ⟨rfl, HEQ.out.1, HEQ.out.2⟩, HB.out⟩
end Mc
end Go.Proofs.YtjfhnkhabipbdaaGreatDoor
namespace Go.Proofs.YtjfhnkhabipbdaaGreatDoor
open Go.RowKit
set_option linter.unusedVariables false
set_option linter.unusedSimpArgs false
namespace Rg
open _root_.Go.Proofs.YtjfhnkhabipbdaaGreatDoor.Nm (bitsW ret_int ret_bool)
open Bt (sb)
open Fu (rdigits_any dgt hd hdb)
open Pf (hexL hexL_cons)
open Vt (below_drew)

theorem itoa_neg {n : Int} (h : n < 0) : Lib.itoa n = 45 :: Lib.decDigits (-n).toNat := by
  unfold Lib.itoa
  rw [if_pos h, show n.natAbs = (-n).toNat by omega]
theorem itoa_pos {n : Int} (h : ¬ n < 0) : Lib.itoa n = Lib.decDigits n.toNat := by unfold Lib.itoa; rw [if_neg h]
set_option maxRecDepth 100000 in
theorem rdecimal_any (n : Int) (h0 : -9223372036854775808 ≤ n) (h1 : n ≤ 9223372036854775807) (w : World) :
    Calls Tryz.prog 83 #[.int .i64 n] w fun e w' => e = .returned (.string ⟨(Lib.itoa n).toArray⟩) ∧ w' = w := by
  by_cases hn : n < 0
  · have k1 : decide (n < 0) = true := decide_eq_true hn
    have HE := Lib.hid (itoa_neg hn)
    obtain ⟨m, hm⟩ : ∃ m : Nat, m = (-n).toNat := ⟨_, rfl⟩
    have hm64 : m < 18446744073709551616 := by omega
    have HD : Hid (Calls Tryz.prog 30 #[.int .u64 (-(n + 1) + 1)] w fun e w' => e = .returned (.string ⟨(Lib.decDigits m).toArray⟩) ∧ w' = w) := Lib.hid (by
      have := rdigits_any m hm64 w
      rw [show (m : Int) = -(n + 1) + 1 by omega] at this
      exact this)
    have hdl : (Lib.decDigits m).length ≤ 21 := Vf.dec_len m hm64
    rw [← hm] at HE
    rw [HE.out]
    obtain ⟨S, hS⟩ : ∃ S : ByteArray, S = ⟨(Lib.decDigits m).toArray⟩ := ⟨_, rfl⟩
    have hsz : S.size ≤ 21 := by rw [hS]; exact hdl
    have HS := Lib.hid hS
    rw [← hS] at HD
    clear hS hdl hm
    go_enter Tryz.func83, Tryz.ntmps83
    go_wp2_with fail
    refine HD.out.mono ?_
    rintro e w1 ⟨rfl, rfl⟩
    go_wp2_with fail
    go_ret
    exact ⟨by rw [HS.out]; rfl, rfl⟩
  · have k1 : decide (n < 0) = false := decide_eq_false hn
    have HE := Lib.hid (itoa_pos hn)
    obtain ⟨m, hm⟩ : ∃ m : Nat, m = n.toNat := ⟨_, rfl⟩
    have HD : Hid (Calls Tryz.prog 30 #[.int .u64 n] w fun e w' => e = .returned (.string ⟨(Lib.decDigits m).toArray⟩) ∧ w' = w) := Lib.hid (by
      have := rdigits_any m (by omega) w
      rw [show (m : Int) = n by omega] at this
      exact this)
    rw [← hm] at HE
    rw [HE.out]
    clear hm
    go_enter Tryz.func83, Tryz.ntmps83
    go_wp2_with fail
    refine HD.out.mono ?_
    rintro e w1 ⟨rfl, rfl⟩
    go_wp2_with fail
    go_ret
    exact ⟨rfl, rfl⟩

theorem ext8 (y : Nat) (h : y < 16) : (⟨#[48, 49, 50, 51, 52, 53, 54, 55, 56, 57, 97, 98, 99, 100, 101, 102]⟩ : ByteArray).extract y (y + 1) = ⟨#[UInt8.ofNat (hd y)]⟩ := by
  rcases (by omega : y = 0 ∨ y = 1 ∨ y = 2 ∨ y = 3 ∨ y = 4 ∨ y = 5 ∨ y = 6 ∨ y = 7 ∨ y = 8 ∨ y = 9 ∨ y = 10 ∨ y = 11 ∨ y = 12 ∨ y = 13 ∨ y = 14 ∨ y = 15) with rfl | rfl | rfl | rfl | rfl | rfl | rfl | rfl | rfl | rfl | rfl | rfl | rfl | rfl | rfl | rfl
  all_goals rfl
theorem app2 (l : List UInt8) (a b : UInt8) : (⟨l.toArray⟩ : ByteArray) ++ ⟨#[a]⟩ ++ ⟨#[b]⟩ = ⟨(l ++ [a, b]).toArray⟩ := by
  apply ByteArray.ext
  simp
theorem size2 (so : ByteArray) (a b : UInt8) : (so ++ ⟨#[a]⟩ ++ ⟨#[b]⟩).size = so.size + 2 := by rw [ByteArray.size_append, ByteArray.size_append]; rfl
theorem hexL_take (l : List Nat) (j : Nat) (h : j < l.length) : hexL (l.take (j + 1)) = hexL (l.take j) ++ [UInt8.ofNat (hd (l[j] / 16)), UInt8.ofNat (hd (l[j] % 16))] := by
  rw [List.take_succ_eq_append_getElem h]
  unfold hexL
  rw [List.map_append, List.flatten_append]; rfl
theorem hexL_len (l : List Nat) : (hexL l).length = 2 * l.length := by
  induction l with
  | nil => rfl
  | cons c l ih => rw [hexL_cons]; simp only [List.length_cons, ih]; omega
set_option maxRecDepth 100000 in
set_option maxHeartbeats 2000000 in
theorem rhex_any (s : ByteArray) (hs : s.size ≤ 100000) (w : World) :
    Calls Tryz.prog 85 #[.string s] w fun e w' => e = .returned (.string ⟨(hexL (sb s)).toArray⟩) ∧ Below w.heap.size w w' := by
  have hsl := Bt.sb_len s
  have HLT := Lib.hid (Pf.sb_lt s)
  have HG := Lib.hid (Vf.sb_get s)
  go_enter Tryz.func85, Tryz.ntmps85
  go_wp2_with fail
  go_loopw [3, 4] (fun o i wr => ∃ (j : Nat) (so : ByteArray), j ≤ s.size ∧ i = .int .i64 (j : Nat) ∧ o = .string so ∧ Hid (so = ⟨(hexL ((sb s).take j)).toArray⟩) ∧ so.size = 2 * j ∧ Below w.heap.size w wr) (fun _ i _ => s.size - (intOf i).toNat)
  case atStart => exact ⟨0, ⟨#[]⟩, by omega, rfl, rfl, Lib.hid (by simp [hexL]), rfl, Below.refl _ _⟩
  case round =>
    obtain ⟨j, so, hj, rfl, rfl, HSO, hso, hb⟩ := hrel
    have HB := Lib.hid hb
    clear hb
    by_cases hlt : j < s.size
    · have hjl : j < (sb s).length := by omega
      have hc := HLT.out _ (List.getElem_mem hjl)
      have hch0 : s[j].toNat = (sb s)[j] := by simp [sb]; rfl
      have HTK := Lib.hid (hexL_take (sb s) j hjl)
      obtain ⟨ch, hch⟩ : ∃ ch, (sb s)[j] = ch := ⟨_, rfl⟩
      rw [hch] at hc hch0 HTK
      obtain ⟨x, hx⟩ : ∃ x, x = ch / 16 := ⟨_, rfl⟩
      obtain ⟨y, hy⟩ : ∃ y, y = ch % 16 := ⟨_, rfl⟩
      have hx16 : x < 16 := by omega
      have hy16 : y < 16 := by omega
      have q1 : (ch : Int) / 16 = (x : Int) := by omega
      have q2 : (ch : Int) % 16 = (y : Int) := by omega
      rw [← hx, ← hy] at HTK
      have q3 : (x : Int) % 256 = x := by omega
      have q4 : ((x : Int) + 1) % 256 = x + 1 := by omega
      have q5 : (y : Int) % 256 = y := by omega
      have q6 : ((y : Int) + 1) % 256 = y + 1 := by omega
      have q7 : (x : Int) + 1 ≤ 16 := by omega
      have q8 : (y : Int) + 1 ≤ 16 := by omega
      have ex := ext8 x hx16
      have ey := ext8 y hy16
      have hz1 : ¬ (9223372036854775807 < so.size + 1) := by omega
      have hz2 : ¬ (9223372036854775807 < so.size + 1 + 1) := by omega
      clear hx hy hch
      go_upto_region 5 with fail
      go_region
      go_wp2_with fail
      refine ⟨⟨j + 1, so ++ ⟨#[UInt8.ofNat (hd x)]⟩ ++ ⟨#[UInt8.ofNat (hd y)]⟩, by omega, by go_num, rfl, Lib.hid ?_, ?_, below_drew HB.out⟩, by simp [intOf]; omega⟩
      · rw [HTK.out, HSO.out]
        exact app2 _ _ _
      · rw [size2, hso]
        omega
    · have hj' : j = s.size := by omega
      subst hj'
      go_wp2_with fail
      go_ret
      exact ⟨by have := HSO.out; rw [← hsl, List.take_length] at this; rw [this]; rfl, HB.out⟩
end Rg
end Go.Proofs.YtjfhnkhabipbdaaGreatDoor
namespace Go.Proofs.YtjfhnkhabipbdaaGreatDoor
open Go.RowKit
set_option linter.unusedVariables false
set_option linter.unusedSimpArgs false
namespace Vf
open _root_.Go.Proofs.YtjfhnkhabipbdaaGreatDoor.Nm (bitsW ret_int ret_bool)
open Vt (VT Rep BoxAt below_drew KidsAt HeadOk)
open Ev (EV FieldsOk evCells vCells EBox ERep zeroT take_drop tk cons_drop nameOf fieldsOf of_in evalid_any)
open Cm (evSame evSame_refl rsev_any evsame_cut)
open Bt (BOwn BIn PIn sb bv)

end Vf
end Go.Proofs.YtjfhnkhabipbdaaGreatDoor
namespace Go.Proofs.YtjfhnkhabipbdaaGreatDoor
open Go.RowKit
set_option linter.unusedVariables false
set_option linter.unusedSimpArgs false
namespace Vf
open Vt (VT Rep)
open Ev (EV FieldsOk evCells vCells)
open Go.ChangeShapes Go.WideShapes Go.ChangeAt Go.Joins Go.Deep

theorem eleven (cs : List Value) (h : cs.length = 11) : ∃ a b c d e f g i j k l, cs = [a, b, c, d, e, f, g, i, j, k, l] := by
  match cs, h with
  | [a, b, c, d, e, f, g, i, j, k, l], _ => exact ⟨a, b, c, d, e, f, g, i, j, k, l, rfl⟩
set_option maxRecDepth 100000 in
theorem open_ev {H : Type} {enc : TypeId × Value → H} {W : World} {base : Nat} {spare : Nat → Bool} {held : Bool} (fuel : Nat) (cs : List Value) (x : DataW H × List MemPlace)
    (h : DataW.trod enc Tryz.prog W base spare held fuel 31 cs = some x) : ∃ (e : EV) (vk vn : Int) (vf : Nat) (vs : ByteArray) (A' : Option Addr) (m c : Nat), FieldsOk e ∧ Rep W base W.heap.size e.v (vCells vk vn vf vs A' m c) ∧ cs = (evCells e vk vn vf vs A' m c).toList := by
  have hC : Tryz.prog.cellsOf 31 = 11 := by kernel_rfl
  obtain ⟨xs, n, hn, hx, hlen, hxl, hg⟩ := DataW.trod_struct Tryz.underlying31 h
  obtain ⟨c0, c1, c2, c3, c4, c5, c6, c7, c8, c9, c10, rfl⟩ := eleven cs (hlen.trans hC)
  have hx : ∀ j : Nat, j < 7 → ∃ y, xs[j]? = some y := fun j hj => ⟨_, List.getElem?_eq_getElem (by rw [hxl]; exact hj)⟩
  obtain ⟨y0, z0⟩ := hx 0 (by omega); obtain ⟨y1, z1⟩ := hx 1 (by omega); obtain ⟨y2, z2⟩ := hx 2 (by omega); obtain ⟨y3, z3⟩ := hx 3 (by omega); obtain ⟨y4, z4⟩ := hx 4 (by omega); obtain ⟨y5, z5⟩ := hx 5 (by omega); obtain ⟨y6, z6⟩ := hx 6 (by omega)
  have g0 := (hg 0 _ rfl).trans z0; have g1 := (hg 1 _ rfl).trans z1; have g2 := (hg 2 _ rfl).trans z2; have g3 := (hg 3 _ rfl).trans z3; have g4 := (hg 4 _ rfl).trans z4; have g5 := (hg 5 _ rfl).trans z5; have g6 := (hg 6 _ rfl).trans z6
  have k1 : Tryz.prog.cellsOf 3 = 1 := by kernel_rfl
  have k2 : Tryz.prog.cellsOf 9 = 1 := by kernel_rfl
  have k3 : Tryz.prog.cellsOf 29 = 5 := by kernel_rfl
  have k4 : Tryz.prog.cellsOf 25 = 1 := by kernel_rfl
  simp [k1, k2, k3, k4] at g0 g1 g2 g3 g4 g5 g6
  obtain ⟨k, e0, -, w0⟩ := DataW.trod_int Tryz.underlying3 g0
  obtain ⟨id, e1, -, w1⟩ := DataW.trod_int Tryz.underlying25 g1
  obtain ⟨n2, e2, -, w2⟩ := DataW.trod_int Tryz.underlying3 g2
  obtain ⟨at', e3, -, w3⟩ := DataW.trod_int Tryz.underlying25 g3
  obtain ⟨nm, e4, -, w4⟩ := DataW.trod_string Tryz.underlying9 g4
  obtain ⟨tx, e5, -, w5⟩ := DataW.trod_string Tryz.underlying9 g5
  obtain ⟨t, ht⟩ := Vt.open_vt _ _ _ g6
  obtain rfl := List.singleton_inj.1 e0
  obtain rfl := List.singleton_inj.1 e1
  obtain rfl := List.singleton_inj.1 e2
  obtain rfl := List.singleton_inj.1 e3
  obtain rfl := List.singleton_inj.1 e4
  obtain rfl := List.singleton_inj.1 e5
  simp [Lit.wf, IntKind.min, IntKind.max, IntKind.bits, IntKind.signed] at w0 w1 w2 w3
  obtain ⟨vk, vn, vf, vs, l, A', cap, -, hv, -⟩ := ht.open_
  rw [hv] at ht
  injection hv with hv
  simp at hv
  obtain ⟨rfl, rfl, rfl, rfl, rfl⟩ := hv
  obtain ⟨mid, hmid⟩ : ∃ mn : Nat, id = mn := ⟨id.toNat, by omega⟩
  obtain ⟨mat, hmat⟩ : ∃ mn : Nat, at' = mn := ⟨at'.toNat, by omega⟩
  subst hmid hmat
  exact ⟨⟨k, mid, n2, mat, nm, tx, t⟩, vk, vn, vf, vs, A', l.length, cap, ⟨by show _ ≤ k; omega, by show k ≤ _; omega, by show mid < _; omega, by show _ ≤ n2; omega, by show n2 ≤ _; omega, by show mat < _; omega, w4, w5⟩, ht, rfl⟩

def deb64 : List Int := [0, 1, 56, 2, 57, 49, 28, 3, 61, 58, 42, 50, 38, 29, 17, 4, 62, 47, 59, 36, 45, 43, 51, 22, 53, 39, 33, 30, 24, 18, 12, 5, 63, 55, 48, 27, 60, 41, 37, 16, 46, 35, 44, 21, 52, 32, 23, 11, 54, 26, 40, 15, 34, 20, 31, 10, 25, 14, 19, 9, 13, 8, 7, 6]
theorem tb_of_laid {l : List (String × DataW Unit)} {W : World}
    (h1 : ((l.filter fun x => x.2.handleName?.isNone).filter fun x => x.1 == "internal/strconv.uint64pow10") = [("internal/strconv.uint64pow10", Lib.tabData .u64 Lib.pow10Tab)])
    (h2 : ((l.filter fun x => x.2.handleName?.isNone).filter fun x => x.1 == "math/bits.deBruijn64tab") = [("math/bits.deBruijn64tab", Lib.tabData .u8 deb64)])
    (h : laidMetH Tryz.prog l W) : TB W := by
  obtain ⟨hm, -⟩ := laidMetH_iff.1 h
  have k1 := hm.filter (fun x => x.1 == "internal/strconv.uint64pow10")
  have k2 := hm.filter (fun x => x.1 == "math/bits.deBruijn64tab")
  rw [h1] at k1
  rw [h2] at k2
  have t1 := Lib.tabIs_of_head (g := 0) (t := 102) (e := 25) (n := 20) (by kernel_rfl) (by kernel_rfl) Tryz.underlying102 Tryz.underlying25 (by kernel_rfl) (by kernel_rfl) k1
  have t2 := Lib.tabIs_of_head (g := 3) (t := 125) (e := 5) (n := 64) (by kernel_rfl) (by kernel_rfl) Tryz.underlying125 Tryz.underlying5 (by kernel_rfl) (by kernel_rfl) k2
  have c2 := Lib.TabIs.cell t2 (g := 3) (by kernel_rfl) 15 (by decide)
  refine ⟨t1, c2, ?_⟩
  rcases Nat.lt_or_ge 3 W.heap.size with h' | h'
  · exact h'
  · simp [World.cell?, Array.getElem?_eq_none h'] at c2

end Vf
end Go.Proofs.YtjfhnkhabipbdaaGreatDoor
