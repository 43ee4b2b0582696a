/- value.Text, event.quoted, event.Text of any valid small event. -/
/- The reference's decimal text of a number with a sign; its hexadecimal text of a string. -/
/- The reference's text of a value. -/
/- Texts of events tell the events: no program in sight. -/
import Derived.Test.YtcbddebmmaflgaaGreatDoorMhau
import Derived.Test.YtcbddebmmaflgaaGreatDoorMhas
import Derived.Test.YtcbddebmmaflgaaGreatDoorMhat
import Derived.Test.YtcbddebmmaflgaaGreatDoorMhan
import Derived.Test.YtcbddebmmaflgaaGreatDoorMhao
namespace Go.Proofs.YtcbddebmmaflgaaGreatDoor
open Go.RowKit Go.Shelf
set_option linter.unusedVariables false
set_option linter.unusedSimpArgs false
namespace Vf
open _root_.Go.Proofs.YtcbddebmmaflgaaGreatDoor.Nm (bitsW bits_any ret_int ret_bool)
open Bt (BOwn BIn ubytes sb SOwn join_any run_append_str selS etext_walk)
open Pf (zz hexL hexL_cons stext)
open Vt (VT Rep BoxAt below_drew KidsAt HeadOk kindV of_any)
open Ev (EV FieldsOk evCells vCells EBox ERep zeroT take_drop tk cons_drop fieldsOf nameOf of_in evalid_any)
open Fu (hd hd_lt textW)

theorem t_none (n : Nat) (w : World) : (method (n + 1) 148 (.agg #[]) "clockwork/value.text").run Tryz.prog w = .ok (188, .agg #[]) w := by kernel_rfl
theorem t_int (n : Nat) (w : World) : (method (n + 1) 136 (.agg #[]) "clockwork/value.text").run Tryz.prog w = .ok (164, .agg #[]) w := by kernel_rfl
theorem t_float (n : Nat) (w : World) : (method (n + 1) 138 (.agg #[]) "clockwork/value.text").run Tryz.prog w = .ok (169, .agg #[]) w := by kernel_rfl
theorem t_text (n : Nat) (w : World) : (method (n + 1) 142 (.agg #[]) "clockwork/value.text").run Tryz.prog w = .ok (182, .agg #[]) w := by kernel_rfl
theorem t_list (n : Nat) (w : World) : (method (n + 1) 143 (.agg #[]) "clockwork/value.text").run Tryz.prog w = .ok (185, .agg #[]) w := by kernel_rfl
theorem u_none (args : Array Value) (w : World) : (callFunc 188 args).run Tryz.prog w = .ok (.enter 188 args) w := by kernel_rfl
theorem u_int (args : Array Value) (w : World) : (callFunc 164 args).run Tryz.prog w = .ok (.enter 164 args) w := by kernel_rfl
theorem u_float (args : Array Value) (w : World) : (callFunc 169 args).run Tryz.prog w = .ok (.enter 169 args) w := by kernel_rfl
theorem u_text (args : Array Value) (w : World) : (callFunc 182 args).run Tryz.prog w = .ok (.enter 182 args) w := by kernel_rfl
theorem u_list (args : Array Value) (w : World) : (callFunc 185 args).run Tryz.prog w = .ok (.enter 185 args) w := by kernel_rfl

theorem tail_le (l : List VT) : ∀ (i : Nat) (h : i < l.length), (Pf.VT.text l[i]).length ≤ (Lib.joinTail [32] (l.map Pf.VT.text)).length := by
  induction l with
  | nil => intro i h; simp at h
  | cons t l ih =>
    intro i h
    rw [List.map_cons, show Lib.joinTail [32] (Pf.VT.text t :: l.map Pf.VT.text) = (32 :: Pf.VT.text t) ++ Lib.joinTail [32] (l.map Pf.VT.text) from by simp [Lib.joinTail], List.length_append, List.length_cons]
    cases i with
    | zero => simp only [List.getElem_cons_zero]; omega
    | succ i =>
      have := ih i (by simpa using h)
      simp only [List.getElem_cons_succ]
      omega
theorem elem_le (l : List VT) (i : Nat) (h : i < l.length) : (Pf.VT.text l[i]).length ≤ (Lib.join (l.map Pf.VT.text) [32]).length := by
  cases l with
  | nil => simp at h
  | cons t l =>
    rw [List.map_cons, Lib.join_cons, List.length_append]
    cases i with
    | zero => simp only [List.getElem_cons_zero]; omega
    | succ i =>
      have := tail_le l i (by simpa using h)
      simp only [List.getElem_cons_succ]
      omega

theorem slim_up {t : VT} (h : t.Slim 900) : t.Slim 1100 := by
  induction t using VT.ind with
  | _ k n f s l ih =>
    obtain ⟨h1, h2, h3⟩ := Vt.slim_mk.1 h
    exact Vt.slim_mk.2 ⟨by omega, by omega, fun i hi => ih i hi (h3 i hi)⟩
theorem txok (t : VT) : ∀ (d : Nat), t.valid d = true → (Pf.VT.text t).length ≤ 100000 → t.Slim 1100 → TxOk t := by
  induction t using VT.ind with
  | _ k n f s l ih =>
    intro d hv hlen hS
    obtain ⟨hs9, hl9, hkS⟩ := Vt.slim_mk.1 hS
    rw [Pf.text_mk] at hlen
    have e9 := Pf.text_mk k n f s l
    rcases Pf.valid_cases hv with ⟨rfl, -⟩ | ⟨rfl, -⟩ | ⟨rfl, -⟩ | ⟨rfl, -⟩ | ⟨rfl, -, -, -, hkv⟩
    · refine ⟨_, _, rfl, t_none, u_none, fun W lo hi v hR hz ht => ?_⟩
      obtain ⟨A, cap, rfl, ho, hl, hk⟩ := hR.head
      rw [e9]
      exact none_text _ n f s A _ _ W
    · refine ⟨_, _, rfl, t_int, u_int, fun W lo hi v hR hz ht => ?_⟩
      obtain ⟨A, cap, rfl, ho, hl, hk⟩ := hR.head
      rw [e9]
      exact int_text _ n ho.n0 ho.n1 f s A _ _ W ht
    · refine ⟨_, _, rfl, t_float, u_float, fun W lo hi v hR hz ht => ?_⟩
      obtain ⟨A, cap, rfl, ho, hl, hk⟩ := hR.head
      rw [e9]
      exact float_text _ n f ho.f1 s A _ _ W ht
    · refine ⟨_, _, rfl, t_text, u_text, fun W lo hi v hR hz ht => ?_⟩
      obtain ⟨A, cap, rfl, ho, hl, hk⟩ := hR.head
      rw [e9]
      exact text_text _ n f s (by omega) A _ _ W
    · rw [if_neg (by omega), if_neg (by omega), if_neg (by omega), if_pos rfl] at hlen e9
      rw [List.length_cons, List.length_append, List.length_singleton] at hlen
      refine ⟨_, _, rfl, t_list, u_list, fun W lo hi v hR hz ht => ?_⟩
      obtain ⟨A, cap, rfl, ho, hl, hk⟩ := hR.head
      rw [e9]
      exact list_text _ n f s l A cap hl hl9 ho.m1 W lo hi hk hz ht (by omega) (fun i hi => ih i hi (d - 1) (hkv _ (List.getElem_mem hi)) (by have := elem_le l i hi; omega) (hkS i hi))

set_option maxRecDepth 100000 in
set_option maxHeartbeats 1000000 in
theorem vtext_any (t : VT) (hlen : (Pf.VT.text t).length ≤ 100000) (hS : t.Slim 1100) (lo hi : Nat) (vk vn : Int) (vf : Nat) (vs : ByteArray) (A : Option Addr) (m c : Nat) (w : World) (hv : Rep w lo hi t (.agg #[.int .i64 vk, .int .i64 vn, .float .f64 vf, .string vs, .slice A m c])) (hz : hi ≤ w.heap.size) (hval : t.valid 8 = true) (ht : TB w) :
    Calls Tryz.prog 60 #[.agg #[.int .i64 vk, .int .i64 vn, .float .f64 vf, .string vs, .slice A m c]] w fun e w' => e = .returned (.string (textB t)) ∧ Below w.heap.size w w' := by
  obtain ⟨TT, MM, hkv, hM, hcall, hT⟩ := txok t 8 hval hlen hS
  have hvk : vk = t.k := by
    obtain ⟨k', n', f', s', l', A', cap', rfl, hc, -⟩ := hv.open_
    injection hc with hc
    simp at hc
    exact hc.1
  obtain ⟨W0, hW0⟩ : ∃ W0, W0 = w.alloc (.cells #[.int .i64 vk, .int .i64 vn, .float .f64 vf, .string vs, .slice A m c] 30) := ⟨_, rfl⟩
  have hB0 : Below w.heap.size w W0 := by rw [hW0]; exact (Below.refl _ _).alloc (Nat.le_refl _) _
  have hbx : BoxAt W0 w.heap.size vk vn vf vs A m c := by rw [hW0]; exact BoxAt.new ..
  have hz0 : w.heap.size < W0.heap.size := by rw [hW0]; simp
  have HBX : Hid (∀ W, Below W0.heap.size W0 W → BoxAt W w.heap.size vk vn vf vs A m c) := Lib.hid fun W hW => hbx.later hW hz0
  have HV := Lib.hid (Vt.valid_any t W0 lo hi _ (hv.later (hB0.mono hz)) (Nat.le_trans hz hB0.size))
  rw [hval] at HV
  have HT0 : Hid (∀ W, Below W0.heap.size W0 W → Calls Tryz.prog MM #[.agg #[], .agg #[.int .i64 vk, .int .i64 vn, .float .f64 vf, .string vs, .slice A m c]] W (KT W (Pf.VT.text t))) := Lib.hid fun W hW =>
    hT W lo hi _ ((hv.later (hB0.mono hz)).later (hW.mono (Nat.le_trans hz hB0.size))) (Nat.le_trans hz (Nat.le_trans hB0.size hW.size)) ((ht.later hB0).later hW)
  have HO : Hid (∀ W, Calls Tryz.prog 90 #[.int .i64 vk] W fun e w' => e = .returned (.iface TT (.agg #[])) ∧ W = w') := Lib.hid fun W => by
    have h9 := of_any vk W
    rw [hvk, hkv] at h9
    rw [hvk]
    exact h9
  have HB0 := Lib.hid hB0
  obtain ⟨c0, c1, c2, c3, c4⟩ := hbx.cells
  clear hB0 hbx hv hT hkv hvk ht
  replace hW0 := Lib.hid hW0
  go_enter Tryz.func60, Tryz.ntmps60
  go_upto_region 1 with fail
  rw [← hW0.out]
  go_wp2_with fail
  refine HV.out.mono ?_
  rintro e w1 ⟨rfl, hb1⟩
  obtain ⟨d0, d1, d2, d3, d4⟩ := (HBX.out w1 hb1).cells
  have HB1 := Lib.hid hb1
  have KS : Hid (∀ W' : World, Below w1.heap.size w1 W' → (W'.cell? ⟨w.heap.size, 0, none⟩ = some (.int .i64 vk) ∧ W'.cell? ⟨w.heap.size, 1, none⟩ = some (.int .i64 vn) ∧ W'.cell? ⟨w.heap.size, 2, none⟩ = some (.float .f64 vf) ∧ W'.cell? ⟨w.heap.size, 3, none⟩ = some (.string vs) ∧ W'.cell? ⟨w.heap.size, 4, none⟩ = some (.slice A m c))) := Lib.hid fun W' hW => (HBX.out W' (HB1.out.trans (hW.mono HB1.out.size))).cells
  have HT : Hid (∀ W, Below w1.heap.size w1 W → Calls Tryz.prog MM #[.agg #[], .agg #[.int .i64 vk, .int .i64 vn, .float .f64 vf, .string vs, .slice A m c]] W (KT W (Pf.VT.text t))) := Lib.hid fun W hW => HT0.out W (HB1.out.trans (hW.mono HB1.out.size))
  clear hb1 c0 c1 c2 c3 c4
  go_upto_region 3 with fail
  clear d0 d1 d2 d3 d4
  refine wp_region_noPanic ?_
  refine wp_region_held_drew (S := (fun W' : World => W'.cell? ⟨w.heap.size, 0, none⟩ = some (.int .i64 vk) ∧ W'.cell? ⟨w.heap.size, 1, none⟩ = some (.int .i64 vn) ∧ W'.cell? ⟨w.heap.size, 2, none⟩ = some (.float .f64 vf) ∧ W'.cell? ⟨w.heap.size, 3, none⟩ = some (.string vs) ∧ W'.cell? ⟨w.heap.size, 4, none⟩ = some (.slice A m c))) (by kernel_rfl) ?_ (fun hHeld => ?_)
  · exact KS.out _ (below_drew (Below.refl _ _))
  refine tk (i := 0) rfl ?_
  try simp only [Act.put, List.setIfInBounds_toArray, List.set_cons_zero, List.set_cons_succ]
  refine tk (i := 1) rfl ?_
  try simp only [Act.put, List.setIfInBounds_toArray, List.set_cons_zero, List.set_cons_succ]
  refine tk (i := 3) rfl ?_
  try simp only [Act.put, List.setIfInBounds_toArray, List.set_cons_zero, List.set_cons_succ]
  refine wpAnyH_ready (rs := [2]) (by kernel_rfl) (by simp) ?_
  refine cons_drop rfl (fun K hK => ?_) AllReadyH.nil
  go_simp
  refine (HO.out _).mono ?_
  rintro e w2 ⟨rfl, rfl⟩
  go_wp2_with fail
  refine hK.out _ _ (KS.out _ (below_drew (Below.refl _ _))) (fun hHeld2 => ?_)
  clear hK K
  try simp only [Act.put, List.setIfInBounds_toArray, List.set_cons_zero, List.set_cons_succ]
  refine wpAnyH_ready (rs := [4]) (by kernel_rfl) (by simp) ?_
  refine cons_drop rfl (fun K hK => ?_) AllReadyH.nil
  go_simp
  refine (HT.out _ (below_drew (Below.refl _ _))).mono ?_
  rintro e w3 ⟨rfl, hb3⟩
  have hbx3 : Below w1.heap.size w1 w3 := (below_drew (Below.refl _ _)).trans hb3
  have HB3 := Lib.hid hbx3
  clear hb3 hbx3
  go_wp2_with fail
  refine hK.out _ _ (KS.out _ (HB3.out)) (fun hHeld2 => ?_)
  clear hK K
  try simp only [Act.put, List.setIfInBounds_toArray, List.set_cons_zero, List.set_cons_succ]
  refine tk (i := 5) rfl ?_
  try simp only [Act.put, List.setIfInBounds_toArray, List.set_cons_zero, List.set_cons_succ]
  refine wpAnyH_done (by kernel_rfl) ?_ _
  refine NoPanic.normal ?_
  go_wp2_with fail
  go_ret
  exact ⟨rfl, HB0.out.trans ((HB1.out.trans (HB3.out.mono HB1.out.size)).mono HB0.out.size)⟩

theorem text_valid (s : ByteArray) : (VT.mk 3 0 0 s []).valid 8 = true := by
  rw [Vt.valid_mk]
  have : bitsW 0 = 0 := by decide
  simp [this]
theorem text_slim (s : ByteArray) (hs : s.size ≤ 1100) : (VT.mk 3 0 0 s []).Slim 1100 := Vt.slim_mk.2 ⟨hs, by simp, fun i h => absurd h (by simp)⟩
theorem stext_len (s : ByteArray) : (stext s).length = 2 * s.size + 2 := by
  unfold stext
  rw [List.length_cons, List.length_append, hexL_len, Bt.sb_len, List.length_singleton]
theorem text_of (s : ByteArray) : Pf.VT.text (.mk 3 0 0 s []) = stext s := by rw [Pf.text_mk, if_neg (by omega), if_neg (by omega), if_pos rfl]

set_option maxRecDepth 100000 in
theorem quoted_any (s : ByteArray) (hs : s.size ≤ 1000) (w : World) (ht : TB w) : Calls Tryz.prog 59 #[.string s] w fun e w' => e = .returned (.string ⟨(stext s).toArray⟩) ∧ Below w.heap.size w w' := by
  have HT : Hid (Calls Tryz.prog 60 #[.agg #[.int .i64 3, .int .i64 0, .float .f64 0, .string s, .slice none 0 0]] w fun e w' => e = .returned (.string ⟨(stext s).toArray⟩) ∧ Below w.heap.size w w') := Lib.hid (by
    have h := vtext_any (.mk 3 0 0 s []) (by rw [text_of, stext_len]; omega) (text_slim s (by omega)) 0 0 3 0 0 s none 0 0 w (Rep.leaf ⟨by omega, by omega, by omega, by omega, by omega, by simp only [maxLen]; omega, by decide⟩) (Nat.zero_le _) (text_valid s) ht
    unfold textB at h
    rw [text_of] at h
    exact h)
  go_enter Tryz.func59, Tryz.ntmps59
  go_wp2_with fail
  refine HT.out.mono ?_
  rintro e w1 ⟨rfl, hb⟩
  have HB := Lib.hid hb
  clear hb
  go_wp2_with fail
  go_ret
  exact ⟨rfl, HB.out⟩

/-- The text of a valid event. -/
def selT (b0 b1 b2 b3 b4 b5 : Bool) (p0 p1 p2 p3 p4 p5 : List UInt8) : List (List UInt8) := (if b0 then [p0] else []) ++ ((if b1 then [p1] else []) ++ ((if b2 then [p2] else []) ++ ((if b3 then [p3] else []) ++ ((if b4 then [p4] else []) ++ (if b5 then [p5] else [])))))
def etext (e : EV) : List UInt8 := (nameOf e.k.toNat).data.toList ++ Lib.joinTail [32] (selT (hasF e 0) (hasF e 1) (hasF e 2) (hasF e 3) (hasF e 4) (hasF e 5) (Lib.decDigits e.id) (Lib.itoa e.n) (Lib.decDigits e.at') (stext e.name) (stext e.text) (Pf.VT.text e.v))
theorem selS_map (b0 b1 b2 b3 b4 b5 : Bool) (p0 p1 p2 p3 p4 p5 : List UInt8) : (selS [b0, b1, b2, b3, b4, b5] [⟨p0.toArray⟩, ⟨p1.toArray⟩, ⟨p2.toArray⟩, ⟨p3.toArray⟩, ⟨p4.toArray⟩, ⟨p5.toArray⟩] 6).map (·.data.toList) = selT b0 b1 b2 b3 b4 b5 p0 p1 p2 p3 p4 p5 := by
  unfold selS selT
  cases b0 <;> cases b1 <;> cases b2 <;> cases b3 <;> cases b4 <;> cases b5 <;> rfl
theorem tail_len (l : List (List UInt8)) : (Lib.joinTail [32] l).length = (l.map (fun x => x.length + 1)).sum := by
  induction l with
  | nil => rfl
  | cons x l ih =>
    rw [show Lib.joinTail [32] (x :: l) = (32 :: x) ++ Lib.joinTail [32] l from by simp [Lib.joinTail], List.length_append, ih, List.map_cons, List.sum_cons, List.length_cons]
theorem selT_len (b0 b1 b2 b3 b4 b5 : Bool) (p0 p1 p2 p3 p4 p5 : List UInt8) : ((selT b0 b1 b2 b3 b4 b5 p0 p1 p2 p3 p4 p5).map (fun x => x.length + 1)).sum ≤ p0.length + p1.length + p2.length + p3.length + p4.length + p5.length + 6 := by
  unfold selT
  cases b0 <;> cases b1 <;> cases b2 <;> cases b3 <;> cases b4 <;> cases b5 <;> simp <;> omega
theorem dec_len (n : Nat) (h : n < 18446744073709551616) : (Lib.decDigits n).length ≤ 21 := by
  by_cases hn : n ≤ 9223372036854775807
  · have := Lib.itoa_length_le n (by omega) (by omega)
    unfold Lib.itoa at this
    rw [if_neg (by omega)] at this
    simpa using this
  · have h1 := Lib.itoa_length_le ((n / 10 : Nat) : Int) (by omega) (by omega)
    unfold Lib.itoa at h1
    rw [if_neg (by omega)] at h1
    rw [Fu.dec_big n (by omega), List.length_append, List.length_singleton]
    have h2 : (Lib.decDigits (n / 10)).length ≤ 20 := by
      have h3 := Lib.itoa_length_le (-((n / 10 : Nat) : Int)) (by omega) (by omega)
      unfold Lib.itoa at h3
      rw [if_pos (by omega), List.length_cons] at h3
      simp only [Int.natAbs_neg, Int.natAbs_natCast] at h3
      omega
    omega
theorem name_len (k : Nat) : (nameOf k).data.toList.length ≤ 20 := by
  by_cases h : k ≤ 11
  · have : ∀ r : Fin 12, (nameOf r.val).data.toList.length ≤ 20 := by decide +kernel
    exact this ⟨k, by omega⟩
  · unfold nameOf
    split <;> first | omega | (simp; done) | decide
theorem etext_len (e : EV) (hf : FieldsOk e) (V : VE e) (hfine : Pf.VT.fine e.v) (hfew : e.v.few = true) : (etext e).length ≤ 30000 := by
  unfold etext
  rw [List.length_append, tail_len]
  have h0 := selT_len (hasF e 0) (hasF e 1) (hasF e 2) (hasF e 3) (hasF e 4) (hasF e 5) (Lib.decDigits e.id) (Lib.itoa e.n) (Lib.decDigits e.at') (stext e.name) (stext e.text) (Pf.VT.text e.v)
  have h1 := dec_len e.id hf.i1
  have h2 := Lib.itoa_length_le e.n hf.n0 hf.n1
  have h3 := dec_len e.at' hf.a1
  have h4 := stext_len e.name
  have h5 := stext_len e.text
  have h6 := text_len_few hfine hfew
  have h7 := name_len e.k.toNat
  have h8 := V.s1
  have h9 := V.t1
  omega

theorem etext_any (e : EV) (hval : e.valid = true) (hf : FieldsOk e) (hfew : e.v.few = true) (lo hi : Nat) (vk vn : Int) (vf : Nat) (vs : ByteArray) (A : Option Addr) (m c : Nat) (w : World) (hv : Rep w lo hi e.v (vCells vk vn vf vs A m c)) (hz : hi ≤ w.heap.size) (ht : TB w) :
    Calls Tryz.prog 17 #[.agg (evCells e vk vn vf vs A m c)] w fun r w' => r = .returned (.string ⟨(etext e).toArray⟩) ∧ Below w.heap.size w w' := by
  have V := ve_of hval
  have hfine : Pf.VT.fine e.v := Pf.Rep.fine hv
  have hlen := etext_len e hf V hfine hfew
  have hev := fun W (hW : Below w.heap.size w W) => evalid_any e W lo hi _ ⟨hf, vk, vn, vf, vs, A, m, c, rfl, hv.later (hW.mono hz)⟩ (Nat.le_trans hz hW.size)
  obtain ⟨kn, hkn⟩ : ∃ kn : Nat, e.k = kn := ⟨e.k.toNat, by have := V.k1; omega⟩
  obtain ⟨nn, hnn⟩ : ∃ nn : Nat, e.n = nn := ⟨e.n.toNat, by have := V.n1; omega⟩
  have k1 := V.k1; have k2 := V.k2; have n2 := V.n2
  have hkt : e.k.toNat = kn := by omega
  unfold etext hasF at hlen ⊢
  rw [hkt, hnn] at hlen ⊢
  unfold evCells at hev ⊢
  rw [hkn, hnn] at hev ⊢
  have hj : Lib.join ((nameOf kn :: selS [(fieldsOf kn).contains 0, (fieldsOf kn).contains 1, (fieldsOf kn).contains 2, (fieldsOf kn).contains 3, (fieldsOf kn).contains 4, (fieldsOf kn).contains 5] [⟨(Lib.decDigits e.id).toArray⟩, ⟨(Lib.itoa nn).toArray⟩, ⟨(Lib.decDigits e.at').toArray⟩, ⟨(stext e.name).toArray⟩, ⟨(stext e.text).toArray⟩, ⟨(Pf.VT.text e.v).toArray⟩] 6).map (·.data.toList)) [32] =
      (nameOf kn).data.toList ++ Lib.joinTail [32] (selT ((fieldsOf kn).contains 0) ((fieldsOf kn).contains 1) ((fieldsOf kn).contains 2) ((fieldsOf kn).contains 3) ((fieldsOf kn).contains 4) ((fieldsOf kn).contains 5) (Lib.decDigits e.id) (Lib.itoa nn) (Lib.decDigits e.at') (stext e.name) (stext e.text) (Pf.VT.text e.v)) := by
    rw [List.map_cons, Lib.join_cons, selS_map]
  rw [← hj] at hlen ⊢
  exact etext_walk kn e.id nn e.at' e.name e.text vk vn vf vs A m c (nameOf kn) ⟨(Lib.decDigits e.id).toArray⟩ ⟨(Lib.itoa nn).toArray⟩ ⟨(Lib.decDigits e.at').toArray⟩ ⟨(stext e.name).toArray⟩ ⟨(stext e.text).toArray⟩ ⟨(Pf.VT.text e.v).toArray⟩ ((fieldsOf kn).contains 0) ((fieldsOf kn).contains 1) ((fieldsOf kn).contains 2) ((fieldsOf kn).contains 3) ((fieldsOf kn).contains 4) ((fieldsOf kn).contains 5) w (by omega)
    (fun W hW => (hev W hW).mono fun r w' h => by rw [hval] at h; exact h)
    (fun W => of_in kn (by omega) (by omega) W)
    (fun W hW => Fu.fmtu_any e.id hf.i1 W (ht.later hW).pow)
    (fun W hW => Fu.itoa_any nn (by omega) (by omega) W (ht.later hW).pow)
    (fun W hW => Fu.fmtu_any e.at' hf.a1 W (ht.later hW).pow)
    (fun W hW => quoted_any e.name V.s1 W (ht.later hW))
    (fun W hW => quoted_any e.text V.t1 W (ht.later hW))
    (fun W hW => vtext_any e.v (by have := text_len_few hfine hfew; omega) (slim_up (Vt.slim_of_few _ hfew)) lo hi vk vn vf vs A m c W (hv.later (hW.mono hz)) (Nat.le_trans hz hW.size) V.v1 (ht.later hW))
end Vf
end Go.Proofs.YtcbddebmmaflgaaGreatDoor
namespace Go.Proofs.YtcbddebmmaflgaaGreatDoor
open Go.RowKit
set_option linter.unusedVariables false
set_option linter.unusedSimpArgs false
namespace Rg
open _root_.Go.Proofs.YtcbddebmmaflgaaGreatDoor.Nm (bitsW ret_int ret_bool)
open Bt (sb)
open Fu (rdigits_any dgt hd hdb)
open Pf (hexL hexL_cons)
open Vt (below_drew)

theorem itoa_neg {n : Int} (h : n < 0) : Lib.itoa n = 45 :: Lib.decDigits (-n).toNat := by
  unfold Lib.itoa
  rw [if_pos h, show n.natAbs = (-n).toNat by omega]
theorem itoa_pos {n : Int} (h : ¬ n < 0) : Lib.itoa n = Lib.decDigits n.toNat := by unfold Lib.itoa; rw [if_neg h]
set_option maxRecDepth 100000 in
theorem rdecimal_any (n : Int) (h0 : -9223372036854775808 ≤ n) (h1 : n ≤ 9223372036854775807) (w : World) :
    Calls Tryz.prog 124 #[.int .i64 n] w fun e w' => e = .returned (.string ⟨(Lib.itoa n).toArray⟩) ∧ w' = w := by
  by_cases hn : n < 0
  · have k1 : decide (n < 0) = true := decide_eq_true hn
    have HE := Lib.hid (itoa_neg hn)
    obtain ⟨m, hm⟩ : ∃ m : Nat, m = (-n).toNat := ⟨_, rfl⟩
    have hm64 : m < 18446744073709551616 := by omega
    have HD : Hid (Calls Tryz.prog 103 #[.int .u64 (-(n + 1) + 1)] w fun e w' => e = .returned (.string ⟨(Lib.decDigits m).toArray⟩) ∧ w' = w) := Lib.hid (by
      have := rdigits_any m hm64 w
      rw [show (m : Int) = -(n + 1) + 1 by omega] at this
      exact this)
    have hdl : (Lib.decDigits m).length ≤ 21 := Vf.dec_len m hm64
    rw [← hm] at HE
    rw [HE.out]
    obtain ⟨S, hS⟩ : ∃ S : ByteArray, S = ⟨(Lib.decDigits m).toArray⟩ := ⟨_, rfl⟩
    have hsz : S.size ≤ 21 := by rw [hS]; exact hdl
    have HS := Lib.hid hS
    rw [← hS] at HD
    clear hS hdl hm
    go_enter Tryz.func124, Tryz.ntmps124
    go_wp2_with fail
    refine HD.out.mono ?_
    rintro e w1 ⟨rfl, rfl⟩
    go_wp2_with fail
    go_ret
    exact ⟨by rw [HS.out]; rfl, rfl⟩
  · have k1 : decide (n < 0) = false := decide_eq_false hn
    have HE := Lib.hid (itoa_pos hn)
    obtain ⟨m, hm⟩ : ∃ m : Nat, m = n.toNat := ⟨_, rfl⟩
    have HD : Hid (Calls Tryz.prog 103 #[.int .u64 n] w fun e w' => e = .returned (.string ⟨(Lib.decDigits m).toArray⟩) ∧ w' = w) := Lib.hid (by
      have := rdigits_any m (by omega) w
      rw [show (m : Int) = n by omega] at this
      exact this)
    rw [← hm] at HE
    rw [HE.out]
    clear hm
    go_enter Tryz.func124, Tryz.ntmps124
    go_wp2_with fail
    refine HD.out.mono ?_
    rintro e w1 ⟨rfl, rfl⟩
    go_wp2_with fail
    go_ret
    exact ⟨rfl, rfl⟩

theorem ext8 (y : Nat) (h : y < 16) : (⟨#[48, 49, 50, 51, 52, 53, 54, 55, 56, 57, 97, 98, 99, 100, 101, 102]⟩ : ByteArray).extract y (y + 1) = ⟨#[UInt8.ofNat (hd y)]⟩ := by
  rcases (by omega : y = 0 ∨ y = 1 ∨ y = 2 ∨ y = 3 ∨ y = 4 ∨ y = 5 ∨ y = 6 ∨ y = 7 ∨ y = 8 ∨ y = 9 ∨ y = 10 ∨ y = 11 ∨ y = 12 ∨ y = 13 ∨ y = 14 ∨ y = 15) with rfl | rfl | rfl | rfl | rfl | rfl | rfl | rfl | rfl | rfl | rfl | rfl | rfl | rfl | rfl | rfl
  all_goals rfl
theorem app2 (l : List UInt8) (a b : UInt8) : (⟨l.toArray⟩ : ByteArray) ++ ⟨#[a]⟩ ++ ⟨#[b]⟩ = ⟨(l ++ [a, b]).toArray⟩ := by
  apply ByteArray.ext
  simp
theorem size2 (so : ByteArray) (a b : UInt8) : (so ++ ⟨#[a]⟩ ++ ⟨#[b]⟩).size = so.size + 2 := by rw [ByteArray.size_append, ByteArray.size_append]; rfl
theorem hexL_take (l : List Nat) (j : Nat) (h : j < l.length) : hexL (l.take (j + 1)) = hexL (l.take j) ++ [UInt8.ofNat (hd (l[j] / 16)), UInt8.ofNat (hd (l[j] % 16))] := by
  rw [List.take_succ_eq_append_getElem h]
  unfold hexL
  rw [List.map_append, List.flatten_append]; rfl
theorem hexL_len (l : List Nat) : (hexL l).length = 2 * l.length := by
  induction l with
  | nil => rfl
  | cons c l ih => rw [hexL_cons]; simp only [List.length_cons, ih]; omega
set_option maxRecDepth 100000 in
set_option maxHeartbeats 2000000 in
theorem rhex_any (s : ByteArray) (hs : s.size ≤ 100000) (w : World) :
    Calls Tryz.prog 126 #[.string s] w fun e w' => e = .returned (.string ⟨(hexL (sb s)).toArray⟩) ∧ Below w.heap.size w w' := by
  have hsl := Bt.sb_len s
  have HLT := Lib.hid (Pf.sb_lt s)
  have HG := Lib.hid (Vf.sb_get s)
  go_enter Tryz.func126, Tryz.ntmps126
  go_wp2_with fail
  go_loopw [3, 4] (fun o i wr => ∃ (j : Nat) (so : ByteArray), j ≤ s.size ∧ i = .int .i64 (j : Nat) ∧ o = .string so ∧ Hid (so = ⟨(hexL ((sb s).take j)).toArray⟩) ∧ so.size = 2 * j ∧ Below w.heap.size w wr) (fun _ i _ => s.size - (intOf i).toNat)
  case atStart => exact ⟨0, ⟨#[]⟩, by omega, rfl, rfl, Lib.hid (by simp [hexL]), rfl, Below.refl _ _⟩
  case round =>
    obtain ⟨j, so, hj, rfl, rfl, HSO, hso, hb⟩ := hrel
    have HB := Lib.hid hb
    clear hb
    by_cases hlt : j < s.size
    · have hjl : j < (sb s).length := by omega
      have hc := HLT.out _ (List.getElem_mem hjl)
      have hch0 : s[j].toNat = (sb s)[j] := by simp [sb]; rfl
      have HTK := Lib.hid (hexL_take (sb s) j hjl)
      obtain ⟨ch, hch⟩ : ∃ ch, (sb s)[j] = ch := ⟨_, rfl⟩
      rw [hch] at hc hch0 HTK
      obtain ⟨x, hx⟩ : ∃ x, x = ch / 16 := ⟨_, rfl⟩
      obtain ⟨y, hy⟩ : ∃ y, y = ch % 16 := ⟨_, rfl⟩
      have hx16 : x < 16 := by omega
      have hy16 : y < 16 := by omega
      have q1 : (ch : Int) / 16 = (x : Int) := by omega
      have q2 : (ch : Int) % 16 = (y : Int) := by omega
      rw [← hx, ← hy] at HTK
      have q3 : (x : Int) % 256 = x := by omega
      have q4 : ((x : Int) + 1) % 256 = x + 1 := by omega
      have q5 : (y : Int) % 256 = y := by omega
      have q6 : ((y : Int) + 1) % 256 = y + 1 := by omega
      have q7 : (x : Int) + 1 ≤ 16 := by omega
      have q8 : (y : Int) + 1 ≤ 16 := by omega
      have ex := ext8 x hx16
      have ey := ext8 y hy16
      have hz1 : ¬ (9223372036854775807 < so.size + 1) := by omega
      have hz2 : ¬ (9223372036854775807 < so.size + 1 + 1) := by omega
      clear hx hy hch
      go_upto_region 5 with fail
      go_region
      go_wp2_with fail
      refine ⟨⟨j + 1, so ++ ⟨#[UInt8.ofNat (hd x)]⟩ ++ ⟨#[UInt8.ofNat (hd y)]⟩, by omega, by go_num, rfl, Lib.hid ?_, ?_, below_drew HB.out⟩, by simp [intOf]; omega⟩
      · rw [HTK.out, HSO.out]
        exact app2 _ _ _
      · rw [size2, hso]
        omega
    · have hj' : j = s.size := by omega
      subst hj'
      go_wp2_with fail
      go_ret
      exact ⟨by have := HSO.out; rw [← hsl, List.take_length] at this; rw [this]; rfl, HB.out⟩
end Rg
end Go.Proofs.YtcbddebmmaflgaaGreatDoor
namespace Go.Proofs.YtcbddebmmaflgaaGreatDoor
open Go.RowKit
set_option linter.unusedVariables false
set_option linter.unusedSimpArgs false
namespace Rg
open _root_.Go.Proofs.YtcbddebmmaflgaaGreatDoor.Nm (bitsW ret_int ret_bool)
open Bt (sb)
open Fu (rtext_any textW)
open Pf (hexL stext)
open Vf (KT)
open Vt (VT Rep BoxAt below_drew KidsAt HeadOk)

/-- Bytes as a string. -/
def bs (l : List UInt8) : ByteArray := ⟨l.toArray⟩
theorem bs_size (l : List UInt8) : (bs l).size = l.length := by simp [bs, ByteArray.size]
theorem bs_append (a b : List UInt8) : bs a ++ bs b = bs (a ++ b) := by
  apply ByteArray.ext
  simp [bs]
theorem bs_list (s : ByteArray) : bs s.data.toList = s := by unfold bs; rfl
theorem join_first (l : List (List UInt8)) (h : 0 < l.length) : Lib.join (l.take 1) [32] = l[0] := by
  cases l with
  | nil => simp at h
  | cons x r => simp [Lib.join_one]
theorem join_step (l : List (List UInt8)) (j : Nat) (h : j < l.length) (h0 : 0 < j) : Lib.join (l.take (j + 1)) [32] = Lib.join (l.take j) [32] ++ [32] ++ l[j] := by
  cases l with
  | nil => simp at h
  | cons x r =>
    obtain ⟨k, rfl⟩ : ∃ k, j = k + 1 := ⟨j - 1, by omega⟩
    have hk : k < r.length := by simpa using h
    rw [List.take_succ_cons, List.take_succ_cons, Lib.join_cons, Lib.join_cons, Lib.joinTail_take_succ [32] r k r[k] (List.getElem?_eq_getElem hk)]
    simp [List.append_assoc]
theorem join_le (l : List (List UInt8)) (j : Nat) : (Lib.join (l.take j) [32]).length ≤ (Lib.join l [32]).length := by
  cases l with
  | nil => simp [Lib.join]
  | cons x r =>
    cases j with
    | zero => simp [Lib.join]
    | succ k =>
      rw [List.take_succ_cons, Lib.join_cons, Lib.join_cons, List.length_append, List.length_append]
      have := Lib.joinTail_take_le [32] r k
      omega

set_option maxRecDepth 100000 in
set_option maxHeartbeats 2000000 in
theorem rtext_none (n : Int) (f : Nat) (s : ByteArray) (A : Option Addr) (m c : Nat) (w : World) :
    Calls Tryz.prog 104 #[.agg #[.int .i64 0, .int .i64 n, .float .f64 f, .string s, .slice A m c]] w (KT w ([110, 105, 108])) := by
  obtain ⟨W0, hW0⟩ : ∃ W0, W0 = w.alloc (.cells #[.int .i64 0, .int .i64 n, .float .f64 f, .string s, .slice A m c] 30) := ⟨_, rfl⟩
  have HB0 : Hid (Below w.heap.size w W0) := Lib.hid (by rw [hW0]; exact (Below.refl _ _).alloc (Nat.le_refl _) _)
  have hx0 : BoxAt W0 w.heap.size 0 n f s A m c := by rw [hW0]; exact BoxAt.new ..
  obtain ⟨c0, c1, c2, c3, c4⟩ := hx0.cells
  clear hx0
  replace hW0 := Lib.hid hW0
  go_enter Tryz.func104, Tryz.ntmps104
  go_upto_region 1 with fail
  rw [← hW0.out]
  go_wp2_with fail
  go_ret
  exact ⟨rfl, HB0.out⟩

set_option maxRecDepth 100000 in
set_option maxHeartbeats 2000000 in
theorem rtext_int (n : Int) (f : Nat) (s : ByteArray) (A : Option Addr) (m c : Nat) (w : World) (h0 : -9223372036854775808 ≤ n) (h1 : n ≤ 9223372036854775807) :
    Calls Tryz.prog 104 #[.agg #[.int .i64 1, .int .i64 n, .float .f64 f, .string s, .slice A m c]] w (KT w (Lib.itoa n)) := by
  obtain ⟨W0, hW0⟩ : ∃ W0, W0 = w.alloc (.cells #[.int .i64 1, .int .i64 n, .float .f64 f, .string s, .slice A m c] 30) := ⟨_, rfl⟩
  have HB0 : Hid (Below w.heap.size w W0) := Lib.hid (by rw [hW0]; exact (Below.refl _ _).alloc (Nat.le_refl _) _)
  have hx0 : BoxAt W0 w.heap.size 1 n f s A m c := by rw [hW0]; exact BoxAt.new ..
  have HI := Lib.hid (rdecimal_any n h0 h1 W0)
  clear h0 h1
  obtain ⟨c0, c1, c2, c3, c4⟩ := hx0.cells
  clear hx0
  replace hW0 := Lib.hid hW0
  go_enter Tryz.func104, Tryz.ntmps104
  go_upto_region 1 with fail
  rw [← hW0.out]
  go_wp2_with fail
  refine HI.out.mono ?_
  rintro e w1 ⟨rfl, rfl⟩
  go_wp2_with fail
  go_ret
  exact ⟨rfl, HB0.out⟩

set_option maxRecDepth 100000 in
set_option maxHeartbeats 2000000 in
theorem rtext_float (n : Int) (f : Nat) (s : ByteArray) (A : Option Addr) (m c : Nat) (w : World) (hf : f < 18446744073709551616) :
    Calls Tryz.prog 104 #[.agg #[.int .i64 2, .int .i64 n, .float .f64 f, .string s, .slice A m c]] w (KT w (35 :: (textW (bitsW f)).data.toList)) := by
  obtain ⟨W0, hW0⟩ : ∃ W0, W0 = w.alloc (.cells #[.int .i64 2, .int .i64 n, .float .f64 f, .string s, .slice A m c] 30) := ⟨_, rfl⟩
  have HB0 : Hid (Below w.heap.size w W0) := Lib.hid (by rw [hW0]; exact (Below.refl _ _).alloc (Nat.le_refl _) _)
  have hx0 : BoxAt W0 w.heap.size 2 n f s A m c := by rw [hW0]; exact BoxAt.new ..
  have HI := Lib.hid (rtext_any f hf W0)
  have hl := Vf.textW_len (bitsW f)
  have HE : Hid ((⟨#[35]⟩ : ByteArray) ++ textW (bitsW f) = bs (35 :: (textW (bitsW f)).data.toList)) := Lib.hid (by
    have := bs_append [35] (textW (bitsW f)).data.toList
    rw [bs_list] at this
    exact this)
  have hs2 : (textW (bitsW f)).size = (textW (bitsW f)).data.toList.length := by rw [Array.length_toList]; rfl
  clear hf
  generalize textW (bitsW f) = T at *
  have hsz : ¬ (9223372036854775807 < 1 + T.size) := by omega
  clear hl hs2
  obtain ⟨c0, c1, c2, c3, c4⟩ := hx0.cells
  clear hx0
  replace hW0 := Lib.hid hW0
  go_enter Tryz.func104, Tryz.ntmps104
  go_upto_region 1 with fail
  rw [← hW0.out]
  go_wp2_with fail
  refine HI.out.mono ?_
  rintro e w1 ⟨rfl, rfl⟩
  go_wp2_with fail
  go_ret
  exact ⟨congrArg (fun x => Ending.returned (Value.string x)) HE.out, HB0.out⟩

set_option maxRecDepth 100000 in
set_option maxHeartbeats 2000000 in
theorem rtext_text (n : Int) (f : Nat) (s : ByteArray) (A : Option Addr) (m c : Nat) (w : World) (hs : s.size ≤ 100000) :
    Calls Tryz.prog 104 #[.agg #[.int .i64 3, .int .i64 n, .float .f64 f, .string s, .slice A m c]] w (KT w (stext s)) := by
  obtain ⟨W0, hW0⟩ : ∃ W0, W0 = w.alloc (.cells #[.int .i64 3, .int .i64 n, .float .f64 f, .string s, .slice A m c] 30) := ⟨_, rfl⟩
  have HB0 : Hid (Below w.heap.size w W0) := Lib.hid (by rw [hW0]; exact (Below.refl _ _).alloc (Nat.le_refl _) _)
  have hx0 : BoxAt W0 w.heap.size 3 n f s A m c := by rw [hW0]; exact BoxAt.new ..
  have HI := Lib.hid (rhex_any s hs W0)
  obtain ⟨T, hT⟩ : ∃ T : ByteArray, T = bs (hexL (sb s)) := ⟨_, rfl⟩
  have hT2 : (⟨(hexL (sb s)).toArray⟩ : ByteArray) = T := hT.symm
  rw [hT2] at HI
  have hl : T.size = 2 * s.size := by rw [hT, bs_size, hexL_len, Bt.sb_len]
  have hsz : ¬ (9223372036854775807 < 1 + T.size) := by omega
  have hsz2 : ¬ (9223372036854775807 < 1 + T.size + 1) := by omega
  have HE : Hid ((⟨#[34]⟩ : ByteArray) ++ T ++ ⟨#[34]⟩ = bs (stext s)) := Lib.hid (by
    rw [hT, show (⟨#[34]⟩ : ByteArray) = bs [34] from rfl, bs_append, bs_append]; simp [stext])
  clear hT hT2 hl hs
  obtain ⟨c0, c1, c2, c3, c4⟩ := hx0.cells
  clear hx0
  replace hW0 := Lib.hid hW0
  go_enter Tryz.func104, Tryz.ntmps104
  go_upto_region 1 with fail
  rw [← hW0.out]
  go_wp2_with fail
  refine HI.out.mono ?_
  rintro e w1 ⟨rfl, hb1⟩
  have HB1 := Lib.hid (HB0.out.trans (hb1.mono HB0.out.size))
  clear hb1
  go_wp2_with fail
  go_ret
  exact ⟨congrArg (fun x => Ending.returned (Value.string x)) HE.out, HB1.out⟩

set_option maxRecDepth 100000 in
set_option maxHeartbeats 2000000 in
theorem rtext_list (n : Int) (f : Nat) (s : ByteArray) (l : List VT) (A : Option Addr) (cap : Nat) (hl : l.length ≤ cap) (hcap : cap ≤ maxLen) (w : World) (lo hi : Nat) (hk : KidsAt w lo hi l A) (hz : hi ≤ w.heap.size) (hlen : (Lib.join (l.map Pf.VT.text) [32]).length ≤ 500000)
    (ih : ∀ i (h : i < l.length) (W : World) (lo hi : Nat) (v : Value), Rep W lo hi l[i] v → hi ≤ W.heap.size → Calls Tryz.prog 104 #[v] W (KT W (Pf.VT.text l[i]))) :
    Calls Tryz.prog 104 #[.agg #[.int .i64 4, .int .i64 n, .float .f64 f, .string s, .slice A l.length cap]] w (KT w (91 :: (Lib.join (l.map Pf.VT.text) [32] ++ [93]))) := by
  simp only [maxLen] at hcap
  obtain ⟨W0, hW0⟩ : ∃ W0, W0 = w.alloc (.cells #[.int .i64 4, .int .i64 n, .float .f64 f, .string s, .slice A l.length cap] 30) := ⟨_, rfl⟩
  have HB0 : Hid (Below w.heap.size w W0) := Lib.hid (by rw [hW0]; exact (Below.refl _ _).alloc (Nat.le_refl _) _)
  have hz0 : w.heap.size < W0.heap.size := by rw [hW0]; simp
  have hx0 : BoxAt W0 w.heap.size 4 n f s A l.length cap := by rw [hW0]; exact BoxAt.new ..
  have HBX : Hid (∀ W, Below W0.heap.size W0 W → BoxAt W w.heap.size 4 n f s A l.length cap) := Lib.hid fun W hW => hx0.later hW hz0
  have HK := Lib.hid (hk.later (HB0.out.mono hz))
  have IH := Lib.hid ih
  have HLEN := Lib.hid hlen
  have hhi : hi ≤ W0.heap.size := Nat.le_trans hz HB0.out.size
  obtain ⟨c0, c1, c2, c3, c4⟩ := hx0.cells
  clear hx0 hk ih hlen
  replace hW0 := Lib.hid hW0
  go_enter Tryz.func104, Tryz.ntmps104
  go_upto_region 1 with fail
  rw [← hW0.out]
  go_wp2_with fail
  clear c0 c1 c2 c3 c4
  go_loopw [3, 4] (fun o i wr => ∃ (j : Nat) (so : ByteArray), j ≤ l.length ∧ i = .int .i64 (j : Nat) ∧ o = .string so ∧ Hid (so = bs (91 :: Lib.join ((l.map Pf.VT.text).take j) [32])) ∧ so.size ≤ 500001 ∧ Below W0.heap.size W0 wr) (fun _ i _ => l.length - (intOf i).toNat)
  case atStart => exact ⟨0, ⟨#[91]⟩, by omega, rfl, rfl, Lib.hid (by simp [Lib.join, bs]), by decide, Below.refl _ _⟩
  case round =>
    obtain ⟨j, so, hj, rfl, rfl, HSO, hso, hb⟩ := hrel
    have HB := Lib.hid hb
    obtain ⟨c0, c1, c2, c3, c4⟩ := (HBX.out wr hb).cells
    clear hb
    by_cases hlt : j < l.length
    · obtain ⟨b, off, rfl, hb1, hb2, h3⟩ := (HK.out.later (HB.out.mono hhi)).at_ (by omega)
      obtain ⟨k', n', f', s', L', A', cap', e, g0, g1, g2, g3, g4, hrj⟩ := h3 j hlt
      have hhr : hi ≤ wr.heap.size := Nat.le_trans hhi HB.out.size
      have HF := Lib.hid (IH.out j hlt wr lo hi _ hrj hhr)
      have hjm : j < (l.map Pf.VT.text).length := by simpa using hlt
      have hle := join_le (l.map Pf.VT.text) (j + 1)
      obtain ⟨T, hT⟩ : ∃ T : ByteArray, T = bs (Pf.VT.text l[j]) := ⟨_, rfl⟩
      have HT : Hid ((⟨(Pf.VT.text l[j]).toArray⟩ : ByteArray) = T) := Lib.hid hT.symm
      clear h3 hrj e
      unfold KT at HF
      rw [HT.out] at HF
      by_cases h0 : j = 0
      · have k1 : decide ((0 : Int) < (j : Int)) = false := decide_eq_false (by omega)
        have k2 : decide (0 < j) = false := decide_eq_false (by omega)
        have hst : Lib.join ((l.map Pf.VT.text).take (j + 1)) [32] = Pf.VT.text l[j] := by subst h0; rw [join_first _ hjm]; simp
        have hst0 : Lib.join ((l.map Pf.VT.text).take j) [32] = [] := by rw [h0]; simp [Lib.join]
        have hS1 : so ++ T = bs (91 :: Lib.join ((l.map Pf.VT.text).take (j + 1)) [32]) := by
          rw [HSO.out, hT, bs_append, hst, hst0]; rfl
        have hsz1 : (so ++ T).size = so.size + T.size := ByteArray.size_append
        have hsz3 : (so ++ T).size ≤ 500001 := by rw [hS1, bs_size, List.length_cons]; have := HLEN.out; omega
        have hsz : ¬ (9223372036854775807 < so.size + T.size) := by omega
        have HS1 := Lib.hid hS1; have HZ3 := Lib.hid hsz3
        clear hS1 hsz1 hsz3 hst hst0 hT hle h0
        go_wp2_with fail
        refine HF.out.mono ?_
        rintro x w4 ⟨rfl, hb4⟩
        have HB4 := Lib.hid (HB.out.trans (hb4.mono HB.out.size))
        clear hb4 c0 c1 c2 c3 c4 g0 g1 g2 g3 g4
        go_wp2_with fail
        exact ⟨⟨j + 1, so ++ T, by omega, by go_num, rfl, HS1, HZ3.out, HB4.out⟩, by simp [intOf]; omega⟩
      · have hst := join_step (l.map Pf.VT.text) j hjm (by omega)
        have hpos : (0 : Int) < (j : Int) := by omega
        have k1 : decide ((0 : Int) < (j : Int)) = true := decide_eq_true hpos
        have k2 : decide (0 < j) = true := decide_eq_true (by omega)
        have hS1 : so ++ ⟨#[32]⟩ ++ T = bs (91 :: Lib.join ((l.map Pf.VT.text).take (j + 1)) [32]) := by
          rw [HSO.out, hT, show (⟨#[32]⟩ : ByteArray) = bs [32] from rfl, bs_append, bs_append, hst]; simp
        have hsz1 : (so ++ ⟨#[32]⟩ ++ T).size = so.size + 1 + T.size := by rw [ByteArray.size_append, ByteArray.size_append]; rfl
        have hsz3 : (so ++ ⟨#[32]⟩ ++ T).size ≤ 500001 := by rw [hS1, bs_size, List.length_cons]; have := HLEN.out; omega
        have hsz : ¬ (9223372036854775807 < so.size + 1 + T.size) := by omega
        have hsz4 : ¬ (9223372036854775807 < so.size + 1) := by omega
        have HS1 := Lib.hid hS1; have HZ3 := Lib.hid hsz3
        clear hS1 hsz1 hsz3 hst hT hle
        go_wp2_with fail
        refine HF.out.mono ?_
        rintro x w4 ⟨rfl, hb4⟩
        have HB4 := Lib.hid (HB.out.trans (hb4.mono HB.out.size))
        clear hb4 c0 c1 c2 c3 c4 g0 g1 g2 g3 g4
        go_wp2_with fail
        exact ⟨⟨j + 1, so ++ ⟨#[32]⟩ ++ T, by omega, by go_num, rfl, HS1, HZ3.out, HB4.out⟩, by simp [intOf]; omega⟩
    · have hj' : j = l.length := by omega
      subst hj'
      have hS1 : so ++ ⟨#[93]⟩ = bs (91 :: (Lib.join (l.map Pf.VT.text) [32] ++ [93])) := by
        rw [HSO.out, show (⟨#[93]⟩ : ByteArray) = bs [93] from rfl, bs_append, show (l.map Pf.VT.text).take l.length = l.map Pf.VT.text from by rw [List.take_of_length_le (by simp)]]; simp
      have hsz : ¬ (9223372036854775807 < so.size + 1) := by omega
      have HS1 := Lib.hid hS1
      clear hS1
      go_wp2_with fail
      go_ret
      exact ⟨congrArg (fun x => Ending.returned (Value.string x)) HS1.out, HB0.out.trans (HB.out.mono HB0.out.size)⟩

/-- The text of whatever value is valid. -/
theorem rtextv_any (t : VT) : ∀ (d : Nat) (w : World) (lo hi : Nat) (v : Value), t.valid d = true → (Pf.VT.text t).length ≤ 100000 → t.Slim 1100 → Rep w lo hi t v → hi ≤ w.heap.size → Calls Tryz.prog 104 #[v] w (KT w (Pf.VT.text t)) := by
  induction t using VT.ind with
  | _ k n f s l ih =>
    intro d w lo hi v hv hlen hS hR hz
    obtain ⟨A, cap, rfl, ho, hl, hk⟩ := hR.head
    obtain ⟨hs9, hl9, hkS⟩ := Vt.slim_mk.1 hS
    rw [Pf.text_mk] at hlen ⊢
    rcases Pf.valid_cases hv with ⟨rfl, -⟩ | ⟨rfl, -⟩ | ⟨rfl, -⟩ | ⟨rfl, -⟩ | ⟨rfl, -, -, -, hkv⟩
    · exact rtext_none n f s A l.length cap w
    · exact rtext_int n f s A l.length cap w ho.n0 ho.n1
    · exact rtext_float n f s A l.length cap w ho.f1
    · exact rtext_text n f s A l.length cap w (by omega)
    · rw [if_neg (by omega), if_neg (by omega), if_neg (by omega), if_pos rfl] at hlen ⊢
      simp only [List.length_cons, List.length_append, List.length_nil] at hlen
      have hfl : ∀ i (h : i < l.length), (Pf.VT.text l[i]).length ≤ 100000 := fun i hi => by have := Vf.elem_le l i hi; omega
      exact rtext_list n f s l A cap hl ho.m1 w lo hi hk hz (by omega) (fun i hi W lo hi' v h1 h2 => ih i hi (d - 1) W lo hi' v (hkv _ (List.getElem_mem hi)) (hfl i hi) (hkS i hi) h1 h2)

set_option maxRecDepth 100000 in
theorem rvtext_any (t : VT) (hlen : (Pf.VT.text t).length ≤ 100000) (hS : t.Slim 1100) (lo hi : Nat) (v : Value) (w : World) (hv : Rep w lo hi t v) (hz : hi ≤ w.heap.size) (hval : t.valid 8 = true) :
    Calls Tryz.prog 65 #[v] w (KT w (Pf.VT.text t)) := by
  obtain ⟨k, n, f, s, l⟩ := t
  obtain ⟨A, cap, rfl, -⟩ := id hv.head
  obtain ⟨W0, hW0⟩ : ∃ W0, W0 = w.alloc (.cells #[.int .i64 k, .int .i64 n, .float .f64 f, .string s, .slice A l.length cap] 30) := ⟨_, rfl⟩
  have hB0 : Below w.heap.size w W0 := by rw [hW0]; exact (Below.refl _ _).alloc (Nat.le_refl _) _
  have hbx : BoxAt W0 w.heap.size k n f s A l.length cap := by rw [hW0]; exact BoxAt.new ..
  have hz0 : w.heap.size < W0.heap.size := by rw [hW0]; simp
  have HBX : Hid (∀ W, Below W0.heap.size W0 W → BoxAt W w.heap.size k n f s A l.length cap) := Lib.hid fun W hW => hbx.later hW hz0
  have HV := Lib.hid (Vt.rvalid_any (.mk k n f s l) W0 lo hi _ (hv.later (hB0.mono hz)) (Nat.le_trans hz hB0.size))
  rw [hval] at HV
  have HF := Lib.hid fun W (hW : Below W0.heap.size W0 W) => rtextv_any (.mk k n f s l) 8 W lo hi _ hval hlen hS ((hv.later (hB0.mono hz)).later (hW.mono (Nat.le_trans hz hB0.size))) (Nat.le_trans hz (Nat.le_trans hB0.size hW.size))
  have HB0 := Lib.hid hB0
  obtain ⟨c0, c1, c2, c3, c4⟩ := hbx.cells
  clear hB0 hbx hv
  replace hW0 := Lib.hid hW0
  go_enter Tryz.func65, Tryz.ntmps65
  go_upto_region 1 with fail
  rw [← hW0.out]
  go_wp2_with fail
  refine HV.out.mono ?_
  rintro e w1 ⟨rfl, hb1⟩
  obtain ⟨d0, d1, d2, d3, d4⟩ := (HBX.out w1 hb1).cells
  have HB1 := Lib.hid hb1
  clear hb1 c0 c1 c2 c3 c4
  go_wp2_with fail
  refine (HF.out _ HB1.out).mono ?_
  rintro e w2 ⟨rfl, hb2⟩
  have HB2 := Lib.hid hb2
  clear hb2
  go_wp2_with fail
  go_ret
  exact ⟨rfl, HB0.out.trans ((HB1.out.trans (HB2.out.mono HB1.out.size)).mono HB0.out.size)⟩
end Rg
end Go.Proofs.YtcbddebmmaflgaaGreatDoor
namespace Go.Proofs.YtcbddebmmaflgaaGreatDoor
open Go.RowKit
set_option linter.unusedVariables false
set_option linter.unusedSimpArgs false
namespace Vf
open Bt (ubytes sb)
open Pf (stext)
open Vt (VT)
open Ev (EV FieldsOk nameOf fieldsOf zeroT)
open Cm (evSame)


/-- A part of a text, behind a blank. -/
def optT (b : Bool) (p : List UInt8) : List UInt8 := if b then 32 :: p else []
theorem tail_selT (b0 b1 b2 b3 b4 b5 : Bool) (p0 p1 p2 p3 p4 p5 : List UInt8) : Lib.joinTail [32] (selT b0 b1 b2 b3 b4 b5 p0 p1 p2 p3 p4 p5) = optT b0 p0 ++ (optT b1 p1 ++ (optT b2 p2 ++ (optT b3 p3 ++ (optT b4 p4 ++ optT b5 p5)))) := by
  unfold selT optT
  cases b0 <;> cases b1 <;> cases b2 <;> cases b3 <;> cases b4 <;> cases b5 <;> simp [Lib.joinTail]
/-- The texts as strings. -/
def etextB (a : EV) : ByteArray := ⟨(etext a).toArray⟩
end Vf
end Go.Proofs.YtcbddebmmaflgaaGreatDoor
