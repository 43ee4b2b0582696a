/- value.Text, event.quoted, event.Text of any valid small event. -/
/- Texts of events tell the events: no program in sight. -/
/- Small events, bytes that are equal, the form of an invalid event. -/
/- clockworklaw11's alive. -/
import Derived.Test.YtpneejlilgepfaaDoorMsar
import Derived.Test.YtpneejlilgepfaaDoorMsas
import Derived.Test.YtpneejlilgepfaaDoorMsan
import Derived.Test.YtpneejlilgepfaaDoorMsak
import Derived.Test.YtpneejlilgepfaaDoorMsac
import Derived.BigQuiet
import Derived.StillTailTactics
namespace Go.Proofs.YtpneejlilgepfaaDoor
open Go.RowKit Go.Shelf
set_option linter.unusedVariables false
set_option linter.unusedSimpArgs false
namespace Vf
open _root_.Go.Proofs.YtpneejlilgepfaaDoor.Nm (bitsW bits_any ret_int ret_bool)
open Bt (BOwn BIn ubytes sb SOwn join_any run_append_str selS etext_walk)
open Pf (zz hexL hexL_cons stext)
open Vt (VT Rep BoxAt below_drew KidsAt HeadOk kindV of_any)
open Ev (EV FieldsOk evCells vCells EBox ERep zeroT take_drop cons_drop fieldsOf nameOf of_in evalid_any)
open Fu (hd hd_lt textW)

theorem t_none (n : Nat) (w : World) : (method (n + 1) 93 (.agg #[]) "clockwork/value.text").run Tryd.prog w = .ok (92, .agg #[]) w := by kernel_rfl
theorem t_int (n : Nat) (w : World) : (method (n + 1) 94 (.agg #[]) "clockwork/value.text").run Tryd.prog w = .ok (95, .agg #[]) w := by kernel_rfl
theorem t_float (n : Nat) (w : World) : (method (n + 1) 95 (.agg #[]) "clockwork/value.text").run Tryd.prog w = .ok (100, .agg #[]) w := by kernel_rfl
theorem t_text (n : Nat) (w : World) : (method (n + 1) 96 (.agg #[]) "clockwork/value.text").run Tryd.prog w = .ok (113, .agg #[]) w := by kernel_rfl
theorem t_list (n : Nat) (w : World) : (method (n + 1) 97 (.agg #[]) "clockwork/value.text").run Tryd.prog w = .ok (116, .agg #[]) w := by kernel_rfl
theorem u_none (args : Array Value) (w : World) : (callFunc 92 args).run Tryd.prog w = .ok (.enter 92 args) w := by kernel_rfl
theorem u_int (args : Array Value) (w : World) : (callFunc 95 args).run Tryd.prog w = .ok (.enter 95 args) w := by kernel_rfl
theorem u_float (args : Array Value) (w : World) : (callFunc 100 args).run Tryd.prog w = .ok (.enter 100 args) w := by kernel_rfl
theorem u_text (args : Array Value) (w : World) : (callFunc 113 args).run Tryd.prog w = .ok (.enter 113 args) w := by kernel_rfl
theorem u_list (args : Array Value) (w : World) : (callFunc 116 args).run Tryd.prog w = .ok (.enter 116 args) w := by kernel_rfl

theorem tail_le (l : List VT) : ∀ (i : Nat) (h : i < l.length), (Pf.VT.text l[i]).length ≤ (Lib.joinTail [32] (l.map Pf.VT.text)).length := by
  induction l with
  | nil => intro i h; simp at h
  | cons t l ih =>
    intro i h
    rw [List.map_cons, show Lib.joinTail [32] (Pf.VT.text t :: l.map Pf.VT.text) = (32 :: Pf.VT.text t) ++ Lib.joinTail [32] (l.map Pf.VT.text) from by simp [Lib.joinTail], List.length_append, List.length_cons]
    cases i with
    | zero => simp only [List.getElem_cons_zero]; omega
    | succ i =>
      have := ih i (by simpa using h)
      simp only [List.getElem_cons_succ]
      omega
theorem elem_le (l : List VT) (i : Nat) (h : i < l.length) : (Pf.VT.text l[i]).length ≤ (Lib.join (l.map Pf.VT.text) [32]).length := by
  cases l with
  | nil => simp at h
  | cons t l =>
    rw [List.map_cons, Lib.join_cons, List.length_append]
    cases i with
    | zero => simp only [List.getElem_cons_zero]; omega
    | succ i =>
      have := tail_le l i (by simpa using h)
      simp only [List.getElem_cons_succ]
      omega

theorem slim_up {t : VT} (h : t.Slim 900) : t.Slim 1100 := by
  induction t using VT.ind with
  | _ k n f s l ih =>
    obtain ⟨h1, h2, h3⟩ := Vt.slim_mk.1 h
    exact Vt.slim_mk.2 ⟨by omega, by omega, fun i hi => ih i hi (h3 i hi)⟩
theorem txok (t : VT) : ∀ (d : Nat), t.valid d = true → (Pf.VT.text t).length ≤ 100000 → t.Slim 1100 → TxOk t := by
  induction t using VT.ind with
  | _ k n f s l ih =>
    intro d hv hlen hS
    obtain ⟨hs9, hl9, hkS⟩ := Vt.slim_mk.1 hS
    rw [Pf.text_mk] at hlen
    have e9 := Pf.text_mk k n f s l
    rcases Pf.valid_cases hv with ⟨rfl, -⟩ | ⟨rfl, -⟩ | ⟨rfl, -⟩ | ⟨rfl, -⟩ | ⟨rfl, -, -, -, hkv⟩
    · refine ⟨_, _, rfl, t_none, u_none, fun W lo hi v hR hz ht => ?_⟩
      obtain ⟨A, cap, rfl, ho, hl, hk⟩ := hR.head
      rw [e9]
      exact none_text _ n f s A _ _ W
    · refine ⟨_, _, rfl, t_int, u_int, fun W lo hi v hR hz ht => ?_⟩
      obtain ⟨A, cap, rfl, ho, hl, hk⟩ := hR.head
      rw [e9]
      exact int_text _ n ho.n0 ho.n1 f s A _ _ W ht
    · refine ⟨_, _, rfl, t_float, u_float, fun W lo hi v hR hz ht => ?_⟩
      obtain ⟨A, cap, rfl, ho, hl, hk⟩ := hR.head
      rw [e9]
      exact float_text _ n f ho.f1 s A _ _ W ht
    · refine ⟨_, _, rfl, t_text, u_text, fun W lo hi v hR hz ht => ?_⟩
      obtain ⟨A, cap, rfl, ho, hl, hk⟩ := hR.head
      rw [e9]
      exact text_text _ n f s (by omega) A _ _ W
    · rw [if_neg (by omega), if_neg (by omega), if_neg (by omega), if_pos rfl] at hlen e9
      rw [List.length_cons, List.length_append, List.length_singleton] at hlen
      refine ⟨_, _, rfl, t_list, u_list, fun W lo hi v hR hz ht => ?_⟩
      obtain ⟨A, cap, rfl, ho, hl, hk⟩ := hR.head
      rw [e9]
      exact list_text _ n f s l A cap hl hl9 ho.m1 W lo hi hk hz ht (by omega) (fun i hi => ih i hi (d - 1) (hkv _ (List.getElem_mem hi)) (by have := elem_le l i hi; omega) (hkS i hi))

set_option maxRecDepth 100000 in
set_option maxHeartbeats 1000000 in
theorem vtext_any (t : VT) (hlen : (Pf.VT.text t).length ≤ 100000) (hS : t.Slim 1100) (lo hi : Nat) (vk vn : Int) (vf : Nat) (vs : ByteArray) (A : Option Addr) (m c : Nat) (w : World) (hv : Rep w lo hi t (.agg #[.int .i64 vk, .int .i64 vn, .float .f64 vf, .string vs, .slice A m c])) (hz : hi ≤ w.heap.size) (hval : t.valid 8 = true) (ht : TB w) :
    Calls Tryd.prog 23 #[.agg #[.int .i64 vk, .int .i64 vn, .float .f64 vf, .string vs, .slice A m c]] w fun e w' => e = .returned (.string (textB t)) ∧ Below w.heap.size w w' := by
  obtain ⟨TT, MM, hkv, hM, hcall, hT⟩ := txok t 8 hval hlen hS
  have hvk : vk = t.k := by
    obtain ⟨k', n', f', s', l', A', cap', rfl, hc, -⟩ := hv.open_
    injection hc with hc
    simp at hc
    exact hc.1
  obtain ⟨W0, hW0⟩ : ∃ W0, W0 = w.alloc (.cells #[.int .i64 vk, .int .i64 vn, .float .f64 vf, .string vs, .slice A m c] 26) := ⟨_, rfl⟩
  have hB0 : Below w.heap.size w W0 := by rw [hW0]; exact (Below.refl _ _).alloc (Nat.le_refl _) _
  have hbx : BoxAt W0 w.heap.size vk vn vf vs A m c := by rw [hW0]; exact BoxAt.new ..
  have hz0 : w.heap.size < W0.heap.size := by rw [hW0]; simp
  have HBX : Hid (∀ W, Below W0.heap.size W0 W → BoxAt W w.heap.size vk vn vf vs A m c) := Lib.hid fun W hW => hbx.later hW hz0
  have HV := Lib.hid (Vt.valid_any t W0 lo hi _ (hv.later (hB0.mono hz)) (Nat.le_trans hz hB0.size))
  rw [hval] at HV
  have HT0 : Hid (∀ W, Below W0.heap.size W0 W → Calls Tryd.prog MM #[.agg #[], .agg #[.int .i64 vk, .int .i64 vn, .float .f64 vf, .string vs, .slice A m c]] W (KT W (Pf.VT.text t))) := Lib.hid fun W hW =>
    hT W lo hi _ ((hv.later (hB0.mono hz)).later (hW.mono (Nat.le_trans hz hB0.size))) (Nat.le_trans hz (Nat.le_trans hB0.size hW.size)) ((ht.later hB0).later hW)
  have HO : Hid (∀ W, Calls Tryd.prog 37 #[.int .i64 vk] W fun e w' => e = .returned (.iface TT (.agg #[])) ∧ W = w') := Lib.hid fun W => by
    have h9 := of_any vk W
    rw [hvk, hkv] at h9
    rw [hvk]
    exact h9
  have HB0 := Lib.hid hB0
  obtain ⟨c0, c1, c2, c3, c4⟩ := hbx.cells
  clear hB0 hbx hv hT hkv hvk ht
  replace hW0 := Lib.hid hW0
  go_enter Tryd.func23, Tryd.ntmps23
  go_upto_region 1 with fail
  rw [← hW0.out]
  go_wp2_with fail
  refine HV.out.mono ?_
  rintro e w1 ⟨rfl, hb1⟩
  obtain ⟨d0, d1, d2, d3, d4⟩ := (HBX.out w1 hb1).cells
  have HB1 := Lib.hid hb1
  have KS : Hid (∀ W' : World, Below w1.heap.size w1 W' → (W'.cell? ⟨w.heap.size, 0, none⟩ = some (.int .i64 vk) ∧ W'.cell? ⟨w.heap.size, 1, none⟩ = some (.int .i64 vn) ∧ W'.cell? ⟨w.heap.size, 2, none⟩ = some (.float .f64 vf) ∧ W'.cell? ⟨w.heap.size, 3, none⟩ = some (.string vs) ∧ W'.cell? ⟨w.heap.size, 4, none⟩ = some (.slice A m c))) := Lib.hid fun W' hW => (HBX.out W' (HB1.out.trans (hW.mono HB1.out.size))).cells
  have HT : Hid (∀ W, Below w1.heap.size w1 W → Calls Tryd.prog MM #[.agg #[], .agg #[.int .i64 vk, .int .i64 vn, .float .f64 vf, .string vs, .slice A m c]] W (KT W (Pf.VT.text t))) := Lib.hid fun W hW => HT0.out W (HB1.out.trans (hW.mono HB1.out.size))
  clear hb1 c0 c1 c2 c3 c4
  go_upto_region 3 with fail
  clear d0 d1 d2 d3 d4
  refine wp_region_noPanic ?_
  refine wp_region_held_drew (S := (fun W' : World => W'.cell? ⟨w.heap.size, 0, none⟩ = some (.int .i64 vk) ∧ W'.cell? ⟨w.heap.size, 1, none⟩ = some (.int .i64 vn) ∧ W'.cell? ⟨w.heap.size, 2, none⟩ = some (.float .f64 vf) ∧ W'.cell? ⟨w.heap.size, 3, none⟩ = some (.string vs) ∧ W'.cell? ⟨w.heap.size, 4, none⟩ = some (.slice A m c))) (by kernel_rfl) ?_ (fun hHeld => ?_)
  · exact KS.out _ (below_drew (Below.refl _ _))
  first
    | (refine take_drop (i := 0) (v := ?_) rfl (by kernel_rfl) (by kernel_rfl) (by kernel_rfl) (fun _ _ _ h => h) (Or.inl ⟨by rfl, ?_⟩) (by assumption) ?_; rotate_left 1; (focus (intro w hSw; (try dsimp only at hSw); go_simp; try with_reducible rfl)); try simp only [Act.put, List.setIfInBounds_toArray, List.set_cons_zero, List.set_cons_succ])
    | (refine take_drop (i := 0) (v := undef) rfl (by kernel_rfl) (by kernel_rfl) (by kernel_rfl) (fun _ _ _ h => h) (Or.inr ⟨by rfl, rfl⟩) (by assumption) ?_; try simp only [Act.put, List.setIfInBounds_toArray, List.set_cons_zero, List.set_cons_succ])
  first
    | (refine take_drop (i := 1) (v := ?_) rfl (by kernel_rfl) (by kernel_rfl) (by kernel_rfl) (fun _ _ _ h => h) (Or.inl ⟨by rfl, ?_⟩) (by assumption) ?_; rotate_left 1; (focus (intro w hSw; (try dsimp only at hSw); go_simp; try with_reducible rfl)); try simp only [Act.put, List.setIfInBounds_toArray, List.set_cons_zero, List.set_cons_succ])
    | (refine take_drop (i := 1) (v := undef) rfl (by kernel_rfl) (by kernel_rfl) (by kernel_rfl) (fun _ _ _ h => h) (Or.inr ⟨by rfl, rfl⟩) (by assumption) ?_; try simp only [Act.put, List.setIfInBounds_toArray, List.set_cons_zero, List.set_cons_succ])
  first
    | (refine take_drop (i := 3) (v := ?_) rfl (by kernel_rfl) (by kernel_rfl) (by kernel_rfl) (fun _ _ _ h => h) (Or.inl ⟨by rfl, ?_⟩) (by assumption) ?_; rotate_left 1; (focus (intro w hSw; (try dsimp only at hSw); go_simp; try with_reducible rfl)); try simp only [Act.put, List.setIfInBounds_toArray, List.set_cons_zero, List.set_cons_succ])
    | (refine take_drop (i := 3) (v := undef) rfl (by kernel_rfl) (by kernel_rfl) (by kernel_rfl) (fun _ _ _ h => h) (Or.inr ⟨by rfl, rfl⟩) (by assumption) ?_; try simp only [Act.put, List.setIfInBounds_toArray, List.set_cons_zero, List.set_cons_succ])
  refine wpAnyH_ready (rs := [2]) (by kernel_rfl) (by simp) ?_
  refine cons_drop rfl (fun K hK => ?_) AllReadyH.nil
  go_simp
  refine (HO.out _).mono ?_
  rintro e w2 ⟨rfl, rfl⟩
  go_wp2_with fail
  refine hK.out _ _ (KS.out _ (below_drew (Below.refl _ _))) (fun hHeld2 => ?_)
  clear hK K
  try simp only [Act.put, List.setIfInBounds_toArray, List.set_cons_zero, List.set_cons_succ]
  refine wpAnyH_ready (rs := [4]) (by kernel_rfl) (by simp) ?_
  refine cons_drop rfl (fun K hK => ?_) AllReadyH.nil
  go_simp
  refine (HT.out _ (below_drew (Below.refl _ _))).mono ?_
  rintro e w3 ⟨rfl, hb3⟩
  have hbx3 : Below w1.heap.size w1 w3 := (below_drew (Below.refl _ _)).trans hb3
  have HB3 := Lib.hid hbx3
  clear hb3 hbx3
  go_wp2_with fail
  refine hK.out _ _ (KS.out _ (HB3.out)) (fun hHeld2 => ?_)
  clear hK K
  try simp only [Act.put, List.setIfInBounds_toArray, List.set_cons_zero, List.set_cons_succ]
  first
    | (refine take_drop (i := 5) (v := ?_) rfl (by kernel_rfl) (by kernel_rfl) (by kernel_rfl) (fun _ _ _ h => h) (Or.inl ⟨by rfl, ?_⟩) (by assumption) ?_; rotate_left 1; (focus (intro w hSw; (try dsimp only at hSw); go_simp; try with_reducible rfl)); try simp only [Act.put, List.setIfInBounds_toArray, List.set_cons_zero, List.set_cons_succ])
    | (refine take_drop (i := 5) (v := undef) rfl (by kernel_rfl) (by kernel_rfl) (by kernel_rfl) (fun _ _ _ h => h) (Or.inr ⟨by rfl, rfl⟩) (by assumption) ?_; try simp only [Act.put, List.setIfInBounds_toArray, List.set_cons_zero, List.set_cons_succ])
  refine wpAnyH_done (by kernel_rfl) ?_ _
  refine NoPanic.normal ?_
  go_wp2_with fail
  go_ret
  exact ⟨rfl, HB0.out.trans ((HB1.out.trans (HB3.out.mono HB1.out.size)).mono HB0.out.size)⟩

theorem text_valid (s : ByteArray) : (VT.mk 3 0 0 s []).valid 8 = true := by
  rw [Vt.valid_mk]
  have : bitsW 0 = 0 := by decide
  simp [this]
theorem text_slim (s : ByteArray) (hs : s.size ≤ 1100) : (VT.mk 3 0 0 s []).Slim 1100 := Vt.slim_mk.2 ⟨hs, by simp, fun i h => absurd h (by simp)⟩
theorem stext_len (s : ByteArray) : (stext s).length = 2 * s.size + 2 := by
  unfold stext
  rw [List.length_cons, List.length_append, hexL_len, Bt.sb_len, List.length_singleton]
theorem text_of (s : ByteArray) : Pf.VT.text (.mk 3 0 0 s []) = stext s := by rw [Pf.text_mk, if_neg (by omega), if_neg (by omega), if_pos rfl]

set_option maxRecDepth 100000 in
theorem quoted_any (s : ByteArray) (hs : s.size ≤ 1000) (w : World) (ht : TB w) : Calls Tryd.prog 22 #[.string s] w fun e w' => e = .returned (.string ⟨(stext s).toArray⟩) ∧ Below w.heap.size w w' := by
  have HT : Hid (Calls Tryd.prog 23 #[.agg #[.int .i64 3, .int .i64 0, .float .f64 0, .string s, .slice none 0 0]] w fun e w' => e = .returned (.string ⟨(stext s).toArray⟩) ∧ Below w.heap.size w w') := Lib.hid (by
    have h := vtext_any (.mk 3 0 0 s []) (by rw [text_of, stext_len]; omega) (text_slim s (by omega)) 0 0 3 0 0 s none 0 0 w (Rep.leaf ⟨by omega, by omega, by omega, by omega, by omega, by simp only [maxLen]; omega, by decide⟩) (Nat.zero_le _) (text_valid s) ht
    unfold textB at h
    rw [text_of] at h
    exact h)
  go_enter Tryd.func22, Tryd.ntmps22
  go_wp2_with fail
  refine HT.out.mono ?_
  rintro e w1 ⟨rfl, hb⟩
  have HB := Lib.hid hb
  clear hb
  go_wp2_with fail
  go_ret
  exact ⟨rfl, HB.out⟩

/-- The text of a valid event. -/
def selT (b0 b1 b2 b3 b4 b5 : Bool) (p0 p1 p2 p3 p4 p5 : List UInt8) : List (List UInt8) := (if b0 then [p0] else []) ++ ((if b1 then [p1] else []) ++ ((if b2 then [p2] else []) ++ ((if b3 then [p3] else []) ++ ((if b4 then [p4] else []) ++ (if b5 then [p5] else [])))))
def etext (e : EV) : List UInt8 := (nameOf e.k.toNat).data.toList ++ Lib.joinTail [32] (selT (hasF e 0) (hasF e 1) (hasF e 2) (hasF e 3) (hasF e 4) (hasF e 5) (Lib.decDigits e.id) (Lib.itoa e.n) (Lib.decDigits e.at') (stext e.name) (stext e.text) (Pf.VT.text e.v))
theorem selS_map (b0 b1 b2 b3 b4 b5 : Bool) (p0 p1 p2 p3 p4 p5 : List UInt8) : (selS [b0, b1, b2, b3, b4, b5] [⟨p0.toArray⟩, ⟨p1.toArray⟩, ⟨p2.toArray⟩, ⟨p3.toArray⟩, ⟨p4.toArray⟩, ⟨p5.toArray⟩] 6).map (·.data.toList) = selT b0 b1 b2 b3 b4 b5 p0 p1 p2 p3 p4 p5 := by
  unfold selS selT
  cases b0 <;> cases b1 <;> cases b2 <;> cases b3 <;> cases b4 <;> cases b5 <;> rfl
theorem tail_len (l : List (List UInt8)) : (Lib.joinTail [32] l).length = (l.map (fun x => x.length + 1)).sum := by
  induction l with
  | nil => rfl
  | cons x l ih =>
    rw [show Lib.joinTail [32] (x :: l) = (32 :: x) ++ Lib.joinTail [32] l from by simp [Lib.joinTail], List.length_append, ih, List.map_cons, List.sum_cons, List.length_cons]
theorem selT_len (b0 b1 b2 b3 b4 b5 : Bool) (p0 p1 p2 p3 p4 p5 : List UInt8) : ((selT b0 b1 b2 b3 b4 b5 p0 p1 p2 p3 p4 p5).map (fun x => x.length + 1)).sum ≤ p0.length + p1.length + p2.length + p3.length + p4.length + p5.length + 6 := by
  unfold selT
  cases b0 <;> cases b1 <;> cases b2 <;> cases b3 <;> cases b4 <;> cases b5 <;> simp <;> omega
theorem dec_len (n : Nat) (h : n < 18446744073709551616) : (Lib.decDigits n).length ≤ 21 := by
  by_cases hn : n ≤ 9223372036854775807
  · have := Lib.itoa_length_le n (by omega) (by omega)
    unfold Lib.itoa at this
    rw [if_neg (by omega)] at this
    simpa using this
  · have h1 := Lib.itoa_length_le ((n / 10 : Nat) : Int) (by omega) (by omega)
    unfold Lib.itoa at h1
    rw [if_neg (by omega)] at h1
    rw [Fu.dec_big n (by omega), List.length_append, List.length_singleton]
    have h2 : (Lib.decDigits (n / 10)).length ≤ 20 := by
      have h3 := Lib.itoa_length_le (-((n / 10 : Nat) : Int)) (by omega) (by omega)
      unfold Lib.itoa at h3
      rw [if_pos (by omega), List.length_cons] at h3
      simp only [Int.natAbs_neg, Int.natAbs_natCast] at h3
      omega
    omega
theorem name_len (k : Nat) : (nameOf k).data.toList.length ≤ 20 := by
  by_cases h : k ≤ 11
  · have : ∀ r : Fin 12, (nameOf r.val).data.toList.length ≤ 20 := by decide +kernel
    exact this ⟨k, by omega⟩
  · unfold nameOf
    split <;> first | omega | (simp; done) | decide
theorem etext_len (e : EV) (hf : FieldsOk e) (V : VE e) (hfine : Pf.VT.fine e.v) (hfew : e.v.few = true) : (etext e).length ≤ 30000 := by
  unfold etext
  rw [List.length_append, tail_len]
  have h0 := selT_len (hasF e 0) (hasF e 1) (hasF e 2) (hasF e 3) (hasF e 4) (hasF e 5) (Lib.decDigits e.id) (Lib.itoa e.n) (Lib.decDigits e.at') (stext e.name) (stext e.text) (Pf.VT.text e.v)
  have h1 := dec_len e.id hf.i1
  have h2 := Lib.itoa_length_le e.n hf.n0 hf.n1
  have h3 := dec_len e.at' hf.a1
  have h4 := stext_len e.name
  have h5 := stext_len e.text
  have h6 := text_len_few hfine hfew
  have h7 := name_len e.k.toNat
  have h8 := V.s1
  have h9 := V.t1
  omega

theorem etext_any (e : EV) (hval : e.valid = true) (hf : FieldsOk e) (hfew : e.v.few = true) (lo hi : Nat) (vk vn : Int) (vf : Nat) (vs : ByteArray) (A : Option Addr) (m c : Nat) (w : World) (hv : Rep w lo hi e.v (vCells vk vn vf vs A m c)) (hz : hi ≤ w.heap.size) (ht : TB w) :
    Calls Tryd.prog 10 #[.agg (evCells e vk vn vf vs A m c)] w fun r w' => r = .returned (.string ⟨(etext e).toArray⟩) ∧ Below w.heap.size w w' := by
  have V := ve_of hval
  have hfine : Pf.VT.fine e.v := Pf.Rep.fine hv
  have hlen := etext_len e hf V hfine hfew
  have hev := fun W (hW : Below w.heap.size w W) => evalid_any e W lo hi _ ⟨hf, vk, vn, vf, vs, A, m, c, rfl, hv.later (hW.mono hz)⟩ (Nat.le_trans hz hW.size)
  obtain ⟨kn, hkn⟩ : ∃ kn : Nat, e.k = kn := ⟨e.k.toNat, by have := V.k1; omega⟩
  obtain ⟨nn, hnn⟩ : ∃ nn : Nat, e.n = nn := ⟨e.n.toNat, by have := V.n1; omega⟩
  have k1 := V.k1; have k2 := V.k2; have n2 := V.n2
  have hkt : e.k.toNat = kn := by omega
  unfold etext hasF at hlen ⊢
  rw [hkt, hnn] at hlen ⊢
  unfold evCells at hev ⊢
  rw [hkn, hnn] at hev ⊢
  have hj : Lib.join ((nameOf kn :: selS [(fieldsOf kn).contains 0, (fieldsOf kn).contains 1, (fieldsOf kn).contains 2, (fieldsOf kn).contains 3, (fieldsOf kn).contains 4, (fieldsOf kn).contains 5] [⟨(Lib.decDigits e.id).toArray⟩, ⟨(Lib.itoa nn).toArray⟩, ⟨(Lib.decDigits e.at').toArray⟩, ⟨(stext e.name).toArray⟩, ⟨(stext e.text).toArray⟩, ⟨(Pf.VT.text e.v).toArray⟩] 6).map (·.data.toList)) [32] =
      (nameOf kn).data.toList ++ Lib.joinTail [32] (selT ((fieldsOf kn).contains 0) ((fieldsOf kn).contains 1) ((fieldsOf kn).contains 2) ((fieldsOf kn).contains 3) ((fieldsOf kn).contains 4) ((fieldsOf kn).contains 5) (Lib.decDigits e.id) (Lib.itoa nn) (Lib.decDigits e.at') (stext e.name) (stext e.text) (Pf.VT.text e.v)) := by
    rw [List.map_cons, Lib.join_cons, selS_map]
  rw [← hj] at hlen ⊢
  exact etext_walk kn e.id nn e.at' e.name e.text vk vn vf vs A m c (nameOf kn) ⟨(Lib.decDigits e.id).toArray⟩ ⟨(Lib.itoa nn).toArray⟩ ⟨(Lib.decDigits e.at').toArray⟩ ⟨(stext e.name).toArray⟩ ⟨(stext e.text).toArray⟩ ⟨(Pf.VT.text e.v).toArray⟩ ((fieldsOf kn).contains 0) ((fieldsOf kn).contains 1) ((fieldsOf kn).contains 2) ((fieldsOf kn).contains 3) ((fieldsOf kn).contains 4) ((fieldsOf kn).contains 5) w (by omega)
    (fun W hW => (hev W hW).mono fun r w' h => by rw [hval] at h; exact h)
    (fun W => of_in kn (by omega) (by omega) W)
    (fun W hW => Fu.fmtu_any e.id hf.i1 W (ht.later hW).pow)
    (fun W hW => Fu.itoa_any nn (by omega) (by omega) W (ht.later hW).pow)
    (fun W hW => Fu.fmtu_any e.at' hf.a1 W (ht.later hW).pow)
    (fun W hW => quoted_any e.name V.s1 W (ht.later hW))
    (fun W hW => quoted_any e.text V.t1 W (ht.later hW))
    (fun W hW => vtext_any e.v (by have := text_len_few hfine hfew; omega) (slim_up (Vt.slim_of_few _ hfew)) lo hi vk vn vf vs A m c W (hv.later (hW.mono hz)) (Nat.le_trans hz hW.size) V.v1 (ht.later hW))
end Vf
end Go.Proofs.YtpneejlilgepfaaDoor
namespace Go.Proofs.YtpneejlilgepfaaDoor
open Go.RowKit
set_option linter.unusedVariables false
set_option linter.unusedSimpArgs false
namespace Vf
open Bt (ubytes sb)
open Pf (stext stopb Stops word_split dec_word itoa_word itoa_inj stext_word stext_inj text_split text_same)
open Vt (VT)
open Ev (EV FieldsOk nameOf fieldsOf zeroT)
open Cm (evSame)
open Fu (dec_inj)

/-- A part of a text, behind a blank. -/
def optT (b : Bool) (p : List UInt8) : List UInt8 := if b then 32 :: p else []
theorem tail_selT (b0 b1 b2 b3 b4 b5 : Bool) (p0 p1 p2 p3 p4 p5 : List UInt8) : Lib.joinTail [32] (selT b0 b1 b2 b3 b4 b5 p0 p1 p2 p3 p4 p5) = optT b0 p0 ++ (optT b1 p1 ++ (optT b2 p2 ++ (optT b3 p3 ++ (optT b4 p4 ++ optT b5 p5)))) := by
  unfold selT optT
  cases b0 <;> cases b1 <;> cases b2 <;> cases b3 <;> cases b4 <;> cases b5 <;> simp [Lib.joinTail]
theorem stops_nil : Stops [] := .inl rfl
theorem stops_opt (b : Bool) (p : List UInt8) {r : List UInt8} (h : Stops r) : Stops (optT b p ++ r) := by
  cases b with
  | false => exact h
  | true => exact .inr ⟨32, p ++ r, rfl, by decide⟩
theorem optT_split {b : Bool} {p p' r r' : List UInt8} {X : Prop} (hs : b = true → p ++ r = p' ++ r' → X ∧ r = r') (h : optT b p ++ r = optT b p' ++ r') : (b = true → X) ∧ r = r' := by
  unfold optT at h
  refine opt_split (fun hb hh => hs hb ?_) h
  simpa using hh
theorem name_word (k : Nat) (h : k ≤ 11) : ∀ x ∈ (nameOf k).data.toList, stopb x = false := by
  have : ∀ r : Fin 12, ((nameOf r.val).data.toList.all fun x => !stopb x) = true := by decide +kernel
  have h1 := this ⟨k, by omega⟩
  rw [List.all_eq_true] at h1
  intro x hx
  simpa using h1 x hx
theorem name_inj {k k' : Nat} (h : k ≤ 11) (h' : k' ≤ 11) (h1 : 1 ≤ k) (h1' : 1 ≤ k') (e : (nameOf k).data.toList = (nameOf k').data.toList) : k = k' := by
  have : ∀ r s : Fin 12, 1 ≤ r.val → 1 ≤ s.val → (nameOf r.val).data.toList = (nameOf s.val).data.toList → r.val = s.val := by decide +kernel
  exact this ⟨k, by omega⟩ ⟨k', by omega⟩ h1 h1' e

theorem etext_split_at {a b : EV} (ha : VE a) (hb : VE b) (ga : Pf.VT.fine a.v) (gb : Pf.VT.fine b.v) {r r' : List UInt8} (hr : Stops r) (hr' : Stops r') (h : etext a ++ r = etext b ++ r') : evSame a b = true ∧ r = r' := by
  unfold etext at h
  rw [tail_selT, tail_selT] at h
  simp only [List.append_assoc] at h
  have ka1 := ha.k1; have ka2 := ha.k2; have kb1 := hb.k1; have kb2 := hb.k2
  have l5 : ∀ (b : Bool) (p : List UInt8), Stops (optT b p ++ r) := fun b p => stops_opt _ _ hr
  have l5' : ∀ (b : Bool) (p : List UInt8), Stops (optT b p ++ r') := fun b p => stops_opt _ _ hr'
  obtain ⟨hk, h⟩ := word_split (name_word _ (by omega)) (name_word _ (by omega)) (stops_opt _ _ (stops_opt _ _ (stops_opt _ _ (stops_opt _ _ (stops_opt _ _ (l5 _ _)))))) (stops_opt _ _ (stops_opt _ _ (stops_opt _ _ (stops_opt _ _ (stops_opt _ _ (l5' _ _)))))) h
  have hk := name_inj (by omega) (by omega) (by omega) (by omega) hk
  have hkk : a.k = b.k := by omega
  have hF : ∀ j, hasF b j = hasF a j := fun j => by unfold hasF; rw [hkk]
  simp only [hF] at h
  obtain ⟨e0, h⟩ := optT_split (X := a.id = b.id) (fun _ hh => by
    obtain ⟨q, hh⟩ := word_split (dec_word _) (dec_word _) (stops_opt _ _ (stops_opt _ _ (stops_opt _ _ (stops_opt _ _ (l5 _ _))))) (stops_opt _ _ (stops_opt _ _ (stops_opt _ _ (stops_opt _ _ (l5' _ _))))) hh
    exact ⟨dec_inj _ _ q, hh⟩) h
  obtain ⟨e1, h⟩ := optT_split (X := a.n = b.n) (fun _ hh => by
    obtain ⟨q, hh⟩ := word_split (itoa_word _) (itoa_word _) (stops_opt _ _ (stops_opt _ _ (stops_opt _ _ (l5 _ _)))) (stops_opt _ _ (stops_opt _ _ (stops_opt _ _ (l5' _ _)))) hh
    exact ⟨itoa_inj q, hh⟩) h
  obtain ⟨e2, h⟩ := optT_split (X := a.at' = b.at') (fun _ hh => by
    obtain ⟨q, hh⟩ := word_split (dec_word _) (dec_word _) (stops_opt _ _ (stops_opt _ _ (l5 _ _))) (stops_opt _ _ (stops_opt _ _ (l5' _ _))) hh
    exact ⟨dec_inj _ _ q, hh⟩) h
  obtain ⟨e3, h⟩ := optT_split (X := a.name = b.name) (fun _ hh => by
    obtain ⟨q, hh⟩ := word_split (stext_word _) (stext_word _) (stops_opt _ _ (l5 _ _)) (stops_opt _ _ (l5' _ _)) hh
    exact ⟨stext_inj q, hh⟩) h
  obtain ⟨e4, h⟩ := optT_split (X := a.text = b.text) (fun _ hh => by
    obtain ⟨q, hh⟩ := word_split (stext_word _) (stext_word _) (l5 _ _) (l5' _ _) hh
    exact ⟨stext_inj q, hh⟩) h
  obtain ⟨e5, h⟩ := optT_split (X := a.v.same b.v = true) (fun _ hh => text_split a.v b.v 8 8 r r' ha.v1 hb.v1 ga gb hr hr' hh) h
  refine ⟨?_, h⟩
  have c : ∀ b : Bool, b = true ∨ b = false := fun b => by cases b <;> simp
  have d0 : a.id = b.id := by
    rcases c (hasF a 0) with q | q
    · exact e0 q
    · rw [ha.i0 q, hb.i0 ((hF 0).trans q)]
  have d1 : a.n = b.n := by
    rcases c (hasF a 1) with q | q
    · exact e1 q
    · rw [ha.n0 q, hb.n0 ((hF 1).trans q)]
  have d2 : a.at' = b.at' := by
    rcases c (hasF a 2) with q | q
    · exact e2 q
    · rw [ha.a0 q, hb.a0 ((hF 2).trans q)]
  have d3 : a.name = b.name := by
    rcases c (hasF a 3) with q | q
    · exact e3 q
    · rw [ha.s0 q, hb.s0 ((hF 3).trans q)]
  have d4 : a.text = b.text := by
    rcases c (hasF a 4) with q | q
    · exact e4 q
    · rw [ha.t0 q, hb.t0 ((hF 4).trans q)]
  have d5 : a.v.same b.v = true := by
    rcases c (hasF a 5) with q | q
    · exact e5 q
    · exact Vt.same_trans _ _ _ (ha.v0 q) (Vt.same_symm _ _ (hb.v0 ((hF 5).trans q)))
  simp [evSame, hkk, d0, d1, d2, d3, d4, d5]
theorem etext_split {a b : EV} (ha : VE a) (hb : VE b) (ga : Pf.VT.fine a.v) (gb : Pf.VT.fine b.v) (h : etext a = etext b) : evSame a b = true := (etext_split_at ha hb ga gb stops_nil stops_nil (by rw [h])).1
theorem etext_same {a b : EV} (h : evSame a b = true) : etext a = etext b := by
  obtain ⟨h1, h2, h3, h4, h5, h6, h7⟩ := evSame_parts h
  unfold etext hasF
  rw [h1, h2, h3, h4, h5, h6, text_same _ _ h7]
/-- The texts as strings. -/
def etextB (a : EV) : ByteArray := ⟨(etext a).toArray⟩
theorem etextB_iff {a b : EV} (ha : VE a) (hb : VE b) (ga : Pf.VT.fine a.v) (gb : Pf.VT.fine b.v) : decide (etextB a = etextB b) = evSame a b := by
  unfold etextB
  by_cases h : evSame a b = true
  · rw [h, decide_eq_true]
    rw [etext_same h]
  · rw [Bool.eq_false_iff.2 h]
    refine decide_eq_false fun e => h (etext_split ha hb ga gb ?_)
    have := congrArg (fun s : ByteArray => s.data.toList) e
    simpa using this
end Vf
end Go.Proofs.YtpneejlilgepfaaDoor
namespace Go.Proofs.YtpneejlilgepfaaDoor
open Go.RowKit
set_option linter.unusedVariables false
set_option linter.unusedSimpArgs false
namespace Vf
open _root_.Go.Proofs.YtpneejlilgepfaaDoor.Nm (bitsW ret_int ret_bool)
open Vt (VT Rep BoxAt below_drew KidsAt HeadOk)
open Ev (EV FieldsOk evCells vCells EBox ERep zeroT take_drop cons_drop nameOf fieldsOf of_in evalid_any)
open Cm (evsSame evSame)
open Bt (BOwn BIn PIn ubytes sb bv)

theorem box_ev (w : World) (e : EV) (vk vn : Int) (vf : Nat) (vs : ByteArray) (A : Option Addr) (m c : Nat) : EBox (w.alloc (.cells (evCells e vk vn vf vs A m c) 28)) w.heap.size (evCells e vk vn vf vs A m c) := heap_alloc_new w _
/-- Bytes that are read by their places. -/
def BRd (w : World) (v : Value) (l : List Nat) : Prop := (v = .slice none 0 0 ∧ l = []) ∨ ∃ b off cap, v = .slice (some ⟨b, off, none⟩) l.length cap ∧ l.length ≤ cap ∧ cap ≤ maxLen ∧ b < w.heap.size ∧ ∀ j (h : j < l.length), w.cell? ⟨b, off + j, none⟩ = some (.int .u8 (l[j] : Nat))
theorem below_drewN {B n : Nat} {a w : World} (h : Below B a w) : Below B a (w.drewN n) := ⟨h.os, h.tape, h.output, h.size, h.block⟩
theorem BRd.later {w w' : World} {v : Value} {l : List Nat} (h : BRd w v l) (hb : Below w.heap.size w w') : BRd w' v l := by
  rcases h with h | ⟨b, off, cap, h1, h2, h3, h4, h5⟩
  · exact .inl h
  · exact .inr ⟨b, off, cap, h1, h2, h3, Nat.lt_of_lt_of_le h4 hb.size, fun j hj => (hb.cell (p := ⟨b, off + j, none⟩) h4).trans (h5 j hj)⟩
theorem brd_own {w : World} {base : Nat} {v : Value} {l : List Nat} (h : BOwn w base v l) : BRd w v l := by
  rcases h.2 with ⟨h1, h2⟩ | ⟨g, cap, cur, q1, q2, q3, q4, q5, q6, q7⟩
  · exact .inl ⟨h1, List.eq_nil_of_length_eq_zero h2⟩
  · refine .inr ⟨g, 0, cap, q1, q4, q5, (Array.getElem?_eq_some_iff.1 q3).1, fun j hj => ?_⟩
    have e : cur[j]? = some (.int .u8 (l[j] : Nat)) := by
      have e1 : (l.map fun (b : Nat) => Value.int .u8 (b : Int))[j]? = some (.int .u8 (l[j] : Nat)) := by simp [List.getElem?_eq_getElem hj]
      rw [← e1, ← q7, List.getElem?_take_of_lt (by omega), Array.getElem?_toList]
    rw [Nat.zero_add]
    simp [World.cell?, q3, e]
theorem BRd.form {w : World} {v : Value} {l : List Nat} (h : BRd w v l) : ∃ A cap, v = .slice A l.length cap := by
  rcases h with ⟨rfl, rfl⟩ | ⟨b, off, cap, rfl, -⟩
  · exact ⟨none, 0, rfl⟩
  · exact ⟨_, cap, rfl⟩

set_option maxRecDepth 100000 in
set_option maxHeartbeats 1000000 in
theorem bequal_same (l m : List Nat) (hlm : l.length = m.length) (x y : Value) (w : World) (hx : BRd w x l) (hy : BRd w y m) :
    Calls Tryd.prog 9 #[x, y] w fun r w' => r = .returned (.bool (decide (l = m))) ∧ Below w.heap.size w w' := by
  obtain ⟨A, cap, rfl⟩ := hx.form
  obtain ⟨A', cap', rfl⟩ := hy.form
  have hll : l.length ≤ 9223372036854775807 := by
    rcases hx with ⟨-, rfl⟩ | ⟨b, off, cap, -, h1, h2, -⟩
    · simp
    · simp only [maxLen] at h2; omega
  have HX := Lib.hid fun W (hW : Below w.heap.size w W) => hx.later hW
  have HY := Lib.hid fun W (hW : Below w.heap.size w W) => hy.later hW
  have HLM := Lib.hid hlm
  rw [← hlm] at HY ⊢
  clear hx hy hlm
  generalize hn : l.length = n at *
  have HN := Lib.hid hn; clear hn
  go_enter Tryd.func9, Tryd.ntmps9
  go_wp2_with fail
  go_loopw [4, 13] (fun r i wr => ∃ (j : Nat), j ≤ n ∧ i = .int .i64 j ∧ r = .bool false ∧ l.take j = m.take j ∧ Below w.heap.size w wr) (fun _ i _ => n - (intOf i).toNat)
  case atStart => exact ⟨0, by omega, rfl, rfl, by simp, Below.refl _ _⟩
  case round =>
    obtain ⟨j, hj, rfl, rfl, hy, hb⟩ := hrel
    have HYT := Lib.hid hy; have HB := Lib.hid hb
    clear hy hb
    by_cases hlt : j < n
    · have hjl : j < l.length := by have := HN.out; omega
      have hjm : j < m.length := by have := HLM.out; have := HN.out; omega
      obtain ⟨b, off, cp, e1, h2, h3, h4, h5⟩ := (HX.out wr HB.out).resolve_left (fun h => by rw [h.2] at hjl; simp at hjl)
      obtain ⟨b', off', cp', e1', h2', h3', h4', h5'⟩ := (HY.out wr HB.out).resolve_left (fun h => by rw [h.2] at hjm; simp at hjm)
      injection e1 with e1 _ _
      injection e1' with e1' _ _
      subst e1 e1'
      have c1 := h5 j hjl
      have c2 := h5' j hjm
      obtain ⟨a, ha⟩ : ∃ a, a = l[j] := ⟨_, rfl⟩
      obtain ⟨a', ha'⟩ : ∃ a, a = m[j] := ⟨_, rfl⟩
      rw [← ha] at c1
      rw [← ha'] at c2
      have HA := Lib.hid ha; have HA' := Lib.hid ha'
      have HT : Hid (a = a' → l.take (j + 1) = m.take (j + 1)) := Lib.hid fun e => by rw [List.take_succ_eq_append_getElem hjl, List.take_succ_eq_append_getElem hjm, HYT.out, ← HA.out, ← HA'.out, e]
      have HF : Hid (a ≠ a' → decide (l = m) = false) := Lib.hid fun e => decide_eq_false (fun h => e (by rw [HA.out, HA'.out]; simp [h]))
      clear ha ha' h2 h3 h4 h5 h2' h3' h4' h5'
      by_cases haa : a = a'
      · subst haa
        go_upto_region 6 with fail
        go_quiet (fail)
        go_wp2_with fail
        go_roundw
        case rel => exact ⟨j + 1, by omega, by go_num, rfl, HT.out rfl, below_drewN HB.out⟩
        case measure => simp [intOf]; omega
      · have hne : ((a : Int) != (a' : Int)) = true := by simp; omega
        have HNE := Lib.hid haa
        go_upto_region 6 with fail
        go_quiet (fail)
        go_wp2_with fail
        go_ret
        exact ⟨ret_bool (by rw [HF.out HNE.out]), below_drewN HB.out⟩
    · have hj' : j = n := by omega
      subst hj'
      go_wp2_with fail
      go_ret
      have he : l = m := by
        have := HYT.out
        rw [List.take_of_length_le (by have := HN.out; omega), List.take_of_length_le (by have := HN.out; have := HLM.out; omega)] at this
        exact this
      exact ⟨ret_bool (by rw [decide_eq_true he]), HB.out⟩

set_option maxRecDepth 100000 in
theorem bequal_any (l m : List Nat) (x y : Value) (w : World) (hx : BRd w x l) (hy : BRd w y m) :
    Calls Tryd.prog 9 #[x, y] w fun r w' => r = .returned (.bool (decide (l = m))) ∧ Below w.heap.size w w' := by
  by_cases hlm : l.length = m.length
  · exact bequal_same l m hlm x y w hx hy
  · obtain ⟨A, cap, rfl⟩ := hx.form
    obtain ⟨A', cap', rfl⟩ := hy.form
    have hd : decide (l = m) = false := decide_eq_false (fun h => hlm (by rw [h]))
    rw [hd]
    generalize l.length = n at *
    generalize m.length = k at *
    have hne : ((n : Int) != (k : Int)) = true := by simp; omega
    clear hx hy hd
    go_enter Tryd.func9, Tryd.ntmps9
    go_wp2_with fail
    go_ret
    exact ⟨rfl, Below.refl _ _⟩

/-- Is an event small? -/
def efew (e : EV) : Bool := e.v.few && decide (e.name.size ≤ 1100) && decide (e.text.size ≤ 1100)

set_option maxRecDepth 100000 in
theorem efew_any (e : EV) (hf : FieldsOk e) (lo hi : Nat) (vk vn : Int) (vf : Nat) (vs : ByteArray) (A : Option Addr) (m c : Nat) (w : World) (hv : Rep w lo hi e.v (vCells vk vn vf vs A m c)) (hz : hi ≤ w.heap.size) :
    Calls Tryd.prog 4 #[.agg (evCells e vk vn vf vs A m c)] w fun r w' => r = .returned (.bool (efew e)) ∧ Below w.heap.size w w' := by
  obtain ⟨W0, hW0⟩ : ∃ W0, W0 = w.alloc (.cells (evCells e vk vn vf vs A m c) 28) := ⟨_, rfl⟩
  have hb0 : Below w.heap.size w W0 := by rw [hW0]; exact (Below.refl _ _).alloc (Nat.le_refl _) _
  have hx0 : EBox W0 w.heap.size (evCells e vk vn vf vs A m c) := by rw [hW0]; exact box_ev ..
  have HV := Lib.hid (Vt.few_any e.v W0 lo hi _ (hv.later (hb0.mono hz)) (Nat.le_trans hz hb0.size))
  obtain ⟨g0, g1, g2, g3, g4, g5, g6, g7, g8, g9, g10⟩ := EBox.cells hx0
  have HX0 := Lib.hid hx0
  have HB0 := Lib.hid hb0
  have hsn := hf.s1
  have hst := hf.t1
  simp only [maxLen] at hsn hst
  clear hv hf hx0 hb0
  unfold evCells at hW0 ⊢
  unfold vCells at HV
  replace hW0 := Lib.hid hW0
  go_enter Tryd.func4, Tryd.ntmps4
  go_upto_region 1 with fail
  rw [← hW0.out]
  generalize hfw : e.v.few = fw at *
  have HFW := Lib.hid hfw; clear hfw
  cases fw with
  | false =>
    go_wp2_with (go_at_call 11; refine HV.out.mono ?_; rintro x w1 ⟨rfl, hb1⟩; have HB1 := Lib.hid (HB0.out.trans (hb1.mono HB0.out.size)); clear hb1)
    go_ret
    exact ⟨ret_bool (by unfold efew; rw [HFW.out]; rfl), HB1.out⟩
  | true =>
    by_cases h1 : e.name.size ≤ 1100
    · have k1 : decide ((e.name.size : Int) ≤ 1100) = true := decide_eq_true (by omega)
      by_cases h2 : e.text.size ≤ 1100
      · have k2 : decide ((e.text.size : Int) ≤ 1100) = true := decide_eq_true (by omega)
        go_wp2_with (go_at_call 11; refine HV.out.mono ?_; rintro x w1 ⟨rfl, hb1⟩; have HB1 := Lib.hid (HB0.out.trans (hb1.mono HB0.out.size)); obtain ⟨q0, q1, q2, q3, q4, q5, q6, q7, q8, q9, q10⟩ := EBox.cells (HX0.out.later hb1 HX0.out.lt); clear hb1)
        go_ret
        exact ⟨ret_bool (by unfold efew; rw [HFW.out]; simp; omega), HB1.out⟩
      · have k2 : decide ((e.text.size : Int) ≤ 1100) = false := decide_eq_false (by omega)
        go_wp2_with (go_at_call 11; refine HV.out.mono ?_; rintro x w1 ⟨rfl, hb1⟩; have HB1 := Lib.hid (HB0.out.trans (hb1.mono HB0.out.size)); obtain ⟨q0, q1, q2, q3, q4, q5, q6, q7, q8, q9, q10⟩ := EBox.cells (HX0.out.later hb1 HX0.out.lt); clear hb1)
        go_ret
        exact ⟨ret_bool (by unfold efew; rw [HFW.out]; simp; omega), HB1.out⟩
    · have k1 : decide ((e.name.size : Int) ≤ 1100) = false := decide_eq_false (by omega)
      go_wp2_with (go_at_call 11; refine HV.out.mono ?_; rintro x w1 ⟨rfl, hb1⟩; have HB1 := Lib.hid (HB0.out.trans (hb1.mono HB0.out.size)); obtain ⟨q0, q1, q2, q3, q4, q5, q6, q7, q8, q9, q10⟩ := EBox.cells (HX0.out.later hb1 HX0.out.lt); clear hb1)
      go_ret
      exact ⟨ret_bool (by unfold efew; rw [HFW.out]; simp; omega), HB1.out⟩


set_option maxRecDepth 100000 in
theorem ebytes_no (e : EV) (hval : e.valid = false) (hf : FieldsOk e) (lo hi : Nat) (vk vn : Int) (vf : Nat) (vs : ByteArray) (A : Option Addr) (m c : Nat) (w : World) (hv : Rep w lo hi e.v (vCells vk vn vf vs A m c)) (hz : hi ≤ w.heap.size) :
    Calls Tryd.prog 8 #[.agg (evCells e vk vn vf vs A m c)] w fun r w' => r = .returned (.tuple #[.slice none 0 0, .bool false]) ∧ Below w.heap.size w w' := by
  obtain ⟨W0, hW0⟩ : ∃ W0, W0 = w.alloc (.cells (evCells e vk vn vf vs A m c) 28) := ⟨_, rfl⟩
  have hb0 : Below w.heap.size w W0 := by rw [hW0]; exact (Below.refl _ _).alloc (Nat.le_refl _) _
  have hx0 : EBox W0 w.heap.size (evCells e vk vn vf vs A m c) := by rw [hW0]; exact box_ev ..
  have HV := Lib.hid (evalid_any e W0 lo hi _ ⟨hf, vk, vn, vf, vs, A, m, c, rfl, hv.later (hb0.mono hz)⟩ (Nat.le_trans hz hb0.size))
  rw [hval] at HV
  obtain ⟨g0, g1, g2, g3, g4, g5, g6, g7, g8, g9, g10⟩ := EBox.cells hx0
  have HB0 := Lib.hid hb0
  clear hv hf hx0 hb0 hval
  unfold evCells at hW0 HV ⊢
  replace hW0 := Lib.hid hW0
  go_enter Tryd.func8, Tryd.ntmps8
  go_upto_region 1 with fail
  rw [← hW0.out]
  go_wp2_with fail
  refine HV.out.mono ?_
  rintro x w1 ⟨rfl, hb1⟩
  have HB1 := Lib.hid (HB0.out.trans (hb1.mono HB0.out.size))
  clear hb1
  go_wp2_with fail
  exact bodyPost_ret (v := .tuple #[.slice none 0 0, .bool false]) (by simp [results, Tryd.results8, go_sem]) rfl ⟨rfl, HB1.out⟩
set_option maxRecDepth 100000 in
theorem etext_no (e : EV) (hval : e.valid = false) (hf : FieldsOk e) (lo hi : Nat) (vk vn : Int) (vf : Nat) (vs : ByteArray) (A : Option Addr) (m c : Nat) (w : World) (hv : Rep w lo hi e.v (vCells vk vn vf vs A m c)) (hz : hi ≤ w.heap.size) :
    Calls Tryd.prog 10 #[.agg (evCells e vk vn vf vs A m c)] w fun r w' => r = .returned (.string ⟨#[]⟩) ∧ Below w.heap.size w w' := by
  obtain ⟨W0, hW0⟩ : ∃ W0, W0 = w.alloc (.cells (evCells e vk vn vf vs A m c) 28) := ⟨_, rfl⟩
  have hb0 : Below w.heap.size w W0 := by rw [hW0]; exact (Below.refl _ _).alloc (Nat.le_refl _) _
  have hx0 : EBox W0 w.heap.size (evCells e vk vn vf vs A m c) := by rw [hW0]; exact box_ev ..
  have HV := Lib.hid (evalid_any e W0 lo hi _ ⟨hf, vk, vn, vf, vs, A, m, c, rfl, hv.later (hb0.mono hz)⟩ (Nat.le_trans hz hb0.size))
  rw [hval] at HV
  obtain ⟨g0, g1, g2, g3, g4, g5, g6, g7, g8, g9, g10⟩ := EBox.cells hx0
  have HB0 := Lib.hid hb0
  clear hv hf hx0 hb0 hval
  unfold evCells at hW0 HV ⊢
  replace hW0 := Lib.hid hW0
  go_enter Tryd.func10, Tryd.ntmps10
  go_upto_region 1 with fail
  rw [← hW0.out]
  go_wp2_with fail
  refine HV.out.mono ?_
  rintro x w1 ⟨rfl, hb1⟩
  have HB1 := Lib.hid (HB0.out.trans (hb1.mono HB0.out.size))
  clear hb1
  go_wp2_with fail
  go_ret
  exact ⟨rfl, HB1.out⟩
end Vf
end Go.Proofs.YtpneejlilgepfaaDoor
namespace Go.Proofs.YtpneejlilgepfaaDoor
open Go.RowKit
set_option linter.unusedVariables false
namespace Bt
open Vt (VT Rep BoxAt below_drew)
open Ev (EV FieldsOk ERep evCells vCells zeroT EBox nameOf fieldsOf rowCellsOf of_in evalid_any)

def e5 : EV := ⟨5, 5, 0, 0, ⟨#[]⟩, ⟨#[]⟩, zeroT⟩
theorem e5_rep (w : World) : ERep w 0 0 e5 (.agg #[.int .i64 5, .int .u64 5, .int .i64 0, .int .u64 0, .string ⟨#[]⟩, .string ⟨#[]⟩, .int .i64 0, .int .i64 0, .float .f64 0, .string ⟨#[]⟩, .slice none 0 0]) :=
  ⟨⟨by decide, by decide, by decide, by decide, by decide, by decide, by decide, by decide⟩, 0, 0, 0, ⟨#[]⟩, none, 0, 0, rfl, Rep.leaf ⟨by omega, by omega, by omega, by omega, by omega, by decide, by decide⟩⟩
theorem zero_valid : zeroT.valid 8 = true := by unfold zeroT; rw [Vt.valid_mk]; simp; decide
theorem e5_valid : e5.valid = true := by
  unfold EV.valid Ev.goodL e5
  simp [fieldsOf, Vt.same_refl, Ev.pickB]
  try decide
theorem five_bytes (w : World) : Calls Tryd.prog 8 #[.agg #[.int .i64 5, .int .u64 5, .int .i64 0, .int .u64 0, .string ⟨#[]⟩, .string ⟨#[]⟩, .int .i64 0, .int .i64 0, .float .f64 0, .string ⟨#[]⟩, .slice none 0 0]] w fun e w' => ∃ v, e = .returned (.tuple #[v, .bool true]) ∧ BOwn w' w.heap.size v [1, 5, 5] ∧ Below w.heap.size w w' := by
  have h := ebytes_walk 5 5 0 0 ⟨#[]⟩ ⟨#[]⟩ (by omega) (by omega) (by omega) (by omega) (by decide) (by decide) 0 0 0 ⟨#[]⟩ none 0 0 (nameOf 5) true false false false false false [0] (by simp) w
    (fun W hW => (evalid_any e5 W 0 0 _ (e5_rep W) (Nat.zero_le _)).mono fun r w' h => by rw [e5_valid] at h; exact h)
    (fun W => of_in 5 (by omega) (by omega) W)
    (fun W hW => vbytes0 zeroT 0 0 0 0 ⟨#[]⟩ none 0 0 W (Rep.leaf ⟨by omega, by omega, by omega, by omega, by omega, by decide, by decide⟩) (Nat.zero_le _) zero_valid)
  exact h
theorem five_text (w : World) : Calls Tryd.prog 10 #[.agg #[.int .i64 5, .int .u64 5, .int .i64 0, .int .u64 0, .string ⟨#[]⟩, .string ⟨#[]⟩, .int .i64 0, .int .i64 0, .float .f64 0, .string ⟨#[]⟩, .slice none 0 0]] w fun e w' => e = .returned (.string ⟨#[102, 105, 114, 101, 100, 32, 53]⟩) ∧ Below w.heap.size w w' := by
  have h := etext_walk 5 5 0 0 ⟨#[]⟩ ⟨#[]⟩ 0 0 0 ⟨#[]⟩ none 0 0 (nameOf 5) ⟨#[53]⟩ ⟨#[48]⟩ ⟨#[48]⟩ ⟨#[34, 34]⟩ ⟨#[34, 34]⟩ ⟨#[110, 105, 108]⟩ true false false false false false w (by decide)
    (fun W hW => (evalid_any e5 W 0 0 _ (e5_rep W) (Nat.zero_le _)).mono fun r w' h => by rw [e5_valid] at h; exact h)
    (fun W => of_in 5 (by omega) (by omega) W)
    (fun W _ => (fmt5 W).mono fun r w' h => ⟨h.1, by rw [h.2]; exact Below.refl _ _⟩)
    (fun W _ => (itoa0 W).mono fun r w' h => ⟨h.1, by rw [h.2]; exact Below.refl _ _⟩)
    (fun W _ => (fmt0 W).mono fun r w' h => ⟨h.1, by rw [h.2]; exact Below.refl _ _⟩)
    (fun W _ => quoted0 W) (fun W _ => quoted0 W)
    (fun W hW => vtext_none zeroT 0 0 0 0 ⟨#[]⟩ none 0 0 W (Rep.leaf ⟨by omega, by omega, by omega, by omega, by omega, by decide, by decide⟩) (Nat.zero_le _) zero_valid _ (fun W => none_text 0 0 ⟨#[]⟩ none 0 0 0 W))
  exact h

theorem BOwn.three {w : World} {base : Nat} {v : Value} {a b c : Nat} (h : BOwn w base v [a, b, c]) : ∃ g cap, v = .slice (some ⟨g, 0, none⟩) 3 cap ∧ base ≤ g ∧ 3 ≤ cap ∧ g < w.heap.size ∧ w.cell? ⟨g, 0, none⟩ = some (.int .u8 a) ∧ w.cell? ⟨g, 1, none⟩ = some (.int .u8 b) ∧ w.cell? ⟨g, 2, none⟩ = some (.int .u8 c) := by
  rcases h.2 with ⟨h1, h2⟩ | ⟨g, cap, cur, rfl, q2, q3, q4, q5, q6, q7⟩
  · simp at h2
  · refine ⟨g, cap, rfl, q2, q4, (Array.getElem?_eq_some_iff.1 q3).1, ?_, ?_, ?_⟩
    all_goals
      have q8 : cur.toList.take 3 = [.int .u8 (a : Int), .int .u8 (b : Int), .int .u8 (c : Int)] := q7
      simp only [World.cell?, q3]
      rw [← Array.getElem?_toList]
    · rw [← List.getElem?_take_of_lt (l := cur.toList) (j := 3) (by omega), q8]; rfl
    · rw [← List.getElem?_take_of_lt (l := cur.toList) (j := 3) (by omega), q8]; rfl
    · rw [← List.getElem?_take_of_lt (l := cur.toList) (j := 3) (by omega), q8]; rfl

set_option maxRecDepth 100000 in
theorem alive_any (w : World) : Calls Tryd.prog 5 #[] w fun e w' => e = .returned (.bool true) ∧ Below w.heap.size w w' := by
  obtain ⟨W0, hW0⟩ : ∃ W0, W0 = w.alloc (.cells #[.int .i64 5, .int .u64 5, .int .i64 0, .int .u64 0, .string ⟨#[]⟩, .string ⟨#[]⟩, .int .i64 0, .int .i64 0, .float .f64 0, .string ⟨#[]⟩, .slice none 0 0] 28) := ⟨_, rfl⟩
  have HB0 : Hid (Below w.heap.size w W0) := Lib.hid (by rw [hW0]; exact (Below.refl _ _).alloc (Nat.le_refl _) _)
  have hbx : EBox W0 w.heap.size #[.int .i64 5, .int .u64 5, .int .i64 0, .int .u64 0, .string ⟨#[]⟩, .string ⟨#[]⟩, .int .i64 0, .int .i64 0, .float .f64 0, .string ⟨#[]⟩, .slice none 0 0] := by rw [hW0]; exact heap_alloc_new w _
  have hzz : w.heap.size < W0.heap.size := by rw [hW0]; simp
  have HY := Lib.hid (five_bytes W0)
  have HT := Lib.hid five_text
  obtain ⟨a0, a1, a2, a3, a4, a5, a6, a7, a8, a9, a10⟩ := EBox.cells hbx
  have HX := Lib.hid hbx
  clear hbx
  replace hW0 := Lib.hid hW0
  go_enter Tryd.func5, Tryd.ntmps5
  go_upto_region 2 with fail
  rw [← hW0.out]
  go_wp2_with fail
  refine HY.out.mono ?_
  rintro e w1 ⟨v, rfl, hown, hb⟩
  obtain ⟨g, cap, rfl, hg0, hg1, hg2, c0, c1, c2⟩ := BOwn.three hown
  have hbx := HX.out.later hb hzz
  have HB1 : Hid (Below w.heap.size w w1) := Lib.hid (HB0.out.trans (hb.mono HB0.out.size))
  clear a0 a1 a2 a3 a4 a5 a6 a7 a8 a9 a10 hown hb HY HX
  obtain ⟨a0, a1, a2, a3, a4, a5, a6, a7, a8, a9, a10⟩ := EBox.cells hbx
  clear hbx
  go_wp2_with fail
  refine (HT.out _).mono ?_
  rintro e w2 ⟨rfl, hb2⟩
  have HB2 : Hid (Below w.heap.size w w2) := Lib.hid (HB1.out.trans (hb2.mono HB1.out.size))
  clear hb2
  go_wp2_with fail
  go_ret
  exact ⟨by first | rfl | simp, HB2.out⟩

end Bt
end Go.Proofs.YtpneejlilgepfaaDoor
