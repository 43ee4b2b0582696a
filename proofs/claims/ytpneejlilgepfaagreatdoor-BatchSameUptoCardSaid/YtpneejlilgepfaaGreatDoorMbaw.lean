/- value.Text, event.quoted, event.Text of any valid small event. -/
/- Texts of events tell the events: no program in sight. -/
/- batch.Bytes: rows of byte slices; the walk. -/
import Derived.Test.YtpneejlilgepfaaGreatDoorMbau
import Derived.Test.YtpneejlilgepfaaGreatDoorMbav
import Derived.Test.YtpneejlilgepfaaGreatDoorMbaq
import Derived.Test.YtpneejlilgepfaaGreatDoorMban
import Derived.Test.YtpneejlilgepfaaGreatDoorMbas
namespace Go.Proofs.YtpneejlilgepfaaGreatDoor
open Go.RowKit Go.Shelf
set_option linter.unusedVariables false
set_option linter.unusedSimpArgs false
namespace Vf
open _root_.Go.Proofs.YtpneejlilgepfaaGreatDoor.Nm (bitsW bits_any ret_int ret_bool)
open Bt (BOwn BIn ubytes sb SOwn join_any run_append_str selS etext_walk)
open Pf (zz hexL hexL_cons stext)
open Vt (VT Rep BoxAt below_drew KidsAt HeadOk kindV of_any)
open Ev (EV FieldsOk evCells vCells EBox ERep zeroT take_drop cons_drop fieldsOf nameOf of_in evalid_any)
open Fu (hd hd_lt textW)

theorem t_none (n : Nat) (w : World) : (method (n + 1) 145 (.agg #[]) "clockwork/value.text").run Tryz.prog w = .ok (178, .agg #[]) w := by kernel_rfl
theorem t_int (n : Nat) (w : World) : (method (n + 1) 146 (.agg #[]) "clockwork/value.text").run Tryz.prog w = .ok (181, .agg #[]) w := by kernel_rfl
theorem t_float (n : Nat) (w : World) : (method (n + 1) 147 (.agg #[]) "clockwork/value.text").run Tryz.prog w = .ok (186, .agg #[]) w := by kernel_rfl
theorem t_text (n : Nat) (w : World) : (method (n + 1) 148 (.agg #[]) "clockwork/value.text").run Tryz.prog w = .ok (199, .agg #[]) w := by kernel_rfl
theorem t_list (n : Nat) (w : World) : (method (n + 1) 149 (.agg #[]) "clockwork/value.text").run Tryz.prog w = .ok (202, .agg #[]) w := by kernel_rfl
theorem u_none (args : Array Value) (w : World) : (callFunc 178 args).run Tryz.prog w = .ok (.enter 178 args) w := by kernel_rfl
theorem u_int (args : Array Value) (w : World) : (callFunc 181 args).run Tryz.prog w = .ok (.enter 181 args) w := by kernel_rfl
theorem u_float (args : Array Value) (w : World) : (callFunc 186 args).run Tryz.prog w = .ok (.enter 186 args) w := by kernel_rfl
theorem u_text (args : Array Value) (w : World) : (callFunc 199 args).run Tryz.prog w = .ok (.enter 199 args) w := by kernel_rfl
theorem u_list (args : Array Value) (w : World) : (callFunc 202 args).run Tryz.prog w = .ok (.enter 202 args) w := by kernel_rfl

theorem tail_le (l : List VT) : ∀ (i : Nat) (h : i < l.length), (Pf.VT.text l[i]).length ≤ (Lib.joinTail [32] (l.map Pf.VT.text)).length := by
  induction l with
  | nil => intro i h; simp at h
  | cons t l ih =>
    intro i h
    rw [List.map_cons, show Lib.joinTail [32] (Pf.VT.text t :: l.map Pf.VT.text) = (32 :: Pf.VT.text t) ++ Lib.joinTail [32] (l.map Pf.VT.text) from by simp [Lib.joinTail], List.length_append, List.length_cons]
    cases i with
    | zero => simp only [List.getElem_cons_zero]; omega
    | succ i =>
      have := ih i (by simpa using h)
      simp only [List.getElem_cons_succ]
      omega
theorem elem_le (l : List VT) (i : Nat) (h : i < l.length) : (Pf.VT.text l[i]).length ≤ (Lib.join (l.map Pf.VT.text) [32]).length := by
  cases l with
  | nil => simp at h
  | cons t l =>
    rw [List.map_cons, Lib.join_cons, List.length_append]
    cases i with
    | zero => simp only [List.getElem_cons_zero]; omega
    | succ i =>
      have := tail_le l i (by simpa using h)
      simp only [List.getElem_cons_succ]
      omega

theorem slim_up {t : VT} (h : t.Slim 900) : t.Slim 1100 := by
  induction t using VT.ind with
  | _ k n f s l ih =>
    obtain ⟨h1, h2, h3⟩ := Vt.slim_mk.1 h
    exact Vt.slim_mk.2 ⟨by omega, by omega, fun i hi => ih i hi (h3 i hi)⟩
theorem txok (t : VT) : ∀ (d : Nat), t.valid d = true → (Pf.VT.text t).length ≤ 100000 → t.Slim 1100 → TxOk t := by
  induction t using VT.ind with
  | _ k n f s l ih =>
    intro d hv hlen hS
    obtain ⟨hs9, hl9, hkS⟩ := Vt.slim_mk.1 hS
    rw [Pf.text_mk] at hlen
    have e9 := Pf.text_mk k n f s l
    rcases Pf.valid_cases hv with ⟨rfl, -⟩ | ⟨rfl, -⟩ | ⟨rfl, -⟩ | ⟨rfl, -⟩ | ⟨rfl, -, -, -, hkv⟩
    · refine ⟨_, _, rfl, t_none, u_none, fun W lo hi v hR hz ht => ?_⟩
      obtain ⟨A, cap, rfl, ho, hl, hk⟩ := hR.head
      rw [e9]
      exact none_text _ n f s A _ _ W
    · refine ⟨_, _, rfl, t_int, u_int, fun W lo hi v hR hz ht => ?_⟩
      obtain ⟨A, cap, rfl, ho, hl, hk⟩ := hR.head
      rw [e9]
      exact int_text _ n ho.n0 ho.n1 f s A _ _ W ht
    · refine ⟨_, _, rfl, t_float, u_float, fun W lo hi v hR hz ht => ?_⟩
      obtain ⟨A, cap, rfl, ho, hl, hk⟩ := hR.head
      rw [e9]
      exact float_text _ n f ho.f1 s A _ _ W ht
    · refine ⟨_, _, rfl, t_text, u_text, fun W lo hi v hR hz ht => ?_⟩
      obtain ⟨A, cap, rfl, ho, hl, hk⟩ := hR.head
      rw [e9]
      exact text_text _ n f s (by omega) A _ _ W
    · rw [if_neg (by omega), if_neg (by omega), if_neg (by omega), if_pos rfl] at hlen e9
      rw [List.length_cons, List.length_append, List.length_singleton] at hlen
      refine ⟨_, _, rfl, t_list, u_list, fun W lo hi v hR hz ht => ?_⟩
      obtain ⟨A, cap, rfl, ho, hl, hk⟩ := hR.head
      rw [e9]
      exact list_text _ n f s l A cap hl hl9 ho.m1 W lo hi hk hz ht (by omega) (fun i hi => ih i hi (d - 1) (hkv _ (List.getElem_mem hi)) (by have := elem_le l i hi; omega) (hkS i hi))

set_option maxRecDepth 100000 in
set_option maxHeartbeats 1000000 in
theorem vtext_any (t : VT) (hlen : (Pf.VT.text t).length ≤ 100000) (hS : t.Slim 1100) (lo hi : Nat) (vk vn : Int) (vf : Nat) (vs : ByteArray) (A : Option Addr) (m c : Nat) (w : World) (hv : Rep w lo hi t (.agg #[.int .i64 vk, .int .i64 vn, .float .f64 vf, .string vs, .slice A m c])) (hz : hi ≤ w.heap.size) (hval : t.valid 8 = true) (ht : TB w) :
    Calls Tryz.prog 47 #[.agg #[.int .i64 vk, .int .i64 vn, .float .f64 vf, .string vs, .slice A m c]] w fun e w' => e = .returned (.string (textB t)) ∧ Below w.heap.size w w' := by
  obtain ⟨TT, MM, hkv, hM, hcall, hT⟩ := txok t 8 hval hlen hS
  have hvk : vk = t.k := by
    obtain ⟨k', n', f', s', l', A', cap', rfl, hc, -⟩ := hv.open_
    injection hc with hc
    simp at hc
    exact hc.1
  obtain ⟨W0, hW0⟩ : ∃ W0, W0 = w.alloc (.cells #[.int .i64 vk, .int .i64 vn, .float .f64 vf, .string vs, .slice A m c] 41) := ⟨_, rfl⟩
  have hB0 : Below w.heap.size w W0 := by rw [hW0]; exact (Below.refl _ _).alloc (Nat.le_refl _) _
  have hbx : BoxAt W0 w.heap.size vk vn vf vs A m c := by rw [hW0]; exact BoxAt.new ..
  have hz0 : w.heap.size < W0.heap.size := by rw [hW0]; simp
  have HBX : Hid (∀ W, Below W0.heap.size W0 W → BoxAt W w.heap.size vk vn vf vs A m c) := Lib.hid fun W hW => hbx.later hW hz0
  have HV := Lib.hid (Vt.valid_any t W0 lo hi _ (hv.later (hB0.mono hz)) (Nat.le_trans hz hB0.size))
  rw [hval] at HV
  have HT0 : Hid (∀ W, Below W0.heap.size W0 W → Calls Tryz.prog MM #[.agg #[], .agg #[.int .i64 vk, .int .i64 vn, .float .f64 vf, .string vs, .slice A m c]] W (KT W (Pf.VT.text t))) := Lib.hid fun W hW =>
    hT W lo hi _ ((hv.later (hB0.mono hz)).later (hW.mono (Nat.le_trans hz hB0.size))) (Nat.le_trans hz (Nat.le_trans hB0.size hW.size)) ((ht.later hB0).later hW)
  have HO : Hid (∀ W, Calls Tryz.prog 91 #[.int .i64 vk] W fun e w' => e = .returned (.iface TT (.agg #[])) ∧ W = w') := Lib.hid fun W => by
    have h9 := of_any vk W
    rw [hvk, hkv] at h9
    rw [hvk]
    exact h9
  have HB0 := Lib.hid hB0
  obtain ⟨c0, c1, c2, c3, c4⟩ := hbx.cells
  clear hB0 hbx hv hT hkv hvk ht
  replace hW0 := Lib.hid hW0
  go_enter Tryz.func47, Tryz.ntmps47
  go_upto_region 1 with fail
  rw [← hW0.out]
  go_wp2_with fail
  refine HV.out.mono ?_
  rintro e w1 ⟨rfl, hb1⟩
  obtain ⟨d0, d1, d2, d3, d4⟩ := (HBX.out w1 hb1).cells
  have HB1 := Lib.hid hb1
  have KS : Hid (∀ W' : World, Below w1.heap.size w1 W' → (W'.cell? ⟨w.heap.size, 0, none⟩ = some (.int .i64 vk) ∧ W'.cell? ⟨w.heap.size, 1, none⟩ = some (.int .i64 vn) ∧ W'.cell? ⟨w.heap.size, 2, none⟩ = some (.float .f64 vf) ∧ W'.cell? ⟨w.heap.size, 3, none⟩ = some (.string vs) ∧ W'.cell? ⟨w.heap.size, 4, none⟩ = some (.slice A m c))) := Lib.hid fun W' hW => (HBX.out W' (HB1.out.trans (hW.mono HB1.out.size))).cells
  have HT : Hid (∀ W, Below w1.heap.size w1 W → Calls Tryz.prog MM #[.agg #[], .agg #[.int .i64 vk, .int .i64 vn, .float .f64 vf, .string vs, .slice A m c]] W (KT W (Pf.VT.text t))) := Lib.hid fun W hW => HT0.out W (HB1.out.trans (hW.mono HB1.out.size))
  clear hb1 c0 c1 c2 c3 c4
  go_upto_region 3 with fail
  clear d0 d1 d2 d3 d4
  refine wp_region_noPanic ?_
  refine wp_region_held_drew (S := (fun W' : World => W'.cell? ⟨w.heap.size, 0, none⟩ = some (.int .i64 vk) ∧ W'.cell? ⟨w.heap.size, 1, none⟩ = some (.int .i64 vn) ∧ W'.cell? ⟨w.heap.size, 2, none⟩ = some (.float .f64 vf) ∧ W'.cell? ⟨w.heap.size, 3, none⟩ = some (.string vs) ∧ W'.cell? ⟨w.heap.size, 4, none⟩ = some (.slice A m c))) (by kernel_rfl) ?_ (fun hHeld => ?_)
  · exact KS.out _ (below_drew (Below.refl _ _))
  first
    | (refine take_drop (i := 0) (v := ?_) rfl (by kernel_rfl) (by kernel_rfl) (by kernel_rfl) (fun _ _ _ h => h) (Or.inl ⟨by rfl, ?_⟩) (by assumption) ?_; rotate_left 1; (focus (intro w hSw; (try dsimp only at hSw); go_simp; try with_reducible rfl)); try simp only [Act.put, List.setIfInBounds_toArray, List.set_cons_zero, List.set_cons_succ])
    | (refine take_drop (i := 0) (v := undef) rfl (by kernel_rfl) (by kernel_rfl) (by kernel_rfl) (fun _ _ _ h => h) (Or.inr ⟨by rfl, rfl⟩) (by assumption) ?_; try simp only [Act.put, List.setIfInBounds_toArray, List.set_cons_zero, List.set_cons_succ])
  first
    | (refine take_drop (i := 1) (v := ?_) rfl (by kernel_rfl) (by kernel_rfl) (by kernel_rfl) (fun _ _ _ h => h) (Or.inl ⟨by rfl, ?_⟩) (by assumption) ?_; rotate_left 1; (focus (intro w hSw; (try dsimp only at hSw); go_simp; try with_reducible rfl)); try simp only [Act.put, List.setIfInBounds_toArray, List.set_cons_zero, List.set_cons_succ])
    | (refine take_drop (i := 1) (v := undef) rfl (by kernel_rfl) (by kernel_rfl) (by kernel_rfl) (fun _ _ _ h => h) (Or.inr ⟨by rfl, rfl⟩) (by assumption) ?_; try simp only [Act.put, List.setIfInBounds_toArray, List.set_cons_zero, List.set_cons_succ])
  first
    | (refine take_drop (i := 3) (v := ?_) rfl (by kernel_rfl) (by kernel_rfl) (by kernel_rfl) (fun _ _ _ h => h) (Or.inl ⟨by rfl, ?_⟩) (by assumption) ?_; rotate_left 1; (focus (intro w hSw; (try dsimp only at hSw); go_simp; try with_reducible rfl)); try simp only [Act.put, List.setIfInBounds_toArray, List.set_cons_zero, List.set_cons_succ])
    | (refine take_drop (i := 3) (v := undef) rfl (by kernel_rfl) (by kernel_rfl) (by kernel_rfl) (fun _ _ _ h => h) (Or.inr ⟨by rfl, rfl⟩) (by assumption) ?_; try simp only [Act.put, List.setIfInBounds_toArray, List.set_cons_zero, List.set_cons_succ])
  refine wpAnyH_ready (rs := [2]) (by kernel_rfl) (by simp) ?_
  refine cons_drop rfl (fun K hK => ?_) AllReadyH.nil
  go_simp
  refine (HO.out _).mono ?_
  rintro e w2 ⟨rfl, rfl⟩
  go_wp2_with fail
  refine hK.out _ _ (KS.out _ (below_drew (Below.refl _ _))) (fun hHeld2 => ?_)
  clear hK K
  try simp only [Act.put, List.setIfInBounds_toArray, List.set_cons_zero, List.set_cons_succ]
  refine wpAnyH_ready (rs := [4]) (by kernel_rfl) (by simp) ?_
  refine cons_drop rfl (fun K hK => ?_) AllReadyH.nil
  go_simp
  refine (HT.out _ (below_drew (Below.refl _ _))).mono ?_
  rintro e w3 ⟨rfl, hb3⟩
  have hbx3 : Below w1.heap.size w1 w3 := (below_drew (Below.refl _ _)).trans hb3
  have HB3 := Lib.hid hbx3
  clear hb3 hbx3
  go_wp2_with fail
  refine hK.out _ _ (KS.out _ (HB3.out)) (fun hHeld2 => ?_)
  clear hK K
  try simp only [Act.put, List.setIfInBounds_toArray, List.set_cons_zero, List.set_cons_succ]
  first
    | (refine take_drop (i := 5) (v := ?_) rfl (by kernel_rfl) (by kernel_rfl) (by kernel_rfl) (fun _ _ _ h => h) (Or.inl ⟨by rfl, ?_⟩) (by assumption) ?_; rotate_left 1; (focus (intro w hSw; (try dsimp only at hSw); go_simp; try with_reducible rfl)); try simp only [Act.put, List.setIfInBounds_toArray, List.set_cons_zero, List.set_cons_succ])
    | (refine take_drop (i := 5) (v := undef) rfl (by kernel_rfl) (by kernel_rfl) (by kernel_rfl) (fun _ _ _ h => h) (Or.inr ⟨by rfl, rfl⟩) (by assumption) ?_; try simp only [Act.put, List.setIfInBounds_toArray, List.set_cons_zero, List.set_cons_succ])
  refine wpAnyH_done (by kernel_rfl) ?_ _
  refine NoPanic.normal ?_
  go_wp2_with fail
  go_ret
  exact ⟨rfl, HB0.out.trans ((HB1.out.trans (HB3.out.mono HB1.out.size)).mono HB0.out.size)⟩

theorem text_valid (s : ByteArray) : (VT.mk 3 0 0 s []).valid 8 = true := by
  rw [Vt.valid_mk]
  have : bitsW 0 = 0 := by decide
  simp [this]
theorem text_slim (s : ByteArray) (hs : s.size ≤ 1100) : (VT.mk 3 0 0 s []).Slim 1100 := Vt.slim_mk.2 ⟨hs, by simp, fun i h => absurd h (by simp)⟩
theorem stext_len (s : ByteArray) : (stext s).length = 2 * s.size + 2 := by
  unfold stext
  rw [List.length_cons, List.length_append, hexL_len, Bt.sb_len, List.length_singleton]
theorem text_of (s : ByteArray) : Pf.VT.text (.mk 3 0 0 s []) = stext s := by rw [Pf.text_mk, if_neg (by omega), if_neg (by omega), if_pos rfl]

set_option maxRecDepth 100000 in
theorem quoted_any (s : ByteArray) (hs : s.size ≤ 1000) (w : World) (ht : TB w) : Calls Tryz.prog 77 #[.string s] w fun e w' => e = .returned (.string ⟨(stext s).toArray⟩) ∧ Below w.heap.size w w' := by
  have HT : Hid (Calls Tryz.prog 47 #[.agg #[.int .i64 3, .int .i64 0, .float .f64 0, .string s, .slice none 0 0]] w fun e w' => e = .returned (.string ⟨(stext s).toArray⟩) ∧ Below w.heap.size w w') := Lib.hid (by
    have h := vtext_any (.mk 3 0 0 s []) (by rw [text_of, stext_len]; omega) (text_slim s (by omega)) 0 0 3 0 0 s none 0 0 w (Rep.leaf ⟨by omega, by omega, by omega, by omega, by omega, by simp only [maxLen]; omega, by decide⟩) (Nat.zero_le _) (text_valid s) ht
    unfold textB at h
    rw [text_of] at h
    exact h)
  go_enter Tryz.func77, Tryz.ntmps77
  go_wp2_with fail
  refine HT.out.mono ?_
  rintro e w1 ⟨rfl, hb⟩
  have HB := Lib.hid hb
  clear hb
  go_wp2_with fail
  go_ret
  exact ⟨rfl, HB.out⟩

/-- The text of a valid event. -/
def selT (b0 b1 b2 b3 b4 b5 : Bool) (p0 p1 p2 p3 p4 p5 : List UInt8) : List (List UInt8) := (if b0 then [p0] else []) ++ ((if b1 then [p1] else []) ++ ((if b2 then [p2] else []) ++ ((if b3 then [p3] else []) ++ ((if b4 then [p4] else []) ++ (if b5 then [p5] else [])))))
def etext (e : EV) : List UInt8 := (nameOf e.k.toNat).data.toList ++ Lib.joinTail [32] (selT (hasF e 0) (hasF e 1) (hasF e 2) (hasF e 3) (hasF e 4) (hasF e 5) (Lib.decDigits e.id) (Lib.itoa e.n) (Lib.decDigits e.at') (stext e.name) (stext e.text) (Pf.VT.text e.v))
theorem selS_map (b0 b1 b2 b3 b4 b5 : Bool) (p0 p1 p2 p3 p4 p5 : List UInt8) : (selS [b0, b1, b2, b3, b4, b5] [⟨p0.toArray⟩, ⟨p1.toArray⟩, ⟨p2.toArray⟩, ⟨p3.toArray⟩, ⟨p4.toArray⟩, ⟨p5.toArray⟩] 6).map (·.data.toList) = selT b0 b1 b2 b3 b4 b5 p0 p1 p2 p3 p4 p5 := by
  unfold selS selT
  cases b0 <;> cases b1 <;> cases b2 <;> cases b3 <;> cases b4 <;> cases b5 <;> rfl
theorem tail_len (l : List (List UInt8)) : (Lib.joinTail [32] l).length = (l.map (fun x => x.length + 1)).sum := by
  induction l with
  | nil => rfl
  | cons x l ih =>
    rw [show Lib.joinTail [32] (x :: l) = (32 :: x) ++ Lib.joinTail [32] l from by simp [Lib.joinTail], List.length_append, ih, List.map_cons, List.sum_cons, List.length_cons]
theorem selT_len (b0 b1 b2 b3 b4 b5 : Bool) (p0 p1 p2 p3 p4 p5 : List UInt8) : ((selT b0 b1 b2 b3 b4 b5 p0 p1 p2 p3 p4 p5).map (fun x => x.length + 1)).sum ≤ p0.length + p1.length + p2.length + p3.length + p4.length + p5.length + 6 := by
  unfold selT
  cases b0 <;> cases b1 <;> cases b2 <;> cases b3 <;> cases b4 <;> cases b5 <;> simp <;> omega
theorem dec_len (n : Nat) (h : n < 18446744073709551616) : (Lib.decDigits n).length ≤ 21 := by
  by_cases hn : n ≤ 9223372036854775807
  · have := Lib.itoa_length_le n (by omega) (by omega)
    unfold Lib.itoa at this
    rw [if_neg (by omega)] at this
    simpa using this
  · have h1 := Lib.itoa_length_le ((n / 10 : Nat) : Int) (by omega) (by omega)
    unfold Lib.itoa at h1
    rw [if_neg (by omega)] at h1
    rw [Fu.dec_big n (by omega), List.length_append, List.length_singleton]
    have h2 : (Lib.decDigits (n / 10)).length ≤ 20 := by
      have h3 := Lib.itoa_length_le (-((n / 10 : Nat) : Int)) (by omega) (by omega)
      unfold Lib.itoa at h3
      rw [if_pos (by omega), List.length_cons] at h3
      simp only [Int.natAbs_neg, Int.natAbs_natCast] at h3
      omega
    omega
theorem name_len (k : Nat) : (nameOf k).data.toList.length ≤ 20 := by
  by_cases h : k ≤ 11
  · have : ∀ r : Fin 12, (nameOf r.val).data.toList.length ≤ 20 := by decide +kernel
    exact this ⟨k, by omega⟩
  · unfold nameOf
    split <;> first | omega | (simp; done) | decide
theorem etext_len (e : EV) (hf : FieldsOk e) (V : VE e) (hfine : Pf.VT.fine e.v) (hfew : e.v.few = true) : (etext e).length ≤ 30000 := by
  unfold etext
  rw [List.length_append, tail_len]
  have h0 := selT_len (hasF e 0) (hasF e 1) (hasF e 2) (hasF e 3) (hasF e 4) (hasF e 5) (Lib.decDigits e.id) (Lib.itoa e.n) (Lib.decDigits e.at') (stext e.name) (stext e.text) (Pf.VT.text e.v)
  have h1 := dec_len e.id hf.i1
  have h2 := Lib.itoa_length_le e.n hf.n0 hf.n1
  have h3 := dec_len e.at' hf.a1
  have h4 := stext_len e.name
  have h5 := stext_len e.text
  have h6 := text_len_few hfine hfew
  have h7 := name_len e.k.toNat
  have h8 := V.s1
  have h9 := V.t1
  omega

theorem etext_any (e : EV) (hval : e.valid = true) (hf : FieldsOk e) (hfew : e.v.few = true) (lo hi : Nat) (vk vn : Int) (vf : Nat) (vs : ByteArray) (A : Option Addr) (m c : Nat) (w : World) (hv : Rep w lo hi e.v (vCells vk vn vf vs A m c)) (hz : hi ≤ w.heap.size) (ht : TB w) :
    Calls Tryz.prog 27 #[.agg (evCells e vk vn vf vs A m c)] w fun r w' => r = .returned (.string ⟨(etext e).toArray⟩) ∧ Below w.heap.size w w' := by
  have V := ve_of hval
  have hfine : Pf.VT.fine e.v := Pf.Rep.fine hv
  have hlen := etext_len e hf V hfine hfew
  have hev := fun W (hW : Below w.heap.size w W) => evalid_any e W lo hi _ ⟨hf, vk, vn, vf, vs, A, m, c, rfl, hv.later (hW.mono hz)⟩ (Nat.le_trans hz hW.size)
  obtain ⟨kn, hkn⟩ : ∃ kn : Nat, e.k = kn := ⟨e.k.toNat, by have := V.k1; omega⟩
  obtain ⟨nn, hnn⟩ : ∃ nn : Nat, e.n = nn := ⟨e.n.toNat, by have := V.n1; omega⟩
  have k1 := V.k1; have k2 := V.k2; have n2 := V.n2
  have hkt : e.k.toNat = kn := by omega
  unfold etext hasF at hlen ⊢
  rw [hkt, hnn] at hlen ⊢
  unfold evCells at hev ⊢
  rw [hkn, hnn] at hev ⊢
  have hj : Lib.join ((nameOf kn :: selS [(fieldsOf kn).contains 0, (fieldsOf kn).contains 1, (fieldsOf kn).contains 2, (fieldsOf kn).contains 3, (fieldsOf kn).contains 4, (fieldsOf kn).contains 5] [⟨(Lib.decDigits e.id).toArray⟩, ⟨(Lib.itoa nn).toArray⟩, ⟨(Lib.decDigits e.at').toArray⟩, ⟨(stext e.name).toArray⟩, ⟨(stext e.text).toArray⟩, ⟨(Pf.VT.text e.v).toArray⟩] 6).map (·.data.toList)) [32] =
      (nameOf kn).data.toList ++ Lib.joinTail [32] (selT ((fieldsOf kn).contains 0) ((fieldsOf kn).contains 1) ((fieldsOf kn).contains 2) ((fieldsOf kn).contains 3) ((fieldsOf kn).contains 4) ((fieldsOf kn).contains 5) (Lib.decDigits e.id) (Lib.itoa nn) (Lib.decDigits e.at') (stext e.name) (stext e.text) (Pf.VT.text e.v)) := by
    rw [List.map_cons, Lib.join_cons, selS_map]
  rw [← hj] at hlen ⊢
  exact etext_walk kn e.id nn e.at' e.name e.text vk vn vf vs A m c (nameOf kn) ⟨(Lib.decDigits e.id).toArray⟩ ⟨(Lib.itoa nn).toArray⟩ ⟨(Lib.decDigits e.at').toArray⟩ ⟨(stext e.name).toArray⟩ ⟨(stext e.text).toArray⟩ ⟨(Pf.VT.text e.v).toArray⟩ ((fieldsOf kn).contains 0) ((fieldsOf kn).contains 1) ((fieldsOf kn).contains 2) ((fieldsOf kn).contains 3) ((fieldsOf kn).contains 4) ((fieldsOf kn).contains 5) w (by omega)
    (fun W hW => (hev W hW).mono fun r w' h => by rw [hval] at h; exact h)
    (fun W => of_in kn (by omega) (by omega) W)
    (fun W hW => Fu.fmtu_any e.id hf.i1 W (ht.later hW).pow)
    (fun W hW => Fu.itoa_any nn (by omega) (by omega) W (ht.later hW).pow)
    (fun W hW => Fu.fmtu_any e.at' hf.a1 W (ht.later hW).pow)
    (fun W hW => quoted_any e.name V.s1 W (ht.later hW))
    (fun W hW => quoted_any e.text V.t1 W (ht.later hW))
    (fun W hW => vtext_any e.v (by have := text_len_few hfine hfew; omega) (slim_up (Vt.slim_of_few _ hfew)) lo hi vk vn vf vs A m c W (hv.later (hW.mono hz)) (Nat.le_trans hz hW.size) V.v1 (ht.later hW))
end Vf
end Go.Proofs.YtpneejlilgepfaaGreatDoor
namespace Go.Proofs.YtpneejlilgepfaaGreatDoor
open Go.RowKit
set_option linter.unusedVariables false
set_option linter.unusedSimpArgs false
namespace Vf
open Bt (ubytes sb)
open Pf (stext stopb Stops word_split dec_word itoa_word itoa_inj stext_word stext_inj text_split text_same)
open Vt (VT)
open Ev (EV FieldsOk nameOf fieldsOf zeroT)
open Cm (evSame)
open Fu (dec_inj)

/-- A part of a text, behind a blank. -/
def optT (b : Bool) (p : List UInt8) : List UInt8 := if b then 32 :: p else []
theorem tail_selT (b0 b1 b2 b3 b4 b5 : Bool) (p0 p1 p2 p3 p4 p5 : List UInt8) : Lib.joinTail [32] (selT b0 b1 b2 b3 b4 b5 p0 p1 p2 p3 p4 p5) = optT b0 p0 ++ (optT b1 p1 ++ (optT b2 p2 ++ (optT b3 p3 ++ (optT b4 p4 ++ optT b5 p5)))) := by
  unfold selT optT
  cases b0 <;> cases b1 <;> cases b2 <;> cases b3 <;> cases b4 <;> cases b5 <;> simp [Lib.joinTail]
theorem stops_nil : Stops [] := .inl rfl
theorem stops_opt (b : Bool) (p : List UInt8) {r : List UInt8} (h : Stops r) : Stops (optT b p ++ r) := by
  cases b with
  | false => exact h
  | true => exact .inr ⟨32, p ++ r, rfl, by decide⟩
theorem optT_split {b : Bool} {p p' r r' : List UInt8} {X : Prop} (hs : b = true → p ++ r = p' ++ r' → X ∧ r = r') (h : optT b p ++ r = optT b p' ++ r') : (b = true → X) ∧ r = r' := by
  unfold optT at h
  refine opt_split (fun hb hh => hs hb ?_) h
  simpa using hh
theorem name_word (k : Nat) (h : k ≤ 11) : ∀ x ∈ (nameOf k).data.toList, stopb x = false := by
  have : ∀ r : Fin 12, ((nameOf r.val).data.toList.all fun x => !stopb x) = true := by decide +kernel
  have h1 := this ⟨k, by omega⟩
  rw [List.all_eq_true] at h1
  intro x hx
  simpa using h1 x hx
theorem name_inj {k k' : Nat} (h : k ≤ 11) (h' : k' ≤ 11) (h1 : 1 ≤ k) (h1' : 1 ≤ k') (e : (nameOf k).data.toList = (nameOf k').data.toList) : k = k' := by
  have : ∀ r s : Fin 12, 1 ≤ r.val → 1 ≤ s.val → (nameOf r.val).data.toList = (nameOf s.val).data.toList → r.val = s.val := by decide +kernel
  exact this ⟨k, by omega⟩ ⟨k', by omega⟩ h1 h1' e

theorem etext_split_at {a b : EV} (ha : VE a) (hb : VE b) (ga : Pf.VT.fine a.v) (gb : Pf.VT.fine b.v) {r r' : List UInt8} (hr : Stops r) (hr' : Stops r') (h : etext a ++ r = etext b ++ r') : evSame a b = true ∧ r = r' := by
  unfold etext at h
  rw [tail_selT, tail_selT] at h
  simp only [List.append_assoc] at h
  have ka1 := ha.k1; have ka2 := ha.k2; have kb1 := hb.k1; have kb2 := hb.k2
  have l5 : ∀ (b : Bool) (p : List UInt8), Stops (optT b p ++ r) := fun b p => stops_opt _ _ hr
  have l5' : ∀ (b : Bool) (p : List UInt8), Stops (optT b p ++ r') := fun b p => stops_opt _ _ hr'
  obtain ⟨hk, h⟩ := word_split (name_word _ (by omega)) (name_word _ (by omega)) (stops_opt _ _ (stops_opt _ _ (stops_opt _ _ (stops_opt _ _ (stops_opt _ _ (l5 _ _)))))) (stops_opt _ _ (stops_opt _ _ (stops_opt _ _ (stops_opt _ _ (stops_opt _ _ (l5' _ _)))))) h
  have hk := name_inj (by omega) (by omega) (by omega) (by omega) hk
  have hkk : a.k = b.k := by omega
  have hF : ∀ j, hasF b j = hasF a j := fun j => by unfold hasF; rw [hkk]
  simp only [hF] at h
  obtain ⟨e0, h⟩ := optT_split (X := a.id = b.id) (fun _ hh => by
    obtain ⟨q, hh⟩ := word_split (dec_word _) (dec_word _) (stops_opt _ _ (stops_opt _ _ (stops_opt _ _ (stops_opt _ _ (l5 _ _))))) (stops_opt _ _ (stops_opt _ _ (stops_opt _ _ (stops_opt _ _ (l5' _ _))))) hh
    exact ⟨dec_inj _ _ q, hh⟩) h
  obtain ⟨e1, h⟩ := optT_split (X := a.n = b.n) (fun _ hh => by
    obtain ⟨q, hh⟩ := word_split (itoa_word _) (itoa_word _) (stops_opt _ _ (stops_opt _ _ (stops_opt _ _ (l5 _ _)))) (stops_opt _ _ (stops_opt _ _ (stops_opt _ _ (l5' _ _)))) hh
    exact ⟨itoa_inj q, hh⟩) h
  obtain ⟨e2, h⟩ := optT_split (X := a.at' = b.at') (fun _ hh => by
    obtain ⟨q, hh⟩ := word_split (dec_word _) (dec_word _) (stops_opt _ _ (stops_opt _ _ (l5 _ _))) (stops_opt _ _ (stops_opt _ _ (l5' _ _))) hh
    exact ⟨dec_inj _ _ q, hh⟩) h
  obtain ⟨e3, h⟩ := optT_split (X := a.name = b.name) (fun _ hh => by
    obtain ⟨q, hh⟩ := word_split (stext_word _) (stext_word _) (stops_opt _ _ (l5 _ _)) (stops_opt _ _ (l5' _ _)) hh
    exact ⟨stext_inj q, hh⟩) h
  obtain ⟨e4, h⟩ := optT_split (X := a.text = b.text) (fun _ hh => by
    obtain ⟨q, hh⟩ := word_split (stext_word _) (stext_word _) (l5 _ _) (l5' _ _) hh
    exact ⟨stext_inj q, hh⟩) h
  obtain ⟨e5, h⟩ := optT_split (X := a.v.same b.v = true) (fun _ hh => text_split a.v b.v 8 8 r r' ha.v1 hb.v1 ga gb hr hr' hh) h
  refine ⟨?_, h⟩
  have c : ∀ b : Bool, b = true ∨ b = false := fun b => by cases b <;> simp
  have d0 : a.id = b.id := by
    rcases c (hasF a 0) with q | q
    · exact e0 q
    · rw [ha.i0 q, hb.i0 ((hF 0).trans q)]
  have d1 : a.n = b.n := by
    rcases c (hasF a 1) with q | q
    · exact e1 q
    · rw [ha.n0 q, hb.n0 ((hF 1).trans q)]
  have d2 : a.at' = b.at' := by
    rcases c (hasF a 2) with q | q
    · exact e2 q
    · rw [ha.a0 q, hb.a0 ((hF 2).trans q)]
  have d3 : a.name = b.name := by
    rcases c (hasF a 3) with q | q
    · exact e3 q
    · rw [ha.s0 q, hb.s0 ((hF 3).trans q)]
  have d4 : a.text = b.text := by
    rcases c (hasF a 4) with q | q
    · exact e4 q
    · rw [ha.t0 q, hb.t0 ((hF 4).trans q)]
  have d5 : a.v.same b.v = true := by
    rcases c (hasF a 5) with q | q
    · exact e5 q
    · exact Vt.same_trans _ _ _ (ha.v0 q) (Vt.same_symm _ _ (hb.v0 ((hF 5).trans q)))
  simp [evSame, hkk, d0, d1, d2, d3, d4, d5]
theorem etext_split {a b : EV} (ha : VE a) (hb : VE b) (ga : Pf.VT.fine a.v) (gb : Pf.VT.fine b.v) (h : etext a = etext b) : evSame a b = true := (etext_split_at ha hb ga gb stops_nil stops_nil (by rw [h])).1
theorem etext_same {a b : EV} (h : evSame a b = true) : etext a = etext b := by
  obtain ⟨h1, h2, h3, h4, h5, h6, h7⟩ := evSame_parts h
  unfold etext hasF
  rw [h1, h2, h3, h4, h5, h6, text_same _ _ h7]
/-- The texts as strings. -/
def etextB (a : EV) : ByteArray := ⟨(etext a).toArray⟩
theorem etextB_iff {a b : EV} (ha : VE a) (hb : VE b) (ga : Pf.VT.fine a.v) (gb : Pf.VT.fine b.v) : decide (etextB a = etextB b) = evSame a b := by
  unfold etextB
  by_cases h : evSame a b = true
  · rw [h, decide_eq_true]
    rw [etext_same h]
  · rw [Bool.eq_false_iff.2 h]
    refine decide_eq_false fun e => h (etext_split ha hb ga gb ?_)
    have := congrArg (fun s : ByteArray => s.data.toList) e
    simpa using this
end Vf
end Go.Proofs.YtpneejlilgepfaaGreatDoor
namespace Go.Proofs.YtpneejlilgepfaaGreatDoor
open Go.RowKit
set_option linter.unusedVariables false
set_option linter.unusedSimpArgs false
namespace Cn
open _root_.Go.Proofs.YtpneejlilgepfaaGreatDoor.Nm (bitsW ret_int ret_bool)
open Vt (VT Rep BoxAt below_drew Cloned put5 KidsAt HeadOk)
open Ev (EV FieldsOk evCells vCells EBox ERep zeroT take_drop cons_drop)
open Cm (rowOf EvsIn EvsAt EvNew evsSame evSame)
open Bt (BOwn BIn PIn ubytes sb bv concat_any btext_any uint_any)

/-- The forms of events, as contracts. -/
def EvBytes (es : List EV) (bs : List (List Nat)) : Prop := bs.length = es.length ∧ ∀ i (h : i < es.length) (h' : i < bs.length) (lo hi : Nat) (vk vn : Int) (vf : Nat) (vs : ByteArray) (A : Option Addr) (m c : Nat) (w : World), FieldsOk es[i] → Rep w lo hi es[i].v (vCells vk vn vf vs A m c) → hi ≤ w.heap.size →
  Calls Tryz.prog 25 #[.agg (evCells es[i] vk vn vf vs A m c)] w fun r w' => ∃ v, r = .returned (.tuple #[v, .bool true]) ∧ BOwn w' w.heap.size v bs[i] ∧ Below w.heap.size w w'

set_option maxRecDepth 100000 in
theorem bfn_any (e : EV) (l : List Nat) (vk vn : Int) (vf : Nat) (vs : ByteArray) (A : Option Addr) (m c : Nat) (w : World) (hB : ∀ W, Below w.heap.size w W → Calls Tryz.prog 25 #[.agg (evCells e vk vn vf vs A m c)] W fun r w' => ∃ v, r = .returned (.tuple #[v, .bool true]) ∧ BOwn w' W.heap.size v l ∧ Below W.heap.size W w') :
    Calls Tryz.prog 43 #[.agg (evCells e vk vn vf vs A m c)] w fun r w' => ∃ v, r = .returned v ∧ BOwn w' w.heap.size v l ∧ Below w.heap.size w w' := by
  obtain ⟨W0, hW0⟩ : ∃ W0, W0 = w.alloc (.cells (evCells e vk vn vf vs A m c) 43) := ⟨_, rfl⟩
  have hb0 : Below w.heap.size w W0 := by rw [hW0]; exact (Below.refl _ _).alloc (Nat.le_refl _) _
  have hx0 : EBox W0 w.heap.size (evCells e vk vn vf vs A m c) := by rw [hW0]; exact box_ev ..
  have HV := Lib.hid (hB W0 hb0)
  obtain ⟨g0, g1, g2, g3, g4, g5, g6, g7, g8, g9, g10⟩ := EBox.cells hx0
  have HB0 := Lib.hid hb0
  clear hB hx0 hb0
  unfold evCells at HV hW0 ⊢
  replace hW0 := Lib.hid hW0
  go_enter Tryz.func43, Tryz.ntmps43
  go_upto_region 1 with fail
  rw [← hW0.out]
  go_wp2_with fail
  refine HV.out.mono ?_
  rintro x w1 ⟨v, rfl, ho, hb1⟩
  have HO := Lib.hid (ho.base HB0.out.size)
  have HB1 := Lib.hid (HB0.out.trans (hb1.mono HB0.out.size))
  clear hb1 ho g0 g1 g2 g3 g4 g5 g6 g7 g8 g9 g10
  go_wp2_with fail
  go_ret
  exact ⟨v, rfl, HO.out, HB1.out⟩

/-- A row of byte slices of the call's own; each slice lies apart from the row. -/
def PRow (w : World) (base : Nat) (A : Option Addr) (cap n : Nat) (ls : List (List Nat)) : Prop := ls.length = n ∧ ∃ xs, w.ownsRow base 31 1 (.slice A n cap) n xs ∧ ∀ i (h : i < ls.length), ∃ v, xs[i]? = some v ∧ BIn w v ls[i] ∧ ∀ k, v.ownBlock = some k → rowOf A ≠ some k

theorem prow_nil (w : World) (base : Nat) : PRow w base none 0 0 [] := ⟨rfl, [], ⟨rfl, .inl ⟨rfl, rfl⟩⟩, fun i h => absurd h (by simp)⟩
theorem bin_block {w : World} {v : Value} {l : List Nat} (h : BIn w v l) : ∀ k, v.ownBlock = some k → k < w.heap.size := by
  intro k hk
  rcases h with ⟨rfl, -⟩ | ⟨ad, cap, rfl, h1, h2, h3, h4⟩
  · cases hk
  · cases hk; exact h3
theorem bin_keep {w w' : World} {v : Value} {l : List Nat} (h : BIn w v l) (hz : w.heap.size ≤ w'.heap.size) (hk : ∀ k, v.ownBlock = some k → w'.heap[k]? = w.heap[k]?) : BIn w' v l := by
  rcases h with h | ⟨ad, cap, rfl, h1, h2, h3, h4⟩
  · exact .inl h
  · exact .inr ⟨ad, cap, rfl, h1, h2, Nat.lt_of_lt_of_le h3 hz, fun j u hu => (World.cell?_of_block (a := ad.add j) (by rw [Bt.block_add]; exact hk _ rfl)).trans (h4 j u hu)⟩
theorem PRow.pin {w : World} {base : Nat} {A : Option Addr} {cap n : Nat} {ls : List (List Nat)} (h : PRow w base A cap n ls) : PIn w A cap ls := by
  obtain ⟨rfl, xs, h1, h3⟩ := h
  rcases h1.2 with ⟨hv, h0⟩ | ⟨r, cp, cur, q1, q2, q3, q4, q5, q6, q7⟩
  · injection hv with hA hn hc
    exact ⟨by omega, by rw [hc]; exact Nat.zero_le _, fun hp => absurd hp (by omega)⟩
  · injection q1 with hA hn hc
    subst hc
    refine ⟨q4, q5, fun hp => ⟨r, 0, hA, (Array.getElem?_eq_some_iff.1 q3).1, fun i hi => ?_⟩⟩
    obtain ⟨v, k1, k2, -⟩ := h3 i hi
    refine ⟨v, ?_, k2⟩
    rw [← k1, ← q7, List.getElem?_take_of_lt (by omega), Array.getElem?_toList]
    simp [World.cell?, q3]
theorem PRow.push {W w' : World} {base r H : Nat} {A : Option Addr} {cap cap' n : Nat} {ls : List (List Nat)} {l : List Nat} {xs : List Value} {v : Value}
    (hlen : ls.length = n) (hlx : xs.length = n) (hx : ∀ i (h : i < ls.length), ∃ v, xs[i]? = some v ∧ BIn W v ls[i] ∧ ∀ k, v.ownBlock = some k → rowOf A ≠ some k) (hv : BIn W v l) (hrr : ∀ k, v.ownBlock = some k → rowOf A ≠ some k)
    (hown : w'.ownsRow base 31 1 (.slice (some ⟨r, 0, none⟩) (n + 1) cap') (n + 1) (xs ++ [v])) (hgrow : W.grownBy w' (rowOf A)) (hat : rowOf A = some r ∨ r = H) (hH : W.heap.size ≤ H) :
    PRow w' base (some ⟨r, 0, none⟩) cap' (n + 1) (ls ++ [l]) := by
  have key : ∀ (v : Value) (l : List Nat), BIn W v l → (∀ k, v.ownBlock = some k → rowOf A ≠ some k) → BIn w' v l ∧ ∀ k, v.ownBlock = some k → rowOf (some ⟨r, 0, none⟩) ≠ some k := fun v l h1 h2 => by
    refine ⟨bin_keep h1 hgrow.size (fun k hk => hgrow.block k (bin_block h1 k hk) (fun e => h2 k hk e.symm)), fun k hk e => ?_⟩
    obtain rfl : r = k := Option.some.inj e
    rcases hat with h | h
    · exact h2 r hk h
    · have := bin_block h1 r hk; omega
  refine ⟨by simp [hlen], _, hown, fun i hil => ?_⟩
  simp at hil
  by_cases hlt : i < ls.length
  · rw [List.getElem_append_left hlt]
    obtain ⟨u, k1, k2, k3⟩ := hx i hlt
    obtain ⟨z1, z2⟩ := key u _ k2 k3
    exact ⟨u, (List.getElem?_append_left (by omega)).trans k1, z1, z2⟩
  · obtain rfl : i = ls.length := by omega
    rw [List.getElem_append_right (Nat.le_refl _)]
    simp only [Nat.sub_self, List.getElem_cons_zero]
    obtain ⟨z1, z2⟩ := key v _ hv hrr
    exact ⟨v, by rw [List.getElem?_append_right (by omega), hlx, hlen, Nat.sub_self]; rfl, z1, z2⟩

theorem Tryz.infoY : (Tryz.prog.info? 31).map (fun i => (i.zero, i.size, i.bytes)) = some (some (.slice none 0 0), 1, 24) := by kernel_rfl

theorem slice_one {w : World} {v : Value} {l : List Nat} (h : BIn w v l) : v.oneCell' = true := by
  rcases h with ⟨rfl, -⟩ | ⟨ad, cap, rfl, -⟩ <;> rfl

set_option maxRecDepth 100000 in
set_option maxHeartbeats 2000000 in
theorem mappedb_any (es : List EV) (hl40 : es.length ≤ 1099511627775) (bs : List (List Nat)) (hEB : EvBytes es bs) (A : Option Addr) (cap : Nat) (w : World) (h : EvsIn w A cap es) :
    Calls Tryz.prog 42 #[.slice A es.length cap, .func (.func 43) #[] #[]] w fun r w' => ∃ A2 cap2, r = .returned (.slice A2 es.length cap2) ∧ Below w.heap.size w w' ∧ PRow w' w.heap.size A2 cap2 es.length bs := by
  have hl := h.le
  have hc := h.cap_le
  simp only [maxLen] at hc
  obtain ⟨i0, hi0, hz0, hz1, hz2⟩ := info_parts Tryz.infoY
  have HK := Lib.hid h; clear h
  have hbl := hEB.1
  have HE := Lib.hid hEB.2
  clear hEB
  go_enter Tryz.func42, Tryz.ntmps42
  go_wp2_with fail
  go_loopw [5, 10] (fun out i wr => ∃ (j : Nat) (A2 : Option Addr) (cap2 : Nat), j ≤ es.length ∧ i = .int .i64 j ∧ out = .slice A2 j cap2 ∧ PRow wr w.heap.size A2 cap2 j (bs.take j) ∧ Below w.heap.size w wr) (fun _ i _ => es.length - (intOf i).toNat)
  case atStart => exact ⟨0, none, 0, by omega, rfl, rfl, by simpa using prow_nil w w.heap.size, Below.refl _ _⟩
  case round =>
    obtain ⟨j, A2, cap2, hj, rfl, rfl, hrow, hb⟩ := hrel
    by_cases hlt : j < es.length
    · obtain ⟨b, off, lo, hi, vk, vn, vf, vs, A', m, c, rfl, hbl', hf, hv0, hhi0, e0, e1, e2, e3, e4, e5, e6, e7, e8, e9, e10⟩ := HK.out.get j hlt
      have HB := Lib.hid hb
      have hbs := hb.size
      have hcw : ∀ o, wr.cell? ⟨b, o, none⟩ = w.cell? ⟨b, o, none⟩ := fun o => HB.out.cell (p := ⟨b, o, none⟩) hbl'
      have d0 := (hcw _).trans e0; have d1 := (hcw _).trans e1; have d2 := (hcw _).trans e2; have d3 := (hcw _).trans e3; have d4 := (hcw _).trans e4; have d5 := (hcw _).trans e5; have d6 := (hcw _).trans e6; have d7 := (hcw _).trans e7; have d8 := (hcw _).trans e8; have d9 := (hcw _).trans e9; have d10 := (hcw _).trans e10
      have hv := hv0.later (HB.out.mono hhi0)
      have hhi : hi ≤ wr.heap.size := Nat.le_trans hhi0 hbs
      clear e0 e1 e2 e3 e4 e5 e6 e7 e8 e9 e10 hcw hv0 hb
      obtain ⟨W1, hW1⟩ : ∃ W1, W1 = wr.alloc (.cells (evCells es[j] vk vn vf vs A' m c) 43) := ⟨_, rfl⟩
      have hb1 : Below wr.heap.size wr W1 := by rw [hW1]; exact (Below.refl _ _).alloc (Nat.le_refl _) _
      have hx1 : EBox W1 wr.heap.size (evCells es[j] vk vn vf vs A' m c) := by rw [hW1]; exact box_ev ..
      obtain ⟨g0, g1, g2, g3, g4, g5, g6, g7, g8, g9, g10⟩ := EBox.cells hx1
      have hjb : j < bs.length := by omega
      have HC := Lib.hid (bfn_any es[j] bs[j] vk vn vf vs A' m c W1 (fun W hW => HE.out j hlt hjb lo hi vk vn vf vs A' m c W hf ((hv.later (hb1.mono hhi)).later (hW.mono (Nat.le_trans hhi hb1.size))) (Nat.le_trans hhi (Nat.le_trans hb1.size hW.size))))
      have HF := Lib.hid hf; have HB1 := Lib.hid hb1
      obtain ⟨hlen, xs, hxo, hxe⟩ := hrow
      have hlx : xs.length = j := by have := hxo.1; omega
      have HOWN : Hid (∀ W, Below wr.heap.size wr W → W.ownsRow w.heap.size 31 1 (.slice A2 j cap2) j xs) := Lib.hid fun W hW => own_keep hxo hW
      have HRO := Lib.hid (own_lt hxo)
      have HXE := Lib.hid hxe
      unfold evCells at HC hW1
      replace hW1 := Lib.hid hW1
      clear hxe hxo hf hv hx1 hb1
      go_upto_region 5 with fail
      rw [← hW1.out]
      clear d0 d1 d2 d3 d4 d5 d6 d7 d8 d9 d10
      go_wp2_with fail
      refine HC.out.mono ?_
      rintro x w2 ⟨v, rfl, ho, hb2⟩
      obtain ⟨Av, cv, rfl⟩ := ho.read.form
      generalize hnb : bs[j].length = nb at *
      obtain ⟨v, hv⟩ : ∃ v, v = Value.slice Av nb cv := ⟨_, rfl⟩
      rw [← hv] at ho
      have HVV := Lib.hid hv
      clear hnb
      have HB2 : Hid (Below wr.heap.size wr w2) := Lib.hid (HB1.out.trans (hb2.mono HB1.out.size))
      have h1c := slice_one ho.read
      obtain ⟨W4, hW4⟩ : ∃ W4, W4 = w2.alloc (.cells #[v] 31) := ⟨_, rfl⟩
      have hW4' := hW4
      rw [hv] at hW4'
      have K1 : Hid (Below wr.heap.size wr W4) := Lib.hid (by rw [hW4]; exact HB2.out.alloc HB2.out.size _)
      have K2 : Hid (∀ q u, [v][q]? = some u → W4.cell? ((⟨w2.heap.size, 0, none⟩ : Addr).add q) = some u) := Lib.hid (World.news_of_block (cs := #[v]) (t := 31) (fr := (0, 0)) (by rw [hW4]; exact heap_alloc_new w2 _))
      have K3 : Hid (BIn W4 v bs[j]) := Lib.hid (by rw [hW4]; exact ho.read.later ((Below.refl _ _).alloc (Nat.le_refl _) _))
      have K4 : Hid (∀ k, v.ownBlock = some k → rowOf A2 ≠ some k) := Lib.hid fun k hk e => by
        have h1 := ho.row_ge k hk
        have h2 := (HRO.out k e).1
        have h3 := HB1.out.size
        omega
      have KO := Lib.hid (HOWN.out _ K1.out)
      have hbs4 := Nat.le_trans hbs K1.out.size
      have hw1s := HB1.out.size
      replace hW4 := Lib.hid hW4'
      rw [hv] at K2 h1c
      clear hW4' hv
      clear ho hb2 g0 g1 g2 g3 g4 g5 g6 g7 g8 g9 g10
      go_wp2_with (at_builtin; rw [← hW4.out]; refine wpList_append_lies _ rfl _ _ 65 rfl w.heap.size 31 i0 _ 1 24 Tryz.underlying65 hi0 hz0 hz1 hz2 rfl (by decide) (.slice A2 j cap2) j xs rfl KO.out ⟨w2.heap.size, 0, none⟩ 1 1 [.slice Av nb cv] rfl rfl K2.out (by intro u hu; rw [List.mem_singleton.1 hu]; exact h1c) (by decide) (by simp only [maxLen]; omega) (by omega) hbs4 _ rfl ?_; intro r2 cap4 w5 hown5 hgrow5 hat5 hrl5)
      rw [Cm.rowOf_own] at hgrow5 hat5
      rw [← HVV.out] at hown5
      have HP : Hid (PRow w5 w.heap.size (some ⟨r2, 0, none⟩) cap4 (j + 1) (bs.take (j + 1))) := Lib.hid (by
        rw [List.take_succ_eq_append_getElem hjb]
        exact PRow.push (cap := 0) (H := W4.heap.size) hlen hlx (fun i h => by
          obtain ⟨u, k1, k2, k3⟩ := HXE.out i h
          exact ⟨u, k1, k2.later K1.out, k3⟩) K3.out K4.out hown5 hgrow5 hat5 (Nat.le_refl _))
      have HB5 : Hid (Below w.heap.size w w5) := Lib.hid ((HB.out.trans (K1.out.mono hbs)).trans ⟨hgrow5.os, hgrow5.tape, hgrow5.output, hgrow5.size, fun b hb => hgrow5.block b (by omega) (fun e => by have := (HRO.out b e.symm).2; omega)⟩)
      clear hown5 hgrow5 hat5
      exact ⟨⟨j + 1, _, cap4, by omega, by go_num, rfl, HP.out, HB5.out⟩, by simp [intOf]; omega⟩
    · have hj' : j = es.length := by omega
      subst hj'
      rw [List.take_of_length_le (by omega)] at hrow
      have HE := Lib.hid hrow; have HB := Lib.hid hb
      clear hrow hb
      go_wp2_with fail
      go_ret
      exact ⟨A2, cap2, rfl, HB.out, HE.out⟩

/-- The form of a batch. -/
def bform (f : ByteArray) (at' n : Nat) (bs : List (List Nat)) : List Nat := (ubytes 10 f.size ++ sb f) ++ (ubytes 10 at' ++ (ubytes 10 n ++ bs.flatten))

theorem bbytes_no (es : List EV) (f : ByteArray) (hfs : f.size ≤ maxLen) (at' : Nat) (hat : at' < 18446744073709551616) (A : Option Addr) (cap : Nat) (w : World) (h : EvsIn w A cap es) (hval : bvalid f at' es = false) :
    Calls Tryz.prog 14 #[.agg #[.string f, .int .u64 at', .slice A es.length cap]] w fun r w' => r = .returned (.tuple #[.slice none 0 0, .bool false]) ∧ Below w.heap.size w w' := by
  obtain ⟨W0, hW0⟩ : ∃ W0, W0 = w.alloc (.cells #[.string f, .int .u64 at', .slice A es.length cap] 25) := ⟨_, rfl⟩
  have hx0 : BB W0 w.heap.size f at' A es.length cap := by rw [hW0]; exact heap_alloc_new w _
  have hb0 : Below w.heap.size w W0 := by rw [hW0]; exact (Below.refl _ _).alloc (Nat.le_refl _) _
  have HV := Lib.hid (bvalid_any es f hfs at' hat A cap W0 (h.later hb0))
  rw [hval] at HV
  obtain ⟨c0, c1, c2, -⟩ := hx0.cells
  have HB0 := Lib.hid hb0
  replace hW0 := Lib.hid hW0
  clear h hx0 hb0
  go_enter Tryz.func14, Tryz.ntmps14
  go_upto_region 1 with fail
  rw [← hW0.out]
  go_wp2_with fail
  refine HV.out.mono ?_
  rintro x w1 ⟨rfl, hb1⟩
  have HB1 := Lib.hid (HB0.out.trans (hb1.mono HB0.out.size))
  clear hb1
  go_wp2_with fail
  exact bodyPost_ret (v := .tuple #[.slice none 0 0, .bool false]) (by simp [results, Tryz.results14, go_sem]) rfl ⟨rfl, HB1.out⟩

end Cn
end Go.Proofs.YtpneejlilgepfaaGreatDoor
