/- Calls on a builder and on the reference's: do, model. -/
import Derived.Test.YtpnepnhajpmccaaCwN
namespace Go.Proofs.Ytpnepnhajpmccaa
open Go.RowKit
set_option linter.unusedVariables false
namespace Cm
variable {X : Nat → Prop}
open Nm (bitsW ret_int ret_bool)
open Vt (VT Rep BoxAt below_drew Cloned put5 toList_inj rowCells)
open Ev (EV FieldsOk evCells vCells EBox ERep zeroT)

/-- A call. -/
structure OpT where mk ::
  kind : Int
  text : ByteArray
  v : VT
  n : Nat

def opCells (o : OpT) (vk vn : Int) (vf : Nat) (vs : ByteArray) (A : Option Addr) (m c : Nat) : Array Value := #[.int .i64 o.kind, .string o.text, .int .i64 vk, .int .i64 vn, .float .f64 vf, .string vs, .slice A m c, .int .u64 o.n]

def finE (o : OpT) : EV := if o.kind = 2 then complE o.v else if o.kind = 3 then failE o.text else panicE o.text
def doS (s : BS) (o : OpT) : BS × Nat := if o.kind = 0 then s.number (schedE o.text o.v) else if o.kind = 1 then s.number (armE (Nm.addW s.at' o.n)) else ((s.fin (finE o)).1, if (s.fin (finE o)).2 = true then 1 else 0)

/-- What a builder's state meets behind k calls. -/
structure SOk (s : BS) (b k : Nat) : Prop where
  closed : s.closed = closedOf s.es
  next0 : 0 < s.next
  next1 : s.next ≤ b + k
  at1 : s.at' ≤ 9223372036854775807
  len : s.es.length ≤ k
  slim : ∀ i (h : i < s.es.length), s.es[i].v.Slim 900
  valid : ∀ i (h : i < s.es.length), s.es[i].valid = true

theorem addW_le (a b : Nat) : Nm.addW a b ≤ 9223372036854775807 := by unfold Nm.addW; split <;> omega

theorem push_all {es : List EV} {e : EV} {p : EV → Prop} (h : ∀ i (h : i < es.length), p es[i]) (he : p e) : ∀ i (h : i < (es ++ [e]).length), p (es ++ [e])[i] := by
  intro i hi
  by_cases hlt : i < es.length
  · rw [List.getElem_append_left hlt]; exact h i hlt
  · rw [List.getElem_append_right (by omega)]; simpa using he

theorem number_ok {s : BS} {b k : Nat} (h : SOk s b k) (e : EV) (he : e.k < 9) (hv : e.v.Slim 900) : SOk (s.number e).1 b (k + 1) := by
  unfold BS.number
  split
  · rename_i hc
    refine ⟨?_, Nat.succ_pos _, by have := h.next1; show s.next + 1 ≤ _; omega, h.at1, by have := h.len; simp; omega, push_all (p := fun e => e.v.Slim 900) h.slim hv, push_all (p := fun e => e.valid = true) h.valid hc.1⟩
    rw [closedOf_push, if_neg (by show ¬ 9 ≤ e.k; omega)]
  · exact ⟨h.closed, h.next0, by have := h.next1; show s.next ≤ _; omega, h.at1, by have := h.len; show s.es.length ≤ _; omega, h.slim, h.valid⟩
theorem fin_ok {s : BS} {b k : Nat} (h : SOk s b k) (e : EV) (he : 9 ≤ e.k) (hv : e.v.Slim 900) : SOk (s.fin e).1 b (k + 1) := by
  unfold BS.fin
  split
  · rename_i hc
    refine ⟨?_, h.next0, by have := h.next1; show s.next ≤ _; omega, h.at1, by have := h.len; simp; omega, push_all (p := fun e => e.v.Slim 900) h.slim hv, push_all (p := fun e => e.valid = true) h.valid hc.1⟩
    rw [closedOf_push, if_pos he]
  · exact ⟨h.closed, h.next0, by have := h.next1; show s.next ≤ _; omega, h.at1, by have := h.len; show s.es.length ≤ _; omega, h.slim, h.valid⟩
theorem finE_k (o : OpT) : 9 ≤ (finE o).k ∧ (finE o).k ≤ 11 := by unfold finE; split <;> (try split) <;> simp [complE, failE, panicE]
theorem finE_slim (o : OpT) (h : o.v.Slim 900) : (finE o).v.Slim 900 := by unfold finE; split <;> (try split) <;> first | exact h | exact zero_slim
theorem doS_ok {s : BS} {b k : Nat} (h : SOk s b k) (o : OpT) (hv : o.v.Slim 900) : SOk (doS s o).1 b (k + 1) := by
  unfold doS
  split
  · exact number_ok h _ (by simp [schedE]) hv
  · split
    · exact number_ok h _ (by simp [armE]) zero_slim
    · exact fin_ok h _ (finE_k o).1 (finE_slim o hv)

/-- What the reference's calls hand out. -/
def RRes (w w' : World) (base : Nat) (A : Option Addr) (s' : BS) (A' : Option Addr) (cap' : Nat) : Prop := Below w.heap.size w w' ∧ MAt w' base A' cap' s'.es ∧ (A' = A ∨ ∀ r, rowOf A' = some r → w.heap.size ≤ r)

theorem rsched_any (base : Nat) (A : Option Addr) (cap : Nat) (s : BS) (k b : Nat) (hok : SOk s b k) (hk : b + k + 1 < 18446744073709551616) (name : ByteArray) (t : VT) (vk vn : Int) (vf : Nat) (vs : ByteArray) (A' : Option Addr) (m c : Nat) (w : World) (h : MAt w base A cap s.es) (hn : s.es.length ≤ 1000000) (hbw : base ≤ w.heap.size)
    (hs : name.size ≤ maxLen) (hv : Rep w 0 base t (vCells vk vn vf vs A' m c)) :
    Calls Try.prog 27 #[.agg #[.int .u64 s.next, .int .u64 s.at', .slice A s.es.length cap], .string name, vCells vk vn vf vs A' m c] w fun r w' =>
      ∃ A' cap', r = .returned (.tuple #[.agg #[.int .u64 (s.number (schedE name t)).1.next, .int .u64 (s.number (schedE name t)).1.at', .slice A' (s.number (schedE name t)).1.es.length cap'], .int .u64 (s.number (schedE name t)).2]) ∧ RRes w w' base A (s.number (schedE name t)).1 A' cap' := by
  have hn1 := hok.next1
  by_cases hc : closedOf s.es = 0 ∧ right name t = true
  · obtain ⟨hc1, hc2⟩ := hc
    have hc2' := hc2
    rw [right, empty_iff, Bool.and_eq_true, Bool.and_eq_true] at hc2
    obtain ⟨⟨h1, h2⟩, h3⟩ := hc2
    refine (rsched_good base A cap s.es s.next s.at' (by omega) name t vk vn vf vs A' m c w h hn hbw hs hv hc1 (by simpa using h1) (by simpa using h2) h3).mono ?_
    rintro r w' ⟨b', cap', rfl, hb, hbg, hm⟩
    have hN : s.number (schedE name t) = (⟨s.es ++ [withId (schedE name t) s.next], 0, s.next + 1, s.at'⟩, s.next) := if_pos ⟨by rw [sched_valid _ _ _ hok.next0]; exact hc2', by rw [hok.closed]; exact hc1⟩
    rw [hN]
    exact ⟨some ⟨b', 0, none⟩, cap', by simp, hb, hm, .inr (fun r hr => by cases hr; exact hbg)⟩
  · refine (rsched_bad base A cap s.es s.next s.at' name t vk vn vf vs A' m c w h hn hbw hs hv hc).mono ?_
    rintro r w' ⟨rfl, hb⟩
    have hN : s.number (schedE name t) = (s, 0) := if_neg (fun q => hc ⟨by rw [← hok.closed]; exact q.2, by have := q.1; rw [sched_valid _ _ _ hok.next0] at this; exact this⟩)
    rw [hN]
    exact ⟨A, cap, rfl, hb, h.later hbw hb, .inl rfl⟩

theorem rarm_any (base : Nat) (A : Option Addr) (cap : Nat) (s : BS) (k b : Nat) (hok : SOk s b k) (hk : b + k + 1 < 18446744073709551616) (n : Nat) (hn0 : n < 18446744073709551616) (w : World) (h : MAt w base A cap s.es) (hn : s.es.length ≤ 1000000) (hbw : base ≤ w.heap.size) :
    Calls Try.prog 28 #[.agg #[.int .u64 s.next, .int .u64 s.at', .slice A s.es.length cap], .int .u64 n] w fun r w' =>
      ∃ A' cap', r = .returned (.tuple #[.agg #[.int .u64 (s.number (armE (Nm.addW s.at' n))).1.next, .int .u64 (s.number (armE (Nm.addW s.at' n))).1.at', .slice A' (s.number (armE (Nm.addW s.at' n))).1.es.length cap'], .int .u64 (s.number (armE (Nm.addW s.at' n))).2]) ∧ RRes w w' base A (s.number (armE (Nm.addW s.at' n))).1 A' cap' := by
  have hn1 := hok.next1
  have hat := hok.at1
  have hval := arm_valid (Nm.addW s.at' n) s.next hok.next0 (addW_le _ _)
  by_cases hc : closedOf s.es = 0
  · refine (rarm_good base A cap s.es s.next s.at' n (by omega) (by omega) hn0 w h hn hbw hc).mono ?_
    rintro r w' ⟨b', cap', rfl, hb, hbg, hm⟩
    have hN : s.number (armE (Nm.addW s.at' n)) = (⟨s.es ++ [withId (armE (Nm.addW s.at' n)) s.next], 0, s.next + 1, s.at'⟩, s.next) := if_pos ⟨hval, by rw [hok.closed]; exact hc⟩
    rw [hN]
    exact ⟨some ⟨b', 0, none⟩, cap', by simp, hb, hm, .inr (fun r hr => by cases hr; exact hbg)⟩
  · refine (rarm_bad base A cap s.es s.next s.at' n w h hn hbw hc).mono ?_
    rintro r w' ⟨rfl, hb⟩
    have hN : s.number (armE (Nm.addW s.at' n)) = (s, 0) := if_neg (fun q => hc (by rw [← hok.closed]; exact q.2))
    rw [hN]
    exact ⟨A, cap, rfl, hb, h.later hbw hb, .inl rfl⟩

theorem rclose_any (base : Nat) (A : Option Addr) (cap : Nat) (s : BS) (k b : Nat) (hok : SOk s b k) (kd : Int) (hk0 : 9 ≤ kd) (hk1 : kd ≤ 11) (t : VT) (tx : ByteArray) (hval : (closeE kd t tx).valid = t.valid 8) (vk vn : Int) (vf : Nat) (vs : ByteArray) (A' : Option Addr) (m c : Nat) (w : World) (h : MAt w base A cap s.es) (hn : s.es.length ≤ 1000000) (hbw : base ≤ w.heap.size)
    (hs : tx.size ≤ maxLen) (hv : Rep w 0 base t (vCells vk vn vf vs A' m c)) :
    Calls Try.prog 29 #[.agg #[.int .u64 s.next, .int .u64 s.at', .slice A s.es.length cap], .int .i64 kd, vCells vk vn vf vs A' m c, .string tx] w fun r w' =>
      ∃ A' cap', r = .returned (.tuple #[.agg #[.int .u64 (s.fin (closeE kd t tx)).1.next, .int .u64 (s.fin (closeE kd t tx)).1.at', .slice A' (s.fin (closeE kd t tx)).1.es.length cap'], .bool (s.fin (closeE kd t tx)).2]) ∧ RRes w w' base A (s.fin (closeE kd t tx)).1 A' cap' := by
  by_cases hc : closedOf s.es = 0 ∧ t.valid 8 = true
  · refine (rclose_good base A cap s.es s.next s.at' kd (by omega) (by omega) t tx vk vn vf vs A' m c w h hn hbw hs hv hc.1 hc.2).mono ?_
    rintro r w' ⟨b', cap', rfl, hb, hbg, hm⟩
    have hN : s.fin (closeE kd t tx) = (⟨s.es ++ [closeE kd t tx], kd, s.next, s.at'⟩, true) := if_pos ⟨hval.trans hc.2, by rw [hok.closed]; exact hc.1⟩
    rw [hN]
    exact ⟨some ⟨b', 0, none⟩, cap', by simp, hb, hm, .inr (fun r hr => by cases hr; exact hbg)⟩
  · refine (rclose_bad base A cap s.es s.next s.at' kd (by omega) (by omega) t tx vk vn vf vs A' m c w h hn hbw hs hv hc).mono ?_
    rintro r w' ⟨rfl, hb⟩
    have hN : s.fin (closeE kd t tx) = (s, false) := if_neg (fun q => hc ⟨by rw [← hok.closed]; exact q.2, hval.symm.trans q.1⟩)
    rw [hN]
    exact ⟨A, cap, rfl, hb, h.later hbw hb, .inl rfl⟩

theorem closeE_valid_text (k : Int) (hk : k = 10 ∨ k = 11) (s : ByteArray) : (closeE k zeroT s).valid = zeroT.valid 8 := by
  have hz : zeroT.valid 8 = true := by unfold zeroT; rw [Vt.valid_mk]; simp; exact ⟨by decide, rfl⟩
  rw [hz]
  rcases hk with rfl | rfl
  · exact fail_valid s
  · exact panic_valid s
end Cm
end Go.Proofs.Ytpnepnhajpmccaa
