/- Contracts of the builder: the five calls. -/
import Derived.Test.YtpnepnhajpmccaaCwD
import Derived.Test.YtpnepnhajpmccaaNmA
namespace Go.Proofs.Ytpnepnhajpmccaa
open Go.RowKit
set_option linter.unusedVariables false
namespace Cm
variable {X : Nat → Prop}
open Nm (ret_int ret_bool)
open Vt (VT Rep BoxAt below_drew Cloned)
open Ev (EV FieldsOk evCells vCells EBox ERep zeroT)

/-- A builder's state. -/
structure BS where mk ::
  es : List EV
  closed : Int
  next : Nat
  at' : Nat

def BS.number (s : BS) (e : EV) : BS × Nat := if (withId e s.next).valid = true ∧ s.closed = 0 then (⟨s.es ++ [withId e s.next], 0, s.next + 1, s.at'⟩, s.next) else (s, 0)
def BS.fin (s : BS) (e : EV) : BS × Bool := if e.valid = true ∧ s.closed = 0 then (⟨s.es ++ [e], e.k, s.next, s.at'⟩, true) else (s, false)

def BH (X : Nat → Prop) (w : World) (base g : Nat) (A : Option Addr) (s : BS) : Prop := ∃ cap, BAt X w base g A cap s.es s.closed s.next s.at'
def BStep (X : Nat → Prop) (w w' : World) (base g : Nat) (A : Option Addr) (s : BS) : Prop := ∃ A', BH X w' base g A' s ∧ OnlyAt w w' g (rowOf A) ∧ (rowOf A' = rowOf A ∨ ∀ r, rowOf A' = some r → w.heap.size ≤ r)

theorem BH.later {w w' : World} {base g : Nat} {A : Option Addr} {s : BS} (h : BH X w base g A s) (hb : Below w.heap.size w w') : BH X w' base g A s := h.elim fun cap h => ⟨cap, h.later hb⟩
theorem BStep.same {w w' : World} {base g : Nat} {A : Option Addr} {s : BS} (h : BH X w base g A s) (hb : Below w.heap.size w w') : BStep X w w' base g A s := ⟨A, h.later hb, OnlyAt.of_below hb, .inl rfl⟩
theorem BStep.after {w w1 w' : World} {base g : Nat} {A : Option Addr} {s : BS} (hb : Below w.heap.size w w1) (h : BStep X w1 w' base g A s) : BStep X w w' base g A s :=
  let ⟨A', h1, h2, h3⟩ := h
  ⟨A', h1, (OnlyAt.of_below hb).trans h2, h3.imp id (fun k r hr => Nat.le_trans hb.size (k r hr))⟩

/-- The row of a builder lies below. -/
theorem BAt.row_lt {w : World} {base g : Nat} {A : Option Addr} {cap : Nat} {es : List EV} {closed : Int} {next at' : Nat} (h : BAt X w base g A cap es closed next at') {r : Nat} (hr : rowOf A = some r) : r < w.heap.size ∧ base ≤ r := by
  obtain ⟨xs, h1, -, -⟩ := h.rows
  rcases h1.2 with ⟨h2, -⟩ | ⟨r', cp, cur, q1, q0, q3, -⟩
  · rw [← rowOf_own A es.length cap, h2] at hr; cases hr
  · rw [← rowOf_own A es.length cap, q1] at hr
    obtain rfl : r' = r := Option.some.inj hr
    exact ⟨(Array.getElem?_eq_some_iff.1 q3).1, q0⟩

theorem number_any (base g : Nat) (A : Option Addr) (s : BS) (e : EV) (lo hi : Nat) (vk vn : Int) (vf : Nat) (vs : ByteArray) (A' : Option Addr) (m c : Nat) (w : World) (hb : BH X w base g A s) (hl : s.es.length ≤ 1000000) (hbw : base ≤ w.heap.size)
    (hf : FieldsOk e) (hn : s.next + 1 < 18446744073709551616) (hv : Rep w lo hi e.v (vCells vk vn vf vs A' m c)) (hz : hi ≤ w.heap.size) (hg : g < lo ∨ hi ≤ g) (hrr : ∀ r, rowOf A = some r ∨ X r → r < lo ∨ hi ≤ r) (hkk : ¬ (9 ≤ e.k ∧ e.k ≤ 11)) :
    Calls Try.prog 35 #[.pointer (some ⟨g, 0, none⟩), .agg (evCells e vk vn vf vs A' m c)] w fun r w' => r = .returned (.int .u64 (s.number e).2) ∧ BStep X w w' base g A (s.number e).1 := by
  obtain ⟨cap, hb⟩ := hb
  by_cases hc : s.closed = 0
  · cases hgood : (withId e s.next).valid with
    | false =>
      refine (number_bad base g A cap s.es s.closed s.next s.at' e lo hi vk vn vf vs A' m c w hb hf (by omega) hv hz hgood).mono ?_
      rintro r w' ⟨rfl, h⟩
      rw [BS.number, if_neg (by simp [hgood])]
      exact ⟨rfl, .same ⟨cap, hb⟩ h⟩
    | true =>
      rw [hc] at hb
      refine (number_open base g A cap s.es 0 s.next s.at' e lo hi vk vn vf vs A' m c w hb hl hbw hf hn hv hz hg hrr hgood hkk).mono ?_
      rintro r w' ⟨rfl, r', cap', h1, h2, h3⟩
      rw [BS.number, if_pos ⟨hgood, hc⟩]
      exact ⟨rfl, _, ⟨cap', h1⟩, h2, h3.imp (fun h => h.symm) (fun h r hr => by obtain rfl : r' = r := Option.some.inj hr; exact h)⟩
  · rw [BS.number, if_neg (by simp [hc])]
    cases hgood : (withId e s.next).valid with
    | false =>
      refine (number_bad base g A cap s.es s.closed s.next s.at' e lo hi vk vn vf vs A' m c w hb hf (by omega) hv hz hgood).mono ?_
      rintro r w' ⟨rfl, h⟩
      exact ⟨rfl, .same ⟨cap, hb⟩ h⟩
    | true =>
      refine (number_closed base g A cap s.es s.closed hc s.next s.at' e lo hi vk vn vf vs A' m c w hb hf (by omega) hv hz hgood).mono ?_
      rintro r w' ⟨rfl, h⟩
      exact ⟨rfl, .same ⟨cap, hb⟩ h⟩

theorem end_any (base g : Nat) (A : Option Addr) (s : BS) (e : EV) (lo hi : Nat) (vk vn : Int) (vf : Nat) (vs : ByteArray) (A' : Option Addr) (m c : Nat) (w : World) (hb : BH X w base g A s) (hl : s.es.length ≤ 1000000) (hbw : base ≤ w.heap.size)
    (hf : FieldsOk e) (hv : Rep w lo hi e.v (vCells vk vn vf vs A' m c)) (hz : hi ≤ w.heap.size) (hg : g < lo ∨ hi ≤ g) (hrr : ∀ r, rowOf A = some r ∨ X r → r < lo ∨ hi ≤ r) (hkk : 9 ≤ e.k ∧ e.k ≤ 11) :
    Calls Try.prog 37 #[.pointer (some ⟨g, 0, none⟩), .agg (evCells e vk vn vf vs A' m c)] w fun r w' => r = .returned (.bool (s.fin e).2) ∧ BStep X w w' base g A (s.fin e).1 := by
  obtain ⟨cap, hb⟩ := hb
  by_cases hc : s.closed = 0
  · cases hgood : e.valid with
    | false =>
      refine (end_bad base g e lo hi vk vn vf vs A' m c w hf hv hz hgood).mono ?_
      rintro r w' ⟨rfl, h⟩
      rw [BS.fin, if_neg (by simp [hgood])]
      exact ⟨rfl, .same ⟨cap, hb⟩ h⟩
    | true =>
      rw [hc] at hb
      refine (end_open base g A cap s.es s.next s.at' e lo hi vk vn vf vs A' m c w hb hl hbw hf hv hz hg hrr hgood hkk).mono ?_
      rintro r w' ⟨rfl, r', cap', h1, h2, h3⟩
      rw [BS.fin, if_pos ⟨hgood, hc⟩]
      exact ⟨rfl, _, ⟨cap', h1⟩, h2, h3.imp (fun h => h.symm) (fun h r hr => by obtain rfl : r' = r := Option.some.inj hr; exact h)⟩
  · rw [BS.fin, if_neg (by simp [hc])]
    cases hgood : e.valid with
    | false =>
      refine (end_bad base g e lo hi vk vn vf vs A' m c w hf hv hz hgood).mono ?_
      rintro r w' ⟨rfl, h⟩
      exact ⟨rfl, .same ⟨cap, hb⟩ h⟩
    | true =>
      refine (end_closed base g A cap s.es s.closed hc s.next s.at' e lo hi vk vn vf vs A' m c w hb hf hv hz hgood).mono ?_
      rintro r w' ⟨rfl, h⟩
      exact ⟨rfl, .same ⟨cap, hb⟩ h⟩

def schedE (name : ByteArray) (t : VT) : EV := ⟨7, 0, 0, 0, name, ⟨#[]⟩, t⟩
def armE (n : Nat) : EV := ⟨8, 0, 0, n, ⟨#[]⟩, ⟨#[]⟩, zeroT⟩
def complE (t : VT) : EV := ⟨9, 0, 0, 0, ⟨#[]⟩, ⟨#[]⟩, t⟩
def failE (s : ByteArray) : EV := ⟨10, 0, 0, 0, ⟨#[]⟩, shortOf s, zeroT⟩
def panicE (s : ByteArray) : EV := ⟨11, 0, 0, 0, ⟨#[]⟩, shortOf s, zeroT⟩

theorem shortOf_size (s : ByteArray) (hs : s.size ≤ maxLen) : (shortOf s).size ≤ maxLen := by
  unfold shortOf
  split
  · exact hs
  · simp only [maxLen]
    have := ByteArray.size_extract (a := s) (b := 0) (e := 1000)
    omega
theorem sched_ok (name : ByteArray) (t : VT) (hs : name.size ≤ maxLen) : FieldsOk (schedE name t) := by constructor <;> first | exact hs | exact Nat.zero_le _ | simp [schedE]
theorem arm_ok (n : Nat) (hn : n < 18446744073709551616) : FieldsOk (armE n) := by constructor <;> first | exact hn | exact Nat.zero_le _ | simp [armE]
theorem compl_ok (t : VT) : FieldsOk (complE t) := by constructor <;> first | exact Nat.zero_le _ | simp [complE]
theorem fail_ok (s : ByteArray) (hs : s.size ≤ maxLen) : FieldsOk (failE s) := by constructor <;> first | exact shortOf_size s hs | exact Nat.zero_le _ | simp [failE]
theorem panic_ok (s : ByteArray) (hs : s.size ≤ maxLen) : FieldsOk (panicE s) := by constructor <;> first | exact shortOf_size s hs | exact Nat.zero_le _ | simp [panicE]
theorem zero_rep (w : World) : Rep w 0 0 zeroT (vCells 0 0 0 ⟨#[]⟩ none 0 0) := Rep.leaf ⟨by omega, by omega, by omega, by omega, by omega, by decide, by decide⟩

set_option maxHeartbeats 1000000 in
theorem schedule_any (base g : Nat) (A : Option Addr) (s : BS) (name : ByteArray) (t : VT) (lo hi : Nat) (vk vn : Int) (vf : Nat) (vs : ByteArray) (A' : Option Addr) (m c : Nat) (w : World) (hb : BH X w base g A s) (hl : s.es.length ≤ 1000000) (hbw : base ≤ w.heap.size) (hs : name.size ≤ maxLen)
    (hn : s.next + 1 < 18446744073709551616) (hv : Rep w lo hi t (vCells vk vn vf vs A' m c)) (hz : hi ≤ w.heap.size) (hX : ∀ r, X r → r < w.heap.size) (hS : t.Slim 900) :
    Calls Try.prog 19 #[.pointer (some ⟨g, 0, none⟩), .string name, vCells vk vn vf vs A' m c] w fun r w' => r = .returned (.int .u64 (s.number (schedE name t)).2) ∧ BStep X w w' base g A (s.number (schedE name t)).1 := by
  have hC : Hid (∀ W, Below w.heap.size w W → Calls Try.prog 30 #[.agg #[.int .i64 vk, .int .i64 vn, .float .f64 vf, .string vs, .slice A' m c]] W (Cloned t W)) := Lib.hid fun W hW => Vt.clone_any t W lo hi _ (hv.later (hW.mono hz)) (Nat.le_trans hz hW.size) hS
  have hN : Hid (∀ W1 W k n f s' A2 l2 cap2, Below w.heap.size w W1 → Below W1.heap.size W1 W → Rep W W1.heap.size W.heap.size t (.agg #[.int .i64 k, .int .i64 n, .float .f64 f, .string s', .slice A2 l2 cap2]) →
      Calls Try.prog 35 #[.pointer (some ⟨g, 0, none⟩), .agg #[.int .i64 7, .int .u64 0, .int .i64 0, .int .u64 0, .string name, .string ⟨#[]⟩, .int .i64 k, .int .i64 n, .float .f64 f, .string s', .slice A2 l2 cap2]] W
        fun r w' => r = .returned (.int .u64 (s.number (schedE name t)).2) ∧ BStep X W w' base g A (s.number (schedE name t)).1) := Lib.hid fun W1 W k n f s' A2 l2 cap2 h1 h2 hr => by
    have hb0 := hb
    obtain ⟨cap, hb'⟩ := hb0
    have hgl := hb'.lt
    exact number_any base g A s (schedE name t) W1.heap.size W.heap.size k n f s' A2 l2 cap2 W (hb.later (h1.trans (h2.mono h1.size))) hl (by have := h1.size; have := h2.size; omega)
      (sched_ok name t hs) hn hr (Nat.le_refl _) (.inl (by have := h1.size; omega)) (fun r hr => .inl (hr.elim (fun hr => by have := (hb'.row_lt hr).1; have := h1.size; omega) (fun hr => by have := hX r hr; have := h1.size; omega))) (by show ¬ ((9 : Int) ≤ 7 ∧ (7 : Int) ≤ 11); decide)
  have HB0 := Lib.hid fun Z => (Below.refl w.heap.size w).alloc (Nat.le_refl _) Z
  clear hb hv
  unfold vCells
  go_enter Try.func19, Try.ntmps19
  go_wp2_with fail
  refine (hC.out _ (HB0.out _)).mono ?_
  rintro x w2 ⟨k, n, f, s', l, A2, cap2, ht, rfl, hr, hb2, -⟩
  have HN := Lib.hid (hN.out _ _ _ _ _ _ _ _ _ (HB0.out _) hb2 hr)
  have HB2 := Lib.hid ((HB0.out _).trans (hb2.mono (HB0.out _).size))
  clear hr hb2 ht
  go_wp2_with fail
  refine HN.out.mono ?_
  rintro x w3 ⟨rfl, h3⟩
  go_wp2_with fail
  go_ret
  exact ⟨rfl, BStep.after HB2.out h3⟩

set_option maxHeartbeats 1000000 in
theorem complete_any (base g : Nat) (A : Option Addr) (s : BS) (t : VT) (lo hi : Nat) (vk vn : Int) (vf : Nat) (vs : ByteArray) (A' : Option Addr) (m c : Nat) (w : World) (hb : BH X w base g A s) (hl : s.es.length ≤ 1000000) (hbw : base ≤ w.heap.size)
    (hv : Rep w lo hi t (vCells vk vn vf vs A' m c)) (hz : hi ≤ w.heap.size) (hX : ∀ r, X r → r < w.heap.size) (hS : t.Slim 900) :
    Calls Try.prog 21 #[.pointer (some ⟨g, 0, none⟩), vCells vk vn vf vs A' m c] w fun r w' => r = .returned (.bool (s.fin (complE t)).2) ∧ BStep X w w' base g A (s.fin (complE t)).1 := by
  have hC : Hid (∀ W, Below w.heap.size w W → Calls Try.prog 30 #[.agg #[.int .i64 vk, .int .i64 vn, .float .f64 vf, .string vs, .slice A' m c]] W (Cloned t W)) := Lib.hid fun W hW => Vt.clone_any t W lo hi _ (hv.later (hW.mono hz)) (Nat.le_trans hz hW.size) hS
  have hN : Hid (∀ W1 W k n f s' A2 l2 cap2, Below w.heap.size w W1 → Below W1.heap.size W1 W → Rep W W1.heap.size W.heap.size t (.agg #[.int .i64 k, .int .i64 n, .float .f64 f, .string s', .slice A2 l2 cap2]) →
      Calls Try.prog 37 #[.pointer (some ⟨g, 0, none⟩), .agg #[.int .i64 9, .int .u64 0, .int .i64 0, .int .u64 0, .string ⟨#[]⟩, .string ⟨#[]⟩, .int .i64 k, .int .i64 n, .float .f64 f, .string s', .slice A2 l2 cap2]] W
        fun r w' => r = .returned (.bool (s.fin (complE t)).2) ∧ BStep X W w' base g A (s.fin (complE t)).1) := Lib.hid fun W1 W k n f s' A2 l2 cap2 h1 h2 hr => by
    have hb0 := hb
    obtain ⟨cap, hb'⟩ := hb0
    have hgl := hb'.lt
    exact end_any base g A s (complE t) W1.heap.size W.heap.size k n f s' A2 l2 cap2 W (hb.later (h1.trans (h2.mono h1.size))) hl (by have := h1.size; have := h2.size; omega)
      (compl_ok t) hr (Nat.le_refl _) (.inl (by have := h1.size; omega)) (fun r hr => .inl (hr.elim (fun hr => by have := (hb'.row_lt hr).1; have := h1.size; omega) (fun hr => by have := hX r hr; have := h1.size; omega))) (by show (9 : Int) ≤ 9 ∧ (9 : Int) ≤ 11; decide)
  have HB0 := Lib.hid fun Z => (Below.refl w.heap.size w).alloc (Nat.le_refl _) Z
  clear hb hv
  unfold vCells
  go_enter Try.func21, Try.ntmps21
  go_wp2_with fail
  refine (hC.out _ (HB0.out _)).mono ?_
  rintro x w2 ⟨k, n, f, s', l, A2, cap2, ht, rfl, hr, hb2, -⟩
  have HN := Lib.hid (hN.out _ _ _ _ _ _ _ _ _ (HB0.out _) hb2 hr)
  have HB2 := Lib.hid ((HB0.out _).trans (hb2.mono (HB0.out _).size))
  clear hr hb2 ht
  go_wp2_with fail
  refine HN.out.mono ?_
  rintro x w3 ⟨rfl, h3⟩
  go_wp2_with fail
  go_ret
  exact ⟨rfl, BStep.after HB2.out h3⟩

set_option maxHeartbeats 1000000 in
theorem arm_any (base g : Nat) (A : Option Addr) (s : BS) (n : Nat) (hn0 : n < 18446744073709551616) (w : World) (hb : BH X w base g A s) (hl : s.es.length ≤ 1000000) (hbw : base ≤ w.heap.size)
    (hn : s.next + 1 < 18446744073709551616) (ha : s.at' < 18446744073709551616) :
    Calls Try.prog 20 #[.pointer (some ⟨g, 0, none⟩), .int .u64 n] w fun r w' => r = .returned (.int .u64 (s.number (armE (Nm.addW s.at' n))).2) ∧ BStep X w w' base g A (s.number (armE (Nm.addW s.at' n))).1 := by
  have hlt : Nm.addW s.at' n < 18446744073709551616 := by unfold Nm.addW; split <;> omega
  have hA := Lib.hid fun W => Nm.add_any s.at' n ha hn0 W
  have hN : Hid (∀ W, W = w → Calls Try.prog 35 #[.pointer (some ⟨g, 0, none⟩), .agg #[.int .i64 8, .int .u64 0, .int .i64 0, .int .u64 (Nm.addW s.at' n), .string ⟨#[]⟩, .string ⟨#[]⟩, .int .i64 0, .int .i64 0, .float .f64 0, .string ⟨#[]⟩, .slice none 0 0]] W
        fun r w' => r = .returned (.int .u64 (s.number (armE (Nm.addW s.at' n))).2) ∧ BStep X w w' base g A (s.number (armE (Nm.addW s.at' n))).1) := Lib.hid fun W hW => by
    subst hW
    exact number_any base g A s (armE (Nm.addW s.at' n)) 0 0 0 0 0 ⟨#[]⟩ none 0 0 W hb hl hbw
      (arm_ok _ hlt) hn (zero_rep W) (Nat.zero_le _) (.inr (Nat.zero_le _)) (fun r hr => .inr (Nat.zero_le _)) (by show ¬ ((9 : Int) ≤ 8 ∧ (8 : Int) ≤ 11); decide)
  obtain ⟨cap, hb⟩ := hb
  obtain ⟨c0, c1, c2, c3, cf⟩ := hb.cells
  clear cf hb hlt
  go_enter Try.func20, Try.ntmps20
  go_wp2_with fail
  refine (hA.out _).mono ?_
  rintro x w2 ⟨rfl, rfl⟩
  go_wp2_with fail
  refine (hN.out _ rfl).mono ?_
  rintro x w3 ⟨rfl, h3⟩
  go_wp2_with fail
  go_ret
  exact ⟨rfl, h3⟩

set_option maxHeartbeats 1000000 in
theorem fail_any (base g : Nat) (A : Option Addr) (s : BS) (tx : ByteArray) (hs : tx.size ≤ maxLen) (w : World) (hb : BH X w base g A s) (hl : s.es.length ≤ 1000000) (hbw : base ≤ w.heap.size) :
    Calls Try.prog 22 #[.pointer (some ⟨g, 0, none⟩), .string tx] w fun r w' => r = .returned (.bool (s.fin (failE tx)).2) ∧ BStep X w w' base g A (s.fin (failE tx)).1 := by
  have hA := Lib.hid fun W => short_any tx hs W
  have hN : Hid (∀ W, W = w → Calls Try.prog 37 #[.pointer (some ⟨g, 0, none⟩), .agg #[.int .i64 10, .int .u64 0, .int .i64 0, .int .u64 0, .string ⟨#[]⟩, .string (shortOf tx), .int .i64 0, .int .i64 0, .float .f64 0, .string ⟨#[]⟩, .slice none 0 0]] W
        fun r w' => r = .returned (.bool (s.fin (failE tx)).2) ∧ BStep X w w' base g A (s.fin (failE tx)).1) := Lib.hid fun W hW => by
    subst hW
    exact end_any base g A s (failE tx) 0 0 0 0 0 ⟨#[]⟩ none 0 0 W hb hl hbw
      (fail_ok tx hs) (zero_rep W) (Nat.zero_le _) (.inr (Nat.zero_le _)) (fun r hr => .inr (Nat.zero_le _)) (by show (9 : Int) ≤ 10 ∧ (10 : Int) ≤ 11; decide)
  clear hb
  go_enter Try.func22, Try.ntmps22
  go_wp2_with fail
  refine (hA.out _).mono ?_
  rintro x w2 ⟨rfl, rfl⟩
  go_wp2_with fail
  refine (hN.out _ rfl).mono ?_
  rintro x w3 ⟨rfl, h3⟩
  go_wp2_with fail
  go_ret
  exact ⟨rfl, h3⟩

set_option maxHeartbeats 1000000 in
theorem panic_any (base g : Nat) (A : Option Addr) (s : BS) (tx : ByteArray) (hs : tx.size ≤ maxLen) (w : World) (hb : BH X w base g A s) (hl : s.es.length ≤ 1000000) (hbw : base ≤ w.heap.size) :
    Calls Try.prog 23 #[.pointer (some ⟨g, 0, none⟩), .string tx] w fun r w' => r = .returned (.bool (s.fin (panicE tx)).2) ∧ BStep X w w' base g A (s.fin (panicE tx)).1 := by
  have hA := Lib.hid fun W => short_any tx hs W
  have hN : Hid (∀ W, W = w → Calls Try.prog 37 #[.pointer (some ⟨g, 0, none⟩), .agg #[.int .i64 11, .int .u64 0, .int .i64 0, .int .u64 0, .string ⟨#[]⟩, .string (shortOf tx), .int .i64 0, .int .i64 0, .float .f64 0, .string ⟨#[]⟩, .slice none 0 0]] W
        fun r w' => r = .returned (.bool (s.fin (panicE tx)).2) ∧ BStep X w w' base g A (s.fin (panicE tx)).1) := Lib.hid fun W hW => by
    subst hW
    exact end_any base g A s (panicE tx) 0 0 0 0 0 ⟨#[]⟩ none 0 0 W hb hl hbw
      (panic_ok tx hs) (zero_rep W) (Nat.zero_le _) (.inr (Nat.zero_le _)) (fun r hr => .inr (Nat.zero_le _)) (by show (9 : Int) ≤ 11 ∧ (11 : Int) ≤ 11; decide)
  clear hb
  go_enter Try.func23, Try.ntmps23
  go_wp2_with fail
  refine (hA.out _).mono ?_
  rintro x w2 ⟨rfl, rfl⟩
  go_wp2_with fail
  refine (hN.out _ rfl).mono ?_
  rintro x w3 ⟨rfl, h3⟩
  go_wp2_with fail
  go_ret
  exact ⟨rfl, h3⟩

/-! ### Of a nil builder -/
theorem schedule_nil (name : ByteArray) (vk vn : Int) (vf : Nat) (vs : ByteArray) (A' : Option Addr) (m c : Nat) (w : World) :
    Calls Try.prog 19 #[.pointer none, .string name, vCells vk vn vf vs A' m c] w fun r w' => r = .returned (.int .u64 0) ∧ Below w.heap.size w w' := by
  unfold vCells
  go_enter Try.func19, Try.ntmps19
  go_wp2_with fail
  go_ret
  exact ⟨rfl, (Below.refl _ _).alloc (Nat.le_refl _) _⟩
theorem arm_nil (n : Nat) (w : World) :
    Calls Try.prog 20 #[.pointer none, .int .u64 n] w fun r w' => r = .returned (.int .u64 0) ∧ w' = w := by
  go_enter Try.func20, Try.ntmps20
  go_wp2_with fail
  go_ret
  exact ⟨rfl, rfl⟩
theorem complete_nil (t : VT) (lo hi : Nat) (vk vn : Int) (vf : Nat) (vs : ByteArray) (A' : Option Addr) (m c : Nat) (w : World) (hv : Rep w lo hi t (vCells vk vn vf vs A' m c)) (hz : hi ≤ w.heap.size) (hS : t.Slim 900) :
    Calls Try.prog 21 #[.pointer none, vCells vk vn vf vs A' m c] w fun r w' => r = .returned (.bool false) ∧ Below w.heap.size w w' := by
  have hC : Hid (∀ W, Below w.heap.size w W → Calls Try.prog 30 #[.agg #[.int .i64 vk, .int .i64 vn, .float .f64 vf, .string vs, .slice A' m c]] W (Cloned t W)) := Lib.hid fun W hW => Vt.clone_any t W lo hi _ (hv.later (hW.mono hz)) (Nat.le_trans hz hW.size) hS
  have hN : Hid (∀ W k n f s' A2 l2 cap2, Calls Try.prog 37 #[.pointer none, .agg #[.int .i64 9, .int .u64 0, .int .i64 0, .int .u64 0, .string ⟨#[]⟩, .string ⟨#[]⟩, .int .i64 k, .int .i64 n, .float .f64 f, .string s', .slice A2 l2 cap2]] W
        fun r w' => r = .returned (.bool false) ∧ Below W.heap.size W w') := Lib.hid fun W k n f s' A2 l2 cap2 => end_nil #[] (complE t) k n f s' A2 l2 cap2 W
  have HB0 := Lib.hid fun Z => (Below.refl w.heap.size w).alloc (Nat.le_refl _) Z
  clear hv
  unfold vCells
  go_enter Try.func21, Try.ntmps21
  go_wp2_with fail
  refine (hC.out _ (HB0.out _)).mono ?_
  rintro x w2 ⟨k, n, f, s', l, A2, cap2, ht, rfl, hr, hb2, -⟩
  have HB2 := Lib.hid ((HB0.out _).trans (hb2.mono (HB0.out _).size))
  clear hr hb2 ht
  go_wp2_with fail
  refine (hN.out _ _ _ _ _ _ _ _).mono ?_
  rintro x w3 ⟨rfl, h3⟩
  go_wp2_with fail
  go_ret
  exact ⟨rfl, HB2.out.trans (h3.mono HB2.out.size)⟩
theorem fail_nil (tx : ByteArray) (hs : tx.size ≤ maxLen) (w : World) :
    Calls Try.prog 22 #[.pointer none, .string tx] w fun r w' => r = .returned (.bool false) ∧ Below w.heap.size w w' := by
  have hA := Lib.hid fun W => short_any tx hs W
  have hN : Hid (∀ W, Calls Try.prog 37 #[.pointer none, .agg #[.int .i64 10, .int .u64 0, .int .i64 0, .int .u64 0, .string ⟨#[]⟩, .string (shortOf tx), .int .i64 0, .int .i64 0, .float .f64 0, .string ⟨#[]⟩, .slice none 0 0]] W
        fun r w' => r = .returned (.bool false) ∧ Below W.heap.size W w') := Lib.hid fun W => end_nil #[] (failE tx) 0 0 0 ⟨#[]⟩ none 0 0 W
  go_enter Try.func22, Try.ntmps22
  go_wp2_with fail
  refine (hA.out _).mono ?_
  rintro x w2 ⟨rfl, rfl⟩
  go_wp2_with fail
  refine (hN.out _).mono ?_
  rintro x w3 ⟨rfl, h3⟩
  go_wp2_with fail
  go_ret
  exact ⟨rfl, h3⟩
theorem panic_nil (tx : ByteArray) (hs : tx.size ≤ maxLen) (w : World) :
    Calls Try.prog 23 #[.pointer none, .string tx] w fun r w' => r = .returned (.bool false) ∧ Below w.heap.size w w' := by
  have hA := Lib.hid fun W => short_any tx hs W
  have hN : Hid (∀ W, Calls Try.prog 37 #[.pointer none, .agg #[.int .i64 11, .int .u64 0, .int .i64 0, .int .u64 0, .string ⟨#[]⟩, .string (shortOf tx), .int .i64 0, .int .i64 0, .float .f64 0, .string ⟨#[]⟩, .slice none 0 0]] W
        fun r w' => r = .returned (.bool false) ∧ Below W.heap.size W w') := Lib.hid fun W => end_nil #[] (panicE tx) 0 0 0 ⟨#[]⟩ none 0 0 W
  go_enter Try.func23, Try.ntmps23
  go_wp2_with fail
  refine (hA.out _).mono ?_
  rintro x w2 ⟨rfl, rfl⟩
  go_wp2_with fail
  refine (hN.out _).mono ?_
  rintro x w3 ⟨rfl, h3⟩
  go_wp2_with fail
  go_ret
  exact ⟨rfl, h3⟩
end Cm
end Go.Proofs.Ytpnepnhajpmccaa
