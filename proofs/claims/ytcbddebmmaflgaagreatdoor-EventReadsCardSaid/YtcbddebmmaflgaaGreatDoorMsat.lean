/- bin.Int of any number; the forms of a number with a sign, of a text, of a float. -/
/- value.form of a value whose kind's bytes are known; a list's bytes; value.Bytes of any valid value that is small. -/
/- Forms of events: event.Bytes of any valid small event; no form is the beginning of another. -/
import Derived.Test.YtcbddebmmaflgaaGreatDoorMsao
import Derived.Test.YtcbddebmmaflgaaGreatDoorMsar
import Derived.Laws.Bits64
import Derived.Test.YtcbddebmmaflgaaGreatDoorMsag
import Derived.Test.YtcbddebmmaflgaaGreatDoorMsap
import Derived.Test.YtcbddebmmaflgaaGreatDoorMsak
namespace Go.Proofs.YtcbddebmmaflgaaGreatDoor
open Go.RowKit
set_option linter.unusedVariables false
set_option linter.unusedSimpArgs false
namespace Vf
open _root_.Go.Proofs.YtcbddebmmaflgaaGreatDoor.Nm (bitsW bits_any ret_int ret_bool)
open Bt (BOwn BIn ubytes sb uint_any btext_any bown_nil wpList_append_bytes bv)
open Pf (zz be8 sform)
open Vt (VT Rep BoxAt below_drew KidsAt HeadOk)

/-- What a kind's method leaves. -/
def KB (w : World) (l : List Nat) (r : Ending) (w' : World) : Prop := ∃ v, r = .returned v ∧ BOwn w' w.heap.size v l ∧ Below w.heap.size w w'

end Vf
end Go.Proofs.YtcbddebmmaflgaaGreatDoor
namespace Go.Proofs.YtcbddebmmaflgaaGreatDoor
open Go.RowKit
set_option linter.unusedVariables false
set_option linter.unusedSimpArgs false
namespace Vf
open _root_.Go.Proofs.YtcbddebmmaflgaaGreatDoor.Nm (bitsW bits_any ret_int ret_bool)
open Bt (BOwn BIn ubytes sb uint_any btext_any bown_nil wpList_append_bytes step_append_bytes bv)
open Pf (zz be8 sform)
open Vt (VT Rep BoxAt below_drew KidsAt HeadOk kindV of_any)
open Ev (take_drop cons_drop)

/-- What a kind's method leaves, as bytes that can be read. -/
def KI (w : World) (l : List Nat) (r : Ending) (w' : World) : Prop := ∃ v, r = .returned v ∧ BIn w' v l ∧ Below w.heap.size w w'
theorem none_bytes (k n : Int) (f : Nat) (s : ByteArray) (A : Option Addr) (m c : Nat) (w : World) :
    Calls Tryz.prog 186 #[.agg #[], .agg #[.int .i64 k, .int .i64 n, .float .f64 f, .string s, .slice A m c]] w (KI w []) := by
  go_enter Tryz.func186, Tryz.ntmps186
  go_wp2_with fail
  go_ret
  exact ⟨_, rfl, .inl ⟨rfl, rfl⟩, ((Below.refl _ _).alloc (Nat.le_refl _) _).alloc (by simp) _⟩

end Vf
end Go.Proofs.YtcbddebmmaflgaaGreatDoor
namespace Go.Proofs.YtcbddebmmaflgaaGreatDoor
open Go.RowKit
set_option linter.unusedVariables false
set_option linter.unusedSimpArgs false
namespace Vf
open _root_.Go.Proofs.YtcbddebmmaflgaaGreatDoor.Nm (bitsW ret_int ret_bool)
open Bt (BOwn BIn ubytes sb uint_any sel ebytes_walk)
open Pf (zz be8 sform size_zero)
open Vt (VT Rep BoxAt below_drew KidsAt HeadOk)
open Ev (EV FieldsOk evCells vCells EBox ERep zeroT fieldsOf nameOf of_in evalid_any goodL pickB)
open Cm (evSame)

/-- Which fields an event's kind has. -/
def hasF (e : EV) (j : Nat) : Bool := (fieldsOf e.k.toNat).contains j
/-- The form of a valid event. -/
def eform (e : EV) : List Nat := [1] ++ ubytes 10 e.k.toNat ++ sel [hasF e 0, hasF e 1, hasF e 2, hasF e 3, hasF e 4, hasF e 5] [ubytes 10 e.id, ubytes 10 e.n.toNat, ubytes 10 e.at', sform e.name, sform e.text, Pf.VT.form e.v] 6

/-- What is valid. -/
structure VE (e : EV) : Prop where
  k1 : 1 ≤ e.k
  k2 : e.k ≤ 11
  i0 : hasF e 0 = false → e.id = 0
  i1 : hasF e 0 = true → 0 < e.id
  n0 : hasF e 1 = false → e.n = 0
  n1 : 0 ≤ e.n
  n2 : e.n ≤ 2147483647
  n3 : hasF e 1 = true → 1 ≤ e.n
  a0 : hasF e 2 = false → e.at' = 0
  a1 : e.at' ≤ 9223372036854775807
  s0 : hasF e 3 = false → e.name = ⟨#[]⟩
  s1 : e.name.size ≤ 1000
  s2 : hasF e 3 = true → e.name.toList.isEmpty = false
  t0 : hasF e 4 = false → e.text = ⟨#[]⟩
  t1 : e.text.size ≤ 1000
  v0 : hasF e 5 = false → e.v.same zeroT = true
  v1 : e.v.valid 8 = true

theorem toList_nil {s : ByteArray} (h : s.toList.isEmpty = true) : s = ⟨#[]⟩ := by
  rw [Vt.toList_data] at h
  cases s with | mk d => simp at h; rw [h]
theorem zero_val : zeroT.valid 8 = true := by unfold zeroT; rw [Vt.valid_mk]; simp; decide
theorem ve_of {e : EV} (h : e.valid = true) : VE e := by
  unfold EV.valid goodL at h
  simp only [Bool.and_eq_true, decide_eq_true_iff, List.all_cons, List.all_nil, Bool.and_true] at h
  obtain ⟨⟨k1, k2⟩, h0, h1, h2, h3, h4, h5⟩ := h
  have pick : ∀ {b f z : Bool}, pickB b f z = true → (b = true → f = true) ∧ (b = false → z = true) := fun {b f z} hh => by
    unfold pickB at hh
    cases b with
    | true => rw [if_pos rfl] at hh; exact ⟨fun _ => hh, fun h => Bool.noConfusion h⟩
    | false => rw [if_neg (by simp)] at hh; exact ⟨fun h => Bool.noConfusion h, fun _ => hh⟩
  obtain ⟨p0, q0⟩ := pick h0
  obtain ⟨p1, q1⟩ := pick h1
  obtain ⟨p2, q2⟩ := pick h2
  obtain ⟨p3, q3⟩ := pick h3
  obtain ⟨p4, q4⟩ := pick h4
  obtain ⟨p5, q5⟩ := pick h5
  have e1 : ∀ b : Bool, b = true ∨ b = false := fun b => by cases b <;> simp
  have fn : ∀ h : hasF e 1 = false, e.n = 0 := fun h => by have := q1 h; simpa using this
  have tn : ∀ h : hasF e 1 = true, 1 ≤ e.n ∧ e.n ≤ 2147483647 := fun h => by have := p1 h; simpa using this
  have fs : ∀ h : hasF e 3 = false, e.name = ⟨#[]⟩ := fun h => toList_nil (q3 h)
  have ts : ∀ h : hasF e 3 = true, e.name.toList.isEmpty = false ∧ e.name.size ≤ 1000 := fun h => by
    have := p3 h
    simp only [Bool.and_eq_true, Bool.not_eq_true', decide_eq_true_iff] at this
    exact this
  have ft : ∀ h : hasF e 4 = false, e.text = ⟨#[]⟩ := fun h => toList_nil (q4 h)
  refine ⟨k1, k2, fun h => by have := q0 h; simpa using this, fun h => by have := p0 h; simpa using this, fn, ?_, ?_, fun h => (tn h).1, fun h => by have := q2 h; simpa using this, ?_, fs, ?_, fun h => (ts h).1, ft, ?_, fun h => q5 h, ?_⟩
  · rcases e1 (hasF e 1) with h | h
    · have := tn h; omega
    · rw [fn h]; omega
  · rcases e1 (hasF e 1) with h | h
    · exact (tn h).2
    · rw [fn h]; omega
  · rcases e1 (hasF e 2) with h | h
    · have := p2 h; simpa using this
    · have : e.at' = 0 := by have := q2 h; simpa using this
      omega
  · rcases e1 (hasF e 3) with h | h
    · exact (ts h).2
    · rw [fs h]; decide
  · rcases e1 (hasF e 4) with h | h
    · have := p4 h; simpa using this
    · rw [ft h]; decide
  · rcases e1 (hasF e 5) with h | h
    · exact p5 h
    · rw [Vt.same_valid e.v zeroT 8 (q5 h)]; exact zero_val

theorem sel6 (b0 b1 b2 b3 b4 b5 : Bool) (p0 p1 p2 p3 p4 p5 : List Nat) : sel [b0, b1, b2, b3, b4, b5] [p0, p1, p2, p3, p4, p5] 6 = (if b0 then p0 else []) ++ ((if b1 then p1 else []) ++ ((if b2 then p2 else []) ++ ((if b3 then p3 else []) ++ ((if b4 then p4 else []) ++ (if b5 then p5 else []))))) := by simp [sel]
end Vf
end Go.Proofs.YtcbddebmmaflgaaGreatDoor
