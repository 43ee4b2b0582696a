/- Contract of the builder: number. -/
/- Contracts of the builder: end, short, New, Next, Closed. -/
/- Contracts of the builder: the five calls. -/
import Derived.Test.YtpneejlilgepfaaGreatDoorMbai
import Derived.Deep.RegionWith
import Derived.Laws.EntriesVeiled
import Derived.Test.YtpneejlilgepfaaGreatDoorMbab
namespace Go.Proofs.YtpneejlilgepfaaGreatDoor
open Go.RowKit
set_option linter.unusedVariables false
namespace Cm
variable {X : Nat → Prop}
open Nm (ret_int ret_bool)
open Vt (VT Rep BoxAt below_drew)
open Ev (EV FieldsOk evCells vCells EBox ERep)

section
variable {P : Program} {ops : Array Oper} {Q : Exit → Act → World → Prop} {md : Region.Mode}
theorem takeA {i : Nat} {oi : Oper} {rest : List Oper} {v : Value} {fuel : Nat} {listed : Array Bool} {a : Act} {w : World} (hi : ops.toList.drop i = oi :: rest)
    (hs : Region.noSelect ops = true) (hf : Region.free md ops listed i = true) (hr : (Region.ready md ops listed).contains i = true)
    (hQ : ∀ c a w, Q (.panic c) (a.put oi.dst v) w → Q (.panic c) a w) (hy : Yields P ops oi v a)
    (h : wpAny P md ops Q fuel (listed.setIfInBounds i true) (a.put oi.dst v) w) : wpAny P md ops Q (fuel + 1) listed a w :=
  wpAny_take (Ev.drop_get hi) hs hf hr hQ hy h
theorem consA {fuel : Nat} {listed : Array Bool} {a : Act} {w : World} {i : Nat} {o : Oper} {rest : List Oper} {rs : List Nat} (ho : ops.toList.drop i = o :: rest)
    (h : ∀ K' : Act → World → Prop, (∀ a w, wpAny P md ops Q fuel (listed.setIfInBounds i true) a w → K' a w) → if Region.wanted o (yielded ops a.tmps) = true then Oper.wp P o a w K' Q else K' (a.put o.dst undef) w)
    (hs : AllReady P md ops Q fuel listed a w rs) : AllReady P md ops Q fuel listed a w (i :: rs) := AllReady.cons (Ev.drop_get ho) h hs
end

def withId (e : EV) (n : Nat) : EV := { e with id := n }

/-- event.Valid of an event whose value lies below. -/
theorem evalid_later (e : EV) (w : World) (lo hi : Nat) (vk vn : Int) (vf : Nat) (vs : ByteArray) (A' : Option Addr) (m c : Nat) (hf : FieldsOk e) (hv : Rep w lo hi e.v (vCells vk vn vf vs A' m c)) (hz : hi ≤ w.heap.size) (W : World) (hW : Below w.heap.size w W) :
    Calls Tryz.prog 23 #[.agg (evCells e vk vn vf vs A' m c)] W fun r w' => r = .returned (.bool e.valid) ∧ Below W.heap.size W w' :=
  Ev.evalid_any e W lo hi _ ⟨hf, vk, vn, vf, vs, A', m, c, rfl, hv.later (hW.mono hz)⟩ (Nat.le_trans hz hW.size)

end Cm
end Go.Proofs.YtpneejlilgepfaaGreatDoor
namespace Go.Proofs.YtpneejlilgepfaaGreatDoor
open Go.RowKit
set_option linter.unusedVariables false
namespace Cm
variable {X : Nat → Prop}
open Nm (ret_int ret_bool)
open Vt (VT Rep BoxAt below_drew)
open Ev (EV FieldsOk evCells vCells EBox ERep)

def shortOf (s : ByteArray) : ByteArray := if s.size ≤ 1000 then s else s.extract 0 1000

end Cm
end Go.Proofs.YtpneejlilgepfaaGreatDoor
namespace Go.Proofs.YtpneejlilgepfaaGreatDoor
open Go.RowKit
set_option linter.unusedVariables false
namespace Cm
variable {X : Nat → Prop}
open Nm (ret_int ret_bool)
open Vt (VT Rep BoxAt below_drew Cloned)
open Ev (EV FieldsOk evCells vCells EBox ERep zeroT)

/-- A builder's state. -/
structure BS where mk ::
  es : List EV
  closed : Int
  next : Nat
  at' : Nat

def BS.number (s : BS) (e : EV) : BS × Nat := if (withId e s.next).valid = true ∧ s.closed = 0 then (⟨s.es ++ [withId e s.next], 0, s.next + 1, s.at'⟩, s.next) else (s, 0)
def BS.fin (s : BS) (e : EV) : BS × Bool := if e.valid = true ∧ s.closed = 0 then (⟨s.es ++ [e], e.k, s.next, s.at'⟩, true) else (s, false)

def schedE (name : ByteArray) (t : VT) : EV := ⟨7, 0, 0, 0, name, ⟨#[]⟩, t⟩
def armE (n : Nat) : EV := ⟨8, 0, 0, n, ⟨#[]⟩, ⟨#[]⟩, zeroT⟩
def complE (t : VT) : EV := ⟨9, 0, 0, 0, ⟨#[]⟩, ⟨#[]⟩, t⟩
def failE (s : ByteArray) : EV := ⟨10, 0, 0, 0, ⟨#[]⟩, shortOf s, zeroT⟩
def panicE (s : ByteArray) : EV := ⟨11, 0, 0, 0, ⟨#[]⟩, shortOf s, zeroT⟩

theorem shortOf_size (s : ByteArray) (hs : s.size ≤ maxLen) : (shortOf s).size ≤ maxLen := by
  unfold shortOf
  split
  · exact hs
  · simp only [maxLen]
    have := ByteArray.size_extract (a := s) (b := 0) (e := 1000)
    omega
theorem sched_ok (name : ByteArray) (t : VT) (hs : name.size ≤ maxLen) : FieldsOk (schedE name t) := by constructor <;> first | exact hs | exact Nat.zero_le _ | simp [schedE]
theorem arm_ok (n : Nat) (hn : n < 18446744073709551616) : FieldsOk (armE n) := by constructor <;> first | exact hn | exact Nat.zero_le _ | simp [armE]
theorem compl_ok (t : VT) : FieldsOk (complE t) := by constructor <;> first | exact Nat.zero_le _ | simp [complE]
theorem fail_ok (s : ByteArray) (hs : s.size ≤ maxLen) : FieldsOk (failE s) := by constructor <;> first | exact shortOf_size s hs | exact Nat.zero_le _ | simp [failE]
theorem panic_ok (s : ByteArray) (hs : s.size ≤ maxLen) : FieldsOk (panicE s) := by constructor <;> first | exact shortOf_size s hs | exact Nat.zero_le _ | simp [panicE]
theorem zero_rep (w : World) : Rep w 0 0 zeroT (vCells 0 0 0 ⟨#[]⟩ none 0 0) := Rep.leaf ⟨by omega, by omega, by omega, by omega, by omega, by decide, by decide⟩

/-! ### Of a nil builder -/
end Cm
end Go.Proofs.YtpneejlilgepfaaGreatDoor
