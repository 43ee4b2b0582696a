/- Contracts of the builder: the five calls. -/
import Derived.Test.YtpneejlilgepfaaCwD
import Derived.Test.YtpneejlilgepfaaNmA
namespace Go.Proofs.Ytpneejlilgepfaa
open Go.RowKit
set_option linter.unusedVariables false
namespace Cm
variable {X : Nat → Prop}
open Nm (ret_int ret_bool)
open Vt (VT Rep BoxAt below_drew Cloned)
open Ev (EV FieldsOk evCells vCells EBox ERep zeroT)

/-- A builder's state. -/
structure BS where mk ::
  es : List EV
  closed : Int
  next : Nat
  at' : Nat

def BS.number (s : BS) (e : EV) : BS × Nat := if (withId e s.next).valid = true ∧ s.closed = 0 then (⟨s.es ++ [withId e s.next], 0, s.next + 1, s.at'⟩, s.next) else (s, 0)
def BS.fin (s : BS) (e : EV) : BS × Bool := if e.valid = true ∧ s.closed = 0 then (⟨s.es ++ [e], e.k, s.next, s.at'⟩, true) else (s, false)

def schedE (name : ByteArray) (t : VT) : EV := ⟨7, 0, 0, 0, name, ⟨#[]⟩, t⟩
def armE (n : Nat) : EV := ⟨8, 0, 0, n, ⟨#[]⟩, ⟨#[]⟩, zeroT⟩
def complE (t : VT) : EV := ⟨9, 0, 0, 0, ⟨#[]⟩, ⟨#[]⟩, t⟩
def failE (s : ByteArray) : EV := ⟨10, 0, 0, 0, ⟨#[]⟩, shortOf s, zeroT⟩
def panicE (s : ByteArray) : EV := ⟨11, 0, 0, 0, ⟨#[]⟩, shortOf s, zeroT⟩

theorem shortOf_size (s : ByteArray) (hs : s.size ≤ maxLen) : (shortOf s).size ≤ maxLen := by
  unfold shortOf
  split
  · exact hs
  · simp only [maxLen]
    have := ByteArray.size_extract (a := s) (b := 0) (e := 1000)
    omega
theorem sched_ok (name : ByteArray) (t : VT) (hs : name.size ≤ maxLen) : FieldsOk (schedE name t) := by constructor <;> first | exact hs | exact Nat.zero_le _ | simp [schedE]
theorem arm_ok (n : Nat) (hn : n < 18446744073709551616) : FieldsOk (armE n) := by constructor <;> first | exact hn | exact Nat.zero_le _ | simp [armE]
theorem compl_ok (t : VT) : FieldsOk (complE t) := by constructor <;> first | exact Nat.zero_le _ | simp [complE]
theorem fail_ok (s : ByteArray) (hs : s.size ≤ maxLen) : FieldsOk (failE s) := by constructor <;> first | exact shortOf_size s hs | exact Nat.zero_le _ | simp [failE]
theorem panic_ok (s : ByteArray) (hs : s.size ≤ maxLen) : FieldsOk (panicE s) := by constructor <;> first | exact shortOf_size s hs | exact Nat.zero_le _ | simp [panicE]
theorem zero_rep (w : World) : Rep w 0 0 zeroT (vCells 0 0 0 ⟨#[]⟩ none 0 0) := Rep.leaf ⟨by omega, by omega, by omega, by omega, by omega, by decide, by decide⟩

/-! ### Of a nil builder -/
end Cm
end Go.Proofs.Ytpneejlilgepfaa
