/- Contracts of the builder: the five calls. -/
/- Contract of the builder's Events. -/
import Derived.Test.YtcbddebmmaflgaaGreatMqai
import Derived.Test.YtcbddebmmaflgaaGreatMqab
import Derived.Test.YtcbddebmmaflgaaGreatMqaf
namespace Go.Proofs.YtcbddebmmaflgaaGreat
open Go.RowKit
set_option linter.unusedVariables false
namespace Cm
variable {X : Nat → Prop}
open Nm (ret_int ret_bool)
open Vt (VT Rep BoxAt below_drew)
open Ev (EV FieldsOk evCells vCells EBox ERep zeroT)

/-- A builder's state. -/
structure BS where mk ::
  es : List EV
  closed : Int
  next : Nat
  at' : Nat

def BS.number (s : BS) (e : EV) : BS × Nat := if (withId e s.next).valid = true ∧ s.closed = 0 then (⟨s.es ++ [withId e s.next], 0, s.next + 1, s.at'⟩, s.next) else (s, 0)
def BS.fin (s : BS) (e : EV) : BS × Bool := if e.valid = true ∧ s.closed = 0 then (⟨s.es ++ [e], e.k, s.next, s.at'⟩, true) else (s, false)

/-! ### Of a nil builder -/
end Cm
end Go.Proofs.YtcbddebmmaflgaaGreat
namespace Go.Proofs.YtcbddebmmaflgaaGreat
open Go.RowKit
set_option linter.unusedVariables false
namespace Cm
variable {X : Nat → Prop}
open Nm (ret_int ret_bool)
open Vt (VT Rep BoxAt below_drew put5)
open Ev (EV FieldsOk evCells vCells EBox ERep zeroT)

/-- Element i of a row of events that own their memory behind base. -/
def EvNew (w : World) (base : Nat) (ro : Option Nat) (xs : List Value) (i : Nat) (e : EV) : Prop := ∃ lo hi vk vn vf vs A m c, base ≤ lo ∧ FieldsOk e ∧ Rep w lo hi e.v (vCells vk vn vf vs A m c) ∧ hi ≤ w.heap.size ∧ (∀ r, ro = some r → r < lo ∨ hi ≤ r) ∧ (0 < e.v.l.length → ∀ b off, A = some ⟨b, off, none⟩ → ∀ o, w.frozen? ⟨b, o, none⟩ = false) ∧
  ∀ j, j < 11 → xs[i * 11 + j]? = (evCells e vk vn vf vs A m c)[j]?
def EvsAt (w : World) (base : Nat) (A : Option Addr) (cap n : Nat) (es : List EV) : Prop := es.length = n ∧ ∃ xs, w.ownsRow base 44 11 (.slice A n cap) n xs ∧ ∀ i (h : i < es.length), EvNew w base (rowOf A) xs i es[i]

theorem frozen_of_block {w w' : World} {b : Nat} (h : w'.heap[b]? = w.heap[b]?) (o : Nat) : w'.frozen? ⟨b, o, none⟩ = w.frozen? ⟨b, o, none⟩ := by simp [World.frozen?, h]

/-- Where the list of a value lies. -/
theorem rep_row {w : World} {lo hi : Nat} {t : VT} {vk vn : Int} {vf : Nat} {vs : ByteArray} {A : Option Addr} {m c : Nat} (h : Rep w lo hi t (vCells vk vn vf vs A m c)) : 0 < t.l.length → ∀ b off, A = some ⟨b, off, none⟩ → lo ≤ b ∧ b < hi := by
  intro hp b off hA
  obtain ⟨k, n, f, s, l, A', cap, rfl, hv, -, -, hk⟩ := h.open_
  injection hv with hv
  simp at hv
  obtain ⟨-, -, -, -, rfl, -, -⟩ := hv
  obtain ⟨b', off', hA', h1, h2, -⟩ := hk.at_ hp
  rw [hA] at hA'
  injection hA' with hA'
  injection hA' with hb _ _
  subst hb
  exact ⟨h1, h2⟩

theorem EvNew.keep {w w' : World} {base : Nat} {ro : Option Nat} {xs : List Value} {i : Nat} {e : EV} (h : EvNew w base ro xs i e) (hz : w.heap.size ≤ w'.heap.size) (ho : ∀ b, b < w.heap.size → some b ≠ ro → w'.heap[b]? = w.heap[b]?) : EvNew w' base ro xs i e := by
  obtain ⟨lo, hi, vk, vn, vf, vs, A, m, c, h0, h1, h2, h3, h5, hfr, h6⟩ := h
  have hin := rep_row h2
  refine ⟨lo, hi, vk, vn, vf, vs, A, m, c, h0, h1, h2.keep fun b o hb1 hb2 => ?_, Nat.le_trans h3 hz, h5, fun hp b off hA o => ?_, h6⟩
  · exact World.cell?_of_block (a := ⟨b, o, none⟩) (ho b (by omega) (fun e => by have := h5 b e.symm; omega))
  · obtain ⟨q1, q2⟩ := hin hp b off hA
    exact (frozen_of_block (ho b (by omega) (fun e => by have := h5 b e.symm; omega)) o).trans (hfr hp b off hA o)

theorem EvsAt.later {w w' : World} {base : Nat} {A : Option Addr} {cap n : Nat} {es : List EV} (h : EvsAt w base A cap n es) (hb : Below w.heap.size w w') : EvsAt w' base A cap n es := by
  obtain ⟨h0, xs, h1, h3⟩ := h
  refine ⟨h0, xs, ⟨h1.1, ?_⟩, fun i hi => (h3 i hi).keep hb.size (fun b hlt _ => hb.block b hlt)⟩
  rcases h1.2 with h | ⟨r, cp, cur, q1, q2, q3, q4⟩
  · exact .inl h
  · exact .inr ⟨r, cp, cur, q1, q2, (hb.block r (Array.getElem?_eq_some_iff.1 q3).1).trans q3, q4⟩

end Cm
end Go.Proofs.YtcbddebmmaflgaaGreat
