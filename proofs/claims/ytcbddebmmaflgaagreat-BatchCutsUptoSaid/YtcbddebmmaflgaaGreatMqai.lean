/- A builder of commands and how it lies. -/
/- Contract of the builder's list: add. -/
/- Contract of the builder: number. -/
/- Contracts of the builder: end, short, New, Next, Closed. -/
import Derived.Test.YtcbddebmmaflgaaGreatMqah
import Derived.Test.YtcbddebmmaflgaaGreatMqaf
import Derived.Deep.RegionLaw
import Derived.Deep.AppendLies
import Derived.Deep.RegionWith
import Derived.Laws.EntriesVeiled
namespace Go.Proofs.YtcbddebmmaflgaaGreat
open Go.RowKit
set_option linter.unusedVariables false
namespace Cm
variable {X : Nat → Prop}
open Nm (ret_int ret_bool)
open Vt (VT Rep BoxAt below_drew)
open Ev (EV FieldsOk evCells vCells EBox)

theorem Tryz.infoE : (Tryz.prog.info? 44).map (fun i => (i.zero, i.size, i.bytes)) = some (some (.agg #[.int .i64 0, .int .u64 0, .int .i64 0, .int .u64 0, .string ⟨#[]⟩, .string ⟨#[]⟩, .int .i64 0, .int .i64 0, .float .f64 0, .string ⟨#[]⟩, .slice none 0 0]), 11, 128) := by kernel_rfl

/-- Element i of a row of events; its value lies apart from the blocks g and ro. -/
def EvCell (X : Nat → Prop) (w : World) (g : Nat) (ro : Option Nat) (xs : List Value) (i : Nat) (e : EV) : Prop := ∃ lo hi vk vn vf vs A m c, FieldsOk e ∧ Rep w lo hi e.v (vCells vk vn vf vs A m c) ∧ hi ≤ w.heap.size ∧ (g < lo ∨ hi ≤ g) ∧ (∀ r, ro = some r ∨ X r → r < lo ∨ hi ≤ r) ∧
  ∀ j, j < 11 → xs[i * 11 + j]? = (evCells e vk vn vf vs A m c)[j]?

/-- The block of a row. -/
def rowOf (A : Option Addr) : Option Nat := A.map (·.block)

theorem rowOf_own (A : Option Addr) (n c : Nat) : (Value.slice A n c).ownBlock = rowOf A := by cases A <;> rfl

def RowsAt (X : Nat → Prop) (w : World) (base g : Nat) (A : Option Addr) (cap : Nat) (es : List EV) : Prop := ∃ xs, w.ownsRow base 44 11 (.slice A es.length cap) es.length xs ∧ rowOf A ≠ some g ∧ ∀ i (h : i < es.length), EvCell X w g (rowOf A) xs i es[i]

/-- Only the blocks g and ro, and what is new, have turned. -/
structure OnlyAt (w w' : World) (g : Nat) (ro : Option Nat) : Prop where
  os : w'.os = w.os
  tape : w'.tape = w.tape
  output : w'.output = w.output
  size : w.heap.size ≤ w'.heap.size
  block : ∀ b, b < w.heap.size → b ≠ g → some b ≠ ro → w'.heap[b]? = w.heap[b]?

theorem OnlyAt.of_below {w w' : World} {g : Nat} {ro : Option Nat} (h : Below w.heap.size w w') : OnlyAt w w' g ro := ⟨h.os, h.tape, h.output, h.size, fun b hb _ _ => h.block b hb⟩
theorem OnlyAt.trans {w w' w'' : World} {g : Nat} {ro : Option Nat} (h : OnlyAt w w' g ro) (k : OnlyAt w' w'' g ro) : OnlyAt w w'' g ro :=
  ⟨k.os.trans h.os, k.tape.trans h.tape, k.output.trans h.output, Nat.le_trans h.size k.size, fun b hb h1 h2 => (k.block b (Nat.lt_of_lt_of_le hb h.size) h1 h2).trans (h.block b hb h1 h2)⟩
theorem OnlyAt.below {w w' : World} {g base : Nat} {ro : Option Nat} (h : OnlyAt w w' g ro) (hg : base ≤ g) (hr : ∀ r, ro = some r → base ≤ r) (hb : base ≤ w.heap.size) : Below base w w' :=
  ⟨h.os, h.tape, h.output, h.size, fun b hlt => h.block b (by omega) (by omega) (fun e => by have := hr b e.symm; omega)⟩
theorem OnlyAt.set {w w' : World} {g : Nat} {ro : Option Nat} (h : OnlyAt w w' g ro) (o : Nat) (v : Value) : OnlyAt w (w'.setCell ⟨g, o, none⟩ v) g ro :=
  ⟨h.os, h.tape, h.output, by simpa [World.setCell] using h.size, fun b hb h1 h2 => (Below.heap_setCell w' ⟨g, o, none⟩ v b (by simpa using h1)).trans (h.block b hb h1 h2)⟩
theorem EvCell.only {w w' : World} {g : Nat} {ro : Option Nat} {xs : List Value} {i : Nat} {e : EV} (h : EvCell X w g ro xs i e) (ho : OnlyAt w w' g ro) : EvCell X w' g ro xs i e := by
  obtain ⟨lo, hi, vk, vn, vf, vs, A, m, c, h1, h2, h3, h4, h5, h6⟩ := h
  refine ⟨lo, hi, vk, vn, vf, vs, A, m, c, h1, h2.keep fun b o hb1 hb2 => ?_, Nat.le_trans h3 ho.size, h4, h5, h6⟩
  exact World.cell?_of_block (a := ⟨b, o, none⟩) (ho.block b (by omega) (by omega) (fun e => by have := h5 b (.inl e.symm); omega))
theorem OnlyAt.any {w w' : World} {g : Nat} {ro : Option Nat} (h : OnlyAt w w' g none) : OnlyAt w w' g ro := ⟨h.os, h.tape, h.output, h.size, fun b hb h1 _ => h.block b hb h1 (by simp)⟩
theorem RowsAt.only {w w' : World} {base g : Nat} {A : Option Addr} {cap : Nat} {es : List EV} (h : RowsAt X w base g A cap es) (hb : OnlyAt w w' g none) : RowsAt X w' base g A cap es := by
  obtain ⟨xs, h1, h2, h3⟩ := h
  refine ⟨xs, ⟨h1.1, ?_⟩, h2, fun i hi => (h3 i hi).only hb.any⟩
  rcases h1.2 with h | ⟨r, cp, cur, q1, q2, q3, q4⟩
  · exact .inl h
  · refine .inr ⟨r, cp, cur, q1, q2, ?_, q4⟩
    injection q1 with q1
    subst q1
    exact (hb.block r (Array.getElem?_eq_some_iff.1 q3).1 (fun e => h2 (by rw [e]; rfl)) (by simp)).trans q3
theorem RowsAt.later {w w' : World} {base g : Nat} {A : Option Addr} {cap : Nat} {es : List EV} (h : RowsAt X w base g A cap es) (hb : Below w.heap.size w w') : RowsAt X w' base g A cap es := h.only (OnlyAt.of_below hb)
end Cm
end Go.Proofs.YtcbddebmmaflgaaGreat
namespace Go.Proofs.YtcbddebmmaflgaaGreat
open Go.RowKit
set_option linter.unusedVariables false
namespace Cm
variable {X : Nat → Prop}
open Nm (ret_int ret_bool)
open Vt (VT Rep BoxAt below_drew)
open Ev (EV FieldsOk evCells vCells EBox)

end Cm
end Go.Proofs.YtcbddebmmaflgaaGreat
namespace Go.Proofs.YtcbddebmmaflgaaGreat
open Go.RowKit
set_option linter.unusedVariables false
namespace Cm
variable {X : Nat → Prop}
open Nm (ret_int ret_bool)
open Vt (VT Rep BoxAt below_drew)
open Ev (EV FieldsOk evCells vCells EBox ERep)

section
variable {P : Program} {ops : Array Oper} {Q : Exit → Act → World → Prop} {md : Region.Mode}
end

def withId (e : EV) (n : Nat) : EV := { e with id := n }

end Cm
end Go.Proofs.YtcbddebmmaflgaaGreat
namespace Go.Proofs.YtcbddebmmaflgaaGreat
open Go.RowKit
set_option linter.unusedVariables false
namespace Cm
variable {X : Nat → Prop}
open Nm (ret_int ret_bool)
open Vt (VT Rep BoxAt below_drew)
open Ev (EV FieldsOk evCells vCells EBox ERep)

end Cm
end Go.Proofs.YtcbddebmmaflgaaGreat
