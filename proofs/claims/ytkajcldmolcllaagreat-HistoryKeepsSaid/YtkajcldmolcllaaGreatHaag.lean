/- A builder of commands and how it lies. -/
/- Contract of the builder's list: add. -/
/- Contract of the builder: number. -/
/- Contracts of the builder: end, short, New, Next, Closed. -/
/- Contracts of the builder: the five calls. -/
/- Contract of the builder's Events. -/
/- The package of statements: alive; what is valid. -/
/- Lists of events that are read; lists of the reference's builder. -/
/- Contracts: the reference's Same of events and of lists of events. -/
/- Plain: the state of a history, and what an event does to it. No program in sight. -/
/- Plain: a history's lists by their places, as the reference has them. -/
/- Worlds with some blocks hidden; maps by their keys, whatever their elements. -/
/- Rows of values of one's own; contract of the reference's Clone: a copy in new memory. -/
/- Rows of events of the call's own whose values lie anywhere; the reference's Commands; boxes of batches. -/
/- Contracts: the reference's Clone of a batch; batch.copied and batch.mapped of it. -/
import Derived.Test.YtkajcldmolcllaaGreatHaaf
import Derived.Test.YtkajcldmolcllaaGreatHaae
import Derived.Deep.RegionLaw
import Derived.Deep.AppendLies
import Derived.Deep.RegionWith
import Derived.Laws.EntriesVeiled
import Derived.Test.YtkajcldmolcllaaGreatHaab
import Derived.Test.YtkajcldmolcllaaGreatHaac
import Derived.StillTailTactics
import Derived.Maps.OwnSet
import Derived.Maps.RangeWalk
import Derived.StringKeys
import Derived.Carry
set_option linter.unusedVariables false
set_option linter.unusedSimpArgs false
open Go.RowKit
namespace Go.Proofs.YtkajcldmolcllaaGreat
namespace Cm
variable {X : Nat → Prop}
open Nm (ret_int ret_bool)
open Vt (VT Rep BoxAt below_drew)
open Ev (EV FieldsOk evCells vCells EBox)

theorem Tryz.infoE : (Tryz.prog.info? 53).map (fun i => (i.zero, i.size, i.bytes)) = some (some (.agg #[.int .i64 0, .int .u64 0, .int .i64 0, .int .u64 0, .string ⟨#[]⟩, .string ⟨#[]⟩, .int .i64 0, .int .i64 0, .float .f64 0, .string ⟨#[]⟩, .slice none 0 0]), 11, 128) := by kernel_rfl

def EvCell (X : Nat → Prop) (w : World) (g : Nat) (ro : Option Nat) (xs : List Value) (i : Nat) (e : EV) : Prop := ∃ lo hi vk vn vf vs A m c, FieldsOk e ∧ Rep w lo hi e.v (vCells vk vn vf vs A m c) ∧ hi ≤ w.heap.size ∧ (g < lo ∨ hi ≤ g) ∧ (∀ r, ro = some r ∨ X r → r < lo ∨ hi ≤ r) ∧
 ∀ j, j < 11 → xs[i * 11 + j]? = (evCells e vk vn vf vs A m c)[j]?

def rowOf (A : Option Addr) : Option Nat := A.map (·.block)

theorem rowOf_own (A : Option Addr) (n c : Nat) : (Value.slice A n c).ownBlock = rowOf A := by cases A <;> rfl

def RowsAt (X : Nat → Prop) (w : World) (base g : Nat) (A : Option Addr) (cap : Nat) (es : List EV) : Prop := ∃ xs, w.ownsRow base 53 11 (.slice A es.length cap) es.length xs ∧ rowOf A ≠ some g ∧ ∀ i (h : i < es.length), EvCell X w g (rowOf A) xs i es[i]

structure OnlyAt (w w' : World) (g : Nat) (ro : Option Nat) : Prop where
 os : w'.os = w.os
 tape : w'.tape = w.tape
 output : w'.output = w.output
 size : w.heap.size ≤ w'.heap.size
 block : ∀ b, b < w.heap.size → b ≠ g → some b ≠ ro → w'.heap[b]? = w.heap[b]?

theorem OnlyAt.of_below {w w' : World} {g : Nat} {ro : Option Nat} (h : Below w.heap.size w w') : OnlyAt w w' g ro := ⟨h.os, h.tape, h.output, h.size, fun b hb _ _ => h.block b hb⟩
theorem OnlyAt.trans {w w' w'' : World} {g : Nat} {ro : Option Nat} (h : OnlyAt w w' g ro) (k : OnlyAt w' w'' g ro) : OnlyAt w w'' g ro :=
 ⟨k.os.trans h.os, k.tape.trans h.tape, k.output.trans h.output, Nat.le_trans h.size k.size, fun b hb h1 h2 => (k.block b (Nat.lt_of_lt_of_le hb h.size) h1 h2).trans (h.block b hb h1 h2)⟩
theorem OnlyAt.below {w w' : World} {g base : Nat} {ro : Option Nat} (h : OnlyAt w w' g ro) (hg : base ≤ g) (hr : ∀ r, ro = some r → base ≤ r) (hb : base ≤ w.heap.size) : Below base w w' :=
 ⟨h.os, h.tape, h.output, h.size, fun b hlt => h.block b (by omega) (by omega) (fun e => by have := hr b e.symm; omega)⟩
theorem OnlyAt.set {w w' : World} {g : Nat} {ro : Option Nat} (h : OnlyAt w w' g ro) (o : Nat) (v : Value) : OnlyAt w (w'.setCell ⟨g, o, none⟩ v) g ro :=
 ⟨h.os, h.tape, h.output, by simpa [World.setCell] using h.size, fun b hb h1 h2 => (Below.heap_setCell w' ⟨g, o, none⟩ v b (by simpa using h1)).trans (h.block b hb h1 h2)⟩
theorem EvCell.only {w w' : World} {g : Nat} {ro : Option Nat} {xs : List Value} {i : Nat} {e : EV} (h : EvCell X w g ro xs i e) (ho : OnlyAt w w' g ro) : EvCell X w' g ro xs i e := by
 obtain ⟨lo, hi, vk, vn, vf, vs, A, m, c, h1, h2, h3, h4, h5, h6⟩ := h
 refine ⟨lo, hi, vk, vn, vf, vs, A, m, c, h1, h2.keep fun b o hb1 hb2 => ?_, Nat.le_trans h3 ho.size, h4, h5, h6⟩
 exact World.cell?_of_block (a := ⟨b, o, none⟩) (ho.block b (by omega) (by omega) (fun e => by have := h5 b (.inl e.symm); omega))
theorem OnlyAt.any {w w' : World} {g : Nat} {ro : Option Nat} (h : OnlyAt w w' g none) : OnlyAt w w' g ro := ⟨h.os, h.tape, h.output, h.size, fun b hb h1 _ => h.block b hb h1 (by simp)⟩
theorem RowsAt.only {w w' : World} {base g : Nat} {A : Option Addr} {cap : Nat} {es : List EV} (h : RowsAt X w base g A cap es) (hb : OnlyAt w w' g none) : RowsAt X w' base g A cap es := by
 obtain ⟨xs, h1, h2, h3⟩ := h
 refine ⟨xs, ⟨h1.1, ?_⟩, h2, fun i hi => (h3 i hi).only hb.any⟩
 rcases h1.2 with h | ⟨r, cp, cur, q1, q2, q3, q4⟩
 ·exact .inl h
 ·refine .inr ⟨r, cp, cur, q1, q2, ?_, q4⟩
  injection q1 with q1
  subst q1
  exact (hb.block r (Array.getElem?_eq_some_iff.1 q3).1 (fun e => h2 (by rw [e]; rfl)) (by simp)).trans q3
theorem RowsAt.later {w w' : World} {base g : Nat} {A : Option Addr} {cap : Nat} {es : List EV} (h : RowsAt X w base g A cap es) (hb : Below w.heap.size w w') : RowsAt X w' base g A cap es := h.only (OnlyAt.of_below hb)
end Cm
end Go.Proofs.YtkajcldmolcllaaGreat
namespace Go.Proofs.YtkajcldmolcllaaGreat
namespace Cm
variable {X : Nat → Prop}
open Nm (ret_int ret_bool)
open Vt (VT Rep BoxAt below_drew)
open Ev (EV FieldsOk evCells vCells EBox)

end Cm
end Go.Proofs.YtkajcldmolcllaaGreat
namespace Go.Proofs.YtkajcldmolcllaaGreat
namespace Cm
variable {X : Nat → Prop}
open Nm (ret_int ret_bool)
open Vt (VT Rep BoxAt below_drew)
open Ev (EV FieldsOk evCells vCells EBox ERep)

section
variable {P : Program} {ops : Array Oper} {Q : Exit → Act → World → Prop} {md : Region.Mode}
end

def withId (e : EV) (n : Nat) : EV := { e with id := n }

end Cm
end Go.Proofs.YtkajcldmolcllaaGreat
namespace Go.Proofs.YtkajcldmolcllaaGreat
namespace Cm
variable {X : Nat → Prop}
open Nm (ret_int ret_bool)
open Vt (VT Rep BoxAt below_drew)
open Ev (EV FieldsOk evCells vCells EBox ERep)

end Cm
end Go.Proofs.YtkajcldmolcllaaGreat
namespace Go.Proofs.YtkajcldmolcllaaGreat
namespace Cm
variable {X : Nat → Prop}
open Nm (ret_int ret_bool)
open Vt (VT Rep BoxAt below_drew Cloned)
open Ev (EV FieldsOk evCells vCells EBox ERep zeroT)

structure BS where mk ::
 es : List EV
 closed : Int
 next : Nat
 at' : Nat

def BS.number (s : BS) (e : EV) : BS × Nat := if (withId e s.next).valid = true ∧ s.closed = 0 then (⟨s.es ++ [withId e s.next], 0, s.next + 1, s.at'⟩, s.next) else (s, 0)
end Cm
end Go.Proofs.YtkajcldmolcllaaGreat
namespace Go.Proofs.YtkajcldmolcllaaGreat
namespace Cm
variable {X : Nat → Prop}
open Nm (ret_int ret_bool)
open Vt (VT Rep BoxAt below_drew Cloned put5)
open Ev (EV FieldsOk evCells vCells EBox ERep zeroT)

def EvNew (w : World) (base : Nat) (ro : Option Nat) (xs : List Value) (i : Nat) (e : EV) : Prop := ∃ lo hi vk vn vf vs A m c, base ≤ lo ∧ FieldsOk e ∧ Rep w lo hi e.v (vCells vk vn vf vs A m c) ∧ hi ≤ w.heap.size ∧ (∀ r, ro = some r → r < lo ∨ hi ≤ r) ∧ (0 < e.v.l.length → ∀ b off, A = some ⟨b, off, none⟩ → ∀ o, w.frozen? ⟨b, o, none⟩ = false) ∧
 ∀ j, j < 11 → xs[i * 11 + j]? = (evCells e vk vn vf vs A m c)[j]?
def EvsAt (w : World) (base : Nat) (A : Option Addr) (cap n : Nat) (es : List EV) : Prop := es.length = n ∧ ∃ xs, w.ownsRow base 53 11 (.slice A n cap) n xs ∧ ∀ i (h : i < es.length), EvNew w base (rowOf A) xs i es[i]

theorem frozen_of_block {w w' : World} {b : Nat} (h : w'.heap[b]? = w.heap[b]?) (o : Nat) : w'.frozen? ⟨b, o, none⟩ = w.frozen? ⟨b, o, none⟩ := by simp [World.frozen?, h]

theorem rep_row {w : World} {lo hi : Nat} {t : VT} {vk vn : Int} {vf : Nat} {vs : ByteArray} {A : Option Addr} {m c : Nat} (h : Rep w lo hi t (vCells vk vn vf vs A m c)) : 0 < t.l.length → ∀ b off, A = some ⟨b, off, none⟩ → lo ≤ b ∧ b < hi := by
 intro hp b off hA
 obtain ⟨k, n, f, s, l, A', cap, rfl, hv, -, -, hk⟩ := h.open_
 injection hv with hv
 simp at hv
 obtain ⟨-, -, -, -, rfl, -, -⟩ := hv
 obtain ⟨b', off', hA', h1, h2, -⟩ := hk.at_ hp
 rw [hA] at hA'
 injection hA' with hA'
 injection hA' with hb _ _
 subst hb
 exact ⟨h1, h2⟩

theorem EvNew.keep {w w' : World} {base : Nat} {ro : Option Nat} {xs : List Value} {i : Nat} {e : EV} (h : EvNew w base ro xs i e) (hz : w.heap.size ≤ w'.heap.size) (ho : ∀ b, b < w.heap.size → some b ≠ ro → w'.heap[b]? = w.heap[b]?) : EvNew w' base ro xs i e := by
 obtain ⟨lo, hi, vk, vn, vf, vs, A, m, c, h0, h1, h2, h3, h5, hfr, h6⟩ := h
 have hin := rep_row h2
 refine ⟨lo, hi, vk, vn, vf, vs, A, m, c, h0, h1, h2.keep fun b o hb1 hb2 => ?_, Nat.le_trans h3 hz, h5, fun hp b off hA o => ?_, h6⟩
 ·exact World.cell?_of_block (a := ⟨b, o, none⟩) (ho b (by omega) (fun e => by have := h5 b e.symm; omega))
 ·obtain ⟨q1, q2⟩ := hin hp b off hA
  exact (frozen_of_block (ho b (by omega) (fun e => by have := h5 b e.symm; omega)) o).trans (hfr hp b off hA o)

theorem EvsAt.later {w w' : World} {base : Nat} {A : Option Addr} {cap n : Nat} {es : List EV} (h : EvsAt w base A cap n es) (hb : Below w.heap.size w w') : EvsAt w' base A cap n es := by
 obtain ⟨h0, xs, h1, h3⟩ := h
 refine ⟨h0, xs, ⟨h1.1, ?_⟩, fun i hi => (h3 i hi).keep hb.size (fun b hlt _ => hb.block b hlt)⟩
 rcases h1.2 with h | ⟨r, cp, cur, q1, q2, q3, q4⟩
 ·exact .inl h
 ·exact .inr ⟨r, cp, cur, q1, q2, (hb.block r (Array.getElem?_eq_some_iff.1 q3).1).trans q3, q4⟩

theorem ev_one (e : EV) (vk vn : Int) (vf : Nat) (vs : ByteArray) (A : Option Addr) (m c : Nat) : ∀ u ∈ (evCells e vk vn vf vs A m c).toList, u.oneCell' = true := by
 intro u hu
 simp [evCells] at hu
 rcases hu with rfl | rfl | rfl | rfl | rfl | rfl | rfl | rfl | rfl | rfl | rfl <;> rfl

end Cm
end Go.Proofs.YtkajcldmolcllaaGreat
namespace Go.Proofs.YtkajcldmolcllaaGreat
namespace Cm
variable {X : Nat → Prop}
open Nm (ret_int ret_bool)
open Vt (VT Rep BoxAt below_drew Cloned put5)
open Ev (EV FieldsOk evCells vCells EBox ERep zeroT)

theorem evs_cells {w : World} {base : Nat} {A : Option Addr} {cap n : Nat} {es : List EV} (h : EvsAt w base A cap n es) (j : Nat) (hj : j < es.length) :
  ∃ r lo hi vk vn vf vs A' m c, A = some ⟨r, 0, none⟩ ∧ r < w.heap.size ∧ base ≤ r ∧ base ≤ lo ∧ (r < lo ∨ hi ≤ r) ∧ (0 < es[j].v.l.length → ∀ b off, A' = some ⟨b, off, none⟩ → ∀ o, w.frozen? ⟨b, o, none⟩ = false) ∧ FieldsOk es[j] ∧ Rep w lo hi es[j].v (vCells vk vn vf vs A' m c) ∧ hi ≤ w.heap.size ∧ n ≤ cap ∧ cap ≤ maxLen ∧ ∀ q, q < 11 → w.cell? ⟨r, j * 11 + q, none⟩ = (evCells es[j] vk vn vf vs A' m c)[q]? := by
 obtain ⟨h0, xs, h1, h3⟩ := h
 obtain ⟨lo, hi, vk, vn, vf, vs, A', m, c, p0, p1, p2, p3, p5, pf, p6⟩ := h3 j hj
 rcases h1.2 with ⟨-, h0'⟩ | ⟨r, cp, cur, q1, q2, q3, q4, q5, q6, q7⟩
 ·omega
 ·injection q1 with q1 _ q1'
  subst q1'
  refine ⟨r, lo, hi, vk, vn, vf, vs, A', m, c, q1, (Array.getElem?_eq_some_iff.1 q3).1, q2, p0, p5 r (by rw [q1]; rfl), pf, p1, p2, p3, q4, q5, fun q hq => ?_⟩
  rw [← p6 q hq, ← q7, List.getElem?_take_of_lt (by omega), Array.getElem?_toList]
  simp [World.cell?, q3]

theorem zero_slim : VT.Slim 900 zeroT := by
 unfold zeroT
 rw [Vt.slim_mk]
 exact ⟨Nat.zero_le _, Nat.zero_le _, fun i h => absurd h (by simp)⟩

end Cm
end Go.Proofs.YtkajcldmolcllaaGreat
namespace Go.Proofs.YtkajcldmolcllaaGreat
namespace Cm
variable {X : Nat → Prop}
open Nm (ret_int ret_bool)
open Vt (VT Rep BoxAt below_drew Cloned put5)
open Ev (EV FieldsOk evCells vCells EBox ERep zeroT)

def evSame (a b : EV) : Bool := a.k == b.k && a.id == b.id && a.n == b.n && a.at' == b.at' && decide (a.name = b.name) && decide (a.text = b.text) && a.v.same b.v
theorem evSame_refl (a : EV) : evSame a a = true := by simp [evSame, Vt.same_refl]

structure EvsIn (w : World) (A : Option Addr) (cap : Nat) (es : List EV) : Prop where
 le : es.length ≤ cap
 cap_le : cap ≤ maxLen
 at_ : 0 < es.length → ∃ b off, A = some ⟨b, off, none⟩ ∧ b < w.heap.size ∧ ∀ i (h : i < es.length), ∃ lo hi vk vn vf vs A' m c, FieldsOk es[i] ∧ Rep w lo hi es[i].v (vCells vk vn vf vs A' m c) ∧ hi ≤ w.heap.size ∧
  ∀ q, q < 11 → w.cell? ⟨b, off + i * 11 + q, none⟩ = (evCells es[i] vk vn vf vs A' m c)[q]?

theorem EvsIn.later {w w' : World} {A : Option Addr} {cap : Nat} {es : List EV} (h : EvsIn w A cap es) (hb : Below w.heap.size w w') : EvsIn w' A cap es := ⟨h.le, h.cap_le, fun hp => by
 obtain ⟨b, off, hA, hlt, h3⟩ := h.at_ hp
 refine ⟨b, off, hA, Nat.lt_of_lt_of_le hlt hb.size, fun i hi => ?_⟩
 obtain ⟨lo, hi', vk, vn, vf, vs, A', m, c, h4, h5, h6, h7⟩ := h3 i hi
 exact ⟨lo, hi', vk, vn, vf, vs, A', m, c, h4, h5.later (hb.mono h6), Nat.le_trans h6 hb.size, fun q hq => (hb.cell (p := ⟨b, _, none⟩) hlt).trans (h7 q hq)⟩⟩

theorem EvsAt.read {w : World} {base : Nat} {A : Option Addr} {cap n : Nat} {es : List EV} (h : EvsAt w base A cap n es) : EvsIn w A cap es := by
 have hle : es.length ≤ cap ∧ cap ≤ maxLen := by
  obtain ⟨rfl, xs, h1, -⟩ := h
  obtain ⟨A', cap', hv, h2, h3⟩ := Vt.own_form h1
  injection hv with _ _ hc
  subst hc
  exact ⟨h2, h3⟩
 refine ⟨hle.1, hle.2, fun hp => ?_⟩
 obtain ⟨r, lo, hi, vk, vn, vf, vs, A', m, c, rfl, hr, -⟩ := evs_cells h 0 hp
 refine ⟨r, 0, rfl, hr, fun i hi => ?_⟩
 obtain ⟨r', lo, hi', vk, vn, vf, vs, A', m, c, hA, -, -, -, -, -, h1, h2, h3, -, -, h4⟩ := evs_cells h i hi
 injection hA with hA
 injection hA with hr' _ _
 subst hr'
 exact ⟨lo, hi', vk, vn, vf, vs, A', m, c, h1, h2, h3, fun q hq => by rw [Nat.zero_add]; exact h4 q hq⟩

structure MAt (w : World) (base : Nat) (A : Option Addr) (cap : Nat) (es : List EV) : Prop where
 nil_ : es = [] → A = none ∧ cap = 0
 le : es.length ≤ cap
 cap_le : cap ≤ maxLen
 at_ : 0 < es.length → ∃ b, A = some ⟨b, 0, none⟩ ∧ base ≤ b ∧ b < w.heap.size ∧ ∀ i (h : i < es.length), ∃ vk vn vf vs A' m c, FieldsOk es[i] ∧ Rep w 0 base es[i].v (vCells vk vn vf vs A' m c) ∧
  ∀ q, q < 11 → w.cell? ⟨b, i * 11 + q, none⟩ = (evCells es[i] vk vn vf vs A' m c)[q]?

theorem MAt.nil (w : World) (base : Nat) : MAt w base none 0 [] := ⟨fun _ => ⟨rfl, rfl⟩, Nat.le_refl _, Nat.zero_le _, fun h => absurd h (by simp)⟩
theorem MAt.later {w w' : World} {base : Nat} {A : Option Addr} {cap : Nat} {es : List EV} (h : MAt w base A cap es) (hbs : base ≤ w.heap.size) (hb : Below w.heap.size w w') : MAt w' base A cap es := ⟨h.nil_, h.le, h.cap_le, fun hp => by
 obtain ⟨b, rfl, h1, h2, h3⟩ := h.at_ hp
 refine ⟨b, rfl, h1, Nat.lt_of_lt_of_le h2 hb.size, fun i hi => ?_⟩
 obtain ⟨vk, vn, vf, vs, A', m, c, h4, h5, h7⟩ := h3 i hi
 exact ⟨vk, vn, vf, vs, A', m, c, h4, h5.later (hb.mono hbs), fun q hq => (World.cell?_of_block (a := ⟨b, _, none⟩) (hb.block b h2)).trans (h7 q hq)⟩⟩
end Cm
end Go.Proofs.YtkajcldmolcllaaGreat
namespace Go.Proofs.YtkajcldmolcllaaGreat
namespace Cm
open Nm (bitsW ret_int ret_bool)
open Vt (VT Rep BoxAt below_drew Cloned put5 toList_inj)
open Ev (EV FieldsOk evCells vCells EBox ERep zeroT)

def HeadE (a b : EV) : Prop := a.k = b.k ∧ a.id = b.id ∧ a.n = b.n ∧ a.at' = b.at' ∧ a.name = b.name ∧ a.text = b.text
theorem evSame_head {a b : EV} (h : HeadE a b) : evSame a b = a.v.same b.v := by
 obtain ⟨h1, h2, h3, h4, h5, h6⟩ := h
 simp [evSame, h1, h2, h3, h4, h5, h6]
theorem evSame_not {a b : EV} (h : ¬ HeadE a b) : evSame a b = false := by
 rw [Bool.eq_false_iff]
 intro q
 simp [evSame] at q
 exact h ⟨q.1.1.1.1.1.1, q.1.1.1.1.1.2, q.1.1.1.1.2, q.1.1.1.2, q.1.1.2, q.1.2⟩

set_option maxRecDepth 100000 in
set_option maxHeartbeats 2000000 in
theorem rsev_any (a b : EV) (w : World) (lo hi lo' hi' : Nat) (x y : Value) (hR : ERep w lo hi a x) (hz : hi ≤ w.heap.size) (hR' : ERep w lo' hi' b y) (hz' : hi' ≤ w.heap.size) :
  Calls Tryz.prog 77 #[x, y] w fun r w' => r = .returned (.bool (evSame a b)) ∧ Below w.heap.size w w' := by
 obtain ⟨hf, vk, vn, vf, vs, A, m, c, rfl, hv⟩ := hR
 obtain ⟨hf', vk', vn', vf', vs', A', m', c', rfl, hv'⟩ := hR'
 have HB0 := Lib.hid fun Z Z' => ((Below.refl w.heap.size w).alloc (Nat.le_refl _) Z).alloc (by simp) Z'
 have HS := Lib.hid fun W (hW : Below w.heap.size w W) => Vt.rsame_any a.v b.v W lo hi lo' hi' _ _ (hv.later (hW.mono hz)) (Nat.le_trans hz hW.size) (hv'.later (hW.mono hz')) (Nat.le_trans hz' hW.size)
 clear hv hv' hf hf'
 obtain ⟨k, id, n, at', name, text, v⟩ := a
 obtain ⟨k', id', n', at'', name', text', v'⟩ := b
 unfold vCells at HS
 simp only at HS
 by_cases hh : HeadE ⟨k, id, n, at', name, text, v⟩ ⟨k', id', n', at'', name', text', v'⟩
 ·rw [evSame_head hh]
  obtain ⟨h1, h2, h3, h4, h5, h6⟩ := hh
  simp only at h1 h2 h3 h4 h5 h6
  subst h1 h2 h3 h4 h5 h6
  unfold evCells
  go_enter Tryz.func77, Tryz.ntmps77
  go_wp2_with fail
  refine (HS.out _ (HB0.out _ _)).mono ?_
  rintro e w1 ⟨rfl, hb⟩
  have HB1 := Lib.hid ((HB0.out _ _).trans (hb.mono (HB0.out _ _).size))
  clear hb
  go_wp2_with fail
  go_ret
  exact ⟨ret_bool (by simp), HB1.out⟩
 ·rw [evSame_not hh]
  have H := Lib.hid hh; clear hh
  unfold evCells
  go_enter Tryz.func77, Tryz.ntmps77
  go_wp2_with fail
  all_goals first
   | (go_ret; exact ⟨rfl, HB0.out _ _⟩)
   | (exfalso
      refine H.out ⟨?_, ?_, ?_, ?_, ?_, ?_⟩
      all_goals clear H HS HB0
      all_goals first
       | assumption
       | (exact (toList_inj _ _).1 (by assumption))
       | omega
       | (simp at *; omega))

theorem EvsIn.get {w : World} {A : Option Addr} {cap : Nat} {es : List EV} (h : EvsIn w A cap es) (i : Nat) (hi : i < es.length) :
  ∃ b off lo hi vk vn vf vs A' m c, A = some ⟨b, off, none⟩ ∧ b < w.heap.size ∧ FieldsOk es[i] ∧ Rep w lo hi es[i].v (vCells vk vn vf vs A' m c) ∧ hi ≤ w.heap.size ∧
   w.cell? ⟨b, off + i * 11, none⟩ = some (.int .i64 es[i].k) ∧ w.cell? ⟨b, off + i * 11 + 1, none⟩ = some (.int .u64 es[i].id) ∧ w.cell? ⟨b, off + i * 11 + 2, none⟩ = some (.int .i64 es[i].n) ∧ w.cell? ⟨b, off + i * 11 + 3, none⟩ = some (.int .u64 es[i].at') ∧
   w.cell? ⟨b, off + i * 11 + 4, none⟩ = some (.string es[i].name) ∧ w.cell? ⟨b, off + i * 11 + 5, none⟩ = some (.string es[i].text) ∧ w.cell? ⟨b, off + i * 11 + 6, none⟩ = some (.int .i64 vk) ∧ w.cell? ⟨b, off + i * 11 + 7, none⟩ = some (.int .i64 vn) ∧
   w.cell? ⟨b, off + i * 11 + 8, none⟩ = some (.float .f64 vf) ∧ w.cell? ⟨b, off + i * 11 + 9, none⟩ = some (.string vs) ∧ w.cell? ⟨b, off + i * 11 + 10, none⟩ = some (.slice A' m c) := by
 obtain ⟨b, off, hA, hlt, h3⟩ := h.at_ (by omega)
 obtain ⟨lo, hi', vk, vn, vf, vs, A', m, c, h4, h5, h6, h7⟩ := h3 i hi
 exact ⟨b, off, lo, hi', vk, vn, vf, vs, A', m, c, hA, hlt, h4, h5, h6, h7 0 (by omega), h7 1 (by omega), h7 2 (by omega), h7 3 (by omega), h7 4 (by omega), h7 5 (by omega), h7 6 (by omega), h7 7 (by omega), h7 8 (by omega), h7 9 (by omega), h7 10 (by omega)⟩

def evsSame (a b : List EV) : Bool := a.length == b.length && (a.zip b).all (fun p => evSame p.1 p.2)
theorem evsSame_refl (a : List EV) : evsSame a a = true := by
 simp only [evsSame, beq_self_eq_true, Bool.true_and, List.all_eq_true]
 rintro ⟨x, y⟩ h
 rw [List.zip_eq_zipWith] at h
 have : x = y := by
  rw [List.mem_iff_getElem] at h
  obtain ⟨i, hi, he⟩ := h
  simp at he
  exact he.1.symm.trans he.2
 subst this
 exact evSame_refl x

end Cm
end Go.Proofs.YtkajcldmolcllaaGreat
namespace Go.Proofs.YtkajcldmolcllaaGreat
namespace Hi
open Vt (VT)
open Ev (EV)

structure TK where mk ::
 id : Nat
 name : ByteArray
 v : VT
 n : Int
 fl : Bool
 at' : Nat
structure ST where mk ::
 tasks : List TK
 timers : List (Nat × Nat)
 keys : List ByteArray
 next : Nat
 closed : Int

def tget (l : List TK) (id : Nat) : Option TK := l.find? fun t => decide (t.id = id)
def tput (l : List TK) (t : TK) : List TK := l.map fun x => if x.id = t.id then t else x
def tdel (l : List TK) (id : Nat) : List TK := l.filter fun x => decide (x.id ≠ id)
def mget (l : List (Nat × Nat)) (id : Nat) : Option (Nat × Nat) := l.find? fun t => decide (t.1 = id)
def mdel (l : List (Nat × Nat)) (id : Nat) : List (Nat × Nat) := l.filter fun x => decide (x.1 ≠ id)
def hasK (l : List ByteArray) (k : ByteArray) : Bool := decide (k.size ≠ 0) && l.any fun x => decide (x = k)

def applyM (now : Nat) (alone : Bool) (e : EV) (s : ST) : Option ST :=
 if e.k = 2 then match tget s.tasks e.id with
  | some t => if t.fl = false ∧ t.n + 1 = e.n ∧ t.at' ≤ now ∧ now ≤ e.at' ∧ alone = true then some { s with tasks := tput s.tasks { t with n := e.n, at' := e.at', fl := true } } else none
  | none => none
 else if e.k = 3 ∨ e.k = 4 then match tget s.tasks e.id with
  | some t => if t.fl = true ∧ t.n = e.n then
    if e.at' = 0 then some { s with tasks := tdel s.tasks e.id }
    else if now ≤ e.at' ∧ alone = true then some { s with tasks := tput s.tasks { t with at' := e.at', fl := false } } else none
   else none
  | none => none
 else if e.k = 5 then match mget s.timers e.id with
  | some x => if x.2 ≤ now then some { s with timers := mdel s.timers e.id } else none
  | none => none
 else if e.k = 6 then if hasK s.keys e.text then none else some { s with keys := s.keys ++ [e.text] }
 else if e.k = 7 then if e.id = s.next then some { s with tasks := s.tasks ++ [⟨e.id, e.name, e.v, 0, false, now⟩], next := s.next + 1 } else none
 else if e.k = 8 then if e.id = s.next ∧ now ≤ e.at' then some { s with timers := s.timers ++ [(e.id, e.at')], next := s.next + 1 } else none
 else if 9 ≤ e.k then if alone = true then some { s with closed := e.k, tasks := [], timers := [] } else none
 else some s

def runM (now : Nat) : List EV → Bool → ST → Option ST
 | [], _, s => some s
 | e :: r, first, s => if decide (e.k ≤ 6) = first then (applyM now r.isEmpty e s).bind (runM now r false) else none

structure Fine (s : ST) : Prop where
 tasks : s.tasks.Pairwise fun a b => a.id < b.id
 below : ∀ t ∈ s.tasks, t.id < s.next
 timers : s.timers.Pairwise fun a b => a.1 < b.1
 belowT : ∀ t ∈ s.timers, t.1 < s.next
 pos : 0 < s.next
theorem tget_some {l : List TK} {id : Nat} {t : TK} (h : tget l id = some t) : t ∈ l ∧ t.id = id := by
 unfold tget at h
 have h1 := List.mem_of_find?_eq_some h
 have h2 := List.find?_some h
 exact ⟨h1, by simpa using h2⟩
theorem tget_none {l : List TK} {id : Nat} (h : tget l id = none) : ∀ t ∈ l, t.id ≠ id := by
 unfold tget at h
 rw [List.find?_eq_none] at h
 intro t ht
 simpa using h t ht
theorem tput_ids (l : List TK) (t : TK) : (tput l t).map (·.id) = l.map (·.id) := by
 unfold tput
 rw [List.map_map]
 refine List.map_congr_left fun x _ => ?_
 simp only [Function.comp]
 split
 ·rename_i h; exact h.symm
 ·rfl
theorem pair_ids {l : List TK} : l.Pairwise (fun a b => a.id < b.id) ↔ (l.map (·.id)).Pairwise (· < ·) := by rw [List.pairwise_map]
theorem fine_init : Fine ⟨[], [], [], 1, 0⟩ := ⟨List.Pairwise.nil, fun t h => by simp at h, List.Pairwise.nil, fun t h => by simp at h, by simp⟩
theorem fine_apply {now : Nat} {alone : Bool} {e : EV} {s s' : ST} (hf : Fine s) (h : applyM now alone e s = some s') : Fine s' := by
 have hput : ∀ t : TK, Fine { s with tasks := tput s.tasks t } := fun t => ⟨by rw [pair_ids, tput_ids, ← pair_ids]; exact hf.tasks, fun x hx => by
  have : x.id ∈ (tput s.tasks t).map (·.id) := List.mem_map_of_mem hx
  rw [tput_ids] at this
  obtain ⟨y, hy, e⟩ := List.mem_map.1 this
  rw [← e]; exact hf.below y hy, hf.timers, hf.belowT, hf.pos⟩
 have hdel : ∀ id, Fine { s with tasks := tdel s.tasks id } := fun id => ⟨hf.tasks.sublist (List.filter_sublist ..), fun x hx => hf.below x (List.mem_filter.1 hx).1, hf.timers, hf.belowT, hf.pos⟩
 unfold applyM at h
 split at h
 ·split at h
  ·split at h
   ·cases h; exact hput _
   ·cases h
  ·cases h
 ·split at h
  ·split at h
   ·split at h
    ·split at h
     ·cases h; exact hdel _
     ·split at h
      ·cases h; exact hput _
      ·cases h
    ·cases h
   ·cases h
  ·split at h
   ·split at h
    ·split at h
     ·cases h
      exact ⟨hf.tasks, hf.below, hf.timers.sublist (List.filter_sublist ..), fun x hx => hf.belowT x (List.mem_filter.1 hx).1, hf.pos⟩
     ·cases h
    ·cases h
   ·split at h
    ·split at h
     ·cases h
     ·cases h; exact ⟨hf.tasks, hf.below, hf.timers, hf.belowT, hf.pos⟩
    ·split at h
     ·split at h
      ·rename_i hid
       cases h
       refine ⟨List.pairwise_append.2 ⟨hf.tasks, List.pairwise_singleton .., fun a ha b hb => ?_⟩, fun x hx => ?_, hf.timers, fun x hx => Nat.lt_succ_of_lt (hf.belowT x hx), Nat.succ_pos _⟩
       ·rw [List.mem_singleton.1 hb]; show a.id < e.id; rw [hid]; exact hf.below a ha
       ·rcases List.mem_append.1 hx with q | q
        ·exact Nat.lt_succ_of_lt (hf.below x q)
        ·rw [List.mem_singleton.1 q]; show e.id < s.next + 1; omega
      ·cases h
     ·split at h
      ·split at h
       ·rename_i hid
        cases h
        refine ⟨hf.tasks, fun x hx => Nat.lt_succ_of_lt (hf.below x hx), List.pairwise_append.2 ⟨hf.timers, List.pairwise_singleton .., fun a ha b hb => ?_⟩, fun x hx => ?_, Nat.succ_pos _⟩
        ·rw [List.mem_singleton.1 hb]; show a.1 < e.id; rw [hid.1]; exact hf.belowT a ha
        ·rcases List.mem_append.1 hx with q | q
         ·exact Nat.lt_succ_of_lt (hf.belowT x q)
         ·rw [List.mem_singleton.1 q]; show e.id < s.next + 1; omega
       ·cases h
      ·split at h
       ·split at h
        ·cases h; exact ⟨List.Pairwise.nil, fun t h => by simp at h, List.Pairwise.nil, fun t h => by simp at h, hf.pos⟩
        ·cases h
       ·cases h; exact hf
end Hi
end Go.Proofs.YtkajcldmolcllaaGreat
namespace Go.Proofs.YtkajcldmolcllaaGreat
namespace Hi
open Vt (VT)
open Ev (EV)

theorem split_at {α : Type} (l : List α) (i : Nat) (h : i < l.length) : l = l.take i ++ l[i] :: l.drop (i + 1) := by
 rw [← List.drop_eq_getElem_cons h, List.take_append_drop]
theorem pair_lt {l : List TK} (hp : l.Pairwise fun a b => a.id < b.id) {i j : Nat} (hi : i < l.length) (hj : j < l.length) (h : i < j) : l[i].id < l[j].id := List.pairwise_iff_getElem.1 hp i j hi hj h
theorem pair_ne {l : List TK} (hp : l.Pairwise fun a b => a.id < b.id) {i j : Nat} (hi : i < l.length) (hj : j < l.length) (h : i ≠ j) : l[i].id ≠ l[j].id := by
 rcases Nat.lt_or_ge i j with q | q
 ·have := pair_lt hp hi hj q; omega
 ·have := pair_lt hp hj hi (by omega); omega
theorem take_ids {l : List TK} (hp : l.Pairwise fun a b => a.id < b.id) {i : Nat} (hi : i < l.length) : ∀ x ∈ l.take i, x.id ≠ l[i].id := by
 intro x hx
 obtain ⟨k, hk, rfl⟩ := List.getElem_of_mem hx
 rw [List.length_take] at hk
 rw [List.getElem_take]
 exact pair_ne hp (by omega) hi (by omega)
theorem drop_ids {l : List TK} (hp : l.Pairwise fun a b => a.id < b.id) {i : Nat} (hi : i < l.length) : ∀ x ∈ l.drop (i + 1), x.id ≠ l[i].id := by
 intro x hx
 obtain ⟨k, hk, rfl⟩ := List.getElem_of_mem hx
 rw [List.length_drop] at hk
 rw [List.getElem_drop]
 exact pair_ne hp (by omega) hi (by omega)
theorem tput_mid (a b : List TK) (x t : TK) (h : x.id = t.id) : tput (a ++ x :: b) t = tput a t ++ t :: tput b t := by unfold tput; rw [List.map_append, List.map_cons, if_pos h]
theorem tdel_mid (a b : List TK) (x : TK) : tdel (a ++ x :: b) x.id = tdel a x.id ++ tdel b x.id := by unfold tdel; rw [List.filter_append, List.filter_cons]; simp
theorem mdel_mid (a b : List (Nat × Nat)) (x : Nat × Nat) : mdel (a ++ x :: b) x.1 = mdel a x.1 ++ mdel b x.1 := by unfold mdel; rw [List.filter_append, List.filter_cons]; simp
theorem put_keep {l : List TK} {t : TK} (h : ∀ x ∈ l, x.id ≠ t.id) : tput l t = l := by
 unfold tput
 conv => rhs; rw [← List.map_id l]
 refine List.map_congr_left fun x hx => ?_
 rw [if_neg (h x hx)]; rfl
theorem put_with {l : List TK} (hp : l.Pairwise fun a b => a.id < b.id) {i : Nat} (hi : i < l.length) (t : TK) (ht : t.id = l[i].id) : l.take i ++ t :: l.drop (i + 1) = tput l t := by
 conv => rhs; rw [split_at l i hi]
 have e : tput (l.take i ++ l[i] :: l.drop (i + 1)) t = tput (l.take i) t ++ t :: tput (l.drop (i + 1)) t := tput_mid _ _ _ _ ht.symm
 rw [e, put_keep (by rw [ht]; exact take_ids hp hi), put_keep (by rw [ht]; exact drop_ids hp hi)]
theorem del_keep {l : List TK} {id : Nat} (h : ∀ x ∈ l, x.id ≠ id) : tdel l id = l := List.filter_eq_self.2 fun x hx => decide_eq_true (h x hx)
theorem del_with {l : List TK} (hp : l.Pairwise fun a b => a.id < b.id) {i : Nat} (hi : i < l.length) : l.take i ++ l.drop (i + 1) = tdel l l[i].id := by
 have e : tdel (l.take i ++ l[i] :: l.drop (i + 1)) l[i].id = tdel (l.take i) l[i].id ++ tdel (l.drop (i + 1)) l[i].id := tdel_mid _ _ _
 have e2 : tdel l l[i].id = tdel (l.take i ++ l[i] :: l.drop (i + 1)) l[i].id := by rw [← split_at l i hi]
 rw [e2, e, del_keep (take_ids hp hi), del_keep (drop_ids hp hi)]
theorem get_at {l : List TK} (hp : l.Pairwise fun a b => a.id < b.id) {i : Nat} (hi : i < l.length) : tget l l[i].id = some l[i] := by
 cases h : tget l l[i].id with
 | none => exact absurd rfl (tget_none h _ (List.getElem_mem hi))
 | some t =>
  obtain ⟨h1, h2⟩ := tget_some h
  obtain ⟨j, hj, rfl⟩ := List.getElem_of_mem h1
  by_cases e : j = i
  ·subst e; rfl
  ·exact absurd h2 (pair_ne hp hj hi e)
def IdxIs (l : List TK) (id : Nat) (n : Int) : Prop := (n = -1 ∧ ∀ t ∈ l, t.id ≠ id) ∨ ∃ (i : Nat) (h : i < l.length), n = i ∧ l[i].id = id
theorem idx_get {l : List TK} (hp : l.Pairwise fun a b => a.id < b.id) {id : Nat} {n : Int} (h : IdxIs l id n) : (n = -1 ∧ tget l id = none) ∨ ∃ (i : Nat) (hi : i < l.length), n = i ∧ l[i].id = id ∧ tget l id = some l[i] := by
 rcases h with ⟨h1, h2⟩ | ⟨i, hi, h1, h2⟩
 ·refine .inl ⟨h1, ?_⟩
  unfold tget
  rw [List.find?_eq_none]
  intro t ht
  simpa using h2 t ht
 ·refine .inr ⟨i, hi, h1, h2, ?_⟩
  rw [← h2]
  exact get_at hp hi
theorem tpair_ne {l : List (Nat × Nat)} (hp : l.Pairwise fun a b => a.1 < b.1) {i j : Nat} (hi : i < l.length) (hj : j < l.length) (h : i ≠ j) : l[i].1 ≠ l[j].1 := by
 rcases Nat.lt_or_ge i j with q | q
 ·have := List.pairwise_iff_getElem.1 hp i j hi hj q; omega
 ·have := List.pairwise_iff_getElem.1 hp j i hj hi (by omega); omega
theorem mdel_with {l : List (Nat × Nat)} (hp : l.Pairwise fun a b => a.1 < b.1) {i : Nat} (hi : i < l.length) : l.take i ++ l.drop (i + 1) = mdel l l[i].1 := by
 have e : mdel (l.take i ++ l[i] :: l.drop (i + 1)) l[i].1 = mdel (l.take i) l[i].1 ++ mdel (l.drop (i + 1)) l[i].1 := mdel_mid _ _ _
 have e2 : mdel l l[i].1 = mdel (l.take i ++ l[i] :: l.drop (i + 1)) l[i].1 := by rw [← split_at l i hi]
 have k1 : mdel (l.take i) l[i].1 = l.take i := List.filter_eq_self.2 fun x hx => decide_eq_true (by
  obtain ⟨k, hk, rfl⟩ := List.getElem_of_mem hx
  rw [List.length_take] at hk
  rw [List.getElem_take]
  exact tpair_ne hp (by omega) hi (by omega))
 have k2 : mdel (l.drop (i + 1)) l[i].1 = l.drop (i + 1) := List.filter_eq_self.2 fun x hx => decide_eq_true (by
  obtain ⟨k, hk, rfl⟩ := List.getElem_of_mem hx
  rw [List.length_drop] at hk
  rw [List.getElem_drop]
  exact tpair_ne hp (by omega) hi (by omega))
 rw [e2, e, k1, k2]
theorem mget_at {l : List (Nat × Nat)} (hp : l.Pairwise fun a b => a.1 < b.1) {i : Nat} (hi : i < l.length) : mget l l[i].1 = some l[i] := by
 cases h : mget l l[i].1 with
 | none =>
  unfold mget at h
  rw [List.find?_eq_none] at h
  have := h _ (List.getElem_mem hi)
  simp at this
 | some t =>
  unfold mget at h
  have h1 := List.mem_of_find?_eq_some h
  have h2 := List.find?_some h
  obtain ⟨j, hj, rfl⟩ := List.getElem_of_mem h1
  by_cases e : j = i
  ·subst e; rfl
  ·exact absurd (by simpa using h2) (tpair_ne hp hj hi e)
theorem mget_none {l : List (Nat × Nat)} {id : Nat} (h : ∀ t ∈ l, t.1 ≠ id) : mget l id = none := by
 unfold mget
 rw [List.find?_eq_none]
 intro t ht
 simpa using h t ht
end Hi
end Go.Proofs.YtkajcldmolcllaaGreat
namespace Go.Proofs.YtkajcldmolcllaaGreat
open Go.RowKit Go.ChangeShapes Go.WideShapes Go.WideMaps Go.Maps Go.ChangeMaps Go.MapKept
namespace Hi
open Vt (VT Rep HeadOk rep_iff)
open Ev (EV FieldsOk evCells vCells)
open Cm (EvsIn)

def dum : Obj := .cells #[] 0 (0, 0)
open Classical in
noncomputable def veil (X : Nat → Prop) (w : World) : World := { w with heap := w.heap.mapIdx fun b o => if X b then dum else o }
variable {X X' : Nat → Prop} {u v w w' : World}
theorem veil_size (X : Nat → Prop) (w : World) : (veil X w).heap.size = w.heap.size := by simp [veil]
open Classical in
theorem veil_get (X : Nat → Prop) (w : World) (b : Nat) : (veil X w).heap[b]? = (w.heap[b]?).map fun o => if X b then dum else o := by simp [veil]
theorem veil_off {b : Nat} (h : ¬ X b) : (veil X w).heap[b]? = w.heap[b]? := by
 rw [veil_get]
 cases w.heap[b]? with
 | none => rfl
 | some o => simp [h]
theorem veil_on {b : Nat} (h : X b) {o : Obj} (ho : (veil X w).heap[b]? = some o) : o = dum := by
 rw [veil_get] at ho
 cases hw : w.heap[b]? with
 | none => rw [hw] at ho; cases ho
 | some q => rw [hw] at ho; simp [h] at ho; exact ho.symm
structure Leads (v w : World) : Prop where
 size : v.heap.size ≤ w.heap.size
 block : ∀ (b : Nat) (o : Obj), v.heap[b]? = some o → o ≠ dum → w.heap[b]? = some o
theorem Leads.refl (w : World) : Leads w w := ⟨Nat.le_refl _, fun _ _ h _ => h⟩
theorem Leads.trans (h : Leads u v) (k : Leads v w) : Leads u w := ⟨Nat.le_trans h.size k.size, fun b o ho hd => k.block b o (h.block b o ho hd) hd⟩
theorem leads_veil (X : Nat → Prop) (w : World) : Leads (veil X w) w := ⟨by rw [veil_size]; exact Nat.le_refl _, fun b o ho hd => by
 by_cases h : X b
 ·exact absurd (veil_on h ho) hd
 ·rw [veil_off h] at ho; exact ho⟩
theorem Leads.of_below (h : Below w.heap.size w w') : Leads w w' := ⟨h.size, fun b o ho _ => (h.block b (Array.getElem?_eq_some_iff.1 ho).1).trans ho⟩
theorem leads_veils (hz : w.heap.size ≤ w'.heap.size) (h : ∀ b : Nat, b < w.heap.size → ¬ X b → ¬ X' b ∧ w'.heap[b]? = w.heap[b]?) : Leads (veil X w) (veil X' w') :=
 ⟨by rw [veil_size, veil_size]; exact hz, fun b o ho hd => by
  by_cases hx : X b
  ·exact absurd (veil_on hx ho) hd
  ·rw [veil_off hx] at ho
   obtain ⟨h1, h2⟩ := h b (Array.getElem?_eq_some_iff.1 ho).1 hx
   rw [veil_off h1, h2]; exact ho⟩
theorem leads_into (hz : u.heap.size ≤ w.heap.size) (h : ∀ (b : Nat) (o : Obj), u.heap[b]? = some o → o ≠ dum → ¬ X b ∧ w.heap[b]? = some o) : Leads u (veil X w) :=
 ⟨by rw [veil_size]; exact hz, fun b o ho hd => by
  obtain ⟨h1, h2⟩ := h b o ho hd
  rw [veil_off h1]; exact h2⟩
theorem Leads.cell (h : Leads v w) {p : Addr} {x : Value} (hp : v.cell? p = some x) : w.cell? p = some x := by
 cases hb : v.heap[p.block]? with
 | none => simp [World.cell?, hb] at hp
 | some o =>
  by_cases hd : o = dum
  ·subst hd
   simp [World.cell?, hb, dum] at hp
  ·have := h.block _ _ hb hd
   rw [World.cell?_of_block (w := v) (by rw [this, hb])]
   exact hp
theorem Rep.leads {lo hi : Nat} {t : VT} {x : Value} (h : Rep v lo hi t x) (hl : Leads v w) : Rep w lo hi t x := by
 induction t using VT.ind generalizing x with
 | _ k n f s l ih =>
  obtain ⟨A, cap, C, rfl, ho, hln, hc, hr⟩ := rep_iff.1 h
  refine .mk k n f s l A cap C ho hln (fun hp => ?_) (fun i hi => ih i hi (hr i hi))
  obtain ⟨b, off, hA, h1, h2, h3⟩ := hc hp
  refine ⟨b, off, hA, h1, h2, fun i hi j hj => ?_⟩
  obtain ⟨k', n', f', s', l', A', cap', -, hv, -⟩ := (hr i hi).open_
  injection hv with hv
  have e := h3 i hi j hj
  rw [hv] at e ⊢
  have hq : ∃ y, (#[Value.int .i64 k', .int .i64 n', .float .f64 f', .string s', .slice A' l'.length cap'])[j]? = some y := ⟨_, Array.getElem?_eq_getElem (by simpa using hj)⟩
  obtain ⟨y, hy⟩ := hq
  rw [hy] at e ⊢
  exact hl.cell e
theorem EvsIn.leads {A : Option Addr} {cap : Nat} {es : List EV} (h : EvsIn v A cap es) (hl : Leads v w) : EvsIn w A cap es := ⟨h.le, h.cap_le, fun hp => by
 obtain ⟨b, off, hA, hlt, h3⟩ := h.at_ hp
 refine ⟨b, off, hA, Nat.lt_of_lt_of_le hlt hl.size, fun i hi => ?_⟩
 obtain ⟨lo, hi', vk, vn, vf, vs, A', m, c, h4, h5, h6, h7⟩ := h3 i hi
 refine ⟨lo, hi', vk, vn, vf, vs, A', m, c, h4, Rep.leads h5 hl, Nat.le_trans h6 hl.size, fun q hq => ?_⟩
 have e := h7 q hq
 have hy : ∃ y, (evCells es[i] vk vn vf vs A' m c)[q]? = some y := ⟨_, Array.getElem?_eq_getElem (by simpa [evCells] using hq)⟩
 obtain ⟨y, hy⟩ := hy
 rw [hy] at e ⊢
 exact hl.cell e⟩

structure Chg (X : Nat → Prop) (w w' : World) : Prop where
 os : w'.os = w.os
 tape : w'.tape = w.tape
 output : w'.output = w.output
 size : w.heap.size ≤ w'.heap.size
 block : ∀ b : Nat, b < w.heap.size → ¬ X b → w'.heap[b]? = w.heap[b]?
theorem Chg.refl (X : Nat → Prop) (w : World) : Chg X w w := ⟨rfl, rfl, rfl, Nat.le_refl _, fun _ _ _ => rfl⟩
theorem Chg.trans {w1 w2 w3 : World} (h : Chg X w1 w2) (k : Chg X w2 w3) : Chg X w1 w3 :=
 ⟨k.os.trans h.os, k.tape.trans h.tape, k.output.trans h.output, Nat.le_trans h.size k.size, fun b hb hx => (k.block b (Nat.lt_of_lt_of_le hb h.size) hx).trans (h.block b hb hx)⟩
theorem Chg.of_below (h : Below w.heap.size w w') : Chg X w w' := ⟨h.os, h.tape, h.output, h.size, fun b hb _ => h.block b hb⟩
theorem Chg.below (h : Chg X w w') {B : Nat} (hB : B ≤ w.heap.size) (hX : ∀ b, X b → B ≤ b) : Below B w w' :=
 ⟨h.os, h.tape, h.output, h.size, fun b hb => h.block b (Nat.lt_of_lt_of_le hb hB) (fun hx => absurd (hX b hx) (by omega))⟩
theorem Chg.leads (h : Chg X w w') : Leads (veil X w) (veil X w') := leads_veils h.size fun b hb hx => ⟨hx, h.block b hb hx⟩
theorem Chg.setCell {p : Addr} (hp : X p.block) (x : Value) : Chg X w (w.setCell p x) := ⟨rfl, rfl, rfl, by simp [World.setCell], fun b _ hx => RowKit.Below.heap_setCell _ _ _ _ (fun e => hx (e ▸ hp))⟩
theorem Chg.turned {b : Nat} (h : w.mapTurned w' b) (hb : X b) : Chg X w w' := by
 obtain ⟨h1, h2, h3, h4, h5⟩ := h.grown
 exact ⟨h1, h2, h3, h4, fun i hi hx => h5 i hi (fun e => hx (by injection e with e; exact e ▸ hb))⟩

def HR (x : Value) : Option (DataW Value × List MemPlace) := some (.held x, [])
def At (D : DataW Value) (k : Lit) : Option Value → Prop
 | none => Maps.has D k = false
 | some x => Maps.has D k = true ∧ ∀ z, D.atKey k z = .held x
theorem At.empty (k : Lit) : At (.map []) k none := by simp [At, Maps.has]
theorem At.put {D : DataW Value} {k : Lit} (hD : IsMap D) (hk : WideAt.IsKeyLit k) (x : Value) : At (D.put k (.held x)) k (some x) := ⟨has_put_same hD hk _, fun z => atKey_put_same hD hk _ _⟩
theorem At.put_other {D : DataW Value} {k k' : Lit} {o : Option Value} (h : At D k' o) (hne : k' ≠ k) (x : Value) : At (D.put k (.held x)) k' o := by
 cases o with
 | none => exact (has_put_other hne _).trans h
 | some y => exact ⟨(has_put_other hne _).trans h.1, fun z => (atKey_put_other hne _ _).trans (h.2 z)⟩
theorem At.del (D : DataW Value) (k : Lit) : At (D.del k) k none := has_del_same
theorem At.del_other {D : DataW Value} {k k' : Lit} {o : Option Value} (h : At D k' o) (hne : k' ≠ k) : At (D.del k) k' o := by
 cases o with
 | none => exact (has_del_other hne).trans h
 | some y => exact ⟨(has_del_other hne).trans h.1, fun z => (atKey_del_other hne _).trans (h.2 z)⟩
section
variable {kt : TypeId} {b n : Nat} {D : DataW Value}
theorem look2 {t e : TypeId} (h : w.ownsMap Tryz.prog kt HR b n D) (K : Keyed Tryz.prog kt) (ht : Tryz.prog.underlying t = some (.map kt e)) {z : Value} (hz : (zeroValue e).run Tryz.prog w = .ok z w) {key : Value} {kl : Lit} (hkey : keyOf Tryz.prog kt key = some kl) {o : Option Value} (ho : At D kl o) :
  (Instr.lookup t (.map (some b)) key true).run Tryz.prog w = .ok (.tuple #[o.getD z, .bool o.isSome]) w := by
 obtain ⟨x, ps, hr, hx⟩ := h.look_ok K ht hz (zd := .held z) (zp := []) rfl hkey
 simp only [HR, Option.some.injEq, Prod.mk.injEq] at hx
 replace hx := hx.1
 cases o with
 | none =>
  rw [atKey_of_not_has ho] at hx
  rw [DataW.held.injEq] at hx
  subst hx
  rw [hr, show Maps.has D kl = false from ho]; rfl
 | some y =>
  rw [ho.2] at hx
  rw [DataW.held.injEq] at hx
  subst hx
  rw [hr, ho.1]; rfl
theorem look1 {t e : TypeId} (h : w.ownsMap Tryz.prog kt HR b n D) (K : Keyed Tryz.prog kt) (ht : Tryz.prog.underlying t = some (.map kt e)) {z : Value} (hz : (zeroValue e).run Tryz.prog w = .ok z w) {key : Value} {kl : Lit} (hkey : keyOf Tryz.prog kt key = some kl) {o : Option Value} (ho : At D kl o) :
  (Instr.lookup t (.map (some b)) key false).run Tryz.prog w = .ok (o.getD z) w := by
 obtain ⟨x, ps, hr, hx⟩ := h.lookup K ht hz (zd := .held z) (zp := []) rfl hkey
 simp only [HR, Option.some.injEq, Prod.mk.injEq] at hx
 replace hx := hx.1
 cases o with
 | none =>
  rw [atKey_of_not_has ho] at hx
  rw [DataW.held.injEq] at hx
  subst hx
  exact hr
 | some y =>
  rw [ho.2] at hx
  rw [DataW.held.injEq] at hx
  subst hx
  exact hr
theorem owns_keep (h : w.ownsMap Tryz.prog kt HR b n D) (hk : w'.heap[b]? = w.heap[b]?) : w'.ownsMap Tryz.prog kt HR b n D := by
 obtain ⟨es, clock, hb, r⟩ := h
 exact ⟨es, clock, hk.trans hb, r⟩
theorem run_clear_map {t e : TypeId} (h : w.ownsMap Tryz.prog kt HR b n D) (ht : Tryz.prog.underlying t = some (.map kt e)) (ty : TypeId) :
  ∃ w', (Builtin.clear_ #[t] ty #[.map (some b)]).run Tryz.prog w = .ok (.tuple #[]) w' ∧ w'.ownsMap Tryz.prog kt HR b 0 (.map []) ∧ w.mapTurned w' b := by
 obtain ⟨es, clock, hb, F, hs, rfl⟩ := h
 refine ⟨setBlock w b (.map #[] clock), ?_, ⟨#[], clock, heap_setBlock_same hb _, ⟨by simp, stamped_empty clock, by simp⟩, Nat.le_refl _, rfl⟩, ⟨es, clock, #[], clock, hb, rfl⟩⟩
 simp [Builtin.clear_, run_underlying ht, MapKept.run_getObj_map hb, MapKept.run_setObj_map _ hb, Result.andThen, setBlock]
end
end Hi
end Go.Proofs.YtkajcldmolcllaaGreat
namespace Go.Proofs.YtkajcldmolcllaaGreat
namespace Cn
open Nm (bitsW ret_int ret_bool)
open Vt (VT Rep BoxAt below_drew Cloned put5 KidsAt HeadOk)
open Ev (EV FieldsOk evCells vCells EBox ERep zeroT take_drop tk ap cons_drop)
open Cm (rowOf)

def VNew (w : World) (base : Nat) (ro : Option Nat) (xs : List Value) (i : Nat) (t : VT) : Prop := ∃ lo hi k n f s A m c, base ≤ lo ∧ hi ≤ w.heap.size ∧ Rep w lo hi t (.agg #[.int .i64 k, .int .i64 n, .float .f64 f, .string s, .slice A m c]) ∧ (∀ r, ro = some r → r < lo ∨ hi ≤ r) ∧
 ∀ j, j < 5 → xs[i * 5 + j]? = (#[Value.int .i64 k, .int .i64 n, .float .f64 f, .string s, .slice A m c])[j]?
def VsAt (w : World) (base : Nat) (A : Option Addr) (cap n : Nat) (ts : List VT) : Prop := ts.length = n ∧ ∃ xs, w.ownsRow base 51 5 (.slice A n cap) n xs ∧ ∀ i (h : i < ts.length), VNew w base (rowOf A) xs i ts[i]

theorem VNew.keep {w w' : World} {base : Nat} {ro : Option Nat} {xs : List Value} {i : Nat} {t : VT} (h : VNew w base ro xs i t) (hz : w.heap.size ≤ w'.heap.size) (ho : ∀ b, b < w.heap.size → some b ≠ ro → w'.heap[b]? = w.heap[b]?) : VNew w' base ro xs i t := by
 obtain ⟨lo, hi, k, n, f, s, A, m, c, h0, h1, h2, h3, h4⟩ := h
 refine ⟨lo, hi, k, n, f, s, A, m, c, h0, Nat.le_trans h1 hz, h2.keep fun b o hb1 hb2 => ?_, h3, h4⟩
 exact World.cell?_of_block (a := ⟨b, o, none⟩) (ho b (by omega) (fun e => by have := h3 b e.symm; omega))

theorem VsAt.setCell {w : World} {base : Nat} {A : Option Addr} {cap n : Nat} {ts : List VT} (h : VsAt w base A cap n ts) {p : Addr} (hp : p.block < base) (v : Value) : VsAt (w.setCell p v) base A cap n ts := by
 obtain ⟨h0, xs, h1, h3⟩ := h
 have hb : ∀ b, base ≤ b → (w.setCell p v).heap[b]? = w.heap[b]? := fun b hb => Below.heap_setCell _ _ _ b (by omega)
 refine ⟨h0, xs, ⟨h1.1, ?_⟩, fun i hi => ?_⟩
 ·rcases h1.2 with h | ⟨r, cp, cur, q1, q2, q3, q4⟩
  ·exact .inl h
  ·exact .inr ⟨r, cp, cur, q1, q2, (hb r q2).trans q3, q4⟩
 ·obtain ⟨lo, hi', k, n, f, s, A, m, c, h0, h1, h2, h3, h4⟩ := h3 i hi
  exact ⟨lo, hi', k, n, f, s, A, m, c, h0, by simpa [World.setCell] using h1, h2.setCell (.inl (by omega)) v, h3, h4⟩

theorem VsAt.lt {w : World} {base : Nat} {A : Option Addr} {cap n : Nat} {ts : List VT} (h : VsAt w base A cap n ts) : ∀ r, rowOf A = some r → r < w.heap.size ∧ base ≤ r := fun r hr => by
 obtain ⟨-, xs, h1, -⟩ := h
 rcases h1.2 with ⟨h2, -⟩ | ⟨r', cp, cur, q1, q0, q3, -⟩
 ·rw [← Cm.rowOf_own A n cap, h2] at hr; cases hr
 ·rw [← Cm.rowOf_own A n cap, q1] at hr
  obtain rfl : r' = r := Option.some.inj hr
  exact ⟨(Array.getElem?_eq_some_iff.1 q3).1, q0⟩

end Cn
end Go.Proofs.YtkajcldmolcllaaGreat
namespace Go.Proofs.YtkajcldmolcllaaGreat
namespace Cn
open Nm (bitsW ret_int ret_bool)
open Vt (VT Rep BoxAt below_drew Cloned put5 KidsAt HeadOk)
open Ev (EV FieldsOk evCells vCells EBox ERep zeroT take_drop tk ap cons_drop)
open Cm (rowOf EvsIn EvsAt EvNew evsSame evSame)

def ECell (w : World) (ro : Option Nat) (xs : List Value) (i : Nat) (e : EV) : Prop := ∃ lo hi vk vn vf vs A m c, FieldsOk e ∧ Rep w lo hi e.v (vCells vk vn vf vs A m c) ∧ hi ≤ w.heap.size ∧ (∀ r, ro = some r → r < lo ∨ hi ≤ r) ∧
 ∀ j, j < 11 → xs[i * 11 + j]? = (evCells e vk vn vf vs A m c)[j]?
def ERow (w : World) (base : Nat) (A : Option Addr) (cap n : Nat) (es : List EV) : Prop := es.length = n ∧ ∃ xs, w.ownsRow base 53 11 (.slice A n cap) n xs ∧ ∀ i (h : i < es.length), ECell w (rowOf A) xs i es[i]

theorem ECell.keep {w w' : World} {ro : Option Nat} {xs : List Value} {i : Nat} {e : EV} (h : ECell w ro xs i e) (hz : w.heap.size ≤ w'.heap.size) (ho : ∀ b, b < w.heap.size → some b ≠ ro → w'.heap[b]? = w.heap[b]?) : ECell w' ro xs i e := by
 obtain ⟨lo, hi, vk, vn, vf, vs, A, m, c, h1, h2, h3, h5, h6⟩ := h
 refine ⟨lo, hi, vk, vn, vf, vs, A, m, c, h1, h2.keep fun b o hb1 hb2 => ?_, Nat.le_trans h3 hz, h5, h6⟩
 exact World.cell?_of_block (a := ⟨b, o, none⟩) (ho b (by omega) (fun e => by have := h5 b e.symm; omega))

theorem own_keep {w w' : World} {base n : Nat} {T : TypeId} {s : Nat} {v : Value} {xs : List Value} (h : w.ownsRow base T s v n xs) (hb : Below w.heap.size w w') : w'.ownsRow base T s v n xs := by
 refine ⟨h.1, ?_⟩
 rcases h.2 with h | ⟨r, cp, cur, q1, q2, q3, q4⟩
 ·exact .inl h
 ·exact .inr ⟨r, cp, cur, q1, q2, (hb.block r (Array.getElem?_eq_some_iff.1 q3).1).trans q3, q4⟩
theorem own_lt {w : World} {base n cap : Nat} {T : TypeId} {s : Nat} {A : Option Addr} {xs : List Value} (h : w.ownsRow base T s (.slice A n cap) n xs) : ∀ r, rowOf A = some r → r < w.heap.size ∧ base ≤ r := fun r hr => by
 rcases h.2 with ⟨h2, -⟩ | ⟨r', cp, cur, q1, q0, q3, -⟩
 ·rw [← Cm.rowOf_own A n cap, h2] at hr; cases hr
 ·rw [← Cm.rowOf_own A n cap, q1] at hr
  obtain rfl : r' = r := Option.some.inj hr
  exact ⟨(Array.getElem?_eq_some_iff.1 q3).1, q0⟩

theorem ERow.later {w w' : World} {base : Nat} {A : Option Addr} {cap n : Nat} {es : List EV} (h : ERow w base A cap n es) (hb : Below w.heap.size w w') : ERow w' base A cap n es := by
 obtain ⟨h0, xs, h1, h3⟩ := h
 exact ⟨h0, xs, own_keep h1 hb, fun i hi => (h3 i hi).keep hb.size (fun b hlt _ => hb.block b hlt)⟩

def BB (w : World) (g : Nat) (f : ByteArray) (at' : Nat) (A : Option Addr) (n c : Nat) : Prop := w.heap[g]? = some (.cells #[.string f, .int .u64 at', .slice A n c] 36 (0, 0))
theorem BB.cells {w : World} {g : Nat} {f : ByteArray} {at' : Nat} {A : Option Addr} {n c : Nat} (h : BB w g f at' A n c) :
  w.cell? ⟨g, 0, none⟩ = some (.string f) ∧ w.cell? ⟨g, 1, none⟩ = some (.int .u64 at') ∧ w.cell? ⟨g, 2, none⟩ = some (.slice A n c) ∧ ∀ o, w.frozen? ⟨g, o, none⟩ = false := by
 unfold BB at h; simp [World.cell?, World.frozen?, h]
theorem BB.later {w w' : World} {g B : Nat} {f : ByteArray} {at' : Nat} {A : Option Addr} {n c : Nat} (h : BB w g f at' A n c) (hb : Below B w w') (hg : g < B) : BB w' g f at' A n c := (hb.block g hg).trans h
theorem BB.lt {w : World} {g : Nat} {f : ByteArray} {at' : Nat} {A : Option Addr} {n c : Nat} (h : BB w g f at' A n c) : g < w.heap.size := (Array.getElem?_eq_some_iff.1 h).1
theorem BB.set {w : World} {g : Nat} {f : ByteArray} {at' : Nat} {A A2 : Option Addr} {n c n2 c2 : Nat} (h : BB w g f at' A n c) : BB (w.setCell ⟨g, 2, none⟩ (.slice A2 n2 c2)) g f at' A2 n2 c2 := by
 unfold BB at h ⊢; simp [World.setCell, Array.getElem?_modify, h]
theorem BB.far {w : World} {g b o : Nat} {f : ByteArray} {at' : Nat} {A : Option Addr} {n c : Nat} (h : BB w g f at' A n c) (hb : b ≠ g) (v : Value) : BB (w.setCell ⟨b, o, none⟩ v) g f at' A n c :=
 (Below.heap_setCell w ⟨b, o, none⟩ v g (fun e => hb e.symm)).trans h

theorem ev_one (e : EV) (vk vn : Int) (vf : Nat) (vs : ByteArray) (A : Option Addr) (m c : Nat) : ∀ u ∈ (evCells e vk vn vf vs A m c).toList, u.oneCell' = true := Cm.ev_one e vk vn vf vs A m c

end Cn
end Go.Proofs.YtkajcldmolcllaaGreat
namespace Go.Proofs.YtkajcldmolcllaaGreat
namespace Cn
open Nm (bitsW ret_int ret_bool)
open Vt (VT Rep BoxAt below_drew Cloned put5 KidsAt HeadOk)
open Ev (EV FieldsOk evCells vCells EBox ERep zeroT take_drop tk ap cons_drop)
open Cm (rowOf EvsIn EvsAt EvNew evsSame evSame)

theorem evs_setCell {w : World} {base : Nat} {A : Option Addr} {cap n : Nat} {es : List EV} (h : EvsAt w base A cap n es) {p : Addr} (hp : p.block < base) (v : Value) : EvsAt (w.setCell p v) base A cap n es := by
 obtain ⟨h0, xs, h1, h3⟩ := h
 have hb : ∀ b, base ≤ b → (w.setCell p v).heap[b]? = w.heap[b]? := fun b hb => Below.heap_setCell _ _ _ b (by omega)
 refine ⟨h0, xs, ⟨h1.1, ?_⟩, fun i hi => ?_⟩
 ·rcases h1.2 with h | ⟨r, cp, cur, q1, q2, q3, q4⟩
  ·exact .inl h
  ·exact .inr ⟨r, cp, cur, q1, q2, (hb r q2).trans q3, q4⟩
 ·obtain ⟨lo, hi', vk, vn, vf, vs, A, m, c, h0, h1, h2, h3, h5, hfr, h6⟩ := h3 i hi
  have hin := Cm.rep_row h2
  exact ⟨lo, hi', vk, vn, vf, vs, A, m, c, h0, h1, h2.setCell (.inl (by omega)) v, by simpa [World.setCell] using h3, h5, fun hp b off hA o => (Cm.frozen_of_block (hb b (by have := hin hp b off hA; omega)) o).trans (hfr hp b off hA o), h6⟩
theorem evs_base {w : World} {base base' : Nat} {A : Option Addr} {cap n : Nat} {es : List EV} (h : EvsAt w base A cap n es) (hb : base' ≤ base) : EvsAt w base' A cap n es := by
 obtain ⟨h0, xs, h1, h3⟩ := h
 refine ⟨h0, xs, ⟨h1.1, ?_⟩, fun i hi => ?_⟩
 ·rcases h1.2 with h | ⟨r, cp, cur, q1, q2, q3, q4⟩
  ·exact .inl h
  ·exact .inr ⟨r, cp, cur, q1, by omega, q3, q4⟩
 ·obtain ⟨lo, hi', vk, vn, vf, vs, A, m, c, h0, h1, h2, h3, h5, hfr, h6⟩ := h3 i hi
  exact ⟨lo, hi', vk, vn, vf, vs, A, m, c, by omega, h1, h2, h3, h5, hfr, h6⟩

theorem box_ev (w : World) (e : EV) (vk vn : Int) (vf : Nat) (vs : ByteArray) (A : Option Addr) (m c : Nat) : EBox (w.alloc (.cells (evCells e vk vn vf vs A m c) 53)) w.heap.size (evCells e vk vn vf vs A m c) := heap_alloc_new w _
end Cn
end Go.Proofs.YtkajcldmolcllaaGreat
