/- Contract of the builder's Events. -/
/- The package of statements: alive; what is valid. -/
/- Lists of events that are read; lists of the reference's builder. -/
/- Contracts: the reference's Same of events and of lists of events. -/
import Derived.Test.YtpneejlilgepfaaGreatDoorMbaj
import Derived.Test.YtpneejlilgepfaaGreatDoorMbai
import Derived.Test.YtpneejlilgepfaaGreatDoorMbac
import Derived.Test.YtpneejlilgepfaaGreatDoorMbaf
import Derived.StillTailTactics
namespace Go.Proofs.YtpneejlilgepfaaGreatDoor
open Go.RowKit
set_option linter.unusedVariables false
namespace Cm
variable {X : Nat → Prop}
open Nm (ret_int ret_bool)
open Vt (VT Rep BoxAt below_drew Cloned put5)
open Ev (EV FieldsOk evCells vCells EBox ERep zeroT)

/-- Element i of a row of events that own their memory behind base. -/
def EvNew (w : World) (base : Nat) (ro : Option Nat) (xs : List Value) (i : Nat) (e : EV) : Prop := ∃ lo hi vk vn vf vs A m c, base ≤ lo ∧ FieldsOk e ∧ Rep w lo hi e.v (vCells vk vn vf vs A m c) ∧ hi ≤ w.heap.size ∧ (∀ r, ro = some r → r < lo ∨ hi ≤ r) ∧ (0 < e.v.l.length → ∀ b off, A = some ⟨b, off, none⟩ → ∀ o, w.frozen? ⟨b, o, none⟩ = false) ∧
  ∀ j, j < 11 → xs[i * 11 + j]? = (evCells e vk vn vf vs A m c)[j]?
def EvsAt (w : World) (base : Nat) (A : Option Addr) (cap n : Nat) (es : List EV) : Prop := es.length = n ∧ ∃ xs, w.ownsRow base 43 11 (.slice A n cap) n xs ∧ ∀ i (h : i < es.length), EvNew w base (rowOf A) xs i es[i]

theorem frozen_of_block {w w' : World} {b : Nat} (h : w'.heap[b]? = w.heap[b]?) (o : Nat) : w'.frozen? ⟨b, o, none⟩ = w.frozen? ⟨b, o, none⟩ := by simp [World.frozen?, h]

/-- Where the list of a value lies. -/
theorem rep_row {w : World} {lo hi : Nat} {t : VT} {vk vn : Int} {vf : Nat} {vs : ByteArray} {A : Option Addr} {m c : Nat} (h : Rep w lo hi t (vCells vk vn vf vs A m c)) : 0 < t.l.length → ∀ b off, A = some ⟨b, off, none⟩ → lo ≤ b ∧ b < hi := by
  intro hp b off hA
  obtain ⟨k, n, f, s, l, A', cap, rfl, hv, -, -, hk⟩ := h.open_
  injection hv with hv
  simp at hv
  obtain ⟨-, -, -, -, rfl, -, -⟩ := hv
  obtain ⟨b', off', hA', h1, h2, -⟩ := hk.at_ hp
  rw [hA] at hA'
  injection hA' with hA'
  injection hA' with hb _ _
  subst hb
  exact ⟨h1, h2⟩

theorem EvNew.keep {w w' : World} {base : Nat} {ro : Option Nat} {xs : List Value} {i : Nat} {e : EV} (h : EvNew w base ro xs i e) (hz : w.heap.size ≤ w'.heap.size) (ho : ∀ b, b < w.heap.size → some b ≠ ro → w'.heap[b]? = w.heap[b]?) : EvNew w' base ro xs i e := by
  obtain ⟨lo, hi, vk, vn, vf, vs, A, m, c, h0, h1, h2, h3, h5, hfr, h6⟩ := h
  have hin := rep_row h2
  refine ⟨lo, hi, vk, vn, vf, vs, A, m, c, h0, h1, h2.keep fun b o hb1 hb2 => ?_, Nat.le_trans h3 hz, h5, fun hp b off hA o => ?_, h6⟩
  · exact World.cell?_of_block (a := ⟨b, o, none⟩) (ho b (by omega) (fun e => by have := h5 b e.symm; omega))
  · obtain ⟨q1, q2⟩ := hin hp b off hA
    exact (frozen_of_block (ho b (by omega) (fun e => by have := h5 b e.symm; omega)) o).trans (hfr hp b off hA o)

theorem EvsAt.later {w w' : World} {base : Nat} {A : Option Addr} {cap n : Nat} {es : List EV} (h : EvsAt w base A cap n es) (hb : Below w.heap.size w w') : EvsAt w' base A cap n es := by
  obtain ⟨h0, xs, h1, h3⟩ := h
  refine ⟨h0, xs, ⟨h1.1, ?_⟩, fun i hi => (h3 i hi).keep hb.size (fun b hlt _ => hb.block b hlt)⟩
  rcases h1.2 with h | ⟨r, cp, cur, q1, q2, q3, q4⟩
  · exact .inl h
  · exact .inr ⟨r, cp, cur, q1, q2, (hb.block r (Array.getElem?_eq_some_iff.1 q3).1).trans q3, q4⟩

theorem EvsAt.push {W w' : World} {base r H : Nat} {A : Option Addr} {cap cap' n : Nat} {es : List EV} {e : EV} {xs : List Value} {lo hi : Nat} {vk vn : Int} {vf : Nat} {vs : ByteArray} {A' : Option Addr} {m c : Nat}
    (hlen : es.length = n) (hlx : xs.length = n * 11) (hx : ∀ i (h : i < es.length), EvNew W base (rowOf A) xs i es[i]) (hbl : base ≤ lo) (hf : FieldsOk e) (hv : Rep W lo hi e.v (vCells vk vn vf vs A' m c)) (hz : hi ≤ W.heap.size) (hrr : ∀ r, rowOf A = some r → r < lo ∨ hi ≤ r) (hfr : 0 < e.v.l.length → ∀ b off, A' = some ⟨b, off, none⟩ → ∀ o, W.frozen? ⟨b, o, none⟩ = false)
    (hown : w'.ownsRow base 43 11 (.slice (some ⟨r, 0, none⟩) (n + 1) cap') (n + 1) (xs ++ (evCells e vk vn vf vs A' m c).toList)) (hgrow : W.grownBy w' (rowOf A)) (hat : rowOf A = some r ∨ r = H) (hH : W.heap.size ≤ H) :
    EvsAt w' base (some ⟨r, 0, none⟩) cap' (n + 1) (es ++ [e]) := by
  have key : ∀ {lo hi : Nat}, hi ≤ W.heap.size → (∀ r, rowOf A = some r → r < lo ∨ hi ≤ r) → ∀ r2, rowOf (some ⟨r, 0, none⟩) = some r2 → r2 < lo ∨ hi ≤ r2 := by
    intro lo hi h1 h2 r2 hr2
    obtain rfl : r = r2 := Option.some.inj hr2
    rcases hat with h | h
    · exact h2 r h
    · omega
  refine ⟨by simp [hlen], _, hown, fun i hil => ?_⟩
  simp at hil
  by_cases hlt : i < es.length
  · rw [List.getElem_append_left hlt]
    obtain ⟨lo', hi', vk', vn', vf', vs', A2', m', c', q0, q1, q2, q3, q5, qf, q6⟩ := hx i hlt
    have hin := rep_row q2
    refine ⟨lo', hi', vk', vn', vf', vs', A2', m', c', q0, q1, q2.keep fun b o hb1 hb2 => ?_, Nat.le_trans q3 hgrow.size, key q3 q5, fun hp b off hA o => ?_, fun j hj => (List.getElem?_append_left (by omega)).trans (q6 j hj)⟩
    rotate_left 1
    · obtain ⟨z1, z2⟩ := hin hp b off hA
      exact (frozen_of_block (hgrow.block b (by omega) (fun e => by have := q5 b e.symm; omega)) o).trans (qf hp b off hA o)
    exact World.cell?_of_block (a := ⟨b, o, none⟩) (hgrow.block b (by omega) (fun e => by have := q5 b e.symm; omega))
  · obtain rfl : i = es.length := by omega
    rw [List.getElem_append_right (Nat.le_refl _)]
    simp only [Nat.sub_self, List.getElem_cons_zero]
    have hin := rep_row hv
    refine ⟨lo, hi, vk, vn, vf, vs, A', m, c, hbl, hf, hv.keep fun b o hb1 hb2 => ?_, Nat.le_trans hz hgrow.size, key hz hrr, fun hp b off hA o => ?_, fun j hj => ?_⟩
    · exact World.cell?_of_block (a := ⟨b, o, none⟩) (hgrow.block b (by omega) (fun e => by have := hrr b e.symm; omega))
    · obtain ⟨z1, z2⟩ := hin hp b off hA
      exact (frozen_of_block (hgrow.block b (by omega) (fun e => by have := hrr b e.symm; omega)) o).trans (hfr hp b off hA o)
    · rw [List.getElem?_append_right (by omega), hlx, hlen, Nat.add_sub_cancel_left, Array.getElem?_toList]

/-- The cells of element j of a builder's row. -/
theorem rows_cells {w : World} {base g : Nat} {A : Option Addr} {cap : Nat} {es : List EV} (h : RowsAt X w base g A cap es) (j : Nat) (hj : j < es.length) :
    ∃ r lo hi vk vn vf vs A' m c, A = some ⟨r, 0, none⟩ ∧ r < w.heap.size ∧ FieldsOk es[j] ∧ Rep w lo hi es[j].v (vCells vk vn vf vs A' m c) ∧ hi ≤ w.heap.size ∧ es.length ≤ cap ∧ cap ≤ maxLen ∧ ∀ q, q < 11 → w.cell? ⟨r, j * 11 + q, none⟩ = (evCells es[j] vk vn vf vs A' m c)[q]? := by
  obtain ⟨xs, h1, h2, h3⟩ := h
  obtain ⟨lo, hi, vk, vn, vf, vs, A', m, c, p1, p2, p3, p4, p5, p6⟩ := h3 j hj
  rcases h1.2 with ⟨-, h0⟩ | ⟨r, cp, cur, q1, q2, q3, q4, q5, q6, q7⟩
  · omega
  · injection q1 with q1 _ q1'
    subst q1'
    refine ⟨r, lo, hi, vk, vn, vf, vs, A', m, c, q1, (Array.getElem?_eq_some_iff.1 q3).1, p1, p2, p3, q4, q5, fun q hq => ?_⟩
    rw [← p6 q hq, ← q7, List.getElem?_take_of_lt (by omega), Array.getElem?_toList]
    simp [World.cell?, q3]

theorem ev_one (e : EV) (vk vn : Int) (vf : Nat) (vs : ByteArray) (A : Option Addr) (m c : Nat) : ∀ u ∈ (evCells e vk vn vf vs A m c).toList, u.oneCell' = true := by
  intro u hu
  simp [evCells] at hu
  rcases hu with rfl | rfl | rfl | rfl | rfl | rfl | rfl | rfl | rfl | rfl | rfl <;> rfl

theorem evs_nil (w : World) (base : Nat) : EvsAt w base none 0 0 [] := ⟨rfl, [], ⟨rfl, .inl ⟨rfl, rfl⟩⟩, fun i h => absurd h (by simp)⟩

end Cm
end Go.Proofs.YtpneejlilgepfaaGreatDoor
namespace Go.Proofs.YtpneejlilgepfaaGreatDoor
open Go.RowKit
set_option linter.unusedVariables false
namespace Cm
variable {X : Nat → Prop}
open Nm (ret_int ret_bool)
open Vt (VT Rep BoxAt below_drew Cloned put5)
open Ev (EV FieldsOk evCells vCells EBox ERep zeroT)

theorem sched_valid (name : ByteArray) (t : VT) (n : Nat) (hn : 0 < n) : (withId (schedE name t) n).valid = ((!name.toList.isEmpty && decide (name.size ≤ 1000)) && t.valid 8) := by
  simp [Ev.EV.valid, schedE, withId, Ev.goodL, Ev.fieldsOf, Ev.pickB, hn]
  rfl
theorem compl_valid (t : VT) : (complE t).valid = t.valid 8 := by
  simp [Ev.EV.valid, complE, Ev.goodL, Ev.fieldsOf, Ev.pickB]
theorem zero_same : VT.same zeroT zeroT = true := by
  unfold zeroT
  rw [Vt.same_mk]
  simp
theorem arm_valid (n k : Nat) (hk : 0 < k) (hn : n ≤ 9223372036854775807) : (withId (armE n) k).valid = true := by
  simp [Ev.EV.valid, armE, withId, Ev.goodL, Ev.fieldsOf, Ev.pickB, hk, hn, zero_same]
theorem shortOf_le (s : ByteArray) : (shortOf s).size ≤ 1000 := by
  unfold shortOf
  split
  · assumption
  · rw [ByteArray.size_extract]; omega
theorem fail_valid (s : ByteArray) : (failE s).valid = true := by
  simp [Ev.EV.valid, failE, Ev.goodL, Ev.fieldsOf, Ev.pickB, shortOf_le, zero_same]
theorem panic_valid (s : ByteArray) : (panicE s).valid = true := by
  simp [Ev.EV.valid, panicE, Ev.goodL, Ev.fieldsOf, Ev.pickB, shortOf_le, zero_same]

/-- The cells of element j of a list of events. -/
theorem evs_cells {w : World} {base : Nat} {A : Option Addr} {cap n : Nat} {es : List EV} (h : EvsAt w base A cap n es) (j : Nat) (hj : j < es.length) :
    ∃ r lo hi vk vn vf vs A' m c, A = some ⟨r, 0, none⟩ ∧ r < w.heap.size ∧ base ≤ r ∧ base ≤ lo ∧ (r < lo ∨ hi ≤ r) ∧ (0 < es[j].v.l.length → ∀ b off, A' = some ⟨b, off, none⟩ → ∀ o, w.frozen? ⟨b, o, none⟩ = false) ∧ FieldsOk es[j] ∧ Rep w lo hi es[j].v (vCells vk vn vf vs A' m c) ∧ hi ≤ w.heap.size ∧ n ≤ cap ∧ cap ≤ maxLen ∧ ∀ q, q < 11 → w.cell? ⟨r, j * 11 + q, none⟩ = (evCells es[j] vk vn vf vs A' m c)[q]? := by
  obtain ⟨h0, xs, h1, h3⟩ := h
  obtain ⟨lo, hi, vk, vn, vf, vs, A', m, c, p0, p1, p2, p3, p5, pf, p6⟩ := h3 j hj
  rcases h1.2 with ⟨-, h0'⟩ | ⟨r, cp, cur, q1, q2, q3, q4, q5, q6, q7⟩
  · omega
  · injection q1 with q1 _ q1'
    subst q1'
    refine ⟨r, lo, hi, vk, vn, vf, vs, A', m, c, q1, (Array.getElem?_eq_some_iff.1 q3).1, q2, p0, p5 r (by rw [q1]; rfl), pf, p1, p2, p3, q4, q5, fun q hq => ?_⟩
    rw [← p6 q hq, ← q7, List.getElem?_take_of_lt (by omega), Array.getElem?_toList]
    simp [World.cell?, q3]

theorem zero_slim : VT.Slim 900 zeroT := by
  unfold zeroT
  rw [Vt.slim_mk]
  exact ⟨Nat.zero_le _, Nat.zero_le _, fun i h => absurd h (by simp)⟩

theorem bs_arm : (BS.number ⟨[], 0, 4, 10⟩ (armE (Nm.addW 10 5))) = (⟨[withId (armE 15) 4], 0, 5, 10⟩, 4) := by
  have h : Nm.addW 10 5 = 15 := by decide
  rw [h, BS.number, if_pos ⟨arm_valid 15 4 (by omega) (by omega), rfl⟩]
  rfl

end Cm
end Go.Proofs.YtpneejlilgepfaaGreatDoor
namespace Go.Proofs.YtpneejlilgepfaaGreatDoor
open Go.RowKit
set_option linter.unusedVariables false
namespace Cm
variable {X : Nat → Prop}
open Nm (ret_int ret_bool)
open Vt (VT Rep BoxAt below_drew Cloned put5)
open Ev (EV FieldsOk evCells vCells EBox ERep zeroT)

/-- Two events are the same. -/
def evSame (a b : EV) : Bool := a.k == b.k && a.id == b.id && a.n == b.n && a.at' == b.at' && decide (a.name = b.name) && decide (a.text = b.text) && a.v.same b.v
theorem evSame_refl (a : EV) : evSame a a = true := by simp [evSame, Vt.same_refl]

/-- A list of events that can be read. -/
structure EvsIn (w : World) (A : Option Addr) (cap : Nat) (es : List EV) : Prop where
  le : es.length ≤ cap
  cap_le : cap ≤ maxLen
  at_ : 0 < es.length → ∃ b off, A = some ⟨b, off, none⟩ ∧ b < w.heap.size ∧ ∀ i (h : i < es.length), ∃ lo hi vk vn vf vs A' m c, FieldsOk es[i] ∧ Rep w lo hi es[i].v (vCells vk vn vf vs A' m c) ∧ hi ≤ w.heap.size ∧
    ∀ q, q < 11 → w.cell? ⟨b, off + i * 11 + q, none⟩ = (evCells es[i] vk vn vf vs A' m c)[q]?

theorem EvsIn.later {w w' : World} {A : Option Addr} {cap : Nat} {es : List EV} (h : EvsIn w A cap es) (hb : Below w.heap.size w w') : EvsIn w' A cap es := ⟨h.le, h.cap_le, fun hp => by
  obtain ⟨b, off, hA, hlt, h3⟩ := h.at_ hp
  refine ⟨b, off, hA, Nat.lt_of_lt_of_le hlt hb.size, fun i hi => ?_⟩
  obtain ⟨lo, hi', vk, vn, vf, vs, A', m, c, h4, h5, h6, h7⟩ := h3 i hi
  exact ⟨lo, hi', vk, vn, vf, vs, A', m, c, h4, h5.later (hb.mono h6), Nat.le_trans h6 hb.size, fun q hq => (hb.cell (p := ⟨b, _, none⟩) hlt).trans (h7 q hq)⟩⟩

theorem EvsAt.read {w : World} {base : Nat} {A : Option Addr} {cap n : Nat} {es : List EV} (h : EvsAt w base A cap n es) : EvsIn w A cap es := by
  have hle : es.length ≤ cap ∧ cap ≤ maxLen := by
    obtain ⟨rfl, xs, h1, -⟩ := h
    obtain ⟨A', cap', hv, h2, h3⟩ := Vt.own_form h1
    injection hv with _ _ hc
    subst hc
    exact ⟨h2, h3⟩
  refine ⟨hle.1, hle.2, fun hp => ?_⟩
  obtain ⟨r, lo, hi, vk, vn, vf, vs, A', m, c, rfl, hr, -⟩ := evs_cells h 0 hp
  refine ⟨r, 0, rfl, hr, fun i hi => ?_⟩
  obtain ⟨r', lo, hi', vk, vn, vf, vs, A', m, c, hA, -, -, -, -, -, h1, h2, h3, -, -, h4⟩ := evs_cells h i hi
  injection hA with hA
  injection hA with hr' _ _
  subst hr'
  exact ⟨lo, hi', vk, vn, vf, vs, A', m, c, h1, h2, h3, fun q hq => by rw [Nat.zero_add]; exact h4 q hq⟩

/-- A list of the reference's builder: its row is its own, the values are those that came in. -/
structure MAt (w : World) (base : Nat) (A : Option Addr) (cap : Nat) (es : List EV) : Prop where
  nil_ : es = [] → A = none ∧ cap = 0
  le : es.length ≤ cap
  cap_le : cap ≤ maxLen
  at_ : 0 < es.length → ∃ b, A = some ⟨b, 0, none⟩ ∧ base ≤ b ∧ b < w.heap.size ∧ ∀ i (h : i < es.length), ∃ vk vn vf vs A' m c, FieldsOk es[i] ∧ Rep w 0 base es[i].v (vCells vk vn vf vs A' m c) ∧
    ∀ q, q < 11 → w.cell? ⟨b, i * 11 + q, none⟩ = (evCells es[i] vk vn vf vs A' m c)[q]?

theorem MAt.frame {w w' : World} {base : Nat} {A : Option Addr} {cap : Nat} {es : List EV} (h : MAt w base A cap es) (hb : Below base w w') (hr : ∀ r, rowOf A = some r → w'.heap[r]? = w.heap[r]?) : MAt w' base A cap es := ⟨h.nil_, h.le, h.cap_le, fun hp => by
  obtain ⟨b, rfl, h1, h2, h3⟩ := h.at_ hp
  refine ⟨b, rfl, h1, Nat.lt_of_lt_of_le h2 hb.size, fun i hi => ?_⟩
  obtain ⟨vk, vn, vf, vs, A', m, c, h4, h5, h7⟩ := h3 i hi
  exact ⟨vk, vn, vf, vs, A', m, c, h4, h5.later hb, fun q hq => (World.cell?_of_block (a := ⟨b, _, none⟩) (hr b rfl)).trans (h7 q hq)⟩⟩
theorem MAt.row_lt {w : World} {base : Nat} {A : Option Addr} {cap : Nat} {es : List EV} (h : MAt w base A cap es) (hp : 0 < es.length) {r : Nat} (hr : rowOf A = some r) : base ≤ r ∧ r < w.heap.size := by
  obtain ⟨b, rfl, h1, h2, -⟩ := h.at_ hp
  obtain rfl := Option.some.inj hr
  exact ⟨h1, h2⟩
theorem MAt.nil (w : World) (base : Nat) : MAt w base none 0 [] := ⟨fun _ => ⟨rfl, rfl⟩, Nat.le_refl _, Nat.zero_le _, fun h => absurd h (by simp)⟩
theorem MAt.later {w w' : World} {base : Nat} {A : Option Addr} {cap : Nat} {es : List EV} (h : MAt w base A cap es) (hbs : base ≤ w.heap.size) (hb : Below w.heap.size w w') : MAt w' base A cap es := ⟨h.nil_, h.le, h.cap_le, fun hp => by
  obtain ⟨b, rfl, h1, h2, h3⟩ := h.at_ hp
  refine ⟨b, rfl, h1, Nat.lt_of_lt_of_le h2 hb.size, fun i hi => ?_⟩
  obtain ⟨vk, vn, vf, vs, A', m, c, h4, h5, h7⟩ := h3 i hi
  exact ⟨vk, vn, vf, vs, A', m, c, h4, h5.later (hb.mono hbs), fun q hq => (World.cell?_of_block (a := ⟨b, _, none⟩) (hb.block b h2)).trans (h7 q hq)⟩⟩
theorem MAt.read {w : World} {base : Nat} {A : Option Addr} {cap : Nat} {es : List EV} (h : MAt w base A cap es) (hbs : base ≤ w.heap.size) : EvsIn w A cap es := ⟨h.le, h.cap_le, fun hp => by
  obtain ⟨b, rfl, h1, h2, h3⟩ := h.at_ hp
  refine ⟨b, 0, rfl, h2, fun i hi => ?_⟩
  obtain ⟨vk, vn, vf, vs, A', m, c, h4, h5, h7⟩ := h3 i hi
  exact ⟨0, base, vk, vn, vf, vs, A', m, c, h4, h5, hbs, fun q hq => by rw [Nat.zero_add]; exact h7 q hq⟩⟩

/-! ### A builder under what others do -/
end Cm
end Go.Proofs.YtpneejlilgepfaaGreatDoor
namespace Go.Proofs.YtpneejlilgepfaaGreatDoor
open Go.RowKit
set_option linter.unusedVariables false
namespace Cm
open Nm (bitsW ret_int ret_bool)
open Vt (VT Rep BoxAt below_drew Cloned put5 toList_inj)
open Ev (EV FieldsOk evCells vCells EBox ERep zeroT)

/-- What Same asks of two events' own fields. -/
def HeadE (a b : EV) : Prop := a.k = b.k ∧ a.id = b.id ∧ a.n = b.n ∧ a.at' = b.at' ∧ a.name = b.name ∧ a.text = b.text
theorem evSame_head {a b : EV} (h : HeadE a b) : evSame a b = a.v.same b.v := by
  obtain ⟨h1, h2, h3, h4, h5, h6⟩ := h
  simp [evSame, h1, h2, h3, h4, h5, h6]
theorem evSame_not {a b : EV} (h : ¬ HeadE a b) : evSame a b = false := by
  rw [Bool.eq_false_iff]
  intro q
  simp [evSame] at q
  exact h ⟨q.1.1.1.1.1.1, q.1.1.1.1.1.2, q.1.1.1.1.2, q.1.1.1.2, q.1.1.2, q.1.2⟩

set_option maxRecDepth 100000 in
set_option maxHeartbeats 2000000 in
theorem rsev_any (a b : EV) (w : World) (lo hi lo' hi' : Nat) (x y : Value) (hR : ERep w lo hi a x) (hz : hi ≤ w.heap.size) (hR' : ERep w lo' hi' b y) (hz' : hi' ≤ w.heap.size) :
    Calls Tryz.prog 21 #[x, y] w fun r w' => r = .returned (.bool (evSame a b)) ∧ Below w.heap.size w w' := by
  obtain ⟨hf, vk, vn, vf, vs, A, m, c, rfl, hv⟩ := hR
  obtain ⟨hf', vk', vn', vf', vs', A', m', c', rfl, hv'⟩ := hR'
  have HB0 := Lib.hid fun Z Z' => ((Below.refl w.heap.size w).alloc (Nat.le_refl _) Z).alloc (by simp) Z'
  have HS := Lib.hid fun W (hW : Below w.heap.size w W) => Vt.rsame_any a.v b.v W lo hi lo' hi' _ _ (hv.later (hW.mono hz)) (Nat.le_trans hz hW.size) (hv'.later (hW.mono hz')) (Nat.le_trans hz' hW.size)
  clear hv hv' hf hf'
  obtain ⟨k, id, n, at', name, text, v⟩ := a
  obtain ⟨k', id', n', at'', name', text', v'⟩ := b
  unfold vCells at HS
  simp only at HS
  by_cases hh : HeadE ⟨k, id, n, at', name, text, v⟩ ⟨k', id', n', at'', name', text', v'⟩
  · rw [evSame_head hh]
    obtain ⟨h1, h2, h3, h4, h5, h6⟩ := hh
    simp only at h1 h2 h3 h4 h5 h6
    subst h1 h2 h3 h4 h5 h6
    unfold evCells
    go_enter Tryz.func21, Tryz.ntmps21
    go_wp2_with fail
    refine (HS.out _ (HB0.out _ _)).mono ?_
    rintro e w1 ⟨rfl, hb⟩
    have HB1 := Lib.hid ((HB0.out _ _).trans (hb.mono (HB0.out _ _).size))
    clear hb
    go_wp2_with fail
    go_ret
    exact ⟨ret_bool (by simp), HB1.out⟩
  · rw [evSame_not hh]
    have H := Lib.hid hh; clear hh
    unfold evCells
    go_enter Tryz.func21, Tryz.ntmps21
    go_wp2_with fail
    all_goals first
      | (go_ret; exact ⟨rfl, HB0.out _ _⟩)
      | (exfalso
         refine H.out ⟨?_, ?_, ?_, ?_, ?_, ?_⟩
         all_goals clear H HS HB0
         all_goals first
           | assumption
           | (exact (toList_inj _ _).1 (by assumption))
           | omega
           | (simp at *; omega))

/-- The cells of a list that is read. -/
theorem EvsIn.get {w : World} {A : Option Addr} {cap : Nat} {es : List EV} (h : EvsIn w A cap es) (i : Nat) (hi : i < es.length) :
    ∃ b off lo hi vk vn vf vs A' m c, A = some ⟨b, off, none⟩ ∧ b < w.heap.size ∧ FieldsOk es[i] ∧ Rep w lo hi es[i].v (vCells vk vn vf vs A' m c) ∧ hi ≤ w.heap.size ∧
      w.cell? ⟨b, off + i * 11, none⟩ = some (.int .i64 es[i].k) ∧ w.cell? ⟨b, off + i * 11 + 1, none⟩ = some (.int .u64 es[i].id) ∧ w.cell? ⟨b, off + i * 11 + 2, none⟩ = some (.int .i64 es[i].n) ∧ w.cell? ⟨b, off + i * 11 + 3, none⟩ = some (.int .u64 es[i].at') ∧
      w.cell? ⟨b, off + i * 11 + 4, none⟩ = some (.string es[i].name) ∧ w.cell? ⟨b, off + i * 11 + 5, none⟩ = some (.string es[i].text) ∧ w.cell? ⟨b, off + i * 11 + 6, none⟩ = some (.int .i64 vk) ∧ w.cell? ⟨b, off + i * 11 + 7, none⟩ = some (.int .i64 vn) ∧
      w.cell? ⟨b, off + i * 11 + 8, none⟩ = some (.float .f64 vf) ∧ w.cell? ⟨b, off + i * 11 + 9, none⟩ = some (.string vs) ∧ w.cell? ⟨b, off + i * 11 + 10, none⟩ = some (.slice A' m c) := by
  obtain ⟨b, off, hA, hlt, h3⟩ := h.at_ (by omega)
  obtain ⟨lo, hi', vk, vn, vf, vs, A', m, c, h4, h5, h6, h7⟩ := h3 i hi
  exact ⟨b, off, lo, hi', vk, vn, vf, vs, A', m, c, hA, hlt, h4, h5, h6, h7 0 (by omega), h7 1 (by omega), h7 2 (by omega), h7 3 (by omega), h7 4 (by omega), h7 5 (by omega), h7 6 (by omega), h7 7 (by omega), h7 8 (by omega), h7 9 (by omega), h7 10 (by omega)⟩

/-- Are two lists of events the same? -/
def evsSame (a b : List EV) : Bool := a.length == b.length && (a.zip b).all (fun p => evSame p.1 p.2)
theorem evsSame_refl (a : List EV) : evsSame a a = true := by
  simp only [evsSame, beq_self_eq_true, Bool.true_and, List.all_eq_true]
  rintro ⟨x, y⟩ h
  rw [List.zip_eq_zipWith] at h
  have : x = y := by
    rw [List.mem_iff_getElem] at h
    obtain ⟨i, hi, he⟩ := h
    simp at he
    exact he.1.symm.trans he.2
  subst this
  exact evSame_refl x

set_option maxRecDepth 100000 in
set_option maxHeartbeats 2000000 in
theorem sevs_any (es es' : List EV) (A A' : Option Addr) (cap cap' : Nat) (w : World) (h : EvsIn w A cap es) (h' : EvsIn w A' cap' es') :
    Calls Tryz.prog 11 #[.slice A es.length cap, .slice A' es'.length cap'] w fun r w' => r = .returned (.bool (evsSame es es')) ∧ Below w.heap.size w w' := by
  have hl := h.le
  have hc := h.cap_le
  have hl' := h'.le
  have hc' := h'.cap_le
  simp only [maxLen] at hc hc'
  have HK := Lib.hid h; have HK' := Lib.hid h'; clear h h'
  by_cases hll : es'.length = es.length
  · have HLL := Lib.hid hll
    have HR : Hid (evsSame es es' = (es.zip es').all (fun p => evSame p.1 p.2)) := Lib.hid (by simp [evsSame, hll])
    rw [HR.out, hll]
    rw [hll] at hl'
    clear hll HR
    go_enter Tryz.func11, Tryz.ntmps11
    go_wp2_with fail
    go_loopw [4, 5] (fun r i wr => ∃ (j : Nat), j ≤ es.length ∧ i = .int .i64 j ∧ r = .bool false ∧ ((es.zip es').take j).all (fun p => evSame p.1 p.2) = true ∧ Below w.heap.size w wr) (fun _ i _ => es.length - (intOf i).toNat)
    case atStart => exact ⟨0, by omega, rfl, rfl, rfl, Below.refl _ _⟩
    case round =>
      obtain ⟨j, hj, rfl, rfl, hy, hb⟩ := hrel
      have HY := Lib.hid hy; clear hy
      have HB := Lib.hid hb; clear hb
      by_cases hlt : j < es.length
      · obtain ⟨b, off, lo, hi, vk, vn, vf, vs, A1, m, c, rfl, hblt, hf, hv, hz, d0, d1, d2, d3, d4, d5, d6, d7, d8, d9, d10⟩ := (HK.out.later HB.out).get j hlt
        obtain ⟨b', off', lo', hi', vk', vn', vf', vs', A1', m', c', rfl, hblt', hf', hv', hz', g0, g1, g2, g3, g4, g5, g6, g7, g8, g9, g10⟩ := (HK'.out.later HB.out).get j (by have := HLL.out; omega)
        have HS := Lib.hid (rsev_any es[j] (es'[j]'(by have := HLL.out; omega)) wr.drew lo hi lo' hi' _ _ ⟨hf, vk, vn, vf, vs, A1, m, c, rfl, hv.drew⟩ hz ⟨hf', vk', vn', vf', vs', A1', m', c', rfl, hv'.drew⟩ hz')
        clear hf hf' hv hv'
        unfold evCells at HS
        go_wp2_with fail
        go_still_tail 8, (by kernel_rfl)
        go_wp2_with fail
        refine HS.out.mono ?_
        rintro e w1 ⟨rfl, hb1⟩
        have hb1' : Below wr.heap.size wr w1 := (below_drew (Below.refl _ _)).trans hb1
        clear hb1
        have HB1 := Lib.hid (HB.out.trans (hb1'.mono HB.out.size))
        clear hb1' HS d0 d1 d2 d3 d4 d5 d6 d7 d8 d9 d10 g0 g1 g2 g3 g4 g5 g6 g7 g8 g9 g10
        have hzl : j < (es.zip es').length := by rw [List.length_zip, HLL.out]; simpa using hlt
        have hge : evSame ((es.zip es')[j]'hzl).1 ((es.zip es')[j]'hzl).2 = evSame es[j] (es'[j]'(by have := HLL.out; omega)) := by rw [List.getElem_zip]
        have HGE := Lib.hid hge; clear hge
        cases hp : evSame es[j] (es'[j]'(by have := HLL.out; omega)) with
        | true =>
          have HP := Lib.hid hp; clear hp
          go_wp2_with fail
          go_roundw
          case rel => exact ⟨j + 1, by omega, by go_num, rfl, by rw [Vt.all_take_succ _ _ _ hzl, HY.out, HGE.out, HP.out]; rfl, HB1.out⟩
          case measure => simp [intOf]; omega
        | false =>
          have HP := Lib.hid hp; clear hp
          go_wp2_with fail
          go_ret
          exact ⟨ret_bool (by rw [Vt.all_false _ _ j hzl (by rw [HGE.out]; exact HP.out)]), HB1.out⟩
      · have hj' : j = es.length := by omega
        have HJ := Lib.hid hj'
        clear hj'
        go_wp2_with fail
        go_ret
        have hall : (es.zip es').all (fun p => evSame p.1 p.2) = true := by
          have := HY.out
          rw [HJ.out, List.take_of_length_le (by rw [List.length_zip, HLL.out]; simp)] at this
          exact this
        exact ⟨ret_bool (by rw [hall]), HB.out⟩
  · have HR : Hid (evsSame es es' = false) := Lib.hid (by rw [evsSame, Bool.and_eq_false_iff]; left; simpa using fun h => hll h.symm)
    have hne : ((es.length : Int) != (es'.length : Int)) = true := by simp; omega
    rw [HR.out]
    go_enter Tryz.func11, Tryz.ntmps11
    go_wp2_with fail
    go_ret
    exact ⟨rfl, Below.refl _ _⟩
end Cm
end Go.Proofs.YtpneejlilgepfaaGreatDoor
