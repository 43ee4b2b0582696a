/- A builder of commands and how it lies. -/
import Derived.Test.YtpnepnhajpmccaaEvC
import Derived.Test.YtpnepnhajpmccaaVtL
import Derived.Deep.RegionLaw
import Derived.Deep.AppendLies
namespace Go.Proofs.Ytpnepnhajpmccaa
open Go.RowKit
set_option linter.unusedVariables false
namespace Cm
variable {X : Nat → Prop}
open Nm (ret_int ret_bool)
open Vt (VT Rep BoxAt below_drew)
open Ev (EV FieldsOk evCells vCells EBox)

theorem Try.infoE : (Try.prog.info? 45).map (fun i => (i.zero, i.size, i.bytes)) = some (some (.agg #[.int .i64 0, .int .u64 0, .int .i64 0, .int .u64 0, .string ⟨#[]⟩, .string ⟨#[]⟩, .int .i64 0, .int .i64 0, .float .f64 0, .string ⟨#[]⟩, .slice none 0 0]), 11, 128) := by kernel_rfl

/-- Element i of a row of events; its value lies apart from the blocks g and ro. -/
def EvCell (X : Nat → Prop) (w : World) (g : Nat) (ro : Option Nat) (xs : List Value) (i : Nat) (e : EV) : Prop := ∃ lo hi vk vn vf vs A m c, FieldsOk e ∧ Rep w lo hi e.v (vCells vk vn vf vs A m c) ∧ hi ≤ w.heap.size ∧ (g < lo ∨ hi ≤ g) ∧ (∀ r, ro = some r ∨ X r → r < lo ∨ hi ≤ r) ∧
  ∀ j, j < 11 → xs[i * 11 + j]? = (evCells e vk vn vf vs A m c)[j]?

/-- The block of a row. -/
def rowOf (A : Option Addr) : Option Nat := A.map (·.block)

theorem rowOf_own (A : Option Addr) (n c : Nat) : (Value.slice A n c).ownBlock = rowOf A := by cases A <;> rfl

def RowsAt (X : Nat → Prop) (w : World) (base g : Nat) (A : Option Addr) (cap : Nat) (es : List EV) : Prop := ∃ xs, w.ownsRow base 45 11 (.slice A es.length cap) es.length xs ∧ rowOf A ≠ some g ∧ ∀ i (h : i < es.length), EvCell X w g (rowOf A) xs i es[i]

/-- A builder. -/
structure BAt (X : Nat → Prop) (w : World) (base g : Nat) (A : Option Addr) (cap : Nat) (es : List EV) (closed : Int) (next at' : Nat) : Prop where
  blk : w.heap[g]? = some (.cells #[.slice A es.length cap, .int .i64 closed, .int .u64 next, .int .u64 at'] 60 (0, 0))
  base_le : base ≤ g
  rows : RowsAt X w base g A cap es

/-- Only the blocks g and ro, and what is new, have turned. -/
structure OnlyAt (w w' : World) (g : Nat) (ro : Option Nat) : Prop where
  os : w'.os = w.os
  tape : w'.tape = w.tape
  output : w'.output = w.output
  size : w.heap.size ≤ w'.heap.size
  block : ∀ b, b < w.heap.size → b ≠ g → some b ≠ ro → w'.heap[b]? = w.heap[b]?

theorem OnlyAt.of_below {w w' : World} {g : Nat} {ro : Option Nat} (h : Below w.heap.size w w') : OnlyAt w w' g ro := ⟨h.os, h.tape, h.output, h.size, fun b hb _ _ => h.block b hb⟩
theorem OnlyAt.trans {w w' w'' : World} {g : Nat} {ro : Option Nat} (h : OnlyAt w w' g ro) (k : OnlyAt w' w'' g ro) : OnlyAt w w'' g ro :=
  ⟨k.os.trans h.os, k.tape.trans h.tape, k.output.trans h.output, Nat.le_trans h.size k.size, fun b hb h1 h2 => (k.block b (Nat.lt_of_lt_of_le hb h.size) h1 h2).trans (h.block b hb h1 h2)⟩
theorem OnlyAt.below {w w' : World} {g base : Nat} {ro : Option Nat} (h : OnlyAt w w' g ro) (hg : base ≤ g) (hr : ∀ r, ro = some r → base ≤ r) (hb : base ≤ w.heap.size) : Below base w w' :=
  ⟨h.os, h.tape, h.output, h.size, fun b hlt => h.block b (by omega) (by omega) (fun e => by have := hr b e.symm; omega)⟩
theorem OnlyAt.set {w w' : World} {g : Nat} {ro : Option Nat} (h : OnlyAt w w' g ro) (o : Nat) (v : Value) : OnlyAt w (w'.setCell ⟨g, o, none⟩ v) g ro :=
  ⟨h.os, h.tape, h.output, by simpa [World.setCell] using h.size, fun b hb h1 h2 => (Below.heap_setCell w' ⟨g, o, none⟩ v b (by simpa using h1)).trans (h.block b hb h1 h2)⟩
theorem OnlyAt.setCells {w w' : World} {g r : Nat} (h : OnlyAt w w' g (some r)) : ∀ (o : Nat) (vs : List Value), OnlyAt w (w'.setCells r o vs) g (some r) := by
  intro o vs
  induction vs generalizing w' o with
  | nil => exact h
  | cons v vs ih =>
    refine ih (w' := w'.setCell ⟨r, o, none⟩ v) ⟨h.os, h.tape, h.output, by simpa [World.setCell] using h.size, fun b hb h1 h2 => ?_⟩ (o + 1)
    exact (Below.heap_setCell w' ⟨r, o, none⟩ v b (by simp only []; intro e; exact h2 (by rw [e]))).trans (h.block b hb h1 h2)

theorem EvCell.only {w w' : World} {g : Nat} {ro : Option Nat} {xs : List Value} {i : Nat} {e : EV} (h : EvCell X w g ro xs i e) (ho : OnlyAt w w' g ro) : EvCell X w' g ro xs i e := by
  obtain ⟨lo, hi, vk, vn, vf, vs, A, m, c, h1, h2, h3, h4, h5, h6⟩ := h
  refine ⟨lo, hi, vk, vn, vf, vs, A, m, c, h1, h2.keep fun b o hb1 hb2 => ?_, Nat.le_trans h3 ho.size, h4, h5, h6⟩
  exact World.cell?_of_block (a := ⟨b, o, none⟩) (ho.block b (by omega) (by omega) (fun e => by have := h5 b (.inl e.symm); omega))
theorem OnlyAt.any {w w' : World} {g : Nat} {ro : Option Nat} (h : OnlyAt w w' g none) : OnlyAt w w' g ro := ⟨h.os, h.tape, h.output, h.size, fun b hb h1 _ => h.block b hb h1 (by simp)⟩
theorem RowsAt.only {w w' : World} {base g : Nat} {A : Option Addr} {cap : Nat} {es : List EV} (h : RowsAt X w base g A cap es) (hb : OnlyAt w w' g none) : RowsAt X w' base g A cap es := by
  obtain ⟨xs, h1, h2, h3⟩ := h
  refine ⟨xs, ⟨h1.1, ?_⟩, h2, fun i hi => (h3 i hi).only hb.any⟩
  rcases h1.2 with h | ⟨r, cp, cur, q1, q2, q3, q4⟩
  · exact .inl h
  · refine .inr ⟨r, cp, cur, q1, q2, ?_, q4⟩
    injection q1 with q1
    subst q1
    exact (hb.block r (Array.getElem?_eq_some_iff.1 q3).1 (fun e => h2 (by rw [e]; rfl)) (by simp)).trans q3
theorem RowsAt.later {w w' : World} {base g : Nat} {A : Option Addr} {cap : Nat} {es : List EV} (h : RowsAt X w base g A cap es) (hb : Below w.heap.size w w') : RowsAt X w' base g A cap es := h.only (OnlyAt.of_below hb)
theorem BAt.later {w w' : World} {base g : Nat} {A : Option Addr} {cap : Nat} {es : List EV} {closed : Int} {next at' : Nat} (h : BAt X w base g A cap es closed next at') (hb : Below w.heap.size w w') : BAt X w' base g A cap es closed next at' :=
  ⟨(hb.block g (Array.getElem?_eq_some_iff.1 h.blk).1).trans h.blk, h.base_le, h.rows.later hb⟩
theorem BAt.lt {w : World} {base g : Nat} {A : Option Addr} {cap : Nat} {es : List EV} {closed : Int} {next at' : Nat} (h : BAt X w base g A cap es closed next at') : g < w.heap.size := (Array.getElem?_eq_some_iff.1 h.blk).1
theorem BAt.cells {w : World} {base g : Nat} {A : Option Addr} {cap : Nat} {es : List EV} {closed : Int} {next at' : Nat} (h : BAt X w base g A cap es closed next at') :
    w.cell? ⟨g, 0, none⟩ = some (.slice A es.length cap) ∧ w.cell? ⟨g, 1, none⟩ = some (.int .i64 closed) ∧ w.cell? ⟨g, 2, none⟩ = some (.int .u64 next) ∧ w.cell? ⟨g, 3, none⟩ = some (.int .u64 at') ∧ (∀ o, w.frozen? ⟨g, o, none⟩ = false) := by
  have := h.blk
  simp [World.cell?, World.frozen?, this]

/-- An event that comes to a builder. -/
def EvIn (X : Nat → Prop) (w : World) (g : Nat) (ro : Option Nat) (e : EV) (x : Value) : Prop := ∃ lo hi vk vn vf vs A m c, x = .agg (evCells e vk vn vf vs A m c) ∧ FieldsOk e ∧ Rep w lo hi e.v (vCells vk vn vf vs A m c) ∧ hi ≤ w.heap.size ∧ (g < lo ∨ hi ≤ g) ∧ (∀ r, ro = some r ∨ X r → r < lo ∨ hi ≤ r)

theorem evCells_get (e : EV) (vk vn : Int) (vf : Nat) (vs : ByteArray) (A : Option Addr) (m c : Nat) : (evCells e vk vn vf vs A m c).size = 11 := rfl

/-- What is there behind an append and the store of the row. -/
theorem add_done {w W w' : World} {base g r H : Nat} {A : Option Addr} {cap cap' : Nat} {es : List EV} {e : EV} {closed closed' : Int} {next at' : Nat} {xs : List Value} {lo hi : Nat} {vk vn : Int} {vf : Nat} {vs : ByteArray} {A' : Option Addr} {m c : Nat}
    (hb : BAt X w base g A cap es closed next at') (hx : rowOf A ≠ some g ∧ ∀ i (h : i < es.length), EvCell X w g (rowOf A) xs i es[i]) (hlx : xs.length = es.length * 11) (hW : OnlyAt w W g none)
    (hWg : W.heap[g]? = some (.cells #[.slice A es.length cap, .int .i64 closed', .int .u64 next, .int .u64 at'] 60 (0, 0)))
    (hf : FieldsOk e) (hv : Rep w lo hi e.v (vCells vk vn vf vs A' m c)) (hz : hi ≤ w.heap.size) (hg : g < lo ∨ hi ≤ g) (hrr : ∀ r, rowOf A = some r ∨ X r → r < lo ∨ hi ≤ r)
    (hown : w'.ownsRow base 45 11 (.slice (some ⟨r, 0, none⟩) (es.length + 1) cap') (es.length + 1) (xs ++ (evCells e vk vn vf vs A' m c).toList)) (hgrow : W.grownBy w' (rowOf A)) (hat : rowOf A = some r ∨ r = H) (hH : w.heap.size ≤ H) (hrl : r < w'.heap.size) :
    BAt X (w'.setCell ⟨g, 0, none⟩ (.slice (some ⟨r, 0, none⟩) (es.length + 1) cap')) base g (some ⟨r, 0, none⟩) cap' (es ++ [e]) closed' next at' ∧ OnlyAt w (w'.setCell ⟨g, 0, none⟩ (.slice (some ⟨r, 0, none⟩) (es.length + 1) cap')) g (rowOf A) ∧ (rowOf A = some r ∨ w.heap.size ≤ r) := by
  have hgw := hb.lt
  have ho : OnlyAt w w' g (rowOf A) := hW.any.trans ⟨hgrow.os, hgrow.tape, hgrow.output, hgrow.size, fun b hb _ h => hgrow.block b hb h⟩
  have hg' : w'.heap[g]? = some (.cells #[.slice A es.length cap, .int .i64 closed', .int .u64 next, .int .u64 at'] 60 (0, 0)) := (hgrow.block g (Nat.lt_of_lt_of_le hgw hW.size) (fun e => hx.1 e.symm)).trans hWg
  have hrg : r ≠ g := by
    rcases hat with h | h
    · intro e; exact hx.1 (by rw [h, e])
    · omega
  have hset : ∀ b, b ≠ g → (w'.setCell ⟨g, 0, none⟩ (.slice (some ⟨r, 0, none⟩) (es.length + 1) cap')).heap[b]? = w'.heap[b]? := fun b hb => Below.heap_setCell w' ⟨g, 0, none⟩ _ b (by simpa using hb)
  refine ⟨⟨?_, hb.base_le, ?_⟩, ho.set _ _, hat.imp id (fun h => by omega)⟩
  · simp [World.setCell, Array.getElem?_modify, hg']
  · refine ⟨xs ++ (evCells e vk vn vf vs A' m c).toList, ?_, by simp only [rowOf, Option.map_some]; intro e; exact hrg (Option.some.inj e), ?_⟩
    · rw [List.length_append, List.length_singleton]
      refine ⟨hown.1, ?_⟩
      rcases hown.2 with ⟨h, -⟩ | ⟨r2, cp, cur, q1, q2, q3, q4⟩
      · cases h
      · refine .inr ⟨r2, cp, cur, q1, q2, ?_, q4⟩
        injection q1 with q1 _ _
        obtain rfl : r = r2 := congrArg Addr.block (Option.some.inj q1)
        exact (hset r hrg).trans q3
    · intro i hil
      have key : ∀ {lo hi : Nat} {vk vn : Int} {vf : Nat} {vs : ByteArray} {A'' : Option Addr} {m c : Nat} {t : VT}, Rep w lo hi t (vCells vk vn vf vs A'' m c) → hi ≤ w.heap.size → (g < lo ∨ hi ≤ g) → (∀ r, rowOf A = some r ∨ X r → r < lo ∨ hi ≤ r) →
          Rep (w'.setCell ⟨g, 0, none⟩ (.slice (some ⟨r, 0, none⟩) (es.length + 1) cap')) lo hi t (vCells vk vn vf vs A'' m c) ∧ hi ≤ (w'.setCell ⟨g, 0, none⟩ (.slice (some ⟨r, 0, none⟩) (es.length + 1) cap')).heap.size ∧ (∀ r2, rowOf (some ⟨r, 0, none⟩) = some r2 ∨ X r2 → r2 < lo ∨ hi ≤ r2) := by
        intro lo hi vk vn vf vs A'' m c t h1 h2 h3 h4
        refine ⟨h1.keep fun b o hb1 hb2 => ?_, Nat.le_trans h2 (ho.set 0 _).size, fun r2 hr2 => ?_⟩
        · exact World.cell?_of_block (a := ⟨b, o, none⟩) ((ho.set 0 _).block b (by omega) (by omega) (fun e => by have := h4 b (.inl e.symm); omega))
        · rcases hr2 with hr2 | hr2
          rotate_left 1
          · exact h4 r2 (.inr hr2)
          obtain rfl : r = r2 := Option.some.inj hr2
          rcases hat with h | h
          · exact h4 r (.inl h)
          · omega
      simp at hil
      by_cases hlt : i < es.length
      · rw [List.getElem_append_left hlt]
        obtain ⟨lo, hi, vk, vn, vf, vs, A2, m, c, p1, p2, p3, p4, p5, p6⟩ := hx.2 i hlt
        obtain ⟨k1, k2, k3⟩ := key p2 p3 p4 p5
        exact ⟨lo, hi, vk, vn, vf, vs, A2, m, c, p1, k1, k2, p4, k3, fun j hj => (List.getElem?_append_left (by omega)).trans (p6 j hj)⟩
      · obtain rfl : i = es.length := by omega
        rw [List.getElem_append_right (Nat.le_refl _)]
        simp only [Nat.sub_self, List.getElem_cons_zero]
        obtain ⟨k1, k2, k3⟩ := key hv hz hg hrr
        refine ⟨lo, hi, vk, vn, vf, vs, A', m, c, hf, k1, k2, hg, k3, fun j hj => ?_⟩
        rw [List.getElem?_append_right (by omega), hlx, Nat.add_sub_cancel_left, Array.getElem?_toList]
theorem setCells_heap {g : Nat} {t : TypeId} : ∀ (vs : List Value) (o : Nat) (w : World) (cur : Array Value), w.heap[g]? = some (.cells cur t (0, 0)) → o + vs.length ≤ cur.size →
    ∃ cur', (w.setCells g o vs).heap[g]? = some (.cells cur' t (0, 0)) ∧ cur'.size = cur.size ∧ (∀ q, q < o → cur'[q]? = cur[q]?) ∧ ∀ j (h : j < vs.length), cur'[o + j]? = some vs[j] := by
  intro vs
  induction vs with
  | nil => intro o w cur h _; exact ⟨cur, h, rfl, fun _ _ => rfl, fun j h => absurd h (by simp)⟩
  | cons v vs ih =>
    intro o w cur h hs
    simp only [List.length_cons] at hs
    have h1 : (w.setCell ⟨g, o, none⟩ v).heap[g]? = some (.cells (cur.setIfInBounds o v) t (0, 0)) := by simp [World.setCell, Array.getElem?_modify, h]
    obtain ⟨cur', k1, k2, k3, k4⟩ := ih (o + 1) _ _ h1 (by simp; omega)
    refine ⟨cur', k1, by simpa using k2, fun q hq => ?_, fun j hj => ?_⟩
    · rw [k3 q (by omega), Array.getElem?_setIfInBounds, if_neg (by omega)]
    · cases j with
      | zero =>
        rw [Nat.add_zero, k3 o (by omega), Array.getElem?_setIfInBounds, if_pos rfl, if_pos (by omega)]
        rfl
      | succ j =>
        have := k4 j (by simpa using hj)
        rw [show o + (j + 1) = o + 1 + j from by omega, this]
        rfl
end Cm
end Go.Proofs.Ytpnepnhajpmccaa
