/- Lists of events that are read; lists of the reference's builder. -/
import Derived.Test.YtpnepnhajpmccaaCwG
namespace Go.Proofs.Ytpnepnhajpmccaa
open Go.RowKit
set_option linter.unusedVariables false
namespace Cm
variable {X : Nat → Prop}
open Nm (ret_int ret_bool)
open Vt (VT Rep BoxAt below_drew Cloned put5)
open Ev (EV FieldsOk evCells vCells EBox ERep zeroT)

/-- Two events are the same. -/
def evSame (a b : EV) : Bool := a.k == b.k && a.id == b.id && a.n == b.n && a.at' == b.at' && decide (a.name = b.name) && decide (a.text = b.text) && a.v.same b.v
theorem evSame_refl (a : EV) : evSame a a = true := by simp [evSame, Vt.same_refl]

/-- A list of events that can be read. -/
structure EvsIn (w : World) (A : Option Addr) (cap : Nat) (es : List EV) : Prop where
  le : es.length ≤ cap
  cap_le : cap ≤ maxLen
  at_ : 0 < es.length → ∃ b off, A = some ⟨b, off, none⟩ ∧ b < w.heap.size ∧ ∀ i (h : i < es.length), ∃ lo hi vk vn vf vs A' m c, FieldsOk es[i] ∧ Rep w lo hi es[i].v (vCells vk vn vf vs A' m c) ∧ hi ≤ w.heap.size ∧
    ∀ q, q < 11 → w.cell? ⟨b, off + i * 11 + q, none⟩ = (evCells es[i] vk vn vf vs A' m c)[q]?

theorem EvsIn.later {w w' : World} {A : Option Addr} {cap : Nat} {es : List EV} (h : EvsIn w A cap es) (hb : Below w.heap.size w w') : EvsIn w' A cap es := ⟨h.le, h.cap_le, fun hp => by
  obtain ⟨b, off, hA, hlt, h3⟩ := h.at_ hp
  refine ⟨b, off, hA, Nat.lt_of_lt_of_le hlt hb.size, fun i hi => ?_⟩
  obtain ⟨lo, hi', vk, vn, vf, vs, A', m, c, h4, h5, h6, h7⟩ := h3 i hi
  exact ⟨lo, hi', vk, vn, vf, vs, A', m, c, h4, h5.later (hb.mono h6), Nat.le_trans h6 hb.size, fun q hq => (hb.cell (p := ⟨b, _, none⟩) hlt).trans (h7 q hq)⟩⟩

theorem EvsAt.read {w : World} {base : Nat} {A : Option Addr} {cap n : Nat} {es : List EV} (h : EvsAt w base A cap n es) : EvsIn w A cap es := by
  have hle : es.length ≤ cap ∧ cap ≤ maxLen := by
    obtain ⟨rfl, xs, h1, -⟩ := h
    obtain ⟨A', cap', hv, h2, h3⟩ := Vt.own_form h1
    injection hv with _ _ hc
    subst hc
    exact ⟨h2, h3⟩
  refine ⟨hle.1, hle.2, fun hp => ?_⟩
  obtain ⟨r, lo, hi, vk, vn, vf, vs, A', m, c, rfl, hr, -⟩ := evs_cells h 0 hp
  refine ⟨r, 0, rfl, hr, fun i hi => ?_⟩
  obtain ⟨r', lo, hi', vk, vn, vf, vs, A', m, c, hA, -, -, -, -, -, h1, h2, h3, -, -, h4⟩ := evs_cells h i hi
  injection hA with hA
  injection hA with hr' _ _
  subst hr'
  exact ⟨lo, hi', vk, vn, vf, vs, A', m, c, h1, h2, h3, fun q hq => by rw [Nat.zero_add]; exact h4 q hq⟩

/-- A list of the reference's builder: its row is its own, the values are those that came in. -/
structure MAt (w : World) (base : Nat) (A : Option Addr) (cap : Nat) (es : List EV) : Prop where
  nil_ : es = [] → A = none ∧ cap = 0
  le : es.length ≤ cap
  cap_le : cap ≤ maxLen
  at_ : 0 < es.length → ∃ b, A = some ⟨b, 0, none⟩ ∧ base ≤ b ∧ b < w.heap.size ∧ ∀ i (h : i < es.length), ∃ vk vn vf vs A' m c, FieldsOk es[i] ∧ Rep w 0 base es[i].v (vCells vk vn vf vs A' m c) ∧
    ∀ q, q < 11 → w.cell? ⟨b, i * 11 + q, none⟩ = (evCells es[i] vk vn vf vs A' m c)[q]?

theorem MAt.frame {w w' : World} {base : Nat} {A : Option Addr} {cap : Nat} {es : List EV} (h : MAt w base A cap es) (hb : Below base w w') (hr : ∀ r, rowOf A = some r → w'.heap[r]? = w.heap[r]?) : MAt w' base A cap es := ⟨h.nil_, h.le, h.cap_le, fun hp => by
  obtain ⟨b, rfl, h1, h2, h3⟩ := h.at_ hp
  refine ⟨b, rfl, h1, Nat.lt_of_lt_of_le h2 hb.size, fun i hi => ?_⟩
  obtain ⟨vk, vn, vf, vs, A', m, c, h4, h5, h7⟩ := h3 i hi
  exact ⟨vk, vn, vf, vs, A', m, c, h4, h5.later hb, fun q hq => (World.cell?_of_block (a := ⟨b, _, none⟩) (hr b rfl)).trans (h7 q hq)⟩⟩
theorem MAt.row_lt {w : World} {base : Nat} {A : Option Addr} {cap : Nat} {es : List EV} (h : MAt w base A cap es) (hp : 0 < es.length) {r : Nat} (hr : rowOf A = some r) : base ≤ r ∧ r < w.heap.size := by
  obtain ⟨b, rfl, h1, h2, -⟩ := h.at_ hp
  obtain rfl := Option.some.inj hr
  exact ⟨h1, h2⟩
theorem MAt.nil (w : World) (base : Nat) : MAt w base none 0 [] := ⟨fun _ => ⟨rfl, rfl⟩, Nat.le_refl _, Nat.zero_le _, fun h => absurd h (by simp)⟩
theorem MAt.later {w w' : World} {base : Nat} {A : Option Addr} {cap : Nat} {es : List EV} (h : MAt w base A cap es) (hbs : base ≤ w.heap.size) (hb : Below w.heap.size w w') : MAt w' base A cap es := ⟨h.nil_, h.le, h.cap_le, fun hp => by
  obtain ⟨b, rfl, h1, h2, h3⟩ := h.at_ hp
  refine ⟨b, rfl, h1, Nat.lt_of_lt_of_le h2 hb.size, fun i hi => ?_⟩
  obtain ⟨vk, vn, vf, vs, A', m, c, h4, h5, h7⟩ := h3 i hi
  exact ⟨vk, vn, vf, vs, A', m, c, h4, h5.later (hb.mono hbs), fun q hq => (World.cell?_of_block (a := ⟨b, _, none⟩) (hb.block b h2)).trans (h7 q hq)⟩⟩
theorem MAt.read {w : World} {base : Nat} {A : Option Addr} {cap : Nat} {es : List EV} (h : MAt w base A cap es) (hbs : base ≤ w.heap.size) : EvsIn w A cap es := ⟨h.le, h.cap_le, fun hp => by
  obtain ⟨b, rfl, h1, h2, h3⟩ := h.at_ hp
  refine ⟨b, 0, rfl, h2, fun i hi => ?_⟩
  obtain ⟨vk, vn, vf, vs, A', m, c, h4, h5, h7⟩ := h3 i hi
  exact ⟨0, base, vk, vn, vf, vs, A', m, c, h4, h5, hbs, fun q hq => by rw [Nat.zero_add]; exact h7 q hq⟩⟩

/-! ### A builder under what others do -/
theorem BAt.frame {w w' : World} {base g : Nat} {A : Option Addr} {cap : Nat} {es : List EV} {closed : Int} {next at' : Nat} (h : BAt X w base g A cap es closed next at') (hz : w.heap.size ≤ w'.heap.size)
    (hb : ∀ b, b < w.heap.size → ¬ X b → w'.heap[b]? = w.heap[b]?) (hg : ¬ X g) (hr : ∀ r, rowOf A = some r → ¬ X r) : BAt X w' base g A cap es closed next at' := by
  refine ⟨(hb g h.lt hg).trans h.blk, h.base_le, ?_⟩
  obtain ⟨xs, h1, h2, h3⟩ := h.rows
  refine ⟨xs, ⟨h1.1, ?_⟩, h2, fun i hi => ?_⟩
  · rcases h1.2 with h | ⟨r, cp, cur, q1, q2, q3, q4⟩
    · exact .inl h
    · refine .inr ⟨r, cp, cur, q1, q2, ?_, q4⟩
      injection q1 with q1
      subst q1
      exact (hb r (Array.getElem?_eq_some_iff.1 q3).1 (hr r rfl)).trans q3
  · obtain ⟨lo, hi, vk, vn, vf, vs, A, m, c, h1, h2, h3, h4, h5, h6⟩ := h3 i hi
    refine ⟨lo, hi, vk, vn, vf, vs, A, m, c, h1, h2.keep fun b o hb1 hb2 => ?_, Nat.le_trans h3 hz, h4, h5, h6⟩
    exact World.cell?_of_block (a := ⟨b, o, none⟩) (hb b (by omega) (fun e => by have := h5 b (.inr e); omega))
theorem BAt.hot {X' : Nat → Prop} {w : World} {base g : Nat} {A : Option Addr} {cap : Nat} {es : List EV} {closed : Int} {next at' : Nat} (h : BAt X w base g A cap es closed next at') (hX : ∀ b, X' b → X b ∨ w.heap.size ≤ b) : BAt X' w base g A cap es closed next at' := by
  refine ⟨h.blk, h.base_le, ?_⟩
  obtain ⟨xs, h1, h2, h3⟩ := h.rows
  refine ⟨xs, h1, h2, fun i hi => ?_⟩
  obtain ⟨lo, hi, vk, vn, vf, vs, A, m, c, h1, h2, h3, h4, h5, h6⟩ := h3 i hi
  refine ⟨lo, hi, vk, vn, vf, vs, A, m, c, h1, h2, h3, h4, fun r hr => ?_, h6⟩
  rcases hr with hr | hr
  · exact h5 r (.inl hr)
  · rcases hX r hr with h | h
    · exact h5 r (.inr h)
    · exact .inr (by omega)
theorem BH.frame {w w' : World} {base g : Nat} {A : Option Addr} {s : BS} (h : BH X w base g A s) (hz : w.heap.size ≤ w'.heap.size)
    (hb : ∀ b, b < w.heap.size → ¬ X b → w'.heap[b]? = w.heap[b]?) (hg : ¬ X g) (hr : ∀ r, rowOf A = some r → ¬ X r) : BH X w' base g A s := h.elim fun cap h => ⟨cap, h.frame hz hb hg hr⟩
theorem BH.hot {X' : Nat → Prop} {w : World} {base g : Nat} {A : Option Addr} {s : BS} (h : BH X w base g A s) (hX : ∀ b, X' b → X b ∨ w.heap.size ≤ b) : BH X' w base g A s := h.elim fun cap h => ⟨cap, h.hot hX⟩
theorem BH.row_lt {w : World} {base g : Nat} {A : Option Addr} {s : BS} (h : BH X w base g A s) {r : Nat} (hr : rowOf A = some r) : r < w.heap.size ∧ base ≤ r := h.elim fun cap h => h.row_lt hr
theorem BH.lt {w : World} {base g : Nat} {A : Option Addr} {s : BS} (h : BH X w base g A s) : g < w.heap.size ∧ base ≤ g := h.elim fun cap h => ⟨h.lt, h.base_le⟩
theorem BH.apart {w : World} {base g : Nat} {A : Option Addr} {s : BS} (h : BH X w base g A s) : rowOf A ≠ some g := h.elim fun cap h => h.rows.elim fun xs h => h.2.1
end Cm
end Go.Proofs.Ytpnepnhajpmccaa
