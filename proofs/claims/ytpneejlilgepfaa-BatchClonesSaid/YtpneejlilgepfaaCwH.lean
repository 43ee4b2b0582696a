/- Lists of events that are read; lists of the reference's builder. -/
import Derived.Test.YtpneejlilgepfaaCwG
namespace Go.Proofs.Ytpneejlilgepfaa
open Go.RowKit
set_option linter.unusedVariables false
namespace Cm
variable {X : Nat → Prop}
open Nm (ret_int ret_bool)
open Vt (VT Rep BoxAt below_drew Cloned put5)
open Ev (EV FieldsOk evCells vCells EBox ERep zeroT)

/-- Two events are the same. -/
def evSame (a b : EV) : Bool := a.k == b.k && a.id == b.id && a.n == b.n && a.at' == b.at' && decide (a.name = b.name) && decide (a.text = b.text) && a.v.same b.v
theorem evSame_refl (a : EV) : evSame a a = true := by simp [evSame, Vt.same_refl]

/-- A list of events that can be read. -/
structure EvsIn (w : World) (A : Option Addr) (cap : Nat) (es : List EV) : Prop where
  le : es.length ≤ cap
  cap_le : cap ≤ maxLen
  at_ : 0 < es.length → ∃ b off, A = some ⟨b, off, none⟩ ∧ b < w.heap.size ∧ ∀ i (h : i < es.length), ∃ lo hi vk vn vf vs A' m c, FieldsOk es[i] ∧ Rep w lo hi es[i].v (vCells vk vn vf vs A' m c) ∧ hi ≤ w.heap.size ∧
    ∀ q, q < 11 → w.cell? ⟨b, off + i * 11 + q, none⟩ = (evCells es[i] vk vn vf vs A' m c)[q]?

theorem EvsIn.later {w w' : World} {A : Option Addr} {cap : Nat} {es : List EV} (h : EvsIn w A cap es) (hb : Below w.heap.size w w') : EvsIn w' A cap es := ⟨h.le, h.cap_le, fun hp => by
  obtain ⟨b, off, hA, hlt, h3⟩ := h.at_ hp
  refine ⟨b, off, hA, Nat.lt_of_lt_of_le hlt hb.size, fun i hi => ?_⟩
  obtain ⟨lo, hi', vk, vn, vf, vs, A', m, c, h4, h5, h6, h7⟩ := h3 i hi
  exact ⟨lo, hi', vk, vn, vf, vs, A', m, c, h4, h5.later (hb.mono h6), Nat.le_trans h6 hb.size, fun q hq => (hb.cell (p := ⟨b, _, none⟩) hlt).trans (h7 q hq)⟩⟩

theorem EvsAt.read {w : World} {base : Nat} {A : Option Addr} {cap n : Nat} {es : List EV} (h : EvsAt w base A cap n es) : EvsIn w A cap es := by
  have hle : es.length ≤ cap ∧ cap ≤ maxLen := by
    obtain ⟨rfl, xs, h1, -⟩ := h
    obtain ⟨A', cap', hv, h2, h3⟩ := Vt.own_form h1
    injection hv with _ _ hc
    subst hc
    exact ⟨h2, h3⟩
  refine ⟨hle.1, hle.2, fun hp => ?_⟩
  obtain ⟨r, lo, hi, vk, vn, vf, vs, A', m, c, rfl, hr, -⟩ := evs_cells h 0 hp
  refine ⟨r, 0, rfl, hr, fun i hi => ?_⟩
  obtain ⟨r', lo, hi', vk, vn, vf, vs, A', m, c, hA, -, -, -, -, -, h1, h2, h3, -, -, h4⟩ := evs_cells h i hi
  injection hA with hA
  injection hA with hr' _ _
  subst hr'
  exact ⟨lo, hi', vk, vn, vf, vs, A', m, c, h1, h2, h3, fun q hq => by rw [Nat.zero_add]; exact h4 q hq⟩

/-- A list of the reference's builder: its row is its own, the values are those that came in. -/
structure MAt (w : World) (base : Nat) (A : Option Addr) (cap : Nat) (es : List EV) : Prop where
  nil_ : es = [] → A = none ∧ cap = 0
  le : es.length ≤ cap
  cap_le : cap ≤ maxLen
  at_ : 0 < es.length → ∃ b, A = some ⟨b, 0, none⟩ ∧ base ≤ b ∧ b < w.heap.size ∧ ∀ i (h : i < es.length), ∃ vk vn vf vs A' m c, FieldsOk es[i] ∧ Rep w 0 base es[i].v (vCells vk vn vf vs A' m c) ∧
    ∀ q, q < 11 → w.cell? ⟨b, i * 11 + q, none⟩ = (evCells es[i] vk vn vf vs A' m c)[q]?

theorem MAt.frame {w w' : World} {base : Nat} {A : Option Addr} {cap : Nat} {es : List EV} (h : MAt w base A cap es) (hb : Below base w w') (hr : ∀ r, rowOf A = some r → w'.heap[r]? = w.heap[r]?) : MAt w' base A cap es := ⟨h.nil_, h.le, h.cap_le, fun hp => by
  obtain ⟨b, rfl, h1, h2, h3⟩ := h.at_ hp
  refine ⟨b, rfl, h1, Nat.lt_of_lt_of_le h2 hb.size, fun i hi => ?_⟩
  obtain ⟨vk, vn, vf, vs, A', m, c, h4, h5, h7⟩ := h3 i hi
  exact ⟨vk, vn, vf, vs, A', m, c, h4, h5.later hb, fun q hq => (World.cell?_of_block (a := ⟨b, _, none⟩) (hr b rfl)).trans (h7 q hq)⟩⟩
theorem MAt.row_lt {w : World} {base : Nat} {A : Option Addr} {cap : Nat} {es : List EV} (h : MAt w base A cap es) (hp : 0 < es.length) {r : Nat} (hr : rowOf A = some r) : base ≤ r ∧ r < w.heap.size := by
  obtain ⟨b, rfl, h1, h2, -⟩ := h.at_ hp
  obtain rfl := Option.some.inj hr
  exact ⟨h1, h2⟩
theorem MAt.nil (w : World) (base : Nat) : MAt w base none 0 [] := ⟨fun _ => ⟨rfl, rfl⟩, Nat.le_refl _, Nat.zero_le _, fun h => absurd h (by simp)⟩
theorem MAt.later {w w' : World} {base : Nat} {A : Option Addr} {cap : Nat} {es : List EV} (h : MAt w base A cap es) (hbs : base ≤ w.heap.size) (hb : Below w.heap.size w w') : MAt w' base A cap es := ⟨h.nil_, h.le, h.cap_le, fun hp => by
  obtain ⟨b, rfl, h1, h2, h3⟩ := h.at_ hp
  refine ⟨b, rfl, h1, Nat.lt_of_lt_of_le h2 hb.size, fun i hi => ?_⟩
  obtain ⟨vk, vn, vf, vs, A', m, c, h4, h5, h7⟩ := h3 i hi
  exact ⟨vk, vn, vf, vs, A', m, c, h4, h5.later (hb.mono hbs), fun q hq => (World.cell?_of_block (a := ⟨b, _, none⟩) (hb.block b h2)).trans (h7 q hq)⟩⟩
theorem MAt.read {w : World} {base : Nat} {A : Option Addr} {cap : Nat} {es : List EV} (h : MAt w base A cap es) (hbs : base ≤ w.heap.size) : EvsIn w A cap es := ⟨h.le, h.cap_le, fun hp => by
  obtain ⟨b, rfl, h1, h2, h3⟩ := h.at_ hp
  refine ⟨b, 0, rfl, h2, fun i hi => ?_⟩
  obtain ⟨vk, vn, vf, vs, A', m, c, h4, h5, h7⟩ := h3 i hi
  exact ⟨0, base, vk, vn, vf, vs, A', m, c, h4, h5, hbs, fun q hq => by rw [Nat.zero_add]; exact h7 q hq⟩⟩

/-! ### A builder under what others do -/
end Cm
end Go.Proofs.Ytpneejlilgepfaa
