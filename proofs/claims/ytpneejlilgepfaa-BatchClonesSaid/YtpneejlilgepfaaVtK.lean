/- Contract of package value's Clone of a tree: a copy in new memory. -/
import Derived.Test.YtpneejlilgepfaaVtJ
import Derived.Deep.RegionHeld3
namespace Go.Proofs.Ytpneejlilgepfaa
open Go.RowKit
set_option linter.unusedVariables false
namespace Vt
open Nm (bitsW ret_int ret_bool)

/-- A list of values that is being copied in place: the first j elements are copies in new memory behind g. -/
def MixAt (w : World) (base : Nat) (l : List VT) (C : Nat → Array Value) (A : Option Addr) (j : Nat) : Prop := 0 < l.length → ∃ g cur, A = some ⟨g, 0, none⟩ ∧ base ≤ g ∧ g < w.heap.size ∧
  w.heap[g]? = some (.cells cur 33 (0, 0)) ∧ l.length * 5 ≤ cur.size ∧ ∀ i (h : i < l.length),
    (i < j → ∃ D, Rep w (g + 1) w.heap.size l[i] (.agg D) ∧ ∀ r, r < 5 → cur[i * 5 + r]? = D[r]?) ∧ (j ≤ i → ∀ r, r < 5 → cur[i * 5 + r]? = (C i)[r]?)

theorem mix_later {w w' : World} {base : Nat} {l : List VT} {C : Nat → Array Value} {A : Option Addr} {j : Nat} (h : MixAt w base l C A j) (hb : Below w.heap.size w w') : MixAt w' base l C A j := fun hp => by
  obtain ⟨g, cur, hA, h1, h2, h3, h4, h5⟩ := h hp
  have hz := hb.size
  refine ⟨g, cur, hA, h1, by omega, (hb.block g h2).trans h3, h4, fun i hi => ⟨fun hj => ?_, (h5 i hi).2⟩⟩
  obtain ⟨D, hD, hc⟩ := (h5 i hi).1 hj
  exact ⟨D, (hD.later hb).more (Nat.le_refl _) hz, hc⟩

/-- Five stores of a value into a row. -/
def put5 (w : World) (g o : Nat) (d0 d1 d2 d3 d4 : Value) : World :=
  ((((w.setCell ⟨g, o, none⟩ d0).setCell ⟨g, o + 1, none⟩ d1).setCell ⟨g, o + 2, none⟩ d2).setCell ⟨g, o + 3, none⟩ d3).setCell ⟨g, o + 4, none⟩ d4

theorem put5_size (w : World) (g o : Nat) (d0 d1 d2 d3 d4 : Value) : (put5 w g o d0 d1 d2 d3 d4).heap.size = w.heap.size := by simp [put5, World.setCell]
theorem put5_block (w : World) (g o : Nat) (d0 d1 d2 d3 d4 : Value) (t : TypeId) (cur : Array Value) (h : w.heap[g]? = some (.cells cur t (0, 0))) :
    (put5 w g o d0 d1 d2 d3 d4).heap[g]? = some (.cells (((((cur.setIfInBounds o d0).setIfInBounds (o + 1) d1).setIfInBounds (o + 2) d2).setIfInBounds (o + 3) d3).setIfInBounds (o + 4) d4) t (0, 0)) := by
  simp [put5, World.setCell, Array.getElem?_modify, h]
theorem put5_below {B : Nat} {w w' : World} {g o : Nat} {d0 d1 d2 d3 d4 : Value} (h : Below B w w') (hg : B ≤ g) : Below B w (put5 w' g o d0 d1 d2 d3 d4) := by
  unfold put5
  exact ((((h.setCell (p := ⟨g, o, none⟩) hg _).setCell (p := ⟨g, o + 1, none⟩) hg _).setCell (p := ⟨g, o + 2, none⟩) hg _).setCell (p := ⟨g, o + 3, none⟩) hg _).setCell (p := ⟨g, o + 4, none⟩) hg _
theorem put5_cell (w : World) (g o : Nat) (d0 d1 d2 d3 d4 : Value) (b p : Nat) (h : b ≠ g) : (put5 w g o d0 d1 d2 d3 d4).cell? ⟨b, p, none⟩ = w.cell? ⟨b, p, none⟩ := by
  have e (w : World) (q : Nat) (v : Value) : (w.setCell ⟨g, q, none⟩ v).cell? ⟨b, p, none⟩ = w.cell? ⟨b, p, none⟩ := World.cell?_setCell_other w ⟨g, q, none⟩ ⟨b, p, none⟩ v (fun x => by injection x with x; exact h x.symm)
  unfold put5
  rw [e, e, e, e, e]
theorem put5_other (w : World) (g o : Nat) (d0 d1 d2 d3 d4 : Value) (b : Nat) (h : b ≠ g) : (put5 w g o d0 d1 d2 d3 d4).heap[b]? = w.heap[b]? := by
  have e (w : World) (q : Nat) (v : Value) : (w.setCell ⟨g, q, none⟩ v).heap[b]? = w.heap[b]? := Below.heap_setCell w ⟨g, q, none⟩ v b h
  unfold put5
  rw [e, e, e, e, e]

theorem set5_get (cur : Array Value) (o : Nat) (d0 d1 d2 d3 d4 : Value) (hs : o + 5 ≤ cur.size) (q : Nat) :
    (((((cur.setIfInBounds o d0).setIfInBounds (o + 1) d1).setIfInBounds (o + 2) d2).setIfInBounds (o + 3) d3).setIfInBounds (o + 4) d4)[q]? =
      if q = o then some d0 else if q = o + 1 then some d1 else if q = o + 2 then some d2 else if q = o + 3 then some d3 else if q = o + 4 then some d4 else cur[q]? := by
  simp only [Array.getElem?_setIfInBounds, Array.size_setIfInBounds]
  by_cases h0 : q = o
  · subst h0; simp; omega
  by_cases h1 : q = o + 1
  · subst h1; simp; omega
  by_cases h2 : q = o + 2
  · subst h2; simp; omega
  by_cases h3 : q = o + 3
  · subst h3; simp; omega
  by_cases h4 : q = o + 4
  · subst h4; simp; omega
  · rw [if_neg (by omega), if_neg (by omega), if_neg (by omega), if_neg (by omega), if_neg (by omega), if_neg h0, if_neg h1, if_neg h2, if_neg h3, if_neg h4]

theorem mix_step {w : World} {base : Nat} {l : List VT} {C : Nat → Array Value} {A : Option Addr} {j g : Nat} {d0 d1 d2 d3 d4 : Value} (hj : j < l.length) (h : MixAt w base l C A j) (hA : A = some ⟨g, 0, none⟩)
    (hr : Rep w (g + 1) w.heap.size l[j] (.agg #[d0, d1, d2, d3, d4])) : MixAt (put5 w g (j * 5) d0 d1 d2 d3 d4) base l C A (j + 1) := fun hp => by
  obtain ⟨g', cur, hA', h1, h2, h3, h4, h5⟩ := h hp
  rw [hA] at hA'
  injection hA' with hA'
  injection hA' with hg _ _
  subst hg
  have keep : ∀ {t : VT} {v : Value}, Rep w (g + 1) w.heap.size t v → Rep (put5 w g (j * 5) d0 d1 d2 d3 d4) (g + 1) (put5 w g (j * 5) d0 d1 d2 d3 d4).heap.size t v := fun hq => by
    rw [put5_size]
    exact hq.keep fun b o hb _ => put5_cell _ _ _ _ _ _ _ _ b o (by omega)
  refine ⟨g, _, hA, h1, by rw [put5_size]; exact h2, put5_block _ _ _ _ _ _ _ _ _ cur h3, by simpa using h4, fun i hi => ⟨fun hij => ?_, fun hij r hr5 => ?_⟩⟩
  · by_cases e : i = j
    · subst e
      refine ⟨_, keep hr, fun r hr5 => ?_⟩
      rw [set5_get _ _ _ _ _ _ _ (by omega)]
      rcases (by omega : r = 0 ∨ r = 1 ∨ r = 2 ∨ r = 3 ∨ r = 4) with rfl | rfl | rfl | rfl | rfl <;> simp
    · obtain ⟨D, hD, hc⟩ := (h5 i hi).1 (by omega)
      refine ⟨D, keep hD, fun r hr5 => ?_⟩
      rw [set5_get _ _ _ _ _ _ _ (by omega), if_neg (by omega), if_neg (by omega), if_neg (by omega), if_neg (by omega), if_neg (by omega)]
      exact hc r hr5
  · rw [set5_get _ _ _ _ _ _ _ (by omega), if_neg (by omega), if_neg (by omega), if_neg (by omega), if_neg (by omega), if_neg (by omega)]
    exact (h5 i hi).2 (by omega) r hr5

/-- What a finished copy is. -/
theorem mix_done {w : World} {base : Nat} {l : List VT} {C : Nat → Array Value} {A : Option Addr} (h : MixAt w base l C A l.length) : KidsAt w base w.heap.size l A := ⟨fun hp => by
  obtain ⟨g, cur, hA, h1, h2, h3, h4, h5⟩ := h hp
  refine ⟨g, 0, hA, h1, h2, fun i hi => ?_⟩
  obtain ⟨D, hD, hc⟩ := (h5 i hi).1 hi
  obtain ⟨k, n, f, s, L, A', cap, e, hv, -⟩ := hD.open_
  injection hv with hv
  subst hv
  have hcell : ∀ r, r < 5 → w.cell? ⟨g, 0 + i * 5 + r, none⟩ = #[Value.int .i64 k, .int .i64 n, .float .f64 f, .string s, .slice A' L.length cap][r]? := fun r hr => by
    rw [← hc r hr]
    simp [World.cell?, h3]
  exact ⟨k, n, f, s, L, A', cap, e, by simpa using hcell 0 (by omega), by simpa using hcell 1 (by omega), by simpa using hcell 2 (by omega), by simpa using hcell 3 (by omega), by simpa using hcell 4 (by omega), hD.more (by omega) (Nat.le_refl _)⟩⟩
end Vt
end Go.Proofs.Ytpneejlilgepfaa
