/- A builder of commands and how it lies. -/
/- Contract of the builder's list: add. -/
/- Contract of the builder: number. -/
/- Contracts of the builder: end, short, New, Next, Closed. -/
/- Contracts of the builder: the five calls. -/
/- Contract of the builder's Events. -/
/- Rows of values of one's own; contract of the reference's Clone: a copy in new memory. -/
import Derived.Laws.Rows
import Derived.Laws.IdiomRangeMap
import Derived.Test.YtjfhnkhabipbdaaGreatDoorMjag
import Derived.Test.YtjfhnkhabipbdaaGreatDoorMjaf
import Derived.Deep.RegionLaw
import Derived.Deep.AppendLies
import Derived.Deep.RegionWith
import Derived.Laws.EntriesVeiled
import Derived.Test.YtjfhnkhabipbdaaGreatDoorMjab
namespace Go.Proofs.YtjfhnkhabipbdaaGreatDoor
open Go.RowKit
set_option linter.unusedVariables false
namespace Cm
variable {X : Nat → Prop}
open Nm (ret_int ret_bool)
open Vt (VT Rep BoxAt below_drew)
open Ev (EV FieldsOk evCells vCells EBox)

theorem Tryz.infoE : (Tryz.prog.info? 31).map (fun i => (i.zero, i.size, i.bytes)) = some (some (.agg #[.int .i64 0, .int .u64 0, .int .i64 0, .int .u64 0, .string ⟨#[]⟩, .string ⟨#[]⟩, .int .i64 0, .int .i64 0, .float .f64 0, .string ⟨#[]⟩, .slice none 0 0]), 11, 128) := by kernel_rfl

/-- Element i of a row of events; its value lies apart from the blocks g and ro. -/
def EvCell (X : Nat → Prop) (w : World) (g : Nat) (ro : Option Nat) (xs : List Value) (i : Nat) (e : EV) : Prop := ∃ lo hi vk vn vf vs A m c, FieldsOk e ∧ Rep w lo hi e.v (vCells vk vn vf vs A m c) ∧ hi ≤ w.heap.size ∧ (g < lo ∨ hi ≤ g) ∧ (∀ r, ro = some r ∨ X r → r < lo ∨ hi ≤ r) ∧
  ∀ j, j < 11 → xs[i * 11 + j]? = (evCells e vk vn vf vs A m c)[j]?

/-- The block of a row. -/
def rowOf (A : Option Addr) : Option Nat := A.map (·.block)

theorem rowOf_own (A : Option Addr) (n c : Nat) : (Value.slice A n c).ownBlock = rowOf A := by cases A <;> rfl

def RowsAt (X : Nat → Prop) (w : World) (base g : Nat) (A : Option Addr) (cap : Nat) (es : List EV) : Prop := ∃ xs, w.ownsRow base 31 11 (.slice A es.length cap) es.length xs ∧ rowOf A ≠ some g ∧ ∀ i (h : i < es.length), EvCell X w g (rowOf A) xs i es[i]

/-- A builder. -/
structure BAt (X : Nat → Prop) (w : World) (base g : Nat) (A : Option Addr) (cap : Nat) (es : List EV) (closed : Int) (next at' : Nat) : Prop where
  blk : w.heap[g]? = some (.cells #[.slice A es.length cap, .int .i64 closed, .int .u64 next, .int .u64 at'] 48 (0, 0))
  base_le : base ≤ g
  rows : RowsAt X w base g A cap es

/-- Only the blocks g and ro, and what is new, have turned. -/
structure OnlyAt (w w' : World) (g : Nat) (ro : Option Nat) : Prop where
  os : w'.os = w.os
  tape : w'.tape = w.tape
  output : w'.output = w.output
  size : w.heap.size ≤ w'.heap.size
  block : ∀ b, b < w.heap.size → b ≠ g → some b ≠ ro → w'.heap[b]? = w.heap[b]?

theorem OnlyAt.of_below {w w' : World} {g : Nat} {ro : Option Nat} (h : Below w.heap.size w w') : OnlyAt w w' g ro := ⟨h.os, h.tape, h.output, h.size, fun b hb _ _ => h.block b hb⟩
theorem OnlyAt.trans {w w' w'' : World} {g : Nat} {ro : Option Nat} (h : OnlyAt w w' g ro) (k : OnlyAt w' w'' g ro) : OnlyAt w w'' g ro :=
  ⟨k.os.trans h.os, k.tape.trans h.tape, k.output.trans h.output, Nat.le_trans h.size k.size, fun b hb h1 h2 => (k.block b (Nat.lt_of_lt_of_le hb h.size) h1 h2).trans (h.block b hb h1 h2)⟩
theorem OnlyAt.below {w w' : World} {g base : Nat} {ro : Option Nat} (h : OnlyAt w w' g ro) (hg : base ≤ g) (hr : ∀ r, ro = some r → base ≤ r) (hb : base ≤ w.heap.size) : Below base w w' :=
  ⟨h.os, h.tape, h.output, h.size, fun b hlt => h.block b (by omega) (by omega) (fun e => by have := hr b e.symm; omega)⟩
theorem OnlyAt.set {w w' : World} {g : Nat} {ro : Option Nat} (h : OnlyAt w w' g ro) (o : Nat) (v : Value) : OnlyAt w (w'.setCell ⟨g, o, none⟩ v) g ro :=
  ⟨h.os, h.tape, h.output, by simpa [World.setCell] using h.size, fun b hb h1 h2 => (Below.heap_setCell w' ⟨g, o, none⟩ v b (by simpa using h1)).trans (h.block b hb h1 h2)⟩
theorem EvCell.only {w w' : World} {g : Nat} {ro : Option Nat} {xs : List Value} {i : Nat} {e : EV} (h : EvCell X w g ro xs i e) (ho : OnlyAt w w' g ro) : EvCell X w' g ro xs i e := by
  obtain ⟨lo, hi, vk, vn, vf, vs, A, m, c, h1, h2, h3, h4, h5, h6⟩ := h
  refine ⟨lo, hi, vk, vn, vf, vs, A, m, c, h1, h2.keep fun b o hb1 hb2 => ?_, Nat.le_trans h3 ho.size, h4, h5, h6⟩
  exact World.cell?_of_block (a := ⟨b, o, none⟩) (ho.block b (by omega) (by omega) (fun e => by have := h5 b (.inl e.symm); omega))
theorem OnlyAt.any {w w' : World} {g : Nat} {ro : Option Nat} (h : OnlyAt w w' g none) : OnlyAt w w' g ro := ⟨h.os, h.tape, h.output, h.size, fun b hb h1 _ => h.block b hb h1 (by simp)⟩
theorem RowsAt.only {w w' : World} {base g : Nat} {A : Option Addr} {cap : Nat} {es : List EV} (h : RowsAt X w base g A cap es) (hb : OnlyAt w w' g none) : RowsAt X w' base g A cap es := by
  obtain ⟨xs, h1, h2, h3⟩ := h
  refine ⟨xs, ⟨h1.1, ?_⟩, h2, fun i hi => (h3 i hi).only hb.any⟩
  rcases h1.2 with h | ⟨r, cp, cur, q1, q2, q3, q4⟩
  · exact .inl h
  · refine .inr ⟨r, cp, cur, q1, q2, ?_, q4⟩
    injection q1 with q1
    subst q1
    exact (hb.block r (Array.getElem?_eq_some_iff.1 q3).1 (fun e => h2 (by rw [e]; rfl)) (by simp)).trans q3
theorem RowsAt.later {w w' : World} {base g : Nat} {A : Option Addr} {cap : Nat} {es : List EV} (h : RowsAt X w base g A cap es) (hb : Below w.heap.size w w') : RowsAt X w' base g A cap es := h.only (OnlyAt.of_below hb)
theorem BAt.later {w w' : World} {base g : Nat} {A : Option Addr} {cap : Nat} {es : List EV} {closed : Int} {next at' : Nat} (h : BAt X w base g A cap es closed next at') (hb : Below w.heap.size w w') : BAt X w' base g A cap es closed next at' :=
  ⟨(hb.block g (Array.getElem?_eq_some_iff.1 h.blk).1).trans h.blk, h.base_le, h.rows.later hb⟩
theorem BAt.lt {w : World} {base g : Nat} {A : Option Addr} {cap : Nat} {es : List EV} {closed : Int} {next at' : Nat} (h : BAt X w base g A cap es closed next at') : g < w.heap.size := (Array.getElem?_eq_some_iff.1 h.blk).1
theorem BAt.cells {w : World} {base g : Nat} {A : Option Addr} {cap : Nat} {es : List EV} {closed : Int} {next at' : Nat} (h : BAt X w base g A cap es closed next at') :
    w.cell? ⟨g, 0, none⟩ = some (.slice A es.length cap) ∧ w.cell? ⟨g, 1, none⟩ = some (.int .i64 closed) ∧ w.cell? ⟨g, 2, none⟩ = some (.int .u64 next) ∧ w.cell? ⟨g, 3, none⟩ = some (.int .u64 at') ∧ (∀ o, w.frozen? ⟨g, o, none⟩ = false) := by
  have := h.blk
  simp [World.cell?, World.frozen?, this]

/-- What is there behind an append and the store of the row. -/
theorem add_done {w W w' : World} {base g r H : Nat} {A : Option Addr} {cap cap' : Nat} {es : List EV} {e : EV} {closed closed' : Int} {next at' : Nat} {xs : List Value} {lo hi : Nat} {vk vn : Int} {vf : Nat} {vs : ByteArray} {A' : Option Addr} {m c : Nat}
    (hb : BAt X w base g A cap es closed next at') (hx : rowOf A ≠ some g ∧ ∀ i (h : i < es.length), EvCell X w g (rowOf A) xs i es[i]) (hlx : xs.length = es.length * 11) (hW : OnlyAt w W g none)
    (hWg : W.heap[g]? = some (.cells #[.slice A es.length cap, .int .i64 closed', .int .u64 next, .int .u64 at'] 48 (0, 0)))
    (hf : FieldsOk e) (hv : Rep w lo hi e.v (vCells vk vn vf vs A' m c)) (hz : hi ≤ w.heap.size) (hg : g < lo ∨ hi ≤ g) (hrr : ∀ r, rowOf A = some r ∨ X r → r < lo ∨ hi ≤ r)
    (hown : w'.ownsRow base 31 11 (.slice (some ⟨r, 0, none⟩) (es.length + 1) cap') (es.length + 1) (xs ++ (evCells e vk vn vf vs A' m c).toList)) (hgrow : W.grownBy w' (rowOf A)) (hat : rowOf A = some r ∨ r = H) (hH : w.heap.size ≤ H) (hrl : r < w'.heap.size) :
    BAt X (w'.setCell ⟨g, 0, none⟩ (.slice (some ⟨r, 0, none⟩) (es.length + 1) cap')) base g (some ⟨r, 0, none⟩) cap' (es ++ [e]) closed' next at' ∧ OnlyAt w (w'.setCell ⟨g, 0, none⟩ (.slice (some ⟨r, 0, none⟩) (es.length + 1) cap')) g (rowOf A) ∧ (rowOf A = some r ∨ w.heap.size ≤ r) := by
  have hgw := hb.lt
  have ho : OnlyAt w w' g (rowOf A) := hW.any.trans ⟨hgrow.os, hgrow.tape, hgrow.output, hgrow.size, fun b hb _ h => hgrow.block b hb h⟩
  have hg' : w'.heap[g]? = some (.cells #[.slice A es.length cap, .int .i64 closed', .int .u64 next, .int .u64 at'] 48 (0, 0)) := (hgrow.block g (Nat.lt_of_lt_of_le hgw hW.size) (fun e => hx.1 e.symm)).trans hWg
  have hrg : r ≠ g := by
    rcases hat with h | h
    · intro e; exact hx.1 (by rw [h, e])
    · omega
  have hset : ∀ b, b ≠ g → (w'.setCell ⟨g, 0, none⟩ (.slice (some ⟨r, 0, none⟩) (es.length + 1) cap')).heap[b]? = w'.heap[b]? := fun b hb => Below.heap_setCell w' ⟨g, 0, none⟩ _ b (by simpa using hb)
  refine ⟨⟨?_, hb.base_le, ?_⟩, ho.set _ _, hat.imp id (fun h => by omega)⟩
  · simp [World.setCell, Array.getElem?_modify, hg']
  · refine ⟨xs ++ (evCells e vk vn vf vs A' m c).toList, ?_, by simp only [rowOf, Option.map_some]; intro e; exact hrg (Option.some.inj e), ?_⟩
    · rw [List.length_append, List.length_singleton]
      refine ⟨hown.1, ?_⟩
      rcases hown.2 with ⟨h, -⟩ | ⟨r2, cp, cur, q1, q2, q3, q4⟩
      · cases h
      · refine .inr ⟨r2, cp, cur, q1, q2, ?_, q4⟩
        injection q1 with q1 _ _
        obtain rfl : r = r2 := congrArg Addr.block (Option.some.inj q1)
        exact (hset r hrg).trans q3
    · intro i hil
      have key : ∀ {lo hi : Nat} {vk vn : Int} {vf : Nat} {vs : ByteArray} {A'' : Option Addr} {m c : Nat} {t : VT}, Rep w lo hi t (vCells vk vn vf vs A'' m c) → hi ≤ w.heap.size → (g < lo ∨ hi ≤ g) → (∀ r, rowOf A = some r ∨ X r → r < lo ∨ hi ≤ r) →
          Rep (w'.setCell ⟨g, 0, none⟩ (.slice (some ⟨r, 0, none⟩) (es.length + 1) cap')) lo hi t (vCells vk vn vf vs A'' m c) ∧ hi ≤ (w'.setCell ⟨g, 0, none⟩ (.slice (some ⟨r, 0, none⟩) (es.length + 1) cap')).heap.size ∧ (∀ r2, rowOf (some ⟨r, 0, none⟩) = some r2 ∨ X r2 → r2 < lo ∨ hi ≤ r2) := by
        intro lo hi vk vn vf vs A'' m c t h1 h2 h3 h4
        refine ⟨h1.keep fun b o hb1 hb2 => ?_, Nat.le_trans h2 (ho.set 0 _).size, fun r2 hr2 => ?_⟩
        · exact World.cell?_of_block (a := ⟨b, o, none⟩) ((ho.set 0 _).block b (by omega) (by omega) (fun e => by have := h4 b (.inl e.symm); omega))
        · rcases hr2 with hr2 | hr2
          rotate_left 1
          · exact h4 r2 (.inr hr2)
          obtain rfl : r = r2 := Option.some.inj hr2
          rcases hat with h | h
          · exact h4 r (.inl h)
          · omega
      simp at hil
      by_cases hlt : i < es.length
      · rw [List.getElem_append_left hlt]
        obtain ⟨lo, hi, vk, vn, vf, vs, A2, m, c, p1, p2, p3, p4, p5, p6⟩ := hx.2 i hlt
        obtain ⟨k1, k2, k3⟩ := key p2 p3 p4 p5
        exact ⟨lo, hi, vk, vn, vf, vs, A2, m, c, p1, k1, k2, p4, k3, fun j hj => (List.getElem?_append_left (by omega)).trans (p6 j hj)⟩
      · obtain rfl : i = es.length := by omega
        rw [List.getElem_append_right (Nat.le_refl _)]
        simp only [Nat.sub_self, List.getElem_cons_zero]
        obtain ⟨k1, k2, k3⟩ := key hv hz hg hrr
        refine ⟨lo, hi, vk, vn, vf, vs, A', m, c, hf, k1, k2, hg, k3, fun j hj => ?_⟩
        rw [List.getElem?_append_right (by omega), hlx, Nat.add_sub_cancel_left, Array.getElem?_toList]
end Cm
end Go.Proofs.YtjfhnkhabipbdaaGreatDoor
namespace Go.Proofs.YtjfhnkhabipbdaaGreatDoor
open Go.RowKit
set_option linter.unusedVariables false
namespace Cm
variable {X : Nat → Prop}
open Nm (ret_int ret_bool)
open Vt (VT Rep BoxAt below_drew)
open Ev (EV FieldsOk evCells vCells EBox)

theorem closes_any (k : Int) (w : World) : Calls Tryz.prog 50 #[.int .i64 k] w fun e w' => e = .returned (.bool (decide (9 ≤ k ∧ k ≤ 11))) ∧ w = w' := by
  by_cases h : 9 ≤ k
  · have hb : decide (9 ≤ k) = true := by simpa using h
    go_enter Tryz.func50, Tryz.ntmps50
    go_wp2_with fail
    go_ret
    exact ⟨ret_bool (by simp [h]), rfl⟩
  · have hb : decide (9 ≤ k) = false := by simpa using h
    go_enter Tryz.func50, Tryz.ntmps50
    go_wp2_with fail
    go_ret
    exact ⟨ret_bool (by simp), rfl⟩

/-- A builder that is closed takes nothing more. -/
theorem add_closed (base g : Nat) (A : Option Addr) (cap : Nat) (es : List EV) (closed : Int) (hc : closed ≠ 0) (next at' : Nat) (e : EV) (vk vn : Int) (vf : Nat) (vs : ByteArray) (A' : Option Addr) (m c : Nat) (w : World) (hb : BAt X w base g A cap es closed next at') :
    Calls Tryz.prog 33 #[.pointer (some ⟨g, 0, none⟩), .agg (evCells e vk vn vf vs A' m c)] w fun r w' => r = .returned (.bool false) ∧ Below w.heap.size w w' := by
  obtain ⟨c0, c1, c2, c3, cf⟩ := hb.cells
  have hlt := hb.lt
  have hcb : (closed != 0) = true := by simpa using hc
  clear cf hb hc
  unfold evCells
  go_enter Tryz.func33, Tryz.ntmps33
  go_wp2_with fail
  go_ret
  exact ⟨rfl, (Below.refl _ _).alloc (Nat.le_refl _) _⟩

/-- The result of add. -/
def Added (X : Nat → Prop) (w w' : World) (base g : Nat) (A : Option Addr) (es : List EV) (e : EV) (k : Int) (next at' : Nat) : Prop :=
  ∃ r cap', BAt X w' base g (some ⟨r, 0, none⟩) cap' (es ++ [e]) k next at' ∧ OnlyAt w w' g (rowOf A) ∧ (rowOf A = some r ∨ w.heap.size ≤ r)

set_option maxHeartbeats 4000000 in
theorem add_open (base g : Nat) (A : Option Addr) (cap : Nat) (es : List EV) (next at' : Nat) (e : EV) (lo hi : Nat) (vk vn : Int) (vf : Nat) (vs : ByteArray) (A' : Option Addr) (m c : Nat) (w : World) (hb : BAt X w base g A cap es 0 next at') (hl : es.length ≤ 1000000)
    (hbw : base ≤ w.heap.size) (hf : FieldsOk e) (hv : Rep w lo hi e.v (vCells vk vn vf vs A' m c)) (hz : hi ≤ w.heap.size) (hg : g < lo ∨ hi ≤ g) (hrr : ∀ r, rowOf A = some r ∨ X r → r < lo ∨ hi ≤ r) :
    Calls Tryz.prog 33 #[.pointer (some ⟨g, 0, none⟩), .agg (evCells e vk vn vf vs A' m c)] w fun r w' => r = .returned (.bool true) ∧ Added X w w' base g A es e (if 9 ≤ e.k ∧ e.k ≤ 11 then e.k else 0) next at' := by
  obtain ⟨c0, c1, c2, c3, cf⟩ := hb.cells
  have f0 := cf 0
  have f1 := cf 1
  have hlt := hb.lt
  have hblk := hb.blk
  obtain ⟨i0, hi0, hz0, hz1, hz2⟩ := info_parts Tryz.infoE
  obtain ⟨xs, hxo, hxg, hxe⟩ := hb.rows
  have hlx := hxo.1
  have hown : Hid (∀ W, OnlyAt w W g none → W.ownsRow base 31 11 (.slice A es.length cap) es.length xs) := by
    intro W hW
    refine ⟨hxo.1, ?_⟩
    rcases hxo.2 with h | ⟨r, cp, cur, q1, q2, q3, q4⟩
    · exact .inl h
    · refine .inr ⟨r, cp, cur, q1, q2, ?_, q4⟩
      exact (hW.block r (Array.getElem?_eq_some_iff.1 q3).1 (fun e => hxg (by rw [← rowOf_own A es.length cap, q1, ← e]; rfl)) (by simp)).trans q3
  replace hblk := Lib.hid hblk
  have h1c : Hid (∀ u ∈ (evCells e vk vn vf vs A' m c).toList, u.oneCell' = true) := by
    intro u hu
    simp [evCells] at hu
    rcases hu with rfl | rfl | rfl | rfl | rfl | rfl | rfl | rfl | rfl | rfl | rfl <;> rfl
  have hcl := fun W => closes_any e.k W
  replace hcl := Lib.hid hcl
  replace hb := Lib.hid hb
  replace hxe := Lib.hid hxe
  clear cf hxo
  by_cases hk : 9 ≤ e.k ∧ e.k ≤ 11
  · have hkb : decide (9 ≤ e.k ∧ e.k ≤ 11) = true := by simpa using hk
    rw [if_pos hk]
    have HB : Hid (∀ Z Z', OnlyAt w (((w.setCell ⟨g, 1, none⟩ (.int .i64 e.k)).alloc Z).drew.alloc Z') g none) := Lib.hid fun Z Z' =>
      ((OnlyAt.of_below (Below.refl _ _)).set 1 _).trans (OnlyAt.of_below (((Below.refl _ _).alloc (Nat.le_refl _) Z).drew.alloc (by simp [World.alloc, World.drew]) Z'))
    have HG : Hid (∀ Z Z', (((w.setCell ⟨g, 1, none⟩ (.int .i64 e.k)).alloc Z).drew.alloc Z').heap[g]? = some (.cells #[.slice A es.length cap, .int .i64 e.k, .int .u64 next, .int .u64 at'] 48 (0, 0))) := Lib.hid fun Z Z' => by
      rw [heap_alloc_old _ _ (by simp [World.alloc, World.drew, World.setCell]; omega)]
      show (((w.setCell ⟨g, 1, none⟩ (.int .i64 e.k)).alloc Z)).heap[g]? = _
      rw [heap_alloc_old _ _ (by simp [World.setCell]; omega)]
      simp [World.setCell, Array.getElem?_modify, hblk.out]
    unfold evCells
    unfold evCells at h1c
    go_enter Tryz.func33, Tryz.ntmps33
    go_wp2_with fail
    refine (hcl.out _).mono ?_
    rintro x w1 ⟨rfl, rfl⟩
    go_wp2_with fail
    go_region_law (refine step_append_lies _ rfl (.tmp 22) (.tmp 24) 22 rfl base 31 i0 _ 11 128 Tryz.underlying22 hi0 hz0 hz1 hz2 rfl (by decide) _ es.length xs (by simp [Act.eval]) (hown.out _ (HB.out _ _)) ⟨_, 0, none⟩ 1 1 _ (by simp [Act.eval]; try rfl) rfl (World.news_of_block (heap_alloc_new _ _)) h1c.out (by decide) (by simp only [maxLen]; omega) (by omega) (Nat.le_trans hbw (HB.out _ _).size) _ rfl ?_; intro r cap' w' hown' hgrow hat hrl; rw [rowOf_own] at hgrow hat; have hg' := (hgrow.block g (Nat.lt_of_lt_of_le hlt (HB.out _ _).size) (fun e => hxg e.symm)).trans (HG.out _ _); have k0 : w'.cell? ⟨g, 0, none⟩ = some (.slice A es.length cap) := (by simp [World.cell?, hg']); have kf : w'.frozen? ⟨g, 0, none⟩ = false := (by simp [World.frozen?, hg']); replace hg' := Lib.hid hg')
    all_goals go_wp2_with fail
    all_goals go_ret
    all_goals exact ⟨rfl, r, cap', add_done hb.out ⟨hxg, hxe.out⟩ hlx (HB.out _ _) (HG.out _ _) hf hv hz hg hrr hown' hgrow hat (by simp [World.alloc, World.drew, World.setCell]; omega) hrl⟩
  · have hkb : decide (9 ≤ e.k ∧ e.k ≤ 11) = false := by simpa using hk
    rw [if_neg hk]
    have HB : Hid (∀ Z Z', OnlyAt w ((w.alloc Z).drew.alloc Z') g none) := Lib.hid fun Z Z' =>
      OnlyAt.of_below (((Below.refl _ _).alloc (Nat.le_refl _) Z).drew.alloc (by simp) Z')
    have HG : Hid (∀ Z Z', ((w.alloc Z).drew.alloc Z').heap[g]? = some (.cells #[.slice A es.length cap, .int .i64 0, .int .u64 next, .int .u64 at'] 48 (0, 0))) := Lib.hid fun Z Z' => by
      rw [heap_alloc_old _ _ (by simp; omega)]
      show ((w.alloc Z)).heap[g]? = _
      rw [heap_alloc_old _ _ (by omega)]
      exact hblk.out
    unfold evCells
    unfold evCells at h1c
    go_enter Tryz.func33, Tryz.ntmps33
    go_wp2_with fail
    refine (hcl.out _).mono ?_
    rintro x w1 ⟨rfl, rfl⟩
    go_wp2_with fail
    go_region_law (refine step_append_lies _ rfl (.tmp 22) (.tmp 24) 22 rfl base 31 i0 _ 11 128 Tryz.underlying22 hi0 hz0 hz1 hz2 rfl (by decide) _ es.length xs (by simp [Act.eval]) (hown.out _ (HB.out _ _)) ⟨_, 0, none⟩ 1 1 _ (by simp [Act.eval]; try rfl) rfl (World.news_of_block (heap_alloc_new _ _)) h1c.out (by decide) (by simp only [maxLen]; omega) (by omega) (Nat.le_trans hbw (HB.out _ _).size) _ rfl ?_; intro r cap' w' hown' hgrow hat hrl; rw [rowOf_own] at hgrow hat; have hg' := (hgrow.block g (Nat.lt_of_lt_of_le hlt (HB.out _ _).size) (fun e => hxg e.symm)).trans (HG.out _ _); have k0 : w'.cell? ⟨g, 0, none⟩ = some (.slice A es.length cap) := (by simp [World.cell?, hg']); have kf : w'.frozen? ⟨g, 0, none⟩ = false := (by simp [World.frozen?, hg']); replace hg' := Lib.hid hg')
    all_goals go_wp2_with fail
    all_goals go_ret
    all_goals exact ⟨rfl, r, cap', add_done hb.out ⟨hxg, hxe.out⟩ hlx (HB.out _ _) (HG.out _ _) hf hv hz hg hrr hown' hgrow hat (by simp; omega) hrl⟩
end Cm
end Go.Proofs.YtjfhnkhabipbdaaGreatDoor
namespace Go.Proofs.YtjfhnkhabipbdaaGreatDoor
open Go.RowKit
set_option linter.unusedVariables false
namespace Cm
variable {X : Nat → Prop}
open Nm (ret_int ret_bool)
open Vt (VT Rep BoxAt below_drew)
open Ev (EV FieldsOk evCells vCells EBox ERep)

section
variable {P : Program} {ops : Array Oper} {Q : Exit → Act → World → Prop} {md : Region.Mode}
theorem takeA {i : Nat} {oi : Oper} {rest : List Oper} {v : Value} {fuel : Nat} {listed : Array Bool} {a : Act} {w : World} (hi : ops.toList.drop i = oi :: rest)
    (hs : Region.noSelect ops = true) (hf : Region.free md ops listed i = true) (hr : (Region.ready md ops listed).contains i = true)
    (hQ : ∀ c a w, Q (.panic c) (a.put oi.dst v) w → Q (.panic c) a w) (hy : Yields P ops oi v a)
    (h : wpAny P md ops Q fuel (listed.setIfInBounds i true) (a.put oi.dst v) w) : wpAny P md ops Q (fuel + 1) listed a w :=
  wpAny_take (Ev.drop_get hi) hs hf hr hQ hy h
theorem consA {fuel : Nat} {listed : Array Bool} {a : Act} {w : World} {i : Nat} {o : Oper} {rest : List Oper} {rs : List Nat} (ho : ops.toList.drop i = o :: rest)
    (h : ∀ K' : Act → World → Prop, (∀ a w, wpAny P md ops Q fuel (listed.setIfInBounds i true) a w → K' a w) → if Region.wanted o (yielded ops a.tmps) = true then Oper.wp P o a w K' Q else K' (a.put o.dst undef) w)
    (hs : AllReady P md ops Q fuel listed a w rs) : AllReady P md ops Q fuel listed a w (i :: rs) := AllReady.cons (Ev.drop_get ho) h hs
end

def withId (e : EV) (n : Nat) : EV := { e with id := n }

/-- event.Valid of an event whose value lies below. -/
theorem evalid_later (e : EV) (w : World) (lo hi : Nat) (vk vn : Int) (vf : Nat) (vs : ByteArray) (A' : Option Addr) (m c : Nat) (hf : FieldsOk e) (hv : Rep w lo hi e.v (vCells vk vn vf vs A' m c)) (hz : hi ≤ w.heap.size) (W : World) (hW : Below w.heap.size w W) :
    Calls Tryz.prog 28 #[.agg (evCells e vk vn vf vs A' m c)] W fun r w' => r = .returned (.bool e.valid) ∧ Below W.heap.size W w' :=
  Ev.evalid_any e W lo hi _ ⟨hf, vk, vn, vf, vs, A', m, c, rfl, hv.later (hW.mono hz)⟩ (Nat.le_trans hz hW.size)

set_option maxHeartbeats 2000000 in
theorem number_bad (base g : Nat) (A : Option Addr) (cap : Nat) (es : List EV) (closed : Int) (next at' : Nat) (e : EV) (lo hi : Nat) (vk vn : Int) (vf : Nat) (vs : ByteArray) (A' : Option Addr) (m c : Nat) (w : World) (hb : BAt X w base g A cap es closed next at')
    (hf : FieldsOk e) (hn : next < 18446744073709551616) (hv : Rep w lo hi e.v (vCells vk vn vf vs A' m c)) (hz : hi ≤ w.heap.size) (hbad : (withId e next).valid = false) :
    Calls Tryz.prog 20 #[.pointer (some ⟨g, 0, none⟩), .agg (evCells e vk vn vf vs A' m c)] w fun r w' => r = .returned (.int .u64 0) ∧ Below w.heap.size w w' := by
  obtain ⟨c0, c1, c2, c3, cf⟩ := hb.cells
  have hlt := hb.lt
  have hE := fun W hW => evalid_later (withId e next) w lo hi vk vn vf vs A' m c ⟨hf.k0, hf.k1, hn, hf.n0, hf.n1, hf.a1, hf.s1, hf.t1⟩ hv hz W hW
  rw [hbad] at hE
  clear cf hb hbad
  unfold evCells withId at hE
  unfold evCells
  replace hE := Lib.hid hE
  have HB0 := Lib.hid fun Z => ((Below.refl w.heap.size w).alloc (Nat.le_refl _) Z).drew
  go_enter Tryz.func20, Tryz.ntmps20
  go_wp2_with fail
  refine wp_region_any (by kernel_rfl) ?_
  change wpAny _ _ _ _ _ _ _ (World.drew _)
  refine wpAny_ready (rs := [0]) (by kernel_rfl) (by simp) ?_
  refine consA rfl (fun K hK => ?_) AllReady.nil
  go_simp
  refine hK _ _ ?_
  clear hK K
  try simp only [Act.put, List.setIfInBounds_toArray, List.set_cons_zero, List.set_cons_succ]
  refine wpAny_ready (rs := [1]) (by kernel_rfl) (by simp) ?_
  refine consA rfl (fun K hK => ?_) AllReady.nil
  go_simp
  refine (hE.out _ (HB0.out _)).mono ?_
  rintro x w2 ⟨rfl, hb2⟩
  go_wp2_with fail
  try simp only [Act.put, List.setIfInBounds_toArray, List.set_cons_zero, List.set_cons_succ]
  refine takeA (i := 2) (v := ?_) rfl (by kernel_rfl) (by kernel_rfl) (by kernel_rfl) (fun _ _ _ h => h) (Or.inl ⟨by rfl, ?_⟩) ?_
  rotate_left 1
  focus (intro w; go_simp; try with_reducible rfl)
  try simp only [Act.put, List.setIfInBounds_toArray, List.set_cons_zero, List.set_cons_succ]
  refine takeA (i := 3) (v := ?_) rfl (by kernel_rfl) (by kernel_rfl) (by kernel_rfl) (fun _ _ _ h => h) (Or.inl ⟨by rfl, ?_⟩) ?_
  rotate_left 1
  focus (intro w; go_simp; try with_reducible rfl)
  try simp only [Act.put, List.setIfInBounds_toArray, List.set_cons_zero, List.set_cons_succ]
  refine takeA (i := 4) (v := undef) rfl (by kernel_rfl) (by kernel_rfl) (by kernel_rfl) (fun _ _ _ h => h) (Or.inr ⟨by rfl, rfl⟩) ?_
  try simp only [Act.put, List.setIfInBounds_toArray, List.set_cons_zero, List.set_cons_succ]
  refine takeA (i := 5) (v := undef) rfl (by kernel_rfl) (by kernel_rfl) (by kernel_rfl) (fun _ _ _ h => h) (Or.inr ⟨by rfl, rfl⟩) ?_
  try simp only [Act.put, List.setIfInBounds_toArray, List.set_cons_zero, List.set_cons_succ]
  refine takeA (i := 6) (v := undef) rfl (by kernel_rfl) (by kernel_rfl) (by kernel_rfl) (fun _ _ _ h => h) (Or.inr ⟨by rfl, rfl⟩) ?_
  try simp only [Act.put, List.setIfInBounds_toArray, List.set_cons_zero, List.set_cons_succ]
  refine takeA (i := 7) (v := undef) rfl (by kernel_rfl) (by kernel_rfl) (by kernel_rfl) (fun _ _ _ h => h) (Or.inr ⟨by rfl, rfl⟩) ?_
  try simp only [Act.put, List.setIfInBounds_toArray, List.set_cons_zero, List.set_cons_succ]
  refine takeA (i := 8) (v := undef) rfl (by kernel_rfl) (by kernel_rfl) (by kernel_rfl) (fun _ _ _ h => h) (Or.inr ⟨by rfl, rfl⟩) ?_
  try simp only [Act.put, List.setIfInBounds_toArray, List.set_cons_zero, List.set_cons_succ]
  refine takeA (i := 9) (v := undef) rfl (by kernel_rfl) (by kernel_rfl) (by kernel_rfl) (fun _ _ _ h => h) (Or.inr ⟨by rfl, rfl⟩) ?_
  try simp only [Act.put, List.setIfInBounds_toArray, List.set_cons_zero, List.set_cons_succ]
  refine takeA (i := 10) (v := ?_) rfl (by kernel_rfl) (by kernel_rfl) (by kernel_rfl) (fun _ _ _ h => h) (Or.inl ⟨by rfl, ?_⟩) ?_
  rotate_left 1
  focus (intro w; go_simp; try with_reducible rfl)
  try simp only [Act.put, List.setIfInBounds_toArray, List.set_cons_zero, List.set_cons_succ]
  refine wpAny_done (by kernel_rfl) ?_ _
  go_wp2_with fail
  go_ret
  exact ⟨rfl, (HB0.out _).trans (hb2.mono (HB0.out _).size)⟩
set_option maxHeartbeats 2000000 in
theorem number_closed (base g : Nat) (A : Option Addr) (cap : Nat) (es : List EV) (closed : Int) (hc : closed ≠ 0) (next at' : Nat) (e : EV) (lo hi : Nat) (vk vn : Int) (vf : Nat) (vs : ByteArray) (A' : Option Addr) (m c : Nat) (w : World) (hb : BAt X w base g A cap es closed next at')
    (hf : FieldsOk e) (hn : next < 18446744073709551616) (hv : Rep w lo hi e.v (vCells vk vn vf vs A' m c)) (hz : hi ≤ w.heap.size) (hgood : (withId e next).valid = true) :
    Calls Tryz.prog 20 #[.pointer (some ⟨g, 0, none⟩), .agg (evCells e vk vn vf vs A' m c)] w fun r w' => r = .returned (.int .u64 0) ∧ Below w.heap.size w w' := by
  obtain ⟨c0, c1, c2, c3, cf⟩ := hb.cells
  have hlt := hb.lt
  have hf' : FieldsOk (withId e next) := ⟨hf.k0, hf.k1, by show next < _; omega, hf.n0, hf.n1, hf.a1, hf.s1, hf.t1⟩
  have hE := fun W hW => evalid_later (withId e next) w lo hi vk vn vf vs A' m c hf' hv hz W hW
  rw [hgood] at hE
  have HBX : Hid (∀ W Z', Below (w.alloc Z').drew.heap.size (w.alloc Z').drew W → Z' = .cells #[.int .i64 e.k, .int .u64 next, .int .i64 e.n, .int .u64 e.at', .string e.name, .string e.text, .int .i64 vk, .int .i64 vn, .float .f64 vf, .string vs, .slice A' m c] 31 → Ev.EBox W w.heap.size #[.int .i64 e.k, .int .u64 next, .int .i64 e.n, .int .u64 e.at', .string e.name, .string e.text, .int .i64 vk, .int .i64 vn, .float .f64 vf, .string vs, .slice A' m c]) := Lib.hid fun W Z' hW hZ => by
    subst hZ
    exact Ev.EBox.later (w := (w.alloc (.cells #[.int .i64 e.k, .int .u64 next, .int .i64 e.n, .int .u64 e.at', .string e.name, .string e.text, .int .i64 vk, .int .i64 vn, .float .f64 vf, .string vs, .slice A' m c] 31)).drew) (heap_alloc_new w _) hW (by show w.heap.size < (w.alloc _).heap.size; simp)
  have hA : ∀ W, Below w.heap.size w W → _ := fun W hW => add_closed base g A cap es closed hc next at' (withId e next) vk vn vf vs A' m c W (hb.later hW)
  clear cf hb hgood
  unfold evCells withId at hE hA
  unfold evCells
  replace hE := Lib.hid hE
  replace hA := Lib.hid hA
  have HB0 := Lib.hid fun Z => ((Below.refl w.heap.size w).alloc (Nat.le_refl _) Z).drew
  go_enter Tryz.func20, Tryz.ntmps20
  go_wp2_with fail
  refine wp_region_any (by kernel_rfl) ?_
  change wpAny _ _ _ _ _ _ _ (World.drew _)
  refine wpAny_ready (rs := [0]) (by kernel_rfl) (by simp) ?_
  refine consA rfl (fun K hK => ?_) AllReady.nil
  go_simp
  refine hK _ _ ?_
  clear hK K
  try simp only [Act.put, List.setIfInBounds_toArray, List.set_cons_zero, List.set_cons_succ]
  refine wpAny_ready (rs := [1]) (by kernel_rfl) (by simp) ?_
  refine consA rfl (fun K hK => ?_) AllReady.nil
  go_simp
  refine (hE.out _ (HB0.out _)).mono ?_
  rintro x w2 ⟨rfl, hb2⟩
  have hbx := HBX.out w2 _ hb2 rfl
  obtain ⟨q0, q1, q2, q3, q4, q5, q6, q7, q8, q9, q10⟩ := hbx.cells
  have hlt2 := hbx.lt
  replace hbx := Lib.hid hbx
  have HB2 := Lib.hid ((HB0.out _).trans (hb2.mono (HB0.out _).size))
  clear hb2
  go_wp2_with fail
  try simp only [Act.put, List.setIfInBounds_toArray, List.set_cons_zero, List.set_cons_succ]
  refine takeA (i := 2) (v := ?_) rfl (by kernel_rfl) (by kernel_rfl) (by kernel_rfl) (fun _ _ _ h => h) (Or.inl ⟨by rfl, ?_⟩) ?_
  rotate_left 1
  focus (intro w; go_simp; try with_reducible rfl)
  try simp only [Act.put, List.setIfInBounds_toArray, List.set_cons_zero, List.set_cons_succ]
  refine takeA (i := 3) (v := ?_) rfl (by kernel_rfl) (by kernel_rfl) (by kernel_rfl) (fun _ _ _ h => h) (Or.inl ⟨by rfl, ?_⟩) ?_
  rotate_left 1
  focus (intro w; go_simp; try with_reducible rfl)
  try simp only [Act.put, List.setIfInBounds_toArray, List.set_cons_zero, List.set_cons_succ]
  refine takeA (i := 4) (v := ?_) rfl (by kernel_rfl) (by kernel_rfl) (by kernel_rfl) (fun _ _ _ h => h) (Or.inl ⟨by rfl, ?_⟩) ?_
  rotate_left 1
  focus (intro w; go_simp; try with_reducible rfl)
  try simp only [Act.put, List.setIfInBounds_toArray, List.set_cons_zero, List.set_cons_succ]
  refine takeA (i := 5) (v := ?_) rfl (by kernel_rfl) (by kernel_rfl) (by kernel_rfl) (fun _ _ _ h => h) (Or.inl ⟨by rfl, ?_⟩) ?_
  rotate_left 1
  focus (intro w; go_simp; try with_reducible rfl)
  try simp only [Act.put, List.setIfInBounds_toArray, List.set_cons_zero, List.set_cons_succ]
  refine takeA (i := 6) (v := ?_) rfl (by kernel_rfl) (by kernel_rfl) (by kernel_rfl) (fun _ _ _ h => h) (Or.inl ⟨by rfl, ?_⟩) ?_
  rotate_left 1
  focus (intro w; go_simp; try with_reducible rfl)
  try simp only [Act.put, List.setIfInBounds_toArray, List.set_cons_zero, List.set_cons_succ]
  refine wpAny_ready (rs := [7]) (by kernel_rfl) (by simp) ?_
  refine consA rfl (fun K hK => ?_) AllReady.nil
  go_simp
  refine hK _ _ ?_
  clear hK K
  try simp only [Act.put, List.setIfInBounds_toArray, List.set_cons_zero, List.set_cons_succ]
  refine wpAny_ready (rs := [8]) (by kernel_rfl) (by simp) ?_
  refine consA rfl (fun K hK => ?_) AllReady.nil
  go_simp
  refine (hA.out _ HB2.out).mono ?_
  rintro x w3 ⟨rfl, hb3⟩
  go_wp2_with fail
  try simp only [Act.put, List.setIfInBounds_toArray, List.set_cons_zero, List.set_cons_succ]
  refine takeA (i := 9) (v := ?_) rfl (by kernel_rfl) (by kernel_rfl) (by kernel_rfl) (fun _ _ _ h => h) (Or.inl ⟨by rfl, ?_⟩) ?_
  rotate_left 1
  focus (intro w; go_simp; try with_reducible rfl)
  try simp only [Act.put, List.setIfInBounds_toArray, List.set_cons_zero, List.set_cons_succ]
  refine takeA (i := 10) (v := ?_) rfl (by kernel_rfl) (by kernel_rfl) (by kernel_rfl) (fun _ _ _ h => h) (Or.inl ⟨by rfl, ?_⟩) ?_
  rotate_left 1
  focus (intro w; go_simp; try with_reducible rfl)
  try simp only [Act.put, List.setIfInBounds_toArray, List.set_cons_zero, List.set_cons_succ]
  refine wpAny_done (by kernel_rfl) ?_ _
  go_wp2_with fail
  go_ret
  exact ⟨rfl, HB2.out.trans (hb3.mono HB2.out.size)⟩

/-- The result of number. -/
def Numbered (X : Nat → Prop) (w w' : World) (base g : Nat) (A : Option Addr) (es : List EV) (e : EV) (k : Int) (next at' : Nat) : Prop :=
  ∃ r cap', BAt X w' base g (some ⟨r, 0, none⟩) cap' (es ++ [withId e next]) k (next + 1) at' ∧ OnlyAt w w' g (rowOf A) ∧ (rowOf A = some r ∨ w.heap.size ≤ r)

theorem BAt.setNext {w : World} {base g : Nat} {A : Option Addr} {cap : Nat} {es : List EV} {closed : Int} {next at' : Nat} (h : BAt X w base g A cap es closed next at') (n : Nat) : BAt X (w.setCell ⟨g, 2, none⟩ (.int .u64 n)) base g A cap es closed n at' :=
  ⟨by simp [World.setCell, Array.getElem?_modify, h.blk], h.base_le, h.rows.only ((OnlyAt.of_below (Below.refl _ _)).set 2 _)⟩

set_option maxHeartbeats 2000000 in
theorem number_open (base g : Nat) (A : Option Addr) (cap : Nat) (es : List EV) (closed : Int) (next at' : Nat) (e : EV) (lo hi : Nat) (vk vn : Int) (vf : Nat) (vs : ByteArray) (A' : Option Addr) (m c : Nat) (w : World) (hb : BAt X w base g A cap es 0 next at') (hl : es.length ≤ 1000000) (hbw : base ≤ w.heap.size)
    (hf : FieldsOk e) (hn : next + 1 < 18446744073709551616) (hv : Rep w lo hi e.v (vCells vk vn vf vs A' m c)) (hz : hi ≤ w.heap.size) (hg : g < lo ∨ hi ≤ g) (hrr : ∀ r, rowOf A = some r ∨ X r → r < lo ∨ hi ≤ r) (hgood : (withId e next).valid = true) (hkk : ¬ (9 ≤ e.k ∧ e.k ≤ 11)) :
    Calls Tryz.prog 20 #[.pointer (some ⟨g, 0, none⟩), .agg (evCells e vk vn vf vs A' m c)] w fun r w' => r = .returned (.int .u64 next) ∧ Numbered X w w' base g A es e 0 next at' := by
  obtain ⟨c0, c1, c2, c3, cf⟩ := hb.cells
  have hlt := hb.lt
  have hf' : FieldsOk (withId e next) := ⟨hf.k0, hf.k1, by show next < _; omega, hf.n0, hf.n1, hf.a1, hf.s1, hf.t1⟩
  have hE := fun W hW => evalid_later (withId e next) w lo hi vk vn vf vs A' m c hf' hv hz W hW
  rw [hgood] at hE
  have HBX : Hid (∀ W Z', Below (w.alloc Z').drew.heap.size (w.alloc Z').drew W → Z' = .cells #[.int .i64 e.k, .int .u64 next, .int .i64 e.n, .int .u64 e.at', .string e.name, .string e.text, .int .i64 vk, .int .i64 vn, .float .f64 vf, .string vs, .slice A' m c] 31 → Ev.EBox W w.heap.size #[.int .i64 e.k, .int .u64 next, .int .i64 e.n, .int .u64 e.at', .string e.name, .string e.text, .int .i64 vk, .int .i64 vn, .float .f64 vf, .string vs, .slice A' m c]) := Lib.hid fun W Z' hW hZ => by
    subst hZ
    exact Ev.EBox.later (w := (w.alloc (.cells #[.int .i64 e.k, .int .u64 next, .int .i64 e.n, .int .u64 e.at', .string e.name, .string e.text, .int .i64 vk, .int .i64 vn, .float .f64 vf, .string vs, .slice A' m c] 31)).drew) (heap_alloc_new w _) hW (by show w.heap.size < (w.alloc _).heap.size; simp)
  have hro : some w.heap.size ≠ rowOf A := by
    intro h
    obtain ⟨xs, h1, -, -⟩ := hb.rows
    rcases h1.2 with ⟨h2, -⟩ | ⟨r, cp, cur, q1, q2, q3, -⟩
    · rw [← rowOf_own A es.length cap, h2] at h; cases h
    · rw [← rowOf_own A es.length cap, q1] at h
      have := (Array.getElem?_eq_some_iff.1 q3).1
      have := Option.some.inj h
      simp only at this
      omega
  have hA : ∀ W, Below w.heap.size w W → Calls Tryz.prog 33 #[.pointer (some ⟨g, 0, none⟩), .agg (evCells (withId e next) vk vn vf vs A' m c)] W fun r w' => r = .returned (.bool true) ∧ Added X W w' base g A es (withId e next) 0 next at' := fun W hW => by
    have := add_open base g A cap es next at' (withId e next) lo hi vk vn vf vs A' m c W (hb.later hW) hl (Nat.le_trans hbw hW.size) hf' (hv.later (hW.mono hz)) (Nat.le_trans hz hW.size) hg hrr
    rwa [if_neg (by exact hkk)] at this
  clear cf hb hgood
  unfold evCells withId at hE
  unfold evCells
  replace hE := Lib.hid hE
  have HA : Hid (∀ W, Below w.heap.size w W → Calls Tryz.prog 33 #[.pointer (some ⟨g, 0, none⟩), .agg #[.int .i64 e.k, .int .u64 next, .int .i64 e.n, .int .u64 e.at', .string e.name, .string e.text, .int .i64 vk, .int .i64 vn, .float .f64 vf, .string vs, .slice A' m c]] W fun r w' => r = .returned (.bool true) ∧ Added X W w' base g A es (withId e next) 0 next at') := Lib.hid hA
  clear hA
  have HB0 := Lib.hid fun Z => ((Below.refl w.heap.size w).alloc (Nat.le_refl _) Z).drew
  have hwr : IntKind.u64.wrap ((next : Int) + 1) = ((next + 1 : Nat) : Int) := by rw [IntKind.wrap_u64]; omega
  go_enter Tryz.func20, Tryz.ntmps20
  go_wp2_with fail
  refine wp_region_any (by kernel_rfl) ?_
  change wpAny _ _ _ _ _ _ _ (World.drew _)
  refine wpAny_ready (rs := [0]) (by kernel_rfl) (by simp) ?_
  refine consA rfl (fun K hK => ?_) AllReady.nil
  go_simp
  refine hK _ _ ?_
  clear hK K
  try simp only [Act.put, List.setIfInBounds_toArray, List.set_cons_zero, List.set_cons_succ]
  refine wpAny_ready (rs := [1]) (by kernel_rfl) (by simp) ?_
  refine consA rfl (fun K hK => ?_) AllReady.nil
  go_simp
  refine (hE.out _ (HB0.out _)).mono ?_
  rintro x w2 ⟨rfl, hb2⟩
  have hbx := HBX.out w2 _ hb2 rfl
  obtain ⟨q0, q1, q2, q3, q4, q5, q6, q7, q8, q9, q10⟩ := hbx.cells
  have hlt2 := hbx.lt
  replace hbx := Lib.hid hbx
  have HB2 := Lib.hid ((HB0.out _).trans (hb2.mono (HB0.out _).size))
  clear hb2
  go_wp2_with fail
  try simp only [Act.put, List.setIfInBounds_toArray, List.set_cons_zero, List.set_cons_succ]
  refine takeA (i := 2) (v := ?_) rfl (by kernel_rfl) (by kernel_rfl) (by kernel_rfl) (fun _ _ _ h => h) (Or.inl ⟨by rfl, ?_⟩) ?_
  rotate_left 1
  focus (intro w; go_simp; try with_reducible rfl)
  try simp only [Act.put, List.setIfInBounds_toArray, List.set_cons_zero, List.set_cons_succ]
  refine takeA (i := 3) (v := ?_) rfl (by kernel_rfl) (by kernel_rfl) (by kernel_rfl) (fun _ _ _ h => h) (Or.inl ⟨by rfl, ?_⟩) ?_
  rotate_left 1
  focus (intro w; go_simp; try with_reducible rfl)
  try simp only [Act.put, List.setIfInBounds_toArray, List.set_cons_zero, List.set_cons_succ]
  refine takeA (i := 4) (v := ?_) rfl (by kernel_rfl) (by kernel_rfl) (by kernel_rfl) (fun _ _ _ h => h) (Or.inl ⟨by rfl, ?_⟩) ?_
  rotate_left 1
  focus (intro w; go_simp; try with_reducible rfl)
  try simp only [Act.put, List.setIfInBounds_toArray, List.set_cons_zero, List.set_cons_succ]
  refine takeA (i := 5) (v := ?_) rfl (by kernel_rfl) (by kernel_rfl) (by kernel_rfl) (fun _ _ _ h => h) (Or.inl ⟨by rfl, ?_⟩) ?_
  rotate_left 1
  focus (intro w; go_simp; try with_reducible rfl)
  try simp only [Act.put, List.setIfInBounds_toArray, List.set_cons_zero, List.set_cons_succ]
  refine takeA (i := 6) (v := ?_) rfl (by kernel_rfl) (by kernel_rfl) (by kernel_rfl) (fun _ _ _ h => h) (Or.inl ⟨by rfl, ?_⟩) ?_
  rotate_left 1
  focus (intro w; go_simp; try with_reducible rfl)
  try simp only [Act.put, List.setIfInBounds_toArray, List.set_cons_zero, List.set_cons_succ]
  refine wpAny_ready (rs := [7]) (by kernel_rfl) (by simp) ?_
  refine consA rfl (fun K hK => ?_) AllReady.nil
  go_simp
  refine hK _ _ ?_
  clear hK K
  try simp only [Act.put, List.setIfInBounds_toArray, List.set_cons_zero, List.set_cons_succ]
  refine wpAny_ready (rs := [8]) (by kernel_rfl) (by simp) ?_
  refine consA rfl (fun K hK => ?_) AllReady.nil
  go_simp
  refine (HA.out _ HB2.out).mono ?_
  rintro x w3 ⟨rfl, r, cap3, hb3, ho3, hr3⟩
  obtain ⟨z0, z1, z2, z3, zf⟩ := hb3.cells
  have zf2 := zf 2
  have hid3 : w3.cell? ⟨w.heap.size, 1, none⟩ = some (.int .u64 next) := (World.cell?_of_block (a := ⟨w.heap.size, 1, none⟩) (ho3.block _ hlt2 (by show w.heap.size ≠ g; omega) hro)).trans q1
  have HO3 := Lib.hid ho3
  have HB3 := Lib.hid hb3
  clear ho3 hb3 zf q0 q1 q2 q3 q4 q5 q6 q7 q8 q9 q10
  go_wp2_with fail
  try simp only [Act.put, List.setIfInBounds_toArray, List.set_cons_zero, List.set_cons_succ]
  refine takeA (i := 9) (v := ?_) rfl (by kernel_rfl) (by kernel_rfl) (by kernel_rfl) (fun _ _ _ h => h) (Or.inl ⟨by rfl, ?_⟩) ?_
  rotate_left 1
  focus (intro w; go_simp; try with_reducible rfl)
  try simp only [Act.put, List.setIfInBounds_toArray, List.set_cons_zero, List.set_cons_succ]
  refine takeA (i := 10) (v := ?_) rfl (by kernel_rfl) (by kernel_rfl) (by kernel_rfl) (fun _ _ _ h => h) (Or.inl ⟨by rfl, ?_⟩) ?_
  rotate_left 1
  focus (intro w; go_simp; try with_reducible rfl)
  try simp only [Act.put, List.setIfInBounds_toArray, List.set_cons_zero, List.set_cons_succ]
  refine wpAny_done (by kernel_rfl) ?_ _
  go_wp2_with fail
  go_ret
  refine ⟨rfl, r, cap3, ?_, ?_, ?_⟩
  · exact HB3.out.setNext (next + 1)
  · exact ((OnlyAt.of_below HB2.out).trans HO3.out).set _ _
  · exact hr3.imp id (fun h => Nat.le_trans HB2.out.size h)
end Cm
end Go.Proofs.YtjfhnkhabipbdaaGreatDoor
namespace Go.Proofs.YtjfhnkhabipbdaaGreatDoor
open Go.RowKit
set_option linter.unusedVariables false
namespace Cm
variable {X : Nat → Prop}
open Nm (ret_int ret_bool)
open Vt (VT Rep BoxAt below_drew)
open Ev (EV FieldsOk evCells vCells EBox ERep)

theorem new_any (next at' : Nat) (hn : next < 18446744073709551616) (ha : at' < 18446744073709551616) (w : World) : Calls Tryz.prog 10 #[.int .u64 next, .int .u64 at'] w fun r w' => r = .returned (.pointer (some ⟨w.heap.size, 0, none⟩)) ∧ BAt X w' w.heap.size w.heap.size none 0 [] 0 next at' ∧ Below w.heap.size w w' := by
  go_enter Tryz.func10, Tryz.ntmps10
  go_wp2_with fail
  go_ret
  refine ⟨rfl, ⟨heap_alloc_new w _, Nat.le_refl _, [], ⟨rfl, .inl ⟨rfl, rfl⟩⟩, by simp [rowOf], fun i h => absurd h (by simp)⟩, (Below.refl _ _).alloc (Nat.le_refl _) _⟩

end Cm
end Go.Proofs.YtjfhnkhabipbdaaGreatDoor
namespace Go.Proofs.YtjfhnkhabipbdaaGreatDoor
open Go.RowKit
set_option linter.unusedVariables false
namespace Cm
variable {X : Nat → Prop}
open Nm (ret_int ret_bool)
open Vt (VT Rep BoxAt below_drew Cloned)
open Ev (EV FieldsOk evCells vCells EBox ERep zeroT)

/-- A builder's state. -/
structure BS where mk ::
  es : List EV
  closed : Int
  next : Nat
  at' : Nat

def BS.number (s : BS) (e : EV) : BS × Nat := if (withId e s.next).valid = true ∧ s.closed = 0 then (⟨s.es ++ [withId e s.next], 0, s.next + 1, s.at'⟩, s.next) else (s, 0)
def BH (X : Nat → Prop) (w : World) (base g : Nat) (A : Option Addr) (s : BS) : Prop := ∃ cap, BAt X w base g A cap s.es s.closed s.next s.at'
def BStep (X : Nat → Prop) (w w' : World) (base g : Nat) (A : Option Addr) (s : BS) : Prop := ∃ A', BH X w' base g A' s ∧ OnlyAt w w' g (rowOf A) ∧ (rowOf A' = rowOf A ∨ ∀ r, rowOf A' = some r → w.heap.size ≤ r)

theorem BH.later {w w' : World} {base g : Nat} {A : Option Addr} {s : BS} (h : BH X w base g A s) (hb : Below w.heap.size w w') : BH X w' base g A s := h.elim fun cap h => ⟨cap, h.later hb⟩
theorem BStep.same {w w' : World} {base g : Nat} {A : Option Addr} {s : BS} (h : BH X w base g A s) (hb : Below w.heap.size w w') : BStep X w w' base g A s := ⟨A, h.later hb, OnlyAt.of_below hb, .inl rfl⟩
theorem number_any (base g : Nat) (A : Option Addr) (s : BS) (e : EV) (lo hi : Nat) (vk vn : Int) (vf : Nat) (vs : ByteArray) (A' : Option Addr) (m c : Nat) (w : World) (hb : BH X w base g A s) (hl : s.es.length ≤ 1000000) (hbw : base ≤ w.heap.size)
    (hf : FieldsOk e) (hn : s.next + 1 < 18446744073709551616) (hv : Rep w lo hi e.v (vCells vk vn vf vs A' m c)) (hz : hi ≤ w.heap.size) (hg : g < lo ∨ hi ≤ g) (hrr : ∀ r, rowOf A = some r ∨ X r → r < lo ∨ hi ≤ r) (hkk : ¬ (9 ≤ e.k ∧ e.k ≤ 11)) :
    Calls Tryz.prog 20 #[.pointer (some ⟨g, 0, none⟩), .agg (evCells e vk vn vf vs A' m c)] w fun r w' => r = .returned (.int .u64 (s.number e).2) ∧ BStep X w w' base g A (s.number e).1 := by
  obtain ⟨cap, hb⟩ := hb
  by_cases hc : s.closed = 0
  · cases hgood : (withId e s.next).valid with
    | false =>
      refine (number_bad base g A cap s.es s.closed s.next s.at' e lo hi vk vn vf vs A' m c w hb hf (by omega) hv hz hgood).mono ?_
      rintro r w' ⟨rfl, h⟩
      rw [BS.number, if_neg (by simp [hgood])]
      exact ⟨rfl, .same ⟨cap, hb⟩ h⟩
    | true =>
      rw [hc] at hb
      refine (number_open base g A cap s.es 0 s.next s.at' e lo hi vk vn vf vs A' m c w hb hl hbw hf hn hv hz hg hrr hgood hkk).mono ?_
      rintro r w' ⟨rfl, r', cap', h1, h2, h3⟩
      rw [BS.number, if_pos ⟨hgood, hc⟩]
      exact ⟨rfl, _, ⟨cap', h1⟩, h2, h3.imp (fun h => h.symm) (fun h r hr => by obtain rfl : r' = r := Option.some.inj hr; exact h)⟩
  · rw [BS.number, if_neg (by simp [hc])]
    cases hgood : (withId e s.next).valid with
    | false =>
      refine (number_bad base g A cap s.es s.closed s.next s.at' e lo hi vk vn vf vs A' m c w hb hf (by omega) hv hz hgood).mono ?_
      rintro r w' ⟨rfl, h⟩
      exact ⟨rfl, .same ⟨cap, hb⟩ h⟩
    | true =>
      refine (number_closed base g A cap s.es s.closed hc s.next s.at' e lo hi vk vn vf vs A' m c w hb hf (by omega) hv hz hgood).mono ?_
      rintro r w' ⟨rfl, h⟩
      exact ⟨rfl, .same ⟨cap, hb⟩ h⟩

def armE (n : Nat) : EV := ⟨8, 0, 0, n, ⟨#[]⟩, ⟨#[]⟩, zeroT⟩
theorem arm_ok (n : Nat) (hn : n < 18446744073709551616) : FieldsOk (armE n) := by constructor <;> first | exact hn | exact Nat.zero_le _ | simp [armE]
theorem zero_rep (w : World) : Rep w 0 0 zeroT (vCells 0 0 0 ⟨#[]⟩ none 0 0) := Rep.leaf ⟨by omega, by omega, by omega, by omega, by omega, by decide, by decide⟩

set_option maxHeartbeats 1000000 in
theorem arm_any (base g : Nat) (A : Option Addr) (s : BS) (n : Nat) (hn0 : n < 18446744073709551616) (w : World) (hb : BH X w base g A s) (hl : s.es.length ≤ 1000000) (hbw : base ≤ w.heap.size)
    (hn : s.next + 1 < 18446744073709551616) (ha : s.at' < 18446744073709551616) :
    Calls Tryz.prog 11 #[.pointer (some ⟨g, 0, none⟩), .int .u64 n] w fun r w' => r = .returned (.int .u64 (s.number (armE (Nm.addW s.at' n))).2) ∧ BStep X w w' base g A (s.number (armE (Nm.addW s.at' n))).1 := by
  have hlt : Nm.addW s.at' n < 18446744073709551616 := by unfold Nm.addW; split <;> omega
  have hA := Lib.hid fun W => Nm.add_any s.at' n ha hn0 W
  have hN : Hid (∀ W, W = w → Calls Tryz.prog 20 #[.pointer (some ⟨g, 0, none⟩), .agg #[.int .i64 8, .int .u64 0, .int .i64 0, .int .u64 (Nm.addW s.at' n), .string ⟨#[]⟩, .string ⟨#[]⟩, .int .i64 0, .int .i64 0, .float .f64 0, .string ⟨#[]⟩, .slice none 0 0]] W
        fun r w' => r = .returned (.int .u64 (s.number (armE (Nm.addW s.at' n))).2) ∧ BStep X w w' base g A (s.number (armE (Nm.addW s.at' n))).1) := Lib.hid fun W hW => by
    subst hW
    exact number_any base g A s (armE (Nm.addW s.at' n)) 0 0 0 0 0 ⟨#[]⟩ none 0 0 W hb hl hbw
      (arm_ok _ hlt) hn (zero_rep W) (Nat.zero_le _) (.inr (Nat.zero_le _)) (fun r hr => .inr (Nat.zero_le _)) (by show ¬ ((9 : Int) ≤ 8 ∧ (8 : Int) ≤ 11); decide)
  obtain ⟨cap, hb⟩ := hb
  obtain ⟨c0, c1, c2, c3, cf⟩ := hb.cells
  clear cf hb hlt
  go_enter Tryz.func11, Tryz.ntmps11
  go_wp2_with fail
  refine (hA.out _).mono ?_
  rintro x w2 ⟨rfl, rfl⟩
  go_wp2_with fail
  refine (hN.out _ rfl).mono ?_
  rintro x w3 ⟨rfl, h3⟩
  go_wp2_with fail
  go_ret
  exact ⟨rfl, h3⟩

/-! ### Of a nil builder -/
end Cm
end Go.Proofs.YtjfhnkhabipbdaaGreatDoor
namespace Go.Proofs.YtjfhnkhabipbdaaGreatDoor
open Go.RowKit
set_option linter.unusedVariables false
namespace Cm
variable {X : Nat → Prop}
open Nm (ret_int ret_bool)
open Vt (VT Rep BoxAt below_drew Cloned put5)
open Ev (EV FieldsOk evCells vCells EBox ERep zeroT)

/-- Element i of a row of events that own their memory behind base. -/
def EvNew (w : World) (base : Nat) (ro : Option Nat) (xs : List Value) (i : Nat) (e : EV) : Prop := ∃ lo hi vk vn vf vs A m c, base ≤ lo ∧ FieldsOk e ∧ Rep w lo hi e.v (vCells vk vn vf vs A m c) ∧ hi ≤ w.heap.size ∧ (∀ r, ro = some r → r < lo ∨ hi ≤ r) ∧ (0 < e.v.l.length → ∀ b off, A = some ⟨b, off, none⟩ → ∀ o, w.frozen? ⟨b, o, none⟩ = false) ∧
  ∀ j, j < 11 → xs[i * 11 + j]? = (evCells e vk vn vf vs A m c)[j]?
def EvsAt (w : World) (base : Nat) (A : Option Addr) (cap n : Nat) (es : List EV) : Prop := es.length = n ∧ ∃ xs, w.ownsRow base 31 11 (.slice A n cap) n xs ∧ ∀ i (h : i < es.length), EvNew w base (rowOf A) xs i es[i]

theorem frozen_of_block {w w' : World} {b : Nat} (h : w'.heap[b]? = w.heap[b]?) (o : Nat) : w'.frozen? ⟨b, o, none⟩ = w.frozen? ⟨b, o, none⟩ := by simp [World.frozen?, h]

/-- Where the list of a value lies. -/
theorem rep_row {w : World} {lo hi : Nat} {t : VT} {vk vn : Int} {vf : Nat} {vs : ByteArray} {A : Option Addr} {m c : Nat} (h : Rep w lo hi t (vCells vk vn vf vs A m c)) : 0 < t.l.length → ∀ b off, A = some ⟨b, off, none⟩ → lo ≤ b ∧ b < hi := by
  intro hp b off hA
  obtain ⟨k, n, f, s, l, A', cap, rfl, hv, -, -, hk⟩ := h.open_
  injection hv with hv
  simp at hv
  obtain ⟨-, -, -, -, rfl, -, -⟩ := hv
  obtain ⟨b', off', hA', h1, h2, -⟩ := hk.at_ hp
  rw [hA] at hA'
  injection hA' with hA'
  injection hA' with hb _ _
  subst hb
  exact ⟨h1, h2⟩

theorem EvNew.keep {w w' : World} {base : Nat} {ro : Option Nat} {xs : List Value} {i : Nat} {e : EV} (h : EvNew w base ro xs i e) (hz : w.heap.size ≤ w'.heap.size) (ho : ∀ b, b < w.heap.size → some b ≠ ro → w'.heap[b]? = w.heap[b]?) : EvNew w' base ro xs i e := by
  obtain ⟨lo, hi, vk, vn, vf, vs, A, m, c, h0, h1, h2, h3, h5, hfr, h6⟩ := h
  have hin := rep_row h2
  refine ⟨lo, hi, vk, vn, vf, vs, A, m, c, h0, h1, h2.keep fun b o hb1 hb2 => ?_, Nat.le_trans h3 hz, h5, fun hp b off hA o => ?_, h6⟩
  · exact World.cell?_of_block (a := ⟨b, o, none⟩) (ho b (by omega) (fun e => by have := h5 b e.symm; omega))
  · obtain ⟨q1, q2⟩ := hin hp b off hA
    exact (frozen_of_block (ho b (by omega) (fun e => by have := h5 b e.symm; omega)) o).trans (hfr hp b off hA o)

theorem EvsAt.later {w w' : World} {base : Nat} {A : Option Addr} {cap n : Nat} {es : List EV} (h : EvsAt w base A cap n es) (hb : Below w.heap.size w w') : EvsAt w' base A cap n es := by
  obtain ⟨h0, xs, h1, h3⟩ := h
  refine ⟨h0, xs, ⟨h1.1, ?_⟩, fun i hi => (h3 i hi).keep hb.size (fun b hlt _ => hb.block b hlt)⟩
  rcases h1.2 with h | ⟨r, cp, cur, q1, q2, q3, q4⟩
  · exact .inl h
  · exact .inr ⟨r, cp, cur, q1, q2, (hb.block r (Array.getElem?_eq_some_iff.1 q3).1).trans q3, q4⟩

theorem EvsAt.push {W w' : World} {base r H : Nat} {A : Option Addr} {cap cap' n : Nat} {es : List EV} {e : EV} {xs : List Value} {lo hi : Nat} {vk vn : Int} {vf : Nat} {vs : ByteArray} {A' : Option Addr} {m c : Nat}
    (hlen : es.length = n) (hlx : xs.length = n * 11) (hx : ∀ i (h : i < es.length), EvNew W base (rowOf A) xs i es[i]) (hbl : base ≤ lo) (hf : FieldsOk e) (hv : Rep W lo hi e.v (vCells vk vn vf vs A' m c)) (hz : hi ≤ W.heap.size) (hrr : ∀ r, rowOf A = some r → r < lo ∨ hi ≤ r) (hfr : 0 < e.v.l.length → ∀ b off, A' = some ⟨b, off, none⟩ → ∀ o, W.frozen? ⟨b, o, none⟩ = false)
    (hown : w'.ownsRow base 31 11 (.slice (some ⟨r, 0, none⟩) (n + 1) cap') (n + 1) (xs ++ (evCells e vk vn vf vs A' m c).toList)) (hgrow : W.grownBy w' (rowOf A)) (hat : rowOf A = some r ∨ r = H) (hH : W.heap.size ≤ H) :
    EvsAt w' base (some ⟨r, 0, none⟩) cap' (n + 1) (es ++ [e]) := by
  have key : ∀ {lo hi : Nat}, hi ≤ W.heap.size → (∀ r, rowOf A = some r → r < lo ∨ hi ≤ r) → ∀ r2, rowOf (some ⟨r, 0, none⟩) = some r2 → r2 < lo ∨ hi ≤ r2 := by
    intro lo hi h1 h2 r2 hr2
    obtain rfl : r = r2 := Option.some.inj hr2
    rcases hat with h | h
    · exact h2 r h
    · omega
  refine ⟨by simp [hlen], _, hown, fun i hil => ?_⟩
  simp at hil
  by_cases hlt : i < es.length
  · rw [List.getElem_append_left hlt]
    obtain ⟨lo', hi', vk', vn', vf', vs', A2', m', c', q0, q1, q2, q3, q5, qf, q6⟩ := hx i hlt
    have hin := rep_row q2
    refine ⟨lo', hi', vk', vn', vf', vs', A2', m', c', q0, q1, q2.keep fun b o hb1 hb2 => ?_, Nat.le_trans q3 hgrow.size, key q3 q5, fun hp b off hA o => ?_, fun j hj => (List.getElem?_append_left (by omega)).trans (q6 j hj)⟩
    rotate_left 1
    · obtain ⟨z1, z2⟩ := hin hp b off hA
      exact (frozen_of_block (hgrow.block b (by omega) (fun e => by have := q5 b e.symm; omega)) o).trans (qf hp b off hA o)
    exact World.cell?_of_block (a := ⟨b, o, none⟩) (hgrow.block b (by omega) (fun e => by have := q5 b e.symm; omega))
  · obtain rfl : i = es.length := by omega
    rw [List.getElem_append_right (Nat.le_refl _)]
    simp only [Nat.sub_self, List.getElem_cons_zero]
    have hin := rep_row hv
    refine ⟨lo, hi, vk, vn, vf, vs, A', m, c, hbl, hf, hv.keep fun b o hb1 hb2 => ?_, Nat.le_trans hz hgrow.size, key hz hrr, fun hp b off hA o => ?_, fun j hj => ?_⟩
    · exact World.cell?_of_block (a := ⟨b, o, none⟩) (hgrow.block b (by omega) (fun e => by have := hrr b e.symm; omega))
    · obtain ⟨z1, z2⟩ := hin hp b off hA
      exact (frozen_of_block (hgrow.block b (by omega) (fun e => by have := hrr b e.symm; omega)) o).trans (hfr hp b off hA o)
    · rw [List.getElem?_append_right (by omega), hlx, hlen, Nat.add_sub_cancel_left, Array.getElem?_toList]

/-- The cells of element j of a builder's row. -/
theorem rows_cells {w : World} {base g : Nat} {A : Option Addr} {cap : Nat} {es : List EV} (h : RowsAt X w base g A cap es) (j : Nat) (hj : j < es.length) :
    ∃ r lo hi vk vn vf vs A' m c, A = some ⟨r, 0, none⟩ ∧ r < w.heap.size ∧ FieldsOk es[j] ∧ Rep w lo hi es[j].v (vCells vk vn vf vs A' m c) ∧ hi ≤ w.heap.size ∧ es.length ≤ cap ∧ cap ≤ maxLen ∧ ∀ q, q < 11 → w.cell? ⟨r, j * 11 + q, none⟩ = (evCells es[j] vk vn vf vs A' m c)[q]? := by
  obtain ⟨xs, h1, h2, h3⟩ := h
  obtain ⟨lo, hi, vk, vn, vf, vs, A', m, c, p1, p2, p3, p4, p5, p6⟩ := h3 j hj
  rcases h1.2 with ⟨-, h0⟩ | ⟨r, cp, cur, q1, q2, q3, q4, q5, q6, q7⟩
  · omega
  · injection q1 with q1 _ q1'
    subst q1'
    refine ⟨r, lo, hi, vk, vn, vf, vs, A', m, c, q1, (Array.getElem?_eq_some_iff.1 q3).1, p1, p2, p3, q4, q5, fun q hq => ?_⟩
    rw [← p6 q hq, ← q7, List.getElem?_take_of_lt (by omega), Array.getElem?_toList]
    simp [World.cell?, q3]

theorem ev_one (e : EV) (vk vn : Int) (vf : Nat) (vs : ByteArray) (A : Option Addr) (m c : Nat) : ∀ u ∈ (evCells e vk vn vf vs A m c).toList, u.oneCell' = true := by
  intro u hu
  simp [evCells] at hu
  rcases hu with rfl | rfl | rfl | rfl | rfl | rfl | rfl | rfl | rfl | rfl | rfl <;> rfl

theorem evs_nil (w : World) (base : Nat) : EvsAt w base none 0 0 [] := ⟨rfl, [], ⟨rfl, .inl ⟨rfl, rfl⟩⟩, fun i h => absurd h (by simp)⟩

set_option maxRecDepth 100000 in
set_option maxHeartbeats 400000 in
theorem events_walk (base g : Nat) (A : Option Addr) (cap : Nat) (es : List EV) (closed : Int) (next at' : Nat) (w : World) (hb : BAt X w base g A cap es closed next at') (hl : es.length ≤ 1000000) (hS : ∀ i (h : i < es.length), es[i].v.Slim 900) :
    Calls Tryz.prog 12 #[.pointer (some ⟨g, 0, none⟩)] w fun r w' => ∃ A2 cap2, r = .returned (.slice A2 es.length cap2) ∧ Below w.heap.size w w' ∧ EvsAt w' w.heap.size A2 cap2 es.length es := by
  obtain ⟨c0, c1, c2, c3, cf⟩ := hb.cells
  have hlt := hb.lt
  have HR := Lib.hid hb.rows
  obtain ⟨i0, hi0, hz0, hz1, hz2⟩ := info_parts Tryz.infoE
  have HS := Lib.hid hS
  have hl0 : 0 ≤ (es.length : Int) := by omega
  clear cf hb hS
  go_enter Tryz.func12, Tryz.ntmps12
  go_wp2_with fail
  go_loopw [3, 14] (fun out i wr => ∃ (j : Nat) (A2 : Option Addr) (cap2 : Nat), j ≤ es.length ∧ i = .int .i64 j ∧ out = .slice A2 j cap2 ∧ EvsAt wr w.heap.size A2 cap2 j (es.take j) ∧ Below w.heap.size w wr) (fun _ i _ => es.length - (intOf i).toNat)
  case atStart => exact ⟨0, none, 0, by omega, rfl, rfl, by simpa using evs_nil w w.heap.size, Below.refl _ _⟩
  case round =>
    obtain ⟨j, A2, cap2, hj, rfl, rfl, hevs, hb⟩ := hrel
    by_cases hjl : j < es.length
    · obtain ⟨r, lo, hi, vk, vn, vf, vs, A', m, c, hA, hrl, hf, hv, hhi, hcap, hcm, hcs⟩ := rows_cells (HR.out.later hb) j hjl
      subst hA
      have s0 := hcs 0 (by omega); have s1 := hcs 1 (by omega); have s2 := hcs 2 (by omega); have s3 := hcs 3 (by omega); have s4 := hcs 4 (by omega); have s5 := hcs 5 (by omega)
      have s6 := hcs 6 (by omega); have s7 := hcs 7 (by omega); have s8 := hcs 8 (by omega); have s9 := hcs 9 (by omega); have s10 := hcs 10 (by omega)
      simp [evCells] at s0 s1 s2 s3 s4 s5 s6 s7 s8 s9 s10
      have HC := Lib.hid fun W (hW : Below wr.heap.size wr W) => Vt.clone_any es[j].v W lo hi _ (hv.later (hW.mono hhi)) (Nat.le_trans hhi hW.size) (HS.out j hjl)
      have HB0 := Lib.hid fun Z => (Below.refl wr.heap.size wr).alloc (Nat.le_refl _) Z
      unfold vCells at HC
      have HB := Lib.hid hb; have HF := Lib.hid hf
      have hbs := hb.size
      obtain ⟨hlen, xs, hxo, hxe⟩ := hevs
      have hlx := hxo.1
      have HOWN : Hid (∀ W, Below wr.heap.size wr W → W.ownsRow w.heap.size 31 11 (.slice A2 j cap2) j xs) := Lib.hid fun W hW => ⟨hxo.1, by
        rcases hxo.2 with h | ⟨r, cp, cur, q1, q2, q3, q4⟩
        · exact .inl h
        · exact .inr ⟨r, cp, cur, q1, q2, (hW.block r (Array.getElem?_eq_some_iff.1 q3).1).trans q3, q4⟩⟩
      have HRO : Hid (∀ r, rowOf A2 = some r → r < wr.heap.size ∧ w.heap.size ≤ r) := Lib.hid fun r hr => by
        rcases hxo.2 with ⟨h2, -⟩ | ⟨r', cp, cur, q1, q0, q3, -⟩
        · rw [← rowOf_own A2 j cap2, h2] at hr; cases hr
        · rw [← rowOf_own A2 j cap2, q1] at hr
          obtain rfl : r' = r := Option.some.inj hr
          exact ⟨(Array.getElem?_eq_some_iff.1 q3).1, q0⟩
      have HXE := Lib.hid hxe
      have HBX : Hid (∀ W Z', Below (wr.alloc Z').heap.size (wr.alloc Z') W → Z' = .cells (evCells es[j] vk vn vf vs A' m c) 31 → Ev.EBox W wr.heap.size (evCells es[j] vk vn vf vs A' m c)) := Lib.hid fun W Z' hW hZ => by
        subst hZ
        exact Ev.EBox.later (w := (wr.alloc (.cells (evCells es[j] vk vn vf vs A' m c) 31))) (heap_alloc_new wr _) hW (by simp)
      unfold evCells at HBX
      clear hxe hxo hb hcs hv hf
      go_wp2_with fail
      refine (HC.out _ (HB0.out _)).mono ?_
      rintro x w2 ⟨k, n, f, s', l, A3, cap3, ht, rfl, hr, hb2, hfr3⟩
      have hin := rep_row (t := es[j].v) (vk := k) (vn := n) (vf := f) (vs := s') (A := A3) (m := l.length) (c := cap3) hr
      rw [show l = es[j].v.l from by rw [ht]] at hfr3
      have hbx := HBX.out w2 _ hb2 rfl
      obtain ⟨q0, q1, q2, q3, q4, q5, q6, q7, q8, q9, q10⟩ := hbx.cells
      have hfz : ∀ o, w2.frozen? ⟨wr.heap.size, o, none⟩ = false := fun o => by unfold Ev.EBox at hbx; simp [World.frozen?, hbx]
      have z6 := hfz 6; have z7 := hfz 7; have z8 := hfz 8; have z9 := hfz 9; have z10 := hfz 10
      have hlt2 := hbx.lt
      have HB2 := Lib.hid ((HB0.out _).trans (hb2.mono (HB0.out _).size))
      have K4 : ∃ W4, W4 = (put5 w2 wr.heap.size 6 (.int .i64 k) (.int .i64 n) (.float .f64 f) (.string s') (.slice A3 l.length cap3)).alloc (.cells (evCells es[j] k n f s' A3 l.length cap3) 31) ∧
          Hid (Below wr.heap.size wr W4) ∧ Hid (∀ q u, (evCells es[j] k n f s' A3 l.length cap3).toList[q]? = some u → W4.cell? ((⟨w2.heap.size, 0, none⟩ : Addr).add q) = some u) ∧
          Hid (Rep W4 (wr.heap.size + 1) w2.heap.size es[j].v (.agg #[.int .i64 k, .int .i64 n, .float .f64 f, .string s', .slice A3 l.length cap3])) ∧ Hid (0 < es[j].v.l.length → ∀ b off, A3 = some ⟨b, off, none⟩ → ∀ o, W4.frozen? ⟨b, o, none⟩ = false) ∧ W4.heap.size = w2.heap.size + 1 := by
        refine ⟨_, rfl, Lib.hid ((Vt.put5_below HB2.out (Nat.le_refl _)).alloc (by rw [Vt.put5_size]; omega) _), Lib.hid (World.news_of_block (t := 31) (fr := (0, 0)) ?_), Lib.hid ?_, Lib.hid ?_, by rw [World.size_alloc, Vt.put5_size]⟩
        · have := heap_alloc_new (put5 w2 wr.heap.size 6 (.int .i64 k) (.int .i64 n) (.float .f64 f) (.string s') (.slice A3 l.length cap3)) (.cells (evCells es[j] k n f s' A3 l.length cap3) 31)
          rwa [Vt.put5_size] at this
        · rw [World.size_alloc] at hr
          refine (hr.keep fun b o hb1 hb2 => ?_).alloc (by rw [Vt.put5_size]; exact Nat.le_refl _) _
          exact Vt.put5_cell _ _ _ _ _ _ _ _ _ _ (by omega)
        · intro hp b off hA o
          obtain ⟨z1, z2⟩ := hin hp b off hA
          rw [World.size_alloc] at z1
          refine (frozen_of_block ?_ o).trans (hfr3 hp b off hA o)
          rw [heap_alloc_old _ _ (by rw [Vt.put5_size]; exact z2)]
          exact Vt.put5_other w2 wr.heap.size 6 _ _ _ _ _ b (by omega)
      obtain ⟨W4, hW4, K1, K2, K3, K5, hz4⟩ := K4
      have KO := Lib.hid (HOWN.out _ K1.out)
      have hbs4 := Nat.le_trans hbs K1.out.size
      simp only [put5, Nat.reduceAdd] at hW4
      unfold evCells at hW4
      replace hW4 := Lib.hid hW4
      clear hbx hfz hr hb2 ht hfr3 hin
      go_wp2_with (at_builtin; rw [← hW4.out]; refine wpList_append_lies _ rfl (.tmp 22) (.tmp 24) 22 rfl w.heap.size 31 i0 _ 11 128 Tryz.underlying22 hi0 hz0 hz1 hz2 rfl (by decide) (.slice A2 j cap2) j xs rfl KO.out ⟨w2.heap.size, 0, none⟩ 1 1 (evCells es[j] k n f s' A3 l.length cap3).toList rfl rfl K2.out (ev_one _ _ _ _ _ _ _ _) (by decide) (by simp only [maxLen]; omega) (by omega) hbs4 _ rfl ?_; intro r2 cap4 w5 hown5 hgrow5 hat5 hrl5)
      rw [rowOf_own] at hgrow5 hat5
      have HP : Hid (EvsAt w5 w.heap.size (some ⟨r2, 0, none⟩) cap4 (j + 1) (es.take (j + 1))) := Lib.hid (by
        rw [List.take_succ_eq_append_getElem hjl]
        exact EvsAt.push (cap := 0) (H := W4.heap.size) hlen hlx (fun i h => (HXE.out i h).keep K1.out.size (fun b hb _ => K1.out.block b hb)) (by omega) HF.out K3.out (by omega) (fun r hr => .inl (by have := (HRO.out r hr).1; omega)) K5.out hown5 hgrow5 hat5 (Nat.le_refl _))
      have HB5 : Hid (Below w.heap.size w w5) := Lib.hid ((HB.out.trans (K1.out.mono hbs)).trans ⟨hgrow5.os, hgrow5.tape, hgrow5.output, hgrow5.size, fun b hb => hgrow5.block b (by omega) (fun e => by have := (HRO.out b e.symm).2; omega)⟩)
      clear hown5 hgrow5 hat5
      exact ⟨⟨j + 1, _, cap4, by omega, by go_num, rfl, HP.out, HB5.out⟩, by simp [intOf]; omega⟩
    · have hj' : j = es.length := by omega
      subst hj'
      rw [List.take_length] at hevs
      go_wp2_with fail
      go_ret
      exact ⟨A2, cap2, rfl, hb, hevs⟩
end Cm
end Go.Proofs.YtjfhnkhabipbdaaGreatDoor
namespace Go.Proofs.YtjfhnkhabipbdaaGreatDoor
open Go.RowKit
set_option linter.unusedVariables false
set_option linter.unusedSimpArgs false
namespace Cn
open Nm (bitsW ret_int ret_bool)
open Vt (VT Rep BoxAt below_drew Cloned put5 KidsAt HeadOk)
open Ev (EV FieldsOk evCells vCells EBox ERep zeroT take_drop tk cons_drop)
open Cm (rowOf)

/-- Element i of a row of values that own their memory behind base. -/
def VNew (w : World) (base : Nat) (ro : Option Nat) (xs : List Value) (i : Nat) (t : VT) : Prop := ∃ lo hi k n f s A m c, base ≤ lo ∧ hi ≤ w.heap.size ∧ Rep w lo hi t (.agg #[.int .i64 k, .int .i64 n, .float .f64 f, .string s, .slice A m c]) ∧ (∀ r, ro = some r → r < lo ∨ hi ≤ r) ∧
  ∀ j, j < 5 → xs[i * 5 + j]? = (#[Value.int .i64 k, .int .i64 n, .float .f64 f, .string s, .slice A m c])[j]?
def VsAt (w : World) (base : Nat) (A : Option Addr) (cap n : Nat) (ts : List VT) : Prop := ts.length = n ∧ ∃ xs, w.ownsRow base 29 5 (.slice A n cap) n xs ∧ ∀ i (h : i < ts.length), VNew w base (rowOf A) xs i ts[i]

theorem VNew.keep {w w' : World} {base : Nat} {ro : Option Nat} {xs : List Value} {i : Nat} {t : VT} (h : VNew w base ro xs i t) (hz : w.heap.size ≤ w'.heap.size) (ho : ∀ b, b < w.heap.size → some b ≠ ro → w'.heap[b]? = w.heap[b]?) : VNew w' base ro xs i t := by
  obtain ⟨lo, hi, k, n, f, s, A, m, c, h0, h1, h2, h3, h4⟩ := h
  refine ⟨lo, hi, k, n, f, s, A, m, c, h0, Nat.le_trans h1 hz, h2.keep fun b o hb1 hb2 => ?_, h3, h4⟩
  exact World.cell?_of_block (a := ⟨b, o, none⟩) (ho b (by omega) (fun e => by have := h3 b e.symm; omega))

theorem VsAt.setCell {w : World} {base : Nat} {A : Option Addr} {cap n : Nat} {ts : List VT} (h : VsAt w base A cap n ts) {p : Addr} (hp : p.block < base) (v : Value) : VsAt (w.setCell p v) base A cap n ts := by
  obtain ⟨h0, xs, h1, h3⟩ := h
  have hb : ∀ b, base ≤ b → (w.setCell p v).heap[b]? = w.heap[b]? := fun b hb => Below.heap_setCell _ _ _ b (by omega)
  refine ⟨h0, xs, ⟨h1.1, ?_⟩, fun i hi => ?_⟩
  · rcases h1.2 with h | ⟨r, cp, cur, q1, q2, q3, q4⟩
    · exact .inl h
    · exact .inr ⟨r, cp, cur, q1, q2, (hb r q2).trans q3, q4⟩
  · obtain ⟨lo, hi', k, n, f, s, A, m, c, h0, h1, h2, h3, h4⟩ := h3 i hi
    exact ⟨lo, hi', k, n, f, s, A, m, c, h0, by simpa [World.setCell] using h1, h2.setCell (.inl (by omega)) v, h3, h4⟩

theorem VsAt.lt {w : World} {base : Nat} {A : Option Addr} {cap n : Nat} {ts : List VT} (h : VsAt w base A cap n ts) : ∀ r, rowOf A = some r → r < w.heap.size ∧ base ≤ r := fun r hr => by
  obtain ⟨-, xs, h1, -⟩ := h
  rcases h1.2 with ⟨h2, -⟩ | ⟨r', cp, cur, q1, q0, q3, -⟩
  · rw [← Cm.rowOf_own A n cap, h2] at hr; cases hr
  · rw [← Cm.rowOf_own A n cap, q1] at hr
    obtain rfl : r' = r := Option.some.inj hr
    exact ⟨(Array.getElem?_eq_some_iff.1 q3).1, q0⟩

end Cn
end Go.Proofs.YtjfhnkhabipbdaaGreatDoor
