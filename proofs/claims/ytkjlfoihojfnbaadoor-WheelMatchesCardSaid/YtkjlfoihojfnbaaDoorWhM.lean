/- A new wheel; the nil wheel. -/
import Derived.Test.YtkjlfoihojfnbaaDoorWhL
namespace Go.Proofs.YtkjlfoihojfnbaaDoor
open Go.RowKit
set_option linter.unusedVariables false
set_option linter.unusedSimpArgs false
namespace Wh
open Lv (slotOf slotOf_lt turnOf startOf W64 ret_int fresh new_any)
open Ln (LV fresh_eq)
open Lo (IRow KB St Own updL Lies below_drew Deb takeA consA)
variable {base b now t : Nat} {w w' w1 : World}
def np (s i j : Nat) : Value := if j < i then .pointer (some ⟨s + 2 + j, 0, none⟩) else .pointer none
def ncells (now s i : Nat) : Array Value := #[.int .u64 (now : Nat), .map (some s), np s i 0, np s i 1, np s i 2, np s i 3, .slice none 0 0, .slice none 0 0]
theorem ncells_set (now s i : Nat) (hi : i < 4) : (ncells now s i).setIfInBounds (2 + i) (.pointer (some ⟨s + 2 + i, 0, none⟩)) = ncells now s (i + 1) := by
  rcases (by omega : i = 0 ∨ i = 1 ∨ i = 2 ∨ i = 3) with rfl | rfl | rfl | rfl <;> simp [ncells, np]
def newV (s : Nat) : WV := ⟨s, fun j => s + 2 + j, fun _ _ => .slice none 0 0, fun _ => 0, .slice none 0 0, .slice none 0 0⟩
theorem ncells_end (now s : Nat) : ncells now s 4 = whCells now (newV s) := by simp [ncells, np, whCells, newV]
theorem St.ofFresh {g k : Nat} (h : w.heap[g]? = some (.cells (fresh k) 74 (0, 0))) : St base w g k (fun _ => .slice none 0 0) 0 (fun _ => []) := by
  refine ⟨?_, fun s _ => IRow.nil _ _ _, fun s _ g hg => (by cases hg), fun s t _ _ _ g hg => (by cases hg), by omega, fun s _ => by simp⟩
  unfold LV
  rw [fresh_eq k] at h
  exact h
/-- A new wheel while its levels are laid. -/
structure NewSt (w wr : World) (now i : Nat) : Prop where
  size : wr.heap.size = w.heap.size + 2 + i
  blk : wr.heap[w.heap.size + 1]? = some (.cells (ncells now w.heap.size i) 88 (0, 0))
  lev : ∀ j, j < i → wr.heap[w.heap.size + 2 + j]? = some (.cells (fresh j) 74 (0, 0))
  map : wr.heap[w.heap.size]? = some (.map #[] 0)
  bel : Below w.heap.size w wr
theorem NewSt.whl {wr : World} (h : NewSt w wr now 4) (hn : now ≤ 9223372036854775807) : Whl w.heap.size wr (w.heap.size + 1) now [] (fun g => w.heap.size ≤ g) := by
  have hm : MapIs wr w.heap.size [] := (MapIs.made w).keep (h.map.trans (heap_alloc_new w (.map #[] 0)).symm)
  have hb := h.blk
  rw [ncells_end] at hb
  have hp : ∀ p, p < 8 → ∀ g, Part (w.heap.size + 1) (newV w.heap.size) p g → (p < 4 ∧ g = w.heap.size + 2 + p) ∨ (p = 6 ∧ g = w.heap.size + 1) ∨ (p = 7 ∧ g = w.heap.size) := by
    intro p hp g hg
    rcases (by omega : p < 4 ∨ p = 4 ∨ p = 5 ∨ p = 6 ∨ p = 7) with e | rfl | rfl | rfl | rfl
    · rw [partL _ _ p g e] at hg
      rcases hg with e2 | ⟨s, _, e2⟩
      · exact .inl ⟨e, e2⟩
      · cases e2
    · cases hg
    · cases hg
    · exact .inr (.inl ⟨rfl, hg⟩)
    · exact .inr (.inr ⟨rfl, hg⟩)
  refine ⟨⟨newV w.heap.size, fun _ _ => [], [], [], ⟨hb, fun i hi => St.ofFresh (h.lev i hi), IRow.nil _ _ _, IRow.nil _ _ _, hm, fun p p' h1 h2 hne g a1 a2 => ?_, by omega, Nat.le_refl _, fun i hi => by show w.heap.size ≤ w.heap.size + 2 + i; omega⟩, (Pl.empty now).iff (fun x => by simp), ?_⟩, List.nodup_nil, fun x hx => by simp at hx, hn, List.Pairwise.nil⟩
  · have q1 := hp p h1 g a1
    have q2 := hp p' h2 g a2
    omega
  · rintro g ⟨p, h1, a⟩
    have := hp p h1 g a
    show w.heap.size ≤ g
    omega
theorem built_wh (now s : Nat) : Tryd.prog.built 88 [(0, .int .u64 (now : Nat)), (1, .map (some s))] = some (ncells now s 0) := by
  have e : ncells now s 0 = #[.int .u64 (now : Nat), .map (some s), .pointer none, .pointer none, .pointer none, .pointer none, .slice none 0 0, .slice none 0 0] := by simp [ncells, np]
  have h : Tryd.prog.built 88 [(0, .int .u64 (now : Nat)), (1, .map (some s))] = some #[.int .u64 (now : Nat), .map (some s), .pointer none, .pointer none, .pointer none, .pointer none, .slice none 0 0, .slice none 0 0] := by kernel_rfl
  rw [e]
  exact h
set_option maxRecDepth 100000 in
set_option maxHeartbeats 2000000 in
theorem wnew_any (n now : Nat) (hn : n < 18446744073709551616) (hnow : now = min n 9223372036854775807) (w : World) :
    Calls Tryd.prog 24 #[.int .u64 (n : Nat)] w fun e w' => e = .returned (.pointer (some ⟨w.heap.size + 1, 0, none⟩)) ∧ Whl w.heap.size w' (w.heap.size + 1) now [] (fun g => w.heap.size ≤ g) ∧ Below w.heap.size w w' := by
  have hmin : min (n : Int) 9223372036854775807 = (now : Nat) := by omega
  have HNW : Hid (now ≤ 9223372036854775807) := Lib.hid (by omega)
  have hmm := @run_makeMap Tryd.prog
  have hbt := built_wh now w.heap.size
  obtain ⟨W0, hW0⟩ : ∃ W0, W0 = (w.alloc (.map #[] 0)).alloc (.cells (ncells now w.heap.size 0) 88) := ⟨_, rfl⟩
  have HST : Hid (NewSt w W0 now 0) := Lib.hid (by
    rw [hW0]
    refine ⟨by simp, ?_, fun j hj => by omega, (heap_alloc_old _ _ (by simp)).trans (heap_alloc_new w _), ((Below.refl _ _).alloc (Nat.le_refl _) _).alloc (by simp) _⟩
    have e := heap_alloc_new (w.alloc (.map #[] 0)) (.cells (ncells now w.heap.size 0) 88)
    rw [World.size_alloc] at e
    exact e)
  replace hW0 := Lib.hid hW0
  clear hn hnow
  go_enter Tryd.func24, Tryd.ntmps24
  go_wp2_with (refine wpList_build rfl 88 _ rfl ?_ ?_)
  rw [← hW0.out]
  go_loopw [4, 10] (fun _ vi wr => ∃ i : Nat, vi = .int .i64 (i : Int) ∧ i ≤ 4 ∧ NewSt w wr now i) (fun _ vi _ => 5 - (intOf vi).toNat)
  case atStart => exact ⟨0, rfl, by omega, HST.out⟩
  case round =>
    obtain ⟨i, rfl, hi, hst⟩ := hrel
    rename_i wr
    have HS := Lib.hid hst
    by_cases hi4 : i < 4
    · have hi4' : (i : Int) < 4 := by omega
      have hi0 : (0 : Int) ≤ i := by omega
      obtain ⟨W2, hW2⟩ : ∃ W, W = (wr.alloc (.cells (fresh i) 74)).drew := ⟨_, rfl⟩
      have hz := hst.size
      have hb2 : W2.heap[w.heap.size + 1]? = some (.cells (ncells now w.heap.size i) 88 (0, 0)) := by rw [hW2]; exact (heap_alloc_old _ _ (by omega)).trans hst.blk
      have hl2 : W2.heap[w.heap.size + 2 + i]? = some (.cells (fresh i) 74 (0, 0)) := by rw [hW2, ← hz]; exact heap_alloc_new wr _
      have cc : W2.cell? ⟨w.heap.size + 1, 2 + i, none⟩ = some (.pointer none) := by
        rw [Lo.cell_block hb2]
        rcases (by omega : i = 0 ∨ i = 1 ∨ i = 2 ∨ i = 3) with rfl | rfl | rfl | rfl <;> simp [ncells, np]
      have ff : W2.frozen? ⟨w.heap.size + 1, 2 + i, none⟩ = false := Lo.free_block hb2 _
      have HNX : Hid (NewSt w (W2.setCell ⟨w.heap.size + 1, 2 + i, none⟩ (.pointer (some ⟨w.heap.size + 2 + i, 0, none⟩))) now (i + 1)) := Lib.hid (by
        have ho : ∀ j, j ≠ w.heap.size + 1 → (W2.setCell ⟨w.heap.size + 1, 2 + i, none⟩ (.pointer (some ⟨w.heap.size + 2 + i, 0, none⟩))).heap[j]? = W2.heap[j]? := fun j hj => Below.heap_setCell W2 _ _ j (by simpa using hj)
        have hw2 : ∀ j, j < wr.heap.size → W2.heap[j]? = wr.heap[j]? := fun j hj => by rw [hW2]; exact heap_alloc_old _ _ hj
        have hbel : Below w.heap.size w W2 := by rw [hW2]; exact below_drew (hst.bel.alloc hst.bel.size _)
        refine ⟨by simp [World.setCell]; rw [hW2]; show (wr.alloc _).heap.size = _; rw [World.size_alloc]; omega, blk_set hb2 (ncells_set now w.heap.size i hi4), fun j hj => ?_, (ho _ (by omega)).trans ((hw2 _ (by omega)).trans hst.map), hbel.setCell (by show w.heap.size ≤ w.heap.size + 1; omega) _⟩
        rw [ho _ (by omega)]
        by_cases e : j = i
        · rw [e]; exact hl2
        · exact (hw2 _ (by omega)).trans (hst.lev j (by omega)))
      have HN := Lib.hid (new_any i (by omega) wr.drew)
      have HZ := Lib.hid hz
      replace hW2 := Lib.hid hW2
      clear hst hb2 hl2 hz
      go_wp2_with fail
      refine wp_region_any (by kernel_rfl) ?_
      change wpAny _ _ _ _ _ _ _ (World.drew _)
      refine takeA (i := 0) (v := ?_) rfl (by kernel_rfl) (by kernel_rfl) (by kernel_rfl) (fun _ _ _ h => h) (Or.inl ⟨by rfl, ?_⟩) ?_
      rotate_left 1
      focus (intro w; go_simp; try with_reducible rfl)
      try simp only [Act.put, List.setIfInBounds_toArray, List.set_cons_zero, List.set_cons_succ]
      refine takeA (i := 1) (v := ?_) rfl (by kernel_rfl) (by kernel_rfl) (by kernel_rfl) (fun _ _ _ h => h) (Or.inl ⟨by rfl, ?_⟩) ?_
      rotate_left 1
      focus (intro w; go_simp; try with_reducible rfl)
      try simp only [Act.put, List.setIfInBounds_toArray, List.set_cons_zero, List.set_cons_succ]
      refine takeA (i := 2) (v := ?_) rfl (by kernel_rfl) (by kernel_rfl) (by kernel_rfl) (fun _ _ _ h => h) (Or.inl ⟨by rfl, ?_⟩) ?_
      rotate_left 1
      focus (intro w; go_simp; try with_reducible rfl)
      try simp only [Act.put, List.setIfInBounds_toArray, List.set_cons_zero, List.set_cons_succ]
      refine takeA (i := 4) (v := ?_) rfl (by kernel_rfl) (by kernel_rfl) (by kernel_rfl) (fun _ _ _ h => h) (Or.inl ⟨by rfl, ?_⟩) ?_
      rotate_left 1
      focus (intro w; go_simp; try with_reducible rfl)
      try simp only [Act.put, List.setIfInBounds_toArray, List.set_cons_zero, List.set_cons_succ]
      refine takeA (i := 5) (v := ?_) rfl (by kernel_rfl) (by kernel_rfl) (by kernel_rfl) (fun _ _ _ h => h) (Or.inl ⟨by rfl, ?_⟩) ?_
      rotate_left 1
      focus (intro w; go_simp; try with_reducible rfl)
      try simp only [Act.put, List.setIfInBounds_toArray, List.set_cons_zero, List.set_cons_succ]
      refine wpAny_ready (rs := [3]) (by kernel_rfl) (by simp) ?_
      refine consA rfl (fun K hK => ?_) AllReady.nil
      go_simp
      refine HN.out.mono ?_
      rintro e w3 ⟨rfl, rfl⟩
      go_wp2_with fail
      try simp only [Act.put, List.setIfInBounds_toArray, List.set_cons_zero, List.set_cons_succ]
      refine takeA (i := 6) (v := ?_) rfl (by kernel_rfl) (by kernel_rfl) (by kernel_rfl) (fun _ _ _ h => h) (Or.inl ⟨by rfl, ?_⟩) ?_
      rotate_left 1
      focus (intro w; go_simp; try with_reducible rfl)
      try simp only [Act.put, List.setIfInBounds_toArray, List.set_cons_zero, List.set_cons_succ]
      have hwr : wr.drew.alloc (.cells (fresh i) 74) = W2 := by rw [hW2.out]; rfl
      have hsz : wr.drew.heap.size = w.heap.size + 2 + i := HZ.out
      first | rw [hwr] | rw [← hW2.out]
      first | rw [hsz] | rw [HZ.out]
      refine wpAny_ready (rs := [7]) (by kernel_rfl) (by simp) ?_
      refine consA rfl (fun K hK => ?_) AllReady.nil
      go_simp
      refine hK _ _ ?_
      clear hK K
      try simp only [Act.put, List.setIfInBounds_toArray, List.set_cons_zero, List.set_cons_succ]
      refine wpAny_done (by kernel_rfl) ?_ _
      go_wp2_with fail
      exact ⟨⟨i + 1, rfl, by omega, HNX.out⟩, by simp [intOf]; omega⟩
    · have hie : i = 4 := by omega
      subst hie
      clear hst
      go_wp2_with fail
      go_ret
      exact ⟨rfl, HS.out.whl HNW.out, HS.out.bel⟩
end Wh
end Go.Proofs.YtkjlfoihojfnbaaDoor
