/- Put of an item whose slot is empty. -/
import Derived.Test.YtkjlfoihojfnbaaDoorLnA
import Derived.Deep.RegionLaw
import Derived.Deep.AppendLies
import Derived.Deep.CutRange
import Derived.Laws.EntriesVeiled
import Derived.StillTailTactics
namespace Go.Proofs.YtkjlfoihojfnbaaDoor
open Go.RowKit
set_option linter.unusedVariables false
namespace Ln
open Lv (W64 slotOf slotOf_lt fresh ret_int slot_any)

theorem Tryd.infoI : (Tryd.prog.info? 34).map (fun i => (i.zero, i.size, i.bytes)) = some (some (.agg #[.int .u64 0, .int .u64 0]), 2, 16) := by kernel_rfl

theorem rowOf_own' (r n cap : Nat) : (Value.slice (some ⟨r, 0, none⟩) n cap).ownBlock = some r := rfl
variable {w : World} {b k : Nat} {full : Int} {f : Nat → Value}

/-- What is there behind Put of (i, a). -/
def PutDone (w w' : World) (b k : Nat) (f : Nat → Value) (i a : Nat) : Prop := ∃ g cap, w.heap.size ≤ g ∧ 1 ≤ cap ∧ cap ≤ maxLen ∧ g < w'.heap.size ∧ w'.cell? ⟨g, 0, none⟩ = some (.int .u64 i) ∧ w'.cell? ⟨g, 1, none⟩ = some (.int .u64 a) ∧ (∃ x, LV w' b k (upd f (slotOf k a) (.slice (some ⟨g, 0, none⟩) 1 cap)) x) ∧ w.grownBy w' (some b)

theorem put_grown {w W0 w' w9 : World} {Z : Obj} {s : Nat} {v : Value} (h0 : Below w.heap.size w W0) (h1 : (W0.drew.alloc Z).grownBy w' none) (h2 : (w'.setCell ⟨b, 1 + s, none⟩ v).grownBy w9 (some b)) (hb : b < w.heap.size) : w.grownBy w9 (some b) := by
  have hz : W0.heap.size < (W0.drew.alloc Z).heap.size  := by rw [World.size_alloc]; exact Nat.lt_succ_self _
  have hz1 := h1.size
  have hz2 := h2.size
  have hz3 : (w'.setCell ⟨b, 1 + s, none⟩ v).heap.size = w'.heap.size := by simp [World.setCell]
  refine ⟨h2.os.trans (h1.os.trans h0.os), h2.tape.trans (h1.tape.trans h0.tape), h2.output.trans (h1.output.trans h0.output), by have := h0.size; omega, fun j hj hne => ?_⟩
  have hs0 := h0.size
  rw [h2.block j (by omega) hne, Below.heap_setCell _ _ _ _ (by simp only []; intro e; exact hne (by rw [e])), h1.block j (by omega) (by simp)]
  exact (heap_alloc_old W0.drew Z (show j < W0.heap.size by omega)).trans (h0.block j hj)
theorem put_cells {W w9 : World} {base g cap b s : Nat} {v x y : Value} (h : W.ownsRow base 34 2 (.slice (some ⟨g, 0, none⟩) 1 cap) 1 [x, y]) (hg : g ≠ b) (h2 : (W.setCell ⟨b, 1 + s, none⟩ v).grownBy w9 (some b)) :
    base ≤ g ∧ 1 ≤ cap ∧ cap ≤ maxLen ∧ g < w9.heap.size ∧ w9.cell? ⟨g, 0, none⟩ = some x ∧ w9.cell? ⟨g, 1, none⟩ = some y := by
  rcases h.2 with ⟨h1, -⟩ | ⟨g', cp, cur, q1, q2, q3, q4, q5, q6, q7⟩
  · cases h1
  · cases q1
    have hlt := (Array.getElem?_eq_some_iff.1 q3).1
    have hz3 : (W.setCell ⟨b, 1 + s, none⟩ v).heap.size = W.heap.size := by simp [World.setCell]
    have q8 : cur.toList.take 2 = [x, y] := q7
    have h9 : w9.heap[g]? = some (.cells cur 34 (0, 0)) := by
      rw [h2.block g (by omega) (by simpa using hg), Below.heap_setCell _ _ _ _ (by simpa using hg)]; exact q3
    refine ⟨q2, q4, q5, (Array.getElem?_eq_some_iff.1 h9).1, ?_, ?_⟩
    all_goals
      simp only [World.cell?, h9]
      rw [← Array.getElem?_toList]
    · rw [← List.getElem?_take_of_lt (l := cur.toList) (j := 2) (by omega), q8]; rfl
    · rw [← List.getElem?_take_of_lt (l := cur.toList) (j := 2) (by omega), q8]; rfl

set_option maxRecDepth 100000 in
set_option maxHeartbeats 1000000 in
theorem put_new (i a : Nat) (hk : k ≤ 3) (ha : a < 18446744073709551616) (hf : f (slotOf k a) = .slice none 0 0) (r : LV w b k f full) :
    Calls Tryd.prog 12 #[.pointer (some ⟨b, 0, none⟩), .agg #[.int .u64 i, .int .u64 a]] w fun e w' => e = .returned (.bool true) ∧ PutDone w w' b k f i a := by
  obtain ⟨i0, hi0, hz0, hz1, hz2⟩ := info_parts Tryd.infoI
  obtain ⟨W0, hW0⟩ : ∃ W0, W0 = w.alloc (.cells #[.int .u64 i, .int .u64 a] 34) := ⟨_, rfl⟩
  have hb0 : Below w.heap.size w W0 := by rw [hW0]; exact (Below.refl _ _).alloc (Nat.le_refl _) _
  have hx0 : W0.heap[w.heap.size]? = some (.cells #[.int .u64 i, .int .u64 a] 34 (0, 0)) := by rw [hW0]; exact heap_alloc_new w _
  have hzw : w.heap.size < W0.heap.size := by rw [hW0]; simp
  have x0 : W0.cell? ⟨w.heap.size, 0, none⟩ = some (.int .u64 i) := by simp [World.cell?, hx0]
  have x1 : W0.cell? ⟨w.heap.size, 1, none⟩ = some (.int .u64 a) := by simp [World.cell?, hx0]
  have r0 : LV W0 b k f full := r.later hb0 r.lt
  have hlt := r0.lt
  have hblt := r.lt
  have hs := slotOf_lt k a
  have HS := Lib.hid (slot_any k hk b a ha W0 r0.n)
  obtain ⟨s, hse⟩ : ∃ s, s = slotOf k a := ⟨_, rfl⟩
  rw [← hse] at hf hs HS
  unfold PutDone
  rw [← hse]
  have hc := r0.slot s hs
  rw [hf] at hc
  have hs0 : (0 : Int) ≤ s := by omega
  have hs1 : (s : Int) < 64 := by omega
  have R0 := Lib.hid r0
  have HW := Lib.hid hb0
  have h1c : Hid (∀ u ∈ [Value.int .u64 i, .int .u64 a], u.oneCell' = true) := Lib.hid (by intro u hu; simp at hu; rcases hu with rfl | rfl <;> rfl)
  have HM := Lib.hid fun (w : World) (f : Nat → Value) (full : Int) (A : Option Addr) (n cap : Nat) (hf : f s = .slice A n cap) (r : LV w b k f full) => mark_any s hs A n cap hf r
  replace hW0 := Lib.hid hW0
  have hown : Hid (∀ W : World, W.ownsRow W0.heap.size 34 2 (.slice none 0 0) 0 []) := Lib.hid fun W => ⟨rfl, .inl ⟨rfl, rfl⟩⟩
  have HLW : Hid (∀ Z, LV (W0.drew.alloc Z) b k f full) := Lib.hid fun Z => R0.out.keep (heap_alloc_old _ _ hlt)
  clear r r0 hb0 hx0 hse
  go_enter Tryd.func12, Tryd.ntmps12
  go_upto_region 3 with fail
  rw [← hW0.out]
  go_wp2_with fail
  refine HS.out.mono ?_
  rintro e w1 ⟨rfl, rfl⟩
  go_wp2_with fail
  go_loop [21] (fun j => j = .int .i64 0) (fun _ => 0)
  case atStart => rfl
  case round =>
    obtain rfl := hrel
    go_wp2_with fail
    go_region_law (refine step_append_lies _ rfl (.tmp 36) (.tmp 38) 39 rfl W0.heap.size 34 i0 _ 2 16 Tryd.underlying39 hi0 hz0 hz1 hz2 rfl (by decide) _ 0 [] (by simp [Act.eval]) (hown.out _) ⟨_, 0, none⟩ 1 1 [.int .u64 i, .int .u64 a] (by simp [Act.eval]; try rfl) rfl (World.news_of_block (heap_alloc_new _ _)) h1c.out (by decide) (by simp only [maxLen]; omega) (by omega) (by simp) _ rfl ?_; intro g cap' w' hown' hgrow hat hrl; have RL := Lib.hid ((HLW.out _).keep (hgrow.block b (by simp; omega) (by simp [Value.ownBlock]))); have kf := RL.out.free (1 + s); have kc := (RL.out.slot s hs).trans (congrArg some hf))
    all_goals go_wp2_with fail
    all_goals
      refine (HM.out _ _ _ (some ⟨g, 0, none⟩) 1 cap' (by simp [upd]) (RL.out.setSlot s hs _)).mono ?_
      rintro e w9 ⟨⟨v9, rfl⟩, ⟨x9, RL9⟩, hg9⟩
      go_wp2_with fail
      go_ret
      have hge : W0.heap.size ≤ g := by
        rcases hown'.2 with ⟨h1, -⟩ | ⟨g', cp, cur, q1, q2, q3, q4⟩
        · cases h1
        · cases q1; exact q2
      obtain ⟨p1, p2, p3, p4, p5, p6⟩ := put_cells hown' (by omega) hg9
      exact ⟨rfl, g, cap', by omega, p2, p3, p4, p5, p6, ⟨x9, RL9⟩, put_grown HW.out hgrow hg9 hblt⟩
end Ln
end Go.Proofs.YtkjlfoihojfnbaaDoor
