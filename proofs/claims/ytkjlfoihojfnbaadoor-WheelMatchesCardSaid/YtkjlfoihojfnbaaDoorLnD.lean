/- Take, Back, Of and Equal of at most one item. -/
import Derived.Test.YtkjlfoihojfnbaaDoorLnC
namespace Go.Proofs.YtkjlfoihojfnbaaDoor
open Go.RowKit
set_option linter.unusedVariables false
namespace Ln
open Lv (W64 slotOf slotOf_lt fresh ret_int slot_any rslot_any)
variable {w : World} {b k : Nat} {full : Int} {f : Nat → Value}

set_option maxRecDepth 100000 in
theorem take_small (s : Nat) (hs : s < 64) (A : Option Addr) (n cap : Nat) (hn : n ≤ 1) (hf : f s = .slice A n cap) (r : LV w b k f full) :
    Calls Tryd.prog 19 #[.pointer (some ⟨b, 0, none⟩), .int .i64 s] w fun e w' => e = .returned (.slice A n cap) ∧ w.grownBy w' (some b) := by
  have c := r.slot s hs
  rw [hf] at c
  have fz := r.free (1 + s)
  have hs0 : (0 : Int) ≤ s := by omega
  have hs1 : (s : Int) < 64 := by omega
  have HM := Lib.hid (mark_any s hs none 0 0 (f := upd f s (.slice none 0 0)) (by simp [upd]) (r.setSlot s hs _))
  have HS := Lib.hid fun w => sort_small A n cap hn w
  have HG := Lib.hid (only_set w w b (1 + s) (.slice none 0 0) (only_refl w b))
  clear r
  go_enter Tryd.func19, Tryd.ntmps19
  go_wp2_with fail
  refine HM.out.mono ?_
  rintro e w9 ⟨⟨v9, rfl⟩, -, hg9⟩
  have HG9 := Lib.hid hg9
  clear hg9 HM
  go_wp2_with fail
  refine (HS.out _).mono ?_
  rintro e w10 ⟨⟨v10, rfl⟩, rfl⟩
  go_wp2_with fail
  go_ret
  refine ⟨rfl, ⟨HG9.out.os.trans HG.out.os, HG9.out.tape.trans HG.out.tape, HG9.out.output.trans HG.out.output, Nat.le_trans HG.out.size HG9.out.size, fun j h1 h2 => ?_⟩⟩
  exact (HG9.out.block j (Nat.lt_of_lt_of_le h1 HG.out.size) h2).trans (HG.out.block j h1 h2)
theorem take_out (s : Int) (h0 : -9223372036854775808 ≤ s) (h1 : s ≤ 9223372036854775807) (h : s < 0 ∨ 64 ≤ s) (b : Nat) (w : World) :
    Calls Tryd.prog 19 #[.pointer (some ⟨b, 0, none⟩), .int .i64 s] w fun e w' => e = .returned (.slice none 0 0) ∧ w = w' := by
  rcases h with h | h
  all_goals
    go_enter Tryd.func19, Tryd.ntmps19
    go_wp2_with fail
    go_ret
    exact ⟨rfl, rfl⟩

/-- One item at the head of a block. -/
def One (w : World) (g i a : Nat) : Prop := g < w.heap.size ∧ w.cell? ⟨g, 0, none⟩ = some (.int .u64 i) ∧ w.cell? ⟨g, 1, none⟩ = some (.int .u64 a)
theorem One.later {w w' : World} {g i a : Nat} (h : One w g i a) (hb : Below w.heap.size w w') : One w' g i a :=
  ⟨Nat.lt_of_lt_of_le h.1 hb.size, (hb.cell (p := ⟨g, 0, none⟩) h.1).trans h.2.1, (hb.cell (p := ⟨g, 1, none⟩) h.1).trans h.2.2⟩

theorem Tryd.infoR : (Tryd.prog.info? 29).map (fun i => (i.zero, i.size, i.bytes)) = some (some (.agg #[.int .u64 0, .int .u64 0]), 2, 16) := by kernel_rfl

theorem one_append {W : World} (ty : TypeId) (g c i a : Nat) (h : One W g i a) :
    ∃ g2 c2 W', (Builtin.append_ #[26, 26] ty #[.slice none 0 0, .slice (some ⟨g, 0, none⟩) 1 c]).run Tryd.prog W = .ok (.slice (some ⟨g2, 0, none⟩) 1 c2) W' ∧ 1 ≤ c2 ∧ c2 ≤ maxLen ∧ One W' g2 i a ∧ Below W.heap.size W W' := by
  obtain ⟨i0, hi, hz0, hz1, hz2⟩ := info_parts Tryd.infoR
  obtain ⟨v', W', hr, ho, hg, -, -⟩ := run_append_own_at (P := Tryd.prog) W W.heap.size 26 ty 29 i0 (.agg #[.int .u64 0, .int .u64 0]) 2 16 Tryd.underlying26 hi hz0 hz1 hz2 rfl (by decide) (.slice none 0 0) 0 [] ⟨rfl, .inl ⟨rfl, rfl⟩⟩ ⟨g, 0, none⟩ 1 c [.int .u64 i, .int .u64 a] (by simp) (fun j u hu => by
    rcases j with _ | _ | j
    · have : Value.int .u64 i = u := by simpa using hu
      rw [← this]; exact h.2.1
    · have : Value.int .u64 a = u := by simpa using hu
      rw [← this]; exact h.2.2
    · simp at hu) (by intro u hu; simp at hu; rcases hu with rfl | rfl <;> rfl) (by simp only [maxLen]; omega) (by omega) (Nat.le_refl _)
  rcases ho.2 with ⟨-, h2⟩ | ⟨g', cp, cur, rfl, q2, q3, q4, q5, q6, q7⟩
  · simp at h2
  · have q8 : cur.toList.take 2 = [.int .u64 i, .int .u64 a] := q7
    refine ⟨g', cp, W', hr, q4, q5, ⟨(Array.getElem?_eq_some_iff.1 q3).1, ?_, ?_⟩, (Below.refl _ _).grown hg (Nat.le_refl _) (fun k hk => by cases hk)⟩
    all_goals
      simp only [World.cell?, q3]
      rw [← Array.getElem?_toList]
    · rw [← List.getElem?_take_of_lt (l := cur.toList) (j := 2) (by omega), q8]; rfl
    · rw [← List.getElem?_take_of_lt (l := cur.toList) (j := 2) (by omega), q8]; rfl
end Ln
end Go.Proofs.YtkjlfoihojfnbaaDoor
