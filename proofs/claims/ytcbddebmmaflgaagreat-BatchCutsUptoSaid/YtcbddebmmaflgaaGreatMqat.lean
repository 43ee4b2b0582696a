/- bin.Reader's peek. -/
/- Bytes read as a string. -/
/- bin.Reader's Uint, Int, Take, Bytes, Text as pure steps. -/
/- bin.Reader's Int. -/
import Derived.Test.YtcbddebmmaflgaaGreatMqas
import Derived.Laws.BitsAllLaws
import Derived.Test.YtcbddebmmaflgaaGreatMqaq
import Derived.Lib.BufferRead
import Derived.Lib.AtoiErrMem
namespace Go.Proofs.YtcbddebmmaflgaaGreat
open Go.RowKit
set_option linter.unusedVariables false
set_option linter.unusedSimpArgs false
namespace Rd
open _root_.Go.Proofs.YtcbddebmmaflgaaGreat.Nm (ret_int ret_bool)
open Vt (below_drew)
open Ev (take_drop tk cons_drop)
open Bt (BOwn BIn bv ubytes uint_any)
open Cn (BRd brd_own bequal_any)
open Cm (OnlyAt)

/-- Bytes are bytes. -/
def Byt (l : List Nat) : Prop := ∀ b ∈ l, b < 256
/-- What peeking leaves. -/
def Peeked (w : World) (l : List Nat) (bad : Bool) (r : Ending) (w' : World) : Prop := r = .returned (match (if bad then none else num l) with | some (x, n) => .tuple #[.int .u64 x, .int .i64 n, .bool true] | none => .tuple #[.int .u64 0, .int .i64 0, .bool false]) ∧ Below w.heap.size w w'

theorem and_127 : ∀ r : Fin 256, bits BinOp.and IntKind.u8 (r.val : Int) 127 = ((r.val % 128 : Nat) : Int) := by decide +kernel
theorem or_step (X c j : Nat) (hX : X < 18446744073709551616) : bits BinOp.or IntKind.u64 (X : Int) (IntKind.u64.wrap ((c : Int) % 128 * 2 ^ (7 * j))) = ((X ||| (c % 128 * 128 ^ j) % 18446744073709551616 : Nat) : Int) := by
  have e1 : (2 : Int) ^ (7 * j) = ((128 ^ j : Nat) : Int) := by
    rw [show ((128 : Nat) ^ j) = 2 ^ (7 * j) from by rw [show (128 : Nat) = 2 ^ 7 from rfl, ← Nat.pow_mul]]
    simp
  rw [e1, IntKind.wrap_u64, show (c : Int) % 128 * ((128 ^ j : Nat) : Int) = ((c % 128 * 128 ^ j : Nat) : Int) from by rw [Int.natCast_mul]; rfl]
  generalize c % 128 * 128 ^ j = y
  rw [show ((y : Nat) : Int) % 18446744073709551616 = ((y % 18446744073709551616 : Nat) : Int) from by omega]
  exact bits_or_u64_nat X _ hX (Nat.mod_lt _ (by omega))
theorem or_step_lt (X c j : Nat) (hX : X < 18446744073709551616) : X ||| (c % 128 * 128 ^ j) % 18446744073709551616 < 18446744073709551616 := Nat.or_lt_two_pow (n := 64) hX (Nat.mod_lt _ (by omega))
theorem drop_cons {l : List Nat} {j : Nat} (h : j < l.length) : l.drop j = l[j] :: l.drop (j + 1) := List.drop_eq_getElem_cons h
theorem peeked_yes {w w' : World} {l : List Nat} {x n : Nat} (h : num l = some (x, n)) (hb : Below w.heap.size w w') : Peeked w l false (.returned (.tuple #[.int .u64 x, .int .i64 n, .bool true])) w' := by
  unfold Peeked; rw [if_neg (by simp), h]; exact ⟨rfl, hb⟩
theorem peeked_no {w w' : World} {l : List Nat} (h : num l = none) (hb : Below w.heap.size w w') : Peeked w l false (.returned (.tuple #[.int .u64 0, .int .i64 0, .bool false])) w' := by
  unfold Peeked; rw [if_neg (by simp), h]; exact ⟨rfl, hb⟩

set_option maxRecDepth 100000 in
set_option maxHeartbeats 2000000 in
theorem peek_bad (g : Nat) (v : Value) (l : List Nat) (w : World) (h : RAt w g v l true) :
    Calls Tryz.prog 37 #[.pointer (some ⟨g, 0, none⟩)] w (Peeked w l true) := by
  obtain ⟨c0, c1, c2, c3⟩ := h.cells
  clear h c2
  go_enter Tryz.func37, Tryz.ntmps37
  go_wp2_with fail
  exact bodyPost_ret (v := .tuple #[.int .u64 0, .int .i64 0, .bool false]) (by simp [results, Tryz.results37, go_sem]) rfl ⟨rfl, Below.refl _ _⟩

set_option maxRecDepth 100000 in
set_option maxHeartbeats 2000000 in
theorem peek_good (g : Nat) (v : Value) (l : List Nat) (hb : Byt l) (w : World) (h : RAt w g v l false) (hne : ¬ (v = .slice none 0 0 ∧ l = [])) :
    Calls Tryz.prog 37 #[.pointer (some ⟨g, 0, none⟩)] w (Peeked w l false) := by
  obtain ⟨b, off, cap, hv, h2, h3, h4, h5⟩ := h.rd.resolve_left hne
  subst hv
  simp only [maxLen] at h3
  have HNE := Lib.hid hne
  clear h5 hne
  have HR := Lib.hid h
  obtain ⟨c0, c1, c2, c3⟩ := h.cells
  have KS : Hid (∀ W' : World, Below w.heap.size w W' → (W'.cell? ⟨g, 0, none⟩ = some (.slice (some ⟨b, off, none⟩) l.length cap) ∧ W'.cell? ⟨g, 1, none⟩ = some (.bool false))) := Lib.hid fun W' hW => by
    obtain ⟨c0, c1, -, -⟩ := (HR.out.later hW).cells
    exact ⟨c0, c1⟩
  clear h c2
  go_enter Tryz.func37, Tryz.ntmps37
  obtain ⟨k, hk⟩ : ∃ k, k = min l.length 10 := ⟨_, rfl⟩
  have hmin : (if (10 : Int) < (l.length : Int) then (10 : Int) else (l.length : Int)) = (k : Int) := by split <;> omega
  have hk2 : k ≤ cap := by omega
  have hk3 : k ≤ l.length := by omega
  have HK := Lib.hid hk
  clear hk
  go_upto_region 3 with fail
  clear c0 c1
  refine wp_region_noPanic ?_
  refine wp_region_held_drew (S := (fun W' : World => W'.cell? ⟨g, 0, none⟩ = some (.slice (some ⟨b, off, none⟩) l.length cap) ∧ W'.cell? ⟨g, 1, none⟩ = some (.bool false))) (by kernel_rfl) ?_ (fun hHeld => ?_)
  · exact KS.out _ (below_drew (Below.refl _ _))
  first
    | (refine tk (i := 0) (v := ?_) rfl (Or.inl ⟨by rfl, ?_⟩) ?_; rotate_left 1; (focus (intro w hSw; (try dsimp only at hSw); go_simp; try with_reducible rfl)))
    | (refine tk (i := 0) (v := undef) rfl (Or.inr ⟨by rfl, rfl⟩) ?_)
  try simp only [Act.put, List.setIfInBounds_toArray, List.set_cons_zero, List.set_cons_succ]
  first
    | (refine tk (i := 1) (v := ?_) rfl (Or.inl ⟨by rfl, ?_⟩) ?_; rotate_left 1; (focus (intro w hSw; (try dsimp only at hSw); go_simp; try with_reducible rfl)))
    | (refine tk (i := 1) (v := undef) rfl (Or.inr ⟨by rfl, rfl⟩) ?_)
  try simp only [Act.put, List.setIfInBounds_toArray, List.set_cons_zero, List.set_cons_succ]
  first
    | (refine tk (i := 2) (v := ?_) rfl (Or.inl ⟨by rfl, ?_⟩) ?_; rotate_left 1; (focus (intro w hSw; (try dsimp only at hSw); go_simp; try with_reducible rfl)))
    | (refine tk (i := 2) (v := undef) rfl (Or.inr ⟨by rfl, rfl⟩) ?_)
  try simp only [Act.put, List.setIfInBounds_toArray, List.set_cons_zero, List.set_cons_succ]
  first
    | (refine tk (i := 3) (v := ?_) rfl (Or.inl ⟨by rfl, ?_⟩) ?_; rotate_left 1; (focus (intro w hSw; (try dsimp only at hSw); go_simp; try with_reducible rfl)))
    | (refine tk (i := 3) (v := undef) rfl (Or.inr ⟨by rfl, rfl⟩) ?_)
  try simp only [Act.put, List.setIfInBounds_toArray, List.set_cons_zero, List.set_cons_succ]
  first
    | (refine tk (i := 4) (v := ?_) rfl (Or.inl ⟨by rfl, ?_⟩) ?_; rotate_left 1; (focus (intro w hSw; (try dsimp only at hSw); go_simp; try with_reducible rfl)))
    | (refine tk (i := 4) (v := undef) rfl (Or.inr ⟨by rfl, rfl⟩) ?_)
  try simp only [Act.put, List.setIfInBounds_toArray, List.set_cons_zero, List.set_cons_succ]
  first
    | (refine tk (i := 5) (v := ?_) rfl (Or.inl ⟨by rfl, ?_⟩) ?_; rotate_left 1; (focus (intro w hSw; (try dsimp only at hSw); go_simp; try with_reducible rfl)))
    | (refine tk (i := 5) (v := undef) rfl (Or.inr ⟨by rfl, rfl⟩) ?_)
  try simp only [Act.put, List.setIfInBounds_toArray, List.set_cons_zero, List.set_cons_succ]
  first
    | (refine tk (i := 6) (v := ?_) rfl (Or.inl ⟨by rfl, ?_⟩) ?_; rotate_left 1; (focus (intro w hSw; (try dsimp only at hSw); go_simp; try with_reducible rfl)))
    | (refine tk (i := 6) (v := undef) rfl (Or.inr ⟨by rfl, rfl⟩) ?_)
  try simp only [Act.put, List.setIfInBounds_toArray, List.set_cons_zero, List.set_cons_succ]
  first
    | (refine tk (i := 7) (v := ?_) rfl (Or.inl ⟨by rfl, ?_⟩) ?_; rotate_left 1; (focus (intro w hSw; (try dsimp only at hSw); go_simp; try with_reducible rfl)))
    | (refine tk (i := 7) (v := undef) rfl (Or.inr ⟨by rfl, rfl⟩) ?_)
  try simp only [Act.put, List.setIfInBounds_toArray, List.set_cons_zero, List.set_cons_succ]
  first
    | (refine tk (i := 8) (v := ?_) rfl (Or.inl ⟨by rfl, ?_⟩) ?_; rotate_left 1; (focus (intro w hSw; (try dsimp only at hSw); go_simp; try with_reducible rfl)))
    | (refine tk (i := 8) (v := undef) rfl (Or.inr ⟨by rfl, rfl⟩) ?_)
  try simp only [Act.put, List.setIfInBounds_toArray, List.set_cons_zero, List.set_cons_succ]
  first
    | (refine tk (i := 9) (v := ?_) rfl (Or.inl ⟨by rfl, ?_⟩) ?_; rotate_left 1; (focus (intro w hSw; (try dsimp only at hSw); go_simp; try with_reducible rfl)))
    | (refine tk (i := 9) (v := undef) rfl (Or.inr ⟨by rfl, rfl⟩) ?_)
  try simp only [Act.put, List.setIfInBounds_toArray, List.set_cons_zero, List.set_cons_succ]
  first
    | (refine tk (i := 10) (v := ?_) rfl (Or.inl ⟨by rfl, ?_⟩) ?_; rotate_left 1; (focus (intro w hSw; (try dsimp only at hSw); go_simp; try with_reducible rfl)))
    | (refine tk (i := 10) (v := undef) rfl (Or.inr ⟨by rfl, rfl⟩) ?_)
  try simp only [Act.put, List.setIfInBounds_toArray, List.set_cons_zero, List.set_cons_succ]
  first
    | (refine tk (i := 11) (v := ?_) rfl (Or.inl ⟨by rfl, ?_⟩) ?_; rotate_left 1; (focus (intro w hSw; (try dsimp only at hSw); go_simp; try with_reducible rfl)))
    | (refine tk (i := 11) (v := undef) rfl (Or.inr ⟨by rfl, rfl⟩) ?_)
  try simp only [Act.put, List.setIfInBounds_toArray, List.set_cons_zero, List.set_cons_succ]
  first
    | (refine tk (i := 12) (v := ?_) rfl (Or.inl ⟨by rfl, ?_⟩) ?_; rotate_left 1; (focus (intro w hSw; (try dsimp only at hSw); go_simp; try with_reducible rfl)))
    | (refine tk (i := 12) (v := undef) rfl (Or.inr ⟨by rfl, rfl⟩) ?_)
  try simp only [Act.put, List.setIfInBounds_toArray, List.set_cons_zero, List.set_cons_succ]
  first
    | (refine tk (i := 13) (v := ?_) rfl (Or.inl ⟨by rfl, ?_⟩) ?_; rotate_left 1; (focus (intro w hSw; (try dsimp only at hSw); go_simp; try with_reducible rfl)))
    | (refine tk (i := 13) (v := undef) rfl (Or.inr ⟨by rfl, rfl⟩) ?_)
  try simp only [Act.put, List.setIfInBounds_toArray, List.set_cons_zero, List.set_cons_succ]
  first
    | (refine tk (i := 14) (v := ?_) rfl (Or.inl ⟨by rfl, ?_⟩) ?_; rotate_left 1; (focus (intro w hSw; (try dsimp only at hSw); go_simp; try with_reducible rfl)))
    | (refine tk (i := 14) (v := undef) rfl (Or.inr ⟨by rfl, rfl⟩) ?_)
  try simp only [Act.put, List.setIfInBounds_toArray, List.set_cons_zero, List.set_cons_succ]
  refine wpAnyH_done (by kernel_rfl) ?_ _
  refine NoPanic.normal ?_
  go_wp2_with fail
  go_loopw [2, 3, 30] (fun xv nv iv wr => ∃ (j X : Nat), j ≤ k ∧ iv = .int .i64 j ∧ nv = .int .i64 0 ∧ xv = .int .u64 X ∧ X < 18446744073709551616 ∧ pk 10 0 0 l = pk (10 - j) j X (l.drop j) ∧ Below w.heap.size w wr) (fun _ _ i _ => k - (intOf i).toNat)
  case atStart => exact ⟨0, 0, by omega, rfl, rfl, rfl, by omega, rfl, below_drew (Below.refl _ _)⟩
  case round =>
    obtain ⟨j, X, hj, rfl, rfl, rfl, hX, hpk, hbw⟩ := hrel
    have HB := Lib.hid hbw
    have HPK := Lib.hid hpk
    clear hpk hbw
    by_cases hlt : j < k
    · have hjl : j < l.length := by omega
      obtain ⟨b', off', cap', e1, -, -, e4, e5⟩ := (HR.out.rd.later HB.out).resolve_left HNE.out
      injection e1 with e1 _ e2
      injection e1 with e1
      injection e1 with e1 e3
      subst e1 e3 e2
      have c1 := e5 j hjl
      obtain ⟨c, hc⟩ : ∃ c, c = l[j] := ⟨_, rfl⟩
      rw [← hc] at c1
      have hcb : c < 256 := by rw [hc]; exact hb _ (List.getElem_mem hjl)
      have HC := Lib.hid hc
      clear hc e5
      have hand : bits BinOp.and IntKind.u8 (c : Int) 127 = ((c % 128 : Nat) : Int) := and_127 ⟨c, hcb⟩
      obtain ⟨d, hd⟩ : ∃ d, d = c % 128 := ⟨_, rfl⟩
      rw [← hd] at hand
      by_cases hc128 : c < 128
      · go_wp2_with fail
        rw [or_step X c j hX]
        obtain ⟨Y, hY⟩ : ∃ Y, Y = X ||| (c % 128 * 128 ^ j) % 18446744073709551616 := ⟨_, rfl⟩
        have hYl : Y < 18446744073709551616 := by rw [hY]; exact or_step_lt X c j hX
        rw [← hY]
        have hfin : pk 10 0 0 l = (Y, j + 1) := by
          rw [HPK.out, drop_cons hjl, show 10 - j = (10 - j - 1) + 1 by omega, ← HC.out, pk, if_pos hc128, hY]
        have HFIN : Hid (num l = if ubytes 10 Y ≠ l.take (j + 1) then none else some (Y, j + 1)) := Lib.hid (by
          rw [peek_num hb, hfin]
          by_cases q : ubytes 10 Y = l.take (j + 1)
          · rw [if_neg (by simp [q]), if_neg (by simp [q])]
          · rw [if_pos (.inr q), if_pos q])
        have hj1 : ((j : Int) + 1 == 0) = false := by simp; omega
        have hj2 : j + 1 ≤ cap := by omega
        have hj3 : (0 : Int) ≤ (j : Int) + 1 := by omega
        have hj4 : (j : Int) + 1 ≤ (cap : Int) := by omega
        have HU := Lib.hid fun W => uint_any Y hYl W
        have HT : Hid (∀ W, Below wr.heap.size wr W → BRd W (.slice (some ⟨b, off, none⟩) (j + 1) cap) (l.take (j + 1))) := Lib.hid fun W hW => brd_take ((HR.out.rd.later HB.out).later hW) (by omega)
        clear hfin hY hand hd c1
        go_upto_region 10 with fail
        refine wp_region_noPanic ?_
        refine wp_region_held_drew (S := (fun W' : World => W'.cell? ⟨g, 0, none⟩ = some (.slice (some ⟨b, off, none⟩) l.length cap) ∧ W'.cell? ⟨g, 1, none⟩ = some (.bool false))) (by kernel_rfl) ?_ (fun hHeld => ?_)
        · exact KS.out _ (HB.out.trans ((below_drew (Below.refl wr.heap.size wr)).mono HB.out.size))
        first
          | (refine tk (i := 0) (v := ?_) rfl (Or.inl ⟨by rfl, ?_⟩) ?_; rotate_left 1; (focus (intro w hSw; (try dsimp only at hSw); go_simp; try with_reducible rfl)))
          | (refine tk (i := 0) (v := undef) rfl (Or.inr ⟨by rfl, rfl⟩) ?_)
        try simp only [Act.put, List.setIfInBounds_toArray, List.set_cons_zero, List.set_cons_succ]
        first
          | (refine tk (i := 1) (v := ?_) rfl (Or.inl ⟨by rfl, ?_⟩) ?_; rotate_left 1; (focus (intro w hSw; (try dsimp only at hSw); go_simp; try with_reducible rfl)))
          | (refine tk (i := 1) (v := undef) rfl (Or.inr ⟨by rfl, rfl⟩) ?_)
        try simp only [Act.put, List.setIfInBounds_toArray, List.set_cons_zero, List.set_cons_succ]
        first
          | (refine tk (i := 2) (v := ?_) rfl (Or.inl ⟨by rfl, ?_⟩) ?_; rotate_left 1; (focus (intro w hSw; (try dsimp only at hSw); go_simp; try with_reducible rfl)))
          | (refine tk (i := 2) (v := undef) rfl (Or.inr ⟨by rfl, rfl⟩) ?_)
        try simp only [Act.put, List.setIfInBounds_toArray, List.set_cons_zero, List.set_cons_succ]
        first
          | (refine tk (i := 3) (v := ?_) rfl (Or.inl ⟨by rfl, ?_⟩) ?_; rotate_left 1; (focus (intro w hSw; (try dsimp only at hSw); go_simp; try with_reducible rfl)))
          | (refine tk (i := 3) (v := undef) rfl (Or.inr ⟨by rfl, rfl⟩) ?_)
        try simp only [Act.put, List.setIfInBounds_toArray, List.set_cons_zero, List.set_cons_succ]
        first
          | (refine tk (i := 5) (v := ?_) rfl (Or.inl ⟨by rfl, ?_⟩) ?_; rotate_left 1; (focus (intro w hSw; (try dsimp only at hSw); go_simp; try with_reducible rfl)))
          | (refine tk (i := 5) (v := undef) rfl (Or.inr ⟨by rfl, rfl⟩) ?_)
        try simp only [Act.put, List.setIfInBounds_toArray, List.set_cons_zero, List.set_cons_succ]
        first
          | (refine tk (i := 6) (v := ?_) rfl (Or.inl ⟨by rfl, ?_⟩) ?_; rotate_left 1; (focus (intro w hSw; (try dsimp only at hSw); go_simp; try with_reducible rfl)))
          | (refine tk (i := 6) (v := undef) rfl (Or.inr ⟨by rfl, rfl⟩) ?_)
        try simp only [Act.put, List.setIfInBounds_toArray, List.set_cons_zero, List.set_cons_succ]
        first
          | (refine tk (i := 7) (v := ?_) rfl (Or.inl ⟨by rfl, ?_⟩) ?_; rotate_left 1; (focus (intro w hSw; (try dsimp only at hSw); go_simp; try with_reducible rfl)))
          | (refine tk (i := 7) (v := undef) rfl (Or.inr ⟨by rfl, rfl⟩) ?_)
        try simp only [Act.put, List.setIfInBounds_toArray, List.set_cons_zero, List.set_cons_succ]
        first
          | (refine tk (i := 8) (v := ?_) rfl (Or.inl ⟨by rfl, ?_⟩) ?_; rotate_left 1; (focus (intro w hSw; (try dsimp only at hSw); go_simp; try with_reducible rfl)))
          | (refine tk (i := 8) (v := undef) rfl (Or.inr ⟨by rfl, rfl⟩) ?_)
        try simp only [Act.put, List.setIfInBounds_toArray, List.set_cons_zero, List.set_cons_succ]
        first
          | (refine tk (i := 9) (v := ?_) rfl (Or.inl ⟨by rfl, ?_⟩) ?_; rotate_left 1; (focus (intro w hSw; (try dsimp only at hSw); go_simp; try with_reducible rfl)))
          | (refine tk (i := 9) (v := undef) rfl (Or.inr ⟨by rfl, rfl⟩) ?_)
        try simp only [Act.put, List.setIfInBounds_toArray, List.set_cons_zero, List.set_cons_succ]
        first
          | (refine tk (i := 10) (v := ?_) rfl (Or.inl ⟨by rfl, ?_⟩) ?_; rotate_left 1; (focus (intro w hSw; (try dsimp only at hSw); go_simp; try with_reducible rfl)))
          | (refine tk (i := 10) (v := undef) rfl (Or.inr ⟨by rfl, rfl⟩) ?_)
        try simp only [Act.put, List.setIfInBounds_toArray, List.set_cons_zero, List.set_cons_succ]
        first
          | (refine tk (i := 11) (v := ?_) rfl (Or.inl ⟨by rfl, ?_⟩) ?_; rotate_left 1; (focus (intro w hSw; (try dsimp only at hSw); go_simp; try with_reducible rfl)))
          | (refine tk (i := 11) (v := undef) rfl (Or.inr ⟨by rfl, rfl⟩) ?_)
        try simp only [Act.put, List.setIfInBounds_toArray, List.set_cons_zero, List.set_cons_succ]
        refine wpAnyH_ready (rs := [4]) (by kernel_rfl) (by simp) ?_
        refine cons_drop rfl (fun K hK => ?_) AllReadyH.nil
        go_simp
        refine (HU.out _).mono ?_
        rintro e w2 ⟨v2, rfl, ho, hb2⟩
        have HB2 : Hid (Below wr.heap.size wr w2) := Lib.hid ((below_drew (Below.refl _ _)).trans hb2)
        have HO := Lib.hid (brd_own ho)
        clear ho hb2
        go_wp2_with fail
        refine hK.out _ _ (KS.out _ (HB.out.trans (HB2.out.mono HB.out.size))) (fun hHeld2 => ?_)
        clear hK K hHeld
        try simp only [Act.put, List.setIfInBounds_toArray, List.set_cons_zero, List.set_cons_succ]
        refine wpAnyH_ready (rs := [12]) (by kernel_rfl) (by simp) ?_
        refine cons_drop rfl (fun K hK => ?_) AllReadyH.nil
        go_simp
        refine (bequal_any (ubytes 10 Y) (l.take (j + 1)) v2 _ _ HO.out (HT.out _ HB2.out)).mono ?_
        rintro e w3 ⟨rfl, hb2⟩
        have HB3 : Hid (Below wr.heap.size wr w3) := Lib.hid (HB2.out.trans (hb2.mono HB2.out.size))
        clear hb2
        go_wp2_with fail
        refine hK.out _ _ (KS.out _ (HB.out.trans (HB3.out.mono HB.out.size))) (fun hHeld3 => ?_)
        clear hK K hHeld2
        try simp only [Act.put, List.setIfInBounds_toArray, List.set_cons_zero, List.set_cons_succ]
        have HBF := Lib.hid (HB.out.trans (HB3.out.mono HB.out.size))
        obtain ⟨q, hq⟩ : ∃ q, q = decide (ubytes 10 Y = l.take (j + 1)) := ⟨_, rfl⟩
        rw [← hq]
        have HQ := Lib.hid hq
        clear hq
        cases q with
        | true =>
          first
            | (refine tk (i := 13) (v := ?_) rfl (Or.inl ⟨by rfl, ?_⟩) ?_; rotate_left 1; (focus (intro w hSw; (try dsimp only at hSw); go_simp; try with_reducible rfl)))
            | (refine tk (i := 13) (v := undef) rfl (Or.inr ⟨by rfl, rfl⟩) ?_)
          try simp only [Act.put, List.setIfInBounds_toArray, List.set_cons_zero, List.set_cons_succ]
          first
            | (refine tk (i := 14) (v := ?_) rfl (Or.inl ⟨by rfl, ?_⟩) ?_; rotate_left 1; (focus (intro w hSw; (try dsimp only at hSw); go_simp; try with_reducible rfl)))
            | (refine tk (i := 14) (v := undef) rfl (Or.inr ⟨by rfl, rfl⟩) ?_)
          try simp only [Act.put, List.setIfInBounds_toArray, List.set_cons_zero, List.set_cons_succ]
          refine wpAnyH_done (by kernel_rfl) ?_ _
          refine NoPanic.normal ?_
          go_wp2_with fail
          have hn : num l = some (Y, j + 1) := by rw [HFIN.out, if_neg]; exact fun h => h (of_decide_eq_true HQ.out.symm)
          exact bodyPost_ret (v := .tuple #[.int .u64 Y, .int .i64 (j + 1 : Nat), .bool true]) (by simp [results, Tryz.results37, go_sem]) rfl (peeked_yes hn HBF.out)
        | false =>
          first
            | (refine tk (i := 13) (v := ?_) rfl (Or.inl ⟨by rfl, ?_⟩) ?_; rotate_left 1; (focus (intro w hSw; (try dsimp only at hSw); go_simp; try with_reducible rfl)))
            | (refine tk (i := 13) (v := undef) rfl (Or.inr ⟨by rfl, rfl⟩) ?_)
          try simp only [Act.put, List.setIfInBounds_toArray, List.set_cons_zero, List.set_cons_succ]
          first
            | (refine tk (i := 14) (v := ?_) rfl (Or.inl ⟨by rfl, ?_⟩) ?_; rotate_left 1; (focus (intro w hSw; (try dsimp only at hSw); go_simp; try with_reducible rfl)))
            | (refine tk (i := 14) (v := undef) rfl (Or.inr ⟨by rfl, rfl⟩) ?_)
          try simp only [Act.put, List.setIfInBounds_toArray, List.set_cons_zero, List.set_cons_succ]
          refine wpAnyH_done (by kernel_rfl) ?_ _
          refine NoPanic.normal ?_
          go_wp2_with fail
          have hn : num l = none := by rw [HFIN.out, if_pos (of_decide_eq_false HQ.out.symm)]
          exact bodyPost_ret (v := .tuple #[.int .u64 0, .int .i64 0, .bool false]) (by simp [results, Tryz.results37, go_sem]) rfl (peeked_no hn HBF.out)
      · go_wp2_with fail
        rw [or_step X c j hX]
        go_roundw
        case rel => exact ⟨j + 1, _, by omega, by go_num, rfl, rfl, or_step_lt X c j hX, by rw [HPK.out, drop_cons hjl, show 10 - j = (10 - (j + 1)) + 1 by omega, ← HC.out, pk, if_neg hc128], HB.out⟩
        case measure => simp [intOf]; omega
    · have hjk : j = k := by omega
      have hfin : pk 10 0 0 l = (X, 0) := by
        rw [HPK.out]
        by_cases h10 : j = 10
        · rw [h10]; rfl
        · rw [List.drop_eq_nil_of_le (by have := HK.out; omega), show 10 - j = (10 - j - 1) + 1 by omega]; rfl
      have HNO : Hid (num l = none) := Lib.hid (by rw [peek_num hb, hfin, if_pos (.inl rfl)])
      subst hjk
      clear hfin
      go_upto_region 10 with fail
      refine wp_region_noPanic ?_
      refine wp_region_held_drew (S := (fun W' : World => W'.cell? ⟨g, 0, none⟩ = some (.slice (some ⟨b, off, none⟩) l.length cap) ∧ W'.cell? ⟨g, 1, none⟩ = some (.bool false))) (by kernel_rfl) ?_ (fun hHeld => ?_)
      · exact KS.out _ (HB.out.trans ((below_drew (Below.refl wr.heap.size wr)).mono HB.out.size))
      first
        | (refine tk (i := 0) (v := ?_) rfl (Or.inl ⟨by rfl, ?_⟩) ?_; rotate_left 1; (focus (intro w hSw; (try dsimp only at hSw); go_simp; try with_reducible rfl)))
        | (refine tk (i := 0) (v := undef) rfl (Or.inr ⟨by rfl, rfl⟩) ?_)
      try simp only [Act.put, List.setIfInBounds_toArray, List.set_cons_zero, List.set_cons_succ]
      first
        | (refine tk (i := 1) (v := ?_) rfl (Or.inl ⟨by rfl, ?_⟩) ?_; rotate_left 1; (focus (intro w hSw; (try dsimp only at hSw); go_simp; try with_reducible rfl)))
        | (refine tk (i := 1) (v := undef) rfl (Or.inr ⟨by rfl, rfl⟩) ?_)
      try simp only [Act.put, List.setIfInBounds_toArray, List.set_cons_zero, List.set_cons_succ]
      first
        | (refine tk (i := 2) (v := ?_) rfl (Or.inl ⟨by rfl, ?_⟩) ?_; rotate_left 1; (focus (intro w hSw; (try dsimp only at hSw); go_simp; try with_reducible rfl)))
        | (refine tk (i := 2) (v := undef) rfl (Or.inr ⟨by rfl, rfl⟩) ?_)
      try simp only [Act.put, List.setIfInBounds_toArray, List.set_cons_zero, List.set_cons_succ]
      first
        | (refine tk (i := 3) (v := ?_) rfl (Or.inl ⟨by rfl, ?_⟩) ?_; rotate_left 1; (focus (intro w hSw; (try dsimp only at hSw); go_simp; try with_reducible rfl)))
        | (refine tk (i := 3) (v := undef) rfl (Or.inr ⟨by rfl, rfl⟩) ?_)
      try simp only [Act.put, List.setIfInBounds_toArray, List.set_cons_zero, List.set_cons_succ]
      first
        | (refine tk (i := 4) (v := ?_) rfl (Or.inl ⟨by rfl, ?_⟩) ?_; rotate_left 1; (focus (intro w hSw; (try dsimp only at hSw); go_simp; try with_reducible rfl)))
        | (refine tk (i := 4) (v := undef) rfl (Or.inr ⟨by rfl, rfl⟩) ?_)
      try simp only [Act.put, List.setIfInBounds_toArray, List.set_cons_zero, List.set_cons_succ]
      first
        | (refine tk (i := 5) (v := ?_) rfl (Or.inl ⟨by rfl, ?_⟩) ?_; rotate_left 1; (focus (intro w hSw; (try dsimp only at hSw); go_simp; try with_reducible rfl)))
        | (refine tk (i := 5) (v := undef) rfl (Or.inr ⟨by rfl, rfl⟩) ?_)
      try simp only [Act.put, List.setIfInBounds_toArray, List.set_cons_zero, List.set_cons_succ]
      first
        | (refine tk (i := 6) (v := ?_) rfl (Or.inl ⟨by rfl, ?_⟩) ?_; rotate_left 1; (focus (intro w hSw; (try dsimp only at hSw); go_simp; try with_reducible rfl)))
        | (refine tk (i := 6) (v := undef) rfl (Or.inr ⟨by rfl, rfl⟩) ?_)
      try simp only [Act.put, List.setIfInBounds_toArray, List.set_cons_zero, List.set_cons_succ]
      first
        | (refine tk (i := 7) (v := ?_) rfl (Or.inl ⟨by rfl, ?_⟩) ?_; rotate_left 1; (focus (intro w hSw; (try dsimp only at hSw); go_simp; try with_reducible rfl)))
        | (refine tk (i := 7) (v := undef) rfl (Or.inr ⟨by rfl, rfl⟩) ?_)
      try simp only [Act.put, List.setIfInBounds_toArray, List.set_cons_zero, List.set_cons_succ]
      first
        | (refine tk (i := 8) (v := ?_) rfl (Or.inl ⟨by rfl, ?_⟩) ?_; rotate_left 1; (focus (intro w hSw; (try dsimp only at hSw); go_simp; try with_reducible rfl)))
        | (refine tk (i := 8) (v := undef) rfl (Or.inr ⟨by rfl, rfl⟩) ?_)
      try simp only [Act.put, List.setIfInBounds_toArray, List.set_cons_zero, List.set_cons_succ]
      first
        | (refine tk (i := 9) (v := ?_) rfl (Or.inl ⟨by rfl, ?_⟩) ?_; rotate_left 1; (focus (intro w hSw; (try dsimp only at hSw); go_simp; try with_reducible rfl)))
        | (refine tk (i := 9) (v := undef) rfl (Or.inr ⟨by rfl, rfl⟩) ?_)
      try simp only [Act.put, List.setIfInBounds_toArray, List.set_cons_zero, List.set_cons_succ]
      first
        | (refine tk (i := 10) (v := ?_) rfl (Or.inl ⟨by rfl, ?_⟩) ?_; rotate_left 1; (focus (intro w hSw; (try dsimp only at hSw); go_simp; try with_reducible rfl)))
        | (refine tk (i := 10) (v := undef) rfl (Or.inr ⟨by rfl, rfl⟩) ?_)
      try simp only [Act.put, List.setIfInBounds_toArray, List.set_cons_zero, List.set_cons_succ]
      first
        | (refine tk (i := 11) (v := ?_) rfl (Or.inl ⟨by rfl, ?_⟩) ?_; rotate_left 1; (focus (intro w hSw; (try dsimp only at hSw); go_simp; try with_reducible rfl)))
        | (refine tk (i := 11) (v := undef) rfl (Or.inr ⟨by rfl, rfl⟩) ?_)
      try simp only [Act.put, List.setIfInBounds_toArray, List.set_cons_zero, List.set_cons_succ]
      first
        | (refine tk (i := 12) (v := ?_) rfl (Or.inl ⟨by rfl, ?_⟩) ?_; rotate_left 1; (focus (intro w hSw; (try dsimp only at hSw); go_simp; try with_reducible rfl)))
        | (refine tk (i := 12) (v := undef) rfl (Or.inr ⟨by rfl, rfl⟩) ?_)
      try simp only [Act.put, List.setIfInBounds_toArray, List.set_cons_zero, List.set_cons_succ]
      first
        | (refine tk (i := 13) (v := ?_) rfl (Or.inl ⟨by rfl, ?_⟩) ?_; rotate_left 1; (focus (intro w hSw; (try dsimp only at hSw); go_simp; try with_reducible rfl)))
        | (refine tk (i := 13) (v := undef) rfl (Or.inr ⟨by rfl, rfl⟩) ?_)
      try simp only [Act.put, List.setIfInBounds_toArray, List.set_cons_zero, List.set_cons_succ]
      first
        | (refine tk (i := 14) (v := ?_) rfl (Or.inl ⟨by rfl, ?_⟩) ?_; rotate_left 1; (focus (intro w hSw; (try dsimp only at hSw); go_simp; try with_reducible rfl)))
        | (refine tk (i := 14) (v := undef) rfl (Or.inr ⟨by rfl, rfl⟩) ?_)
      try simp only [Act.put, List.setIfInBounds_toArray, List.set_cons_zero, List.set_cons_succ]
      refine wpAnyH_done (by kernel_rfl) ?_ _
      refine NoPanic.normal ?_
      go_wp2_with fail
      exact bodyPost_ret (v := .tuple #[.int .u64 0, .int .i64 0, .bool false]) (by simp [results, Tryz.results37, go_sem]) rfl (peeked_no HNO.out (below_drew HB.out))

set_option maxRecDepth 100000 in
set_option maxHeartbeats 2000000 in
theorem peek_nil (g : Nat) (w : World) (h : RAt w g (.slice none 0 0) [] false) :
    Calls Tryz.prog 37 #[.pointer (some ⟨g, 0, none⟩)] w (Peeked w [] false) := by
  have HR := Lib.hid h
  obtain ⟨c0, c1, c2, c3⟩ := h.cells
  have KS : Hid (∀ W' : World, Below w.heap.size w W' → (W'.cell? ⟨g, 0, none⟩ = some (.slice none 0 0) ∧ W'.cell? ⟨g, 1, none⟩ = some (.bool false))) := Lib.hid fun W' hW => by
    obtain ⟨c0, c1, -, -⟩ := (HR.out.later hW).cells
    exact ⟨c0, c1⟩
  have HNO : Hid (num [] = none) := Lib.hid rfl
  clear h c2
  go_enter Tryz.func37, Tryz.ntmps37
  go_upto_region 3 with fail
  clear c0 c1
  refine wp_region_noPanic ?_
  refine wp_region_held_drew (S := (fun W' : World => W'.cell? ⟨g, 0, none⟩ = some (.slice none 0 0) ∧ W'.cell? ⟨g, 1, none⟩ = some (.bool false))) (by kernel_rfl) ?_ (fun hHeld => ?_)
  · exact KS.out _ (below_drew (Below.refl _ _))
  first
    | (refine tk (i := 0) (v := ?_) rfl (Or.inl ⟨by rfl, ?_⟩) ?_; rotate_left 1; (focus (intro w hSw; (try dsimp only at hSw); go_simp; try with_reducible rfl)))
    | (refine tk (i := 0) (v := undef) rfl (Or.inr ⟨by rfl, rfl⟩) ?_)
  try simp only [Act.put, List.setIfInBounds_toArray, List.set_cons_zero, List.set_cons_succ]
  first
    | (refine tk (i := 1) (v := ?_) rfl (Or.inl ⟨by rfl, ?_⟩) ?_; rotate_left 1; (focus (intro w hSw; (try dsimp only at hSw); go_simp; try with_reducible rfl)))
    | (refine tk (i := 1) (v := undef) rfl (Or.inr ⟨by rfl, rfl⟩) ?_)
  try simp only [Act.put, List.setIfInBounds_toArray, List.set_cons_zero, List.set_cons_succ]
  first
    | (refine tk (i := 2) (v := ?_) rfl (Or.inl ⟨by rfl, ?_⟩) ?_; rotate_left 1; (focus (intro w hSw; (try dsimp only at hSw); go_simp; try with_reducible rfl)))
    | (refine tk (i := 2) (v := undef) rfl (Or.inr ⟨by rfl, rfl⟩) ?_)
  try simp only [Act.put, List.setIfInBounds_toArray, List.set_cons_zero, List.set_cons_succ]
  first
    | (refine tk (i := 3) (v := ?_) rfl (Or.inl ⟨by rfl, ?_⟩) ?_; rotate_left 1; (focus (intro w hSw; (try dsimp only at hSw); go_simp; try with_reducible rfl)))
    | (refine tk (i := 3) (v := undef) rfl (Or.inr ⟨by rfl, rfl⟩) ?_)
  try simp only [Act.put, List.setIfInBounds_toArray, List.set_cons_zero, List.set_cons_succ]
  first
    | (refine tk (i := 4) (v := ?_) rfl (Or.inl ⟨by rfl, ?_⟩) ?_; rotate_left 1; (focus (intro w hSw; (try dsimp only at hSw); go_simp; try with_reducible rfl)))
    | (refine tk (i := 4) (v := undef) rfl (Or.inr ⟨by rfl, rfl⟩) ?_)
  try simp only [Act.put, List.setIfInBounds_toArray, List.set_cons_zero, List.set_cons_succ]
  first
    | (refine tk (i := 5) (v := ?_) rfl (Or.inl ⟨by rfl, ?_⟩) ?_; rotate_left 1; (focus (intro w hSw; (try dsimp only at hSw); go_simp; try with_reducible rfl)))
    | (refine tk (i := 5) (v := undef) rfl (Or.inr ⟨by rfl, rfl⟩) ?_)
  try simp only [Act.put, List.setIfInBounds_toArray, List.set_cons_zero, List.set_cons_succ]
  first
    | (refine tk (i := 6) (v := ?_) rfl (Or.inl ⟨by rfl, ?_⟩) ?_; rotate_left 1; (focus (intro w hSw; (try dsimp only at hSw); go_simp; try with_reducible rfl)))
    | (refine tk (i := 6) (v := undef) rfl (Or.inr ⟨by rfl, rfl⟩) ?_)
  try simp only [Act.put, List.setIfInBounds_toArray, List.set_cons_zero, List.set_cons_succ]
  first
    | (refine tk (i := 7) (v := ?_) rfl (Or.inl ⟨by rfl, ?_⟩) ?_; rotate_left 1; (focus (intro w hSw; (try dsimp only at hSw); go_simp; try with_reducible rfl)))
    | (refine tk (i := 7) (v := undef) rfl (Or.inr ⟨by rfl, rfl⟩) ?_)
  try simp only [Act.put, List.setIfInBounds_toArray, List.set_cons_zero, List.set_cons_succ]
  first
    | (refine tk (i := 8) (v := ?_) rfl (Or.inl ⟨by rfl, ?_⟩) ?_; rotate_left 1; (focus (intro w hSw; (try dsimp only at hSw); go_simp; try with_reducible rfl)))
    | (refine tk (i := 8) (v := undef) rfl (Or.inr ⟨by rfl, rfl⟩) ?_)
  try simp only [Act.put, List.setIfInBounds_toArray, List.set_cons_zero, List.set_cons_succ]
  first
    | (refine tk (i := 9) (v := ?_) rfl (Or.inl ⟨by rfl, ?_⟩) ?_; rotate_left 1; (focus (intro w hSw; (try dsimp only at hSw); go_simp; try with_reducible rfl)))
    | (refine tk (i := 9) (v := undef) rfl (Or.inr ⟨by rfl, rfl⟩) ?_)
  try simp only [Act.put, List.setIfInBounds_toArray, List.set_cons_zero, List.set_cons_succ]
  first
    | (refine tk (i := 10) (v := ?_) rfl (Or.inl ⟨by rfl, ?_⟩) ?_; rotate_left 1; (focus (intro w hSw; (try dsimp only at hSw); go_simp; try with_reducible rfl)))
    | (refine tk (i := 10) (v := undef) rfl (Or.inr ⟨by rfl, rfl⟩) ?_)
  try simp only [Act.put, List.setIfInBounds_toArray, List.set_cons_zero, List.set_cons_succ]
  first
    | (refine tk (i := 11) (v := ?_) rfl (Or.inl ⟨by rfl, ?_⟩) ?_; rotate_left 1; (focus (intro w hSw; (try dsimp only at hSw); go_simp; try with_reducible rfl)))
    | (refine tk (i := 11) (v := undef) rfl (Or.inr ⟨by rfl, rfl⟩) ?_)
  try simp only [Act.put, List.setIfInBounds_toArray, List.set_cons_zero, List.set_cons_succ]
  first
    | (refine tk (i := 12) (v := ?_) rfl (Or.inl ⟨by rfl, ?_⟩) ?_; rotate_left 1; (focus (intro w hSw; (try dsimp only at hSw); go_simp; try with_reducible rfl)))
    | (refine tk (i := 12) (v := undef) rfl (Or.inr ⟨by rfl, rfl⟩) ?_)
  try simp only [Act.put, List.setIfInBounds_toArray, List.set_cons_zero, List.set_cons_succ]
  first
    | (refine tk (i := 13) (v := ?_) rfl (Or.inl ⟨by rfl, ?_⟩) ?_; rotate_left 1; (focus (intro w hSw; (try dsimp only at hSw); go_simp; try with_reducible rfl)))
    | (refine tk (i := 13) (v := undef) rfl (Or.inr ⟨by rfl, rfl⟩) ?_)
  try simp only [Act.put, List.setIfInBounds_toArray, List.set_cons_zero, List.set_cons_succ]
  first
    | (refine tk (i := 14) (v := ?_) rfl (Or.inl ⟨by rfl, ?_⟩) ?_; rotate_left 1; (focus (intro w hSw; (try dsimp only at hSw); go_simp; try with_reducible rfl)))
    | (refine tk (i := 14) (v := undef) rfl (Or.inr ⟨by rfl, rfl⟩) ?_)
  try simp only [Act.put, List.setIfInBounds_toArray, List.set_cons_zero, List.set_cons_succ]
  refine wpAnyH_done (by kernel_rfl) ?_ _
  refine NoPanic.normal ?_
  go_wp2_with fail
  go_loopw [2, 3, 30] (fun xv nv iv wr => iv = .int .i64 0 ∧ nv = .int .i64 0 ∧ xv = .int .u64 0 ∧ Below w.heap.size w wr) (fun _ _ i _ => 0)
  case atStart => exact ⟨rfl, rfl, rfl, below_drew (Below.refl _ _)⟩
  case round =>
    obtain ⟨rfl, rfl, rfl, hbw⟩ := hrel
    have HB := Lib.hid hbw
    clear hbw
    go_upto_region 10 with fail
    refine wp_region_noPanic ?_
    refine wp_region_held_drew (S := (fun W' : World => W'.cell? ⟨g, 0, none⟩ = some (.slice none 0 0) ∧ W'.cell? ⟨g, 1, none⟩ = some (.bool false))) (by kernel_rfl) ?_ (fun hHeld => ?_)
    · exact KS.out _ (HB.out.trans ((below_drew (Below.refl wr.heap.size wr)).mono HB.out.size))
    first
      | (refine tk (i := 0) (v := ?_) rfl (Or.inl ⟨by rfl, ?_⟩) ?_; rotate_left 1; (focus (intro w hSw; (try dsimp only at hSw); go_simp; try with_reducible rfl)))
      | (refine tk (i := 0) (v := undef) rfl (Or.inr ⟨by rfl, rfl⟩) ?_)
    try simp only [Act.put, List.setIfInBounds_toArray, List.set_cons_zero, List.set_cons_succ]
    first
      | (refine tk (i := 1) (v := ?_) rfl (Or.inl ⟨by rfl, ?_⟩) ?_; rotate_left 1; (focus (intro w hSw; (try dsimp only at hSw); go_simp; try with_reducible rfl)))
      | (refine tk (i := 1) (v := undef) rfl (Or.inr ⟨by rfl, rfl⟩) ?_)
    try simp only [Act.put, List.setIfInBounds_toArray, List.set_cons_zero, List.set_cons_succ]
    first
      | (refine tk (i := 2) (v := ?_) rfl (Or.inl ⟨by rfl, ?_⟩) ?_; rotate_left 1; (focus (intro w hSw; (try dsimp only at hSw); go_simp; try with_reducible rfl)))
      | (refine tk (i := 2) (v := undef) rfl (Or.inr ⟨by rfl, rfl⟩) ?_)
    try simp only [Act.put, List.setIfInBounds_toArray, List.set_cons_zero, List.set_cons_succ]
    first
      | (refine tk (i := 3) (v := ?_) rfl (Or.inl ⟨by rfl, ?_⟩) ?_; rotate_left 1; (focus (intro w hSw; (try dsimp only at hSw); go_simp; try with_reducible rfl)))
      | (refine tk (i := 3) (v := undef) rfl (Or.inr ⟨by rfl, rfl⟩) ?_)
    try simp only [Act.put, List.setIfInBounds_toArray, List.set_cons_zero, List.set_cons_succ]
    first
      | (refine tk (i := 4) (v := ?_) rfl (Or.inl ⟨by rfl, ?_⟩) ?_; rotate_left 1; (focus (intro w hSw; (try dsimp only at hSw); go_simp; try with_reducible rfl)))
      | (refine tk (i := 4) (v := undef) rfl (Or.inr ⟨by rfl, rfl⟩) ?_)
    try simp only [Act.put, List.setIfInBounds_toArray, List.set_cons_zero, List.set_cons_succ]
    first
      | (refine tk (i := 5) (v := ?_) rfl (Or.inl ⟨by rfl, ?_⟩) ?_; rotate_left 1; (focus (intro w hSw; (try dsimp only at hSw); go_simp; try with_reducible rfl)))
      | (refine tk (i := 5) (v := undef) rfl (Or.inr ⟨by rfl, rfl⟩) ?_)
    try simp only [Act.put, List.setIfInBounds_toArray, List.set_cons_zero, List.set_cons_succ]
    first
      | (refine tk (i := 6) (v := ?_) rfl (Or.inl ⟨by rfl, ?_⟩) ?_; rotate_left 1; (focus (intro w hSw; (try dsimp only at hSw); go_simp; try with_reducible rfl)))
      | (refine tk (i := 6) (v := undef) rfl (Or.inr ⟨by rfl, rfl⟩) ?_)
    try simp only [Act.put, List.setIfInBounds_toArray, List.set_cons_zero, List.set_cons_succ]
    first
      | (refine tk (i := 7) (v := ?_) rfl (Or.inl ⟨by rfl, ?_⟩) ?_; rotate_left 1; (focus (intro w hSw; (try dsimp only at hSw); go_simp; try with_reducible rfl)))
      | (refine tk (i := 7) (v := undef) rfl (Or.inr ⟨by rfl, rfl⟩) ?_)
    try simp only [Act.put, List.setIfInBounds_toArray, List.set_cons_zero, List.set_cons_succ]
    first
      | (refine tk (i := 8) (v := ?_) rfl (Or.inl ⟨by rfl, ?_⟩) ?_; rotate_left 1; (focus (intro w hSw; (try dsimp only at hSw); go_simp; try with_reducible rfl)))
      | (refine tk (i := 8) (v := undef) rfl (Or.inr ⟨by rfl, rfl⟩) ?_)
    try simp only [Act.put, List.setIfInBounds_toArray, List.set_cons_zero, List.set_cons_succ]
    first
      | (refine tk (i := 9) (v := ?_) rfl (Or.inl ⟨by rfl, ?_⟩) ?_; rotate_left 1; (focus (intro w hSw; (try dsimp only at hSw); go_simp; try with_reducible rfl)))
      | (refine tk (i := 9) (v := undef) rfl (Or.inr ⟨by rfl, rfl⟩) ?_)
    try simp only [Act.put, List.setIfInBounds_toArray, List.set_cons_zero, List.set_cons_succ]
    first
      | (refine tk (i := 10) (v := ?_) rfl (Or.inl ⟨by rfl, ?_⟩) ?_; rotate_left 1; (focus (intro w hSw; (try dsimp only at hSw); go_simp; try with_reducible rfl)))
      | (refine tk (i := 10) (v := undef) rfl (Or.inr ⟨by rfl, rfl⟩) ?_)
    try simp only [Act.put, List.setIfInBounds_toArray, List.set_cons_zero, List.set_cons_succ]
    first
      | (refine tk (i := 11) (v := ?_) rfl (Or.inl ⟨by rfl, ?_⟩) ?_; rotate_left 1; (focus (intro w hSw; (try dsimp only at hSw); go_simp; try with_reducible rfl)))
      | (refine tk (i := 11) (v := undef) rfl (Or.inr ⟨by rfl, rfl⟩) ?_)
    try simp only [Act.put, List.setIfInBounds_toArray, List.set_cons_zero, List.set_cons_succ]
    first
      | (refine tk (i := 12) (v := ?_) rfl (Or.inl ⟨by rfl, ?_⟩) ?_; rotate_left 1; (focus (intro w hSw; (try dsimp only at hSw); go_simp; try with_reducible rfl)))
      | (refine tk (i := 12) (v := undef) rfl (Or.inr ⟨by rfl, rfl⟩) ?_)
    try simp only [Act.put, List.setIfInBounds_toArray, List.set_cons_zero, List.set_cons_succ]
    first
      | (refine tk (i := 13) (v := ?_) rfl (Or.inl ⟨by rfl, ?_⟩) ?_; rotate_left 1; (focus (intro w hSw; (try dsimp only at hSw); go_simp; try with_reducible rfl)))
      | (refine tk (i := 13) (v := undef) rfl (Or.inr ⟨by rfl, rfl⟩) ?_)
    try simp only [Act.put, List.setIfInBounds_toArray, List.set_cons_zero, List.set_cons_succ]
    first
      | (refine tk (i := 14) (v := ?_) rfl (Or.inl ⟨by rfl, ?_⟩) ?_; rotate_left 1; (focus (intro w hSw; (try dsimp only at hSw); go_simp; try with_reducible rfl)))
      | (refine tk (i := 14) (v := undef) rfl (Or.inr ⟨by rfl, rfl⟩) ?_)
    try simp only [Act.put, List.setIfInBounds_toArray, List.set_cons_zero, List.set_cons_succ]
    refine wpAnyH_done (by kernel_rfl) ?_ _
    refine NoPanic.normal ?_
    go_wp2_with fail
    exact bodyPost_ret (v := .tuple #[.int .u64 0, .int .i64 0, .bool false]) (by simp [results, Tryz.results37, go_sem]) rfl (peeked_no HNO.out (below_drew HB.out))

theorem peek_any (g : Nat) (v : Value) (l : List Nat) (bad : Bool) (hb : Byt l) (w : World) (h : RAt w g v l bad) :
    Calls Tryz.prog 37 #[.pointer (some ⟨g, 0, none⟩)] w (Peeked w l bad) := by
  cases bad with
  | true => exact peek_bad g v l w h
  | false =>
    by_cases hne : v = .slice none 0 0 ∧ l = []
    · obtain ⟨rfl, rfl⟩ := hne
      exact peek_nil g w h
    · exact peek_good g v l hb w h hne
end Rd
end Go.Proofs.YtcbddebmmaflgaaGreat
namespace Go.Proofs.YtcbddebmmaflgaaGreat
open Go.RowKit
set_option linter.unusedVariables false
namespace Bt
open _root_.Go.Proofs.YtcbddebmmaflgaaGreat.Nm (ret_int ret_bool)
open Vt (VT Rep BoxAt below_drew)
open Ev (take_drop tk cons_drop)

/-- Bytes read as a string. -/
theorem BIn.toText {w : World} {v : Value} {l : List Nat} (h : BIn w v l) (hb : ∀ b ∈ l, b < 256) : (convert 22 9 v).run Tryz.prog w = .ok (.string ⟨(l.map UInt8.ofNat).toArray⟩) w := by
  rcases h with ⟨rfl, rfl⟩ | ⟨ad, cap, rfl, h2, h3, h4, h5⟩
  · exact Lib.run_convert_nil_bytes w _ _ 5 0 Tryz.underlying22 Tryz.underlying5 Tryz.underlying9
  · have := run_convert_bytes_back (P := Tryz.prog) w 22 9 5 ad cap (l.map UInt8.ofNat) Tryz.underlying22 Tryz.underlying5 Tryz.underlying9 (fun j hj => by
      have hj' : j < l.length := by simpa using hj
      have h6 := h5 j (bv l[j]) (by simp [hj'])
      rw [h6]
      have h7 : l[j] < 256 := hb _ (List.getElem_mem hj')
      simp only [bv, List.getElem_map, UInt8.toNat_ofNat']
      rw [Nat.mod_eq_of_lt (by omega)])
    rw [List.length_map] at this
    exact this

end Bt
end Go.Proofs.YtcbddebmmaflgaaGreat
namespace Go.Proofs.YtcbddebmmaflgaaGreat
open Go.RowKit
set_option linter.unusedVariables false
set_option linter.unusedSimpArgs false
namespace Rd
open _root_.Go.Proofs.YtcbddebmmaflgaaGreat.Nm (ret_int ret_bool)
open Vt (below_drew)
open Bt (BOwn BIn bv ubytes sb)
open Cn (BRd brd_own)
open Cm (OnlyAt)

/-- A reader's state: what is left, is it bad? -/
abbrev St := List Nat × Bool
def nxt (s : St) : Option (Nat × Nat) := if s.2 then none else num s.1
def rUint (s : St) : St × Nat := match nxt s with | some (x, n) => ((s.1.drop n, false), x) | none => ((s.1, true), 0)
def rTake (s : St) (n : Nat) : St × List Nat := if s.2 = false ∧ n ≤ s.1.length then ((s.1.drop n, false), s.1.take n) else ((s.1, true), [])
def rBytes (s : St) : St × List Nat := match nxt s with
  | some (x, n) => if x ≤ s.1.length - n then ((s.1.drop (n + x), false), (s.1.drop n).take x) else ((s.1, true), [])
  | none => ((s.1, true), [])
/-- Bytes as a string. -/
def strOf (l : List Nat) : ByteArray := ⟨(l.map UInt8.ofNat).toArray⟩

/-- A reader in a memory. -/
def RS (w : World) (g : Nat) (s : St) : Prop := (∃ v, RAt w g v s.1 s.2) ∧ Byt s.1 ∧ s.1.length ≤ 1099511627776
theorem RS.later {w w' : World} {g : Nat} {s : St} (h : RS w g s) (hb : Below w.heap.size w w') : RS w' g s := ⟨h.1.imp fun v hv => hv.later hb, h.2⟩
theorem RS.frame {w w' : World} {g : Nat} {s : St} (h : RS w g s) (hz : w.heap.size ≤ w'.heap.size) (hk : ∀ b, b ≤ g → w'.heap[b]? = w.heap[b]?) : RS w' g s := ⟨h.1.imp fun v hv => hv.frame hz hk, h.2⟩
theorem RS.lt {w : World} {g : Nat} {s : St} (h : RS w g s) : g < w.heap.size := by obtain ⟨⟨v, hv⟩, -⟩ := h; exact hv.cells.2.2.2
theorem byt_drop {l : List Nat} (h : Byt l) (n : Nat) : Byt (l.drop n) := fun b hb => h b (List.mem_of_mem_drop hb)
theorem byt_take {l : List Nat} (h : Byt l) (n : Nat) : Byt (l.take n) := fun b hb => h b (List.mem_of_mem_take hb)
theorem nxt_le {s : St} (hb : Byt s.1) {x n : Nat} (h : nxt s = some (x, n)) : s.2 = false ∧ n ≤ s.1.length ∧ x < 18446744073709551616 := by
  unfold nxt at h
  cases hs : s.2 with
  | true => rw [hs] at h; cases h
  | false =>
    rw [hs, if_neg (by simp)] at h
    obtain ⟨h1, -, -, h4, -⟩ := num_some hb h
    exact ⟨rfl, h4, h1⟩
theorem rUint_byt {s : St} (hb : Byt s.1) (hl : s.1.length ≤ 1099511627776) : Byt (rUint s).1.1 ∧ (rUint s).1.1.length ≤ 1099511627776 := by
  unfold rUint
  split
  · exact ⟨byt_drop hb _, by simp only [List.length_drop]; omega⟩
  · exact ⟨hb, hl⟩
theorem rTake_byt {s : St} (hb : Byt s.1) (hl : s.1.length ≤ 1099511627776) (n : Nat) : Byt (rTake s n).1.1 ∧ (rTake s n).1.1.length ≤ 1099511627776 := by
  unfold rTake
  split
  · exact ⟨byt_drop hb _, by simp only [List.length_drop]; omega⟩
  · exact ⟨hb, hl⟩
theorem rBytes_byt {s : St} (hb : Byt s.1) (hl : s.1.length ≤ 1099511627776) : Byt (rBytes s).1.1 ∧ (rBytes s).1.1.length ≤ 1099511627776 ∧ Byt (rBytes s).2 := by
  unfold rBytes
  split
  · split
    · exact ⟨byt_drop hb _, by simp only [List.length_drop]; omega, byt_take (byt_drop hb _) _⟩
    · exact ⟨hb, hl, fun b h => by simp at h⟩
  · exact ⟨hb, hl, fun b h => by simp at h⟩

set_option maxRecDepth 100000 in
set_option maxHeartbeats 1000000 in
theorem uint_any (g : Nat) (s : St) (w : World) (h : RS w g s) :
    Calls Tryz.prog 16 #[.pointer (some ⟨g, 0, none⟩)] w fun r w' => r = .returned (.int .u64 (rUint s).2) ∧ RS w' g (rUint s).1 ∧ OnlyAt w w' g none := by
  obtain ⟨⟨v, hr⟩, hb, hl⟩ := h
  obtain ⟨c0, c1, c2, c3⟩ := hr.cells
  have HP := Lib.hid (peek_any g v s.1 s.2 hb w hr)
  have HR := Lib.hid hr
  have HBY := Lib.hid (rUint_byt hb hl)
  unfold Peeked at HP
  have hx : (if s.2 = true then none else num s.1) = nxt s := rfl
  rw [hx] at HP
  clear c2 hx hr
  cases hn : nxt s with
  | none =>
    have HU : Hid (rUint s = ((s.1, true), 0)) := Lib.hid (by unfold rUint; rw [hn])
    rw [hn] at HP
    have HF := Lib.hid fun W (hW : RAt W g v s.1 s.2) => fail_any g v s.1 s.2 W hW
    rw [HU.out] at HBY ⊢
    clear hn hb hl
    go_enter Tryz.func16, Tryz.ntmps16
    go_wp2_with fail
    refine HP.out.mono ?_
    rintro e w1 ⟨rfl, hb1⟩
    have HB1 := Lib.hid hb1; clear hb1
    go_wp2_with fail
    refine (HF.out _ (HR.out.later HB1.out)).mono ?_
    rintro e w2 ⟨rfl, hr2, ho2⟩
    have HR2 := Lib.hid hr2; have HO2 := Lib.hid ho2; clear hr2 ho2
    go_wp2_with fail
    go_ret
    exact ⟨rfl, ⟨⟨v, HR2.out⟩, HBY.out⟩, (OnlyAt.of_below HB1.out).trans HO2.out⟩
  | some p =>
    obtain ⟨x, n⟩ := p
    obtain ⟨hs2, hnl, hx⟩ := nxt_le hb hn
    have HU : Hid (rUint s = ((s.1.drop n, false), x)) := Lib.hid (by unfold rUint; rw [hn])
    rw [hn] at HP
    have HC := Lib.hid fun W (hW : RAt W g v s.1 false) => cut_ok g v s.1 n hnl W hW
    unfold Cut at HC
    rw [hs2] at HR
    rw [HU.out] at HBY ⊢
    clear hn hb hl hs2
    go_enter Tryz.func16, Tryz.ntmps16
    go_wp2_with fail
    refine HP.out.mono ?_
    rintro e w1 ⟨rfl, hb1⟩
    have HB1 := Lib.hid hb1; clear hb1
    go_wp2_with fail
    refine (HC.out _ (HR.out.later HB1.out)).mono ?_
    rintro e w2 ⟨v', x', rfl, hx', hf', hr2, ho2⟩
    have HR2 := Lib.hid hr2; have HO2 := Lib.hid ho2; clear hr2 ho2 hx' hf'
    go_wp2_with fail
    go_ret
    exact ⟨rfl, ⟨⟨v', HR2.out⟩, HBY.out⟩, (OnlyAt.of_below HB1.out).trans HO2.out⟩

theorem take_any (g : Nat) (s : St) (n : Nat) (w : World) (h : RS w g s) :
    Calls Tryz.prog 40 #[.pointer (some ⟨g, 0, none⟩), .int .i64 n] w fun r w' => ∃ x, r = .returned x ∧ BRd w' x (rTake s n).2 ∧ RS w' g (rTake s n).1 ∧ OnlyAt w w' g none := by
  obtain ⟨⟨v, hr⟩, hb, hl⟩ := h
  have hby := rTake_byt hb hl n
  by_cases hc : s.2 = false ∧ n ≤ s.1.length
  · have hU : rTake s n = ((s.1.drop n, false), s.1.take n) := by unfold rTake; rw [if_pos hc]
    rw [hU] at hby ⊢
    rw [hc.1] at hr
    refine (take_ok g v s.1 (by omega) n hc.2 w hr).mono fun r w' ⟨v', x, h1, h2, h3, h4⟩ => ⟨x, h1, h2, ⟨⟨v', h3⟩, hby⟩, h4⟩
  · have hU : rTake s n = ((s.1, true), []) := by unfold rTake; rw [if_neg hc]
    rw [hU] at hby ⊢
    have hn : s.2 = true ∨ (s.1.length : Int) < n := by
      cases h2 : s.2 with
      | true => exact .inl rfl
      | false => exact .inr (by have := Nat.lt_of_not_le fun h => hc ⟨h2, h⟩; omega)
    refine (take_no g v s.1 s.2 n (by omega) hn w hr).mono fun r w' ⟨h1, h3, h4⟩ => ⟨_, h1, .inl ⟨rfl, rfl⟩, ⟨⟨v, h3⟩, hby⟩, h4⟩

set_option maxRecDepth 100000 in
set_option maxHeartbeats 1000000 in
theorem bytes_any (g : Nat) (s : St) (w : World) (h : RS w g s) :
    Calls Tryz.prog 36 #[.pointer (some ⟨g, 0, none⟩)] w fun r w' => ∃ x, r = .returned x ∧ BRd w' x (rBytes s).2 ∧ RS w' g (rBytes s).1 ∧ OnlyAt w w' g none := by
  obtain ⟨⟨v, hr⟩, hb, hl⟩ := h
  obtain ⟨c0, c1, c2, c3⟩ := hr.cells
  have HP := Lib.hid (peek_any g v s.1 s.2 hb w hr)
  have HR := Lib.hid hr
  have HBY : Hid (Byt (rBytes s).1.1 ∧ (rBytes s).1.1.length ≤ 1099511627776) := Lib.hid (by obtain ⟨h1, h2, -⟩ := rBytes_byt hb hl; exact ⟨h1, h2⟩)
  unfold Peeked at HP
  have hx : (if s.2 = true then none else num s.1) = nxt s := rfl
  rw [hx] at HP
  have HF := Lib.hid fun W (hW : RAt W g v s.1 s.2) => fail_any g v s.1 s.2 W hW
  clear c2 hx hr
  cases hn : nxt s with
  | none =>
    have HU : Hid (rBytes s = ((s.1, true), [])) := Lib.hid (by unfold rBytes; rw [hn])
    rw [hn] at HP
    rw [HU.out] at HBY ⊢
    clear hn hb hl
    go_enter Tryz.func36, Tryz.ntmps36
    go_wp2_with fail
    refine HP.out.mono ?_
    rintro e w1 ⟨rfl, hb1⟩
    have HB1 := Lib.hid hb1; clear hb1
    go_wp2_with fail
    refine (HF.out _ (HR.out.later HB1.out)).mono ?_
    rintro e w2 ⟨rfl, hr2, ho2⟩
    have HR2 := Lib.hid hr2; have HO2 := Lib.hid ho2; clear hr2 ho2
    go_wp2_with fail
    go_ret
    exact ⟨_, rfl, .inl ⟨rfl, rfl⟩, ⟨⟨v, HR2.out⟩, HBY.out⟩, (OnlyAt.of_below HB1.out).trans HO2.out⟩
  | some p =>
    obtain ⟨x, n⟩ := p
    obtain ⟨hs2, hnl, hx⟩ := nxt_le hb hn
    rw [hn] at HP
    rw [hs2] at HR HF
    obtain ⟨A, cap, hv⟩ := HR.out.rd.form
    have KS : Hid (∀ W, Below w.heap.size w W → W.cell? ⟨g, 0, none⟩ = some (.slice A s.1.length cap)) := Lib.hid fun W hW => by
      have := (HR.out.later hW).cells.1
      rw [hv] at this
      exact this
    have hwr : IntKind.u64.wrap ((s.1.length : Int) - (n : Int)) = ((s.1.length - n : Nat) : Int) := by rw [IntKind.wrap_u64]; omega
    obtain ⟨m, hm⟩ : ∃ m, m = s.1.length - n := ⟨_, rfl⟩
    by_cases hxm : x ≤ s.1.length - n
    · have HU : Hid (rBytes s = ((s.1.drop (n + x), false), (s.1.drop n).take x)) := Lib.hid (by unfold rBytes; rw [hn]; simp only; rw [if_pos hxm])
      have HC := Lib.hid fun W (hW : RAt W g v s.1 false) => cut_ok g v s.1 n hnl W hW
      unfold Cut at HC
      have HT := Lib.hid fun W v' (hW : RAt W g v' (s.1.drop n) false) => take_ok g v' (s.1.drop n) (by rw [List.length_drop]; omega) x (by rw [List.length_drop]; exact hxm) W hW
      unfold Took at HT
      rw [HU.out] at HBY ⊢
      have k1 : decide ((x : Int) > (m : Int)) = false := decide_eq_false (by omega)
      have k2 : decide ((m : Int) < (x : Int)) = false := decide_eq_false (by omega)
      have k3 : decide (m < x) = false := decide_eq_false (by omega)
      rw [← hm] at hwr
      have hwx : IntKind.i64.wrap (x : Int) = (x : Int) := by rw [IntKind.wrap_i64]; omega
      have HL := Lib.hid hl
      have HD : Hid ((s.1.drop n).drop x = s.1.drop (n + x)) := Lib.hid (List.drop_drop ..)
      clear hn hb hs2 hv hm hxm
      go_enter Tryz.func36, Tryz.ntmps36
      go_wp2_with fail
      refine HP.out.mono ?_
      rintro e w1 ⟨rfl, hb1⟩
      have HB1 := Lib.hid hb1
      have d0 := KS.out w1 hb1
      clear hb1
      go_wp2_with fail
      refine (HC.out _ (HR.out.later HB1.out)).mono ?_
      rintro e w2 ⟨v', x', rfl, hx', hf', hr2, ho2⟩
      have HR2 := Lib.hid hr2; have HO2 := Lib.hid ho2; clear hr2 ho2 hx' hf' d0
      go_wp2_with fail
      refine (HT.out _ v' HR2.out).mono ?_
      rintro e w3 ⟨v3, x3, rfl, hx3, hr3, ho3⟩
      have HX3 := Lib.hid hx3; have HR3 := Lib.hid hr3; have HO3 := Lib.hid ho3; clear hr3 ho3 hx3
      go_wp2_with fail
      go_ret
      exact ⟨x3, rfl, HX3.out, ⟨⟨v3, by have := HR3.out; rw [HD.out] at this; exact this⟩, HBY.out⟩, ((OnlyAt.of_below HB1.out).trans HO2.out).trans HO3.out⟩
    · have HU : Hid (rBytes s = ((s.1, true), [])) := Lib.hid (by unfold rBytes; rw [hn]; simp only; rw [if_neg hxm])
      rw [HU.out] at HBY ⊢
      have k1 : decide ((x : Int) > (m : Int)) = true := decide_eq_true (by omega)
      have k2 : decide ((m : Int) < (x : Int)) = true := decide_eq_true (by omega)
      have k3 : decide (m < x) = true := decide_eq_true (by omega)
      rw [← hm] at hwr
      clear hn hb hs2 hv hm hxm
      go_enter Tryz.func36, Tryz.ntmps36
      go_wp2_with fail
      refine HP.out.mono ?_
      rintro e w1 ⟨rfl, hb1⟩
      have HB1 := Lib.hid hb1
      have d0 := KS.out w1 hb1
      clear hb1
      go_wp2_with fail
      refine (HF.out _ (HR.out.later HB1.out)).mono ?_
      rintro e w2 ⟨rfl, hr2, ho2⟩
      have HR2 := Lib.hid hr2; have HO2 := Lib.hid ho2; clear hr2 ho2 d0
      go_wp2_with fail
      go_ret
      exact ⟨_, rfl, .inl ⟨rfl, rfl⟩, ⟨⟨v, HR2.out⟩, HBY.out⟩, (OnlyAt.of_below HB1.out).trans HO2.out⟩

set_option maxRecDepth 100000 in
theorem text_any (g : Nat) (s : St) (w : World) (h : RS w g s) :
    Calls Tryz.prog 15 #[.pointer (some ⟨g, 0, none⟩)] w fun r w' => r = .returned (.string (strOf (rBytes s).2)) ∧ RS w' g (rBytes s).1 ∧ OnlyAt w w' g none := by
  have HC := Lib.hid (bytes_any g s w h)
  have HY := Lib.hid (rBytes_byt h.2.1 h.2.2).2.2
  clear h
  go_enter Tryz.func15, Tryz.ntmps15
  go_wp2_with fail
  refine HC.out.mono ?_
  rintro e w1 ⟨x, rfl, hx, hr, ho⟩
  have hcv := (brd_in hx).toText HY.out
  have HR := Lib.hid hr; have HO := Lib.hid ho; clear hx hr ho
  obtain ⟨tx, htx⟩ : ∃ tx : ByteArray, tx = ⟨((rBytes s).2.map UInt8.ofNat).toArray⟩ := ⟨_, rfl⟩
  rw [← htx] at hcv
  have HTX := Lib.hid htx; clear htx
  go_wp2_with fail
  go_ret
  exact ⟨congrArg (fun b => Ending.returned (Value.string b)) HTX.out, HR.out, HO.out⟩
end Rd
end Go.Proofs.YtcbddebmmaflgaaGreat
namespace Go.Proofs.YtcbddebmmaflgaaGreat
open Go.RowKit
set_option linter.unusedVariables false
set_option linter.unusedSimpArgs false
namespace Rd
open _root_.Go.Proofs.YtcbddebmmaflgaaGreat.Nm (ret_int ret_bool)
open Cm (OnlyAt)

/-- The number with a sign that a number stands for. -/
def unzz (x : Nat) : Int := if x % 2 = 0 then ((x / 2 : Nat) : Int) else -((x / 2 : Nat) : Int) - 1
theorem xor_m1 (y : Nat) (h : y < 9223372036854775808) : bits BinOp.xor IntKind.i64 (y : Int) (-1) = -(y : Int) - 1 := by
  show IntKind.i64.wrap (((BitVec.ofInt 64 (y : Int)) ^^^ (BitVec.ofInt 64 (-1))).toNat : Int) = _
  rw [show BitVec.ofInt 64 (-1) = BitVec.allOnes 64 from by decide, BitVec.ofInt_natCast, BitVec.xor_allOnes, BitVec.toNat_not, BitVec.toNat_ofNat, IntKind.wrap_i64]
  omega
theorem xor_0 (y : Nat) (h : y < 9223372036854775808) : bits BinOp.xor IntKind.i64 (y : Int) 0 = (y : Int) := by
  show IntKind.i64.wrap (((BitVec.ofInt 64 (y : Int)) ^^^ (BitVec.ofInt 64 0)).toNat : Int) = _
  rw [show BitVec.ofInt 64 0 = 0#64 from by decide, BitVec.ofInt_natCast, BitVec.xor_zero, BitVec.toNat_ofNat, IntKind.wrap_i64]
  omega
theorem unzz_bits (x : Nat) (h : x < 18446744073709551616) : bits BinOp.xor IntKind.i64 ((x : Int) / 2) (wrap64 (-wrap64 (bits BinOp.and IntKind.u64 (x : Int) 1))) = unzz x := by
  have e1 : bits BinOp.and IntKind.u64 (x : Int) 1 = ((x % 2 : Nat) : Int) := by
    have := bits_and_u64_nat x 1 h (by omega)
    rw [Nat.and_one_is_mod] at this
    exact this
  rw [e1, show (x : Int) / 2 = ((x / 2 : Nat) : Int) from by omega]
  unfold unzz
  rcases Nat.mod_two_eq_zero_or_one x with h0 | h0
  · rw [h0, if_pos rfl, show wrap64 (-wrap64 ((0 : Nat) : Int)) = 0 from by simp [wrap64]]
    exact xor_0 (x / 2) (by omega)
  · rw [h0, if_neg (by omega), show wrap64 (-wrap64 ((1 : Nat) : Int)) = -1 from by simp [wrap64]]
    exact xor_m1 (x / 2) (by omega)

set_option maxRecDepth 100000 in
theorem int_any (g : Nat) (s : St) (w : World) (h : RS w g s) :
    Calls Tryz.prog 79 #[.pointer (some ⟨g, 0, none⟩)] w fun r w' => r = .returned (.int .i64 (unzz (rUint s).2)) ∧ RS w' g (rUint s).1 ∧ OnlyAt w w' g none := by
  have HC := Lib.hid (uint_any g s w h)
  obtain ⟨x, hx⟩ : ∃ x, x = (rUint s).2 := ⟨_, rfl⟩
  have hxl : x < 18446744073709551616 := by
    rw [hx]; unfold rUint
    split
    · rename_i a b hn
      exact (nxt_le h.2.1 hn).2.2
    · show (0 : Nat) < _
      omega
  rw [hx] at hxl
  have HXL := Lib.hid hxl
  clear h
  go_enter Tryz.func79, Tryz.ntmps79
  go_wp2_with fail
  refine HC.out.mono ?_
  rintro e w1 ⟨rfl, hr, ho⟩
  have HR := Lib.hid hr; have HO := Lib.hid ho; clear hr ho
  go_wp2_with fail
  go_ret
  exact ⟨congrArg (fun n => Ending.returned (Value.int .i64 n)) (unzz_bits _ HXL.out), HR.out, HO.out⟩
end Rd
end Go.Proofs.YtcbddebmmaflgaaGreat
