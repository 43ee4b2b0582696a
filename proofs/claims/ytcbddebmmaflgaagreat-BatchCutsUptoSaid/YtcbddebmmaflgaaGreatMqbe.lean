/- The reference's Valid of any event, and of any batch. -/
/- The reference's Parse of whatever bytes. -/
/- The reference's forms of numbers and bytes. -/
import Derived.Test.YtcbddebmmaflgaaGreatMqbc
import Derived.Test.YtcbddebmmaflgaaGreatMqal
import Derived.Test.YtcbddebmmaflgaaGreatMqaz
import Derived.Test.YtcbddebmmaflgaaGreatMqbd
import Derived.Test.YtcbddebmmaflgaaGreatMqau
import Derived.Test.YtcbddebmmaflgaaGreatMqar
namespace Go.Proofs.YtcbddebmmaflgaaGreat
open Go.RowKit
set_option linter.unusedVariables false
set_option linter.unusedSimpArgs false
namespace Rd
open _root_.Go.Proofs.YtcbddebmmaflgaaGreat.Nm (bitsW ret_int ret_bool)
open Vt (VT Rep BoxAt below_drew)
open Ev (EV FieldsOk evCells vCells EBox ERep zeroT take_drop tk cons_drop)
open Cm (rowOf EvsIn)
open Cn (BB bvalid wrongE)

set_option maxRecDepth 100000 in
theorem rvalid_out (k : Int) (hk : k < 1 ∨ 11 < k) (id : Nat) (n : Int) (at' : Nat) (name text : ByteArray) (vk vn : Int) (vf : Nat) (vs : ByteArray) (A : Option Addr) (m c : Nat) (w : World) :
    Calls Tryz.prog 58 #[.agg #[.int .i64 k, .int .u64 (id : Nat), .int .i64 n, .int .u64 (at' : Nat), .string name, .string text, .int .i64 vk, .int .i64 vn, .float .f64 vf, .string vs, .slice A m c]] w fun r w' => r = .returned (.bool false) ∧ Below w.heap.size w w' := by
  obtain ⟨W0, hW0⟩ : ∃ W0, W0 = w.alloc (.cells #[.int .i64 k, .int .u64 (id : Nat), .int .i64 n, .int .u64 (at' : Nat), .string name, .string text, .int .i64 vk, .int .i64 vn, .float .f64 vf, .string vs, .slice A m c] 44) := ⟨_, rfl⟩
  have HB0 : Hid (Below w.heap.size w W0) := Lib.hid (by rw [hW0]; exact (Below.refl _ _).alloc (Nat.le_refl _) _)
  have hbx : EBox W0 w.heap.size #[.int .i64 k, .int .u64 (id : Nat), .int .i64 n, .int .u64 (at' : Nat), .string name, .string text, .int .i64 vk, .int .i64 vn, .float .f64 vf, .string vs, .slice A m c] := by rw [hW0]; exact heap_alloc_new w _
  have HS : Hid (∀ W' : World, Below W0.heap.size W0 W' → W'.cell? ⟨w.heap.size, 0, none⟩ = some (.int .i64 k)) := Lib.hid fun W hW => by
    obtain ⟨c0, -⟩ := EBox.cells (hbx.later hW (by rw [hW0]; simp))
    exact c0
  clear hbx
  replace hW0 := Lib.hid hW0
  go_enter Tryz.func58, Tryz.ntmps58
  go_upto_region 1 with fail
  rw [← hW0.out]
  by_cases h1 : k < 1
  · have g1 : decide (k < 1) = true := decide_eq_true h1
    clear hk
    refine wp_region_noPanic ?_
    refine wp_region_held_drew (S := (fun W' : World => W'.cell? ⟨w.heap.size, 0, none⟩ = some (.int .i64 k))) (by kernel_rfl) ?_ (fun hHeld => ?_)
    · exact HS.out _ (below_drew (Below.refl _ _))
    first
      | (refine tk (i := 0) (v := ?_) rfl (Or.inl ⟨by rfl, ?_⟩) ?_; rotate_left 1; (focus (intro w hSw; (try dsimp only at hSw); go_simp; try with_reducible rfl)))
      | (refine tk (i := 0) (v := undef) rfl (Or.inr ⟨by rfl, rfl⟩) ?_)
    try simp only [Act.put, List.setIfInBounds_toArray, List.set_cons_zero, List.set_cons_succ]
    first
      | (refine tk (i := 1) (v := ?_) rfl (Or.inl ⟨by rfl, ?_⟩) ?_; rotate_left 1; (focus (intro w hSw; (try dsimp only at hSw); go_simp; try with_reducible rfl)))
      | (refine tk (i := 1) (v := undef) rfl (Or.inr ⟨by rfl, rfl⟩) ?_)
    try simp only [Act.put, List.setIfInBounds_toArray, List.set_cons_zero, List.set_cons_succ]
    first
      | (refine tk (i := 2) (v := ?_) rfl (Or.inl ⟨by rfl, ?_⟩) ?_; rotate_left 1; (focus (intro w hSw; (try dsimp only at hSw); go_simp; try with_reducible rfl)))
      | (refine tk (i := 2) (v := undef) rfl (Or.inr ⟨by rfl, rfl⟩) ?_)
    try simp only [Act.put, List.setIfInBounds_toArray, List.set_cons_zero, List.set_cons_succ]
    first
      | (refine tk (i := 3) (v := ?_) rfl (Or.inl ⟨by rfl, ?_⟩) ?_; rotate_left 1; (focus (intro w hSw; (try dsimp only at hSw); go_simp; try with_reducible rfl)))
      | (refine tk (i := 3) (v := undef) rfl (Or.inr ⟨by rfl, rfl⟩) ?_)
    try simp only [Act.put, List.setIfInBounds_toArray, List.set_cons_zero, List.set_cons_succ]
    first
      | (refine tk (i := 4) (v := ?_) rfl (Or.inl ⟨by rfl, ?_⟩) ?_; rotate_left 1; (focus (intro w hSw; (try dsimp only at hSw); go_simp; try with_reducible rfl)))
      | (refine tk (i := 4) (v := undef) rfl (Or.inr ⟨by rfl, rfl⟩) ?_)
    try simp only [Act.put, List.setIfInBounds_toArray, List.set_cons_zero, List.set_cons_succ]
    first
      | (refine tk (i := 5) (v := ?_) rfl (Or.inl ⟨by rfl, ?_⟩) ?_; rotate_left 1; (focus (intro w hSw; (try dsimp only at hSw); go_simp; try with_reducible rfl)))
      | (refine tk (i := 5) (v := undef) rfl (Or.inr ⟨by rfl, rfl⟩) ?_)
    try simp only [Act.put, List.setIfInBounds_toArray, List.set_cons_zero, List.set_cons_succ]
    first
      | (refine tk (i := 6) (v := ?_) rfl (Or.inl ⟨by rfl, ?_⟩) ?_; rotate_left 1; (focus (intro w hSw; (try dsimp only at hSw); go_simp; try with_reducible rfl)))
      | (refine tk (i := 6) (v := undef) rfl (Or.inr ⟨by rfl, rfl⟩) ?_)
    try simp only [Act.put, List.setIfInBounds_toArray, List.set_cons_zero, List.set_cons_succ]
    first
      | (refine tk (i := 7) (v := ?_) rfl (Or.inl ⟨by rfl, ?_⟩) ?_; rotate_left 1; (focus (intro w hSw; (try dsimp only at hSw); go_simp; try with_reducible rfl)))
      | (refine tk (i := 7) (v := undef) rfl (Or.inr ⟨by rfl, rfl⟩) ?_)
    try simp only [Act.put, List.setIfInBounds_toArray, List.set_cons_zero, List.set_cons_succ]
    first
      | (refine tk (i := 8) (v := ?_) rfl (Or.inl ⟨by rfl, ?_⟩) ?_; rotate_left 1; (focus (intro w hSw; (try dsimp only at hSw); go_simp; try with_reducible rfl)))
      | (refine tk (i := 8) (v := undef) rfl (Or.inr ⟨by rfl, rfl⟩) ?_)
    try simp only [Act.put, List.setIfInBounds_toArray, List.set_cons_zero, List.set_cons_succ]
    first
      | (refine tk (i := 9) (v := ?_) rfl (Or.inl ⟨by rfl, ?_⟩) ?_; rotate_left 1; (focus (intro w hSw; (try dsimp only at hSw); go_simp; try with_reducible rfl)))
      | (refine tk (i := 9) (v := undef) rfl (Or.inr ⟨by rfl, rfl⟩) ?_)
    try simp only [Act.put, List.setIfInBounds_toArray, List.set_cons_zero, List.set_cons_succ]
    first
      | (refine tk (i := 10) (v := ?_) rfl (Or.inl ⟨by rfl, ?_⟩) ?_; rotate_left 1; (focus (intro w hSw; (try dsimp only at hSw); go_simp; try with_reducible rfl)))
      | (refine tk (i := 10) (v := undef) rfl (Or.inr ⟨by rfl, rfl⟩) ?_)
    try simp only [Act.put, List.setIfInBounds_toArray, List.set_cons_zero, List.set_cons_succ]
    first
      | (refine tk (i := 11) (v := ?_) rfl (Or.inl ⟨by rfl, ?_⟩) ?_; rotate_left 1; (focus (intro w hSw; (try dsimp only at hSw); go_simp; try with_reducible rfl)))
      | (refine tk (i := 11) (v := undef) rfl (Or.inr ⟨by rfl, rfl⟩) ?_)
    try simp only [Act.put, List.setIfInBounds_toArray, List.set_cons_zero, List.set_cons_succ]
    first
      | (refine tk (i := 12) (v := ?_) rfl (Or.inl ⟨by rfl, ?_⟩) ?_; rotate_left 1; (focus (intro w hSw; (try dsimp only at hSw); go_simp; try with_reducible rfl)))
      | (refine tk (i := 12) (v := undef) rfl (Or.inr ⟨by rfl, rfl⟩) ?_)
    try simp only [Act.put, List.setIfInBounds_toArray, List.set_cons_zero, List.set_cons_succ]
    first
      | (refine tk (i := 13) (v := ?_) rfl (Or.inl ⟨by rfl, ?_⟩) ?_; rotate_left 1; (focus (intro w hSw; (try dsimp only at hSw); go_simp; try with_reducible rfl)))
      | (refine tk (i := 13) (v := undef) rfl (Or.inr ⟨by rfl, rfl⟩) ?_)
    try simp only [Act.put, List.setIfInBounds_toArray, List.set_cons_zero, List.set_cons_succ]
    first
      | (refine tk (i := 14) (v := ?_) rfl (Or.inl ⟨by rfl, ?_⟩) ?_; rotate_left 1; (focus (intro w hSw; (try dsimp only at hSw); go_simp; try with_reducible rfl)))
      | (refine tk (i := 14) (v := undef) rfl (Or.inr ⟨by rfl, rfl⟩) ?_)
    try simp only [Act.put, List.setIfInBounds_toArray, List.set_cons_zero, List.set_cons_succ]
    first
      | (refine tk (i := 15) (v := ?_) rfl (Or.inl ⟨by rfl, ?_⟩) ?_; rotate_left 1; (focus (intro w hSw; (try dsimp only at hSw); go_simp; try with_reducible rfl)))
      | (refine tk (i := 15) (v := undef) rfl (Or.inr ⟨by rfl, rfl⟩) ?_)
    try simp only [Act.put, List.setIfInBounds_toArray, List.set_cons_zero, List.set_cons_succ]
    first
      | (refine tk (i := 16) (v := ?_) rfl (Or.inl ⟨by rfl, ?_⟩) ?_; rotate_left 1; (focus (intro w hSw; (try dsimp only at hSw); go_simp; try with_reducible rfl)))
      | (refine tk (i := 16) (v := undef) rfl (Or.inr ⟨by rfl, rfl⟩) ?_)
    try simp only [Act.put, List.setIfInBounds_toArray, List.set_cons_zero, List.set_cons_succ]
    refine wpAnyH_done (by kernel_rfl) ?_ _
    refine NoPanic.normal ?_
    go_wp2_with fail
    go_ret
    exact ⟨rfl, below_drew HB0.out⟩
  · have g1 : decide (k < 1) = false := decide_eq_false h1
    have g2 : decide (11 < k) = true := decide_eq_true (by omega)
    clear hk
    refine wp_region_noPanic ?_
    refine wp_region_held_drew (S := (fun W' : World => W'.cell? ⟨w.heap.size, 0, none⟩ = some (.int .i64 k))) (by kernel_rfl) ?_ (fun hHeld => ?_)
    · exact HS.out _ (below_drew (Below.refl _ _))
    first
      | (refine tk (i := 0) (v := ?_) rfl (Or.inl ⟨by rfl, ?_⟩) ?_; rotate_left 1; (focus (intro w hSw; (try dsimp only at hSw); go_simp; try with_reducible rfl)))
      | (refine tk (i := 0) (v := undef) rfl (Or.inr ⟨by rfl, rfl⟩) ?_)
    try simp only [Act.put, List.setIfInBounds_toArray, List.set_cons_zero, List.set_cons_succ]
    first
      | (refine tk (i := 1) (v := ?_) rfl (Or.inl ⟨by rfl, ?_⟩) ?_; rotate_left 1; (focus (intro w hSw; (try dsimp only at hSw); go_simp; try with_reducible rfl)))
      | (refine tk (i := 1) (v := undef) rfl (Or.inr ⟨by rfl, rfl⟩) ?_)
    try simp only [Act.put, List.setIfInBounds_toArray, List.set_cons_zero, List.set_cons_succ]
    first
      | (refine tk (i := 2) (v := ?_) rfl (Or.inl ⟨by rfl, ?_⟩) ?_; rotate_left 1; (focus (intro w hSw; (try dsimp only at hSw); go_simp; try with_reducible rfl)))
      | (refine tk (i := 2) (v := undef) rfl (Or.inr ⟨by rfl, rfl⟩) ?_)
    try simp only [Act.put, List.setIfInBounds_toArray, List.set_cons_zero, List.set_cons_succ]
    first
      | (refine tk (i := 3) (v := ?_) rfl (Or.inl ⟨by rfl, ?_⟩) ?_; rotate_left 1; (focus (intro w hSw; (try dsimp only at hSw); go_simp; try with_reducible rfl)))
      | (refine tk (i := 3) (v := undef) rfl (Or.inr ⟨by rfl, rfl⟩) ?_)
    try simp only [Act.put, List.setIfInBounds_toArray, List.set_cons_zero, List.set_cons_succ]
    first
      | (refine tk (i := 4) (v := ?_) rfl (Or.inl ⟨by rfl, ?_⟩) ?_; rotate_left 1; (focus (intro w hSw; (try dsimp only at hSw); go_simp; try with_reducible rfl)))
      | (refine tk (i := 4) (v := undef) rfl (Or.inr ⟨by rfl, rfl⟩) ?_)
    try simp only [Act.put, List.setIfInBounds_toArray, List.set_cons_zero, List.set_cons_succ]
    first
      | (refine tk (i := 5) (v := ?_) rfl (Or.inl ⟨by rfl, ?_⟩) ?_; rotate_left 1; (focus (intro w hSw; (try dsimp only at hSw); go_simp; try with_reducible rfl)))
      | (refine tk (i := 5) (v := undef) rfl (Or.inr ⟨by rfl, rfl⟩) ?_)
    try simp only [Act.put, List.setIfInBounds_toArray, List.set_cons_zero, List.set_cons_succ]
    first
      | (refine tk (i := 6) (v := ?_) rfl (Or.inl ⟨by rfl, ?_⟩) ?_; rotate_left 1; (focus (intro w hSw; (try dsimp only at hSw); go_simp; try with_reducible rfl)))
      | (refine tk (i := 6) (v := undef) rfl (Or.inr ⟨by rfl, rfl⟩) ?_)
    try simp only [Act.put, List.setIfInBounds_toArray, List.set_cons_zero, List.set_cons_succ]
    first
      | (refine tk (i := 7) (v := ?_) rfl (Or.inl ⟨by rfl, ?_⟩) ?_; rotate_left 1; (focus (intro w hSw; (try dsimp only at hSw); go_simp; try with_reducible rfl)))
      | (refine tk (i := 7) (v := undef) rfl (Or.inr ⟨by rfl, rfl⟩) ?_)
    try simp only [Act.put, List.setIfInBounds_toArray, List.set_cons_zero, List.set_cons_succ]
    first
      | (refine tk (i := 8) (v := ?_) rfl (Or.inl ⟨by rfl, ?_⟩) ?_; rotate_left 1; (focus (intro w hSw; (try dsimp only at hSw); go_simp; try with_reducible rfl)))
      | (refine tk (i := 8) (v := undef) rfl (Or.inr ⟨by rfl, rfl⟩) ?_)
    try simp only [Act.put, List.setIfInBounds_toArray, List.set_cons_zero, List.set_cons_succ]
    first
      | (refine tk (i := 9) (v := ?_) rfl (Or.inl ⟨by rfl, ?_⟩) ?_; rotate_left 1; (focus (intro w hSw; (try dsimp only at hSw); go_simp; try with_reducible rfl)))
      | (refine tk (i := 9) (v := undef) rfl (Or.inr ⟨by rfl, rfl⟩) ?_)
    try simp only [Act.put, List.setIfInBounds_toArray, List.set_cons_zero, List.set_cons_succ]
    first
      | (refine tk (i := 10) (v := ?_) rfl (Or.inl ⟨by rfl, ?_⟩) ?_; rotate_left 1; (focus (intro w hSw; (try dsimp only at hSw); go_simp; try with_reducible rfl)))
      | (refine tk (i := 10) (v := undef) rfl (Or.inr ⟨by rfl, rfl⟩) ?_)
    try simp only [Act.put, List.setIfInBounds_toArray, List.set_cons_zero, List.set_cons_succ]
    first
      | (refine tk (i := 11) (v := ?_) rfl (Or.inl ⟨by rfl, ?_⟩) ?_; rotate_left 1; (focus (intro w hSw; (try dsimp only at hSw); go_simp; try with_reducible rfl)))
      | (refine tk (i := 11) (v := undef) rfl (Or.inr ⟨by rfl, rfl⟩) ?_)
    try simp only [Act.put, List.setIfInBounds_toArray, List.set_cons_zero, List.set_cons_succ]
    first
      | (refine tk (i := 12) (v := ?_) rfl (Or.inl ⟨by rfl, ?_⟩) ?_; rotate_left 1; (focus (intro w hSw; (try dsimp only at hSw); go_simp; try with_reducible rfl)))
      | (refine tk (i := 12) (v := undef) rfl (Or.inr ⟨by rfl, rfl⟩) ?_)
    try simp only [Act.put, List.setIfInBounds_toArray, List.set_cons_zero, List.set_cons_succ]
    first
      | (refine tk (i := 13) (v := ?_) rfl (Or.inl ⟨by rfl, ?_⟩) ?_; rotate_left 1; (focus (intro w hSw; (try dsimp only at hSw); go_simp; try with_reducible rfl)))
      | (refine tk (i := 13) (v := undef) rfl (Or.inr ⟨by rfl, rfl⟩) ?_)
    try simp only [Act.put, List.setIfInBounds_toArray, List.set_cons_zero, List.set_cons_succ]
    first
      | (refine tk (i := 14) (v := ?_) rfl (Or.inl ⟨by rfl, ?_⟩) ?_; rotate_left 1; (focus (intro w hSw; (try dsimp only at hSw); go_simp; try with_reducible rfl)))
      | (refine tk (i := 14) (v := undef) rfl (Or.inr ⟨by rfl, rfl⟩) ?_)
    try simp only [Act.put, List.setIfInBounds_toArray, List.set_cons_zero, List.set_cons_succ]
    first
      | (refine tk (i := 15) (v := ?_) rfl (Or.inl ⟨by rfl, ?_⟩) ?_; rotate_left 1; (focus (intro w hSw; (try dsimp only at hSw); go_simp; try with_reducible rfl)))
      | (refine tk (i := 15) (v := undef) rfl (Or.inr ⟨by rfl, rfl⟩) ?_)
    try simp only [Act.put, List.setIfInBounds_toArray, List.set_cons_zero, List.set_cons_succ]
    first
      | (refine tk (i := 16) (v := ?_) rfl (Or.inl ⟨by rfl, ?_⟩) ?_; rotate_left 1; (focus (intro w hSw; (try dsimp only at hSw); go_simp; try with_reducible rfl)))
      | (refine tk (i := 16) (v := undef) rfl (Or.inr ⟨by rfl, rfl⟩) ?_)
    try simp only [Act.put, List.setIfInBounds_toArray, List.set_cons_zero, List.set_cons_succ]
    refine wpAnyH_done (by kernel_rfl) ?_ _
    refine NoPanic.normal ?_
    go_wp2_with fail
    go_ret
    exact ⟨rfl, below_drew HB0.out⟩

theorem valid_out (e : EV) (h : ¬ (1 ≤ e.k ∧ e.k ≤ 11)) : e.valid = false := by unfold EV.valid; rw [decide_eq_false h]; rfl
theorem rvalid_all (e : EV) (lo hi : Nat) (vk vn : Int) (vf : Nat) (vs : ByteArray) (A : Option Addr) (m c : Nat) (w : World) (hv : Rep w lo hi e.v (vCells vk vn vf vs A m c)) (hz : hi ≤ w.heap.size) :
    Calls Tryz.prog 58 #[.agg (evCells e vk vn vf vs A m c)] w fun r w' => r = .returned (.bool e.valid) ∧ Below w.heap.size w w' := by
  by_cases hk : 1 ≤ e.k ∧ e.k ≤ 11
  · exact rvalid_ev2 e hk.1 hk.2 lo hi vk vn vf vs A m c w hv hz
  · rw [valid_out e hk]
    exact rvalid_out e.k (by omega) e.id e.n e.at' e.name e.text vk vn vf vs A m c w

theorem any_take (es : List EV) (j : Nat) (h : j < es.length) : (es.take (j + 1)).any wrongE = ((es.take j).any wrongE || wrongE es[j]) := by
  rw [List.take_succ_eq_append_getElem h, List.any_append]; simp
theorem any_at (es : List EV) (j : Nat) (h : j < es.length) (hw : wrongE es[j] = true) : es.any wrongE = true := List.any_eq_true.2 ⟨_, List.getElem_mem h, hw⟩

set_option maxRecDepth 100000 in
set_option maxHeartbeats 2000000 in
theorem r13valid_any (es : List EV) (f : ByteArray) (hfs : f.size ≤ maxLen) (at' : Nat) (hat : at' < 18446744073709551616) (A : Option Addr) (cap : Nat) (w : World) (h : EvsIn w A cap es) :
    Calls Tryz.prog 24 #[.agg #[.string f, .int .u64 at', .slice A es.length cap]] w fun r w' => r = .returned (.bool (bvalid f at' es)) ∧ Below w.heap.size w w' := by
  simp only [maxLen] at hfs
  have hle := h.le
  have hc := h.cap_le
  simp only [maxLen] at hc
  obtain ⟨W0, hW0⟩ : ∃ W0, W0 = w.alloc (.cells #[.string f, .int .u64 at', .slice A es.length cap] 27) := ⟨_, rfl⟩
  have hx0 : BB W0 w.heap.size f at' A es.length cap := by rw [hW0]; exact heap_alloc_new w _
  have hb0 : Below w.heap.size w W0 := by rw [hW0]; exact (Below.refl _ _).alloc (Nat.le_refl _) _
  have hz0 : w.heap.size < W0.heap.size := by rw [hW0]; simp
  have HK := Lib.hid (h.later hb0)
  have HBX : Hid (∀ W, Below W0.heap.size W0 W → BB W w.heap.size f at' A es.length cap) := Lib.hid fun W hW => hx0.later hW hz0
  have HB0 := Lib.hid hb0
  have HFZ : Hid (f.toList.isEmpty = decide (f.size = 0)) := Lib.hid (by rw [Vt.toList_data]; cases f with | mk d => cases d with | mk l => cases l <;> simp [ByteArray.size])
  clear h hx0 hb0
  replace hW0 := Lib.hid hW0
  generalize hn : es.length = n at *
  have HN := Lib.hid hn; clear hn
  go_enter Tryz.func24, Tryz.ntmps24
  go_upto_region 1 with fail
  rw [← hW0.out]
  go_wp2_with fail
  go_loopw [2, 3] (fun r i wr => ∃ (j : Nat), j ≤ n ∧ i = .int .i64 j ∧ r = .bool false ∧ (es.take j).any wrongE = false ∧ Below W0.heap.size W0 wr) (fun _ i _ => n - (intOf i).toNat)
  case atStart => exact ⟨0, by omega, rfl, rfl, rfl, Below.refl _ _⟩
  case round =>
    obtain ⟨j, hj, rfl, rfl, hany, hb⟩ := hrel
    have HA := Lib.hid hany; have HB := Lib.hid hb
    obtain ⟨d0, d1, d2, -⟩ := (HBX.out _ hb).cells
    clear hany hb
    have HBF : Hid (∀ W, Below wr.heap.size wr W → Below w.heap.size w W) := Lib.hid fun W hW => HB0.out.trans ((HB.out.trans (hW.mono HB.out.size)).mono HB0.out.size)
    by_cases hkl : j < n
    · have hke : j < es.length := by have := HN.out; omega
      obtain ⟨b2, off2, lo, hi, vk, vn, vf, vs, A2, m2, c2, rfl, hbl2, hf, hv, hhi, e0, e1, e2, e3, e4, e5, e6, e7, e8, e9, e10⟩ := (HK.out.later HB.out).get j hke
      have HC := Lib.hid (rvalid_all es[j] lo hi vk vn vf vs A2 m2 c2 _ hv hhi)
      have HT := Lib.hid (any_take es j hke)
      have HTA := Lib.hid (any_at es j hke)
      unfold evCells at HC
      clear hf hv
      go_wp2_with fail
      refine HC.out.mono ?_
      rintro x w1 ⟨rfl, hb1⟩
      have HB1 := Lib.hid hb1
      clear hb1 e0 e1 e2 e3 e4 e5 e6 e7 e8 e9 e10 d0 d1 d2 HC
      cases hp : es[j].valid with
      | true =>
        have HP := Lib.hid hp; clear hp
        go_wp2_with fail
        go_roundw
        case rel => exact ⟨j + 1, by omega, by go_num, rfl, by rw [HT.out, HA.out]; simp [wrongE, HP.out], HB.out.trans (HB1.out.mono HB.out.size)⟩
        case measure => simp [intOf]; omega
      | false =>
        have HP := Lib.hid hp; clear hp
        go_wp2_with fail
        go_ret
        exact ⟨ret_bool (by unfold bvalid; rw [HTA.out (by simp [wrongE, HP.out])]; simp), HBF.out _ HB1.out⟩
    · have hk' : j = n := by omega
      subst hk'
      have HAA : Hid (es.any wrongE = false) := Lib.hid (by have := HA.out; rw [← HN.out, List.take_length] at this; exact this)
      have HBW : Hid (Below w.heap.size w wr) := Lib.hid (HBF.out _ (Below.refl _ _))
      by_cases h1 : 1 ≤ f.size
      · have g1 : decide ((1 : Int) ≤ (f.size : Int)) = true := decide_eq_true (by omega)
        by_cases h2 : f.size ≤ 1000
        · have g2 : decide ((f.size : Int) ≤ 1000) = true := decide_eq_true (by omega)
          by_cases h3 : at' ≤ 9223372036854775807
          · have g3 : decide ((at' : Int) ≤ 9223372036854775807) = true := decide_eq_true (by omega)
            have HH := Lib.hid (And.intro h1 (And.intro h2 h3))
            clear h3
            go_wp2_with fail
            go_ret
            exact ⟨ret_bool (by obtain ⟨z1, z2, z3⟩ := HH.out; unfold bvalid; rw [HAA.out, HFZ.out, HN.out, decide_eq_true z2, decide_eq_true z3, decide_eq_false (by omega : ¬ f.size = 0)]; simp), HBW.out⟩
          · have g3 : decide ((at' : Int) ≤ 9223372036854775807) = false := decide_eq_false (by omega)
            have HH := Lib.hid h3
            clear h3
            go_wp2_with fail
            go_ret
            exact ⟨ret_bool (by unfold bvalid; rw [decide_eq_false HH.out]; simp), HBW.out⟩
        · have g2 : decide ((f.size : Int) ≤ 1000) = false := decide_eq_false (by omega)
          have HH := Lib.hid h2
          go_wp2_with fail
          go_ret
          exact ⟨ret_bool (by unfold bvalid; rw [decide_eq_false HH.out]; simp), HBW.out⟩
      · have g1 : decide ((1 : Int) ≤ (f.size : Int)) = false := decide_eq_false (by omega)
        have HH := Lib.hid h1
        go_wp2_with fail
        go_ret
        exact ⟨ret_bool (by unfold bvalid; rw [HFZ.out, decide_eq_true (by have := HH.out; omega : f.size = 0)]; simp), HBW.out⟩
end Rd
end Go.Proofs.YtcbddebmmaflgaaGreat
namespace Go.Proofs.YtcbddebmmaflgaaGreat
open Go.RowKit
set_option linter.unusedVariables false
set_option linter.unusedSimpArgs false
namespace Rd
open _root_.Go.Proofs.YtcbddebmmaflgaaGreat.Nm (ret_int ret_bool)
open Vt (VT Rep below_drew)
open Ev (EV EBox FieldsOk ERep evCells vCells)
open Cm (OnlyAt rowOf EvsIn)
open Cn (BRd BB bvalid)

set_option maxRecDepth 100000 in
theorem rdone_any (s : St) (x : Value) (w : World) (B : Nat) (h : RV w B s x) : Calls Tryz.prog 23 #[x] w fun r w' => r = .returned (.bool (!s.2 && s.1.isEmpty)) ∧ Below w.heap.size w w' := by
  obtain ⟨⟨v, rfl, hv, -⟩, -, -⟩ := h
  obtain ⟨A, cap, rfl⟩ := hv.form
  obtain ⟨l, bad⟩ := s
  simp only at *
  obtain ⟨W0, hW0⟩ : ∃ W0, W0 = w.alloc (.cells #[.slice A l.length cap, .bool bad] 52) := ⟨_, rfl⟩
  have hb0 : Below w.heap.size w W0 := by rw [hW0]; exact (Below.refl _ _).alloc (Nat.le_refl _) _
  have hq : QB W0 w.heap.size (.slice A l.length cap) bad := by rw [hW0]; exact heap_alloc_new w _
  obtain ⟨c0, c1, -, -⟩ := hq.cells
  have HB0 := Lib.hid hb0
  clear hv hb0 hq
  replace hW0 := Lib.hid hW0
  have HE : Hid (l.isEmpty = decide (l.length = 0)) := Lib.hid (by cases l <;> simp)
  go_enter Tryz.func23, Tryz.ntmps23
  go_upto_region 1 with fail
  rw [← hW0.out]
  cases bad with
  | true =>
    go_wp2_with fail
    go_ret
    exact ⟨ret_bool (by simp), HB0.out⟩
  | false =>
    go_wp2_with fail
    go_ret
    exact ⟨ret_bool (by rw [HE.out]; by_cases h : l.length = 0 <;> simp [h]), HB0.out⟩

theorem rv_of {w : World} {v : Value} {l : List Nat} (h : BRd w v l) (hb : Byt l) (hl : l.length ≤ 1099511627776) : RV w w.heap.size (l, false) (.agg #[v, .bool false]) := by
  refine ⟨⟨v, rfl, h, fun k hk => ?_⟩, hb, hl⟩
  rcases h with ⟨rfl, -⟩ | ⟨b, off, cap, rfl, h2, h3, h4, h5⟩
  · cases hk
  · rw [Bt.ownBlock_slice] at hk
    cases hk; exact h4
theorem pe_bad {l : List Nat} (hb : Byt l) (hl : l.length ≤ 1099511627776) : pe (l, true) = none := by
  cases h : pe (l, true) with
  | none => rfl
  | some p => obtain ⟨s', e⟩ := p; exact absurd (pe_form (l, true) s' e hb hl h).1 (by simp)
/-- The loop over a batch's events, in the reference. -/
def QInv (c0 c4 c8 : Nat) (w : World) (f : ByteArray) (a nn : Nat) (sn : St) (iv : Value) (wr : World) : Prop :=
  ∃ (j : Nat) (A : Option Addr) (cap : Nat) (lj : List Nat) (bj : Bool) (Bj : Option Addr) (dj : Nat) (es : List EV), iv = .int .u64 (j : Nat) ∧ j ≤ nn ∧ BB wr c0 ⟨#[]⟩ 0 none 0 0 ∧ QB wr c4 (.slice Bj lj.length dj) bj ∧ RV wr c0 (lj, bj) (.agg #[.slice Bj lj.length dj, .bool bj]) ∧ BB wr c8 f a A j cap ∧ GRow wr c8 A cap j es ∧ Below c0 w wr ∧
    rep pe nn sn = (rep pe (nn - j) (lj, bj)).map (fun q => (q.1, es ++ q.2)) ∧ j + lj.length ≤ 1099511627776
theorem set_heap (w : World) (c o : Nat) (v : Value) {b : Nat} (h : b ≠ c) : (w.setCell ⟨c, o, none⟩ v).heap[b]? = w.heap[b]? := Below.heap_setCell w ⟨c, o, none⟩ v b h
theorem rep_bad {l : List Nat} (hb : Byt l) (hl : l.length ≤ 1099511627776) {k : Nat} (hk : 0 < k) : rep pe k (l, true) = none := by
  obtain ⟨m, rfl⟩ : ∃ m, k = m + 1 := ⟨k - 1, by omega⟩
  have h0 := pe_bad hb hl
  exact rep_stop (p := pe) (n := m + 1) (j := 0) (s := (l, true)) (sj := (l, true)) (acc := []) (by simp) (by omega) h0

set_option maxRecDepth 100000 in
set_option maxHeartbeats 8000000 in
theorem rbparse_any (v : Value) (l : List Nat) (hl : l.length ≤ 1099511627776) (hb : Byt l) (w : World) (h : BRd w v l) :
    Calls Tryz.prog 7 #[v] w (BParse l w) := by
  obtain ⟨A0, cap0, hvf⟩ := h.form
  subst hvf
  obtain ⟨c0, hc0⟩ : ∃ c0, c0 = w.heap.size := ⟨_, rfl⟩
  have hrv := rv_of h hb hl
  rw [← hc0] at hrv
  obtain ⟨W0, hW0⟩ : ∃ W0, W0 = w.alloc (.cells #[.string ⟨#[]⟩, .int .u64 0, .slice none 0 0] 27) := ⟨_, rfl⟩
  have hx0 : BB W0 c0 ⟨#[]⟩ 0 none 0 0 := by rw [hW0, hc0]; exact heap_alloc_new w _
  have hb0 : Below c0 w W0 := by rw [hW0, hc0]; exact (Below.refl _ _).alloc (Nat.le_refl _) _
  have hz0 : W0.heap.size = c0 + 1 := by rw [hW0, hc0]; simp
  have HPB : Hid (pb (l, false) = match rep pe (rUint (rUint (rText (l, false)).1).1).2 (rUint (rUint (rText (l, false)).1).1).1 with | none => none | some (s', es) => if s'.2 = true ∨ s'.1 ≠ [] ∨ bvalid (rText (l, false)).2 (rUint (rText (l, false)).1).2 es = false then none else some ((rText (l, false)).2, (rUint (rText (l, false)).1).2, es)) := Lib.hid rfl
  have hbf : Byt (rText (l, false)).1.1 := (rBytes_byt (s := (l, false)) hb hl).1
  have hlf : (rText (l, false)).1.1.length ≤ 1099511627776 := Nat.le_trans (rBytes_le (l, false)) hl
  have hsf := rText_size (s := (l, false)) hb hl
  have ha := rUint_val hbf
  have hba := (rUint_byt hbf hlf).1
  have hla := (rUint_byt hbf hlf).2
  have hnn := rUint_val hba
  have HLN := Lib.hid (rUint_byt hba hla).2
  have HY2 := Lib.hid (rBytes_byt (s := (l, false)) hb hl).2.2
  have HT := Lib.hid (rrbytes_any (l, false) _ W0 c0 (by omega) (hrv.below hb0 (Nat.le_refl _)))
  have HU1 := Lib.hid fun (W : World) (x : Value) (hz : c0 ≤ W.heap.size) (hW : RV W c0 (rText (l, false)).1 x) => rruint_any (rText (l, false)).1 x W c0 hz hW
  have HU2 := Lib.hid fun (W : World) (x : Value) (hz : c0 ≤ W.heap.size) (hW : RV W c0 (rUint (rText (l, false)).1).1 x) => rruint_any (rUint (rText (l, false)).1).1 x W c0 hz hW
  have HTE : Hid ((rBytes (l, false)).1 = (rText (l, false)).1) := Lib.hid rfl
  have HFE : Hid ((rText (l, false)).2 = ⟨((rBytes (l, false)).2.map UInt8.ofNat).toArray⟩) := Lib.hid rfl
  rw [HTE.out] at HT
  generalize (rBytes (l, false)).2 = fl at *
  generalize rText (l, false) = q1 at *
  obtain ⟨s1, f⟩ := q1
  simp only at *
  generalize rUint s1 = q2 at *
  obtain ⟨s2, a⟩ := q2
  simp only at *
  generalize rUint s2 = q3 at *
  obtain ⟨sn, nn⟩ := q3
  simp only at *
  obtain ⟨i0, hi0, hz0i, hz1, hz2⟩ := info_parts Cm.Tryz.infoE
  have I1 := Lib.hid hi0; have I2 := Lib.hid hz0i; have I3 := Lib.hid hz1; have I4 := Lib.hid hz2
  clear hi0 hz0i hz1 hz2
  have HX0 := Lib.hid hx0; have HB0 := Lib.hid hb0; have HC0 := Lib.hid hc0
  have HL := Lib.hid hl
  clear hx0 hb0 hc0 h hrv hb hbf hlf hba hla hl HTE
  replace hW0 := Lib.hid hW0
  go_enter Tryz.func7, Tryz.ntmps7
  go_upto_region 1 with fail
  rw [← hW0.out, ← HC0.out]
  go_wp2_with fail
  refine HT.out.mono ?_
  rintro e w1 ⟨y1, v1f, rfl, hr1, hv1f, hfar1, hb1⟩
  obtain ⟨⟨v1, rfl, hr1⟩, hr1'⟩ := hr1
  obtain ⟨B1, d1, hvv1⟩ := hr1.1.form
  subst hvv1
  have hz1w := hb1.size
  obtain ⟨c4, hc4⟩ : ∃ c4, c4 = w1.heap.size := ⟨_, rfl⟩
  obtain ⟨W1, hW1⟩ : ∃ W1, W1 = w1.alloc (.cells #[.slice B1 s1.1.length d1, .bool s1.2] 52) := ⟨_, rfl⟩
  have hb1a : Below c4 w1 W1 := by rw [hW1, hc4]; exact (Below.refl _ _).alloc (Nat.le_refl _) _
  have hq1 : QB W1 c4 (.slice B1 s1.1.length d1) s1.2 := by rw [hW1, hc4]; exact heap_alloc_new _ _
  have hz1a : W1.heap.size = c4 + 1 := by rw [hW1, hc4]; simp
  have hc04 : c0 < c4 := by omega
  have hbw1 : Below c0 w W1 := (HB0.out.trans (hb1.mono (by omega))).trans (hb1a.mono (by omega))
  have HB1 := Lib.hid hbw1
  have HX1 := Lib.hid ((HX0.out.later hb1 (by omega)).later hb1a hc04)
  have HQ1 := Lib.hid hq1
  have HR1 : Hid (RV W1 c0 s1 (.agg #[.slice B1 s1.1.length d1, .bool s1.2])) := Lib.hid (RV.below ⟨⟨_, rfl, hr1⟩, hr1'⟩ hb1a (by omega))
  have HF1 : Hid (BRd W1 v1f fl ∧ Far v1f c0) := Lib.hid ⟨brd_keep hv1f hb1a.size fun q hq => hb1a.block q (Nat.lt_trans (hfar1 q hq) hc04), hfar1⟩
  obtain ⟨A1, cap1, hv1f'⟩ := hv1f.form
  subst hv1f'
  obtain ⟨a0, a1, af0, af1⟩ := hq1.cells
  have hlt1 := hq1.lt
  have HC4 := Lib.hid hc4
  clear hr1 hr1' hv1f hfar1 hb1 hb1a hq1 hbw1 hc4
  replace hW1 := Lib.hid hW1
  go_upto_region 2 with fail
  rw [← hW1.out, ← HC4.out]
  go_wp2_with fail
  refine (HU1.out _ _ (by omega) HR1.out).mono ?_
  rintro e w2 ⟨y2, rfl, hr2, hb2⟩
  obtain ⟨⟨v2, rfl, hr2⟩, hr2'⟩ := hr2
  obtain ⟨B2, d2, hvv2⟩ := hr2.1.form
  subst hvv2
  have hz2w := hb2.size
  have hq2 := HQ1.out.later hb2 hlt1
  have hx2 := HX1.out.later hb2 HX1.out.lt
  have hbw2 := HB1.out.trans (hb2.mono (by omega))
  obtain ⟨W2, hW2⟩ : ∃ W2, W2 = (w2.setCell ⟨c4, 0, none⟩ (.slice B2 s2.1.length d2)).setCell ⟨c4, 1, none⟩ (.bool s2.2) := ⟨_, rfl⟩
  have hb2s : Below c4 w2 W2 := by rw [hW2]; exact below_set2 (below_set2 (Below.refl _ _) (Nat.le_refl _) _ _) (Nat.le_refl _) _ _
  have HQ2 : Hid (QB W2 c4 (.slice B2 s2.1.length d2) s2.2) := Lib.hid (by rw [hW2]; exact qb_set hq2)
  have HX2 := Lib.hid (hx2.later hb2s hc04)
  have HB2 := Lib.hid (hbw2.trans (hb2s.mono (by omega)))
  have HR2 : Hid (RV W2 c0 s2 (.agg #[.slice B2 s2.1.length d2, .bool s2.2])) := Lib.hid (RV.below ⟨⟨_, rfl, hr2⟩, hr2'⟩ hb2s (by omega))
  have HF2 : Hid (BRd W2 (.slice A1 fl.length cap1) fl ∧ Far (.slice A1 fl.length cap1) c0) := Lib.hid ⟨brd_keep (brd_keep HF1.out.1 hb2.size fun q hq => hb2.block q (by have := HF1.out.2 q hq; omega)) hb2s.size fun q hq => hb2s.block q (by have := HF1.out.2 q hq; omega), HF1.out.2⟩
  have hz2s : W2.heap.size = w2.heap.size := by rw [hW2]; simp [World.setCell]
  clear a0 a1 af0 af1
  obtain ⟨a0, a1, af0, af1⟩ := hq2.cells
  have hlt2 := hq2.lt
  clear hr2 hr2' hb2 hb2s hq2 hx2 hbw2
  replace hW2 := Lib.hid hW2
  go_upto_region 3 with fail
  rw [← hW2.out]
  clear a0 a1 af0 af1
  obtain ⟨a0, a1, af0, af1⟩ := HQ2.out.cells
  go_wp2_with fail
  refine (HU2.out _ _ (by omega) HR2.out).mono ?_
  rintro e w3 ⟨y3, rfl, hr3, hb3⟩
  obtain ⟨⟨v3, rfl, hr3⟩, hr3'⟩ := hr3
  obtain ⟨B3, d3, hvv3⟩ := hr3.1.form
  subst hvv3
  have hz3w := hb3.size
  have hq3 := HQ2.out.later hb3 (by omega)
  have hx3 := HX2.out.later hb3 HX2.out.lt
  have hbw3 := HB2.out.trans (hb3.mono (by omega))
  obtain ⟨W3, hW3⟩ : ∃ W3, W3 = (w3.setCell ⟨c4, 0, none⟩ (.slice B3 sn.1.length d3)).setCell ⟨c4, 1, none⟩ (.bool sn.2) := ⟨_, rfl⟩
  have hb3s : Below c4 w3 W3 := by rw [hW3]; exact below_set2 (below_set2 (Below.refl _ _) (Nat.le_refl _) _ _) (Nat.le_refl _) _ _
  have hq3s : QB W3 c4 (.slice B3 sn.1.length d3) sn.2 := by rw [hW3]; exact qb_set hq3
  have hx3s := hx3.later hb3s hc04
  have hbw3s := hbw3.trans (hb3s.mono (by omega))
  have hr3s : RV W3 c0 sn (.agg #[.slice B3 sn.1.length d3, .bool sn.2]) := RV.below ⟨⟨_, rfl, hr3⟩, hr3'⟩ hb3s (by omega)
  have hf3 : BRd W3 (.slice A1 fl.length cap1) fl := brd_keep (brd_keep HF2.out.1 hb3.size fun q hq => hb3.block q (by have := HF2.out.2 q hq; omega)) hb3s.size fun q hq => hb3s.block q (by have := HF2.out.2 q hq; omega)
  have hz3s : W3.heap.size = w3.heap.size := by rw [hW3]; simp [World.setCell]
  have hcv := (brd_in hf3).toText HY2.out
  rw [← HFE.out] at hcv
  clear a0 a1 af0 af1
  obtain ⟨a0, a1, af0, af1⟩ := hq3.cells
  have hlt3 := hq3.lt
  obtain ⟨c8, hc8⟩ : ∃ c8, c8 = w3.heap.size := ⟨_, rfl⟩
  obtain ⟨W4, hW4⟩ : ∃ W4, W4 = W3.alloc (.cells #[.string f, .int .u64 (a : Nat), .slice none 0 0] 27) := ⟨_, rfl⟩
  have hb4 : Below c8 W3 W4 := by rw [hW4, hc8, ← hz3s]; exact (Below.refl _ _).alloc (Nat.le_refl _) _
  have H84 : Hid (BB W4 c8 f a none 0 0) := Lib.hid (by rw [hW4, hc8, ← hz3s]; exact heap_alloc_new _ _)
  have hz4 : W4.heap.size = c8 + 1 := by rw [hW4, hc8, ← hz3s]; simp
  have hc48 : c4 < c8 := by omega
  have HQ4 := Lib.hid (hq3s.later hb4 hc48)
  have HX4 := Lib.hid (hx3s.later hb4 (by omega))
  have HB4 := Lib.hid (hbw3s.trans (hb4.mono (by omega)))
  have HR4 := Lib.hid (hr3s.below hb4 (by omega))
  clear hb3 hb3s hq3 hq3s hx3 hx3s hbw3 hbw3s hr3 hr3' hr3s hf3 hb4
  replace hW3 := Lib.hid hW3; replace hW4 := Lib.hid hW4
  have HC8 := Lib.hid hc8
  clear hc8
  go_upto_region 4 with fail
  rw [← hW3.out]
  clear a0 a1 af0 af1
  go_upto_region 5 with fail
  rw [← hW4.out, ← HC8.out]
  clear hcv
  go_wp2_with fail
  go_loopw [9] (QInv c0 c4 c8 w f a nn sn) (fun iv _ => nn + 1 - (intOf iv).toNat)
  case atStart => exact ⟨0, none, 0, sn.1, sn.2, B3, d3, [], rfl, Nat.zero_le _, HX4.out, HQ4.out, HR4.out, H84.out, grow_nil _ _, HB4.out, by simp, by have := HLN.out; omega⟩
  case round =>
    obtain ⟨j, A, cap, lj, bj, Bj, dj, es, rfl, hj, hx, hq, hr, h8, hrow, hbw, hrep, hlen40⟩ := hrel
    have HXr := Lib.hid hx; have H8r := Lib.hid h8; have HQr := Lib.hid hq; have HRr := Lib.hid hr; have HROW := Lib.hid hrow; have HBr := Lib.hid hbw; have HREP := Lib.hid hrep
    have hlt8 := h8.lt
    have hlt4 := hq.lt
    obtain ⟨a0, a1, af0, af1⟩ := hq.cells
    obtain ⟨r0, r1, r2, rf⟩ := hx.cells
    have f0 := rf 0; have f1 := rf 1; have f2 := rf 2
    have hltr := hx.lt
    clear rf
    clear hx h8 hq hr hrow hbw hrep
    by_cases hlt : j < nn
    · have hcond : decide ((j : Int) < (nn : Int)) = true := decide_eq_true (by omega)
      cases bj with
      | true =>
        have HPN : Hid (pb (l, false) = none) := Lib.hid (by rw [HPB.out, HREP.out, rep_bad HRr.out.2.1 HRr.out.2.2 (by omega)]; rfl)
        have HD := Lib.hid (rdone_any _ _ wr c0 HRr.out)
        simp only [Bool.not_true, Bool.false_and] at HD
        go_wp2_with fail
        refine HD.out.mono ?_
        rintro x7 w7 ⟨rfl, hb7⟩
        have HX7 := Lib.hid (HXr.out.later hb7 hltr)
        have HB7 := Lib.hid (HBr.out.trans (hb7.mono (by omega)))
        have hz7 := hb7.size
        clear hb7 r0 r1 r2 f0 f1 f2 hltr a0 a1 af0 af1
        obtain ⟨r0, r1, r2, rf⟩ := HX7.out.cells
        have f0 := rf 0; have f1 := rf 1; have f2 := rf 2
        have hltr := HX7.out.lt
        clear rf
        go_wp2_with fail
        refine bodyPost_ret (v := .tuple #[.agg #[.string ⟨#[]⟩, .int .u64 0, .slice none 0 0], .bool false]) (by simp [results, Tryz.results7, go_sem, r0, r1, r2]) rfl ?_
        exact bparse_no HPN.out (by rw [← HC0.out]; exact below_set2 (below_set2 (below_set2 HB7.out (Nat.le_refl _) _ _) (Nat.le_refl _) _ _) (Nat.le_refl _) _ _)
      | false =>
        have HE := Lib.hid (reread_any (lj, false) _ wr c0 (by omega) HRr.out)
        go_wp2_with fail
        refine HE.out.mono ?_
        intro e w6 her
        obtain ⟨okb, y, x2, ⟨l6, b6⟩, e6, rfl, ⟨⟨v6, rfl, hv6, hf6⟩, hby6, hl6⟩, hb6, hyes, hno⟩ := her
        simp only at hv6 hf6 hby6 hl6
        obtain ⟨B6, d6, hvv⟩ := hv6.form
        subst hvv
        have hz6 := hb6.size
        have hx6 := HXr.out.later hb6 (by omega)
        have h86 := H8r.out.later hb6 (by omega)
        have hq6 := HQr.out.later hb6 (by omega)
        have hbw6 := HBr.out.trans (hb6.mono (show c0 ≤ wr.heap.size by omega))
        clear r0 r1 r2 f0 f1 f2 hltr a0 a1 af0 af1
        cases okb with
        | false =>
          obtain ⟨hp, rfl⟩ := hno rfl
          have HPN : Hid (pb (l, false) = none) := Lib.hid (by rw [HPB.out, rep_stop HREP.out hlt hp])
          unfold zeroE
          obtain ⟨W6, hW6⟩ : ∃ W6, W6 = (w6.alloc (.cells #[.slice B6 l6.length d6, .bool b6] 52)).alloc (.cells #[.int .i64 0, .int .u64 0, .int .i64 0, .int .u64 0, .string ⟨#[]⟩, .string ⟨#[]⟩, .int .i64 0, .int .i64 0, .float .f64 0, .string ⟨#[]⟩, .slice none 0 0] 44) := ⟨_, rfl⟩
          have hbA : Below w6.heap.size w6 W6 := by rw [hW6]; exact ((Below.refl _ _).alloc (Nat.le_refl _) _).alloc (by simp) _
          have HXn := Lib.hid (hx6.later hbA hx6.lt)
          have HBn := Lib.hid (hbw6.trans (hbA.mono (by omega)))
          clear hx6 h86 hq6 hbw6 hbA hyes hno hv6 hf6 hby6 hl6 hb6 hp
          replace hW6 := Lib.hid hW6
          go_upto_region 9 with fail
          rw [← hW6.out]
          obtain ⟨r0, r1, r2, rf⟩ := HXn.out.cells
          have f0 := rf 0; have f1 := rf 1; have f2 := rf 2
          have hltr := HXn.out.lt
          clear rf
          go_wp2_with fail
          refine bodyPost_ret (v := .tuple #[.agg #[.string ⟨#[]⟩, .int .u64 0, .slice none 0 0], .bool false]) (by simp [results, Tryz.results7, go_sem, r0, r1, r2]) rfl ?_
          exact bparse_no HPN.out (by rw [← HC0.out]; exact below_set2 (below_set2 (below_set2 HBn.out (Nat.le_refl _) _ _) (Nat.le_refl _) _ _) (Nat.le_refl _) _ _)
        | true =>
          obtain ⟨hp, hf6e, vk, vn, vf, vs, A', m, c, rfl, hrep6⟩ := hyes rfl
          have hp0 : b6 = false := (pe_form (lj, false) (l6, b6) e6 HRr.out.2.1 HRr.out.2.2 hp).2.1
          subst hp0
          obtain ⟨k, id, n, at', nm, tx, vt⟩ := e6
          unfold evCells at *
          simp only at hrep6
          obtain ⟨b8, hb8⟩ : ∃ b8, b8 = w6.heap.size + 1 := ⟨_, rfl⟩
          obtain ⟨W6, hW6⟩ : ∃ W6, W6 = (w6.alloc (.cells #[.slice B6 l6.length d6, .bool false] 52)).alloc (.cells #[.int .i64 k, .int .u64 (id : Nat), .int .i64 n, .int .u64 (at' : Nat), .string nm, .string tx, .int .i64 vk, .int .i64 vn, .float .f64 vf, .string vs, .slice A' m c] 44) := ⟨_, rfl⟩
          have hbA : Below w6.heap.size w6 W6 := by rw [hW6]; exact ((Below.refl _ _).alloc (Nat.le_refl _) _).alloc (by simp) _
          have hzA : W6.heap.size = b8 + 1 := by rw [hW6, hb8]; simp
          have hq10 : QB W6 w6.heap.size (.slice B6 l6.length d6) false := by rw [hW6]; exact (heap_alloc_old _ _ (by simp)).trans (heap_alloc_new _ _)
          have hE6 : EBox W6 b8 #[.int .i64 k, .int .u64 (id : Nat), .int .i64 n, .int .u64 (at' : Nat), .string nm, .string tx, .int .i64 vk, .int .i64 vn, .float .f64 vf, .string vs, .slice A' m c] := by
            rw [hW6, hb8]
            have e := heap_alloc_new (w6.alloc (.cells #[.slice B6 l6.length d6, .bool false] 52)) (.cells #[.int .i64 k, .int .u64 (id : Nat), .int .i64 n, .int .u64 (at' : Nat), .string nm, .string tx, .int .i64 vk, .int .i64 vn, .float .f64 vf, .string vs, .slice A' m c] 44)
            rw [World.size_alloc] at e
            exact e
          obtain ⟨Ws, hWs⟩ : ∃ Ws, Ws = (W6.setCell ⟨c4, 0, none⟩ (.slice B6 l6.length d6)).setCell ⟨c4, 1, none⟩ (.bool false) := ⟨_, rfl⟩
          have hbS : Below c4 W6 Ws := by rw [hWs]; exact below_set2 (below_set2 (Below.refl _ _) (Nat.le_refl _) _ _) (Nat.le_refl _) _ _
          have hsS : ∀ b, b ≠ c4 → Ws.heap[b]? = W6.heap[b]? := fun b hb => by rw [hWs]; exact (set_heap _ _ _ _ hb).trans (set_heap _ _ _ _ hb)
          have hzS : Ws.heap.size = b8 + 1 := by rw [hWs]; simp [World.setCell, hzA]
          obtain ⟨W4, hW4⟩ : ∃ W4, W4 = Ws.alloc (.cells #[.int .i64 k, .int .u64 (id : Nat), .int .i64 n, .int .u64 (at' : Nat), .string nm, .string tx, .int .i64 vk, .int .i64 vn, .float .f64 vf, .string vs, .slice A' m c] 44) := ⟨_, rfl⟩
          have hb4f : Below Ws.heap.size Ws W4 := by rw [hW4]; exact (Below.refl _ _).alloc (Nat.le_refl _) _
          have hz4 : W4.heap.size = b8 + 2 := by rw [hW4, World.size_alloc, hzS]
          have hall : ∀ b, b ≠ c4 → b < w6.heap.size → W4.heap[b]? = w6.heap[b]? := fun b h1 h2 => ((hb4f.block b (by omega)).trans (hsS b h1)).trans (hbA.block b h2)
          have hqA := hq6.later hbA hq6.lt
          obtain ⟨a0, a1, af0, af1⟩ := hqA.cells
          obtain ⟨p0, p1, pf0, pf1⟩ := hq10.cells
          have H8s : Hid (BB Ws c8 f a A j cap) := Lib.hid ((hsS c8 (by omega)).trans (h86.later hbA h86.lt))
          have HEs : Hid (EBox Ws b8 #[.int .i64 k, .int .u64 (id : Nat), .int .i64 n, .int .u64 (at' : Nat), .string nm, .string tx, .int .i64 vk, .int .i64 vn, .float .f64 vf, .string vs, .slice A' m c]) := Lib.hid ((hsS b8 (by omega)).trans hE6)
          have H54 : Hid (BB W4 c8 f a A j cap) := Lib.hid ((hall c8 (by omega) (by omega)).trans h86)
          have HX4 : Hid (BB W4 c0 ⟨#[]⟩ 0 none 0 0) := Lib.hid ((hall c0 (by omega) (by omega)).trans hx6)
          have HQ4 : Hid (QB W4 c4 (.slice B6 l6.length d6) false) := Lib.hid (by rw [hW4]; exact qb_old (by rw [hWs]; exact qb_set hqA) _)
          have HR4 : Hid (RV W4 c0 (l6, false) (.agg #[.slice B6 l6.length d6, .bool false])) := Lib.hid (RV.keep ⟨⟨_, rfl, hv6, hf6⟩, hby6, hl6⟩ (by omega) fun b hb => hall b (by omega) (by omega))
          have HB4 : Hid (Below c0 w W4) := Lib.hid (((hbw6.trans (hbA.mono (by omega))).trans (hbS.mono (by omega))).trans (hb4f.mono (by omega)))
          have hrow4 := HROW.out.only (w' := W4) (by omega) fun b h1 h2 => (hall b (by omega) (by omega)).trans (hb6.block b h2)
          have HRO := Lib.hid fun r hr => hrow4.lt r hr
          have HRB : Hid (∀ r, rowOf A = some r → r < wr.heap.size) := Lib.hid fun r hr => (HROW.out.lt r hr).1
          obtain ⟨hlen, xs, hxo, hxe⟩ := hrow4
          have hlx := hxo.1
          have KO := Lib.hid hxo; have HXE := Lib.hid hxe
          have HREP6 : Hid (Rep W4 wr.heap.size w6.heap.size vt (vCells vk vn vf vs A' m c)) := Lib.hid (hrep6.keep fun b o h1 h2 => World.cell?_of_block (a := ⟨b, o, none⟩) (hall b (by omega) h2))
          have HF := Lib.hid hf6e
          have K2 : Hid (∀ q u, ((#[.int .i64 k, .int .u64 (id : Nat), .int .i64 n, .int .u64 (at' : Nat), .string nm, .string tx, .int .i64 vk, .int .i64 vn, .float .f64 vf, .string vs, .slice A' m c]).toList)[q]? = some u → W4.cell? ((⟨b8 + 1, 0, none⟩ : Addr).add q) = some u) := Lib.hid (World.news_of_block (t := 44) (fr := (0, 0)) (by rw [hW4, ← hzS]; exact heap_alloc_new _ _))
          have KF : Hid (∀ r2 cap4 w7, w7.ownsRow (c8 + 1) 44 11 (.slice (some ⟨r2, 0, none⟩) (j + 1) cap4) (j + 1) (xs ++ (#[.int .i64 k, .int .u64 (id : Nat), .int .i64 n, .int .u64 (at' : Nat), .string nm, .string tx, .int .i64 vk, .int .i64 vn, .float .f64 vf, .string vs, .slice A' m c]).toList) → W4.grownBy w7 (rowOf A) → (rowOf A = some r2 ∨ r2 = W4.heap.size) →
              GRow w7 c8 (some ⟨r2, 0, none⟩) cap4 (j + 1) (es ++ [⟨k, id, n, at', nm, tx, vt⟩]) ∧ Below (c8 + 1) W4 w7) := Lib.hid fun r2 cap4 w7 hown hgrow hat =>
            ⟨GRow.push (cap := cap) (e := ⟨k, id, n, at', nm, tx, vt⟩) hlen hlx (fun i h => HXE.out i h) (show c8 < wr.heap.size by omega) HF.out HREP6.out (by omega) (fun r hr => .inl (HRB.out r hr)) hown hgrow hat (Nat.le_refl _),
             ⟨hgrow.os, hgrow.tape, hgrow.output, hgrow.size, fun b hb => hgrow.block b (by omega) (fun e => by have := (HRO.out b e.symm).2; omega)⟩⟩
          have hplt := pe_lt HRr.out.2.1 HRr.out.2.2 hp
          have hplt' : l6.length < lj.length := hplt
          have hj40 : j ≤ 1099511627775 := by omega
          clear hplt
          have hb8c : c8 + 1 < b8 := by omega
          have HPP := Lib.hid hp
          have hlt4' : c4 < W6.heap.size := by omega
          have hlt10 : w6.heap.size < W6.heap.size := by omega
          have hn10 : ¬ (w6.heap.size = c4) := by omega
          clear hx6 h86 hq6 hbw6 hbA hbS hsS hb4f hall hqA hq10 hE6 hxo hxe hrep6 hf6e hp hyes hno hv6 hf6 hby6 hl6 hb6
          replace hW6 := Lib.hid hW6; replace hWs := Lib.hid hWs; replace hW4 := Lib.hid hW4
          have HB8 := Lib.hid hb8
          clear hb8
          go_upto_region 9 with fail
          rw [← hW6.out]
          go_upto_region 12 with fail
          rw [← hWs.out, ← HB8.out]
          clear a0 a1 af0 af1 p0 p1 pf0 pf1
          obtain ⟨d0, d1, d2, df⟩ := H8s.out.cells
          have m2 := df 2
          have hltd := H8s.out.lt
          clear df
          obtain ⟨x0, x1, x2, x3, x4, x5, x6, x7, x8, x9, x10⟩ := HEs.out.cells
          have hltx := HEs.out.lt
          go_wp2_with (at_builtin; rw [← hW4.out]; refine wpList_append_lies _ rfl _ _ 25 rfl (c8 + 1) 44 i0 _ 11 128 Tryz.underlying25 I1.out I2.out I3.out I4.out rfl (by decide) (.slice A j cap) j xs rfl KO.out ⟨b8 + 1, 0, none⟩ 1 1 (#[.int .i64 k, .int .u64 (id : Nat), .int .i64 n, .int .u64 (at' : Nat), .string nm, .string tx, .int .i64 vk, .int .i64 vn, .float .f64 vf, .string vs, .slice A' m c]).toList rfl rfl K2.out (by intro u hu; simp at hu; rcases hu with rfl | rfl | rfl | rfl | rfl | rfl | rfl | rfl | rfl | rfl | rfl <;> rfl) (by decide) (by simp only [maxLen]; omega) (by omega) (by omega) _ rfl ?_; intro r2 cap4 w7 hown5 hgrow5 hat5 hrl5; rw [Cm.rowOf_own] at hgrow5 hat5; obtain ⟨hP, hb7⟩ := KF.out r2 cap4 w7 hown5 hgrow5 hat5; clear hown5 hgrow5 hat5; have HP7 := Lib.hid hP; have HB7 := Lib.hid hb7; have h57 := H54.out.later hb7 (Nat.lt_succ_self _); have hlt7 := h57.lt; obtain ⟨q0, q1, q2, qf⟩ := h57.cells; have qf2 := qf 2; have H57 := Lib.hid h57; clear hP hb7 h57 qf)
          go_roundw
          case rel =>
            refine ⟨j + 1, some ⟨r2, 0, none⟩, cap4, l6, false, B6, d6, es ++ [⟨k, id, n, at', nm, tx, vt⟩], by go_num, by omega, (HX4.out.later HB7.out (by omega)).far (by omega) _, qb_far (HQ4.out.later HB7.out (by omega)) (by omega) _, (HR4.out.below HB7.out (by omega)).below (below_set2 (Below.refl c8 _) (Nat.le_refl _) _ _) (by omega), H57.out.set, HP7.out.only (by simp [World.setCell]) (fun b h1 h2 => Below.heap_setCell _ ⟨c8, 2, none⟩ _ b (by simp only []; omega)), (HB4.out.trans (HB7.out.mono (by omega))).setCell (show c0 ≤ c8 by omega) _, rep_acc HREP.out hlt HPP.out, ?_⟩
            omega
          case measure => simp [intOf]; omega
    · have hj2 : j = nn := by omega
      subst hj2
      have hcond : decide ((j : Int) < (j : Int)) = false := decide_eq_false (by omega)
      have HE := Lib.hid (rep_end HREP.out)
      have hel := HROW.out.1
      subst hel
      have HIN : Hid (EvsIn wr A cap es) := Lib.hid HROW.out.erow.read
      have HD := Lib.hid (rdone_any _ _ wr c0 HRr.out)
      have HV := Lib.hid fun W (hW : Below wr.heap.size wr W) => r13valid_any es f (by simp only [maxLen]; omega) a ha A cap W (HIN.out.later hW)
      simp only at HD
      cases hd : (!bj && lj.isEmpty) with
      | false =>
        have HPN : Hid (pb (l, false) = none) := Lib.hid (by rw [HPB.out, HE.out]; simp only; rw [if_pos]; cases h2 : bj with | true => exact .inl rfl | false => rw [h2] at hd; refine .inr (.inl fun h => ?_); rw [h] at hd; simp at hd)
        rw [hd] at HD
        go_wp2_with fail
        refine HD.out.mono ?_
        rintro x7 w7 ⟨rfl, hb7⟩
        have HX7 := Lib.hid (HXr.out.later hb7 hltr)
        have HB7 := Lib.hid (HBr.out.trans (hb7.mono (by omega)))
        clear hb7 r0 r1 r2 f0 f1 f2 hltr a0 a1 af0 af1
        obtain ⟨r0, r1, r2, rf⟩ := HX7.out.cells
        have f0 := rf 0; have f1 := rf 1; have f2 := rf 2
        have hltr := HX7.out.lt
        clear rf
        go_wp2_with fail
        refine bodyPost_ret (v := .tuple #[.agg #[.string ⟨#[]⟩, .int .u64 0, .slice none 0 0], .bool false]) (by simp [results, Tryz.results7, go_sem, r0, r1, r2]) rfl ?_
        exact bparse_no HPN.out (by rw [← HC0.out]; exact below_set2 (below_set2 (below_set2 HB7.out (Nat.le_refl _) _ _) (Nat.le_refl _) _ _) (Nat.le_refl _) _ _)
      | true =>
        have hs2 : bj = false ∧ lj = [] := by
          simp at hd
          exact hd
        rw [hd] at HD
        have HS2 := Lib.hid hs2
        clear hs2
        go_wp2_with fail
        refine HD.out.mono ?_
        rintro x7 w7 ⟨rfl, hb7⟩
        have H87 := Lib.hid (H8r.out.later hb7 hlt8)
        have HB7 := Lib.hid hb7
        clear hb7 r0 r1 r2 f0 f1 f2 hltr a0 a1 af0 af1
        obtain ⟨d0, d1, d2, df⟩ := H87.out.cells
        have m2 := df 2
        have hltd := H87.out.lt
        clear df
        go_wp2_with fail
        refine (HV.out w7 HB7.out).mono ?_
        rintro x8 w8 ⟨rfl, hb8⟩
        have HB8R := Lib.hid (HB7.out.trans (hb8.mono HB7.out.size))
        have HX8 := Lib.hid (HXr.out.later HB8R.out (by omega))
        have HX58 := Lib.hid (H8r.out.later HB8R.out hlt8)
        have HB8 := Lib.hid (HBr.out.trans (HB8R.out.mono (by omega)))
        clear hb8 d0 d1 d2 m2 hltd
        obtain ⟨r0, r1, r2, rf⟩ := HX8.out.cells
        have f0 := rf 0; have f1 := rf 1; have f2 := rf 2
        have hltr := HX8.out.lt
        clear rf
        obtain ⟨d0, d1, d2, df⟩ := HX58.out.cells
        have m2 := df 2
        have hltd := HX58.out.lt
        clear df
        have hne1 : ¬ (c8 = c0) := by omega
        have hne2 : ¬ (c0 = c8) := by omega
        cases hbv : bvalid f a es with
        | false =>
          have HPN : Hid (pb (l, false) = none) := Lib.hid (by rw [HPB.out, HE.out]; simp only; rw [if_pos (.inr (.inr hbv))])
          go_wp2_with fail
          refine bodyPost_ret (v := .tuple #[.agg #[.string ⟨#[]⟩, .int .u64 0, .slice none 0 0], .bool false]) (by simp [results, Tryz.results7, go_sem, r0, r1, r2]) rfl ?_
          exact bparse_no HPN.out (by rw [← HC0.out]; exact below_set2 (below_set2 (below_set2 HB8.out (Nat.le_refl _) _ _) (Nat.le_refl _) _ _) (Nat.le_refl _) _ _)
        | true =>
          have HPY : Hid (pb (l, false) = some (f, a, es)) := Lib.hid (by rw [HPB.out, HE.out]; simp only; rw [if_neg (by rw [HS2.out.1, HS2.out.2, hbv]; simp)])
          go_wp2_with fail
          refine bodyPost_ret (v := .tuple #[.agg #[.string f, .int .u64 (a : Nat), .slice A es.length cap], .bool true]) (by simp [results, Tryz.results7, go_sem, r0, r1, r2]) rfl ?_
          exact bparse_yes HPY.out (grow_fin HROW.out HB8R.out (by omega) _ _ _) (by rw [← HC0.out]; exact below_set2 (below_set2 (below_set2 HB8.out (Nat.le_refl _) _ _) (Nat.le_refl _) _ _) (Nat.le_refl _) _ _)
end Rd
end Go.Proofs.YtcbddebmmaflgaaGreat
namespace Go.Proofs.YtcbddebmmaflgaaGreat
open Go.RowKit
set_option linter.unusedVariables false
set_option linter.unusedSimpArgs false
namespace Rf
open _root_.Go.Proofs.YtcbddebmmaflgaaGreat.Nm (bitsW ret_int ret_bool)
open Bt (BOwn BIn ubytes sb bown_nil wpList_append_bytes bv)
open Pf (zz zz_lt be8 sform)
open Vf (KB one_byte)
open Cn (BRd)

theorem ub_next {f y : Nat} (h : y < 128 ^ (f + 1)) (h2 : 128 ≤ y) : ∃ g, f = g + 1 ∧ y / 128 < 128 ^ (g + 1) ∧ ubytes f y = (y % 128 + 128) :: ubytes g (y / 128) := by
  cases f with
  | zero => simp at h; omega
  | succ g =>
    refine ⟨g, rfl, ?_, by rw [ubytes, if_neg (by omega)]⟩
    rw [Nat.pow_succ] at h
    exact Nat.div_lt_of_lt_mul (by rw [Nat.mul_comm]; exact h)
theorem ub_last {f y : Nat} (h : y < 128) : ubytes f y = [y] := by
  cases f with
  | zero => rfl
  | succ g => rw [ubytes, if_pos h]
theorem ub_big {x : Nat} (h : x < 18446744073709551616) : x < 128 ^ (10 + 1) := Nat.lt_trans h (by decide)

set_option maxRecDepth 100000 in
set_option maxHeartbeats 2000000 in
theorem ruform_any (x0 : Nat) (hx : x0 < 18446744073709551616) (w : World) : Calls Tryz.prog 34 #[.int .u64 (x0 : Nat)] w (KB w (ubytes 10 x0)) := by
  have HX := Lib.hid hx
  have HL := Lib.hid (Bt.ubytes_len 10 x0)
  have HX10 := Lib.hid (ub_big hx)
  clear hx
  go_enter Tryz.func34, Tryz.ntmps34
  go_wp2_with fail
  go_loopw [0, 3] (fun x o wr => ∃ (y f : Nat) (lo : List Nat), x = .int .u64 (y : Nat) ∧ y < 18446744073709551616 ∧ Hid (y < 128 ^ (f + 1)) ∧ Hid (lo ++ ubytes f y = ubytes 10 x0) ∧ BOwn wr w.heap.size o lo ∧ Below w.heap.size w wr) (fun x _ _ => (intOf x).toNat)
  case atStart => exact ⟨x0, 10, [], rfl, HX.out, HX10, Lib.hid rfl, bown_nil _ _, Below.refl _ _⟩
  case round =>
    obtain ⟨y, f, lo, rfl, hy, HY, HE, hown, hb⟩ := hrel
    have HO := Lib.hid hown; have HB := Lib.hid hb
    have HLO : Hid (lo.length ≤ 11) := Lib.hid (by have h1 := congrArg List.length HE.out; rw [List.length_append] at h1; have := HL.out; omega)
    clear hown hb
    by_cases hlt : 128 ≤ y
    · have k1 : decide ((128 : Int) ≤ (y : Int)) = true := decide_eq_true (by omega)
      obtain ⟨g, hfg, hg, hu⟩ := ub_next HY.out hlt
      have HG := Lib.hid hg; have HU := Lib.hid hu
      clear hg hu
      have HN := Lib.hid (one_byte wr ((y : Int) % 128 + 128) (y % 128 + 128) (by omega))
      go_wp2_with (at_builtin; refine wpList_append_bytes _ rfl _ _ rfl w.heap.size _ _ lo [y % 128 + 128] rfl rfl (HO.out.later ((Below.refl _ _).alloc (Nat.le_refl _) _)) HN.out (by have := HLO.out; simp; omega) (by simp; exact Nat.le_succ_of_le HB.out.size) ?_; intro v2 w2 hown2 hg2 hb2; have HO2 := Lib.hid hown2; have HB2 := Lib.hid ((HB.out.alloc HB.out.size _).trans hb2); clear hown2 hb2)
      exact ⟨⟨y / 128, g, lo ++ [y % 128 + 128], by go_num, by omega, HG, Lib.hid (by rw [← HE.out, HU.out]; simp), HO2.out, HB2.out⟩, by simp [intOf]; omega⟩
    · have k1 : decide ((128 : Int) ≤ (y : Int)) = false := decide_eq_false (by omega)
      have hu := ub_last (f := f) (by omega : y < 128)
      have HU := Lib.hid hu
      clear hu
      have HN := Lib.hid (one_byte wr (y : Int) y rfl)
      go_wp2_with (at_builtin; refine wpList_append_bytes _ rfl _ _ rfl w.heap.size _ _ lo [y] rfl rfl (HO.out.later ((Below.refl _ _).alloc (Nat.le_refl _) _)) HN.out (by have := HLO.out; simp; omega) (by simp; exact Nat.le_succ_of_le HB.out.size) ?_; intro v2 w2 hown2 hg2 hb2; have HO2 := Lib.hid hown2; have HB2 := Lib.hid ((HB.out.alloc HB.out.size _).trans hb2); clear hown2 hb2)
      go_ret
      refine ⟨_, rfl, ?_, HB2.out⟩
      have := HO2.out
      rw [show lo ++ [y] = ubytes 10 x0 from by rw [← HE.out, HU.out]] at this
      exact this

set_option maxRecDepth 100000 in
theorem rbform_any (v : Value) (l : List Nat) (hl : l.length ≤ 1000000) (w : World) (h : BIn w v l) : Calls Tryz.prog 33 #[v] w (KB w (ubytes 10 l.length ++ l)) := by
  obtain ⟨A, cap, rfl⟩ := h.form
  have HV := Lib.hid h
  have HU := Lib.hid (ruform_any l.length (by omega) w)
  have HL := Lib.hid (Bt.ubytes_len 10 l.length)
  have HWR : Hid (IntKind.u64.wrap (l.length : Int) = (l.length : Int)) := Lib.hid (IntWalk.u64_in _ (by omega))
  clear h
  go_enter Tryz.func33, Tryz.ntmps33
  go_wp2_with fail
  refine HU.out.mono ?_
  rintro e w1 ⟨v, rfl, hown, hb⟩
  have HO := Lib.hid hown; have HB := Lib.hid hb
  clear hown hb
  go_wp2_with (at_builtin; refine wpList_append_bytes _ rfl _ _ rfl w.heap.size _ _ (ubytes 10 l.length) l rfl rfl HO.out (HV.out.later HB.out) (by have := HL.out; omega) HB.out.size ?_; intro v2 w2 hown2 hg2 hb2; have HO2 := Lib.hid hown2; have HB2 := Lib.hid (HB.out.trans hb2); clear hown2 hb2)
  go_ret
  exact ⟨_, rfl, HO2.out, HB2.out⟩

theorem zz_pos (n : Int) (h0 : 0 ≤ n) (h1 : n ≤ 9223372036854775807) : ((zz n : Nat) : Int) = n * 2 := by unfold zz; rw [if_pos h0]; omega
theorem zz_neg (n : Int) (h0 : ¬ 0 ≤ n) (h1 : -9223372036854775808 ≤ n) : ((zz n : Nat) : Int) = -(n + 1) * 2 + 1 := by unfold zz; rw [if_neg h0]; omega

set_option maxRecDepth 100000 in
theorem riform_any (n : Int) (h0 : -9223372036854775808 ≤ n) (h1 : n ≤ 9223372036854775807) (w : World) : Calls Tryz.prog 98 #[.int .i64 n] w (KB w (ubytes 10 (zz n))) := by
  have HU := Lib.hid (ruform_any (zz n) (zz_lt h0 h1) w)
  by_cases hn : 0 ≤ n
  · have k1 : decide ((0 : Int) ≤ n) = true := decide_eq_true hn
    have HZ := Lib.hid (zz_pos n hn h1)
    rw [HZ.out] at HU
    go_enter Tryz.func98, Tryz.ntmps98
    go_wp2_with fail
    refine HU.out.mono ?_
    rintro e w1 ⟨v, rfl, hown, hb⟩
    have HO := Lib.hid hown; have HB := Lib.hid hb
    clear hown hb
    go_wp2_with fail
    go_ret
    exact ⟨_, rfl, HO.out, HB.out⟩
  · have k1 : decide ((0 : Int) ≤ n) = false := decide_eq_false hn
    have HZ := Lib.hid (zz_neg n hn h0)
    rw [HZ.out] at HU
    go_enter Tryz.func98, Tryz.ntmps98
    go_wp2_with fail
    refine HU.out.mono ?_
    rintro e w1 ⟨v, rfl, hown, hb⟩
    have HO := Lib.hid hown; have HB := Lib.hid hb
    clear hown hb
    go_wp2_with fail
    go_ret
    exact ⟨_, rfl, HO.out, HB.out⟩
end Rf
end Go.Proofs.YtcbddebmmaflgaaGreat
