/- Contract of the builder's list: add. -/
import Derived.Test.YtpnepnhajpmccaaCwA
namespace Go.Proofs.Ytpnepnhajpmccaa
open Go.RowKit
set_option linter.unusedVariables false
namespace Cm
variable {X : Nat → Prop}
open Nm (ret_int ret_bool)
open Vt (VT Rep BoxAt below_drew)
open Ev (EV FieldsOk evCells vCells EBox)

theorem closes_any (k : Int) (w : World) : Calls Try.prog 64 #[.int .i64 k] w fun e w' => e = .returned (.bool (decide (9 ≤ k ∧ k ≤ 11))) ∧ w = w' := by
  by_cases h : 9 ≤ k
  · have hb : decide (9 ≤ k) = true := by simpa using h
    go_enter Try.func64, Try.ntmps64
    go_wp2_with fail
    go_ret
    exact ⟨ret_bool (by simp [h]), rfl⟩
  · have hb : decide (9 ≤ k) = false := by simpa using h
    go_enter Try.func64, Try.ntmps64
    go_wp2_with fail
    go_ret
    exact ⟨ret_bool (by simp), rfl⟩

/-- A builder that is closed takes nothing more. -/
theorem add_closed (base g : Nat) (A : Option Addr) (cap : Nat) (es : List EV) (closed : Int) (hc : closed ≠ 0) (next at' : Nat) (e : EV) (vk vn : Int) (vf : Nat) (vs : ByteArray) (A' : Option Addr) (m c : Nat) (w : World) (hb : BAt X w base g A cap es closed next at') :
    Calls Try.prog 53 #[.pointer (some ⟨g, 0, none⟩), .agg (evCells e vk vn vf vs A' m c)] w fun r w' => r = .returned (.bool false) ∧ Below w.heap.size w w' := by
  obtain ⟨c0, c1, c2, c3, cf⟩ := hb.cells
  have hlt := hb.lt
  have hcb : (closed != 0) = true := by simpa using hc
  clear cf hb hc
  unfold evCells
  go_enter Try.func53, Try.ntmps53
  go_wp2_with fail
  go_ret
  exact ⟨rfl, (Below.refl _ _).alloc (Nat.le_refl _) _⟩

/-- The result of add. -/
def Added (X : Nat → Prop) (w w' : World) (base g : Nat) (A : Option Addr) (es : List EV) (e : EV) (k : Int) (next at' : Nat) : Prop :=
  ∃ r cap', BAt X w' base g (some ⟨r, 0, none⟩) cap' (es ++ [e]) k next at' ∧ OnlyAt w w' g (rowOf A) ∧ (rowOf A = some r ∨ w.heap.size ≤ r)

set_option maxHeartbeats 4000000 in
theorem add_open (base g : Nat) (A : Option Addr) (cap : Nat) (es : List EV) (next at' : Nat) (e : EV) (lo hi : Nat) (vk vn : Int) (vf : Nat) (vs : ByteArray) (A' : Option Addr) (m c : Nat) (w : World) (hb : BAt X w base g A cap es 0 next at') (hl : es.length ≤ 1000000)
    (hbw : base ≤ w.heap.size) (hf : FieldsOk e) (hv : Rep w lo hi e.v (vCells vk vn vf vs A' m c)) (hz : hi ≤ w.heap.size) (hg : g < lo ∨ hi ≤ g) (hrr : ∀ r, rowOf A = some r ∨ X r → r < lo ∨ hi ≤ r) :
    Calls Try.prog 53 #[.pointer (some ⟨g, 0, none⟩), .agg (evCells e vk vn vf vs A' m c)] w fun r w' => r = .returned (.bool true) ∧ Added X w w' base g A es e (if 9 ≤ e.k ∧ e.k ≤ 11 then e.k else 0) next at' := by
  obtain ⟨c0, c1, c2, c3, cf⟩ := hb.cells
  have f0 := cf 0
  have f1 := cf 1
  have hlt := hb.lt
  have hblk := hb.blk
  obtain ⟨i0, hi0, hz0, hz1, hz2⟩ := info_parts Try.infoE
  obtain ⟨xs, hxo, hxg, hxe⟩ := hb.rows
  have hlx := hxo.1
  have hown : Hid (∀ W, OnlyAt w W g none → W.ownsRow base 45 11 (.slice A es.length cap) es.length xs) := by
    intro W hW
    refine ⟨hxo.1, ?_⟩
    rcases hxo.2 with h | ⟨r, cp, cur, q1, q2, q3, q4⟩
    · exact .inl h
    · refine .inr ⟨r, cp, cur, q1, q2, ?_, q4⟩
      exact (hW.block r (Array.getElem?_eq_some_iff.1 q3).1 (fun e => hxg (by rw [← rowOf_own A es.length cap, q1, ← e]; rfl)) (by simp)).trans q3
  replace hblk := Lib.hid hblk
  have h1c : Hid (∀ u ∈ (evCells e vk vn vf vs A' m c).toList, u.oneCell' = true) := by
    intro u hu
    simp [evCells] at hu
    rcases hu with rfl | rfl | rfl | rfl | rfl | rfl | rfl | rfl | rfl | rfl | rfl <;> rfl
  have hcl := fun W => closes_any e.k W
  replace hcl := Lib.hid hcl
  replace hb := Lib.hid hb
  replace hxe := Lib.hid hxe
  clear cf hxo
  by_cases hk : 9 ≤ e.k ∧ e.k ≤ 11
  · have hkb : decide (9 ≤ e.k ∧ e.k ≤ 11) = true := by simpa using hk
    rw [if_pos hk]
    have HB : Hid (∀ Z Z', OnlyAt w (((w.setCell ⟨g, 1, none⟩ (.int .i64 e.k)).alloc Z).drew.alloc Z') g none) := Lib.hid fun Z Z' =>
      ((OnlyAt.of_below (Below.refl _ _)).set 1 _).trans (OnlyAt.of_below (((Below.refl _ _).alloc (Nat.le_refl _) Z).drew.alloc (by simp [World.alloc, World.drew]) Z'))
    have HG : Hid (∀ Z Z', (((w.setCell ⟨g, 1, none⟩ (.int .i64 e.k)).alloc Z).drew.alloc Z').heap[g]? = some (.cells #[.slice A es.length cap, .int .i64 e.k, .int .u64 next, .int .u64 at'] 60 (0, 0))) := Lib.hid fun Z Z' => by
      rw [heap_alloc_old _ _ (by simp [World.alloc, World.drew, World.setCell]; omega)]
      show (((w.setCell ⟨g, 1, none⟩ (.int .i64 e.k)).alloc Z)).heap[g]? = _
      rw [heap_alloc_old _ _ (by simp [World.setCell]; omega)]
      simp [World.setCell, Array.getElem?_modify, hblk.out]
    unfold evCells
    unfold evCells at h1c
    go_enter Try.func53, Try.ntmps53
    go_wp2_with fail
    refine (hcl.out _).mono ?_
    rintro x w1 ⟨rfl, rfl⟩
    go_wp2_with fail
    go_region_law (refine step_append_lies _ rfl (.tmp 22) (.tmp 24) 28 rfl base 45 i0 _ 11 128 Try.underlying28 hi0 hz0 hz1 hz2 rfl (by decide) _ es.length xs (by simp [Act.eval]) (hown.out _ (HB.out _ _)) ⟨_, 0, none⟩ 1 1 _ (by simp [Act.eval]; try rfl) rfl (World.news_of_block (heap_alloc_new _ _)) h1c.out (by decide) (by simp only [maxLen]; omega) (by omega) (Nat.le_trans hbw (HB.out _ _).size) _ rfl ?_; intro r cap' w' hown' hgrow hat hrl; rw [rowOf_own] at hgrow hat; have hg' := (hgrow.block g (Nat.lt_of_lt_of_le hlt (HB.out _ _).size) (fun e => hxg e.symm)).trans (HG.out _ _); have k0 : w'.cell? ⟨g, 0, none⟩ = some (.slice A es.length cap) := (by simp [World.cell?, hg']); have kf : w'.frozen? ⟨g, 0, none⟩ = false := (by simp [World.frozen?, hg']); replace hg' := Lib.hid hg')
    all_goals go_wp2_with fail
    all_goals go_ret
    all_goals exact ⟨rfl, r, cap', add_done hb.out ⟨hxg, hxe.out⟩ hlx (HB.out _ _) (HG.out _ _) hf hv hz hg hrr hown' hgrow hat (by simp [World.alloc, World.drew, World.setCell]; omega) hrl⟩
  · have hkb : decide (9 ≤ e.k ∧ e.k ≤ 11) = false := by simpa using hk
    rw [if_neg hk]
    have HB : Hid (∀ Z Z', OnlyAt w ((w.alloc Z).drew.alloc Z') g none) := Lib.hid fun Z Z' =>
      OnlyAt.of_below (((Below.refl _ _).alloc (Nat.le_refl _) Z).drew.alloc (by simp) Z')
    have HG : Hid (∀ Z Z', ((w.alloc Z).drew.alloc Z').heap[g]? = some (.cells #[.slice A es.length cap, .int .i64 0, .int .u64 next, .int .u64 at'] 60 (0, 0))) := Lib.hid fun Z Z' => by
      rw [heap_alloc_old _ _ (by simp; omega)]
      show ((w.alloc Z)).heap[g]? = _
      rw [heap_alloc_old _ _ (by omega)]
      exact hblk.out
    unfold evCells
    unfold evCells at h1c
    go_enter Try.func53, Try.ntmps53
    go_wp2_with fail
    refine (hcl.out _).mono ?_
    rintro x w1 ⟨rfl, rfl⟩
    go_wp2_with fail
    go_region_law (refine step_append_lies _ rfl (.tmp 22) (.tmp 24) 28 rfl base 45 i0 _ 11 128 Try.underlying28 hi0 hz0 hz1 hz2 rfl (by decide) _ es.length xs (by simp [Act.eval]) (hown.out _ (HB.out _ _)) ⟨_, 0, none⟩ 1 1 _ (by simp [Act.eval]; try rfl) rfl (World.news_of_block (heap_alloc_new _ _)) h1c.out (by decide) (by simp only [maxLen]; omega) (by omega) (Nat.le_trans hbw (HB.out _ _).size) _ rfl ?_; intro r cap' w' hown' hgrow hat hrl; rw [rowOf_own] at hgrow hat; have hg' := (hgrow.block g (Nat.lt_of_lt_of_le hlt (HB.out _ _).size) (fun e => hxg e.symm)).trans (HG.out _ _); have k0 : w'.cell? ⟨g, 0, none⟩ = some (.slice A es.length cap) := (by simp [World.cell?, hg']); have kf : w'.frozen? ⟨g, 0, none⟩ = false := (by simp [World.frozen?, hg']); replace hg' := Lib.hid hg')
    all_goals go_wp2_with fail
    all_goals go_ret
    all_goals exact ⟨rfl, r, cap', add_done hb.out ⟨hxg, hxe.out⟩ hlx (HB.out _ _) (HG.out _ _) hf hv hz hg hrr hown' hgrow hat (by simp; omega) hrl⟩
end Cm
end Go.Proofs.Ytpnepnhajpmccaa
