/- Policies: contracts of Valid (both sides), Default, and of the closures that the delays are made of. -/
import Derived.Test.YtdibokeinmhmbaaDoorNmB
import Derived.Laws.EntriesVeiled
namespace Go.Proofs.YtdibokeinmhmbaaDoor
open Go.RowKit
namespace Rt
open Nm (ret_int ret_bool scaleW addW)

/-- A policy as a value. -/
def pol (most : Int) (wt fb lim tmo : Nat) : Value := .agg #[.int .i64 most, .int .u64 wt, .float .f64 fb, .int .u64 lim, .int .u64 tmo]

/-- A valid policy. -/
def Vld (most : Int) (wt lim tmo : Nat) : Prop := 1 ≤ most ∧ most ≤ 100 ∧ wt ≤ 9223372036854775807 ∧ lim ≤ 9223372036854775807 ∧ tmo ≤ 9223372036854775807

theorem valid_yes (most : Int) (wt fb lim tmo : Nat) (h : Vld most wt lim tmo) (w : World) :
    Calls Tryd.prog 13 #[pol most wt fb lim tmo] w fun e w' => e = .returned (.bool true) ∧ Below w.heap.size w w' := by
  obtain ⟨h1, h2, h3, h4, h5⟩ := h
  have h3' : (wt : Int) ≤ 9223372036854775807 := by omega
  have h4' : (lim : Int) ≤ 9223372036854775807 := by omega
  have h5' : (tmo : Int) ≤ 9223372036854775807 := by omega
  clear h3 h4 h5
  unfold pol
  go_enter Tryd.func13, Tryd.ntmps13
  go_wp2_with fail
  all_goals
    go_ret
    exact ⟨ret_bool (by simp <;> omega), (Below.refl _ _).alloc (Nat.le_refl _) _⟩

theorem valid_no (most : Int) (wt fb lim tmo : Nat) (h : ¬ Vld most wt lim tmo) (w : World) :
    Calls Tryd.prog 13 #[pol most wt fb lim tmo] w fun e w' => e = .returned (.bool false) ∧ Below w.heap.size w w' := by
  unfold Vld at h
  unfold pol
  by_cases h1 : 1 ≤ most
  · by_cases h2 : most ≤ 100
    · have h3 : 9223372036854775807 < (wt : Int) ∨ 9223372036854775807 < (lim : Int) ∨ 9223372036854775807 < (tmo : Int) := by omega
      have H := Lib.hid h3
      clear h h3
      go_enter Tryd.func13, Tryd.ntmps13
      go_wp2_with fail
      all_goals
        have h3 := H.out
        go_ret
        exact ⟨ret_bool (by simp <;> omega), (Below.refl _ _).alloc (Nat.le_refl _) _⟩
    · have h2' : 100 < most := by omega
      clear h h2
      go_enter Tryd.func13, Tryd.ntmps13
      go_wp2_with fail
      all_goals
        go_ret
        exact ⟨rfl, (Below.refl _ _).alloc (Nat.le_refl _) _⟩
  · have h1' : most < 1 := by omega
    clear h h1
    go_enter Tryd.func13, Tryd.ntmps13
    go_wp2_with fail
    all_goals
      go_ret
      exact ⟨rfl, (Below.refl _ _).alloc (Nat.le_refl _) _⟩

theorem rvalid_yes (most : Int) (wt fb lim tmo : Nat) (h : Vld most wt lim tmo) (w : World) :
    Calls Tryd.prog 7 #[pol most wt fb lim tmo] w fun e w' => e = .returned (.bool true) ∧ Below w.heap.size w w' := by
  obtain ⟨h1, h2, h3, h4, h5⟩ := h
  have h3' : (wt : Int) ≤ 9223372036854775807 := by omega
  have h4' : (lim : Int) ≤ 9223372036854775807 := by omega
  have h5' : (tmo : Int) ≤ 9223372036854775807 := by omega
  clear h3 h4 h5
  unfold pol
  go_enter Tryd.func7, Tryd.ntmps7
  go_wp2_with fail
  go_ret
  exact ⟨rfl, (Below.refl _ _).alloc (Nat.le_refl _) _⟩

theorem rvalid_no (most : Int) (wt fb lim tmo : Nat) (h : ¬ Vld most wt lim tmo) (w : World) :
    Calls Tryd.prog 7 #[pol most wt fb lim tmo] w fun e w' => e = .returned (.bool false) ∧ Below w.heap.size w w' := by
  unfold Vld at h
  unfold pol
  have h3 : most < 1 ∨ (1 ≤ most ∧ 100 < most) ∨ (1 ≤ most ∧ most ≤ 100 ∧ 9223372036854775807 < (wt : Int)) ∨ (1 ≤ most ∧ most ≤ 100 ∧ (wt : Int) ≤ 9223372036854775807 ∧ 9223372036854775807 < (lim : Int)) ∨ (1 ≤ most ∧ most ≤ 100 ∧ (wt : Int) ≤ 9223372036854775807 ∧ (lim : Int) ≤ 9223372036854775807 ∧ 9223372036854775807 < (tmo : Int)) := by omega
  clear h
  rcases h3 with h | ⟨h, h'⟩ | ⟨h1, h2, h3⟩ | ⟨h1, h2, h3, h4⟩ | ⟨h1, h2, h3, h4, h5⟩
  all_goals
    go_enter Tryd.func7, Tryd.ntmps7
    go_wp2_with fail
    go_ret
    first
      | exact ⟨rfl, (Below.refl _ _).alloc (Nat.le_refl _) _⟩
      | exact ⟨ret_bool (by simp; omega), (Below.refl _ _).alloc (Nat.le_refl _) _⟩

/-! ### The iterator of delays -/
/-- The cells of a boxed policy. -/
def polCells (most : Int) (wt fb lim tmo : Nat) : Array Value := #[.int .i64 most, .int .u64 wt, .float .f64 fb, .int .u64 lim, .int .u64 tmo]

theorem delays_new (most : Int) (wt fb lim tmo : Nat) (w : World) :
    Calls Tryd.prog 33 #[pol most wt fb lim tmo] w fun e w' => e = .returned (.func (.func 52) #[] #[.pointer (some ⟨w.heap.size + 1, 0, none⟩), .pointer (some ⟨w.heap.size, 0, none⟩), .pointer (some ⟨w.heap.size + 1 + 1, 0, none⟩)]) ∧
      ((w.alloc (.cells (polCells most wt fb lim tmo) 30)).alloc (.cells #[.int .u64 wt] 22)).alloc (.cells #[.func (.func 51) #[] #[.pointer (some ⟨w.heap.size + 1, 0, none⟩), .pointer (some ⟨w.heap.size, 0, none⟩)]] 1) = w' := by
  unfold pol polCells
  go_enter Tryd.func33, Tryd.ntmps33
  go_wp2_with fail
  go_ret
  exact ⟨rfl, rfl⟩

theorem grow_any (bd bp : Nat) (v fb : Nat) (hv : v < 18446744073709551616) (w : World) (hd : w.cell? ⟨bd, 0, none⟩ = some (.int .u64 v)) (hf : w.frozen? ⟨bd, 0, none⟩ = false) (hp : w.cell? ⟨bp, 2, none⟩ = some (.float .f64 fb)) :
    Calls Tryd.prog 51 #[.pointer (some ⟨bd, 0, none⟩), .pointer (some ⟨bp, 0, none⟩)] w fun e w' => (∃ x, e = .returned x) ∧ w' = w.setCell ⟨bd, 0, none⟩ (.int .u64 (scaleW v fb)) := by
  go_enter Tryd.func51, Tryd.ntmps51
  go_wp2_with (go_at_call 44; refine (Nm.scale_any v fb hv _).mono ?_; rintro e w' ⟨rfl, rfl⟩)
  go_end0
  exact ⟨⟨_, rfl⟩, rfl⟩
end Rt
end Go.Proofs.YtdibokeinmhmbaaDoor
