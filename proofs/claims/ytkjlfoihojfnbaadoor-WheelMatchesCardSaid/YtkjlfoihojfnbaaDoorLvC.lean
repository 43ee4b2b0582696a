/- Contracts of the order of items: cmp.Compare at uint64, cmp.Or at int, level's compare and Compare, the reference's order and Compare. -/
import Derived.Test.YtkjlfoihojfnbaaDoorLvB
import Derived.Deep.RegionHeld3
import Derived.RegionTactic
namespace Go.Proofs.YtkjlfoihojfnbaaDoor
open Go.RowKit
namespace Lv

def cmp3 (a b : Nat) : Int := if a < b then -1 else if b < a then 1 else 0
/-- The order of items: by At, then by ID. -/
def ordI (i a j b : Nat) : Int := if a = b then cmp3 i j else cmp3 a b

theorem order_any (a b : Nat) (w : World) : Calls Tryd.prog 57 #[.int .u64 a, .int .u64 b] w fun e w' => e = .returned (.int .i64 (cmp3 a b)) ∧ w = w' := by
  by_cases h : (a : Int) < b
  · go_enter Tryd.func57, Tryd.ntmps57
    go_wp2_with fail
    go_ret
    exact ⟨ret_int (by unfold cmp3; rw [if_pos (by omega)]), rfl⟩
  · by_cases h2 : (b : Int) < a
    · go_enter Tryd.func57, Tryd.ntmps57
      go_wp2_with fail
      go_ret
      exact ⟨ret_int (by unfold cmp3; rw [if_neg (by omega), if_pos (by omega)]), rfl⟩
    · go_enter Tryd.func57, Tryd.ntmps57
      go_wp2_with fail
      go_ret
      exact ⟨ret_int (by unfold cmp3; rw [if_neg (by omega), if_neg (by omega)]), rfl⟩

theorem cmpu_any (a b : Nat) (w : World) : Calls Tryd.prog 62 #[.int .u64 a, .int .u64 b] w fun e w' => e = .returned (.int .i64 (cmp3 a b)) ∧ w = w' := by
  by_cases h : (a : Int) < b
  · go_enter Tryd.func62, Tryd.ntmps62
    go_wp2
    go_ret
    exact ⟨ret_int (by unfold cmp3; rw [if_pos (by omega)]), rfl⟩
  · by_cases h2 : (b : Int) < a
    · go_enter Tryd.func62, Tryd.ntmps62
      go_wp2
      go_ret
      exact ⟨ret_int (by unfold cmp3; rw [if_neg (by omega), if_pos (by omega)]), rfl⟩
    · go_enter Tryd.func62, Tryd.ntmps62
      go_wp2
      go_ret
      exact ⟨ret_int (by unfold cmp3; rw [if_neg (by omega), if_neg (by omega)]), rfl⟩

def orI (x y : Int) : Int := if x = 0 then y else x

theorem or_any (x y : Int) (g : Nat) (w : World) (h0 : w.cell? ⟨g, 0, none⟩ = some (.int .i64 x)) (h1 : w.cell? ⟨g, 1, none⟩ = some (.int .i64 y)) :
    Calls Tryd.prog 61 #[.slice (some ⟨g, 0, none⟩) 2 2] w fun e w' => e = .returned (.int .i64 (orI x y)) ∧ w = w' := by
  go_enter Tryd.func61, Tryd.ntmps61
  go_wp2
  go_loop [8] (fun i => ∃ k : Nat, k ≤ 2 ∧ i = .int .i64 k ∧ (1 ≤ k → x = 0) ∧ (2 ≤ k → y = 0)) (fun i => 2 - (intOf i).toNat)
  case atStart => exact ⟨0, by omega, rfl, by omega, by omega⟩
  case round =>
    obtain ⟨k, hk, rfl, hx, hy⟩ := hrel
    rcases (by omega : k = 0 ∨ k = 1 ∨ k = 2) with rfl | rfl | rfl
    · clear hx hy
      by_cases h : x = 0
      · subst h
        go_wp2
        go_round
        case rel => exact ⟨1, by omega, rfl, by simp, by omega⟩
        case measure => simp [intOf]
      · have hb : (x != 0) = true := by simp [h]
        go_wp2
        go_ret
        exact ⟨ret_int (by unfold orI; rw [if_neg h]), rfl⟩
    · have hx' := Lib.hid (hx (by omega)); clear hx hy
      by_cases h : y = 0
      · subst h
        go_wp2
        go_round
        case rel => exact ⟨2, by omega, rfl, fun _ => hx'.out, by simp⟩
        case measure => simp [intOf]
      · have hb : (y != 0) = true := by simp [h]
        go_wp2
        go_ret
        exact ⟨ret_int (by unfold orI; rw [if_pos hx'.out]), rfl⟩
    · have hx' := Lib.hid (hx (by omega)); have hy' := Lib.hid (hy (by omega)); clear hx hy
      go_wp2
      go_ret
      exact ⟨ret_int (by unfold orI; rw [if_pos hx'.out, hy'.out]), rfl⟩

theorem or_new (x y : Int) (n : Nat) (W : World) (hn : n = W.heap.size) :
    Calls Tryd.prog 61 #[.slice (some ⟨n, 0, none⟩) 2 2] (W.alloc (.cells #[.int .i64 x, .int .i64 y] 3)).drew fun e w' => e = .returned (.int .i64 (orI x y)) ∧ (W.alloc (.cells #[.int .i64 x, .int .i64 y] 3)).drew = w' := by
  subst hn
  exact or_any x y _ _ (by simp [go_sem]) (by simp [go_sem])

theorem icompare_any (i a j b : Nat) (w : World) : Calls Tryd.prog 45 #[.agg #[.int .u64 i, .int .u64 a], .agg #[.int .u64 j, .int .u64 b]] w fun e w' => e = .returned (.int .i64 (ordI i a j b)) ∧ Below w.heap.size w w' := by
  go_enter Tryd.func45, Tryd.ntmps45
  go_wp2
  go_region_held3 (fun w' => w'.cell? ⟨w.heap.size, 0, none⟩ = some (.int .u64 i) ∧ w'.cell? ⟨w.heap.size, 1, none⟩ = some (.int .u64 a) ∧ w'.cell? ⟨w.heap.size + 1, 0, none⟩ = some (.int .u64 j) ∧ w'.cell? ⟨w.heap.size + 1, 1, none⟩ = some (.int .u64 b)) (simp [go_sem, World.cell?_alloc_past])
    (first
      | (go_at_call 62; refine (cmpu_any _ _ _).mono ?_; rintro e w' ⟨rfl, rfl⟩)
      | (go_at_call 61; refine (or_new (cmp3 a b) (cmp3 i j) _ _ (by simp)).mono ?_; rintro e w' ⟨rfl, rfl⟩))
  go_wp2
  go_ret
  refine ⟨ret_int ?_, ?_⟩
  · unfold orI ordI cmp3
    by_cases h : a = b
    · subst h; simp
    · rw [if_neg h, if_neg]; split <;> (try split) <;> omega
  · exact ((((Below.refl _ _).alloc (Nat.le_refl _) _).alloc (by simp) _).alloc (by simp; omega) _).drew

theorem compare_any (i a j b : Nat) (w : World) : Calls Tryd.prog 51 #[.agg #[.int .u64 i, .int .u64 a], .agg #[.int .u64 j, .int .u64 b]] w fun e w' => e = .returned (.int .i64 (ordI i a j b)) ∧ Below w.heap.size w w' := by
  go_enter Tryd.func51, Tryd.ntmps51
  go_wp2_with fail
  refine (icompare_any i a j b _).mono ?_
  rintro e w1 ⟨rfl, hb⟩
  go_wp2_with fail
  go_ret
  exact ⟨rfl, (((Below.refl _ _).alloc (Nat.le_refl _) _).alloc (by simp) _).trans (hb.mono (by simp; omega))⟩

theorem rcompare_any (i a j b : Nat) (w : World) : Calls Tryd.prog 40 #[.agg #[.int .u64 i, .int .u64 a], .agg #[.int .u64 j, .int .u64 b]] w fun e w' => e = .returned (.int .i64 (ordI i a j b)) ∧ Below w.heap.size w w' := by
  by_cases h : a = b
  · subst h
    go_enter Tryd.func40, Tryd.ntmps40
    go_wp2_with (go_at_call 57; refine (order_any _ _ _).mono ?_; rintro e w' ⟨rfl, rfl⟩)
    go_ret
    exact ⟨ret_int (by unfold ordI; simp), ((Below.refl _ _).alloc (Nat.le_refl _) _).alloc (by simp) _⟩
  · have hn : ((a : Int) != b) = true := by simp; omega
    go_enter Tryd.func40, Tryd.ntmps40
    go_wp2_with (go_at_call 57; refine (order_any _ _ _).mono ?_; rintro e w' ⟨rfl, rfl⟩)
    go_ret
    exact ⟨ret_int (by unfold ordI; rw [if_neg h]), ((Below.refl _ _).alloc (Nat.le_refl _) _).alloc (by simp) _⟩
end Lv
end Go.Proofs.YtkjlfoihojfnbaaDoor
