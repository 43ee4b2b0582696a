/- Taking a slot with one item, or none; sorting at most one item. -/
import Derived.Test.YtkjlfoihojfnbaaDoorLnB
namespace Go.Proofs.YtkjlfoihojfnbaaDoor
open Go.RowKit
set_option linter.unusedVariables false
namespace Ln
open Lv (W64 slotOf slotOf_lt fresh ret_int slot_any)
variable {w : World} {b k : Nat} {full : Int} {f : Nat → Value}

set_option maxRecDepth 100000 in
set_option maxHeartbeats 1000000 in
theorem len_small (n : Nat) (h : n ≤ 1) (w : World) : Calls Tryd.prog 60 #[.int .u64 n] w fun e w' => (∃ v, e = .returned (.int .i64 v)) ∧ w' = w := by
  have H64 : Hid (∀ w, Calls Tryd.prog 74 #[.int .u64 n] w fun e w' => (∃ v, e = .returned (.int .i64 v)) ∧ w' = w) := Lib.hid fun w => by
    rcases (by omega : n = 0 ∨ n = 1) with rfl | rfl
    all_goals
      go_enter Tryd.func74, Tryd.ntmps74
      go_wp2_with fail
      go_ret
      exact ⟨⟨_, rfl⟩, rfl⟩
  go_enter Tryd.func60, Tryd.ntmps60
  go_wp2_with fail
  refine (H64.out _).mono ?_
  rintro e w1 ⟨⟨v, rfl⟩, rfl⟩
  go_wp2_with fail
  go_ret
  exact ⟨⟨_, rfl⟩, rfl⟩
theorem ins_small (A : Option Addr) (n cap : Nat) (h : n ≤ 1) (w : World) : Calls Tryd.prog 65 #[.slice A n cap, .int .i64 0, .int .i64 n, (.func (.func 45) #[] #[])] w fun e w' => (∃ v, e = .returned v) ∧ w' = w := by
  have h0 : (n : Int) ≤ 1 := by omega
  go_enter Tryd.func65, Tryd.ntmps65
  go_wp2_with fail
  go_loop [8] (fun i => i = .int .i64 1) (fun _ => 0)
  case atStart => rfl
  case round =>
    obtain rfl := hrel
    go_wp2_with fail
    refine bodyPost_end (results_none rfl _ _ _) rfl ?_
    exact ⟨⟨_, rfl⟩, rfl⟩
theorem pdq_small (A : Option Addr) (n cap : Nat) (l : Int) (h : n ≤ 1) (w : World) : Calls Tryd.prog 59 #[.slice A n cap, .int .i64 0, .int .i64 n, .int .i64 l, (.func (.func 45) #[] #[])] w fun e w' => (∃ v, e = .returned v) ∧ w' = w := by
  have HI := Lib.hid fun w => ins_small A n cap h w
  have h0 : (n : Int) ≤ 12 := by omega
  have h1 : (0 : Int) ≤ n := by omega
  go_enter Tryd.func59, Tryd.ntmps59
  go_wp2_with fail
  go_loop [1, 2] (fun x y => x = .int .i64 0 ∧ y = .int .i64 n) (fun _ _ => 0)
  case atStart => exact ⟨rfl, rfl⟩
  case round =>
    obtain ⟨rfl, rfl⟩ := hrel
    go_wp2_with fail
    refine (HI.out _).mono ?_
    rintro e w1 ⟨⟨v, rfl⟩, rfl⟩
    go_wp2_with fail
    refine bodyPost_ret (results_none rfl _ _ _) rfl ?_
    exact ⟨⟨_, rfl⟩, rfl⟩
theorem sort_small (A : Option Addr) (n cap : Nat) (h : n ≤ 1) (w : World) : Calls Tryd.prog 44 #[.slice A n cap, (.func (.func 45) #[] #[])] w fun e w' => (∃ v, e = .returned v) ∧ w' = w := by
  have HP := Lib.hid fun l w => pdq_small A n cap l h w
  have HL := Lib.hid fun w => len_small n h w
  have h0 : IntKind.u64.wrap (n : Int) = n := by rcases (by omega : n = 0 ∨ n = 1) with rfl | rfl <;> rfl
  go_enter Tryd.func44, Tryd.ntmps44
  go_wp2_with fail
  refine (HL.out _).mono ?_
  rintro e w1 ⟨⟨v, rfl⟩, rfl⟩
  go_wp2_with fail
  refine (HP.out _ _).mono ?_
  rintro e w1 ⟨⟨v, rfl⟩, rfl⟩
  go_wp2_with fail
  refine bodyPost_end (results_none rfl _ _ _) rfl ?_
  exact ⟨⟨_, rfl⟩, rfl⟩
end Ln
end Go.Proofs.YtkjlfoihojfnbaaDoor
