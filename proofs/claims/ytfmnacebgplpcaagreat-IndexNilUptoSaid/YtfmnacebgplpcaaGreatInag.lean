/- Contracts of the order of items: cmp.Compare at uint64, cmp.Or at int, level's compare and Compare, the reference's order and Compare. -/
import Derived.Test.YtfmnacebgplpcaaGreatInab
import Derived.Deep.RegionHeld3
import Derived.RegionTactic
open Go.RowKit
namespace Go.Proofs.YtfmnacebgplpcaaGreat
namespace Lv
def Po (a b : Nat) : Int := if a < b then -1 else if b < a then 1 else 0
theorem Ye (a b : Nat) (w : World) : Calls Tryz.prog 78 #[.int .u64 a, .int .u64 b] w fun e w' => e = .returned (.int .i64 (Po a b)) ∧ w = w' := by
 by_cases h : (a : Int) < b
 ·go_enter Tryz.func78, Tryz.ntmps78
  go_wp2
  go_ret
  exact ⟨Ds (by unfold Po; rw [if_pos (by omega)]), rfl⟩
 ·by_cases h2 : (b : Int) < a
  ·go_enter Tryz.func78, Tryz.ntmps78
   go_wp2
   go_ret
   exact ⟨Ds (by unfold Po; rw [if_neg (by omega), if_pos (by omega)]), rfl⟩
  ·go_enter Tryz.func78, Tryz.ntmps78
   go_wp2
   go_ret
   exact ⟨Ds (by unfold Po; rw [if_neg (by omega), if_neg (by omega)]), rfl⟩
end Lv
end Go.Proofs.YtfmnacebgplpcaaGreat
