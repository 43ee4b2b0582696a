/- strconv.FormatUint in base 16: the number of zero bits of 16; 16 is a power of two. -/
import Derived.Test.YtdibokeinmhmbaaDoorFuA
import Derived.Laws.Bits64b
namespace Go.Proofs.YtdibokeinmhmbaaDoor
open Go.RowKit Go.Shelf Go.Sort
set_option linter.unusedVariables false
namespace Fu
theorem pow16 (w : World) : Calls Tryd.prog 88 #[.int .i64 16] w fun e w' => e = .returned (.bool true) ∧ w' = w := by
  go_enter Tryd.func88, Tryd.ntmps88
  go_wp2_with fail
  go_ret
  exact ⟨by first | rfl | (simp; decide), rfl⟩
set_option maxRecDepth 100000 in
theorem tz16 (w : World) (hc : w.cell? ⟨6, 15, none⟩ = some (.int .u8 4)) : Calls Tryd.prog 97 #[.int .u64 16] w fun e w' => e = .returned (.int .i64 4) ∧ w' = w := by
  have h1 : bits BinOp.and IntKind.u64 16 (IntKind.u64.wrap (-16)) = 16 := by first | rfl | kernel_rfl | decide
  have h2 : IntKind.u64.wrap (16 * 285870213051353865) = 4573923408821661840 := by first | rfl | kernel_rfl | decide
  go_enter Tryd.func97, Tryd.ntmps97
  go_wp2_with fail
  go_ret
  exact ⟨rfl, rfl⟩
theorem tzu16 (w : World) (hc : w.cell? ⟨6, 15, none⟩ = some (.int .u8 4)) : Calls Tryd.prog 89 #[.int .u64 16] w fun e w' => e = .returned (.int .i64 4) ∧ w' = w := by
  have H := Lib.hid (tz16 w hc)
  go_enter Tryd.func89, Tryd.ntmps89
  go_wp2_with fail
  refine H.out.mono ?_
  rintro e w1 ⟨rfl, rfl⟩
  go_wp2_with fail
  go_ret
  exact ⟨rfl, rfl⟩
end Fu
end Go.Proofs.YtdibokeinmhmbaaDoor
