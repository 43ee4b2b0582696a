/- The reference's text of a number. -/
import Derived.Test.YtdibokeinmhmbaaDoorFuF
import Derived.Test.YtdibokeinmhmbaaDoorNmC
namespace Go.Proofs.YtdibokeinmhmbaaDoor
open Go.RowKit
set_option linter.unusedVariables false
namespace Fu
/-- One hexadecimal digit cut out of the sixteen. -/
theorem cut16 (y : Nat) (h : y < 16) (W : World) : (Instr.slice 9 (.string ⟨#[48, 49, 50, 51, 52, 53, 54, 55, 56, 57, 97, 98, 99, 100, 101, 102]⟩) (some (.int .u64 (y : Int))) (some (.int .u64 ((y : Int) + 1))) none).run Tryd.prog W = .ok (.string ⟨#[UInt8.ofNat (hd y)]⟩) W := by
  rcases (by omega : y = 0 ∨ y = 1 ∨ y = 2 ∨ y = 3 ∨ y = 4 ∨ y = 5 ∨ y = 6 ∨ y = 7 ∨ y = 8 ∨ y = 9 ∨ y = 10 ∨ y = 11 ∨ y = 12 ∨ y = 13 ∨ y = 14 ∨ y = 15) with rfl | rfl | rfl | rfl | rfl | rfl | rfl | rfl | rfl | rfl | rfl | rfl | rfl | rfl | rfl | rfl
  all_goals kernel_rfl
def hdb (x : Nat) : UInt8 := UInt8.ofNat (hd x)
/-- "x" and the first j of the sixteen digits. -/
def top (v j : Nat) : ByteArray := ⟨(120 :: (hexN 16 v).take j).toArray⟩
theorem top_step (v j : Nat) (h : j < 16) : top v j ++ ⟨#[hdb (v / 16 ^ (15 - j) % 16)]⟩ = top v (j + 1) := by
  unfold top
  rw [List.take_succ_eq_append_getElem (by rw [hexN_len]; exact h)]
  have e : (hexN 16 v)[j]'(by rw [hexN_len]; exact h) = hdb (v / 16 ^ (15 - j) % 16) := by simp [hexN, hdb]
  rw [e]
  apply ByteArray.ext
  simp
end Fu
end Go.Proofs.YtdibokeinmhmbaaDoor
