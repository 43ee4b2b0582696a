/- The listed table of bits.TrailingZeros64. -/
import Derived.Test.YtkjlfoihojfnbaaDoorLoV
import Derived.Test.YtkjlfoihojfnbaaDoorRows
import Derived.Lib.LaidTab
import Derived.LaidSub
namespace Go.Proofs.YtkjlfoihojfnbaaDoor
open Go.RowKit
set_option linter.unusedVariables false
set_option linter.unusedSimpArgs false
namespace Wh
open Lo (Deb)
def debI : List Int := [0, 1, 56, 2, 57, 49, 28, 3, 61, 58, 42, 50, 38, 29, 17, 4, 62, 47, 59, 36, 45, 43, 51, 22, 53, 39, 33, 30, 24, 18, 12, 5, 63, 55, 48, 27, 60, 41, 37, 16, 46, 35, 44, 21, 52, 32, 23, 11, 54, 26, 40, 15, 34, 20, 31, 10, 25, 14, 19, 9, 13, 8, 7, 6]
theorem deb_of_laid {l : List (String × DataW Unit)} {W : World}
    (h2 : ((l.filter fun x => x.2.handleName?.isNone).filter fun x => x.1 == "math/bits.deBruijn64tab") = [("math/bits.deBruijn64tab", Lib.tabData .u8 debI)])
    (h : laidMetH Tryd.prog l W) : Deb W := by
  obtain ⟨hm, -⟩ := laidMetH_iff.1 h
  have k2 := hm.filter (fun x => x.1 == "math/bits.deBruijn64tab")
  rw [h2] at k2
  have t2 := Lib.tabIs_of_head (g := 0) (t := 106) (e := 5) (n := 64) (by kernel_rfl) (by kernel_rfl) Tryd.underlying106 Tryd.underlying5 (by kernel_rfl) (by kernel_rfl) k2
  have hc : ∀ j, j < 64 → W.cell? ⟨0, j, none⟩ = some (.int .u8 (debI.getD j 0)) := fun j hj => Lib.TabIs.cell t2 (g := 0) (by kernel_rfl) j hj
  have he : ∀ j, j < 64 → ((Lib.deBruijn64tab.getD j 0 : Nat) : Int) = debI.getD j 0 := by decide +kernel
  refine ⟨fun j hj => ?_, ?_⟩
  · have hj' : j < 64 := hj
    rw [hc j hj', he j hj']
  · have c2 := hc 0 (by omega)
    rcases Nat.lt_or_ge 0 W.heap.size with h' | h'
    · exact h'
    · simp [World.cell?, Array.getElem?_eq_none h'] at c2
end Wh
end Go.Proofs.YtkjlfoihojfnbaaDoor
