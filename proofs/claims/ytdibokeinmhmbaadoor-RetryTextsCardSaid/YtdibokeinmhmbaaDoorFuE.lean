/- strconv.FormatUint in base 16, strconv.Itoa. -/
import Derived.Test.YtdibokeinmhmbaaDoorFuD
namespace Go.Proofs.YtdibokeinmhmbaaDoor
open Go.RowKit Go.Shelf Go.Sort
set_option linter.unusedVariables false

shelf_lay LaysM.n171 Nm 171 at Tryd as Tryd.laysIt

namespace Fu
/-- strconv.FormatUint at base 16. -/
theorem fmt16_any (u : Nat) (hu : u < 18446744073709551616) (w : World) (hc : w.cell? ⟨6, 15, none⟩ = some (.int .u8 4)) (hg : 6 < w.heap.size) :
    Calls Tryd.prog 28 #[.int .u64 u, .int .i64 16] w fun e w' => ∃ n, 1 ≤ n ∧ n ≤ 16 ∧ u < 16 ^ n ∧ (1 < n → 16 ^ (n - 1) ≤ u) ∧ e = .returned (.string ⟨(hexN n u).toArray⟩) ∧ Below w.heap.size w w' := by
  have HB := Lib.hid (fbits16 u hu w hc hg)
  have HI : Hid (Calls Tryd.prog 48 #[.int .u64 u, .int .i64 16] w fun e w' => ∃ n, 1 ≤ n ∧ n ≤ 16 ∧ u < 16 ^ n ∧ (1 < n → 16 ^ (n - 1) ≤ u) ∧ e = .returned (.string ⟨(hexN n u).toArray⟩) ∧ Below w.heap.size w w') := Lib.hid (by
    go_enter Tryd.func48, Tryd.ntmps48
    go_wp2_with fail
    refine HB.out.mono ?_
    rintro e w1 ⟨n, h1, h2, h3, h4, rfl, hb⟩
    have H4 := Lib.hid h4
    have H3 := Lib.hid h3
    clear h3 h4
    go_wp2_with fail
    go_ret
    exact ⟨n, h1, h2, H3.out, H4.out, rfl, hb⟩)
  clear HB
  go_enter Tryd.func28, Tryd.ntmps28
  go_wp2_with fail
  refine HI.out.mono ?_
  rintro e w1 ⟨n, h1, h2, h3, h4, rfl, hb⟩
  have H4 := Lib.hid h4
  have H3 := Lib.hid h3
  clear h3 h4
  go_wp2_with fail
  go_ret
  exact ⟨n, h1, h2, H3.out, H4.out, rfl, hb⟩
/-- strconv.Itoa. -/
theorem itoa_any (n : Int) (h0 : -9223372036854775808 ≤ n) (h1 : n ≤ 9223372036854775807) (w : World) (htab : Lib.TabIs Tryd.prog w "internal/strconv.uint64pow10" .u64 Lib.pow10Tab) :
    Calls Tryd.prog 30 #[.int .i64 n] w fun e w' => e = .returned (.string ⟨(Lib.itoa n).toArray⟩) ∧ Below w.heap.size w w' :=
  (Any.strconv_Itoa Tryd.laysIt n h0 h1 w htab).mono fun e w' h => ⟨h.1, by obtain ⟨k, os, rfl⟩ := h.2; exact grow_below _ _ _⟩
end Fu
end Go.Proofs.YtdibokeinmhmbaaDoor
