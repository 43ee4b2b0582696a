/- strconv.FormatUint in base 16, strconv.Itoa. -/
import Derived.Test.YtdibokeinmhmbaaDoorFuD
namespace Go.Proofs.YtdibokeinmhmbaaDoor
open Go.RowKit Go.Shelf Go.Sort
set_option linter.unusedVariables false

def Tryd.laysIt_ren : Go.Shelf.Ren := ⟨fun | 171 => 30 | 243 => 50 | 246 => 71 | 283 => 67 | 284 => 68 | 285 => 69 | 286 => 70 | 129 => 86 | 317 => 85 | 318 => 87 | 319 => 88 | 320 => 89 | 337 => 96 | 338 => 97 | n => n, fun | 3 => 3 | 9 => 9 | 2 => 2 | 4 => 4 | 171 => 92 | 0 => 0 | 53 => 22 | 37 => 82 | 5 => 5 | 173 => 95 | 212 => 111 | 51 => 98 | 20 => 20 | 213 => 112 | 46 => 72 | 232 => 128 | 233 => 129 | n => n, fun | 17 => 1 | 18 => 5 | 19 => 6 | n => n⟩
theorem Tryd.laysIt : Go.Proofs.LaysM.n171 Tryd.prog Tryd.laysIt_ren := {
  mixed := by kernel_rfl
  f129 := Tryd.func86.trans (congrArg some (by kernel_rfl))
  f171 := Tryd.func30.trans (congrArg some (by kernel_rfl))
  f243 := Tryd.func50.trans (congrArg some (by kernel_rfl))
  f246 := Tryd.func71.trans (congrArg some (by kernel_rfl))
  f283 := Tryd.func67.trans (congrArg some (by kernel_rfl))
  f284 := Tryd.func68.trans (congrArg some (by kernel_rfl))
  f285 := Tryd.func69.trans (congrArg some (by kernel_rfl))
  f286 := Tryd.func70.trans (congrArg some (by kernel_rfl))
  f317 := Tryd.func85.trans (congrArg some (by kernel_rfl))
  f318 := Tryd.func87.trans (congrArg some (by kernel_rfl))
  f319 := Tryd.func88.trans (congrArg some (by kernel_rfl))
  f320 := Tryd.func89.trans (congrArg some (by kernel_rfl))
  f337 := Tryd.func96.trans (congrArg some (by kernel_rfl))
  f338 := Tryd.func97.trans (congrArg some (by kernel_rfl))
  t0 := Tryd.underlying0
  a0 := Tryd.isAgg0
  z0 := Tryd.sizeOf0
  v0 := Tryd.zeroValue0
  t2 := Tryd.underlying2
  a2 := Tryd.isAgg2
  z2 := Tryd.sizeOf2
  v2 := Tryd.zeroValue2
  t3 := Tryd.underlying3
  a3 := Tryd.isAgg3
  z3 := Tryd.sizeOf3
  v3 := Tryd.zeroValue3
  t4 := Tryd.underlying4
  a4 := Tryd.isAgg4
  z4 := Tryd.sizeOf4
  v4 := Tryd.zeroValue4
  t5 := Tryd.underlying5
  a5 := Tryd.isAgg5
  z5 := Tryd.sizeOf5
  v5 := Tryd.zeroValue5
  t9 := Tryd.underlying9
  a9 := Tryd.isAgg9
  z9 := Tryd.sizeOf9
  v9 := Tryd.zeroValue9
  t20 := Tryd.underlying20
  a20 := Tryd.isAgg20
  z20 := Tryd.sizeOf20
  v20 := Tryd.zeroValue20
  t37 := Tryd.underlying82
  a37 := Tryd.isAgg82
  z37 := Tryd.sizeOf82
  v37 := Tryd.zeroValue82
  t46 := Tryd.underlying72
  a46 := Tryd.isAgg72
  z46 := Tryd.sizeOf72
  v46 := Tryd.zeroValue72
  t51 := Tryd.underlying98
  a51 := Tryd.isAgg98
  z51 := Tryd.sizeOf98
  v51 := Tryd.zeroValue98
  t53 := Tryd.underlying22
  a53 := Tryd.isAgg22
  z53 := Tryd.sizeOf22
  v53 := Tryd.zeroValue22
  t171 := Tryd.underlying92
  a171 := Tryd.isAgg92
  z171 := Tryd.sizeOf92
  v171 := Tryd.zeroValue92
  t173 := Tryd.underlying95
  a173 := Tryd.isAgg95
  z173 := Tryd.sizeOf95
  v173 := Tryd.zeroValue95
  t212 := Tryd.underlying111
  a212 := Tryd.isAgg111
  z212 := Tryd.sizeOf111
  v212 := Tryd.zeroValue111
  t213 := Tryd.underlying112
  a213 := Tryd.isAgg112
  z213 := Tryd.sizeOf112
  t232 := Tryd.underlying128
  a232 := Tryd.isAgg128
  z232 := Tryd.sizeOf128
  v232 := Tryd.zeroValue128
  t233 := Tryd.underlying129
  a233 := Tryd.isAgg129
  z233 := Tryd.sizeOf129
  v233 := Tryd.zeroValue129
  g17 := by kernel_rfl
  g18 := by kernel_rfl
  g19 := by kernel_rfl
  i0 := by kernel_rfl
  i2 := by kernel_rfl
  i3 := by kernel_rfl
  i4 := by kernel_rfl
  i5 := by kernel_rfl
  i9 := by kernel_rfl
  i20 := by kernel_rfl
  i37 := by kernel_rfl
  i46 := by kernel_rfl
  i51 := by kernel_rfl
  i53 := by kernel_rfl
  i171 := by kernel_rfl
  i173 := by kernel_rfl
  i212 := by kernel_rfl
  i232 := by kernel_rfl
  i233 := by kernel_rfl
  m17 := by kernel_rfl
  m18 := by kernel_rfl
  m19 := by kernel_rfl }

namespace Fu
/-- strconv.FormatUint at base 16. -/
theorem fmt16_any (u : Nat) (hu : u < 18446744073709551616) (w : World) (hc : w.cell? ⟨6, 15, none⟩ = some (.int .u8 4)) (hg : 6 < w.heap.size) :
    Calls Tryd.prog 28 #[.int .u64 u, .int .i64 16] w fun e w' => ∃ n, 1 ≤ n ∧ n ≤ 16 ∧ u < 16 ^ n ∧ (1 < n → 16 ^ (n - 1) ≤ u) ∧ e = .returned (.string ⟨(hexN n u).toArray⟩) ∧ Below w.heap.size w w' := by
  have HB := Lib.hid (fbits16 u hu w hc hg)
  have HI : Hid (Calls Tryd.prog 48 #[.int .u64 u, .int .i64 16] w fun e w' => ∃ n, 1 ≤ n ∧ n ≤ 16 ∧ u < 16 ^ n ∧ (1 < n → 16 ^ (n - 1) ≤ u) ∧ e = .returned (.string ⟨(hexN n u).toArray⟩) ∧ Below w.heap.size w w') := Lib.hid (by
    go_enter Tryd.func48, Tryd.ntmps48
    go_wp2_with fail
    refine HB.out.mono ?_
    rintro e w1 ⟨n, h1, h2, h3, h4, rfl, hb⟩
    have H4 := Lib.hid h4
    have H3 := Lib.hid h3
    clear h3 h4
    go_wp2_with fail
    go_ret
    exact ⟨n, h1, h2, H3.out, H4.out, rfl, hb⟩)
  clear HB
  go_enter Tryd.func28, Tryd.ntmps28
  go_wp2_with fail
  refine HI.out.mono ?_
  rintro e w1 ⟨n, h1, h2, h3, h4, rfl, hb⟩
  have H4 := Lib.hid h4
  have H3 := Lib.hid h3
  clear h3 h4
  go_wp2_with fail
  go_ret
  exact ⟨n, h1, h2, H3.out, H4.out, rfl, hb⟩
/-- strconv.Itoa. -/
theorem itoa_any (n : Int) (h0 : -9223372036854775808 ≤ n) (h1 : n ≤ 9223372036854775807) (w : World) (htab : Lib.TabIs Tryd.prog w "internal/strconv.uint64pow10" .u64 Lib.pow10Tab) :
    Calls Tryd.prog 30 #[.int .i64 n] w fun e w' => e = .returned (.string ⟨(Lib.itoa n).toArray⟩) ∧ Below w.heap.size w w' :=
  (Any.strconv_Itoa Tryd.laysIt n h0 h1 w htab).mono fun e w' h => ⟨h.1, by obtain ⟨k, os, rfl⟩ := h.2; exact grow_below _ _ _⟩
end Fu
end Go.Proofs.YtdibokeinmhmbaaDoor
