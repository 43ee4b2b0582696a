/- LevelOrders: for all items the law returns true. No condition. -/
import Derived.Test.YtfifgbmhmghlnaaLvC
import Derived.ChangeAlike
import Derived.ProofKit
import Derived.OpenShut
import Derived.Lib.SmallJoins
import Derived.Deep.DeepCutAuto
namespace Go.Proofs.Ytfifgbmhmghlnaa
open Go.RowKit
namespace Lv

/-- Block g holds an item. -/
def Its (W : World) (g i a : Nat) : Prop := g < W.heap.size ∧ W.cell? ⟨g, 0, none⟩ = some (.int .u64 i) ∧ W.cell? ⟨g, 1, none⟩ = some (.int .u64 a)
theorem Its.later {W W' : World} {g i a : Nat} (h : Its W g i a) (hb : Below W.heap.size W W') : Its W' g i a :=
  ⟨Nat.lt_of_lt_of_le h.1 hb.size, (hb.cell (p := ⟨g, 0, none⟩) h.1).trans h.2.1, (hb.cell (p := ⟨g, 1, none⟩) h.1).trans h.2.2⟩

/-- What stands behind the conversions. -/
def Laid (w W : World) (i1 a1 i2 a2 i3 a3 gx gy gz : Nat) : Prop :=
  Below w.heap.size w W ∧ Its W w.heap.size i1 a1 ∧ Its W (w.heap.size + 1) i2 a2 ∧ Its W gx i1 a1 ∧ Its W gy i2 a2 ∧ Its W gz i3 a3

theorem cmp3_cases (a b : Nat) : cmp3 a b = -1 ∧ a < b ∨ cmp3 a b = 0 ∧ a = b ∨ cmp3 a b = 1 ∧ b < a := by
  unfold cmp3
  by_cases h : a < b
  · rw [if_pos h]; omega
  · rw [if_neg h]
    by_cases h2 : b < a
    · rw [if_pos h2]; omega
    · rw [if_neg h2]; omega

/-- x before y. -/
def Lt (i a j b : Nat) : Prop := a < b ∨ a = b ∧ i < j
theorem ordI_cases (i a j b : Nat) : ordI i a j b = -1 ∧ Lt i a j b ∨ ordI i a j b = 0 ∧ i = j ∧ a = b ∨ ordI i a j b = 1 ∧ Lt j b i a := by
  unfold ordI Lt
  by_cases h : a = b
  · rw [if_pos h]; have := cmp3_cases i j; omega
  · rw [if_neg h]; have := cmp3_cases a b; omega
theorem ordI_lt {i a j b : Nat} (h : Lt i a j b) : ordI i a j b = -1 := by
  have := ordI_cases i a j b; unfold Lt at *; omega
theorem ordI_gt {i a j b : Nat} (h : Lt j b i a) : ordI i a j b = 1 := by
  have := ordI_cases i a j b; unfold Lt at *; omega
theorem ordI_eq (i a : Nat) : ordI i a i a = 0 := by
  have := ordI_cases i a i a; unfold Lt at *; omega

theorem ordI_trans {i1 a1 i2 a2 i3 a3 : Nat} (h : ordI i1 a1 i2 a2 ≤ 0) (h' : ordI i2 a2 i3 a3 ≤ 0) : ordI i1 a1 i3 a3 ≤ 0 := by
  have := ordI_cases i1 a1 i2 a2; have := ordI_cases i2 a2 i3 a3; have := ordI_cases i1 a1 i3 a3; unfold Lt at *; omega

set_option maxHeartbeats 8000000 in
theorem orders_walk (i1 a1 i2 a2 i3 a3 : Nat) (w : World) :
    Calls Try.prog 4 #[.agg #[.int .u64 i1, .int .u64 a1], .agg #[.int .u64 i2, .int .u64 a2], .agg #[.int .u64 i3, .int .u64 a3]] w fun e w' => e = .returned (.bool true) ∧ Below w.heap.size w w' := by
  go_enter Try.func4, Try.ntmps4
  go_upto_region 1 with fail
  go_cut [7, 8, 9] (fun s7 s8 s9 wx => ∃ gx gy gz : Nat, s7 = .pointer (some ⟨gx, 0, none⟩) ∧ s8 = .pointer (some ⟨gy, 0, none⟩) ∧ s9 = .pointer (some ⟨gz, 0, none⟩) ∧ Laid w wx i1 a1 i2 a2 i3 a3 gx gy gz)
  case first =>
    go_region
    all_goals
      go_wp2_with fail
      go_meet
      refine ⟨_, _, _, rfl, rfl, rfl, ?_⟩
      refine ⟨?_, ⟨?_, ?_, ?_⟩, ⟨?_, ?_, ?_⟩, ⟨?_, ?_, ?_⟩, ⟨?_, ?_, ?_⟩, ⟨?_, ?_, ?_⟩⟩
      case' refine_1 => repeat (first | exact Below.refl _ _ | refine Below.drew ?_ | refine Below.alloc ?_ (by simp; try omega) _ | refine Below.setCell ?_ (by simp; try omega) _)
      all_goals first | (simp [go_sem]; done) | (simp [go_sem]; omega) | skip
  case rest =>
    obtain ⟨gx, gy, gz, rfl, rfl, rfl, hl⟩ := hcut
    obtain ⟨hb, ha, hb', hx, hy, hz⟩ := hl
    have HB := Lib.hid hb; have HA := Lib.hid ha; have HB' := Lib.hid hb'; have HX := Lib.hid hx; have HY := Lib.hid hy; have HZ := Lib.hid hz
    clear hb ha hb' hx hy hz
    rcases ordI_cases i1 a1 i2 a2 with ⟨e, hlt⟩ | ⟨e, hi, he⟩ | ⟨e, hlt⟩
    rcases id hlt with h | ⟨h, h2⟩
    · have E := Lib.hid e; have E2 := Lib.hid (ordI_gt hlt); have l1 : (a1 : Int) < a2 := by omega
      clear e hlt h
      obtain ⟨zx, x0, x1⟩ := HX.out
      obtain ⟨zy, y0, y1⟩ := HY.out
      go_wp2_with fail
      refine (compare_any i1 a1 i2 a2 _).mono ?_
      rintro e W1 ⟨rfl, hb1⟩
      rw [E.out]
      go_wp2_with fail
      refine (alive_any _).mono ?_
      rintro e W2 ⟨rfl, hb2⟩
      clear zx x0 x1 zy y0 y1
      have hb3 := hb1.trans (hb2.mono hb1.size)
      obtain ⟨_, c0, c1⟩ := HA.out.later hb3
      obtain ⟨_, d0, d1⟩ := HB'.out.later hb3
      go_wp2_with fail
      refine (rcompare_any i1 a1 i2 a2 _).mono ?_
      rintro e W3 ⟨rfl, hb4⟩
      rw [E.out]
      clear c0 c1 d0 d1
      have hb5 := hb3.trans (hb4.mono hb3.size)
      obtain ⟨_, x0, x1⟩ := HX.out.later hb5
      obtain ⟨_, y0, y1⟩ := HY.out.later hb5
      go_wp2_with fail
      refine (compare_any i2 a2 i1 a1 _).mono ?_
      rintro e W4 ⟨rfl, hb6⟩
      rw [E2.out]
      clear x0 x1 y0 y1
      have hb7 := hb5.trans (hb6.mono hb5.size)
      obtain ⟨_, c0, c1⟩ := HA.out.later hb7
      obtain ⟨_, d0, d1⟩ := HB'.out.later hb7
      obtain ⟨_, x0, x1⟩ := HX.out.later hb7
      obtain ⟨_, y0, y1⟩ := HY.out.later hb7
      obtain ⟨_, z0, z1⟩ := HZ.out.later hb7
      go_wp2_with fail
      all_goals
        refine (compare_any i2 a2 i3 a3 _).mono ?_
        rintro e W5 ⟨rfl, hb8⟩
        clear c0 c1 d0 d1 x0 x1 y0 y1 z0 z1
        have hb9 := hb7.trans (hb8.mono hb7.size)
        obtain ⟨_, x0, x1⟩ := HX.out.later hb9
        obtain ⟨_, z0, z1⟩ := HZ.out.later hb9
        by_cases hm : ordI i2 a2 i3 a3 ≤ 0
        · have T := ordI_trans (show ordI i1 a1 i2 a2 ≤ 0 by rw [E.out]; omega) hm
          go_wp2_with fail
          refine (compare_any i1 a1 i3 a3 _).mono ?_
          rintro e W6 ⟨rfl, hb10⟩
          go_wp2_with fail
          go_ret
          exact ⟨rfl, HB.out.trans ((hb9.trans (hb10.mono hb9.size)).mono HB.out.size)⟩
        · have hm' : 0 < ordI i2 a2 i3 a3 := by omega
          go_wp2_with fail
          go_ret
          exact ⟨rfl, HB.out.trans (hb9.mono HB.out.size)⟩
    · subst h
      have E := Lib.hid e; have E2 := Lib.hid (ordI_gt hlt); have l1 : (i1 : Int) < i2 := by omega
      clear e hlt h2
      obtain ⟨zx, x0, x1⟩ := HX.out
      obtain ⟨zy, y0, y1⟩ := HY.out
      go_wp2_with fail
      refine (compare_any i1 a1 i2 a1 _).mono ?_
      rintro e W1 ⟨rfl, hb1⟩
      rw [E.out]
      go_wp2_with fail
      refine (alive_any _).mono ?_
      rintro e W2 ⟨rfl, hb2⟩
      clear zx x0 x1 zy y0 y1
      have hb3 := hb1.trans (hb2.mono hb1.size)
      obtain ⟨_, c0, c1⟩ := HA.out.later hb3
      obtain ⟨_, d0, d1⟩ := HB'.out.later hb3
      go_wp2_with fail
      refine (rcompare_any i1 a1 i2 a1 _).mono ?_
      rintro e W3 ⟨rfl, hb4⟩
      rw [E.out]
      clear c0 c1 d0 d1
      have hb5 := hb3.trans (hb4.mono hb3.size)
      obtain ⟨_, x0, x1⟩ := HX.out.later hb5
      obtain ⟨_, y0, y1⟩ := HY.out.later hb5
      go_wp2_with fail
      refine (compare_any i2 a1 i1 a1 _).mono ?_
      rintro e W4 ⟨rfl, hb6⟩
      rw [E2.out]
      clear x0 x1 y0 y1
      have hb7 := hb5.trans (hb6.mono hb5.size)
      obtain ⟨_, c0, c1⟩ := HA.out.later hb7
      obtain ⟨_, d0, d1⟩ := HB'.out.later hb7
      obtain ⟨_, x0, x1⟩ := HX.out.later hb7
      obtain ⟨_, y0, y1⟩ := HY.out.later hb7
      obtain ⟨_, z0, z1⟩ := HZ.out.later hb7
      go_wp2_with fail
      all_goals
        refine (compare_any i2 a1 i3 a3 _).mono ?_
        rintro e W5 ⟨rfl, hb8⟩
        clear c0 c1 d0 d1 x0 x1 y0 y1 z0 z1
        have hb9 := hb7.trans (hb8.mono hb7.size)
        obtain ⟨_, x0, x1⟩ := HX.out.later hb9
        obtain ⟨_, z0, z1⟩ := HZ.out.later hb9
        by_cases hm : ordI i2 a1 i3 a3 ≤ 0
        · have T := ordI_trans (show ordI i1 a1 i2 a1 ≤ 0 by rw [E.out]; omega) hm
          go_wp2_with fail
          refine (compare_any i1 a1 i3 a3 _).mono ?_
          rintro e W6 ⟨rfl, hb10⟩
          go_wp2_with fail
          go_ret
          exact ⟨rfl, HB.out.trans ((hb9.trans (hb10.mono hb9.size)).mono HB.out.size)⟩
        · have hm' : 0 < ordI i2 a1 i3 a3 := by omega
          go_wp2_with fail
          go_ret
          exact ⟨rfl, HB.out.trans (hb9.mono HB.out.size)⟩
    · subst hi; subst he
      have E := Lib.hid e; have E2 := Lib.hid (ordI_eq i1 a1)
      clear e
      obtain ⟨zx, x0, x1⟩ := HX.out
      obtain ⟨zy, y0, y1⟩ := HY.out
      go_wp2_with fail
      refine (compare_any i1 a1 i1 a1 _).mono ?_
      rintro e W1 ⟨rfl, hb1⟩
      rw [E.out]
      go_wp2_with fail
      refine (alive_any _).mono ?_
      rintro e W2 ⟨rfl, hb2⟩
      clear zx x0 x1 zy y0 y1
      have hb3 := hb1.trans (hb2.mono hb1.size)
      obtain ⟨_, c0, c1⟩ := HA.out.later hb3
      obtain ⟨_, d0, d1⟩ := HB'.out.later hb3
      go_wp2_with fail
      refine (rcompare_any i1 a1 i1 a1 _).mono ?_
      rintro e W3 ⟨rfl, hb4⟩
      rw [E.out]
      clear c0 c1 d0 d1
      have hb5 := hb3.trans (hb4.mono hb3.size)
      obtain ⟨_, x0, x1⟩ := HX.out.later hb5
      obtain ⟨_, y0, y1⟩ := HY.out.later hb5
      go_wp2_with fail
      refine (compare_any i1 a1 i1 a1 _).mono ?_
      rintro e W4 ⟨rfl, hb6⟩
      rw [E2.out]
      clear x0 x1 y0 y1
      have hb7 := hb5.trans (hb6.mono hb5.size)
      obtain ⟨_, c0, c1⟩ := HA.out.later hb7
      obtain ⟨_, d0, d1⟩ := HB'.out.later hb7
      obtain ⟨_, x0, x1⟩ := HX.out.later hb7
      obtain ⟨_, y0, y1⟩ := HY.out.later hb7
      obtain ⟨_, z0, z1⟩ := HZ.out.later hb7
      go_wp2_with fail
      all_goals
        refine (compare_any i1 a1 i3 a3 _).mono ?_
        rintro e W5 ⟨rfl, hb8⟩
        clear c0 c1 d0 d1 x0 x1 y0 y1 z0 z1
        have hb9 := hb7.trans (hb8.mono hb7.size)
        obtain ⟨_, x0, x1⟩ := HX.out.later hb9
        obtain ⟨_, z0, z1⟩ := HZ.out.later hb9
        by_cases hm : ordI i1 a1 i3 a3 ≤ 0
        · have T := ordI_trans (show ordI i1 a1 i1 a1 ≤ 0 by rw [E.out]; omega) hm
          go_wp2_with fail
          refine (compare_any i1 a1 i3 a3 _).mono ?_
          rintro e W6 ⟨rfl, hb10⟩
          go_wp2_with fail
          go_ret
          exact ⟨rfl, HB.out.trans ((hb9.trans (hb10.mono hb9.size)).mono HB.out.size)⟩
        · have hm' : 0 < ordI i1 a1 i3 a3 := by omega
          go_wp2_with fail
          go_ret
          exact ⟨rfl, HB.out.trans (hb9.mono HB.out.size)⟩
    rcases id hlt with h | ⟨h, h2⟩
    · have E := Lib.hid e; have E2 := Lib.hid (ordI_lt hlt); have l1 : (a2 : Int) < a1 := by omega
      clear e hlt h
      obtain ⟨zx, x0, x1⟩ := HX.out
      obtain ⟨zy, y0, y1⟩ := HY.out
      go_wp2_with fail
      refine (compare_any i1 a1 i2 a2 _).mono ?_
      rintro e W1 ⟨rfl, hb1⟩
      rw [E.out]
      go_wp2_with fail
      refine (alive_any _).mono ?_
      rintro e W2 ⟨rfl, hb2⟩
      clear zx x0 x1 zy y0 y1
      have hb3 := hb1.trans (hb2.mono hb1.size)
      obtain ⟨_, c0, c1⟩ := HA.out.later hb3
      obtain ⟨_, d0, d1⟩ := HB'.out.later hb3
      go_wp2_with fail
      refine (rcompare_any i1 a1 i2 a2 _).mono ?_
      rintro e W3 ⟨rfl, hb4⟩
      rw [E.out]
      clear c0 c1 d0 d1
      have hb5 := hb3.trans (hb4.mono hb3.size)
      obtain ⟨_, x0, x1⟩ := HX.out.later hb5
      obtain ⟨_, y0, y1⟩ := HY.out.later hb5
      go_wp2_with fail
      refine (compare_any i2 a2 i1 a1 _).mono ?_
      rintro e W4 ⟨rfl, hb6⟩
      rw [E2.out]
      clear x0 x1 y0 y1
      have hb7 := hb5.trans (hb6.mono hb5.size)
      obtain ⟨_, c0, c1⟩ := HA.out.later hb7
      obtain ⟨_, d0, d1⟩ := HB'.out.later hb7
      obtain ⟨_, x0, x1⟩ := HX.out.later hb7
      obtain ⟨_, y0, y1⟩ := HY.out.later hb7
      obtain ⟨_, z0, z1⟩ := HZ.out.later hb7
      go_wp2_with fail
      all_goals
        go_ret
        exact ⟨rfl, HB.out.trans (hb7.mono HB.out.size)⟩
    · subst h
      have E := Lib.hid e; have E2 := Lib.hid (ordI_lt hlt); have l1 : (i2 : Int) < i1 := by omega
      clear e hlt h2
      obtain ⟨zx, x0, x1⟩ := HX.out
      obtain ⟨zy, y0, y1⟩ := HY.out
      go_wp2_with fail
      refine (compare_any i1 a2 i2 a2 _).mono ?_
      rintro e W1 ⟨rfl, hb1⟩
      rw [E.out]
      go_wp2_with fail
      refine (alive_any _).mono ?_
      rintro e W2 ⟨rfl, hb2⟩
      clear zx x0 x1 zy y0 y1
      have hb3 := hb1.trans (hb2.mono hb1.size)
      obtain ⟨_, c0, c1⟩ := HA.out.later hb3
      obtain ⟨_, d0, d1⟩ := HB'.out.later hb3
      go_wp2_with fail
      refine (rcompare_any i1 a2 i2 a2 _).mono ?_
      rintro e W3 ⟨rfl, hb4⟩
      rw [E.out]
      clear c0 c1 d0 d1
      have hb5 := hb3.trans (hb4.mono hb3.size)
      obtain ⟨_, x0, x1⟩ := HX.out.later hb5
      obtain ⟨_, y0, y1⟩ := HY.out.later hb5
      go_wp2_with fail
      refine (compare_any i2 a2 i1 a2 _).mono ?_
      rintro e W4 ⟨rfl, hb6⟩
      rw [E2.out]
      clear x0 x1 y0 y1
      have hb7 := hb5.trans (hb6.mono hb5.size)
      obtain ⟨_, c0, c1⟩ := HA.out.later hb7
      obtain ⟨_, d0, d1⟩ := HB'.out.later hb7
      obtain ⟨_, x0, x1⟩ := HX.out.later hb7
      obtain ⟨_, y0, y1⟩ := HY.out.later hb7
      obtain ⟨_, z0, z1⟩ := HZ.out.later hb7
      go_wp2_with fail
      all_goals
        go_ret
        exact ⟨rfl, HB.out.trans (hb7.mono HB.out.size)⟩

open Go.ChangeShapes Go.WideShapes Go.ChangeAt Go.Joins in
theorem item_open {H : Type} {enc : TypeId × Value → H} {base b1 : Nat} {spare : Nat → Bool} {held : Bool} {d : DataW H} {p : List MemPlace} (v : Value) (W : World)
    (o : Value.okWide Try.prog W .any base 34 v) (k : DataW.Trod enc Try.prog W b1 spare held 34 v d p) : ∃ i a : Nat, v = .agg #[.int .u64 i, .int .u64 a] := by
  obtain ⟨c0, c1, y0, y1, m, rfl, rfl, rfl, hy0, hy1⟩ := open_agg2 Try.underlying34 (by kernel_rfl) (by kernel_rfl) o k
  obtain ⟨a, e0, _, wa⟩ := DataW.trod_int Try.underlying22 hy0
  obtain ⟨b, e1, _, wb⟩ := DataW.trod_int Try.underlying22 hy1
  simp at e0 e1
  subst e0 e1
  simp [Lit.wf, IntKind.min, IntKind.max, IntKind.bits, IntKind.signed] at wa wb
  exact ⟨a.toNat, b.toNat, by rw [Int.toNat_of_nonneg wa.1, Int.toNat_of_nonneg wb.1]⟩

theorem orders_open {H : Type} {enc : TypeId × Value → H} {base b1 : Nat} {spare : Nat → Bool} {held : Bool} {d0 d1 d2 : DataW H} {p0 p1 p2 : List MemPlace} (v0 v1 v2 : Value) (W : World)
    (o0 : Value.okWide Try.prog W .any base 34 v0) (k0 : DataW.Trod enc Try.prog W b1 spare held 34 v0 d0 p0)
    (o1 : Value.okWide Try.prog W .any base 34 v1) (k1 : DataW.Trod enc Try.prog W b1 spare held 34 v1 d1 p1)
    (o2 : Value.okWide Try.prog W .any base 34 v2) (k2 : DataW.Trod enc Try.prog W b1 spare held 34 v2 d2 p2) :
    Calls Try.prog 4 #[v0, v1, v2] W fun e w' => e = .returned (.bool true) ∧ Below W.heap.size W w' := by
  obtain ⟨i1, a1, rfl⟩ := item_open v0 W o0 k0
  obtain ⟨i2, a2, rfl⟩ := item_open v1 W o1 k1
  obtain ⟨i3, a3, rfl⟩ := item_open v2 W o2 k2
  exact orders_walk i1 a1 i2 a2 i3 a3 W
end Lv
end Go.Proofs.Ytfifgbmhmghlnaa
