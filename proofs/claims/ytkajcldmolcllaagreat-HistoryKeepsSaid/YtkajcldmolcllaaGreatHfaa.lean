/- What a nil history answers. -/
import Derived.Test.YtkajcldmolcllaaGreatHaau
set_option linter.unusedVariables false
set_option linter.unusedSimpArgs false
open Go.RowKit
namespace Go.Proofs.YtkajcldmolcllaaGreat
namespace Hi
open _root_.Go.Proofs.YtkajcldmolcllaaGreat.Nm (ret_int ret_bool)
open Vt (VT Rep below_drew Cloned)
open Ev (EV FieldsOk evCells vCells EBox take_drop tk ap cons_drop)
open Cm (rowOf EvsIn EvsAt EvNew)
open Cn (BT BB BtsIn own_keep wrongE Asks box_ev contains_any)
variable {X X' Y Y' : Nat → Prop} {u v w w' V V' : World} {hb bt bm bk n cap : Nat} {A : Option Addr} {h : HM}
set_option maxRecDepth 100000 in
theorem nil_try (f : ByteArray) (a : Nat) (A : Option Addr) (m c : Nat) (w : World) : Calls Tryz.prog 28 #[.pointer none, .agg #[.string f, .int .u64 (a : Nat), .slice A m c]] w fun r w' => r = .returned (.tuple #[ZS, .int .i64 1]) ∧ Below w.heap.size w w' := by
 obtain ⟨W0, hW0⟩ : ∃ W0, W0 = (w.alloc (.cells #[.string f, .int .u64 (a : Nat), .slice A m c] 36)).alloc (.cells #[.map none, .map none, .map none, .int .u64 0, .int .i64 0] 67) := ⟨_, rfl⟩
 have hx1 : RB W0 (w.heap.size + 1) := by
  rw [hW0]
  have e := heap_alloc_new (w.alloc (.cells #[.string f, .int .u64 (a : Nat), .slice A m c] 36)) (.cells #[.map none, .map none, .map none, .int .u64 0, .int .i64 0] 67)
  rw [World.size_alloc] at e
  exact e
 have hb0 : Below w.heap.size w W0 := by rw [hW0]; exact ((Below.refl _ _).alloc (Nat.le_refl _) _).alloc (by simp) _
 obtain ⟨r0, r1, r2, r3, r4, rf0, rf1, rf2, rf3, rf4⟩ := hx1.cells
 replace hW0 := Lib.hid hW0
 have HB0 := Lib.hid hb0
 clear hb0 hx1
 go_enter Tryz.func28, Tryz.ntmps28
 go_upto_region 1 with fail
 rw [← hW0.out]
 go_wp2_with fail
 refine bodyPost_ret (v := .tuple #[ZS, .int .i64 1]) (by simp [results, Tryz.results28, go_sem, ZS, r0, r1, r2, r3, r4]) rfl ?_
 exact ⟨rfl, below5 HB0.out (Nat.le_succ _) _ _ _ _ _⟩
theorem nil_fits (f : ByteArray) (a : Nat) (A : Option Addr) (m c : Nat) (w : World) : Calls Tryz.prog 17 #[.pointer none, .agg #[.string f, .int .u64 (a : Nat), .slice A m c]] w fun r w' => r = .returned (.int .i64 1) ∧ Below w.heap.size w w' := by
 obtain ⟨W0, hW0⟩ : ∃ W0, W0 = w.alloc (.cells #[.string f, .int .u64 (a : Nat), .slice A m c] 36) := ⟨_, rfl⟩
 have hx0 : BB W0 w.heap.size f a A m c := by rw [hW0]; exact heap_alloc_new w _
 have HB0 : Hid (Below w.heap.size w W0) := Lib.hid (by rw [hW0]; exact (Below.refl _ _).alloc (Nat.le_refl _) _)
 have HT := Lib.hid (nil_try f a A m c W0)
 obtain ⟨a0, a1, a2, -⟩ := hx0.cells
 clear hx0
 replace hW0 := Lib.hid hW0
 go_enter Tryz.func17, Tryz.ntmps17
 go_upto_region 1 with fail
 rw [← hW0.out]
 go_wp2_with fail
 refine HT.out.mono ?_
 rintro x w1 ⟨rfl, hb1⟩
 have HB1 := Lib.hid (HB0.out.trans (hb1.mono HB0.out.size))
 clear hb1
 unfold ZS
 go_wp2_with fail
 go_ret
 exact ⟨rfl, HB1.out.alloc HB1.out.size _⟩
theorem nil_add (f : ByteArray) (a : Nat) (A : Option Addr) (m c : Nat) (w : World) : Calls Tryz.prog 12 #[.pointer none, .agg #[.string f, .int .u64 (a : Nat), .slice A m c]] w fun r w' => r = .returned (.int .i64 1) ∧ Below w.heap.size w w' := by
 obtain ⟨W0, hW0⟩ : ∃ W0, W0 = w.alloc (.cells #[.string f, .int .u64 (a : Nat), .slice A m c] 36) := ⟨_, rfl⟩
 have hx0 : BB W0 w.heap.size f a A m c := by rw [hW0]; exact heap_alloc_new w _
 have HB0 : Hid (Below w.heap.size w W0) := Lib.hid (by rw [hW0]; exact (Below.refl _ _).alloc (Nat.le_refl _) _)
 have HT := Lib.hid (nil_try f a A m c W0)
 obtain ⟨a0, a1, a2, -⟩ := hx0.cells
 clear hx0
 replace hW0 := Lib.hid hW0
 go_enter Tryz.func12, Tryz.ntmps12
 go_upto_region 1 with fail
 rw [← hW0.out]
 go_wp2_with fail
 refine HT.out.mono ?_
 rintro x w1 ⟨rfl, hb1⟩
 have HB1 := Lib.hid (HB0.out.trans (hb1.mono HB0.out.size))
 clear hb1
 unfold ZS
 go_wp2_with fail
 go_ret
 exact ⟨rfl, HB1.out.alloc HB1.out.size _⟩
theorem nil_flow (w : World) : Calls Tryz.prog 22 #[.pointer none] w fun r w' => r = .returned (.string ⟨#[]⟩) ∧ w' = w := by
 go_enter Tryz.func22, Tryz.ntmps22
 go_wp2_with fail
 go_ret
 exact ⟨rfl, rfl⟩
theorem nil_batches (w : World) : Calls Tryz.prog 21 #[.pointer none] w fun r w' => r = .returned (.slice none 0 0) ∧ w' = w := by
 go_enter Tryz.func21, Tryz.ntmps21
 go_wp2_with fail
 go_ret
 exact ⟨rfl, rfl⟩
theorem nil_closed (w : World) : Calls Tryz.prog 19 #[.pointer none] w fun r w' => r = .returned (.int .i64 0) ∧ w' = w := by
 go_enter Tryz.func19, Tryz.ntmps19
 go_wp2_with fail
 go_ret
 exact ⟨rfl, rfl⟩
theorem nil_at (w : World) : Calls Tryz.prog 23 #[.pointer none] w fun r w' => r = .returned (.int .u64 0) ∧ w' = w := by
 go_enter Tryz.func23, Tryz.ntmps23
 go_wp2_with fail
 go_ret
 exact ⟨rfl, rfl⟩
theorem nil_next (w : World) : Calls Tryz.prog 24 #[.pointer none] w fun r w' => r = .returned (.int .u64 0) ∧ w' = w := by
 go_enter Tryz.func24, Tryz.ntmps24
 go_wp2_with fail
 go_ret
 exact ⟨rfl, rfl⟩
theorem nil_has (k : ByteArray) (w : World) : Calls Tryz.prog 15 #[.pointer none, .string k] w fun r w' => r = .returned (.bool false) ∧ w' = w := by
 go_enter Tryz.func15, Tryz.ntmps15
 go_wp2_with fail
 go_ret
 exact ⟨rfl, rfl⟩
theorem nil_tasks (w : World) : Calls Tryz.prog 25 #[.pointer none] w fun r w' => r = .returned (.slice none 0 0) ∧ w' = w := by
 go_enter Tryz.func25, Tryz.ntmps25
 go_wp2_with fail
 go_ret
 exact ⟨rfl, rfl⟩
theorem nil_timers (w : World) : Calls Tryz.prog 26 #[.pointer none] w fun r w' => r = .returned (.slice none 0 0) ∧ w' = w := by
 go_enter Tryz.func26, Tryz.ntmps26
 go_wp2_with fail
 go_ret
 exact ⟨rfl, rfl⟩
end Hi
end Go.Proofs.YtkajcldmolcllaaGreat
