/- Contract of package event's of. -/
/- Contracts of the reference's Valid of a tree. -/
/- Contracts of package value's of, blank, Valid of a tree. -/
/- The reference's order of numbers (rank, Compare), and the law NumGrows. -/
/- The program's order of numbers (num.Compare, num.Same) is the reference's; the law NumOrders. -/
import Derived.Test.YtkajcldmolcllaaGreatHaab
import Derived.Deep.WholeRow
import Derived.Laws.Tables
set_option linter.unusedVariables false
open Go.RowKit
namespace Go.Proofs.YtkajcldmolcllaaGreat
namespace Ev
open Nm (ret_int ret_bool)

def tbl : Array Value := #[.string ⟨#[]⟩, .bool false, .bool false, .bool false, .bool false, .bool false, .bool false, .string ⟨#[115, 116, 97, 114, 116, 101, 100]⟩, .bool false, .bool false, .bool false, .bool true, .bool false, .bool true, .string ⟨#[100, 105, 115, 112, 97, 116, 99, 104, 101, 100]⟩, .bool true, .bool true, .bool true, .bool false, .bool false, .bool false, .string ⟨#[102, 105, 110, 105, 115, 104, 101, 100]⟩, .bool true, .bool true, .bool false, .bool false, .bool false, .bool true, .string ⟨#[98, 114, 111, 107, 101, 110]⟩, .bool true, .bool true, .bool true, .bool false, .bool true, .bool false, .string ⟨#[102, 105, 114, 101, 100]⟩, .bool true, .bool false, .bool false, .bool false, .bool false, .bool false, .string ⟨#[115, 105, 103, 110, 97, 108]⟩, .bool false, .bool false, .bool false, .bool true, .bool true, .bool true, .string ⟨#[115, 99, 104, 101, 100, 117, 108, 101, 100]⟩, .bool true, .bool false, .bool false, .bool true, .bool false, .bool true, .string ⟨#[97, 114, 109, 101, 100]⟩, .bool true, .bool false, .bool true, .bool false, .bool false, .bool false, .string ⟨#[99, 111, 109, 112, 108, 101, 116, 101, 100]⟩, .bool false, .bool false, .bool false, .bool false, .bool false, .bool true, .string ⟨#[102, 97, 105, 108, 101, 100]⟩, .bool false, .bool false, .bool false, .bool false, .bool true, .bool false, .string ⟨#[112, 97, 110, 105, 99, 107, 101, 100]⟩, .bool false, .bool false, .bool false, .bool false, .bool true, .bool false]
def ztbl : Array Value := #[.string ⟨#[]⟩, .bool false, .bool false, .bool false, .bool false, .bool false, .bool false, .string ⟨#[]⟩, .bool false, .bool false, .bool false, .bool false, .bool false, .bool false, .string ⟨#[]⟩, .bool false, .bool false, .bool false, .bool false, .bool false, .bool false, .string ⟨#[]⟩, .bool false, .bool false, .bool false, .bool false, .bool false, .bool false, .string ⟨#[]⟩, .bool false, .bool false, .bool false, .bool false, .bool false, .bool false, .string ⟨#[]⟩, .bool false, .bool false, .bool false, .bool false, .bool false, .bool false, .string ⟨#[]⟩, .bool false, .bool false, .bool false, .bool false, .bool false, .bool false, .string ⟨#[]⟩, .bool false, .bool false, .bool false, .bool false, .bool false, .bool false, .string ⟨#[]⟩, .bool false, .bool false, .bool false, .bool false, .bool false, .bool false, .string ⟨#[]⟩, .bool false, .bool false, .bool false, .bool false, .bool false, .bool false, .string ⟨#[]⟩, .bool false, .bool false, .bool false, .bool false, .bool false, .bool false, .string ⟨#[]⟩, .bool false, .bool false, .bool false, .bool false, .bool false, .bool false]

theorem tbl_built : Tryz.prog.built 141 [(1, .agg #[.string ⟨#[115, 116, 97, 114, 116, 101, 100]⟩, .bool false, .bool false, .bool false, .bool true, .bool false, .bool true]), (2, .agg #[.string ⟨#[100, 105, 115, 112, 97, 116, 99, 104, 101, 100]⟩, .bool true, .bool true, .bool true, .bool false, .bool false, .bool false]), (3, .agg #[.string ⟨#[102, 105, 110, 105, 115, 104, 101, 100]⟩, .bool true, .bool true, .bool false, .bool false, .bool false, .bool true]), (4, .agg #[.string ⟨#[98, 114, 111, 107, 101, 110]⟩, .bool true, .bool true, .bool true, .bool false, .bool true, .bool false]), (5, .agg #[.string ⟨#[102, 105, 114, 101, 100]⟩, .bool true, .bool false, .bool false, .bool false, .bool false, .bool false]), (6, .agg #[.string ⟨#[115, 105, 103, 110, 97, 108]⟩, .bool false, .bool false, .bool false, .bool true, .bool true, .bool true]), (7, .agg #[.string ⟨#[115, 99, 104, 101, 100, 117, 108, 101, 100]⟩, .bool true, .bool false, .bool false, .bool true, .bool false, .bool true]), (8, .agg #[.string ⟨#[97, 114, 109, 101, 100]⟩, .bool true, .bool false, .bool true, .bool false, .bool false, .bool false]), (9, .agg #[.string ⟨#[99, 111, 109, 112, 108, 101, 116, 101, 100]⟩, .bool false, .bool false, .bool false, .bool false, .bool false, .bool true]), (10, .agg #[.string ⟨#[102, 97, 105, 108, 101, 100]⟩, .bool false, .bool false, .bool false, .bool false, .bool true, .bool false]), (11, .agg #[.string ⟨#[112, 97, 110, 105, 99, 107, 101, 100]⟩, .bool false, .bool false, .bool false, .bool false, .bool true, .bool false])] = some tbl := by kernel_rfl
theorem tbl_zero : (Tryz.prog.info? 141).map (fun i => (i.zero, i.size)) = some (some (.agg ztbl), 84) := by kernel_rfl

theorem tbl_at (k : Nat) (h1 : 1 ≤ k) (h2 : k ≤ 11) : tbl[k * 7]? = some (.string (nameOf k)) ∧ tbl[k * 7 + 1]? = some (.bool ((fieldsOf k).contains 0)) ∧ tbl[k * 7 + 2]? = some (.bool ((fieldsOf k).contains 1)) ∧ tbl[k * 7 + 3]? = some (.bool ((fieldsOf k).contains 2)) ∧
  tbl[k * 7 + 4]? = some (.bool ((fieldsOf k).contains 3)) ∧ tbl[k * 7 + 5]? = some (.bool ((fieldsOf k).contains 4)) ∧ tbl[k * 7 + 6]? = some (.bool ((fieldsOf k).contains 5)) := by
 rcases (by omega : k = 1 ∨ k = 2 ∨ k = 3 ∨ k = 4 ∨ k = 5 ∨ k = 6 ∨ k = 7 ∨ k = 8 ∨ k = 9 ∨ k = 10 ∨ k = 11) with rfl | rfl | rfl | rfl | rfl | rfl | rfl | rfl | rfl | rfl | rfl
 all_goals exact ⟨rfl, rfl, rfl, rfl, rfl, rfl, rfl⟩

theorem seven_size (w' : World) (B : Nat) (a b c d e f g : Value) : (((((((w'.setCell ⟨B, 0, none⟩ a).setCell ⟨B, 1, none⟩ b).setCell ⟨B, 2, none⟩ c).setCell ⟨B, 3, none⟩ d).setCell ⟨B, 4, none⟩ e).setCell ⟨B, 5, none⟩ f).setCell ⟨B, 6, none⟩ g).heap.size = w'.heap.size := by simp [World.setCell]
theorem seven_below {B : Nat} {w w' : World} (h : Below B w w') (a b c d e f g : Value) :
  Below B w (((((((w'.setCell ⟨B, 0, none⟩ a).setCell ⟨B, 1, none⟩ b).setCell ⟨B, 2, none⟩ c).setCell ⟨B, 3, none⟩ d).setCell ⟨B, 4, none⟩ e).setCell ⟨B, 5, none⟩ f).setCell ⟨B, 6, none⟩ g) :=
 ((((((h.setCell (p := ⟨B, 0, none⟩) (Nat.le_refl _) _).setCell (p := ⟨B, 1, none⟩) (Nat.le_refl _) _).setCell (p := ⟨B, 2, none⟩) (Nat.le_refl _) _).setCell (p := ⟨B, 3, none⟩) (Nat.le_refl _) _).setCell (p := ⟨B, 4, none⟩) (Nat.le_refl _) _).setCell (p := ⟨B, 5, none⟩) (Nat.le_refl _) _).setCell (p := ⟨B, 6, none⟩) (Nat.le_refl _) _

set_option maxRecDepth 100000 in
set_option maxHeartbeats 1000000 in
theorem of_in' (k : Nat) (h1 : 1 ≤ k) (h2 : k ≤ 11) (nm : ByteArray) (b0 b1 b2 b3 b4 b5 : Bool) (t0 : tbl[k * 7]? = some (.string nm)) (t1 : tbl[k * 7 + 1]? = some (.bool b0)) (t2 : tbl[k * 7 + 2]? = some (.bool b1)) (t3 : tbl[k * 7 + 3]? = some (.bool b2)) (t4 : tbl[k * 7 + 4]? = some (.bool b3)) (t5 : tbl[k * 7 + 5]? = some (.bool b4)) (t6 : tbl[k * 7 + 6]? = some (.bool b5)) (w : World) :
  Calls Tryz.prog 69 #[.int .i64 k] w fun e w' => e = .returned (.tuple #[.agg #[.string nm, .bool b0, .bool b1, .bool b2, .bool b3, .bool b4, .bool b5], .bool true]) ∧ Below w.heap.size w w' := by
 have T0 := Lib.hid t0; have T1 := Lib.hid t1; have T2 := Lib.hid t2; have T3 := Lib.hid t3; have T4 := Lib.hid t4; have T5 := Lib.hid t5; have T6 := Lib.hid t6
 clear t0 t1 t2 t3 t4 t5 t6
 have HR0 : Hid (RowAt (w.alloc (.cells (rowCellsOf ⟨#[]⟩ []) 122)) w.heap.size (rowCellsOf ⟨#[]⟩ [])) := Lib.hid (heap_alloc_new w _)
 have HB := Lib.hid ((Below.refl w.heap.size w).alloc (Nat.le_refl _) (.cells #[.string ⟨#[]⟩, .bool false, .bool false, .bool false, .bool false, .bool false, .bool false] 122))
 have W1 := Lib.hid (with_lit [3, 5] (by decide) (by decide))
 have W2 := Lib.hid (with_lit [0, 1, 2] (by decide) (by decide))
 have W3 := Lib.hid (with_lit [0, 1, 5] (by decide) (by decide))
 have W4 := Lib.hid (with_lit [0, 1, 2, 4] (by decide) (by decide))
 have W5 := Lib.hid (with_lit [0] (by decide) (by decide))
 have W6 := Lib.hid (with_lit [3, 4, 5] (by decide) (by decide))
 have W7 := Lib.hid (with_lit [0, 3, 5] (by decide) (by decide))
 have W8 := Lib.hid (with_lit [0, 2] (by decide) (by decide))
 have W9 := Lib.hid (with_lit [5] (by decide) (by decide))
 have W10 := Lib.hid (with_lit [4] (by decide) (by decide))
 have W11 := Lib.hid (with_lit [4] (by decide) (by decide))
 have hbt := tbl_built
 obtain ⟨hzt, hsz⟩ := zero_of_info tbl_zero
 have HSZ := Lib.hid hsz; clear hsz
 go_enter Tryz.func69, Tryz.ntmps69
 go_wp2_with fail
 refine (W1.out _ _ _ _ _ #[.string ⟨#[115, 116, 97, 114, 116, 101, 100]⟩, .bool false, .bool false, .bool false, .bool true, .bool false, .bool true] rfl (by simp) rfl rfl).mono ?_
 rintro e w1 ⟨rfl, hb, hz1⟩
 have B1 := Lib.hid (HB.out.trans (hb.mono (by omega)))
 have hy1 : w.heap.size < w1.heap.size := by omega
 have R1 := Lib.hid (show RowAt w1 w.heap.size _ from (hb.block w.heap.size (by omega)).trans HR0.out)
 clear hb HB HR0
 go_wp2_with fail
 refine (W2.out _ _ _ _ _ #[.string ⟨#[100, 105, 115, 112, 97, 116, 99, 104, 101, 100]⟩, .bool true, .bool true, .bool true, .bool false, .bool false, .bool false] rfl (by rfl) rfl rfl).mono ?_
 rintro e w2 ⟨rfl, hb, hz2⟩
 have B2 := Lib.hid (B1.out.trans (hb.mono (by omega)))
 have hy2 : w.heap.size < w2.heap.size := by omega
 have R2 := Lib.hid (show RowAt w2 w.heap.size _ from (hb.block w.heap.size (by omega)).trans R1.out)
 clear hb B1 R1 W2
 go_wp2_with fail
 refine (W3.out _ _ _ _ _ #[.string ⟨#[102, 105, 110, 105, 115, 104, 101, 100]⟩, .bool true, .bool true, .bool false, .bool false, .bool false, .bool true] rfl (by rfl) rfl rfl).mono ?_
 rintro e w3 ⟨rfl, hb, hz3⟩
 have B3 := Lib.hid (B2.out.trans (hb.mono (by omega)))
 have hy3 : w.heap.size < w3.heap.size := by omega
 have R3 := Lib.hid (show RowAt w3 w.heap.size _ from (hb.block w.heap.size (by omega)).trans R2.out)
 clear hb B2 R2 W3
 go_wp2_with fail
 refine (W4.out _ _ _ _ _ #[.string ⟨#[98, 114, 111, 107, 101, 110]⟩, .bool true, .bool true, .bool true, .bool false, .bool true, .bool false] rfl (by rfl) rfl rfl).mono ?_
 rintro e w4 ⟨rfl, hb, hz4⟩
 have B4 := Lib.hid (B3.out.trans (hb.mono (by omega)))
 have hy4 : w.heap.size < w4.heap.size := by omega
 have R4 := Lib.hid (show RowAt w4 w.heap.size _ from (hb.block w.heap.size (by omega)).trans R3.out)
 clear hb B3 R3 W4
 go_wp2_with fail
 refine (W5.out _ _ _ _ _ #[.string ⟨#[102, 105, 114, 101, 100]⟩, .bool true, .bool false, .bool false, .bool false, .bool false, .bool false] rfl (by rfl) rfl rfl).mono ?_
 rintro e w5 ⟨rfl, hb, hz5⟩
 have B5 := Lib.hid (B4.out.trans (hb.mono (by omega)))
 have hy5 : w.heap.size < w5.heap.size := by omega
 have R5 := Lib.hid (show RowAt w5 w.heap.size _ from (hb.block w.heap.size (by omega)).trans R4.out)
 clear hb B4 R4 W5
 go_wp2_with fail
 refine (W6.out _ _ _ _ _ #[.string ⟨#[115, 105, 103, 110, 97, 108]⟩, .bool false, .bool false, .bool false, .bool true, .bool true, .bool true] rfl (by rfl) rfl rfl).mono ?_
 rintro e w6 ⟨rfl, hb, hz6⟩
 have B6 := Lib.hid (B5.out.trans (hb.mono (by omega)))
 have hy6 : w.heap.size < w6.heap.size := by omega
 have R6 := Lib.hid (show RowAt w6 w.heap.size _ from (hb.block w.heap.size (by omega)).trans R5.out)
 clear hb B5 R5 W6
 go_wp2_with fail
 refine (W7.out _ _ _ _ _ #[.string ⟨#[115, 99, 104, 101, 100, 117, 108, 101, 100]⟩, .bool true, .bool false, .bool false, .bool true, .bool false, .bool true] rfl (by rfl) rfl rfl).mono ?_
 rintro e w7 ⟨rfl, hb, hz7⟩
 have B7 := Lib.hid (B6.out.trans (hb.mono (by omega)))
 have hy7 : w.heap.size < w7.heap.size := by omega
 have R7 := Lib.hid (show RowAt w7 w.heap.size _ from (hb.block w.heap.size (by omega)).trans R6.out)
 clear hb B6 R6 W7
 go_wp2_with fail
 refine (W8.out _ _ _ _ _ #[.string ⟨#[97, 114, 109, 101, 100]⟩, .bool true, .bool false, .bool true, .bool false, .bool false, .bool false] rfl (by rfl) rfl rfl).mono ?_
 rintro e w8 ⟨rfl, hb, hz8⟩
 have B8 := Lib.hid (B7.out.trans (hb.mono (by omega)))
 have hy8 : w.heap.size < w8.heap.size := by omega
 have R8 := Lib.hid (show RowAt w8 w.heap.size _ from (hb.block w.heap.size (by omega)).trans R7.out)
 clear hb B7 R7 W8
 go_wp2_with fail
 refine (W9.out _ _ _ _ _ #[.string ⟨#[99, 111, 109, 112, 108, 101, 116, 101, 100]⟩, .bool false, .bool false, .bool false, .bool false, .bool false, .bool true] rfl (by rfl) rfl rfl).mono ?_
 rintro e w9 ⟨rfl, hb, hz9⟩
 have B9 := Lib.hid (B8.out.trans (hb.mono (by omega)))
 have hy9 : w.heap.size < w9.heap.size := by omega
 have R9 := Lib.hid (show RowAt w9 w.heap.size _ from (hb.block w.heap.size (by omega)).trans R8.out)
 clear hb B8 R8 W9
 go_wp2_with fail
 refine (W10.out _ _ _ _ _ #[.string ⟨#[102, 97, 105, 108, 101, 100]⟩, .bool false, .bool false, .bool false, .bool false, .bool true, .bool false] rfl (by rfl) rfl rfl).mono ?_
 rintro e w10 ⟨rfl, hb, hz10⟩
 have B10 := Lib.hid (B9.out.trans (hb.mono (by omega)))
 have hy10 : w.heap.size < w10.heap.size := by omega
 have R10 := Lib.hid (show RowAt w10 w.heap.size _ from (hb.block w.heap.size (by omega)).trans R9.out)
 clear hb B9 R9 W10
 go_wp2_with fail
 refine (W11.out _ _ _ _ _ #[.string ⟨#[112, 97, 110, 105, 99, 107, 101, 100]⟩, .bool false, .bool false, .bool false, .bool false, .bool true, .bool false] rfl (by rfl) rfl rfl).mono ?_
 rintro e w11 ⟨rfl, hb, hz11⟩
 have B11 := Lib.hid (B10.out.trans (hb.mono (by omega)))
 have hy11 : w.heap.size < w11.heap.size := by omega
 have R11 := Lib.hid (show RowAt w11 w.heap.size _ from (hb.block w.heap.size (by omega)).trans R10.out)
 clear hb B10 R10 W11
 have hset : (w11.alloc (.cells ztbl 141)).setRow w11.heap.size tbl = w11.alloc (.cells tbl 141) := World.setRow_alloc_new ..
 have hrow := heap_alloc_new w11 (.cells ztbl 141)
 have HROW := Lib.hid hrow; clear hrow
 have hres := R11.out
 have f0 := hres.free 0; have f1 := hres.free 1; have f2 := hres.free 2; have f3 := hres.free 3; have f4 := hres.free 4; have f5 := hres.free 5; have f6 := hres.free 6
 unfold rowCellsOf at hres
 obtain ⟨d0, d1, d2, d3, d4, d5, d6⟩ := hres.cells
 clear hres R11 W1
 have t0 := T0.out; have t1 := T1.out; have t2 := T2.out; have t3 := T3.out; have t4 := T4.out; have t5 := T5.out; have t6 := T6.out
 clear T0 T1 T2 T3 T4 T5 T6
 go_wp2_with (first
  | (refine wpList_build rfl 141 _ rfl ?_ ?_)
  | (refine wpList_store_row rfl 141 _ _ rfl w11.heap.size tbl rfl rfl 141 ztbl HROW.out HSZ.out rfl (by kernel_rfl) ?_))
 refine bodyPost_ret (v := .tuple #[.agg #[.string nm, .bool b0, .bool b1, .bool b2, .bool b3, .bool b4, .bool b5], .bool true]) (by simp [results, Tryz.results69, go_sem, d0, d1, d2, d3, d4, d5, d6, hy11]) rfl ⟨rfl, ?_⟩
 exact (seven_below B11.out _ _ _ _ _ _ _).alloc (by rw [seven_size]; omega) _

set_option maxRecDepth 100000 in
set_option maxHeartbeats 1000000 in
theorem of_out (k : Int) (h : k < 1 ∨ 11 < k) (w : World) : Calls Tryz.prog 69 #[.int .i64 k] w fun e w' => e = .returned (.tuple #[.agg #[.string ⟨#[]⟩, .bool false, .bool false, .bool false, .bool false, .bool false, .bool false], .bool false]) ∧ Below w.heap.size w w' := by
 have H := Lib.hid h; clear h
 have HR0 : Hid (RowAt (w.alloc (.cells (rowCellsOf ⟨#[]⟩ []) 122)) w.heap.size (rowCellsOf ⟨#[]⟩ [])) := Lib.hid (heap_alloc_new w _)
 have HB := Lib.hid ((Below.refl w.heap.size w).alloc (Nat.le_refl _) (.cells #[.string ⟨#[]⟩, .bool false, .bool false, .bool false, .bool false, .bool false, .bool false] 122))
 have W1 := Lib.hid (with_lit [3, 5] (by decide) (by decide))
 have W2 := Lib.hid (with_lit [0, 1, 2] (by decide) (by decide))
 have W3 := Lib.hid (with_lit [0, 1, 5] (by decide) (by decide))
 have W4 := Lib.hid (with_lit [0, 1, 2, 4] (by decide) (by decide))
 have W5 := Lib.hid (with_lit [0] (by decide) (by decide))
 have W6 := Lib.hid (with_lit [3, 4, 5] (by decide) (by decide))
 have W7 := Lib.hid (with_lit [0, 3, 5] (by decide) (by decide))
 have W8 := Lib.hid (with_lit [0, 2] (by decide) (by decide))
 have W9 := Lib.hid (with_lit [5] (by decide) (by decide))
 have W10 := Lib.hid (with_lit [4] (by decide) (by decide))
 have W11 := Lib.hid (with_lit [4] (by decide) (by decide))
 have hbt := tbl_built
 obtain ⟨hzt, hsz⟩ := zero_of_info tbl_zero
 have HSZ := Lib.hid hsz; clear hsz
 go_enter Tryz.func69, Tryz.ntmps69
 go_wp2_with fail
 refine (W1.out _ _ _ _ _ #[.string ⟨#[115, 116, 97, 114, 116, 101, 100]⟩, .bool false, .bool false, .bool false, .bool true, .bool false, .bool true] rfl (by simp) rfl rfl).mono ?_
 rintro e w1 ⟨rfl, hb, hz1⟩
 have B1 := Lib.hid (HB.out.trans (hb.mono (by omega)))
 have hy1 : w.heap.size < w1.heap.size := by omega
 have R1 := Lib.hid (show RowAt w1 w.heap.size _ from (hb.block w.heap.size (by omega)).trans HR0.out)
 clear hb HB HR0
 go_wp2_with fail
 refine (W2.out _ _ _ _ _ #[.string ⟨#[100, 105, 115, 112, 97, 116, 99, 104, 101, 100]⟩, .bool true, .bool true, .bool true, .bool false, .bool false, .bool false] rfl (by rfl) rfl rfl).mono ?_
 rintro e w2 ⟨rfl, hb, hz2⟩
 have B2 := Lib.hid (B1.out.trans (hb.mono (by omega)))
 have hy2 : w.heap.size < w2.heap.size := by omega
 have R2 := Lib.hid (show RowAt w2 w.heap.size _ from (hb.block w.heap.size (by omega)).trans R1.out)
 clear hb B1 R1 W2
 go_wp2_with fail
 refine (W3.out _ _ _ _ _ #[.string ⟨#[102, 105, 110, 105, 115, 104, 101, 100]⟩, .bool true, .bool true, .bool false, .bool false, .bool false, .bool true] rfl (by rfl) rfl rfl).mono ?_
 rintro e w3 ⟨rfl, hb, hz3⟩
 have B3 := Lib.hid (B2.out.trans (hb.mono (by omega)))
 have hy3 : w.heap.size < w3.heap.size := by omega
 have R3 := Lib.hid (show RowAt w3 w.heap.size _ from (hb.block w.heap.size (by omega)).trans R2.out)
 clear hb B2 R2 W3
 go_wp2_with fail
 refine (W4.out _ _ _ _ _ #[.string ⟨#[98, 114, 111, 107, 101, 110]⟩, .bool true, .bool true, .bool true, .bool false, .bool true, .bool false] rfl (by rfl) rfl rfl).mono ?_
 rintro e w4 ⟨rfl, hb, hz4⟩
 have B4 := Lib.hid (B3.out.trans (hb.mono (by omega)))
 have hy4 : w.heap.size < w4.heap.size := by omega
 have R4 := Lib.hid (show RowAt w4 w.heap.size _ from (hb.block w.heap.size (by omega)).trans R3.out)
 clear hb B3 R3 W4
 go_wp2_with fail
 refine (W5.out _ _ _ _ _ #[.string ⟨#[102, 105, 114, 101, 100]⟩, .bool true, .bool false, .bool false, .bool false, .bool false, .bool false] rfl (by rfl) rfl rfl).mono ?_
 rintro e w5 ⟨rfl, hb, hz5⟩
 have B5 := Lib.hid (B4.out.trans (hb.mono (by omega)))
 have hy5 : w.heap.size < w5.heap.size := by omega
 have R5 := Lib.hid (show RowAt w5 w.heap.size _ from (hb.block w.heap.size (by omega)).trans R4.out)
 clear hb B4 R4 W5
 go_wp2_with fail
 refine (W6.out _ _ _ _ _ #[.string ⟨#[115, 105, 103, 110, 97, 108]⟩, .bool false, .bool false, .bool false, .bool true, .bool true, .bool true] rfl (by rfl) rfl rfl).mono ?_
 rintro e w6 ⟨rfl, hb, hz6⟩
 have B6 := Lib.hid (B5.out.trans (hb.mono (by omega)))
 have hy6 : w.heap.size < w6.heap.size := by omega
 have R6 := Lib.hid (show RowAt w6 w.heap.size _ from (hb.block w.heap.size (by omega)).trans R5.out)
 clear hb B5 R5 W6
 go_wp2_with fail
 refine (W7.out _ _ _ _ _ #[.string ⟨#[115, 99, 104, 101, 100, 117, 108, 101, 100]⟩, .bool true, .bool false, .bool false, .bool true, .bool false, .bool true] rfl (by rfl) rfl rfl).mono ?_
 rintro e w7 ⟨rfl, hb, hz7⟩
 have B7 := Lib.hid (B6.out.trans (hb.mono (by omega)))
 have hy7 : w.heap.size < w7.heap.size := by omega
 have R7 := Lib.hid (show RowAt w7 w.heap.size _ from (hb.block w.heap.size (by omega)).trans R6.out)
 clear hb B6 R6 W7
 go_wp2_with fail
 refine (W8.out _ _ _ _ _ #[.string ⟨#[97, 114, 109, 101, 100]⟩, .bool true, .bool false, .bool true, .bool false, .bool false, .bool false] rfl (by rfl) rfl rfl).mono ?_
 rintro e w8 ⟨rfl, hb, hz8⟩
 have B8 := Lib.hid (B7.out.trans (hb.mono (by omega)))
 have hy8 : w.heap.size < w8.heap.size := by omega
 have R8 := Lib.hid (show RowAt w8 w.heap.size _ from (hb.block w.heap.size (by omega)).trans R7.out)
 clear hb B7 R7 W8
 go_wp2_with fail
 refine (W9.out _ _ _ _ _ #[.string ⟨#[99, 111, 109, 112, 108, 101, 116, 101, 100]⟩, .bool false, .bool false, .bool false, .bool false, .bool false, .bool true] rfl (by rfl) rfl rfl).mono ?_
 rintro e w9 ⟨rfl, hb, hz9⟩
 have B9 := Lib.hid (B8.out.trans (hb.mono (by omega)))
 have hy9 : w.heap.size < w9.heap.size := by omega
 have R9 := Lib.hid (show RowAt w9 w.heap.size _ from (hb.block w.heap.size (by omega)).trans R8.out)
 clear hb B8 R8 W9
 go_wp2_with fail
 refine (W10.out _ _ _ _ _ #[.string ⟨#[102, 97, 105, 108, 101, 100]⟩, .bool false, .bool false, .bool false, .bool false, .bool true, .bool false] rfl (by rfl) rfl rfl).mono ?_
 rintro e w10 ⟨rfl, hb, hz10⟩
 have B10 := Lib.hid (B9.out.trans (hb.mono (by omega)))
 have hy10 : w.heap.size < w10.heap.size := by omega
 have R10 := Lib.hid (show RowAt w10 w.heap.size _ from (hb.block w.heap.size (by omega)).trans R9.out)
 clear hb B9 R9 W10
 go_wp2_with fail
 refine (W11.out _ _ _ _ _ #[.string ⟨#[112, 97, 110, 105, 99, 107, 101, 100]⟩, .bool false, .bool false, .bool false, .bool false, .bool true, .bool false] rfl (by rfl) rfl rfl).mono ?_
 rintro e w11 ⟨rfl, hb, hz11⟩
 have B11 := Lib.hid (B10.out.trans (hb.mono (by omega)))
 have hy11 : w.heap.size < w11.heap.size := by omega
 have R11 := Lib.hid (show RowAt w11 w.heap.size _ from (hb.block w.heap.size (by omega)).trans R10.out)
 clear hb B10 R10 W11
 have hset : (w11.alloc (.cells ztbl 141)).setRow w11.heap.size tbl = w11.alloc (.cells tbl 141) := World.setRow_alloc_new ..
 have hrow := heap_alloc_new w11 (.cells ztbl 141)
 have HROW := Lib.hid hrow; clear hrow
 have hres := R11.out
 have f0 := hres.free 0; have f1 := hres.free 1; have f2 := hres.free 2; have f3 := hres.free 3; have f4 := hres.free 4; have f5 := hres.free 5; have f6 := hres.free 6
 unfold rowCellsOf at hres
 obtain ⟨d0, d1, d2, d3, d4, d5, d6⟩ := hres.cells
 clear hres R11 W1
 rcases H.out with h | h
 all_goals
  clear H
  go_wp2_with (first
   | (refine wpList_build rfl 141 _ rfl ?_ ?_)
   | (refine wpList_store_row rfl 141 _ _ rfl w11.heap.size tbl rfl rfl 141 ztbl HROW.out HSZ.out rfl (by kernel_rfl) ?_))
  refine bodyPost_ret (v := .tuple #[.agg #[.string ⟨#[]⟩, .bool false, .bool false, .bool false, .bool false, .bool false, .bool false], .bool false]) (by simp [results, Tryz.results69, go_sem, d0, d1, d2, d3, d4, d5, d6, hy11]) rfl ⟨rfl, ?_⟩
  exact (seven_below B11.out _ _ _ _ _ _ _).alloc (by rw [seven_size]; omega) _

theorem of_in (k : Nat) (h1 : 1 ≤ k) (h2 : k ≤ 11) (w : World) : Calls Tryz.prog 69 #[.int .i64 k] w fun e w' => e = .returned (.tuple #[.agg (rowCellsOf (nameOf k) (fieldsOf k)), .bool true]) ∧ Below w.heap.size w w' := by
 obtain ⟨t0, t1, t2, t3, t4, t5, t6⟩ := tbl_at k h1 h2
 exact of_in' k h1 h2 _ _ _ _ _ _ _ t0 t1 t2 t3 t4 t5 t6 w
end Ev
end Go.Proofs.YtkajcldmolcllaaGreat
namespace Go.Proofs.YtkajcldmolcllaaGreat
namespace Vt
open Nm (bitsW ret_int ret_bool)

theorem loop_len (s : ByteArray) : ∀ (k i : Nat) (r : List UInt8), s.size - i = k → (ByteArray.toList.loop s i r).length = k + r.length := by
 intro k
 induction k with
 | zero => intro i r h; rw [ByteArray.toList.loop]; rw [if_neg (by omega)]; simp
 | succ k ih => intro i r h; rw [ByteArray.toList.loop]; rw [if_pos (by omega)]; rw [ih _ _ (by omega)]; simp; omega
theorem toList_nil (s : ByteArray) : s.toList = [] ↔ s.size = 0 := by
 rw [← List.length_eq_zero_iff]; unfold ByteArray.toList; rw [loop_len s s.size 0 [] (by omega)]; simp

def Parts (k n : Int) (f : Nat) (s : ByteArray) (l : List VT) (x : Int) : Prop :=
 0 ≤ k ∧ k ≤ 4 ∧ (k = 1 ∨ n = 0) ∧ (k = 2 ∨ bitsW f = 0) ∧ (k = 3 ∨ s.toList = []) ∧ (k = 4 ∨ l.length = 0) ∧ (k = 4 → x ≠ 0) ∧ l.all (fun t => t.valid (x - 1).toNat) = true

theorem parts_iff (k n : Int) (f : Nat) (s : ByteArray) (l : List VT) (x : Int) (hx : 0 ≤ x) : (VT.mk k n f s l).valid x.toNat = true ↔ Parts k n f s l x := by
 rw [valid_mk]
 unfold Parts
 rw [show (x - 1).toNat = x.toNat - 1 from by omega, toList_nil]
 simp only [Bool.and_eq_true, Bool.or_eq_true, decide_eq_true_iff, beq_iff_eq, bne_iff_ne, and_assoc]
 constructor
 ·rintro ⟨a, b, c, d, e, f, g, h⟩
  exact ⟨a, b, c, d, e, f, fun h4 => by rcases g with g | g <;> omega, h⟩
 ·rintro ⟨a, b, c, d, e, f, g, h⟩
  refine ⟨a, b, c, d, e, f, ?_, h⟩
  by_cases h4 : k = 4
  ·right; have := g h4; omega
  ·left; exact h4

theorem parts_false {k n : Int} {f : Nat} {s : ByteArray} {l : List VT} {x : Int} {b : Bool} (h : b = true ↔ Parts k n f s l x) (hp : ¬ Parts k n f s l x) : Ending.returned (.bool false) = .returned (.bool b) := by
 cases b with
 | false => rfl
 | true => exact absurd (h.1 rfl) hp
theorem parts_true {k n : Int} {f : Nat} {s : ByteArray} {l : List VT} {x : Int} {b : Bool} (h : b = true ↔ Parts k n f s l x) (hp : Parts k n f s l x) : Ending.returned (.bool true) = .returned (.bool b) := by
 rw [h.2 hp]

def HeadV (k n : Int) (f : Nat) (s : ByteArray) (m : Nat) : Prop := (k = 1 ∨ n = 0) ∧ (k = 2 ∨ bitsW f = 0) ∧ (k = 3 ∨ s.toList = []) ∧ (k = 4 ∨ m = 0)
theorem headV_of {k n : Int} {f : Nat} {s : ByteArray} {l : List VT} {x : Int} (h : Parts k n f s l x) : HeadV k n f s l.length := ⟨h.2.2.1, h.2.2.2.1, h.2.2.2.2.1, h.2.2.2.2.2.1⟩

theorem box_below (w : World) (k n : Int) (f : Nat) (s : ByteArray) (A : Option Addr) (m c : Nat) : Below w.heap.size w (w.alloc (.cells #[.int .i64 k, .int .i64 n, .float .f64 f, .string s, .slice A m c] 51)) :=
 (Below.refl _ _).alloc (Nat.le_refl _) _

set_option maxHeartbeats 2000000 in
theorem right_fail (k n : Int) (f : Nat) (s : ByteArray) (m cap : Nat) (A : Option Addr) (hf : f < 18446744073709551616) (h : ¬ HeadV k n f s m) (x : Int) (w : World) :
  Calls Tryz.prog 76 #[.agg #[.int .i64 k, .int .i64 n, .float .f64 f, .string s, .slice A m cap], .int .i64 x] w fun e w' => e = .returned (.bool false) ∧ Below w.heap.size w w' := by
 have H := Lib.hid h; clear h
 go_enter Tryz.func76, Tryz.ntmps76
 go_wp2_with (go_at_call 92; refine (Nm.rbits_any f hf _).mono ?_; rintro e w' ⟨rfl, rfl⟩)
 all_goals first
  | (go_ret; exact ⟨rfl, box_below ..⟩)
  | (exfalso
     refine H.out ⟨?_, ?_, ?_, ?_⟩
     all_goals first
      | omega
      | (right; assumption)
      | (rcases (by assumption : (k != 4) = false ∨ ¬ 0 < m) with q | q
         ·simp at q; omega
         ·omega))

theorem headV_cases {k n : Int} {f : Nat} {s : ByteArray} {m : Nat} (h : HeadV k n f s m) :
  (k = 1 ∧ bitsW f = 0 ∧ s.toList = [] ∧ m = 0) ∨ (k = 2 ∧ n = 0 ∧ s.toList = [] ∧ m = 0) ∨ (k = 3 ∧ n = 0 ∧ bitsW f = 0 ∧ m = 0) ∨ (k = 4 ∧ n = 0 ∧ bitsW f = 0 ∧ s.toList = []) ∨
   (k ≠ 1 ∧ k ≠ 2 ∧ k ≠ 3 ∧ k ≠ 4 ∧ n = 0 ∧ bitsW f = 0 ∧ s.toList = [] ∧ m = 0) := by
 obtain ⟨h1, h2, h3, h4⟩ := h
 by_cases e1 : k = 1
 ·left; exact ⟨e1, by omega, by rcases h3 with h3 | h3; omega; exact h3, by omega⟩
 by_cases e2 : k = 2
 ·right; left; exact ⟨e2, by omega, by rcases h3 with h3 | h3; omega; exact h3, by omega⟩
 by_cases e3 : k = 3
 ·right; right; left; exact ⟨e3, by omega, by omega, by omega⟩
 by_cases e4 : k = 4
 ·right; right; right; left; exact ⟨e4, by omega, by omega, by rcases h3 with h3 | h3; omega; exact h3⟩
 ·right; right; right; right; exact ⟨e1, e2, e3, e4, by omega, by omega, by rcases h3 with h3 | h3; omega; exact h3, by omega⟩

set_option maxHeartbeats 1000000 in
theorem right_1 (n : Int) (f : Nat) (s : ByteArray) (hb0 : bitsW f = 0) (hs0 : s.toList = []) (A : Option Addr) (cap : Nat) (hf : f < 18446744073709551616) (x : Int) (w : World) :
  Calls Tryz.prog 76 #[.agg #[.int .i64 1, .int .i64 n, .float .f64 f, .string s, .slice A 0 cap], .int .i64 x] w fun e w' => e = .returned (.bool (true)) ∧ Below w.heap.size w w' := by
 have HAB := Lib.hid (box_below w 1 n f s A 0 cap)
 go_enter Tryz.func76, Tryz.ntmps76
 go_wp2_with (go_at_call 92; refine (Nm.rbits_any f hf _).mono ?_; rintro e w' ⟨rfl, rfl⟩)
 go_loop [5] (fun i => i = .int .i64 0) (fun _ => 0)
 case atStart => exact rfl
 case round =>
  subst hrel
  go_wp2_with fail
  all_goals
   go_ret
   exact ⟨ret_bool (by simp [*]), HAB.out⟩
set_option maxHeartbeats 1000000 in
theorem right_2 (f : Nat) (s : ByteArray) (hs0 : s.toList = []) (A : Option Addr) (cap : Nat) (_ : f < 18446744073709551616) (x : Int) (w : World) :
  Calls Tryz.prog 76 #[.agg #[.int .i64 2, .int .i64 0, .float .f64 f, .string s, .slice A 0 cap], .int .i64 x] w fun e w' => e = .returned (.bool (true)) ∧ Below w.heap.size w w' := by
 have HAB := Lib.hid (box_below w 2 0 f s A 0 cap)
 go_enter Tryz.func76, Tryz.ntmps76
 go_wp2_with fail
 go_loop [5] (fun i => i = .int .i64 0) (fun _ => 0)
 case atStart => exact rfl
 case round =>
  subst hrel
  go_wp2_with fail
  all_goals
   go_ret
   exact ⟨ret_bool (by simp [*]), HAB.out⟩
set_option maxHeartbeats 1000000 in
theorem right_3 (f : Nat) (s : ByteArray) (hb0 : bitsW f = 0) (A : Option Addr) (cap : Nat) (hf : f < 18446744073709551616) (x : Int) (w : World) :
  Calls Tryz.prog 76 #[.agg #[.int .i64 3, .int .i64 0, .float .f64 f, .string s, .slice A 0 cap], .int .i64 x] w fun e w' => e = .returned (.bool (true)) ∧ Below w.heap.size w w' := by
 have HAB := Lib.hid (box_below w 3 0 f s A 0 cap)
 go_enter Tryz.func76, Tryz.ntmps76
 go_wp2_with (go_at_call 92; refine (Nm.rbits_any f hf _).mono ?_; rintro e w' ⟨rfl, rfl⟩)
 go_loop [5] (fun i => i = .int .i64 0) (fun _ => 0)
 case atStart => exact rfl
 case round =>
  subst hrel
  go_wp2_with fail
  all_goals
   go_ret
   exact ⟨ret_bool (by simp [*]), HAB.out⟩
set_option maxHeartbeats 1000000 in
theorem right_0 (k : Int) (h1 : k ≠ 1) (h2 : k ≠ 2) (h3 : k ≠ 3) (h4 : k ≠ 4) (f : Nat) (s : ByteArray) (hb0 : bitsW f = 0) (hs0 : s.toList = []) (A : Option Addr) (cap : Nat) (hf : f < 18446744073709551616) (x : Int) (w : World) :
  Calls Tryz.prog 76 #[.agg #[.int .i64 k, .int .i64 0, .float .f64 f, .string s, .slice A 0 cap], .int .i64 x] w fun e w' => e = .returned (.bool (decide (0 ≤ k ∧ k ≤ 4))) ∧ Below w.heap.size w w' := by
 have e1 : (k != 1) = true := by simpa using h1
 have e2 : (k != 2) = true := by simpa using h2
 have e3 : (k != 3) = true := by simpa using h3
 have e4 : (k != 4) = true := by simpa using h4
 have e5 : (k == 4) = false := by simpa using h4
 clear h1 h2 h3 h4
 have HAB := Lib.hid (box_below w k 0 f s A 0 cap)
 go_enter Tryz.func76, Tryz.ntmps76
 go_wp2_with (go_at_call 92; refine (Nm.rbits_any f hf _).mono ?_; rintro e w' ⟨rfl, rfl⟩)
 go_loop [5] (fun i => i = .int .i64 0) (fun _ => 0)
 case atStart => exact rfl
 case round =>
  subst hrel
  go_wp2_with fail
  all_goals
   go_ret
   exact ⟨ret_bool (by first | (simp [*]; done) | (simp; done) | (simp; omega) | (simp [*]; omega)), HAB.out⟩
set_option maxHeartbeats 2000000 in
theorem right_list (f : Nat) (s : ByteArray) (l : List VT) (A : Option Addr) (cap : Nat) (hf : f < 18446744073709551616) (hb0 : bitsW f = 0) (hs0 : s.toList = []) (hl : l.length ≤ cap) (hc : cap ≤ maxLen) (x : Int) (hx0 : 0 ≤ x) (hx1 : x ≤ 8)
  (ih : ∀ (i : Nat) (hi : i < l.length) (x : Int) (_ : 0 ≤ x) (_ : x ≤ 8) (w : World) (lo hi : Nat) (v : Value) (_ : Rep w lo hi l[i] v) (_ : hi ≤ w.heap.size),
   Calls Tryz.prog 76 #[v, .int .i64 x] w fun e w' => e = .returned (.bool (l[i].valid x.toNat)) ∧ Below w.heap.size w w')
  (w : World) (lo hi : Nat) (hk : KidsAt w lo hi l A) (hz : hi ≤ w.heap.size) :
  Calls Tryz.prog 76 #[.agg #[.int .i64 4, .int .i64 0, .float .f64 f, .string s, .slice A l.length cap], .int .i64 x] w fun e w' =>
   e = .returned (.bool (decide (x ≠ 0) && l.all (fun t => t.valid (x - 1).toNat))) ∧ Below w.heap.size w w' := by
 unfold maxLen at hc
 have IH := Lib.hid ih; have HK := Lib.hid hk; clear ih hk
 by_cases hx : x = 0
 ·subst hx
  have HAB := Lib.hid (box_below w 4 0 f s A l.length cap)
  go_enter Tryz.func76, Tryz.ntmps76
  go_wp2_with (go_at_call 92; refine (Nm.rbits_any f hf _).mono ?_; rintro e w' ⟨rfl, rfl⟩)
  go_ret
  exact ⟨ret_bool (by simp), HAB.out⟩
 ·have hxb : (x == 0) = false := by simpa using hx
  have hxp : 1 ≤ x := by omega
  have HX : Hid (decide (x ≠ 0) = true) := Lib.hid (by simpa using hx)
  clear hx
  have HA := Lib.hid (BoxAt.new w 4 0 f s A l.length cap)
  have HAB := Lib.hid (box_below w 4 0 f s A l.length cap)
  go_enter Tryz.func76, Tryz.ntmps76
  go_wp2_with (go_at_call 92; refine (Nm.rbits_any f hf _).mono ?_; rintro e w' ⟨rfl, rfl⟩)
  go_loopw [4, 5] (fun r i wr => ∃ (j : Nat), j ≤ l.length ∧ i = .int .i64 j ∧ r = .bool false ∧ (l.take j).all (fun t => t.valid (x - 1).toNat) = true ∧ BoxAt wr w.heap.size 4 0 f s A l.length cap ∧ Below w.heap.size w wr) (fun _ i _ => l.length - (intOf i).toNat)
  case atStart => exact ⟨0, by omega, rfl, rfl, rfl, HA.out, HAB.out⟩
  case round =>
   obtain ⟨j, hj, rfl, rfl, hy, hbox, hb⟩ := hrel
   have HY := Lib.hid hy; clear hy
   have hlt0 := hbox.lt
   obtain ⟨c0, c1, c2, c3, c4⟩ := hbox.cells
   have HBX := Lib.hid hbox; have HB := Lib.hid hb; clear hbox hb
   by_cases hlt : j < l.length
   ·obtain ⟨b, off, hA, h1, h2, h3⟩ := (HK.out.later (HB.out.mono hz)).at_ (by omega)
    obtain ⟨k', n', f', s', L', A', cap', e, d0, d1, d2, d3, d4, hr⟩ := h3 j hlt
    subst hA
    have HR := Lib.hid hr
    clear h3 e hr
    go_wp2_with fail
    refine (IH.out j hlt (x - 1) (by omega) (by omega) wr lo hi _ HR.out (by omega)).mono ?_
    rintro e w1 ⟨rfl, hb1⟩
    have HBX1 := Lib.hid (HBX.out.later hb1 hlt0)
    have HB1 := Lib.hid (HB.out.trans (hb1.mono (by omega)))
    clear HBX HB HR hb1 c0 c1 c2 c3 c4 d0 d1 d2 d3 d4
    cases hp : l[j].valid (x - 1).toNat with
    | true =>
     have HP := Lib.hid hp; clear hp
     go_wp2_with fail
     go_roundw
     case rel => exact ⟨j + 1, by omega, by go_num, rfl, by rw [all_take_succ _ _ _ hlt, HY.out, HP.out]; rfl, HBX1.out, HB1.out⟩
     case measure => simp [intOf]; omega
    | false =>
     have HP := Lib.hid hp; clear hp
     go_wp2_with fail
     go_ret
     exact ⟨ret_bool (by rw [HX.out, all_false _ _ j hlt HP.out]; rfl), HB1.out⟩
   ·have hj' : j = l.length := by omega
    have HJ := Lib.hid hj'
    clear hj'
    go_wp2_with fail
    go_ret
    have hall : l.all (fun t => t.valid (x - 1).toNat) = true := by have := HY.out; rw [HJ.out, List.take_length] at this; exact this
    exact ⟨ret_bool (by rw [HX.out, hall]; rfl), HB.out⟩

theorem right_any (t : VT) : ∀ (x : Int) (_ : 0 ≤ x) (_ : x ≤ 8) (w : World) (lo hi : Nat) (v : Value) (_ : Rep w lo hi t v) (_ : hi ≤ w.heap.size),
  Calls Tryz.prog 76 #[v, .int .i64 x] w fun e w' => e = .returned (.bool (t.valid x.toNat)) ∧ Below w.heap.size w w' := by
 induction t using VT.ind with
 | _ k n f s l ih =>
  intro x hx0 hx1 w lo hi v hR hz
  obtain ⟨A, cap, rfl, ho, hl, hk⟩ := hR.head
  have hp := parts_iff k n f s l x hx0
  generalize (VT.mk k n f s l).valid x.toNat = R at hp ⊢
  by_cases hh : HeadV k n f s l.length
  ·rcases headV_cases hh with ⟨rfl, q1, q2, q3⟩ | ⟨rfl, rfl, q2, q3⟩ | ⟨rfl, rfl, q2, q3⟩ | ⟨rfl, rfl, q2, q3⟩ | ⟨e1, e2, e3, e4, rfl, q1, q2, q3⟩
   ·obtain rfl := List.eq_nil_of_length_eq_zero q3
    refine (right_1 n f s q1 q2 A cap ho.f1 x w).mono fun e w' h => ⟨?_, h.2⟩
    rw [h.1]
    exact parts_true hp ⟨by omega, by omega, .inl rfl, .inr q1, .inr q2, .inr rfl, by omega, rfl⟩
   ·obtain rfl := List.eq_nil_of_length_eq_zero q3
    refine (right_2 f s q2 A cap ho.f1 x w).mono fun e w' h => ⟨?_, h.2⟩
    rw [h.1]
    exact parts_true hp ⟨by omega, by omega, .inr rfl, .inl rfl, .inr q2, .inr rfl, by omega, rfl⟩
   ·obtain rfl := List.eq_nil_of_length_eq_zero q3
    refine (right_3 f s q2 A cap ho.f1 x w).mono fun e w' h => ⟨?_, h.2⟩
    rw [h.1]
    exact parts_true hp ⟨by omega, by omega, .inr rfl, .inr q2, .inl rfl, .inr rfl, by omega, rfl⟩
   ·refine (right_list f s l A cap ho.f1 q2 q3 hl ho.m1 x hx0 hx1 (fun i hi x a b w lo hi' v c d => ih i hi x a b w lo hi' v c d) w lo hi hk hz).mono fun e w' h => ⟨?_, h.2⟩
    rw [h.1]
    congr 2
    rw [Bool.eq_iff_iff, hp]
    unfold Parts
    simp only [Bool.and_eq_true, decide_eq_true_iff]
    constructor
    ·rintro ⟨h1, h2⟩
     exact ⟨by omega, by omega, by simp, .inr q2, .inr q3, by simp, fun _ => h1, h2⟩
    ·rintro ⟨-, -, -, -, -, -, h1, h2⟩
     exact ⟨h1 (by simp), h2⟩
   ·obtain rfl := List.eq_nil_of_length_eq_zero q3
    refine (right_0 k e1 e2 e3 e4 f s q1 q2 A cap ho.f1 x w).mono fun e w' h => ⟨?_, h.2⟩
    rw [h.1]
    congr 2
    rw [Bool.eq_iff_iff, hp]
    unfold Parts
    simp only [decide_eq_true_iff]
    constructor
    ·rintro ⟨h1, h2⟩
     exact ⟨h1, h2, by simp, .inr q1, .inr q2, by simp, by omega, rfl⟩
    ·rintro ⟨h1, h2, -⟩
     exact ⟨h1, h2⟩
  ·refine (right_fail k n f s l.length cap A ho.f1 hh x w).mono fun e w' h => ⟨?_, h.2⟩
   rw [h.1]
   exact parts_false hp fun q => hh (headV_of q)

theorem rvalid_any (t : VT) (w : World) (lo hi : Nat) (v : Value) (hR : Rep w lo hi t v) (hz : hi ≤ w.heap.size) :
  Calls Tryz.prog 53 #[v] w fun e w' => e = .returned (.bool (t.valid 8)) ∧ Below w.heap.size w w' := by
 have hv := hR
 obtain ⟨k, n, f, s, l, A, cap, rfl, rfl, ho, hl, hk⟩ := hR.open_
 generalize ht : VT.mk k n f s l = t at *
 have HV := Lib.hid hv
 have HB := Lib.hid (box_below w k n f s A l.length cap)
 clear hv hR ho hk ht
 go_enter Tryz.func53, Tryz.ntmps53
 go_wp2_with fail
 refine (right_any t 8 (by omega) (by omega) _ lo hi _ (HV.out.alloc hz _) (by simp; omega)).mono ?_
 rintro e w1 ⟨rfl, hb1⟩
 have HB2 := Lib.hid (HB.out.trans (hb1.mono (by simp)))
 clear hb1
 go_wp2_with fail
 go_ret
 exact ⟨rfl, HB2.out⟩
end Vt
end Go.Proofs.YtkajcldmolcllaaGreat
namespace Go.Proofs.YtkajcldmolcllaaGreat
namespace Vt
open Nm (bitsW ret_int ret_bool)

def kindV (k : Int) : Value := if k = 0 then .iface 171 (.agg #[]) else if k = 1 then .iface 167 (.agg #[]) else if k = 2 then .iface 168 (.agg #[]) else if k = 3 then .iface 169 (.agg #[]) else if k = 4 then .iface 170 (.agg #[]) else .nilIface

set_option maxRecDepth 100000 in
theorem of_any (k : Int) (w : World) : Calls Tryz.prog 89 #[.int .i64 k] w fun e w' => e = .returned (kindV k) ∧ w = w' := by
 by_cases h : 0 ≤ k ∧ k ≤ 4
 ·rcases (by omega : k = 0 ∨ k = 1 ∨ k = 2 ∨ k = 3 ∨ k = 4) with rfl | rfl | rfl | rfl | rfl
  all_goals
   have k0 : Tryz.prog.concrete 171 = true := by kernel_rfl
   have k1 : Tryz.prog.concrete 167 = true := by kernel_rfl
   have k2 : Tryz.prog.concrete 168 = true := by kernel_rfl
   have k3 : Tryz.prog.concrete 169 = true := by kernel_rfl
   have k4 : Tryz.prog.concrete 170 = true := by kernel_rfl
   have i0 : ∀ w, (Instr.index 172 (.agg #[.iface 171 (.agg #[]), .iface 167 (.agg #[]), .iface 168 (.agg #[]), .iface 169 (.agg #[]), .iface 170 (.agg #[])]) (.int .i64 0)).run Tryz.prog w = .ok (.iface 171 (.agg #[])) w := fun _ => by kernel_rfl
   have i1 : ∀ w, (Instr.index 172 (.agg #[.iface 171 (.agg #[]), .iface 167 (.agg #[]), .iface 168 (.agg #[]), .iface 169 (.agg #[]), .iface 170 (.agg #[])]) (.int .i64 1)).run Tryz.prog w = .ok (.iface 167 (.agg #[])) w := fun _ => by kernel_rfl
   have i2 : ∀ w, (Instr.index 172 (.agg #[.iface 171 (.agg #[]), .iface 167 (.agg #[]), .iface 168 (.agg #[]), .iface 169 (.agg #[]), .iface 170 (.agg #[])]) (.int .i64 2)).run Tryz.prog w = .ok (.iface 168 (.agg #[])) w := fun _ => by kernel_rfl
   have i3 : ∀ w, (Instr.index 172 (.agg #[.iface 171 (.agg #[]), .iface 167 (.agg #[]), .iface 168 (.agg #[]), .iface 169 (.agg #[]), .iface 170 (.agg #[])]) (.int .i64 3)).run Tryz.prog w = .ok (.iface 169 (.agg #[])) w := fun _ => by kernel_rfl
   have i4 : ∀ w, (Instr.index 172 (.agg #[.iface 171 (.agg #[]), .iface 167 (.agg #[]), .iface 168 (.agg #[]), .iface 169 (.agg #[]), .iface 170 (.agg #[])]) (.int .i64 4)).run Tryz.prog w = .ok (.iface 170 (.agg #[])) w := fun _ => by kernel_rfl
   go_enter Tryz.func89, Tryz.ntmps89
   go_wp2_with fail
   go_ret
   exact ⟨rfl, rfl⟩
 ·have hk : kindV k = .nilIface := by unfold kindV; rw [if_neg (by omega), if_neg (by omega), if_neg (by omega), if_neg (by omega), if_neg (by omega)]
  rw [hk]
  have HK := Lib.hid hk; clear hk
  by_cases h0 : k < 0
  ·clear h
   go_enter Tryz.func89, Tryz.ntmps89
   go_wp2_with fail
   go_ret
   exact ⟨rfl, rfl⟩
  ·have h4 : 4 < k := by omega
   clear h
   go_enter Tryz.func89, Tryz.ntmps89
   go_wp2_with fail
   go_ret
   exact ⟨rfl, rfl⟩
theorem kv0 : kindV 0 = .iface 171 (.agg #[]) := rfl
theorem kv1 : kindV 1 = .iface 167 (.agg #[]) := rfl
theorem kv2 : kindV 2 = .iface 168 (.agg #[]) := rfl
theorem kv3 : kindV 3 = .iface 169 (.agg #[]) := rfl
theorem kv4 : kindV 4 = .iface 170 (.agg #[]) := rfl

theorem ta_none_integer (w : World) : (Instr.typeAssert (.iface 171 (.agg #[])) 144 167 true).run Tryz.prog w = .ok (.tuple #[.agg #[], .bool false]) w := by kernel_rfl
theorem ta_none_float (w : World) : (Instr.typeAssert (.iface 171 (.agg #[])) 144 168 true).run Tryz.prog w = .ok (.tuple #[.agg #[], .bool false]) w := by kernel_rfl
theorem ta_none_text (w : World) : (Instr.typeAssert (.iface 171 (.agg #[])) 144 169 true).run Tryz.prog w = .ok (.tuple #[.agg #[], .bool false]) w := by kernel_rfl
theorem ta_none_list (w : World) : (Instr.typeAssert (.iface 171 (.agg #[])) 144 170 true).run Tryz.prog w = .ok (.tuple #[.agg #[], .bool false]) w := by kernel_rfl
theorem ta_integer_integer (w : World) : (Instr.typeAssert (.iface 167 (.agg #[])) 144 167 true).run Tryz.prog w = .ok (.tuple #[.agg #[], .bool true]) w := by kernel_rfl
theorem ta_integer_float (w : World) : (Instr.typeAssert (.iface 167 (.agg #[])) 144 168 true).run Tryz.prog w = .ok (.tuple #[.agg #[], .bool false]) w := by kernel_rfl
theorem ta_integer_text (w : World) : (Instr.typeAssert (.iface 167 (.agg #[])) 144 169 true).run Tryz.prog w = .ok (.tuple #[.agg #[], .bool false]) w := by kernel_rfl
theorem ta_integer_list (w : World) : (Instr.typeAssert (.iface 167 (.agg #[])) 144 170 true).run Tryz.prog w = .ok (.tuple #[.agg #[], .bool false]) w := by kernel_rfl
theorem ta_float_integer (w : World) : (Instr.typeAssert (.iface 168 (.agg #[])) 144 167 true).run Tryz.prog w = .ok (.tuple #[.agg #[], .bool false]) w := by kernel_rfl
theorem ta_float_float (w : World) : (Instr.typeAssert (.iface 168 (.agg #[])) 144 168 true).run Tryz.prog w = .ok (.tuple #[.agg #[], .bool true]) w := by kernel_rfl
theorem ta_float_text (w : World) : (Instr.typeAssert (.iface 168 (.agg #[])) 144 169 true).run Tryz.prog w = .ok (.tuple #[.agg #[], .bool false]) w := by kernel_rfl
theorem ta_float_list (w : World) : (Instr.typeAssert (.iface 168 (.agg #[])) 144 170 true).run Tryz.prog w = .ok (.tuple #[.agg #[], .bool false]) w := by kernel_rfl
theorem ta_text_integer (w : World) : (Instr.typeAssert (.iface 169 (.agg #[])) 144 167 true).run Tryz.prog w = .ok (.tuple #[.agg #[], .bool false]) w := by kernel_rfl
theorem ta_text_float (w : World) : (Instr.typeAssert (.iface 169 (.agg #[])) 144 168 true).run Tryz.prog w = .ok (.tuple #[.agg #[], .bool false]) w := by kernel_rfl
theorem ta_text_text (w : World) : (Instr.typeAssert (.iface 169 (.agg #[])) 144 169 true).run Tryz.prog w = .ok (.tuple #[.agg #[], .bool true]) w := by kernel_rfl
theorem ta_text_list (w : World) : (Instr.typeAssert (.iface 169 (.agg #[])) 144 170 true).run Tryz.prog w = .ok (.tuple #[.agg #[], .bool false]) w := by kernel_rfl
theorem ta_list_integer (w : World) : (Instr.typeAssert (.iface 170 (.agg #[])) 144 167 true).run Tryz.prog w = .ok (.tuple #[.agg #[], .bool false]) w := by kernel_rfl
theorem ta_list_float (w : World) : (Instr.typeAssert (.iface 170 (.agg #[])) 144 168 true).run Tryz.prog w = .ok (.tuple #[.agg #[], .bool false]) w := by kernel_rfl
theorem ta_list_text (w : World) : (Instr.typeAssert (.iface 170 (.agg #[])) 144 169 true).run Tryz.prog w = .ok (.tuple #[.agg #[], .bool false]) w := by kernel_rfl
theorem ta_list_list (w : World) : (Instr.typeAssert (.iface 170 (.agg #[])) 144 170 true).run Tryz.prog w = .ok (.tuple #[.agg #[], .bool true]) w := by kernel_rfl
theorem ta_nil_integer (w : World) : (Instr.typeAssert .nilIface 144 167 true).run Tryz.prog w = .ok (.tuple #[.agg #[], .bool false]) w := by kernel_rfl
theorem ta_nil_float (w : World) : (Instr.typeAssert .nilIface 144 168 true).run Tryz.prog w = .ok (.tuple #[.agg #[], .bool false]) w := by kernel_rfl
theorem ta_nil_text (w : World) : (Instr.typeAssert .nilIface 144 169 true).run Tryz.prog w = .ok (.tuple #[.agg #[], .bool false]) w := by kernel_rfl
theorem ta_nil_list (w : World) : (Instr.typeAssert .nilIface 144 170 true).run Tryz.prog w = .ok (.tuple #[.agg #[], .bool false]) w := by kernel_rfl

theorem run_store_float (P : Program) (w : World) (a : Addr) (m : Mode) (k : FloatKind) (b : Nat) : (store a (.float k b) m).run P w = stored P w a (.float k b) m := run_store P w a _ m rfl
def blankV (k n : Int) (f : Nat) (s : ByteArray) (A : Option Addr) (m c : Nat) : Value :=
 .agg #[.int .i64 k, .int .i64 (if k = 1 then 0 else n), .float .f64 (if k = 2 then 0 else f), .string (if k = 3 then ⟨#[]⟩ else s), if k = 4 then .slice none 0 0 else .slice A m c]

attribute [go_sem] run_store_float
set_option maxRecDepth 100000 in
set_option maxHeartbeats 1000000 in
theorem blank_any (k n : Int) (f : Nat) (s : ByteArray) (A : Option Addr) (m c : Nat) (w : World) :
  Calls Tryz.prog 88 #[.agg #[.int .i64 k, .int .i64 n, .float .f64 f, .string s, .slice A m c]] w fun e w' => e = .returned (blankV k n f s A m c) ∧ Below w.heap.size w w' := by
 have O := Lib.hid of_any
 by_cases h : 0 ≤ k ∧ k ≤ 4
 ·rcases (by omega : k = 0 ∨ k = 1 ∨ k = 2 ∨ k = 3 ∨ k = 4) with rfl | rfl | rfl | rfl | rfl
  ·clear h
   have tinteger := ta_none_integer
   have tfloat := ta_none_float
   have ttext := ta_none_text
   have tlist := ta_none_list
   go_enter Tryz.func88, Tryz.ntmps88
   go_wp2_with fail
   refine (O.out _ _).mono ?_
   rintro e w' ⟨rfl, rfl⟩
   rw [kv0]
   go_wp2_with fail
   refine bodyPost_ret (v := blankV _ n f s A m c) (by simp [results, Tryz.results88, go_sem, blankV]) rfl ⟨rfl, ?_⟩
   exact ((Below.refl _ _).alloc (Nat.le_refl _) _).alloc (by simp) _
  ·clear h
   have tinteger := ta_integer_integer
   have tfloat := ta_integer_float
   have ttext := ta_integer_text
   have tlist := ta_integer_list
   go_enter Tryz.func88, Tryz.ntmps88
   go_wp2_with fail
   refine (O.out _ _).mono ?_
   rintro e w' ⟨rfl, rfl⟩
   rw [kv1]
   go_wp2_with fail
   refine bodyPost_ret (v := blankV _ n f s A m c) (by simp [results, Tryz.results88, go_sem, blankV]) rfl ⟨rfl, ?_⟩
   exact ((Below.refl _ _).alloc (Nat.le_refl _) _).alloc (by simp) _
  ·clear h
   have tinteger := ta_float_integer
   have tfloat := ta_float_float
   have ttext := ta_float_text
   have tlist := ta_float_list
   go_enter Tryz.func88, Tryz.ntmps88
   go_wp2_with fail
   refine (O.out _ _).mono ?_
   rintro e w' ⟨rfl, rfl⟩
   rw [kv2]
   go_wp2_with fail
   refine bodyPost_ret (v := blankV _ n f s A m c) (by simp [results, Tryz.results88, go_sem, blankV]) rfl ⟨rfl, ?_⟩
   exact ((Below.refl _ _).alloc (Nat.le_refl _) _).alloc (by simp) _
  ·clear h
   have tinteger := ta_text_integer
   have tfloat := ta_text_float
   have ttext := ta_text_text
   have tlist := ta_text_list
   go_enter Tryz.func88, Tryz.ntmps88
   go_wp2_with fail
   refine (O.out _ _).mono ?_
   rintro e w' ⟨rfl, rfl⟩
   rw [kv3]
   go_wp2_with fail
   refine bodyPost_ret (v := blankV _ n f s A m c) (by simp [results, Tryz.results88, go_sem, blankV]) rfl ⟨rfl, ?_⟩
   exact ((Below.refl _ _).alloc (Nat.le_refl _) _).alloc (by simp) _
  ·clear h
   have tinteger := ta_list_integer
   have tfloat := ta_list_float
   have ttext := ta_list_text
   have tlist := ta_list_list
   go_enter Tryz.func88, Tryz.ntmps88
   go_wp2_with fail
   refine (O.out _ _).mono ?_
   rintro e w' ⟨rfl, rfl⟩
   rw [kv4]
   go_wp2_with fail
   refine bodyPost_ret (v := blankV _ n f s A m c) (by simp [results, Tryz.results88, go_sem, blankV]) rfl ⟨rfl, ?_⟩
   exact ((Below.refl _ _).alloc (Nat.le_refl _) _).alloc (by simp) _
 ·have hk : kindV k = .nilIface := by unfold kindV; rw [if_neg (by omega), if_neg (by omega), if_neg (by omega), if_neg (by omega), if_neg (by omega)]
  have HK := Lib.hid hk; clear hk
  have HB : Hid (blankV k n f s A m c = .agg #[.int .i64 k, .int .i64 n, .float .f64 f, .string s, .slice A m c]) := Lib.hid (by unfold blankV; rw [if_neg (by omega), if_neg (by omega), if_neg (by omega), if_neg (by omega)])
  clear h
  have tinteger := ta_nil_integer
  have tfloat := ta_nil_float
  have ttext := ta_nil_text
  have tlist := ta_nil_list
  go_enter Tryz.func88, Tryz.ntmps88
  go_wp2_with fail
  refine (O.out _ _).mono ?_
  rintro e w' ⟨rfl, rfl⟩
  rw [HK.out]
  go_wp2_with fail
  rw [HB.out]
  refine bodyPost_ret (v := .agg #[.int .i64 k, .int .i64 n, .float .f64 f, .string s, .slice A m c]) (by simp [results, Tryz.results88, go_sem]) rfl ⟨rfl, ?_⟩
  exact ((Below.refl _ _).alloc (Nat.le_refl _) _).alloc (by simp) _
end Vt
end Go.Proofs.YtkajcldmolcllaaGreat
namespace Go.Proofs.YtkajcldmolcllaaGreat
namespace Nm

def rankW (b : Nat) : Nat := if 9223372036854775808 ≤ b then 18446744073709551615 - b else b + 9223372036854775808
def cmp3 (a b : Nat) : Int := if a < b then -1 else if b < a then 1 else 0
theorem cmp3_cases (a b : Nat) : cmp3 a b = -1 ∧ a < b ∨ cmp3 a b = 0 ∧ a = b ∨ cmp3 a b = 1 ∧ b < a := by
 unfold cmp3
 by_cases h : a < b
 ·rw [if_pos h]; omega
 ·rw [if_neg h]
  by_cases h2 : b < a
  ·rw [if_pos h2]; omega
  ·rw [if_neg h2]; omega
def rcmpW (a b : Nat) : Int := cmp3 (rankW (bitsW a)) (rankW (bitsW b))

theorem bitsW_lt (b : Nat) (hb : b < 18446744073709551616) : bitsW b < 18446744073709551616 := by
 unfold bitsW quietW; split <;> omega

end Nm
end Go.Proofs.YtkajcldmolcllaaGreat
namespace Go.Proofs.YtkajcldmolcllaaGreat
namespace Nm

theorem misnan_any (b : Nat) (w : World) : Calls Tryz.prog 123 #[.float .f64 b] w fun e w' => e = .returned (.bool (Fm.isNan b)) ∧ w = w' := by
 have hs := neq_self b
 generalize Fm.isNan b = z at *
 go_enter Tryz.func123, Tryz.ntmps123
 go_wp2
 go_ret
 exact ⟨rfl, rfl⟩

theorem sign_any (b : Nat) (hb : b < 18446744073709551616) (w : World) : Calls Tryz.prog 125 #[.float .f64 b] w fun e w' => e = .returned (.int .i64 (if Fm.neg b = true then -1 else 1)) ∧ w = w' := by
 have C := Lib.hid (fun w => signbit_any b hb w)
 clear hb
 cases h : Fm.neg b with
 | true =>
  rw [h] at C; clear h
  go_enter Tryz.func125, Tryz.ntmps125
  go_wp2_with (go_at_call 131; refine (C.out _).mono ?_; rintro e w' ⟨rfl, rfl⟩)
  go_ret
  exact ⟨rfl, rfl⟩
 | false =>
  rw [h] at C; clear h
  go_enter Tryz.func125, Tryz.ntmps125
  go_wp2_with (go_at_call 131; refine (C.out _).mono ?_; rintro e w' ⟨rfl, rfl⟩)
  go_ret
  exact ⟨rfl, rfl⟩

def cmpI (a b : Int) : Int := if a < b then -1 else if b < a then 1 else 0

theorem cmpi_any (a b : Int) (w : World) : Calls Tryz.prog 124 #[.int .i64 a, .int .i64 b] w fun e w' => e = .returned (.int .i64 (cmpI a b)) ∧ w = w' := by
 unfold cmpI
 by_cases h : a < b
 ·rw [if_pos h]
  go_enter Tryz.func124, Tryz.ntmps124
  go_wp2
  go_ret
  exact ⟨rfl, rfl⟩
 ·rw [if_neg h]
  by_cases h2 : b < a
  ·rw [if_pos h2]
   go_enter Tryz.func124, Tryz.ntmps124
   go_wp2
   go_ret
   exact ⟨rfl, rfl⟩
  ·rw [if_neg h2]
   go_enter Tryz.func124, Tryz.ntmps124
   go_wp2
   go_ret
   exact ⟨rfl, rfl⟩

theorem ord_sv (a b : Nat) (ha : Fm.isNan a = false) (hb : Fm.isNan b = false) : FloatKind.f64.format.order a b = some (compare (Fm.SV a) (Fm.SV b)) := Fm.order_eq a b ha hb

theorem cmpf_any (a b : Nat) (ha : Fm.isNan a = false) (hb : Fm.isNan b = false) (w : World) :
  Calls Tryz.prog 126 #[.float .f64 a, .float .f64 b] w fun e w' => e = .returned (.int .i64 (cmpI (Fm.SV a) (Fm.SV b))) ∧ w = w' := by
 have h1 := neq_self a
 have h2 := neq_self b
 have h3 := ord_sv a b ha hb
 rw [ha] at h1
 rw [hb] at h2
 unfold cmpI
 by_cases h : Fm.SV a < Fm.SV b
 ·rw [if_pos h]
  rw [Int.compare_eq_lt.2 h] at h3
  clear h ha hb
  go_enter Tryz.func126, Tryz.ntmps126
  go_wp2
  go_ret
  exact ⟨rfl, rfl⟩
 ·rw [if_neg h]
  by_cases h' : Fm.SV b < Fm.SV a
  ·rw [if_pos h']
   rw [Int.compare_eq_gt.2 h'] at h3
   clear h h' ha hb
   go_enter Tryz.func126, Tryz.ntmps126
   go_wp2
   go_ret
   exact ⟨rfl, rfl⟩
  ·rw [if_neg h']
   have e : Fm.SV a = Fm.SV b := by omega
   rw [e] at h3
   have h4 : FloatKind.f64.format.order a b = some Ordering.eq := by rw [h3]; simp
   clear h h' ha hb e h3
   go_enter Tryz.func126, Tryz.ntmps126
   go_wp2
   go_ret
   exact ⟨rfl, rfl⟩

theorem sv_zero_iff (b : Nat) : Fm.SV b = 0 ↔ b % 2 ^ 63 = 0 := by
 have h1 := Fm.SV_abs b
 constructor
 ·intro h
  refine Classical.byContradiction fun hn => ?_
  have := V_pos hn
  omega
 ·intro h
  rw [h, Fm.V_zero] at h1
  omega

theorem cmp_num (a b : Nat) (ha : a < 18446744073709551616) (hb : b < 18446744073709551616) (h1 : Fm.isNan a = false) (h2 : Fm.isNan b = false) (hz : ¬ (Fm.SV a = 0 ∧ Fm.SV b = 0)) :
  cmpI (Fm.SV a) (Fm.SV b) = rcmpW a b := by
 have ea : bitsW a = a := by unfold bitsW; rw [h1]; rfl
 have eb : bitsW b = b := by unfold bitsW; rw [h2]; rfl
 have za := sv_zero_iff a
 have zb := sv_zero_iff b
 have hl := Fm.V_lt_iff (a % 2 ^ 63) (b % 2 ^ 63)
 have hg := Fm.V_lt_iff (b % 2 ^ 63) (a % 2 ^ 63)
 have na : Fm.neg a = decide (9223372036854775808 ≤ a) := by
  unfold Fm.neg; rw [Bool.eq_iff_iff]; simp only [beq_iff_eq, decide_eq_true_eq]; omega
 have nb : Fm.neg b = decide (9223372036854775808 ≤ b) := by
  unfold Fm.neg; rw [Bool.eq_iff_iff]; simp only [beq_iff_eq, decide_eq_true_eq]; omega
 have c3 := cmp3_cases (rankW a) (rankW b)
 unfold rcmpW
 rw [ea, eb]
 unfold cmpI
 have sa : Fm.SV a = if 9223372036854775808 ≤ a then -(Fm.V (a % 2 ^ 63) : Int) else Fm.V (a % 2 ^ 63) := by
  unfold Fm.SV; rw [na]; simp only [decide_eq_true_eq]
 have sb : Fm.SV b = if 9223372036854775808 ≤ b then -(Fm.V (b % 2 ^ 63) : Int) else Fm.V (b % 2 ^ 63) := by
  unfold Fm.SV; rw [nb]; simp only [decide_eq_true_eq]
 generalize Fm.V (a % 2 ^ 63) = va at *
 generalize Fm.V (b % 2 ^ 63) = vb at *
 generalize Fm.SV a = x at *
 generalize Fm.SV b = y at *
 unfold rankW at *
 clear na nb ea eb h1 h2
 by_cases p : 9223372036854775808 ≤ a
 ·rw [if_pos p] at sa c3
  by_cases q : 9223372036854775808 ≤ b
  ·rw [if_pos q] at sb c3
   rw [if_pos p, if_pos q]
   by_cases l : x < y
   ·rw [if_pos l]; omega
   ·rw [if_neg l]
    by_cases g : y < x
    ·rw [if_pos g]; omega
    ·rw [if_neg g]; omega
  ·rw [if_neg q] at sb c3
   rw [if_pos p, if_neg q]
   by_cases l : x < y
   ·rw [if_pos l]; omega
   ·rw [if_neg l]
    by_cases g : y < x
    ·rw [if_pos g]; omega
    ·rw [if_neg g]; omega
 ·rw [if_neg p] at sa c3
  by_cases q : 9223372036854775808 ≤ b
  ·rw [if_pos q] at sb c3
   rw [if_neg p, if_pos q]
   by_cases l : x < y
   ·rw [if_pos l]; omega
   ·rw [if_neg l]
    by_cases g : y < x
    ·rw [if_pos g]; omega
    ·rw [if_neg g]; omega
  ·rw [if_neg q] at sb c3
   rw [if_neg p, if_neg q]
   by_cases l : x < y
   ·rw [if_pos l]; omega
   ·rw [if_neg l]
    by_cases g : y < x
    ·rw [if_pos g]; omega
    ·rw [if_neg g]; omega
end Nm
end Go.Proofs.YtkajcldmolcllaaGreat
