/- Contract of package event's of. -/
import Derived.Test.YtfmnacebgplpcaaGreatIcab
import Derived.Deep.WholeRow
import Derived.Laws.Tables
import Derived.Laws.EntriesVeiled
set_option linter.unusedVariables false
open Go.RowKit
namespace Go.Proofs.YtfmnacebgplpcaaGreat
namespace Ev
open Nm (ret_int ret_bool)

def tbl : Array Value := #[.string ⟨#[]⟩, .bool false, .bool false, .bool false, .bool false, .bool false, .bool false, .string ⟨#[115, 116, 97, 114, 116, 101, 100]⟩, .bool false, .bool false, .bool false, .bool true, .bool false, .bool true, .string ⟨#[100, 105, 115, 112, 97, 116, 99, 104, 101, 100]⟩, .bool true, .bool true, .bool true, .bool false, .bool false, .bool false, .string ⟨#[102, 105, 110, 105, 115, 104, 101, 100]⟩, .bool true, .bool true, .bool false, .bool false, .bool false, .bool true, .string ⟨#[98, 114, 111, 107, 101, 110]⟩, .bool true, .bool true, .bool true, .bool false, .bool true, .bool false, .string ⟨#[102, 105, 114, 101, 100]⟩, .bool true, .bool false, .bool false, .bool false, .bool false, .bool false, .string ⟨#[115, 105, 103, 110, 97, 108]⟩, .bool false, .bool false, .bool false, .bool true, .bool true, .bool true, .string ⟨#[115, 99, 104, 101, 100, 117, 108, 101, 100]⟩, .bool true, .bool false, .bool false, .bool true, .bool false, .bool true, .string ⟨#[97, 114, 109, 101, 100]⟩, .bool true, .bool false, .bool true, .bool false, .bool false, .bool false, .string ⟨#[99, 111, 109, 112, 108, 101, 116, 101, 100]⟩, .bool false, .bool false, .bool false, .bool false, .bool false, .bool true, .string ⟨#[102, 97, 105, 108, 101, 100]⟩, .bool false, .bool false, .bool false, .bool false, .bool true, .bool false, .string ⟨#[112, 97, 110, 105, 99, 107, 101, 100]⟩, .bool false, .bool false, .bool false, .bool false, .bool true, .bool false]
def ztbl : Array Value := #[.string ⟨#[]⟩, .bool false, .bool false, .bool false, .bool false, .bool false, .bool false, .string ⟨#[]⟩, .bool false, .bool false, .bool false, .bool false, .bool false, .bool false, .string ⟨#[]⟩, .bool false, .bool false, .bool false, .bool false, .bool false, .bool false, .string ⟨#[]⟩, .bool false, .bool false, .bool false, .bool false, .bool false, .bool false, .string ⟨#[]⟩, .bool false, .bool false, .bool false, .bool false, .bool false, .bool false, .string ⟨#[]⟩, .bool false, .bool false, .bool false, .bool false, .bool false, .bool false, .string ⟨#[]⟩, .bool false, .bool false, .bool false, .bool false, .bool false, .bool false, .string ⟨#[]⟩, .bool false, .bool false, .bool false, .bool false, .bool false, .bool false, .string ⟨#[]⟩, .bool false, .bool false, .bool false, .bool false, .bool false, .bool false, .string ⟨#[]⟩, .bool false, .bool false, .bool false, .bool false, .bool false, .bool false, .string ⟨#[]⟩, .bool false, .bool false, .bool false, .bool false, .bool false, .bool false, .string ⟨#[]⟩, .bool false, .bool false, .bool false, .bool false, .bool false, .bool false]

theorem tbl_built : Tryz.prog.built 208 [(1, .agg #[.string ⟨#[115, 116, 97, 114, 116, 101, 100]⟩, .bool false, .bool false, .bool false, .bool true, .bool false, .bool true]), (2, .agg #[.string ⟨#[100, 105, 115, 112, 97, 116, 99, 104, 101, 100]⟩, .bool true, .bool true, .bool true, .bool false, .bool false, .bool false]), (3, .agg #[.string ⟨#[102, 105, 110, 105, 115, 104, 101, 100]⟩, .bool true, .bool true, .bool false, .bool false, .bool false, .bool true]), (4, .agg #[.string ⟨#[98, 114, 111, 107, 101, 110]⟩, .bool true, .bool true, .bool true, .bool false, .bool true, .bool false]), (5, .agg #[.string ⟨#[102, 105, 114, 101, 100]⟩, .bool true, .bool false, .bool false, .bool false, .bool false, .bool false]), (6, .agg #[.string ⟨#[115, 105, 103, 110, 97, 108]⟩, .bool false, .bool false, .bool false, .bool true, .bool true, .bool true]), (7, .agg #[.string ⟨#[115, 99, 104, 101, 100, 117, 108, 101, 100]⟩, .bool true, .bool false, .bool false, .bool true, .bool false, .bool true]), (8, .agg #[.string ⟨#[97, 114, 109, 101, 100]⟩, .bool true, .bool false, .bool true, .bool false, .bool false, .bool false]), (9, .agg #[.string ⟨#[99, 111, 109, 112, 108, 101, 116, 101, 100]⟩, .bool false, .bool false, .bool false, .bool false, .bool false, .bool true]), (10, .agg #[.string ⟨#[102, 97, 105, 108, 101, 100]⟩, .bool false, .bool false, .bool false, .bool false, .bool true, .bool false]), (11, .agg #[.string ⟨#[112, 97, 110, 105, 99, 107, 101, 100]⟩, .bool false, .bool false, .bool false, .bool false, .bool true, .bool false])] = some tbl := by kernel_rfl
theorem tbl_zero : (Tryz.prog.info? 208).map (fun i => (i.zero, i.size)) = some (some (.agg ztbl), 84) := by kernel_rfl

theorem tbl_at (k : Nat) (h1 : 1 ≤ k) (h2 : k ≤ 11) : tbl[k * 7]? = some (.string (nameOf k)) ∧ tbl[k * 7 + 1]? = some (.bool ((fieldsOf k).contains 0)) ∧ tbl[k * 7 + 2]? = some (.bool ((fieldsOf k).contains 1)) ∧ tbl[k * 7 + 3]? = some (.bool ((fieldsOf k).contains 2)) ∧
  tbl[k * 7 + 4]? = some (.bool ((fieldsOf k).contains 3)) ∧ tbl[k * 7 + 5]? = some (.bool ((fieldsOf k).contains 4)) ∧ tbl[k * 7 + 6]? = some (.bool ((fieldsOf k).contains 5)) := by
 rcases (by omega : k = 1 ∨ k = 2 ∨ k = 3 ∨ k = 4 ∨ k = 5 ∨ k = 6 ∨ k = 7 ∨ k = 8 ∨ k = 9 ∨ k = 10 ∨ k = 11) with rfl | rfl | rfl | rfl | rfl | rfl | rfl | rfl | rfl | rfl | rfl
 all_goals exact ⟨rfl, rfl, rfl, rfl, rfl, rfl, rfl⟩

theorem seven_size (w' : World) (B : Nat) (a b c d e f g : Value) : (((((((w'.setCell ⟨B, 0, none⟩ a).setCell ⟨B, 1, none⟩ b).setCell ⟨B, 2, none⟩ c).setCell ⟨B, 3, none⟩ d).setCell ⟨B, 4, none⟩ e).setCell ⟨B, 5, none⟩ f).setCell ⟨B, 6, none⟩ g).heap.size = w'.heap.size := by simp [World.setCell]
theorem seven_below {B : Nat} {w w' : World} (h : Below B w w') (a b c d e f g : Value) :
  Below B w (((((((w'.setCell ⟨B, 0, none⟩ a).setCell ⟨B, 1, none⟩ b).setCell ⟨B, 2, none⟩ c).setCell ⟨B, 3, none⟩ d).setCell ⟨B, 4, none⟩ e).setCell ⟨B, 5, none⟩ f).setCell ⟨B, 6, none⟩ g) :=
 ((((((h.setCell (p := ⟨B, 0, none⟩) (Nat.le_refl _) _).setCell (p := ⟨B, 1, none⟩) (Nat.le_refl _) _).setCell (p := ⟨B, 2, none⟩) (Nat.le_refl _) _).setCell (p := ⟨B, 3, none⟩) (Nat.le_refl _) _).setCell (p := ⟨B, 4, none⟩) (Nat.le_refl _) _).setCell (p := ⟨B, 5, none⟩) (Nat.le_refl _) _).setCell (p := ⟨B, 6, none⟩) (Nat.le_refl _) _

set_option maxRecDepth 100000 in
set_option maxHeartbeats 1000000 in
theorem of_in' (k : Nat) (h1 : 1 ≤ k) (h2 : k ≤ 11) (nm : ByteArray) (b0 b1 b2 b3 b4 b5 : Bool) (t0 : tbl[k * 7]? = some (.string nm)) (t1 : tbl[k * 7 + 1]? = some (.bool b0)) (t2 : tbl[k * 7 + 2]? = some (.bool b1)) (t3 : tbl[k * 7 + 3]? = some (.bool b2)) (t4 : tbl[k * 7 + 4]? = some (.bool b3)) (t5 : tbl[k * 7 + 5]? = some (.bool b4)) (t6 : tbl[k * 7 + 6]? = some (.bool b5)) (w : World) :
  Calls Tryz.prog 100 #[.int .i64 k] w fun e w' => e = .returned (.tuple #[.agg #[.string nm, .bool b0, .bool b1, .bool b2, .bool b3, .bool b4, .bool b5], .bool true]) ∧ Below w.heap.size w w' := by
 have T0 := Lib.hid t0; have T1 := Lib.hid t1; have T2 := Lib.hid t2; have T3 := Lib.hid t3; have T4 := Lib.hid t4; have T5 := Lib.hid t5; have T6 := Lib.hid t6
 clear t0 t1 t2 t3 t4 t5 t6
 have HR0 : Hid (RowAt (w.alloc (.cells (rowCellsOf ⟨#[]⟩ []) 161)) w.heap.size (rowCellsOf ⟨#[]⟩ [])) := Lib.hid (heap_alloc_new w _)
 have HB := Lib.hid ((Below.refl w.heap.size w).alloc (Nat.le_refl _) (.cells #[.string ⟨#[]⟩, .bool false, .bool false, .bool false, .bool false, .bool false, .bool false] 161))
 have W1 := Lib.hid (with_lit [3, 5] (by decide) (by decide))
 have W2 := Lib.hid (with_lit [0, 1, 2] (by decide) (by decide))
 have W3 := Lib.hid (with_lit [0, 1, 5] (by decide) (by decide))
 have W4 := Lib.hid (with_lit [0, 1, 2, 4] (by decide) (by decide))
 have W5 := Lib.hid (with_lit [0] (by decide) (by decide))
 have W6 := Lib.hid (with_lit [3, 4, 5] (by decide) (by decide))
 have W7 := Lib.hid (with_lit [0, 3, 5] (by decide) (by decide))
 have W8 := Lib.hid (with_lit [0, 2] (by decide) (by decide))
 have W9 := Lib.hid (with_lit [5] (by decide) (by decide))
 have W10 := Lib.hid (with_lit [4] (by decide) (by decide))
 have W11 := Lib.hid (with_lit [4] (by decide) (by decide))
 have hbt := tbl_built
 obtain ⟨hzt, hsz⟩ := zero_of_info tbl_zero
 have HSZ := Lib.hid hsz; clear hsz
 go_enter Tryz.func100, Tryz.ntmps100
 go_wp2_with fail
 refine (W1.out _ _ _ _ _ #[.string ⟨#[115, 116, 97, 114, 116, 101, 100]⟩, .bool false, .bool false, .bool false, .bool true, .bool false, .bool true] rfl (by simp) rfl rfl).mono ?_
 rintro e w1 ⟨rfl, hb, hz1⟩
 have B1 := Lib.hid (HB.out.trans (hb.mono (by omega)))
 have hy1 : w.heap.size < w1.heap.size := by omega
 have R1 := Lib.hid (show RowAt w1 w.heap.size _ from (hb.block w.heap.size (by omega)).trans HR0.out)
 clear hb HB HR0
 go_wp2_with fail
 refine (W2.out _ _ _ _ _ #[.string ⟨#[100, 105, 115, 112, 97, 116, 99, 104, 101, 100]⟩, .bool true, .bool true, .bool true, .bool false, .bool false, .bool false] rfl (by rfl) rfl rfl).mono ?_
 rintro e w2 ⟨rfl, hb, hz2⟩
 have B2 := Lib.hid (B1.out.trans (hb.mono (by omega)))
 have hy2 : w.heap.size < w2.heap.size := by omega
 have R2 := Lib.hid (show RowAt w2 w.heap.size _ from (hb.block w.heap.size (by omega)).trans R1.out)
 clear hb B1 R1 W2
 go_wp2_with fail
 refine (W3.out _ _ _ _ _ #[.string ⟨#[102, 105, 110, 105, 115, 104, 101, 100]⟩, .bool true, .bool true, .bool false, .bool false, .bool false, .bool true] rfl (by rfl) rfl rfl).mono ?_
 rintro e w3 ⟨rfl, hb, hz3⟩
 have B3 := Lib.hid (B2.out.trans (hb.mono (by omega)))
 have hy3 : w.heap.size < w3.heap.size := by omega
 have R3 := Lib.hid (show RowAt w3 w.heap.size _ from (hb.block w.heap.size (by omega)).trans R2.out)
 clear hb B2 R2 W3
 go_wp2_with fail
 refine (W4.out _ _ _ _ _ #[.string ⟨#[98, 114, 111, 107, 101, 110]⟩, .bool true, .bool true, .bool true, .bool false, .bool true, .bool false] rfl (by rfl) rfl rfl).mono ?_
 rintro e w4 ⟨rfl, hb, hz4⟩
 have B4 := Lib.hid (B3.out.trans (hb.mono (by omega)))
 have hy4 : w.heap.size < w4.heap.size := by omega
 have R4 := Lib.hid (show RowAt w4 w.heap.size _ from (hb.block w.heap.size (by omega)).trans R3.out)
 clear hb B3 R3 W4
 go_wp2_with fail
 refine (W5.out _ _ _ _ _ #[.string ⟨#[102, 105, 114, 101, 100]⟩, .bool true, .bool false, .bool false, .bool false, .bool false, .bool false] rfl (by rfl) rfl rfl).mono ?_
 rintro e w5 ⟨rfl, hb, hz5⟩
 have B5 := Lib.hid (B4.out.trans (hb.mono (by omega)))
 have hy5 : w.heap.size < w5.heap.size := by omega
 have R5 := Lib.hid (show RowAt w5 w.heap.size _ from (hb.block w.heap.size (by omega)).trans R4.out)
 clear hb B4 R4 W5
 go_wp2_with fail
 refine (W6.out _ _ _ _ _ #[.string ⟨#[115, 105, 103, 110, 97, 108]⟩, .bool false, .bool false, .bool false, .bool true, .bool true, .bool true] rfl (by rfl) rfl rfl).mono ?_
 rintro e w6 ⟨rfl, hb, hz6⟩
 have B6 := Lib.hid (B5.out.trans (hb.mono (by omega)))
 have hy6 : w.heap.size < w6.heap.size := by omega
 have R6 := Lib.hid (show RowAt w6 w.heap.size _ from (hb.block w.heap.size (by omega)).trans R5.out)
 clear hb B5 R5 W6
 go_wp2_with fail
 refine (W7.out _ _ _ _ _ #[.string ⟨#[115, 99, 104, 101, 100, 117, 108, 101, 100]⟩, .bool true, .bool false, .bool false, .bool true, .bool false, .bool true] rfl (by rfl) rfl rfl).mono ?_
 rintro e w7 ⟨rfl, hb, hz7⟩
 have B7 := Lib.hid (B6.out.trans (hb.mono (by omega)))
 have hy7 : w.heap.size < w7.heap.size := by omega
 have R7 := Lib.hid (show RowAt w7 w.heap.size _ from (hb.block w.heap.size (by omega)).trans R6.out)
 clear hb B6 R6 W7
 go_wp2_with fail
 refine (W8.out _ _ _ _ _ #[.string ⟨#[97, 114, 109, 101, 100]⟩, .bool true, .bool false, .bool true, .bool false, .bool false, .bool false] rfl (by rfl) rfl rfl).mono ?_
 rintro e w8 ⟨rfl, hb, hz8⟩
 have B8 := Lib.hid (B7.out.trans (hb.mono (by omega)))
 have hy8 : w.heap.size < w8.heap.size := by omega
 have R8 := Lib.hid (show RowAt w8 w.heap.size _ from (hb.block w.heap.size (by omega)).trans R7.out)
 clear hb B7 R7 W8
 go_wp2_with fail
 refine (W9.out _ _ _ _ _ #[.string ⟨#[99, 111, 109, 112, 108, 101, 116, 101, 100]⟩, .bool false, .bool false, .bool false, .bool false, .bool false, .bool true] rfl (by rfl) rfl rfl).mono ?_
 rintro e w9 ⟨rfl, hb, hz9⟩
 have B9 := Lib.hid (B8.out.trans (hb.mono (by omega)))
 have hy9 : w.heap.size < w9.heap.size := by omega
 have R9 := Lib.hid (show RowAt w9 w.heap.size _ from (hb.block w.heap.size (by omega)).trans R8.out)
 clear hb B8 R8 W9
 go_wp2_with fail
 refine (W10.out _ _ _ _ _ #[.string ⟨#[102, 97, 105, 108, 101, 100]⟩, .bool false, .bool false, .bool false, .bool false, .bool true, .bool false] rfl (by rfl) rfl rfl).mono ?_
 rintro e w10 ⟨rfl, hb, hz10⟩
 have B10 := Lib.hid (B9.out.trans (hb.mono (by omega)))
 have hy10 : w.heap.size < w10.heap.size := by omega
 have R10 := Lib.hid (show RowAt w10 w.heap.size _ from (hb.block w.heap.size (by omega)).trans R9.out)
 clear hb B9 R9 W10
 go_wp2_with fail
 refine (W11.out _ _ _ _ _ #[.string ⟨#[112, 97, 110, 105, 99, 107, 101, 100]⟩, .bool false, .bool false, .bool false, .bool false, .bool true, .bool false] rfl (by rfl) rfl rfl).mono ?_
 rintro e w11 ⟨rfl, hb, hz11⟩
 have B11 := Lib.hid (B10.out.trans (hb.mono (by omega)))
 have hy11 : w.heap.size < w11.heap.size := by omega
 have R11 := Lib.hid (show RowAt w11 w.heap.size _ from (hb.block w.heap.size (by omega)).trans R10.out)
 clear hb B10 R10 W11
 have hset : (w11.alloc (.cells ztbl 208)).setRow w11.heap.size tbl = w11.alloc (.cells tbl 208) := World.setRow_alloc_new ..
 have hrow := heap_alloc_new w11 (.cells ztbl 208)
 have HROW := Lib.hid hrow; clear hrow
 have hres := R11.out
 have f0 := hres.free 0; have f1 := hres.free 1; have f2 := hres.free 2; have f3 := hres.free 3; have f4 := hres.free 4; have f5 := hres.free 5; have f6 := hres.free 6
 unfold rowCellsOf at hres
 obtain ⟨d0, d1, d2, d3, d4, d5, d6⟩ := hres.cells
 clear hres R11 W1
 have t0 := T0.out; have t1 := T1.out; have t2 := T2.out; have t3 := T3.out; have t4 := T4.out; have t5 := T5.out; have t6 := T6.out
 clear T0 T1 T2 T3 T4 T5 T6
 go_wp2_with (first
  | (refine wpList_build rfl 208 _ rfl ?_ ?_)
  | (refine wpList_store_row rfl 208 _ _ rfl w11.heap.size tbl rfl rfl 208 ztbl HROW.out HSZ.out rfl (by kernel_rfl) ?_))
 refine bodyPost_ret (v := .tuple #[.agg #[.string nm, .bool b0, .bool b1, .bool b2, .bool b3, .bool b4, .bool b5], .bool true]) (by simp [results, Tryz.results100, go_sem, d0, d1, d2, d3, d4, d5, d6, hy11]) rfl ⟨rfl, ?_⟩
 exact (seven_below B11.out _ _ _ _ _ _ _).alloc (by rw [seven_size]; omega) _

set_option maxRecDepth 100000 in
set_option maxHeartbeats 1000000 in
theorem of_out (k : Int) (h : k < 1 ∨ 11 < k) (w : World) : Calls Tryz.prog 100 #[.int .i64 k] w fun e w' => e = .returned (.tuple #[.agg #[.string ⟨#[]⟩, .bool false, .bool false, .bool false, .bool false, .bool false, .bool false], .bool false]) ∧ Below w.heap.size w w' := by
 have H := Lib.hid h; clear h
 have HR0 : Hid (RowAt (w.alloc (.cells (rowCellsOf ⟨#[]⟩ []) 161)) w.heap.size (rowCellsOf ⟨#[]⟩ [])) := Lib.hid (heap_alloc_new w _)
 have HB := Lib.hid ((Below.refl w.heap.size w).alloc (Nat.le_refl _) (.cells #[.string ⟨#[]⟩, .bool false, .bool false, .bool false, .bool false, .bool false, .bool false] 161))
 have W1 := Lib.hid (with_lit [3, 5] (by decide) (by decide))
 have W2 := Lib.hid (with_lit [0, 1, 2] (by decide) (by decide))
 have W3 := Lib.hid (with_lit [0, 1, 5] (by decide) (by decide))
 have W4 := Lib.hid (with_lit [0, 1, 2, 4] (by decide) (by decide))
 have W5 := Lib.hid (with_lit [0] (by decide) (by decide))
 have W6 := Lib.hid (with_lit [3, 4, 5] (by decide) (by decide))
 have W7 := Lib.hid (with_lit [0, 3, 5] (by decide) (by decide))
 have W8 := Lib.hid (with_lit [0, 2] (by decide) (by decide))
 have W9 := Lib.hid (with_lit [5] (by decide) (by decide))
 have W10 := Lib.hid (with_lit [4] (by decide) (by decide))
 have W11 := Lib.hid (with_lit [4] (by decide) (by decide))
 have hbt := tbl_built
 obtain ⟨hzt, hsz⟩ := zero_of_info tbl_zero
 have HSZ := Lib.hid hsz; clear hsz
 go_enter Tryz.func100, Tryz.ntmps100
 go_wp2_with fail
 refine (W1.out _ _ _ _ _ #[.string ⟨#[115, 116, 97, 114, 116, 101, 100]⟩, .bool false, .bool false, .bool false, .bool true, .bool false, .bool true] rfl (by simp) rfl rfl).mono ?_
 rintro e w1 ⟨rfl, hb, hz1⟩
 have B1 := Lib.hid (HB.out.trans (hb.mono (by omega)))
 have hy1 : w.heap.size < w1.heap.size := by omega
 have R1 := Lib.hid (show RowAt w1 w.heap.size _ from (hb.block w.heap.size (by omega)).trans HR0.out)
 clear hb HB HR0
 go_wp2_with fail
 refine (W2.out _ _ _ _ _ #[.string ⟨#[100, 105, 115, 112, 97, 116, 99, 104, 101, 100]⟩, .bool true, .bool true, .bool true, .bool false, .bool false, .bool false] rfl (by rfl) rfl rfl).mono ?_
 rintro e w2 ⟨rfl, hb, hz2⟩
 have B2 := Lib.hid (B1.out.trans (hb.mono (by omega)))
 have hy2 : w.heap.size < w2.heap.size := by omega
 have R2 := Lib.hid (show RowAt w2 w.heap.size _ from (hb.block w.heap.size (by omega)).trans R1.out)
 clear hb B1 R1 W2
 go_wp2_with fail
 refine (W3.out _ _ _ _ _ #[.string ⟨#[102, 105, 110, 105, 115, 104, 101, 100]⟩, .bool true, .bool true, .bool false, .bool false, .bool false, .bool true] rfl (by rfl) rfl rfl).mono ?_
 rintro e w3 ⟨rfl, hb, hz3⟩
 have B3 := Lib.hid (B2.out.trans (hb.mono (by omega)))
 have hy3 : w.heap.size < w3.heap.size := by omega
 have R3 := Lib.hid (show RowAt w3 w.heap.size _ from (hb.block w.heap.size (by omega)).trans R2.out)
 clear hb B2 R2 W3
 go_wp2_with fail
 refine (W4.out _ _ _ _ _ #[.string ⟨#[98, 114, 111, 107, 101, 110]⟩, .bool true, .bool true, .bool true, .bool false, .bool true, .bool false] rfl (by rfl) rfl rfl).mono ?_
 rintro e w4 ⟨rfl, hb, hz4⟩
 have B4 := Lib.hid (B3.out.trans (hb.mono (by omega)))
 have hy4 : w.heap.size < w4.heap.size := by omega
 have R4 := Lib.hid (show RowAt w4 w.heap.size _ from (hb.block w.heap.size (by omega)).trans R3.out)
 clear hb B3 R3 W4
 go_wp2_with fail
 refine (W5.out _ _ _ _ _ #[.string ⟨#[102, 105, 114, 101, 100]⟩, .bool true, .bool false, .bool false, .bool false, .bool false, .bool false] rfl (by rfl) rfl rfl).mono ?_
 rintro e w5 ⟨rfl, hb, hz5⟩
 have B5 := Lib.hid (B4.out.trans (hb.mono (by omega)))
 have hy5 : w.heap.size < w5.heap.size := by omega
 have R5 := Lib.hid (show RowAt w5 w.heap.size _ from (hb.block w.heap.size (by omega)).trans R4.out)
 clear hb B4 R4 W5
 go_wp2_with fail
 refine (W6.out _ _ _ _ _ #[.string ⟨#[115, 105, 103, 110, 97, 108]⟩, .bool false, .bool false, .bool false, .bool true, .bool true, .bool true] rfl (by rfl) rfl rfl).mono ?_
 rintro e w6 ⟨rfl, hb, hz6⟩
 have B6 := Lib.hid (B5.out.trans (hb.mono (by omega)))
 have hy6 : w.heap.size < w6.heap.size := by omega
 have R6 := Lib.hid (show RowAt w6 w.heap.size _ from (hb.block w.heap.size (by omega)).trans R5.out)
 clear hb B5 R5 W6
 go_wp2_with fail
 refine (W7.out _ _ _ _ _ #[.string ⟨#[115, 99, 104, 101, 100, 117, 108, 101, 100]⟩, .bool true, .bool false, .bool false, .bool true, .bool false, .bool true] rfl (by rfl) rfl rfl).mono ?_
 rintro e w7 ⟨rfl, hb, hz7⟩
 have B7 := Lib.hid (B6.out.trans (hb.mono (by omega)))
 have hy7 : w.heap.size < w7.heap.size := by omega
 have R7 := Lib.hid (show RowAt w7 w.heap.size _ from (hb.block w.heap.size (by omega)).trans R6.out)
 clear hb B6 R6 W7
 go_wp2_with fail
 refine (W8.out _ _ _ _ _ #[.string ⟨#[97, 114, 109, 101, 100]⟩, .bool true, .bool false, .bool true, .bool false, .bool false, .bool false] rfl (by rfl) rfl rfl).mono ?_
 rintro e w8 ⟨rfl, hb, hz8⟩
 have B8 := Lib.hid (B7.out.trans (hb.mono (by omega)))
 have hy8 : w.heap.size < w8.heap.size := by omega
 have R8 := Lib.hid (show RowAt w8 w.heap.size _ from (hb.block w.heap.size (by omega)).trans R7.out)
 clear hb B7 R7 W8
 go_wp2_with fail
 refine (W9.out _ _ _ _ _ #[.string ⟨#[99, 111, 109, 112, 108, 101, 116, 101, 100]⟩, .bool false, .bool false, .bool false, .bool false, .bool false, .bool true] rfl (by rfl) rfl rfl).mono ?_
 rintro e w9 ⟨rfl, hb, hz9⟩
 have B9 := Lib.hid (B8.out.trans (hb.mono (by omega)))
 have hy9 : w.heap.size < w9.heap.size := by omega
 have R9 := Lib.hid (show RowAt w9 w.heap.size _ from (hb.block w.heap.size (by omega)).trans R8.out)
 clear hb B8 R8 W9
 go_wp2_with fail
 refine (W10.out _ _ _ _ _ #[.string ⟨#[102, 97, 105, 108, 101, 100]⟩, .bool false, .bool false, .bool false, .bool false, .bool true, .bool false] rfl (by rfl) rfl rfl).mono ?_
 rintro e w10 ⟨rfl, hb, hz10⟩
 have B10 := Lib.hid (B9.out.trans (hb.mono (by omega)))
 have hy10 : w.heap.size < w10.heap.size := by omega
 have R10 := Lib.hid (show RowAt w10 w.heap.size _ from (hb.block w.heap.size (by omega)).trans R9.out)
 clear hb B9 R9 W10
 go_wp2_with fail
 refine (W11.out _ _ _ _ _ #[.string ⟨#[112, 97, 110, 105, 99, 107, 101, 100]⟩, .bool false, .bool false, .bool false, .bool false, .bool true, .bool false] rfl (by rfl) rfl rfl).mono ?_
 rintro e w11 ⟨rfl, hb, hz11⟩
 have B11 := Lib.hid (B10.out.trans (hb.mono (by omega)))
 have hy11 : w.heap.size < w11.heap.size := by omega
 have R11 := Lib.hid (show RowAt w11 w.heap.size _ from (hb.block w.heap.size (by omega)).trans R10.out)
 clear hb B10 R10 W11
 have hset : (w11.alloc (.cells ztbl 208)).setRow w11.heap.size tbl = w11.alloc (.cells tbl 208) := World.setRow_alloc_new ..
 have hrow := heap_alloc_new w11 (.cells ztbl 208)
 have HROW := Lib.hid hrow; clear hrow
 have hres := R11.out
 have f0 := hres.free 0; have f1 := hres.free 1; have f2 := hres.free 2; have f3 := hres.free 3; have f4 := hres.free 4; have f5 := hres.free 5; have f6 := hres.free 6
 unfold rowCellsOf at hres
 obtain ⟨d0, d1, d2, d3, d4, d5, d6⟩ := hres.cells
 clear hres R11 W1
 rcases H.out with h | h
 all_goals
  clear H
  go_wp2_with (first
   | (refine wpList_build rfl 208 _ rfl ?_ ?_)
   | (refine wpList_store_row rfl 208 _ _ rfl w11.heap.size tbl rfl rfl 208 ztbl HROW.out HSZ.out rfl (by kernel_rfl) ?_))
  refine bodyPost_ret (v := .tuple #[.agg #[.string ⟨#[]⟩, .bool false, .bool false, .bool false, .bool false, .bool false, .bool false], .bool false]) (by simp [results, Tryz.results100, go_sem, d0, d1, d2, d3, d4, d5, d6, hy11]) rfl ⟨rfl, ?_⟩
  exact (seven_below B11.out _ _ _ _ _ _ _).alloc (by rw [seven_size]; omega) _

theorem of_in (k : Nat) (h1 : 1 ≤ k) (h2 : k ≤ 11) (w : World) : Calls Tryz.prog 100 #[.int .i64 k] w fun e w' => e = .returned (.tuple #[.agg (rowCellsOf (nameOf k) (fieldsOf k)), .bool true]) ∧ Below w.heap.size w w' := by
 obtain ⟨t0, t1, t2, t3, t4, t5, t6⟩ := tbl_at k h1 h2
 exact of_in' k h1 h2 _ _ _ _ _ _ _ t0 t1 t2 t3 t4 t5 t6 w
end Ev
end Go.Proofs.YtfmnacebgplpcaaGreat
namespace Go.Proofs.YtfmnacebgplpcaaGreat
namespace Vt
open Nm (bitsW ret_int ret_bool)

theorem bv0 (n : Int) (f : Nat) (s : ByteArray) (A : Option Addr) (m c : Nat) : blankV 0 n f s A m c = .agg #[.int .i64 0, .int .i64 n, .float .f64 f, .string s, .slice A m c] := by simp [blankV]
theorem bv1 (n : Int) (f : Nat) (s : ByteArray) (A : Option Addr) (m c : Nat) : blankV 1 n f s A m c = .agg #[.int .i64 1, .int .i64 0, .float .f64 f, .string s, .slice A m c] := by simp [blankV]
theorem bv2 (n : Int) (f : Nat) (s : ByteArray) (A : Option Addr) (m c : Nat) : blankV 2 n f s A m c = .agg #[.int .i64 2, .int .i64 n, .float .f64 0, .string s, .slice A m c] := by simp [blankV]
theorem bv3 (n : Int) (f : Nat) (s : ByteArray) (A : Option Addr) (m c : Nat) : blankV 3 n f s A m c = .agg #[.int .i64 3, .int .i64 n, .float .f64 f, .string ⟨#[]⟩, .slice A m c] := by simp [blankV]
theorem bv4 (n : Int) (f : Nat) (s : ByteArray) (A : Option Addr) (m c : Nat) : blankV 4 n f s A m c = .agg #[.int .i64 4, .int .i64 n, .float .f64 f, .string s, .slice none 0 0] := by simp [blankV]

def WalkAt (w : World) (g : Nat) : Prop := w.cell? ⟨g, 0, none⟩ = some (.func (.func 151) #[] #[.pointer (some ⟨g, 0, none⟩)]) ∧ g < w.heap.size
theorem WalkAt.later {w w' : World} {g : Nat} (h : WalkAt w g) (hb : Below w.heap.size w w') : WalkAt w' g := ⟨(hb.cell (p := ⟨g, 0, none⟩) h.2).trans h.1, Nat.lt_of_lt_of_le h.2 hb.size⟩

theorem bits0 : bitsW 0 = 0 := by decide +kernel

set_option maxRecDepth 100000 in
set_option maxHeartbeats 2000000 in
theorem vfail_0 (n : Int) (f : Nat) (s : ByteArray) (m cap : Nat) (A : Option Addr) (h : ¬ HeadV 0 n f s m) (x : Int) (g : Nat) (w : World) :
  Calls Tryz.prog 151 #[.agg #[.int .i64 0, .int .i64 n, .float .f64 f, .string s, .slice A m cap], .int .i64 x, .pointer (some ⟨g, 0, none⟩)] w fun e w' => e = .returned (.bool false) ∧ Below w.heap.size w w' := by
 have H := Lib.hid h; clear h
 have HAB := Lib.hid (box_below w 0 n f s A m cap)
 have HBX := Lib.hid (BoxAt.new w 0 n f s A m cap)
 have BL := blank_any 0 n f s A m cap
 rw [bv0] at BL
 have BL := Lib.hid BL
 have O := Lib.hid (of_any 0)
 rw [kv0] at O
 have BI := Lib.hid (Nm.bits_any)
 go_enter Tryz.func151, Tryz.ntmps151
 go_wp2_with fail
 refine (BL.out _).mono ?_
 rintro e w1 ⟨rfl, hb1⟩
 have hbox := HBX.out.later hb1 (by simp)
 obtain ⟨c0, c1, c2, c3, c4⟩ := hbox.cells
 have hlt := hbox.lt
 have HB1 := Lib.hid (HAB.out.trans (hb1.mono (by simp)))
 clear hbox
 clear hb1 HBX HAB BL
 go_wp2_with fail
 refine (O.out _).mono ?_
 rintro e w' ⟨rfl, rfl⟩
 go_wp2_with (go_at_call 154; refine (BI.out _ _).mono ?_; rintro e w' ⟨rfl, rfl⟩)
 all_goals first
  | (go_ret; exact ⟨rfl, HB1.out.alloc (by omega) _⟩)
  | (exfalso
     refine H.out ⟨?_, ?_, ?_, ?_⟩
     all_goals clear H HB1 O BI
     all_goals first
      | omega
      | (right; assumption)
      | (right; omega))

set_option maxRecDepth 100000 in
set_option maxHeartbeats 2000000 in
theorem vfail_1 (n : Int) (f : Nat) (s : ByteArray) (m cap : Nat) (A : Option Addr) (h : ¬ HeadV 1 n f s m) (x : Int) (g : Nat) (w : World) :
  Calls Tryz.prog 151 #[.agg #[.int .i64 1, .int .i64 n, .float .f64 f, .string s, .slice A m cap], .int .i64 x, .pointer (some ⟨g, 0, none⟩)] w fun e w' => e = .returned (.bool false) ∧ Below w.heap.size w w' := by
 have H := Lib.hid h; clear h
 have HAB := Lib.hid (box_below w 1 n f s A m cap)
 have HBX := Lib.hid (BoxAt.new w 1 n f s A m cap)
 have BL := blank_any 1 n f s A m cap
 rw [bv1] at BL
 have BL := Lib.hid BL
 have O := Lib.hid (of_any 1)
 rw [kv1] at O
 have BI := Lib.hid (Nm.bits_any)
 go_enter Tryz.func151, Tryz.ntmps151
 go_wp2_with fail
 refine (BL.out _).mono ?_
 rintro e w1 ⟨rfl, hb1⟩
 have hbox := HBX.out.later hb1 (by simp)
 obtain ⟨c0, c1, c2, c3, c4⟩ := hbox.cells
 have hlt := hbox.lt
 have HB1 := Lib.hid (HAB.out.trans (hb1.mono (by simp)))
 clear hbox
 clear hb1 HBX HAB BL
 go_wp2_with fail
 refine (O.out _).mono ?_
 rintro e w' ⟨rfl, rfl⟩
 go_wp2_with (go_at_call 154; refine (BI.out _ _).mono ?_; rintro e w' ⟨rfl, rfl⟩)
 all_goals first
  | (go_ret; exact ⟨rfl, HB1.out.alloc (by omega) _⟩)
  | (exfalso
     refine H.out ⟨?_, ?_, ?_, ?_⟩
     all_goals clear H HB1 O BI
     all_goals first
      | omega
      | (right; assumption)
      | (right; omega))

set_option maxRecDepth 100000 in
set_option maxHeartbeats 2000000 in
theorem vfail_2 (n : Int) (f : Nat) (s : ByteArray) (m cap : Nat) (A : Option Addr) (h : ¬ HeadV 2 n f s m) (x : Int) (g : Nat) (w : World) :
  Calls Tryz.prog 151 #[.agg #[.int .i64 2, .int .i64 n, .float .f64 f, .string s, .slice A m cap], .int .i64 x, .pointer (some ⟨g, 0, none⟩)] w fun e w' => e = .returned (.bool false) ∧ Below w.heap.size w w' := by
 have H := Lib.hid h; clear h
 have HAB := Lib.hid (box_below w 2 n f s A m cap)
 have HBX := Lib.hid (BoxAt.new w 2 n f s A m cap)
 have BL := blank_any 2 n f s A m cap
 rw [bv2] at BL
 have BL := Lib.hid BL
 have O := Lib.hid (of_any 2)
 rw [kv2] at O
 have BI := Lib.hid (Nm.bits_any)
 have b00 := bits0
 go_enter Tryz.func151, Tryz.ntmps151
 go_wp2_with fail
 refine (BL.out _).mono ?_
 rintro e w1 ⟨rfl, hb1⟩
 have hbox := HBX.out.later hb1 (by simp)
 obtain ⟨c0, c1, c2, c3, c4⟩ := hbox.cells
 have hlt := hbox.lt
 have HB1 := Lib.hid (HAB.out.trans (hb1.mono (by simp)))
 clear hbox
 clear hb1 HBX HAB BL
 go_wp2_with fail
 refine (O.out _).mono ?_
 rintro e w' ⟨rfl, rfl⟩
 go_wp2_with (go_at_call 154; refine (BI.out _ _).mono ?_; rintro e w' ⟨rfl, rfl⟩)
 all_goals first
  | (go_ret; exact ⟨rfl, HB1.out.alloc (by omega) _⟩)
  | (exfalso
     refine H.out ⟨?_, ?_, ?_, ?_⟩
     all_goals clear H HB1 O BI
     all_goals first
      | omega
      | (right; assumption)
      | (right; omega))

set_option maxRecDepth 100000 in
set_option maxHeartbeats 2000000 in
theorem vfail_3 (n : Int) (f : Nat) (s : ByteArray) (m cap : Nat) (A : Option Addr) (h : ¬ HeadV 3 n f s m) (x : Int) (g : Nat) (w : World) :
  Calls Tryz.prog 151 #[.agg #[.int .i64 3, .int .i64 n, .float .f64 f, .string s, .slice A m cap], .int .i64 x, .pointer (some ⟨g, 0, none⟩)] w fun e w' => e = .returned (.bool false) ∧ Below w.heap.size w w' := by
 have H := Lib.hid h; clear h
 have HAB := Lib.hid (box_below w 3 n f s A m cap)
 have HBX := Lib.hid (BoxAt.new w 3 n f s A m cap)
 have BL := blank_any 3 n f s A m cap
 rw [bv3] at BL
 have BL := Lib.hid BL
 have O := Lib.hid (of_any 3)
 rw [kv3] at O
 have BI := Lib.hid (Nm.bits_any)
 go_enter Tryz.func151, Tryz.ntmps151
 go_wp2_with fail
 refine (BL.out _).mono ?_
 rintro e w1 ⟨rfl, hb1⟩
 have hbox := HBX.out.later hb1 (by simp)
 obtain ⟨c0, c1, c2, c3, c4⟩ := hbox.cells
 have hlt := hbox.lt
 have HB1 := Lib.hid (HAB.out.trans (hb1.mono (by simp)))
 clear hbox
 clear hb1 HBX HAB BL
 go_wp2_with fail
 refine (O.out _).mono ?_
 rintro e w' ⟨rfl, rfl⟩
 go_wp2_with (go_at_call 154; refine (BI.out _ _).mono ?_; rintro e w' ⟨rfl, rfl⟩)
 all_goals first
  | (go_ret; exact ⟨rfl, HB1.out.alloc (by omega) _⟩)
  | (exfalso
     refine H.out ⟨?_, ?_, ?_, ?_⟩
     all_goals clear H HB1 O BI
     all_goals first
      | omega
      | (right; assumption)
      | (right; omega))

set_option maxRecDepth 100000 in
set_option maxHeartbeats 2000000 in
theorem vfail_4 (n : Int) (f : Nat) (s : ByteArray) (m cap : Nat) (A : Option Addr) (h : ¬ HeadV 4 n f s m) (x : Int) (g : Nat) (w : World) :
  Calls Tryz.prog 151 #[.agg #[.int .i64 4, .int .i64 n, .float .f64 f, .string s, .slice A m cap], .int .i64 x, .pointer (some ⟨g, 0, none⟩)] w fun e w' => e = .returned (.bool false) ∧ Below w.heap.size w w' := by
 have H := Lib.hid h; clear h
 have HAB := Lib.hid (box_below w 4 n f s A m cap)
 have HBX := Lib.hid (BoxAt.new w 4 n f s A m cap)
 have BL := blank_any 4 n f s A m cap
 rw [bv4] at BL
 have BL := Lib.hid BL
 have O := Lib.hid (of_any 4)
 rw [kv4] at O
 have BI := Lib.hid (Nm.bits_any)
 go_enter Tryz.func151, Tryz.ntmps151
 go_wp2_with fail
 refine (BL.out _).mono ?_
 rintro e w1 ⟨rfl, hb1⟩
 have hbox := HBX.out.later hb1 (by simp)
 obtain ⟨c0, c1, c2, c3, c4⟩ := hbox.cells
 have hlt := hbox.lt
 have HB1 := Lib.hid (HAB.out.trans (hb1.mono (by simp)))
 clear hbox
 clear hb1 HBX HAB BL
 go_wp2_with fail
 refine (O.out _).mono ?_
 rintro e w' ⟨rfl, rfl⟩
 go_wp2_with (go_at_call 154; refine (BI.out _ _).mono ?_; rintro e w' ⟨rfl, rfl⟩)
 all_goals first
  | (go_ret; exact ⟨rfl, HB1.out.alloc (by omega) _⟩)
  | (exfalso
     refine H.out ⟨?_, ?_, ?_, ?_⟩
     all_goals clear H HB1 O BI
     all_goals first
      | omega
      | (right; assumption)
      | (right; omega))

theorem M399 {p : Prop} (h : p := by
 go_enter Tryz.func151, Tryz.ntmps151
 go_wp2_with fail
 refine (BL.out _).mono ?_
 rintro e w1 ⟨rfl, hb1⟩
 have hbox := HBX.out.later hb1 (by simp)
 obtain ⟨c0, c1, c2, c3, c4⟩ := hbox.cells
 have hlt := hbox.lt
 have HB1 := Lib.hid (HAB.out.trans (hb1.mono (by simp)))
 exact Y399) : p := h
namespace Q403
theorem Y399 {p : Prop} (h : p := by
 clear hbox
 clear hb1 HBX HAB BL
 go_wp2_with fail
 refine (O.out _).mono ?_
 rintro e w' ⟨rfl, rfl⟩
 go_wp2_with (go_at_call 154; refine (BI.out _ _).mono ?_; rintro e w' ⟨rfl, rfl⟩)
 go_loop [49] (fun i => i = .int .i64 0) (fun _ => 0)
 case atStart => exact rfl
 case round =>
  subst hrel
  go_wp2_with fail
  go_ret
  exact ⟨rfl, HB1.out.alloc (by omega) _⟩) : p := h
end Q403
theorem M31 {p : Prop} (h : p := by
 open Q403 in exact M399) : p := h
set_option maxRecDepth 100000 in
set_option maxHeartbeats 1000000 in
theorem vpass_0 (f : Nat) (s : ByteArray) (hb0 : bitsW f = 0) (hs0 : s.toList = []) (A : Option Addr) (cap : Nat) (x : Int) (g : Nat) (w : World) :
  Calls Tryz.prog 151 #[.agg #[.int .i64 0, .int .i64 0, .float .f64 f, .string s, .slice A 0 cap], .int .i64 x, .pointer (some ⟨g, 0, none⟩)] w fun e w' => e = .returned (.bool true) ∧ Below w.heap.size w w' := by
 have HAB := Lib.hid (box_below w 0 0 f s A 0 cap)
 have HBX := Lib.hid (BoxAt.new w 0 0 f s A 0 cap)
 have BL := blank_any 0 0 f s A 0 cap
 rw [bv0] at BL
 have BL := Lib.hid BL
 have O := Lib.hid (of_any 0)
 rw [kv0] at O
 have BI := Lib.hid (Nm.bits_any)
 exact M31

set_option maxRecDepth 100000 in
set_option maxHeartbeats 1000000 in
theorem vpass_1 (n : Int) (f : Nat) (s : ByteArray) (hb0 : bitsW f = 0) (hs0 : s.toList = []) (A : Option Addr) (cap : Nat) (x : Int) (g : Nat) (w : World) :
  Calls Tryz.prog 151 #[.agg #[.int .i64 1, .int .i64 n, .float .f64 f, .string s, .slice A 0 cap], .int .i64 x, .pointer (some ⟨g, 0, none⟩)] w fun e w' => e = .returned (.bool true) ∧ Below w.heap.size w w' := by
 have HAB := Lib.hid (box_below w 1 n f s A 0 cap)
 have HBX := Lib.hid (BoxAt.new w 1 n f s A 0 cap)
 have BL := blank_any 1 n f s A 0 cap
 rw [bv1] at BL
 have BL := Lib.hid BL
 have O := Lib.hid (of_any 1)
 rw [kv1] at O
 have BI := Lib.hid (Nm.bits_any)
 exact M31

set_option maxRecDepth 100000 in
set_option maxHeartbeats 1000000 in
theorem vpass_2 (f : Nat) (s : ByteArray) (hs0 : s.toList = []) (A : Option Addr) (cap : Nat) (x : Int) (g : Nat) (w : World) :
  Calls Tryz.prog 151 #[.agg #[.int .i64 2, .int .i64 0, .float .f64 f, .string s, .slice A 0 cap], .int .i64 x, .pointer (some ⟨g, 0, none⟩)] w fun e w' => e = .returned (.bool true) ∧ Below w.heap.size w w' := by
 have HAB := Lib.hid (box_below w 2 0 f s A 0 cap)
 have HBX := Lib.hid (BoxAt.new w 2 0 f s A 0 cap)
 have BL := blank_any 2 0 f s A 0 cap
 rw [bv2] at BL
 have BL := Lib.hid BL
 have O := Lib.hid (of_any 2)
 rw [kv2] at O
 have BI := Lib.hid (Nm.bits_any)
 have b00 := bits0
 exact M31

set_option maxRecDepth 100000 in
set_option maxHeartbeats 1000000 in
theorem vpass_3 (f : Nat) (s : ByteArray) (hb0 : bitsW f = 0) (A : Option Addr) (cap : Nat) (x : Int) (g : Nat) (w : World) :
  Calls Tryz.prog 151 #[.agg #[.int .i64 3, .int .i64 0, .float .f64 f, .string s, .slice A 0 cap], .int .i64 x, .pointer (some ⟨g, 0, none⟩)] w fun e w' => e = .returned (.bool true) ∧ Below w.heap.size w w' := by
 have HAB := Lib.hid (box_below w 3 0 f s A 0 cap)
 have HBX := Lib.hid (BoxAt.new w 3 0 f s A 0 cap)
 have BL := blank_any 3 0 f s A 0 cap
 rw [bv3] at BL
 have BL := Lib.hid BL
 have O := Lib.hid (of_any 3)
 rw [kv3] at O
 have BI := Lib.hid (Nm.bits_any)
 exact M31

namespace Q400
theorem Y399 {p : Prop} (h : p := by
 have HBX1 := Lib.hid hbox
 clear hbox
 clear hb1 HBX HAB BL
 go_wp2_with fail
 refine (O.out _).mono ?_
 rintro e w' ⟨rfl, rfl⟩
 go_wp2_with (go_at_call 154; refine (BI.out _ _).mono ?_; rintro e w' ⟨rfl, rfl⟩)
 have HB2 := Lib.hid (HB1.out.alloc (Nat.le_of_lt hlt) (.cells #[.int .i64 4, .int .i64 0, .float .f64 f, .string s, .slice none 0 0] 69))
 go_loopw [5, 49] (fun r i wr => ∃ (j : Nat), j ≤ l.length ∧ i = .int .i64 j ∧ r = .bool false ∧ (l.take j).all (fun t => t.valid (x - 1).toNat) = true ∧ w.heap.size < wr.heap.size ∧ Below w.heap.size w wr) (fun _ i _ => l.length - (intOf i).toNat)
 case atStart => exact ⟨0, by omega, rfl, rfl, rfl, by simp; omega, HB2.out⟩
 case round =>
  obtain ⟨j, hj, rfl, rfl, hy, hzr, hb⟩ := hrel
  have HY := Lib.hid hy; clear hy
  have HB := Lib.hid hb; clear hb
  by_cases hlt : j < l.length
  ·obtain ⟨b, off, hA, h1, h2, h3⟩ := (HK.out.later (HB.out.mono hz)).at_ (by omega)
   obtain ⟨k', n', f', s', L', A', cap', e, d0, d1, d2, d3, d4, hr⟩ := h3 j hlt
   subst hA
   have hwk : WalkAt wr g := HWK.out.later HB.out
   have hwc := hwk.1
   have hwl := hwk.2
   have HWR := Lib.hid hwk
   have HR := Lib.hid hr
   clear h3 e hr hwk
   go_wp2_with fail
   refine (IH.out j hlt (x - 1) (by omega) (by omega) _ lo hi _ (HR.out.alloc (by omega) _) (by simp; omega) (HWR.out.later ((Below.refl _ _).alloc (Nat.le_refl _) _))).mono ?_
   rintro e w2 ⟨rfl, hb1⟩
   have HZ2 : w.heap.size < w2.heap.size := by have := hb1.size; simp at this; omega
   have HB1 := Lib.hid ((HB.out.alloc (by omega) _).trans (hb1.mono (by simp; omega)))
   clear HB HR hb1 c0 c1 c2 c3 c4 d0 d1 d2 d3 d4 hwc hwl HWR
   cases hp : l[j].valid (x - 1).toNat with
   | true =>
    have HP := Lib.hid hp; clear hp
    go_wp2_with fail
    go_roundw
    case rel => exact ⟨j + 1, by omega, by go_num, rfl, by rw [all_take_succ _ _ _ hlt, HY.out, HP.out]; rfl, HZ2, HB1.out⟩
    case measure => simp [intOf]; omega
   | false =>
    have HP := Lib.hid hp; clear hp
    go_wp2_with fail
    go_ret
    exact ⟨ret_bool (by rw [HX.out, all_false _ _ j hlt HP.out]; rfl), HB1.out⟩
  ·exact M86) : p := h
end Q400
namespace Q402
theorem Y399 {p : Prop} (h : p := by
 clear hbox
 clear hb1 HBX HAB BL
 go_wp2_with fail
 refine (O.out _).mono ?_
 rintro e w' ⟨rfl, rfl⟩
 go_wp2_with (go_at_call 154; refine (BI.out _ _).mono ?_; rintro e w' ⟨rfl, rfl⟩)
 go_ret
 exact ⟨ret_bool (by simp), HB1.out.alloc (by omega) _⟩) : p := h
end Q402
set_option maxRecDepth 100000 in
set_option maxHeartbeats 2000000 in
theorem vlist (f : Nat) (s : ByteArray) (l : List VT) (A : Option Addr) (cap : Nat) (hb0 : bitsW f = 0) (hs0 : s.toList = []) (hl : l.length ≤ cap) (hc : cap ≤ maxLen) (x : Int) (hx0 : 0 ≤ x) (hx1 : x ≤ 8) (g : Nat)
  (ih : ∀ (i : Nat) (hi : i < l.length) (x : Int) (_ : 0 ≤ x) (_ : x ≤ 8) (w : World) (lo hi : Nat) (v : Value) (_ : Rep w lo hi l[i] v) (_ : hi ≤ w.heap.size) (_ : WalkAt w g),
   Calls Tryz.prog 151 #[v, .int .i64 x, .pointer (some ⟨g, 0, none⟩)] w fun e w' => e = .returned (.bool (l[i].valid x.toNat)) ∧ Below w.heap.size w w')
  (w : World) (lo hi : Nat) (hk : KidsAt w lo hi l A) (hz : hi ≤ w.heap.size) (hw : WalkAt w g) :
  Calls Tryz.prog 151 #[.agg #[.int .i64 4, .int .i64 0, .float .f64 f, .string s, .slice A l.length cap], .int .i64 x, .pointer (some ⟨g, 0, none⟩)] w fun e w' =>
   e = .returned (.bool (decide (x ≠ 0) && l.all (fun t => t.valid (x - 1).toNat))) ∧ Below w.heap.size w w' := by
 unfold maxLen at hc
 have IH := Lib.hid ih; have HK := Lib.hid hk; clear ih hk
 have HWK := Lib.hid hw; clear hw
 by_cases hx : x = 0
 ·subst hx
  have HAB := Lib.hid (box_below w 4 0 f s A l.length cap)
  have HBX := Lib.hid (BoxAt.new w 4 0 f s A l.length cap)
  have BL := blank_any 4 0 f s A l.length cap
  rw [bv4] at BL
  have BL := Lib.hid BL
  have O := Lib.hid (of_any 4)
  rw [kv4] at O
  have BI := Lib.hid (Nm.bits_any)
  open Q402 in exact M399
 ·have hxb : (x == 0) = false := by simpa using hx
  have hxp : 1 ≤ x := by omega
  have HX : Hid (decide (x ≠ 0) = true) := Lib.hid (by simpa using hx)
  clear hx
  have HAB := Lib.hid (box_below w 4 0 f s A l.length cap)
  have HBX := Lib.hid (BoxAt.new w 4 0 f s A l.length cap)
  have BL := blank_any 4 0 f s A l.length cap
  rw [bv4] at BL
  have BL := Lib.hid BL
  have O := Lib.hid (of_any 4)
  rw [kv4] at O
  have BI := Lib.hid (Nm.bits_any)
  open Q400 in exact M399
end Vt
end Go.Proofs.YtfmnacebgplpcaaGreat
namespace Go.Proofs.YtfmnacebgplpcaaGreat
namespace Vt
open Nm (bitsW ret_int ret_bool)

namespace Q401
theorem Y399 {p : Prop} (h : p := by
 clear hbox hb1 HBX HAB BL
 go_wp2_with fail
 refine (O.out _).mono ?_
 rintro e w' ⟨rfl, rfl⟩
 go_wp2_with fail
 go_ret
 exact ⟨rfl, HB1.out.alloc (by omega) _⟩) : p := h
end Q401
set_option maxRecDepth 100000 in
set_option maxHeartbeats 1000000 in
theorem vout (k : Int) (hk : k < 0 ∨ 4 < k) (n : Int) (f : Nat) (s : ByteArray) (m cap : Nat) (A : Option Addr) (x : Int) (g : Nat) (w : World) :
  Calls Tryz.prog 151 #[.agg #[.int .i64 k, .int .i64 n, .float .f64 f, .string s, .slice A m cap], .int .i64 x, .pointer (some ⟨g, 0, none⟩)] w fun e w' => e = .returned (.bool false) ∧ Below w.heap.size w w' := by
 have HAB := Lib.hid (box_below w k n f s A m cap)
 have HBX := Lib.hid (BoxAt.new w k n f s A m cap)
 have BL := blank_any k n f s A m cap
 have e0 : blankV k n f s A m cap = .agg #[.int .i64 k, .int .i64 n, .float .f64 f, .string s, .slice A m cap] := by unfold blankV; rw [if_neg (by omega), if_neg (by omega), if_neg (by omega), if_neg (by omega)]
 have e1 : kindV k = .nilIface := by unfold kindV; rw [if_neg (by omega), if_neg (by omega), if_neg (by omega), if_neg (by omega), if_neg (by omega)]
 rw [e0] at BL
 have BL := Lib.hid BL
 have O := of_any k
 rw [e1] at O
 have O := Lib.hid O
 clear e0 e1
 open Q401 in exact M399

theorem walk_any (t : VT) : ∀ (x : Int) (_ : 0 ≤ x) (_ : x ≤ 8) (g : Nat) (w : World) (lo hi : Nat) (v : Value) (_ : Rep w lo hi t v) (_ : hi ≤ w.heap.size) (_ : WalkAt w g),
  Calls Tryz.prog 151 #[v, .int .i64 x, .pointer (some ⟨g, 0, none⟩)] w fun e w' => e = .returned (.bool (t.valid x.toNat)) ∧ Below w.heap.size w w' := by
 induction t using VT.ind with
 | _ k n f s l ih =>
  intro x hx0 hx1 g w lo hi v hR hz hw
  obtain ⟨A, cap, rfl, ho, hl, hk⟩ := hR.head
  have hp := parts_iff k n f s l x hx0
  generalize (VT.mk k n f s l).valid x.toNat = R at hp ⊢
  by_cases hh : HeadV k n f s l.length
  ·rcases (by omega : k = 0 ∨ k = 1 ∨ k = 2 ∨ k = 3 ∨ k = 4 ∨ (k < 0 ∨ 4 < k)) with rfl | rfl | rfl | rfl | rfl | h6
   ·rcases headV_cases hh with ⟨q, -⟩ | ⟨q, -⟩ | ⟨q, -⟩ | ⟨q, -⟩ | ⟨e1, e2, e3, e4, rfl, q1, q2, q3⟩ <;> first | (exfalso; omega) | skip
    obtain rfl := List.eq_nil_of_length_eq_zero q3
    refine (vpass_0 f s q1 q2 A cap x g w).mono fun e w' h => ⟨?_, h.2⟩
    rw [h.1]
    exact parts_true hp ⟨by omega, by omega, .inr rfl, .inr q1, .inr q2, .inr rfl, by omega, rfl⟩
   ·rcases headV_cases hh with ⟨-, q1, q2, q3⟩ | ⟨q, -⟩ | ⟨q, -⟩ | ⟨q, -⟩ | ⟨q, -⟩ <;> first | (exfalso; omega) | skip
    obtain rfl := List.eq_nil_of_length_eq_zero q3
    refine (vpass_1 n f s q1 q2 A cap x g w).mono fun e w' h => ⟨?_, h.2⟩
    rw [h.1]
    exact parts_true hp ⟨by omega, by omega, .inl rfl, .inr q1, .inr q2, .inr rfl, by omega, rfl⟩
   ·rcases headV_cases hh with ⟨q, -⟩ | ⟨-, rfl, q2, q3⟩ | ⟨q, -⟩ | ⟨q, -⟩ | ⟨-, q, -⟩ <;> first | (exfalso; omega) | skip
    obtain rfl := List.eq_nil_of_length_eq_zero q3
    refine (vpass_2 f s q2 A cap x g w).mono fun e w' h => ⟨?_, h.2⟩
    rw [h.1]
    exact parts_true hp ⟨by omega, by omega, .inr rfl, .inl rfl, .inr q2, .inr rfl, by omega, rfl⟩
   ·rcases headV_cases hh with ⟨q, -⟩ | ⟨q, -⟩ | ⟨-, rfl, q2, q3⟩ | ⟨q, -⟩ | ⟨-, -, q, -⟩ <;> first | (exfalso; omega) | skip
    obtain rfl := List.eq_nil_of_length_eq_zero q3
    refine (vpass_3 f s q2 A cap x g w).mono fun e w' h => ⟨?_, h.2⟩
    rw [h.1]
    exact parts_true hp ⟨by omega, by omega, .inr rfl, .inr q2, .inl rfl, .inr rfl, by omega, rfl⟩
   ·rcases headV_cases hh with ⟨q, -⟩ | ⟨q, -⟩ | ⟨q, -⟩ | ⟨-, rfl, q2, q3⟩ | ⟨-, -, -, q, -⟩ <;> first | (exfalso; omega) | skip
    refine (vlist f s l A cap q2 q3 hl ho.m1 x hx0 hx1 g (fun i hi x a b w lo hi' v c d e => ih i hi x a b g w lo hi' v c d e) w lo hi hk hz hw).mono fun e w' h => ⟨?_, h.2⟩
    exact M84
   ·refine (vout k h6 n f s l.length cap A x g w).mono fun e w' h => ⟨?_, h.2⟩
    rw [h.1]
    exact parts_false hp fun q => by obtain ⟨a, b, -⟩ := q; omega
  ·have ff : Calls Tryz.prog 151 #[.agg #[.int .i64 k, .int .i64 n, .float .f64 f, .string s, .slice A l.length cap], .int .i64 x, .pointer (some ⟨g, 0, none⟩)] w fun e w' => e = .returned (.bool false) ∧ Below w.heap.size w w' := by
    rcases (by omega : k = 0 ∨ k = 1 ∨ k = 2 ∨ k = 3 ∨ k = 4 ∨ (k < 0 ∨ 4 < k)) with rfl | rfl | rfl | rfl | rfl | h6
    ·exact vfail_0 n f s l.length cap A hh x g w
    ·exact vfail_1 n f s l.length cap A hh x g w
    ·exact vfail_2 n f s l.length cap A hh x g w
    ·exact vfail_3 n f s l.length cap A hh x g w
    ·exact vfail_4 n f s l.length cap A hh x g w
    ·exact vout k h6 n f s l.length cap A x g w
   refine ff.mono fun e w' h => ⟨?_, h.2⟩
   rw [h.1]
   exact parts_false hp fun q => hh (headV_of q)

set_option maxHeartbeats 1000000 in
theorem valid_any (t : VT) (w : World) (lo hi : Nat) (v : Value) (hR : Rep w lo hi t v) (hz : hi ≤ w.heap.size) :
  Calls Tryz.prog 112 #[v] w fun e w' => e = .returned (.bool (t.valid 8)) ∧ Below w.heap.size w w' := by
 have hv := hR
 obtain ⟨k, n, f, s, l, A, cap, rfl, rfl, ho, hl, hk⟩ := hR.open_
 generalize ht : VT.mk k n f s l = t at *
 have HV := Lib.hid hv
 have WA := Lib.hid (walk_any t 8 (by omega) (by omega))
 clear hv hR ho hk ht
 go_enter Tryz.func112, Tryz.ntmps112
 go_wp2_with fail
 refine (WA.out (w.heap.size + 1) _ lo hi _ ?h1 ?h2 ?h3).mono ?_
 case h1 => exact (HV.out.alloc hz _).alloc (by simp; omega) _
 case h2 => simp; omega
 case h3 => exact ⟨by simp [go_sem], by simp⟩
 rintro e w1 ⟨rfl, hb1⟩
 have HB2 := Lib.hid ((((Below.refl w.heap.size w).alloc (Nat.le_refl _) _).alloc (by simp) _).trans (hb1.mono (by simp; omega)))
 clear hb1
 go_wp2_with fail
 go_ret
 exact ⟨rfl, HB2.out⟩
end Vt
end Go.Proofs.YtfmnacebgplpcaaGreat
