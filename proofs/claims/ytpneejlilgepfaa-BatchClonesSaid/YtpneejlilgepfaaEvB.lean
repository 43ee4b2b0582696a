/- Contract of package event's of. -/
import Derived.Test.YtpneejlilgepfaaEvA
import Derived.Deep.WholeRow
import Derived.Laws.Tables
namespace Go.Proofs.Ytpneejlilgepfaa
open Go.RowKit
set_option linter.unusedVariables false
namespace Ev
open Nm (ret_int ret_bool)

/-- The table's cells. -/
def tbl : Array Value := #[.string ⟨#[]⟩, .bool false, .bool false, .bool false, .bool false, .bool false, .bool false, .string ⟨#[115, 116, 97, 114, 116, 101, 100]⟩, .bool false, .bool false, .bool false, .bool true, .bool false, .bool true, .string ⟨#[100, 105, 115, 112, 97, 116, 99, 104, 101, 100]⟩, .bool true, .bool true, .bool true, .bool false, .bool false, .bool false, .string ⟨#[102, 105, 110, 105, 115, 104, 101, 100]⟩, .bool true, .bool true, .bool false, .bool false, .bool false, .bool true, .string ⟨#[98, 114, 111, 107, 101, 110]⟩, .bool true, .bool true, .bool true, .bool false, .bool true, .bool false, .string ⟨#[102, 105, 114, 101, 100]⟩, .bool true, .bool false, .bool false, .bool false, .bool false, .bool false, .string ⟨#[115, 105, 103, 110, 97, 108]⟩, .bool false, .bool false, .bool false, .bool true, .bool true, .bool true, .string ⟨#[115, 99, 104, 101, 100, 117, 108, 101, 100]⟩, .bool true, .bool false, .bool false, .bool true, .bool false, .bool true, .string ⟨#[97, 114, 109, 101, 100]⟩, .bool true, .bool false, .bool true, .bool false, .bool false, .bool false, .string ⟨#[99, 111, 109, 112, 108, 101, 116, 101, 100]⟩, .bool false, .bool false, .bool false, .bool false, .bool false, .bool true, .string ⟨#[102, 97, 105, 108, 101, 100]⟩, .bool false, .bool false, .bool false, .bool false, .bool true, .bool false, .string ⟨#[112, 97, 110, 105, 99, 107, 101, 100]⟩, .bool false, .bool false, .bool false, .bool false, .bool true, .bool false]
def ztbl : Array Value := #[.string ⟨#[]⟩, .bool false, .bool false, .bool false, .bool false, .bool false, .bool false, .string ⟨#[]⟩, .bool false, .bool false, .bool false, .bool false, .bool false, .bool false, .string ⟨#[]⟩, .bool false, .bool false, .bool false, .bool false, .bool false, .bool false, .string ⟨#[]⟩, .bool false, .bool false, .bool false, .bool false, .bool false, .bool false, .string ⟨#[]⟩, .bool false, .bool false, .bool false, .bool false, .bool false, .bool false, .string ⟨#[]⟩, .bool false, .bool false, .bool false, .bool false, .bool false, .bool false, .string ⟨#[]⟩, .bool false, .bool false, .bool false, .bool false, .bool false, .bool false, .string ⟨#[]⟩, .bool false, .bool false, .bool false, .bool false, .bool false, .bool false, .string ⟨#[]⟩, .bool false, .bool false, .bool false, .bool false, .bool false, .bool false, .string ⟨#[]⟩, .bool false, .bool false, .bool false, .bool false, .bool false, .bool false, .string ⟨#[]⟩, .bool false, .bool false, .bool false, .bool false, .bool false, .bool false, .string ⟨#[]⟩, .bool false, .bool false, .bool false, .bool false, .bool false, .bool false]

theorem tbl_built : Try.prog.built 78 [(1, .agg #[.string ⟨#[115, 116, 97, 114, 116, 101, 100]⟩, .bool false, .bool false, .bool false, .bool true, .bool false, .bool true]), (2, .agg #[.string ⟨#[100, 105, 115, 112, 97, 116, 99, 104, 101, 100]⟩, .bool true, .bool true, .bool true, .bool false, .bool false, .bool false]), (3, .agg #[.string ⟨#[102, 105, 110, 105, 115, 104, 101, 100]⟩, .bool true, .bool true, .bool false, .bool false, .bool false, .bool true]), (4, .agg #[.string ⟨#[98, 114, 111, 107, 101, 110]⟩, .bool true, .bool true, .bool true, .bool false, .bool true, .bool false]), (5, .agg #[.string ⟨#[102, 105, 114, 101, 100]⟩, .bool true, .bool false, .bool false, .bool false, .bool false, .bool false]), (6, .agg #[.string ⟨#[115, 105, 103, 110, 97, 108]⟩, .bool false, .bool false, .bool false, .bool true, .bool true, .bool true]), (7, .agg #[.string ⟨#[115, 99, 104, 101, 100, 117, 108, 101, 100]⟩, .bool true, .bool false, .bool false, .bool true, .bool false, .bool true]), (8, .agg #[.string ⟨#[97, 114, 109, 101, 100]⟩, .bool true, .bool false, .bool true, .bool false, .bool false, .bool false]), (9, .agg #[.string ⟨#[99, 111, 109, 112, 108, 101, 116, 101, 100]⟩, .bool false, .bool false, .bool false, .bool false, .bool false, .bool true]), (10, .agg #[.string ⟨#[102, 97, 105, 108, 101, 100]⟩, .bool false, .bool false, .bool false, .bool false, .bool true, .bool false]), (11, .agg #[.string ⟨#[112, 97, 110, 105, 99, 107, 101, 100]⟩, .bool false, .bool false, .bool false, .bool false, .bool true, .bool false])] = some tbl := by kernel_rfl
theorem tbl_zero : (Try.prog.info? 78).map (fun i => (i.zero, i.size)) = some (some (.agg ztbl), 84) := by kernel_rfl

theorem tbl_at (k : Nat) (h1 : 1 ≤ k) (h2 : k ≤ 11) : tbl[k * 7]? = some (.string (nameOf k)) ∧ tbl[k * 7 + 1]? = some (.bool ((fieldsOf k).contains 0)) ∧ tbl[k * 7 + 2]? = some (.bool ((fieldsOf k).contains 1)) ∧ tbl[k * 7 + 3]? = some (.bool ((fieldsOf k).contains 2)) ∧
    tbl[k * 7 + 4]? = some (.bool ((fieldsOf k).contains 3)) ∧ tbl[k * 7 + 5]? = some (.bool ((fieldsOf k).contains 4)) ∧ tbl[k * 7 + 6]? = some (.bool ((fieldsOf k).contains 5)) := by
  rcases (by omega : k = 1 ∨ k = 2 ∨ k = 3 ∨ k = 4 ∨ k = 5 ∨ k = 6 ∨ k = 7 ∨ k = 8 ∨ k = 9 ∨ k = 10 ∨ k = 11) with rfl | rfl | rfl | rfl | rfl | rfl | rfl | rfl | rfl | rfl | rfl
  all_goals exact ⟨rfl, rfl, rfl, rfl, rfl, rfl, rfl⟩

theorem seven_size (w' : World) (B : Nat) (a b c d e f g : Value) : (((((((w'.setCell ⟨B, 0, none⟩ a).setCell ⟨B, 1, none⟩ b).setCell ⟨B, 2, none⟩ c).setCell ⟨B, 3, none⟩ d).setCell ⟨B, 4, none⟩ e).setCell ⟨B, 5, none⟩ f).setCell ⟨B, 6, none⟩ g).heap.size = w'.heap.size := by simp [World.setCell]
theorem seven_below {B : Nat} {w w' : World} (h : Below B w w') (a b c d e f g : Value) :
    Below B w (((((((w'.setCell ⟨B, 0, none⟩ a).setCell ⟨B, 1, none⟩ b).setCell ⟨B, 2, none⟩ c).setCell ⟨B, 3, none⟩ d).setCell ⟨B, 4, none⟩ e).setCell ⟨B, 5, none⟩ f).setCell ⟨B, 6, none⟩ g) :=
  ((((((h.setCell (p := ⟨B, 0, none⟩) (Nat.le_refl _) _).setCell (p := ⟨B, 1, none⟩) (Nat.le_refl _) _).setCell (p := ⟨B, 2, none⟩) (Nat.le_refl _) _).setCell (p := ⟨B, 3, none⟩) (Nat.le_refl _) _).setCell (p := ⟨B, 4, none⟩) (Nat.le_refl _) _).setCell (p := ⟨B, 5, none⟩) (Nat.le_refl _) _).setCell (p := ⟨B, 6, none⟩) (Nat.le_refl _) _

set_option maxRecDepth 100000 in
set_option maxHeartbeats 1000000 in
theorem of_in' (k : Nat) (h1 : 1 ≤ k) (h2 : k ≤ 11) (nm : ByteArray) (b0 b1 b2 b3 b4 b5 : Bool) (t0 : tbl[k * 7]? = some (.string nm)) (t1 : tbl[k * 7 + 1]? = some (.bool b0)) (t2 : tbl[k * 7 + 2]? = some (.bool b1)) (t3 : tbl[k * 7 + 3]? = some (.bool b2)) (t4 : tbl[k * 7 + 4]? = some (.bool b3)) (t5 : tbl[k * 7 + 5]? = some (.bool b4)) (t6 : tbl[k * 7 + 6]? = some (.bool b5)) (w : World) :
    Calls Try.prog 37 #[.int .i64 k] w fun e w' => e = .returned (.tuple #[.agg #[.string nm, .bool b0, .bool b1, .bool b2, .bool b3, .bool b4, .bool b5], .bool true]) ∧ Below w.heap.size w w' := by
  have T0 := Lib.hid t0; have T1 := Lib.hid t1; have T2 := Lib.hid t2; have T3 := Lib.hid t3; have T4 := Lib.hid t4; have T5 := Lib.hid t5; have T6 := Lib.hid t6
  clear t0 t1 t2 t3 t4 t5 t6
  have HR0 : Hid (RowAt (w.alloc (.cells (rowCellsOf ⟨#[]⟩ []) 64)) w.heap.size (rowCellsOf ⟨#[]⟩ [])) := Lib.hid (heap_alloc_new w _)
  have HB := Lib.hid ((Below.refl w.heap.size w).alloc (Nat.le_refl _) (.cells #[.string ⟨#[]⟩, .bool false, .bool false, .bool false, .bool false, .bool false, .bool false] 64))
  have W1 := Lib.hid (with_lit [3, 5] (by decide) (by decide))
  have W2 := Lib.hid (with_lit [0, 1, 2] (by decide) (by decide))
  have W3 := Lib.hid (with_lit [0, 1, 5] (by decide) (by decide))
  have W4 := Lib.hid (with_lit [0, 1, 2, 4] (by decide) (by decide))
  have W5 := Lib.hid (with_lit [0] (by decide) (by decide))
  have W6 := Lib.hid (with_lit [3, 4, 5] (by decide) (by decide))
  have W7 := Lib.hid (with_lit [0, 3, 5] (by decide) (by decide))
  have W8 := Lib.hid (with_lit [0, 2] (by decide) (by decide))
  have W9 := Lib.hid (with_lit [5] (by decide) (by decide))
  have W10 := Lib.hid (with_lit [4] (by decide) (by decide))
  have W11 := Lib.hid (with_lit [4] (by decide) (by decide))
  have hbt := tbl_built
  obtain ⟨hzt, hsz⟩ := zero_of_info tbl_zero
  have HSZ := Lib.hid hsz; clear hsz
  go_enter Try.func37, Try.ntmps37
  go_wp2_with fail
  refine (W1.out _ _ _ _ _ #[.string ⟨#[115, 116, 97, 114, 116, 101, 100]⟩, .bool false, .bool false, .bool false, .bool true, .bool false, .bool true] rfl (by simp) rfl rfl).mono ?_
  rintro e w1 ⟨rfl, hb, hz1⟩
  have B1 := Lib.hid (HB.out.trans (hb.mono (by omega)))
  have hy1 : w.heap.size < w1.heap.size := by omega
  have R1 := Lib.hid (show RowAt w1 w.heap.size _ from (hb.block w.heap.size (by omega)).trans HR0.out)
  clear hb HB HR0
  go_wp2_with fail
  refine (W2.out _ _ _ _ _ #[.string ⟨#[100, 105, 115, 112, 97, 116, 99, 104, 101, 100]⟩, .bool true, .bool true, .bool true, .bool false, .bool false, .bool false] rfl (by rfl) rfl rfl).mono ?_
  rintro e w2 ⟨rfl, hb, hz2⟩
  have B2 := Lib.hid (B1.out.trans (hb.mono (by omega)))
  have hy2 : w.heap.size < w2.heap.size := by omega
  have R2 := Lib.hid (show RowAt w2 w.heap.size _ from (hb.block w.heap.size (by omega)).trans R1.out)
  clear hb B1 R1 W2
  go_wp2_with fail
  refine (W3.out _ _ _ _ _ #[.string ⟨#[102, 105, 110, 105, 115, 104, 101, 100]⟩, .bool true, .bool true, .bool false, .bool false, .bool false, .bool true] rfl (by rfl) rfl rfl).mono ?_
  rintro e w3 ⟨rfl, hb, hz3⟩
  have B3 := Lib.hid (B2.out.trans (hb.mono (by omega)))
  have hy3 : w.heap.size < w3.heap.size := by omega
  have R3 := Lib.hid (show RowAt w3 w.heap.size _ from (hb.block w.heap.size (by omega)).trans R2.out)
  clear hb B2 R2 W3
  go_wp2_with fail
  refine (W4.out _ _ _ _ _ #[.string ⟨#[98, 114, 111, 107, 101, 110]⟩, .bool true, .bool true, .bool true, .bool false, .bool true, .bool false] rfl (by rfl) rfl rfl).mono ?_
  rintro e w4 ⟨rfl, hb, hz4⟩
  have B4 := Lib.hid (B3.out.trans (hb.mono (by omega)))
  have hy4 : w.heap.size < w4.heap.size := by omega
  have R4 := Lib.hid (show RowAt w4 w.heap.size _ from (hb.block w.heap.size (by omega)).trans R3.out)
  clear hb B3 R3 W4
  go_wp2_with fail
  refine (W5.out _ _ _ _ _ #[.string ⟨#[102, 105, 114, 101, 100]⟩, .bool true, .bool false, .bool false, .bool false, .bool false, .bool false] rfl (by rfl) rfl rfl).mono ?_
  rintro e w5 ⟨rfl, hb, hz5⟩
  have B5 := Lib.hid (B4.out.trans (hb.mono (by omega)))
  have hy5 : w.heap.size < w5.heap.size := by omega
  have R5 := Lib.hid (show RowAt w5 w.heap.size _ from (hb.block w.heap.size (by omega)).trans R4.out)
  clear hb B4 R4 W5
  go_wp2_with fail
  refine (W6.out _ _ _ _ _ #[.string ⟨#[115, 105, 103, 110, 97, 108]⟩, .bool false, .bool false, .bool false, .bool true, .bool true, .bool true] rfl (by rfl) rfl rfl).mono ?_
  rintro e w6 ⟨rfl, hb, hz6⟩
  have B6 := Lib.hid (B5.out.trans (hb.mono (by omega)))
  have hy6 : w.heap.size < w6.heap.size := by omega
  have R6 := Lib.hid (show RowAt w6 w.heap.size _ from (hb.block w.heap.size (by omega)).trans R5.out)
  clear hb B5 R5 W6
  go_wp2_with fail
  refine (W7.out _ _ _ _ _ #[.string ⟨#[115, 99, 104, 101, 100, 117, 108, 101, 100]⟩, .bool true, .bool false, .bool false, .bool true, .bool false, .bool true] rfl (by rfl) rfl rfl).mono ?_
  rintro e w7 ⟨rfl, hb, hz7⟩
  have B7 := Lib.hid (B6.out.trans (hb.mono (by omega)))
  have hy7 : w.heap.size < w7.heap.size := by omega
  have R7 := Lib.hid (show RowAt w7 w.heap.size _ from (hb.block w.heap.size (by omega)).trans R6.out)
  clear hb B6 R6 W7
  go_wp2_with fail
  refine (W8.out _ _ _ _ _ #[.string ⟨#[97, 114, 109, 101, 100]⟩, .bool true, .bool false, .bool true, .bool false, .bool false, .bool false] rfl (by rfl) rfl rfl).mono ?_
  rintro e w8 ⟨rfl, hb, hz8⟩
  have B8 := Lib.hid (B7.out.trans (hb.mono (by omega)))
  have hy8 : w.heap.size < w8.heap.size := by omega
  have R8 := Lib.hid (show RowAt w8 w.heap.size _ from (hb.block w.heap.size (by omega)).trans R7.out)
  clear hb B7 R7 W8
  go_wp2_with fail
  refine (W9.out _ _ _ _ _ #[.string ⟨#[99, 111, 109, 112, 108, 101, 116, 101, 100]⟩, .bool false, .bool false, .bool false, .bool false, .bool false, .bool true] rfl (by rfl) rfl rfl).mono ?_
  rintro e w9 ⟨rfl, hb, hz9⟩
  have B9 := Lib.hid (B8.out.trans (hb.mono (by omega)))
  have hy9 : w.heap.size < w9.heap.size := by omega
  have R9 := Lib.hid (show RowAt w9 w.heap.size _ from (hb.block w.heap.size (by omega)).trans R8.out)
  clear hb B8 R8 W9
  go_wp2_with fail
  refine (W10.out _ _ _ _ _ #[.string ⟨#[102, 97, 105, 108, 101, 100]⟩, .bool false, .bool false, .bool false, .bool false, .bool true, .bool false] rfl (by rfl) rfl rfl).mono ?_
  rintro e w10 ⟨rfl, hb, hz10⟩
  have B10 := Lib.hid (B9.out.trans (hb.mono (by omega)))
  have hy10 : w.heap.size < w10.heap.size := by omega
  have R10 := Lib.hid (show RowAt w10 w.heap.size _ from (hb.block w.heap.size (by omega)).trans R9.out)
  clear hb B9 R9 W10
  go_wp2_with fail
  refine (W11.out _ _ _ _ _ #[.string ⟨#[112, 97, 110, 105, 99, 107, 101, 100]⟩, .bool false, .bool false, .bool false, .bool false, .bool true, .bool false] rfl (by rfl) rfl rfl).mono ?_
  rintro e w11 ⟨rfl, hb, hz11⟩
  have B11 := Lib.hid (B10.out.trans (hb.mono (by omega)))
  have hy11 : w.heap.size < w11.heap.size := by omega
  have R11 := Lib.hid (show RowAt w11 w.heap.size _ from (hb.block w.heap.size (by omega)).trans R10.out)
  clear hb B10 R10 W11
  have hset : (w11.alloc (.cells ztbl 78)).setRow w11.heap.size tbl = w11.alloc (.cells tbl 78) := World.setRow_alloc_new ..
  have hrow := heap_alloc_new w11 (.cells ztbl 78)
  have HROW := Lib.hid hrow; clear hrow
  have hres := R11.out
  have f0 := hres.free 0; have f1 := hres.free 1; have f2 := hres.free 2; have f3 := hres.free 3; have f4 := hres.free 4; have f5 := hres.free 5; have f6 := hres.free 6
  unfold rowCellsOf at hres
  obtain ⟨d0, d1, d2, d3, d4, d5, d6⟩ := hres.cells
  clear hres R11 W1
  have t0 := T0.out; have t1 := T1.out; have t2 := T2.out; have t3 := T3.out; have t4 := T4.out; have t5 := T5.out; have t6 := T6.out
  clear T0 T1 T2 T3 T4 T5 T6
  go_wp2_with (first
    | (refine wpList_build rfl 78 _ rfl ?_ ?_)
    | (refine wpList_store_row rfl 78 _ _ rfl w11.heap.size tbl rfl rfl 78 ztbl HROW.out HSZ.out rfl (by kernel_rfl) ?_))
  refine bodyPost_ret (v := .tuple #[.agg #[.string nm, .bool b0, .bool b1, .bool b2, .bool b3, .bool b4, .bool b5], .bool true]) (by simp [results, Try.results37, go_sem, d0, d1, d2, d3, d4, d5, d6, hy11]) rfl ⟨rfl, ?_⟩
  exact (seven_below B11.out _ _ _ _ _ _ _).alloc (by rw [seven_size]; omega) _

set_option maxRecDepth 100000 in
set_option maxHeartbeats 1000000 in
theorem of_out (k : Int) (h : k < 1 ∨ 11 < k) (w : World) : Calls Try.prog 37 #[.int .i64 k] w fun e w' => e = .returned (.tuple #[.agg #[.string ⟨#[]⟩, .bool false, .bool false, .bool false, .bool false, .bool false, .bool false], .bool false]) ∧ Below w.heap.size w w' := by
  have H := Lib.hid h; clear h
  have HR0 : Hid (RowAt (w.alloc (.cells (rowCellsOf ⟨#[]⟩ []) 64)) w.heap.size (rowCellsOf ⟨#[]⟩ [])) := Lib.hid (heap_alloc_new w _)
  have HB := Lib.hid ((Below.refl w.heap.size w).alloc (Nat.le_refl _) (.cells #[.string ⟨#[]⟩, .bool false, .bool false, .bool false, .bool false, .bool false, .bool false] 64))
  have W1 := Lib.hid (with_lit [3, 5] (by decide) (by decide))
  have W2 := Lib.hid (with_lit [0, 1, 2] (by decide) (by decide))
  have W3 := Lib.hid (with_lit [0, 1, 5] (by decide) (by decide))
  have W4 := Lib.hid (with_lit [0, 1, 2, 4] (by decide) (by decide))
  have W5 := Lib.hid (with_lit [0] (by decide) (by decide))
  have W6 := Lib.hid (with_lit [3, 4, 5] (by decide) (by decide))
  have W7 := Lib.hid (with_lit [0, 3, 5] (by decide) (by decide))
  have W8 := Lib.hid (with_lit [0, 2] (by decide) (by decide))
  have W9 := Lib.hid (with_lit [5] (by decide) (by decide))
  have W10 := Lib.hid (with_lit [4] (by decide) (by decide))
  have W11 := Lib.hid (with_lit [4] (by decide) (by decide))
  have hbt := tbl_built
  obtain ⟨hzt, hsz⟩ := zero_of_info tbl_zero
  have HSZ := Lib.hid hsz; clear hsz
  go_enter Try.func37, Try.ntmps37
  go_wp2_with fail
  refine (W1.out _ _ _ _ _ #[.string ⟨#[115, 116, 97, 114, 116, 101, 100]⟩, .bool false, .bool false, .bool false, .bool true, .bool false, .bool true] rfl (by simp) rfl rfl).mono ?_
  rintro e w1 ⟨rfl, hb, hz1⟩
  have B1 := Lib.hid (HB.out.trans (hb.mono (by omega)))
  have hy1 : w.heap.size < w1.heap.size := by omega
  have R1 := Lib.hid (show RowAt w1 w.heap.size _ from (hb.block w.heap.size (by omega)).trans HR0.out)
  clear hb HB HR0
  go_wp2_with fail
  refine (W2.out _ _ _ _ _ #[.string ⟨#[100, 105, 115, 112, 97, 116, 99, 104, 101, 100]⟩, .bool true, .bool true, .bool true, .bool false, .bool false, .bool false] rfl (by rfl) rfl rfl).mono ?_
  rintro e w2 ⟨rfl, hb, hz2⟩
  have B2 := Lib.hid (B1.out.trans (hb.mono (by omega)))
  have hy2 : w.heap.size < w2.heap.size := by omega
  have R2 := Lib.hid (show RowAt w2 w.heap.size _ from (hb.block w.heap.size (by omega)).trans R1.out)
  clear hb B1 R1 W2
  go_wp2_with fail
  refine (W3.out _ _ _ _ _ #[.string ⟨#[102, 105, 110, 105, 115, 104, 101, 100]⟩, .bool true, .bool true, .bool false, .bool false, .bool false, .bool true] rfl (by rfl) rfl rfl).mono ?_
  rintro e w3 ⟨rfl, hb, hz3⟩
  have B3 := Lib.hid (B2.out.trans (hb.mono (by omega)))
  have hy3 : w.heap.size < w3.heap.size := by omega
  have R3 := Lib.hid (show RowAt w3 w.heap.size _ from (hb.block w.heap.size (by omega)).trans R2.out)
  clear hb B2 R2 W3
  go_wp2_with fail
  refine (W4.out _ _ _ _ _ #[.string ⟨#[98, 114, 111, 107, 101, 110]⟩, .bool true, .bool true, .bool true, .bool false, .bool true, .bool false] rfl (by rfl) rfl rfl).mono ?_
  rintro e w4 ⟨rfl, hb, hz4⟩
  have B4 := Lib.hid (B3.out.trans (hb.mono (by omega)))
  have hy4 : w.heap.size < w4.heap.size := by omega
  have R4 := Lib.hid (show RowAt w4 w.heap.size _ from (hb.block w.heap.size (by omega)).trans R3.out)
  clear hb B3 R3 W4
  go_wp2_with fail
  refine (W5.out _ _ _ _ _ #[.string ⟨#[102, 105, 114, 101, 100]⟩, .bool true, .bool false, .bool false, .bool false, .bool false, .bool false] rfl (by rfl) rfl rfl).mono ?_
  rintro e w5 ⟨rfl, hb, hz5⟩
  have B5 := Lib.hid (B4.out.trans (hb.mono (by omega)))
  have hy5 : w.heap.size < w5.heap.size := by omega
  have R5 := Lib.hid (show RowAt w5 w.heap.size _ from (hb.block w.heap.size (by omega)).trans R4.out)
  clear hb B4 R4 W5
  go_wp2_with fail
  refine (W6.out _ _ _ _ _ #[.string ⟨#[115, 105, 103, 110, 97, 108]⟩, .bool false, .bool false, .bool false, .bool true, .bool true, .bool true] rfl (by rfl) rfl rfl).mono ?_
  rintro e w6 ⟨rfl, hb, hz6⟩
  have B6 := Lib.hid (B5.out.trans (hb.mono (by omega)))
  have hy6 : w.heap.size < w6.heap.size := by omega
  have R6 := Lib.hid (show RowAt w6 w.heap.size _ from (hb.block w.heap.size (by omega)).trans R5.out)
  clear hb B5 R5 W6
  go_wp2_with fail
  refine (W7.out _ _ _ _ _ #[.string ⟨#[115, 99, 104, 101, 100, 117, 108, 101, 100]⟩, .bool true, .bool false, .bool false, .bool true, .bool false, .bool true] rfl (by rfl) rfl rfl).mono ?_
  rintro e w7 ⟨rfl, hb, hz7⟩
  have B7 := Lib.hid (B6.out.trans (hb.mono (by omega)))
  have hy7 : w.heap.size < w7.heap.size := by omega
  have R7 := Lib.hid (show RowAt w7 w.heap.size _ from (hb.block w.heap.size (by omega)).trans R6.out)
  clear hb B6 R6 W7
  go_wp2_with fail
  refine (W8.out _ _ _ _ _ #[.string ⟨#[97, 114, 109, 101, 100]⟩, .bool true, .bool false, .bool true, .bool false, .bool false, .bool false] rfl (by rfl) rfl rfl).mono ?_
  rintro e w8 ⟨rfl, hb, hz8⟩
  have B8 := Lib.hid (B7.out.trans (hb.mono (by omega)))
  have hy8 : w.heap.size < w8.heap.size := by omega
  have R8 := Lib.hid (show RowAt w8 w.heap.size _ from (hb.block w.heap.size (by omega)).trans R7.out)
  clear hb B7 R7 W8
  go_wp2_with fail
  refine (W9.out _ _ _ _ _ #[.string ⟨#[99, 111, 109, 112, 108, 101, 116, 101, 100]⟩, .bool false, .bool false, .bool false, .bool false, .bool false, .bool true] rfl (by rfl) rfl rfl).mono ?_
  rintro e w9 ⟨rfl, hb, hz9⟩
  have B9 := Lib.hid (B8.out.trans (hb.mono (by omega)))
  have hy9 : w.heap.size < w9.heap.size := by omega
  have R9 := Lib.hid (show RowAt w9 w.heap.size _ from (hb.block w.heap.size (by omega)).trans R8.out)
  clear hb B8 R8 W9
  go_wp2_with fail
  refine (W10.out _ _ _ _ _ #[.string ⟨#[102, 97, 105, 108, 101, 100]⟩, .bool false, .bool false, .bool false, .bool false, .bool true, .bool false] rfl (by rfl) rfl rfl).mono ?_
  rintro e w10 ⟨rfl, hb, hz10⟩
  have B10 := Lib.hid (B9.out.trans (hb.mono (by omega)))
  have hy10 : w.heap.size < w10.heap.size := by omega
  have R10 := Lib.hid (show RowAt w10 w.heap.size _ from (hb.block w.heap.size (by omega)).trans R9.out)
  clear hb B9 R9 W10
  go_wp2_with fail
  refine (W11.out _ _ _ _ _ #[.string ⟨#[112, 97, 110, 105, 99, 107, 101, 100]⟩, .bool false, .bool false, .bool false, .bool false, .bool true, .bool false] rfl (by rfl) rfl rfl).mono ?_
  rintro e w11 ⟨rfl, hb, hz11⟩
  have B11 := Lib.hid (B10.out.trans (hb.mono (by omega)))
  have hy11 : w.heap.size < w11.heap.size := by omega
  have R11 := Lib.hid (show RowAt w11 w.heap.size _ from (hb.block w.heap.size (by omega)).trans R10.out)
  clear hb B10 R10 W11
  have hset : (w11.alloc (.cells ztbl 78)).setRow w11.heap.size tbl = w11.alloc (.cells tbl 78) := World.setRow_alloc_new ..
  have hrow := heap_alloc_new w11 (.cells ztbl 78)
  have HROW := Lib.hid hrow; clear hrow
  have hres := R11.out
  have f0 := hres.free 0; have f1 := hres.free 1; have f2 := hres.free 2; have f3 := hres.free 3; have f4 := hres.free 4; have f5 := hres.free 5; have f6 := hres.free 6
  unfold rowCellsOf at hres
  obtain ⟨d0, d1, d2, d3, d4, d5, d6⟩ := hres.cells
  clear hres R11 W1
  rcases H.out with h | h
  all_goals
    clear H
    go_wp2_with (first
      | (refine wpList_build rfl 78 _ rfl ?_ ?_)
      | (refine wpList_store_row rfl 78 _ _ rfl w11.heap.size tbl rfl rfl 78 ztbl HROW.out HSZ.out rfl (by kernel_rfl) ?_))
    refine bodyPost_ret (v := .tuple #[.agg #[.string ⟨#[]⟩, .bool false, .bool false, .bool false, .bool false, .bool false, .bool false], .bool false]) (by simp [results, Try.results37, go_sem, d0, d1, d2, d3, d4, d5, d6, hy11]) rfl ⟨rfl, ?_⟩
    exact (seven_below B11.out _ _ _ _ _ _ _).alloc (by rw [seven_size]; omega) _

theorem of_in (k : Nat) (h1 : 1 ≤ k) (h2 : k ≤ 11) (w : World) : Calls Try.prog 37 #[.int .i64 k] w fun e w' => e = .returned (.tuple #[.agg (rowCellsOf (nameOf k) (fieldsOf k)), .bool true]) ∧ Below w.heap.size w w' := by
  obtain ⟨t0, t1, t2, t3, t4, t5, t6⟩ := tbl_at k h1 h2
  exact of_in' k h1 h2 _ _ _ _ _ _ _ t0 t1 t2 t3 t4 t5 t6 w
end Ev
end Go.Proofs.Ytpneejlilgepfaa
