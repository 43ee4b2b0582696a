/- The reference's form of a value. -/
/- The reference's form of an event. -/
/- Events and batches that are read, as pure steps; what is read is a form. No program in sight. -/
/- The reference's form of a batch; slices.Clone of bytes. -/
import Derived.Test.YtcbddebmmaflgaaGreatDoorMhas
import Derived.Test.YtcbddebmmaflgaaGreatDoorMhal
import Derived.Lib.AtoiErrMem
import Derived.Laws.Bits64b
import Derived.Test.YtcbddebmmaflgaaGreatDoorMhax
namespace Go.Proofs.YtcbddebmmaflgaaGreatDoor
open Go.RowKit
set_option linter.unusedVariables false
set_option linter.unusedSimpArgs false
namespace Rf
open _root_.Go.Proofs.YtcbddebmmaflgaaGreatDoor.Nm (bitsW rbits_any ret_int ret_bool)
open Bt (BOwn BIn ubytes sb bown_nil wpList_append_bytes bv)
open Pf (zz zz_lt be8 sform)
open Vf (KB one_byte be8_take forms_take forms_le)
open Vt (VT Rep BoxAt below_drew KidsAt HeadOk)

theorem and255 (x : Nat) (h : x < 18446744073709551616) : bits BinOp.and IntKind.u64 (x : Int) 255 % 256 = ((x % 256 : Nat) : Int) := by
  have := bits_and_u64_nat x 255 h (by decide)
  rw [show ((255 : Nat) : Int) = 255 from rfl] at this
  rw [this, show (255 : Nat) = 2 ^ 8 - 1 from rfl, Nat.and_two_pow_sub_one_eq_mod]
  omega
theorem sb_get2 (s : ByteArray) (j : Nat) (h : j < (sb s).length) : (s.data.toList.getD j 0).toNat = (sb s)[j] := by
  have hl : j < s.data.toList.length := by simpa [sb] using h
  simp [sb, List.getD_eq_getElem?_getD, List.getElem?_eq_getElem hl]
/-- A string as bytes. -/
theorem str_in (W : World) (s : ByteArray) (hs : s.size ≤ 1000000) : ∃ cc W0, (convert 9 22 (.string s)).run Tryz.prog W = .ok (.slice (some ⟨W.heap.size, 0, none⟩) s.size cc) W0 ∧ BIn W0 (.slice (some ⟨W.heap.size, 0, none⟩) s.size cc) (sb s) ∧ Below W.heap.size W W0 := by
  have hcv := Lib.run_convert_string_bytes (P := Tryz.prog) W 9 22 5 s (u := .string) Tryz.underlying9 Tryz.underlying22 Tryz.underlying5
  refine ⟨_, _, hcv, .inr ⟨⟨W.heap.size, 0, none⟩, _, by rw [Bt.sb_len], by rw [Bt.sb_len]; exact grownCap_ge .., grownCap_le_maxLen _ _ _ _ (by simp only [maxLen]; omega), by rw [Lib.bytesWorld_size]; simp, fun j u hu => ?_⟩, Lib.bytesWorld_below _ _ _⟩
  have hj : j < (sb s).length := by have := (List.getElem?_eq_some_iff.1 hu).1; simpa using this
  have e : u = bv (sb s)[j] := by
    have := List.getElem?_map (f := bv) (l := sb s) (i := j)
    rw [hu, List.getElem?_eq_getElem hj] at this
    simpa using this
  rw [Go.WideShapes.add_plain, Nat.zero_add, Lib.bytesWorld_cell _ _ _ _ (by rw [Bt.sb_len] at hj; exact hj), sb_get2 s j hj, e]; rfl

set_option maxRecDepth 100000 in
set_option maxHeartbeats 2000000 in
theorem rform_none (n : Int) (f : Nat) (s : ByteArray) (A : Option Addr) (m c : Nat) (w : World) :
    Calls Tryz.prog 116 #[.agg #[.int .i64 0, .int .i64 n, .float .f64 f, .string s, .slice A m c]] w (KB w (ubytes 10 0 ++ [])) := by
  obtain ⟨W0, hW0⟩ : ∃ W0, W0 = w.alloc (.cells #[.int .i64 0, .int .i64 n, .float .f64 f, .string s, .slice A m c] 30) := ⟨_, rfl⟩
  have HB0 : Hid (Below w.heap.size w W0) := Lib.hid (by rw [hW0]; exact (Below.refl _ _).alloc (Nat.le_refl _) _)
  have hz0 : w.heap.size < W0.heap.size := by rw [hW0]; simp
  have hx0 : BoxAt W0 w.heap.size 0 n f s A m c := by rw [hW0]; exact BoxAt.new ..
  have HBX : Hid (∀ W, Below W0.heap.size W0 W → BoxAt W w.heap.size 0 n f s A m c) := Lib.hid fun W hW => hx0.later hW hz0
  have HU : Hid (Calls Tryz.prog 71 #[.int .u64 0] W0 (KB W0 (ubytes 10 0))) := Lib.hid (ruform_any 0 (by decide) W0)
  have HUL : Hid ((ubytes 10 0).length ≤ 11) := Lib.hid (Bt.ubytes_len 10 0)
  obtain ⟨c0, c1, c2, c3, c4⟩ := hx0.cells
  clear hx0
  replace hW0 := Lib.hid hW0
  go_enter Tryz.func116, Tryz.ntmps116
  go_upto_region 1 with fail
  rw [← hW0.out]
  go_wp2_with fail
  refine HU.out.mono ?_
  rintro e w1 ⟨v1, rfl, ho1, hb1⟩
  have HO1 := Lib.hid (ho1.base HB0.out.size); have HB1 := Lib.hid hb1
  have HBW1 : Hid (Below w.heap.size w w1) := Lib.hid (HB0.out.trans (hb1.mono HB0.out.size))
  clear c0 c1 c2 c3 c4 ho1 hb1
  obtain ⟨c0, c1, c2, c3, c4⟩ := (HBX.out w1 HB1.out).cells
  go_wp2_with fail
  go_ret
  exact ⟨_, rfl, by rw [List.append_nil]; exact HO1.out, HBW1.out⟩

set_option maxRecDepth 100000 in
set_option maxHeartbeats 2000000 in
theorem rform_int (n : Int) (f : Nat) (s : ByteArray) (A : Option Addr) (m c : Nat) (w : World) (h0 : -9223372036854775808 ≤ n) (h1 : n ≤ 9223372036854775807) :
    Calls Tryz.prog 116 #[.agg #[.int .i64 1, .int .i64 n, .float .f64 f, .string s, .slice A m c]] w (KB w (ubytes 10 1 ++ ubytes 10 (zz n))) := by
  obtain ⟨W0, hW0⟩ : ∃ W0, W0 = w.alloc (.cells #[.int .i64 1, .int .i64 n, .float .f64 f, .string s, .slice A m c] 30) := ⟨_, rfl⟩
  have HB0 : Hid (Below w.heap.size w W0) := Lib.hid (by rw [hW0]; exact (Below.refl _ _).alloc (Nat.le_refl _) _)
  have hz0 : w.heap.size < W0.heap.size := by rw [hW0]; simp
  have hx0 : BoxAt W0 w.heap.size 1 n f s A m c := by rw [hW0]; exact BoxAt.new ..
  have HBX : Hid (∀ W, Below W0.heap.size W0 W → BoxAt W w.heap.size 1 n f s A m c) := Lib.hid fun W hW => hx0.later hW hz0
  have HU : Hid (Calls Tryz.prog 71 #[.int .u64 1] W0 (KB W0 (ubytes 10 1))) := Lib.hid (ruform_any 1 (by decide) W0)
  have HUL : Hid ((ubytes 10 1).length ≤ 11) := Lib.hid (Bt.ubytes_len 10 1)
  have HI := Lib.hid fun W => riform_any n h0 h1 W
  have HZL := Lib.hid (Bt.ubytes_len 10 (zz n))
  clear h0 h1
  obtain ⟨c0, c1, c2, c3, c4⟩ := hx0.cells
  clear hx0
  replace hW0 := Lib.hid hW0
  go_enter Tryz.func116, Tryz.ntmps116
  go_upto_region 1 with fail
  rw [← hW0.out]
  go_wp2_with fail
  refine HU.out.mono ?_
  rintro e w1 ⟨v1, rfl, ho1, hb1⟩
  have HO1 := Lib.hid (ho1.base HB0.out.size); have HB1 := Lib.hid hb1
  have HBW1 : Hid (Below w.heap.size w w1) := Lib.hid (HB0.out.trans (hb1.mono HB0.out.size))
  clear c0 c1 c2 c3 c4 ho1 hb1
  obtain ⟨c0, c1, c2, c3, c4⟩ := (HBX.out w1 HB1.out).cells
  go_wp2_with fail
  refine (HI.out w1).mono ?_
  rintro e w2 ⟨v2, rfl, ho2, hb2⟩
  have HI2 := Lib.hid ho2.read; have HO2 := Lib.hid (HO1.out.later hb2); have HB2 := Lib.hid (HBW1.out.trans (hb2.mono HBW1.out.size))
  clear ho2 hb2
  go_wp2_with (at_builtin; refine wpList_append_bytes _ rfl _ _ rfl w.heap.size _ _ (ubytes 10 1) (ubytes 10 (zz n)) rfl rfl HO2.out HI2.out (by have := HUL.out; have := HZL.out; omega) HB2.out.size ?_; intro v3 w3 hown3 hg3 hb3; have HO3 := Lib.hid hown3; have HB3 := Lib.hid (HB2.out.trans hb3); clear hown3 hb3 hg3)
  go_ret
  exact ⟨_, rfl, HO3.out, HB3.out⟩

set_option maxRecDepth 100000 in
set_option maxHeartbeats 2000000 in
theorem rform_text (n : Int) (f : Nat) (s : ByteArray) (A : Option Addr) (m c : Nat) (w : World) (hs : s.size ≤ 100000) :
    Calls Tryz.prog 116 #[.agg #[.int .i64 3, .int .i64 n, .float .f64 f, .string s, .slice A m c]] w (KB w (ubytes 10 3 ++ sform s)) := by
  obtain ⟨W0, hW0⟩ : ∃ W0, W0 = w.alloc (.cells #[.int .i64 3, .int .i64 n, .float .f64 f, .string s, .slice A m c] 30) := ⟨_, rfl⟩
  have HB0 : Hid (Below w.heap.size w W0) := Lib.hid (by rw [hW0]; exact (Below.refl _ _).alloc (Nat.le_refl _) _)
  have hz0 : w.heap.size < W0.heap.size := by rw [hW0]; simp
  have hx0 : BoxAt W0 w.heap.size 3 n f s A m c := by rw [hW0]; exact BoxAt.new ..
  have HBX : Hid (∀ W, Below W0.heap.size W0 W → BoxAt W w.heap.size 3 n f s A m c) := Lib.hid fun W hW => hx0.later hW hz0
  have HU : Hid (Calls Tryz.prog 71 #[.int .u64 3] W0 (KB W0 (ubytes 10 3))) := Lib.hid (ruform_any 3 (by decide) W0)
  have HUL : Hid ((ubytes 10 3).length ≤ 11) := Lib.hid (Bt.ubytes_len 10 3)
  have HS := Lib.hid fun W => str_in W s (by omega)
  have HFB := Lib.hid fun (W : World) (v : Value) (hv : BIn W v (sb s)) => rbform_any v (sb s) (by rw [Bt.sb_len]; omega) W hv
  have HSL := Lib.hid (Bt.sb_len s)
  have HSZ := Lib.hid hs
  have HZL := Lib.hid (Bt.ubytes_len 10 s.size)
  obtain ⟨c0, c1, c2, c3, c4⟩ := hx0.cells
  clear hx0
  replace hW0 := Lib.hid hW0
  go_enter Tryz.func116, Tryz.ntmps116
  go_upto_region 1 with fail
  rw [← hW0.out]
  go_wp2_with fail
  refine HU.out.mono ?_
  rintro e w1 ⟨v1, rfl, ho1, hb1⟩
  have HO1 := Lib.hid (ho1.base HB0.out.size); have HB1 := Lib.hid hb1
  have HBW1 : Hid (Below w.heap.size w w1) := Lib.hid (HB0.out.trans (hb1.mono HB0.out.size))
  clear c0 c1 c2 c3 c4 ho1 hb1
  obtain ⟨c0, c1, c2, c3, c4⟩ := (HBX.out w1 HB1.out).cells
  obtain ⟨cc, w2, hcv, hin2, hb2⟩ := HS.out w1
  have HI2 := Lib.hid hin2; have HO2 := Lib.hid (HO1.out.later hb2); have HB2 := Lib.hid (HBW1.out.trans (hb2.mono HBW1.out.size))
  clear hin2 hb2
  go_wp2_with fail
  refine (HFB.out _ _ HI2.out).mono ?_
  rintro e w3 ⟨v3, rfl, ho3, hb3⟩
  have HI3 := Lib.hid ho3.read; have HO3 := Lib.hid (HO2.out.later hb3); have HB3 := Lib.hid (HB2.out.trans (hb3.mono HB2.out.size))
  clear ho3 hb3 hcv
  go_wp2_with (at_builtin; refine wpList_append_bytes _ rfl _ _ rfl w.heap.size _ _ (ubytes 10 3) (ubytes 10 (sb s).length ++ sb s) rfl rfl HO3.out HI3.out (by have := HUL.out; have := HZL.out; have := HSZ.out; rw [List.length_append, HSL.out]; omega) HB3.out.size ?_; intro v4 w4 hown4 hg4 hb4; have HO4 := Lib.hid hown4; have HB4 := Lib.hid (HB3.out.trans hb4); clear hown4 hb4 hg4)
  go_ret
  refine ⟨_, rfl, ?_, HB4.out⟩
  have := HO4.out
  rw [HSL.out] at this
  exact this

set_option maxRecDepth 100000 in
set_option maxHeartbeats 2000000 in
theorem rform_float (n : Int) (f : Nat) (s : ByteArray) (A : Option Addr) (m c : Nat) (w : World) (hf : f < 18446744073709551616) :
    Calls Tryz.prog 116 #[.agg #[.int .i64 2, .int .i64 n, .float .f64 f, .string s, .slice A m c]] w (KB w (ubytes 10 2 ++ be8 (bitsW f))) := by
  obtain ⟨W0, hW0⟩ : ∃ W0, W0 = w.alloc (.cells #[.int .i64 2, .int .i64 n, .float .f64 f, .string s, .slice A m c] 30) := ⟨_, rfl⟩
  have HB0 : Hid (Below w.heap.size w W0) := Lib.hid (by rw [hW0]; exact (Below.refl _ _).alloc (Nat.le_refl _) _)
  have hz0 : w.heap.size < W0.heap.size := by rw [hW0]; simp
  have hx0 : BoxAt W0 w.heap.size 2 n f s A m c := by rw [hW0]; exact BoxAt.new ..
  have HBX : Hid (∀ W, Below W0.heap.size W0 W → BoxAt W w.heap.size 2 n f s A m c) := Lib.hid fun W hW => hx0.later hW hz0
  have HU : Hid (Calls Tryz.prog 71 #[.int .u64 2] W0 (KB W0 (ubytes 10 2))) := Lib.hid (ruform_any 2 (by decide) W0)
  have HUL : Hid ((ubytes 10 2).length ≤ 11) := Lib.hid (Bt.ubytes_len 10 2)
  have HBI := Lib.hid fun W => rbits_any f hf W
  obtain ⟨v, hv⟩ : ∃ v, v = bitsW f := ⟨_, rfl⟩
  have hvl : v < 18446744073709551616 := by rw [hv]; exact Pf.bits_lt hf
  rw [← hv] at HBI ⊢
  clear hv hf
  obtain ⟨c0, c1, c2, c3, c4⟩ := hx0.cells
  clear hx0
  replace hW0 := Lib.hid hW0
  go_enter Tryz.func116, Tryz.ntmps116
  go_upto_region 1 with fail
  rw [← hW0.out]
  go_wp2_with fail
  refine HU.out.mono ?_
  rintro e w1 ⟨v1, rfl, ho1, hb1⟩
  have HO1 := Lib.hid (ho1.base HB0.out.size); have HB1 := Lib.hid hb1
  have HBW1 : Hid (Below w.heap.size w w1) := Lib.hid (HB0.out.trans (hb1.mono HB0.out.size))
  clear c0 c1 c2 c3 c4 ho1 hb1
  obtain ⟨c0, c1, c2, c3, c4⟩ := (HBX.out w1 HB1.out).cells
  go_wp2_with fail
  refine (HBI.out w1).mono ?_
  rintro e w2 ⟨rfl, rfl⟩
  go_wp2_with fail
  go_loopw [3, 5] (fun out i wr => ∃ (j : Nat) (sh : Int), j ≤ 8 ∧ sh = 7 - (j : Int) ∧ i = .int .i64 sh ∧ BOwn wr w.heap.size out (ubytes 10 2 ++ (be8 v).take j) ∧ Below w.heap.size w wr) (fun _ i _ => (intOf i + 8).toNat)
  case atStart => exact ⟨0, 7, by omega, by omega, rfl, by simpa using HO1.out, HBW1.out⟩
  case round =>
    obtain ⟨j, sh, hj, hsh, rfl, hown, hb⟩ := hrel
    have HO := Lib.hid hown; have HB := Lib.hid hb
    clear hown hb
    rcases (by omega : j = 0 ∨ j = 1 ∨ j = 2 ∨ j = 3 ∨ j = 4 ∨ j = 5 ∨ j = 6 ∨ j = 7 ∨ j = 8) with rfl | rfl | rfl | rfl | rfl | rfl | rfl | rfl | rfl
    · obtain rfl : sh = 7 := by omega
      clear hsh
      have HN := Lib.hid (one_byte wr (bits BinOp.and IntKind.u64 ((v : Int) / 72057594037927936) 255 % 256) (v / 72057594037927936 % 256) (and255 (v / 72057594037927936) (by omega)))
      go_wp2_with (at_builtin; refine wpList_append_bytes _ rfl _ _ rfl w.heap.size _ _ (ubytes 10 2 ++ (be8 v).take 0) [v / 72057594037927936 % 256] rfl rfl (HO.out.later ((Below.refl _ _).alloc (Nat.le_refl _) _)) HN.out (by have := HUL.out; have := be8_take v 0; rw [List.length_append]; simp only [List.length_singleton]; omega) (by simp; exact Nat.le_succ_of_le HB.out.size) ?_; intro v2 w2 hown2 hg2 hb2; have HO2 := Lib.hid hown2; have HB2 := Lib.hid ((HB.out.alloc HB.out.size _).trans hb2); clear hown2 hb2)
      exact ⟨⟨1, 6, by omega, by omega, by go_num, (by rw [← List.append_assoc]; exact HO2.out : BOwn w2 w.heap.size v2 (ubytes 10 2 ++ ((be8 v).take 0 ++ [v / 72057594037927936 % 256]))), HB2.out⟩, by simp [intOf]⟩
    · obtain rfl : sh = 6 := by omega
      clear hsh
      have HN := Lib.hid (one_byte wr (bits BinOp.and IntKind.u64 ((v : Int) / 281474976710656) 255 % 256) (v / 281474976710656 % 256) (and255 (v / 281474976710656) (by omega)))
      go_wp2_with (at_builtin; refine wpList_append_bytes _ rfl _ _ rfl w.heap.size _ _ (ubytes 10 2 ++ (be8 v).take 1) [v / 281474976710656 % 256] rfl rfl (HO.out.later ((Below.refl _ _).alloc (Nat.le_refl _) _)) HN.out (by have := HUL.out; have := be8_take v 1; rw [List.length_append]; simp only [List.length_singleton]; omega) (by simp; exact Nat.le_succ_of_le HB.out.size) ?_; intro v2 w2 hown2 hg2 hb2; have HO2 := Lib.hid hown2; have HB2 := Lib.hid ((HB.out.alloc HB.out.size _).trans hb2); clear hown2 hb2)
      exact ⟨⟨2, 5, by omega, by omega, by go_num, (by rw [← List.append_assoc]; exact HO2.out : BOwn w2 w.heap.size v2 (ubytes 10 2 ++ ((be8 v).take 1 ++ [v / 281474976710656 % 256]))), HB2.out⟩, by simp [intOf]⟩
    · obtain rfl : sh = 5 := by omega
      clear hsh
      have HN := Lib.hid (one_byte wr (bits BinOp.and IntKind.u64 ((v : Int) / 1099511627776) 255 % 256) (v / 1099511627776 % 256) (and255 (v / 1099511627776) (by omega)))
      go_wp2_with (at_builtin; refine wpList_append_bytes _ rfl _ _ rfl w.heap.size _ _ (ubytes 10 2 ++ (be8 v).take 2) [v / 1099511627776 % 256] rfl rfl (HO.out.later ((Below.refl _ _).alloc (Nat.le_refl _) _)) HN.out (by have := HUL.out; have := be8_take v 2; rw [List.length_append]; simp only [List.length_singleton]; omega) (by simp; exact Nat.le_succ_of_le HB.out.size) ?_; intro v2 w2 hown2 hg2 hb2; have HO2 := Lib.hid hown2; have HB2 := Lib.hid ((HB.out.alloc HB.out.size _).trans hb2); clear hown2 hb2)
      exact ⟨⟨3, 4, by omega, by omega, by go_num, (by rw [← List.append_assoc]; exact HO2.out : BOwn w2 w.heap.size v2 (ubytes 10 2 ++ ((be8 v).take 2 ++ [v / 1099511627776 % 256]))), HB2.out⟩, by simp [intOf]⟩
    · obtain rfl : sh = 4 := by omega
      clear hsh
      have HN := Lib.hid (one_byte wr (bits BinOp.and IntKind.u64 ((v : Int) / 4294967296) 255 % 256) (v / 4294967296 % 256) (and255 (v / 4294967296) (by omega)))
      go_wp2_with (at_builtin; refine wpList_append_bytes _ rfl _ _ rfl w.heap.size _ _ (ubytes 10 2 ++ (be8 v).take 3) [v / 4294967296 % 256] rfl rfl (HO.out.later ((Below.refl _ _).alloc (Nat.le_refl _) _)) HN.out (by have := HUL.out; have := be8_take v 3; rw [List.length_append]; simp only [List.length_singleton]; omega) (by simp; exact Nat.le_succ_of_le HB.out.size) ?_; intro v2 w2 hown2 hg2 hb2; have HO2 := Lib.hid hown2; have HB2 := Lib.hid ((HB.out.alloc HB.out.size _).trans hb2); clear hown2 hb2)
      exact ⟨⟨4, 3, by omega, by omega, by go_num, (by rw [← List.append_assoc]; exact HO2.out : BOwn w2 w.heap.size v2 (ubytes 10 2 ++ ((be8 v).take 3 ++ [v / 4294967296 % 256]))), HB2.out⟩, by simp [intOf]⟩
    · obtain rfl : sh = 3 := by omega
      clear hsh
      have HN := Lib.hid (one_byte wr (bits BinOp.and IntKind.u64 ((v : Int) / 16777216) 255 % 256) (v / 16777216 % 256) (and255 (v / 16777216) (by omega)))
      go_wp2_with (at_builtin; refine wpList_append_bytes _ rfl _ _ rfl w.heap.size _ _ (ubytes 10 2 ++ (be8 v).take 4) [v / 16777216 % 256] rfl rfl (HO.out.later ((Below.refl _ _).alloc (Nat.le_refl _) _)) HN.out (by have := HUL.out; have := be8_take v 4; rw [List.length_append]; simp only [List.length_singleton]; omega) (by simp; exact Nat.le_succ_of_le HB.out.size) ?_; intro v2 w2 hown2 hg2 hb2; have HO2 := Lib.hid hown2; have HB2 := Lib.hid ((HB.out.alloc HB.out.size _).trans hb2); clear hown2 hb2)
      exact ⟨⟨5, 2, by omega, by omega, by go_num, (by rw [← List.append_assoc]; exact HO2.out : BOwn w2 w.heap.size v2 (ubytes 10 2 ++ ((be8 v).take 4 ++ [v / 16777216 % 256]))), HB2.out⟩, by simp [intOf]⟩
    · obtain rfl : sh = 2 := by omega
      clear hsh
      have HN := Lib.hid (one_byte wr (bits BinOp.and IntKind.u64 ((v : Int) / 65536) 255 % 256) (v / 65536 % 256) (and255 (v / 65536) (by omega)))
      go_wp2_with (at_builtin; refine wpList_append_bytes _ rfl _ _ rfl w.heap.size _ _ (ubytes 10 2 ++ (be8 v).take 5) [v / 65536 % 256] rfl rfl (HO.out.later ((Below.refl _ _).alloc (Nat.le_refl _) _)) HN.out (by have := HUL.out; have := be8_take v 5; rw [List.length_append]; simp only [List.length_singleton]; omega) (by simp; exact Nat.le_succ_of_le HB.out.size) ?_; intro v2 w2 hown2 hg2 hb2; have HO2 := Lib.hid hown2; have HB2 := Lib.hid ((HB.out.alloc HB.out.size _).trans hb2); clear hown2 hb2)
      exact ⟨⟨6, 1, by omega, by omega, by go_num, (by rw [← List.append_assoc]; exact HO2.out : BOwn w2 w.heap.size v2 (ubytes 10 2 ++ ((be8 v).take 5 ++ [v / 65536 % 256]))), HB2.out⟩, by simp [intOf]⟩
    · obtain rfl : sh = 1 := by omega
      clear hsh
      have HN := Lib.hid (one_byte wr (bits BinOp.and IntKind.u64 ((v : Int) / 256) 255 % 256) (v / 256 % 256) (and255 (v / 256) (by omega)))
      go_wp2_with (at_builtin; refine wpList_append_bytes _ rfl _ _ rfl w.heap.size _ _ (ubytes 10 2 ++ (be8 v).take 6) [v / 256 % 256] rfl rfl (HO.out.later ((Below.refl _ _).alloc (Nat.le_refl _) _)) HN.out (by have := HUL.out; have := be8_take v 6; rw [List.length_append]; simp only [List.length_singleton]; omega) (by simp; exact Nat.le_succ_of_le HB.out.size) ?_; intro v2 w2 hown2 hg2 hb2; have HO2 := Lib.hid hown2; have HB2 := Lib.hid ((HB.out.alloc HB.out.size _).trans hb2); clear hown2 hb2)
      exact ⟨⟨7, 0, by omega, by omega, by go_num, (by rw [← List.append_assoc]; exact HO2.out : BOwn w2 w.heap.size v2 (ubytes 10 2 ++ ((be8 v).take 6 ++ [v / 256 % 256]))), HB2.out⟩, by simp [intOf]⟩
    · obtain rfl : sh = 0 := by omega
      clear hsh
      have HN := Lib.hid (one_byte wr (bits BinOp.and IntKind.u64 (v : Int) 255 % 256) (v % 256) (and255 (v) (by omega)))
      go_wp2_with (at_builtin; refine wpList_append_bytes _ rfl _ _ rfl w.heap.size _ _ (ubytes 10 2 ++ (be8 v).take 7) [v % 256] rfl rfl (HO.out.later ((Below.refl _ _).alloc (Nat.le_refl _) _)) HN.out (by have := HUL.out; have := be8_take v 7; rw [List.length_append]; simp only [List.length_singleton]; omega) (by simp; exact Nat.le_succ_of_le HB.out.size) ?_; intro v2 w2 hown2 hg2 hb2; have HO2 := Lib.hid hown2; have HB2 := Lib.hid ((HB.out.alloc HB.out.size _).trans hb2); clear hown2 hb2)
      exact ⟨⟨8, -1, by omega, by omega, by go_num, (by rw [← List.append_assoc]; exact HO2.out : BOwn w2 w.heap.size v2 (ubytes 10 2 ++ ((be8 v).take 7 ++ [v % 256]))), HB2.out⟩, by simp [intOf]⟩
    · obtain rfl : sh = -1 := by omega
      clear hsh
      go_wp2_with fail
      go_ret
      exact ⟨_, rfl, HO.out, HB.out⟩

set_option maxRecDepth 100000 in
set_option maxHeartbeats 2000000 in
theorem rform_list (n : Int) (f : Nat) (s : ByteArray) (l : List VT) (A : Option Addr) (cap : Nat) (hl : l.length ≤ cap) (hcap : cap ≤ maxLen) (w : World) (lo hi : Nat) (hk : KidsAt w lo hi l A) (hz : hi ≤ w.heap.size) (hlen : (l.map Pf.VT.form).flatten.length ≤ 500000)
    (ih : ∀ i (h : i < l.length) (W : World) (lo hi : Nat) (v : Value), Rep W lo hi l[i] v → hi ≤ W.heap.size → Calls Tryz.prog 116 #[v] W (KB W (Pf.VT.form l[i]))) :
    Calls Tryz.prog 116 #[.agg #[.int .i64 4, .int .i64 n, .float .f64 f, .string s, .slice A l.length cap]] w (KB w (ubytes 10 4 ++ (ubytes 10 l.length ++ (l.map Pf.VT.form).flatten))) := by
  simp only [maxLen] at hcap
  obtain ⟨W0, hW0⟩ : ∃ W0, W0 = w.alloc (.cells #[.int .i64 4, .int .i64 n, .float .f64 f, .string s, .slice A l.length cap] 30) := ⟨_, rfl⟩
  have HB0 : Hid (Below w.heap.size w W0) := Lib.hid (by rw [hW0]; exact (Below.refl _ _).alloc (Nat.le_refl _) _)
  have hz0 : w.heap.size < W0.heap.size := by rw [hW0]; simp
  have hx0 : BoxAt W0 w.heap.size 4 n f s A l.length cap := by rw [hW0]; exact BoxAt.new ..
  have HBX : Hid (∀ W, Below W0.heap.size W0 W → BoxAt W w.heap.size 4 n f s A l.length cap) := Lib.hid fun W hW => hx0.later hW hz0
  have HU : Hid (Calls Tryz.prog 71 #[.int .u64 4] W0 (KB W0 (ubytes 10 4))) := Lib.hid (ruform_any 4 (by decide) W0)
  have HUL : Hid ((ubytes 10 4).length ≤ 11) := Lib.hid (Bt.ubytes_len 10 4)
  have HUN := Lib.hid fun W => ruform_any l.length (by omega) W
  have HNL := Lib.hid (Bt.ubytes_len 10 l.length)
  have HWR : Hid (IntKind.u64.wrap (l.length : Int) = (l.length : Int)) := Lib.hid (IntWalk.u64_in _ (by omega))
  have HK := Lib.hid (hk.later (HB0.out.mono hz))
  have IH := Lib.hid ih
  have HLEN := Lib.hid hlen
  have hhi : hi ≤ W0.heap.size := Nat.le_trans hz HB0.out.size
  obtain ⟨c0, c1, c2, c3, c4⟩ := hx0.cells
  clear hx0 hk ih hlen
  replace hW0 := Lib.hid hW0
  go_enter Tryz.func116, Tryz.ntmps116
  go_upto_region 1 with fail
  rw [← hW0.out]
  go_wp2_with fail
  refine HU.out.mono ?_
  rintro e w1 ⟨v1, rfl, ho1, hb1⟩
  have HO1 := Lib.hid ho1; have HB1 := Lib.hid hb1
  clear c0 c1 c2 c3 c4 ho1 hb1
  obtain ⟨c0, c1, c2, c3, c4⟩ := (HBX.out w1 HB1.out).cells
  go_wp2_with fail
  refine (HUN.out w1).mono ?_
  rintro e w2 ⟨v2, rfl, ho2, hb2⟩
  have HI2 := Lib.hid ho2.read; have HO2 := Lib.hid (HO1.out.later hb2); have HB2 := Lib.hid (HB1.out.trans (hb2.mono HB1.out.size))
  clear ho2 hb2 c0 c1 c2 c3 c4
  obtain ⟨pre, hpre⟩ : ∃ p, p = ubytes 10 4 ++ ubytes 10 l.length := ⟨_, rfl⟩
  have HPRE := Lib.hid hpre
  have HPL : Hid (pre.length ≤ 22) := Lib.hid (by rw [hpre, List.length_append]; have := HUL.out; have := HNL.out; omega)
  clear hpre
  go_wp2_with (at_builtin; refine wpList_append_bytes _ rfl _ _ rfl W0.heap.size _ _ (ubytes 10 4) (ubytes 10 l.length) rfl rfl HO2.out HI2.out (by have := HUL.out; have := HNL.out; omega) HB2.out.size ?_; intro v3 w3 hown3 hg3 hb3; rw [← HPRE.out] at hown3; have HO3 := Lib.hid hown3; have HB3 := Lib.hid (HB2.out.trans hb3); clear hown3 hb3 hg3)
  go_loopw [3, 6] (fun out i wr => ∃ (j : Nat), j ≤ l.length ∧ i = .int .i64 j ∧ BOwn wr W0.heap.size out (pre ++ ((l.take j).map Pf.VT.form).flatten) ∧ Below W0.heap.size W0 wr) (fun _ i _ => l.length - (intOf i).toNat)
  case atStart => exact ⟨0, by omega, rfl, by simpa using HO3.out, HB3.out⟩
  case round =>
    obtain ⟨j, hj, rfl, hown, hb⟩ := hrel
    have HO := Lib.hid hown; have HB := Lib.hid hb
    obtain ⟨c0, c1, c2, c3, c4⟩ := (HBX.out wr hb).cells
    clear hown hb
    by_cases hlt : j < l.length
    · obtain ⟨b, off, rfl, hb1, hb2, h3⟩ := (HK.out.later (HB.out.mono hhi)).at_ (by omega)
      obtain ⟨k', n', f', s', L', A', cap', e, g0, g1, g2, g3, g4, hrj⟩ := h3 j hlt
      have hhr : hi ≤ wr.heap.size := Nat.le_trans hhi HB.out.size
      have HF := Lib.hid (IH.out j hlt wr lo hi _ hrj hhr)
      have HFT := Lib.hid (forms_take l j hlt)
      have HLE : Hid ((pre ++ ((l.take j).map Pf.VT.form).flatten).length + (Pf.VT.form l[j]).length ≤ 35184372088832) := Lib.hid (by
        have h1 := forms_le l (j + 1)
        rw [forms_take l j hlt, List.length_append] at h1
        have h2 := HLEN.out
        have h4 := HPL.out
        rw [List.length_append]
        omega)
      clear h3 hrj e
      obtain ⟨acc, hacc⟩ : ∃ a, a = pre ++ ((l.take j).map Pf.VT.form).flatten := ⟨_, rfl⟩
      rw [← hacc] at HO HLE
      have HACC := Lib.hid hacc
      obtain ⟨fj, hfj⟩ : ∃ a, a = Pf.VT.form l[j] := ⟨_, rfl⟩
      rw [← hfj] at HF HLE
      have HFJ := Lib.hid hfj
      clear hacc hfj
      go_wp2_with fail
      refine HF.out.mono ?_
      rintro x w4 ⟨v4, rfl, ho4, hb4⟩
      have HOB := Lib.hid (HO.out.later hb4)
      have HI4 := Lib.hid ho4.read
      have HBB := Lib.hid (HB.out.trans (hb4.mono HB.out.size))
      clear ho4 hb4 c0 c1 c2 c3 c4 g0 g1 g2 g3 g4
      go_wp2_with (at_builtin; refine wpList_append_bytes _ rfl _ _ rfl W0.heap.size _ _ acc fj rfl rfl HOB.out HI4.out HLE.out HBB.out.size ?_; intro v5 w5 hown5 hg5 hb5; have HO5 := Lib.hid hown5; have HB5 := Lib.hid (HBB.out.trans hb5); clear hown5 hb5 hg5)
      exact ⟨⟨j + 1, by omega, by go_num, by rw [HFT.out, ← List.append_assoc, ← HACC.out, ← HFJ.out]; exact HO5.out, HB5.out⟩, by simp [intOf]; omega⟩
    · have hj' : j = l.length := by omega
      subst hj'
      go_wp2_with fail
      go_ret
      have h := HO.out
      rw [List.take_length, HPRE.out, List.append_assoc] at h
      exact ⟨_, rfl, h.base HB0.out.size, HB0.out.trans (HB.out.mono HB0.out.size)⟩

/-- The form of whatever value is valid. -/
theorem rform_any (t : VT) : ∀ (d : Nat) (w : World) (lo hi : Nat) (v : Value), t.valid d = true → (Pf.VT.form t).length ≤ 100000 → t.Slim 900 → Rep w lo hi t v → hi ≤ w.heap.size → Calls Tryz.prog 116 #[v] w (KB w (Pf.VT.form t)) := by
  induction t using VT.ind with
  | _ k n f s l ih =>
    intro d w lo hi v hv hlen hS hR hz
    obtain ⟨A, cap, rfl, ho, hl, hk⟩ := hR.head
    obtain ⟨hs9, hl9, hkS⟩ := Vt.slim_mk.1 hS
    rw [Pf.form_mk] at hlen ⊢
    rw [List.length_append] at hlen
    rcases Pf.valid_cases hv with ⟨rfl, -⟩ | ⟨rfl, -⟩ | ⟨rfl, -⟩ | ⟨rfl, -⟩ | ⟨rfl, -, -, -, hkv⟩
    · exact rform_none n f s A l.length cap w
    · exact rform_int n f s A l.length cap w ho.n0 ho.n1
    · exact rform_float n f s A l.length cap w ho.f1
    · exact rform_text n f s A l.length cap w (by omega)
    · rw [if_neg (by omega), if_neg (by omega), if_neg (by omega), if_pos rfl] at hlen ⊢
      rw [List.length_append] at hlen
      have hfl : ∀ i (h : i < l.length), (Pf.VT.form l[i]).length ≤ 100000 := fun i hi => by
        have h1 := forms_le l (i + 1)
        rw [forms_take l i hi, List.length_append] at h1
        omega
      exact rform_list n f s l A cap hl ho.m1 w lo hi hk hz (by omega) (fun i hi W lo hi' v h1 h2 => ih i hi (d - 1) W lo hi' v (hkv _ (List.getElem_mem hi)) (hfl i hi) (hkS i hi) h1 h2)

set_option maxRecDepth 100000 in
theorem rvbytes_any (t : VT) (hfew : t.few = true) (lo hi : Nat) (v : Value) (w : World) (hv : Rep w lo hi t v) (hz : hi ≤ w.heap.size) (hval : t.valid 8 = true) :
    Calls Tryz.prog 97 #[v] w fun e w' => ∃ v, e = .returned (.tuple #[v, .bool true]) ∧ BOwn w' w.heap.size v (Pf.VT.form t) ∧ Below w.heap.size w w' := by
  obtain ⟨k, n, f, s, l⟩ := t
  obtain ⟨A, cap, rfl, -⟩ := id hv.head
  obtain ⟨W0, hW0⟩ : ∃ W0, W0 = w.alloc (.cells #[.int .i64 k, .int .i64 n, .float .f64 f, .string s, .slice A l.length cap] 30) := ⟨_, rfl⟩
  have hB0 : Below w.heap.size w W0 := by rw [hW0]; exact (Below.refl _ _).alloc (Nat.le_refl _) _
  have hbx : BoxAt W0 w.heap.size k n f s A l.length cap := by rw [hW0]; exact BoxAt.new ..
  have hz0 : w.heap.size < W0.heap.size := by rw [hW0]; simp
  have HBX : Hid (∀ W, Below W0.heap.size W0 W → BoxAt W w.heap.size k n f s A l.length cap) := Lib.hid fun W hW => hbx.later hW hz0
  have HV := Lib.hid (Vt.rvalid_any (.mk k n f s l) W0 lo hi _ (hv.later (hB0.mono hz)) (Nat.le_trans hz hB0.size))
  rw [hval] at HV
  have HF := Lib.hid fun W (hW : Below W0.heap.size W0 W) => rform_any (.mk k n f s l) 8 W lo hi _ hval (by have := Vf.form_len_few hfew; omega) (Vt.slim_of_few _ hfew) ((hv.later (hB0.mono hz)).later (hW.mono (Nat.le_trans hz hB0.size))) (Nat.le_trans hz (Nat.le_trans hB0.size hW.size))
  have HB0 := Lib.hid hB0
  obtain ⟨c0, c1, c2, c3, c4⟩ := hbx.cells
  clear hB0 hbx hv
  replace hW0 := Lib.hid hW0
  go_enter Tryz.func97, Tryz.ntmps97
  go_upto_region 1 with fail
  rw [← hW0.out]
  go_wp2_with fail
  refine HV.out.mono ?_
  rintro e w1 ⟨rfl, hb1⟩
  obtain ⟨d0, d1, d2, d3, d4⟩ := (HBX.out w1 hb1).cells
  have HB1 := Lib.hid hb1
  clear hb1 c0 c1 c2 c3 c4
  go_wp2_with fail
  refine (HF.out _ HB1.out).mono ?_
  rintro e w2 ⟨v, rfl, hown, hb2⟩
  have HO2 := Lib.hid hown
  have HB2 := Lib.hid hb2
  clear hown hb2
  go_wp2_with fail
  have hz1 := Nat.le_trans HB0.out.size HB1.out.size
  exact bodyPost_ret (v := .tuple #[v, .bool true]) (by simp [results, Tryz.results97, go_sem]) rfl ⟨v, rfl, HO2.out.base hz1, HB0.out.trans ((HB1.out.trans (HB2.out.mono HB1.out.size)).mono HB0.out.size)⟩
end Rf
end Go.Proofs.YtcbddebmmaflgaaGreatDoor
namespace Go.Proofs.YtcbddebmmaflgaaGreatDoor
open Go.RowKit
set_option linter.unusedVariables false
set_option linter.unusedSimpArgs false
namespace Rf
open _root_.Go.Proofs.YtcbddebmmaflgaaGreatDoor.Nm (bitsW rbits_any ret_int ret_bool)
open Bt (BOwn BIn ubytes sb bown_nil wpList_append_bytes bv sel)
open Pf (zz zz_lt be8 sform)
open Vf (KB one_byte eform hasF)
open Vt (VT Rep BoxAt below_drew KidsAt HeadOk)
open Ev (EV FieldsOk evCells vCells EBox ERep zeroT fieldsOf)
open Cm (has_field)

theorem selT0 (b0 b1 b2 b3 b4 b5 : Bool) (p0 p1 p2 p3 p4 p5 : List Nat) (h : b0 = true) : sel [b0, b1, b2, b3, b4, b5] [p0, p1, p2, p3, p4, p5] 1 = sel [b0, b1, b2, b3, b4, b5] [p0, p1, p2, p3, p4, p5] 0 ++ p0 := by subst h; simp [sel]
theorem selF0 (b0 b1 b2 b3 b4 b5 : Bool) (p0 p1 p2 p3 p4 p5 : List Nat) (h : b0 = false) : sel [b0, b1, b2, b3, b4, b5] [p0, p1, p2, p3, p4, p5] 1 = sel [b0, b1, b2, b3, b4, b5] [p0, p1, p2, p3, p4, p5] 0 := by subst h; simp [sel]
theorem selT1 (b0 b1 b2 b3 b4 b5 : Bool) (p0 p1 p2 p3 p4 p5 : List Nat) (h : b1 = true) : sel [b0, b1, b2, b3, b4, b5] [p0, p1, p2, p3, p4, p5] 2 = sel [b0, b1, b2, b3, b4, b5] [p0, p1, p2, p3, p4, p5] 1 ++ p1 := by subst h; simp [sel]
theorem selF1 (b0 b1 b2 b3 b4 b5 : Bool) (p0 p1 p2 p3 p4 p5 : List Nat) (h : b1 = false) : sel [b0, b1, b2, b3, b4, b5] [p0, p1, p2, p3, p4, p5] 2 = sel [b0, b1, b2, b3, b4, b5] [p0, p1, p2, p3, p4, p5] 1 := by subst h; simp [sel]
theorem selT2 (b0 b1 b2 b3 b4 b5 : Bool) (p0 p1 p2 p3 p4 p5 : List Nat) (h : b2 = true) : sel [b0, b1, b2, b3, b4, b5] [p0, p1, p2, p3, p4, p5] 3 = sel [b0, b1, b2, b3, b4, b5] [p0, p1, p2, p3, p4, p5] 2 ++ p2 := by subst h; simp [sel]
theorem selF2 (b0 b1 b2 b3 b4 b5 : Bool) (p0 p1 p2 p3 p4 p5 : List Nat) (h : b2 = false) : sel [b0, b1, b2, b3, b4, b5] [p0, p1, p2, p3, p4, p5] 3 = sel [b0, b1, b2, b3, b4, b5] [p0, p1, p2, p3, p4, p5] 2 := by subst h; simp [sel]
theorem selT3 (b0 b1 b2 b3 b4 b5 : Bool) (p0 p1 p2 p3 p4 p5 : List Nat) (h : b3 = true) : sel [b0, b1, b2, b3, b4, b5] [p0, p1, p2, p3, p4, p5] 4 = sel [b0, b1, b2, b3, b4, b5] [p0, p1, p2, p3, p4, p5] 3 ++ p3 := by subst h; simp [sel]
theorem selF3 (b0 b1 b2 b3 b4 b5 : Bool) (p0 p1 p2 p3 p4 p5 : List Nat) (h : b3 = false) : sel [b0, b1, b2, b3, b4, b5] [p0, p1, p2, p3, p4, p5] 4 = sel [b0, b1, b2, b3, b4, b5] [p0, p1, p2, p3, p4, p5] 3 := by subst h; simp [sel]
theorem selT4 (b0 b1 b2 b3 b4 b5 : Bool) (p0 p1 p2 p3 p4 p5 : List Nat) (h : b4 = true) : sel [b0, b1, b2, b3, b4, b5] [p0, p1, p2, p3, p4, p5] 5 = sel [b0, b1, b2, b3, b4, b5] [p0, p1, p2, p3, p4, p5] 4 ++ p4 := by subst h; simp [sel]
theorem selF4 (b0 b1 b2 b3 b4 b5 : Bool) (p0 p1 p2 p3 p4 p5 : List Nat) (h : b4 = false) : sel [b0, b1, b2, b3, b4, b5] [p0, p1, p2, p3, p4, p5] 5 = sel [b0, b1, b2, b3, b4, b5] [p0, p1, p2, p3, p4, p5] 4 := by subst h; simp [sel]
theorem selT5 (b0 b1 b2 b3 b4 b5 : Bool) (p0 p1 p2 p3 p4 p5 : List Nat) (h : b5 = true) : sel [b0, b1, b2, b3, b4, b5] [p0, p1, p2, p3, p4, p5] 6 = sel [b0, b1, b2, b3, b4, b5] [p0, p1, p2, p3, p4, p5] 5 ++ p5 := by subst h; simp [sel]
theorem selF5 (b0 b1 b2 b3 b4 b5 : Bool) (p0 p1 p2 p3 p4 p5 : List Nat) (h : b5 = false) : sel [b0, b1, b2, b3, b4, b5] [p0, p1, p2, p3, p4, p5] 6 = sel [b0, b1, b2, b3, b4, b5] [p0, p1, p2, p3, p4, p5] 5 := by subst h; simp [sel]
theorem sel_len (b0 b1 b2 b3 b4 b5 : Bool) (p0 p1 p2 p3 p4 p5 : List Nat) (M : Nat) (h0 : p0.length ≤ M) (h1 : p1.length ≤ M) (h2 : p2.length ≤ M) (h3 : p3.length ≤ M) (h4 : p4.length ≤ M) (h5 : p5.length ≤ M) (j : Nat) (hj : j ≤ 6) : (sel [b0, b1, b2, b3, b4, b5] [p0, p1, p2, p3, p4, p5] j).length ≤ 6 * M := by
  have a : ∀ (b : Bool) (p : List Nat), p.length ≤ M → (if b = true then p else []).length ≤ M := fun b p h => by split <;> simp [h]
  have a0 := a b0 p0 h0; have a1 := a b1 p1 h1; have a2 := a b2 p2 h2; have a3 := a b3 p3 h3; have a4 := a b4 p4 h4; have a5 := a b5 p5 h5
  rcases (by omega : j = 0 ∨ j = 1 ∨ j = 2 ∨ j = 3 ∨ j = 4 ∨ j = 5 ∨ j = 6) with rfl | rfl | rfl | rfl | rfl | rfl | rfl <;> simp [sel] <;> omega

set_option maxRecDepth 100000 in
set_option maxHeartbeats 4000000 in
theorem reform_walk (k id n at' : Nat) (name text : ByteArray) (hk : k ≤ 11) (hi : id < 18446744073709551616) (hn : n ≤ 2147483647) (ha : at' < 18446744073709551616) (hs : name.size ≤ 1000) (ht : text.size ≤ 1000) (vk vn : Int) (vf : Nat) (vs : ByteArray) (A : Option Addr) (m c : Nat) (b0 b1 b2 b3 b4 b5 : Bool) (fv : List Nat) (hfv : fv.length ≤ 30000) (w : World)
    (H0 : Hid (∀ W, Calls Tryz.prog 44 #[.int .i64 (k : Nat), .int .u8 105] W fun r w' => r = .returned (.bool b0) ∧ Below W.heap.size W w'))
    (H1 : Hid (∀ W, Calls Tryz.prog 44 #[.int .i64 (k : Nat), .int .u8 110] W fun r w' => r = .returned (.bool b1) ∧ Below W.heap.size W w'))
    (H2 : Hid (∀ W, Calls Tryz.prog 44 #[.int .i64 (k : Nat), .int .u8 97] W fun r w' => r = .returned (.bool b2) ∧ Below W.heap.size W w'))
    (H3 : Hid (∀ W, Calls Tryz.prog 44 #[.int .i64 (k : Nat), .int .u8 115] W fun r w' => r = .returned (.bool b3) ∧ Below W.heap.size W w'))
    (H4 : Hid (∀ W, Calls Tryz.prog 44 #[.int .i64 (k : Nat), .int .u8 116] W fun r w' => r = .returned (.bool b4) ∧ Below W.heap.size W w'))
    (H5 : Hid (∀ W, Calls Tryz.prog 44 #[.int .i64 (k : Nat), .int .u8 118] W fun r w' => r = .returned (.bool b5) ∧ Below W.heap.size W w'))
    (hVB : ∀ W, Below w.heap.size w W → Calls Tryz.prog 97 #[.agg #[.int .i64 vk, .int .i64 vn, .float .f64 vf, .string vs, .slice A m c]] W fun e w' => ∃ v, e = .returned (.tuple #[v, .bool true]) ∧ BOwn w' W.heap.size v fv ∧ Below W.heap.size W w') :
    Calls Tryz.prog 56 #[.agg #[.int .i64 (k : Nat), .int .u64 (id : Nat), .int .i64 (n : Nat), .int .u64 (at' : Nat), .string name, .string text, .int .i64 vk, .int .i64 vn, .float .f64 vf, .string vs, .slice A m c]] w (KB w ([1] ++ ubytes 10 k ++ sel [b0, b1, b2, b3, b4, b5] [ubytes 10 id, ubytes 10 n, ubytes 10 at', sform name, sform text, fv] 6)) := by
  obtain ⟨W0, hW0⟩ : ∃ W0, W0 = w.alloc (.cells #[.int .i64 (k : Nat), .int .u64 (id : Nat), .int .i64 (n : Nat), .int .u64 (at' : Nat), .string name, .string text, .int .i64 vk, .int .i64 vn, .float .f64 vf, .string vs, .slice A m c] 32) := ⟨_, rfl⟩
  have HB0 : Hid (Below w.heap.size w W0) := Lib.hid (by rw [hW0]; exact (Below.refl _ _).alloc (Nat.le_refl _) _)
  have hbx : EBox W0 w.heap.size #[.int .i64 (k : Nat), .int .u64 (id : Nat), .int .i64 (n : Nat), .int .u64 (at' : Nat), .string name, .string text, .int .i64 vk, .int .i64 vn, .float .f64 vf, .string vs, .slice A m c] := by rw [hW0]; exact heap_alloc_new w _
  have hzz : w.heap.size < W0.heap.size := by rw [hW0]; simp
  have HX : Hid (∀ W, Below W0.heap.size W0 W → EBox W w.heap.size #[.int .i64 (k : Nat), .int .u64 (id : Nat), .int .i64 (n : Nat), .int .u64 (at' : Nat), .string name, .string text, .int .i64 vk, .int .i64 vn, .float .f64 vf, .string vs, .slice A m c]) := Lib.hid fun W hW => hbx.later hW hzz
  have HVB : Hid (∀ W, Below W0.heap.size W0 W → Calls Tryz.prog 97 #[.agg #[.int .i64 vk, .int .i64 vn, .float .f64 vf, .string vs, .slice A m c]] W fun e w' => ∃ v, e = .returned (.tuple #[v, .bool true]) ∧ BOwn w' W.heap.size v fv ∧ Below W.heap.size W w') := Lib.hid fun W hW => hVB W (HB0.out.trans (hW.mono HB0.out.size))
  have HUK := Lib.hid fun W => ruform_any k (by omega) W
  have HUI := Lib.hid fun W => ruform_any id hi W
  have HUN := Lib.hid fun W => ruform_any n (by omega) W
  have HUA := Lib.hid fun W => ruform_any at' ha W
  have hln := Bt.sb_len name
  have hlt := Bt.sb_len text
  have HS3 := Lib.hid fun W => str_in W name (by omega)
  have HS4 := Lib.hid fun W => str_in W text (by omega)
  have HFB3 := Lib.hid fun (W : World) (v : Value) (hv : BIn W v (sb name)) => rbform_any v (sb name) (by omega) W hv
  have HFB4 := Lib.hid fun (W : World) (v : Value) (hv : BIn W v (sb text)) => rbform_any v (sb text) (by omega) W hv
  have HFS3 : Hid (ubytes 10 (sb name).length ++ sb name = sform name) := Lib.hid (by rw [hln]; rfl)
  have HFS4 : Hid (ubytes 10 (sb text).length ++ sb text = sform text) := Lib.hid (by rw [hlt]; rfl)
  have hkl := Bt.ubytes_len 10 k
  have l0 := Bt.ubytes_len 10 id; have l1 := Bt.ubytes_len 10 n; have l2 := Bt.ubytes_len 10 at'
  have l3 : (sform name).length ≤ 30000 := by unfold sform; rw [List.length_append]; have := Bt.ubytes_len 10 name.size; omega
  have l4 : (sform text).length ≤ 30000 := by unfold sform; rw [List.length_append]; have := Bt.ubytes_len 10 text.size; omega
  have HSL := Lib.hid (sel_len b0 b1 b2 b3 b4 b5 (ubytes 10 id) (ubytes 10 n) (ubytes 10 at') (sform name) (sform text) fv 30000 (by omega) (by omega) (by omega) l3 l4 hfv)
  obtain ⟨pre, hpre⟩ : ∃ p, p = [1] ++ ubytes 10 k := ⟨_, rfl⟩
  have HPRE := Lib.hid hpre
  have hpl : pre.length ≤ 12 := by rw [hpre, List.length_append]; simp only [List.length_singleton]; omega
  have HLE0 : Hid ((pre ++ sel [b0, b1, b2, b3, b4, b5] [ubytes 10 id, ubytes 10 n, ubytes 10 at', sform name, sform text, fv] 0).length + (ubytes 10 id).length ≤ 35184372088832) := Lib.hid (by have := HSL.out 0 (by omega); rw [List.length_append]; omega)
  have HLE1 : Hid ((pre ++ sel [b0, b1, b2, b3, b4, b5] [ubytes 10 id, ubytes 10 n, ubytes 10 at', sform name, sform text, fv] 1).length + (ubytes 10 n).length ≤ 35184372088832) := Lib.hid (by have := HSL.out 1 (by omega); rw [List.length_append]; omega)
  have HLE2 : Hid ((pre ++ sel [b0, b1, b2, b3, b4, b5] [ubytes 10 id, ubytes 10 n, ubytes 10 at', sform name, sform text, fv] 2).length + (ubytes 10 at').length ≤ 35184372088832) := Lib.hid (by have := HSL.out 2 (by omega); rw [List.length_append]; omega)
  have HLE3 : Hid ((pre ++ sel [b0, b1, b2, b3, b4, b5] [ubytes 10 id, ubytes 10 n, ubytes 10 at', sform name, sform text, fv] 3).length + (sform name).length ≤ 35184372088832) := Lib.hid (by have := HSL.out 3 (by omega); rw [List.length_append]; omega)
  have HLE4 : Hid ((pre ++ sel [b0, b1, b2, b3, b4, b5] [ubytes 10 id, ubytes 10 n, ubytes 10 at', sform name, sform text, fv] 4).length + (sform text).length ≤ 35184372088832) := Lib.hid (by have := HSL.out 4 (by omega); rw [List.length_append]; omega)
  have HLE5 : Hid ((pre ++ sel [b0, b1, b2, b3, b4, b5] [ubytes 10 id, ubytes 10 n, ubytes 10 at', sform name, sform text, fv] 5).length + (fv).length ≤ 35184372088832) := Lib.hid (by have := HSL.out 5 (by omega); rw [List.length_append]; omega)
  have HKL := Lib.hid hkl
  have HWK : Hid (IntKind.u64.wrap (k : Int) = (k : Int)) := Lib.hid (IntWalk.u64_in _ (by omega))
  have HWN : Hid (IntKind.u64.wrap (n : Int) = (n : Int)) := Lib.hid (IntWalk.u64_in _ (by omega))
  rw [← hpre]
  clear hbx hVB hpre hkl l0 l1 l2 l3 l4 hln hlt hfv hpl
  replace hW0 := Lib.hid hW0
  obtain ⟨W1, hW1⟩ : ∃ W1, W1 = W0.alloc (.cells #[.int .u8 1] 5) := ⟨_, rfl⟩
  have hb1 : Below W0.heap.size W0 W1 := by rw [hW1]; exact (Below.refl _ _).alloc (Nat.le_refl _) _
  have h11 : W1.heap[W0.heap.size]? = some (.cells #[.int .u8 1] 5 (0, 0)) := by rw [hW1]; exact heap_alloc_new _ _
  have HO1 : Hid (BOwn W1 W0.heap.size (.slice (some ⟨W0.heap.size, 0, none⟩) 1 1) [1]) := Lib.hid (by
    refine ⟨rfl, .inr ⟨W0.heap.size, 1, #[.int .u8 1], rfl, Nat.le_refl _, h11, by simp, by decide, rfl, rfl⟩⟩)
  have HB1 := Lib.hid hb1
  obtain ⟨c0, c1, c2, c3, c4, c5, c6, c7, c8, c9, c10⟩ := EBox.cells (HX.out W0 (Below.refl _ _))
  clear hb1 h11
  replace hW1 := Lib.hid hW1
  go_enter Tryz.func56, Tryz.ntmps56
  go_upto_region 1 with fail
  rw [← hW0.out]
  go_wp2_with fail
  rw [← hW1.out]
  try rw [HWK.out]
  refine (HUK.out _).mono ?_
  rintro x w2 ⟨v2, rfl, ho2, hb2⟩
  have HI2 := Lib.hid ho2.read; have HO2 := Lib.hid (HO1.out.later hb2); have HB2 := Lib.hid (HB1.out.trans (hb2.mono HB1.out.size))
  clear ho2 hb2 c0 c1 c2 c3 c4 c5 c6 c7 c8 c9 c10
  go_wp2_with (at_builtin; refine wpList_append_bytes _ rfl _ _ rfl W0.heap.size _ _ [1] (ubytes 10 k) rfl rfl HO2.out HI2.out (by have := HKL.out; simp only [List.length_singleton]; omega) HB2.out.size ?_; intro v3 w3 hown3 hg3 hb3; rw [← HPRE.out] at hown3; have HO3 := Lib.hid hown3; have HB3 := Lib.hid (HB2.out.trans hb3); clear hown3 hb3 hg3)
  go_loopw [3, 4] (fun o i wr => ∃ (j : Nat), j ≤ 6 ∧ i = .int .i64 j ∧ BOwn wr W0.heap.size o (pre ++ sel [b0, b1, b2, b3, b4, b5] [ubytes 10 id, ubytes 10 n, ubytes 10 at', sform name, sform text, fv] j) ∧ Below W0.heap.size W0 wr) (fun _ i _ => 6 - (intOf i).toNat)
  case atStart => exact ⟨0, by omega, rfl, by rw [show sel [b0, b1, b2, b3, b4, b5] [ubytes 10 id, ubytes 10 n, ubytes 10 at', sform name, sform text, fv] 0 = [] from by simp [sel], List.append_nil]; exact HO3.out, HB3.out⟩
  case round =>
    obtain ⟨j, hj, rfl, hown, hb⟩ := hrel
    have HO := Lib.hid hown; have HB := Lib.hid hb
    obtain ⟨c0, c1, c2, c3, c4, c5, c6, c7, c8, c9, c10⟩ := EBox.cells (HX.out wr hb)
    clear hown hb
    rcases (by omega : j = 0 ∨ j = 1 ∨ j = 2 ∨ j = 3 ∨ j = 4 ∨ j = 5 ∨ j = 6) with rfl | rfl | rfl | rfl | rfl | rfl | rfl
    · go_wp2_with fail
      refine (H0.out wr).mono ?_
      rintro x w6 ⟨rfl, hb6⟩
      have HO6 := Lib.hid (HO.out.later hb6)
      have HB6 := Lib.hid (HB.out.trans (hb6.mono HB.out.size))
      clear hb6 c0 c1 c2 c3 c4 c5 c6 c7 c8 c9 c10
      obtain ⟨c0, c1, c2, c3, c4, c5, c6, c7, c8, c9, c10⟩ := EBox.cells (HX.out w6 HB6.out)
      cases hbb : b0 with
      | false =>
        have HSS := Lib.hid (selF0 b0 b1 b2 b3 b4 b5 (ubytes 10 id) (ubytes 10 n) (ubytes 10 at') (sform name) (sform text) fv hbb)
        go_wp2_with fail
        exact ⟨⟨1, by omega, by go_num, by rw [HSS.out]; exact HO6.out, HB6.out⟩, by simp [intOf]⟩
      | true =>
        have HSS := Lib.hid (selT0 b0 b1 b2 b3 b4 b5 (ubytes 10 id) (ubytes 10 n) (ubytes 10 at') (sform name) (sform text) fv hbb)
        go_wp2_with fail
        refine (HUI.out w6).mono ?_
        rintro x w7 ⟨v7, rfl, ho7, hb7⟩
        have HI7 := Lib.hid ho7.read; have HO7 := Lib.hid (HO6.out.later hb7); have HB7 := Lib.hid (HB6.out.trans (hb7.mono HB6.out.size))
        clear ho7 hb7
        clear c0 c1 c2 c3 c4 c5 c6 c7 c8 c9 c10
        go_wp2_with (at_builtin; refine wpList_append_bytes _ rfl _ _ rfl W0.heap.size _ _ (pre ++ sel [b0, b1, b2, b3, b4, b5] [ubytes 10 id, ubytes 10 n, ubytes 10 at', sform name, sform text, fv] 0) (ubytes 10 id) rfl rfl HO7.out HI7.out (HLE0.out) HB7.out.size ?_; intro v8 w8 hown8 hg8 hb8; have HO8 := Lib.hid hown8; have HB8 := Lib.hid (HB7.out.trans hb8); clear hown8 hb8 hg8)
        exact ⟨⟨1, by omega, by go_num, by rw [HSS.out, ← List.append_assoc]; exact HO8.out, HB8.out⟩, by simp [intOf]⟩
    · go_wp2_with fail
      refine (H1.out wr).mono ?_
      rintro x w6 ⟨rfl, hb6⟩
      have HO6 := Lib.hid (HO.out.later hb6)
      have HB6 := Lib.hid (HB.out.trans (hb6.mono HB.out.size))
      clear hb6 c0 c1 c2 c3 c4 c5 c6 c7 c8 c9 c10
      obtain ⟨c0, c1, c2, c3, c4, c5, c6, c7, c8, c9, c10⟩ := EBox.cells (HX.out w6 HB6.out)
      cases hbb : b1 with
      | false =>
        have HSS := Lib.hid (selF1 b0 b1 b2 b3 b4 b5 (ubytes 10 id) (ubytes 10 n) (ubytes 10 at') (sform name) (sform text) fv hbb)
        go_wp2_with fail
        exact ⟨⟨2, by omega, by go_num, by rw [HSS.out]; exact HO6.out, HB6.out⟩, by simp [intOf]⟩
      | true =>
        have HSS := Lib.hid (selT1 b0 b1 b2 b3 b4 b5 (ubytes 10 id) (ubytes 10 n) (ubytes 10 at') (sform name) (sform text) fv hbb)
        go_wp2_with fail
        refine (HUN.out w6).mono ?_
        rintro x w7 ⟨v7, rfl, ho7, hb7⟩
        have HI7 := Lib.hid ho7.read; have HO7 := Lib.hid (HO6.out.later hb7); have HB7 := Lib.hid (HB6.out.trans (hb7.mono HB6.out.size))
        clear ho7 hb7
        clear c0 c1 c2 c3 c4 c5 c6 c7 c8 c9 c10
        go_wp2_with (at_builtin; refine wpList_append_bytes _ rfl _ _ rfl W0.heap.size _ _ (pre ++ sel [b0, b1, b2, b3, b4, b5] [ubytes 10 id, ubytes 10 n, ubytes 10 at', sform name, sform text, fv] 1) (ubytes 10 n) rfl rfl HO7.out HI7.out (HLE1.out) HB7.out.size ?_; intro v8 w8 hown8 hg8 hb8; have HO8 := Lib.hid hown8; have HB8 := Lib.hid (HB7.out.trans hb8); clear hown8 hb8 hg8)
        exact ⟨⟨2, by omega, by go_num, by rw [HSS.out, ← List.append_assoc]; exact HO8.out, HB8.out⟩, by simp [intOf]⟩
    · go_wp2_with fail
      refine (H2.out wr).mono ?_
      rintro x w6 ⟨rfl, hb6⟩
      have HO6 := Lib.hid (HO.out.later hb6)
      have HB6 := Lib.hid (HB.out.trans (hb6.mono HB.out.size))
      clear hb6 c0 c1 c2 c3 c4 c5 c6 c7 c8 c9 c10
      obtain ⟨c0, c1, c2, c3, c4, c5, c6, c7, c8, c9, c10⟩ := EBox.cells (HX.out w6 HB6.out)
      cases hbb : b2 with
      | false =>
        have HSS := Lib.hid (selF2 b0 b1 b2 b3 b4 b5 (ubytes 10 id) (ubytes 10 n) (ubytes 10 at') (sform name) (sform text) fv hbb)
        go_wp2_with fail
        exact ⟨⟨3, by omega, by go_num, by rw [HSS.out]; exact HO6.out, HB6.out⟩, by simp [intOf]⟩
      | true =>
        have HSS := Lib.hid (selT2 b0 b1 b2 b3 b4 b5 (ubytes 10 id) (ubytes 10 n) (ubytes 10 at') (sform name) (sform text) fv hbb)
        go_wp2_with fail
        refine (HUA.out w6).mono ?_
        rintro x w7 ⟨v7, rfl, ho7, hb7⟩
        have HI7 := Lib.hid ho7.read; have HO7 := Lib.hid (HO6.out.later hb7); have HB7 := Lib.hid (HB6.out.trans (hb7.mono HB6.out.size))
        clear ho7 hb7
        clear c0 c1 c2 c3 c4 c5 c6 c7 c8 c9 c10
        go_wp2_with (at_builtin; refine wpList_append_bytes _ rfl _ _ rfl W0.heap.size _ _ (pre ++ sel [b0, b1, b2, b3, b4, b5] [ubytes 10 id, ubytes 10 n, ubytes 10 at', sform name, sform text, fv] 2) (ubytes 10 at') rfl rfl HO7.out HI7.out (HLE2.out) HB7.out.size ?_; intro v8 w8 hown8 hg8 hb8; have HO8 := Lib.hid hown8; have HB8 := Lib.hid (HB7.out.trans hb8); clear hown8 hb8 hg8)
        exact ⟨⟨3, by omega, by go_num, by rw [HSS.out, ← List.append_assoc]; exact HO8.out, HB8.out⟩, by simp [intOf]⟩
    · go_wp2_with fail
      refine (H3.out wr).mono ?_
      rintro x w6 ⟨rfl, hb6⟩
      have HO6 := Lib.hid (HO.out.later hb6)
      have HB6 := Lib.hid (HB.out.trans (hb6.mono HB.out.size))
      clear hb6 c0 c1 c2 c3 c4 c5 c6 c7 c8 c9 c10
      obtain ⟨c0, c1, c2, c3, c4, c5, c6, c7, c8, c9, c10⟩ := EBox.cells (HX.out w6 HB6.out)
      cases hbb : b3 with
      | false =>
        have HSS := Lib.hid (selF3 b0 b1 b2 b3 b4 b5 (ubytes 10 id) (ubytes 10 n) (ubytes 10 at') (sform name) (sform text) fv hbb)
        go_wp2_with fail
        exact ⟨⟨4, by omega, by go_num, by rw [HSS.out]; exact HO6.out, HB6.out⟩, by simp [intOf]⟩
      | true =>
        have HSS := Lib.hid (selT3 b0 b1 b2 b3 b4 b5 (ubytes 10 id) (ubytes 10 n) (ubytes 10 at') (sform name) (sform text) fv hbb)
        obtain ⟨cc, w5, hcv, hin5, hb5⟩ := HS3.out w6
        have HI5 := Lib.hid hin5; have HO5 := Lib.hid (HO6.out.later hb5); have HB5 := Lib.hid (HB6.out.trans (hb5.mono HB6.out.size))
        clear hin5 hb5
        go_wp2_with fail
        refine (HFB3.out _ _ HI5.out).mono ?_
        rintro x w7 ⟨v7, rfl, ho7, hb7⟩
        have HI7 := Lib.hid (HFS3.out ▸ ho7.read); have HO7 := Lib.hid (HO5.out.later hb7); have HB7 := Lib.hid (HB5.out.trans (hb7.mono HB5.out.size))
        clear ho7 hb7 hcv
        clear c0 c1 c2 c3 c4 c5 c6 c7 c8 c9 c10
        go_wp2_with (at_builtin; refine wpList_append_bytes _ rfl _ _ rfl W0.heap.size _ _ (pre ++ sel [b0, b1, b2, b3, b4, b5] [ubytes 10 id, ubytes 10 n, ubytes 10 at', sform name, sform text, fv] 3) (sform name) rfl rfl HO7.out HI7.out (HLE3.out) HB7.out.size ?_; intro v8 w8 hown8 hg8 hb8; have HO8 := Lib.hid hown8; have HB8 := Lib.hid (HB7.out.trans hb8); clear hown8 hb8 hg8)
        exact ⟨⟨4, by omega, by go_num, by rw [HSS.out, ← List.append_assoc]; exact HO8.out, HB8.out⟩, by simp [intOf]⟩
    · go_wp2_with fail
      refine (H4.out wr).mono ?_
      rintro x w6 ⟨rfl, hb6⟩
      have HO6 := Lib.hid (HO.out.later hb6)
      have HB6 := Lib.hid (HB.out.trans (hb6.mono HB.out.size))
      clear hb6 c0 c1 c2 c3 c4 c5 c6 c7 c8 c9 c10
      obtain ⟨c0, c1, c2, c3, c4, c5, c6, c7, c8, c9, c10⟩ := EBox.cells (HX.out w6 HB6.out)
      cases hbb : b4 with
      | false =>
        have HSS := Lib.hid (selF4 b0 b1 b2 b3 b4 b5 (ubytes 10 id) (ubytes 10 n) (ubytes 10 at') (sform name) (sform text) fv hbb)
        go_wp2_with fail
        exact ⟨⟨5, by omega, by go_num, by rw [HSS.out]; exact HO6.out, HB6.out⟩, by simp [intOf]⟩
      | true =>
        have HSS := Lib.hid (selT4 b0 b1 b2 b3 b4 b5 (ubytes 10 id) (ubytes 10 n) (ubytes 10 at') (sform name) (sform text) fv hbb)
        obtain ⟨cc, w5, hcv, hin5, hb5⟩ := HS4.out w6
        have HI5 := Lib.hid hin5; have HO5 := Lib.hid (HO6.out.later hb5); have HB5 := Lib.hid (HB6.out.trans (hb5.mono HB6.out.size))
        clear hin5 hb5
        go_wp2_with fail
        refine (HFB4.out _ _ HI5.out).mono ?_
        rintro x w7 ⟨v7, rfl, ho7, hb7⟩
        have HI7 := Lib.hid (HFS4.out ▸ ho7.read); have HO7 := Lib.hid (HO5.out.later hb7); have HB7 := Lib.hid (HB5.out.trans (hb7.mono HB5.out.size))
        clear ho7 hb7 hcv
        clear c0 c1 c2 c3 c4 c5 c6 c7 c8 c9 c10
        go_wp2_with (at_builtin; refine wpList_append_bytes _ rfl _ _ rfl W0.heap.size _ _ (pre ++ sel [b0, b1, b2, b3, b4, b5] [ubytes 10 id, ubytes 10 n, ubytes 10 at', sform name, sform text, fv] 4) (sform text) rfl rfl HO7.out HI7.out (HLE4.out) HB7.out.size ?_; intro v8 w8 hown8 hg8 hb8; have HO8 := Lib.hid hown8; have HB8 := Lib.hid (HB7.out.trans hb8); clear hown8 hb8 hg8)
        exact ⟨⟨5, by omega, by go_num, by rw [HSS.out, ← List.append_assoc]; exact HO8.out, HB8.out⟩, by simp [intOf]⟩
    · go_wp2_with fail
      refine (H5.out wr).mono ?_
      rintro x w6 ⟨rfl, hb6⟩
      have HO6 := Lib.hid (HO.out.later hb6)
      have HB6 := Lib.hid (HB.out.trans (hb6.mono HB.out.size))
      clear hb6 c0 c1 c2 c3 c4 c5 c6 c7 c8 c9 c10
      obtain ⟨c0, c1, c2, c3, c4, c5, c6, c7, c8, c9, c10⟩ := EBox.cells (HX.out w6 HB6.out)
      cases hbb : b5 with
      | false =>
        have HSS := Lib.hid (selF5 b0 b1 b2 b3 b4 b5 (ubytes 10 id) (ubytes 10 n) (ubytes 10 at') (sform name) (sform text) fv hbb)
        go_wp2_with fail
        exact ⟨⟨6, by omega, by go_num, by rw [HSS.out]; exact HO6.out, HB6.out⟩, by simp [intOf]⟩
      | true =>
        have HSS := Lib.hid (selT5 b0 b1 b2 b3 b4 b5 (ubytes 10 id) (ubytes 10 n) (ubytes 10 at') (sform name) (sform text) fv hbb)
        go_wp2_with fail
        refine (HVB.out w6 HB6.out).mono ?_
        rintro x w7 ⟨v7, rfl, ho7, hb7⟩
        have HI7 := Lib.hid ho7.read; have HO7 := Lib.hid (HO6.out.later hb7); have HB7 := Lib.hid (HB6.out.trans (hb7.mono HB6.out.size))
        clear ho7 hb7
        clear c0 c1 c2 c3 c4 c5 c6 c7 c8 c9 c10
        go_wp2_with (at_builtin; refine wpList_append_bytes _ rfl _ _ rfl W0.heap.size _ _ (pre ++ sel [b0, b1, b2, b3, b4, b5] [ubytes 10 id, ubytes 10 n, ubytes 10 at', sform name, sform text, fv] 5) (fv) rfl rfl HO7.out HI7.out (HLE5.out) HB7.out.size ?_; intro v8 w8 hown8 hg8 hb8; have HO8 := Lib.hid hown8; have HB8 := Lib.hid (HB7.out.trans hb8); clear hown8 hb8 hg8)
        exact ⟨⟨6, by omega, by go_num, by rw [HSS.out, ← List.append_assoc]; exact HO8.out, HB8.out⟩, by simp [intOf]⟩
    · go_wp2_with fail
      go_ret
      exact ⟨_, rfl, HO.out.base HB0.out.size, HB0.out.trans (HB.out.mono HB0.out.size)⟩

theorem reform_any (e : EV) (hval : e.valid = true) (hf : FieldsOk e) (hfew : e.v.few = true) (lo hi : Nat) (vk vn : Int) (vf : Nat) (vs : ByteArray) (A : Option Addr) (m c : Nat) (w : World) (hv : Rep w lo hi e.v (vCells vk vn vf vs A m c)) (hz : hi ≤ w.heap.size) :
    Calls Tryz.prog 56 #[.agg (evCells e vk vn vf vs A m c)] w (KB w (eform e)) := by
  have V := Vf.ve_of hval
  obtain ⟨kn, hkn⟩ : ∃ kn : Nat, e.k = kn := ⟨e.k.toNat, by have := V.k1; omega⟩
  obtain ⟨nn, hnn⟩ : ∃ nn : Nat, e.n = nn := ⟨e.n.toNat, by have := V.n1; omega⟩
  have k1 := V.k1; have k2 := V.k2; have n2 := V.n2
  have hkt : e.k.toNat = kn := by omega
  have hnt : e.n.toNat = nn := by omega
  unfold eform hasF
  rw [hkt, hnt]
  unfold evCells
  rw [hkn, hnn]
  have hh : ∀ cc q, (cc, q) ∈ [(105, 0), (110, 1), (97, 2), (115, 3), (116, 4), (118, 5)] → Hid (∀ W, Calls Tryz.prog 44 #[.int .i64 (kn : Nat), .int .u8 (cc : Nat)] W fun r w' => r = .returned (.bool ((fieldsOf kn).contains q)) ∧ Below W.heap.size W w') := fun cc q hq => Lib.hid fun W => has_field kn (by omega) (by omega) cc q hq W
  exact reform_walk kn e.id nn e.at' e.name e.text (by omega) hf.i1 (by omega) hf.a1 V.s1 V.t1 vk vn vf vs A m c _ _ _ _ _ _ (Pf.VT.form e.v) (by have := Vf.form_len_few hfew; omega) w (hh 105 0 (by simp)) (hh 110 1 (by simp)) (hh 97 2 (by simp)) (hh 115 3 (by simp)) (hh 116 4 (by simp)) (hh 118 5 (by simp))
    (fun W hW => rvbytes_any e.v hfew lo hi _ W (hv.later (hW.mono hz)) (Nat.le_trans hz hW.size) V.v1)

/-- What the reference's Bytes of an event leaves. -/
def REB (e : EV) (w : World) (r : Ending) (w' : World) : Prop := (e.valid = true → ∃ v, r = .returned (.tuple #[v, .bool true]) ∧ BOwn w' w.heap.size v (eform e)) ∧ (e.valid = false → r = .returned (.tuple #[.slice none 0 0, .bool false])) ∧ Below w.heap.size w w'
set_option maxRecDepth 100000 in
theorem rebytes_any (e : EV) (hf : FieldsOk e) (hfew : e.v.few = true) (lo hi : Nat) (vk vn : Int) (vf : Nat) (vs : ByteArray) (A : Option Addr) (m c : Nat) (w : World) (hv : Rep w lo hi e.v (vCells vk vn vf vs A m c)) (hz : hi ≤ w.heap.size) :
    Calls Tryz.prog 15 #[.agg (evCells e vk vn vf vs A m c)] w (REB e w) := by
  obtain ⟨W0, hW0⟩ : ∃ W0, W0 = w.alloc (.cells (evCells e vk vn vf vs A m c) 32) := ⟨_, rfl⟩
  have hb0 : Below w.heap.size w W0 := by rw [hW0]; exact (Below.refl _ _).alloc (Nat.le_refl _) _
  have hbx : EBox W0 w.heap.size (evCells e vk vn vf vs A m c) := by rw [hW0]; exact heap_alloc_new w _
  have hzz : w.heap.size < W0.heap.size := by rw [hW0]; simp
  have HX : Hid (∀ W, Below W0.heap.size W0 W → EBox W w.heap.size (evCells e vk vn vf vs A m c)) := Lib.hid fun W hW => hbx.later hW hzz
  have HV := Lib.hid (Rd.rvalid_all e lo hi vk vn vf vs A m c W0 (hv.later (hb0.mono hz)) (Nat.le_trans hz hb0.size))
  have HF : Hid (e.valid = true → ∀ W, Below W0.heap.size W0 W → Calls Tryz.prog 56 #[.agg (evCells e vk vn vf vs A m c)] W (KB W (eform e))) := Lib.hid fun hval W hW => reform_any e hval hf hfew lo hi vk vn vf vs A m c W ((hv.later (hb0.mono hz)).later (hW.mono (Nat.le_trans hz hb0.size))) (Nat.le_trans hz (Nat.le_trans hb0.size hW.size))
  have HB0 := Lib.hid hb0
  obtain ⟨c0, c1, c2, c3, c4, c5, c6, c7, c8, c9, c10⟩ := EBox.cells hbx
  clear hb0 hbx hv hf hfew
  unfold evCells at HX HV HF hW0 ⊢
  replace hW0 := Lib.hid hW0
  cases hval : e.valid with
  | false =>
    rw [hval] at HV
    go_enter Tryz.func15, Tryz.ntmps15
    go_upto_region 1 with fail
    rw [← hW0.out]
    go_wp2_with fail
    refine HV.out.mono ?_
    rintro x w1 ⟨rfl, hb1⟩
    have HB1 := Lib.hid (HB0.out.trans (hb1.mono HB0.out.size))
    clear hb1
    go_wp2_with fail
    exact bodyPost_ret (v := .tuple #[.slice none 0 0, .bool false]) (by simp [results, Tryz.results15, go_sem]) rfl ⟨(fun h => by rw [hval] at h; cases h), fun _ => rfl, HB1.out⟩
  | true =>
    rw [hval] at HV
    have HFF := Lib.hid (HF.out hval)
    go_enter Tryz.func15, Tryz.ntmps15
    go_upto_region 1 with fail
    rw [← hW0.out]
    go_wp2_with fail
    refine HV.out.mono ?_
    rintro x w1 ⟨rfl, hb1⟩
    have HB1 := Lib.hid hb1
    clear hb1 c0 c1 c2 c3 c4 c5 c6 c7 c8 c9 c10
    obtain ⟨c0, c1, c2, c3, c4, c5, c6, c7, c8, c9, c10⟩ := EBox.cells (HX.out w1 HB1.out)
    go_wp2_with fail
    refine (HFF.out w1 HB1.out).mono ?_
    rintro x w2 ⟨v, rfl, hown, hb2⟩
    have HO2 := Lib.hid hown; have HB2 := Lib.hid hb2
    clear hown hb2
    go_wp2_with fail
    have hz1 := Nat.le_trans HB0.out.size HB1.out.size
    exact bodyPost_ret (v := .tuple #[v, .bool true]) (by simp [results, Tryz.results15, go_sem]) rfl ⟨fun _ => ⟨v, rfl, HO2.out.base hz1⟩, (fun h => by rw [hval] at h; cases h), HB0.out.trans ((HB1.out.trans (HB2.out.mono HB1.out.size)).mono HB0.out.size)⟩
end Rf
end Go.Proofs.YtcbddebmmaflgaaGreatDoor
namespace Go.Proofs.YtcbddebmmaflgaaGreatDoor
open Go.RowKit
set_option linter.unusedVariables false
set_option linter.unusedSimpArgs false
namespace Rd
open _root_.Go.Proofs.YtcbddebmmaflgaaGreatDoor.Nm (bitsW ofW okW)
open Bt (ubytes sb sb_len sel)
open Vt (VT)
open Ev (EV fieldsOf FieldsOk zeroT)
open Cm (evSame)

open Pf (sform)
open Vf (VE ve_of eform hasF sel6 evSame_parts)

def opt {α : Type} (b : Bool) (d : α) (p : St → St × α) (s : St) : St × α := if b = true then p s else (s, d)
/-- The fields of an event that have been read. -/
def mkE (k : Nat) (i n a : Nat) (s t : ByteArray) (v : VT) : EV := ⟨(k : Int), i, ((min n 2147483648 : Nat) : Int), a, s, t, v⟩
def oval (b : Bool) (s : St) : Option (St × VT) := if b = true then pv 8 s else some (s, zeroT)
/-- The states behind an event's fields. -/
structure FR where
  s0 : St
  i : Nat
  s1 : St
  n : Nat
  s2 : St
  a : Nat
  s3 : St
  s : ByteArray
  s4 : St
  t : ByteArray
def fr (b0 b1 b2 b3 b4 : Bool) (s : St) : FR :=
  let r0 := opt b0 0 rUint s
  let r1 := opt b1 0 rUint r0.1
  let r2 := opt b2 0 rUint r1.1
  let r3 := opt b3 ⟨#[]⟩ rText r2.1
  let r4 := opt b4 ⟨#[]⟩ rText r3.1
  ⟨r0.1, r0.2, r1.1, r1.2, r2.1, r2.2, r3.1, r3.2, r4.1, r4.2⟩
/-- An event's fields. -/
def pf (k : Nat) (b0 b1 b2 b3 b4 b5 : Bool) (s : St) : Option (St × EV) :=
  let q := fr b0 b1 b2 b3 b4 s
  match oval b5 q.s4 with
  | none => none
  | some (s5, v) => if s5.2 = true ∨ (mkE k q.i q.n q.a q.s q.t v).valid = false then none else some (s5, mkE k q.i q.n q.a q.s q.t v)
/-- An event's reading. -/
def pe (s : St) : Option (St × EV) :=
  let a := rTake s 1
  let q := rUint a.1
  if a.2 ≠ [1] ∨ q.1.2 = true ∨ 11 < q.2 then none
  else pf q.2 ((fieldsOf q.2).contains 0) ((fieldsOf q.2).contains 1) ((fieldsOf q.2).contains 2) ((fieldsOf q.2).contains 3) ((fieldsOf q.2).contains 4) ((fieldsOf q.2).contains 5) q.1
theorem opt_lt {b : Bool} {s : St} (hb : Byt s.1) : (opt b 0 rUint s).2 < 18446744073709551616 := by
  cases b with
  | true => exact rUint_val hb
  | false => show (0 : Nat) < _; omega
theorem opt_len {α : Type} {b : Bool} {d : α} {p : St → St × α} {s : St} (hp : (p s).1.1.length ≤ s.1.length) : (opt b d p s).1.1.length ≤ s.1.length := by
  cases b with
  | true => exact hp
  | false => exact Nat.le_refl _
theorem opt_byt {α : Type} {b : Bool} {d : α} {p : St → St × α} {s : St} (hb : Byt s.1) (hp : Byt (p s).1.1) : Byt (opt b d p s).1.1 := by
  cases b with
  | true => exact hp
  | false => exact hb
theorem opt_size {b : Bool} {s : St} (hb : Byt s.1) (hl : s.1.length ≤ 1099511627776) : (opt b ⟨#[]⟩ rText s).2.size ≤ 1099511627776 := by
  cases b with
  | true => exact rText_size hb hl
  | false => show (⟨#[]⟩ : ByteArray).size ≤ _; decide
/-- What is known of a valid event that is read. -/
def GoodE (e : EV) : Prop := e.valid = true ∧ FieldsOk e ∧ Pf.VT.fine e.v
end Rd
end Go.Proofs.YtcbddebmmaflgaaGreatDoor
namespace Go.Proofs.YtcbddebmmaflgaaGreatDoor
open Go.RowKit
set_option linter.unusedVariables false
set_option linter.unusedSimpArgs false
namespace Rf
open _root_.Go.Proofs.YtcbddebmmaflgaaGreatDoor.Nm (bitsW ret_int ret_bool)
open Bt (BOwn BIn ubytes sb bown_nil wpList_append_bytes bv)
open Pf (sform)
open Vf (KB eform)
open Vt (VT Rep below_drew)
open Ev (EV FieldsOk evCells vCells EBox ERep)
open Cm (EvsIn)
open Cn (BB BRd)

end Rf
end Go.Proofs.YtcbddebmmaflgaaGreatDoor
