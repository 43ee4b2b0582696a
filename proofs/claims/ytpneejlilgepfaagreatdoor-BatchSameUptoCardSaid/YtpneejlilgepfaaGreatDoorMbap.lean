/- bin.Int of any number; the forms of a number with a sign, of a text, of a float. -/
/- value.form of a value whose kind's bytes are known; a list's bytes; value.Bytes of any valid value that is small. -/
/- strconv.FormatUint in base 10, strconv.Itoa: any number. -/
/- strconv.FormatUint in base 16: the number of zero bits of 16; 16 is a power of two. -/
/- internal/strconv.formatBits in base 16: the first loop. -/
/- internal/strconv.formatBits in base 16. -/
import Derived.Test.YtpneejlilgepfaaGreatDoorMbao
import Derived.Laws.Bits64
import Derived.Test.YtpneejlilgepfaaGreatDoorMbad
import Derived.Test.YtpneejlilgepfaaGreatDoorRows
import Derived.Shelf.Strconv.Itoa3
import Derived.Lib.ItoaMem
import Derived.WalkKit
import Derived.RowKit3
import Derived.Outline
import Derived.Below
import Derived.Laws.Bits64b
import Derived.Deep.CutRange
import Derived.StillTailTactics
namespace Go.Proofs.YtpneejlilgepfaaGreatDoor
open Go.RowKit
set_option linter.unusedVariables false
set_option linter.unusedSimpArgs false
namespace Vf
open _root_.Go.Proofs.YtpneejlilgepfaaGreatDoor.Nm (bitsW bits_any ret_int ret_bool)
open Bt (BOwn BIn ubytes sb uint_any btext_any bown_nil wpList_append_bytes bv)
open Pf (zz zz_lt be8 sform)
open Vt (VT Rep BoxAt below_drew KidsAt HeadOk)

theorem xor_ones (b : Nat) (hb : b < 18446744073709551616) : 18446744073709551615 ^^^ b = 18446744073709551615 - b := by
  have h1 : (BitVec.allOnes 64 ^^^ BitVec.ofNat 64 b).toNat = 18446744073709551615 ^^^ b := by
    rw [BitVec.toNat_xor, BitVec.toNat_ofNat, Nat.mod_eq_of_lt (by omega)]; rfl
  have h2 : BitVec.allOnes 64 ^^^ BitVec.ofNat 64 b = ~~~(BitVec.ofNat 64 b) := BitVec.allOnes_xor
  rw [h2, BitVec.toNat_not, BitVec.toNat_ofNat, Nat.mod_eq_of_lt (by omega)] at h1
  omega
theorem zz_eq (n : Int) (h0 : -9223372036854775808 ≤ n) (h1 : n ≤ 9223372036854775807) : bits BinOp.xor IntKind.u64 (IntKind.u64.wrap (wrap64 (n * 2))) (IntKind.u64.wrap (n / 9223372036854775808)) = ((zz n : Nat) : Int) := by
  rw [IntKind.wrap_u64, IntKind.wrap_u64]
  by_cases hn : 0 ≤ n
  · have e1 : wrap64 (n * 2) % 18446744073709551616 = ((2 * n).toNat : Int) := by unfold wrap64; omega
    have e2 : n / 9223372036854775808 % 18446744073709551616 = ((0 : Nat) : Int) := by omega
    rw [e1, e2, bits_xor_u64_nat _ _ (by omega) (by omega), Nat.xor_zero, zz, if_pos hn]
  · have e1 : wrap64 (n * 2) % 18446744073709551616 = ((2 * n + 18446744073709551616).toNat : Int) := by unfold wrap64; omega
    have e2 : n / 9223372036854775808 % 18446744073709551616 = ((18446744073709551615 : Nat) : Int) := by omega
    rw [e1, e2, bits_xor_u64_nat _ _ (by omega) (by omega), Nat.xor_comm, xor_ones _ (by omega), zz, if_neg hn]
    omega

set_option maxRecDepth 100000 in
theorem bint_any (n : Int) (h0 : -9223372036854775808 ≤ n) (h1 : n ≤ 9223372036854775807) (w : World) :
    Calls Tryz.prog 182 #[.int .i64 n] w fun e w' => ∃ v, e = .returned v ∧ BOwn w' w.heap.size v (ubytes 10 (zz n)) ∧ Below w.heap.size w w' := by
  have HU := Lib.hid (uint_any (zz n) (zz_lt h0 h1) w)
  have HZ := Lib.hid (zz_eq n h0 h1)
  go_enter Tryz.func182, Tryz.ntmps182
  go_wp2_with fail
  rw [HZ.out]
  refine HU.out.mono ?_
  rintro x w1 ⟨v, rfl, ho, hb⟩
  have HO := Lib.hid ho; have HB := Lib.hid hb
  clear ho hb
  go_wp2_with fail
  go_ret
  exact ⟨v, rfl, HO.out, HB.out⟩

/-- What a kind's method leaves. -/
def KB (w : World) (l : List Nat) (r : Ending) (w' : World) : Prop := ∃ v, r = .returned v ∧ BOwn w' w.heap.size v l ∧ Below w.heap.size w w'

set_option maxRecDepth 100000 in
theorem int_bytes (x : Value) (hx : x = .agg #[]) (k n : Int) (h0 : -9223372036854775808 ≤ n) (h1 : n ≤ 9223372036854775807) (f : Nat) (s : ByteArray) (A : Option Addr) (m c : Nat) (w : World) :
    Calls Tryz.prog 179 #[x, .agg #[.int .i64 k, .int .i64 n, .float .f64 f, .string s, .slice A m c]] w (KB w (ubytes 10 (zz n))) := by
  subst hx
  obtain ⟨W0, hW0⟩ : ∃ W0, W0 = (w.alloc (.cells #[] 146)).alloc (.cells #[.int .i64 k, .int .i64 n, .float .f64 f, .string s, .slice A m c] 41) := ⟨_, rfl⟩
  have HB0 : Hid (Below w.heap.size w W0) := Lib.hid (by rw [hW0]; exact ((Below.refl _ _).alloc (Nat.le_refl _) _).alloc (by simp) _)
  have hx0 : BoxAt W0 (w.heap.size + 1) k n f s A m c := by
    rw [hW0]
    have e := heap_alloc_new (w.alloc (.cells #[] 146)) (.cells #[.int .i64 k, .int .i64 n, .float .f64 f, .string s, .slice A m c] 41)
    rw [World.size_alloc] at e
    exact e
  obtain ⟨c0, c1, c2, c3, c4⟩ := hx0.cells
  have HI := Lib.hid (bint_any n h0 h1 W0)
  replace hW0 := Lib.hid hW0
  go_enter Tryz.func179, Tryz.ntmps179
  go_upto_region 1 with fail
  rw [← hW0.out]
  go_wp2_with fail
  refine HI.out.mono ?_
  rintro x w1 ⟨v, rfl, ho, hb⟩
  have HO := Lib.hid (ho.base HB0.out.size); have HB := Lib.hid (HB0.out.trans (hb.mono HB0.out.size))
  clear ho hb
  go_wp2_with fail
  go_ret
  exact ⟨v, rfl, HO.out, HB.out⟩

set_option maxRecDepth 100000 in
theorem text_bytes (x : Value) (hx : x = .agg #[]) (k n : Int) (f : Nat) (s : ByteArray) (hs : s.size ≤ 100000) (A : Option Addr) (m c : Nat) (w : World) :
    Calls Tryz.prog 197 #[x, .agg #[.int .i64 k, .int .i64 n, .float .f64 f, .string s, .slice A m c]] w (KB w (sform s)) := by
  subst hx
  obtain ⟨W0, hW0⟩ : ∃ W0, W0 = (w.alloc (.cells #[] 148)).alloc (.cells #[.int .i64 k, .int .i64 n, .float .f64 f, .string s, .slice A m c] 41) := ⟨_, rfl⟩
  have HB0 : Hid (Below w.heap.size w W0) := Lib.hid (by rw [hW0]; exact ((Below.refl _ _).alloc (Nat.le_refl _) _).alloc (by simp) _)
  have hx0 : BoxAt W0 (w.heap.size + 1) k n f s A m c := by
    rw [hW0]
    have e := heap_alloc_new (w.alloc (.cells #[] 148)) (.cells #[.int .i64 k, .int .i64 n, .float .f64 f, .string s, .slice A m c] 41)
    rw [World.size_alloc] at e
    exact e
  obtain ⟨c0, c1, c2, c3, c4⟩ := hx0.cells
  have HI := Lib.hid (btext_any s hs W0)
  replace hW0 := Lib.hid hW0
  go_enter Tryz.func197, Tryz.ntmps197
  go_upto_region 1 with fail
  rw [← hW0.out]
  go_wp2_with fail
  refine HI.out.mono ?_
  rintro x w1 ⟨v, rfl, ho, hb⟩
  have HO := Lib.hid (ho.base HB0.out.size); have HB := Lib.hid (HB0.out.trans (hb.mono HB0.out.size))
  clear ho hb
  go_wp2_with fail
  go_ret
  exact ⟨v, rfl, HO.out, HB.out⟩

theorem be8_take (v j : Nat) : ((be8 v).take j).length ≤ 8 := by
  rw [List.length_take]; exact Nat.min_le_right j 8
/-- One byte in a block of its own. -/
theorem one_byte (w : World) (x : Int) (b : Nat) (hx : x = (b : Int)) : BIn (w.alloc (.cells #[.int .u8 x] 5)) (.slice (some ⟨w.heap.size, 0, none⟩) 1 1) [b] := by
  subst hx
  refine .inr ⟨⟨w.heap.size, 0, none⟩, 1, rfl, by simp, by simp only [maxLen]; omega, by simp, fun j u hu => ?_⟩
  have hj : j = 0 := by have := (List.getElem?_eq_some_iff.1 hu).1; simp at this; omega
  subst hj
  simp [bv] at hu
  subst hu
  have e := heap_alloc_new w (.cells #[.int .u8 (b : Int)] 5)
  rw [Go.WideShapes.add_plain]
  simp only [World.cell?, e]
  rfl

set_option maxRecDepth 100000 in
set_option maxHeartbeats 2000000 in
theorem float_bytes (x : Value) (hx : x = .agg #[]) (k n : Int) (f : Nat) (hf : f < 18446744073709551616) (s : ByteArray) (A : Option Addr) (m c : Nat) (w : World) :
    Calls Tryz.prog 184 #[x, .agg #[.int .i64 k, .int .i64 n, .float .f64 f, .string s, .slice A m c]] w (KB w (be8 (bitsW f))) := by
  subst hx
  obtain ⟨W0, hW0⟩ : ∃ W0, W0 = (w.alloc (.cells #[] 147)).alloc (.cells #[.int .i64 k, .int .i64 n, .float .f64 f, .string s, .slice A m c] 41) := ⟨_, rfl⟩
  have HB0 : Hid (Below w.heap.size w W0) := Lib.hid (by rw [hW0]; exact ((Below.refl _ _).alloc (Nat.le_refl _) _).alloc (by simp) _)
  have hz0 : w.heap.size + 1 < W0.heap.size := by rw [hW0]; simp
  have hx0 : BoxAt W0 (w.heap.size + 1) k n f s A m c := by
    rw [hW0]
    have e := heap_alloc_new (w.alloc (.cells #[] 147)) (.cells #[.int .i64 k, .int .i64 n, .float .f64 f, .string s, .slice A m c] 41)
    rw [World.size_alloc] at e
    exact e
  have HX0 := Lib.hid hx0
  obtain ⟨v, hv⟩ : ∃ v, v = bitsW f := ⟨_, rfl⟩
  have hvl : v < 18446744073709551616 := by rw [hv]; exact Pf.bits_lt hf
  have HBI : Hid (∀ W, Calls Tryz.prog 111 #[.float .f64 f] W fun e w' => e = .returned (.int .u64 v) ∧ W = w') := Lib.hid fun W => by rw [hv]; exact bits_any f W
  rw [← hv]
  clear hv hx0
  replace hW0 := Lib.hid hW0
  have HVL := Lib.hid hvl; clear hvl
  go_enter Tryz.func184, Tryz.ntmps184
  go_upto_region 1 with fail
  rw [← hW0.out]
  go_wp2_with fail
  go_loopw [5, 6] (fun out i wr => ∃ (j : Nat) (sh : Int), j ≤ 8 ∧ sh = 56 - 8 * (j : Int) ∧ i = .int .i64 sh ∧ BOwn wr W0.heap.size out ((be8 v).take j) ∧ Below W0.heap.size W0 wr) (fun _ i _ => (intOf i + 8).toNat)
  case atStart => exact ⟨0, 56, by omega, by omega, rfl, bown_nil _ _, Below.refl _ _⟩
  case round =>
    obtain ⟨j, sh, hj, hsh, rfl, hown, hb⟩ := hrel
    obtain ⟨-, -, c2, -, -⟩ := (HX0.out.later hb hz0).cells
    have HO := Lib.hid hown; have HB := Lib.hid hb
    clear hown hb
    rcases (by omega : j = 0 ∨ j = 1 ∨ j = 2 ∨ j = 3 ∨ j = 4 ∨ j = 5 ∨ j = 6 ∨ j = 7 ∨ j = 8) with rfl | rfl | rfl | rfl | rfl | rfl | rfl | rfl | rfl
    · obtain rfl : sh = 56 := by omega
      clear hsh
      go_wp2_with fail
      refine (HBI.out _).mono ?_
      rintro x w1 ⟨rfl, rfl⟩
      have HN := Lib.hid (one_byte wr (IntKind.u8.wrap (v / 72057594037927936 : Int)) (v / 72057594037927936 % 256) (by rw [IntKind.wrap_u8]; omega))
      go_wp2_with (at_builtin; refine wpList_append_bytes _ rfl _ _ rfl W0.heap.size _ _ ((be8 v).take 0) [v / 72057594037927936 % 256] rfl rfl (HO.out.later ((Below.refl _ _).alloc (Nat.le_refl _) _)) HN.out (Nat.le_trans (Nat.add_le_add (be8_take v _) (Nat.le_refl 1)) (by decide)) (by simp; exact Nat.le_succ_of_le HB.out.size) ?_; intro v2 w2 hown2 hg2 hb2; have HO2 := Lib.hid hown2; have HB2 := Lib.hid ((HB.out.alloc HB.out.size _).trans hb2); clear hown2 hb2)
      exact ⟨⟨1, 48, by omega, by omega, by go_num, HO2.out, HB2.out⟩, by simp [intOf]⟩
    · obtain rfl : sh = 48 := by omega
      clear hsh
      go_wp2_with fail
      refine (HBI.out _).mono ?_
      rintro x w1 ⟨rfl, rfl⟩
      have HN := Lib.hid (one_byte wr (IntKind.u8.wrap (v / 281474976710656 : Int)) (v / 281474976710656 % 256) (by rw [IntKind.wrap_u8]; omega))
      go_wp2_with (at_builtin; refine wpList_append_bytes _ rfl _ _ rfl W0.heap.size _ _ ((be8 v).take 1) [v / 281474976710656 % 256] rfl rfl (HO.out.later ((Below.refl _ _).alloc (Nat.le_refl _) _)) HN.out (Nat.le_trans (Nat.add_le_add (be8_take v _) (Nat.le_refl 1)) (by decide)) (by simp; exact Nat.le_succ_of_le HB.out.size) ?_; intro v2 w2 hown2 hg2 hb2; have HO2 := Lib.hid hown2; have HB2 := Lib.hid ((HB.out.alloc HB.out.size _).trans hb2); clear hown2 hb2)
      exact ⟨⟨2, 40, by omega, by omega, by go_num, HO2.out, HB2.out⟩, by simp [intOf]⟩
    · obtain rfl : sh = 40 := by omega
      clear hsh
      go_wp2_with fail
      refine (HBI.out _).mono ?_
      rintro x w1 ⟨rfl, rfl⟩
      have HN := Lib.hid (one_byte wr (IntKind.u8.wrap (v / 1099511627776 : Int)) (v / 1099511627776 % 256) (by rw [IntKind.wrap_u8]; omega))
      go_wp2_with (at_builtin; refine wpList_append_bytes _ rfl _ _ rfl W0.heap.size _ _ ((be8 v).take 2) [v / 1099511627776 % 256] rfl rfl (HO.out.later ((Below.refl _ _).alloc (Nat.le_refl _) _)) HN.out (Nat.le_trans (Nat.add_le_add (be8_take v _) (Nat.le_refl 1)) (by decide)) (by simp; exact Nat.le_succ_of_le HB.out.size) ?_; intro v2 w2 hown2 hg2 hb2; have HO2 := Lib.hid hown2; have HB2 := Lib.hid ((HB.out.alloc HB.out.size _).trans hb2); clear hown2 hb2)
      exact ⟨⟨3, 32, by omega, by omega, by go_num, HO2.out, HB2.out⟩, by simp [intOf]⟩
    · obtain rfl : sh = 32 := by omega
      clear hsh
      go_wp2_with fail
      refine (HBI.out _).mono ?_
      rintro x w1 ⟨rfl, rfl⟩
      have HN := Lib.hid (one_byte wr (IntKind.u8.wrap (v / 4294967296 : Int)) (v / 4294967296 % 256) (by rw [IntKind.wrap_u8]; omega))
      go_wp2_with (at_builtin; refine wpList_append_bytes _ rfl _ _ rfl W0.heap.size _ _ ((be8 v).take 3) [v / 4294967296 % 256] rfl rfl (HO.out.later ((Below.refl _ _).alloc (Nat.le_refl _) _)) HN.out (Nat.le_trans (Nat.add_le_add (be8_take v _) (Nat.le_refl 1)) (by decide)) (by simp; exact Nat.le_succ_of_le HB.out.size) ?_; intro v2 w2 hown2 hg2 hb2; have HO2 := Lib.hid hown2; have HB2 := Lib.hid ((HB.out.alloc HB.out.size _).trans hb2); clear hown2 hb2)
      exact ⟨⟨4, 24, by omega, by omega, by go_num, HO2.out, HB2.out⟩, by simp [intOf]⟩
    · obtain rfl : sh = 24 := by omega
      clear hsh
      go_wp2_with fail
      refine (HBI.out _).mono ?_
      rintro x w1 ⟨rfl, rfl⟩
      have HN := Lib.hid (one_byte wr (IntKind.u8.wrap (v / 16777216 : Int)) (v / 16777216 % 256) (by rw [IntKind.wrap_u8]; omega))
      go_wp2_with (at_builtin; refine wpList_append_bytes _ rfl _ _ rfl W0.heap.size _ _ ((be8 v).take 4) [v / 16777216 % 256] rfl rfl (HO.out.later ((Below.refl _ _).alloc (Nat.le_refl _) _)) HN.out (Nat.le_trans (Nat.add_le_add (be8_take v _) (Nat.le_refl 1)) (by decide)) (by simp; exact Nat.le_succ_of_le HB.out.size) ?_; intro v2 w2 hown2 hg2 hb2; have HO2 := Lib.hid hown2; have HB2 := Lib.hid ((HB.out.alloc HB.out.size _).trans hb2); clear hown2 hb2)
      exact ⟨⟨5, 16, by omega, by omega, by go_num, HO2.out, HB2.out⟩, by simp [intOf]⟩
    · obtain rfl : sh = 16 := by omega
      clear hsh
      go_wp2_with fail
      refine (HBI.out _).mono ?_
      rintro x w1 ⟨rfl, rfl⟩
      have HN := Lib.hid (one_byte wr (IntKind.u8.wrap (v / 65536 : Int)) (v / 65536 % 256) (by rw [IntKind.wrap_u8]; omega))
      go_wp2_with (at_builtin; refine wpList_append_bytes _ rfl _ _ rfl W0.heap.size _ _ ((be8 v).take 5) [v / 65536 % 256] rfl rfl (HO.out.later ((Below.refl _ _).alloc (Nat.le_refl _) _)) HN.out (Nat.le_trans (Nat.add_le_add (be8_take v _) (Nat.le_refl 1)) (by decide)) (by simp; exact Nat.le_succ_of_le HB.out.size) ?_; intro v2 w2 hown2 hg2 hb2; have HO2 := Lib.hid hown2; have HB2 := Lib.hid ((HB.out.alloc HB.out.size _).trans hb2); clear hown2 hb2)
      exact ⟨⟨6, 8, by omega, by omega, by go_num, HO2.out, HB2.out⟩, by simp [intOf]⟩
    · obtain rfl : sh = 8 := by omega
      clear hsh
      go_wp2_with fail
      refine (HBI.out _).mono ?_
      rintro x w1 ⟨rfl, rfl⟩
      have HN := Lib.hid (one_byte wr (IntKind.u8.wrap (v / 256 : Int)) (v / 256 % 256) (by rw [IntKind.wrap_u8]; omega))
      go_wp2_with (at_builtin; refine wpList_append_bytes _ rfl _ _ rfl W0.heap.size _ _ ((be8 v).take 6) [v / 256 % 256] rfl rfl (HO.out.later ((Below.refl _ _).alloc (Nat.le_refl _) _)) HN.out (Nat.le_trans (Nat.add_le_add (be8_take v _) (Nat.le_refl 1)) (by decide)) (by simp; exact Nat.le_succ_of_le HB.out.size) ?_; intro v2 w2 hown2 hg2 hb2; have HO2 := Lib.hid hown2; have HB2 := Lib.hid ((HB.out.alloc HB.out.size _).trans hb2); clear hown2 hb2)
      exact ⟨⟨7, 0, by omega, by omega, by go_num, HO2.out, HB2.out⟩, by simp [intOf]⟩
    · obtain rfl : sh = 0 := by omega
      clear hsh
      go_wp2_with fail
      refine (HBI.out _).mono ?_
      rintro x w1 ⟨rfl, rfl⟩
      have HN := Lib.hid (one_byte wr (IntKind.u8.wrap (v : Int)) (v % 256) (by rw [IntKind.wrap_u8]; omega))
      go_wp2_with (at_builtin; refine wpList_append_bytes _ rfl _ _ rfl W0.heap.size _ _ ((be8 v).take 7) [v % 256] rfl rfl (HO.out.later ((Below.refl _ _).alloc (Nat.le_refl _) _)) HN.out (Nat.le_trans (Nat.add_le_add (be8_take v _) (Nat.le_refl 1)) (by decide)) (by simp; exact Nat.le_succ_of_le HB.out.size) ?_; intro v2 w2 hown2 hg2 hb2; have HO2 := Lib.hid hown2; have HB2 := Lib.hid ((HB.out.alloc HB.out.size _).trans hb2); clear hown2 hb2)
      exact ⟨⟨8, -8, by omega, by omega, by go_num, HO2.out, HB2.out⟩, by simp [intOf]⟩
    · obtain rfl : sh = -8 := by omega
      clear hsh
      go_wp2_with fail
      go_ret
      exact ⟨_, rfl, HO.out.base HB0.out.size, HB0.out.trans (HB.out.mono HB0.out.size)⟩
end Vf
end Go.Proofs.YtpneejlilgepfaaGreatDoor
namespace Go.Proofs.YtpneejlilgepfaaGreatDoor
open Go.RowKit
set_option linter.unusedVariables false
set_option linter.unusedSimpArgs false
namespace Vf
open _root_.Go.Proofs.YtpneejlilgepfaaGreatDoor.Nm (bitsW bits_any ret_int ret_bool)
open Bt (BOwn BIn ubytes sb uint_any btext_any bown_nil wpList_append_bytes step_append_bytes bv)
open Pf (zz zz_lt be8 sform)
open Vt (VT Rep BoxAt below_drew KidsAt HeadOk kindV of_any)
open Ev (take_drop cons_drop)

/-- What a kind's method leaves, as bytes that can be read. -/
def KI (w : World) (l : List Nat) (r : Ending) (w' : World) : Prop := ∃ v, r = .returned v ∧ BIn w' v l ∧ Below w.heap.size w w'
theorem KB.ki {w : World} {l : List Nat} {r : Ending} {w' : World} (h : KB w l r w') : KI w l r w' := by
  obtain ⟨v, h1, h2, h3⟩ := h
  exact ⟨v, h1, h2.read, h3⟩

set_option maxRecDepth 100000 in
set_option maxHeartbeats 1000000 in
theorem form_walk (k : Nat) (hk : k ≤ 4) (T M : Nat) (lk : List Nat) (hlk : lk.length ≤ 1000000) (vn : Int) (vf : Nat) (vs : ByteArray) (A : Option Addr) (m c : Nat) (w : World)
    (hO : ∀ W, Calls Tryz.prog 91 #[.int .i64 (k : Nat)] W fun e w' => e = .returned (.iface T (.agg #[])) ∧ W = w')
    (hM : ∀ n w, (method (n + 1) T (.agg #[]) "clockwork/value.bytes").run Tryz.prog w = .ok (M, .agg #[]) w)
    (hcall : ∀ args w, (callFunc M args).run Tryz.prog w = .ok (.enter M args) w)
    (hB : ∀ W, Below w.heap.size w W → Calls Tryz.prog M #[.agg #[], .agg #[.int .i64 (k : Nat), .int .i64 vn, .float .f64 vf, .string vs, .slice A m c]] W (KI W lk)) :
    Calls Tryz.prog 114 #[.agg #[.int .i64 (k : Nat), .int .i64 vn, .float .f64 vf, .string vs, .slice A m c]] w (KB w (ubytes 10 k ++ lk)) := by
  obtain ⟨W0, hW0⟩ : ∃ W0, W0 = w.alloc (.cells #[.int .i64 (k : Nat), .int .i64 vn, .float .f64 vf, .string vs, .slice A m c] 41) := ⟨_, rfl⟩
  have hB0 : Below w.heap.size w W0 := by rw [hW0]; exact (Below.refl _ _).alloc (Nat.le_refl _) _
  have hbx : BoxAt W0 w.heap.size k vn vf vs A m c := by rw [hW0]; exact BoxAt.new ..
  have hz : w.heap.size < W0.heap.size := by rw [hW0]; simp
  have HBX : Hid (∀ W, Below W0.heap.size W0 W → BoxAt W w.heap.size k vn vf vs A m c) := Lib.hid fun W hW => hbx.later hW hz
  have HU : Hid (∀ W, Calls Tryz.prog 46 #[.int .u64 (k : Nat)] W fun e w' => ∃ v, e = .returned v ∧ BOwn w' W.heap.size v (ubytes 10 k) ∧ Below W.heap.size W w') := Lib.hid fun W => uint_any k (by omega) W
  have HWR : Hid (IntKind.u64.wrap (k : Int) = (k : Int)) := Lib.hid (IntWalk.u64_in _ (by omega))
  have HO := Lib.hid hO
  have HNB : Hid (∀ W, Below W0.heap.size W0 W → Calls Tryz.prog M #[.agg #[], .agg #[.int .i64 (k : Nat), .int .i64 vn, .float .f64 vf, .string vs, .slice A m c]] W (KI W lk)) := Lib.hid fun W hW => hB W (hB0.trans (hW.mono hB0.size))
  have HB0 := Lib.hid hB0
  have HLK := Lib.hid hlk
  obtain ⟨c0, c1, c2, c3, c4⟩ := hbx.cells
  clear hB0 hbx hO hB hlk
  replace hW0 := Lib.hid hW0
  go_enter Tryz.func114, Tryz.ntmps114
  go_upto_region 1 with fail
  rw [← hW0.out]
  have HS : Hid (∀ W', Below W0.heap.size W0 W' → (W'.cell? ⟨w.heap.size, 0, none⟩ = some (.int .i64 (k : Nat)) ∧ W'.cell? ⟨w.heap.size, 1, none⟩ = some (.int .i64 vn) ∧ W'.cell? ⟨w.heap.size, 2, none⟩ = some (.float .f64 vf) ∧ W'.cell? ⟨w.heap.size, 3, none⟩ = some (.string vs) ∧ W'.cell? ⟨w.heap.size, 4, none⟩ = some (.slice A m c))) := Lib.hid fun W hW => (HBX.out W hW).cells
  clear c0 c1 c2 c3 c4
  refine wp_region_noPanic ?_
  refine wp_region_held_drew (S := (fun W' : World => W'.cell? ⟨w.heap.size, 0, none⟩ = some (.int .i64 (k : Nat)) ∧ W'.cell? ⟨w.heap.size, 1, none⟩ = some (.int .i64 vn) ∧ W'.cell? ⟨w.heap.size, 2, none⟩ = some (.float .f64 vf) ∧ W'.cell? ⟨w.heap.size, 3, none⟩ = some (.string vs) ∧ W'.cell? ⟨w.heap.size, 4, none⟩ = some (.slice A m c))) (by kernel_rfl) ?_ (fun hHeld => ?_)
  · exact HS.out _ (below_drew (Below.refl _ _))
  first
    | (refine take_drop (i := 0) (v := ?_) rfl (by kernel_rfl) (by kernel_rfl) (by kernel_rfl) (fun _ _ _ h => h) (Or.inl ⟨by rfl, ?_⟩) (by assumption) ?_; rotate_left 1; (focus (intro w hSw; (try dsimp only at hSw); go_simp; try with_reducible rfl)); try simp only [Act.put, List.setIfInBounds_toArray, List.set_cons_zero, List.set_cons_succ])
    | (refine take_drop (i := 0) (v := undef) rfl (by kernel_rfl) (by kernel_rfl) (by kernel_rfl) (fun _ _ _ h => h) (Or.inr ⟨by rfl, rfl⟩) (by assumption) ?_; try simp only [Act.put, List.setIfInBounds_toArray, List.set_cons_zero, List.set_cons_succ])
  first
    | (refine take_drop (i := 1) (v := ?_) rfl (by kernel_rfl) (by kernel_rfl) (by kernel_rfl) (fun _ _ _ h => h) (Or.inl ⟨by rfl, ?_⟩) (by assumption) ?_; rotate_left 1; (focus (intro w hSw; (try dsimp only at hSw); go_simp; try with_reducible rfl)); try simp only [Act.put, List.setIfInBounds_toArray, List.set_cons_zero, List.set_cons_succ])
    | (refine take_drop (i := 1) (v := undef) rfl (by kernel_rfl) (by kernel_rfl) (by kernel_rfl) (fun _ _ _ h => h) (Or.inr ⟨by rfl, rfl⟩) (by assumption) ?_; try simp only [Act.put, List.setIfInBounds_toArray, List.set_cons_zero, List.set_cons_succ])
  first
    | (refine take_drop (i := 2) (v := ?_) rfl (by kernel_rfl) (by kernel_rfl) (by kernel_rfl) (fun _ _ _ h => h) (Or.inl ⟨by rfl, ?_⟩) (by assumption) ?_; rotate_left 1; (focus (intro w hSw; (try dsimp only at hSw); go_simp; try with_reducible rfl)); try simp only [Act.put, List.setIfInBounds_toArray, List.set_cons_zero, List.set_cons_succ])
    | (refine take_drop (i := 2) (v := undef) rfl (by kernel_rfl) (by kernel_rfl) (by kernel_rfl) (fun _ _ _ h => h) (Or.inr ⟨by rfl, rfl⟩) (by assumption) ?_; try simp only [Act.put, List.setIfInBounds_toArray, List.set_cons_zero, List.set_cons_succ])
  first
    | (refine take_drop (i := 4) (v := ?_) rfl (by kernel_rfl) (by kernel_rfl) (by kernel_rfl) (fun _ _ _ h => h) (Or.inl ⟨by rfl, ?_⟩) (by assumption) ?_; rotate_left 1; (focus (intro w hSw; (try dsimp only at hSw); go_simp; try with_reducible rfl)); try simp only [Act.put, List.setIfInBounds_toArray, List.set_cons_zero, List.set_cons_succ])
    | (refine take_drop (i := 4) (v := undef) rfl (by kernel_rfl) (by kernel_rfl) (by kernel_rfl) (fun _ _ _ h => h) (Or.inr ⟨by rfl, rfl⟩) (by assumption) ?_; try simp only [Act.put, List.setIfInBounds_toArray, List.set_cons_zero, List.set_cons_succ])
  first
    | (refine take_drop (i := 5) (v := ?_) rfl (by kernel_rfl) (by kernel_rfl) (by kernel_rfl) (fun _ _ _ h => h) (Or.inl ⟨by rfl, ?_⟩) (by assumption) ?_; rotate_left 1; (focus (intro w hSw; (try dsimp only at hSw); go_simp; try with_reducible rfl)); try simp only [Act.put, List.setIfInBounds_toArray, List.set_cons_zero, List.set_cons_succ])
    | (refine take_drop (i := 5) (v := undef) rfl (by kernel_rfl) (by kernel_rfl) (by kernel_rfl) (fun _ _ _ h => h) (Or.inr ⟨by rfl, rfl⟩) (by assumption) ?_; try simp only [Act.put, List.setIfInBounds_toArray, List.set_cons_zero, List.set_cons_succ])
  first
    | (refine take_drop (i := 7) (v := ?_) rfl (by kernel_rfl) (by kernel_rfl) (by kernel_rfl) (fun _ _ _ h => h) (Or.inl ⟨by rfl, ?_⟩) (by assumption) ?_; rotate_left 1; (focus (intro w hSw; (try dsimp only at hSw); go_simp; try with_reducible rfl)); try simp only [Act.put, List.setIfInBounds_toArray, List.set_cons_zero, List.set_cons_succ])
    | (refine take_drop (i := 7) (v := undef) rfl (by kernel_rfl) (by kernel_rfl) (by kernel_rfl) (fun _ _ _ h => h) (Or.inr ⟨by rfl, rfl⟩) (by assumption) ?_; try simp only [Act.put, List.setIfInBounds_toArray, List.set_cons_zero, List.set_cons_succ])
  refine wpAnyH_ready (rs := [3]) (by kernel_rfl) (by simp) ?_
  refine cons_drop rfl (fun K hK => ?_) AllReadyH.nil
  go_simp
  rw [HWR.out]
  refine (HU.out _).mono ?_
  rintro e w1 ⟨v1, rfl, ho1, hb1⟩
  have h1B : Hid (Below W0.heap.size W0 w1) := Lib.hid ((below_drew (Below.refl _ _)).trans hb1)
  have HO1 := Lib.hid (ho1.base (Nat.le_refl _ : W0.heap.size ≤ W0.drew.heap.size))
  clear ho1 hb1
  go_wp2_with fail
  refine hK.out _ _ (HS.out _ h1B.out) (fun hHeld2 => ?_)
  clear hK K
  try simp only [Act.put, List.setIfInBounds_toArray, List.set_cons_zero, List.set_cons_succ]
  refine wpAnyH_ready (rs := [6]) (by kernel_rfl) (by simp) ?_
  refine cons_drop rfl (fun K hK => ?_) AllReadyH.nil
  go_simp
  refine (HO.out _).mono ?_
  rintro e w2 ⟨rfl, rfl⟩
  go_wp2_with fail
  refine hK.out _ _ (HS.out _ h1B.out) (fun hHeld2 => ?_)
  clear hK K
  try simp only [Act.put, List.setIfInBounds_toArray, List.set_cons_zero, List.set_cons_succ]
  refine wpAnyH_ready (rs := [8]) (by kernel_rfl) (by simp) ?_
  refine cons_drop rfl (fun K hK => ?_) AllReadyH.nil
  go_simp
  refine (HNB.out _ h1B.out).mono ?_
  rintro e w3 ⟨v3, rfl, hin3, hb3⟩
  have h3B : Hid (Below W0.heap.size W0 w3) := Lib.hid (h1B.out.trans (hb3.mono h1B.out.size))
  have HO3 := Lib.hid (HO1.out.later hb3)
  have HI3 := Lib.hid hin3
  clear hb3 hin3
  go_wp2_with fail
  refine hK.out _ _ (HS.out _ h3B.out) (fun hHeld2 => ?_)
  clear hK K
  try simp only [Act.put, List.setIfInBounds_toArray, List.set_cons_zero, List.set_cons_succ]
  refine wpAnyH_ready (rs := [9]) (by kernel_rfl) (by simp) ?_
  refine cons_drop rfl (fun K hK => ?_) AllReadyH.nil
  refine step_append_bytes _ rfl (.tmp 6) (.tmp 11) rfl W0.heap.size v1 v3 (ubytes 10 k) lk (by simp [Act.eval]) (by simp [Act.eval]) HO3.out HI3.out (by have := HLK.out; have := Bt.ubytes_len 10 k; omega) h3B.out.size ?_
  intro v4 w4 hown4 hg4 hb4
  have h4B := Lib.hid (h3B.out.trans hb4)
  refine hK.out _ _ (HS.out _ h4B.out) (fun hHeld2 => ?_)
  clear hK K
  try simp only [Act.put, List.setIfInBounds_toArray, List.set_cons_zero, List.set_cons_succ]
  first
    | (refine take_drop (i := 10) (v := ?_) rfl (by kernel_rfl) (by kernel_rfl) (by kernel_rfl) (fun _ _ _ h => h) (Or.inl ⟨by rfl, ?_⟩) (by assumption) ?_; rotate_left 1; (focus (intro w hSw; (try dsimp only at hSw); go_simp; try with_reducible rfl)); try simp only [Act.put, List.setIfInBounds_toArray, List.set_cons_zero, List.set_cons_succ])
    | (refine take_drop (i := 10) (v := undef) rfl (by kernel_rfl) (by kernel_rfl) (by kernel_rfl) (fun _ _ _ h => h) (Or.inr ⟨by rfl, rfl⟩) (by assumption) ?_; try simp only [Act.put, List.setIfInBounds_toArray, List.set_cons_zero, List.set_cons_succ])
  refine wpAnyH_done (by kernel_rfl) ?_ _
  refine NoPanic.normal ?_
  go_wp2_with fail
  go_ret
  exact ⟨v4, rfl, hown4.base HB0.out.size, HB0.out.trans (h4B.out.mono HB0.out.size)⟩

theorem m_none (n : Nat) (w : World) : (method (n + 1) 145 (.agg #[]) "clockwork/value.bytes").run Tryz.prog w = .ok (176, .agg #[]) w := by kernel_rfl
theorem m_int (n : Nat) (w : World) : (method (n + 1) 146 (.agg #[]) "clockwork/value.bytes").run Tryz.prog w = .ok (179, .agg #[]) w := by kernel_rfl
theorem m_float (n : Nat) (w : World) : (method (n + 1) 147 (.agg #[]) "clockwork/value.bytes").run Tryz.prog w = .ok (184, .agg #[]) w := by kernel_rfl
theorem m_text (n : Nat) (w : World) : (method (n + 1) 148 (.agg #[]) "clockwork/value.bytes").run Tryz.prog w = .ok (197, .agg #[]) w := by kernel_rfl
theorem m_list (n : Nat) (w : World) : (method (n + 1) 149 (.agg #[]) "clockwork/value.bytes").run Tryz.prog w = .ok (200, .agg #[]) w := by kernel_rfl
theorem e_none (args : Array Value) (w : World) : (callFunc 176 args).run Tryz.prog w = .ok (.enter 176 args) w := by kernel_rfl
theorem e_int (args : Array Value) (w : World) : (callFunc 179 args).run Tryz.prog w = .ok (.enter 179 args) w := by kernel_rfl
theorem e_float (args : Array Value) (w : World) : (callFunc 184 args).run Tryz.prog w = .ok (.enter 184 args) w := by kernel_rfl
theorem e_text (args : Array Value) (w : World) : (callFunc 197 args).run Tryz.prog w = .ok (.enter 197 args) w := by kernel_rfl
theorem e_list (args : Array Value) (w : World) : (callFunc 200 args).run Tryz.prog w = .ok (.enter 200 args) w := by kernel_rfl

theorem none_bytes (k n : Int) (f : Nat) (s : ByteArray) (A : Option Addr) (m c : Nat) (w : World) :
    Calls Tryz.prog 176 #[.agg #[], .agg #[.int .i64 k, .int .i64 n, .float .f64 f, .string s, .slice A m c]] w (KI w []) := by
  go_enter Tryz.func176, Tryz.ntmps176
  go_wp2_with fail
  go_ret
  exact ⟨_, rfl, .inl ⟨rfl, rfl⟩, ((Below.refl _ _).alloc (Nat.le_refl _) _).alloc (by simp) _⟩

theorem forms_take (l : List VT) (j : Nat) (h : j < l.length) : ((l.take (j + 1)).map Pf.VT.form).flatten = ((l.take j).map Pf.VT.form).flatten ++ Pf.VT.form l[j] := by
  rw [List.take_succ_eq_append_getElem h, List.map_append, List.flatten_append]; simp
theorem forms_le (l : List VT) (j : Nat) : ((l.take j).map Pf.VT.form).flatten.length ≤ (l.map Pf.VT.form).flatten.length := by
  have : ((l.take j ++ l.drop j).map Pf.VT.form).flatten.length = (l.map Pf.VT.form).flatten.length := by rw [List.take_append_drop]
  rw [List.map_append, List.flatten_append, List.length_append] at this
  omega

set_option maxRecDepth 100000 in
set_option maxHeartbeats 1000000 in
theorem list_bytes (k n : Int) (f : Nat) (s : ByteArray) (l : List VT) (A : Option Addr) (cap : Nat) (hl : l.length ≤ cap) (hcap : cap ≤ maxLen) (w : World) (lo hi : Nat) (hk : KidsAt w lo hi l A) (hz : hi ≤ w.heap.size) (hlen : (l.map Pf.VT.form).flatten.length ≤ 500000)
    (ih : ∀ i (h : i < l.length) (W : World) (lo hi : Nat) (v : Value), Rep W lo hi l[i] v → hi ≤ W.heap.size → Calls Tryz.prog 114 #[v] W (KB W (Pf.VT.form l[i]))) :
    Calls Tryz.prog 200 #[.agg #[], .agg #[.int .i64 k, .int .i64 n, .float .f64 f, .string s, .slice A l.length cap]] w (KB w (ubytes 10 l.length ++ (l.map Pf.VT.form).flatten)) := by
  simp only [maxLen] at hcap
  obtain ⟨W0, hW0⟩ : ∃ W0, W0 = (w.alloc (.cells #[] 149)).alloc (.cells #[.int .i64 k, .int .i64 n, .float .f64 f, .string s, .slice A l.length cap] 41) := ⟨_, rfl⟩
  have HB0 : Hid (Below w.heap.size w W0) := Lib.hid (by rw [hW0]; exact ((Below.refl _ _).alloc (Nat.le_refl _) _).alloc (by simp) _)
  have hz0 : w.heap.size + 1 < W0.heap.size := by rw [hW0]; simp
  have hx0 : BoxAt W0 (w.heap.size + 1) k n f s A l.length cap := by
    rw [hW0]
    have e := heap_alloc_new (w.alloc (.cells #[] 149)) (.cells #[.int .i64 k, .int .i64 n, .float .f64 f, .string s, .slice A l.length cap] 41)
    rw [World.size_alloc] at e
    exact e
  have HX0 := Lib.hid hx0
  obtain ⟨c0, c1, c2, c3, c4⟩ := hx0.cells
  have HK := Lib.hid (hk.later (HB0.out.mono hz))
  have IH := Lib.hid ih
  have HU := Lib.hid (uint_any l.length (by omega) W0)
  have HWR : Hid (IntKind.u64.wrap (l.length : Int) = (l.length : Int)) := Lib.hid (IntWalk.u64_in _ (by omega))
  have HLEN := Lib.hid hlen
  have hhi : hi ≤ W0.heap.size := Nat.le_trans hz HB0.out.size
  replace hW0 := Lib.hid hW0
  clear hx0 hk ih hlen
  go_enter Tryz.func200, Tryz.ntmps200
  go_upto_region 1 with fail
  rw [← hW0.out]
  go_wp2_with fail
  refine HU.out.mono ?_
  rintro x w1 ⟨v1, rfl, ho1, hb1⟩
  have HO1 := Lib.hid ho1; have HB1 := Lib.hid hb1
  obtain ⟨d0, d1, d2, d3, d4⟩ := (HX0.out.later hb1 hz0).cells
  clear ho1 hb1 c0 c1 c2 c3 c4
  go_wp2_with fail
  clear d0 d1 d2 d3 d4
  go_loopw [5, 16] (fun out i wr => ∃ (j : Nat), j ≤ l.length ∧ i = .int .i64 j ∧ BOwn wr W0.heap.size out (ubytes 10 l.length ++ ((l.take j).map Pf.VT.form).flatten) ∧ Below W0.heap.size W0 wr) (fun _ i _ => l.length - (intOf i).toNat)
  case atStart => exact ⟨0, by omega, rfl, by simpa using HO1.out, HB1.out⟩
  case round =>
    obtain ⟨j, hj, rfl, hown, hb⟩ := hrel
    have HO := Lib.hid hown; have HB := Lib.hid hb
    clear hown hb
    by_cases hlt : j < l.length
    · obtain ⟨b, off, rfl, hb1, hb2, h3⟩ := (HK.out.later (HB.out.mono hhi)).at_ (by omega)
      obtain ⟨k', n', f', s', L', A', cap', e, g0, g1, g2, g3, g4, hrj⟩ := h3 j hlt
      obtain ⟨W1, hW1⟩ : ∃ W1, W1 = wr.alloc (.cells #[.int .i64 k', .int .i64 n', .float .f64 f', .string s', .slice A' L'.length cap'] 41) := ⟨_, rfl⟩
      have hba : Below wr.heap.size wr W1 := by rw [hW1]; exact (Below.refl _ _).alloc (Nat.le_refl _) _
      have hx1 : BoxAt W1 wr.heap.size k' n' f' s' A' L'.length cap' := by rw [hW1]; exact BoxAt.new ..
      have hhr : hi ≤ wr.heap.size := Nat.le_trans hhi HB.out.size
      have HF := Lib.hid (IH.out j hlt W1 lo hi _ (hrj.later (hba.mono hhr)) (Nat.le_trans hhr hba.size))
      have HOA := Lib.hid (HO.out.later hba)
      have HBA := Lib.hid (HB.out.trans (hba.mono HB.out.size))
      obtain ⟨c0, c1, c2, c3, c4⟩ := hx1.cells
      have HFT := Lib.hid (forms_take l j hlt)
      have HLE : Hid ((ubytes 10 l.length ++ ((l.take j).map Pf.VT.form).flatten).length + (Pf.VT.form l[j]).length ≤ 35184372088832) := Lib.hid (by
        have h1 := forms_le l (j + 1)
        rw [forms_take l j hlt, List.length_append] at h1
        have h2 := HLEN.out
        have h4 := Bt.ubytes_len 10 l.length
        rw [List.length_append]
        omega)
      replace hW1 := Lib.hid hW1
      clear h3 hrj e hba hx1
      obtain ⟨acc, hacc⟩ : ∃ a, a = ubytes 10 l.length ++ ((l.take j).map Pf.VT.form).flatten := ⟨_, rfl⟩
      rw [← hacc] at HOA HLE
      have HACC := Lib.hid hacc
      obtain ⟨fj, hfj⟩ : ∃ a, a = Pf.VT.form l[j] := ⟨_, rfl⟩
      rw [← hfj] at HF HLE
      have HFJ := Lib.hid hfj
      clear hacc hfj HO
      go_upto_region 5 with fail
      rw [← hW1.out]
      clear g0 g1 g2 g3 g4
      go_wp2_with fail
      refine HF.out.mono ?_
      rintro x w2 ⟨v2, rfl, ho2, hb2⟩
      have HOB := Lib.hid (HOA.out.later hb2)
      have HI2 := Lib.hid ho2.read
      have HBB := Lib.hid (HBA.out.trans (hb2.mono HBA.out.size))
      clear ho2 hb2 c0 c1 c2 c3 c4
      go_wp2_with (at_builtin; refine wpList_append_bytes _ rfl _ _ rfl W0.heap.size _ _ acc fj rfl rfl HOB.out HI2.out HLE.out HBB.out.size ?_; intro v3 w3 hown3 hg3 hb3; have HO3 := Lib.hid hown3; have HB3 := Lib.hid (HBB.out.trans hb3); clear hown3 hb3)
      exact ⟨⟨j + 1, by omega, by go_num, by rw [HFT.out, ← List.append_assoc, ← HACC.out, ← HFJ.out]; exact HO3.out, HB3.out⟩, by simp [intOf]; omega⟩
    · have hj' : j = l.length := by omega
      subst hj'
      go_wp2_with fail
      go_ret
      have h := HO.out
      rw [List.take_length] at h
      exact ⟨_, rfl, h.base HB0.out.size, HB0.out.trans (HB.out.mono HB0.out.size)⟩

/-- How long a form gets. -/
theorem flat_sum (l : List VT) : (l.map Pf.VT.form).flatten.length = (l.map (fun t => (Pf.VT.form t).length)).sum := by
  rw [List.length_flatten, List.map_map]; rfl
theorem weightL_sum (l : List VT) : ∀ (n m : Int) (C : Int), 0 ≤ C → Vt.weightL l n m ≤ m → (∀ (i : Nat) (hi : i < l.length) (m' : Int), m' ≤ m → l[i].weight m' ≤ m' → ((Pf.VT.form l[i]).length : Int) ≤ C * l[i].weight m') → 0 ≤ n → C * n + ((l.map (fun t => (Pf.VT.form t).length)).sum : Int) ≤ C * Vt.weightL l n m := by
  induction l with
  | nil => intro n m C hC h hk hn; rw [Vt.weightL_nil]; simp
  | cons t l ih =>
    intro n m C hC h hk hn
    rw [Vt.weightL_cons] at h ⊢
    by_cases hnm : n ≤ m
    · rw [if_pos hnm] at h ⊢
      have hw := Vt.weight_ge t (m - n)
      have hge := Vt.weightL_ge' l (n + t.weight (m - n)) m
      have h1 := hk 0 (by simp) (m - n) (by omega) (by simp only [List.getElem_cons_zero]; omega)
      simp only [List.getElem_cons_zero] at h1
      have h2 := ih (n + t.weight (m - n)) m C hC h (fun i hi m' hm' hw' => hk (i + 1) (by simpa using hi) m' hm' hw') (by omega)
      simp only [List.map_cons, List.sum_cons]
      rw [Int.mul_add] at h2
      push_cast
      omega
    · rw [if_neg hnm] at h
      omega
theorem form_len_of_weight (t : VT) : ∀ m : Int, m ≤ 900 → t.weight m ≤ m → ((Pf.VT.form t).length : Int) ≤ 24 * t.weight m := by
  induction t using VT.ind with
  | _ k n f s l ih =>
    intro m hm h
    rw [Vt.weight_mk] at h ⊢
    have hge := Vt.weightL_ge' l (1 + min (s.size : Int) 1000) m
    have hs := weightL_sum l (1 + min (s.size : Int) 1000) m 24 (by omega) h (fun i hi m' hm' hw' => ih i hi m' (by omega) hw') (by omega)
    rw [Pf.form_mk, List.length_append]
    have h1 := Bt.ubytes_len 10 k.toNat
    have h2 := Bt.ubytes_len 10 (zz n)
    have h3 := Bt.ubytes_len 10 s.size
    have h4 := Bt.ubytes_len 10 l.length
    have h5 := Bt.sb_len s
    have h6 := flat_sum l
    have hss : (s.size : Int) ≤ 900 := by omega
    have e : ((if k = 1 then ubytes 10 (zz n) else if k = 2 then be8 (bitsW f) else if k = 3 then sform s else if k = 4 then ubytes 10 l.length ++ (l.map Pf.VT.form).flatten else []).length : Int) ≤ 11 + s.size + (l.map (fun t => (Pf.VT.form t).length)).sum := by
      have hnn : (0 : Int) ≤ ((l.map (fun t => (Pf.VT.form t).length)).sum : Int) := Int.natCast_nonneg _
      split
      · omega
      · split
        · simp [be8]; omega
        · split
          · unfold sform; rw [List.length_append]; omega
          · split
            · rw [List.length_append, h6]; push_cast; omega
            · simp; omega
    push_cast
    omega
theorem form_len_few {t : VT} (h : t.few = true) : (Pf.VT.form t).length ≤ 21600 := by
  unfold VT.few at h
  rw [Bool.and_eq_true, decide_eq_true_iff] at h
  have := form_len_of_weight t 900 (by omega) h.1
  omega

/-- A part of a small value is small enough. -/
theorem form_any (t : VT) : ∀ (d : Nat) (w : World) (lo hi : Nat) (v : Value), t.valid d = true → (Pf.VT.form t).length ≤ 100000 → t.Slim 900 → Rep w lo hi t v → hi ≤ w.heap.size → Calls Tryz.prog 114 #[v] w (KB w (Pf.VT.form t)) := by
  induction t using VT.ind with
  | _ k n f s l ih =>
    intro d w lo hi v hv hlen hS hR hz
    obtain ⟨A, cap, rfl, ho, hl, hk⟩ := hR.head
    obtain ⟨hs9, hl9, hkS⟩ := Vt.slim_mk.1 hS
    rw [Pf.form_mk] at hlen ⊢
    have hu := Bt.ubytes_len 10 k.toNat
    rw [List.length_append] at hlen
    rcases Pf.valid_cases hv with ⟨rfl, -⟩ | ⟨rfl, -⟩ | ⟨rfl, -⟩ | ⟨rfl, -⟩ | ⟨rfl, -, -, -, hkv⟩
    · exact form_walk 0 (by omega) 145 176 [] (by simp) n f s A l.length cap w (fun W => of_any 0 W) m_none e_none (fun W hW => none_bytes _ _ _ _ _ _ _ W)
    · exact form_walk 1 (by omega) 146 179 (ubytes 10 (zz n)) (by have := Bt.ubytes_len 10 (zz n); omega) n f s A l.length cap w (fun W => of_any 1 W) m_int e_int (fun W hW => (int_bytes _ rfl _ n ho.n0 ho.n1 f s A _ _ W).mono fun _ _ h => h.ki)
    · exact form_walk 2 (by omega) 147 184 (be8 (bitsW f)) (by simp [be8]) n f s A l.length cap w (fun W => of_any 2 W) m_float e_float (fun W hW => (float_bytes _ rfl _ n f ho.f1 s A _ _ W).mono fun _ _ h => h.ki)
    · exact form_walk 3 (by omega) 148 197 (sform s) (by have := Bt.ubytes_len 10 s.size; have := Bt.sb_len s; unfold sform; rw [List.length_append]; omega) n f s A l.length cap w (fun W => of_any 3 W) m_text e_text (fun W hW => (text_bytes _ rfl _ n f s (by omega) A _ _ W).mono fun _ _ h => h.ki)
    · rw [if_neg (by omega), if_neg (by omega), if_neg (by omega), if_pos rfl] at hlen ⊢
      rw [List.length_append] at hlen
      have hfl : ∀ i (h : i < l.length), (Pf.VT.form l[i]).length ≤ 100000 := fun i hi => by
        have h1 := forms_le l (i + 1)
        rw [forms_take l i hi, List.length_append] at h1
        omega
      refine form_walk 4 (by omega) 149 200 _ (by rw [List.length_append]; omega) n f s A l.length cap w (fun W => of_any 4 W) m_list e_list (fun W hW => ?_)
      exact (list_bytes _ n f s l A cap hl ho.m1 W lo hi (hk.later (hW.mono hz)) (Nat.le_trans hz hW.size) (by omega) (fun i hi W lo hi' v h1 h2 => ih i hi (d - 1) W lo hi' v (hkv _ (List.getElem_mem hi)) (hfl i hi) (hkS i hi) h1 h2)).mono fun _ _ h => h.ki

set_option maxRecDepth 100000 in
set_option maxHeartbeats 400000 in
theorem vbytes_any (t : VT) (hfew : t.few = true) (lo hi : Nat) (vk vn : Int) (vf : Nat) (vs : ByteArray) (A : Option Addr) (m c : Nat) (w : World) (hv : Rep w lo hi t (.agg #[.int .i64 vk, .int .i64 vn, .float .f64 vf, .string vs, .slice A m c])) (hz : hi ≤ w.heap.size) (hval : t.valid 8 = true) :
    Calls Tryz.prog 74 #[.agg #[.int .i64 vk, .int .i64 vn, .float .f64 vf, .string vs, .slice A m c]] w fun e w' => ∃ v, e = .returned (.tuple #[v, .bool true]) ∧ BOwn w' w.heap.size v (Pf.VT.form t) ∧ Below w.heap.size w w' := by
  obtain ⟨W0, hW0⟩ : ∃ W0, W0 = w.alloc (.cells #[.int .i64 vk, .int .i64 vn, .float .f64 vf, .string vs, .slice A m c] 41) := ⟨_, rfl⟩
  have hB0 : Below w.heap.size w W0 := by rw [hW0]; exact (Below.refl _ _).alloc (Nat.le_refl _) _
  have hbx : BoxAt W0 w.heap.size vk vn vf vs A m c := by rw [hW0]; exact BoxAt.new ..
  have hz0 : w.heap.size < W0.heap.size := by rw [hW0]; simp
  have HBX : Hid (∀ W, Below W0.heap.size W0 W → BoxAt W w.heap.size vk vn vf vs A m c) := Lib.hid fun W hW => hbx.later hW hz0
  have HV := Lib.hid (Vt.valid_any t W0 lo hi _ (hv.later (hB0.mono hz)) (Nat.le_trans hz hB0.size))
  rw [hval] at HV
  have HF := Lib.hid fun W (hW : Below W0.heap.size W0 W) => form_any t 8 W lo hi _ hval (by have := form_len_few hfew; omega) (Vt.slim_of_few t hfew) ((hv.later (hB0.mono hz)).later (hW.mono (Nat.le_trans hz hB0.size))) (Nat.le_trans hz (Nat.le_trans hB0.size hW.size))
  have HB0 := Lib.hid hB0
  obtain ⟨c0, c1, c2, c3, c4⟩ := hbx.cells
  clear hB0 hbx hv
  replace hW0 := Lib.hid hW0
  go_enter Tryz.func74, Tryz.ntmps74
  go_upto_region 1 with fail
  rw [← hW0.out]
  go_wp2_with fail
  refine HV.out.mono ?_
  rintro e w1 ⟨rfl, hb1⟩
  obtain ⟨d0, d1, d2, d3, d4⟩ := (HBX.out w1 hb1).cells
  have HB1 := Lib.hid hb1
  clear hb1 c0 c1 c2 c3 c4
  go_wp2_with fail
  refine (HF.out _ HB1.out).mono ?_
  rintro e w2 ⟨v, rfl, hown, hb2⟩
  have HO2 := Lib.hid hown
  have HB2 := Lib.hid hb2
  clear hown hb2
  go_wp2_with fail
  have hz1 := Nat.le_trans HB0.out.size HB1.out.size
  exact bodyPost_ret (v := .tuple #[v, .bool true]) (by simp [results, Tryz.results74, go_sem]) rfl ⟨v, rfl, HO2.out.base hz1, HB0.out.trans ((HB1.out.trans (HB2.out.mono HB1.out.size)).mono HB0.out.size)⟩
end Vf
end Go.Proofs.YtpneejlilgepfaaGreatDoor
namespace Go.Proofs.YtpneejlilgepfaaGreatDoor
open Go.RowKit Go.Shelf Go.Sort
set_option linter.unusedVariables false

def Tryz.laysFI_ren : Go.Shelf.Ren := ⟨fun | 246 => 137 | 283 => 121 | 284 => 122 | 285 => 123 | 286 => 124 | 129 => 142 | 317 => 141 | 318 => 143 | 319 => 144 | 320 => 145 | 337 => 155 | 338 => 156 | n => n, fun | 2 => 2 | 3 => 3 | 9 => 9 | 4 => 4 | 171 => 151 | 0 => 0 | 53 => 22 | 37 => 31 | 5 => 5 | 173 => 154 | 212 => 171 | 51 => 172 | 20 => 20 | 213 => 173 | 46 => 143 | 232 => 184 | 233 => 185 | n => n, fun | 17 => 0 | 18 => 3 | 19 => 4 | n => n⟩
theorem Tryz.laysFI : Go.Proofs.LaysM.n246 Tryz.prog Tryz.laysFI_ren := {
  mixed := by kernel_rfl
  f129 := Tryz.func142.trans (congrArg some (by kernel_rfl))
  f246 := Tryz.func137.trans (congrArg some (by kernel_rfl))
  f283 := Tryz.func121.trans (congrArg some (by kernel_rfl))
  f284 := Tryz.func122.trans (congrArg some (by kernel_rfl))
  f285 := Tryz.func123.trans (congrArg some (by kernel_rfl))
  f286 := Tryz.func124.trans (congrArg some (by kernel_rfl))
  f317 := Tryz.func141.trans (congrArg some (by kernel_rfl))
  f318 := Tryz.func143.trans (congrArg some (by kernel_rfl))
  f319 := Tryz.func144.trans (congrArg some (by kernel_rfl))
  f320 := Tryz.func145.trans (congrArg some (by kernel_rfl))
  f337 := Tryz.func155.trans (congrArg some (by kernel_rfl))
  f338 := Tryz.func156.trans (congrArg some (by kernel_rfl))
  t0 := Tryz.underlying0
  a0 := Tryz.isAgg0
  z0 := Tryz.sizeOf0
  v0 := Tryz.zeroValue0
  t2 := Tryz.underlying2
  a2 := Tryz.isAgg2
  z2 := Tryz.sizeOf2
  v2 := Tryz.zeroValue2
  t3 := Tryz.underlying3
  a3 := Tryz.isAgg3
  z3 := Tryz.sizeOf3
  v3 := Tryz.zeroValue3
  t4 := Tryz.underlying4
  a4 := Tryz.isAgg4
  z4 := Tryz.sizeOf4
  v4 := Tryz.zeroValue4
  t5 := Tryz.underlying5
  a5 := Tryz.isAgg5
  z5 := Tryz.sizeOf5
  v5 := Tryz.zeroValue5
  t9 := Tryz.underlying9
  a9 := Tryz.isAgg9
  z9 := Tryz.sizeOf9
  v9 := Tryz.zeroValue9
  t20 := Tryz.underlying20
  a20 := Tryz.isAgg20
  z20 := Tryz.sizeOf20
  v20 := Tryz.zeroValue20
  t37 := Tryz.underlying31
  a37 := Tryz.isAgg31
  z37 := Tryz.sizeOf31
  v37 := Tryz.zeroValue31
  t46 := Tryz.underlying143
  a46 := Tryz.isAgg143
  z46 := Tryz.sizeOf143
  v46 := Tryz.zeroValue143
  t51 := Tryz.underlying172
  a51 := Tryz.isAgg172
  z51 := Tryz.sizeOf172
  v51 := Tryz.zeroValue172
  t53 := Tryz.underlying22
  a53 := Tryz.isAgg22
  z53 := Tryz.sizeOf22
  v53 := Tryz.zeroValue22
  t171 := Tryz.underlying151
  a171 := Tryz.isAgg151
  z171 := Tryz.sizeOf151
  v171 := Tryz.zeroValue151
  t173 := Tryz.underlying154
  a173 := Tryz.isAgg154
  z173 := Tryz.sizeOf154
  v173 := Tryz.zeroValue154
  t212 := Tryz.underlying171
  a212 := Tryz.isAgg171
  z212 := Tryz.sizeOf171
  v212 := Tryz.zeroValue171
  t213 := Tryz.underlying173
  a213 := Tryz.isAgg173
  z213 := Tryz.sizeOf173
  t232 := Tryz.underlying184
  a232 := Tryz.isAgg184
  z232 := Tryz.sizeOf184
  v232 := Tryz.zeroValue184
  t233 := Tryz.underlying185
  a233 := Tryz.isAgg185
  z233 := Tryz.sizeOf185
  v233 := Tryz.zeroValue185
  g17 := by kernel_rfl
  g18 := by kernel_rfl
  g19 := by kernel_rfl
  i0 := by kernel_rfl
  i2 := by kernel_rfl
  i3 := by kernel_rfl
  i4 := by kernel_rfl
  i5 := by kernel_rfl
  i9 := by kernel_rfl
  i20 := by kernel_rfl
  i37 := by kernel_rfl
  i46 := by kernel_rfl
  i51 := by kernel_rfl
  i53 := by kernel_rfl
  i171 := by kernel_rfl
  i173 := by kernel_rfl
  i212 := by kernel_rfl
  i232 := by kernel_rfl
  i233 := by kernel_rfl
  m17 := by kernel_rfl
  m18 := by kernel_rfl
  m19 := by kernel_rfl }

namespace Fu
theorem zhold (w : World) (T : TypeId) (nd : Nat) (hs : nd ≤ 24) : Holds (fun (b : UInt8) => Value.int .u8 (b.toNat : Int)) (w.alloc (.cells Lib.zeros24 T)) w.heap.size 0 (Array.replicate nd (0 : UInt8)) := fun j hj => by
  have hj' : j < nd := by simpa using hj
  refine ⟨?_, World.frozen?_alloc_new _ _ _ _⟩
  rw [World.cell?_alloc_new, Lib.zeros24_at _ (by omega), getElem!_pos _ j hj]
  simp
theorem fin0 (w : World) (o : Obj) (dk : Array UInt8) (k : Nat) : ∃ os, (putRow (fun (b : UInt8) => Value.int .u8 (b.toNat : Int)) (w.alloc o) w.heap.size 0 dk).drewN k = grow (w.drewN k) os := by
  rw [alloc_eq_grow]
  obtain ⟨os', _, e⟩ := putRow_grow_new (fun (b : UInt8) => Value.int .u8 (b.toNat : Int)) w #[o] w.heap.size 0 dk (Nat.le_refl _)
  exact ⟨os', by rw [e]; rfl⟩
theorem grow_below (w : World) (k : Nat) (os : Array Obj) : Below w.heap.size w (grow (w.drewN k) os) := by
  have h : (w.drewN k).heap = w.heap := rfl
  refine ⟨rfl, rfl, rfl, ?_, fun j hj => ?_⟩
  · show w.heap.size ≤ (w.heap ++ os).size
    rw [Array.size_append]; omega
  · show (w.heap ++ os)[j]? = w.heap[j]?
    exact Array.getElem?_append_left hj

set_option maxHeartbeats 1000000 in
set_option maxRecDepth 100000 in
theorem ifmtu_any (u : Nat) (hu : u < 18446744073709551616) (w : World) (htab : Lib.TabIs Tryz.prog w "internal/strconv.uint64pow10" .u64 Lib.pow10Tab) :
    Calls Tryz.prog 92 #[.int .u64 u, .int .i64 10] w fun e w' => e = .returned (.string ⟨(Lib.decDigits u).toArray⟩) ∧ ∃ k os, w' = grow (w.drewN k) os := by
  have L := Tryz.laysFI
  by_cases hs : u < 100
  · have hi : (u : Int) < 100 := by omega
    have hw : IntKind.i64.wrap (u : Int) = u := by rw [IntKind.wrap_i64]; omega
    have HS := Lib.hid fun w => Any.internal_strconv_small { L with } u hs w
    go_enter Tryz.func92, Tryz.ntmps92
    go_wp2_with fail
    refine (HS.out _).mono ?_
    rintro e w' ⟨rfl, rfl⟩
    go_wp2_with fail
    go_ret
    exact ⟨rfl, 0, #[], by simp [World.drewN_zero]⟩
  · have hu1 : 1 ≤ u := by omega
    have hi : (100 : Int) ≤ u := by omega
    have hnd20 : Lib.nDigits u ≤ 20 := by have := Lib.numDigits_eq u hu1 hu; split at this <;> omega
    have hal : Tryz.prog.arrayLen 151 = 24 := by kernel_rfl
    have hsl1 : ∀ W, (Instr.sliceAt 151 (.pointer (some ⟨w.heap.size, 0, none⟩)) none (some (.int .i64 (Lib.nDigits u : Int))) none).run Tryz.prog W = .ok (.slice (some ⟨w.heap.size, 0, none⟩) (Lib.nDigits u) 24) W := fun W => by
      rw [run_sliceAt_array_h W 151 ⟨w.heap.size, 0, none⟩ (by kernel_rfl) .i64 (Lib.nDigits u : Int) (by omega) (by rw [hal]; omega)]
      go_simp
    have hH0 := zhold w 151 (Lib.nDigits u) (by omega)
    have hfmt := Any.internal_strconv_formatBase10 { L with } w.heap.size 0 24 u (Array.replicate (Lib.nDigits u) 0) (w.alloc (.cells Lib.zeros24 151)) hH0 (by rw [Array.size_replicate]; exact Lib.lt_pow_nDigits u) hu (by rw [Array.size_replicate]; omega)
    rw [Array.size_replicate] at hfmt
    have HH0 := Lib.hid hH0
    have HN := Lib.hid (Any.internal_strconv_numDigits { L with } u hu1 hu _ (Lib.tabIs_alloc htab (.cells Lib.zeros24 151)))
    have HF := Lib.hid hfmt
    clear hH0 hal hfmt
    go_enter Tryz.func92, Tryz.ntmps92
    go_wp2_with fail
    refine HN.out.mono ?_
    rintro e w' ⟨rfl, rfl⟩
    go_wp2_with fail
    refine HF.out.mono ?_
    rintro e w' ⟨rfl, k, v', dk, rfl, hF⟩
    have hcv : (convert 31 9 (.slice (some ⟨w.heap.size, 0, none⟩) (Lib.nDigits u) 24)).run Tryz.prog ((putRow (fun (b : UInt8) => Value.int .u8 (b.toNat : Int)) (w.alloc (.cells Lib.zeros24 151)) w.heap.size 0 dk).drewN k) = .ok (.string ⟨(Lib.decDigits u).toArray⟩) ((putRow (fun (b : UInt8) => Value.int .u8 (b.toNat : Int)) (w.alloc (.cells Lib.zeros24 151)) w.heap.size 0 dk).drewN k) := by
      have h := run_convert_bytes_back (P := Tryz.prog) ((putRow (fun (b : UInt8) => Value.int .u8 (b.toNat : Int)) (w.alloc (.cells Lib.zeros24 151)) w.heap.size 0 dk).drewN k) 31 9 5 ⟨w.heap.size, 0, none⟩ 24 (Lib.decDigits u) Tryz.underlying31 Tryz.underlying5 Tryz.underlying9 (fun j hj => by
        rw [Lib.row_is_numeral hF j hj, Lib.add_plain, World.cell?_drewN]
        exact cell?_putRow (fun (b : UInt8) => Value.int .u8 (b.toNat : Int)) _ w.heap.size 0 _ dk HH0.out (by rw [hF.size, Array.size_replicate]) j (by rw [hF.size]; rw [Lib.decDigits_length] at hj; exact hj))
      rw [Lib.decDigits_length] at h
      exact h
    go_wp2_with fail
    go_ret
    obtain ⟨os, eo⟩ := fin0 w (.cells Lib.zeros24 151) dk k
    exact ⟨rfl, k, os, eo⟩

/-- strconv.FormatUint at base 10. -/
theorem fmtu_any (u : Nat) (hu : u < 18446744073709551616) (w : World) (htab : Lib.TabIs Tryz.prog w "internal/strconv.uint64pow10" .u64 Lib.pow10Tab) :
    Calls Tryz.prog 48 #[.int .u64 u, .int .i64 10] w fun e w' => e = .returned (.string ⟨(Lib.decDigits u).toArray⟩) ∧ Below w.heap.size w w' := by
  have H := Lib.hid (ifmtu_any u hu w htab)
  go_enter Tryz.func48, Tryz.ntmps48
  go_wp2_with fail
  refine H.out.mono ?_
  rintro e w1 ⟨rfl, k, os, rfl⟩
  go_wp2_with fail
  go_ret
  exact ⟨rfl, grow_below _ _ _⟩
/-- A listed table stands in a later world. -/
theorem tab_later {w w' : World} {name : String} {k : IntKind} {zs : List Int} (h : Lib.TabIs Tryz.prog w name k zs) (hb : Below w.heap.size w w') : Lib.TabIs Tryz.prog w' name k zs := by
  unfold Lib.TabIs World.var? at *
  cases hg : Tryz.prog.globalNamed name with
  | none => simp [hg] at h
  | some g =>
    simp only [hg, Option.bind_some] at h ⊢
    have hlt : g < w.heap.size := by
      rcases Nat.lt_or_ge g w.heap.size with h' | h'
      · exact h'
      · rw [Array.getElem?_eq_none h'] at h; simp at h
    rw [hb.block g hlt]
    exact h
end Fu
end Go.Proofs.YtpneejlilgepfaaGreatDoor
namespace Go.Proofs.YtpneejlilgepfaaGreatDoor
open Go.RowKit Go.Shelf Go.Sort
set_option linter.unusedVariables false
namespace Fu
theorem pow16 (w : World) : Calls Tryz.prog 144 #[.int .i64 16] w fun e w' => e = .returned (.bool true) ∧ w' = w := by
  go_enter Tryz.func144, Tryz.ntmps144
  go_wp2_with fail
  go_ret
  exact ⟨by first | rfl | (simp; decide), rfl⟩
set_option maxRecDepth 100000 in
theorem tz16 (w : World) (hc : w.cell? ⟨4, 15, none⟩ = some (.int .u8 4)) : Calls Tryz.prog 156 #[.int .u64 16] w fun e w' => e = .returned (.int .i64 4) ∧ w' = w := by
  have h1 : bits BinOp.and IntKind.u64 16 (IntKind.u64.wrap (-16)) = 16 := by first | rfl | kernel_rfl | decide
  have h2 : IntKind.u64.wrap (16 * 285870213051353865) = 4573923408821661840 := by first | rfl | kernel_rfl | decide
  go_enter Tryz.func156, Tryz.ntmps156
  go_wp2_with fail
  go_ret
  exact ⟨rfl, rfl⟩
theorem tzu16 (w : World) (hc : w.cell? ⟨4, 15, none⟩ = some (.int .u8 4)) : Calls Tryz.prog 145 #[.int .u64 16] w fun e w' => e = .returned (.int .i64 4) ∧ w' = w := by
  have H := Lib.hid (tz16 w hc)
  go_enter Tryz.func145, Tryz.ntmps145
  go_wp2_with fail
  refine H.out.mono ?_
  rintro e w1 ⟨rfl, rfl⟩
  go_wp2_with fail
  go_ret
  exact ⟨rfl, rfl⟩
end Fu
end Go.Proofs.YtpneejlilgepfaaGreatDoor
namespace Go.Proofs.YtpneejlilgepfaaGreatDoor
open Go.RowKit Go.Shelf Go.Sort
set_option linter.unusedVariables false
namespace Fu
/-- A hexadecimal digit's byte. -/
def hd (x : Nat) : Nat := if x < 10 then 48 + x else 87 + x
theorem hix (x : Nat) (h : x < 16) (W : World) : (Instr.index 9 (.string ⟨#[48, 49, 50, 51, 52, 53, 54, 55, 56, 57, 97, 98, 99, 100, 101, 102, 103, 104, 105, 106, 107, 108, 109, 110, 111, 112, 113, 114, 115, 116, 117, 118, 119, 120, 121, 122]⟩) (.int .u64 (x : Int))).run Tryz.prog W = .ok (.int .u8 (hd x : Nat)) W := by
  rcases (by omega : x = 0 ∨ x = 1 ∨ x = 2 ∨ x = 3 ∨ x = 4 ∨ x = 5 ∨ x = 6 ∨ x = 7 ∨ x = 8 ∨ x = 9 ∨ x = 10 ∨ x = 11 ∨ x = 12 ∨ x = 13 ∨ x = 14 ∨ x = 15) with rfl | rfl | rfl | rfl | rfl | rfl | rfl | rfl | rfl | rfl | rfl | rfl | rfl | rfl | rfl | rfl
  all_goals kernel_rfl
theorem mask15 (v : Nat) (h : v < 18446744073709551616) : bits BinOp.and IntKind.u64 (v : Int) 15 = ((v % 16 : Nat) : Int) := by
  have h := bits_and_u64_nat v 15 (by omega) (by omega)
  have e : v &&& 15 = v % 16 := Nat.and_two_pow_sub_one_eq_mod v 4
  rw [e] at h
  exact h
/-- The array, its last j cells the digits of u's low j nibbles. -/
def Low (w : World) (b : Nat) (u j : Nat) : Prop := ∃ c : Array Value, w.heap[b]? = some (.cells c 173 (0, 0)) ∧ c.size = 65 ∧ ∀ t, t < j → c[64 - t]? = some (.int .u8 (hd (u / 16 ^ t % 16) : Nat))
theorem Low.free {w : World} {b u j : Nat} (h : Low w b u j) (o : Nat) : w.frozen? ⟨b, o, none⟩ = false := by
  obtain ⟨c, h1, -⟩ := h; simp [World.frozen?, h1]
theorem Low.cell {w : World} {b u j : Nat} (h : Low w b u j) (o : Nat) (ho : o < 65) : ∃ v, w.cell? ⟨b, o, none⟩ = some v := by
  obtain ⟨c, h1, h2, -⟩ := h
  exact ⟨c[o]'(by omega), by simp [World.cell?, h1, h2, ho]⟩
theorem Low.step {w : World} {b u j : Nat} (h : Low w b u j) (hj : j < 65) : Low (w.setCell ⟨b, 64 - j, none⟩ (.int .u8 (hd (u / 16 ^ j % 16) : Nat))) b u (j + 1) := by
  obtain ⟨c, h1, h2, h3⟩ := h
  refine ⟨c.setIfInBounds (64 - j) (.int .u8 (hd (u / 16 ^ j % 16) : Nat)), by simp [World.setCell, Array.getElem?_modify, h1], by simpa using h2, fun t ht => ?_⟩
  rw [Array.getElem?_setIfInBounds]
  by_cases e : 64 - j = 64 - t
  · have : t = j := by omega
    subst this
    rw [if_pos e, if_pos (by omega)]
  · rw [if_neg e]
    exact h3 t (by omega)
theorem low_new (w : World) (u : Nat) : Low (w.alloc (.cells #[.int .u8 0, .int .u8 0, .int .u8 0, .int .u8 0, .int .u8 0, .int .u8 0, .int .u8 0, .int .u8 0, .int .u8 0, .int .u8 0, .int .u8 0, .int .u8 0, .int .u8 0, .int .u8 0, .int .u8 0, .int .u8 0, .int .u8 0, .int .u8 0, .int .u8 0, .int .u8 0, .int .u8 0, .int .u8 0, .int .u8 0, .int .u8 0, .int .u8 0, .int .u8 0, .int .u8 0, .int .u8 0, .int .u8 0, .int .u8 0, .int .u8 0, .int .u8 0, .int .u8 0, .int .u8 0, .int .u8 0, .int .u8 0, .int .u8 0, .int .u8 0, .int .u8 0, .int .u8 0, .int .u8 0, .int .u8 0, .int .u8 0, .int .u8 0, .int .u8 0, .int .u8 0, .int .u8 0, .int .u8 0, .int .u8 0, .int .u8 0, .int .u8 0, .int .u8 0, .int .u8 0, .int .u8 0, .int .u8 0, .int .u8 0, .int .u8 0, .int .u8 0, .int .u8 0, .int .u8 0, .int .u8 0, .int .u8 0, .int .u8 0, .int .u8 0, .int .u8 0] 173)) w.heap.size u 0 := ⟨_, heap_alloc_new w _, rfl, fun t ht => by omega⟩
end Fu
end Go.Proofs.YtpneejlilgepfaaGreatDoor
namespace Go.Proofs.YtpneejlilgepfaaGreatDoor
open Go.RowKit Go.Shelf Go.Sort
set_option linter.unusedVariables false
namespace Fu
/-- The digits of u's low n nibbles, the greatest first. -/
def hexN (n u : Nat) : List UInt8 := (List.range n).map fun i => UInt8.ofNat (hd (u / 16 ^ (n - 1 - i) % 16))
theorem hexN_len (n u : Nat) : (hexN n u).length = n := by simp [hexN]
theorem hd_lt (x : Nat) (h : x < 16) : hd x < 256 := by unfold hd; split <;> omega
theorem Low.digits {w : World} {b u n : Nat} (h : Low w b u n) (hn : n ≤ 65) (j : Nat) (hj : j < (hexN n u).length) : w.cell? ((⟨b, 65 - n, none⟩ : Addr).add j) = some (.int .u8 ((hexN n u)[j].toNat : Int)) := by
  obtain ⟨c, h1, h2, h3⟩ := h
  have hj' : j < n := by rwa [hexN_len] at hj
  rw [Lib.add_plain]
  have e : 65 - n + j = 64 - (n - 1 - j) := by omega
  have h4 := h3 (n - 1 - j) (by omega)
  have h5 : (UInt8.ofNat (hd (u / 16 ^ (n - 1 - j) % 16))).toNat = hd (u / 16 ^ (n - 1 - j) % 16) := by
    rw [UInt8.toNat_ofNat']
    exact Nat.mod_eq_of_lt (hd_lt _ (Nat.mod_lt _ (by omega)))
  simp only [World.cell?, h1, hexN, List.getElem_map, List.getElem_range, h5, e]
  exact h4
theorem sx (x : Nat) (h : x < 16) (h' : x < (⟨#[48, 49, 50, 51, 52, 53, 54, 55, 56, 57, 97, 98, 99, 100, 101, 102, 103, 104, 105, 106, 107, 108, 109, 110, 111, 112, 113, 114, 115, 116, 117, 118, 119, 120, 121, 122]⟩ : ByteArray).size) : ((⟨#[48, 49, 50, 51, 52, 53, 54, 55, 56, 57, 97, 98, 99, 100, 101, 102, 103, 104, 105, 106, 107, 108, 109, 110, 111, 112, 113, 114, 115, 116, 117, 118, 119, 120, 121, 122]⟩ : ByteArray)[x]'h').toNat = hd x := by
  rcases (by omega : x = 0 ∨ x = 1 ∨ x = 2 ∨ x = 3 ∨ x = 4 ∨ x = 5 ∨ x = 6 ∨ x = 7 ∨ x = 8 ∨ x = 9 ∨ x = 10 ∨ x = 11 ∨ x = 12 ∨ x = 13 ∨ x = 14 ∨ x = 15) with rfl | rfl | rfl | rfl | rfl | rfl | rfl | rfl | rfl | rfl | rfl | rfl | rfl | rfl | rfl | rfl
  all_goals rfl
theorem pow_up (u j v : Nat) (hv : v = u / 16 ^ j) (h : 16 ≤ v) : 16 ^ (j + 1) ≤ u := by
  rw [Nat.pow_succ, Nat.mul_comm]
  rw [hv] at h
  exact (Nat.le_div_iff_mul_le (Nat.pow_pos (by omega))).1 h
theorem pow_dn (u j v : Nat) (hv : v = u / 16 ^ j) (h : v < 16) : u < 16 ^ (j + 1) := by
  rw [Nat.pow_succ, Nat.mul_comm]
  rw [hv] at h
  exact (Nat.div_lt_iff_lt_mul (Nat.pow_pos (by omega))).1 h
theorem nib (u j : Nat) : u / 16 ^ (j + 1) = u / 16 ^ j / 16 := by rw [Nat.pow_succ, Nat.div_div_eq_div_mul]

set_option maxRecDepth 100000 in
set_option maxHeartbeats 1000000 in
theorem fbits16 (u : Nat) (hu : u < 18446744073709551616) (w : World) (hc : w.cell? ⟨4, 15, none⟩ = some (.int .u8 4)) (hg : 4 < w.heap.size) :
    Calls Tryz.prog 124 #[.slice none 0 0, .int .u64 u, .int .i64 16, .bool false, .bool false] w fun e w' => ∃ n, 1 ≤ n ∧ n ≤ 16 ∧ u < 16 ^ n ∧ (1 < n → 16 ^ (n - 1) ≤ u) ∧ e = .returned (.tuple #[.slice none 0 0, .string ⟨(hexN n u).toArray⟩]) ∧ Below w.heap.size w w' := by
  obtain ⟨W0, hW0⟩ : ∃ W, W = w.alloc (.cells Tryz.zeroCells173 173) := ⟨_, rfl⟩
  obtain ⟨b, hb⟩ : ∃ b, b = w.heap.size := ⟨_, rfl⟩
  have hL0 : Hid (Low W0 b u 0) := Lib.hid (by rw [hW0, hb]; exact ⟨_, heap_alloc_new w _, by kernel_rfl, fun t ht => by omega⟩)
  have hB0 : Hid (Below w.heap.size w W0) := Lib.hid (by rw [hW0]; exact (Below.refl _ _).alloc (Nat.le_refl _) _)
  have HT := Lib.hid (tzu16 W0 ((hB0.out.cell (p := ⟨_, 15, none⟩) hg).trans hc))
  have HP := Lib.hid pow16
  replace hW0 := Lib.hid hW0
  have hbw : Hid (w.heap.size ≤ b) := Lib.hid (by omega)
  go_enter Tryz.func124, Tryz.ntmps124
  go_upto_region 4 with fail
  rw [← hW0.out, ← hb]
  replace hb := Lib.hid hb
  go_wp2_with fail
  refine (HP.out _).mono ?_
  rintro e w1 ⟨rfl, rfl⟩
  go_wp2_with fail
  refine HT.out.mono ?_
  rintro e w1 ⟨rfl, rfl⟩
  go_wp2_with fail
  go_loopw [1, 13] (fun x i wr => ∃ (j p v : Nat), p + j = 64 ∧ j ≤ 15 ∧ v = u / 16 ^ j ∧ x = .int .u64 v ∧ i = .int .i64 ((p + 1 : Nat) : Int) ∧ (0 < j → 16 ^ j ≤ u) ∧ Low wr b u j ∧ Below w.heap.size w wr) (fun x _ _ => (intOf x).toNat)
  case atStart => exact ⟨0, 64, u, rfl, by omega, by simp, rfl, rfl, fun h => by omega, hL0.out, hB0.out⟩
  case round =>
    obtain ⟨j, p, v, hpj, hj, hv, rfl, rfl, hle, hlow, hbel⟩ := hrel
    have hvu : v < 18446744073709551616 := Nat.lt_of_le_of_lt (by rw [hv]; exact Nat.div_le_self _ _) hu
    have hp0 : p ≤ 64 := by omega
    have hp1 : (p : Int) < 65 := by omega
    have hp2 : (0 : Int) ≤ p := by omega
    have kf := hlow.free p
    obtain ⟨cv, kc⟩ := hlow.cell p (by omega)
    have HV := Lib.hid hv
    have HLOW := Lib.hid hlow
    have HBEL := Lib.hid hbel
    have HLE := Lib.hid hle
    clear hlow hbel hle hv
    by_cases hge : 16 ≤ v
    · have hge' : (16 : Int) ≤ v := by omega
      have hm := mask15 v hvu
      have hi := hix (v % 16) (Nat.mod_lt _ (by omega))
      go_wp2_with fail
      have hup := pow_up u j v HV.out hge
      have hj14 : j ≤ 14 := by
        rcases Nat.lt_or_ge j 15 with h | h
        · omega
        · have e : j = 15 := by omega
          rw [e] at hup
          omega
      have hst := HLOW.out.step (by omega)
      rw [show 64 - j = p by omega, ← HV.out] at hst
      refine ⟨⟨j + 1, p - 1, v / 16, by omega, by omega, by rw [nib, ← HV.out], congrArg (Value.int .u64) (by omega), congrArg (Value.int .i64) (by omega), fun _ => hup, ?_, HBEL.out.setCell hbw.out _⟩, by simp [intOf]; omega⟩
      rw [sx (v % 16) (Nat.mod_lt _ (by omega))]
      exact hst
    · have hlt' : (v : Int) < 16 := by omega
      have hi := hix v (by omega)
      have hst := HLOW.out.step (by omega)
      rw [show 64 - j = p by omega, ← HV.out, Nat.mod_eq_of_lt (by omega : v < 16)] at hst
      have hal : Tryz.prog.arrayLen 173 = 65 := by kernel_rfl
      have hsl : ∀ W, (Instr.sliceAt 173 (.pointer (some ⟨b, 0, none⟩)) (some (.int .i64 (p : Int))) none none).run Tryz.prog W = .ok (.slice (some ⟨b, p, none⟩) (65 - p) (65 - p)) W := fun W => by
        rw [run_sliceAt_array_l W 173 ⟨b, 0, none⟩ (by kernel_rfl) .i64 (p : Int) (by omega) (by rw [hal]; omega)]
        go_simp
        omega
      have hcv : (convert 31 9 (.slice (some ⟨b, p, none⟩) (65 - p) (65 - p))).run Tryz.prog (wr.setCell ⟨b, p, none⟩ (.int .u8 (hd v : Nat))) = .ok (.string ⟨(hexN (j + 1) u).toArray⟩) (wr.setCell ⟨b, p, none⟩ (.int .u8 (hd v : Nat))) := by
        have h := run_convert_bytes_back (P := Tryz.prog) (wr.setCell ⟨b, p, none⟩ (.int .u8 (hd v : Nat))) 31 9 5 ⟨b, p, none⟩ (65 - p) (hexN (j + 1) u) Tryz.underlying31 Tryz.underlying5 Tryz.underlying9 (fun i hi => by
          have := hst.digits (by omega) i hi
          rwa [show 65 - (j + 1) = p by omega] at this)
        rw [hexN_len, show j + 1 = 65 - p by omega] at h
        rw [show j + 1 = 65 - p by omega]
        exact h
      clear hal hst
      go_wp2_with fail
      have hdn := pow_dn u j v HV.out (by omega)
      exact bodyPost_ret (v := .tuple #[.slice none 0 0, .string ⟨(hexN (j + 1) u).toArray⟩]) (by simp [results, Tryz.results124, go_sem]) rfl ⟨j + 1, by omega, by omega, hdn, fun h => by rw [Nat.add_sub_cancel]; exact HLE.out (by omega), rfl, HBEL.out.setCell hbw.out _⟩
end Fu
end Go.Proofs.YtpneejlilgepfaaGreatDoor
