/- bin.Reader's Uint, Int, Take, Bytes, Text as pure steps. -/
import Derived.Test.YtfmnacebgplpcaaGreatIoau
import Derived.Laws.BitsAllLaws
import Derived.Test.YtfmnacebgplpcaaGreatIoat
import Derived.Laws.Bits64
import Derived.Test.YtfmnacebgplpcaaGreatIoac
import Derived.Test.YtfmnacebgplpcaaGreatIoad
import Derived.Test.YtfmnacebgplpcaaGreatIoab
import Derived.Test.YtfmnacebgplpcaaGreatIoaj
import Derived.Test.YtfmnacebgplpcaaGreatIoai
set_option linter.unusedVariables false
set_option linter.unusedSimpArgs false
open Go.RowKit
namespace Go.Proofs.YtfmnacebgplpcaaGreat
namespace Rd
open _root_.Go.Proofs.YtfmnacebgplpcaaGreat.Nm (ret_int ret_bool)
open Vt (below_drew)
open Bt (BOwn BIn bv ubytes sb)
open Cn (BRd brd_own)
open Cm (OnlyAt)

abbrev St := List Nat × Bool
def nxt (s : St) : Option (Nat × Nat) := if s.2 then none else num s.1
def rUint (s : St) : St × Nat := match nxt s with | some (x, n) => ((s.1.drop n, false), x) | none => ((s.1, true), 0)
def RS (w : World) (g : Nat) (s : St) : Prop := (∃ v, RAt w g v s.1 s.2) ∧ Byt s.1 ∧ s.1.length ≤ 1099511627776
theorem RS.later {w w' : World} {g : Nat} {s : St} (h : RS w g s) (hb : Below w.heap.size w w') : RS w' g s := ⟨h.1.imp fun v hv => hv.later hb, h.2⟩
theorem RS.lt {w : World} {g : Nat} {s : St} (h : RS w g s) : g < w.heap.size := by obtain ⟨⟨v, hv⟩, -⟩ := h; exact hv.cells.2.2.2
theorem byt_drop {l : List Nat} (h : Byt l) (n : Nat) : Byt (l.drop n) := fun b hb => h b (List.mem_of_mem_drop hb)
theorem nxt_le {s : St} (hb : Byt s.1) {x n : Nat} (h : nxt s = some (x, n)) : s.2 = false ∧ n ≤ s.1.length ∧ x < 18446744073709551616 := by
 unfold nxt at h
 cases hs : s.2 with
 | true => rw [hs] at h; cases h
 | false =>
  rw [hs, if_neg (by simp)] at h
  obtain ⟨h1, -, -, h4, -⟩ := num_some hb h
  exact ⟨rfl, h4, h1⟩
theorem rUint_byt {s : St} (hb : Byt s.1) (hl : s.1.length ≤ 1099511627776) : Byt (rUint s).1.1 ∧ (rUint s).1.1.length ≤ 1099511627776 := by
 unfold rUint
 split
 ·exact ⟨byt_drop hb _, by simp only [List.length_drop]; omega⟩
 ·exact ⟨hb, hl⟩
set_option maxRecDepth 100000 in
set_option maxHeartbeats 1000000 in
theorem uint_any (g : Nat) (s : St) (w : World) (h : RS w g s) :
  Calls Tryz.prog 87 #[.pointer (some ⟨g, 0, none⟩)] w fun r w' => r = .returned (.int .u64 (rUint s).2) ∧ RS w' g (rUint s).1 ∧ OnlyAt w w' g none := by
 obtain ⟨⟨v, hr⟩, hb, hl⟩ := h
 obtain ⟨c0, c1, c2, c3⟩ := hr.cells
 have HP := Lib.hid (peek_any g v s.1 s.2 hb w hr)
 have HR := Lib.hid hr
 have HBY := Lib.hid (rUint_byt hb hl)
 unfold Peeked at HP
 have hx : (if s.2 = true then none else num s.1) = nxt s := rfl
 rw [hx] at HP
 clear c2 hx hr
 cases hn : nxt s with
 | none =>
  have HU : Hid (rUint s = ((s.1, true), 0)) := Lib.hid (by unfold rUint; rw [hn])
  rw [hn] at HP
  have HF := Lib.hid fun W (hW : RAt W g v s.1 s.2) => fail_any g v s.1 s.2 W hW
  rw [HU.out] at HBY ⊢
  clear hn hb hl
  go_enter Tryz.func87, Tryz.ntmps87
  go_wp2_with fail
  refine HP.out.mono ?_
  rintro e w1 ⟨rfl, hb1⟩
  have HB1 := Lib.hid hb1; clear hb1
  go_wp2_with fail
  refine (HF.out _ (HR.out.later HB1.out)).mono ?_
  rintro e w2 ⟨rfl, hr2, ho2⟩
  have HR2 := Lib.hid hr2; have HO2 := Lib.hid ho2; clear hr2 ho2
  go_wp2_with fail
  go_ret
  exact ⟨rfl, ⟨⟨v, HR2.out⟩, HBY.out⟩, (OnlyAt.of_below HB1.out).trans HO2.out⟩
 | some p =>
  obtain ⟨x, n⟩ := p
  obtain ⟨hs2, hnl, hx⟩ := nxt_le hb hn
  have HU : Hid (rUint s = ((s.1.drop n, false), x)) := Lib.hid (by unfold rUint; rw [hn])
  rw [hn] at HP
  have HC := Lib.hid fun W (hW : RAt W g v s.1 false) => cut_ok g v s.1 n hnl W hW
  unfold Cut at HC
  rw [hs2] at HR
  rw [HU.out] at HBY ⊢
  clear hn hb hl hs2
  go_enter Tryz.func87, Tryz.ntmps87
  go_wp2_with fail
  refine HP.out.mono ?_
  rintro e w1 ⟨rfl, hb1⟩
  have HB1 := Lib.hid hb1; clear hb1
  go_wp2_with fail
  refine (HC.out _ (HR.out.later HB1.out)).mono ?_
  rintro e w2 ⟨v', x', rfl, hx', hf', hr2, ho2⟩
  have HR2 := Lib.hid hr2; have HO2 := Lib.hid ho2; clear hr2 ho2 hx' hf'
  go_wp2_with fail
  go_ret
  exact ⟨rfl, ⟨⟨v', HR2.out⟩, HBY.out⟩, (OnlyAt.of_below HB1.out).trans HO2.out⟩

end Rd
end Go.Proofs.YtfmnacebgplpcaaGreat
namespace Go.Proofs.YtfmnacebgplpcaaGreat
namespace Rd
open _root_.Go.Proofs.YtfmnacebgplpcaaGreat.Nm (ret_int ret_bool)
open Cm (OnlyAt)

end Rd
end Go.Proofs.YtfmnacebgplpcaaGreat
namespace Go.Proofs.YtfmnacebgplpcaaGreat
namespace Vf
open _root_.Go.Proofs.YtfmnacebgplpcaaGreat.Nm (bitsW bits_any ret_int ret_bool)
open Bt (BOwn BIn ubytes sb uint_any btext_any bown_nil wpList_append_bytes bv)
open Pf (zz zz_lt be8 sform)
open Vt (VT Rep BoxAt below_drew KidsAt HeadOk)

theorem xor_ones (b : Nat) (hb : b < 18446744073709551616) : 18446744073709551615 ^^^ b = 18446744073709551615 - b := by
 have h1 : (BitVec.allOnes 64 ^^^ BitVec.ofNat 64 b).toNat = 18446744073709551615 ^^^ b := by
  rw [BitVec.toNat_xor, BitVec.toNat_ofNat, Nat.mod_eq_of_lt (by omega)]; rfl
 have h2 : BitVec.allOnes 64 ^^^ BitVec.ofNat 64 b = ~~~(BitVec.ofNat 64 b) := BitVec.allOnes_xor
 rw [h2, BitVec.toNat_not, BitVec.toNat_ofNat, Nat.mod_eq_of_lt (by omega)] at h1
 omega
theorem zz_eq (n : Int) (h0 : -9223372036854775808 ≤ n) (h1 : n ≤ 9223372036854775807) : bits BinOp.xor IntKind.u64 (IntKind.u64.wrap (wrap64 (n * 2))) (IntKind.u64.wrap (n / 9223372036854775808)) = ((zz n : Nat) : Int) := by
 rw [IntKind.wrap_u64, IntKind.wrap_u64]
 by_cases hn : 0 ≤ n
 ·have e1 : wrap64 (n * 2) % 18446744073709551616 = ((2 * n).toNat : Int) := by unfold wrap64; omega
  have e2 : n / 9223372036854775808 % 18446744073709551616 = ((0 : Nat) : Int) := by omega
  rw [e1, e2, bits_xor_u64_nat _ _ (by omega) (by omega), Nat.xor_zero, zz, if_pos hn]
 ·have e1 : wrap64 (n * 2) % 18446744073709551616 = ((2 * n + 18446744073709551616).toNat : Int) := by unfold wrap64; omega
  have e2 : n / 9223372036854775808 % 18446744073709551616 = ((18446744073709551615 : Nat) : Int) := by omega
  rw [e1, e2, bits_xor_u64_nat _ _ (by omega) (by omega), Nat.xor_comm, xor_ones _ (by omega), zz, if_neg hn]
  omega

set_option maxRecDepth 100000 in
theorem bint_any (n : Int) (h0 : -9223372036854775808 ≤ n) (h1 : n ≤ 9223372036854775807) (w : World) :
  Calls Tryz.prog 230 #[.int .i64 n] w fun e w' => ∃ v, e = .returned v ∧ BOwn w' w.heap.size v (ubytes 10 (zz n)) ∧ Below w.heap.size w w' := by
 have HU := Lib.hid (uint_any (zz n) (zz_lt h0 h1) w)
 have HZ := Lib.hid (zz_eq n h0 h1)
 go_enter Tryz.func230, Tryz.ntmps230
 go_wp2_with fail
 rw [HZ.out]
 refine HU.out.mono ?_
 rintro x w1 ⟨v, rfl, ho, hb⟩
 have HO := Lib.hid ho; have HB := Lib.hid hb
 clear ho hb
 go_wp2_with fail
 go_ret
 exact ⟨v, rfl, HO.out, HB.out⟩

def KB (w : World) (l : List Nat) (r : Ending) (w' : World) : Prop := ∃ v, r = .returned v ∧ BOwn w' w.heap.size v l ∧ Below w.heap.size w w'

theorem M82 {p : Prop} (h : p := by
 go_upto_region 1 with fail
 rw [← hW0.out]
 go_wp2_with fail
 refine HI.out.mono ?_
 rintro x w1 ⟨v, rfl, ho, hb⟩
 have HO := Lib.hid (ho.base HB0.out.size); have HB := Lib.hid (HB0.out.trans (hb.mono HB0.out.size))
 clear ho hb
 go_wp2_with fail
 go_ret
 exact ⟨v, rfl, HO.out, HB.out⟩) : p := h
set_option maxRecDepth 100000 in
theorem int_bytes (x : Value) (hx : x = .agg #[]) (k n : Int) (h0 : -9223372036854775808 ≤ n) (h1 : n ≤ 9223372036854775807) (f : Nat) (s : ByteArray) (A : Option Addr) (m c : Nat) (w : World) :
  Calls Tryz.prog 227 #[x, .agg #[.int .i64 k, .int .i64 n, .float .f64 f, .string s, .slice A m c]] w (KB w (ubytes 10 (zz n))) := by
 subst hx
 obtain ⟨W0, hW0⟩ : ∃ W0, W0 = (w.alloc (.cells #[] 230)).alloc (.cells #[.int .i64 k, .int .i64 n, .float .f64 f, .string s, .slice A m c] 69) := ⟨_, rfl⟩
 have HB0 : Hid (Below w.heap.size w W0) := Lib.hid (by rw [hW0]; exact ((Below.refl _ _).alloc (Nat.le_refl _) _).alloc (by simp) _)
 have hx0 : BoxAt W0 (w.heap.size + 1) k n f s A m c := by
  rw [hW0]
  have e := heap_alloc_new (w.alloc (.cells #[] 230)) (.cells #[.int .i64 k, .int .i64 n, .float .f64 f, .string s, .slice A m c] 69)
  rw [World.size_alloc] at e
  exact e
 obtain ⟨c0, c1, c2, c3, c4⟩ := hx0.cells
 have HI := Lib.hid (bint_any n h0 h1 W0)
 replace hW0 := Lib.hid hW0
 go_enter Tryz.func227, Tryz.ntmps227
 exact M82

set_option maxRecDepth 100000 in
theorem text_bytes (x : Value) (hx : x = .agg #[]) (k n : Int) (f : Nat) (s : ByteArray) (hs : s.size ≤ 100000) (A : Option Addr) (m c : Nat) (w : World) :
  Calls Tryz.prog 234 #[x, .agg #[.int .i64 k, .int .i64 n, .float .f64 f, .string s, .slice A m c]] w (KB w (sform s)) := by
 subst hx
 obtain ⟨W0, hW0⟩ : ∃ W0, W0 = (w.alloc (.cells #[] 232)).alloc (.cells #[.int .i64 k, .int .i64 n, .float .f64 f, .string s, .slice A m c] 69) := ⟨_, rfl⟩
 have HB0 : Hid (Below w.heap.size w W0) := Lib.hid (by rw [hW0]; exact ((Below.refl _ _).alloc (Nat.le_refl _) _).alloc (by simp) _)
 have hx0 : BoxAt W0 (w.heap.size + 1) k n f s A m c := by
  rw [hW0]
  have e := heap_alloc_new (w.alloc (.cells #[] 232)) (.cells #[.int .i64 k, .int .i64 n, .float .f64 f, .string s, .slice A m c] 69)
  rw [World.size_alloc] at e
  exact e
 obtain ⟨c0, c1, c2, c3, c4⟩ := hx0.cells
 have HI := Lib.hid (btext_any s hs W0)
 replace hW0 := Lib.hid hW0
 go_enter Tryz.func234, Tryz.ntmps234
 exact M82

theorem be8_take (v j : Nat) : ((be8 v).take j).length ≤ 8 := by
 rw [List.length_take]; exact Nat.min_le_right j 8
theorem one_byte (w : World) (x : Int) (b : Nat) (hx : x = (b : Int)) : BIn (w.alloc (.cells #[.int .u8 x] 5)) (.slice (some ⟨w.heap.size, 0, none⟩) 1 1) [b] := by
 subst hx
 refine .inr ⟨⟨w.heap.size, 0, none⟩, 1, rfl, by simp, by simp only [maxLen]; omega, by simp, fun j u hu => ?_⟩
 have hj : j = 0 := by have := (List.getElem?_eq_some_iff.1 hu).1; simp at this; omega
 subst hj
 simp [bv] at hu
 subst hu
 have e := heap_alloc_new w (.cells #[.int .u8 (b : Int)] 5)
 rw [Go.WideShapes.add_plain]
 simp only [World.cell?, e]
 rfl

set_option maxRecDepth 100000 in
set_option maxHeartbeats 2000000 in
theorem float_bytes (x : Value) (hx : x = .agg #[]) (k n : Int) (f : Nat) (hf : f < 18446744073709551616) (s : ByteArray) (A : Option Addr) (m c : Nat) (w : World) :
  Calls Tryz.prog 231 #[x, .agg #[.int .i64 k, .int .i64 n, .float .f64 f, .string s, .slice A m c]] w (KB w (be8 (bitsW f))) := by
 subst hx
 obtain ⟨W0, hW0⟩ : ∃ W0, W0 = (w.alloc (.cells #[] 231)).alloc (.cells #[.int .i64 k, .int .i64 n, .float .f64 f, .string s, .slice A m c] 69) := ⟨_, rfl⟩
 have HB0 : Hid (Below w.heap.size w W0) := Lib.hid (by rw [hW0]; exact ((Below.refl _ _).alloc (Nat.le_refl _) _).alloc (by simp) _)
 have hz0 : w.heap.size + 1 < W0.heap.size := by rw [hW0]; simp
 have hx0 : BoxAt W0 (w.heap.size + 1) k n f s A m c := by
  rw [hW0]
  have e := heap_alloc_new (w.alloc (.cells #[] 231)) (.cells #[.int .i64 k, .int .i64 n, .float .f64 f, .string s, .slice A m c] 69)
  rw [World.size_alloc] at e
  exact e
 have HX0 := Lib.hid hx0
 obtain ⟨v, hv⟩ : ∃ v, v = bitsW f := ⟨_, rfl⟩
 have hvl : v < 18446744073709551616 := by rw [hv]; exact Pf.bits_lt hf
 have HBI : Hid (∀ W, Calls Tryz.prog 154 #[.float .f64 f] W fun e w' => e = .returned (.int .u64 v) ∧ W = w') := Lib.hid fun W => by rw [hv]; exact bits_any f W
 rw [← hv]
 clear hv hx0
 replace hW0 := Lib.hid hW0
 have HVL := Lib.hid hvl; clear hvl
 go_enter Tryz.func231, Tryz.ntmps231
 go_upto_region 1 with fail
 rw [← hW0.out]
 go_wp2_with fail
 go_loopw [5, 6] (fun out i wr => ∃ (j : Nat) (sh : Int), j ≤ 8 ∧ sh = 56 - 8 * (j : Int) ∧ i = .int .i64 sh ∧ BOwn wr W0.heap.size out ((be8 v).take j) ∧ Below W0.heap.size W0 wr) (fun _ i _ => (intOf i + 8).toNat)
 case atStart => exact ⟨0, 56, by omega, by omega, rfl, bown_nil _ _, Below.refl _ _⟩
 case round =>
  obtain ⟨j, sh, hj, hsh, rfl, hown, hb⟩ := hrel
  obtain ⟨-, -, c2, -, -⟩ := (HX0.out.later hb hz0).cells
  have HO := Lib.hid hown; have HB := Lib.hid hb
  clear hown hb
  rcases (by omega : j = 0 ∨ j = 1 ∨ j = 2 ∨ j = 3 ∨ j = 4 ∨ j = 5 ∨ j = 6 ∨ j = 7 ∨ j = 8) with rfl | rfl | rfl | rfl | rfl | rfl | rfl | rfl | rfl
  ·obtain rfl : sh = 56 := by omega
   clear hsh
   go_wp2_with fail
   refine (HBI.out _).mono ?_
   rintro x w1 ⟨rfl, rfl⟩
   have HN := Lib.hid (one_byte wr (IntKind.u8.wrap (v / 72057594037927936 : Int)) (v / 72057594037927936 % 256) (by rw [IntKind.wrap_u8]; omega))
   go_wp2_with (at_builtin; refine wpList_append_bytes _ rfl _ _ rfl W0.heap.size _ _ ((be8 v).take 0) [v / 72057594037927936 % 256] rfl rfl (HO.out.later ((Below.refl _ _).alloc (Nat.le_refl _) _)) HN.out (Nat.le_trans (Nat.add_le_add (be8_take v _) (Nat.le_refl 1)) (by decide)) (by simp; exact Nat.le_succ_of_le HB.out.size) ?_; intro v2 w2 hown2 hg2 hb2; have HO2 := Lib.hid hown2; have HB2 := Lib.hid ((HB.out.alloc HB.out.size _).trans hb2); clear hown2 hb2)
   exact ⟨⟨1, 48, by omega, by omega, by go_num, HO2.out, HB2.out⟩, by simp [intOf]⟩
  ·obtain rfl : sh = 48 := by omega
   clear hsh
   go_wp2_with fail
   refine (HBI.out _).mono ?_
   rintro x w1 ⟨rfl, rfl⟩
   have HN := Lib.hid (one_byte wr (IntKind.u8.wrap (v / 281474976710656 : Int)) (v / 281474976710656 % 256) (by rw [IntKind.wrap_u8]; omega))
   go_wp2_with (at_builtin; refine wpList_append_bytes _ rfl _ _ rfl W0.heap.size _ _ ((be8 v).take 1) [v / 281474976710656 % 256] rfl rfl (HO.out.later ((Below.refl _ _).alloc (Nat.le_refl _) _)) HN.out (Nat.le_trans (Nat.add_le_add (be8_take v _) (Nat.le_refl 1)) (by decide)) (by simp; exact Nat.le_succ_of_le HB.out.size) ?_; intro v2 w2 hown2 hg2 hb2; have HO2 := Lib.hid hown2; have HB2 := Lib.hid ((HB.out.alloc HB.out.size _).trans hb2); clear hown2 hb2)
   exact ⟨⟨2, 40, by omega, by omega, by go_num, HO2.out, HB2.out⟩, by simp [intOf]⟩
  ·obtain rfl : sh = 40 := by omega
   clear hsh
   go_wp2_with fail
   refine (HBI.out _).mono ?_
   rintro x w1 ⟨rfl, rfl⟩
   have HN := Lib.hid (one_byte wr (IntKind.u8.wrap (v / 1099511627776 : Int)) (v / 1099511627776 % 256) (by rw [IntKind.wrap_u8]; omega))
   go_wp2_with (at_builtin; refine wpList_append_bytes _ rfl _ _ rfl W0.heap.size _ _ ((be8 v).take 2) [v / 1099511627776 % 256] rfl rfl (HO.out.later ((Below.refl _ _).alloc (Nat.le_refl _) _)) HN.out (Nat.le_trans (Nat.add_le_add (be8_take v _) (Nat.le_refl 1)) (by decide)) (by simp; exact Nat.le_succ_of_le HB.out.size) ?_; intro v2 w2 hown2 hg2 hb2; have HO2 := Lib.hid hown2; have HB2 := Lib.hid ((HB.out.alloc HB.out.size _).trans hb2); clear hown2 hb2)
   exact ⟨⟨3, 32, by omega, by omega, by go_num, HO2.out, HB2.out⟩, by simp [intOf]⟩
  ·obtain rfl : sh = 32 := by omega
   clear hsh
   go_wp2_with fail
   refine (HBI.out _).mono ?_
   rintro x w1 ⟨rfl, rfl⟩
   have HN := Lib.hid (one_byte wr (IntKind.u8.wrap (v / 4294967296 : Int)) (v / 4294967296 % 256) (by rw [IntKind.wrap_u8]; omega))
   go_wp2_with (at_builtin; refine wpList_append_bytes _ rfl _ _ rfl W0.heap.size _ _ ((be8 v).take 3) [v / 4294967296 % 256] rfl rfl (HO.out.later ((Below.refl _ _).alloc (Nat.le_refl _) _)) HN.out (Nat.le_trans (Nat.add_le_add (be8_take v _) (Nat.le_refl 1)) (by decide)) (by simp; exact Nat.le_succ_of_le HB.out.size) ?_; intro v2 w2 hown2 hg2 hb2; have HO2 := Lib.hid hown2; have HB2 := Lib.hid ((HB.out.alloc HB.out.size _).trans hb2); clear hown2 hb2)
   exact ⟨⟨4, 24, by omega, by omega, by go_num, HO2.out, HB2.out⟩, by simp [intOf]⟩
  ·obtain rfl : sh = 24 := by omega
   clear hsh
   go_wp2_with fail
   refine (HBI.out _).mono ?_
   rintro x w1 ⟨rfl, rfl⟩
   have HN := Lib.hid (one_byte wr (IntKind.u8.wrap (v / 16777216 : Int)) (v / 16777216 % 256) (by rw [IntKind.wrap_u8]; omega))
   go_wp2_with (at_builtin; refine wpList_append_bytes _ rfl _ _ rfl W0.heap.size _ _ ((be8 v).take 4) [v / 16777216 % 256] rfl rfl (HO.out.later ((Below.refl _ _).alloc (Nat.le_refl _) _)) HN.out (Nat.le_trans (Nat.add_le_add (be8_take v _) (Nat.le_refl 1)) (by decide)) (by simp; exact Nat.le_succ_of_le HB.out.size) ?_; intro v2 w2 hown2 hg2 hb2; have HO2 := Lib.hid hown2; have HB2 := Lib.hid ((HB.out.alloc HB.out.size _).trans hb2); clear hown2 hb2)
   exact ⟨⟨5, 16, by omega, by omega, by go_num, HO2.out, HB2.out⟩, by simp [intOf]⟩
  ·obtain rfl : sh = 16 := by omega
   clear hsh
   go_wp2_with fail
   refine (HBI.out _).mono ?_
   rintro x w1 ⟨rfl, rfl⟩
   have HN := Lib.hid (one_byte wr (IntKind.u8.wrap (v / 65536 : Int)) (v / 65536 % 256) (by rw [IntKind.wrap_u8]; omega))
   go_wp2_with (at_builtin; refine wpList_append_bytes _ rfl _ _ rfl W0.heap.size _ _ ((be8 v).take 5) [v / 65536 % 256] rfl rfl (HO.out.later ((Below.refl _ _).alloc (Nat.le_refl _) _)) HN.out (Nat.le_trans (Nat.add_le_add (be8_take v _) (Nat.le_refl 1)) (by decide)) (by simp; exact Nat.le_succ_of_le HB.out.size) ?_; intro v2 w2 hown2 hg2 hb2; have HO2 := Lib.hid hown2; have HB2 := Lib.hid ((HB.out.alloc HB.out.size _).trans hb2); clear hown2 hb2)
   exact ⟨⟨6, 8, by omega, by omega, by go_num, HO2.out, HB2.out⟩, by simp [intOf]⟩
  ·obtain rfl : sh = 8 := by omega
   clear hsh
   go_wp2_with fail
   refine (HBI.out _).mono ?_
   rintro x w1 ⟨rfl, rfl⟩
   have HN := Lib.hid (one_byte wr (IntKind.u8.wrap (v / 256 : Int)) (v / 256 % 256) (by rw [IntKind.wrap_u8]; omega))
   go_wp2_with (at_builtin; refine wpList_append_bytes _ rfl _ _ rfl W0.heap.size _ _ ((be8 v).take 6) [v / 256 % 256] rfl rfl (HO.out.later ((Below.refl _ _).alloc (Nat.le_refl _) _)) HN.out (Nat.le_trans (Nat.add_le_add (be8_take v _) (Nat.le_refl 1)) (by decide)) (by simp; exact Nat.le_succ_of_le HB.out.size) ?_; intro v2 w2 hown2 hg2 hb2; have HO2 := Lib.hid hown2; have HB2 := Lib.hid ((HB.out.alloc HB.out.size _).trans hb2); clear hown2 hb2)
   exact ⟨⟨7, 0, by omega, by omega, by go_num, HO2.out, HB2.out⟩, by simp [intOf]⟩
  ·obtain rfl : sh = 0 := by omega
   clear hsh
   go_wp2_with fail
   refine (HBI.out _).mono ?_
   rintro x w1 ⟨rfl, rfl⟩
   have HN := Lib.hid (one_byte wr (IntKind.u8.wrap (v : Int)) (v % 256) (by rw [IntKind.wrap_u8]; omega))
   go_wp2_with (at_builtin; refine wpList_append_bytes _ rfl _ _ rfl W0.heap.size _ _ ((be8 v).take 7) [v % 256] rfl rfl (HO.out.later ((Below.refl _ _).alloc (Nat.le_refl _) _)) HN.out (Nat.le_trans (Nat.add_le_add (be8_take v _) (Nat.le_refl 1)) (by decide)) (by simp; exact Nat.le_succ_of_le HB.out.size) ?_; intro v2 w2 hown2 hg2 hb2; have HO2 := Lib.hid hown2; have HB2 := Lib.hid ((HB.out.alloc HB.out.size _).trans hb2); clear hown2 hb2)
   exact ⟨⟨8, -8, by omega, by omega, by go_num, HO2.out, HB2.out⟩, by simp [intOf]⟩
  ·obtain rfl : sh = -8 := by omega
   clear hsh
   go_wp2_with fail
   go_ret
   exact ⟨_, rfl, HO.out.base HB0.out.size, HB0.out.trans (HB.out.mono HB0.out.size)⟩
end Vf
end Go.Proofs.YtfmnacebgplpcaaGreat
namespace Go.Proofs.YtfmnacebgplpcaaGreat
namespace Vf
open _root_.Go.Proofs.YtfmnacebgplpcaaGreat.Nm (bitsW bits_any ret_int ret_bool)
open Bt (BOwn BIn ubytes sb uint_any btext_any bown_nil wpList_append_bytes step_append_bytes bv)
open Pf (zz zz_lt be8 sform)
open Vt (VT Rep BoxAt below_drew KidsAt HeadOk kindV of_any)
open Ev (take_drop tk ap rd1 rd2 cons_drop)

def KI (w : World) (l : List Nat) (r : Ending) (w' : World) : Prop := ∃ v, r = .returned v ∧ BIn w' v l ∧ Below w.heap.size w w'
theorem KB.ki {w : World} {l : List Nat} {r : Ending} {w' : World} (h : KB w l r w') : KI w l r w' := by
 obtain ⟨v, h1, h2, h3⟩ := h
 exact ⟨v, h1, h2.read, h3⟩

set_option maxRecDepth 100000 in
set_option maxHeartbeats 1000000 in
theorem form_walk (k : Nat) (hk : k ≤ 4) (T M : Nat) (lk : List Nat) (hlk : lk.length ≤ 1000000) (vn : Int) (vf : Nat) (vs : ByteArray) (A : Option Addr) (m c : Nat) (w : World)
  (hO : ∀ W, Calls Tryz.prog 153 #[.int .i64 (k : Nat)] W fun e w' => e = .returned (.iface T (.agg #[])) ∧ W = w')
  (hM : ∀ n w, (method (n + 1) T (.agg #[]) "clockwork/value.bytes").run Tryz.prog w = .ok (M, .agg #[]) w)
  (hcall : ∀ args w, (callFunc M args).run Tryz.prog w = .ok (.enter M args) w)
  (hB : ∀ W, Below w.heap.size w W → Calls Tryz.prog M #[.agg #[], .agg #[.int .i64 (k : Nat), .int .i64 vn, .float .f64 vf, .string vs, .slice A m c]] W (KI W lk)) :
  Calls Tryz.prog 144 #[.agg #[.int .i64 (k : Nat), .int .i64 vn, .float .f64 vf, .string vs, .slice A m c]] w (KB w (ubytes 10 k ++ lk)) := by
 obtain ⟨W0, hW0⟩ : ∃ W0, W0 = w.alloc (.cells #[.int .i64 (k : Nat), .int .i64 vn, .float .f64 vf, .string vs, .slice A m c] 69) := ⟨_, rfl⟩
 have hB0 : Below w.heap.size w W0 := by rw [hW0]; exact (Below.refl _ _).alloc (Nat.le_refl _) _
 have hbx : BoxAt W0 w.heap.size k vn vf vs A m c := by rw [hW0]; exact BoxAt.new ..
 have hz : w.heap.size < W0.heap.size := by rw [hW0]; simp
 have HBX : Hid (∀ W, Below W0.heap.size W0 W → BoxAt W w.heap.size k vn vf vs A m c) := Lib.hid fun W hW => hbx.later hW hz
 have HU : Hid (∀ W, Calls Tryz.prog 64 #[.int .u64 (k : Nat)] W fun e w' => ∃ v, e = .returned v ∧ BOwn w' W.heap.size v (ubytes 10 k) ∧ Below W.heap.size W w') := Lib.hid fun W => uint_any k (by omega) W
 have HWR : Hid (IntKind.u64.wrap (k : Int) = (k : Int)) := Lib.hid (IntWalk.u64_in _ (by omega))
 have HO := Lib.hid hO
 have HNB : Hid (∀ W, Below W0.heap.size W0 W → Calls Tryz.prog M #[.agg #[], .agg #[.int .i64 (k : Nat), .int .i64 vn, .float .f64 vf, .string vs, .slice A m c]] W (KI W lk)) := Lib.hid fun W hW => hB W (hB0.trans (hW.mono hB0.size))
 have HB0 := Lib.hid hB0
 have HLK := Lib.hid hlk
 obtain ⟨c0, c1, c2, c3, c4⟩ := hbx.cells
 clear hB0 hbx hO hB hlk
 replace hW0 := Lib.hid hW0
 go_enter Tryz.func144, Tryz.ntmps144
 go_upto_region 1 with fail
 rw [← hW0.out]
 have HS : Hid (∀ W', Below W0.heap.size W0 W' → (W'.cell? ⟨w.heap.size, 0, none⟩ = some (.int .i64 (k : Nat)) ∧ W'.cell? ⟨w.heap.size, 1, none⟩ = some (.int .i64 vn) ∧ W'.cell? ⟨w.heap.size, 2, none⟩ = some (.float .f64 vf) ∧ W'.cell? ⟨w.heap.size, 3, none⟩ = some (.string vs) ∧ W'.cell? ⟨w.heap.size, 4, none⟩ = some (.slice A m c))) := Lib.hid fun W hW => (HBX.out W hW).cells
 clear c0 c1 c2 c3 c4
 refine wp_region_noPanic ?_
 refine wp_region_held_drew (S := (fun W' : World => W'.cell? ⟨w.heap.size, 0, none⟩ = some (.int .i64 (k : Nat)) ∧ W'.cell? ⟨w.heap.size, 1, none⟩ = some (.int .i64 vn) ∧ W'.cell? ⟨w.heap.size, 2, none⟩ = some (.float .f64 vf) ∧ W'.cell? ⟨w.heap.size, 3, none⟩ = some (.string vs) ∧ W'.cell? ⟨w.heap.size, 4, none⟩ = some (.slice A m c))) (by kernel_rfl) ?_ (fun hHeld => ?_)
 ·exact HS.out _ (below_drew (Below.refl _ _))
 refine tk 0 rfl ?_
 try simp only [ap]
 refine tk 1 rfl ?_
 try simp only [ap]
 refine tk 2 rfl ?_
 try simp only [ap]
 refine tk 4 rfl ?_
 try simp only [ap]
 refine tk 5 rfl ?_
 try simp only [ap]
 refine tk 7 rfl ?_
 try simp only [ap]
 refine rd1 3 rfl fun K hK => ?_
 go_simp
 rw [HWR.out]
 refine (HU.out _).mono ?_
 rintro e w1 ⟨v1, rfl, ho1, hb1⟩
 have h1B : Hid (Below W0.heap.size W0 w1) := Lib.hid ((below_drew (Below.refl _ _)).trans hb1)
 have HO1 := Lib.hid (ho1.base (Nat.le_refl _ : W0.heap.size ≤ W0.drew.heap.size))
 clear ho1 hb1
 go_wp2_with fail
 refine hK.out _ _ (HS.out _ h1B.out) (fun hHeld2 => ?_)
 clear hK K
 try simp only [ap]
 refine rd1 6 rfl fun K hK => ?_
 go_simp
 refine (HO.out _).mono ?_
 rintro e w2 ⟨rfl, rfl⟩
 go_wp2_with fail
 refine hK.out _ _ (HS.out _ h1B.out) (fun hHeld2 => ?_)
 clear hK K
 try simp only [ap]
 refine rd1 8 rfl fun K hK => ?_
 go_simp
 refine (HNB.out _ h1B.out).mono ?_
 rintro e w3 ⟨v3, rfl, hin3, hb3⟩
 have h3B : Hid (Below W0.heap.size W0 w3) := Lib.hid (h1B.out.trans (hb3.mono h1B.out.size))
 have HO3 := Lib.hid (HO1.out.later hb3)
 have HI3 := Lib.hid hin3
 clear hb3 hin3
 go_wp2_with fail
 refine hK.out _ _ (HS.out _ h3B.out) (fun hHeld2 => ?_)
 clear hK K
 try simp only [ap]
 refine rd1 9 rfl fun K hK => ?_
 refine step_append_bytes _ rfl (.tmp 6) (.tmp 11) rfl W0.heap.size v1 v3 (ubytes 10 k) lk (by simp [Act.eval]) (by simp [Act.eval]) HO3.out HI3.out (by have := HLK.out; have := Bt.ubytes_len 10 k; omega) h3B.out.size ?_
 intro v4 w4 hown4 hg4 hb4
 have h4B := Lib.hid (h3B.out.trans hb4)
 refine hK.out _ _ (HS.out _ h4B.out) (fun hHeld2 => ?_)
 clear hK K
 try simp only [ap]
 refine tk 10 rfl ?_
 try simp only [ap]
 refine wpAnyH_done (by kernel_rfl) ?_ _
 refine NoPanic.normal ?_
 go_wp2_with fail
 go_ret
 exact ⟨v4, rfl, hown4.base HB0.out.size, HB0.out.trans (h4B.out.mono HB0.out.size)⟩

theorem m_none (n : Nat) (w : World) : (method (n + 1) 234 (.agg #[]) "clockwork/value.bytes").run Tryz.prog w = .ok (240, .agg #[]) w := by kernel_rfl
theorem m_int (n : Nat) (w : World) : (method (n + 1) 230 (.agg #[]) "clockwork/value.bytes").run Tryz.prog w = .ok (227, .agg #[]) w := by kernel_rfl
theorem m_float (n : Nat) (w : World) : (method (n + 1) 231 (.agg #[]) "clockwork/value.bytes").run Tryz.prog w = .ok (231, .agg #[]) w := by kernel_rfl
theorem m_text (n : Nat) (w : World) : (method (n + 1) 232 (.agg #[]) "clockwork/value.bytes").run Tryz.prog w = .ok (234, .agg #[]) w := by kernel_rfl
theorem m_list (n : Nat) (w : World) : (method (n + 1) 233 (.agg #[]) "clockwork/value.bytes").run Tryz.prog w = .ok (237, .agg #[]) w := by kernel_rfl
theorem e_none (args : Array Value) (w : World) : (callFunc 240 args).run Tryz.prog w = .ok (.enter 240 args) w := by kernel_rfl
theorem e_int (args : Array Value) (w : World) : (callFunc 227 args).run Tryz.prog w = .ok (.enter 227 args) w := by kernel_rfl
theorem e_float (args : Array Value) (w : World) : (callFunc 231 args).run Tryz.prog w = .ok (.enter 231 args) w := by kernel_rfl
theorem e_text (args : Array Value) (w : World) : (callFunc 234 args).run Tryz.prog w = .ok (.enter 234 args) w := by kernel_rfl
theorem e_list (args : Array Value) (w : World) : (callFunc 237 args).run Tryz.prog w = .ok (.enter 237 args) w := by kernel_rfl

theorem none_bytes (k n : Int) (f : Nat) (s : ByteArray) (A : Option Addr) (m c : Nat) (w : World) :
  Calls Tryz.prog 240 #[.agg #[], .agg #[.int .i64 k, .int .i64 n, .float .f64 f, .string s, .slice A m c]] w (KI w []) := by
 go_enter Tryz.func240, Tryz.ntmps240
 go_wp2_with fail
 go_ret
 exact ⟨_, rfl, .inl ⟨rfl, rfl⟩, ((Below.refl _ _).alloc (Nat.le_refl _) _).alloc (by simp) _⟩

theorem forms_take (l : List VT) (j : Nat) (h : j < l.length) : ((l.take (j + 1)).map Pf.VT.form).flatten = ((l.take j).map Pf.VT.form).flatten ++ Pf.VT.form l[j] := by
 rw [List.take_succ_eq_append_getElem h, List.map_append, List.flatten_append]; simp
theorem forms_le (l : List VT) (j : Nat) : ((l.take j).map Pf.VT.form).flatten.length ≤ (l.map Pf.VT.form).flatten.length := by
 have : ((l.take j ++ l.drop j).map Pf.VT.form).flatten.length = (l.map Pf.VT.form).flatten.length := by rw [List.take_append_drop]
 rw [List.map_append, List.flatten_append, List.length_append] at this
 omega

set_option maxRecDepth 100000 in
set_option maxHeartbeats 1000000 in
theorem list_bytes (k n : Int) (f : Nat) (s : ByteArray) (l : List VT) (A : Option Addr) (cap : Nat) (hl : l.length ≤ cap) (hcap : cap ≤ maxLen) (w : World) (lo hi : Nat) (hk : KidsAt w lo hi l A) (hz : hi ≤ w.heap.size) (hlen : (l.map Pf.VT.form).flatten.length ≤ 500000)
  (ih : ∀ i (h : i < l.length) (W : World) (lo hi : Nat) (v : Value), Rep W lo hi l[i] v → hi ≤ W.heap.size → Calls Tryz.prog 144 #[v] W (KB W (Pf.VT.form l[i]))) :
  Calls Tryz.prog 237 #[.agg #[], .agg #[.int .i64 k, .int .i64 n, .float .f64 f, .string s, .slice A l.length cap]] w (KB w (ubytes 10 l.length ++ (l.map Pf.VT.form).flatten)) := by
 simp only [maxLen] at hcap
 obtain ⟨W0, hW0⟩ : ∃ W0, W0 = (w.alloc (.cells #[] 233)).alloc (.cells #[.int .i64 k, .int .i64 n, .float .f64 f, .string s, .slice A l.length cap] 69) := ⟨_, rfl⟩
 have HB0 : Hid (Below w.heap.size w W0) := Lib.hid (by rw [hW0]; exact ((Below.refl _ _).alloc (Nat.le_refl _) _).alloc (by simp) _)
 have hz0 : w.heap.size + 1 < W0.heap.size := by rw [hW0]; simp
 have hx0 : BoxAt W0 (w.heap.size + 1) k n f s A l.length cap := by
  rw [hW0]
  have e := heap_alloc_new (w.alloc (.cells #[] 233)) (.cells #[.int .i64 k, .int .i64 n, .float .f64 f, .string s, .slice A l.length cap] 69)
  rw [World.size_alloc] at e
  exact e
 have HX0 := Lib.hid hx0
 obtain ⟨c0, c1, c2, c3, c4⟩ := hx0.cells
 have HK := Lib.hid (hk.later (HB0.out.mono hz))
 have IH := Lib.hid ih
 have HU := Lib.hid (uint_any l.length (by omega) W0)
 have HWR : Hid (IntKind.u64.wrap (l.length : Int) = (l.length : Int)) := Lib.hid (IntWalk.u64_in _ (by omega))
 have HLEN := Lib.hid hlen
 have hhi : hi ≤ W0.heap.size := Nat.le_trans hz HB0.out.size
 replace hW0 := Lib.hid hW0
 clear hx0 hk ih hlen
 go_enter Tryz.func237, Tryz.ntmps237
 go_upto_region 1 with fail
 rw [← hW0.out]
 go_wp2_with fail
 refine HU.out.mono ?_
 rintro x w1 ⟨v1, rfl, ho1, hb1⟩
 have HO1 := Lib.hid ho1; have HB1 := Lib.hid hb1
 obtain ⟨d0, d1, d2, d3, d4⟩ := (HX0.out.later hb1 hz0).cells
 clear ho1 hb1 c0 c1 c2 c3 c4
 go_wp2_with fail
 clear d0 d1 d2 d3 d4
 go_loopw [5, 16] (fun out i wr => ∃ (j : Nat), j ≤ l.length ∧ i = .int .i64 j ∧ BOwn wr W0.heap.size out (ubytes 10 l.length ++ ((l.take j).map Pf.VT.form).flatten) ∧ Below W0.heap.size W0 wr) (fun _ i _ => l.length - (intOf i).toNat)
 case atStart => exact ⟨0, by omega, rfl, by simpa using HO1.out, HB1.out⟩
 case round =>
  obtain ⟨j, hj, rfl, hown, hb⟩ := hrel
  have HO := Lib.hid hown; have HB := Lib.hid hb
  clear hown hb
  by_cases hlt : j < l.length
  ·obtain ⟨b, off, rfl, hb1, hb2, h3⟩ := (HK.out.later (HB.out.mono hhi)).at_ (by omega)
   obtain ⟨k', n', f', s', L', A', cap', e, g0, g1, g2, g3, g4, hrj⟩ := h3 j hlt
   obtain ⟨W1, hW1⟩ : ∃ W1, W1 = wr.alloc (.cells #[.int .i64 k', .int .i64 n', .float .f64 f', .string s', .slice A' L'.length cap'] 69) := ⟨_, rfl⟩
   have hba : Below wr.heap.size wr W1 := by rw [hW1]; exact (Below.refl _ _).alloc (Nat.le_refl _) _
   have hx1 : BoxAt W1 wr.heap.size k' n' f' s' A' L'.length cap' := by rw [hW1]; exact BoxAt.new ..
   have hhr : hi ≤ wr.heap.size := Nat.le_trans hhi HB.out.size
   have HF := Lib.hid (IH.out j hlt W1 lo hi _ (hrj.later (hba.mono hhr)) (Nat.le_trans hhr hba.size))
   have HOA := Lib.hid (HO.out.later hba)
   have HBA := Lib.hid (HB.out.trans (hba.mono HB.out.size))
   obtain ⟨c0, c1, c2, c3, c4⟩ := hx1.cells
   have HFT := Lib.hid (forms_take l j hlt)
   have HLE : Hid ((ubytes 10 l.length ++ ((l.take j).map Pf.VT.form).flatten).length + (Pf.VT.form l[j]).length ≤ 35184372088832) := Lib.hid (by
    have h1 := forms_le l (j + 1)
    rw [forms_take l j hlt, List.length_append] at h1
    have h2 := HLEN.out
    have h4 := Bt.ubytes_len 10 l.length
    rw [List.length_append]
    omega)
   replace hW1 := Lib.hid hW1
   clear h3 hrj e hba hx1
   obtain ⟨acc, hacc⟩ : ∃ a, a = ubytes 10 l.length ++ ((l.take j).map Pf.VT.form).flatten := ⟨_, rfl⟩
   rw [← hacc] at HOA HLE
   have HACC := Lib.hid hacc
   obtain ⟨fj, hfj⟩ : ∃ a, a = Pf.VT.form l[j] := ⟨_, rfl⟩
   rw [← hfj] at HF HLE
   have HFJ := Lib.hid hfj
   clear hacc hfj HO
   go_upto_region 5 with fail
   rw [← hW1.out]
   clear g0 g1 g2 g3 g4
   go_wp2_with fail
   refine HF.out.mono ?_
   rintro x w2 ⟨v2, rfl, ho2, hb2⟩
   have HOB := Lib.hid (HOA.out.later hb2)
   have HI2 := Lib.hid ho2.read
   have HBB := Lib.hid (HBA.out.trans (hb2.mono HBA.out.size))
   clear ho2 hb2 c0 c1 c2 c3 c4
   go_wp2_with (at_builtin; refine wpList_append_bytes _ rfl _ _ rfl W0.heap.size _ _ acc fj rfl rfl HOB.out HI2.out HLE.out HBB.out.size ?_; intro v3 w3 hown3 hg3 hb3; have HO3 := Lib.hid hown3; have HB3 := Lib.hid (HBB.out.trans hb3); clear hown3 hb3)
   exact ⟨⟨j + 1, by omega, by go_num, by rw [HFT.out, ← List.append_assoc, ← HACC.out, ← HFJ.out]; exact HO3.out, HB3.out⟩, by simp [intOf]; omega⟩
  ·have hj' : j = l.length := by omega
   subst hj'
   go_wp2_with fail
   go_ret
   have h := HO.out
   rw [List.take_length] at h
   exact ⟨_, rfl, h.base HB0.out.size, HB0.out.trans (HB.out.mono HB0.out.size)⟩

theorem flat_sum (l : List VT) : (l.map Pf.VT.form).flatten.length = (l.map (fun t => (Pf.VT.form t).length)).sum := by
 rw [List.length_flatten, List.map_map]; rfl
theorem weightL_sum (l : List VT) : ∀ (n m : Int) (C : Int), 0 ≤ C → Vt.weightL l n m ≤ m → (∀ (i : Nat) (hi : i < l.length) (m' : Int), m' ≤ m → l[i].weight m' ≤ m' → ((Pf.VT.form l[i]).length : Int) ≤ C * l[i].weight m') → 0 ≤ n → C * n + ((l.map (fun t => (Pf.VT.form t).length)).sum : Int) ≤ C * Vt.weightL l n m := by
 induction l with
 | nil => intro n m C hC h hk hn; rw [Vt.weightL_nil]; simp
 | cons t l ih =>
  intro n m C hC h hk hn
  rw [Vt.weightL_cons] at h ⊢
  by_cases hnm : n ≤ m
  ·rw [if_pos hnm] at h ⊢
   have hw := Vt.weight_ge t (m - n)
   have hge := Vt.weightL_ge' l (n + t.weight (m - n)) m
   have h1 := hk 0 (by simp) (m - n) (by omega) (by simp only [List.getElem_cons_zero]; omega)
   simp only [List.getElem_cons_zero] at h1
   have h2 := ih (n + t.weight (m - n)) m C hC h (fun i hi m' hm' hw' => hk (i + 1) (by simpa using hi) m' hm' hw') (by omega)
   simp only [List.map_cons, List.sum_cons]
   rw [Int.mul_add] at h2
   push_cast
   omega
  ·rw [if_neg hnm] at h
   omega
theorem form_len_of_weight (t : VT) : ∀ m : Int, m ≤ 900 → t.weight m ≤ m → ((Pf.VT.form t).length : Int) ≤ 24 * t.weight m := by
 induction t using VT.ind with
 | _ k n f s l ih =>
  intro m hm h
  rw [Vt.weight_mk] at h ⊢
  have hge := Vt.weightL_ge' l (1 + min (s.size : Int) 1000) m
  have hs := weightL_sum l (1 + min (s.size : Int) 1000) m 24 (by omega) h (fun i hi m' hm' hw' => ih i hi m' (by omega) hw') (by omega)
  rw [Pf.form_mk, List.length_append]
  have h1 := Bt.ubytes_len 10 k.toNat
  have h2 := Bt.ubytes_len 10 (zz n)
  have h3 := Bt.ubytes_len 10 s.size
  have h4 := Bt.ubytes_len 10 l.length
  have h5 := Bt.sb_len s
  have h6 := flat_sum l
  have hss : (s.size : Int) ≤ 900 := by omega
  have e : ((if k = 1 then ubytes 10 (zz n) else if k = 2 then be8 (bitsW f) else if k = 3 then sform s else if k = 4 then ubytes 10 l.length ++ (l.map Pf.VT.form).flatten else []).length : Int) ≤ 11 + s.size + (l.map (fun t => (Pf.VT.form t).length)).sum := by
   have hnn : (0 : Int) ≤ ((l.map (fun t => (Pf.VT.form t).length)).sum : Int) := Int.natCast_nonneg _
   split
   ·omega
   ·split
    ·simp [be8]; omega
    ·split
     ·unfold sform; rw [List.length_append]; omega
     ·split
      ·rw [List.length_append, h6]; push_cast; omega
      ·simp; omega
  push_cast
  omega
theorem form_len_few {t : VT} (h : t.few = true) : (Pf.VT.form t).length ≤ 21600 := by
 unfold VT.few at h
 rw [Bool.and_eq_true, decide_eq_true_iff] at h
 have := form_len_of_weight t 900 (by omega) h.1
 omega

theorem form_any (t : VT) : ∀ (d : Nat) (w : World) (lo hi : Nat) (v : Value), t.valid d = true → (Pf.VT.form t).length ≤ 100000 → t.Slim 900 → Rep w lo hi t v → hi ≤ w.heap.size → Calls Tryz.prog 144 #[v] w (KB w (Pf.VT.form t)) := by
 induction t using VT.ind with
 | _ k n f s l ih =>
  intro d w lo hi v hv hlen hS hR hz
  obtain ⟨A, cap, rfl, ho, hl, hk⟩ := hR.head
  obtain ⟨hs9, hl9, hkS⟩ := Vt.slim_mk.1 hS
  rw [Pf.form_mk] at hlen ⊢
  have hu := Bt.ubytes_len 10 k.toNat
  rw [List.length_append] at hlen
  rcases Pf.valid_cases hv with ⟨rfl, -⟩ | ⟨rfl, -⟩ | ⟨rfl, -⟩ | ⟨rfl, -⟩ | ⟨rfl, -, -, -, hkv⟩
  ·exact form_walk 0 (by omega) 234 240 [] (by simp) n f s A l.length cap w (fun W => of_any 0 W) m_none e_none (fun W hW => none_bytes _ _ _ _ _ _ _ W)
  ·exact form_walk 1 (by omega) 230 227 (ubytes 10 (zz n)) (by have := Bt.ubytes_len 10 (zz n); omega) n f s A l.length cap w (fun W => of_any 1 W) m_int e_int (fun W hW => (int_bytes _ rfl _ n ho.n0 ho.n1 f s A _ _ W).mono fun _ _ h => h.ki)
  ·exact form_walk 2 (by omega) 231 231 (be8 (bitsW f)) (by simp [be8]) n f s A l.length cap w (fun W => of_any 2 W) m_float e_float (fun W hW => (float_bytes _ rfl _ n f ho.f1 s A _ _ W).mono fun _ _ h => h.ki)
  ·exact form_walk 3 (by omega) 232 234 (sform s) (by have := Bt.ubytes_len 10 s.size; have := Bt.sb_len s; unfold sform; rw [List.length_append]; omega) n f s A l.length cap w (fun W => of_any 3 W) m_text e_text (fun W hW => (text_bytes _ rfl _ n f s (by omega) A _ _ W).mono fun _ _ h => h.ki)
  ·rw [if_neg (by omega), if_neg (by omega), if_neg (by omega), if_pos rfl] at hlen ⊢
   rw [List.length_append] at hlen
   have hfl : ∀ i (h : i < l.length), (Pf.VT.form l[i]).length ≤ 100000 := fun i hi => by
    have h1 := forms_le l (i + 1)
    rw [forms_take l i hi, List.length_append] at h1
    omega
   refine form_walk 4 (by omega) 233 237 _ (by rw [List.length_append]; omega) n f s A l.length cap w (fun W => of_any 4 W) m_list e_list (fun W hW => ?_)
   exact (list_bytes _ n f s l A cap hl ho.m1 W lo hi (hk.later (hW.mono hz)) (Nat.le_trans hz hW.size) (by omega) (fun i hi W lo hi' v h1 h2 => ih i hi (d - 1) W lo hi' v (hkv _ (List.getElem_mem hi)) (hfl i hi) (hkS i hi) h1 h2)).mono fun _ _ h => h.ki

set_option maxRecDepth 100000 in
set_option maxHeartbeats 400000 in
theorem vbytes_any (t : VT) (hfew : t.few = true) (lo hi : Nat) (vk vn : Int) (vf : Nat) (vs : ByteArray) (A : Option Addr) (m c : Nat) (w : World) (hv : Rep w lo hi t (.agg #[.int .i64 vk, .int .i64 vn, .float .f64 vf, .string vs, .slice A m c])) (hz : hi ≤ w.heap.size) (hval : t.valid 8 = true) :
  Calls Tryz.prog 101 #[.agg #[.int .i64 vk, .int .i64 vn, .float .f64 vf, .string vs, .slice A m c]] w fun e w' => ∃ v, e = .returned (.tuple #[v, .bool true]) ∧ BOwn w' w.heap.size v (Pf.VT.form t) ∧ Below w.heap.size w w' := by
 obtain ⟨W0, hW0⟩ : ∃ W0, W0 = w.alloc (.cells #[.int .i64 vk, .int .i64 vn, .float .f64 vf, .string vs, .slice A m c] 69) := ⟨_, rfl⟩
 have hB0 : Below w.heap.size w W0 := by rw [hW0]; exact (Below.refl _ _).alloc (Nat.le_refl _) _
 have hbx : BoxAt W0 w.heap.size vk vn vf vs A m c := by rw [hW0]; exact BoxAt.new ..
 have hz0 : w.heap.size < W0.heap.size := by rw [hW0]; simp
 have HBX : Hid (∀ W, Below W0.heap.size W0 W → BoxAt W w.heap.size vk vn vf vs A m c) := Lib.hid fun W hW => hbx.later hW hz0
 have HV := Lib.hid (Vt.valid_any t W0 lo hi _ (hv.later (hB0.mono hz)) (Nat.le_trans hz hB0.size))
 rw [hval] at HV
 have HF := Lib.hid fun W (hW : Below W0.heap.size W0 W) => form_any t 8 W lo hi _ hval (by have := form_len_few hfew; omega) (Vt.slim_of_few t hfew) ((hv.later (hB0.mono hz)).later (hW.mono (Nat.le_trans hz hB0.size))) (Nat.le_trans hz (Nat.le_trans hB0.size hW.size))
 have HB0 := Lib.hid hB0
 obtain ⟨c0, c1, c2, c3, c4⟩ := hbx.cells
 clear hB0 hbx hv
 replace hW0 := Lib.hid hW0
 go_enter Tryz.func101, Tryz.ntmps101
 go_upto_region 1 with fail
 rw [← hW0.out]
 go_wp2_with fail
 refine HV.out.mono ?_
 rintro e w1 ⟨rfl, hb1⟩
 obtain ⟨d0, d1, d2, d3, d4⟩ := (HBX.out w1 hb1).cells
 have HB1 := Lib.hid hb1
 clear hb1 c0 c1 c2 c3 c4
 go_wp2_with fail
 refine (HF.out _ HB1.out).mono ?_
 rintro e w2 ⟨v, rfl, hown, hb2⟩
 have HO2 := Lib.hid hown
 have HB2 := Lib.hid hb2
 clear hown hb2
 go_wp2_with fail
 have hz1 := Nat.le_trans HB0.out.size HB1.out.size
 exact bodyPost_ret (v := .tuple #[v, .bool true]) (by simp [results, Tryz.results101, go_sem]) rfl ⟨v, rfl, HO2.out.base hz1, HB0.out.trans ((HB1.out.trans (HB2.out.mono HB1.out.size)).mono HB0.out.size)⟩
end Vf
end Go.Proofs.YtfmnacebgplpcaaGreat
namespace Go.Proofs.YtfmnacebgplpcaaGreat
namespace Vf
open _root_.Go.Proofs.YtfmnacebgplpcaaGreat.Nm (bitsW ret_int ret_bool)
open Bt (BOwn BIn ubytes sb uint_any sel ebytes_walk)
open Pf (zz zz_lt be8 sform size_zero)
open Vt (VT Rep BoxAt below_drew KidsAt HeadOk)
open Ev (EV FieldsOk evCells vCells EBox ERep zeroT fieldsOf nameOf of_in evalid_any goodL pickB)
open Cm (evSame)

def hasF (e : EV) (j : Nat) : Bool := (fieldsOf e.k.toNat).contains j
def eform (e : EV) : List Nat := [1] ++ ubytes 10 e.k.toNat ++ sel [hasF e 0, hasF e 1, hasF e 2, hasF e 3, hasF e 4, hasF e 5] [ubytes 10 e.id, ubytes 10 e.n.toNat, ubytes 10 e.at', sform e.name, sform e.text, Pf.VT.form e.v] 6

structure VE (e : EV) : Prop where
 k1 : 1 ≤ e.k
 k2 : e.k ≤ 11
 i0 : hasF e 0 = false → e.id = 0
 i1 : hasF e 0 = true → 0 < e.id
 n0 : hasF e 1 = false → e.n = 0
 n1 : 0 ≤ e.n
 n2 : e.n ≤ 2147483647
 n3 : hasF e 1 = true → 1 ≤ e.n
 a0 : hasF e 2 = false → e.at' = 0
 a1 : e.at' ≤ 9223372036854775807
 s0 : hasF e 3 = false → e.name = ⟨#[]⟩
 s1 : e.name.size ≤ 1000
 s2 : hasF e 3 = true → e.name.toList.isEmpty = false
 t0 : hasF e 4 = false → e.text = ⟨#[]⟩
 t1 : e.text.size ≤ 1000
 v0 : hasF e 5 = false → e.v.same zeroT = true
 v1 : e.v.valid 8 = true

theorem toList_nil {s : ByteArray} (h : s.toList.isEmpty = true) : s = ⟨#[]⟩ := by
 rw [Vt.toList_data] at h
 cases s with | mk d => simp at h; rw [h]
theorem zero_val : zeroT.valid 8 = true := by unfold zeroT; rw [Vt.valid_mk]; simp; decide
theorem ve_of {e : EV} (h : e.valid = true) : VE e := by
 unfold EV.valid goodL at h
 simp only [Bool.and_eq_true, decide_eq_true_iff, List.all_cons, List.all_nil, Bool.and_true] at h
 obtain ⟨⟨k1, k2⟩, h0, h1, h2, h3, h4, h5⟩ := h
 have pick : ∀ {b f z : Bool}, pickB b f z = true → (b = true → f = true) ∧ (b = false → z = true) := fun {b f z} hh => by
  unfold pickB at hh
  cases b with
  | true => rw [if_pos rfl] at hh; exact ⟨fun _ => hh, fun h => Bool.noConfusion h⟩
  | false => rw [if_neg (by simp)] at hh; exact ⟨fun h => Bool.noConfusion h, fun _ => hh⟩
 obtain ⟨p0, q0⟩ := pick h0
 obtain ⟨p1, q1⟩ := pick h1
 obtain ⟨p2, q2⟩ := pick h2
 obtain ⟨p3, q3⟩ := pick h3
 obtain ⟨p4, q4⟩ := pick h4
 obtain ⟨p5, q5⟩ := pick h5
 have e1 : ∀ b : Bool, b = true ∨ b = false := fun b => by cases b <;> simp
 have fn : ∀ h : hasF e 1 = false, e.n = 0 := fun h => by have := q1 h; simpa using this
 have tn : ∀ h : hasF e 1 = true, 1 ≤ e.n ∧ e.n ≤ 2147483647 := fun h => by have := p1 h; simpa using this
 have fs : ∀ h : hasF e 3 = false, e.name = ⟨#[]⟩ := fun h => toList_nil (q3 h)
 have ts : ∀ h : hasF e 3 = true, e.name.toList.isEmpty = false ∧ e.name.size ≤ 1000 := fun h => by
  have := p3 h
  simp only [Bool.and_eq_true, Bool.not_eq_true', decide_eq_true_iff] at this
  exact this
 have ft : ∀ h : hasF e 4 = false, e.text = ⟨#[]⟩ := fun h => toList_nil (q4 h)
 refine ⟨k1, k2, fun h => by have := q0 h; simpa using this, fun h => by have := p0 h; simpa using this, fn, ?_, ?_, fun h => (tn h).1, fun h => by have := q2 h; simpa using this, ?_, fs, ?_, fun h => (ts h).1, ft, ?_, fun h => q5 h, ?_⟩
 ·rcases e1 (hasF e 1) with h | h
  ·have := tn h; omega
  ·rw [fn h]; omega
 ·rcases e1 (hasF e 1) with h | h
  ·exact (tn h).2
  ·rw [fn h]; omega
 ·rcases e1 (hasF e 2) with h | h
  ·have := p2 h; simpa using this
  ·have : e.at' = 0 := by have := q2 h; simpa using this
   omega
 ·rcases e1 (hasF e 3) with h | h
  ·exact (ts h).2
  ·rw [fs h]; decide
 ·rcases e1 (hasF e 4) with h | h
  ·have := p4 h; simpa using this
  ·rw [ft h]; decide
 ·rcases e1 (hasF e 5) with h | h
  ·exact p5 h
  ·rw [Vt.same_valid e.v zeroT 8 (q5 h)]; exact zero_val

theorem ebytes_any (e : EV) (hval : e.valid = true) (hf : FieldsOk e) (hfew : e.v.few = true) (lo hi : Nat) (vk vn : Int) (vf : Nat) (vs : ByteArray) (A : Option Addr) (m c : Nat) (w : World) (hv : Rep w lo hi e.v (vCells vk vn vf vs A m c)) (hz : hi ≤ w.heap.size) :
  Calls Tryz.prog 61 #[.agg (evCells e vk vn vf vs A m c)] w fun r w' => ∃ v, r = .returned (.tuple #[v, .bool true]) ∧ BOwn w' w.heap.size v (eform e) ∧ Below w.heap.size w w' := by
 have V := ve_of hval
 have hev := fun W (hW : Below w.heap.size w W) => evalid_any e W lo hi _ ⟨hf, vk, vn, vf, vs, A, m, c, rfl, hv.later (hW.mono hz)⟩ (Nat.le_trans hz hW.size)
 obtain ⟨kn, hkn⟩ : ∃ kn : Nat, e.k = kn := ⟨e.k.toNat, by have := V.k1; omega⟩
 obtain ⟨nn, hnn⟩ : ∃ nn : Nat, e.n = nn := ⟨e.n.toNat, by have := V.n1; omega⟩
 have k1 := V.k1; have k2 := V.k2; have n2 := V.n2
 have hkt : e.k.toNat = kn := by omega
 have hnt : e.n.toNat = nn := by omega
 unfold eform hasF
 rw [hkt, hnt]
 unfold evCells at hev ⊢
 rw [hkn, hnn] at hev ⊢
 exact ebytes_walk kn e.id nn e.at' e.name e.text (by omega) hf.i1 (by omega) hf.a1 V.s1 V.t1 vk vn vf vs A m c (nameOf kn) ((fieldsOf kn).contains 0) ((fieldsOf kn).contains 1) ((fieldsOf kn).contains 2) ((fieldsOf kn).contains 3) ((fieldsOf kn).contains 4) ((fieldsOf kn).contains 5) (Pf.VT.form e.v) (by have := form_len_few hfew; omega) w
  (fun W hW => (hev W hW).mono fun r w' h => by rw [hval] at h; exact h)
  (fun W => of_in kn (by omega) (by omega) W)
  (fun W hW => vbytes_any e.v hfew lo hi vk vn vf vs A m c W (hv.later (hW.mono hz)) (Nat.le_trans hz hW.size) V.v1)

theorem sel6 (b0 b1 b2 b3 b4 b5 : Bool) (p0 p1 p2 p3 p4 p5 : List Nat) : sel [b0, b1, b2, b3, b4, b5] [p0, p1, p2, p3, p4, p5] 6 = (if b0 then p0 else []) ++ ((if b1 then p1 else []) ++ ((if b2 then p2 else []) ++ ((if b3 then p3 else []) ++ ((if b4 then p4 else []) ++ (if b5 then p5 else []))))) := by simp [sel]
end Vf
end Go.Proofs.YtfmnacebgplpcaaGreat
namespace Go.Proofs.YtfmnacebgplpcaaGreat
namespace Rd
open _root_.Go.Proofs.YtfmnacebgplpcaaGreat.Nm (bitsW ofW okW)
open Bt (ubytes sb)
open Vt (VT)
open Ev (EV fieldsOf)

def rep {α : Type} (p : St → Option (St × α)) : Nat → St → Option (St × List α)
 | 0, s => some (s, [])
 | n + 1, s => match p s with
  | none => none
  | some (s1, t) => match rep p n s1 with
   | none => none
   | some (s2, ts) => some (s2, t :: ts)
end Rd
end Go.Proofs.YtfmnacebgplpcaaGreat
namespace Go.Proofs.YtfmnacebgplpcaaGreat
namespace Rd
open _root_.Go.Proofs.YtfmnacebgplpcaaGreat.Nm (bitsW ofW okW)
open Bt (ubytes sb sb_len)
open Vt (VT)
open Pf (sform zz be8 form_mk fine_mk)

theorem bits0 : bitsW 0 = 0 := by decide
end Rd
end Go.Proofs.YtfmnacebgplpcaaGreat
namespace Go.Proofs.YtfmnacebgplpcaaGreat
namespace Rd
open _root_.Go.Proofs.YtfmnacebgplpcaaGreat.Nm (bitsW ret_int ret_bool)
open Vt (VT Rep)
open Ev (EV FieldsOk evCells vCells ERep zeroT fieldsOf goodL pickB)
open Cm (has_field)

theorem rv1 (b : Bool) (id : Nat) : (!(b != ((id : Int) != 0))) = pickB b (decide (0 < id)) ((id : Int) == 0) := by
 by_cases h : id = 0
 ·subst h; cases b <;> rfl
 ·have h1 : ((id : Int) == 0) = false := beq_eq_false_iff_ne.2 (by omega)
  have h2 : ((id : Int) != 0) = true := by simp [bne, h1]
  rw [h1, h2, decide_eq_true (by omega)]
  cases b <;> rfl
theorem rv2 (b : Bool) (n : Int) : (!((b && (decide (n < 1) || decide (2147483647 < n))) || (!b && (n != 0)))) = pickB b (decide (1 ≤ n ∧ n ≤ 2147483647)) (n == 0) := by
 cases b with
 | true =>
  unfold pickB
  rw [if_pos rfl]
  by_cases h1 : n < 1
  ·rw [decide_eq_true h1, decide_eq_false (by omega : ¬ (1 ≤ n ∧ n ≤ 2147483647))]; rfl
  ·by_cases h2 : 2147483647 < n
   ·rw [decide_eq_false h1, decide_eq_true h2, decide_eq_false (by omega : ¬ (1 ≤ n ∧ n ≤ 2147483647))]; rfl
   ·rw [decide_eq_false h1, decide_eq_false h2, decide_eq_true (by omega : (1 ≤ n ∧ n ≤ 2147483647))]; rfl
 | false =>
  unfold pickB
  rw [if_neg (by simp)]
  simp [bne]
theorem rv3 (b : Bool) (a : Nat) : (!(decide ((9223372036854775807 : Int) < (a : Int)) || (!b && ((a : Int) != 0)))) = pickB b (decide (a ≤ 9223372036854775807)) ((a : Int) == 0) := by
 by_cases h : (9223372036854775807 : Int) < (a : Int)
 ·rw [decide_eq_true h, decide_eq_false (by omega : ¬ a ≤ 9223372036854775807), beq_eq_false_iff_ne.2 (by omega : (a : Int) ≠ 0)]
  cases b <;> rfl
 ·rw [decide_eq_false h, decide_eq_true (by omega : a ≤ 9223372036854775807)]
  cases b <;> simp [pickB, bne]
theorem size_empty {s : ByteArray} (h : s.toList.isEmpty = true) : s.size = 0 := by rw [Vf.toList_nil h]; rfl
theorem rv4 (b c : Bool) (s t : ByteArray) : (!((b != !s.toList.isEmpty) || decide ((1000 : Int) < (s.size : Int)) || decide ((1000 : Int) < (t.size : Int)) || (!c && !t.toList.isEmpty))) = (pickB b (!s.toList.isEmpty && decide (s.size ≤ 1000)) s.toList.isEmpty && pickB c (decide (t.size ≤ 1000)) t.toList.isEmpty) := by
 have e1 : ∀ x : ByteArray, decide ((1000 : Int) < (x.size : Int)) = !decide (x.size ≤ 1000) := fun x => by
  by_cases h : x.size ≤ 1000
  ·rw [decide_eq_true h, decide_eq_false (by omega)]; rfl
  ·rw [decide_eq_false h, decide_eq_true (by omega)]; rfl
 rw [e1, e1]
 have hs : s.toList.isEmpty = true → decide (s.size ≤ 1000) = true := fun h => decide_eq_true (by rw [size_empty h]; omega)
 have ht : t.toList.isEmpty = true → decide (t.size ≤ 1000) = true := fun h => decide_eq_true (by rw [size_empty h]; omega)
 revert hs ht
 generalize s.toList.isEmpty = E
 generalize t.toList.isEmpty = T
 generalize decide (s.size ≤ 1000) = x
 generalize decide (t.size ≤ 1000) = y
 unfold pickB
 revert b c E T x y
 decide
theorem rv5 (b : Bool) (v : VT) : (v.valid 8 && (b || (v.k == 0))) = pickB b (v.valid 8) (v.same zeroT) := by
 cases b with
 | true => unfold pickB; simp
 | false =>
  unfold pickB
  rw [if_neg (by simp), Bool.false_or, Bool.eq_iff_iff, Bool.and_eq_true, beq_iff_eq]
  obtain ⟨k, n, f, s, l⟩ := v
  constructor
  ·rintro ⟨h, rfl⟩
   rcases Pf.valid_cases h with ⟨-, rfl, h3, h4, rfl⟩ | ⟨h0, -⟩ | ⟨h0, -⟩ | ⟨h0, -⟩ | ⟨h0, -⟩
   ·obtain rfl := Pf.size_zero h4
    exact Pf.same_mk_of (by rw [h3, bits0]) rfl fun i hi => absurd hi (by simp)
   all_goals exact absurd h0 (by decide)
  ·intro h
   refine ⟨by rw [Vt.same_valid _ _ 8 h]; exact Vf.zero_val, ?_⟩
   exact ((Vt.same_iff ..).1 h).1
theorem rvalid_ev2 (e : EV) (h1 : 1 ≤ e.k) (h2 : e.k ≤ 11) (lo hi : Nat) (vk vn : Int) (vf : Nat) (vs : ByteArray) (A : Option Addr) (m c : Nat) (w : World) (hv : Rep w lo hi e.v (vCells vk vn vf vs A m c)) (hz : hi ≤ w.heap.size) :
  Calls Tryz.prog 65 #[.agg (evCells e vk vn vf vs A m c)] w fun r w' => r = .returned (.bool e.valid) ∧ Below w.heap.size w w' := by
 obtain ⟨k, id, n, at', name, text, v⟩ := e
 simp only at h1 h2 hv
 obtain ⟨k', rfl⟩ : ∃ k' : Nat, k = k' := ⟨k.toNat, by omega⟩
 have hvk : vk = v.k := by
  obtain ⟨kk, nn, ff, ss, ll⟩ := v
  obtain ⟨A', cap, heq, -⟩ := hv.head
  unfold vCells at heq
  injection heq with heq
  simp at heq
  exact heq.1
 have hf : ∀ cc q, (cc, q) ∈ [(105, 0), (110, 1), (97, 2), (115, 3), (116, 4), (118, 5)] → Hid (∀ W, Calls Tryz.prog 104 #[.int .i64 (k' : Nat), .int .u8 (cc : Nat)] W fun r w' => r = .returned (.bool ((fieldsOf k').contains q)) ∧ Below W.heap.size W w') := fun cc q hq => Lib.hid fun W => has_field k' (by omega) (by omega) cc q hq W
 have := rvalid_gen k' id n at' name text v lo hi vk vn vf vs A m c w hv hz (by omega) (by omega) ((fieldsOf k').contains 0) ((fieldsOf k').contains 1) ((fieldsOf k').contains 2) ((fieldsOf k').contains 3) ((fieldsOf k').contains 4) ((fieldsOf k').contains 5)
  _ _ _ _ _ _ _ _ _ _ _ rfl rfl rfl rfl rfl rfl rfl rfl rfl rfl rfl _ _ _ _ rfl rfl rfl rfl (hf 105 0 (by simp)) (hf 110 1 (by simp)) (hf 97 2 (by simp)) (hf 115 3 (by simp)) (hf 116 4 (by simp)) (hf 118 5 (by simp))
 refine this.mono fun r w' h => ⟨?_, h.2⟩
 rw [h.1]
 congr 2
 unfold EV.valid goodL
 simp only [Int.toNat_natCast, List.all_cons, List.all_nil, Bool.and_true]
 rw [decide_eq_true (show (1 : Int) ≤ (k' : Int) ∧ (k' : Int) ≤ 11 from ⟨h1, h2⟩), Bool.true_and, rv1, rv2, rv3, rv4, hvk, rv5]
 simp only [Bool.and_assoc]
end Rd
end Go.Proofs.YtfmnacebgplpcaaGreat
namespace Go.Proofs.YtfmnacebgplpcaaGreat
namespace Rd
open _root_.Go.Proofs.YtfmnacebgplpcaaGreat.Nm (bitsW ret_int ret_bool)
open Vt (VT Rep BoxAt below_drew)
open Ev (EV FieldsOk evCells vCells EBox ERep zeroT take_drop tk ap rd1 rd2 cons_drop)
open Cm (rowOf EvsIn)
open Cn (BB bvalid wrongE)

namespace Q203
theorem Y202 {p : Prop} (h : p := by
 refine tk 15 rfl ?_
 try simp only [ap]
 refine tk 16 rfl ?_
 try simp only [ap]
 refine wpAnyH_done (by kernel_rfl) ?_ _
 refine NoPanic.normal ?_
 go_wp2_with fail
 go_ret
 exact ⟨rfl, below_drew HB0.out⟩) : p := h
end Q203
theorem M36 {p : Prop} (h : p := by
 clear hk
 refine wp_region_noPanic ?_
 refine wp_region_held_drew (S := (fun W' : World => W'.cell? ⟨w.heap.size, 0, none⟩ = some (.int .i64 k))) (by kernel_rfl) ?_ (fun hHeld => ?_)
 ·exact HS.out _ (below_drew (Below.refl _ _))
 open Q203 in exact M202) : p := h
set_option maxRecDepth 100000 in
theorem rvalid_out (k : Int) (hk : k < 1 ∨ 11 < k) (id : Nat) (n : Int) (at' : Nat) (name text : ByteArray) (vk vn : Int) (vf : Nat) (vs : ByteArray) (A : Option Addr) (m c : Nat) (w : World) :
  Calls Tryz.prog 65 #[.agg #[.int .i64 k, .int .u64 (id : Nat), .int .i64 n, .int .u64 (at' : Nat), .string name, .string text, .int .i64 vk, .int .i64 vn, .float .f64 vf, .string vs, .slice A m c]] w fun r w' => r = .returned (.bool false) ∧ Below w.heap.size w w' := by
 obtain ⟨W0, hW0⟩ : ∃ W0, W0 = w.alloc (.cells #[.int .i64 k, .int .u64 (id : Nat), .int .i64 n, .int .u64 (at' : Nat), .string name, .string text, .int .i64 vk, .int .i64 vn, .float .f64 vf, .string vs, .slice A m c] 71) := ⟨_, rfl⟩
 have HB0 : Hid (Below w.heap.size w W0) := Lib.hid (by rw [hW0]; exact (Below.refl _ _).alloc (Nat.le_refl _) _)
 have hbx : EBox W0 w.heap.size #[.int .i64 k, .int .u64 (id : Nat), .int .i64 n, .int .u64 (at' : Nat), .string name, .string text, .int .i64 vk, .int .i64 vn, .float .f64 vf, .string vs, .slice A m c] := by rw [hW0]; exact heap_alloc_new w _
 have HS : Hid (∀ W' : World, Below W0.heap.size W0 W' → W'.cell? ⟨w.heap.size, 0, none⟩ = some (.int .i64 k)) := Lib.hid fun W hW => by
  obtain ⟨c0, -⟩ := EBox.cells (hbx.later hW (by rw [hW0]; simp))
  exact c0
 clear hbx
 replace hW0 := Lib.hid hW0
 go_enter Tryz.func65, Tryz.ntmps65
 go_upto_region 1 with fail
 rw [← hW0.out]
 by_cases h1 : k < 1
 ·have g1 : decide (k < 1) = true := decide_eq_true h1
  exact M36
 ·have g1 : decide (k < 1) = false := decide_eq_false h1
  have g2 : decide (11 < k) = true := decide_eq_true (by omega)
  exact M36

theorem valid_out (e : EV) (h : ¬ (1 ≤ e.k ∧ e.k ≤ 11)) : e.valid = false := by unfold EV.valid; rw [decide_eq_false h]; rfl
theorem rvalid_all (e : EV) (lo hi : Nat) (vk vn : Int) (vf : Nat) (vs : ByteArray) (A : Option Addr) (m c : Nat) (w : World) (hv : Rep w lo hi e.v (vCells vk vn vf vs A m c)) (hz : hi ≤ w.heap.size) :
  Calls Tryz.prog 65 #[.agg (evCells e vk vn vf vs A m c)] w fun r w' => r = .returned (.bool e.valid) ∧ Below w.heap.size w w' := by
 by_cases hk : 1 ≤ e.k ∧ e.k ≤ 11
 ·exact rvalid_ev2 e hk.1 hk.2 lo hi vk vn vf vs A m c w hv hz
 ·rw [valid_out e hk]
  exact rvalid_out e.k (by omega) e.id e.n e.at' e.name e.text vk vn vf vs A m c w

theorem any_take (es : List EV) (j : Nat) (h : j < es.length) : (es.take (j + 1)).any wrongE = ((es.take j).any wrongE || wrongE es[j]) := by
 rw [List.take_succ_eq_append_getElem h, List.any_append]; simp
theorem any_at (es : List EV) (j : Nat) (h : j < es.length) (hw : wrongE es[j] = true) : es.any wrongE = true := List.any_eq_true.2 ⟨_, List.getElem_mem h, hw⟩

set_option maxRecDepth 100000 in
set_option maxHeartbeats 2000000 in
theorem r13valid_any (es : List EV) (f : ByteArray) (hfs : f.size ≤ maxLen) (at' : Nat) (hat : at' < 18446744073709551616) (A : Option Addr) (cap : Nat) (w : World) (h : EvsIn w A cap es) :
  Calls Tryz.prog 32 #[.agg #[.string f, .int .u64 at', .slice A es.length cap]] w fun r w' => r = .returned (.bool (bvalid f at' es)) ∧ Below w.heap.size w w' := by
 simp only [maxLen] at hfs
 have hle := h.le
 have hc := h.cap_le
 simp only [maxLen] at hc
 obtain ⟨W0, hW0⟩ : ∃ W0, W0 = w.alloc (.cells #[.string f, .int .u64 at', .slice A es.length cap] 33) := ⟨_, rfl⟩
 have hx0 : BB W0 w.heap.size f at' A es.length cap := by rw [hW0]; exact heap_alloc_new w _
 have hb0 : Below w.heap.size w W0 := by rw [hW0]; exact (Below.refl _ _).alloc (Nat.le_refl _) _
 have hz0 : w.heap.size < W0.heap.size := by rw [hW0]; simp
 have HK := Lib.hid (h.later hb0)
 have HBX : Hid (∀ W, Below W0.heap.size W0 W → BB W w.heap.size f at' A es.length cap) := Lib.hid fun W hW => hx0.later hW hz0
 have HB0 := Lib.hid hb0
 have HFZ : Hid (f.toList.isEmpty = decide (f.size = 0)) := Lib.hid (by rw [Vt.toList_data]; cases f with | mk d => cases d with | mk l => cases l <;> simp [ByteArray.size])
 clear h hx0 hb0
 replace hW0 := Lib.hid hW0
 generalize hn : es.length = n at *
 have HN := Lib.hid hn; clear hn
 go_enter Tryz.func32, Tryz.ntmps32
 go_upto_region 1 with fail
 rw [← hW0.out]
 go_wp2_with fail
 go_loopw [2, 3] (fun r i wr => ∃ (j : Nat), j ≤ n ∧ i = .int .i64 j ∧ r = .bool false ∧ (es.take j).any wrongE = false ∧ Below W0.heap.size W0 wr) (fun _ i _ => n - (intOf i).toNat)
 case atStart => exact ⟨0, by omega, rfl, rfl, rfl, Below.refl _ _⟩
 case round =>
  obtain ⟨j, hj, rfl, rfl, hany, hb⟩ := hrel
  have HA := Lib.hid hany; have HB := Lib.hid hb
  obtain ⟨d0, d1, d2, -⟩ := (HBX.out _ hb).cells
  clear hany hb
  have HBF : Hid (∀ W, Below wr.heap.size wr W → Below w.heap.size w W) := Lib.hid fun W hW => HB0.out.trans ((HB.out.trans (hW.mono HB.out.size)).mono HB0.out.size)
  by_cases hkl : j < n
  ·have hke : j < es.length := by have := HN.out; omega
   obtain ⟨b2, off2, lo, hi, vk, vn, vf, vs, A2, m2, c2, rfl, hbl2, hf, hv, hhi, e0, e1, e2, e3, e4, e5, e6, e7, e8, e9, e10⟩ := (HK.out.later HB.out).get j hke
   have HC := Lib.hid (rvalid_all es[j] lo hi vk vn vf vs A2 m2 c2 _ hv hhi)
   have HT := Lib.hid (any_take es j hke)
   have HTA := Lib.hid (any_at es j hke)
   unfold evCells at HC
   clear hf hv
   go_wp2_with fail
   refine HC.out.mono ?_
   rintro x w1 ⟨rfl, hb1⟩
   have HB1 := Lib.hid hb1
   clear hb1 e0 e1 e2 e3 e4 e5 e6 e7 e8 e9 e10 d0 d1 d2 HC
   cases hp : es[j].valid with
   | true =>
    have HP := Lib.hid hp; clear hp
    go_wp2_with fail
    go_roundw
    case rel => exact ⟨j + 1, by omega, by go_num, rfl, by rw [HT.out, HA.out]; simp [wrongE, HP.out], HB.out.trans (HB1.out.mono HB.out.size)⟩
    case measure => simp [intOf]; omega
   | false =>
    have HP := Lib.hid hp; clear hp
    go_wp2_with fail
    go_ret
    exact ⟨ret_bool (by unfold bvalid; rw [HTA.out (by simp [wrongE, HP.out])]; simp), HBF.out _ HB1.out⟩
  ·have hk' : j = n := by omega
   subst hk'
   have HAA : Hid (es.any wrongE = false) := Lib.hid (by have := HA.out; rw [← HN.out, List.take_length] at this; exact this)
   have HBW : Hid (Below w.heap.size w wr) := Lib.hid (HBF.out _ (Below.refl _ _))
   by_cases h1 : 1 ≤ f.size
   ·have g1 : decide ((1 : Int) ≤ (f.size : Int)) = true := decide_eq_true (by omega)
    by_cases h2 : f.size ≤ 1000
    ·have g2 : decide ((f.size : Int) ≤ 1000) = true := decide_eq_true (by omega)
     by_cases h3 : at' ≤ 9223372036854775807
     ·have g3 : decide ((at' : Int) ≤ 9223372036854775807) = true := decide_eq_true (by omega)
      have HH := Lib.hid (And.intro h1 (And.intro h2 h3))
      clear h3
      go_wp2_with fail
      go_ret
      exact ⟨ret_bool (by obtain ⟨z1, z2, z3⟩ := HH.out; unfold bvalid; rw [HAA.out, HFZ.out, HN.out, decide_eq_true z2, decide_eq_true z3, decide_eq_false (by omega : ¬ f.size = 0)]; simp), HBW.out⟩
     ·have g3 : decide ((at' : Int) ≤ 9223372036854775807) = false := decide_eq_false (by omega)
      have HH := Lib.hid h3
      clear h3
      go_wp2_with fail
      go_ret
      exact ⟨ret_bool (by unfold bvalid; rw [decide_eq_false HH.out]; simp), HBW.out⟩
    ·have g2 : decide ((f.size : Int) ≤ 1000) = false := decide_eq_false (by omega)
     have HH := Lib.hid h2
     go_wp2_with fail
     go_ret
     exact ⟨ret_bool (by unfold bvalid; rw [decide_eq_false HH.out]; simp), HBW.out⟩
   ·have g1 : decide ((1 : Int) ≤ (f.size : Int)) = false := decide_eq_false (by omega)
    have HH := Lib.hid h1
    go_wp2_with fail
    go_ret
    exact ⟨ret_bool (by unfold bvalid; rw [HFZ.out, decide_eq_true (by have := HH.out; omega : f.size = 0)]; simp), HBW.out⟩
end Rd
end Go.Proofs.YtfmnacebgplpcaaGreat
