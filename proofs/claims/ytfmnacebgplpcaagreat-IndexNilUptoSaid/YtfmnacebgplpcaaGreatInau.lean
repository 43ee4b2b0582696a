/- bin.Int of any number; the forms of a number with a sign, of a text, of a float. -/
import Derived.Test.YtfmnacebgplpcaaGreatInas
import Derived.Test.YtfmnacebgplpcaaGreatInat
import Derived.Laws.Bits64
import Derived.Test.YtfmnacebgplpcaaGreatInac
import Derived.Test.YtfmnacebgplpcaaGreatInad
import Derived.Test.YtfmnacebgplpcaaGreatInab
import Derived.Test.YtfmnacebgplpcaaGreatInai
import Derived.Lib.AtoiErrMem
import Derived.Laws.Bits64b
set_option maxRecDepth 100000
set_option maxHeartbeats 4000000
variable {p : Prop}
set_option linter.unusedVariables false
set_option linter.unusedSimpArgs false
open Go.RowKit
namespace Go.Proofs.YtfmnacebgplpcaaGreat
namespace Vf
open _root_.Go.Proofs.YtfmnacebgplpcaaGreat.Nm (Di Fl Ds Df)
open Bt (BOwn BIn Db sb Fdz Gl GQ Dd bv)
open Pf (zz VG be8 Dp)
open Vt (VT Rep BoxAt Da KidsAt FF)
theorem xor_ones (b : Nat) (hb : b < 18446744073709551616) : 18446744073709551615 ^^^ b = 18446744073709551615 - b := by
 have h1 : (BitVec.allOnes 64 ^^^ BitVec.ofNat 64 b).toNat = 18446744073709551615 ^^^ b := by
  rw [BitVec.toNat_xor, BitVec.toNat_ofNat, Nat.mod_eq_of_lt (by omega)]; rfl
 have h2 : BitVec.allOnes 64 ^^^ BitVec.ofNat 64 b = ~~~(BitVec.ofNat 64 b) := BitVec.allOnes_xor
 rw [h2, BitVec.toNat_not, BitVec.toNat_ofNat, Nat.mod_eq_of_lt (by omega)] at h1
 omega
theorem zz_eq (n : Int) (h0 : -9223372036854775808 ≤ n) (h1 : n ≤ 9223372036854775807) : bits BinOp.xor IntKind.u64 (IntKind.u64.wrap (wrap64 (n * 2))) (IntKind.u64.wrap (n / 9223372036854775808)) = ((zz n : Nat) : Int) := by
 rw [IntKind.wrap_u64, IntKind.wrap_u64]
 by_cases hn : 0 ≤ n
 ·have e1 : wrap64 (n * 2) % 18446744073709551616 = ((2 * n).toNat : Int) := by unfold wrap64; omega
  have e2 : n / 9223372036854775808 % 18446744073709551616 = ((0 : Nat) : Int) := by omega
  rw [e1, e2, bits_xor_u64_nat _ _ (by omega) (by omega), Nat.xor_zero, zz, if_pos hn]
 ·have e1 : wrap64 (n * 2) % 18446744073709551616 = ((2 * n + 18446744073709551616).toNat : Int) := by unfold wrap64; omega
  have e2 : n / 9223372036854775808 % 18446744073709551616 = ((18446744073709551615 : Nat) : Int) := by omega
  rw [e1, e2, bits_xor_u64_nat _ _ (by omega) (by omega), Nat.xor_comm, xor_ones _ (by omega), zz, if_neg hn]
  omega
theorem bint_any (n : Int) (h0 : -9223372036854775808 ≤ n) (h1 : n ≤ 9223372036854775807) (w : World) :
  Calls Tryz.prog 230 #[.int .i64 n] w fun e w' => ∃ v, e = .returned v ∧ BOwn w' w.heap.size v (Db 10 (zz n)) ∧ Below w.heap.size w w' := by
 have HU := Lib.hid (Fdz (zz n) (VG h0 h1) w)
 have HZ := Lib.hid (zz_eq n h0 h1)
 go_enter Tryz.func230, Tryz.ntmps230
 go_wp2_with fail
 rw [HZ.out]
 refine HU.out.mono ?_
 rintro x w1 ⟨v, rfl, ho, hb⟩
 have HO := Lib.hid ho; have HB := Lib.hid hb
 clear ho hb
 go_wp2_with fail
 go_ret
 exact ⟨v, rfl, HO.out, HB.out⟩
def KB (w : World) (l : List Nat) (r : Ending) (w' : World) : Prop := ∃ v, r = .returned v ∧ BOwn w' w.heap.size v l ∧ Below w.heap.size w w'
theorem M83 (h : p := by
 go_upto_region 1 with fail
 rw [← hW0.out]
 go_wp2_with fail
 refine HI.out.mono ?_
 rintro x w1 ⟨v, rfl, ho, hb⟩
 have HO := Lib.hid (ho.base HB0.out.size); have HB := Lib.hid (HB0.out.trans (hb.mono HB0.out.size))
 clear ho hb
 go_wp2_with fail
 go_ret
 exact ⟨v, rfl, HO.out, HB.out⟩) : p := h
theorem M146 (h : p := by
 rw [World.size_alloc] at e
 exact e) : p := h
theorem Q651.Y650 (h : p := by
 have hx0 : BoxAt W0 (w.heap.size + 1) k n f s A m c := by
  rw [hW0]
  have e := heap_alloc_new (w.alloc (.cells #[] 230)) (.cells #[.int .i64 k, .int .i64 n, .float .f64 f, .string s, .slice A m c] 69)
  exact M146
 obtain ⟨c0, c1, c2, c3, c4⟩ := hx0.cells
 have HI := Lib.hid (bint_any n h0 h1 W0)
 replace hW0 := Lib.hid hW0
 go_enter Tryz.func227, Tryz.ntmps227
 exact M83) : p := h
theorem M650 (h : p := by
 have HB0 : Hid (Below w.heap.size w W0) := Lib.hid (by rw [hW0]; exact ((Below.refl _ _).alloc (Nat.le_refl _) _).alloc (by simp) _)
 exact Y650) : p := h
theorem Lk (x : Value) (hx : x = .agg #[]) (k n : Int) (h0 : -9223372036854775808 ≤ n) (h1 : n ≤ 9223372036854775807) (f : Nat) (s : ByteArray) (A : Option Addr) (m c : Nat) (w : World) :
  Calls Tryz.prog 227 #[x, .agg #[.int .i64 k, .int .i64 n, .float .f64 f, .string s, .slice A m c]] w (KB w (Db 10 (zz n))) := by
 subst hx
 obtain ⟨W0, hW0⟩ : ∃ W0, W0 = (w.alloc (.cells #[] 230)).alloc (.cells #[.int .i64 k, .int .i64 n, .float .f64 f, .string s, .slice A m c] 69) := ⟨_, rfl⟩
 open Q651 in exact M650
theorem Q652.Y650 (h : p := by
 have hx0 : BoxAt W0 (w.heap.size + 1) k n f s A m c := by
  rw [hW0]
  have e := heap_alloc_new (w.alloc (.cells #[] 232)) (.cells #[.int .i64 k, .int .i64 n, .float .f64 f, .string s, .slice A m c] 69)
  exact M146
 obtain ⟨c0, c1, c2, c3, c4⟩ := hx0.cells
 have HI := Lib.hid (Gl s hs W0)
 replace hW0 := Lib.hid hW0
 go_enter Tryz.func234, Tryz.ntmps234
 exact M83) : p := h
theorem YE (x : Value) (hx : x = .agg #[]) (k n : Int) (f : Nat) (s : ByteArray) (hs : s.size ≤ 100000) (A : Option Addr) (m c : Nat) (w : World) :
  Calls Tryz.prog 234 #[x, .agg #[.int .i64 k, .int .i64 n, .float .f64 f, .string s, .slice A m c]] w (KB w (Dp s)) := by
 subst hx
 obtain ⟨W0, hW0⟩ : ∃ W0, W0 = (w.alloc (.cells #[] 232)).alloc (.cells #[.int .i64 k, .int .i64 n, .float .f64 f, .string s, .slice A m c] 69) := ⟨_, rfl⟩
 open Q652 in exact M650
theorem DV (v j : Nat) : ((be8 v).take j).length ≤ 8 := by
 rw [List.length_take]; exact Nat.min_le_right j 8
theorem DP (w : World) (x : Int) (b : Nat) (hx : x = (b : Int)) : BIn (w.alloc (.cells #[.int .u8 x] 5)) (.slice (some ⟨w.heap.size, 0, none⟩) 1 1) [b] := by
 subst hx
 refine .inr ⟨⟨w.heap.size, 0, none⟩, 1, rfl, by simp, by simp only [maxLen]; omega, by simp, fun j u hu => ?_⟩
 have hj : j = 0 := by have := (List.getElem?_eq_some_iff.1 hu).1; simp at this; omega
 subst hj
 simp [bv] at hu
 subst hu
 have e := heap_alloc_new w (.cells #[.int .u8 (b : Int)] 5)
 rw [Go.WideShapes.add_plain]
 simp only [World.cell?, e]
 rfl
theorem Q653.Y650 (h : p := by
 have hz0 : w.heap.size + 1 < W0.heap.size := by rw [hW0]; simp
 have hx0 : BoxAt W0 (w.heap.size + 1) k n f s A m c := by
  rw [hW0]
  have e := heap_alloc_new (w.alloc (.cells #[] 231)) (.cells #[.int .i64 k, .int .i64 n, .float .f64 f, .string s, .slice A m c] 69)
  exact M146
 have HX0 := Lib.hid hx0
 obtain ⟨v, hv⟩ : ∃ v, v = Di f := ⟨_, rfl⟩
 have hvl : v < 18446744073709551616 := by rw [hv]; exact Pf.Kc hf
 have HBI : Hid (∀ W, Calls Tryz.prog 154 #[.float .f64 f] W fun e w' => e = .returned (.int .u64 v) ∧ W = w') := Lib.hid fun W => by rw [hv]; exact Fl f W
 rw [← hv]
 clear hv hx0
 replace hW0 := Lib.hid hW0
 have HVL := Lib.hid hvl; clear hvl
 go_enter Tryz.func231, Tryz.ntmps231
 go_upto_region 1 with fail
 rw [← hW0.out]
 go_wp2_with fail
 go_loopw [5, 6] (fun out i wr => ∃ (j : Nat) (sh : Int), j ≤ 8 ∧ sh = 56 - 8 * (j : Int) ∧ i = .int .i64 sh ∧ BOwn wr W0.heap.size out ((be8 v).take j) ∧ Below W0.heap.size W0 wr) (fun _ i _ => (intOf i + 8).toNat)
 case atStart => exact ⟨0, 56, by omega, by omega, rfl, GQ _ _, Below.refl _ _⟩
 case round =>
  obtain ⟨j, sh, hj, hsh, rfl, hown, hb⟩ := hrel
  obtain ⟨-, -, c2, -, -⟩ := (HX0.out.later hb hz0).cells
  have HO := Lib.hid hown; have HB := Lib.hid hb
  clear hown hb
  rcases (by omega : j = 0 ∨ j = 1 ∨ j = 2 ∨ j = 3 ∨ j = 4 ∨ j = 5 ∨ j = 6 ∨ j = 7 ∨ j = 8) with rfl | rfl | rfl | rfl | rfl | rfl | rfl | rfl | rfl
  ·obtain rfl : sh = 56 := by omega
   clear hsh
   go_wp2_with fail
   refine (HBI.out _).mono ?_
   rintro x w1 ⟨rfl, rfl⟩
   have HN := Lib.hid (DP wr (IntKind.u8.wrap (v / 72057594037927936 : Int)) (v / 72057594037927936 % 256) (by rw [IntKind.wrap_u8]; omega))
   go_wp2_with (at_builtin; refine Dd _ rfl _ _ rfl W0.heap.size _ _ ((be8 v).take 0) [v / 72057594037927936 % 256] rfl rfl (HO.out.later ((Below.refl _ _).alloc (Nat.le_refl _) _)) HN.out (Nat.le_trans (Nat.add_le_add (DV v _) (Nat.le_refl 1)) (by decide)) (by simp; exact Nat.le_succ_of_le HB.out.size) ?_; intro v2 w2 hown2 hg2 hb2; have HO2 := Lib.hid hown2; have HB2 := Lib.hid ((HB.out.alloc HB.out.size _).trans hb2); clear hown2 hb2)
   exact ⟨⟨1, 48, by omega, by omega, by go_num, HO2.out, HB2.out⟩, by simp [intOf]⟩
  ·obtain rfl : sh = 48 := by omega
   clear hsh
   go_wp2_with fail
   refine (HBI.out _).mono ?_
   rintro x w1 ⟨rfl, rfl⟩
   have HN := Lib.hid (DP wr (IntKind.u8.wrap (v / 281474976710656 : Int)) (v / 281474976710656 % 256) (by rw [IntKind.wrap_u8]; omega))
   go_wp2_with (at_builtin; refine Dd _ rfl _ _ rfl W0.heap.size _ _ ((be8 v).take 1) [v / 281474976710656 % 256] rfl rfl (HO.out.later ((Below.refl _ _).alloc (Nat.le_refl _) _)) HN.out (Nat.le_trans (Nat.add_le_add (DV v _) (Nat.le_refl 1)) (by decide)) (by simp; exact Nat.le_succ_of_le HB.out.size) ?_; intro v2 w2 hown2 hg2 hb2; have HO2 := Lib.hid hown2; have HB2 := Lib.hid ((HB.out.alloc HB.out.size _).trans hb2); clear hown2 hb2)
   exact ⟨⟨2, 40, by omega, by omega, by go_num, HO2.out, HB2.out⟩, by simp [intOf]⟩
  ·obtain rfl : sh = 40 := by omega
   clear hsh
   go_wp2_with fail
   refine (HBI.out _).mono ?_
   rintro x w1 ⟨rfl, rfl⟩
   have HN := Lib.hid (DP wr (IntKind.u8.wrap (v / 1099511627776 : Int)) (v / 1099511627776 % 256) (by rw [IntKind.wrap_u8]; omega))
   go_wp2_with (at_builtin; refine Dd _ rfl _ _ rfl W0.heap.size _ _ ((be8 v).take 2) [v / 1099511627776 % 256] rfl rfl (HO.out.later ((Below.refl _ _).alloc (Nat.le_refl _) _)) HN.out (Nat.le_trans (Nat.add_le_add (DV v _) (Nat.le_refl 1)) (by decide)) (by simp; exact Nat.le_succ_of_le HB.out.size) ?_; intro v2 w2 hown2 hg2 hb2; have HO2 := Lib.hid hown2; have HB2 := Lib.hid ((HB.out.alloc HB.out.size _).trans hb2); clear hown2 hb2)
   exact ⟨⟨3, 32, by omega, by omega, by go_num, HO2.out, HB2.out⟩, by simp [intOf]⟩
  ·obtain rfl : sh = 32 := by omega
   clear hsh
   go_wp2_with fail
   refine (HBI.out _).mono ?_
   rintro x w1 ⟨rfl, rfl⟩
   have HN := Lib.hid (DP wr (IntKind.u8.wrap (v / 4294967296 : Int)) (v / 4294967296 % 256) (by rw [IntKind.wrap_u8]; omega))
   go_wp2_with (at_builtin; refine Dd _ rfl _ _ rfl W0.heap.size _ _ ((be8 v).take 3) [v / 4294967296 % 256] rfl rfl (HO.out.later ((Below.refl _ _).alloc (Nat.le_refl _) _)) HN.out (Nat.le_trans (Nat.add_le_add (DV v _) (Nat.le_refl 1)) (by decide)) (by simp; exact Nat.le_succ_of_le HB.out.size) ?_; intro v2 w2 hown2 hg2 hb2; have HO2 := Lib.hid hown2; have HB2 := Lib.hid ((HB.out.alloc HB.out.size _).trans hb2); clear hown2 hb2)
   exact ⟨⟨4, 24, by omega, by omega, by go_num, HO2.out, HB2.out⟩, by simp [intOf]⟩
  ·obtain rfl : sh = 24 := by omega
   clear hsh
   go_wp2_with fail
   refine (HBI.out _).mono ?_
   rintro x w1 ⟨rfl, rfl⟩
   have HN := Lib.hid (DP wr (IntKind.u8.wrap (v / 16777216 : Int)) (v / 16777216 % 256) (by rw [IntKind.wrap_u8]; omega))
   go_wp2_with (at_builtin; refine Dd _ rfl _ _ rfl W0.heap.size _ _ ((be8 v).take 4) [v / 16777216 % 256] rfl rfl (HO.out.later ((Below.refl _ _).alloc (Nat.le_refl _) _)) HN.out (Nat.le_trans (Nat.add_le_add (DV v _) (Nat.le_refl 1)) (by decide)) (by simp; exact Nat.le_succ_of_le HB.out.size) ?_; intro v2 w2 hown2 hg2 hb2; have HO2 := Lib.hid hown2; have HB2 := Lib.hid ((HB.out.alloc HB.out.size _).trans hb2); clear hown2 hb2)
   exact ⟨⟨5, 16, by omega, by omega, by go_num, HO2.out, HB2.out⟩, by simp [intOf]⟩
  ·obtain rfl : sh = 16 := by omega
   clear hsh
   go_wp2_with fail
   refine (HBI.out _).mono ?_
   rintro x w1 ⟨rfl, rfl⟩
   have HN := Lib.hid (DP wr (IntKind.u8.wrap (v / 65536 : Int)) (v / 65536 % 256) (by rw [IntKind.wrap_u8]; omega))
   go_wp2_with (at_builtin; refine Dd _ rfl _ _ rfl W0.heap.size _ _ ((be8 v).take 5) [v / 65536 % 256] rfl rfl (HO.out.later ((Below.refl _ _).alloc (Nat.le_refl _) _)) HN.out (Nat.le_trans (Nat.add_le_add (DV v _) (Nat.le_refl 1)) (by decide)) (by simp; exact Nat.le_succ_of_le HB.out.size) ?_; intro v2 w2 hown2 hg2 hb2; have HO2 := Lib.hid hown2; have HB2 := Lib.hid ((HB.out.alloc HB.out.size _).trans hb2); clear hown2 hb2)
   exact ⟨⟨6, 8, by omega, by omega, by go_num, HO2.out, HB2.out⟩, by simp [intOf]⟩
  ·obtain rfl : sh = 8 := by omega
   clear hsh
   go_wp2_with fail
   refine (HBI.out _).mono ?_
   rintro x w1 ⟨rfl, rfl⟩
   have HN := Lib.hid (DP wr (IntKind.u8.wrap (v / 256 : Int)) (v / 256 % 256) (by rw [IntKind.wrap_u8]; omega))
   go_wp2_with (at_builtin; refine Dd _ rfl _ _ rfl W0.heap.size _ _ ((be8 v).take 6) [v / 256 % 256] rfl rfl (HO.out.later ((Below.refl _ _).alloc (Nat.le_refl _) _)) HN.out (Nat.le_trans (Nat.add_le_add (DV v _) (Nat.le_refl 1)) (by decide)) (by simp; exact Nat.le_succ_of_le HB.out.size) ?_; intro v2 w2 hown2 hg2 hb2; have HO2 := Lib.hid hown2; have HB2 := Lib.hid ((HB.out.alloc HB.out.size _).trans hb2); clear hown2 hb2)
   exact ⟨⟨7, 0, by omega, by omega, by go_num, HO2.out, HB2.out⟩, by simp [intOf]⟩
  ·obtain rfl : sh = 0 := by omega
   clear hsh
   go_wp2_with fail
   refine (HBI.out _).mono ?_
   rintro x w1 ⟨rfl, rfl⟩
   have HN := Lib.hid (DP wr (IntKind.u8.wrap (v : Int)) (v % 256) (by rw [IntKind.wrap_u8]; omega))
   go_wp2_with (at_builtin; refine Dd _ rfl _ _ rfl W0.heap.size _ _ ((be8 v).take 7) [v % 256] rfl rfl (HO.out.later ((Below.refl _ _).alloc (Nat.le_refl _) _)) HN.out (Nat.le_trans (Nat.add_le_add (DV v _) (Nat.le_refl 1)) (by decide)) (by simp; exact Nat.le_succ_of_le HB.out.size) ?_; intro v2 w2 hown2 hg2 hb2; have HO2 := Lib.hid hown2; have HB2 := Lib.hid ((HB.out.alloc HB.out.size _).trans hb2); clear hown2 hb2)
   exact ⟨⟨8, -8, by omega, by omega, by go_num, HO2.out, HB2.out⟩, by simp [intOf]⟩
  ·obtain rfl : sh = -8 := by omega
   clear hsh
   go_wp2_with fail
   go_ret
   exact ⟨_, rfl, HO.out.base HB0.out.size, HB0.out.trans (HB.out.mono HB0.out.size)⟩) : p := h
theorem XO (x : Value) (hx : x = .agg #[]) (k n : Int) (f : Nat) (hf : f < 18446744073709551616) (s : ByteArray) (A : Option Addr) (m c : Nat) (w : World) :
  Calls Tryz.prog 231 #[x, .agg #[.int .i64 k, .int .i64 n, .float .f64 f, .string s, .slice A m c]] w (KB w (be8 (Di f))) := by
 subst hx
 obtain ⟨W0, hW0⟩ : ∃ W0, W0 = (w.alloc (.cells #[] 231)).alloc (.cells #[.int .i64 k, .int .i64 n, .float .f64 f, .string s, .slice A m c] 69) := ⟨_, rfl⟩
 open Q653 in exact M650
open Bt (Gv)
open Vt (GL Fs)
open Ev (Dy tk ap rd1 rd2 Dj)
def KI (w : World) (l : List Nat) (r : Ending) (w' : World) : Prop := ∃ v, r = .returned v ∧ BIn w' v l ∧ Below w.heap.size w w'
theorem KB.ki {w : World} {l : List Nat} {r : Ending} {w' : World} (h : KB w l r w') : KI w l r w' := by
 obtain ⟨v, h1, h2, h3⟩ := h
 exact ⟨v, h1, h2.read, h3⟩
theorem GN (k : Nat) (hk : k ≤ 4) (T M : Nat) (lk : List Nat) (hlk : lk.length ≤ 1000000) (vn : Int) (vf : Nat) (vs : ByteArray) (A : Option Addr) (m c : Nat) (w : World)
  (hO : ∀ W, Calls Tryz.prog 153 #[.int .i64 (k : Nat)] W fun e w' => e = .returned (.iface T (.agg #[])) ∧ W = w')
  (hM : ∀ n w, (method (n + 1) T (.agg #[]) "clockwork/value.bytes").run Tryz.prog w = .ok (M, .agg #[]) w)
  (hcall : ∀ args w, (callFunc M args).run Tryz.prog w = .ok (.enter M args) w)
  (hB : ∀ W, Below w.heap.size w W → Calls Tryz.prog M #[.agg #[], .agg #[.int .i64 (k : Nat), .int .i64 vn, .float .f64 vf, .string vs, .slice A m c]] W (KI W lk)) :
  Calls Tryz.prog 144 #[.agg #[.int .i64 (k : Nat), .int .i64 vn, .float .f64 vf, .string vs, .slice A m c]] w (KB w (Db 10 k ++ lk)) := by
 obtain ⟨W0, hW0⟩ : ∃ W0, W0 = w.alloc (.cells #[.int .i64 (k : Nat), .int .i64 vn, .float .f64 vf, .string vs, .slice A m c] 69) := ⟨_, rfl⟩
 have hB0 : Below w.heap.size w W0 := by rw [hW0]; exact (Below.refl _ _).alloc (Nat.le_refl _) _
 have hbx : BoxAt W0 w.heap.size k vn vf vs A m c := by rw [hW0]; exact BoxAt.new ..
 have hz : w.heap.size < W0.heap.size := by rw [hW0]; simp
 have HBX : Hid (∀ W, Below W0.heap.size W0 W → BoxAt W w.heap.size k vn vf vs A m c) := Lib.hid fun W hW => hbx.later hW hz
 have HU : Hid (∀ W, Calls Tryz.prog 64 #[.int .u64 (k : Nat)] W fun e w' => ∃ v, e = .returned v ∧ BOwn w' W.heap.size v (Db 10 k) ∧ Below W.heap.size W w') := Lib.hid fun W => Fdz k (by omega) W
 have HWR : Hid (IntKind.u64.wrap (k : Int) = (k : Int)) := Lib.hid (IntWalk.u64_in _ (by omega))
 have HO := Lib.hid hO
 have HNB : Hid (∀ W, Below W0.heap.size W0 W → Calls Tryz.prog M #[.agg #[], .agg #[.int .i64 (k : Nat), .int .i64 vn, .float .f64 vf, .string vs, .slice A m c]] W (KI W lk)) := Lib.hid fun W hW => hB W (hB0.trans (hW.mono hB0.size))
 have HB0 := Lib.hid hB0
 have HLK := Lib.hid hlk
 obtain ⟨c0, c1, c2, c3, c4⟩ := hbx.cells
 clear hB0 hbx hO hB hlk
 replace hW0 := Lib.hid hW0
 go_enter Tryz.func144, Tryz.ntmps144
 go_upto_region 1 with fail
 rw [← hW0.out]
 have HS : Hid (∀ W', Below W0.heap.size W0 W' → (W'.cell? ⟨w.heap.size, 0, none⟩ = some (.int .i64 (k : Nat)) ∧ W'.cell? ⟨w.heap.size, 1, none⟩ = some (.int .i64 vn) ∧ W'.cell? ⟨w.heap.size, 2, none⟩ = some (.float .f64 vf) ∧ W'.cell? ⟨w.heap.size, 3, none⟩ = some (.string vs) ∧ W'.cell? ⟨w.heap.size, 4, none⟩ = some (.slice A m c))) := Lib.hid fun W hW => (HBX.out W hW).cells
 clear c0 c1 c2 c3 c4
 refine wp_region_noPanic ?_
 refine wp_region_held_drew (S := (fun W' : World => W'.cell? ⟨w.heap.size, 0, none⟩ = some (.int .i64 (k : Nat)) ∧ W'.cell? ⟨w.heap.size, 1, none⟩ = some (.int .i64 vn) ∧ W'.cell? ⟨w.heap.size, 2, none⟩ = some (.float .f64 vf) ∧ W'.cell? ⟨w.heap.size, 3, none⟩ = some (.string vs) ∧ W'.cell? ⟨w.heap.size, 4, none⟩ = some (.slice A m c))) (by kernel_rfl) ?_ (fun hHeld => ?_)
 ·exact HS.out _ (Da (Below.refl _ _))
 refine tk 0 rfl ?_
 refine tk 1 rfl ?_
 refine tk 2 rfl ?_
 refine tk 4 rfl ?_
 refine tk 5 rfl ?_
 refine tk 7 rfl ?_
 refine rd1 3 rfl fun K hK => ?_
 go_simp
 rw [HWR.out]
 refine (HU.out _).mono ?_
 rintro e w1 ⟨v1, rfl, ho1, hb1⟩
 have h1B : Hid (Below W0.heap.size W0 w1) := Lib.hid ((Da (Below.refl _ _)).trans hb1)
 have HO1 := Lib.hid (ho1.base (Nat.le_refl _ : W0.heap.size ≤ W0.drew.heap.size))
 clear ho1 hb1
 go_wp2_with fail
 refine hK.out _ _ (HS.out _ h1B.out) (fun hHeld2 => ?_)
 clear hK K
 try simp only [ap]
 refine rd1 6 rfl fun K hK => ?_
 go_simp
 refine (HO.out _).mono ?_
 rintro e w2 ⟨rfl, rfl⟩
 go_wp2_with fail
 refine hK.out _ _ (HS.out _ h1B.out) (fun hHeld2 => ?_)
 clear hK K
 try simp only [ap]
 refine rd1 8 rfl fun K hK => ?_
 go_simp
 refine (HNB.out _ h1B.out).mono ?_
 rintro e w3 ⟨v3, rfl, hin3, hb3⟩
 have h3B : Hid (Below W0.heap.size W0 w3) := Lib.hid (h1B.out.trans (hb3.mono h1B.out.size))
 have HO3 := Lib.hid (HO1.out.later hb3)
 have HI3 := Lib.hid hin3
 clear hb3 hin3
 go_wp2_with fail
 refine hK.out _ _ (HS.out _ h3B.out) (fun hHeld2 => ?_)
 clear hK K
 try simp only [ap]
 refine rd1 9 rfl fun K hK => ?_
 refine Gv _ rfl (.tmp 6) (.tmp 11) rfl W0.heap.size v1 v3 (Db 10 k) lk (by simp [Act.eval]) (by simp [Act.eval]) HO3.out HI3.out (by have := HLK.out; have := Bt.Dh 10 k; omega) h3B.out.size ?_
 intro v4 w4 hown4 hg4 hb4
 have h4B := Lib.hid (h3B.out.trans hb4)
 refine hK.out _ _ (HS.out _ h4B.out) (fun hHeld2 => ?_)
 clear hK K
 try simp only [ap]
 refine tk 10 rfl ?_
 refine wpAnyH_done (by kernel_rfl) ?_ _
 refine NoPanic.normal ?_
 go_wp2_with fail
 go_ret
 exact ⟨v4, rfl, hown4.base HB0.out.size, HB0.out.trans (h4B.out.mono HB0.out.size)⟩
theorem m_none (n : Nat) (w : World) : (method (n + 1) 234 (.agg #[]) "clockwork/value.bytes").run Tryz.prog w = .ok (240, .agg #[]) w := by kernel_rfl
theorem m_int (n : Nat) (w : World) : (method (n + 1) 230 (.agg #[]) "clockwork/value.bytes").run Tryz.prog w = .ok (227, .agg #[]) w := by kernel_rfl
theorem m_float (n : Nat) (w : World) : (method (n + 1) 231 (.agg #[]) "clockwork/value.bytes").run Tryz.prog w = .ok (231, .agg #[]) w := by kernel_rfl
theorem m_text (n : Nat) (w : World) : (method (n + 1) 232 (.agg #[]) "clockwork/value.bytes").run Tryz.prog w = .ok (234, .agg #[]) w := by kernel_rfl
theorem m_list (n : Nat) (w : World) : (method (n + 1) 233 (.agg #[]) "clockwork/value.bytes").run Tryz.prog w = .ok (237, .agg #[]) w := by kernel_rfl
theorem e_none (args : Array Value) (w : World) : (callFunc 240 args).run Tryz.prog w = .ok (.enter 240 args) w := by kernel_rfl
theorem e_int (args : Array Value) (w : World) : (callFunc 227 args).run Tryz.prog w = .ok (.enter 227 args) w := by kernel_rfl
theorem e_float (args : Array Value) (w : World) : (callFunc 231 args).run Tryz.prog w = .ok (.enter 231 args) w := by kernel_rfl
theorem e_text (args : Array Value) (w : World) : (callFunc 234 args).run Tryz.prog w = .ok (.enter 234 args) w := by kernel_rfl
theorem e_list (args : Array Value) (w : World) : (callFunc 237 args).run Tryz.prog w = .ok (.enter 237 args) w := by kernel_rfl
theorem SR (k n : Int) (f : Nat) (s : ByteArray) (A : Option Addr) (m c : Nat) (w : World) :
  Calls Tryz.prog 240 #[.agg #[], .agg #[.int .i64 k, .int .i64 n, .float .f64 f, .string s, .slice A m c]] w (KI w []) := by
 go_enter Tryz.func240, Tryz.ntmps240
 go_wp2_with fail
 go_ret
 exact ⟨_, rfl, .inl ⟨rfl, rfl⟩, ((Below.refl _ _).alloc (Nat.le_refl _) _).alloc (by simp) _⟩
theorem FJ (l : List VT) (j : Nat) (h : j < l.length) : ((l.take (j + 1)).map Pf.VT.form).flatten = ((l.take j).map Pf.VT.form).flatten ++ Pf.VT.form l[j] := by
 rw [List.take_succ_eq_append_getElem h, List.map_append, List.flatten_append]; simp
theorem OI (l : List VT) (j : Nat) : ((l.take j).map Pf.VT.form).flatten.length ≤ (l.map Pf.VT.form).flatten.length := by
 have : ((l.take j ++ l.drop j).map Pf.VT.form).flatten.length = (l.map Pf.VT.form).flatten.length := by rw [List.take_append_drop]
 rw [List.map_append, List.flatten_append, List.length_append] at this
 omega
theorem Q654.Y650 (h : p := by
 have hz0 : w.heap.size + 1 < W0.heap.size := by rw [hW0]; simp
 have hx0 : BoxAt W0 (w.heap.size + 1) k n f s A l.length cap := by
  rw [hW0]
  have e := heap_alloc_new (w.alloc (.cells #[] 233)) (.cells #[.int .i64 k, .int .i64 n, .float .f64 f, .string s, .slice A l.length cap] 69)
  exact M146
 have HX0 := Lib.hid hx0
 obtain ⟨c0, c1, c2, c3, c4⟩ := hx0.cells
 have HK := Lib.hid (hk.later (HB0.out.mono hz))
 have IH := Lib.hid ih
 have HU := Lib.hid (Fdz l.length (by omega) W0)
 have HWR : Hid (IntKind.u64.wrap (l.length : Int) = (l.length : Int)) := Lib.hid (IntWalk.u64_in _ (by omega))
 have HLEN := Lib.hid hlen
 have hhi : hi ≤ W0.heap.size := Nat.le_trans hz HB0.out.size
 replace hW0 := Lib.hid hW0
 clear hx0 hk ih hlen
 go_enter Tryz.func237, Tryz.ntmps237
 go_upto_region 1 with fail
 rw [← hW0.out]
 go_wp2_with fail
 refine HU.out.mono ?_
 rintro x w1 ⟨v1, rfl, ho1, hb1⟩
 have HO1 := Lib.hid ho1; have HB1 := Lib.hid hb1
 obtain ⟨d0, d1, d2, d3, d4⟩ := (HX0.out.later hb1 hz0).cells
 clear ho1 hb1 c0 c1 c2 c3 c4
 go_wp2_with fail
 clear d0 d1 d2 d3 d4
 go_loopw [5, 16] (fun out i wr => ∃ (j : Nat), j ≤ l.length ∧ i = .int .i64 j ∧ BOwn wr W0.heap.size out (Db 10 l.length ++ ((l.take j).map Pf.VT.form).flatten) ∧ Below W0.heap.size W0 wr) (fun _ i _ => l.length - (intOf i).toNat)
 case atStart => exact ⟨0, by omega, rfl, by simpa using HO1.out, HB1.out⟩
 case round =>
  obtain ⟨j, hj, rfl, hown, hb⟩ := hrel
  have HO := Lib.hid hown; have HB := Lib.hid hb
  clear hown hb
  by_cases hlt : j < l.length
  ·obtain ⟨b, off, rfl, hb1, hb2, h3⟩ := (HK.out.later (HB.out.mono hhi)).at_ (by omega)
   obtain ⟨k', n', f', s', L', A', cap', e, g0, g1, g2, g3, g4, hrj⟩ := h3 j hlt
   obtain ⟨W1, hW1⟩ : ∃ W1, W1 = wr.alloc (.cells #[.int .i64 k', .int .i64 n', .float .f64 f', .string s', .slice A' L'.length cap'] 69) := ⟨_, rfl⟩
   have hba : Below wr.heap.size wr W1 := by rw [hW1]; exact (Below.refl _ _).alloc (Nat.le_refl _) _
   have hx1 : BoxAt W1 wr.heap.size k' n' f' s' A' L'.length cap' := by rw [hW1]; exact BoxAt.new ..
   have hhr : hi ≤ wr.heap.size := Nat.le_trans hhi HB.out.size
   have HF := Lib.hid (IH.out j hlt W1 lo hi _ (hrj.later (hba.mono hhr)) (Nat.le_trans hhr hba.size))
   have HOA := Lib.hid (HO.out.later hba)
   have HBA := Lib.hid (HB.out.trans (hba.mono HB.out.size))
   obtain ⟨c0, c1, c2, c3, c4⟩ := hx1.cells
   have HFT := Lib.hid (FJ l j hlt)
   have HLE : Hid ((Db 10 l.length ++ ((l.take j).map Pf.VT.form).flatten).length + (Pf.VT.form l[j]).length ≤ 35184372088832) := Lib.hid (by
    have h1 := OI l (j + 1)
    rw [FJ l j hlt, List.length_append] at h1
    have h2 := HLEN.out
    have h4 := Bt.Dh 10 l.length
    rw [List.length_append]
    omega)
   replace hW1 := Lib.hid hW1
   clear h3 hrj e hba hx1
   obtain ⟨acc, hacc⟩ : ∃ a, a = Db 10 l.length ++ ((l.take j).map Pf.VT.form).flatten := ⟨_, rfl⟩
   rw [← hacc] at HOA HLE
   have HACC := Lib.hid hacc
   obtain ⟨fj, hfj⟩ : ∃ a, a = Pf.VT.form l[j] := ⟨_, rfl⟩
   rw [← hfj] at HF HLE
   have HFJ := Lib.hid hfj
   clear hacc hfj HO
   go_upto_region 5 with fail
   rw [← hW1.out]
   clear g0 g1 g2 g3 g4
   go_wp2_with fail
   refine HF.out.mono ?_
   rintro x w2 ⟨v2, rfl, ho2, hb2⟩
   have HOB := Lib.hid (HOA.out.later hb2)
   have HI2 := Lib.hid ho2.read
   have HBB := Lib.hid (HBA.out.trans (hb2.mono HBA.out.size))
   clear ho2 hb2 c0 c1 c2 c3 c4
   go_wp2_with (at_builtin; refine Dd _ rfl _ _ rfl W0.heap.size _ _ acc fj rfl rfl HOB.out HI2.out HLE.out HBB.out.size ?_; intro v3 w3 hown3 hg3 hb3; have HO3 := Lib.hid hown3; have HB3 := Lib.hid (HBB.out.trans hb3); clear hown3 hb3)
   exact ⟨⟨j + 1, by omega, by go_num, by rw [HFT.out, ← List.append_assoc, ← HACC.out, ← HFJ.out]; exact HO3.out, HB3.out⟩, by simp [intOf]; omega⟩
  ·have hj' : j = l.length := by omega
   subst hj'
   go_wp2_with fail
   go_ret
   have h := HO.out
   rw [List.take_length] at h
   exact ⟨_, rfl, h.base HB0.out.size, HB0.out.trans (HB.out.mono HB0.out.size)⟩) : p := h
theorem Je (k n : Int) (f : Nat) (s : ByteArray) (l : List VT) (A : Option Addr) (cap : Nat) (hl : l.length ≤ cap) (hcap : cap ≤ maxLen) (w : World) (lo hi : Nat) (hk : KidsAt w lo hi l A) (hz : hi ≤ w.heap.size) (hlen : (l.map Pf.VT.form).flatten.length ≤ 500000)
  (ih : ∀ i (h : i < l.length) (W : World) (lo hi : Nat) (v : Value), Rep W lo hi l[i] v → hi ≤ W.heap.size → Calls Tryz.prog 144 #[v] W (KB W (Pf.VT.form l[i]))) :
  Calls Tryz.prog 237 #[.agg #[], .agg #[.int .i64 k, .int .i64 n, .float .f64 f, .string s, .slice A l.length cap]] w (KB w (Db 10 l.length ++ (l.map Pf.VT.form).flatten)) := by
 simp only [maxLen] at hcap
 obtain ⟨W0, hW0⟩ : ∃ W0, W0 = (w.alloc (.cells #[] 233)).alloc (.cells #[.int .i64 k, .int .i64 n, .float .f64 f, .string s, .slice A l.length cap] 69) := ⟨_, rfl⟩
 open Q654 in exact M650
theorem flat_sum (l : List VT) : (l.map Pf.VT.form).flatten.length = (l.map (fun t => (Pf.VT.form t).length)).sum := by
 rw [List.length_flatten, List.map_map]; rfl
theorem VL (l : List VT) : ∀ (n m : Int) (C : Int), 0 ≤ C → Vt.DB l n m ≤ m → (∀ (i : Nat) (hi : i < l.length) (m' : Int), m' ≤ m → l[i].weight m' ≤ m' → ((Pf.VT.form l[i]).length : Int) ≤ C * l[i].weight m') → 0 ≤ n → C * n + ((l.map (fun t => (Pf.VT.form t).length)).sum : Int) ≤ C * Vt.DB l n m := by
 induction l with
 | nil => intro n m C hC h hk hn; rw [Vt.Fp]; simp
 | cons t l ih =>
  intro n m C hC h hk hn
  rw [Vt.Fr] at h ⊢
  by_cases hnm : n ≤ m
  ·rw [if_pos hnm] at h ⊢
   have hw := Vt.GD t (m - n)
   have hge := Vt.Gb l (n + t.weight (m - n)) m
   have h1 := hk 0 (by simp) (m - n) (by omega) (by simp only [List.getElem_cons_zero]; omega)
   simp only [List.getElem_cons_zero] at h1
   have h2 := ih (n + t.weight (m - n)) m C hC h (fun i hi m' hm' hw' => hk (i + 1) (by simpa using hi) m' hm' hw') (by omega)
   simp only [List.map_cons, List.sum_cons]
   rw [Int.mul_add] at h2
   push_cast
   omega
  ·rw [if_neg hnm] at h
   omega
theorem Pn (t : VT) : ∀ m : Int, m ≤ 900 → t.weight m ≤ m → ((Pf.VT.form t).length : Int) ≤ 24 * t.weight m := by
 induction t using VT.ind with
 | _ k n f s l ih =>
  intro m hm h
  rw [Vt.FL] at h ⊢
  have hge := Vt.Gb l (1 + min (s.size : Int) 1000) m
  have hs := VL l (1 + min (s.size : Int) 1000) m 24 (by omega) h (fun i hi m' hm' hw' => ih i hi m' (by omega) hw') (by omega)
  rw [Pf.Oj, List.length_append]
  have h1 := Bt.Dh 10 k.toNat
  have h2 := Bt.Dh 10 (zz n)
  have h3 := Bt.Dh 10 s.size
  have h4 := Bt.Dh 10 l.length
  have h5 := Bt.Fi s
  have h6 := flat_sum l
  have hss : (s.size : Int) ≤ 900 := by omega
  have e : ((if k = 1 then Db 10 (zz n) else if k = 2 then be8 (Di f) else if k = 3 then Dp s else if k = 4 then Db 10 l.length ++ (l.map Pf.VT.form).flatten else []).length : Int) ≤ 11 + s.size + (l.map (fun t => (Pf.VT.form t).length)).sum := by
   have hnn : (0 : Int) ≤ ((l.map (fun t => (Pf.VT.form t).length)).sum : Int) := Int.natCast_nonneg _
   split
   ·omega
   ·split
    ·simp [be8]; omega
    ·split
     ·unfold Dp; rw [List.length_append]; omega
     ·split
      ·rw [List.length_append, h6]; push_cast; omega
      ·simp; omega
  push_cast
  omega
theorem FT {t : VT} (h : t.few = true) : (Pf.VT.form t).length ≤ 21600 := by
 unfold VT.few at h
 rw [Bool.and_eq_true, decide_eq_true_iff] at h
 have := Pn t 900 (by omega) h.1
 omega
theorem form_any (t : VT) : ∀ (d : Nat) (w : World) (lo hi : Nat) (v : Value), t.valid d = true → (Pf.VT.form t).length ≤ 100000 → t.Slim 900 → Rep w lo hi t v → hi ≤ w.heap.size → Calls Tryz.prog 144 #[v] w (KB w (Pf.VT.form t)) := by
 induction t using VT.ind with
 | _ k n f s l ih =>
  intro d w lo hi v hv hlen hS hR hz
  obtain ⟨A, cap, rfl, ho, hl, hk⟩ := hR.head
  obtain ⟨hs9, hl9, hkS⟩ := Vt.OO.1 hS
  rw [Pf.Oj] at hlen ⊢
  have hu := Bt.Dh 10 k.toNat
  rw [List.length_append] at hlen
  rcases Pf.FM hv with ⟨rfl, -⟩ | ⟨rfl, -⟩ | ⟨rfl, -⟩ | ⟨rfl, -⟩ | ⟨rfl, -, -, -, hkv⟩
  ·exact GN 0 (by omega) 234 240 [] (by simp) n f s A l.length cap w (fun W => Fs 0 W) m_none e_none (fun W hW => SR _ _ _ _ _ _ _ W)
  ·exact GN 1 (by omega) 230 227 (Db 10 (zz n)) (by have := Bt.Dh 10 (zz n); omega) n f s A l.length cap w (fun W => Fs 1 W) m_int e_int (fun W hW => (Lk _ rfl _ n ho.n0 ho.n1 f s A _ _ W).mono fun _ _ h => h.ki)
  ·exact GN 2 (by omega) 231 231 (be8 (Di f)) (by simp [be8]) n f s A l.length cap w (fun W => Fs 2 W) m_float e_float (fun W hW => (XO _ rfl _ n f ho.f1 s A _ _ W).mono fun _ _ h => h.ki)
  ·exact GN 3 (by omega) 232 234 (Dp s) (by have := Bt.Dh 10 s.size; have := Bt.Fi s; unfold Dp; rw [List.length_append]; omega) n f s A l.length cap w (fun W => Fs 3 W) m_text e_text (fun W hW => (YE _ rfl _ n f s (by omega) A _ _ W).mono fun _ _ h => h.ki)
  ·rw [if_neg (by omega), if_neg (by omega), if_neg (by omega), if_pos rfl] at hlen ⊢
   rw [List.length_append] at hlen
   have hfl : ∀ i (h : i < l.length), (Pf.VT.form l[i]).length ≤ 100000 := fun i hi => by
    have h1 := OI l (i + 1)
    rw [FJ l i hi, List.length_append] at h1
    omega
   refine GN 4 (by omega) 233 237 _ (by rw [List.length_append]; omega) n f s A l.length cap w (fun W => Fs 4 W) m_list e_list (fun W hW => ?_)
   exact (Je _ n f s l A cap hl ho.m1 W lo hi (hk.later (hW.mono hz)) (Nat.le_trans hz hW.size) (by omega) (fun i hi W lo hi' v h1 h2 => ih i hi (d - 1) W lo hi' v (hkv _ (List.getElem_mem hi)) (hfl i hi) (hkS i hi) h1 h2)).mono fun _ _ h => h.ki
theorem YA (t : VT) (hfew : t.few = true) (lo hi : Nat) (vk vn : Int) (vf : Nat) (vs : ByteArray) (A : Option Addr) (m c : Nat) (w : World) (hv : Rep w lo hi t (.agg #[.int .i64 vk, .int .i64 vn, .float .f64 vf, .string vs, .slice A m c])) (hz : hi ≤ w.heap.size) (hval : t.valid 8 = true) :
  Calls Tryz.prog 101 #[.agg #[.int .i64 vk, .int .i64 vn, .float .f64 vf, .string vs, .slice A m c]] w fun e w' => ∃ v, e = .returned (.tuple #[v, .bool true]) ∧ BOwn w' w.heap.size v (Pf.VT.form t) ∧ Below w.heap.size w w' := by
 obtain ⟨W0, hW0⟩ : ∃ W0, W0 = w.alloc (.cells #[.int .i64 vk, .int .i64 vn, .float .f64 vf, .string vs, .slice A m c] 69) := ⟨_, rfl⟩
 have hB0 : Below w.heap.size w W0 := by rw [hW0]; exact (Below.refl _ _).alloc (Nat.le_refl _) _
 have hbx : BoxAt W0 w.heap.size vk vn vf vs A m c := by rw [hW0]; exact BoxAt.new ..
 have hz0 : w.heap.size < W0.heap.size := by rw [hW0]; simp
 have HBX : Hid (∀ W, Below W0.heap.size W0 W → BoxAt W w.heap.size vk vn vf vs A m c) := Lib.hid fun W hW => hbx.later hW hz0
 have HV := Lib.hid (Vt.UB t W0 lo hi _ (hv.later (hB0.mono hz)) (Nat.le_trans hz hB0.size))
 rw [hval] at HV
 have HF := Lib.hid fun W (hW : Below W0.heap.size W0 W) => form_any t 8 W lo hi _ hval (by have := FT hfew; omega) (Vt.Oz t hfew) ((hv.later (hB0.mono hz)).later (hW.mono (Nat.le_trans hz hB0.size))) (Nat.le_trans hz (Nat.le_trans hB0.size hW.size))
 have HB0 := Lib.hid hB0
 obtain ⟨c0, c1, c2, c3, c4⟩ := hbx.cells
 clear hB0 hbx hv
 replace hW0 := Lib.hid hW0
 go_enter Tryz.func101, Tryz.ntmps101
 go_upto_region 1 with fail
 rw [← hW0.out]
 go_wp2_with fail
 refine HV.out.mono ?_
 rintro e w1 ⟨rfl, hb1⟩
 obtain ⟨d0, d1, d2, d3, d4⟩ := (HBX.out w1 hb1).cells
 have HB1 := Lib.hid hb1
 clear hb1 c0 c1 c2 c3 c4
 go_wp2_with fail
 refine (HF.out _ HB1.out).mono ?_
 rintro e w2 ⟨v, rfl, hown, hb2⟩
 have HO2 := Lib.hid hown
 have HB2 := Lib.hid hb2
 clear hown hb2
 go_wp2_with fail
 have hz1 := Nat.le_trans HB0.out.size HB1.out.size
 exact bodyPost_ret (v := .tuple #[v, .bool true]) (by simp [results, Tryz.results101, go_sem]) rfl ⟨v, rfl, HO2.out.base hz1, HB0.out.trans ((HB1.out.trans (HB2.out.mono HB1.out.size)).mono HB0.out.size)⟩
open Bt (sel OK)
open Pf (UG)
open Ev (EV Dk Dc Dn EBox Pa zeroT Dm PR JT Gr Pc DG)
open Cm (DX)
def FC (e : EV) (j : Nat) : Bool := (Dm e.k.toNat).contains j
def DM (e : EV) : List Nat := [1] ++ Db 10 e.k.toNat ++ sel [FC e 0, FC e 1, FC e 2, FC e 3, FC e 4, FC e 5] [Db 10 e.id, Db 10 e.n.toNat, Db 10 e.at', Dp e.name, Dp e.text, Pf.VT.form e.v] 6
structure VE (e : EV) : Prop where
 k1 : 1 ≤ e.k
 k2 : e.k ≤ 11
 i0 : FC e 0 = false → e.id = 0
 i1 : FC e 0 = true → 0 < e.id
 n0 : FC e 1 = false → e.n = 0
 n1 : 0 ≤ e.n
 n2 : e.n ≤ 2147483647
 n3 : FC e 1 = true → 1 ≤ e.n
 a0 : FC e 2 = false → e.at' = 0
 a1 : e.at' ≤ 9223372036854775807
 s0 : FC e 3 = false → e.name = ⟨#[]⟩
 s1 : e.name.size ≤ 1000
 s2 : FC e 3 = true → e.name.toList.isEmpty = false
 t0 : FC e 4 = false → e.text = ⟨#[]⟩
 t1 : e.text.size ≤ 1000
 v0 : FC e 5 = false → e.v.same zeroT = true
 v1 : e.v.valid 8 = true
theorem Gp {s : ByteArray} (h : s.toList.isEmpty = true) : s = ⟨#[]⟩ := by
 rw [Vt.DR] at h
 cases s with | mk d => simp at h; rw [h]
theorem VH : zeroT.valid 8 = true := by unfold zeroT; rw [Vt.GE]; simp; decide
theorem UA {e : EV} (h : e.valid = true) : VE e := by
 unfold EV.valid Pc at h
 simp only [Bool.and_eq_true, decide_eq_true_iff, List.all_cons, List.all_nil, Bool.and_true] at h
 obtain ⟨⟨k1, k2⟩, h0, h1, h2, h3, h4, h5⟩ := h
 have pick : ∀ {b f z : Bool}, DG b f z = true → (b = true → f = true) ∧ (b = false → z = true) := fun {b f z} hh => by
  unfold DG at hh
  cases b with
  | true => rw [if_pos rfl] at hh; exact ⟨fun _ => hh, fun h => Bool.noConfusion h⟩
  | false => rw [if_neg (by simp)] at hh; exact ⟨fun h => Bool.noConfusion h, fun _ => hh⟩
 obtain ⟨p0, q0⟩ := pick h0
 obtain ⟨p1, q1⟩ := pick h1
 obtain ⟨p2, q2⟩ := pick h2
 obtain ⟨p3, q3⟩ := pick h3
 obtain ⟨p4, q4⟩ := pick h4
 obtain ⟨p5, q5⟩ := pick h5
 have e1 : ∀ b : Bool, b = true ∨ b = false := fun b => by cases b <;> simp
 have fn : ∀ h : FC e 1 = false, e.n = 0 := fun h => by have := q1 h; simpa using this
 have tn : ∀ h : FC e 1 = true, 1 ≤ e.n ∧ e.n ≤ 2147483647 := fun h => by have := p1 h; simpa using this
 have fs : ∀ h : FC e 3 = false, e.name = ⟨#[]⟩ := fun h => Gp (q3 h)
 have ts : ∀ h : FC e 3 = true, e.name.toList.isEmpty = false ∧ e.name.size ≤ 1000 := fun h => by
  have := p3 h
  simp only [Bool.and_eq_true, Bool.not_eq_true', decide_eq_true_iff] at this
  exact this
 have ft : ∀ h : FC e 4 = false, e.text = ⟨#[]⟩ := fun h => Gp (q4 h)
 refine ⟨k1, k2, fun h => by have := q0 h; simpa using this, fun h => by have := p0 h; simpa using this, fn, ?_, ?_, fun h => (tn h).1, fun h => by have := q2 h; simpa using this, ?_, fs, ?_, fun h => (ts h).1, ft, ?_, fun h => q5 h, ?_⟩
 ·rcases e1 (FC e 1) with h | h
  ·have := tn h; omega
  ·rw [fn h]; omega
 ·rcases e1 (FC e 1) with h | h
  ·exact (tn h).2
  ·rw [fn h]; omega
 ·rcases e1 (FC e 2) with h | h
  ·have := p2 h; simpa using this
  ·have : e.at' = 0 := by have := q2 h; simpa using this
   omega
 ·rcases e1 (FC e 3) with h | h
  ·exact (ts h).2
  ·rw [fs h]; decide
 ·rcases e1 (FC e 4) with h | h
  ·have := p4 h; simpa using this
  ·rw [ft h]; decide
 ·rcases e1 (FC e 5) with h | h
  ·exact p5 h
  ·rw [Vt.SJ e.v zeroT 8 (q5 h)]; exact VH
theorem Js (e : EV) (hval : e.valid = true) (hf : Dk e) (hfew : e.v.few = true) (lo hi : Nat) (vk vn : Int) (vf : Nat) (vs : ByteArray) (A : Option Addr) (m c : Nat) (w : World) (hv : Rep w lo hi e.v (Dn vk vn vf vs A m c)) (hz : hi ≤ w.heap.size) :
  Calls Tryz.prog 61 #[.agg (Dc e vk vn vf vs A m c)] w fun r w' => ∃ v, r = .returned (.tuple #[v, .bool true]) ∧ BOwn w' w.heap.size v (DM e) ∧ Below w.heap.size w w' := by
 have V := UA hval
 have hev := fun W (hW : Below w.heap.size w W) => Gr e W lo hi _ ⟨hf, vk, vn, vf, vs, A, m, c, rfl, hv.later (hW.mono hz)⟩ (Nat.le_trans hz hW.size)
 obtain ⟨kn, hkn⟩ : ∃ kn : Nat, e.k = kn := ⟨e.k.toNat, by have := V.k1; omega⟩
 obtain ⟨nn, hnn⟩ : ∃ nn : Nat, e.n = nn := ⟨e.n.toNat, by have := V.n1; omega⟩
 have k1 := V.k1; have k2 := V.k2; have n2 := V.n2
 have hkt : e.k.toNat = kn := by omega
 have hnt : e.n.toNat = nn := by omega
 unfold DM FC
 rw [hkt, hnt]
 unfold Dc at hev ⊢
 rw [hkn, hnn] at hev ⊢
 exact OK kn e.id nn e.at' e.name e.text (by omega) hf.i1 (by omega) hf.a1 V.s1 V.t1 vk vn vf vs A m c (PR kn) ((Dm kn).contains 0) ((Dm kn).contains 1) ((Dm kn).contains 2) ((Dm kn).contains 3) ((Dm kn).contains 4) ((Dm kn).contains 5) (Pf.VT.form e.v) (by have := FT hfew; omega) w
  (fun W hW => (hev W hW).mono fun r w' h => by rw [hval] at h; exact h)
  (fun W => JT kn (by omega) (by omega) W)
  (fun W hW => YA e.v hfew lo hi vk vn vf vs A m c W (hv.later (hW.mono hz)) (Nat.le_trans hz hW.size) V.v1)
theorem sel6 (b0 b1 b2 b3 b4 b5 : Bool) (p0 p1 p2 p3 p4 p5 : List Nat) : sel [b0, b1, b2, b3, b4, b5] [p0, p1, p2, p3, p4, p5] 6 = (if b0 then p0 else []) ++ ((if b1 then p1 else []) ++ ((if b2 then p2 else []) ++ ((if b3 then p3 else []) ++ ((if b4 then p4 else []) ++ (if b5 then p5 else []))))) := by simp [sel]
end Vf
namespace Rd
open _root_.Go.Proofs.YtfmnacebgplpcaaGreat.Nm (Di ofW okW)
open Bt (Db sb)
open Vt (VT)
open Ev (EV Dm)
def rep {α : Type} (p : St → Option (St × α)) : Nat → St → Option (St × List α)
 | 0, s => some (s, [])
 | n + 1, s => match p s with
  | none => none
  | some (s1, t) => match rep p n s1 with
   | none => none
   | some (s2, ts) => some (s2, t :: ts)
def beN (l : List Nat) : Nat := l.foldl (fun a b => a * 256 + b) 0
def pv : Nat → St → Option (St × VT)
 | left, s =>
  let q := Gh s
  if q.1.2 = true ∨ 4 < q.2 then none
  else if q.2 = 0 then some (q.1, .mk 0 0 0 ⟨#[]⟩ [])
  else if q.2 = 1 then (let z := Gh q.1; if z.1.2 = true then none else some (z.1, .mk 1 (unzz z.2) 0 ⟨#[]⟩ []))
  else if q.2 = 2 then (let z := rTake q.1 8; if z.1.2 = true ∨ okW (beN z.2) = false then none else some (z.1, .mk 2 0 (ofW (beN z.2)) ⟨#[]⟩ []))
  else if q.2 = 3 then (let z := Ja q.1; if z.1.2 = true then none else some (z.1, .mk 3 0 0 (strOf z.2) []))
  else match left with
   | 0 => none
   | left + 1 => let z := Gh q.1; match rep (pv left) z.2 z.1 with
    | none => none
    | some (s3, ts) => if s3.2 = true then none else some (s3, .mk 4 0 0 ⟨#[]⟩ ts)
open Bt (Fi)
open Pf (Dp zz be8 Oj Sk)
theorem Kd : Di 0 = 0 := by decide
def rText (s : St) : St × ByteArray := ((Ja s).1, strOf (Ja s).2)
open _root_.Go.Proofs.YtfmnacebgplpcaaGreat.Nm (Ds Df)
open Vt (Rep)
open Ev (Dk Dc Dn Pa zeroT Pc DG)
open Cm (GM)
theorem rv1 (b : Bool) (id : Nat) : (!(b != ((id : Int) != 0))) = DG b (decide (0 < id)) ((id : Int) == 0) := by
 by_cases h : id = 0
 ·subst h; cases b <;> rfl
 ·have h1 : ((id : Int) == 0) = false := beq_eq_false_iff_ne.2 (by omega)
  have h2 : ((id : Int) != 0) = true := by simp [bne, h1]
  rw [h1, h2, decide_eq_true (by omega)]
  cases b <;> rfl
theorem rv2 (b : Bool) (n : Int) : (!((b && (decide (n < 1) || decide (2147483647 < n))) || (!b && (n != 0)))) = DG b (decide (1 ≤ n ∧ n ≤ 2147483647)) (n == 0) := by
 cases b with
 | true =>
  unfold DG
  rw [if_pos rfl]
  by_cases h1 : n < 1
  ·rw [decide_eq_true h1, decide_eq_false (by omega : ¬ (1 ≤ n ∧ n ≤ 2147483647))]; rfl
  ·by_cases h2 : 2147483647 < n
   ·rw [decide_eq_false h1, decide_eq_true h2, decide_eq_false (by omega : ¬ (1 ≤ n ∧ n ≤ 2147483647))]; rfl
   ·rw [decide_eq_false h1, decide_eq_false h2, decide_eq_true (by omega : (1 ≤ n ∧ n ≤ 2147483647))]; rfl
 | false =>
  unfold DG
  rw [if_neg (by simp)]
  simp [bne]
theorem rv3 (b : Bool) (a : Nat) : (!(decide ((9223372036854775807 : Int) < (a : Int)) || (!b && ((a : Int) != 0)))) = DG b (decide (a ≤ 9223372036854775807)) ((a : Int) == 0) := by
 by_cases h : (9223372036854775807 : Int) < (a : Int)
 ·rw [decide_eq_true h, decide_eq_false (by omega : ¬ a ≤ 9223372036854775807), beq_eq_false_iff_ne.2 (by omega : (a : Int) ≠ 0)]
  cases b <;> rfl
 ·rw [decide_eq_false h, decide_eq_true (by omega : a ≤ 9223372036854775807)]
  cases b <;> simp [DG, bne]
theorem SB {s : ByteArray} (h : s.toList.isEmpty = true) : s.size = 0 := by rw [Vf.Gp h]; rfl
theorem rv4 (b c : Bool) (s t : ByteArray) : (!((b != !s.toList.isEmpty) || decide ((1000 : Int) < (s.size : Int)) || decide ((1000 : Int) < (t.size : Int)) || (!c && !t.toList.isEmpty))) = (DG b (!s.toList.isEmpty && decide (s.size ≤ 1000)) s.toList.isEmpty && DG c (decide (t.size ≤ 1000)) t.toList.isEmpty) := by
 have e1 : ∀ x : ByteArray, decide ((1000 : Int) < (x.size : Int)) = !decide (x.size ≤ 1000) := fun x => by
  by_cases h : x.size ≤ 1000
  ·rw [decide_eq_true h, decide_eq_false (by omega)]; rfl
  ·rw [decide_eq_false h, decide_eq_true (by omega)]; rfl
 rw [e1, e1]
 have hs : s.toList.isEmpty = true → decide (s.size ≤ 1000) = true := fun h => decide_eq_true (by rw [SB h]; omega)
 have ht : t.toList.isEmpty = true → decide (t.size ≤ 1000) = true := fun h => decide_eq_true (by rw [SB h]; omega)
 revert hs ht
 generalize s.toList.isEmpty = E
 generalize t.toList.isEmpty = T
 generalize decide (s.size ≤ 1000) = x
 generalize decide (t.size ≤ 1000) = y
 unfold DG
 revert b c E T x y
 decide
theorem rv5 (b : Bool) (v : VT) : (v.valid 8 && (b || (v.k == 0))) = DG b (v.valid 8) (v.same zeroT) := by
 cases b with
 | true => unfold DG; simp
 | false =>
  unfold DG
  rw [if_neg (by simp), Bool.false_or, Bool.eq_iff_iff, Bool.and_eq_true, beq_iff_eq]
  obtain ⟨k, n, f, s, l⟩ := v
  constructor
  ·rintro ⟨h, rfl⟩
   rcases Pf.FM h with ⟨-, rfl, h3, h4, rfl⟩ | ⟨h0, -⟩ | ⟨h0, -⟩ | ⟨h0, -⟩ | ⟨h0, -⟩
   ·obtain rfl := Pf.UG h4
    exact Pf.YJ (by rw [h3, Kd]) rfl fun i hi => absurd hi (by simp)
   all_goals exact absurd h0 (by decide)
  ·intro h
   refine ⟨by rw [Vt.SJ _ _ 8 h]; exact Vf.VH, ?_⟩
   exact ((Vt.GI ..).1 h).1
theorem YM (e : EV) (h1 : 1 ≤ e.k) (h2 : e.k ≤ 11) (lo hi : Nat) (vk vn : Int) (vf : Nat) (vs : ByteArray) (A : Option Addr) (m c : Nat) (w : World) (hv : Rep w lo hi e.v (Dn vk vn vf vs A m c)) (hz : hi ≤ w.heap.size) :
  Calls Tryz.prog 65 #[.agg (Dc e vk vn vf vs A m c)] w fun r w' => r = .returned (.bool e.valid) ∧ Below w.heap.size w w' := by
 obtain ⟨k, id, n, at', name, text, v⟩ := e
 simp only at h1 h2 hv
 obtain ⟨k', rfl⟩ : ∃ k' : Nat, k = k' := ⟨k.toNat, by omega⟩
 have hvk : vk = v.k := by
  obtain ⟨kk, nn, ff, ss, ll⟩ := v
  obtain ⟨A', cap, heq, -⟩ := hv.head
  unfold Dn at heq
  injection heq with heq
  simp at heq
  exact heq.1
 have hf : ∀ cc q, (cc, q) ∈ [(105, 0), (110, 1), (97, 2), (115, 3), (116, 4), (118, 5)] → Hid (∀ W, Calls Tryz.prog 104 #[.int .i64 (k' : Nat), .int .u8 (cc : Nat)] W fun r w' => r = .returned (.bool ((Dm k').contains q)) ∧ Below W.heap.size W w') := fun cc q hq => Lib.hid fun W => GM k' (by omega) (by omega) cc q hq W
 have := YL k' id n at' name text v lo hi vk vn vf vs A m c w hv hz (by omega) (by omega) ((Dm k').contains 0) ((Dm k').contains 1) ((Dm k').contains 2) ((Dm k').contains 3) ((Dm k').contains 4) ((Dm k').contains 5)
  _ _ _ _ _ _ _ _ _ _ _ rfl rfl rfl rfl rfl rfl rfl rfl rfl rfl rfl _ _ _ _ rfl rfl rfl rfl (hf 105 0 (by simp)) (hf 110 1 (by simp)) (hf 97 2 (by simp)) (hf 115 3 (by simp)) (hf 116 4 (by simp)) (hf 118 5 (by simp))
 refine this.mono fun r w' h => ⟨?_, h.2⟩
 rw [h.1]
 congr 2
 unfold EV.valid Pc
 simp only [Int.toNat_natCast, List.all_cons, List.all_nil, Bool.and_true]
 rw [decide_eq_true (show (1 : Int) ≤ (k' : Int) ∧ (k' : Int) ≤ 11 from ⟨h1, h2⟩), Bool.true_and, rv1, rv2, rv3, rv4, hvk, rv5]
 simp only [Bool.and_assoc]
open Vt (BoxAt Da)
open Ev (EBox Dy tk ap rd1 rd2 Dj)
open Cm (Dl EvsIn)
open Cn (BB Dt DI)
theorem Q348.Y346 (h : p := by
 refine tk 10 rfl ?_
 refine tk 11 rfl ?_
 refine tk 12 rfl ?_
 refine tk 13 rfl ?_
 refine tk 14 rfl ?_
 refine tk 15 rfl ?_
 refine tk 16 rfl ?_
 refine wpAnyH_done (by kernel_rfl) ?_ _
 refine NoPanic.normal ?_
 go_wp2_with fail
 go_ret
 exact ⟨rfl, Da HB0.out⟩) : p := h
theorem M50 (h : p := by
 clear hk
 refine wp_region_noPanic ?_
 refine wp_region_held_drew (S := (fun W' : World => W'.cell? ⟨w.heap.size, 0, none⟩ = some (.int .i64 k))) (by kernel_rfl) ?_ (fun hHeld => ?_)
 ·exact HS.out _ (Da (Below.refl _ _))
 open Q348 in exact M346) : p := h
theorem YK (k : Int) (hk : k < 1 ∨ 11 < k) (id : Nat) (n : Int) (at' : Nat) (name text : ByteArray) (vk vn : Int) (vf : Nat) (vs : ByteArray) (A : Option Addr) (m c : Nat) (w : World) :
  Calls Tryz.prog 65 #[.agg #[.int .i64 k, .int .u64 (id : Nat), .int .i64 n, .int .u64 (at' : Nat), .string name, .string text, .int .i64 vk, .int .i64 vn, .float .f64 vf, .string vs, .slice A m c]] w fun r w' => r = .returned (.bool false) ∧ Below w.heap.size w w' := by
 obtain ⟨W0, hW0⟩ : ∃ W0, W0 = w.alloc (.cells #[.int .i64 k, .int .u64 (id : Nat), .int .i64 n, .int .u64 (at' : Nat), .string name, .string text, .int .i64 vk, .int .i64 vn, .float .f64 vf, .string vs, .slice A m c] 71) := ⟨_, rfl⟩
 have HB0 : Hid (Below w.heap.size w W0) := Lib.hid (by rw [hW0]; exact (Below.refl _ _).alloc (Nat.le_refl _) _)
 have hbx : EBox W0 w.heap.size #[.int .i64 k, .int .u64 (id : Nat), .int .i64 n, .int .u64 (at' : Nat), .string name, .string text, .int .i64 vk, .int .i64 vn, .float .f64 vf, .string vs, .slice A m c] := by rw [hW0]; exact heap_alloc_new w _
 have HS : Hid (∀ W' : World, Below W0.heap.size W0 W' → W'.cell? ⟨w.heap.size, 0, none⟩ = some (.int .i64 k)) := Lib.hid fun W hW => by
  obtain ⟨c0, -⟩ := EBox.cells (hbx.later hW (by rw [hW0]; simp))
  exact c0
 clear hbx
 replace hW0 := Lib.hid hW0
 go_enter Tryz.func65, Tryz.ntmps65
 go_upto_region 1 with fail
 rw [← hW0.out]
 by_cases h1 : k < 1
 ·have g1 : decide (k < 1) = true := decide_eq_true h1
  exact M50
 ·have g1 : decide (k < 1) = false := decide_eq_false h1
  have g2 : decide (11 < k) = true := decide_eq_true (by omega)
  exact M50
theorem Ko (e : EV) (h : ¬ (1 ≤ e.k ∧ e.k ≤ 11)) : e.valid = false := by unfold EV.valid; rw [decide_eq_false h]; rfl
theorem GU (e : EV) (lo hi : Nat) (vk vn : Int) (vf : Nat) (vs : ByteArray) (A : Option Addr) (m c : Nat) (w : World) (hv : Rep w lo hi e.v (Dn vk vn vf vs A m c)) (hz : hi ≤ w.heap.size) :
  Calls Tryz.prog 65 #[.agg (Dc e vk vn vf vs A m c)] w fun r w' => r = .returned (.bool e.valid) ∧ Below w.heap.size w w' := by
 by_cases hk : 1 ≤ e.k ∧ e.k ≤ 11
 ·exact YM e hk.1 hk.2 lo hi vk vn vf vs A m c w hv hz
 ·rw [Ko e hk]
  exact YK e.k (by omega) e.id e.n e.at' e.name e.text vk vn vf vs A m c w
theorem Ue (es : List EV) (j : Nat) (h : j < es.length) : (es.take (j + 1)).any DI = ((es.take j).any DI || DI es[j]) := by
 rw [List.take_succ_eq_append_getElem h, List.any_append]; simp
theorem JF (es : List EV) (j : Nat) (h : j < es.length) (hw : DI es[j] = true) : es.any DI = true := List.any_eq_true.2 ⟨_, List.getElem_mem h, hw⟩
theorem M157 (h : p := by
 go_wp2_with fail
 go_ret
 exact ⟨Df (by unfold Dt; rw [decide_eq_false HH.out]; simp), HBW.out⟩) : p := h
theorem GY (es : List EV) (f : ByteArray) (hfs : f.size ≤ maxLen) (at' : Nat) (hat : at' < 18446744073709551616) (A : Option Addr) (cap : Nat) (w : World) (h : EvsIn w A cap es) :
  Calls Tryz.prog 32 #[.agg #[.string f, .int .u64 at', .slice A es.length cap]] w fun r w' => r = .returned (.bool (Dt f at' es)) ∧ Below w.heap.size w w' := by
 simp only [maxLen] at hfs
 have hle := h.le
 have hc := h.cap_le
 simp only [maxLen] at hc
 obtain ⟨W0, hW0⟩ : ∃ W0, W0 = w.alloc (.cells #[.string f, .int .u64 at', .slice A es.length cap] 33) := ⟨_, rfl⟩
 have hx0 : BB W0 w.heap.size f at' A es.length cap := by rw [hW0]; exact heap_alloc_new w _
 have hb0 : Below w.heap.size w W0 := by rw [hW0]; exact (Below.refl _ _).alloc (Nat.le_refl _) _
 have hz0 : w.heap.size < W0.heap.size := by rw [hW0]; simp
 have HK := Lib.hid (h.later hb0)
 have HBX : Hid (∀ W, Below W0.heap.size W0 W → BB W w.heap.size f at' A es.length cap) := Lib.hid fun W hW => hx0.later hW hz0
 have HB0 := Lib.hid hb0
 have HFZ : Hid (f.toList.isEmpty = decide (f.size = 0)) := Lib.hid (by rw [Vt.DR]; cases f with | mk d => cases d with | mk l => cases l <;> simp [ByteArray.size])
 clear h hx0 hb0
 replace hW0 := Lib.hid hW0
 generalize hn : es.length = n at *
 have HN := Lib.hid hn; clear hn
 go_enter Tryz.func32, Tryz.ntmps32
 go_upto_region 1 with fail
 rw [← hW0.out]
 go_wp2_with fail
 go_loopw [2, 3] (fun r i wr => ∃ (j : Nat), j ≤ n ∧ i = .int .i64 j ∧ r = .bool false ∧ (es.take j).any DI = false ∧ Below W0.heap.size W0 wr) (fun _ i _ => n - (intOf i).toNat)
 case atStart => exact ⟨0, by omega, rfl, rfl, rfl, Below.refl _ _⟩
 case round =>
  obtain ⟨j, hj, rfl, rfl, hany, hb⟩ := hrel
  have HA := Lib.hid hany; have HB := Lib.hid hb
  obtain ⟨d0, d1, d2, -⟩ := (HBX.out _ hb).cells
  clear hany hb
  have HBF : Hid (∀ W, Below wr.heap.size wr W → Below w.heap.size w W) := Lib.hid fun W hW => HB0.out.trans ((HB.out.trans (hW.mono HB.out.size)).mono HB0.out.size)
  by_cases hkl : j < n
  ·have hke : j < es.length := by have := HN.out; omega
   obtain ⟨b2, off2, lo, hi, vk, vn, vf, vs, A2, m2, c2, rfl, hbl2, hf, hv, hhi, e0, e1, e2, e3, e4, e5, e6, e7, e8, e9, e10⟩ := (HK.out.later HB.out).get j hke
   have HC := Lib.hid (GU es[j] lo hi vk vn vf vs A2 m2 c2 _ hv hhi)
   have HT := Lib.hid (Ue es j hke)
   have HTA := Lib.hid (JF es j hke)
   unfold Dc at HC
   clear hf hv
   go_wp2_with fail
   refine HC.out.mono ?_
   rintro x w1 ⟨rfl, hb1⟩
   have HB1 := Lib.hid hb1
   clear hb1 e0 e1 e2 e3 e4 e5 e6 e7 e8 e9 e10 d0 d1 d2 HC
   cases hp : es[j].valid with
   | true =>
    have HP := Lib.hid hp; clear hp
    go_wp2_with fail
    go_roundw
    case rel => exact ⟨j + 1, by omega, by go_num, rfl, by rw [HT.out, HA.out]; simp [DI, HP.out], HB.out.trans (HB1.out.mono HB.out.size)⟩
    case measure => simp [intOf]; omega
   | false =>
    have HP := Lib.hid hp; clear hp
    go_wp2_with fail
    go_ret
    exact ⟨Df (by unfold Dt; rw [HTA.out (by simp [DI, HP.out])]; simp), HBF.out _ HB1.out⟩
  ·have hk' : j = n := by omega
   subst hk'
   have HAA : Hid (es.any DI = false) := Lib.hid (by have := HA.out; rw [← HN.out, List.take_length] at this; exact this)
   have HBW : Hid (Below w.heap.size w wr) := Lib.hid (HBF.out _ (Below.refl _ _))
   by_cases h1 : 1 ≤ f.size
   ·have g1 : decide ((1 : Int) ≤ (f.size : Int)) = true := decide_eq_true (by omega)
    by_cases h2 : f.size ≤ 1000
    ·have g2 : decide ((f.size : Int) ≤ 1000) = true := decide_eq_true (by omega)
     by_cases h3 : at' ≤ 9223372036854775807
     ·have g3 : decide ((at' : Int) ≤ 9223372036854775807) = true := decide_eq_true (by omega)
      have HH := Lib.hid (And.intro h1 (And.intro h2 h3))
      clear h3
      go_wp2_with fail
      go_ret
      exact ⟨Df (by obtain ⟨z1, z2, z3⟩ := HH.out; unfold Dt; rw [HAA.out, HFZ.out, HN.out, decide_eq_true z2, decide_eq_true z3, decide_eq_false (by omega : ¬ f.size = 0)]; simp), HBW.out⟩
     ·have g3 : decide ((at' : Int) ≤ 9223372036854775807) = false := decide_eq_false (by omega)
      have HH := Lib.hid h3
      clear h3
      exact M157
    ·have g2 : decide ((f.size : Int) ≤ 1000) = false := decide_eq_false (by omega)
     have HH := Lib.hid h2
     exact M157
   ·have g1 : decide ((1 : Int) ≤ (f.size : Int)) = false := decide_eq_false (by omega)
    have HH := Lib.hid h1
    go_wp2_with fail
    go_ret
    exact ⟨Df (by unfold Dt; rw [HFZ.out, decide_eq_true (by have := HH.out; omega : f.size = 0)]; simp), HBW.out⟩
end Rd
namespace Rf
open _root_.Go.Proofs.YtfmnacebgplpcaaGreat.Nm (Di Ds Df)
open Bt (BOwn BIn Db sb GQ Dd bv)
open Pf (zz VG be8 Dp)
open Vf (KB DP)
open Cn (BRd)
theorem JN {f y : Nat} (h : y < 128 ^ (f + 1)) (h2 : 128 ≤ y) : ∃ g, f = g + 1 ∧ y / 128 < 128 ^ (g + 1) ∧ Db f y = (y % 128 + 128) :: Db g (y / 128) := by
 cases f with
 | zero => simp at h; omega
 | succ g =>
  refine ⟨g, rfl, ?_, by rw [Db, if_neg (by omega)]⟩
  rw [Nat.pow_succ] at h
  exact Nat.div_lt_of_lt_mul (by rw [Nat.mul_comm]; exact h)
theorem JO {f y : Nat} (h : y < 128) : Db f y = [y] := by
 cases f with
 | zero => rfl
 | succ g => rw [Db, if_pos h]
theorem ub_big {x : Nat} (h : x < 18446744073709551616) : x < 128 ^ (10 + 1) := Nat.lt_trans h (by decide)
theorem DN (x0 : Nat) (hx : x0 < 18446744073709551616) (w : World) : Calls Tryz.prog 69 #[.int .u64 (x0 : Nat)] w (KB w (Db 10 x0)) := by
 have HX := Lib.hid hx
 have HL := Lib.hid (Bt.Dh 10 x0)
 have HX10 := Lib.hid (ub_big hx)
 clear hx
 go_enter Tryz.func69, Tryz.ntmps69
 go_wp2_with fail
 go_loopw [0, 3] (fun x o wr => ∃ (y f : Nat) (lo : List Nat), x = .int .u64 (y : Nat) ∧ y < 18446744073709551616 ∧ Hid (y < 128 ^ (f + 1)) ∧ Hid (lo ++ Db f y = Db 10 x0) ∧ BOwn wr w.heap.size o lo ∧ Below w.heap.size w wr) (fun x _ _ => (intOf x).toNat)
 case atStart => exact ⟨x0, 10, [], rfl, HX.out, HX10, Lib.hid rfl, GQ _ _, Below.refl _ _⟩
 case round =>
  obtain ⟨y, f, lo, rfl, hy, HY, HE, hown, hb⟩ := hrel
  have HO := Lib.hid hown; have HB := Lib.hid hb
  have HLO : Hid (lo.length ≤ 11) := Lib.hid (by have h1 := congrArg List.length HE.out; rw [List.length_append] at h1; have := HL.out; omega)
  clear hown hb
  by_cases hlt : 128 ≤ y
  ·have k1 : decide ((128 : Int) ≤ (y : Int)) = true := decide_eq_true (by omega)
   obtain ⟨g, hfg, hg, hu⟩ := JN HY.out hlt
   have HG := Lib.hid hg; have HU := Lib.hid hu
   clear hg hu
   have HN := Lib.hid (DP wr ((y : Int) % 128 + 128) (y % 128 + 128) (by omega))
   go_wp2_with (at_builtin; refine Dd _ rfl _ _ rfl w.heap.size _ _ lo [y % 128 + 128] rfl rfl (HO.out.later ((Below.refl _ _).alloc (Nat.le_refl _) _)) HN.out (by have := HLO.out; simp; omega) (by simp; exact Nat.le_succ_of_le HB.out.size) ?_; intro v2 w2 hown2 hg2 hb2; have HO2 := Lib.hid hown2; have HB2 := Lib.hid ((HB.out.alloc HB.out.size _).trans hb2); clear hown2 hb2)
   exact ⟨⟨y / 128, g, lo ++ [y % 128 + 128], by go_num, by omega, HG, Lib.hid (by rw [← HE.out, HU.out]; simp), HO2.out, HB2.out⟩, by simp [intOf]; omega⟩
  ·have k1 : decide ((128 : Int) ≤ (y : Int)) = false := decide_eq_false (by omega)
   have hu := JO (f := f) (by omega : y < 128)
   have HU := Lib.hid hu
   clear hu
   have HN := Lib.hid (DP wr (y : Int) y rfl)
   go_wp2_with (at_builtin; refine Dd _ rfl _ _ rfl w.heap.size _ _ lo [y] rfl rfl (HO.out.later ((Below.refl _ _).alloc (Nat.le_refl _) _)) HN.out (by have := HLO.out; simp; omega) (by simp; exact Nat.le_succ_of_le HB.out.size) ?_; intro v2 w2 hown2 hg2 hb2; have HO2 := Lib.hid hown2; have HB2 := Lib.hid ((HB.out.alloc HB.out.size _).trans hb2); clear hown2 hb2)
   go_ret
   refine ⟨_, rfl, ?_, HB2.out⟩
   have := HO2.out
   rw [show lo ++ [y] = Db 10 x0 from by rw [← HE.out, HU.out]] at this
   exact this
theorem GW (v : Value) (l : List Nat) (hl : l.length ≤ 1000000) (w : World) (h : BIn w v l) : Calls Tryz.prog 68 #[v] w (KB w (Db 10 l.length ++ l)) := by
 obtain ⟨A, cap, rfl⟩ := h.form
 have HV := Lib.hid h
 have HU := Lib.hid (DN l.length (by omega) w)
 have HL := Lib.hid (Bt.Dh 10 l.length)
 have HWR : Hid (IntKind.u64.wrap (l.length : Int) = (l.length : Int)) := Lib.hid (IntWalk.u64_in _ (by omega))
 clear h
 go_enter Tryz.func68, Tryz.ntmps68
 go_wp2_with fail
 refine HU.out.mono ?_
 rintro e w1 ⟨v, rfl, hown, hb⟩
 have HO := Lib.hid hown; have HB := Lib.hid hb
 clear hown hb
 go_wp2_with (at_builtin; refine Dd _ rfl _ _ rfl w.heap.size _ _ (Db 10 l.length) l rfl rfl HO.out (HV.out.later HB.out) (by have := HL.out; omega) HB.out.size ?_; intro v2 w2 hown2 hg2 hb2; have HO2 := Lib.hid hown2; have HB2 := Lib.hid (HB.out.trans hb2); clear hown2 hb2)
 go_ret
 exact ⟨_, rfl, HO2.out, HB2.out⟩
theorem zz_pos (n : Int) (h0 : 0 ≤ n) (h1 : n ≤ 9223372036854775807) : ((zz n : Nat) : Int) = n * 2 := by unfold zz; rw [if_pos h0]; omega
theorem zz_neg (n : Int) (h0 : ¬ 0 ≤ n) (h1 : -9223372036854775808 ≤ n) : ((zz n : Nat) : Int) = -(n + 1) * 2 + 1 := by unfold zz; rw [if_neg h0]; omega
theorem M89 (h : p := by
 rw [HZ.out] at HU
 go_enter Tryz.func192, Tryz.ntmps192
 go_wp2_with fail
 refine HU.out.mono ?_
 rintro e w1 ⟨v, rfl, hown, hb⟩
 have HO := Lib.hid hown; have HB := Lib.hid hb
 clear hown hb
 go_wp2_with fail
 go_ret
 exact ⟨_, rfl, HO.out, HB.out⟩) : p := h
theorem YS (n : Int) (h0 : -9223372036854775808 ≤ n) (h1 : n ≤ 9223372036854775807) (w : World) : Calls Tryz.prog 192 #[.int .i64 n] w (KB w (Db 10 (zz n))) := by
 have HU := Lib.hid (DN (zz n) (VG h0 h1) w)
 by_cases hn : 0 ≤ n
 ·have k1 : decide ((0 : Int) ≤ n) = true := decide_eq_true hn
  have HZ := Lib.hid (zz_pos n hn h1)
  exact M89
 ·have k1 : decide ((0 : Int) ≤ n) = false := decide_eq_false hn
  have HZ := Lib.hid (zz_neg n hn h0)
  exact M89
open _root_.Go.Proofs.YtfmnacebgplpcaaGreat.Nm (FH)
open Vf (DV FJ OI)
open Vt (VT Rep BoxAt Da KidsAt FF)
theorem OL (x : Nat) (h : x < 18446744073709551616) : bits BinOp.and IntKind.u64 (x : Int) 255 % 256 = ((x % 256 : Nat) : Int) := by
 have := bits_and_u64_nat x 255 h (by decide)
 rw [show ((255 : Nat) : Int) = 255 from rfl] at this
 rw [this, show (255 : Nat) = 2 ^ 8 - 1 from rfl, Nat.and_two_pow_sub_one_eq_mod]
 omega
theorem sb_get2 (s : ByteArray) (j : Nat) (h : j < (sb s).length) : (s.data.toList.getD j 0).toNat = (sb s)[j] := by
 have hl : j < s.data.toList.length := by simpa [sb] using h
 simp [sb, List.getD_eq_getElem?_getD, List.getElem?_eq_getElem hl]
theorem Vo (W : World) (s : ByteArray) (hs : s.size ≤ 1000000) : ∃ cc W0, (convert 9 40 (.string s)).run Tryz.prog W = .ok (.slice (some ⟨W.heap.size, 0, none⟩) s.size cc) W0 ∧ BIn W0 (.slice (some ⟨W.heap.size, 0, none⟩) s.size cc) (sb s) ∧ Below W.heap.size W W0 := by
 have hcv := Lib.run_convert_string_bytes (P := Tryz.prog) W 9 40 5 s (u := .string) Tryz.underlying9 Tryz.underlying40 Tryz.underlying5
 refine ⟨_, _, hcv, .inr ⟨⟨W.heap.size, 0, none⟩, _, by rw [Bt.Fi], by rw [Bt.Fi]; exact grownCap_ge .., grownCap_le_maxLen _ _ _ _ (by simp only [maxLen]; omega), by rw [Lib.bytesWorld_size]; simp, fun j u hu => ?_⟩, Lib.bytesWorld_below _ _ _⟩
 have hj : j < (sb s).length := by have := (List.getElem?_eq_some_iff.1 hu).1; simpa using this
 have e : u = bv (sb s)[j] := by
  have := List.getElem?_map (f := bv) (l := sb s) (i := j)
  rw [hu, List.getElem?_eq_getElem hj] at this
  simpa using this
 rw [Go.WideShapes.add_plain, Nat.zero_add, Lib.bytesWorld_cell _ _ _ _ (by rw [Bt.Fi] at hj; exact hj), sb_get2 s j hj, e]; rfl
theorem Q323.Y319 (h : p := by
 go_wp2_with fail
 go_ret
 exact ⟨_, rfl, by rw [List.append_nil]; exact HO1.out, HBW1.out⟩) : p := h
theorem M319 (h : p := by
 obtain ⟨c0, c1, c2, c3, c4⟩ := hx0.cells
 clear hx0
 replace hW0 := Lib.hid hW0
 go_enter Tryz.func165, Tryz.ntmps165
 go_upto_region 1 with fail
 rw [← hW0.out]
 go_wp2_with fail
 refine HU.out.mono ?_
 rintro e w1 ⟨v1, rfl, ho1, hb1⟩
 have HO1 := Lib.hid (ho1.base HB0.out.size); have HB1 := Lib.hid hb1
 have HBW1 : Hid (Below w.heap.size w w1) := Lib.hid (HB0.out.trans (hb1.mono HB0.out.size))
 clear c0 c1 c2 c3 c4 ho1 hb1
 obtain ⟨c0, c1, c2, c3, c4⟩ := (HBX.out w1 HB1.out).cells
 exact Y319) : p := h
theorem Q492.Y490 (h : p := by
 have hx0 : BoxAt W0 w.heap.size 0 n f s A m c := by rw [hW0]; exact BoxAt.new ..
 have HBX : Hid (∀ W, Below W0.heap.size W0 W → BoxAt W w.heap.size 0 n f s A m c) := Lib.hid fun W hW => hx0.later hW hz0
 have HU : Hid (Calls Tryz.prog 69 #[.int .u64 0] W0 (KB W0 (Db 10 0))) := Lib.hid (DN 0 (by decide) W0)
 have HUL : Hid ((Db 10 0).length ≤ 11) := Lib.hid (Bt.Dh 10 0)
 open Q323 in exact M319) : p := h
theorem M490 (h : p := by
 have HB0 : Hid (Below w.heap.size w W0) := Lib.hid (by rw [hW0]; exact (Below.refl _ _).alloc (Nat.le_refl _) _)
 have hz0 : w.heap.size < W0.heap.size := by rw [hW0]; simp
 exact Y490) : p := h
theorem YV (n : Int) (f : Nat) (s : ByteArray) (A : Option Addr) (m c : Nat) (w : World) :
  Calls Tryz.prog 165 #[.agg #[.int .i64 0, .int .i64 n, .float .f64 f, .string s, .slice A m c]] w (KB w (Db 10 0 ++ [])) := by
 obtain ⟨W0, hW0⟩ : ∃ W0, W0 = w.alloc (.cells #[.int .i64 0, .int .i64 n, .float .f64 f, .string s, .slice A m c] 69) := ⟨_, rfl⟩
 open Q492 in exact M490
theorem Q322.Y319 (h : p := by
 go_wp2_with fail
 refine (HI.out w1).mono ?_
 rintro e w2 ⟨v2, rfl, ho2, hb2⟩
 have HI2 := Lib.hid ho2.read; have HO2 := Lib.hid (HO1.out.later hb2); have HB2 := Lib.hid (HBW1.out.trans (hb2.mono HBW1.out.size))
 clear ho2 hb2
 go_wp2_with (at_builtin; refine Dd _ rfl _ _ rfl w.heap.size _ _ (Db 10 1) (Db 10 (zz n)) rfl rfl HO2.out HI2.out (by have := HUL.out; have := HZL.out; omega) HB2.out.size ?_; intro v3 w3 hown3 hg3 hb3; have HO3 := Lib.hid hown3; have HB3 := Lib.hid (HB2.out.trans hb3); clear hown3 hb3 hg3)
 go_ret
 exact ⟨_, rfl, HO3.out, HB3.out⟩) : p := h
theorem Q493.Y490 (h : p := by
 have hx0 : BoxAt W0 w.heap.size 1 n f s A m c := by rw [hW0]; exact BoxAt.new ..
 have HBX : Hid (∀ W, Below W0.heap.size W0 W → BoxAt W w.heap.size 1 n f s A m c) := Lib.hid fun W hW => hx0.later hW hz0
 have HU : Hid (Calls Tryz.prog 69 #[.int .u64 1] W0 (KB W0 (Db 10 1))) := Lib.hid (DN 1 (by decide) W0)
 have HUL : Hid ((Db 10 1).length ≤ 11) := Lib.hid (Bt.Dh 10 1)
 have HI := Lib.hid fun W => YS n h0 h1 W
 have HZL := Lib.hid (Bt.Dh 10 (zz n))
 clear h0 h1
 open Q322 in exact M319) : p := h
theorem KQ (n : Int) (f : Nat) (s : ByteArray) (A : Option Addr) (m c : Nat) (w : World) (h0 : -9223372036854775808 ≤ n) (h1 : n ≤ 9223372036854775807) :
  Calls Tryz.prog 165 #[.agg #[.int .i64 1, .int .i64 n, .float .f64 f, .string s, .slice A m c]] w (KB w (Db 10 1 ++ Db 10 (zz n))) := by
 obtain ⟨W0, hW0⟩ : ∃ W0, W0 = w.alloc (.cells #[.int .i64 1, .int .i64 n, .float .f64 f, .string s, .slice A m c] 69) := ⟨_, rfl⟩
 open Q493 in exact M490
theorem Q320.Y319 (h : p := by
 obtain ⟨cc, w2, hcv, hin2, hb2⟩ := HS.out w1
 have HI2 := Lib.hid hin2; have HO2 := Lib.hid (HO1.out.later hb2); have HB2 := Lib.hid (HBW1.out.trans (hb2.mono HBW1.out.size))
 clear hin2 hb2
 go_wp2_with fail
 refine (HFB.out _ _ HI2.out).mono ?_
 rintro e w3 ⟨v3, rfl, ho3, hb3⟩
 have HI3 := Lib.hid ho3.read; have HO3 := Lib.hid (HO2.out.later hb3); have HB3 := Lib.hid (HB2.out.trans (hb3.mono HB2.out.size))
 clear ho3 hb3 hcv
 go_wp2_with (at_builtin; refine Dd _ rfl _ _ rfl w.heap.size _ _ (Db 10 3) (Db 10 (sb s).length ++ sb s) rfl rfl HO3.out HI3.out (by have := HUL.out; have := HZL.out; have := HSZ.out; rw [List.length_append, HSL.out]; omega) HB3.out.size ?_; intro v4 w4 hown4 hg4 hb4; have HO4 := Lib.hid hown4; have HB4 := Lib.hid (HB3.out.trans hb4); clear hown4 hb4 hg4)
 go_ret
 refine ⟨_, rfl, ?_, HB4.out⟩
 have := HO4.out
 rw [HSL.out] at this
 exact this) : p := h
theorem Q494.Y490 (h : p := by
 have hx0 : BoxAt W0 w.heap.size 3 n f s A m c := by rw [hW0]; exact BoxAt.new ..
 have HBX : Hid (∀ W, Below W0.heap.size W0 W → BoxAt W w.heap.size 3 n f s A m c) := Lib.hid fun W hW => hx0.later hW hz0
 have HU : Hid (Calls Tryz.prog 69 #[.int .u64 3] W0 (KB W0 (Db 10 3))) := Lib.hid (DN 3 (by decide) W0)
 have HUL : Hid ((Db 10 3).length ≤ 11) := Lib.hid (Bt.Dh 10 3)
 have HS := Lib.hid fun W => Vo W s (by omega)
 have HFB := Lib.hid fun (W : World) (v : Value) (hv : BIn W v (sb s)) => GW v (sb s) (by rw [Bt.Fi]; omega) W hv
 have HSL := Lib.hid (Bt.Fi s)
 have HSZ := Lib.hid hs
 have HZL := Lib.hid (Bt.Dh 10 s.size)
 open Q320 in exact M319) : p := h
theorem YU (n : Int) (f : Nat) (s : ByteArray) (A : Option Addr) (m c : Nat) (w : World) (hs : s.size ≤ 100000) :
  Calls Tryz.prog 165 #[.agg #[.int .i64 3, .int .i64 n, .float .f64 f, .string s, .slice A m c]] w (KB w (Db 10 3 ++ Dp s)) := by
 obtain ⟨W0, hW0⟩ : ∃ W0, W0 = w.alloc (.cells #[.int .i64 3, .int .i64 n, .float .f64 f, .string s, .slice A m c] 69) := ⟨_, rfl⟩
 open Q494 in exact M490
theorem Q321.Y319 (h : p := by
 go_wp2_with fail
 refine (HBI.out w1).mono ?_
 rintro e w2 ⟨rfl, rfl⟩
 go_wp2_with fail
 go_loopw [3, 5] (fun out i wr => ∃ (j : Nat) (sh : Int), j ≤ 8 ∧ sh = 7 - (j : Int) ∧ i = .int .i64 sh ∧ BOwn wr w.heap.size out (Db 10 2 ++ (be8 v).take j) ∧ Below w.heap.size w wr) (fun _ i _ => (intOf i + 8).toNat)
 case atStart => exact ⟨0, 7, by omega, by omega, rfl, by simpa using HO1.out, HBW1.out⟩
 case round =>
  obtain ⟨j, sh, hj, hsh, rfl, hown, hb⟩ := hrel
  have HO := Lib.hid hown; have HB := Lib.hid hb
  clear hown hb
  rcases (by omega : j = 0 ∨ j = 1 ∨ j = 2 ∨ j = 3 ∨ j = 4 ∨ j = 5 ∨ j = 6 ∨ j = 7 ∨ j = 8) with rfl | rfl | rfl | rfl | rfl | rfl | rfl | rfl | rfl
  ·obtain rfl : sh = 7 := by omega
   clear hsh
   have HN := Lib.hid (DP wr (bits BinOp.and IntKind.u64 ((v : Int) / 72057594037927936) 255 % 256) (v / 72057594037927936 % 256) (OL (v / 72057594037927936) (by omega)))
   go_wp2_with (at_builtin; refine Dd _ rfl _ _ rfl w.heap.size _ _ (Db 10 2 ++ (be8 v).take 0) [v / 72057594037927936 % 256] rfl rfl (HO.out.later ((Below.refl _ _).alloc (Nat.le_refl _) _)) HN.out (by have := HUL.out; have := DV v 0; rw [List.length_append]; simp only [List.length_singleton]; omega) (by simp; exact Nat.le_succ_of_le HB.out.size) ?_; intro v2 w2 hown2 hg2 hb2; have HO2 := Lib.hid hown2; have HB2 := Lib.hid ((HB.out.alloc HB.out.size _).trans hb2); clear hown2 hb2)
   exact ⟨⟨1, 6, by omega, by omega, by go_num, (by rw [← List.append_assoc]; exact HO2.out : BOwn w2 w.heap.size v2 (Db 10 2 ++ ((be8 v).take 0 ++ [v / 72057594037927936 % 256]))), HB2.out⟩, by simp [intOf]⟩
  ·obtain rfl : sh = 6 := by omega
   clear hsh
   have HN := Lib.hid (DP wr (bits BinOp.and IntKind.u64 ((v : Int) / 281474976710656) 255 % 256) (v / 281474976710656 % 256) (OL (v / 281474976710656) (by omega)))
   go_wp2_with (at_builtin; refine Dd _ rfl _ _ rfl w.heap.size _ _ (Db 10 2 ++ (be8 v).take 1) [v / 281474976710656 % 256] rfl rfl (HO.out.later ((Below.refl _ _).alloc (Nat.le_refl _) _)) HN.out (by have := HUL.out; have := DV v 1; rw [List.length_append]; simp only [List.length_singleton]; omega) (by simp; exact Nat.le_succ_of_le HB.out.size) ?_; intro v2 w2 hown2 hg2 hb2; have HO2 := Lib.hid hown2; have HB2 := Lib.hid ((HB.out.alloc HB.out.size _).trans hb2); clear hown2 hb2)
   exact ⟨⟨2, 5, by omega, by omega, by go_num, (by rw [← List.append_assoc]; exact HO2.out : BOwn w2 w.heap.size v2 (Db 10 2 ++ ((be8 v).take 1 ++ [v / 281474976710656 % 256]))), HB2.out⟩, by simp [intOf]⟩
  ·obtain rfl : sh = 5 := by omega
   clear hsh
   have HN := Lib.hid (DP wr (bits BinOp.and IntKind.u64 ((v : Int) / 1099511627776) 255 % 256) (v / 1099511627776 % 256) (OL (v / 1099511627776) (by omega)))
   go_wp2_with (at_builtin; refine Dd _ rfl _ _ rfl w.heap.size _ _ (Db 10 2 ++ (be8 v).take 2) [v / 1099511627776 % 256] rfl rfl (HO.out.later ((Below.refl _ _).alloc (Nat.le_refl _) _)) HN.out (by have := HUL.out; have := DV v 2; rw [List.length_append]; simp only [List.length_singleton]; omega) (by simp; exact Nat.le_succ_of_le HB.out.size) ?_; intro v2 w2 hown2 hg2 hb2; have HO2 := Lib.hid hown2; have HB2 := Lib.hid ((HB.out.alloc HB.out.size _).trans hb2); clear hown2 hb2)
   exact ⟨⟨3, 4, by omega, by omega, by go_num, (by rw [← List.append_assoc]; exact HO2.out : BOwn w2 w.heap.size v2 (Db 10 2 ++ ((be8 v).take 2 ++ [v / 1099511627776 % 256]))), HB2.out⟩, by simp [intOf]⟩
  ·obtain rfl : sh = 4 := by omega
   clear hsh
   have HN := Lib.hid (DP wr (bits BinOp.and IntKind.u64 ((v : Int) / 4294967296) 255 % 256) (v / 4294967296 % 256) (OL (v / 4294967296) (by omega)))
   go_wp2_with (at_builtin; refine Dd _ rfl _ _ rfl w.heap.size _ _ (Db 10 2 ++ (be8 v).take 3) [v / 4294967296 % 256] rfl rfl (HO.out.later ((Below.refl _ _).alloc (Nat.le_refl _) _)) HN.out (by have := HUL.out; have := DV v 3; rw [List.length_append]; simp only [List.length_singleton]; omega) (by simp; exact Nat.le_succ_of_le HB.out.size) ?_; intro v2 w2 hown2 hg2 hb2; have HO2 := Lib.hid hown2; have HB2 := Lib.hid ((HB.out.alloc HB.out.size _).trans hb2); clear hown2 hb2)
   exact ⟨⟨4, 3, by omega, by omega, by go_num, (by rw [← List.append_assoc]; exact HO2.out : BOwn w2 w.heap.size v2 (Db 10 2 ++ ((be8 v).take 3 ++ [v / 4294967296 % 256]))), HB2.out⟩, by simp [intOf]⟩
  ·obtain rfl : sh = 3 := by omega
   clear hsh
   have HN := Lib.hid (DP wr (bits BinOp.and IntKind.u64 ((v : Int) / 16777216) 255 % 256) (v / 16777216 % 256) (OL (v / 16777216) (by omega)))
   go_wp2_with (at_builtin; refine Dd _ rfl _ _ rfl w.heap.size _ _ (Db 10 2 ++ (be8 v).take 4) [v / 16777216 % 256] rfl rfl (HO.out.later ((Below.refl _ _).alloc (Nat.le_refl _) _)) HN.out (by have := HUL.out; have := DV v 4; rw [List.length_append]; simp only [List.length_singleton]; omega) (by simp; exact Nat.le_succ_of_le HB.out.size) ?_; intro v2 w2 hown2 hg2 hb2; have HO2 := Lib.hid hown2; have HB2 := Lib.hid ((HB.out.alloc HB.out.size _).trans hb2); clear hown2 hb2)
   exact ⟨⟨5, 2, by omega, by omega, by go_num, (by rw [← List.append_assoc]; exact HO2.out : BOwn w2 w.heap.size v2 (Db 10 2 ++ ((be8 v).take 4 ++ [v / 16777216 % 256]))), HB2.out⟩, by simp [intOf]⟩
  ·obtain rfl : sh = 2 := by omega
   clear hsh
   have HN := Lib.hid (DP wr (bits BinOp.and IntKind.u64 ((v : Int) / 65536) 255 % 256) (v / 65536 % 256) (OL (v / 65536) (by omega)))
   go_wp2_with (at_builtin; refine Dd _ rfl _ _ rfl w.heap.size _ _ (Db 10 2 ++ (be8 v).take 5) [v / 65536 % 256] rfl rfl (HO.out.later ((Below.refl _ _).alloc (Nat.le_refl _) _)) HN.out (by have := HUL.out; have := DV v 5; rw [List.length_append]; simp only [List.length_singleton]; omega) (by simp; exact Nat.le_succ_of_le HB.out.size) ?_; intro v2 w2 hown2 hg2 hb2; have HO2 := Lib.hid hown2; have HB2 := Lib.hid ((HB.out.alloc HB.out.size _).trans hb2); clear hown2 hb2)
   exact ⟨⟨6, 1, by omega, by omega, by go_num, (by rw [← List.append_assoc]; exact HO2.out : BOwn w2 w.heap.size v2 (Db 10 2 ++ ((be8 v).take 5 ++ [v / 65536 % 256]))), HB2.out⟩, by simp [intOf]⟩
  ·obtain rfl : sh = 1 := by omega
   clear hsh
   have HN := Lib.hid (DP wr (bits BinOp.and IntKind.u64 ((v : Int) / 256) 255 % 256) (v / 256 % 256) (OL (v / 256) (by omega)))
   go_wp2_with (at_builtin; refine Dd _ rfl _ _ rfl w.heap.size _ _ (Db 10 2 ++ (be8 v).take 6) [v / 256 % 256] rfl rfl (HO.out.later ((Below.refl _ _).alloc (Nat.le_refl _) _)) HN.out (by have := HUL.out; have := DV v 6; rw [List.length_append]; simp only [List.length_singleton]; omega) (by simp; exact Nat.le_succ_of_le HB.out.size) ?_; intro v2 w2 hown2 hg2 hb2; have HO2 := Lib.hid hown2; have HB2 := Lib.hid ((HB.out.alloc HB.out.size _).trans hb2); clear hown2 hb2)
   exact ⟨⟨7, 0, by omega, by omega, by go_num, (by rw [← List.append_assoc]; exact HO2.out : BOwn w2 w.heap.size v2 (Db 10 2 ++ ((be8 v).take 6 ++ [v / 256 % 256]))), HB2.out⟩, by simp [intOf]⟩
  ·obtain rfl : sh = 0 := by omega
   clear hsh
   have HN := Lib.hid (DP wr (bits BinOp.and IntKind.u64 (v : Int) 255 % 256) (v % 256) (OL (v) (by omega)))
   go_wp2_with (at_builtin; refine Dd _ rfl _ _ rfl w.heap.size _ _ (Db 10 2 ++ (be8 v).take 7) [v % 256] rfl rfl (HO.out.later ((Below.refl _ _).alloc (Nat.le_refl _) _)) HN.out (by have := HUL.out; have := DV v 7; rw [List.length_append]; simp only [List.length_singleton]; omega) (by simp; exact Nat.le_succ_of_le HB.out.size) ?_; intro v2 w2 hown2 hg2 hb2; have HO2 := Lib.hid hown2; have HB2 := Lib.hid ((HB.out.alloc HB.out.size _).trans hb2); clear hown2 hb2)
   exact ⟨⟨8, -1, by omega, by omega, by go_num, (by rw [← List.append_assoc]; exact HO2.out : BOwn w2 w.heap.size v2 (Db 10 2 ++ ((be8 v).take 7 ++ [v % 256]))), HB2.out⟩, by simp [intOf]⟩
  ·obtain rfl : sh = -1 := by omega
   clear hsh
   go_wp2_with fail
   go_ret
   exact ⟨_, rfl, HO.out, HB.out⟩) : p := h
theorem Q495.Y490 (h : p := by
 have hx0 : BoxAt W0 w.heap.size 2 n f s A m c := by rw [hW0]; exact BoxAt.new ..
 have HBX : Hid (∀ W, Below W0.heap.size W0 W → BoxAt W w.heap.size 2 n f s A m c) := Lib.hid fun W hW => hx0.later hW hz0
 have HU : Hid (Calls Tryz.prog 69 #[.int .u64 2] W0 (KB W0 (Db 10 2))) := Lib.hid (DN 2 (by decide) W0)
 have HUL : Hid ((Db 10 2).length ≤ 11) := Lib.hid (Bt.Dh 10 2)
 have HBI := Lib.hid fun W => FH f hf W
 obtain ⟨v, hv⟩ : ∃ v, v = Di f := ⟨_, rfl⟩
 have hvl : v < 18446744073709551616 := by rw [hv]; exact Pf.Kc hf
 rw [← hv] at HBI ⊢
 clear hv hf
 open Q321 in exact M319) : p := h
theorem Xs (n : Int) (f : Nat) (s : ByteArray) (A : Option Addr) (m c : Nat) (w : World) (hf : f < 18446744073709551616) :
  Calls Tryz.prog 165 #[.agg #[.int .i64 2, .int .i64 n, .float .f64 f, .string s, .slice A m c]] w (KB w (Db 10 2 ++ be8 (Di f))) := by
 obtain ⟨W0, hW0⟩ : ∃ W0, W0 = w.alloc (.cells #[.int .i64 2, .int .i64 n, .float .f64 f, .string s, .slice A m c] 69) := ⟨_, rfl⟩
 open Q495 in exact M490
theorem Q491.Y490 (h : p := by
 have hx0 : BoxAt W0 w.heap.size 4 n f s A l.length cap := by rw [hW0]; exact BoxAt.new ..
 have HBX : Hid (∀ W, Below W0.heap.size W0 W → BoxAt W w.heap.size 4 n f s A l.length cap) := Lib.hid fun W hW => hx0.later hW hz0
 have HU : Hid (Calls Tryz.prog 69 #[.int .u64 4] W0 (KB W0 (Db 10 4))) := Lib.hid (DN 4 (by decide) W0)
 have HUL : Hid ((Db 10 4).length ≤ 11) := Lib.hid (Bt.Dh 10 4)
 have HUN := Lib.hid fun W => DN l.length (by omega) W
 have HNL := Lib.hid (Bt.Dh 10 l.length)
 have HWR : Hid (IntKind.u64.wrap (l.length : Int) = (l.length : Int)) := Lib.hid (IntWalk.u64_in _ (by omega))
 have HK := Lib.hid (hk.later (HB0.out.mono hz))
 have IH := Lib.hid ih
 have HLEN := Lib.hid hlen
 have hhi : hi ≤ W0.heap.size := Nat.le_trans hz HB0.out.size
 obtain ⟨c0, c1, c2, c3, c4⟩ := hx0.cells
 clear hx0 hk ih hlen
 replace hW0 := Lib.hid hW0
 go_enter Tryz.func165, Tryz.ntmps165
 go_upto_region 1 with fail
 rw [← hW0.out]
 go_wp2_with fail
 refine HU.out.mono ?_
 rintro e w1 ⟨v1, rfl, ho1, hb1⟩
 have HO1 := Lib.hid ho1; have HB1 := Lib.hid hb1
 clear c0 c1 c2 c3 c4 ho1 hb1
 obtain ⟨c0, c1, c2, c3, c4⟩ := (HBX.out w1 HB1.out).cells
 go_wp2_with fail
 refine (HUN.out w1).mono ?_
 rintro e w2 ⟨v2, rfl, ho2, hb2⟩
 have HI2 := Lib.hid ho2.read; have HO2 := Lib.hid (HO1.out.later hb2); have HB2 := Lib.hid (HB1.out.trans (hb2.mono HB1.out.size))
 clear ho2 hb2 c0 c1 c2 c3 c4
 obtain ⟨pre, hpre⟩ : ∃ p, p = Db 10 4 ++ Db 10 l.length := ⟨_, rfl⟩
 have HPRE := Lib.hid hpre
 have HPL : Hid (pre.length ≤ 22) := Lib.hid (by rw [hpre, List.length_append]; have := HUL.out; have := HNL.out; omega)
 clear hpre
 go_wp2_with (at_builtin; refine Dd _ rfl _ _ rfl W0.heap.size _ _ (Db 10 4) (Db 10 l.length) rfl rfl HO2.out HI2.out (by have := HUL.out; have := HNL.out; omega) HB2.out.size ?_; intro v3 w3 hown3 hg3 hb3; rw [← HPRE.out] at hown3; have HO3 := Lib.hid hown3; have HB3 := Lib.hid (HB2.out.trans hb3); clear hown3 hb3 hg3)
 go_loopw [3, 6] (fun out i wr => ∃ (j : Nat), j ≤ l.length ∧ i = .int .i64 j ∧ BOwn wr W0.heap.size out (pre ++ ((l.take j).map Pf.VT.form).flatten) ∧ Below W0.heap.size W0 wr) (fun _ i _ => l.length - (intOf i).toNat)
 case atStart => exact ⟨0, by omega, rfl, by simpa using HO3.out, HB3.out⟩
 case round =>
  obtain ⟨j, hj, rfl, hown, hb⟩ := hrel
  have HO := Lib.hid hown; have HB := Lib.hid hb
  obtain ⟨c0, c1, c2, c3, c4⟩ := (HBX.out wr hb).cells
  clear hown hb
  by_cases hlt : j < l.length
  ·obtain ⟨b, off, rfl, hb1, hb2, h3⟩ := (HK.out.later (HB.out.mono hhi)).at_ (by omega)
   obtain ⟨k', n', f', s', L', A', cap', e, g0, g1, g2, g3, g4, hrj⟩ := h3 j hlt
   have hhr : hi ≤ wr.heap.size := Nat.le_trans hhi HB.out.size
   have HF := Lib.hid (IH.out j hlt wr lo hi _ hrj hhr)
   have HFT := Lib.hid (FJ l j hlt)
   have HLE : Hid ((pre ++ ((l.take j).map Pf.VT.form).flatten).length + (Pf.VT.form l[j]).length ≤ 35184372088832) := Lib.hid (by
    have h1 := OI l (j + 1)
    rw [FJ l j hlt, List.length_append] at h1
    have h2 := HLEN.out
    have h4 := HPL.out
    rw [List.length_append]
    omega)
   clear h3 hrj e
   obtain ⟨acc, hacc⟩ : ∃ a, a = pre ++ ((l.take j).map Pf.VT.form).flatten := ⟨_, rfl⟩
   rw [← hacc] at HO HLE
   have HACC := Lib.hid hacc
   obtain ⟨fj, hfj⟩ : ∃ a, a = Pf.VT.form l[j] := ⟨_, rfl⟩
   rw [← hfj] at HF HLE
   have HFJ := Lib.hid hfj
   clear hacc hfj
   go_wp2_with fail
   refine HF.out.mono ?_
   rintro x w4 ⟨v4, rfl, ho4, hb4⟩
   have HOB := Lib.hid (HO.out.later hb4)
   have HI4 := Lib.hid ho4.read
   have HBB := Lib.hid (HB.out.trans (hb4.mono HB.out.size))
   clear ho4 hb4 c0 c1 c2 c3 c4 g0 g1 g2 g3 g4
   go_wp2_with (at_builtin; refine Dd _ rfl _ _ rfl W0.heap.size _ _ acc fj rfl rfl HOB.out HI4.out HLE.out HBB.out.size ?_; intro v5 w5 hown5 hg5 hb5; have HO5 := Lib.hid hown5; have HB5 := Lib.hid (HBB.out.trans hb5); clear hown5 hb5 hg5)
   exact ⟨⟨j + 1, by omega, by go_num, by rw [HFT.out, ← List.append_assoc, ← HACC.out, ← HFJ.out]; exact HO5.out, HB5.out⟩, by simp [intOf]; omega⟩
  ·have hj' : j = l.length := by omega
   subst hj'
   go_wp2_with fail
   go_ret
   have h := HO.out
   rw [List.take_length, HPRE.out, List.append_assoc] at h
   exact ⟨_, rfl, h.base HB0.out.size, HB0.out.trans (HB.out.mono HB0.out.size)⟩) : p := h
theorem YW (n : Int) (f : Nat) (s : ByteArray) (l : List VT) (A : Option Addr) (cap : Nat) (hl : l.length ≤ cap) (hcap : cap ≤ maxLen) (w : World) (lo hi : Nat) (hk : KidsAt w lo hi l A) (hz : hi ≤ w.heap.size) (hlen : (l.map Pf.VT.form).flatten.length ≤ 500000)
  (ih : ∀ i (h : i < l.length) (W : World) (lo hi : Nat) (v : Value), Rep W lo hi l[i] v → hi ≤ W.heap.size → Calls Tryz.prog 165 #[v] W (KB W (Pf.VT.form l[i]))) :
  Calls Tryz.prog 165 #[.agg #[.int .i64 4, .int .i64 n, .float .f64 f, .string s, .slice A l.length cap]] w (KB w (Db 10 4 ++ (Db 10 l.length ++ (l.map Pf.VT.form).flatten))) := by
 simp only [maxLen] at hcap
 obtain ⟨W0, hW0⟩ : ∃ W0, W0 = w.alloc (.cells #[.int .i64 4, .int .i64 n, .float .f64 f, .string s, .slice A l.length cap] 69) := ⟨_, rfl⟩
 open Q491 in exact M490
theorem KR (t : VT) : ∀ (d : Nat) (w : World) (lo hi : Nat) (v : Value), t.valid d = true → (Pf.VT.form t).length ≤ 100000 → t.Slim 900 → Rep w lo hi t v → hi ≤ w.heap.size → Calls Tryz.prog 165 #[v] w (KB w (Pf.VT.form t)) := by
 induction t using VT.ind with
 | _ k n f s l ih =>
  intro d w lo hi v hv hlen hS hR hz
  obtain ⟨A, cap, rfl, ho, hl, hk⟩ := hR.head
  obtain ⟨hs9, hl9, hkS⟩ := Vt.OO.1 hS
  rw [Pf.Oj] at hlen ⊢
  rw [List.length_append] at hlen
  rcases Pf.FM hv with ⟨rfl, -⟩ | ⟨rfl, -⟩ | ⟨rfl, -⟩ | ⟨rfl, -⟩ | ⟨rfl, -, -, -, hkv⟩
  ·exact YV n f s A l.length cap w
  ·exact KQ n f s A l.length cap w ho.n0 ho.n1
  ·exact Xs n f s A l.length cap w ho.f1
  ·exact YU n f s A l.length cap w (by omega)
  ·rw [if_neg (by omega), if_neg (by omega), if_neg (by omega), if_pos rfl] at hlen ⊢
   rw [List.length_append] at hlen
   have hfl : ∀ i (h : i < l.length), (Pf.VT.form l[i]).length ≤ 100000 := fun i hi => by
    have h1 := OI l (i + 1)
    rw [FJ l i hi, List.length_append] at h1
    omega
   exact YW n f s l A cap hl ho.m1 w lo hi hk hz (by omega) (fun i hi W lo hi' v h1 h2 => ih i hi (d - 1) W lo hi' v (hkv _ (List.getElem_mem hi)) (hfl i hi) (hkS i hi) h1 h2)
theorem Xl (t : VT) (hfew : t.few = true) (lo hi : Nat) (v : Value) (w : World) (hv : Rep w lo hi t v) (hz : hi ≤ w.heap.size) (hval : t.valid 8 = true) :
  Calls Tryz.prog 148 #[v] w fun e w' => ∃ v, e = .returned (.tuple #[v, .bool true]) ∧ BOwn w' w.heap.size v (Pf.VT.form t) ∧ Below w.heap.size w w' := by
 obtain ⟨k, n, f, s, l⟩ := t
 obtain ⟨A, cap, rfl, -⟩ := id hv.head
 obtain ⟨W0, hW0⟩ : ∃ W0, W0 = w.alloc (.cells #[.int .i64 k, .int .i64 n, .float .f64 f, .string s, .slice A l.length cap] 69) := ⟨_, rfl⟩
 have hB0 : Below w.heap.size w W0 := by rw [hW0]; exact (Below.refl _ _).alloc (Nat.le_refl _) _
 have hbx : BoxAt W0 w.heap.size k n f s A l.length cap := by rw [hW0]; exact BoxAt.new ..
 have hz0 : w.heap.size < W0.heap.size := by rw [hW0]; simp
 have HBX : Hid (∀ W, Below W0.heap.size W0 W → BoxAt W w.heap.size k n f s A l.length cap) := Lib.hid fun W hW => hbx.later hW hz0
 have HV := Lib.hid (Vt.SK (.mk k n f s l) W0 lo hi _ (hv.later (hB0.mono hz)) (Nat.le_trans hz hB0.size))
 rw [hval] at HV
 have HF := Lib.hid fun W (hW : Below W0.heap.size W0 W) => KR (.mk k n f s l) 8 W lo hi _ hval (by have := Vf.FT hfew; omega) (Vt.Oz _ hfew) ((hv.later (hB0.mono hz)).later (hW.mono (Nat.le_trans hz hB0.size))) (Nat.le_trans hz (Nat.le_trans hB0.size hW.size))
 have HB0 := Lib.hid hB0
 obtain ⟨c0, c1, c2, c3, c4⟩ := hbx.cells
 clear hB0 hbx hv
 replace hW0 := Lib.hid hW0
 go_enter Tryz.func148, Tryz.ntmps148
 go_upto_region 1 with fail
 rw [← hW0.out]
 go_wp2_with fail
 refine HV.out.mono ?_
 rintro e w1 ⟨rfl, hb1⟩
 obtain ⟨d0, d1, d2, d3, d4⟩ := (HBX.out w1 hb1).cells
 have HB1 := Lib.hid hb1
 clear hb1 c0 c1 c2 c3 c4
 go_wp2_with fail
 refine (HF.out _ HB1.out).mono ?_
 rintro e w2 ⟨v, rfl, hown, hb2⟩
 have HO2 := Lib.hid hown
 have HB2 := Lib.hid hb2
 clear hown hb2
 go_wp2_with fail
 have hz1 := Nat.le_trans HB0.out.size HB1.out.size
 exact bodyPost_ret (v := .tuple #[v, .bool true]) (by simp [results, Tryz.results148, go_sem]) rfl ⟨v, rfl, HO2.out.base hz1, HB0.out.trans ((HB1.out.trans (HB2.out.mono HB1.out.size)).mono HB0.out.size)⟩
open Bt (sel)
open Vf (DM FC)
open Ev (EV Dk Dc Dn EBox Pa zeroT Dm)
open Cm (GM)
theorem selT0 (b0 b1 b2 b3 b4 b5 : Bool) (p0 p1 p2 p3 p4 p5 : List Nat) (h : b0 = true) : sel [b0, b1, b2, b3, b4, b5] [p0, p1, p2, p3, p4, p5] 1 = sel [b0, b1, b2, b3, b4, b5] [p0, p1, p2, p3, p4, p5] 0 ++ p0 := by subst h; simp [sel]
theorem selF0 (b0 b1 b2 b3 b4 b5 : Bool) (p0 p1 p2 p3 p4 p5 : List Nat) (h : b0 = false) : sel [b0, b1, b2, b3, b4, b5] [p0, p1, p2, p3, p4, p5] 1 = sel [b0, b1, b2, b3, b4, b5] [p0, p1, p2, p3, p4, p5] 0 := by subst h; simp [sel]
theorem selT1 (b0 b1 b2 b3 b4 b5 : Bool) (p0 p1 p2 p3 p4 p5 : List Nat) (h : b1 = true) : sel [b0, b1, b2, b3, b4, b5] [p0, p1, p2, p3, p4, p5] 2 = sel [b0, b1, b2, b3, b4, b5] [p0, p1, p2, p3, p4, p5] 1 ++ p1 := by subst h; simp [sel]
theorem selF1 (b0 b1 b2 b3 b4 b5 : Bool) (p0 p1 p2 p3 p4 p5 : List Nat) (h : b1 = false) : sel [b0, b1, b2, b3, b4, b5] [p0, p1, p2, p3, p4, p5] 2 = sel [b0, b1, b2, b3, b4, b5] [p0, p1, p2, p3, p4, p5] 1 := by subst h; simp [sel]
theorem selT2 (b0 b1 b2 b3 b4 b5 : Bool) (p0 p1 p2 p3 p4 p5 : List Nat) (h : b2 = true) : sel [b0, b1, b2, b3, b4, b5] [p0, p1, p2, p3, p4, p5] 3 = sel [b0, b1, b2, b3, b4, b5] [p0, p1, p2, p3, p4, p5] 2 ++ p2 := by subst h; simp [sel]
theorem selF2 (b0 b1 b2 b3 b4 b5 : Bool) (p0 p1 p2 p3 p4 p5 : List Nat) (h : b2 = false) : sel [b0, b1, b2, b3, b4, b5] [p0, p1, p2, p3, p4, p5] 3 = sel [b0, b1, b2, b3, b4, b5] [p0, p1, p2, p3, p4, p5] 2 := by subst h; simp [sel]
theorem selT3 (b0 b1 b2 b3 b4 b5 : Bool) (p0 p1 p2 p3 p4 p5 : List Nat) (h : b3 = true) : sel [b0, b1, b2, b3, b4, b5] [p0, p1, p2, p3, p4, p5] 4 = sel [b0, b1, b2, b3, b4, b5] [p0, p1, p2, p3, p4, p5] 3 ++ p3 := by subst h; simp [sel]
theorem selF3 (b0 b1 b2 b3 b4 b5 : Bool) (p0 p1 p2 p3 p4 p5 : List Nat) (h : b3 = false) : sel [b0, b1, b2, b3, b4, b5] [p0, p1, p2, p3, p4, p5] 4 = sel [b0, b1, b2, b3, b4, b5] [p0, p1, p2, p3, p4, p5] 3 := by subst h; simp [sel]
theorem selT4 (b0 b1 b2 b3 b4 b5 : Bool) (p0 p1 p2 p3 p4 p5 : List Nat) (h : b4 = true) : sel [b0, b1, b2, b3, b4, b5] [p0, p1, p2, p3, p4, p5] 5 = sel [b0, b1, b2, b3, b4, b5] [p0, p1, p2, p3, p4, p5] 4 ++ p4 := by subst h; simp [sel]
theorem selF4 (b0 b1 b2 b3 b4 b5 : Bool) (p0 p1 p2 p3 p4 p5 : List Nat) (h : b4 = false) : sel [b0, b1, b2, b3, b4, b5] [p0, p1, p2, p3, p4, p5] 5 = sel [b0, b1, b2, b3, b4, b5] [p0, p1, p2, p3, p4, p5] 4 := by subst h; simp [sel]
theorem selT5 (b0 b1 b2 b3 b4 b5 : Bool) (p0 p1 p2 p3 p4 p5 : List Nat) (h : b5 = true) : sel [b0, b1, b2, b3, b4, b5] [p0, p1, p2, p3, p4, p5] 6 = sel [b0, b1, b2, b3, b4, b5] [p0, p1, p2, p3, p4, p5] 5 ++ p5 := by subst h; simp [sel]
theorem selF5 (b0 b1 b2 b3 b4 b5 : Bool) (p0 p1 p2 p3 p4 p5 : List Nat) (h : b5 = false) : sel [b0, b1, b2, b3, b4, b5] [p0, p1, p2, p3, p4, p5] 6 = sel [b0, b1, b2, b3, b4, b5] [p0, p1, p2, p3, p4, p5] 5 := by subst h; simp [sel]
theorem Sg (b0 b1 b2 b3 b4 b5 : Bool) (p0 p1 p2 p3 p4 p5 : List Nat) (M : Nat) (h0 : p0.length ≤ M) (h1 : p1.length ≤ M) (h2 : p2.length ≤ M) (h3 : p3.length ≤ M) (h4 : p4.length ≤ M) (h5 : p5.length ≤ M) (j : Nat) (hj : j ≤ 6) : (sel [b0, b1, b2, b3, b4, b5] [p0, p1, p2, p3, p4, p5] j).length ≤ 6 * M := by
 have a : ∀ (b : Bool) (p : List Nat), p.length ≤ M → (if b = true then p else []).length ≤ M := fun b p h => by split <;> simp [h]
 have a0 := a b0 p0 h0; have a1 := a b1 p1 h1; have a2 := a b2 p2 h2; have a3 := a b3 p3 h3; have a4 := a b4 p4 h4; have a5 := a b5 p5 h5
 rcases (by omega : j = 0 ∨ j = 1 ∨ j = 2 ∨ j = 3 ∨ j = 4 ∨ j = 5 ∨ j = 6) with rfl | rfl | rfl | rfl | rfl | rfl | rfl <;> simp [sel] <;> omega
theorem M466 (h : p := by
 rintro x w7 ⟨v7, rfl, ho7, hb7⟩
 have HI7 := Lib.hid ho7.read; have HO7 := Lib.hid (HO6.out.later hb7); have HB7 := Lib.hid (HB6.out.trans (hb7.mono HB6.out.size))
 clear ho7 hb7
 clear c0 c1 c2 c3 c4 c5 c6 c7 c8 c9 c10
 exact Y466) : p := h
theorem Q467.Y466 (h : p := by
 go_wp2_with (at_builtin; refine Dd _ rfl _ _ rfl W0.heap.size _ _ (pre ++ sel [b0, b1, b2, b3, b4, b5] [Db 10 id, Db 10 n, Db 10 at', Dp name, Dp text, fv] 0) (Db 10 id) rfl rfl HO7.out HI7.out (HLE0.out) HB7.out.size ?_; intro v8 w8 hown8 hg8 hb8; have HO8 := Lib.hid hown8; have HB8 := Lib.hid (HB7.out.trans hb8); clear hown8 hb8 hg8)
 exact ⟨⟨1, by omega, by go_num, by rw [HSS.out, ← List.append_assoc]; exact HO8.out, HB8.out⟩, by simp [intOf]⟩) : p := h
theorem Q361.Y360 (h : p := by
 cases hbb : b0 with
 | false =>
  have HSS := Lib.hid (selF0 b0 b1 b2 b3 b4 b5 (Db 10 id) (Db 10 n) (Db 10 at') (Dp name) (Dp text) fv hbb)
  go_wp2_with fail
  exact ⟨⟨1, by omega, by go_num, by rw [HSS.out]; exact HO6.out, HB6.out⟩, by simp [intOf]⟩
 | true =>
  have HSS := Lib.hid (selT0 b0 b1 b2 b3 b4 b5 (Db 10 id) (Db 10 n) (Db 10 at') (Dp name) (Dp text) fv hbb)
  go_wp2_with fail
  refine (HUI.out w6).mono ?_
  open Q467 in exact M466) : p := h
theorem Q468.Y466 (h : p := by
 go_wp2_with (at_builtin; refine Dd _ rfl _ _ rfl W0.heap.size _ _ (pre ++ sel [b0, b1, b2, b3, b4, b5] [Db 10 id, Db 10 n, Db 10 at', Dp name, Dp text, fv] 1) (Db 10 n) rfl rfl HO7.out HI7.out (HLE1.out) HB7.out.size ?_; intro v8 w8 hown8 hg8 hb8; have HO8 := Lib.hid hown8; have HB8 := Lib.hid (HB7.out.trans hb8); clear hown8 hb8 hg8)
 exact ⟨⟨2, by omega, by go_num, by rw [HSS.out, ← List.append_assoc]; exact HO8.out, HB8.out⟩, by simp [intOf]⟩) : p := h
theorem Q362.Y360 (h : p := by
 cases hbb : b1 with
 | false =>
  have HSS := Lib.hid (selF1 b0 b1 b2 b3 b4 b5 (Db 10 id) (Db 10 n) (Db 10 at') (Dp name) (Dp text) fv hbb)
  go_wp2_with fail
  exact ⟨⟨2, by omega, by go_num, by rw [HSS.out]; exact HO6.out, HB6.out⟩, by simp [intOf]⟩
 | true =>
  have HSS := Lib.hid (selT1 b0 b1 b2 b3 b4 b5 (Db 10 id) (Db 10 n) (Db 10 at') (Dp name) (Dp text) fv hbb)
  go_wp2_with fail
  refine (HUN.out w6).mono ?_
  open Q468 in exact M466) : p := h
theorem Q469.Y466 (h : p := by
 go_wp2_with (at_builtin; refine Dd _ rfl _ _ rfl W0.heap.size _ _ (pre ++ sel [b0, b1, b2, b3, b4, b5] [Db 10 id, Db 10 n, Db 10 at', Dp name, Dp text, fv] 2) (Db 10 at') rfl rfl HO7.out HI7.out (HLE2.out) HB7.out.size ?_; intro v8 w8 hown8 hg8 hb8; have HO8 := Lib.hid hown8; have HB8 := Lib.hid (HB7.out.trans hb8); clear hown8 hb8 hg8)
 exact ⟨⟨3, by omega, by go_num, by rw [HSS.out, ← List.append_assoc]; exact HO8.out, HB8.out⟩, by simp [intOf]⟩) : p := h
theorem Q363.Y360 (h : p := by
 cases hbb : b2 with
 | false =>
  have HSS := Lib.hid (selF2 b0 b1 b2 b3 b4 b5 (Db 10 id) (Db 10 n) (Db 10 at') (Dp name) (Dp text) fv hbb)
  go_wp2_with fail
  exact ⟨⟨3, by omega, by go_num, by rw [HSS.out]; exact HO6.out, HB6.out⟩, by simp [intOf]⟩
 | true =>
  have HSS := Lib.hid (selT2 b0 b1 b2 b3 b4 b5 (Db 10 id) (Db 10 n) (Db 10 at') (Dp name) (Dp text) fv hbb)
  go_wp2_with fail
  refine (HUA.out w6).mono ?_
  open Q469 in exact M466) : p := h
theorem Q364.Y360 (h : p := by
 cases hbb : b3 with
 | false =>
  have HSS := Lib.hid (selF3 b0 b1 b2 b3 b4 b5 (Db 10 id) (Db 10 n) (Db 10 at') (Dp name) (Dp text) fv hbb)
  go_wp2_with fail
  exact ⟨⟨4, by omega, by go_num, by rw [HSS.out]; exact HO6.out, HB6.out⟩, by simp [intOf]⟩
 | true =>
  have HSS := Lib.hid (selT3 b0 b1 b2 b3 b4 b5 (Db 10 id) (Db 10 n) (Db 10 at') (Dp name) (Dp text) fv hbb)
  obtain ⟨cc, w5, hcv, hin5, hb5⟩ := HS3.out w6
  have HI5 := Lib.hid hin5; have HO5 := Lib.hid (HO6.out.later hb5); have HB5 := Lib.hid (HB6.out.trans (hb5.mono HB6.out.size))
  clear hin5 hb5
  go_wp2_with fail
  refine (HFB3.out _ _ HI5.out).mono ?_
  rintro x w7 ⟨v7, rfl, ho7, hb7⟩
  have HI7 := Lib.hid (HFS3.out ▸ ho7.read); have HO7 := Lib.hid (HO5.out.later hb7); have HB7 := Lib.hid (HB5.out.trans (hb7.mono HB5.out.size))
  clear ho7 hb7 hcv
  clear c0 c1 c2 c3 c4 c5 c6 c7 c8 c9 c10
  go_wp2_with (at_builtin; refine Dd _ rfl _ _ rfl W0.heap.size _ _ (pre ++ sel [b0, b1, b2, b3, b4, b5] [Db 10 id, Db 10 n, Db 10 at', Dp name, Dp text, fv] 3) (Dp name) rfl rfl HO7.out HI7.out (HLE3.out) HB7.out.size ?_; intro v8 w8 hown8 hg8 hb8; have HO8 := Lib.hid hown8; have HB8 := Lib.hid (HB7.out.trans hb8); clear hown8 hb8 hg8)
  exact ⟨⟨4, by omega, by go_num, by rw [HSS.out, ← List.append_assoc]; exact HO8.out, HB8.out⟩, by simp [intOf]⟩) : p := h
theorem Q365.Y360 (h : p := by
 cases hbb : b4 with
 | false =>
  have HSS := Lib.hid (selF4 b0 b1 b2 b3 b4 b5 (Db 10 id) (Db 10 n) (Db 10 at') (Dp name) (Dp text) fv hbb)
  go_wp2_with fail
  exact ⟨⟨5, by omega, by go_num, by rw [HSS.out]; exact HO6.out, HB6.out⟩, by simp [intOf]⟩
 | true =>
  have HSS := Lib.hid (selT4 b0 b1 b2 b3 b4 b5 (Db 10 id) (Db 10 n) (Db 10 at') (Dp name) (Dp text) fv hbb)
  obtain ⟨cc, w5, hcv, hin5, hb5⟩ := HS4.out w6
  have HI5 := Lib.hid hin5; have HO5 := Lib.hid (HO6.out.later hb5); have HB5 := Lib.hid (HB6.out.trans (hb5.mono HB6.out.size))
  clear hin5 hb5
  go_wp2_with fail
  refine (HFB4.out _ _ HI5.out).mono ?_
  rintro x w7 ⟨v7, rfl, ho7, hb7⟩
  have HI7 := Lib.hid (HFS4.out ▸ ho7.read); have HO7 := Lib.hid (HO5.out.later hb7); have HB7 := Lib.hid (HB5.out.trans (hb7.mono HB5.out.size))
  clear ho7 hb7 hcv
  clear c0 c1 c2 c3 c4 c5 c6 c7 c8 c9 c10
  go_wp2_with (at_builtin; refine Dd _ rfl _ _ rfl W0.heap.size _ _ (pre ++ sel [b0, b1, b2, b3, b4, b5] [Db 10 id, Db 10 n, Db 10 at', Dp name, Dp text, fv] 4) (Dp text) rfl rfl HO7.out HI7.out (HLE4.out) HB7.out.size ?_; intro v8 w8 hown8 hg8 hb8; have HO8 := Lib.hid hown8; have HB8 := Lib.hid (HB7.out.trans hb8); clear hown8 hb8 hg8)
  exact ⟨⟨5, by omega, by go_num, by rw [HSS.out, ← List.append_assoc]; exact HO8.out, HB8.out⟩, by simp [intOf]⟩) : p := h
theorem Q470.Y466 (h : p := by
 go_wp2_with (at_builtin; refine Dd _ rfl _ _ rfl W0.heap.size _ _ (pre ++ sel [b0, b1, b2, b3, b4, b5] [Db 10 id, Db 10 n, Db 10 at', Dp name, Dp text, fv] 5) (fv) rfl rfl HO7.out HI7.out (HLE5.out) HB7.out.size ?_; intro v8 w8 hown8 hg8 hb8; have HO8 := Lib.hid hown8; have HB8 := Lib.hid (HB7.out.trans hb8); clear hown8 hb8 hg8)
 exact ⟨⟨6, by omega, by go_num, by rw [HSS.out, ← List.append_assoc]; exact HO8.out, HB8.out⟩, by simp [intOf]⟩) : p := h
theorem Q366.Y360 (h : p := by
 cases hbb : b5 with
 | false =>
  have HSS := Lib.hid (selF5 b0 b1 b2 b3 b4 b5 (Db 10 id) (Db 10 n) (Db 10 at') (Dp name) (Dp text) fv hbb)
  go_wp2_with fail
  exact ⟨⟨6, by omega, by go_num, by rw [HSS.out]; exact HO6.out, HB6.out⟩, by simp [intOf]⟩
 | true =>
  have HSS := Lib.hid (selT5 b0 b1 b2 b3 b4 b5 (Db 10 id) (Db 10 n) (Db 10 at') (Dp name) (Dp text) fv hbb)
  go_wp2_with fail
  refine (HVB.out w6 HB6.out).mono ?_
  open Q470 in exact M466) : p := h
theorem LQ (h : p := by
 rintro x w6 ⟨rfl, hb6⟩
 have HO6 := Lib.hid (HO.out.later hb6)
 have HB6 := Lib.hid (HB.out.trans (hb6.mono HB.out.size))
 clear hb6 c0 c1 c2 c3 c4 c5 c6 c7 c8 c9 c10
 obtain ⟨c0, c1, c2, c3, c4, c5, c6, c7, c8, c9, c10⟩ := EBox.cells (HX.out w6 HB6.out)
 exact Y360) : p := h
theorem Xt (k id n at' : Nat) (name text : ByteArray) (hk : k ≤ 11) (hi : id < 18446744073709551616) (hn : n ≤ 2147483647) (ha : at' < 18446744073709551616) (hs : name.size ≤ 1000) (ht : text.size ≤ 1000) (vk vn : Int) (vf : Nat) (vs : ByteArray) (A : Option Addr) (m c : Nat) (b0 b1 b2 b3 b4 b5 : Bool) (fv : List Nat) (hfv : fv.length ≤ 30000) (w : World)
  (H0 : Hid (∀ W, Calls Tryz.prog 104 #[.int .i64 (k : Nat), .int .u8 105] W fun r w' => r = .returned (.bool b0) ∧ Below W.heap.size W w'))
  (H1 : Hid (∀ W, Calls Tryz.prog 104 #[.int .i64 (k : Nat), .int .u8 110] W fun r w' => r = .returned (.bool b1) ∧ Below W.heap.size W w'))
  (H2 : Hid (∀ W, Calls Tryz.prog 104 #[.int .i64 (k : Nat), .int .u8 97] W fun r w' => r = .returned (.bool b2) ∧ Below W.heap.size W w'))
  (H3 : Hid (∀ W, Calls Tryz.prog 104 #[.int .i64 (k : Nat), .int .u8 115] W fun r w' => r = .returned (.bool b3) ∧ Below W.heap.size W w'))
  (H4 : Hid (∀ W, Calls Tryz.prog 104 #[.int .i64 (k : Nat), .int .u8 116] W fun r w' => r = .returned (.bool b4) ∧ Below W.heap.size W w'))
  (H5 : Hid (∀ W, Calls Tryz.prog 104 #[.int .i64 (k : Nat), .int .u8 118] W fun r w' => r = .returned (.bool b5) ∧ Below W.heap.size W w'))
  (hVB : ∀ W, Below w.heap.size w W → Calls Tryz.prog 148 #[.agg #[.int .i64 vk, .int .i64 vn, .float .f64 vf, .string vs, .slice A m c]] W fun e w' => ∃ v, e = .returned (.tuple #[v, .bool true]) ∧ BOwn w' W.heap.size v fv ∧ Below W.heap.size W w') :
  Calls Tryz.prog 109 #[.agg #[.int .i64 (k : Nat), .int .u64 (id : Nat), .int .i64 (n : Nat), .int .u64 (at' : Nat), .string name, .string text, .int .i64 vk, .int .i64 vn, .float .f64 vf, .string vs, .slice A m c]] w (KB w ([1] ++ Db 10 k ++ sel [b0, b1, b2, b3, b4, b5] [Db 10 id, Db 10 n, Db 10 at', Dp name, Dp text, fv] 6)) := by
 obtain ⟨W0, hW0⟩ : ∃ W0, W0 = w.alloc (.cells #[.int .i64 (k : Nat), .int .u64 (id : Nat), .int .i64 (n : Nat), .int .u64 (at' : Nat), .string name, .string text, .int .i64 vk, .int .i64 vn, .float .f64 vf, .string vs, .slice A m c] 71) := ⟨_, rfl⟩
 have HB0 : Hid (Below w.heap.size w W0) := Lib.hid (by rw [hW0]; exact (Below.refl _ _).alloc (Nat.le_refl _) _)
 have hbx : EBox W0 w.heap.size #[.int .i64 (k : Nat), .int .u64 (id : Nat), .int .i64 (n : Nat), .int .u64 (at' : Nat), .string name, .string text, .int .i64 vk, .int .i64 vn, .float .f64 vf, .string vs, .slice A m c] := by rw [hW0]; exact heap_alloc_new w _
 have hzz : w.heap.size < W0.heap.size := by rw [hW0]; simp
 have HX : Hid (∀ W, Below W0.heap.size W0 W → EBox W w.heap.size #[.int .i64 (k : Nat), .int .u64 (id : Nat), .int .i64 (n : Nat), .int .u64 (at' : Nat), .string name, .string text, .int .i64 vk, .int .i64 vn, .float .f64 vf, .string vs, .slice A m c]) := Lib.hid fun W hW => hbx.later hW hzz
 have HVB : Hid (∀ W, Below W0.heap.size W0 W → Calls Tryz.prog 148 #[.agg #[.int .i64 vk, .int .i64 vn, .float .f64 vf, .string vs, .slice A m c]] W fun e w' => ∃ v, e = .returned (.tuple #[v, .bool true]) ∧ BOwn w' W.heap.size v fv ∧ Below W.heap.size W w') := Lib.hid fun W hW => hVB W (HB0.out.trans (hW.mono HB0.out.size))
 have HUK := Lib.hid fun W => DN k (by omega) W
 have HUI := Lib.hid fun W => DN id hi W
 have HUN := Lib.hid fun W => DN n (by omega) W
 have HUA := Lib.hid fun W => DN at' ha W
 have hln := Bt.Fi name
 have hlt := Bt.Fi text
 have HS3 := Lib.hid fun W => Vo W name (by omega)
 have HS4 := Lib.hid fun W => Vo W text (by omega)
 have HFB3 := Lib.hid fun (W : World) (v : Value) (hv : BIn W v (sb name)) => GW v (sb name) (by omega) W hv
 have HFB4 := Lib.hid fun (W : World) (v : Value) (hv : BIn W v (sb text)) => GW v (sb text) (by omega) W hv
 have HFS3 : Hid (Db 10 (sb name).length ++ sb name = Dp name) := Lib.hid (by rw [hln]; rfl)
 have HFS4 : Hid (Db 10 (sb text).length ++ sb text = Dp text) := Lib.hid (by rw [hlt]; rfl)
 have hkl := Bt.Dh 10 k
 have l0 := Bt.Dh 10 id; have l1 := Bt.Dh 10 n; have l2 := Bt.Dh 10 at'
 have l3 : (Dp name).length ≤ 30000 := by unfold Dp; rw [List.length_append]; have := Bt.Dh 10 name.size; omega
 have l4 : (Dp text).length ≤ 30000 := by unfold Dp; rw [List.length_append]; have := Bt.Dh 10 text.size; omega
 have HSL := Lib.hid (Sg b0 b1 b2 b3 b4 b5 (Db 10 id) (Db 10 n) (Db 10 at') (Dp name) (Dp text) fv 30000 (by omega) (by omega) (by omega) l3 l4 hfv)
 obtain ⟨pre, hpre⟩ : ∃ p, p = [1] ++ Db 10 k := ⟨_, rfl⟩
 have HPRE := Lib.hid hpre
 have hpl : pre.length ≤ 12 := by rw [hpre, List.length_append]; simp only [List.length_singleton]; omega
 have HLE0 : Hid ((pre ++ sel [b0, b1, b2, b3, b4, b5] [Db 10 id, Db 10 n, Db 10 at', Dp name, Dp text, fv] 0).length + (Db 10 id).length ≤ 35184372088832) := Lib.hid (by have := HSL.out 0 (by omega); rw [List.length_append]; omega)
 have HLE1 : Hid ((pre ++ sel [b0, b1, b2, b3, b4, b5] [Db 10 id, Db 10 n, Db 10 at', Dp name, Dp text, fv] 1).length + (Db 10 n).length ≤ 35184372088832) := Lib.hid (by have := HSL.out 1 (by omega); rw [List.length_append]; omega)
 have HLE2 : Hid ((pre ++ sel [b0, b1, b2, b3, b4, b5] [Db 10 id, Db 10 n, Db 10 at', Dp name, Dp text, fv] 2).length + (Db 10 at').length ≤ 35184372088832) := Lib.hid (by have := HSL.out 2 (by omega); rw [List.length_append]; omega)
 have HLE3 : Hid ((pre ++ sel [b0, b1, b2, b3, b4, b5] [Db 10 id, Db 10 n, Db 10 at', Dp name, Dp text, fv] 3).length + (Dp name).length ≤ 35184372088832) := Lib.hid (by have := HSL.out 3 (by omega); rw [List.length_append]; omega)
 have HLE4 : Hid ((pre ++ sel [b0, b1, b2, b3, b4, b5] [Db 10 id, Db 10 n, Db 10 at', Dp name, Dp text, fv] 4).length + (Dp text).length ≤ 35184372088832) := Lib.hid (by have := HSL.out 4 (by omega); rw [List.length_append]; omega)
 have HLE5 : Hid ((pre ++ sel [b0, b1, b2, b3, b4, b5] [Db 10 id, Db 10 n, Db 10 at', Dp name, Dp text, fv] 5).length + (fv).length ≤ 35184372088832) := Lib.hid (by have := HSL.out 5 (by omega); rw [List.length_append]; omega)
 have HKL := Lib.hid hkl
 have HWK : Hid (IntKind.u64.wrap (k : Int) = (k : Int)) := Lib.hid (IntWalk.u64_in _ (by omega))
 have HWN : Hid (IntKind.u64.wrap (n : Int) = (n : Int)) := Lib.hid (IntWalk.u64_in _ (by omega))
 rw [← hpre]
 clear hbx hVB hpre hkl l0 l1 l2 l3 l4 hln hlt hfv hpl
 replace hW0 := Lib.hid hW0
 obtain ⟨W1, hW1⟩ : ∃ W1, W1 = W0.alloc (.cells #[.int .u8 1] 5) := ⟨_, rfl⟩
 have hb1 : Below W0.heap.size W0 W1 := by rw [hW1]; exact (Below.refl _ _).alloc (Nat.le_refl _) _
 have h11 : W1.heap[W0.heap.size]? = some (.cells #[.int .u8 1] 5 (0, 0)) := by rw [hW1]; exact heap_alloc_new _ _
 have HO1 : Hid (BOwn W1 W0.heap.size (.slice (some ⟨W0.heap.size, 0, none⟩) 1 1) [1]) := Lib.hid (by
  refine ⟨rfl, .inr ⟨W0.heap.size, 1, #[.int .u8 1], rfl, Nat.le_refl _, h11, by simp, by decide, rfl, rfl⟩⟩)
 have HB1 := Lib.hid hb1
 obtain ⟨c0, c1, c2, c3, c4, c5, c6, c7, c8, c9, c10⟩ := EBox.cells (HX.out W0 (Below.refl _ _))
 clear hb1 h11
 replace hW1 := Lib.hid hW1
 go_enter Tryz.func109, Tryz.ntmps109
 go_upto_region 1 with fail
 rw [← hW0.out]
 go_wp2_with fail
 rw [← hW1.out]
 try rw [HWK.out]
 refine (HUK.out _).mono ?_
 rintro x w2 ⟨v2, rfl, ho2, hb2⟩
 have HI2 := Lib.hid ho2.read; have HO2 := Lib.hid (HO1.out.later hb2); have HB2 := Lib.hid (HB1.out.trans (hb2.mono HB1.out.size))
 clear ho2 hb2 c0 c1 c2 c3 c4 c5 c6 c7 c8 c9 c10
 go_wp2_with (at_builtin; refine Dd _ rfl _ _ rfl W0.heap.size _ _ [1] (Db 10 k) rfl rfl HO2.out HI2.out (by have := HKL.out; simp only [List.length_singleton]; omega) HB2.out.size ?_; intro v3 w3 hown3 hg3 hb3; rw [← HPRE.out] at hown3; have HO3 := Lib.hid hown3; have HB3 := Lib.hid (HB2.out.trans hb3); clear hown3 hb3 hg3)
 go_loopw [3, 4] (fun o i wr => ∃ (j : Nat), j ≤ 6 ∧ i = .int .i64 j ∧ BOwn wr W0.heap.size o (pre ++ sel [b0, b1, b2, b3, b4, b5] [Db 10 id, Db 10 n, Db 10 at', Dp name, Dp text, fv] j) ∧ Below W0.heap.size W0 wr) (fun _ i _ => 6 - (intOf i).toNat)
 case atStart => exact ⟨0, by omega, rfl, by rw [show sel [b0, b1, b2, b3, b4, b5] [Db 10 id, Db 10 n, Db 10 at', Dp name, Dp text, fv] 0 = [] from by simp [sel], List.append_nil]; exact HO3.out, HB3.out⟩
 case round =>
  obtain ⟨j, hj, rfl, hown, hb⟩ := hrel
  have HO := Lib.hid hown; have HB := Lib.hid hb
  obtain ⟨c0, c1, c2, c3, c4, c5, c6, c7, c8, c9, c10⟩ := EBox.cells (HX.out wr hb)
  clear hown hb
  rcases (by omega : j = 0 ∨ j = 1 ∨ j = 2 ∨ j = 3 ∨ j = 4 ∨ j = 5 ∨ j = 6) with rfl | rfl | rfl | rfl | rfl | rfl | rfl
  ·go_wp2_with fail
   refine (H0.out wr).mono ?_
   open Q361 in exact LQ
  ·go_wp2_with fail
   refine (H1.out wr).mono ?_
   open Q362 in exact LQ
  ·go_wp2_with fail
   refine (H2.out wr).mono ?_
   open Q363 in exact LQ
  ·go_wp2_with fail
   refine (H3.out wr).mono ?_
   open Q364 in exact LQ
  ·go_wp2_with fail
   refine (H4.out wr).mono ?_
   open Q365 in exact LQ
  ·go_wp2_with fail
   refine (H5.out wr).mono ?_
   open Q366 in exact LQ
  ·go_wp2_with fail
   go_ret
   exact ⟨_, rfl, HO.out.base HB0.out.size, HB0.out.trans (HB.out.mono HB0.out.size)⟩
theorem YX (e : EV) (hval : e.valid = true) (hf : Dk e) (hfew : e.v.few = true) (lo hi : Nat) (vk vn : Int) (vf : Nat) (vs : ByteArray) (A : Option Addr) (m c : Nat) (w : World) (hv : Rep w lo hi e.v (Dn vk vn vf vs A m c)) (hz : hi ≤ w.heap.size) :
  Calls Tryz.prog 109 #[.agg (Dc e vk vn vf vs A m c)] w (KB w (DM e)) := by
 have V := Vf.UA hval
 obtain ⟨kn, hkn⟩ : ∃ kn : Nat, e.k = kn := ⟨e.k.toNat, by have := V.k1; omega⟩
 obtain ⟨nn, hnn⟩ : ∃ nn : Nat, e.n = nn := ⟨e.n.toNat, by have := V.n1; omega⟩
 have k1 := V.k1; have k2 := V.k2; have n2 := V.n2
 have hkt : e.k.toNat = kn := by omega
 have hnt : e.n.toNat = nn := by omega
 unfold DM FC
 rw [hkt, hnt]
 unfold Dc
 rw [hkn, hnn]
 have hh : ∀ cc q, (cc, q) ∈ [(105, 0), (110, 1), (97, 2), (115, 3), (116, 4), (118, 5)] → Hid (∀ W, Calls Tryz.prog 104 #[.int .i64 (kn : Nat), .int .u8 (cc : Nat)] W fun r w' => r = .returned (.bool ((Dm kn).contains q)) ∧ Below W.heap.size W w') := fun cc q hq => Lib.hid fun W => GM kn (by omega) (by omega) cc q hq W
 exact Xt kn e.id nn e.at' e.name e.text (by omega) hf.i1 (by omega) hf.a1 V.s1 V.t1 vk vn vf vs A m c _ _ _ _ _ _ (Pf.VT.form e.v) (by have := Vf.FT hfew; omega) w (hh 105 0 (by simp)) (hh 110 1 (by simp)) (hh 97 2 (by simp)) (hh 115 3 (by simp)) (hh 116 4 (by simp)) (hh 118 5 (by simp))
  (fun W hW => Xl e.v hfew lo hi _ W (hv.later (hW.mono hz)) (Nat.le_trans hz hW.size) V.v1)
def REB (e : EV) (w : World) (r : Ending) (w' : World) : Prop := (e.valid = true → ∃ v, r = .returned (.tuple #[v, .bool true]) ∧ BOwn w' w.heap.size v (DM e)) ∧ (e.valid = false → r = .returned (.tuple #[.slice none 0 0, .bool false])) ∧ Below w.heap.size w w'
theorem Xu (e : EV) (hf : Dk e) (hfew : e.v.few = true) (lo hi : Nat) (vk vn : Int) (vf : Nat) (vs : ByteArray) (A : Option Addr) (m c : Nat) (w : World) (hv : Rep w lo hi e.v (Dn vk vn vf vs A m c)) (hz : hi ≤ w.heap.size) :
  Calls Tryz.prog 70 #[.agg (Dc e vk vn vf vs A m c)] w (REB e w) := by
 obtain ⟨W0, hW0⟩ : ∃ W0, W0 = w.alloc (.cells (Dc e vk vn vf vs A m c) 71) := ⟨_, rfl⟩
 have hb0 : Below w.heap.size w W0 := by rw [hW0]; exact (Below.refl _ _).alloc (Nat.le_refl _) _
 have hbx : EBox W0 w.heap.size (Dc e vk vn vf vs A m c) := by rw [hW0]; exact heap_alloc_new w _
 have hzz : w.heap.size < W0.heap.size := by rw [hW0]; simp
 have HX : Hid (∀ W, Below W0.heap.size W0 W → EBox W w.heap.size (Dc e vk vn vf vs A m c)) := Lib.hid fun W hW => hbx.later hW hzz
 have HV := Lib.hid (Rd.GU e lo hi vk vn vf vs A m c W0 (hv.later (hb0.mono hz)) (Nat.le_trans hz hb0.size))
 have HF : Hid (e.valid = true → ∀ W, Below W0.heap.size W0 W → Calls Tryz.prog 109 #[.agg (Dc e vk vn vf vs A m c)] W (KB W (DM e))) := Lib.hid fun hval W hW => YX e hval hf hfew lo hi vk vn vf vs A m c W ((hv.later (hb0.mono hz)).later (hW.mono (Nat.le_trans hz hb0.size))) (Nat.le_trans hz (Nat.le_trans hb0.size hW.size))
 have HB0 := Lib.hid hb0
 obtain ⟨c0, c1, c2, c3, c4, c5, c6, c7, c8, c9, c10⟩ := EBox.cells hbx
 clear hb0 hbx hv hf hfew
 unfold Dc at HX HV HF hW0 ⊢
 replace hW0 := Lib.hid hW0
 cases hval : e.valid with
 | false =>
  rw [hval] at HV
  go_enter Tryz.func70, Tryz.ntmps70
  go_upto_region 1 with fail
  rw [← hW0.out]
  go_wp2_with fail
  refine HV.out.mono ?_
  rintro x w1 ⟨rfl, hb1⟩
  have HB1 := Lib.hid (HB0.out.trans (hb1.mono HB0.out.size))
  clear hb1
  go_wp2_with fail
  exact bodyPost_ret (v := .tuple #[.slice none 0 0, .bool false]) (by simp [results, Tryz.results70, go_sem]) rfl ⟨(fun h => by rw [hval] at h; cases h), fun _ => rfl, HB1.out⟩
 | true =>
  rw [hval] at HV
  have HFF := Lib.hid (HF.out hval)
  go_enter Tryz.func70, Tryz.ntmps70
  go_upto_region 1 with fail
  rw [← hW0.out]
  go_wp2_with fail
  refine HV.out.mono ?_
  rintro x w1 ⟨rfl, hb1⟩
  have HB1 := Lib.hid hb1
  clear hb1 c0 c1 c2 c3 c4 c5 c6 c7 c8 c9 c10
  obtain ⟨c0, c1, c2, c3, c4, c5, c6, c7, c8, c9, c10⟩ := EBox.cells (HX.out w1 HB1.out)
  go_wp2_with fail
  refine (HFF.out w1 HB1.out).mono ?_
  rintro x w2 ⟨v, rfl, hown, hb2⟩
  have HO2 := Lib.hid hown; have HB2 := Lib.hid hb2
  clear hown hb2
  go_wp2_with fail
  have hz1 := Nat.le_trans HB0.out.size HB1.out.size
  exact bodyPost_ret (v := .tuple #[v, .bool true]) (by simp [results, Tryz.results70, go_sem]) rfl ⟨fun _ => ⟨v, rfl, HO2.out.base hz1⟩, (fun h => by rw [hval] at h; cases h), HB0.out.trans ((HB1.out.trans (HB2.out.mono HB1.out.size)).mono HB0.out.size)⟩
open Cm (EvsIn)
open Cn (BB Dt DI GR)
theorem PW (l : List EV) (j : Nat) (h : j < l.length) : ((l.take (j + 1)).map DM).flatten = ((l.take j).map DM).flatten ++ DM l[j] := by
 rw [List.take_succ_eq_append_getElem h, List.map_append, List.flatten_append]; simp
theorem Lz (l : List EV) (j : Nat) : ((l.take j).map DM).flatten.length ≤ (l.map DM).flatten.length := by
 have : ((l.take j ++ l.drop j).map DM).flatten.length = (l.map DM).flatten.length := by rw [List.take_append_drop]
 rw [List.map_append, List.flatten_append, List.length_append] at this
 omega
theorem bform_eq (f : ByteArray) (a n : Nat) (ls : List (List Nat)) : (Dp f ++ Db 10 a ++ Db 10 n) ++ ls.flatten = GR f a n ls := by
 unfold GR Dp; simp [List.append_assoc]
theorem PS {f : ByteArray} {a : Nat} {es : List EV} (h : Dt f a es = true) : ∀ e ∈ es, e.valid = true := by
 unfold Dt at h
 simp only [Bool.and_eq_true, Bool.not_eq_true'] at h
 intro e he
 have := List.any_eq_false.1 h.2 e he
 simpa [DI] using this
theorem Sq {f : ByteArray} {a : Nat} {es : List EV} (h : Dt f a es = true) : f.size ≤ 1000 := by
 unfold Dt at h
 simp only [Bool.and_eq_true, decide_eq_true_iff] at h
 exact h.1.1.1.2
def RBB (f : ByteArray) (a : Nat) (es : List EV) (w : World) (r : Ending) (w' : World) : Prop := (Dt f a es = true → ∃ v, r = .returned (.tuple #[v, .bool true]) ∧ BOwn w' w.heap.size v (GR f a es.length (es.map DM))) ∧ (Dt f a es = false → r = .returned (.tuple #[.slice none 0 0, .bool false])) ∧ Below w.heap.size w w'
theorem Vr (es : List EV) (hfew : ∀ e ∈ es, e.v.few = true) (f : ByteArray) (hfs : f.size ≤ maxLen) (at' : Nat) (hat : at' < 18446744073709551616) (hflat : Dt f at' es = true → ((es.map DM).flatten).length ≤ 17592186044416) (A : Option Addr) (cap : Nat) (w : World) (h : EvsIn w A cap es) :
  Calls Tryz.prog 38 #[.agg #[.string f, .int .u64 (at' : Nat), .slice A es.length cap]] w (RBB f at' es w) := by
 have hle := h.le
 have hc := h.cap_le
 simp only [maxLen] at hc
 obtain ⟨W0, hW0⟩ : ∃ W0, W0 = w.alloc (.cells #[.string f, .int .u64 (at' : Nat), .slice A es.length cap] 33) := ⟨_, rfl⟩
 have hx0 : BB W0 w.heap.size f at' A es.length cap := by rw [hW0]; exact heap_alloc_new w _
 have hb0 : Below w.heap.size w W0 := by rw [hW0]; exact (Below.refl _ _).alloc (Nat.le_refl _) _
 have hz0 : w.heap.size < W0.heap.size := by rw [hW0]; simp
 have HK := Lib.hid (h.later hb0)
 have HBX : Hid (∀ W, Below W0.heap.size W0 W → BB W w.heap.size f at' A es.length cap) := Lib.hid fun W hW => hx0.later hW hz0
 have HV := Lib.hid (Rd.GY es f hfs at' hat A cap W0 (h.later hb0))
 have HB0 := Lib.hid hb0
 have HFLATV := Lib.hid hflat
 have HFEW := Lib.hid hfew
 obtain ⟨c0, c1, c2, -⟩ := hx0.cells
 clear h hx0 hb0 hflat hfew
 replace hW0 := Lib.hid hW0
 cases hval : Dt f at' es with
 | false =>
  rw [hval] at HV
  go_enter Tryz.func38, Tryz.ntmps38
  go_upto_region 1 with fail
  rw [← hW0.out]
  go_wp2_with fail
  refine HV.out.mono ?_
  rintro x w1 ⟨rfl, hb1⟩
  have HB1 := Lib.hid (HB0.out.trans (hb1.mono HB0.out.size))
  clear hb1
  go_wp2_with fail
  exact bodyPost_ret (v := .tuple #[.slice none 0 0, .bool false]) (by simp [results, Tryz.results38, go_sem]) rfl ⟨(fun h => by rw [hval] at h; cases h), fun _ => rfl, HB1.out⟩
 | true =>
  rw [hval] at HV
  have hf1 := Sq hval
  have HAV := Lib.hid (PS hval)
  have HFLAT := Lib.hid (HFLATV.out hval)
  have hsl := Bt.Fi f
  have HS := Lib.hid fun W => Vo W f (by omega)
  have HFB := Lib.hid fun (W : World) (v : Value) (hv : BIn W v (sb f)) => GW v (sb f) (by omega) W hv
  have HFS : Hid (Db 10 (sb f).length ++ sb f = Dp f) := Lib.hid (by rw [hsl]; rfl)
  have HUA := Lib.hid fun W => DN at' hat W
  have HUN := Lib.hid fun W => DN es.length (by omega) W
  have HWR : Hid (IntKind.u64.wrap (es.length : Int) = (es.length : Int)) := Lib.hid (IntWalk.u64_in _ (by omega))
  have l1 := Bt.Dh 10 at'; have l2 := Bt.Dh 10 es.length
  have l3 : (Dp f).length ≤ 1011 := by unfold Dp; rw [List.length_append]; have := Bt.Dh 10 f.size; omega
  have HL0 : Hid ((Dp f).length + (Db 10 at').length ≤ 35184372088832) := Lib.hid (by omega)
  have HL1 : Hid ((Dp f ++ Db 10 at').length + (Db 10 es.length).length ≤ 35184372088832) := Lib.hid (by rw [List.length_append]; omega)
  obtain ⟨pre, hpre⟩ : ∃ p, p = Dp f ++ Db 10 at' ++ Db 10 es.length := ⟨_, rfl⟩
  have HPRE := Lib.hid hpre
  have HPL : Hid (pre.length ≤ 2000) := Lib.hid (by rw [hpre, List.length_append, List.length_append]; omega)
  have HBF := Lib.hid (bform_eq f at' es.length (es.map DM))
  rw [← hpre] at HBF
  clear hpre l1 l2 l3 hsl
  generalize hn : es.length = n at *
  have HN := Lib.hid hn; clear hn
  go_enter Tryz.func38, Tryz.ntmps38
  go_upto_region 1 with fail
  rw [← hW0.out]
  go_wp2_with fail
  refine HV.out.mono ?_
  rintro x w1 ⟨rfl, hb1⟩
  have HB1 := Lib.hid hb1
  clear c0 c1 c2
  obtain ⟨c0, c1, c2, -⟩ := (HBX.out w1 hb1).cells
  obtain ⟨cc, w2, hcv, hin2, hb2⟩ := HS.out w1
  have HI2 := Lib.hid hin2; have HB2 := Lib.hid (HB1.out.trans (hb2.mono HB1.out.size))
  clear hin2 hb1 hb2
  go_wp2_with fail
  refine (HFB.out _ _ HI2.out).mono ?_
  rintro x w3 ⟨v3, rfl, ho3, hb3⟩
  have HO3 := Lib.hid (HFS.out ▸ ho3.base HB2.out.size); have HB3 := Lib.hid (HB2.out.trans (hb3.mono HB2.out.size))
  clear ho3 hb3 hcv c0 c1 c2
  obtain ⟨c0, c1, c2, -⟩ := (HBX.out w3 HB3.out).cells
  go_wp2_with fail
  refine (HUA.out w3).mono ?_
  rintro x w4 ⟨v4, rfl, ho4, hb4⟩
  have HI4 := Lib.hid ho4.read; have HO4 := Lib.hid (HO3.out.later hb4); have HB4 := Lib.hid (HB3.out.trans (hb4.mono HB3.out.size))
  clear ho4 hb4 c0 c1 c2
  go_upto_region 5 with (at_builtin; refine Dd _ rfl _ _ rfl W0.heap.size _ _ (Dp f) (Db 10 at') rfl rfl HO4.out HI4.out HL0.out HB4.out.size ?_; intro v5 w5 hown5 hg5 hb5; have HO5 := Lib.hid hown5; have HB5 := Lib.hid (HB4.out.trans hb5); clear hown5 hb5 hg5)
  obtain ⟨c0, c1, c2, -⟩ := (HBX.out w5 HB5.out).cells
  go_wp2_with fail
  refine (HUN.out w5).mono ?_
  rintro x w6 ⟨v6, rfl, ho6, hb6⟩
  have HI6 := Lib.hid ho6.read; have HO6 := Lib.hid (HO5.out.later hb6); have HB6 := Lib.hid (HB5.out.trans (hb6.mono HB5.out.size))
  clear ho6 hb6 c0 c1 c2
  go_wp2_with (at_builtin; refine Dd _ rfl _ _ rfl W0.heap.size _ _ (Dp f ++ Db 10 at') (Db 10 n) rfl rfl HO6.out HI6.out HL1.out HB6.out.size ?_; intro v7 w7 hown7 hg7 hb7; rw [← HPRE.out] at hown7; have HO7 := Lib.hid hown7; have HB7 := Lib.hid (HB6.out.trans hb7); clear hown7 hb7 hg7)
  go_loopw [4, 5] (fun out i wr => ∃ (j : Nat), j ≤ n ∧ i = .int .i64 j ∧ BOwn wr W0.heap.size out (pre ++ ((es.take j).map DM).flatten) ∧ Below W0.heap.size W0 wr) (fun _ i _ => n - (intOf i).toNat)
  case atStart => exact ⟨0, by omega, rfl, by simpa using HO7.out, HB7.out⟩
  case round =>
   obtain ⟨j, hj, rfl, hown, hb⟩ := hrel
   have HO := Lib.hid hown; have HB := Lib.hid hb
   obtain ⟨c0, c1, c2, -⟩ := (HBX.out wr hb).cells
   clear hown hb
   by_cases hlt : j < n
   ·have hke : j < es.length := by have := HN.out; omega
    obtain ⟨b2, off2, lo, hi, vk, vn, vf, vs, A2, m2, c2', rfl, hbl2, hf, hv, hhi, e0, e1, e2, e3, e4, e5, e6, e7, e8, e9, e10⟩ := (HK.out.later HB.out).get j hke
    have HF := Lib.hid (Xu es[j] hf (HFEW.out _ (List.getElem_mem hke)) lo hi vk vn vf vs A2 m2 c2' wr hv hhi)
    have HVJ := Lib.hid (HAV.out _ (List.getElem_mem hke))
    have HFT := Lib.hid (PW es j hke)
    have HLE : Hid ((pre ++ ((es.take j).map DM).flatten).length + (DM es[j]).length ≤ 35184372088832) := Lib.hid (by
     have h1 := Lz es (j + 1)
     rw [PW es j hke, List.length_append] at h1
     have h2 := HFLAT.out
     have h4 := HPL.out
     rw [List.length_append]
     omega)
    obtain ⟨acc, hacc⟩ : ∃ a, a = pre ++ ((es.take j).map DM).flatten := ⟨_, rfl⟩
    rw [← hacc] at HO HLE
    have HACC := Lib.hid hacc
    obtain ⟨fj, hfj⟩ : ∃ a, a = DM es[j] := ⟨_, rfl⟩
    rw [← hfj] at HLE
    have HFJ := Lib.hid hfj
    clear hacc hfj hf hv
    unfold Dc at HF
    go_wp2_with fail
    refine HF.out.mono ?_
    intro x w8 hreb
    obtain ⟨hy, -, hb8⟩ := hreb
    obtain ⟨v8, rfl, ho8⟩ := hy HVJ.out
    rw [← HFJ.out] at ho8
    have HOB := Lib.hid (HO.out.later hb8)
    have HI8 := Lib.hid ho8.read
    have HBB := Lib.hid (HB.out.trans (hb8.mono HB.out.size))
    clear ho8 hb8 hy c0 c1 c2 e0 e1 e2 e3 e4 e5 e6 e7 e8 e9 e10
    go_wp2_with (at_builtin; refine Dd _ rfl _ _ rfl W0.heap.size _ _ acc fj rfl rfl HOB.out HI8.out HLE.out HBB.out.size ?_; intro v9 w9 hown9 hg9 hb9; have HO9 := Lib.hid hown9; have HB9 := Lib.hid (HBB.out.trans hb9); clear hown9 hb9 hg9)
    exact ⟨⟨j + 1, by omega, by go_num, by rw [HFT.out, ← List.append_assoc, ← HACC.out, ← HFJ.out]; exact HO9.out, HB9.out⟩, by simp [intOf]; omega⟩
   ·have hj' : j = n := by omega
    subst hj'
    go_wp2_with fail
    have h := HO.out
    rw [show es.take j = es from by rw [← HN.out, List.take_length], HBF.out, ← HN.out] at h
    exact bodyPost_ret (by simp [results, Tryz.results38, go_sem]) rfl ⟨fun _ => ⟨_, rfl, h.base HB0.out.size⟩, (fun h => by rw [hval] at h; cases h), HB0.out.trans (HB.out.mono HB0.out.size)⟩
theorem Jy (v : Value) (l : List Nat) (hl : l.length ≤ 35184372088832) (w : World) (h : BIn w v l) (hn : l ≠ []) : Calls Tryz.prog 36 #[v] w (KB w l) := by
 obtain ⟨ad, cap, hv, h2, h3, h4, h5⟩ : ∃ ad cap, v = .slice (some ad) l.length cap ∧ l.length ≤ cap ∧ cap ≤ maxLen ∧ ad.block < w.heap.size ∧ ∀ j u, (l.map bv)[j]? = some u → w.cell? (ad.add j) = some u := by
  rcases h with ⟨-, h⟩ | h
  ·exact absurd h hn
  ·exact h
 have HI := Lib.hid h
 subst hv
 obtain ⟨W1, hW1⟩ : ∃ W1, W1 = w.alloc (.cells #[] 5) := ⟨_, rfl⟩
 have hb1 : Below w.heap.size w W1 := by rw [hW1]; exact (Below.refl _ _).alloc (Nat.le_refl _) _
 have h11 : W1.heap[w.heap.size]? = some (.cells #[] 5 (0, 0)) := by rw [hW1]; exact heap_alloc_new _ _
 have HO1 : Hid (BOwn W1 w.heap.size (.slice (some ⟨w.heap.size, 0, none⟩) 0 0) []) := Lib.hid (by
  refine ⟨rfl, .inr ⟨w.heap.size, 0, #[], rfl, Nat.le_refl _, h11, by simp, by decide, rfl, rfl⟩⟩)
 have HB1 := Lib.hid hb1
 clear hb1 h11 h h2 h3 h4 h5
 replace hW1 := Lib.hid hW1
 have hnil := fun w => Lib.run_eql_slice_nil (P := Tryz.prog) w 40 5 (some ad) l.length cap 0 0 Tryz.underlying40
 go_enter Tryz.func36, Tryz.ntmps36
 go_wp2_with (at_builtin; rw [← hW1.out]; refine Dd _ rfl _ _ rfl w.heap.size _ _ [] l rfl rfl HO1.out (HI.out.later HB1.out) (by simpa using hl) HB1.out.size ?_; intro v3 w3 hown3 hg3 hb3; rw [List.nil_append] at hown3; have HO3 := Lib.hid hown3; have HB3 := Lib.hid (HB1.out.trans hb3); clear hown3 hb3 hg3)
 go_ret
 exact ⟨_, rfl, HO3.out, HB3.out⟩
end Rf
end Go.Proofs.YtfmnacebgplpcaaGreat
