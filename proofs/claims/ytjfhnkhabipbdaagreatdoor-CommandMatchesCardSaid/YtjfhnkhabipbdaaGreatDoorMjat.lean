/- Tables that stand; strconv.FormatInt; the text of a text. -/
/- The text of a text. -/
/- The text of a list; the text of any valid small value. -/
import Derived.Test.YtjfhnkhabipbdaaGreatDoorMjam
import Derived.Test.YtjfhnkhabipbdaaGreatDoorMjaq
import Derived.Test.YtjfhnkhabipbdaaGreatDoorMjar
import Derived.Test.YtjfhnkhabipbdaaGreatDoorMjas
import Derived.Shelf.Strconv.Itoa4
import Derived.OrdersHeld
import Derived.Test.YtjfhnkhabipbdaaGreatDoorMjah
import Derived.Lib.ItoaLen
namespace Go.Proofs.YtjfhnkhabipbdaaGreatDoor
open Go.RowKit Go.Shelf
set_option linter.unusedVariables false
set_option linter.unusedSimpArgs false
def Tryz.laysFi3_ren : Go.Shelf.Ren := ⟨fun | 173 => 114 | 246 => 38 | 283 => 53 | 284 => 54 | 285 => 55 | 286 => 56 | 129 => 76 | 317 => 75 | 318 => 77 | 319 => 78 | 320 => 79 | 337 => 89 | 338 => 90 | n => n, fun | 2 => 2 | 3 => 3 | 9 => 9 | 4 => 4 | 171 => 76 | 0 => 0 | 53 => 25 | 37 => 79 | 5 => 5 | 173 => 80 | 212 => 102 | 51 => 103 | 20 => 20 | 213 => 104 | 46 => 105 | 232 => 124 | 233 => 125 | n => n, fun | 17 => 0 | 18 => 2 | 19 => 3 | n => n⟩
theorem Tryz.laysFi3 : Go.Proofs.LaysM.n173 Tryz.prog Tryz.laysFi3_ren := {
  mixed := by kernel_rfl
  f129 := Tryz.func76.trans (congrArg some (by kernel_rfl))
  f173 := Tryz.func114.trans (congrArg some (by kernel_rfl))
  f246 := Tryz.func38.trans (congrArg some (by kernel_rfl))
  f283 := Tryz.func53.trans (congrArg some (by kernel_rfl))
  f284 := Tryz.func54.trans (congrArg some (by kernel_rfl))
  f285 := Tryz.func55.trans (congrArg some (by kernel_rfl))
  f286 := Tryz.func56.trans (congrArg some (by kernel_rfl))
  f317 := Tryz.func75.trans (congrArg some (by kernel_rfl))
  f318 := Tryz.func77.trans (congrArg some (by kernel_rfl))
  f319 := Tryz.func78.trans (congrArg some (by kernel_rfl))
  f320 := Tryz.func79.trans (congrArg some (by kernel_rfl))
  f337 := Tryz.func89.trans (congrArg some (by kernel_rfl))
  f338 := Tryz.func90.trans (congrArg some (by kernel_rfl))
  t0 := Tryz.underlying0
  a0 := Tryz.isAgg0
  z0 := Tryz.sizeOf0
  v0 := Tryz.zeroValue0
  t2 := Tryz.underlying2
  a2 := Tryz.isAgg2
  z2 := Tryz.sizeOf2
  v2 := Tryz.zeroValue2
  t3 := Tryz.underlying3
  a3 := Tryz.isAgg3
  z3 := Tryz.sizeOf3
  v3 := Tryz.zeroValue3
  t4 := Tryz.underlying4
  a4 := Tryz.isAgg4
  z4 := Tryz.sizeOf4
  v4 := Tryz.zeroValue4
  t5 := Tryz.underlying5
  a5 := Tryz.isAgg5
  z5 := Tryz.sizeOf5
  v5 := Tryz.zeroValue5
  t9 := Tryz.underlying9
  a9 := Tryz.isAgg9
  z9 := Tryz.sizeOf9
  v9 := Tryz.zeroValue9
  t20 := Tryz.underlying20
  a20 := Tryz.isAgg20
  z20 := Tryz.sizeOf20
  v20 := Tryz.zeroValue20
  t37 := Tryz.underlying79
  a37 := Tryz.isAgg79
  z37 := Tryz.sizeOf79
  v37 := Tryz.zeroValue79
  t46 := Tryz.underlying105
  a46 := Tryz.isAgg105
  z46 := Tryz.sizeOf105
  v46 := Tryz.zeroValue105
  t51 := Tryz.underlying103
  a51 := Tryz.isAgg103
  z51 := Tryz.sizeOf103
  v51 := Tryz.zeroValue103
  t53 := Tryz.underlying25
  a53 := Tryz.isAgg25
  z53 := Tryz.sizeOf25
  v53 := Tryz.zeroValue25
  t171 := Tryz.underlying76
  a171 := Tryz.isAgg76
  z171 := Tryz.sizeOf76
  v171 := Tryz.zeroValue76
  t173 := Tryz.underlying80
  a173 := Tryz.isAgg80
  z173 := Tryz.sizeOf80
  v173 := Tryz.zeroValue80
  t212 := Tryz.underlying102
  a212 := Tryz.isAgg102
  z212 := Tryz.sizeOf102
  v212 := Tryz.zeroValue102
  t213 := Tryz.underlying104
  a213 := Tryz.isAgg104
  z213 := Tryz.sizeOf104
  t232 := Tryz.underlying124
  a232 := Tryz.isAgg124
  z232 := Tryz.sizeOf124
  v232 := Tryz.zeroValue124
  t233 := Tryz.underlying125
  a233 := Tryz.isAgg125
  z233 := Tryz.sizeOf125
  v233 := Tryz.zeroValue125
  g17 := by kernel_rfl
  g18 := by kernel_rfl
  g19 := by kernel_rfl
  i0 := by kernel_rfl
  i2 := by kernel_rfl
  i3 := by kernel_rfl
  i4 := by kernel_rfl
  i5 := by kernel_rfl
  i9 := by kernel_rfl
  i20 := by kernel_rfl
  i37 := by kernel_rfl
  i46 := by kernel_rfl
  i51 := by kernel_rfl
  i53 := by kernel_rfl
  i171 := by kernel_rfl
  i173 := by kernel_rfl
  i212 := by kernel_rfl
  i232 := by kernel_rfl
  i233 := by kernel_rfl
  m17 := by kernel_rfl
  m18 := by kernel_rfl
  m19 := by kernel_rfl }
namespace Vf
open _root_.Go.Proofs.YtjfhnkhabipbdaaGreatDoor.Nm (bitsW bits_any ret_int ret_bool)
open Bt (BOwn BIn sb wpList_append_bytes step_append_bytes bv SOwn join_any)
open Pf (hexL hexL_cons stext)
open Vt (VT Rep BoxAt below_drew KidsAt HeadOk kindV of_any)
open Ev (take_drop tk cons_drop)
open Fu (hd hd_lt textW)

/-- The tables of the numbers' texts. -/
structure TB (w : World) : Prop where
  pow : Lib.TabIs Tryz.prog w "internal/strconv.uint64pow10" .u64 Lib.pow10Tab
  deb : w.cell? ⟨3, 15, none⟩ = some (.int .u8 4)
  lt : 3 < w.heap.size
theorem TB.later {w w' : World} (h : TB w) (hb : Below w.heap.size w w') : TB w' := ⟨Fu.tab_later h.pow hb, (hb.cell (p := ⟨3, 15, none⟩) h.lt).trans h.deb, Nat.lt_of_lt_of_le h.lt hb.size⟩

theorem fmti_any (n : Int) (h0 : -9223372036854775808 ≤ n) (h1 : n ≤ 9223372036854775807) (w : World) (ht : TB w) :
    Calls Tryz.prog 114 #[.int .i64 n, .int .i64 10] w fun e w' => e = .returned (.string ⟨(Lib.itoa n).toArray⟩) ∧ Below w.heap.size w w' :=
  (Any.strconv_FormatInt_10 Tryz.laysFi3 n h0 h1 w ht.pow).mono fun e w' h => ⟨h.1, by obtain ⟨k, os, rfl⟩ := h.2; exact Fu.grow_below _ _ _⟩

/-- What a kind's method of text leaves. -/
def KT (w : World) (l : List UInt8) (r : Ending) (w' : World) : Prop := r = .returned (.string ⟨l.toArray⟩) ∧ Below w.heap.size w w'

set_option maxRecDepth 100000 in
theorem none_text (k n : Int) (f : Nat) (s : ByteArray) (A : Option Addr) (m c : Nat) (w : World) :
    Calls Tryz.prog 136 #[.agg #[], .agg #[.int .i64 k, .int .i64 n, .float .f64 f, .string s, .slice A m c]] w (KT w [110, 105, 108]) := by
  go_enter Tryz.func136, Tryz.ntmps136
  go_wp2_with fail
  go_ret
  exact ⟨rfl, ((Below.refl _ _).alloc (Nat.le_refl _) _).alloc (by simp) _⟩

set_option maxRecDepth 100000 in
theorem int_text (k n : Int) (h0 : -9223372036854775808 ≤ n) (h1 : n ≤ 9223372036854775807) (f : Nat) (s : ByteArray) (A : Option Addr) (m c : Nat) (w : World) (ht : TB w) :
    Calls Tryz.prog 113 #[.agg #[], .agg #[.int .i64 k, .int .i64 n, .float .f64 f, .string s, .slice A m c]] w (KT w (Lib.itoa n)) := by
  obtain ⟨W0, hW0⟩ : ∃ W0, W0 = (w.alloc (.cells #[] 109)).alloc (.cells #[.int .i64 k, .int .i64 n, .float .f64 f, .string s, .slice A m c] 29) := ⟨_, rfl⟩
  have HB0 : Hid (Below w.heap.size w W0) := Lib.hid (by rw [hW0]; exact ((Below.refl _ _).alloc (Nat.le_refl _) _).alloc (by simp) _)
  have hx0 : BoxAt W0 (w.heap.size + 1) k n f s A m c := by
    rw [hW0]
    have e := heap_alloc_new (w.alloc (.cells #[] 109)) (.cells #[.int .i64 k, .int .i64 n, .float .f64 f, .string s, .slice A m c] 29)
    rw [World.size_alloc] at e
    exact e
  obtain ⟨c0, c1, c2, c3, c4⟩ := hx0.cells
  have HI := Lib.hid (fmti_any n h0 h1 W0 (ht.later HB0.out))
  replace hW0 := Lib.hid hW0
  go_enter Tryz.func113, Tryz.ntmps113
  go_upto_region 1 with fail
  rw [← hW0.out]
  go_wp2_with fail
  refine HI.out.mono ?_
  rintro x w1 ⟨rfl, hb⟩
  have HB := Lib.hid (HB0.out.trans (hb.mono HB0.out.size))
  clear hb
  go_wp2_with fail
  go_ret
  exact ⟨rfl, HB.out⟩

set_option maxRecDepth 100000 in
theorem float_text (k n : Int) (f : Nat) (hf : f < 18446744073709551616) (s : ByteArray) (A : Option Addr) (m c : Nat) (w : World) (ht : TB w) :
    Calls Tryz.prog 117 #[.agg #[], .agg #[.int .i64 k, .int .i64 n, .float .f64 f, .string s, .slice A m c]] w (KT w (35 :: (textW (bitsW f)).data.toList)) := by
  obtain ⟨W0, hW0⟩ : ∃ W0, W0 = (w.alloc (.cells #[] 110)).alloc (.cells #[.int .i64 k, .int .i64 n, .float .f64 f, .string s, .slice A m c] 29) := ⟨_, rfl⟩
  have HB0 : Hid (Below w.heap.size w W0) := Lib.hid (by rw [hW0]; exact ((Below.refl _ _).alloc (Nat.le_refl _) _).alloc (by simp) _)
  have hx0 : BoxAt W0 (w.heap.size + 1) k n f s A m c := by
    rw [hW0]
    have e := heap_alloc_new (w.alloc (.cells #[] 110)) (.cells #[.int .i64 k, .int .i64 n, .float .f64 f, .string s, .slice A m c] 29)
    rw [World.size_alloc] at e
    exact e
  obtain ⟨c0, c1, c2, c3, c4⟩ := hx0.cells
  have htl := ht.later HB0.out
  have HI := Lib.hid (Fu.ntext_any f hf W0 htl.deb htl.lt)
  have htz : (textW (bitsW f)).size ≤ 17 := by
    unfold textW
    split
    · decide
    · split
      · decide
      · split
        · decide
        · split
          · decide
          · split
            · decide
            · rw [Fu.top_size _ _ (by omega)]; omega
  obtain ⟨tx, htx⟩ : ∃ tx, tx = textW (bitsW f) := ⟨_, rfl⟩
  rw [← htx] at HI htz ⊢
  replace hW0 := Lib.hid hW0
  clear htx htl hx0
  go_enter Tryz.func117, Tryz.ntmps117
  go_upto_region 1 with fail
  rw [← hW0.out]
  go_wp2_with fail
  refine HI.out.mono ?_
  rintro x w1 ⟨rfl, hb⟩
  have HB := Lib.hid (HB0.out.trans (hb.mono HB0.out.size))
  clear hb
  go_wp2_with fail
  go_ret
  refine ⟨?_, HB.out⟩
  congr 2
end Vf
end Go.Proofs.YtjfhnkhabipbdaaGreatDoor
namespace Go.Proofs.YtjfhnkhabipbdaaGreatDoor
open Go.RowKit Go.Shelf
set_option linter.unusedVariables false
set_option linter.unusedSimpArgs false
namespace Vf
open _root_.Go.Proofs.YtjfhnkhabipbdaaGreatDoor.Nm (bitsW bits_any ret_int ret_bool)
open Bt (BOwn BIn sb wpList_append_bytes step_append_bytes bv SOwn join_any)
open Pf (hexL hexL_cons stext)
open Vt (VT Rep BoxAt below_drew KidsAt HeadOk kindV of_any)
open Cm (takeA consA)
open Fu (hd hd_lt textW)

theorem sx16 (x : Nat) (h : x < 16) (h' : x < (⟨#[48, 49, 50, 51, 52, 53, 54, 55, 56, 57, 97, 98, 99, 100, 101, 102]⟩ : ByteArray).size) : ((⟨#[48, 49, 50, 51, 52, 53, 54, 55, 56, 57, 97, 98, 99, 100, 101, 102]⟩ : ByteArray)[x]'h').toNat = hd x := by
  rcases (by omega : x = 0 ∨ x = 1 ∨ x = 2 ∨ x = 3 ∨ x = 4 ∨ x = 5 ∨ x = 6 ∨ x = 7 ∨ x = 8 ∨ x = 9 ∨ x = 10 ∨ x = 11 ∨ x = 12 ∨ x = 13 ∨ x = 14 ∨ x = 15) with rfl | rfl | rfl | rfl | rfl | rfl | rfl | rfl | rfl | rfl | rfl | rfl | rfl | rfl | rfl | rfl
  all_goals rfl
theorem and15 : ∀ r : Fin 256, bits BinOp.and IntKind.u8 (r.val : Int) 15 = ((r.val % 16 : Nat) : Int) := by decide +kernel
theorem and_15 (c : Nat) (h : c < 256) : bits BinOp.and IntKind.u8 (c : Int) 15 = ((c % 16 : Nat) : Int) := and15 ⟨c, h⟩
theorem two_bytes (w : World) (a b : Nat) : BIn (w.alloc (.cells #[.int .u8 (a : Nat), .int .u8 (b : Nat)] 5)) (.slice (some ⟨w.heap.size, 0, none⟩) 2 2) [a, b] := by
  refine .inr ⟨⟨w.heap.size, 0, none⟩, 2, rfl, by simp, by simp only [maxLen]; omega, by simp, fun j u hu => ?_⟩
  have hj : j = 0 ∨ j = 1 := by have := (List.getElem?_eq_some_iff.1 hu).1; simp at this; omega
  have e := heap_alloc_new w (.cells #[.int .u8 (a : Nat), .int .u8 (b : Nat)] 5)
  rcases hj with rfl | rfl
  all_goals
    simp [bv] at hu
    subst hu
    rw [Go.WideShapes.add_plain]
    simp only [World.cell?, e]
    rfl
theorem ixs (x : Nat) (h : x < 16) (w : World) : (Instr.index 9 (.string ⟨#[48, 49, 50, 51, 52, 53, 54, 55, 56, 57, 97, 98, 99, 100, 101, 102]⟩) (.int .u8 (x : Nat))).run Tryz.prog w = .ok (.int .u8 (hd x : Nat)) w := by
  rcases (by omega : x = 0 ∨ x = 1 ∨ x = 2 ∨ x = 3 ∨ x = 4 ∨ x = 5 ∨ x = 6 ∨ x = 7 ∨ x = 8 ∨ x = 9 ∨ x = 10 ∨ x = 11 ∨ x = 12 ∨ x = 13 ∨ x = 14 ∨ x = 15) with rfl | rfl | rfl | rfl | rfl | rfl | rfl | rfl | rfl | rfl | rfl | rfl | rfl | rfl | rfl | rfl
  all_goals kernel_rfl
/-- Two digits for each byte, as numbers. -/
def hexN2 (l : List Nat) : List Nat := (l.map fun c => [hd (c / 16), hd (c % 16)]).flatten
theorem hexN2_len (l : List Nat) : (hexN2 l).length = 2 * l.length := by
  induction l with
  | nil => rfl
  | cons c l ih => simp [hexN2] at ih ⊢; omega
theorem hexN2_take (l : List Nat) (j : Nat) (h : j < l.length) : hexN2 (l.take (j + 1)) = hexN2 (l.take j) ++ [hd (l[j] / 16), hd (l[j] % 16)] := by
  unfold hexN2
  rw [List.take_succ_eq_append_getElem h, List.map_append, List.flatten_append]; simp
theorem hexN2_map (l : List Nat) : (hexN2 l).map UInt8.ofNat = hexL l := by
  induction l with
  | nil => rfl
  | cons c l ih => rw [hexL_cons, ← ih]; simp [hexN2]
theorem hexN2_lt (l : List Nat) (h : ∀ b ∈ l, b < 256) : ∀ b ∈ hexN2 l, b < 256 := by
  intro b hb
  simp only [hexN2, List.mem_flatten, List.mem_map] at hb
  obtain ⟨q, ⟨c, hc, rfl⟩, hb⟩ := hb
  have := h c hc
  simp only [List.mem_cons, List.not_mem_nil, or_false] at hb
  rcases hb with rfl | rfl
  · exact hd_lt _ (by omega)
  · exact hd_lt _ (by omega)
theorem sb_get (s : ByteArray) (j : Nat) (h : j < (sb s).length) : (s.data.toList.getD j 0).toNat = (sb s)[j] := by
  have hl : j < s.data.toList.length := by simpa [sb] using h
  simp [sb, List.getD_eq_getElem?_getD, List.getElem?_eq_getElem hl]

/-- A row of one's own is no frozen block. -/
theorem own_ne {w : World} {base b p q : Nat} {C : Array Value} {T : TypeId} {v : Value} {l : List Nat} (h : BOwn w base v l) (hb : w.heap[b]? = some (.cells C T (p, q))) (hq : q ≠ 0) : v.ownBlock ≠ some b := by
  intro e
  rcases h.2 with ⟨rfl, -⟩ | ⟨g, cap, cur, rfl, q2, q3, -⟩
  · cases e
  · cases e
    rw [hb] at q3
    injection q3 with q3
    injection q3 with _ _ q3
    injection q3 with _ q3
    exact hq q3

set_option maxRecDepth 100000 in
set_option maxHeartbeats 2000000 in
theorem text_text (k n : Int) (f : Nat) (s : ByteArray) (hs : s.size ≤ 100000) (A : Option Addr) (m c : Nat) (w : World) :
    Calls Tryz.prog 130 #[.agg #[], .agg #[.int .i64 k, .int .i64 n, .float .f64 f, .string s, .slice A m c]] w (KT w (stext s)) := by
  obtain ⟨W1, hW1⟩ : ∃ W, W = w.alloc (.cells #[] 111) := ⟨_, rfl⟩
  obtain ⟨W2, hW2⟩ : ∃ W, W = W1.alloc (.cells #[.int .i64 k, .int .i64 n, .float .f64 f, .string s, .slice A m c] 29) := ⟨_, rfl⟩
  obtain ⟨W3, hW3⟩ : ∃ W, W = W2.alloc (.cells #[.int .u8 34] 5) := ⟨_, rfl⟩
  have hs1 : W1.heap.size = w.heap.size + 1 := by rw [hW1]; simp
  have hs2 : W2.heap.size = w.heap.size + 1 + 1 := by rw [hW2]; simp [hs1]
  have h2 : W2.heap[w.heap.size + 1]? = some (.cells #[.int .i64 k, .int .i64 n, .float .f64 f, .string s, .slice A m c] 29 (0, 0)) := by rw [hW2, ← hs1]; exact heap_alloc_new _ _
  have h3 : W3.heap[w.heap.size + 1 + 1]? = some (.cells #[.int .u8 34] 5 (0, 0)) := by rw [hW3, ← hs2]; exact heap_alloc_new _ _
  have hb3 : Below W2.heap.size W2 W3 := by rw [hW3]; exact (Below.refl _ _).alloc (Nat.le_refl _) _
  have hb2 : Below w.heap.size w W2 := by rw [hW2]; exact Below.alloc (by rw [hW1]; exact (Below.refl _ _).alloc (Nat.le_refl _) _) (by omega) _
  have HB3 : Hid (Below w.heap.size w W3) := Lib.hid (hb2.trans (hb3.mono (by omega)))
  have c3 : W3.cell? ⟨w.heap.size + 1, 3, none⟩ = some (.string s) := by
    rw [hb3.cell (p := ⟨w.heap.size + 1, 3, none⟩) (by simp only []; omega)]
    simp [World.cell?, h2]
  have HO3 : Hid (BOwn W3 w.heap.size (.slice (some ⟨w.heap.size + 1 + 1, 0, none⟩) 1 1) [34]) := Lib.hid (by
    refine ⟨rfl, .inr ⟨w.heap.size + 1 + 1, 1, #[.int .u8 34], rfl, by omega, h3, by simp, by decide, rfl, rfl⟩⟩)
  obtain ⟨W0, hW0⟩ : ∃ W, W = Lib.bytesWorld W3 5 s := ⟨_, rfl⟩
  have hb4 : Below W3.heap.size W3 W0 := by rw [hW0]; exact Lib.bytesWorld_below _ _ _
  have hcv : (convert 9 79 (.string s)).run Tryz.prog W3 = .ok (.slice (some ⟨W3.heap.size, 0, none⟩) s.size (grownCap W3 s.size 0 5)) W0 := by rw [hW0]; exact Lib.run_convert_string_bytes W3 _ _ _ s Tryz.underlying9 Tryz.underlying79 Tryz.underlying5
  have hge : s.size ≤ grownCap W3 s.size 0 5 := grownCap_ge ..
  have hle : grownCap W3 s.size 0 5 ≤ maxLen := grownCap_le_maxLen _ _ _ _ (by simp only [maxLen]; omega)
  have hcells : ∀ j (h : j < (sb s).length), W0.cell? ⟨W3.heap.size, j, none⟩ = some (.int .u8 ((sb s)[j] : Nat)) := fun j h => by
    rw [hW0, Lib.bytesWorld_cell _ _ _ _ (by rw [Bt.sb_len] at h; exact h), sb_get s j h]
  have hz4 : W3.heap.size < W0.heap.size := by rw [hW0, Lib.bytesWorld_size]; omega
  have HFZ : Hid (∃ C p q, W0.heap[W3.heap.size]? = some (.cells C 5 (p, q)) ∧ q ≠ 0) := Lib.hid ⟨_, _, _, by rw [hW0]; exact Lib.bytesWorld_at_new _ _ _, by omega⟩
  generalize grownCap W3 s.size 0 5 = cc at *
  have HB4 : Hid (Below w.heap.size w W0) := Lib.hid (HB3.out.trans (hb4.mono HB3.out.size))
  have HO4 := Lib.hid ((HO3.out.later hb4))
  have HCS := Lib.hid hcells
  have hsl := Bt.sb_len s
  have hlt := Pf.sb_lt s
  simp only [maxLen] at hle
  clear hb4 HO3 hcells
  rw [hW2, hW1] at hW3
  replace hW3 := Lib.hid hW3
  replace hW0 := Lib.hid hW0
  clear hs1 hs2 h2 h3 hb3 hb2 hW2 hW1
  obtain ⟨l, hl⟩ : ∃ l, l = sb s := ⟨_, rfl⟩
  rw [← hl] at HCS hsl hlt
  have HLT := Lib.hid hlt
  have HR : Hid ((([34] ++ hexN2 l ++ [34]).map UInt8.ofNat) = stext s) := Lib.hid (by rw [List.map_append, List.map_append, hexN2_map, hl]; rfl)
  have HRL : Hid (∀ b ∈ ([34] ++ hexN2 l ++ [34] : List Nat), b < 256) := Lib.hid (fun b hb => by
    rcases List.mem_append.1 hb with hb | hb
    · rcases List.mem_append.1 hb with hb | hb
      · rw [List.mem_singleton.1 hb]; omega
      · exact hexN2_lt l hlt b hb
    · rw [List.mem_singleton.1 hb]; omega)
  have hln : l.length ≤ 100000 := by omega
  generalize hN : s.size = N at *
  clear hl hlt hN
  go_enter Tryz.func130, Tryz.ntmps130
  go_upto_region 2 with fail
  rw [← hW3.out]
  go_wp2_with (rw [hcv])
  go_loopw [5, 13] (fun o i wr => ∃ (j : Nat), j ≤ N ∧ i = .int .i64 j ∧ BOwn wr w.heap.size o ([34] ++ hexN2 (l.take j)) ∧ wr.heap[W3.heap.size]? = W0.heap[W3.heap.size]? ∧ Below w.heap.size w wr) (fun _ i _ => N - (intOf i).toNat)
  case atStart => exact ⟨0, by omega, rfl, by simpa [hexN2] using HO4.out, rfl, HB4.out⟩
  case round =>
    obtain ⟨j, hj, rfl, hown, hfx, hb⟩ := hrel
    have HO := Lib.hid hown; have HB := Lib.hid hb; have HFX := Lib.hid hfx
    clear hown hb hfx
    by_cases hjl : j < N
    · have hjl' : j < l.length := by omega
      obtain ⟨cn, hcn⟩ : ∃ cn, cn = l[j] := ⟨_, rfl⟩
      have hcl : cn < 256 := by rw [hcn]; exact HLT.out _ (List.getElem_mem hjl')
      have hcell := (World.cell?_of_block (a := ⟨W3.heap.size, j, none⟩) HFX.out).trans (HCS.out j hjl')
      have hzr : W3.heap.size < wr.heap.size := by
        obtain ⟨C, p, q, hC, -⟩ := HFZ.out
        exact (Array.getElem?_eq_some_iff.1 (HFX.out.trans hC)).1
      rw [← hcn] at hcell
      obtain ⟨acc, hacc⟩ : ∃ a, a = [34] ++ hexN2 (l.take j) := ⟨_, rfl⟩
      rw [← hacc] at HO
      have HLE : Hid (acc.length + ([hd (cn / 16), hd (cn % 16)] : List Nat).length ≤ 35184372088832) := Lib.hid (by
        rw [hacc, List.length_append, hexN2_len, List.length_take]
        simp only [List.length_singleton, List.length_cons, List.length_nil]
        omega)
      have HFIN : Hid (∀ v W, BOwn W w.heap.size v (acc ++ [hd (cn / 16), hd (cn % 16)]) → BOwn W w.heap.size v ([34] ++ hexN2 (l.take (j + 1)))) := Lib.hid fun v W h => by
        rw [hexN2_take l j hjl', ← List.append_assoc, ← hacc, ← hcn]; exact h
      have HBW : Hid (w.heap.size ≤ wr.heap.size) := Lib.hid HB.out.size
      have hsh : ((cn : Int) / 16) = ((cn / 16 : Nat) : Int) := by omega
      have han := and_15 cn hcl
      have hi1 : ∀ w, (Instr.index 9 (.string ⟨#[48, 49, 50, 51, 52, 53, 54, 55, 56, 57, 97, 98, 99, 100, 101, 102]⟩) (.int .u8 ((cn : Int) / 16))).run Tryz.prog w = .ok (.int .u8 (hd (cn / 16) : Nat)) w := fun w => by rw [hsh]; exact ixs _ (by omega) w
      have hi2 : ∀ w, (Instr.index 9 (.string ⟨#[48, 49, 50, 51, 52, 53, 54, 55, 56, 57, 97, 98, 99, 100, 101, 102]⟩) (.int .u8 ((cn : Int) % 16))).run Tryz.prog w = .ok (.int .u8 (hd (cn % 16) : Nat)) w := fun w => by rw [show ((cn : Int) % 16) = ((cn % 16 : Nat) : Int) from by omega]; exact ixs _ (by omega) w
      clear hsh
      clear hacc hcn
      go_upto_region 5 with fail
      refine wp_region_any (by kernel_rfl) ?_
      change wpAny _ _ _ _ _ _ _ (World.drew _)
      refine takeA (i := 0) (v := ?_) rfl (by kernel_rfl) (by kernel_rfl) (by kernel_rfl) (fun _ _ _ h => h) (Or.inl ⟨by rfl, ?_⟩) ?_
      rotate_left 1
      focus (intro w; go_simp; try with_reducible rfl)
      try simp only [Act.put, List.setIfInBounds_toArray, List.set_cons_zero, List.set_cons_succ]
      refine takeA (i := 1) (v := ?_) rfl (by kernel_rfl) (by kernel_rfl) (by kernel_rfl) (fun _ _ _ h => h) (Or.inl ⟨by rfl, ?_⟩) ?_
      rotate_left 1
      focus (intro w; go_simp; try with_reducible rfl)
      try simp only [Act.put, List.setIfInBounds_toArray, List.set_cons_zero, List.set_cons_succ]
      refine takeA (i := 2) (v := ?_) rfl (by kernel_rfl) (by kernel_rfl) (by kernel_rfl) (fun _ _ _ h => h) (Or.inl ⟨by rfl, ?_⟩) ?_
      rotate_left 1
      focus (intro w; go_simp; try with_reducible rfl)
      try simp only [Act.put, List.setIfInBounds_toArray, List.set_cons_zero, List.set_cons_succ]
      refine takeA (i := 4) (v := ?_) rfl (by kernel_rfl) (by kernel_rfl) (by kernel_rfl) (fun _ _ _ h => h) (Or.inl ⟨by rfl, ?_⟩) ?_
      rotate_left 1
      focus (intro w; go_simp; try with_reducible rfl)
      try simp only [Act.put, List.setIfInBounds_toArray, List.set_cons_zero, List.set_cons_succ]
      refine takeA (i := 5) (v := ?_) rfl (by kernel_rfl) (by kernel_rfl) (by kernel_rfl) (fun _ _ _ h => h) (Or.inl ⟨by rfl, ?_⟩) ?_
      rotate_left 1
      focus (intro w; go_simp; try with_reducible rfl)
      try simp only [Act.put, List.setIfInBounds_toArray, List.set_cons_zero, List.set_cons_succ]
      refine takeA (i := 3) (v := ?_) rfl (by kernel_rfl) (by kernel_rfl) (by kernel_rfl) (fun _ _ _ h => h) (Or.inl ⟨by rfl, ?_⟩) ?_
      rotate_left 1
      focus (intro w; go_simp; try with_reducible rfl)
      try simp only [Act.put, List.setIfInBounds_toArray, List.set_cons_zero, List.set_cons_succ]
      refine takeA (i := 6) (v := ?_) rfl (by kernel_rfl) (by kernel_rfl) (by kernel_rfl) (fun _ _ _ h => h) (Or.inl ⟨by rfl, ?_⟩) ?_
      rotate_left 1
      focus (intro w; go_simp; try with_reducible rfl)
      try simp only [Act.put, List.setIfInBounds_toArray, List.set_cons_zero, List.set_cons_succ]
      refine wpAny_ready (rs := [7]) (by kernel_rfl) (by simp) ?_
      refine consA rfl (fun K hK => ?_) AllReady.nil
      go_simp
      obtain ⟨w5, hw5⟩ : ∃ x, x = (wr.alloc (.cells #[.int .u8 (hd (cn / 16) : Nat), .int .u8 (hd (cn % 16) : Nat)] 5)).drew := ⟨_, rfl⟩
      have hin : BIn w5 (.slice (some ⟨wr.heap.size, 0, none⟩) 2 2) [hd (cn / 16), hd (cn % 16)] := by rw [hw5]; exact (two_bytes wr _ _).later (below_drew (Below.refl _ _))
      have hb5 : Below wr.heap.size wr w5 := by rw [hw5]; exact below_drew ((Below.refl _ _).alloc (Nat.le_refl _) _)
      have hown5 := HO.out.later hb5
      have HB5 := Lib.hid (HB.out.trans (hb5.mono HB.out.size))
      rw [← hw5]
      refine hK _ _ ?_
      clear hK K hw5
      try simp only [Act.put, List.setIfInBounds_toArray, List.set_cons_zero, List.set_cons_succ]
      refine wpAny_ready (rs := [8]) (by kernel_rfl) (by simp) ?_
      refine consA rfl (fun K hK => ?_) AllReady.nil
      refine step_append_bytes _ rfl (.tmp 17) (.tmp 24) rfl w.heap.size _ _ acc [hd (cn / 16), hd (cn % 16)] rfl rfl hown5 hin HLE.out (Nat.le_trans HBW.out hb5.size) ?_
      intro v3 w3 hown3 hg3 hb3
      have HF3 : Hid (w3.heap[W3.heap.size]? = W0.heap[W3.heap.size]?) := Lib.hid (by
        obtain ⟨C, p, q, hC, hq⟩ := HFZ.out
        have h5 : w5.heap[W3.heap.size]? = W0.heap[W3.heap.size]? := (hb5.block _ hzr).trans HFX.out
        exact (hg3.block _ (Nat.lt_of_lt_of_le hzr hb5.size) (fun e => own_ne hown5 (h5.trans hC) hq e.symm)).trans h5)
      have HO3 := Lib.hid hown3
      have HB3 := Lib.hid (HB5.out.trans hb3)
      clear hown3 hb3 hown5 hin
      refine hK _ _ ?_
      clear hK K
      try simp only [Act.put, List.setIfInBounds_toArray, List.set_cons_zero, List.set_cons_succ]
      refine takeA (i := 9) (v := ?_) rfl (by kernel_rfl) (by kernel_rfl) (by kernel_rfl) (fun _ _ _ h => h) (Or.inl ⟨by rfl, ?_⟩) ?_
      rotate_left 1
      focus (intro w; go_simp; try with_reducible rfl)
      try simp only [Act.put, List.setIfInBounds_toArray, List.set_cons_zero, List.set_cons_succ]
      refine wpAny_done (by kernel_rfl) ?_ _
      go_wp2_with fail
      exact ⟨⟨j + 1, by omega, by go_num, HFIN.out _ _ HO3.out, HF3.out, HB3.out⟩, by simp [intOf]; omega⟩
    · have hj' : j = N := by omega
      subst hj'
      rw [List.take_of_length_le (by omega)] at HO
      obtain ⟨W5, hW5⟩ : ∃ W, W = wr.alloc (.cells #[.int .u8 34] 5) := ⟨_, rfl⟩
      have hb5 : Below wr.heap.size wr W5 := by rw [hW5]; exact (Below.refl _ _).alloc (Nat.le_refl _) _
      have HB5 : Hid (Below w.heap.size w W5) := Lib.hid (HB.out.trans (hb5.mono HB.out.size))
      have hown5 := HO.out.later hb5
      have hin : BIn W5 (.slice (some ⟨wr.heap.size, 0, none⟩) 1 1) [34] := by rw [hW5]; exact one_byte wr 34 34 rfl
      have HLE : Hid (([34] ++ hexN2 l).length + ([34] : List Nat).length ≤ 35184372088832) := Lib.hid (by
        rw [List.length_append, hexN2_len]
        simp only [List.length_singleton]
        omega)
      obtain ⟨acc, hacc⟩ : ∃ a, a = [34] ++ hexN2 l := ⟨_, rfl⟩
      rw [← hacc] at hown5 HLE HR HRL
      replace hW5 := Lib.hid hW5
      clear hb5 HO hacc
      go_wp2_with (at_builtin; rw [← hW5.out]; refine wpList_append_bytes _ rfl _ _ rfl w.heap.size _ _ acc [34] rfl rfl hown5 hin HLE.out HB5.out.size ?_; intro v2 w2 hown2 hg2 hb2; have HB6 := Lib.hid (HB5.out.trans hb2); have hcv2 := hown2.read.toText HRL.out; rw [HR.out] at hcv2)
      go_ret
      exact ⟨rfl, HB6.out⟩
end Vf
end Go.Proofs.YtjfhnkhabipbdaaGreatDoor
namespace Go.Proofs.YtjfhnkhabipbdaaGreatDoor
open Go.RowKit Go.Shelf
set_option linter.unusedVariables false
set_option linter.unusedSimpArgs false
namespace Vf
open _root_.Go.Proofs.YtjfhnkhabipbdaaGreatDoor.Nm (bitsW bits_any ret_int ret_bool)
open Bt (BOwn BIn sb SOwn join_any run_append_str)
open Pf (hexL hexL_cons stext)
open Vt (VT Rep BoxAt below_drew KidsAt HeadOk kindV of_any)
open Ev (take_drop tk cons_drop)
open Fu (hd hd_lt textW)

/-! ### How long a text gets -/
theorem weightL_sumG (g : VT → Nat) (l : List VT) : ∀ (n m : Int) (C : Int), 0 ≤ C → Vt.weightL l n m ≤ m → (∀ (i : Nat) (hi : i < l.length) (m' : Int), m' ≤ m → l[i].weight m' ≤ m' → ((g l[i]) : Int) ≤ C * l[i].weight m') → 0 ≤ n → C * n + ((l.map g).sum : Int) ≤ C * Vt.weightL l n m := by
  induction l with
  | nil => intro n m C hC h hk hn; rw [Vt.weightL_nil]; simp
  | cons t l ih =>
    intro n m C hC h hk hn
    rw [Vt.weightL_cons] at h ⊢
    by_cases hnm : n ≤ m
    · rw [if_pos hnm] at h ⊢
      have hw := Vt.weight_ge t (m - n)
      have hge := Vt.weightL_ge' l (n + t.weight (m - n)) m
      have h1 := hk 0 (by simp) (m - n) (by omega) (by simp only [List.getElem_cons_zero]; omega)
      simp only [List.getElem_cons_zero] at h1
      have h2 := ih (n + t.weight (m - n)) m C hC h (fun i hi m' hm' hw' => hk (i + 1) (by simpa using hi) m' hm' hw') (by omega)
      simp only [List.map_cons, List.sum_cons]
      rw [Int.mul_add] at h2
      push_cast
      omega
    · rw [if_neg hnm] at h
      omega
def tlen (t : VT) : Nat := (Pf.VT.text t).length + 1
theorem join_le (l : List VT) : (Lib.join (l.map Pf.VT.text) [32]).length ≤ (l.map tlen).sum := by
  cases l with
  | nil => simp [Lib.join_nil]
  | cons t l =>
    rw [List.map_cons, Lib.join_cons, List.length_append]
    have : ∀ l : List VT, (Lib.joinTail [32] (l.map Pf.VT.text)).length = (l.map tlen).sum := fun l => by
      induction l with
      | nil => rfl
      | cons t l ih =>
        rw [List.map_cons, show Lib.joinTail [32] (Pf.VT.text t :: l.map Pf.VT.text) = (32 :: Pf.VT.text t) ++ Lib.joinTail [32] (l.map Pf.VT.text) from by simp [Lib.joinTail], List.length_append, ih, List.map_cons, List.sum_cons, List.length_cons]
        rfl
    rw [this, List.map_cons, List.sum_cons]
    unfold tlen; omega
theorem textW_len (v : Nat) : (textW v).data.toList.length ≤ 17 := by
  have : (textW v).size ≤ 17 := by
    unfold textW
    split
    · decide
    · split
      · decide
      · split
        · decide
        · split
          · decide
          · split
            · decide
            · rw [Fu.top_size _ _ (by omega)]; omega
  exact this
theorem hexL_len (l : List Nat) : (hexL l).length = 2 * l.length := by
  induction l with
  | nil => rfl
  | cons c l ih => rw [hexL_cons]; simp only [List.length_cons]; omega
theorem text_len_of_weight (t : VT) : Pf.VT.fine t → ∀ m : Int, m ≤ 900 → t.weight m ≤ m → (tlen t : Int) ≤ 24 * t.weight m := by
  induction t using VT.ind with
  | _ k n f s l ih =>
    intro hfine m hm h
    obtain ⟨⟨n0, n1, -, -, -⟩, hfk⟩ := Pf.fine_mk.1 hfine
    rw [Vt.weight_mk] at h ⊢
    have hge := Vt.weightL_ge' l (1 + min (s.size : Int) 1000) m
    have hs := weightL_sumG tlen l (1 + min (s.size : Int) 1000) m 24 (by omega) h (fun i hi m' hm' hw' => ih i hi (hfk _ (List.getElem_mem hi)) m' (by omega) hw') (by omega)
    have hss : (s.size : Int) ≤ 900 := by omega
    have h1 := Lib.itoa_length_le n n0 n1
    have h2 := textW_len (bitsW f)
    have h3 := hexL_len (sb s)
    have h4 := Bt.sb_len s
    have h5 := join_le l
    have hnn : (0 : Int) ≤ ((l.map tlen).sum : Int) := Int.natCast_nonneg _
    have e : ((Pf.VT.text (.mk k n f s l)).length : Int) ≤ 21 + 2 * s.size + (l.map tlen).sum := by
      rw [Pf.text_mk]
      split
      · omega
      · split
        · rw [List.length_cons]; push_cast; omega
        · split
          · unfold stext; rw [List.length_cons, List.length_append, List.length_singleton]; push_cast; omega
          · split
            · rw [List.length_cons, List.length_append, List.length_singleton]; push_cast; omega
            · simp; omega
    unfold tlen
    push_cast
    omega
theorem text_len_few {t : VT} (hf : Pf.VT.fine t) (h : t.few = true) : (Pf.VT.text t).length ≤ 21600 := by
  unfold VT.few at h
  rw [Bool.and_eq_true, decide_eq_true_iff] at h
  have := text_len_of_weight t hf 900 (by omega) h.1
  unfold tlen at this
  omega

/-! ### Walks -/
/-- A value's text as a string. -/
def textB (t : VT) : ByteArray := ⟨(Pf.VT.text t).toArray⟩

theorem step_append_str {ops : Array Oper} {o : Oper} {a : Act} {K : Act → World → Prop} {Q : Exit → Act → World → Prop} {E : Prop} (W : World) (hgd : o.guard = none) (s y : Operand)
    (ho : o.op = .call { callee := .builtin .append, args := #[s, y], argTypes := #[69, 69] }) (base : Nat) (v : Value) (g c : Nat) (l : List ByteArray) (x : ByteArray) (hv : a.eval s = v) (hy : a.eval y = .slice (some ⟨g, 0, none⟩) 1 c) (hx : W.cell? ⟨g, 0, none⟩ = some (.string x)) (hown : SOwn W base v l) (hlen : l.length ≤ 1000000) (hbase : base ≤ W.heap.size)
    (h : ∀ v' W', SOwn W' base v' (l ++ [x]) → W.grownBy W' v.ownBlock → Below base W W' → K (a.put o.dst v') W') : if Region.wanted o (yielded ops a.tmps) = true then Oper.wp Tryz.prog o a W K Q else E := by
  have hw : Region.wanted o (yielded ops a.tmps) = true := by simp [Region.wanted, hgd]
  rw [if_pos hw]
  obtain ⟨v', W', hr, h1, h2⟩ := run_append_str o.type g c hx hown hlen hbase
  exact Lib.wp_append_run W s y _ _ ho v _ hv hy v' W' hr (h v' W' h1 h2 ((Below.refl base W).grown h2 hbase hown.row_ge))

set_option maxRecDepth 100000 in
theorem join_none (A : Option Addr) (cap : Nat) (w : World) : Calls Tryz.prog 44 #[.slice A 0 cap, .string ⟨#[32]⟩] w fun e w' => e = .returned (.string ⟨#[]⟩) ∧ Below w.heap.size w w' := by
  go_enter Tryz.func44, Tryz.ntmps44
  go_wp2_with fail
  go_ret
  exact ⟨rfl, Below.refl _ _⟩

/-- A value whose kind's method of text is known. -/
def TxOk (t : VT) : Prop := ∃ T M, kindV t.k = .iface T (.agg #[]) ∧ (∀ n w, (method (n + 1) T (.agg #[]) "clockwork/value.text").run Tryz.prog w = .ok (M, .agg #[]) w) ∧ (∀ args w, (callFunc M args).run Tryz.prog w = .ok (.enter M args) w) ∧
  ∀ (W : World) (lo hi : Nat) (v : Value), Rep W lo hi t v → hi ≤ W.heap.size → TB W → Calls Tryz.prog M #[.agg #[], v] W (KT W (Pf.VT.text t))

theorem sown_nil (w : World) (base : Nat) : SOwn w base (.slice none 0 0) [] := ⟨rfl, .inl ⟨rfl, rfl⟩⟩
theorem sown_lt {w : World} {base : Nat} {v : Value} {l : List ByteArray} (h : SOwn w base v l) : ∀ k, v.ownBlock = some k → k < w.heap.size := by
  intro k hk
  rcases h.2 with ⟨rfl, -⟩ | ⟨g, cap, cur, rfl, q2, q3, -⟩
  · cases hk
  · cases hk; exact (Array.getElem?_eq_some_iff.1 q3).1

set_option maxRecDepth 100000 in
set_option maxHeartbeats 2000000 in
theorem list_text (k n : Int) (f : Nat) (s : ByteArray) (l : List VT) (A : Option Addr) (cap : Nat) (hl : l.length ≤ cap) (hl9 : l.length ≤ 1100) (hcap : cap ≤ maxLen) (w : World) (lo hi : Nat) (hk : KidsAt w lo hi l A) (hz : hi ≤ w.heap.size) (ht : TB w) (hlen : (Lib.join (l.map Pf.VT.text) [32]).length ≤ 500000)
    (ih : ∀ i (h : i < l.length), TxOk l[i]) :
    Calls Tryz.prog 133 #[.agg #[], .agg #[.int .i64 k, .int .i64 n, .float .f64 f, .string s, .slice A l.length cap]] w (KT w (91 :: (Lib.join (l.map Pf.VT.text) [32] ++ [93]))) := by
  simp only [maxLen] at hcap
  obtain ⟨W0, hW0⟩ : ∃ W0, W0 = (w.alloc (.cells #[] 112)).alloc (.cells #[.int .i64 k, .int .i64 n, .float .f64 f, .string s, .slice A l.length cap] 29) := ⟨_, rfl⟩
  have HB0 : Hid (Below w.heap.size w W0) := Lib.hid (by rw [hW0]; exact ((Below.refl _ _).alloc (Nat.le_refl _) _).alloc (by simp) _)
  have hz0 : w.heap.size + 1 < W0.heap.size := by rw [hW0]; simp
  have hx0 : BoxAt W0 (w.heap.size + 1) k n f s A l.length cap := by
    rw [hW0]
    have e := heap_alloc_new (w.alloc (.cells #[] 112)) (.cells #[.int .i64 k, .int .i64 n, .float .f64 f, .string s, .slice A l.length cap] 29)
    rw [World.size_alloc] at e
    exact e
  obtain ⟨c0, c1, c2, c3, c4⟩ := hx0.cells
  have HK := Lib.hid (hk.later (HB0.out.mono hz))
  have HTB0 := Lib.hid (ht.later HB0.out)
  have IH := Lib.hid ih
  have HLEN := Lib.hid hlen
  have hhi : hi ≤ W0.heap.size := Nat.le_trans hz HB0.out.size
  replace hW0 := Lib.hid hW0
  clear hx0 hk ih hlen ht
  go_enter Tryz.func133, Tryz.ntmps133
  go_upto_region 1 with fail
  rw [← hW0.out]
  go_wp2_with fail
  clear c0 c1 c2 c3 c4
  go_loopw [5, 11] (fun out i wr => ∃ (j : Nat) (vo : Value), j ≤ l.length ∧ i = .int .i64 j ∧ vo = out ∧ SOwn wr W0.heap.size vo ((l.take j).map textB) ∧ Below W0.heap.size W0 wr) (fun _ i _ => l.length - (intOf i).toNat)
  case atStart => exact ⟨0, _, by omega, rfl, rfl, by simpa using sown_nil W0 _, Below.refl _ _⟩
  case round =>
    obtain ⟨j, vo, hj, rfl, rfl, hown, hb⟩ := hrel
    have HO0 := Lib.hid hown; have HB := Lib.hid hb
    clear hown hb
    by_cases hlt : j < l.length
    · obtain ⟨b, off, rfl, hb1, hb2, h3⟩ := (HK.out.later (HB.out.mono hhi)).at_ (by omega)
      obtain ⟨k', n', f', s', L', A', cap', e, g0, g1, g2, g3, g4, hrj⟩ := h3 j hlt
      obtain ⟨TT, MM, hkv, hM, hcall, hT⟩ := IH.out j hlt
      obtain ⟨W1, hW1⟩ : ∃ W1, W1 = wr.alloc (.cells #[.int .i64 k', .int .i64 n', .float .f64 f', .string s', .slice A' L'.length cap'] 29) := ⟨_, rfl⟩
      have hba : Below wr.heap.size wr W1 := by rw [hW1]; exact (Below.refl _ _).alloc (Nat.le_refl _) _
      have hx1 : BoxAt W1 wr.heap.size k' n' f' s' A' L'.length cap' := by rw [hW1]; exact BoxAt.new ..
      have hze : wr.heap.size < W1.heap.size := by rw [hW1]; simp
      have hhr : hi ≤ wr.heap.size := Nat.le_trans hhi HB.out.size
      have hkk : k' = l[j].k := by rw [e]
      have HT : Hid (∀ W, Below W1.heap.size W1 W → Calls Tryz.prog MM #[.agg #[], .agg #[.int .i64 k', .int .i64 n', .float .f64 f', .string s', .slice A' L'.length cap']] W (KT W (Pf.VT.text l[j]))) := Lib.hid fun W hW => hT W lo hi _ ((hrj.later (hba.mono hhr)).later (hW.mono (Nat.le_trans hhr hba.size))) (Nat.le_trans hhr (Nat.le_trans hba.size hW.size)) (((HTB0.out.later HB.out).later hba).later hW)
      have HO : Hid (∀ W, Calls Tryz.prog 60 #[.int .i64 k'] W fun e w' => e = .returned (.iface TT (.agg #[])) ∧ W = w') := Lib.hid fun W => by
        have h9 := of_any k' W
        rw [hkk, hkv] at h9
        rw [hkk]
        exact h9
      have HOA := Lib.hid (HO0.out.later hba)
      have HBA := Lib.hid (HB.out.trans (hba.mono HB.out.size))
      have HNE : Hid (vo.ownBlock ≠ some wr.heap.size) := Lib.hid (fun e => by have := sown_lt HO0.out _ e; omega)
      have KS : Hid (∀ W' : World, W'.heap[wr.heap.size]? = W1.heap[wr.heap.size]? → (W'.cell? ⟨wr.heap.size, 0, none⟩ = some (.int .i64 k') ∧ W'.cell? ⟨wr.heap.size, 1, none⟩ = some (.int .i64 n') ∧ W'.cell? ⟨wr.heap.size, 2, none⟩ = some (.float .f64 f') ∧ W'.cell? ⟨wr.heap.size, 3, none⟩ = some (.string s') ∧ W'.cell? ⟨wr.heap.size, 4, none⟩ = some (.slice A' L'.length cap'))) := Lib.hid fun W' hW => BoxAt.cells (show BoxAt W' wr.heap.size k' n' f' s' A' L'.length cap' from hW.trans hx1)
      have HTB : Hid (textB l[j] = ⟨(Pf.VT.text l[j]).toArray⟩) := Lib.hid rfl
      replace hW1 := Lib.hid hW1
      clear h3 hrj e hba hx1 hT hkv hkk
      go_upto_region 5 with fail
      rw [← hW1.out]
      clear g0 g1 g2 g3 g4
      refine wp_region_noPanic ?_
      refine wp_region_held_drew (S := (fun W' : World => W'.cell? ⟨wr.heap.size, 0, none⟩ = some (.int .i64 k') ∧ W'.cell? ⟨wr.heap.size, 1, none⟩ = some (.int .i64 n') ∧ W'.cell? ⟨wr.heap.size, 2, none⟩ = some (.float .f64 f') ∧ W'.cell? ⟨wr.heap.size, 3, none⟩ = some (.string s') ∧ W'.cell? ⟨wr.heap.size, 4, none⟩ = some (.slice A' L'.length cap'))) (by kernel_rfl) ?_ (fun hHeld => ?_)
      · exact KS.out _ rfl
      refine tk (i := 0) rfl ?_
      try simp only [Act.put, List.setIfInBounds_toArray, List.set_cons_zero, List.set_cons_succ]
      refine tk (i := 1) rfl ?_
      try simp only [Act.put, List.setIfInBounds_toArray, List.set_cons_zero, List.set_cons_succ]
      refine tk (i := 2) rfl ?_
      try simp only [Act.put, List.setIfInBounds_toArray, List.set_cons_zero, List.set_cons_succ]
      refine tk (i := 4) rfl ?_
      try simp only [Act.put, List.setIfInBounds_toArray, List.set_cons_zero, List.set_cons_succ]
      refine wpAnyH_ready (rs := [3]) (by kernel_rfl) (by simp) ?_
      refine cons_drop rfl (fun K hK => ?_) AllReadyH.nil
      go_simp
      refine (HO.out _).mono ?_
      rintro e w2 ⟨rfl, rfl⟩
      go_wp2_with fail
      refine hK.out _ _ (KS.out _ (rfl)) (fun hHeld2 => ?_)
      clear hK K
      try simp only [Act.put, List.setIfInBounds_toArray, List.set_cons_zero, List.set_cons_succ]
      refine wpAnyH_ready (rs := [5]) (by kernel_rfl) (by simp) ?_
      refine cons_drop rfl (fun K hK => ?_) AllReadyH.nil
      go_simp
      refine (HT.out _ (below_drew (Below.refl _ _))).mono ?_
      rintro e w3 ⟨rfl, hb3⟩
      have hbx3 : Below W1.heap.size W1 w3 := (below_drew (Below.refl _ _)).trans hb3
      have HB3 := Lib.hid hbx3
      clear hb3 hbx3
      go_wp2_with fail
      refine hK.out _ _ (KS.out _ (HB3.out.block _ hze)) (fun hHeld2 => ?_)
      clear hK K
      try simp only [Act.put, List.setIfInBounds_toArray, List.set_cons_zero, List.set_cons_succ]
      refine wpAnyH_ready (rs := [6]) (by kernel_rfl) (by simp) ?_
      refine cons_drop rfl (fun K hK => ?_) AllReadyH.nil
      go_simp
      obtain ⟨w4, hw4⟩ : ∃ x, x = w3.alloc (.cells #[.string (textB l[j])] 9) := ⟨_, rfl⟩
      rw [← HTB.out, ← hw4]
      have hcell : w4.cell? ⟨w3.heap.size, 0, none⟩ = some (.string (textB l[j])) := by rw [hw4]; have e := heap_alloc_new w3 (.cells #[.string (textB l[j])] 9); simp only [World.cell?, e]; rfl
      have hb4 : Below w3.heap.size w3 w4 := by rw [hw4]; exact (Below.refl _ _).alloc (Nat.le_refl _) _
      have HB4 := Lib.hid (HB3.out.trans (hb4.mono HB3.out.size))
      have HO4 := Lib.hid ((HOA.out.later HB4.out))
      have HCE := Lib.hid hcell
      clear hw4 hcell hb4
      refine hK.out _ _ (KS.out _ (HB4.out.block _ hze)) (fun hHeld2 => ?_)
      clear hK K
      try simp only [Act.put, List.setIfInBounds_toArray, List.set_cons_zero, List.set_cons_succ]
      refine wpAnyH_ready (rs := [7]) (by kernel_rfl) (by simp) ?_
      refine cons_drop rfl (fun K hK => ?_) AllReadyH.nil
      refine step_append_str _ rfl _ _ rfl W0.heap.size _ w3.heap.size 1 _ (textB l[j]) rfl rfl HCE.out HO4.out (by rw [List.length_map, List.length_take]; omega) (Nat.le_trans HBA.out.size HB4.out.size) ?_
      intro v5 w5 hown5 hg5 hb5
      have HO5 := Lib.hid hown5
      have HB5 := Lib.hid ((HBA.out.trans (HB4.out.mono HBA.out.size)).trans hb5)
      have HZ5 : Hid (w5.heap[wr.heap.size]? = W1.heap[wr.heap.size]?) := Lib.hid ((hg5.block _ (Nat.lt_of_lt_of_le hze HB4.out.size) (fun e => HNE.out e.symm)).trans (HB4.out.block _ hze))
      clear hown5 hg5 hb5
      refine hK.out _ _ (KS.out _ (HZ5.out)) (fun hHeld2 => ?_)
      clear hK K
      try simp only [Act.put, List.setIfInBounds_toArray, List.set_cons_zero, List.set_cons_succ]
      refine tk (i := 8) rfl ?_
      try simp only [Act.put, List.setIfInBounds_toArray, List.set_cons_zero, List.set_cons_succ]
      refine wpAnyH_done (by kernel_rfl) ?_ _
      refine NoPanic.normal ?_
      go_wp2_with fail
      exact ⟨⟨j + 1, v5, by omega, by go_num, rfl, by rw [List.take_succ_eq_append_getElem hlt, List.map_append]; exact HO5.out, HB5.out⟩, by simp [intOf]; omega⟩
    · have hj' : j = l.length := by omega
      subst hj'
      obtain ⟨tx, htx⟩ : ∃ tx : ByteArray, tx = ⟨(Lib.join (l.map Pf.VT.text) [32]).toArray⟩ := ⟨_, rfl⟩
      have htz : tx.size ≤ 500000 := by rw [htx]; exact HLEN.out
      have h := HO0.out
      rw [List.take_length] at h
      have HJ : Hid (Calls Tryz.prog 44 #[vo, .string ⟨#[32]⟩] wr fun e w' => e = .returned (.string tx) ∧ Below wr.heap.size wr w') := Lib.hid (by
        cases l with
        | nil =>
          rcases h.2 with ⟨h1, -⟩ | ⟨g, cap, cur, h1, q2, q3, q4, q5, q6, q7⟩
          · rw [h1, htx]; exact join_none _ _ wr
          · rw [h1, htx]; exact join_none _ _ wr
        | cons t l =>
          rw [htx]
          have e : ((t :: l).map textB).map (·.data.toList) = (t :: l).map Pf.VT.text := by
            rw [List.map_map]; rfl
          have h9 := join_any _ _ _ wr h (by simp) (by rw [List.length_map]; omega) (by rw [e]; have := HLEN.out; omega)
          rw [e] at h9
          exact h9)
      replace htx := Lib.hid htx
      clear h
      go_wp2_with fail
      refine HJ.out.mono ?_
      rintro x w2 ⟨rfl, hb2⟩
      have HB2 := Lib.hid (HB0.out.trans ((HB.out.trans (hb2.mono HB.out.size)).mono HB0.out.size))
      clear hb2
      go_wp2_with fail
      go_ret
      have hfin : ((⟨#[91]⟩ : ByteArray) ++ tx) ++ ⟨#[93]⟩ = ⟨(91 :: (Lib.join (l.map Pf.VT.text) [32] ++ [93])).toArray⟩ := by
        apply Fu.bytes_ext
        rw [htx.out]
        simp
      exact ⟨congrArg (fun b => Ending.returned (Value.string b)) hfin, HB2.out⟩
end Vf
end Go.Proofs.YtjfhnkhabipbdaaGreatDoor
