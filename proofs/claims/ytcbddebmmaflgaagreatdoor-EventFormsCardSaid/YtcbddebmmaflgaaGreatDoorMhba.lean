/- value.read: nothing there, and all kinds but lists. -/
/- value.read of a list; value.read and value.Read of whatever bytes. -/
import Derived.Test.YtcbddebmmaflgaaGreatDoorMhax
namespace Go.Proofs.YtcbddebmmaflgaaGreatDoor
open Go.RowKit
set_option linter.unusedVariables false
set_option linter.unusedSimpArgs false
namespace Rd
open _root_.Go.Proofs.YtcbddebmmaflgaaGreatDoor.Nm (ret_int ret_bool bitsW ofW okW)
open Vt (VT Rep BoxAt below_drew put5 KidsAt HeadOk kindV of_any kv0 kv1 kv2 kv3 kv4)
open Cm (OnlyAt)
open Cn (BRd brd_own)
attribute [local go_sem] Vt.run_store_float

theorem rs_ok {w : World} {g : Nat} {s : St} (h : RS w g s) : Calls Tryz.prog 32 #[.pointer (some ⟨g, 0, none⟩)] w fun r w' => r = .returned (.bool (!s.2)) ∧ w = w' := by
  obtain ⟨⟨v, hr⟩, -⟩ := h
  exact ok_any g v s.1 s.2 w hr
theorem or_byte (B c : Nat) (hB : B < 72057594037927936) (hc : c < 256) : bits BinOp.or IntKind.u64 (IntKind.u64.wrap ((B : Int) * 256)) (c : Int) = ((B * 256 + c : Nat) : Int) := by
  rw [IntKind.wrap_u64, show ((B : Int) * 256) % 18446744073709551616 = ((B * 256 : Nat) : Int) from by omega, bits_or_u64_nat (B * 256) c (by omega) (by omega)]
  have := Nat.two_pow_add_eq_or_of_lt (i := 8) (show c < 2 ^ 8 by omega) B
  rw [Nat.mul_comm] at this
  rw [show (2 : Nat) ^ 8 = 256 from rfl] at this
  rw [this]
theorem or_byte2 (B c : Nat) (hB : B < 72057594037927936) (hc : c < 256) : bits BinOp.or IntKind.u64 ((B : Int) * 256) (c : Int) = ((B * 256 + c : Nat) : Int) := by
  have := or_byte B c hB hc
  rw [IntKind.wrap_u64, show ((B : Int) * 256) % 18446744073709551616 = (B : Int) * 256 from by omega] at this
  exact this
theorem beN_snoc (l : List Nat) (c : Nat) : beN (l ++ [c]) = beN l * 256 + c := by simp [beN]
theorem beN_take (l : List Nat) (j : Nat) (h : j < l.length) : beN (l.take (j + 1)) = beN (l.take j) * 256 + l[j] := by rw [List.take_succ_eq_append_getElem h, beN_snoc]
theorem beN_lt (l : List Nat) (hb : Byt l) : ∀ j, j ≤ l.length → beN (l.take j) < 256 ^ j := by
  intro j
  induction j with
  | zero => intro _; simp [beN]
  | succ j ih =>
    intro h
    rw [beN_take l j (by omega)]
    have h1 := ih (by omega)
    have h2 := hb l[j] (List.getElem_mem _)
    have : (256 : Nat) ^ (j + 1) = 256 ^ j * 256 := Nat.pow_succ ..
    omega
theorem pow256 : ∀ j, j < 8 → (256 : Nat) ^ j ≤ 72057594037927936 := by decide
theorem pow2568 : ∀ j, j ≤ 8 → (256 : Nat) ^ j ≤ 18446744073709551616 := by decide
theorem rTake_len (s : St) (n : Nat) : (rTake s n).2.length ≤ n := by
  unfold rTake; split
  · rw [List.length_take]; omega
  · simp
theorem rTake_byt2 {s : St} (hb : Byt s.1) (n : Nat) : Byt (rTake s n).2 := by
  unfold rTake; split
  · exact byt_take hb n
  · exact fun b h => by simp at h

set_option maxRecDepth 100000 in
set_option maxHeartbeats 2000000 in
theorem rw_bad (left : Nat) (g : Nat) (s : St) (w : World) (h : RS w g s) (hq : (rUint s).1.2 = true ∨ 4 < (rUint s).2) :
    Calls Tryz.prog 79 #[.pointer (some ⟨g, 0, none⟩), .int .i64 (left : Nat)] w (VRead left s w g) := by
  have HP : Hid (pv left s = none) := Lib.hid (by rw [pv_eq, if_pos hq])
  have hg := h.lt
  obtain ⟨W0, hW0⟩ : ∃ W0, W0 = w.alloc (.cells #[.int .i64 0, .int .i64 0, .float .f64 0, .string ⟨#[]⟩, .slice none 0 0] 30) := ⟨_, rfl⟩
  have hx0 : BoxAt W0 w.heap.size 0 0 0 ⟨#[]⟩ none 0 0 := by rw [hW0]; exact BoxAt.new ..
  have hr0 : RS W0 g s := by rw [hW0]; exact rs_alloc h _
  have ho0 : OnlyAt w W0 g none := by rw [hW0]; exact only_alloc (OnlyAt.of_below (Below.refl _ _)) _
  have HU := Lib.hid (uint_any g s W0 hr0)
  have HX0 := Lib.hid hx0
  have HO0 := Lib.hid ho0
  have HBY := Lib.hid (rUint_byt h.2.1 h.2.2)
  clear h hr0 hx0 ho0
  have HQ := Lib.hid hq
  clear hq
  generalize rUint s = q at *
  obtain ⟨s1, k⟩ := q
  simp only at *
  replace hW0 := Lib.hid hW0
  go_enter Tryz.func79, Tryz.ntmps79
  go_upto_region 1 with fail
  rw [← hW0.out]
  go_wp2_with fail
  refine HU.out.mono ?_
  rintro e w1 ⟨rfl, hr1, ho1⟩
  have hx1 := box_only HX0.out ho1 (by omega)
  have hlt1 := hx1.lt
  have HX1 := Lib.hid hx1
  have HR1 := Lib.hid hr1
  have HO1 := Lib.hid (HO0.out.trans ho1)
  clear hx1 hr1 ho1
  obtain ⟨r0, r1, r2, r3, r4⟩ := HX1.out.cells
  have f0 := Vt.box_free HX1.out 0
  have f1 := Vt.box_free HX1.out 1
  have f2 := Vt.box_free HX1.out 2
  have f3 := Vt.box_free HX1.out 3
  have f4 := Vt.box_free HX1.out 4
  go_wp2_with fail
  refine (rs_ok HR1.out).mono ?_
  rintro e w2 ⟨rfl, rfl⟩
  cases hb : s1.2 with
  | true =>
    go_wp2_with fail
    refine bodyPost_ret (v := .tuple #[.agg #[.int .i64 0, .int .i64 0, .float .f64 0, .string ⟨#[]⟩, .slice none 0 0], .bool false]) (by simp [results, Tryz.results79, go_sem, r0, r1, r2, r3, r4]) rfl ?_
    exact vread_no HP.out (rs_put5 HR1.out (by omega) _ _ _ _ _) (only_put5 HO1.out (Nat.le_refl _) _ _ _ _ _)
  | false =>
    have hk4 : 4 < k := HQ.out.resolve_left (by rw [hb]; simp)
    have k1 : decide ((k : Int) > 4) = true := decide_eq_true (by omega)
    have k2 : decide ((4 : Int) < (k : Int)) = true := decide_eq_true (by omega)
    have k3 : decide (4 < k) = true := decide_eq_true hk4
    go_wp2_with fail
    refine bodyPost_ret (v := .tuple #[.agg #[.int .i64 0, .int .i64 0, .float .f64 0, .string ⟨#[]⟩, .slice none 0 0], .bool false]) (by simp [results, Tryz.results79, go_sem, r0, r1, r2, r3, r4]) rfl ?_
    exact vread_no HP.out (rs_put5 HR1.out (by omega) _ _ _ _ _) (only_put5 HO1.out (Nat.le_refl _) _ _ _ _ _)

set_option maxRecDepth 100000 in
set_option maxHeartbeats 2000000 in
theorem rw_none (left : Nat) (g : Nat) (s : St) (w : World) (h : RS w g s) (hq : (rUint s).1.2 = false ∧ (rUint s).2 = 0) :
    Calls Tryz.prog 79 #[.pointer (some ⟨g, 0, none⟩), .int .i64 (left : Nat)] w (VRead left s w g) := by
  have HP : Hid (pv left s = some ((rUint s).1, .mk 0 0 0 ⟨#[]⟩ [])) := Lib.hid (by rw [pv_eq, if_neg (by rw [hq.1, hq.2]; simp), if_pos hq.2] <;> rfl)
  have hg := h.lt
  obtain ⟨W0, hW0⟩ : ∃ W0, W0 = w.alloc (.cells #[.int .i64 0, .int .i64 0, .float .f64 0, .string ⟨#[]⟩, .slice none 0 0] 30) := ⟨_, rfl⟩
  have hx0 : BoxAt W0 w.heap.size 0 0 0 ⟨#[]⟩ none 0 0 := by rw [hW0]; exact BoxAt.new ..
  have hr0 : RS W0 g s := by rw [hW0]; exact rs_alloc h _
  have ho0 : OnlyAt w W0 g none := by rw [hW0]; exact only_alloc (OnlyAt.of_below (Below.refl _ _)) _
  have HU := Lib.hid (uint_any g s W0 hr0)
  have HX0 := Lib.hid hx0
  have HO0 := Lib.hid ho0
  have HBY := Lib.hid (rUint_byt h.2.1 h.2.2)
  clear h hr0 hx0 ho0
  have HQ := Lib.hid hq
  clear hq
  generalize rUint s = q at *
  obtain ⟨s1, k⟩ := q
  simp only at *
  have k1 : decide ((k : Int) > 4) = false := decide_eq_false (by have := HQ.out.2; omega)
  have k2 : decide ((4 : Int) < (k : Int)) = false := decide_eq_false (by have := HQ.out.2; omega)
  have k3 : decide (4 < k) = false := decide_eq_false (by have := HQ.out.2; omega)
  have hwk : IntKind.i64.wrap (k : Int) = (k : Int) := by have := HQ.out.2; rw [IntKind.wrap_i64]; omega
  have HKV : Hid (kindV (k : Int) = .iface 148 (.agg #[])) := Lib.hid (by rw [HQ.out.2]; exact kv0)
  have hk0 : (k : Int) = 0 := by have := HQ.out.2; omega
  have HK0 := Lib.hid hk0
  clear hk0
  have ta0 := Vt.ta_none_integer
  have ta1 := Vt.ta_none_float
  have ta2 := Vt.ta_none_text
  have ta3 := Vt.ta_none_list
  replace hW0 := Lib.hid hW0
  go_enter Tryz.func79, Tryz.ntmps79
  go_upto_region 1 with fail
  rw [← hW0.out]
  go_wp2_with fail
  refine HU.out.mono ?_
  rintro e w1 ⟨rfl, hr1, ho1⟩
  have hx1 := box_only HX0.out ho1 (by omega)
  have hlt1 := hx1.lt
  have HX1 := Lib.hid hx1
  have HR1 := Lib.hid hr1
  have HO1 := Lib.hid (HO0.out.trans ho1)
  clear hx1 hr1 ho1
  go_wp2_with fail
  refine (rs_ok HR1.out).mono ?_
  rintro e w2 ⟨rfl, rfl⟩
  rw [HQ.out.1]
  obtain ⟨W2, hW2⟩ : ∃ W2, W2 = w1.alloc (.cells #[.int .i64 (k : Int), .int .i64 0, .float .f64 0, .string ⟨#[]⟩, .slice none 0 0] 30) := ⟨_, rfl⟩
  have hv2 : BoxAt W2 w1.heap.size k 0 0 ⟨#[]⟩ none 0 0 := by rw [hW2]; exact BoxAt.new ..
  have ho2 : OnlyAt w1 W2 g none := by rw [hW2]; exact only_alloc (OnlyAt.of_below (Below.refl _ _)) _
  have hr2 : RS W2 g s1 := by rw [hW2]; exact rs_alloc HR1.out _
  have hx2 := box_only HX1.out ho2 (by omega)
  have hlt2 := hv2.lt
  obtain ⟨b1, hb1⟩ : ∃ b1, b1 = w1.heap.size := ⟨_, rfl⟩
  rw [← hb1] at hv2 hlt1 hlt2
  have HV2 := Lib.hid hv2
  have HX2 := Lib.hid hx2
  have HR2 := Lib.hid hr2
  have HO2 := Lib.hid (HO1.out.trans ho2)
  clear ho2 hr2 hx2 hv2
  replace hW2 := Lib.hid hW2
  have HB1 := Lib.hid hb1
  clear hb1
  go_upto_region 5 with fail
  rw [← hW2.out, ← HB1.out]
  obtain ⟨d0, d1, d2, d3, d4⟩ := HV2.out.cells
  go_wp2_with fail
  refine (of_any (k : Int) W2).mono ?_
  rintro e w3 ⟨rfl, rfl⟩
  rw [HKV.out]
  clear d0 d1 d2 d3 d4
  have HX4 := HX2
  have HV4 := HV2
  have HR4 := HR2
  have HO4 := HO2
  replace HP : Hid (pv left s = if s1.2 = true then none else some (s1, .mk 0 0 0 ⟨#[]⟩ [])) := Lib.hid (by rw [HP.out, HQ.out.1]; rfl)
  obtain ⟨s4, hs4⟩ : ∃ s4, s4 = s1 := ⟨_, rfl⟩
  rw [← hs4] at HP HR4
  obtain ⟨d0, d1, d2, d3, d4⟩ := HV4.out.cells
  obtain ⟨r0, r1, r2, r3, r4⟩ := HX4.out.cells
  have f0 := Vt.box_free HX4.out 0
  have f1 := Vt.box_free HX4.out 1
  have f2 := Vt.box_free HX4.out 2
  have f3 := Vt.box_free HX4.out 3
  have f4 := Vt.box_free HX4.out 4
  have hne1 : ¬ (w.heap.size = b1) := by omega
  have hne2 : ¬ (b1 = w.heap.size) := by omega
  go_wp2_with fail
  refine (rs_ok HR4.out).mono ?_
  rintro e w5 ⟨rfl, rfl⟩
  cases hb4 : s4.2 with
  | true =>
    have HN : pv left s = none := by rw [HP.out, hb4]; rfl
    go_wp2_with fail
    refine bodyPost_ret (v := .tuple #[.agg #[.int .i64 0, .int .i64 0, .float .f64 0, .string ⟨#[]⟩, .slice none 0 0], .bool false]) (by simp [results, Tryz.results79, go_sem, r0, r1, r2, r3, r4]) rfl ?_
    exact vread_no HN (rs_put5 HR4.out (by omega) _ _ _ _ _) (only_put5 HO4.out (Nat.le_refl _) _ _ _ _ _)
  | false =>
    have HY : pv left s = some (s4, .mk 0 0 0 ⟨#[]⟩ []) := by rw [HP.out, hb4]; rfl
    go_wp2_with fail
    refine bodyPost_ret (v := .tuple #[.agg #[.int .i64 (k : Int), .int .i64 0, .float .f64 0, .string ⟨#[]⟩, .slice none 0 0], .bool true]) (by simp [results, Tryz.results79, go_sem, r0, r1, r2, r3, r4]) rfl ?_
    exact vread_yes HY (by rw [HK0.out]; exact rep_leaf ⟨by decide, by decide, by decide, by decide, by decide, by decide, by decide⟩) (rs_put5 HR4.out (by omega) _ _ _ _ _) (only_put5 HO4.out (Nat.le_refl _) _ _ _ _ _)

set_option maxRecDepth 100000 in
set_option maxHeartbeats 2000000 in
theorem rw_int (left : Nat) (g : Nat) (s : St) (w : World) (h : RS w g s) (hq : (rUint s).1.2 = false ∧ (rUint s).2 = 1) :
    Calls Tryz.prog 79 #[.pointer (some ⟨g, 0, none⟩), .int .i64 (left : Nat)] w (VRead left s w g) := by
  have HP : Hid (pv left s = if (rUint (rUint s).1).1.2 = true then none else some ((rUint (rUint s).1).1, .mk 1 (unzz (rUint (rUint s).1).2) 0 ⟨#[]⟩ [])) := Lib.hid (by rw [pv_eq, if_neg (by rw [hq.1, hq.2]; simp), if_neg (by rw [hq.2]; decide), if_pos hq.2] <;> rfl)
  have hg := h.lt
  obtain ⟨W0, hW0⟩ : ∃ W0, W0 = w.alloc (.cells #[.int .i64 0, .int .i64 0, .float .f64 0, .string ⟨#[]⟩, .slice none 0 0] 30) := ⟨_, rfl⟩
  have hx0 : BoxAt W0 w.heap.size 0 0 0 ⟨#[]⟩ none 0 0 := by rw [hW0]; exact BoxAt.new ..
  have hr0 : RS W0 g s := by rw [hW0]; exact rs_alloc h _
  have ho0 : OnlyAt w W0 g none := by rw [hW0]; exact only_alloc (OnlyAt.of_below (Below.refl _ _)) _
  have HU := Lib.hid (uint_any g s W0 hr0)
  have HX0 := Lib.hid hx0
  have HO0 := Lib.hid ho0
  have HBY := Lib.hid (rUint_byt h.2.1 h.2.2)
  clear h hr0 hx0 ho0
  have HQ := Lib.hid hq
  clear hq
  generalize rUint s = q at *
  obtain ⟨s1, k⟩ := q
  simp only at *
  have k1 : decide ((k : Int) > 4) = false := decide_eq_false (by have := HQ.out.2; omega)
  have k2 : decide ((4 : Int) < (k : Int)) = false := decide_eq_false (by have := HQ.out.2; omega)
  have k3 : decide (4 < k) = false := decide_eq_false (by have := HQ.out.2; omega)
  have hwk : IntKind.i64.wrap (k : Int) = (k : Int) := by have := HQ.out.2; rw [IntKind.wrap_i64]; omega
  have HKV : Hid (kindV (k : Int) = .iface 136 (.agg #[])) := Lib.hid (by rw [HQ.out.2]; exact kv1)
  have hk0 : (k : Int) = 1 := by have := HQ.out.2; omega
  have HK0 := Lib.hid hk0
  clear hk0
  have ta0 := Vt.ta_integer_integer
  have ta1 := Vt.ta_integer_float
  have ta2 := Vt.ta_integer_text
  have ta3 := Vt.ta_integer_list
  have HI := Lib.hid fun W (hW : RS W g s1) => int_any g s1 W hW
  have HZ := Lib.hid (zz_unzz (rUint s1).2 (rUint_val HBY.out.1))
  generalize rUint s1 = z at *
  obtain ⟨s4, x⟩ := z
  simp only at *
  generalize unzz x = vn at *
  replace hW0 := Lib.hid hW0
  go_enter Tryz.func79, Tryz.ntmps79
  go_upto_region 1 with fail
  rw [← hW0.out]
  go_wp2_with fail
  refine HU.out.mono ?_
  rintro e w1 ⟨rfl, hr1, ho1⟩
  have hx1 := box_only HX0.out ho1 (by omega)
  have hlt1 := hx1.lt
  have HX1 := Lib.hid hx1
  have HR1 := Lib.hid hr1
  have HO1 := Lib.hid (HO0.out.trans ho1)
  clear hx1 hr1 ho1
  go_wp2_with fail
  refine (rs_ok HR1.out).mono ?_
  rintro e w2 ⟨rfl, rfl⟩
  rw [HQ.out.1]
  obtain ⟨W2, hW2⟩ : ∃ W2, W2 = w1.alloc (.cells #[.int .i64 (k : Int), .int .i64 0, .float .f64 0, .string ⟨#[]⟩, .slice none 0 0] 30) := ⟨_, rfl⟩
  have hv2 : BoxAt W2 w1.heap.size k 0 0 ⟨#[]⟩ none 0 0 := by rw [hW2]; exact BoxAt.new ..
  have ho2 : OnlyAt w1 W2 g none := by rw [hW2]; exact only_alloc (OnlyAt.of_below (Below.refl _ _)) _
  have hr2 : RS W2 g s1 := by rw [hW2]; exact rs_alloc HR1.out _
  have hx2 := box_only HX1.out ho2 (by omega)
  have hlt2 := hv2.lt
  obtain ⟨b1, hb1⟩ : ∃ b1, b1 = w1.heap.size := ⟨_, rfl⟩
  rw [← hb1] at hv2 hlt1 hlt2
  have HV2 := Lib.hid hv2
  have HX2 := Lib.hid hx2
  have HR2 := Lib.hid hr2
  have HO2 := Lib.hid (HO1.out.trans ho2)
  clear ho2 hr2 hx2 hv2
  replace hW2 := Lib.hid hW2
  have HB1 := Lib.hid hb1
  clear hb1
  go_upto_region 5 with fail
  rw [← hW2.out, ← HB1.out]
  obtain ⟨d0, d1, d2, d3, d4⟩ := HV2.out.cells
  go_wp2_with fail
  refine (of_any (k : Int) W2).mono ?_
  rintro e w3 ⟨rfl, rfl⟩
  rw [HKV.out]
  clear d0 d1 d2 d3 d4
  go_wp2_with fail
  refine (HI.out _ HR2.out).mono ?_
  rintro e w3 ⟨rfl, hr3, ho3⟩
  have hv3 := box_only HV2.out ho3 (by omega)
  obtain ⟨W4, hW4⟩ : ∃ W4, W4 = w3.setCell ⟨b1, 1, none⟩ (.int .i64 vn) := ⟨_, rfl⟩
  have HV4 : Hid (BoxAt W4 b1 k vn 0 ⟨#[]⟩ none 0 0) := Lib.hid (by rw [hW4]; unfold BoxAt at hv3 ⊢; simp [World.setCell, Array.getElem?_modify, hv3])
  have HX4 : Hid (BoxAt W4 w.heap.size 0 0 0 ⟨#[]⟩ none 0 0) := Lib.hid (by rw [hW4]; exact Vt.box_far (box_only HX2.out ho3 (by omega)) (by omega) _)
  have HR4 : Hid (RS W4 g s4) := Lib.hid (by rw [hW4]; exact rs_set hr3 (by omega) _)
  have HO4 : Hid (OnlyAt w W4 g none) := Lib.hid (by rw [hW4]; exact only_set (HO2.out.trans ho3) (by omega) _)
  have hlt3 := hv3.lt
  obtain ⟨d0, d1, d2, d3, d4⟩ := hv3.cells
  have m0 := Vt.box_free hv3 0
  have m1 := Vt.box_free hv3 1
  have m2 := Vt.box_free hv3 2
  have m3 := Vt.box_free hv3 3
  have m4 := Vt.box_free hv3 4
  clear hv3 hr3 ho3
  replace hW4 := Lib.hid hW4
  go_upto_region 27 with fail
  rw [← hW4.out]
  clear d0 d1 d2 d3 d4 m0 m1 m2 m3 m4
  obtain ⟨d0, d1, d2, d3, d4⟩ := HV4.out.cells
  obtain ⟨r0, r1, r2, r3, r4⟩ := HX4.out.cells
  have f0 := Vt.box_free HX4.out 0
  have f1 := Vt.box_free HX4.out 1
  have f2 := Vt.box_free HX4.out 2
  have f3 := Vt.box_free HX4.out 3
  have f4 := Vt.box_free HX4.out 4
  have hne1 : ¬ (w.heap.size = b1) := by omega
  have hne2 : ¬ (b1 = w.heap.size) := by omega
  go_wp2_with fail
  refine (rs_ok HR4.out).mono ?_
  rintro e w5 ⟨rfl, rfl⟩
  cases hb4 : s4.2 with
  | true =>
    have HN : pv left s = none := by rw [HP.out, hb4]; rfl
    go_wp2_with fail
    refine bodyPost_ret (v := .tuple #[.agg #[.int .i64 0, .int .i64 0, .float .f64 0, .string ⟨#[]⟩, .slice none 0 0], .bool false]) (by simp [results, Tryz.results79, go_sem, r0, r1, r2, r3, r4]) rfl ?_
    exact vread_no HN (rs_put5 HR4.out (by omega) _ _ _ _ _) (only_put5 HO4.out (Nat.le_refl _) _ _ _ _ _)
  | false =>
    have HY : pv left s = some (s4, .mk 1 vn 0 ⟨#[]⟩ []) := by rw [HP.out, hb4]; rfl
    go_wp2_with fail
    refine bodyPost_ret (v := .tuple #[.agg #[.int .i64 (k : Int), .int .i64 vn, .float .f64 0, .string ⟨#[]⟩, .slice none 0 0], .bool true]) (by simp [results, Tryz.results79, go_sem, r0, r1, r2, r3, r4]) rfl ?_
    exact vread_yes HY (by rw [HK0.out]; exact rep_leaf ⟨by decide, by decide, HZ.out.2.1, HZ.out.2.2, by decide, by decide, by decide⟩) (rs_put5 HR4.out (by omega) _ _ _ _ _) (only_put5 HO4.out (Nat.le_refl _) _ _ _ _ _)

set_option maxRecDepth 100000 in
set_option maxHeartbeats 2000000 in
theorem rw_text (left : Nat) (g : Nat) (s : St) (w : World) (h : RS w g s) (hq : (rUint s).1.2 = false ∧ (rUint s).2 = 3) :
    Calls Tryz.prog 79 #[.pointer (some ⟨g, 0, none⟩), .int .i64 (left : Nat)] w (VRead left s w g) := by
  have HP : Hid (pv left s = if (rBytes (rUint s).1).1.2 = true then none else some ((rBytes (rUint s).1).1, .mk 3 0 0 (strOf (rBytes (rUint s).1).2) [])) := Lib.hid (by rw [pv_eq, if_neg (by rw [hq.1, hq.2]; simp), if_neg (by rw [hq.2]; decide), if_neg (by rw [hq.2]; decide), if_neg (by rw [hq.2]; decide), if_pos hq.2] <;> rfl)
  have hg := h.lt
  obtain ⟨W0, hW0⟩ : ∃ W0, W0 = w.alloc (.cells #[.int .i64 0, .int .i64 0, .float .f64 0, .string ⟨#[]⟩, .slice none 0 0] 30) := ⟨_, rfl⟩
  have hx0 : BoxAt W0 w.heap.size 0 0 0 ⟨#[]⟩ none 0 0 := by rw [hW0]; exact BoxAt.new ..
  have hr0 : RS W0 g s := by rw [hW0]; exact rs_alloc h _
  have ho0 : OnlyAt w W0 g none := by rw [hW0]; exact only_alloc (OnlyAt.of_below (Below.refl _ _)) _
  have HU := Lib.hid (uint_any g s W0 hr0)
  have HX0 := Lib.hid hx0
  have HO0 := Lib.hid ho0
  have HBY := Lib.hid (rUint_byt h.2.1 h.2.2)
  clear h hr0 hx0 ho0
  have HQ := Lib.hid hq
  clear hq
  generalize rUint s = q at *
  obtain ⟨s1, k⟩ := q
  simp only at *
  have k1 : decide ((k : Int) > 4) = false := decide_eq_false (by have := HQ.out.2; omega)
  have k2 : decide ((4 : Int) < (k : Int)) = false := decide_eq_false (by have := HQ.out.2; omega)
  have k3 : decide (4 < k) = false := decide_eq_false (by have := HQ.out.2; omega)
  have hwk : IntKind.i64.wrap (k : Int) = (k : Int) := by have := HQ.out.2; rw [IntKind.wrap_i64]; omega
  have HKV : Hid (kindV (k : Int) = .iface 142 (.agg #[])) := Lib.hid (by rw [HQ.out.2]; exact kv3)
  have hk0 : (k : Int) = 3 := by have := HQ.out.2; omega
  have HK0 := Lib.hid hk0
  clear hk0
  have ta0 := Vt.ta_text_integer
  have ta1 := Vt.ta_text_float
  have ta2 := Vt.ta_text_text
  have ta3 := Vt.ta_text_list
  have HI := Lib.hid fun W (hW : RS W g s1) => text_any g s1 W hW
  have HZ : Hid ((strOf (rBytes s1).2).size ≤ maxLen) := Lib.hid (Nat.le_trans (rText_size HBY.out.1 HBY.out.2) (by decide))
  generalize rBytes s1 = z at *
  obtain ⟨s4, x⟩ := z
  simp only at *
  generalize strOf x = vs at *
  replace hW0 := Lib.hid hW0
  go_enter Tryz.func79, Tryz.ntmps79
  go_upto_region 1 with fail
  rw [← hW0.out]
  go_wp2_with fail
  refine HU.out.mono ?_
  rintro e w1 ⟨rfl, hr1, ho1⟩
  have hx1 := box_only HX0.out ho1 (by omega)
  have hlt1 := hx1.lt
  have HX1 := Lib.hid hx1
  have HR1 := Lib.hid hr1
  have HO1 := Lib.hid (HO0.out.trans ho1)
  clear hx1 hr1 ho1
  go_wp2_with fail
  refine (rs_ok HR1.out).mono ?_
  rintro e w2 ⟨rfl, rfl⟩
  rw [HQ.out.1]
  obtain ⟨W2, hW2⟩ : ∃ W2, W2 = w1.alloc (.cells #[.int .i64 (k : Int), .int .i64 0, .float .f64 0, .string ⟨#[]⟩, .slice none 0 0] 30) := ⟨_, rfl⟩
  have hv2 : BoxAt W2 w1.heap.size k 0 0 ⟨#[]⟩ none 0 0 := by rw [hW2]; exact BoxAt.new ..
  have ho2 : OnlyAt w1 W2 g none := by rw [hW2]; exact only_alloc (OnlyAt.of_below (Below.refl _ _)) _
  have hr2 : RS W2 g s1 := by rw [hW2]; exact rs_alloc HR1.out _
  have hx2 := box_only HX1.out ho2 (by omega)
  have hlt2 := hv2.lt
  obtain ⟨b1, hb1⟩ : ∃ b1, b1 = w1.heap.size := ⟨_, rfl⟩
  rw [← hb1] at hv2 hlt1 hlt2
  have HV2 := Lib.hid hv2
  have HX2 := Lib.hid hx2
  have HR2 := Lib.hid hr2
  have HO2 := Lib.hid (HO1.out.trans ho2)
  clear ho2 hr2 hx2 hv2
  replace hW2 := Lib.hid hW2
  have HB1 := Lib.hid hb1
  clear hb1
  go_upto_region 5 with fail
  rw [← hW2.out, ← HB1.out]
  obtain ⟨d0, d1, d2, d3, d4⟩ := HV2.out.cells
  go_wp2_with fail
  refine (of_any (k : Int) W2).mono ?_
  rintro e w3 ⟨rfl, rfl⟩
  rw [HKV.out]
  clear d0 d1 d2 d3 d4
  go_wp2_with fail
  refine (HI.out _ HR2.out).mono ?_
  rintro e w3 ⟨rfl, hr3, ho3⟩
  have hv3 := box_only HV2.out ho3 (by omega)
  obtain ⟨W4, hW4⟩ : ∃ W4, W4 = w3.setCell ⟨b1, 3, none⟩ (.string vs) := ⟨_, rfl⟩
  have HV4 : Hid (BoxAt W4 b1 k 0 0 vs none 0 0) := Lib.hid (by rw [hW4]; unfold BoxAt at hv3 ⊢; simp [World.setCell, Array.getElem?_modify, hv3])
  have HX4 : Hid (BoxAt W4 w.heap.size 0 0 0 ⟨#[]⟩ none 0 0) := Lib.hid (by rw [hW4]; exact Vt.box_far (box_only HX2.out ho3 (by omega)) (by omega) _)
  have HR4 : Hid (RS W4 g s4) := Lib.hid (by rw [hW4]; exact rs_set hr3 (by omega) _)
  have HO4 : Hid (OnlyAt w W4 g none) := Lib.hid (by rw [hW4]; exact only_set (HO2.out.trans ho3) (by omega) _)
  have hlt3 := hv3.lt
  obtain ⟨d0, d1, d2, d3, d4⟩ := hv3.cells
  have m0 := Vt.box_free hv3 0
  have m1 := Vt.box_free hv3 1
  have m2 := Vt.box_free hv3 2
  have m3 := Vt.box_free hv3 3
  have m4 := Vt.box_free hv3 4
  clear hv3 hr3 ho3
  replace hW4 := Lib.hid hW4
  go_upto_region 27 with fail
  rw [← hW4.out]
  clear d0 d1 d2 d3 d4 m0 m1 m2 m3 m4
  obtain ⟨d0, d1, d2, d3, d4⟩ := HV4.out.cells
  obtain ⟨r0, r1, r2, r3, r4⟩ := HX4.out.cells
  have f0 := Vt.box_free HX4.out 0
  have f1 := Vt.box_free HX4.out 1
  have f2 := Vt.box_free HX4.out 2
  have f3 := Vt.box_free HX4.out 3
  have f4 := Vt.box_free HX4.out 4
  have hne1 : ¬ (w.heap.size = b1) := by omega
  have hne2 : ¬ (b1 = w.heap.size) := by omega
  go_wp2_with fail
  refine (rs_ok HR4.out).mono ?_
  rintro e w5 ⟨rfl, rfl⟩
  cases hb4 : s4.2 with
  | true =>
    have HN : pv left s = none := by rw [HP.out, hb4]; rfl
    go_wp2_with fail
    refine bodyPost_ret (v := .tuple #[.agg #[.int .i64 0, .int .i64 0, .float .f64 0, .string ⟨#[]⟩, .slice none 0 0], .bool false]) (by simp [results, Tryz.results79, go_sem, r0, r1, r2, r3, r4]) rfl ?_
    exact vread_no HN (rs_put5 HR4.out (by omega) _ _ _ _ _) (only_put5 HO4.out (Nat.le_refl _) _ _ _ _ _)
  | false =>
    have HY : pv left s = some (s4, .mk 3 0 0 vs []) := by rw [HP.out, hb4]; rfl
    go_wp2_with fail
    refine bodyPost_ret (v := .tuple #[.agg #[.int .i64 (k : Int), .int .i64 0, .float .f64 0, .string vs, .slice none 0 0], .bool true]) (by simp [results, Tryz.results79, go_sem, r0, r1, r2, r3, r4]) rfl ?_
    exact vread_yes HY (by rw [HK0.out]; exact rep_leaf ⟨by decide, by decide, by decide, by decide, by decide, HZ.out, by decide⟩) (rs_put5 HR4.out (by omega) _ _ _ _ _) (only_put5 HO4.out (Nat.le_refl _) _ _ _ _ _)

set_option maxRecDepth 100000 in
set_option maxHeartbeats 2000000 in
theorem rw_float (left : Nat) (g : Nat) (s : St) (w : World) (h : RS w g s) (hq : (rUint s).1.2 = false ∧ (rUint s).2 = 2) :
    Calls Tryz.prog 79 #[.pointer (some ⟨g, 0, none⟩), .int .i64 (left : Nat)] w (VRead left s w g) := by
  have HP : Hid (pv left s = if (rTake (rUint s).1 8).1.2 = true ∨ okW (beN (rTake (rUint s).1 8).2) = false then none else some ((rTake (rUint s).1 8).1, .mk 2 0 (ofW (beN (rTake (rUint s).1 8).2)) ⟨#[]⟩ [])) := Lib.hid (by rw [pv_eq, if_neg (by rw [hq.1, hq.2]; simp), if_neg (by rw [hq.2]; decide), if_neg (by rw [hq.2]; decide), if_pos hq.2] <;> rfl)
  have hg := h.lt
  obtain ⟨W0, hW0⟩ : ∃ W0, W0 = w.alloc (.cells #[.int .i64 0, .int .i64 0, .float .f64 0, .string ⟨#[]⟩, .slice none 0 0] 30) := ⟨_, rfl⟩
  have hx0 : BoxAt W0 w.heap.size 0 0 0 ⟨#[]⟩ none 0 0 := by rw [hW0]; exact BoxAt.new ..
  have hr0 : RS W0 g s := by rw [hW0]; exact rs_alloc h _
  have ho0 : OnlyAt w W0 g none := by rw [hW0]; exact only_alloc (OnlyAt.of_below (Below.refl _ _)) _
  have HU := Lib.hid (uint_any g s W0 hr0)
  have HX0 := Lib.hid hx0
  have HO0 := Lib.hid ho0
  have HBY := Lib.hid (rUint_byt h.2.1 h.2.2)
  clear h hr0 hx0 ho0
  have HQ := Lib.hid hq
  clear hq
  generalize rUint s = q at *
  obtain ⟨s1, k⟩ := q
  simp only at *
  have k1 : decide ((k : Int) > 4) = false := decide_eq_false (by have := HQ.out.2; omega)
  have k2 : decide ((4 : Int) < (k : Int)) = false := decide_eq_false (by have := HQ.out.2; omega)
  have k3 : decide (4 < k) = false := decide_eq_false (by have := HQ.out.2; omega)
  have hwk : IntKind.i64.wrap (k : Int) = (k : Int) := by have := HQ.out.2; rw [IntKind.wrap_i64]; omega
  have HKV : Hid (kindV (k : Int) = .iface 138 (.agg #[])) := Lib.hid (by rw [HQ.out.2]; exact kv2)
  have hk0 : (k : Int) = 2 := by have := HQ.out.2; omega
  have HK0 := Lib.hid hk0
  clear hk0
  have ta0 := Vt.ta_float_integer
  have ta1 := Vt.ta_float_float
  have ta2 := Vt.ta_float_text
  have ta3 := Vt.ta_float_list
  have HI : Hid (∀ W, RS W g s1 → Calls Tryz.prog 30 #[.pointer (some ⟨g, 0, none⟩), .int .i64 8] W fun r w' => ∃ x, r = .returned x ∧ BRd w' x (rTake s1 8).2 ∧ RS w' g (rTake s1 8).1 ∧ OnlyAt W w' g none) := Lib.hid fun W hW => take_any g s1 8 W hW
  have hl8 := rTake_len s1 8
  have HBL := Lib.hid (rTake_byt2 HBY.out.1 8)
  generalize rTake s1 8 = z at *
  obtain ⟨s4, l⟩ := z
  simp only at *
  replace hW0 := Lib.hid hW0
  go_enter Tryz.func79, Tryz.ntmps79
  go_upto_region 1 with fail
  rw [← hW0.out]
  go_wp2_with fail
  refine HU.out.mono ?_
  rintro e w1 ⟨rfl, hr1, ho1⟩
  have hx1 := box_only HX0.out ho1 (by omega)
  have hlt1 := hx1.lt
  have HX1 := Lib.hid hx1
  have HR1 := Lib.hid hr1
  have HO1 := Lib.hid (HO0.out.trans ho1)
  clear hx1 hr1 ho1
  go_wp2_with fail
  refine (rs_ok HR1.out).mono ?_
  rintro e w2 ⟨rfl, rfl⟩
  rw [HQ.out.1]
  obtain ⟨W2, hW2⟩ : ∃ W2, W2 = w1.alloc (.cells #[.int .i64 (k : Int), .int .i64 0, .float .f64 0, .string ⟨#[]⟩, .slice none 0 0] 30) := ⟨_, rfl⟩
  have hv2 : BoxAt W2 w1.heap.size k 0 0 ⟨#[]⟩ none 0 0 := by rw [hW2]; exact BoxAt.new ..
  have ho2 : OnlyAt w1 W2 g none := by rw [hW2]; exact only_alloc (OnlyAt.of_below (Below.refl _ _)) _
  have hr2 : RS W2 g s1 := by rw [hW2]; exact rs_alloc HR1.out _
  have hx2 := box_only HX1.out ho2 (by omega)
  have hlt2 := hv2.lt
  obtain ⟨b1, hb1⟩ : ∃ b1, b1 = w1.heap.size := ⟨_, rfl⟩
  rw [← hb1] at hv2 hlt1 hlt2
  have HV2 := Lib.hid hv2
  have HX2 := Lib.hid hx2
  have HR2 := Lib.hid hr2
  have HO2 := Lib.hid (HO1.out.trans ho2)
  clear ho2 hr2 hx2 hv2
  replace hW2 := Lib.hid hW2
  have HB1 := Lib.hid hb1
  clear hb1
  go_upto_region 5 with fail
  rw [← hW2.out, ← HB1.out]
  obtain ⟨d0, d1, d2, d3, d4⟩ := HV2.out.cells
  go_wp2_with fail
  refine (of_any (k : Int) W2).mono ?_
  rintro e w3 ⟨rfl, rfl⟩
  rw [HKV.out]
  clear d0 d1 d2 d3 d4
  go_wp2_with fail
  refine (HI.out _ HR2.out).mono ?_
  rintro e w3 ⟨x, rfl, hx, hr3, ho3⟩
  obtain ⟨A, cap, rfl⟩ := hx.form
  have hv3 := box_only HV2.out ho3 (by omega)
  have hx3 := box_only HX2.out ho3 (by omega)
  have hlt3 := hv3.lt
  have HV3 := Lib.hid hv3
  have HX3 := Lib.hid hx3
  have HR3 := Lib.hid hr3
  have HO3 := Lib.hid (HO2.out.trans ho3)
  have HBR := Lib.hid hx
  clear hv3 hx3 hr3 ho3 hx
  go_wp2_with fail
  go_loopw [9, 43] (fun bv iv wr => ∃ (j : Nat), j ≤ l.length ∧ bv = .int .u64 (beN (l.take j) : Nat) ∧ iv = .int .i64 j ∧ wr = w3) (fun _ i _ => l.length - (intOf i).toNat)
  case atStart => exact ⟨0, by omega, by simp [beN], rfl, rfl⟩
  case round =>
    obtain ⟨j, hj, rfl, rfl, rfl⟩ := hrel
    by_cases hlt : j < l.length
    · rcases HBR.out with ⟨h1, h2⟩ | ⟨b, off, cap2, h1, h2, h3, h4, h5⟩
      · rw [h2] at hlt; exact absurd hlt (by simp)
      · injection h1 with h1 _ h1c
        subst h1 h1c
        have c1 := h5 j hlt
        have hB : beN (l.take j) < 72057594037927936 := Nat.lt_of_lt_of_le (beN_lt l HBL.out j hj) (pow256 j (by omega))
        obtain ⟨c, hc⟩ : ∃ c, c = l[j] := ⟨_, rfl⟩
        have hcb : c < 256 := by rw [hc]; exact HBL.out _ (List.getElem_mem _)
        rw [← hc] at c1
        have HST : Hid (beN (l.take (j + 1)) = beN (l.take j) * 256 + c) := Lib.hid (by rw [hc]; exact beN_take l j hlt)
        clear h5 hc
        generalize beN (l.take j) = B at *
        have hor := or_byte B c hB hcb
        go_wp2_with fail
        go_roundw
        case rel => exact ⟨j + 1, by omega, by rw [HST.out, or_byte2 B c hB hcb], by go_num, by simp⟩
        case measure => simp [intOf]; omega
    · have hj2 : j = l.length := by omega
      subst hj2
      rw [List.take_length]
      have hBl : beN l < 18446744073709551616 := by have := beN_lt l HBL.out l.length (Nat.le_refl _); rw [List.take_length] at this; exact Nat.lt_of_lt_of_le this (pow2568 _ hl8)
      have HOFL : Hid (ofW (beN l) < 18446744073709551616) := Lib.hid (by unfold ofW; split <;> omega)
      generalize beN l = B at *
      go_wp2_with fail
      refine (_root_.Go.Proofs.YtcbddebmmaflgaaGreatDoor.Nm.of_any B wr).mono ?_
      rintro e w4 ⟨rfl, rfl⟩
      generalize ofW B = vf at *
      obtain ⟨W4, hW4⟩ : ∃ W4, W4 = wr.setCell ⟨b1, 2, none⟩ (.float .f64 vf) := ⟨_, rfl⟩
      have HV4 : Hid (BoxAt W4 b1 k 0 vf ⟨#[]⟩ none 0 0) := Lib.hid (by rw [hW4]; have hv3 := HV3.out; unfold BoxAt at hv3 ⊢; simp [World.setCell, Array.getElem?_modify, hv3])
      have HX4 : Hid (BoxAt W4 w.heap.size 0 0 0 ⟨#[]⟩ none 0 0) := Lib.hid (by rw [hW4]; exact Vt.box_far HX3.out (by omega) _)
      have HR4 : Hid (RS W4 g s4) := Lib.hid (by rw [hW4]; exact rs_set HR3.out (by omega) _)
      have HO4 : Hid (OnlyAt w W4 g none) := Lib.hid (by rw [hW4]; exact only_set HO3.out (by omega) _)
      obtain ⟨d0, d1, d2, d3, d4⟩ := HV3.out.cells
      have m0 := Vt.box_free HV3.out 0
      have m1 := Vt.box_free HV3.out 1
      have m2 := Vt.box_free HV3.out 2
      have m3 := Vt.box_free HV3.out 3
      have m4 := Vt.box_free HV3.out 4
      replace hW4 := Lib.hid hW4
      go_upto_region 27 with fail
      rw [← hW4.out]
      clear d0 d1 d2 d3 d4 m0 m1 m2 m3 m4
      cases hok : okW B with
      | false =>
        have HN : pv left s = none := by rw [HP.out, if_pos (.inr hok)]
        obtain ⟨r0, r1, r2, r3, r4⟩ := HX4.out.cells
        have f0 := Vt.box_free HX4.out 0
        have f1 := Vt.box_free HX4.out 1
        have f2 := Vt.box_free HX4.out 2
        have f3 := Vt.box_free HX4.out 3
        have f4 := Vt.box_free HX4.out 4
        go_wp2_with fail
        refine bodyPost_ret (v := .tuple #[.agg #[.int .i64 0, .int .i64 0, .float .f64 0, .string ⟨#[]⟩, .slice none 0 0], .bool false]) (by simp [results, Tryz.results79, go_sem, r0, r1, r2, r3, r4]) rfl ?_
        exact vread_no HN (rs_put5 HR4.out (by omega) _ _ _ _ _) (only_put5 HO4.out (Nat.le_refl _) _ _ _ _ _)
      | true =>
        replace HP : Hid (pv left s = if s4.2 = true then none else some (s4, .mk 2 0 vf ⟨#[]⟩ [])) := Lib.hid (by
          rw [HP.out]; cases s4.2 <;> simp [hok])
        obtain ⟨d0, d1, d2, d3, d4⟩ := HV4.out.cells
        obtain ⟨r0, r1, r2, r3, r4⟩ := HX4.out.cells
        have f0 := Vt.box_free HX4.out 0
        have f1 := Vt.box_free HX4.out 1
        have f2 := Vt.box_free HX4.out 2
        have f3 := Vt.box_free HX4.out 3
        have f4 := Vt.box_free HX4.out 4
        have hne1 : ¬ (w.heap.size = b1) := by omega
        have hne2 : ¬ (b1 = w.heap.size) := by omega
        go_wp2_with fail
        refine (rs_ok HR4.out).mono ?_
        rintro e w5 ⟨rfl, rfl⟩
        cases hb4 : s4.2 with
        | true =>
          have HN : pv left s = none := by rw [HP.out, hb4]; rfl
          go_wp2_with fail
          refine bodyPost_ret (v := .tuple #[.agg #[.int .i64 0, .int .i64 0, .float .f64 0, .string ⟨#[]⟩, .slice none 0 0], .bool false]) (by simp [results, Tryz.results79, go_sem, r0, r1, r2, r3, r4]) rfl ?_
          exact vread_no HN (rs_put5 HR4.out (by omega) _ _ _ _ _) (only_put5 HO4.out (Nat.le_refl _) _ _ _ _ _)
        | false =>
          have HY : pv left s = some (s4, .mk 2 0 vf ⟨#[]⟩ []) := by rw [HP.out, hb4]; rfl
          go_wp2_with fail
          refine bodyPost_ret (v := .tuple #[.agg #[.int .i64 (k : Int), .int .i64 0, .float .f64 vf, .string ⟨#[]⟩, .slice none 0 0], .bool true]) (by simp [results, Tryz.results79, go_sem, r0, r1, r2, r3, r4]) rfl ?_
          exact vread_yes HY (by rw [HK0.out]; exact rep_leaf ⟨by decide, by decide, by decide, by decide, HOFL.out, by decide, by decide⟩) (rs_put5 HR4.out (by omega) _ _ _ _ _) (only_put5 HO4.out (Nat.le_refl _) _ _ _ _ _)

end Rd
end Go.Proofs.YtcbddebmmaflgaaGreatDoor
namespace Go.Proofs.YtcbddebmmaflgaaGreatDoor
open Go.RowKit
set_option linter.unusedVariables false
set_option linter.unusedSimpArgs false
namespace Rd
open _root_.Go.Proofs.YtcbddebmmaflgaaGreatDoor.Nm (ret_int ret_bool bitsW ofW okW)
open Vt (VT Rep BoxAt below_drew put5 KidsAt HeadOk kindV of_any kv0 kv1 kv2 kv3 kv4)
open Cm (OnlyAt rowOf)
open Cn (BRd brd_own VsAt VNew)
attribute [local go_sem] Vt.run_store_float

/-- The loop over a list's elements. -/
def LInv (left : Nat) (w : World) (g b1 : Nat) (k : Int) (nn : Nat) (sz : St) (okv iv : Value) (wr : World) : Prop :=
  ∃ (okb : Bool) (j n : Nat) (A : Option Addr) (cap : Nat) (sj : St), okv = .bool okb ∧ iv = .int .u64 (j : Nat) ∧ j ≤ nn ∧ BoxAt wr w.heap.size 0 0 0 ⟨#[]⟩ none 0 0 ∧ BoxAt wr b1 k 0 0 ⟨#[]⟩ A n cap ∧ RS wr g sj ∧ OnlyAt w wr g none ∧
    (okb = true → n = j ∧ ∃ acc, VsAt wr (b1 + 1) A cap j acc ∧ rep (pv left) nn sz = (rep (pv left) (nn - j) sj).map (fun q => (q.1, acc ++ q.2)) ∧ j + sj.1.length ≤ 1099511627776) ∧
    (okb = false → rep (pv left) nn sz = none)
theorem vread_open {left : Nat} {s : St} {w w' : World} {g : Nat} {r : Ending} (h : VRead left s w g r w') : ∃ (okb : Bool) (k n : Int) (f : Nat) (str : ByteArray) (A : Option Addr) (m c : Nat) (tt : VT) (s' : St),
    r = .returned (.tuple #[.agg #[.int .i64 k, .int .i64 n, .float .f64 f, .string str, .slice A m c], .bool okb]) ∧ Rep w' w.heap.size w'.heap.size tt (.agg #[.int .i64 k, .int .i64 n, .float .f64 f, .string str, .slice A m c]) ∧ RS w' g s' ∧ OnlyAt w w' g none ∧
    (okb = true → pv left s = some (s', tt)) ∧ (okb = false → pv left s = none) := by
  unfold VRead at h
  cases hp : pv left s with
  | none =>
    rw [hp] at h
    obtain ⟨h1, ⟨s', h2⟩, h3⟩ := h
    exact ⟨false, 0, 0, 0, ⟨#[]⟩, none, 0, 0, .mk 0 0 0 ⟨#[]⟩ [], s', h1, rep_leaf ⟨by decide, by decide, by decide, by decide, by decide, by decide, by decide⟩, h2, h3, fun h => Bool.noConfusion h, fun _ => rfl⟩
  | some q =>
    obtain ⟨s', tt⟩ := q
    rw [hp] at h
    obtain ⟨k, n, f, str, A, m, c, h1, h2, h3, h4⟩ := h
    exact ⟨true, k, n, f, str, A, m, c, tt, s', h1, h2, h3, h4, fun _ => rfl, fun h => Bool.noConfusion h⟩
theorem vs_rep {wr w : World} {b1 : Nat} {acc : List VT} {A : Option Addr} {cap : Nat} (hvs : VsAt wr (b1 + 1) A cap acc.length acc) (hb : w.heap.size < b1) (d0 d1 d2 d3 d4 : Value) :
    Rep (put5 wr w.heap.size 0 d0 d1 d2 d3 d4) w.heap.size (put5 wr w.heap.size 0 d0 d1 d2 d3 d4).heap.size (.mk 4 0 0 ⟨#[]⟩ acc) (.agg #[.int .i64 4, .int .i64 0, .float .f64 0, .string ⟨#[]⟩, .slice A acc.length cap]) := by
  obtain ⟨hk2, hl2, hc2, -⟩ := hvs.kids
  rw [Vt.put5_size]
  exact (Rep.close ⟨by decide, by decide, by decide, by decide, by decide, by decide, hc2⟩ hl2 (hk2.keep fun b o hb _ => Vt.put5_cell _ _ _ _ _ _ _ _ b o (by omega))).more (by omega) (Nat.le_refl _)
theorem ownsRow_alloc {w : World} {base : Nat} {A : Option Addr} {cap n : Nat} {acc : List VT} (h : VsAt w base A cap n acc) : ∃ xs, acc.length = n ∧ xs.length = n * 5 ∧ w.ownsRow base 30 5 (.slice A n cap) n xs ∧ ∀ i (h : i < acc.length), VNew w base (rowOf A) xs i acc[i] := by
  obtain ⟨h0, xs, h1, h2⟩ := h
  exact ⟨xs, h0, h1.1, h1, h2⟩

set_option maxRecDepth 100000 in
set_option maxHeartbeats 2000000 in
theorem rw_list0 (g : Nat) (s : St) (w : World) (h : RS w g s) (hq : (rUint s).1.2 = false ∧ (rUint s).2 = 4) :
    Calls Tryz.prog 79 #[.pointer (some ⟨g, 0, none⟩), .int .i64 (0 : Nat)] w (VRead (0) s w g) := by
  have HP : Hid (pv (0) s = none) := Lib.hid (by rw [pv_eq, if_neg (by rw [hq.1, hq.2]; simp), if_neg (by rw [hq.2]; decide), if_neg (by rw [hq.2]; decide), if_neg (by rw [hq.2]; decide), if_neg (by rw [hq.2]; decide)] <;> rfl)
  have hg := h.lt
  obtain ⟨W0, hW0⟩ : ∃ W0, W0 = w.alloc (.cells #[.int .i64 0, .int .i64 0, .float .f64 0, .string ⟨#[]⟩, .slice none 0 0] 30) := ⟨_, rfl⟩
  have hx0 : BoxAt W0 w.heap.size 0 0 0 ⟨#[]⟩ none 0 0 := by rw [hW0]; exact BoxAt.new ..
  have hr0 : RS W0 g s := by rw [hW0]; exact rs_alloc h _
  have ho0 : OnlyAt w W0 g none := by rw [hW0]; exact only_alloc (OnlyAt.of_below (Below.refl _ _)) _
  have HU := Lib.hid (uint_any g s W0 hr0)
  have HX0 := Lib.hid hx0
  have HO0 := Lib.hid ho0
  have HBY := Lib.hid (rUint_byt h.2.1 h.2.2)
  clear h hr0 hx0 ho0
  have HQ := Lib.hid hq
  clear hq
  generalize rUint s = q at *
  obtain ⟨s1, k⟩ := q
  simp only at *
  have k1 : decide ((k : Int) > 4) = false := decide_eq_false (by have := HQ.out.2; omega)
  have k2 : decide ((4 : Int) < (k : Int)) = false := decide_eq_false (by have := HQ.out.2; omega)
  have k3 : decide (4 < k) = false := decide_eq_false (by have := HQ.out.2; omega)
  have hwk : IntKind.i64.wrap (k : Int) = (k : Int) := by have := HQ.out.2; rw [IntKind.wrap_i64]; omega
  have HKV : Hid (kindV (k : Int) = .iface 143 (.agg #[])) := Lib.hid (by rw [HQ.out.2]; exact kv4)
  have hk0 : (k : Int) = 4 := by have := HQ.out.2; omega
  have HK0 := Lib.hid hk0
  clear hk0
  have ta0 := Vt.ta_list_integer
  have ta1 := Vt.ta_list_float
  have ta2 := Vt.ta_list_text
  have ta3 := Vt.ta_list_list
  have HI := Lib.hid fun W (hW : RS W g s1) => uint_any g s1 W hW
  have HBZ := Lib.hid (rUint_byt HBY.out.1 HBY.out.2)
  have hnn := rUint_val HBY.out.1
  generalize rUint s1 = z at *
  obtain ⟨sz, nn⟩ := z
  simp only at *
  replace hW0 := Lib.hid hW0
  go_enter Tryz.func79, Tryz.ntmps79
  go_upto_region 1 with fail
  rw [← hW0.out]
  go_wp2_with fail
  refine HU.out.mono ?_
  rintro e w1 ⟨rfl, hr1, ho1⟩
  have hx1 := box_only HX0.out ho1 (by omega)
  have hlt1 := hx1.lt
  have HX1 := Lib.hid hx1
  have HR1 := Lib.hid hr1
  have HO1 := Lib.hid (HO0.out.trans ho1)
  clear hx1 hr1 ho1
  go_wp2_with fail
  refine (rs_ok HR1.out).mono ?_
  rintro e w2 ⟨rfl, rfl⟩
  rw [HQ.out.1]
  obtain ⟨W2, hW2⟩ : ∃ W2, W2 = w1.alloc (.cells #[.int .i64 (k : Int), .int .i64 0, .float .f64 0, .string ⟨#[]⟩, .slice none 0 0] 30) := ⟨_, rfl⟩
  have hv2 : BoxAt W2 w1.heap.size k 0 0 ⟨#[]⟩ none 0 0 := by rw [hW2]; exact BoxAt.new ..
  have ho2 : OnlyAt w1 W2 g none := by rw [hW2]; exact only_alloc (OnlyAt.of_below (Below.refl _ _)) _
  have hr2 : RS W2 g s1 := by rw [hW2]; exact rs_alloc HR1.out _
  have hx2 := box_only HX1.out ho2 (by omega)
  have hlt2 := hv2.lt
  obtain ⟨b1, hb1⟩ : ∃ b1, b1 = w1.heap.size := ⟨_, rfl⟩
  rw [← hb1] at hv2 hlt1 hlt2
  have HV2 := Lib.hid hv2
  have HX2 := Lib.hid hx2
  have HR2 := Lib.hid hr2
  have HO2 := Lib.hid (HO1.out.trans ho2)
  clear ho2 hr2 hx2 hv2
  replace hW2 := Lib.hid hW2
  have HB1 := Lib.hid hb1
  clear hb1
  go_upto_region 5 with fail
  rw [← hW2.out, ← HB1.out]
  obtain ⟨d0, d1, d2, d3, d4⟩ := HV2.out.cells
  go_wp2_with fail
  refine (of_any (k : Int) W2).mono ?_
  rintro e w3 ⟨rfl, rfl⟩
  rw [HKV.out]
  clear d0 d1 d2 d3 d4
  go_wp2_with fail
  refine (HI.out _ HR2.out).mono ?_
  rintro e w3 ⟨rfl, hr3, ho3⟩
  have hv3 := box_only HV2.out ho3 (by omega)
  have hx3 := box_only HX2.out ho3 (by omega)
  have hlt3 := hv3.lt
  have HV3 := Lib.hid hv3
  have HX3 := Lib.hid hx3
  have HR3 := Lib.hid hr3
  have HO3 := Lib.hid (HO2.out.trans ho3)
  clear hv3 hx3 hr3 ho3
  go_wp2_with fail
  go_loopw [8, 13] (fun okv iv wr => okv = .bool false ∧ wr = w3) (fun _ _ _ => 0)
  case atStart => exact ⟨rfl, rfl⟩
  case round =>
    obtain ⟨rfl, rfl⟩ := hrel
    obtain ⟨r0, r1, r2, r3, r4⟩ := HX3.out.cells
    have f0 := Vt.box_free HX3.out 0
    have f1 := Vt.box_free HX3.out 1
    have f2 := Vt.box_free HX3.out 2
    have f3 := Vt.box_free HX3.out 3
    have f4 := Vt.box_free HX3.out 4
    go_wp2_with fail
    refine bodyPost_ret (v := .tuple #[.agg #[.int .i64 0, .int .i64 0, .float .f64 0, .string ⟨#[]⟩, .slice none 0 0], .bool false]) (by simp [results, Tryz.results79, go_sem, r0, r1, r2, r3, r4]) rfl ?_
    exact vread_no HP.out (rs_put5 HR3.out (by omega) _ _ _ _ _) (only_put5 HO3.out (Nat.le_refl _) _ _ _ _ _)

end Rd
end Go.Proofs.YtcbddebmmaflgaaGreatDoor
