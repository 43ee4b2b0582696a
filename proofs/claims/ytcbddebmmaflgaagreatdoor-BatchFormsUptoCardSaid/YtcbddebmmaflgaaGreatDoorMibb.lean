/- The reference's form of an event. -/
/- The reference's form of a batch; slices.Clone of bytes. -/
/- Events and batches that are read, as pure steps; what is read is a form. No program in sight. -/
import Derived.Test.YtcbddebmmaflgaaGreatDoorMiaz
import Derived.Test.YtcbddebmmaflgaaGreatDoorMiat
import Derived.Test.YtcbddebmmaflgaaGreatDoorMiay
namespace Go.Proofs.YtcbddebmmaflgaaGreatDoor
open Go.RowKit
set_option linter.unusedVariables false
set_option linter.unusedSimpArgs false
namespace Rf
open _root_.Go.Proofs.YtcbddebmmaflgaaGreatDoor.Nm (bitsW rbits_any ret_int ret_bool)
open Bt (BOwn BIn ubytes sb bown_nil wpList_append_bytes bv sel)
open Pf (zz zz_lt be8 sform)
open Vf (KB one_byte eform hasF)
open Vt (VT Rep BoxAt below_drew KidsAt HeadOk)
open Ev (EV FieldsOk evCells vCells EBox ERep zeroT fieldsOf)
open Cm (has_field)

theorem selT0 (b0 b1 b2 b3 b4 b5 : Bool) (p0 p1 p2 p3 p4 p5 : List Nat) (h : b0 = true) : sel [b0, b1, b2, b3, b4, b5] [p0, p1, p2, p3, p4, p5] 1 = sel [b0, b1, b2, b3, b4, b5] [p0, p1, p2, p3, p4, p5] 0 ++ p0 := by subst h; simp [sel]
theorem selF0 (b0 b1 b2 b3 b4 b5 : Bool) (p0 p1 p2 p3 p4 p5 : List Nat) (h : b0 = false) : sel [b0, b1, b2, b3, b4, b5] [p0, p1, p2, p3, p4, p5] 1 = sel [b0, b1, b2, b3, b4, b5] [p0, p1, p2, p3, p4, p5] 0 := by subst h; simp [sel]
theorem selT1 (b0 b1 b2 b3 b4 b5 : Bool) (p0 p1 p2 p3 p4 p5 : List Nat) (h : b1 = true) : sel [b0, b1, b2, b3, b4, b5] [p0, p1, p2, p3, p4, p5] 2 = sel [b0, b1, b2, b3, b4, b5] [p0, p1, p2, p3, p4, p5] 1 ++ p1 := by subst h; simp [sel]
theorem selF1 (b0 b1 b2 b3 b4 b5 : Bool) (p0 p1 p2 p3 p4 p5 : List Nat) (h : b1 = false) : sel [b0, b1, b2, b3, b4, b5] [p0, p1, p2, p3, p4, p5] 2 = sel [b0, b1, b2, b3, b4, b5] [p0, p1, p2, p3, p4, p5] 1 := by subst h; simp [sel]
theorem selT2 (b0 b1 b2 b3 b4 b5 : Bool) (p0 p1 p2 p3 p4 p5 : List Nat) (h : b2 = true) : sel [b0, b1, b2, b3, b4, b5] [p0, p1, p2, p3, p4, p5] 3 = sel [b0, b1, b2, b3, b4, b5] [p0, p1, p2, p3, p4, p5] 2 ++ p2 := by subst h; simp [sel]
theorem selF2 (b0 b1 b2 b3 b4 b5 : Bool) (p0 p1 p2 p3 p4 p5 : List Nat) (h : b2 = false) : sel [b0, b1, b2, b3, b4, b5] [p0, p1, p2, p3, p4, p5] 3 = sel [b0, b1, b2, b3, b4, b5] [p0, p1, p2, p3, p4, p5] 2 := by subst h; simp [sel]
theorem selT3 (b0 b1 b2 b3 b4 b5 : Bool) (p0 p1 p2 p3 p4 p5 : List Nat) (h : b3 = true) : sel [b0, b1, b2, b3, b4, b5] [p0, p1, p2, p3, p4, p5] 4 = sel [b0, b1, b2, b3, b4, b5] [p0, p1, p2, p3, p4, p5] 3 ++ p3 := by subst h; simp [sel]
theorem selF3 (b0 b1 b2 b3 b4 b5 : Bool) (p0 p1 p2 p3 p4 p5 : List Nat) (h : b3 = false) : sel [b0, b1, b2, b3, b4, b5] [p0, p1, p2, p3, p4, p5] 4 = sel [b0, b1, b2, b3, b4, b5] [p0, p1, p2, p3, p4, p5] 3 := by subst h; simp [sel]
theorem selT4 (b0 b1 b2 b3 b4 b5 : Bool) (p0 p1 p2 p3 p4 p5 : List Nat) (h : b4 = true) : sel [b0, b1, b2, b3, b4, b5] [p0, p1, p2, p3, p4, p5] 5 = sel [b0, b1, b2, b3, b4, b5] [p0, p1, p2, p3, p4, p5] 4 ++ p4 := by subst h; simp [sel]
theorem selF4 (b0 b1 b2 b3 b4 b5 : Bool) (p0 p1 p2 p3 p4 p5 : List Nat) (h : b4 = false) : sel [b0, b1, b2, b3, b4, b5] [p0, p1, p2, p3, p4, p5] 5 = sel [b0, b1, b2, b3, b4, b5] [p0, p1, p2, p3, p4, p5] 4 := by subst h; simp [sel]
theorem selT5 (b0 b1 b2 b3 b4 b5 : Bool) (p0 p1 p2 p3 p4 p5 : List Nat) (h : b5 = true) : sel [b0, b1, b2, b3, b4, b5] [p0, p1, p2, p3, p4, p5] 6 = sel [b0, b1, b2, b3, b4, b5] [p0, p1, p2, p3, p4, p5] 5 ++ p5 := by subst h; simp [sel]
theorem selF5 (b0 b1 b2 b3 b4 b5 : Bool) (p0 p1 p2 p3 p4 p5 : List Nat) (h : b5 = false) : sel [b0, b1, b2, b3, b4, b5] [p0, p1, p2, p3, p4, p5] 6 = sel [b0, b1, b2, b3, b4, b5] [p0, p1, p2, p3, p4, p5] 5 := by subst h; simp [sel]
theorem sel_len (b0 b1 b2 b3 b4 b5 : Bool) (p0 p1 p2 p3 p4 p5 : List Nat) (M : Nat) (h0 : p0.length ≤ M) (h1 : p1.length ≤ M) (h2 : p2.length ≤ M) (h3 : p3.length ≤ M) (h4 : p4.length ≤ M) (h5 : p5.length ≤ M) (j : Nat) (hj : j ≤ 6) : (sel [b0, b1, b2, b3, b4, b5] [p0, p1, p2, p3, p4, p5] j).length ≤ 6 * M := by
  have a : ∀ (b : Bool) (p : List Nat), p.length ≤ M → (if b = true then p else []).length ≤ M := fun b p h => by split <;> simp [h]
  have a0 := a b0 p0 h0; have a1 := a b1 p1 h1; have a2 := a b2 p2 h2; have a3 := a b3 p3 h3; have a4 := a b4 p4 h4; have a5 := a b5 p5 h5
  rcases (by omega : j = 0 ∨ j = 1 ∨ j = 2 ∨ j = 3 ∨ j = 4 ∨ j = 5 ∨ j = 6) with rfl | rfl | rfl | rfl | rfl | rfl | rfl <;> simp [sel] <;> omega

set_option maxRecDepth 100000 in
set_option maxHeartbeats 4000000 in
theorem reform_walk (k id n at' : Nat) (name text : ByteArray) (hk : k ≤ 11) (hi : id < 18446744073709551616) (hn : n ≤ 2147483647) (ha : at' < 18446744073709551616) (hs : name.size ≤ 1000) (ht : text.size ≤ 1000) (vk vn : Int) (vf : Nat) (vs : ByteArray) (A : Option Addr) (m c : Nat) (b0 b1 b2 b3 b4 b5 : Bool) (fv : List Nat) (hfv : fv.length ≤ 30000) (w : World)
    (H0 : Hid (∀ W, Calls Tryz.prog 44 #[.int .i64 (k : Nat), .int .u8 105] W fun r w' => r = .returned (.bool b0) ∧ Below W.heap.size W w'))
    (H1 : Hid (∀ W, Calls Tryz.prog 44 #[.int .i64 (k : Nat), .int .u8 110] W fun r w' => r = .returned (.bool b1) ∧ Below W.heap.size W w'))
    (H2 : Hid (∀ W, Calls Tryz.prog 44 #[.int .i64 (k : Nat), .int .u8 97] W fun r w' => r = .returned (.bool b2) ∧ Below W.heap.size W w'))
    (H3 : Hid (∀ W, Calls Tryz.prog 44 #[.int .i64 (k : Nat), .int .u8 115] W fun r w' => r = .returned (.bool b3) ∧ Below W.heap.size W w'))
    (H4 : Hid (∀ W, Calls Tryz.prog 44 #[.int .i64 (k : Nat), .int .u8 116] W fun r w' => r = .returned (.bool b4) ∧ Below W.heap.size W w'))
    (H5 : Hid (∀ W, Calls Tryz.prog 44 #[.int .i64 (k : Nat), .int .u8 118] W fun r w' => r = .returned (.bool b5) ∧ Below W.heap.size W w'))
    (hVB : ∀ W, Below w.heap.size w W → Calls Tryz.prog 97 #[.agg #[.int .i64 vk, .int .i64 vn, .float .f64 vf, .string vs, .slice A m c]] W fun e w' => ∃ v, e = .returned (.tuple #[v, .bool true]) ∧ BOwn w' W.heap.size v fv ∧ Below W.heap.size W w') :
    Calls Tryz.prog 56 #[.agg #[.int .i64 (k : Nat), .int .u64 (id : Nat), .int .i64 (n : Nat), .int .u64 (at' : Nat), .string name, .string text, .int .i64 vk, .int .i64 vn, .float .f64 vf, .string vs, .slice A m c]] w (KB w ([1] ++ ubytes 10 k ++ sel [b0, b1, b2, b3, b4, b5] [ubytes 10 id, ubytes 10 n, ubytes 10 at', sform name, sform text, fv] 6)) := by
  obtain ⟨W0, hW0⟩ : ∃ W0, W0 = w.alloc (.cells #[.int .i64 (k : Nat), .int .u64 (id : Nat), .int .i64 (n : Nat), .int .u64 (at' : Nat), .string name, .string text, .int .i64 vk, .int .i64 vn, .float .f64 vf, .string vs, .slice A m c] 32) := ⟨_, rfl⟩
  have HB0 : Hid (Below w.heap.size w W0) := Lib.hid (by rw [hW0]; exact (Below.refl _ _).alloc (Nat.le_refl _) _)
  have hbx : EBox W0 w.heap.size #[.int .i64 (k : Nat), .int .u64 (id : Nat), .int .i64 (n : Nat), .int .u64 (at' : Nat), .string name, .string text, .int .i64 vk, .int .i64 vn, .float .f64 vf, .string vs, .slice A m c] := by rw [hW0]; exact heap_alloc_new w _
  have hzz : w.heap.size < W0.heap.size := by rw [hW0]; simp
  have HX : Hid (∀ W, Below W0.heap.size W0 W → EBox W w.heap.size #[.int .i64 (k : Nat), .int .u64 (id : Nat), .int .i64 (n : Nat), .int .u64 (at' : Nat), .string name, .string text, .int .i64 vk, .int .i64 vn, .float .f64 vf, .string vs, .slice A m c]) := Lib.hid fun W hW => hbx.later hW hzz
  have HVB : Hid (∀ W, Below W0.heap.size W0 W → Calls Tryz.prog 97 #[.agg #[.int .i64 vk, .int .i64 vn, .float .f64 vf, .string vs, .slice A m c]] W fun e w' => ∃ v, e = .returned (.tuple #[v, .bool true]) ∧ BOwn w' W.heap.size v fv ∧ Below W.heap.size W w') := Lib.hid fun W hW => hVB W (HB0.out.trans (hW.mono HB0.out.size))
  have HUK := Lib.hid fun W => ruform_any k (by omega) W
  have HUI := Lib.hid fun W => ruform_any id hi W
  have HUN := Lib.hid fun W => ruform_any n (by omega) W
  have HUA := Lib.hid fun W => ruform_any at' ha W
  have hln := Bt.sb_len name
  have hlt := Bt.sb_len text
  have HS3 := Lib.hid fun W => str_in W name (by omega)
  have HS4 := Lib.hid fun W => str_in W text (by omega)
  have HFB3 := Lib.hid fun (W : World) (v : Value) (hv : BIn W v (sb name)) => rbform_any v (sb name) (by omega) W hv
  have HFB4 := Lib.hid fun (W : World) (v : Value) (hv : BIn W v (sb text)) => rbform_any v (sb text) (by omega) W hv
  have HFS3 : Hid (ubytes 10 (sb name).length ++ sb name = sform name) := Lib.hid (by rw [hln]; rfl)
  have HFS4 : Hid (ubytes 10 (sb text).length ++ sb text = sform text) := Lib.hid (by rw [hlt]; rfl)
  have hkl := Bt.ubytes_len 10 k
  have l0 := Bt.ubytes_len 10 id; have l1 := Bt.ubytes_len 10 n; have l2 := Bt.ubytes_len 10 at'
  have l3 : (sform name).length ≤ 30000 := by unfold sform; rw [List.length_append]; have := Bt.ubytes_len 10 name.size; omega
  have l4 : (sform text).length ≤ 30000 := by unfold sform; rw [List.length_append]; have := Bt.ubytes_len 10 text.size; omega
  have HSL := Lib.hid (sel_len b0 b1 b2 b3 b4 b5 (ubytes 10 id) (ubytes 10 n) (ubytes 10 at') (sform name) (sform text) fv 30000 (by omega) (by omega) (by omega) l3 l4 hfv)
  obtain ⟨pre, hpre⟩ : ∃ p, p = [1] ++ ubytes 10 k := ⟨_, rfl⟩
  have HPRE := Lib.hid hpre
  have hpl : pre.length ≤ 12 := by rw [hpre, List.length_append]; simp only [List.length_singleton]; omega
  have HLE0 : Hid ((pre ++ sel [b0, b1, b2, b3, b4, b5] [ubytes 10 id, ubytes 10 n, ubytes 10 at', sform name, sform text, fv] 0).length + (ubytes 10 id).length ≤ 35184372088832) := Lib.hid (by have := HSL.out 0 (by omega); rw [List.length_append]; omega)
  have HLE1 : Hid ((pre ++ sel [b0, b1, b2, b3, b4, b5] [ubytes 10 id, ubytes 10 n, ubytes 10 at', sform name, sform text, fv] 1).length + (ubytes 10 n).length ≤ 35184372088832) := Lib.hid (by have := HSL.out 1 (by omega); rw [List.length_append]; omega)
  have HLE2 : Hid ((pre ++ sel [b0, b1, b2, b3, b4, b5] [ubytes 10 id, ubytes 10 n, ubytes 10 at', sform name, sform text, fv] 2).length + (ubytes 10 at').length ≤ 35184372088832) := Lib.hid (by have := HSL.out 2 (by omega); rw [List.length_append]; omega)
  have HLE3 : Hid ((pre ++ sel [b0, b1, b2, b3, b4, b5] [ubytes 10 id, ubytes 10 n, ubytes 10 at', sform name, sform text, fv] 3).length + (sform name).length ≤ 35184372088832) := Lib.hid (by have := HSL.out 3 (by omega); rw [List.length_append]; omega)
  have HLE4 : Hid ((pre ++ sel [b0, b1, b2, b3, b4, b5] [ubytes 10 id, ubytes 10 n, ubytes 10 at', sform name, sform text, fv] 4).length + (sform text).length ≤ 35184372088832) := Lib.hid (by have := HSL.out 4 (by omega); rw [List.length_append]; omega)
  have HLE5 : Hid ((pre ++ sel [b0, b1, b2, b3, b4, b5] [ubytes 10 id, ubytes 10 n, ubytes 10 at', sform name, sform text, fv] 5).length + (fv).length ≤ 35184372088832) := Lib.hid (by have := HSL.out 5 (by omega); rw [List.length_append]; omega)
  have HKL := Lib.hid hkl
  have HWK : Hid (IntKind.u64.wrap (k : Int) = (k : Int)) := Lib.hid (IntWalk.u64_in _ (by omega))
  have HWN : Hid (IntKind.u64.wrap (n : Int) = (n : Int)) := Lib.hid (IntWalk.u64_in _ (by omega))
  rw [← hpre]
  clear hbx hVB hpre hkl l0 l1 l2 l3 l4 hln hlt hfv hpl
  replace hW0 := Lib.hid hW0
  obtain ⟨W1, hW1⟩ : ∃ W1, W1 = W0.alloc (.cells #[.int .u8 1] 5) := ⟨_, rfl⟩
  have hb1 : Below W0.heap.size W0 W1 := by rw [hW1]; exact (Below.refl _ _).alloc (Nat.le_refl _) _
  have h11 : W1.heap[W0.heap.size]? = some (.cells #[.int .u8 1] 5 (0, 0)) := by rw [hW1]; exact heap_alloc_new _ _
  have HO1 : Hid (BOwn W1 W0.heap.size (.slice (some ⟨W0.heap.size, 0, none⟩) 1 1) [1]) := Lib.hid (by
    refine ⟨rfl, .inr ⟨W0.heap.size, 1, #[.int .u8 1], rfl, Nat.le_refl _, h11, by simp, by decide, rfl, rfl⟩⟩)
  have HB1 := Lib.hid hb1
  obtain ⟨c0, c1, c2, c3, c4, c5, c6, c7, c8, c9, c10⟩ := EBox.cells (HX.out W0 (Below.refl _ _))
  clear hb1 h11
  replace hW1 := Lib.hid hW1
  go_enter Tryz.func56, Tryz.ntmps56
  go_upto_region 1 with fail
  rw [← hW0.out]
  go_wp2_with fail
  rw [← hW1.out]
  try rw [HWK.out]
  refine (HUK.out _).mono ?_
  rintro x w2 ⟨v2, rfl, ho2, hb2⟩
  have HI2 := Lib.hid ho2.read; have HO2 := Lib.hid (HO1.out.later hb2); have HB2 := Lib.hid (HB1.out.trans (hb2.mono HB1.out.size))
  clear ho2 hb2 c0 c1 c2 c3 c4 c5 c6 c7 c8 c9 c10
  go_wp2_with (at_builtin; refine wpList_append_bytes _ rfl _ _ rfl W0.heap.size _ _ [1] (ubytes 10 k) rfl rfl HO2.out HI2.out (by have := HKL.out; simp only [List.length_singleton]; omega) HB2.out.size ?_; intro v3 w3 hown3 hg3 hb3; rw [← HPRE.out] at hown3; have HO3 := Lib.hid hown3; have HB3 := Lib.hid (HB2.out.trans hb3); clear hown3 hb3 hg3)
  go_loopw [3, 4] (fun o i wr => ∃ (j : Nat), j ≤ 6 ∧ i = .int .i64 j ∧ BOwn wr W0.heap.size o (pre ++ sel [b0, b1, b2, b3, b4, b5] [ubytes 10 id, ubytes 10 n, ubytes 10 at', sform name, sform text, fv] j) ∧ Below W0.heap.size W0 wr) (fun _ i _ => 6 - (intOf i).toNat)
  case atStart => exact ⟨0, by omega, rfl, by rw [show sel [b0, b1, b2, b3, b4, b5] [ubytes 10 id, ubytes 10 n, ubytes 10 at', sform name, sform text, fv] 0 = [] from by simp [sel], List.append_nil]; exact HO3.out, HB3.out⟩
  case round =>
    obtain ⟨j, hj, rfl, hown, hb⟩ := hrel
    have HO := Lib.hid hown; have HB := Lib.hid hb
    obtain ⟨c0, c1, c2, c3, c4, c5, c6, c7, c8, c9, c10⟩ := EBox.cells (HX.out wr hb)
    clear hown hb
    rcases (by omega : j = 0 ∨ j = 1 ∨ j = 2 ∨ j = 3 ∨ j = 4 ∨ j = 5 ∨ j = 6) with rfl | rfl | rfl | rfl | rfl | rfl | rfl
    · go_wp2_with fail
      refine (H0.out wr).mono ?_
      rintro x w6 ⟨rfl, hb6⟩
      have HO6 := Lib.hid (HO.out.later hb6)
      have HB6 := Lib.hid (HB.out.trans (hb6.mono HB.out.size))
      clear hb6 c0 c1 c2 c3 c4 c5 c6 c7 c8 c9 c10
      obtain ⟨c0, c1, c2, c3, c4, c5, c6, c7, c8, c9, c10⟩ := EBox.cells (HX.out w6 HB6.out)
      cases hbb : b0 with
      | false =>
        have HSS := Lib.hid (selF0 b0 b1 b2 b3 b4 b5 (ubytes 10 id) (ubytes 10 n) (ubytes 10 at') (sform name) (sform text) fv hbb)
        go_wp2_with fail
        exact ⟨⟨1, by omega, by go_num, by rw [HSS.out]; exact HO6.out, HB6.out⟩, by simp [intOf]⟩
      | true =>
        have HSS := Lib.hid (selT0 b0 b1 b2 b3 b4 b5 (ubytes 10 id) (ubytes 10 n) (ubytes 10 at') (sform name) (sform text) fv hbb)
        go_wp2_with fail
        refine (HUI.out w6).mono ?_
        rintro x w7 ⟨v7, rfl, ho7, hb7⟩
        have HI7 := Lib.hid ho7.read; have HO7 := Lib.hid (HO6.out.later hb7); have HB7 := Lib.hid (HB6.out.trans (hb7.mono HB6.out.size))
        clear ho7 hb7
        clear c0 c1 c2 c3 c4 c5 c6 c7 c8 c9 c10
        go_wp2_with (at_builtin; refine wpList_append_bytes _ rfl _ _ rfl W0.heap.size _ _ (pre ++ sel [b0, b1, b2, b3, b4, b5] [ubytes 10 id, ubytes 10 n, ubytes 10 at', sform name, sform text, fv] 0) (ubytes 10 id) rfl rfl HO7.out HI7.out (HLE0.out) HB7.out.size ?_; intro v8 w8 hown8 hg8 hb8; have HO8 := Lib.hid hown8; have HB8 := Lib.hid (HB7.out.trans hb8); clear hown8 hb8 hg8)
        exact ⟨⟨1, by omega, by go_num, by rw [HSS.out, ← List.append_assoc]; exact HO8.out, HB8.out⟩, by simp [intOf]⟩
    · go_wp2_with fail
      refine (H1.out wr).mono ?_
      rintro x w6 ⟨rfl, hb6⟩
      have HO6 := Lib.hid (HO.out.later hb6)
      have HB6 := Lib.hid (HB.out.trans (hb6.mono HB.out.size))
      clear hb6 c0 c1 c2 c3 c4 c5 c6 c7 c8 c9 c10
      obtain ⟨c0, c1, c2, c3, c4, c5, c6, c7, c8, c9, c10⟩ := EBox.cells (HX.out w6 HB6.out)
      cases hbb : b1 with
      | false =>
        have HSS := Lib.hid (selF1 b0 b1 b2 b3 b4 b5 (ubytes 10 id) (ubytes 10 n) (ubytes 10 at') (sform name) (sform text) fv hbb)
        go_wp2_with fail
        exact ⟨⟨2, by omega, by go_num, by rw [HSS.out]; exact HO6.out, HB6.out⟩, by simp [intOf]⟩
      | true =>
        have HSS := Lib.hid (selT1 b0 b1 b2 b3 b4 b5 (ubytes 10 id) (ubytes 10 n) (ubytes 10 at') (sform name) (sform text) fv hbb)
        go_wp2_with fail
        refine (HUN.out w6).mono ?_
        rintro x w7 ⟨v7, rfl, ho7, hb7⟩
        have HI7 := Lib.hid ho7.read; have HO7 := Lib.hid (HO6.out.later hb7); have HB7 := Lib.hid (HB6.out.trans (hb7.mono HB6.out.size))
        clear ho7 hb7
        clear c0 c1 c2 c3 c4 c5 c6 c7 c8 c9 c10
        go_wp2_with (at_builtin; refine wpList_append_bytes _ rfl _ _ rfl W0.heap.size _ _ (pre ++ sel [b0, b1, b2, b3, b4, b5] [ubytes 10 id, ubytes 10 n, ubytes 10 at', sform name, sform text, fv] 1) (ubytes 10 n) rfl rfl HO7.out HI7.out (HLE1.out) HB7.out.size ?_; intro v8 w8 hown8 hg8 hb8; have HO8 := Lib.hid hown8; have HB8 := Lib.hid (HB7.out.trans hb8); clear hown8 hb8 hg8)
        exact ⟨⟨2, by omega, by go_num, by rw [HSS.out, ← List.append_assoc]; exact HO8.out, HB8.out⟩, by simp [intOf]⟩
    · go_wp2_with fail
      refine (H2.out wr).mono ?_
      rintro x w6 ⟨rfl, hb6⟩
      have HO6 := Lib.hid (HO.out.later hb6)
      have HB6 := Lib.hid (HB.out.trans (hb6.mono HB.out.size))
      clear hb6 c0 c1 c2 c3 c4 c5 c6 c7 c8 c9 c10
      obtain ⟨c0, c1, c2, c3, c4, c5, c6, c7, c8, c9, c10⟩ := EBox.cells (HX.out w6 HB6.out)
      cases hbb : b2 with
      | false =>
        have HSS := Lib.hid (selF2 b0 b1 b2 b3 b4 b5 (ubytes 10 id) (ubytes 10 n) (ubytes 10 at') (sform name) (sform text) fv hbb)
        go_wp2_with fail
        exact ⟨⟨3, by omega, by go_num, by rw [HSS.out]; exact HO6.out, HB6.out⟩, by simp [intOf]⟩
      | true =>
        have HSS := Lib.hid (selT2 b0 b1 b2 b3 b4 b5 (ubytes 10 id) (ubytes 10 n) (ubytes 10 at') (sform name) (sform text) fv hbb)
        go_wp2_with fail
        refine (HUA.out w6).mono ?_
        rintro x w7 ⟨v7, rfl, ho7, hb7⟩
        have HI7 := Lib.hid ho7.read; have HO7 := Lib.hid (HO6.out.later hb7); have HB7 := Lib.hid (HB6.out.trans (hb7.mono HB6.out.size))
        clear ho7 hb7
        clear c0 c1 c2 c3 c4 c5 c6 c7 c8 c9 c10
        go_wp2_with (at_builtin; refine wpList_append_bytes _ rfl _ _ rfl W0.heap.size _ _ (pre ++ sel [b0, b1, b2, b3, b4, b5] [ubytes 10 id, ubytes 10 n, ubytes 10 at', sform name, sform text, fv] 2) (ubytes 10 at') rfl rfl HO7.out HI7.out (HLE2.out) HB7.out.size ?_; intro v8 w8 hown8 hg8 hb8; have HO8 := Lib.hid hown8; have HB8 := Lib.hid (HB7.out.trans hb8); clear hown8 hb8 hg8)
        exact ⟨⟨3, by omega, by go_num, by rw [HSS.out, ← List.append_assoc]; exact HO8.out, HB8.out⟩, by simp [intOf]⟩
    · go_wp2_with fail
      refine (H3.out wr).mono ?_
      rintro x w6 ⟨rfl, hb6⟩
      have HO6 := Lib.hid (HO.out.later hb6)
      have HB6 := Lib.hid (HB.out.trans (hb6.mono HB.out.size))
      clear hb6 c0 c1 c2 c3 c4 c5 c6 c7 c8 c9 c10
      obtain ⟨c0, c1, c2, c3, c4, c5, c6, c7, c8, c9, c10⟩ := EBox.cells (HX.out w6 HB6.out)
      cases hbb : b3 with
      | false =>
        have HSS := Lib.hid (selF3 b0 b1 b2 b3 b4 b5 (ubytes 10 id) (ubytes 10 n) (ubytes 10 at') (sform name) (sform text) fv hbb)
        go_wp2_with fail
        exact ⟨⟨4, by omega, by go_num, by rw [HSS.out]; exact HO6.out, HB6.out⟩, by simp [intOf]⟩
      | true =>
        have HSS := Lib.hid (selT3 b0 b1 b2 b3 b4 b5 (ubytes 10 id) (ubytes 10 n) (ubytes 10 at') (sform name) (sform text) fv hbb)
        obtain ⟨cc, w5, hcv, hin5, hb5⟩ := HS3.out w6
        have HI5 := Lib.hid hin5; have HO5 := Lib.hid (HO6.out.later hb5); have HB5 := Lib.hid (HB6.out.trans (hb5.mono HB6.out.size))
        clear hin5 hb5
        go_wp2_with fail
        refine (HFB3.out _ _ HI5.out).mono ?_
        rintro x w7 ⟨v7, rfl, ho7, hb7⟩
        have HI7 := Lib.hid (HFS3.out ▸ ho7.read); have HO7 := Lib.hid (HO5.out.later hb7); have HB7 := Lib.hid (HB5.out.trans (hb7.mono HB5.out.size))
        clear ho7 hb7 hcv
        clear c0 c1 c2 c3 c4 c5 c6 c7 c8 c9 c10
        go_wp2_with (at_builtin; refine wpList_append_bytes _ rfl _ _ rfl W0.heap.size _ _ (pre ++ sel [b0, b1, b2, b3, b4, b5] [ubytes 10 id, ubytes 10 n, ubytes 10 at', sform name, sform text, fv] 3) (sform name) rfl rfl HO7.out HI7.out (HLE3.out) HB7.out.size ?_; intro v8 w8 hown8 hg8 hb8; have HO8 := Lib.hid hown8; have HB8 := Lib.hid (HB7.out.trans hb8); clear hown8 hb8 hg8)
        exact ⟨⟨4, by omega, by go_num, by rw [HSS.out, ← List.append_assoc]; exact HO8.out, HB8.out⟩, by simp [intOf]⟩
    · go_wp2_with fail
      refine (H4.out wr).mono ?_
      rintro x w6 ⟨rfl, hb6⟩
      have HO6 := Lib.hid (HO.out.later hb6)
      have HB6 := Lib.hid (HB.out.trans (hb6.mono HB.out.size))
      clear hb6 c0 c1 c2 c3 c4 c5 c6 c7 c8 c9 c10
      obtain ⟨c0, c1, c2, c3, c4, c5, c6, c7, c8, c9, c10⟩ := EBox.cells (HX.out w6 HB6.out)
      cases hbb : b4 with
      | false =>
        have HSS := Lib.hid (selF4 b0 b1 b2 b3 b4 b5 (ubytes 10 id) (ubytes 10 n) (ubytes 10 at') (sform name) (sform text) fv hbb)
        go_wp2_with fail
        exact ⟨⟨5, by omega, by go_num, by rw [HSS.out]; exact HO6.out, HB6.out⟩, by simp [intOf]⟩
      | true =>
        have HSS := Lib.hid (selT4 b0 b1 b2 b3 b4 b5 (ubytes 10 id) (ubytes 10 n) (ubytes 10 at') (sform name) (sform text) fv hbb)
        obtain ⟨cc, w5, hcv, hin5, hb5⟩ := HS4.out w6
        have HI5 := Lib.hid hin5; have HO5 := Lib.hid (HO6.out.later hb5); have HB5 := Lib.hid (HB6.out.trans (hb5.mono HB6.out.size))
        clear hin5 hb5
        go_wp2_with fail
        refine (HFB4.out _ _ HI5.out).mono ?_
        rintro x w7 ⟨v7, rfl, ho7, hb7⟩
        have HI7 := Lib.hid (HFS4.out ▸ ho7.read); have HO7 := Lib.hid (HO5.out.later hb7); have HB7 := Lib.hid (HB5.out.trans (hb7.mono HB5.out.size))
        clear ho7 hb7 hcv
        clear c0 c1 c2 c3 c4 c5 c6 c7 c8 c9 c10
        go_wp2_with (at_builtin; refine wpList_append_bytes _ rfl _ _ rfl W0.heap.size _ _ (pre ++ sel [b0, b1, b2, b3, b4, b5] [ubytes 10 id, ubytes 10 n, ubytes 10 at', sform name, sform text, fv] 4) (sform text) rfl rfl HO7.out HI7.out (HLE4.out) HB7.out.size ?_; intro v8 w8 hown8 hg8 hb8; have HO8 := Lib.hid hown8; have HB8 := Lib.hid (HB7.out.trans hb8); clear hown8 hb8 hg8)
        exact ⟨⟨5, by omega, by go_num, by rw [HSS.out, ← List.append_assoc]; exact HO8.out, HB8.out⟩, by simp [intOf]⟩
    · go_wp2_with fail
      refine (H5.out wr).mono ?_
      rintro x w6 ⟨rfl, hb6⟩
      have HO6 := Lib.hid (HO.out.later hb6)
      have HB6 := Lib.hid (HB.out.trans (hb6.mono HB.out.size))
      clear hb6 c0 c1 c2 c3 c4 c5 c6 c7 c8 c9 c10
      obtain ⟨c0, c1, c2, c3, c4, c5, c6, c7, c8, c9, c10⟩ := EBox.cells (HX.out w6 HB6.out)
      cases hbb : b5 with
      | false =>
        have HSS := Lib.hid (selF5 b0 b1 b2 b3 b4 b5 (ubytes 10 id) (ubytes 10 n) (ubytes 10 at') (sform name) (sform text) fv hbb)
        go_wp2_with fail
        exact ⟨⟨6, by omega, by go_num, by rw [HSS.out]; exact HO6.out, HB6.out⟩, by simp [intOf]⟩
      | true =>
        have HSS := Lib.hid (selT5 b0 b1 b2 b3 b4 b5 (ubytes 10 id) (ubytes 10 n) (ubytes 10 at') (sform name) (sform text) fv hbb)
        go_wp2_with fail
        refine (HVB.out w6 HB6.out).mono ?_
        rintro x w7 ⟨v7, rfl, ho7, hb7⟩
        have HI7 := Lib.hid ho7.read; have HO7 := Lib.hid (HO6.out.later hb7); have HB7 := Lib.hid (HB6.out.trans (hb7.mono HB6.out.size))
        clear ho7 hb7
        clear c0 c1 c2 c3 c4 c5 c6 c7 c8 c9 c10
        go_wp2_with (at_builtin; refine wpList_append_bytes _ rfl _ _ rfl W0.heap.size _ _ (pre ++ sel [b0, b1, b2, b3, b4, b5] [ubytes 10 id, ubytes 10 n, ubytes 10 at', sform name, sform text, fv] 5) (fv) rfl rfl HO7.out HI7.out (HLE5.out) HB7.out.size ?_; intro v8 w8 hown8 hg8 hb8; have HO8 := Lib.hid hown8; have HB8 := Lib.hid (HB7.out.trans hb8); clear hown8 hb8 hg8)
        exact ⟨⟨6, by omega, by go_num, by rw [HSS.out, ← List.append_assoc]; exact HO8.out, HB8.out⟩, by simp [intOf]⟩
    · go_wp2_with fail
      go_ret
      exact ⟨_, rfl, HO.out.base HB0.out.size, HB0.out.trans (HB.out.mono HB0.out.size)⟩

theorem reform_any (e : EV) (hval : e.valid = true) (hf : FieldsOk e) (hfew : e.v.few = true) (lo hi : Nat) (vk vn : Int) (vf : Nat) (vs : ByteArray) (A : Option Addr) (m c : Nat) (w : World) (hv : Rep w lo hi e.v (vCells vk vn vf vs A m c)) (hz : hi ≤ w.heap.size) :
    Calls Tryz.prog 56 #[.agg (evCells e vk vn vf vs A m c)] w (KB w (eform e)) := by
  have V := Vf.ve_of hval
  obtain ⟨kn, hkn⟩ : ∃ kn : Nat, e.k = kn := ⟨e.k.toNat, by have := V.k1; omega⟩
  obtain ⟨nn, hnn⟩ : ∃ nn : Nat, e.n = nn := ⟨e.n.toNat, by have := V.n1; omega⟩
  have k1 := V.k1; have k2 := V.k2; have n2 := V.n2
  have hkt : e.k.toNat = kn := by omega
  have hnt : e.n.toNat = nn := by omega
  unfold eform hasF
  rw [hkt, hnt]
  unfold evCells
  rw [hkn, hnn]
  have hh : ∀ cc q, (cc, q) ∈ [(105, 0), (110, 1), (97, 2), (115, 3), (116, 4), (118, 5)] → Hid (∀ W, Calls Tryz.prog 44 #[.int .i64 (kn : Nat), .int .u8 (cc : Nat)] W fun r w' => r = .returned (.bool ((fieldsOf kn).contains q)) ∧ Below W.heap.size W w') := fun cc q hq => Lib.hid fun W => has_field kn (by omega) (by omega) cc q hq W
  exact reform_walk kn e.id nn e.at' e.name e.text (by omega) hf.i1 (by omega) hf.a1 V.s1 V.t1 vk vn vf vs A m c _ _ _ _ _ _ (Pf.VT.form e.v) (by have := Vf.form_len_few hfew; omega) w (hh 105 0 (by simp)) (hh 110 1 (by simp)) (hh 97 2 (by simp)) (hh 115 3 (by simp)) (hh 116 4 (by simp)) (hh 118 5 (by simp))
    (fun W hW => rvbytes_any e.v hfew lo hi _ W (hv.later (hW.mono hz)) (Nat.le_trans hz hW.size) V.v1)

/-- What the reference's Bytes of an event leaves. -/
def REB (e : EV) (w : World) (r : Ending) (w' : World) : Prop := (e.valid = true → ∃ v, r = .returned (.tuple #[v, .bool true]) ∧ BOwn w' w.heap.size v (eform e)) ∧ (e.valid = false → r = .returned (.tuple #[.slice none 0 0, .bool false])) ∧ Below w.heap.size w w'
set_option maxRecDepth 100000 in
theorem rebytes_any (e : EV) (hf : FieldsOk e) (hfew : e.v.few = true) (lo hi : Nat) (vk vn : Int) (vf : Nat) (vs : ByteArray) (A : Option Addr) (m c : Nat) (w : World) (hv : Rep w lo hi e.v (vCells vk vn vf vs A m c)) (hz : hi ≤ w.heap.size) :
    Calls Tryz.prog 15 #[.agg (evCells e vk vn vf vs A m c)] w (REB e w) := by
  obtain ⟨W0, hW0⟩ : ∃ W0, W0 = w.alloc (.cells (evCells e vk vn vf vs A m c) 32) := ⟨_, rfl⟩
  have hb0 : Below w.heap.size w W0 := by rw [hW0]; exact (Below.refl _ _).alloc (Nat.le_refl _) _
  have hbx : EBox W0 w.heap.size (evCells e vk vn vf vs A m c) := by rw [hW0]; exact heap_alloc_new w _
  have hzz : w.heap.size < W0.heap.size := by rw [hW0]; simp
  have HX : Hid (∀ W, Below W0.heap.size W0 W → EBox W w.heap.size (evCells e vk vn vf vs A m c)) := Lib.hid fun W hW => hbx.later hW hzz
  have HV := Lib.hid (Rd.rvalid_all e lo hi vk vn vf vs A m c W0 (hv.later (hb0.mono hz)) (Nat.le_trans hz hb0.size))
  have HF : Hid (e.valid = true → ∀ W, Below W0.heap.size W0 W → Calls Tryz.prog 56 #[.agg (evCells e vk vn vf vs A m c)] W (KB W (eform e))) := Lib.hid fun hval W hW => reform_any e hval hf hfew lo hi vk vn vf vs A m c W ((hv.later (hb0.mono hz)).later (hW.mono (Nat.le_trans hz hb0.size))) (Nat.le_trans hz (Nat.le_trans hb0.size hW.size))
  have HB0 := Lib.hid hb0
  obtain ⟨c0, c1, c2, c3, c4, c5, c6, c7, c8, c9, c10⟩ := EBox.cells hbx
  clear hb0 hbx hv hf hfew
  unfold evCells at HX HV HF hW0 ⊢
  replace hW0 := Lib.hid hW0
  cases hval : e.valid with
  | false =>
    rw [hval] at HV
    go_enter Tryz.func15, Tryz.ntmps15
    go_upto_region 1 with fail
    rw [← hW0.out]
    go_wp2_with fail
    refine HV.out.mono ?_
    rintro x w1 ⟨rfl, hb1⟩
    have HB1 := Lib.hid (HB0.out.trans (hb1.mono HB0.out.size))
    clear hb1
    go_wp2_with fail
    exact bodyPost_ret (v := .tuple #[.slice none 0 0, .bool false]) (by simp [results, Tryz.results15, go_sem]) rfl ⟨(fun h => by rw [hval] at h; cases h), fun _ => rfl, HB1.out⟩
  | true =>
    rw [hval] at HV
    have HFF := Lib.hid (HF.out hval)
    go_enter Tryz.func15, Tryz.ntmps15
    go_upto_region 1 with fail
    rw [← hW0.out]
    go_wp2_with fail
    refine HV.out.mono ?_
    rintro x w1 ⟨rfl, hb1⟩
    have HB1 := Lib.hid hb1
    clear hb1 c0 c1 c2 c3 c4 c5 c6 c7 c8 c9 c10
    obtain ⟨c0, c1, c2, c3, c4, c5, c6, c7, c8, c9, c10⟩ := EBox.cells (HX.out w1 HB1.out)
    go_wp2_with fail
    refine (HFF.out w1 HB1.out).mono ?_
    rintro x w2 ⟨v, rfl, hown, hb2⟩
    have HO2 := Lib.hid hown; have HB2 := Lib.hid hb2
    clear hown hb2
    go_wp2_with fail
    have hz1 := Nat.le_trans HB0.out.size HB1.out.size
    exact bodyPost_ret (v := .tuple #[v, .bool true]) (by simp [results, Tryz.results15, go_sem]) rfl ⟨fun _ => ⟨v, rfl, HO2.out.base hz1⟩, (fun h => by rw [hval] at h; cases h), HB0.out.trans ((HB1.out.trans (HB2.out.mono HB1.out.size)).mono HB0.out.size)⟩
end Rf
end Go.Proofs.YtcbddebmmaflgaaGreatDoor
namespace Go.Proofs.YtcbddebmmaflgaaGreatDoor
open Go.RowKit
set_option linter.unusedVariables false
set_option linter.unusedSimpArgs false
namespace Rf
open _root_.Go.Proofs.YtcbddebmmaflgaaGreatDoor.Nm (bitsW ret_int ret_bool)
open Bt (BOwn BIn ubytes sb bown_nil wpList_append_bytes bv)
open Pf (sform)
open Vf (KB eform)
open Vt (VT Rep below_drew)
open Ev (EV FieldsOk evCells vCells EBox ERep)
open Cm (EvsIn)
open Cn (BB bvalid wrongE bform BRd)

theorem eforms_take (l : List EV) (j : Nat) (h : j < l.length) : ((l.take (j + 1)).map eform).flatten = ((l.take j).map eform).flatten ++ eform l[j] := by
  rw [List.take_succ_eq_append_getElem h, List.map_append, List.flatten_append]; simp
theorem eforms_le (l : List EV) (j : Nat) : ((l.take j).map eform).flatten.length ≤ (l.map eform).flatten.length := by
  have : ((l.take j ++ l.drop j).map eform).flatten.length = (l.map eform).flatten.length := by rw [List.take_append_drop]
  rw [List.map_append, List.flatten_append, List.length_append] at this
  omega
theorem bform_eq (f : ByteArray) (a n : Nat) (ls : List (List Nat)) : (sform f ++ ubytes 10 a ++ ubytes 10 n) ++ ls.flatten = bform f a n ls := by
  unfold bform sform; simp [List.append_assoc]
theorem all_valid {f : ByteArray} {a : Nat} {es : List EV} (h : bvalid f a es = true) : ∀ e ∈ es, e.valid = true := by
  unfold bvalid at h
  simp only [Bool.and_eq_true, Bool.not_eq_true'] at h
  intro e he
  have := List.any_eq_false.1 h.2 e he
  simpa [wrongE] using this
theorem valid_size {f : ByteArray} {a : Nat} {es : List EV} (h : bvalid f a es = true) : f.size ≤ 1000 := by
  unfold bvalid at h
  simp only [Bool.and_eq_true, decide_eq_true_iff] at h
  exact h.1.1.1.2

/-- What the reference's Bytes of a batch leaves. -/
def RBB (f : ByteArray) (a : Nat) (es : List EV) (w : World) (r : Ending) (w' : World) : Prop := (bvalid f a es = true → ∃ v, r = .returned (.tuple #[v, .bool true]) ∧ BOwn w' w.heap.size v (bform f a es.length (es.map eform))) ∧ (bvalid f a es = false → r = .returned (.tuple #[.slice none 0 0, .bool false])) ∧ Below w.heap.size w w'
set_option maxRecDepth 100000 in
set_option maxHeartbeats 4000000 in
theorem r13bytes_any (es : List EV) (hfew : ∀ e ∈ es, e.v.few = true) (f : ByteArray) (hfs : f.size ≤ maxLen) (at' : Nat) (hat : at' < 18446744073709551616) (hflat : bvalid f at' es = true → ((es.map eform).flatten).length ≤ 17592186044416) (A : Option Addr) (cap : Nat) (w : World) (h : EvsIn w A cap es) :
    Calls Tryz.prog 23 #[.agg #[.string f, .int .u64 (at' : Nat), .slice A es.length cap]] w (RBB f at' es w) := by
  have hle := h.le
  have hc := h.cap_le
  simp only [maxLen] at hc
  obtain ⟨W0, hW0⟩ : ∃ W0, W0 = w.alloc (.cells #[.string f, .int .u64 (at' : Nat), .slice A es.length cap] 49) := ⟨_, rfl⟩
  have hx0 : BB W0 w.heap.size f at' A es.length cap := by rw [hW0]; exact heap_alloc_new w _
  have hb0 : Below w.heap.size w W0 := by rw [hW0]; exact (Below.refl _ _).alloc (Nat.le_refl _) _
  have hz0 : w.heap.size < W0.heap.size := by rw [hW0]; simp
  have HK := Lib.hid (h.later hb0)
  have HBX : Hid (∀ W, Below W0.heap.size W0 W → BB W w.heap.size f at' A es.length cap) := Lib.hid fun W hW => hx0.later hW hz0
  have HV := Lib.hid (Rd.r13valid_any es f hfs at' hat A cap W0 (h.later hb0))
  have HB0 := Lib.hid hb0
  have HFLATV := Lib.hid hflat
  have HFEW := Lib.hid hfew
  obtain ⟨c0, c1, c2, -⟩ := hx0.cells
  clear h hx0 hb0 hflat hfew
  replace hW0 := Lib.hid hW0
  cases hval : bvalid f at' es with
  | false =>
    rw [hval] at HV
    go_enter Tryz.func23, Tryz.ntmps23
    go_upto_region 1 with fail
    rw [← hW0.out]
    go_wp2_with fail
    refine HV.out.mono ?_
    rintro x w1 ⟨rfl, hb1⟩
    have HB1 := Lib.hid (HB0.out.trans (hb1.mono HB0.out.size))
    clear hb1
    go_wp2_with fail
    exact bodyPost_ret (v := .tuple #[.slice none 0 0, .bool false]) (by simp [results, Tryz.results23, go_sem]) rfl ⟨(fun h => by rw [hval] at h; cases h), fun _ => rfl, HB1.out⟩
  | true =>
    rw [hval] at HV
    have hf1 := valid_size hval
    have HAV := Lib.hid (all_valid hval)
    have HFLAT := Lib.hid (HFLATV.out hval)
    have hsl := Bt.sb_len f
    have HS := Lib.hid fun W => str_in W f (by omega)
    have HFB := Lib.hid fun (W : World) (v : Value) (hv : BIn W v (sb f)) => rbform_any v (sb f) (by omega) W hv
    have HFS : Hid (ubytes 10 (sb f).length ++ sb f = sform f) := Lib.hid (by rw [hsl]; rfl)
    have HUA := Lib.hid fun W => ruform_any at' hat W
    have HUN := Lib.hid fun W => ruform_any es.length (by omega) W
    have HWR : Hid (IntKind.u64.wrap (es.length : Int) = (es.length : Int)) := Lib.hid (IntWalk.u64_in _ (by omega))
    have l1 := Bt.ubytes_len 10 at'; have l2 := Bt.ubytes_len 10 es.length
    have l3 : (sform f).length ≤ 1011 := by unfold sform; rw [List.length_append]; have := Bt.ubytes_len 10 f.size; omega
    have HL0 : Hid ((sform f).length + (ubytes 10 at').length ≤ 35184372088832) := Lib.hid (by omega)
    have HL1 : Hid ((sform f ++ ubytes 10 at').length + (ubytes 10 es.length).length ≤ 35184372088832) := Lib.hid (by rw [List.length_append]; omega)
    obtain ⟨pre, hpre⟩ : ∃ p, p = sform f ++ ubytes 10 at' ++ ubytes 10 es.length := ⟨_, rfl⟩
    have HPRE := Lib.hid hpre
    have HPL : Hid (pre.length ≤ 2000) := Lib.hid (by rw [hpre, List.length_append, List.length_append]; omega)
    have HBF := Lib.hid (bform_eq f at' es.length (es.map eform))
    rw [← hpre] at HBF
    clear hpre l1 l2 l3 hsl
    generalize hn : es.length = n at *
    have HN := Lib.hid hn; clear hn
    go_enter Tryz.func23, Tryz.ntmps23
    go_upto_region 1 with fail
    rw [← hW0.out]
    go_wp2_with fail
    refine HV.out.mono ?_
    rintro x w1 ⟨rfl, hb1⟩
    have HB1 := Lib.hid hb1
    clear c0 c1 c2
    obtain ⟨c0, c1, c2, -⟩ := (HBX.out w1 hb1).cells
    obtain ⟨cc, w2, hcv, hin2, hb2⟩ := HS.out w1
    have HI2 := Lib.hid hin2; have HB2 := Lib.hid (HB1.out.trans (hb2.mono HB1.out.size))
    clear hin2 hb1 hb2
    go_wp2_with fail
    refine (HFB.out _ _ HI2.out).mono ?_
    rintro x w3 ⟨v3, rfl, ho3, hb3⟩
    have HO3 := Lib.hid (HFS.out ▸ ho3.base HB2.out.size); have HB3 := Lib.hid (HB2.out.trans (hb3.mono HB2.out.size))
    clear ho3 hb3 hcv c0 c1 c2
    obtain ⟨c0, c1, c2, -⟩ := (HBX.out w3 HB3.out).cells
    go_wp2_with fail
    refine (HUA.out w3).mono ?_
    rintro x w4 ⟨v4, rfl, ho4, hb4⟩
    have HI4 := Lib.hid ho4.read; have HO4 := Lib.hid (HO3.out.later hb4); have HB4 := Lib.hid (HB3.out.trans (hb4.mono HB3.out.size))
    clear ho4 hb4 c0 c1 c2
    go_upto_region 5 with (at_builtin; refine wpList_append_bytes _ rfl _ _ rfl W0.heap.size _ _ (sform f) (ubytes 10 at') rfl rfl HO4.out HI4.out HL0.out HB4.out.size ?_; intro v5 w5 hown5 hg5 hb5; have HO5 := Lib.hid hown5; have HB5 := Lib.hid (HB4.out.trans hb5); clear hown5 hb5 hg5)
    obtain ⟨c0, c1, c2, -⟩ := (HBX.out w5 HB5.out).cells
    go_wp2_with fail
    refine (HUN.out w5).mono ?_
    rintro x w6 ⟨v6, rfl, ho6, hb6⟩
    have HI6 := Lib.hid ho6.read; have HO6 := Lib.hid (HO5.out.later hb6); have HB6 := Lib.hid (HB5.out.trans (hb6.mono HB5.out.size))
    clear ho6 hb6 c0 c1 c2
    go_wp2_with (at_builtin; refine wpList_append_bytes _ rfl _ _ rfl W0.heap.size _ _ (sform f ++ ubytes 10 at') (ubytes 10 n) rfl rfl HO6.out HI6.out HL1.out HB6.out.size ?_; intro v7 w7 hown7 hg7 hb7; rw [← HPRE.out] at hown7; have HO7 := Lib.hid hown7; have HB7 := Lib.hid (HB6.out.trans hb7); clear hown7 hb7 hg7)
    go_loopw [4, 5] (fun out i wr => ∃ (j : Nat), j ≤ n ∧ i = .int .i64 j ∧ BOwn wr W0.heap.size out (pre ++ ((es.take j).map eform).flatten) ∧ Below W0.heap.size W0 wr) (fun _ i _ => n - (intOf i).toNat)
    case atStart => exact ⟨0, by omega, rfl, by simpa using HO7.out, HB7.out⟩
    case round =>
      obtain ⟨j, hj, rfl, hown, hb⟩ := hrel
      have HO := Lib.hid hown; have HB := Lib.hid hb
      obtain ⟨c0, c1, c2, -⟩ := (HBX.out wr hb).cells
      clear hown hb
      by_cases hlt : j < n
      · have hke : j < es.length := by have := HN.out; omega
        obtain ⟨b2, off2, lo, hi, vk, vn, vf, vs, A2, m2, c2', rfl, hbl2, hf, hv, hhi, e0, e1, e2, e3, e4, e5, e6, e7, e8, e9, e10⟩ := (HK.out.later HB.out).get j hke
        have HF := Lib.hid (rebytes_any es[j] hf (HFEW.out _ (List.getElem_mem hke)) lo hi vk vn vf vs A2 m2 c2' wr hv hhi)
        have HVJ := Lib.hid (HAV.out _ (List.getElem_mem hke))
        have HFT := Lib.hid (eforms_take es j hke)
        have HLE : Hid ((pre ++ ((es.take j).map eform).flatten).length + (eform es[j]).length ≤ 35184372088832) := Lib.hid (by
          have h1 := eforms_le es (j + 1)
          rw [eforms_take es j hke, List.length_append] at h1
          have h2 := HFLAT.out
          have h4 := HPL.out
          rw [List.length_append]
          omega)
        obtain ⟨acc, hacc⟩ : ∃ a, a = pre ++ ((es.take j).map eform).flatten := ⟨_, rfl⟩
        rw [← hacc] at HO HLE
        have HACC := Lib.hid hacc
        obtain ⟨fj, hfj⟩ : ∃ a, a = eform es[j] := ⟨_, rfl⟩
        rw [← hfj] at HLE
        have HFJ := Lib.hid hfj
        clear hacc hfj hf hv
        unfold evCells at HF
        go_wp2_with fail
        refine HF.out.mono ?_
        intro x w8 hreb
        obtain ⟨hy, -, hb8⟩ := hreb
        obtain ⟨v8, rfl, ho8⟩ := hy HVJ.out
        rw [← HFJ.out] at ho8
        have HOB := Lib.hid (HO.out.later hb8)
        have HI8 := Lib.hid ho8.read
        have HBB := Lib.hid (HB.out.trans (hb8.mono HB.out.size))
        clear ho8 hb8 hy c0 c1 c2 e0 e1 e2 e3 e4 e5 e6 e7 e8 e9 e10
        go_wp2_with (at_builtin; refine wpList_append_bytes _ rfl _ _ rfl W0.heap.size _ _ acc fj rfl rfl HOB.out HI8.out HLE.out HBB.out.size ?_; intro v9 w9 hown9 hg9 hb9; have HO9 := Lib.hid hown9; have HB9 := Lib.hid (HBB.out.trans hb9); clear hown9 hb9 hg9)
        exact ⟨⟨j + 1, by omega, by go_num, by rw [HFT.out, ← List.append_assoc, ← HACC.out, ← HFJ.out]; exact HO9.out, HB9.out⟩, by simp [intOf]; omega⟩
      · have hj' : j = n := by omega
        subst hj'
        go_wp2_with fail
        have h := HO.out
        rw [show es.take j = es from by rw [← HN.out, List.take_length], HBF.out, ← HN.out] at h
        exact bodyPost_ret (by simp [results, Tryz.results23, go_sem]) rfl ⟨fun _ => ⟨_, rfl, h.base HB0.out.size⟩, (fun h => by rw [hval] at h; cases h), HB0.out.trans (HB.out.mono HB0.out.size)⟩

end Rf
end Go.Proofs.YtcbddebmmaflgaaGreatDoor
namespace Go.Proofs.YtcbddebmmaflgaaGreatDoor
open Go.RowKit
set_option linter.unusedVariables false
set_option linter.unusedSimpArgs false
namespace Rd
open _root_.Go.Proofs.YtcbddebmmaflgaaGreatDoor.Nm (bitsW ofW okW)
open Bt (ubytes sb sb_len sel)
open Vt (VT)
open Ev (EV fieldsOf FieldsOk zeroT)
open Cm (evSame)
open Cn (bvalid bform)
open Pf (sform)
open Vf (VE ve_of eform hasF sel6 evSame_parts)

def opt {α : Type} (b : Bool) (d : α) (p : St → St × α) (s : St) : St × α := if b = true then p s else (s, d)
/-- The fields of an event that have been read. -/
def mkE (k : Nat) (i n a : Nat) (s t : ByteArray) (v : VT) : EV := ⟨(k : Int), i, ((min n 2147483648 : Nat) : Int), a, s, t, v⟩
def oval (b : Bool) (s : St) : Option (St × VT) := if b = true then pv 8 s else some (s, zeroT)
/-- The states behind an event's fields. -/
structure FR where
  s0 : St
  i : Nat
  s1 : St
  n : Nat
  s2 : St
  a : Nat
  s3 : St
  s : ByteArray
  s4 : St
  t : ByteArray
def fr (b0 b1 b2 b3 b4 : Bool) (s : St) : FR :=
  let r0 := opt b0 0 rUint s
  let r1 := opt b1 0 rUint r0.1
  let r2 := opt b2 0 rUint r1.1
  let r3 := opt b3 ⟨#[]⟩ rText r2.1
  let r4 := opt b4 ⟨#[]⟩ rText r3.1
  ⟨r0.1, r0.2, r1.1, r1.2, r2.1, r2.2, r3.1, r3.2, r4.1, r4.2⟩
/-- An event's fields. -/
def pf (k : Nat) (b0 b1 b2 b3 b4 b5 : Bool) (s : St) : Option (St × EV) :=
  let q := fr b0 b1 b2 b3 b4 s
  match oval b5 q.s4 with
  | none => none
  | some (s5, v) => if s5.2 = true ∨ (mkE k q.i q.n q.a q.s q.t v).valid = false then none else some (s5, mkE k q.i q.n q.a q.s q.t v)
/-- An event's reading. -/
def pe (s : St) : Option (St × EV) :=
  let a := rTake s 1
  let q := rUint a.1
  if a.2 ≠ [1] ∨ q.1.2 = true ∨ 11 < q.2 then none
  else pf q.2 ((fieldsOf q.2).contains 0) ((fieldsOf q.2).contains 1) ((fieldsOf q.2).contains 2) ((fieldsOf q.2).contains 3) ((fieldsOf q.2).contains 4) ((fieldsOf q.2).contains 5) q.1
/-- A batch's reading. -/
def pb (s : St) : Option (ByteArray × Nat × List EV) :=
  let f := rText s
  let a := rUint f.1
  let n := rUint a.1
  match rep pe n.2 n.1 with
  | none => none
  | some (s', es) => if s'.2 = true ∨ s'.1 ≠ [] ∨ bvalid f.2 a.2 es = false then none else some (f.2, a.2, es)

theorem opt_form {α : Type} {b : Bool} {d : α} {p : St → St × α} {F : α → List Nat} {s : St} (h : (opt b d p s).1.2 = false) (hp : (p s).1.2 = false → s.2 = false ∧ s.1 = F (p s).2 ++ (p s).1.1) :
    s.2 = false ∧ s.1 = (if b then F (opt b d p s).2 else []) ++ (opt b d p s).1.1 ∧ (b = false → (opt b d p s).2 = d) := by
  cases b with
  | true =>
    simp only [opt, if_true] at h ⊢
    exact ⟨(hp h).1, (hp h).2, fun h => Bool.noConfusion h⟩
  | false => simp [opt] at h ⊢; exact h
theorem byt_tail {l a r : List Nat} (h : Byt l) (e : l = a ++ r) : Byt r := fun b hb => h b (by rw [e]; exact List.mem_append_right _ hb)
theorem rText_form {s : St} (hb : Byt s.1) (h : (rText s).1.2 = false) : s.2 = false ∧ s.1 = sform (rText s).2 ++ (rText s).1.1 := by
  obtain ⟨h1, h2, -⟩ := rBytes_form hb h
  exact ⟨h1, h2⟩
theorem opt_lt {b : Bool} {s : St} (hb : Byt s.1) : (opt b 0 rUint s).2 < 18446744073709551616 := by
  cases b with
  | true => exact rUint_val hb
  | false => show (0 : Nat) < _; omega
theorem opt_len {α : Type} {b : Bool} {d : α} {p : St → St × α} {s : St} (hp : (p s).1.1.length ≤ s.1.length) : (opt b d p s).1.1.length ≤ s.1.length := by
  cases b with
  | true => exact hp
  | false => exact Nat.le_refl _
theorem opt_byt {α : Type} {b : Bool} {d : α} {p : St → St × α} {s : St} (hb : Byt s.1) (hp : Byt (p s).1.1) : Byt (opt b d p s).1.1 := by
  cases b with
  | true => exact hp
  | false => exact hb
theorem opt_size {b : Bool} {s : St} (hb : Byt s.1) (hl : s.1.length ≤ 1099511627776) : (opt b ⟨#[]⟩ rText s).2.size ≤ 1099511627776 := by
  cases b with
  | true => exact rText_size hb hl
  | false => show (⟨#[]⟩ : ByteArray).size ≤ _; decide
/-- What is known of a valid event that is read. -/
def GoodE (e : EV) : Prop := e.valid = true ∧ FieldsOk e ∧ Pf.VT.fine e.v
theorem pe_form (s s' : St) (e : EV) (hb : Byt s.1) (hl : s.1.length ≤ 1099511627776) (h : pe s = some (s', e)) : s.2 = false ∧ s'.2 = false ∧ s.1 = eform e ++ s'.1 ∧ GoodE e := by
  unfold pe at h
  simp only at h
  split at h
  · cases h
  · rename_i h0
    have h1 : (rTake s 1).2 = [1] := by
      cases hh : decide ((rTake s 1).2 = [1]) with
      | true => simpa using hh
      | false => exact absurd (.inl (by simpa using hh)) h0
    have h2 : (rUint (rTake s 1).1).1.2 = false := bool_of fun hh => h0 (.inr (.inl hh))
    have h3 : (rUint (rTake s 1).1).2 ≤ 11 := by
      have := fun hh => h0 (.inr (.inr hh))
      omega
    have hbt : Byt (rTake s 1).1.1 := (rTake_byt hb hl 1).1
    have hlt : (rTake s 1).1.1.length ≤ 1099511627776 := (rTake_byt hb hl 1).2
    obtain ⟨f1, f2, f3⟩ := rUint_form hbt h2
    obtain ⟨g1, g2, g3⟩ := rTake_form f1
    have hbq : Byt (rUint (rTake s 1).1).1.1 := byt_tail hbt f2
    have hlq : (rUint (rTake s 1).1).1.1.length ≤ 1099511627776 := Nat.le_trans (rUint_le _) hlt
    rw [h1, f2] at g2
    generalize (rUint (rTake s 1).1) = q at *
    obtain ⟨sq, k⟩ := q
    simp only at *
    clear h0 h1 hbt hlt f1 f2 f3
    unfold pf at h
    simp only at h
    generalize hc0 : (fieldsOf k).contains 0 = b0 at *
    generalize hc1 : (fieldsOf k).contains 1 = b1 at *
    generalize hc2 : (fieldsOf k).contains 2 = b2 at *
    generalize hc3 : (fieldsOf k).contains 3 = b3 at *
    generalize hc4 : (fieldsOf k).contains 4 = b4 at *
    generalize hc5 : (fieldsOf k).contains 5 = b5 at *
    split at h
    · cases h
    · rename_i s5 v hv
      split at h
      · cases h
      · rename_i h9
        injection h with h; injection h with h h'
        subst h h'
        have hs5 : s5.2 = false := bool_of fun hh => h9 (.inl hh)
        have hval : (mkE k (fr b0 b1 b2 b3 b4 sq).i (fr b0 b1 b2 b3 b4 sq).n (fr b0 b1 b2 b3 b4 sq).a (fr b0 b1 b2 b3 b4 sq).s (fr b0 b1 b2 b3 b4 sq).t v).valid = true := by
          cases hh : (mkE k (fr b0 b1 b2 b3 b4 sq).i (fr b0 b1 b2 b3 b4 sq).n (fr b0 b1 b2 b3 b4 sq).a (fr b0 b1 b2 b3 b4 sq).s (fr b0 b1 b2 b3 b4 sq).t v).valid with
          | true => rfl
          | false => exact absurd (.inr hh) h9
        clear h9
        refine ⟨g1, hs5, ?_⟩
        have B0 := opt_byt (b := b0) (d := 0) hbq (rUint_byt hbq hlq).1
        have L0 := Nat.le_trans (opt_len (b := b0) (d := 0) (rUint_le sq)) hlq
        have V0 := opt_lt (b := b0) hbq
        have O0 := fun h => opt_form (b := b0) (d := 0) (p := rUint) (F := ubytes 10) (s := sq) h fun h => ⟨(rUint_form hbq h).1, (rUint_form hbq h).2.1⟩
        simp only [fr] at hv hval ⊢
        generalize opt b0 0 rUint sq = r0 at *
        have B1 := opt_byt (b := b1) (d := 0) B0 (rUint_byt B0 L0).1
        have L1 := Nat.le_trans (opt_len (b := b1) (d := 0) (rUint_le r0.1)) L0
        have V1 := opt_lt (b := b1) B0
        have O1 := fun h => opt_form (b := b1) (d := 0) (p := rUint) (F := ubytes 10) (s := r0.1) h fun h => ⟨(rUint_form B0 h).1, (rUint_form B0 h).2.1⟩
        generalize opt b1 0 rUint r0.1 = r1 at *
        have B2 := opt_byt (b := b2) (d := 0) B1 (rUint_byt B1 L1).1
        have L2 := Nat.le_trans (opt_len (b := b2) (d := 0) (rUint_le r1.1)) L1
        have V2 := opt_lt (b := b2) B1
        have O2 := fun h => opt_form (b := b2) (d := 0) (p := rUint) (F := ubytes 10) (s := r1.1) h fun h => ⟨(rUint_form B1 h).1, (rUint_form B1 h).2.1⟩
        generalize opt b2 0 rUint r1.1 = r2 at *
        have B3 := opt_byt (b := b3) (d := (⟨#[]⟩ : ByteArray)) (p := rText) B2 (rBytes_byt B2 L2).1
        have L3 := Nat.le_trans (opt_len (b := b3) (d := (⟨#[]⟩ : ByteArray)) (p := rText) (rBytes_le r2.1)) L2
        have V3 := opt_size (b := b3) B2 L2
        have O3 := fun h => opt_form (b := b3) (d := (⟨#[]⟩ : ByteArray)) (p := rText) (F := sform) (s := r2.1) h fun h => rText_form B2 h
        generalize opt b3 (⟨#[]⟩ : ByteArray) rText r2.1 = r3 at *
        have B4 := opt_byt (b := b4) (d := (⟨#[]⟩ : ByteArray)) (p := rText) B3 (rBytes_byt B3 L3).1
        have V4 := opt_size (b := b4) B3 L3
        have O4 := fun h => opt_form (b := b4) (d := (⟨#[]⟩ : ByteArray)) (p := rText) (F := sform) (s := r3.1) h fun h => rText_form B3 h
        generalize opt b4 (⟨#[]⟩ : ByteArray) rText r3.1 = r4 at *
        have hv' : r4.1.2 = false ∧ r4.1.1 = (if b5 then Pf.VT.form v else []) ++ s5.1 ∧ Pf.VT.fine v := by
          unfold oval at hv
          cases b5 with
          | true =>
            rw [if_pos rfl] at hv
            obtain ⟨a1, a2, a3, a4⟩ := pv_form 8 _ _ _ B4 hv
            exact ⟨a1, by simpa using a3, a4.2⟩
          | false =>
            rw [if_neg (by simp)] at hv
            injection hv with hv; injection hv with hv hv'
            subst hv hv'
            refine ⟨hs5, by simp, ?_⟩
            unfold zeroT
            rw [Pf.fine_mk, sz0]; simp
        obtain ⟨v1, v2, v3⟩ := hv'
        obtain ⟨p4, q4, -⟩ := O4 v1
        obtain ⟨p3, q3, -⟩ := O3 p4
        obtain ⟨p2, q2, -⟩ := O2 p3
        obtain ⟨p1, q1, z1⟩ := O1 p2
        obtain ⟨p0, q0, -⟩ := O0 p1
        have hve := ve_of hval
        have hn2 : r1.2 ≤ 2147483647 := by
          have : ((min r1.2 2147483648 : Nat) : Int) ≤ 2147483647 := hve.n2
          omega
        have hmin : min r1.2 2147483648 = r1.2 := by omega
        refine ⟨?_, hval, ⟨by show (-9223372036854775808 : Int) ≤ (k : Int); omega, by show (k : Int) ≤ 9223372036854775807; omega, V0, by show (-9223372036854775808 : Int) ≤ ((min r1.2 2147483648 : Nat) : Int); omega, by show ((min r1.2 2147483648 : Nat) : Int) ≤ 9223372036854775807; omega, V2, by show r3.2.size ≤ maxLen; simp only [maxLen]; omega, by show r4.2.size ≤ maxLen; simp only [maxLen]; omega⟩, v3⟩
        rw [g2, q0, q1, q2, q3, q4, v2]
        unfold eform hasF
        rw [sel6]
        simp only [mkE, Int.toNat_natCast, hc0, hc1, hc2, hc3, hc4, hc5, List.append_assoc, hmin]
theorem eform_pos (e : EV) : 0 < (eform e).length := by unfold eform; simp
theorem rep_formL {α : Type} {p : St → Option (St × α)} {F : α → List Nat} {Q : α → Prop} (hp : ∀ s s' t, Byt s.1 → s.1.length ≤ 1099511627776 → p s = some (s', t) → s.2 = false ∧ s'.2 = false ∧ s.1 = F t ++ s'.1 ∧ Q t) :
    ∀ (n : Nat) (s s' : St) (ts : List α), Byt s.1 → s.1.length ≤ 1099511627776 → s.2 = false → rep p n s = some (s', ts) → s'.2 = false ∧ s.1 = (ts.map F).flatten ++ s'.1 ∧ ts.length = n ∧ (∀ t ∈ ts, Q t) := by
  intro n
  induction n with
  | zero =>
    intro s s' ts hb hl h2 h
    rw [rep] at h; injection h with h; injection h with h h'
    subst h h'
    exact ⟨h2, by simp, rfl, fun t ht => absurd ht (by simp)⟩
  | succ n ih =>
    intro s s' ts hb hl h2 h
    rw [rep] at h
    split at h
    · cases h
    · rename_i s1 t h1
      split at h
      · cases h
      · rename_i s2 ts2 h3
        injection h with h; injection h with h h'
        subst h h'
        obtain ⟨a1, a2, a3, a4⟩ := hp _ _ _ hb hl h1
        obtain ⟨b1, b2, b3, b4⟩ := ih s1 _ _ (byt_tail hb a3) (by rw [a3, List.length_append] at hl; omega) a2 h3
        refine ⟨b1, by rw [List.map_cons, List.flatten_cons, List.append_assoc, ← b2]; exact a3, by rw [List.length_cons, b3], fun x hx => ?_⟩
        rcases List.mem_cons.1 hx with rfl | hx
        · exact a4
        · exact b4 x hx
/-- Bytes that are read as a batch are its form. -/
theorem pb_form (l : List Nat) (f : ByteArray) (a : Nat) (es : List EV) (hb : Byt l) (hl : l.length ≤ 1099511627776) (h : pb (l, false) = some (f, a, es)) :
    l = bform f a es.length (es.map eform) ∧ bvalid f a es = true ∧ a < 18446744073709551616 ∧ es.length < 18446744073709551616 ∧ (∀ e ∈ es, GoodE e) := by
  unfold pb at h
  simp only at h
  split at h
  · cases h
  · rename_i s' es' h3
    split at h
    · cases h
    · rename_i h9
      injection h with h; injection h with h h'; injection h' with h' h''
      subst h h' h''
      have hs' : s'.2 = false := bool_of fun hh => h9 (.inl hh)
      have hnil : s'.1 = [] := by
        cases hh : decide (s'.1 = []) with
        | true => simpa using hh
        | false => exact absurd (.inr (.inl (by simpa using hh))) h9
      have hval : bvalid (rText (l, false)).2 (rUint (rText (l, false)).1).2 es' = true := by
        cases hh : bvalid (rText (l, false)).2 (rUint (rText (l, false)).1).2 es' with
        | true => rfl
        | false => exact absurd (.inr (.inr hh)) h9
      have hbf : Byt (rText (l, false)).1.1 := (rBytes_byt (s := (l, false)) hb hl).1
      have hlf : (rText (l, false)).1.1.length ≤ 1099511627776 := Nat.le_trans (rBytes_le (l, false)) hl
      have ha := rUint_val hbf
      have hba := (rUint_byt hbf hlf).1
      have hla := (rUint_byt hbf hlf).2
      have hn := rUint_val hba
      have hbn := (rUint_byt hba hla).1
      have hln := (rUint_byt hba hla).2
      have hbad : (rUint (rUint (rText (l, false)).1).1).1.2 = false := by
        cases hh : (rUint (rUint (rText (l, false)).1).1).1.2 with
        | false => rfl
        | true =>
          exfalso
          have hz : (rUint (rUint (rText (l, false)).1).1).2 = 0 := by
            generalize (rUint (rText (l, false)).1).1 = s1 at hh ⊢
            unfold rUint at hh ⊢
            split at hh
            · cases hh
            · rename_i hn; simp only [hn]
          rw [hz, rep] at h3
          injection h3 with h3; injection h3 with h3 _
          rw [← h3, hh] at hs'; cases hs'
      obtain ⟨c1, c2, c3, c4⟩ := rep_formL (F := eform) (Q := GoodE) pe_form _ _ _ _ hbn hln hbad h3
      obtain ⟨d1, d2, d3⟩ := rUint_form hba hbad
      obtain ⟨e1, e2, e3⟩ := rUint_form hbf d1
      obtain ⟨f1, f2⟩ := rText_form (s := (l, false)) hb e1
      refine ⟨?_, hval, ha, by rw [c3]; exact hn, c4⟩
      unfold bform
      rw [hnil, List.append_nil] at c2
      rw [c3, ← c2, ← d2, ← e2]
      exact f2

theorem bvalid_size {f : ByteArray} {a : Nat} {es : List EV} (h : bvalid f a es = true) : f.size ≤ 1000 := by
  unfold bvalid at h
  simp only [Bool.and_eq_true, decide_eq_true_iff] at h
  exact h.1.1.1.2
end Rd
end Go.Proofs.YtcbddebmmaflgaaGreatDoor
