/- The reference's Valid of any event of a kind from 1 to 11. -/
import Derived.Test.YtfmnacebgplpcaaGreatIoai
import Derived.Test.YtfmnacebgplpcaaGreatIoab
import Derived.Deep.CutRange
set_option linter.unusedVariables false
set_option linter.unusedSimpArgs false
open Go.RowKit
namespace Go.Proofs.YtfmnacebgplpcaaGreat
namespace Rd
open _root_.Go.Proofs.YtfmnacebgplpcaaGreat.Nm (bitsW ret_int ret_bool)
open Vt (VT Rep BoxAt below_drew)
open Ev (EV FieldsOk evCells vCells EBox ERep zeroT take_drop tk ap rd1 rd2 cons_drop)
open Cm (has_field)

theorem M224 {p : Prop} (h : p := by
 have HDD : Hid (Below W0.heap.size W0 wc.drew) := Lib.hid (below_drew HBD.out)
 refine wp_region_noPanic ?_
 refine wp_region_held_drew (S := (fun W' : World => W'.cell? ⟨w.heap.size, 0, none⟩ = some (.int .i64 (k : Nat)) ∧ W'.cell? ⟨w.heap.size, 1, none⟩ = some (.int .u64 (id : Nat)) ∧ W'.cell? ⟨w.heap.size, 4, none⟩ = some (.string name) ∧ W'.cell? ⟨w.heap.size, 5, none⟩ = some (.string text))) (by kernel_rfl) ?_ (fun hHeld => ?_)
 ·exact HS.out _ (below_drew HBD.out)
 refine tk 0 rfl ?_
 try simp only [ap]
 refine tk 1 rfl ?_
 try simp only [ap]
 refine tk 3 rfl ?_
 try simp only [ap]
 refine tk 4 rfl ?_
 try simp only [ap]
 refine tk 5 rfl ?_
 try simp only [ap]
 refine rd1 2 rfl fun K hK => ?_
 go_simp
 refine (Hs.out _).mono ?_
 rintro x1 v1 ⟨rfl, hb1⟩
 have HB1 : Hid (Below W0.heap.size W0 v1) := Lib.hid ((HDD.out).trans (hb1.mono (HDD.out).size))
 clear hb1
 go_wp2_with fail
 refine hK.out _ _ (HS.out _ HB1.out) (fun hHeld1 => ?_)
 clear hK K hHeld
 try simp only [ap]
 refine tk 6 rfl ?_
 try simp only [ap]
 refine tk 7 rfl ?_
 try simp only [ap]
 refine tk 8 rfl ?_
 try simp only [ap]
 refine tk 9 rfl ?_
 try simp only [ap]
 refine tk 10 rfl ?_
 try simp only [ap]
 refine tk 11 rfl ?_
 try simp only [ap]
 refine tk 12 rfl ?_
 try simp only [ap]
 refine tk 13 rfl ?_
 try simp only [ap]
 refine tk 14 rfl ?_
 try simp only [ap]
 refine tk 15 rfl ?_
 try simp only [ap]
 refine tk 16 rfl ?_
 try simp only [ap]
 refine tk 17 rfl ?_
 try simp only [ap]
 refine tk 18 rfl ?_
 try simp only [ap]
 refine tk 19 rfl ?_
 try simp only [ap]
 refine tk 20 rfl ?_
 try simp only [ap]
 refine tk 21 rfl ?_
 try simp only [ap]
 refine rd1 22 rfl fun K hK => ?_
 go_simp
 exact Y224) : p := h
namespace Q225
theorem Y224 {p : Prop} (h : p := by
 refine hK.out _ _ (HS.out _ HB1.out) (fun hHeld2 => ?_)
 clear hK K hHeld1
 try simp only [ap]
 refine tk 23 rfl ?_
 try simp only [ap]
 refine tk 24 rfl ?_
 try simp only [ap]
 refine tk 25 rfl ?_
 try simp only [ap]
 refine tk 26 rfl ?_
 try simp only [ap]
 refine tk 27 rfl ?_
 try simp only [ap]
 refine tk 28 rfl ?_
 try simp only [ap]
 refine tk 29 rfl ?_
 try simp only [ap]
 refine wpAnyH_done (by kernel_rfl) ?_ _
 refine NoPanic.normal ?_
 go_wp2_with fail
 go_meet
 case rel => exact ⟨by have h := GP4.out; (try simp at h); rw [h], HB1.out⟩) : p := h
end Q225
theorem M13 {p : Prop} (h : p := by
 open Q225 in exact M224) : p := h
namespace Q226
theorem Y224 {p : Prop} (h : p := by
 refine (Ht.out _).mono ?_
 rintro x2 v2 ⟨rfl, hb2⟩
 have HB2 : Hid (Below W0.heap.size W0 v2) := Lib.hid ((HB1.out).trans (hb2.mono (HB1.out).size))
 clear hb2
 go_wp2_with fail
 refine hK.out _ _ (HS.out _ HB2.out) (fun hHeld2 => ?_)
 clear hK K hHeld1
 try simp only [ap]
 refine tk 23 rfl ?_
 try simp only [ap]
 refine tk 24 rfl ?_
 try simp only [ap]
 refine tk 25 rfl ?_
 try simp only [ap]
 refine tk 26 rfl ?_
 try simp only [ap]
 refine tk 27 rfl ?_
 try simp only [ap]
 refine tk 28 rfl ?_
 try simp only [ap]
 refine tk 29 rfl ?_
 try simp only [ap]
 refine wpAnyH_done (by kernel_rfl) ?_ _
 refine NoPanic.normal ?_
 go_wp2_with fail
 go_meet
 case rel => exact ⟨by have h := GP4.out; (try simp at h); rw [h], HB2.out⟩) : p := h
end Q226
theorem M17 {p : Prop} (h : p := by
 open Q226 in exact M224) : p := h
theorem M6 {p : Prop} (h : p := by
 cases nl with
 | true =>
  exact M13
 | false =>
  cases tl with
  | true =>
   exact M13
  | false =>
   cases bt with
   | true =>
    exact M17
   | false =>
    cases te with
    | true =>
     exact M17
    | false =>
     exact M17) : p := h
theorem M31 {p : Prop} (h : p := by
 go_wp2_with fail
 refine (Hn.out _).mono ?_
 rintro x1 v1 ⟨rfl, hb1⟩
 have HB1 : Hid (Below W0.heap.size W0 v1) := Lib.hid (HBB.out.trans (hb1.mono HBB.out.size))
 clear hb1
 clear a0 a1 a2 a3 a4 a5 a6 a7 a8 a9 a10
 obtain ⟨a0, a1, a2, a3, a4, a5, a6, a7, a8, a9, a10⟩ := EBox.cells (HX.out v1 HB1.out)
 go_wp2_with fail
 refine (Hn.out _).mono ?_
 rintro x2 v2 ⟨rfl, hb2⟩
 have HB2 : Hid (Below W0.heap.size W0 v2) := Lib.hid (HB1.out.trans (hb2.mono HB1.out.size))
 clear hb2
 clear a0 a1 a2 a3 a4 a5 a6 a7 a8 a9 a10
 obtain ⟨a0, a1, a2, a3, a4, a5, a6, a7, a8, a9, a10⟩ := EBox.cells (HX.out v2 HB2.out)
 go_wp2_with fail
 go_meet
 case rel => exact ⟨by have h := GP2.out; (try simp at h); rw [h], HB2.out⟩) : p := h
theorem M47 {p : Prop} (h : p := by
 go_wp2_with fail
 refine (Ha.out _).mono ?_
 rintro x1 v1 ⟨rfl, hb1⟩
 have HB1 : Hid (Below W0.heap.size W0 v1) := Lib.hid (HBC.out.trans (hb1.mono HBC.out.size))
 clear hb1
 clear a0 a1 a2 a3 a4 a5 a6 a7 a8 a9 a10
 obtain ⟨a0, a1, a2, a3, a4, a5, a6, a7, a8, a9, a10⟩ := EBox.cells (HX.out v1 HB1.out)
 go_wp2_with fail
 go_meet
 case rel => exact ⟨by have h := GP3.out; (try simp at h); rw [h], HB1.out⟩) : p := h
theorem M58 {p : Prop} (h : p := by
 go_wp2_with fail
 refine (Hn.out _).mono ?_
 rintro x1 v1 ⟨rfl, hb1⟩
 have HB1 : Hid (Below W0.heap.size W0 v1) := Lib.hid (HBB.out.trans (hb1.mono HBB.out.size))
 clear hb1
 clear a0 a1 a2 a3 a4 a5 a6 a7 a8 a9 a10
 obtain ⟨a0, a1, a2, a3, a4, a5, a6, a7, a8, a9, a10⟩ := EBox.cells (HX.out v1 HB1.out)
 go_wp2_with fail
 go_meet
 case rel => exact ⟨by have h := GP2.out; (try simp at h); rw [h], HB1.out⟩) : p := h
theorem M124 {p : Prop} (h : p := by
 go_wp2_with fail
 go_ret
 exact ⟨rfl, HB0.out.trans (HB2.out.mono (by omega))⟩) : p := h
set_option maxRecDepth 100000 in
set_option maxHeartbeats 8000000 in
theorem rvalid_gen (k : Nat) (id : Nat) (n : Int) (at' : Nat) (name text : ByteArray) (t : VT) (lo hi : Nat) (vk vn : Int) (vf : Nat) (vs : ByteArray) (A : Option Addr) (m c : Nat) (w : World) (hv : Rep w lo hi t (vCells vk vn vf vs A m c)) (hz : hi ≤ w.heap.size) (h1 : 1 ≤ k) (h2 : k ≤ 11)
  (bi bn ba bs bt bv idn n1 n2 n0 a1b a0b ne nl te tl vz : Bool) (gid : ((id : Int) != 0) = idn) (gn1 : decide (n < 1) = n1) (gn2 : decide (2147483647 < n) = n2) (gn0 : (n != 0) = n0) (ga1 : decide ((9223372036854775807 : Int) < (at' : Int)) = a1b) (ga0 : ((at' : Int) != 0) = a0b)
  (gne : name.toList.isEmpty = ne) (gnl : decide ((1000 : Int) < (name.size : Int)) = nl) (gte : text.toList.isEmpty = te) (gtl : decide ((1000 : Int) < (text.size : Int)) = tl) (gvz : (vk == 0) = vz)
  (p1 p2 p3 p4 : Bool) (gp1 : p1 = (bi != idn)) (gp2 : p2 = ((bn && (n1 || n2)) || (!bn && n0))) (gp3 : p3 = (a1b || (!ba && a0b))) (gp4 : p4 = ((bs != !ne) || nl || tl || (!bt && !te)))
  (Hi : Hid (∀ W, Calls Tryz.prog 104 #[.int .i64 (k : Nat), .int .u8 105] W fun r w' => r = .returned (.bool bi) ∧ Below W.heap.size W w'))
  (Hn : Hid (∀ W, Calls Tryz.prog 104 #[.int .i64 (k : Nat), .int .u8 110] W fun r w' => r = .returned (.bool bn) ∧ Below W.heap.size W w'))
  (Ha : Hid (∀ W, Calls Tryz.prog 104 #[.int .i64 (k : Nat), .int .u8 97] W fun r w' => r = .returned (.bool ba) ∧ Below W.heap.size W w'))
  (Hs : Hid (∀ W, Calls Tryz.prog 104 #[.int .i64 (k : Nat), .int .u8 115] W fun r w' => r = .returned (.bool bs) ∧ Below W.heap.size W w'))
  (Ht : Hid (∀ W, Calls Tryz.prog 104 #[.int .i64 (k : Nat), .int .u8 116] W fun r w' => r = .returned (.bool bt) ∧ Below W.heap.size W w'))
  (Hv : Hid (∀ W, Calls Tryz.prog 104 #[.int .i64 (k : Nat), .int .u8 118] W fun r w' => r = .returned (.bool bv) ∧ Below W.heap.size W w')) :
  Calls Tryz.prog 65 #[.agg #[.int .i64 (k : Nat), .int .u64 (id : Nat), .int .i64 n, .int .u64 (at' : Nat), .string name, .string text, .int .i64 vk, .int .i64 vn, .float .f64 vf, .string vs, .slice A m c]] w fun r w' => r = .returned (.bool (!p1 && !p2 && !p3 && !p4 && (t.valid 8 && (bv || vz)))) ∧ Below w.heap.size w w' := by
 obtain ⟨W0, hW0⟩ : ∃ W0, W0 = w.alloc (.cells #[.int .i64 (k : Nat), .int .u64 (id : Nat), .int .i64 n, .int .u64 (at' : Nat), .string name, .string text, .int .i64 vk, .int .i64 vn, .float .f64 vf, .string vs, .slice A m c] 71) := ⟨_, rfl⟩
 have HB0 : Hid (Below w.heap.size w W0) := Lib.hid (by rw [hW0]; exact (Below.refl _ _).alloc (Nat.le_refl _) _)
 have hbx : EBox W0 w.heap.size #[.int .i64 (k : Nat), .int .u64 (id : Nat), .int .i64 n, .int .u64 (at' : Nat), .string name, .string text, .int .i64 vk, .int .i64 vn, .float .f64 vf, .string vs, .slice A m c] := by rw [hW0]; exact heap_alloc_new w _
 have hzz : w.heap.size < W0.heap.size := by rw [hW0]; simp
 have HX : Hid (∀ W, Below W0.heap.size W0 W → EBox W w.heap.size #[.int .i64 (k : Nat), .int .u64 (id : Nat), .int .i64 n, .int .u64 (at' : Nat), .string name, .string text, .int .i64 vk, .int .i64 vn, .float .f64 vf, .string vs, .slice A m c]) := Lib.hid fun W hW => hbx.later hW hzz
 have HS : Hid (∀ W' : World, Below W0.heap.size W0 W' → W'.cell? ⟨w.heap.size, 0, none⟩ = some (.int .i64 (k : Nat)) ∧ W'.cell? ⟨w.heap.size, 1, none⟩ = some (.int .u64 (id : Nat)) ∧ W'.cell? ⟨w.heap.size, 4, none⟩ = some (.string name) ∧ W'.cell? ⟨w.heap.size, 5, none⟩ = some (.string text)) := Lib.hid fun W hW => by
  obtain ⟨c0, c1, -, -, c4, c5, -⟩ := EBox.cells (HX.out W hW)
  exact ⟨c0, c1, c4, c5⟩
 obtain ⟨vv, hvv⟩ : ∃ vv, vv = t.valid 8 := ⟨_, rfl⟩
 have HV : Hid (∀ W, Below W0.heap.size W0 W → Calls Tryz.prog 105 #[.agg #[.int .i64 vk, .int .i64 vn, .float .f64 vf, .string vs, .slice A m c]] W fun r w' => r = .returned (.bool vv) ∧ Below W.heap.size W w') := Lib.hid fun W hW =>
  (Vt.rvalid_any t W lo hi _ (hv.later ((HB0.out.trans (hW.mono (by omega))).mono hz)) (by have := hW.size; omega)).mono fun r w' h => ⟨by rw [h.1, hvv], h.2⟩
 rw [← hvv]
 have g1 : decide ((k : Int) < 1) = false := decide_eq_false (by omega)
 have g2 : decide ((11 : Int) < (k : Int)) = false := decide_eq_false (by omega)
 have g3 : decide ((k : Int) > 11) = false := decide_eq_false (by omega)
 have hkk : 1 ≤ (k : Int) := by omega
 have hkk2 : (k : Int) ≤ 11 := by omega
 have HBA : Hid (Below W0.heap.size W0 W0) := Lib.hid (Below.refl _ _)
 have GP1 := Lib.hid gp1; have GP2 := Lib.hid gp2; have GP3 := Lib.hid gp3; have GP4 := Lib.hid gp4
 clear hv hbx hvv h1 h2 gp1 gp2 gp3 gp4
 replace hW0 := Lib.hid hW0
 obtain ⟨a0, a1, a2, a3, a4, a5, a6, a7, a8, a9, a10⟩ := EBox.cells (HX.out W0 (Below.refl _ _))
 go_enter Tryz.func65, Tryz.ntmps65
 go_upto_region 1 with fail
 rw [← hW0.out]
 go_cut [19] from 3 to 19 (fun z wx => z = .bool p1 ∧ Below W0.heap.size W0 wx)
 case first =>
  have HD0 : Hid (Below W0.heap.size W0 W0.drew) := Lib.hid (below_drew (Below.refl _ _))
  refine wp_region_noPanic ?_
  refine wp_region_held_drew (S := (fun W' : World => W'.cell? ⟨w.heap.size, 0, none⟩ = some (.int .i64 (k : Nat)) ∧ W'.cell? ⟨w.heap.size, 1, none⟩ = some (.int .u64 (id : Nat)) ∧ W'.cell? ⟨w.heap.size, 4, none⟩ = some (.string name) ∧ W'.cell? ⟨w.heap.size, 5, none⟩ = some (.string text))) (by kernel_rfl) ?_ (fun hHeld => ?_)
  ·exact HS.out _ (below_drew (Below.refl _ _))
  refine tk 0 rfl ?_
  try simp only [ap]
  refine tk 1 rfl ?_
  try simp only [ap]
  refine tk 2 rfl ?_
  try simp only [ap]
  refine tk 3 rfl ?_
  try simp only [ap]
  refine tk 4 rfl ?_
  try simp only [ap]
  refine tk 5 rfl ?_
  try simp only [ap]
  refine tk 6 rfl ?_
  try simp only [ap]
  refine tk 7 rfl ?_
  try simp only [ap]
  refine tk 8 rfl ?_
  try simp only [ap]
  refine tk 9 rfl ?_
  try simp only [ap]
  refine tk 10 rfl ?_
  try simp only [ap]
  refine tk 12 rfl ?_
  try simp only [ap]
  refine tk 13 rfl ?_
  try simp only [ap]
  refine tk 14 rfl ?_
  try simp only [ap]
  refine rd1 11 rfl fun K hK => ?_
  go_simp
  refine (Hi.out _).mono ?_
  rintro x1 v1 ⟨rfl, hb1⟩
  have HB1 : Hid (Below W0.heap.size W0 v1) := Lib.hid ((HD0.out).trans (hb1.mono (HD0.out).size))
  clear hb1
  go_wp2_with fail
  refine hK.out _ _ (HS.out _ HB1.out) (fun hHeld1 => ?_)
  clear hK K hHeld
  try simp only [ap]
  refine tk 15 rfl ?_
  try simp only [ap]
  refine tk 16 rfl ?_
  try simp only [ap]
  refine wpAnyH_done (by kernel_rfl) ?_ _
  refine NoPanic.normal ?_
  go_wp2_with fail
  go_meet
  case rel => exact ⟨by rw [GP1.out]; cases bi <;> cases idn <;> rfl, HB1.out⟩
 case rest =>
  obtain ⟨rfl, hbc⟩ := hcut
  have HBB := Lib.hid hbc
  clear hbc
  cases p1 with
  | true =>
   clear a0 a1 a2 a3 a4 a5 a6 a7 a8 a9 a10
   obtain ⟨a0, a1, a2, a3, a4, a5, a6, a7, a8, a9, a10⟩ := EBox.cells (HX.out wc HBB.out)
   go_wp2_with fail
   go_ret
   exact ⟨rfl, HB0.out.trans (HBB.out.mono (by omega))⟩
  | false =>
   clear a0 a1 a2 a3 a4 a5 a6 a7 a8 a9 a10
   obtain ⟨a0, a1, a2, a3, a4, a5, a6, a7, a8, a9, a10⟩ := EBox.cells (HX.out wc HBB.out)
   go_upto_region 3 with fail
   go_cut [43] from 20 to 43 (fun z wx => z = .bool p2 ∧ Below W0.heap.size W0 wx)
   case first =>
    cases bn with
    | true =>
     cases n1 with
     | true =>
      exact M58
     | false =>
      cases n2 with
      | true =>
       exact M58
      | false =>
       exact M31
    | false =>
     cases n0 with
     | true =>
      exact M31
     | false =>
      exact M31
   case rest =>
    obtain ⟨rfl, hbc⟩ := hcut
    have HBC := Lib.hid hbc
    clear hbc
    cases p2 with
    | true =>
     clear a0 a1 a2 a3 a4 a5 a6 a7 a8 a9 a10
     obtain ⟨a0, a1, a2, a3, a4, a5, a6, a7, a8, a9, a10⟩ := EBox.cells (HX.out wc HBC.out)
     go_wp2_with fail
     go_ret
     exact ⟨rfl, HB0.out.trans (HBC.out.mono (by omega))⟩
    | false =>
     clear a0 a1 a2 a3 a4 a5 a6 a7 a8 a9 a10
     obtain ⟨a0, a1, a2, a3, a4, a5, a6, a7, a8, a9, a10⟩ := EBox.cells (HX.out wc HBC.out)
     go_upto_region 5 with fail
     go_cut [57] from 44 to 57 (fun z wx => z = .bool p3 ∧ Below W0.heap.size W0 wx)
     case first =>
      cases a1b with
      | true =>
       go_wp2_with fail
       go_meet
       case rel => exact ⟨by have h := GP3.out; (try simp at h); rw [h], HBC.out⟩
      | false =>
       cases ba with
       | true =>
        exact M47
       | false =>
        cases a0b with
        | true =>
         exact M47
        | false =>
         exact M47
     case rest =>
      obtain ⟨rfl, hbc⟩ := hcut
      have HBD := Lib.hid hbc
      clear hbc
      cases p3 with
      | true =>
       clear a0 a1 a2 a3 a4 a5 a6 a7 a8 a9 a10
       obtain ⟨a0, a1, a2, a3, a4, a5, a6, a7, a8, a9, a10⟩ := EBox.cells (HX.out wc HBD.out)
       go_wp2_with fail
       go_ret
       exact ⟨rfl, HB0.out.trans (HBD.out.mono (by omega))⟩
      | false =>
       clear a0 a1 a2 a3 a4 a5 a6 a7 a8 a9 a10
       obtain ⟨a0, a1, a2, a3, a4, a5, a6, a7, a8, a9, a10⟩ := EBox.cells (HX.out wc HBD.out)
       go_upto_region 7 with fail
       go_cut [87] from 58 to 87 (fun z wx => z = .bool p4 ∧ Below W0.heap.size W0 wx)
       case first =>
        clear a0 a1 a2 a3 a4 a5 a6 a7 a8 a9 a10
        cases bs with
        | true =>
         cases ne with
         | true =>
          exact M13
         | false =>
          exact M6
        | false =>
         cases ne with
         | true =>
          exact M6
         | false =>
          exact M13
       case rest =>
        obtain ⟨rfl, hbc⟩ := hcut
        have HBE := Lib.hid hbc
        clear hbc
        cases p4 with
        | true =>
         clear a0 a1 a2 a3 a4 a5 a6 a7 a8 a9 a10
         obtain ⟨a0, a1, a2, a3, a4, a5, a6, a7, a8, a9, a10⟩ := EBox.cells (HX.out wc HBE.out)
         go_wp2_with fail
         go_ret
         exact ⟨rfl, HB0.out.trans (HBE.out.mono (by omega))⟩
        | false =>
         clear a0 a1 a2 a3 a4 a5 a6 a7 a8 a9 a10
         obtain ⟨a0, a1, a2, a3, a4, a5, a6, a7, a8, a9, a10⟩ := EBox.cells (HX.out wc HBE.out)
         go_wp2_with fail
         refine (HV.out _ HBE.out).mono ?_
         rintro x1 v1 ⟨rfl, hb1⟩
         have HB1 : Hid (Below W0.heap.size W0 v1) := Lib.hid (HBE.out.trans (hb1.mono HBE.out.size))
         clear hb1
         clear a0 a1 a2 a3 a4 a5 a6 a7 a8 a9 a10
         obtain ⟨a0, a1, a2, a3, a4, a5, a6, a7, a8, a9, a10⟩ := EBox.cells (HX.out v1 HB1.out)
         cases vv with
         | false =>
          go_wp2_with fail
          go_ret
          exact ⟨rfl, HB0.out.trans (HB1.out.mono (by omega))⟩
         | true =>
          go_wp2_with fail
          refine (Hv.out _).mono ?_
          rintro x2 v2 ⟨rfl, hb2⟩
          have HB2 : Hid (Below W0.heap.size W0 v2) := Lib.hid (HB1.out.trans (hb2.mono HB1.out.size))
          clear hb2
          clear a0 a1 a2 a3 a4 a5 a6 a7 a8 a9 a10
          obtain ⟨a0, a1, a2, a3, a4, a5, a6, a7, a8, a9, a10⟩ := EBox.cells (HX.out v2 HB2.out)
          cases bv with
          | true =>
           exact M124
          | false =>
           cases vz with
           | true =>
            exact M124
           | false =>
            exact M124
end Rd
end Go.Proofs.YtfmnacebgplpcaaGreat
