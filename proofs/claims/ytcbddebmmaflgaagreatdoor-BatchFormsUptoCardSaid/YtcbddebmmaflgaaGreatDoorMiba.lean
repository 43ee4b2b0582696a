/- The reference's text of an event. -/
/- batch.Text of any valid batch of small events. -/
/- Forms and texts of batches tell the batches: no program in sight. -/
/- EventSame: the walk. -/
/- Events that came in, opened; the listed tables; EventSame. -/
import Derived.Test.YtcbddebmmaflgaaGreatDoorMiaw
import Derived.Test.YtcbddebmmaflgaaGreatDoorMiaz
import Derived.Test.YtcbddebmmaflgaaGreatDoorMiai
import Derived.Test.YtcbddebmmaflgaaGreatDoorMiat
import Derived.Test.YtcbddebmmaflgaaGreatDoorMiak
import Derived.Test.YtcbddebmmaflgaaGreatDoorMiax
import Derived.Test.YtcbddebmmaflgaaGreatDoorMiau
import Derived.Test.YtcbddebmmaflgaaGreatDoorRows
import Derived.ChangeMaps5
import Derived.ChangeArms
import Derived.Deep.Draws
import Derived.ProofKit
import Derived.OpenShut
import Derived.Lib.SmallJoins
import Derived.Lib.LaidTab
import Derived.LaidSub
namespace Go.Proofs.YtcbddebmmaflgaaGreatDoor
open Go.RowKit
set_option linter.unusedVariables false
set_option linter.unusedSimpArgs false
namespace Rg
open _root_.Go.Proofs.YtcbddebmmaflgaaGreatDoor.Nm (bitsW ret_int ret_bool)
open Bt (sb)
open Fu (rdigits_any)
open Pf (hexL stext)
open Vf (KT etext etextB hasF optT selT tail_selT etext_len)
open Vt (VT Rep BoxAt below_drew)
open Ev (EV FieldsOk evCells vCells EBox ERep zeroT fieldsOf nameOf)
open Cm (has_field)

set_option maxRecDepth 100000 in
set_option maxHeartbeats 4000000 in
theorem rname_any (k : Nat) (h1 : 1 ≤ k) (h2 : k ≤ 11) (w : World) : Calls Tryz.prog 62 #[.int .i64 k] w fun e w' => e = .returned (.string (nameOf k)) ∧ Below w.heap.size w w' := by
  rcases (by omega : k = 1 ∨ k = 2 ∨ k = 3 ∨ k = 4 ∨ k = 5 ∨ k = 6 ∨ k = 7 ∨ k = 8 ∨ k = 9 ∨ k = 10 ∨ k = 11) with rfl | rfl | rfl | rfl | rfl | rfl | rfl | rfl | rfl | rfl | rfl
  all_goals
    go_enter Tryz.func62, Tryz.ntmps62
    go_wp2_with fail
    go_ret
    exact ⟨rfl, (Below.refl _ _).alloc (Nat.le_refl _) _⟩
theorem runsigned_any (x : Nat) (hx : x < 18446744073709551616) (w : World) : Calls Tryz.prog 63 #[.int .u64 (x : Nat)] w (KT w (Lib.decDigits x)) := by
  have HD := Lib.hid (rdigits_any x hx w)
  go_enter Tryz.func63, Tryz.ntmps63
  go_wp2_with fail
  refine HD.out.mono ?_
  rintro e w1 ⟨rfl, rfl⟩
  go_wp2_with fail
  go_ret
  exact ⟨rfl, Below.refl _ _⟩
theorem rep_leaf' {w : World} {lo hi : Nat} {k n : Int} {f : Nat} {s : ByteArray} (h : Vt.HeadOk k n f s 0) : Rep w lo hi (.mk k n f s []) (.agg #[.int .i64 k, .int .i64 n, .float .f64 f, .string s, .slice none 0 0]) :=
  Rep.close (A := none) (cap := 0) h (Nat.le_refl _) ⟨fun hp => absurd hp (by simp)⟩

set_option maxRecDepth 100000 in
theorem rquoted_any (s : ByteArray) (hs : s.size ≤ 1000) (w : World) : Calls Tryz.prog 64 #[.string s] w (KT w (stext s)) := by
  have HT : Hid (Calls Tryz.prog 65 #[.agg #[.int .i64 3, .int .i64 0, .float .f64 0, .string s, .slice none 0 0]] w (KT w (stext s))) := Lib.hid (by
    have := rvtext_any (.mk 3 0 0 s []) (by rw [Vf.text_of, Vf.stext_len]; omega) (Vf.text_slim s (by omega)) 0 0 (.agg #[.int .i64 3, .int .i64 0, .float .f64 0, .string s, .slice none 0 0]) w (rep_leaf' ⟨by decide, by decide, by decide, by decide, by decide, by simp only [maxLen]; omega, by decide⟩) (Nat.zero_le _) (Vf.text_valid s)
    rw [Vf.text_of] at this
    exact this)
  go_enter Tryz.func64, Tryz.ntmps64
  go_wp2_with fail
  refine HT.out.mono ?_
  rintro e w1 ⟨rfl, hb⟩
  have HB := Lib.hid hb
  clear hb
  go_wp2_with fail
  go_ret
  exact ⟨rfl, HB.out⟩

set_option maxRecDepth 100000 in
set_option maxHeartbeats 4000000 in
theorem retext_walk (k id n at' : Nat) (name text : ByteArray) (hn : n ≤ 2147483647) (vk vn : Int) (vf : Nat) (vs : ByteArray) (A : Option Addr) (m c : Nat) (b0 b1 b2 b3 b4 b5 : Bool) (S0 S1 S2 S3 S4 S5 S6 P0 P1 P2 P3 P4 P5 : ByteArray) (w : World)
    (z0 : S0.size ≤ 40000) (z1 : S1.size ≤ 40000) (z2 : S2.size ≤ 40000) (z3 : S3.size ≤ 40000) (z4 : S4.size ≤ 40000) (z5 : S5.size ≤ 40000) (y0 : P0.size ≤ 40000) (y1 : P1.size ≤ 40000) (y2 : P2.size ≤ 40000) (y3 : P3.size ≤ 40000) (y4 : P4.size ≤ 40000) (y5 : P5.size ≤ 40000)
    (F0 : Hid (b0 = false → S0 = S1)) (T0 : Hid (b0 = true → S0 ++ ⟨#[32]⟩ ++ P0 = S1))
    (F1 : Hid (b1 = false → S1 = S2)) (T1 : Hid (b1 = true → S1 ++ ⟨#[32]⟩ ++ P1 = S2))
    (F2 : Hid (b2 = false → S2 = S3)) (T2 : Hid (b2 = true → S2 ++ ⟨#[32]⟩ ++ P2 = S3))
    (F3 : Hid (b3 = false → S3 = S4)) (T3 : Hid (b3 = true → S3 ++ ⟨#[32]⟩ ++ P3 = S4))
    (F4 : Hid (b4 = false → S4 = S5)) (T4 : Hid (b4 = true → S4 ++ ⟨#[32]⟩ ++ P4 = S5))
    (F5 : Hid (b5 = false → S5 = S6)) (T5 : Hid (b5 = true → S5 ++ ⟨#[32]⟩ ++ P5 = S6))
    (H0 : Hid (∀ W, Calls Tryz.prog 44 #[.int .i64 (k : Nat), .int .u8 105] W fun r w' => r = .returned (.bool b0) ∧ Below W.heap.size W w'))
    (H1 : Hid (∀ W, Calls Tryz.prog 44 #[.int .i64 (k : Nat), .int .u8 110] W fun r w' => r = .returned (.bool b1) ∧ Below W.heap.size W w'))
    (H2 : Hid (∀ W, Calls Tryz.prog 44 #[.int .i64 (k : Nat), .int .u8 97] W fun r w' => r = .returned (.bool b2) ∧ Below W.heap.size W w'))
    (H3 : Hid (∀ W, Calls Tryz.prog 44 #[.int .i64 (k : Nat), .int .u8 115] W fun r w' => r = .returned (.bool b3) ∧ Below W.heap.size W w'))
    (H4 : Hid (∀ W, Calls Tryz.prog 44 #[.int .i64 (k : Nat), .int .u8 116] W fun r w' => r = .returned (.bool b4) ∧ Below W.heap.size W w'))
    (H5 : Hid (∀ W, Calls Tryz.prog 44 #[.int .i64 (k : Nat), .int .u8 118] W fun r w' => r = .returned (.bool b5) ∧ Below W.heap.size W w'))
    (HN : Hid (∀ W, Calls Tryz.prog 62 #[.int .i64 (k : Nat)] W fun r w' => r = .returned (.string S0) ∧ Below W.heap.size W w'))
    (HP0 : Hid (∀ W, Calls Tryz.prog 63 #[.int .u64 (id : Nat)] W fun r w' => r = .returned (.string P0) ∧ Below W.heap.size W w'))
    (HP1 : Hid (∀ W, Calls Tryz.prog 63 #[.int .u64 (n : Nat)] W fun r w' => r = .returned (.string P1) ∧ Below W.heap.size W w'))
    (HP2 : Hid (∀ W, Calls Tryz.prog 63 #[.int .u64 (at' : Nat)] W fun r w' => r = .returned (.string P2) ∧ Below W.heap.size W w'))
    (HP3 : Hid (∀ W, Calls Tryz.prog 64 #[.string name] W fun r w' => r = .returned (.string P3) ∧ Below W.heap.size W w'))
    (HP4 : Hid (∀ W, Calls Tryz.prog 64 #[.string text] W fun r w' => r = .returned (.string P4) ∧ Below W.heap.size W w'))
    (hP5 : ∀ W, Below w.heap.size w W → Calls Tryz.prog 65 #[.agg #[.int .i64 vk, .int .i64 vn, .float .f64 vf, .string vs, .slice A m c]] W fun r w' => r = .returned (.string P5) ∧ Below W.heap.size W w')
    (hV : ∀ W, Below w.heap.size w W → Calls Tryz.prog 47 #[.agg #[.int .i64 (k : Nat), .int .u64 (id : Nat), .int .i64 (n : Nat), .int .u64 (at' : Nat), .string name, .string text, .int .i64 vk, .int .i64 vn, .float .f64 vf, .string vs, .slice A m c]] W fun r w' => r = .returned (.bool true) ∧ Below W.heap.size W w') :
    Calls Tryz.prog 18 #[.agg #[.int .i64 (k : Nat), .int .u64 (id : Nat), .int .i64 (n : Nat), .int .u64 (at' : Nat), .string name, .string text, .int .i64 vk, .int .i64 vn, .float .f64 vf, .string vs, .slice A m c]] w fun r w' => r = .returned (.string S6) ∧ Below w.heap.size w w' := by
  obtain ⟨W0, hW0⟩ : ∃ W0, W0 = w.alloc (.cells #[.int .i64 (k : Nat), .int .u64 (id : Nat), .int .i64 (n : Nat), .int .u64 (at' : Nat), .string name, .string text, .int .i64 vk, .int .i64 vn, .float .f64 vf, .string vs, .slice A m c] 32) := ⟨_, rfl⟩
  have HB0 : Hid (Below w.heap.size w W0) := Lib.hid (by rw [hW0]; exact (Below.refl _ _).alloc (Nat.le_refl _) _)
  have hbx : EBox W0 w.heap.size #[.int .i64 (k : Nat), .int .u64 (id : Nat), .int .i64 (n : Nat), .int .u64 (at' : Nat), .string name, .string text, .int .i64 vk, .int .i64 vn, .float .f64 vf, .string vs, .slice A m c] := by rw [hW0]; exact heap_alloc_new w _
  have hzz : w.heap.size < W0.heap.size := by rw [hW0]; simp
  have HX : Hid (∀ W, Below W0.heap.size W0 W → EBox W w.heap.size #[.int .i64 (k : Nat), .int .u64 (id : Nat), .int .i64 (n : Nat), .int .u64 (at' : Nat), .string name, .string text, .int .i64 vk, .int .i64 vn, .float .f64 vf, .string vs, .slice A m c]) := Lib.hid fun W hW => hbx.later hW hzz
  have HP5 : Hid (∀ W, Below W0.heap.size W0 W → Calls Tryz.prog 65 #[.agg #[.int .i64 vk, .int .i64 vn, .float .f64 vf, .string vs, .slice A m c]] W fun r w' => r = .returned (.string P5) ∧ Below W.heap.size W w') := Lib.hid fun W hW => hP5 W (HB0.out.trans (hW.mono HB0.out.size))
  have HV := Lib.hid (hV W0 HB0.out)
  have HWN : Hid (IntKind.u64.wrap (n : Int) = (n : Int)) := Lib.hid (IntWalk.u64_in _ (by omega))
  have s0 : ¬ (9223372036854775807 < S0.size + 1) := by omega
  have t0 : ¬ (9223372036854775807 < S0.size + 1 + P0.size) := by omega
  have s1 : ¬ (9223372036854775807 < S1.size + 1) := by omega
  have t1 : ¬ (9223372036854775807 < S1.size + 1 + P1.size) := by omega
  have s2 : ¬ (9223372036854775807 < S2.size + 1) := by omega
  have t2 : ¬ (9223372036854775807 < S2.size + 1 + P2.size) := by omega
  have s3 : ¬ (9223372036854775807 < S3.size + 1) := by omega
  have t3 : ¬ (9223372036854775807 < S3.size + 1 + P3.size) := by omega
  have s4 : ¬ (9223372036854775807 < S4.size + 1) := by omega
  have t4 : ¬ (9223372036854775807 < S4.size + 1 + P4.size) := by omega
  have s5 : ¬ (9223372036854775807 < S5.size + 1) := by omega
  have t5 : ¬ (9223372036854775807 < S5.size + 1 + P5.size) := by omega
  clear hbx hP5 hV z0 z1 z2 z3 z4 z5 y0 y1 y2 y3 y4 y5
  obtain ⟨a0, a1, a2, a3, a4, a5, a6, a7, a8, a9, a10⟩ := EBox.cells (HX.out W0 (Below.refl _ _))
  replace hW0 := Lib.hid hW0
  go_enter Tryz.func18, Tryz.ntmps18
  go_upto_region 1 with fail
  rw [← hW0.out]
  go_wp2_with fail
  refine HV.out.mono ?_
  rintro x w1 ⟨rfl, hb1⟩
  have HB1 := Lib.hid hb1
  clear hb1 a0 a1 a2 a3 a4 a5 a6 a7 a8 a9 a10
  obtain ⟨a0, a1, a2, a3, a4, a5, a6, a7, a8, a9, a10⟩ := EBox.cells (HX.out w1 HB1.out)
  go_wp2_with fail
  refine (HN.out _).mono ?_
  rintro x w2 ⟨rfl, hb2⟩
  have HB := Lib.hid (HB1.out.trans (hb2.mono HB1.out.size))
  clear hb2 a0 a1 a2 a3 a4 a5 a6 a7 a8 a9 a10
  obtain ⟨a0, a1, a2, a3, a4, a5, a6, a7, a8, a9, a10⟩ := EBox.cells (HX.out w2 HB.out)
  go_upto_region 4 with fail
  go_cut [3, 12] from 10 to 12 (fun z z2 wx => z = .string S0 ∧ z2 = .bool b0 ∧ Below W0.heap.size W0 wx)
  case first =>
    go_wp2_with fail
    refine (H0.out _).mono ?_
    rintro x wq ⟨rfl, hbq⟩
    have HC := Lib.hid (HB.out.trans (hbq.mono HB.out.size))
    clear hbq
    go_wp2_with fail
    go_meet
    case rel => exact ⟨rfl, rfl, HC.out⟩
  case rest =>
    obtain ⟨rfl, rfl, hbc⟩ := hcut
    clear HB a0 a1 a2 a3 a4 a5 a6 a7 a8 a9 a10
    have HB := Lib.hid hbc
    clear hbc
    obtain ⟨a0, a1, a2, a3, a4, a5, a6, a7, a8, a9, a10⟩ := EBox.cells (HX.out wc HB.out)
    go_step
    go_cut [3, 12] from 13 to 18 (fun z z2 wx => z = .string S1 ∧ Below W0.heap.size W0 wx)
    case first =>
      cases hbb : b0 with
      | false =>
        have HE := Lib.hid (F0.out hbb)
        go_wp2_with fail
        go_meet
        case rel => exact ⟨by rw [HE.out], HB.out⟩
      | true =>
        have HE := Lib.hid (T0.out hbb)
        go_wp2_with fail
        refine (HP0.out _).mono ?_
        rintro x wp ⟨rfl, hbq⟩
        have HD := Lib.hid (HB.out.trans (hbq.mono HB.out.size))
        clear hbq
        go_wp2_with fail
        go_meet
        case rel => exact ⟨congrArg Value.string HE.out, HD.out⟩
    case rest =>
      obtain ⟨rfl, hbc⟩ := hcut
      clear HB a0 a1 a2 a3 a4 a5 a6 a7 a8 a9 a10
      have HB := Lib.hid hbc
      clear hbc
      obtain ⟨a0, a1, a2, a3, a4, a5, a6, a7, a8, a9, a10⟩ := EBox.cells (HX.out wc HB.out)
      go_upto_region 6 with fail
      go_cut [3, 21] from 19 to 21 (fun z z2 wx => z = .string S1 ∧ z2 = .bool b1 ∧ Below W0.heap.size W0 wx)
      case first =>
        go_wp2_with fail
        refine (H1.out _).mono ?_
        rintro x wq ⟨rfl, hbq⟩
        have HC := Lib.hid (HB.out.trans (hbq.mono HB.out.size))
        clear hbq
        go_wp2_with fail
        go_meet
        case rel => exact ⟨rfl, rfl, HC.out⟩
      case rest =>
        obtain ⟨rfl, rfl, hbc⟩ := hcut
        clear HB a0 a1 a2 a3 a4 a5 a6 a7 a8 a9 a10
        have HB := Lib.hid hbc
        clear hbc
        obtain ⟨a0, a1, a2, a3, a4, a5, a6, a7, a8, a9, a10⟩ := EBox.cells (HX.out wc HB.out)
        go_step
        go_cut [3, 21] from 22 to 28 (fun z z2 wx => z = .string S2 ∧ Below W0.heap.size W0 wx)
        case first =>
          cases hbb : b1 with
          | false =>
            have HE := Lib.hid (F1.out hbb)
            go_wp2_with fail
            go_meet
            case rel => exact ⟨by rw [HE.out], HB.out⟩
          | true =>
            have HE := Lib.hid (T1.out hbb)
            go_wp2_with fail
            refine (HP1.out _).mono ?_
            rintro x wp ⟨rfl, hbq⟩
            have HD := Lib.hid (HB.out.trans (hbq.mono HB.out.size))
            clear hbq
            go_wp2_with fail
            go_meet
            case rel => exact ⟨congrArg Value.string HE.out, HD.out⟩
        case rest =>
          obtain ⟨rfl, hbc⟩ := hcut
          clear HB a0 a1 a2 a3 a4 a5 a6 a7 a8 a9 a10
          have HB := Lib.hid hbc
          clear hbc
          obtain ⟨a0, a1, a2, a3, a4, a5, a6, a7, a8, a9, a10⟩ := EBox.cells (HX.out wc HB.out)
          go_upto_region 8 with fail
          go_cut [3, 31] from 29 to 31 (fun z z2 wx => z = .string S2 ∧ z2 = .bool b2 ∧ Below W0.heap.size W0 wx)
          case first =>
            go_wp2_with fail
            refine (H2.out _).mono ?_
            rintro x wq ⟨rfl, hbq⟩
            have HC := Lib.hid (HB.out.trans (hbq.mono HB.out.size))
            clear hbq
            go_wp2_with fail
            go_meet
            case rel => exact ⟨rfl, rfl, HC.out⟩
          case rest =>
            obtain ⟨rfl, rfl, hbc⟩ := hcut
            clear HB a0 a1 a2 a3 a4 a5 a6 a7 a8 a9 a10
            have HB := Lib.hid hbc
            clear hbc
            obtain ⟨a0, a1, a2, a3, a4, a5, a6, a7, a8, a9, a10⟩ := EBox.cells (HX.out wc HB.out)
            go_step
            go_cut [3, 31] from 32 to 37 (fun z z2 wx => z = .string S3 ∧ Below W0.heap.size W0 wx)
            case first =>
              cases hbb : b2 with
              | false =>
                have HE := Lib.hid (F2.out hbb)
                go_wp2_with fail
                go_meet
                case rel => exact ⟨by rw [HE.out], HB.out⟩
              | true =>
                have HE := Lib.hid (T2.out hbb)
                go_wp2_with fail
                refine (HP2.out _).mono ?_
                rintro x wp ⟨rfl, hbq⟩
                have HD := Lib.hid (HB.out.trans (hbq.mono HB.out.size))
                clear hbq
                go_wp2_with fail
                go_meet
                case rel => exact ⟨congrArg Value.string HE.out, HD.out⟩
            case rest =>
              obtain ⟨rfl, hbc⟩ := hcut
              clear HB a0 a1 a2 a3 a4 a5 a6 a7 a8 a9 a10
              have HB := Lib.hid hbc
              clear hbc
              obtain ⟨a0, a1, a2, a3, a4, a5, a6, a7, a8, a9, a10⟩ := EBox.cells (HX.out wc HB.out)
              go_upto_region 10 with fail
              go_cut [3, 40] from 38 to 40 (fun z z2 wx => z = .string S3 ∧ z2 = .bool b3 ∧ Below W0.heap.size W0 wx)
              case first =>
                go_wp2_with fail
                refine (H3.out _).mono ?_
                rintro x wq ⟨rfl, hbq⟩
                have HC := Lib.hid (HB.out.trans (hbq.mono HB.out.size))
                clear hbq
                go_wp2_with fail
                go_meet
                case rel => exact ⟨rfl, rfl, HC.out⟩
              case rest =>
                obtain ⟨rfl, rfl, hbc⟩ := hcut
                clear HB a0 a1 a2 a3 a4 a5 a6 a7 a8 a9 a10
                have HB := Lib.hid hbc
                clear hbc
                obtain ⟨a0, a1, a2, a3, a4, a5, a6, a7, a8, a9, a10⟩ := EBox.cells (HX.out wc HB.out)
                go_step
                go_cut [3, 40] from 41 to 46 (fun z z2 wx => z = .string S4 ∧ Below W0.heap.size W0 wx)
                case first =>
                  cases hbb : b3 with
                  | false =>
                    have HE := Lib.hid (F3.out hbb)
                    go_wp2_with fail
                    go_meet
                    case rel => exact ⟨by rw [HE.out], HB.out⟩
                  | true =>
                    have HE := Lib.hid (T3.out hbb)
                    go_wp2_with fail
                    refine (HP3.out _).mono ?_
                    rintro x wp ⟨rfl, hbq⟩
                    have HD := Lib.hid (HB.out.trans (hbq.mono HB.out.size))
                    clear hbq
                    go_wp2_with fail
                    go_meet
                    case rel => exact ⟨congrArg Value.string HE.out, HD.out⟩
                case rest =>
                  obtain ⟨rfl, hbc⟩ := hcut
                  clear HB a0 a1 a2 a3 a4 a5 a6 a7 a8 a9 a10
                  have HB := Lib.hid hbc
                  clear hbc
                  obtain ⟨a0, a1, a2, a3, a4, a5, a6, a7, a8, a9, a10⟩ := EBox.cells (HX.out wc HB.out)
                  go_upto_region 12 with fail
                  go_cut [3, 49] from 47 to 49 (fun z z2 wx => z = .string S4 ∧ z2 = .bool b4 ∧ Below W0.heap.size W0 wx)
                  case first =>
                    go_wp2_with fail
                    refine (H4.out _).mono ?_
                    rintro x wq ⟨rfl, hbq⟩
                    have HC := Lib.hid (HB.out.trans (hbq.mono HB.out.size))
                    clear hbq
                    go_wp2_with fail
                    go_meet
                    case rel => exact ⟨rfl, rfl, HC.out⟩
                  case rest =>
                    obtain ⟨rfl, rfl, hbc⟩ := hcut
                    clear HB a0 a1 a2 a3 a4 a5 a6 a7 a8 a9 a10
                    have HB := Lib.hid hbc
                    clear hbc
                    obtain ⟨a0, a1, a2, a3, a4, a5, a6, a7, a8, a9, a10⟩ := EBox.cells (HX.out wc HB.out)
                    go_step
                    go_cut [3, 49] from 50 to 55 (fun z z2 wx => z = .string S5 ∧ Below W0.heap.size W0 wx)
                    case first =>
                      cases hbb : b4 with
                      | false =>
                        have HE := Lib.hid (F4.out hbb)
                        go_wp2_with fail
                        go_meet
                        case rel => exact ⟨by rw [HE.out], HB.out⟩
                      | true =>
                        have HE := Lib.hid (T4.out hbb)
                        go_wp2_with fail
                        refine (HP4.out _).mono ?_
                        rintro x wp ⟨rfl, hbq⟩
                        have HD := Lib.hid (HB.out.trans (hbq.mono HB.out.size))
                        clear hbq
                        go_wp2_with fail
                        go_meet
                        case rel => exact ⟨congrArg Value.string HE.out, HD.out⟩
                    case rest =>
                      obtain ⟨rfl, hbc⟩ := hcut
                      clear HB a0 a1 a2 a3 a4 a5 a6 a7 a8 a9 a10
                      have HB := Lib.hid hbc
                      clear hbc
                      obtain ⟨a0, a1, a2, a3, a4, a5, a6, a7, a8, a9, a10⟩ := EBox.cells (HX.out wc HB.out)
                      go_upto_region 14 with fail
                      go_cut [3, 58] from 56 to 58 (fun z z2 wx => z = .string S5 ∧ z2 = .bool b5 ∧ Below W0.heap.size W0 wx)
                      case first =>
                        go_wp2_with fail
                        refine (H5.out _).mono ?_
                        rintro x wq ⟨rfl, hbq⟩
                        have HC := Lib.hid (HB.out.trans (hbq.mono HB.out.size))
                        clear hbq
                        go_wp2_with fail
                        go_meet
                        case rel => exact ⟨rfl, rfl, HC.out⟩
                      case rest =>
                        obtain ⟨rfl, rfl, hbc⟩ := hcut
                        clear HB a0 a1 a2 a3 a4 a5 a6 a7 a8 a9 a10
                        have HB := Lib.hid hbc
                        clear hbc
                        obtain ⟨a0, a1, a2, a3, a4, a5, a6, a7, a8, a9, a10⟩ := EBox.cells (HX.out wc HB.out)
                        go_step
                        go_cut [3, 58] from 59 to 64 (fun z z2 wx => z = .string S6 ∧ Below W0.heap.size W0 wx)
                        case first =>
                          cases hbb : b5 with
                          | false =>
                            have HE := Lib.hid (F5.out hbb)
                            go_wp2_with fail
                            go_meet
                            case rel => exact ⟨by rw [HE.out], HB.out⟩
                          | true =>
                            have HE := Lib.hid (T5.out hbb)
                            go_wp2_with fail
                            refine (HP5.out _ HB.out).mono ?_
                            rintro x wp ⟨rfl, hbq⟩
                            have HD := Lib.hid (HB.out.trans (hbq.mono HB.out.size))
                            clear hbq
                            go_wp2_with fail
                            go_meet
                            case rel => exact ⟨congrArg Value.string HE.out, HD.out⟩
                        case rest =>
                          obtain ⟨rfl, hbc⟩ := hcut
                          clear HB a0 a1 a2 a3 a4 a5 a6 a7 a8 a9 a10
                          have HB := Lib.hid hbc
                          clear hbc
                          obtain ⟨a0, a1, a2, a3, a4, a5, a6, a7, a8, a9, a10⟩ := EBox.cells (HX.out wc HB.out)
                          go_wp2_with fail
                          go_ret
                          exact ⟨rfl, HB0.out.trans (HB.out.mono HB0.out.size)⟩

theorem optT_true {b : Bool} (p : List UInt8) (h : b = true) : optT b p = 32 :: p := by subst h; rfl
theorem optT_false {b : Bool} (p : List UInt8) (h : b = false) : optT b p = [] := by subst h; rfl
theorem optT_len (b : Bool) (p : List UInt8) : (optT b p).length ≤ p.length + 1 := by cases b <;> simp [optT]
theorem bs_opt (b : Bool) (a p : List UInt8) : Hid (b = false → bs a = bs (a ++ optT b p)) ∧ Hid (b = true → bs a ++ ⟨#[32]⟩ ++ bs p = bs (a ++ optT b p)) :=
  ⟨Lib.hid fun h => by rw [optT_false p h, List.append_nil], Lib.hid fun h => by rw [optT_true p h, show (⟨#[32]⟩ : ByteArray) = bs [32] from rfl, bs_append, bs_append]; simp⟩
set_option maxHeartbeats 1000000 in
theorem retext_any (e : EV) (hval : e.valid = true) (hf : FieldsOk e) (hfew : e.v.few = true) (lo hi : Nat) (vk vn : Int) (vf : Nat) (vs : ByteArray) (A : Option Addr) (m c : Nat) (w : World) (hv : Rep w lo hi e.v (vCells vk vn vf vs A m c)) (hz : hi ≤ w.heap.size) :
    Calls Tryz.prog 18 #[.agg (evCells e vk vn vf vs A m c)] w fun r w' => r = .returned (.string (etextB e)) ∧ Below w.heap.size w w' := by
  have V := Vf.ve_of hval
  have hfine := Pf.Rep.fine hv
  have hvl := Vf.text_len_few hfine hfew
  have HVA := fun W (hW : Below w.heap.size w W) => Rd.rvalid_all e lo hi vk vn vf vs A m c W (hv.later (hW.mono hz)) (Nat.le_trans hz hW.size)
  obtain ⟨kn, hkn⟩ : ∃ kn : Nat, e.k = kn := ⟨e.k.toNat, by have := V.k1; omega⟩
  obtain ⟨nn, hnn⟩ : ∃ nn : Nat, e.n = nn := ⟨e.n.toNat, by have := V.n1; omega⟩
  have k1 := V.k1; have k2 := V.k2; have n2 := V.n2
  have hkt : e.k.toNat = kn := by omega
  have hit : Lib.itoa e.n = Lib.decDigits nn := by rw [hnn, itoa_pos (by omega)]; rfl
  have hE : etextB e = bs ((nameOf kn).data.toList ++ optT (hasF e 0) (Lib.decDigits e.id) ++ optT (hasF e 1) (Lib.decDigits nn) ++ optT (hasF e 2) (Lib.decDigits e.at') ++ optT (hasF e 3) (stext e.name) ++ optT (hasF e 4) (stext e.text) ++ optT (hasF e 5) (Pf.VT.text e.v)) := by
    unfold etextB etext
    rw [tail_selT, hkt, hit]
    simp only [List.append_assoc]; rfl
  rw [hE]
  have hh : ∀ cc q, (cc, q) ∈ [(105, 0), (110, 1), (97, 2), (115, 3), (116, 4), (118, 5)] → Hid (∀ W, Calls Tryz.prog 44 #[.int .i64 (kn : Nat), .int .u8 (cc : Nat)] W fun r w' => r = .returned (.bool (hasF e q)) ∧ Below W.heap.size W w') := fun cc q hq => Lib.hid fun W => by
    unfold hasF; rw [hkt]; exact has_field kn (by omega) (by omega) cc q hq W
  unfold evCells at HVA ⊢
  rw [hkn, hnn, hval] at HVA
  rw [hkn, hnn]
  have ln := Vf.name_len kn
  have d0 := Vf.dec_len e.id hf.i1; have d1 := Vf.dec_len nn (by omega); have d2 := Vf.dec_len e.at' hf.a1
  have d3 := Vf.stext_len e.name; have d4 := Vf.stext_len e.text
  have s1 := V.s1; have s2 := V.t1
  have o0 := optT_len (hasF e 0) (Lib.decDigits e.id); have o1 := optT_len (hasF e 1) (Lib.decDigits nn); have o2 := optT_len (hasF e 2) (Lib.decDigits e.at'); have o3 := optT_len (hasF e 3) (stext e.name); have o4 := optT_len (hasF e 4) (stext e.text)
  refine retext_walk kn e.id nn e.at' e.name e.text (by omega) vk vn vf vs A m c (hasF e 0) (hasF e 1) (hasF e 2) (hasF e 3) (hasF e 4) (hasF e 5) (bs (nameOf kn).data.toList) (bs _) (bs _) (bs _) (bs _) (bs _) (bs _) (bs (Lib.decDigits e.id)) (bs (Lib.decDigits nn)) (bs (Lib.decDigits e.at')) (bs (stext e.name)) (bs (stext e.text)) (bs (Pf.VT.text e.v)) w
    ?_ ?_ ?_ ?_ ?_ ?_ ?_ ?_ ?_ ?_ ?_ ?_ (bs_opt _ _ _).1 (bs_opt _ _ _).2 (bs_opt _ _ _).1 (bs_opt _ _ _).2 (bs_opt _ _ _).1 (bs_opt _ _ _).2 (bs_opt _ _ _).1 (bs_opt _ _ _).2 (bs_opt _ _ _).1 (bs_opt _ _ _).2 (bs_opt _ _ _).1 (bs_opt _ _ _).2
    (hh 105 0 (by simp)) (hh 110 1 (by simp)) (hh 97 2 (by simp)) (hh 115 3 (by simp)) (hh 116 4 (by simp)) (hh 118 5 (by simp)) (Lib.hid fun W => by rw [bs_list]; exact rname_any kn (by omega) (by omega) W)
    (Lib.hid fun W => runsigned_any e.id hf.i1 W) (Lib.hid fun W => runsigned_any nn (by omega) W) (Lib.hid fun W => runsigned_any e.at' hf.a1 W) (Lib.hid fun W => rquoted_any e.name s1 W) (Lib.hid fun W => rquoted_any e.text s2 W)
    (fun W hW => rvtext_any e.v (by omega) (Vf.slim_up (Vt.slim_of_few e.v hfew)) lo hi _ W (hv.later (hW.mono hz)) (Nat.le_trans hz hW.size) V.v1) HVA
  all_goals (rw [bs_size]; try simp only [List.length_append]); omega

end Rg
end Go.Proofs.YtcbddebmmaflgaaGreatDoor
namespace Go.Proofs.YtcbddebmmaflgaaGreatDoor
open Go.RowKit Go.Shelf
set_option linter.unusedVariables false
set_option linter.unusedSimpArgs false
namespace Bs
open _root_.Go.Proofs.YtcbddebmmaflgaaGreatDoor.Nm (bitsW ret_int ret_bool)
open Vt (VT Rep BoxAt below_drew)
open Ev (EV FieldsOk evCells vCells EBox ERep take_drop tk cons_drop)
open Cm (EvsIn)
open Cn (BB bvalid bvalid_any box_ev)
open Bt (SOwn)
open Pf (stext)
open Vf (TB sown_nil sown_lt quoted_any)

def strB (l : List UInt8) : ByteArray := ⟨l.toArray⟩
/-- The texts of events, as contracts. -/
def EvTexts (es : List EV) (ts : List (List UInt8)) : Prop := ts.length = es.length ∧ ∀ i (h : i < es.length) (h' : i < ts.length) (lo hi : Nat) (vk vn : Int) (vf : Nat) (vs : ByteArray) (A : Option Addr) (m c : Nat) (w : World), FieldsOk es[i] → Rep w lo hi es[i].v (vCells vk vn vf vs A m c) → hi ≤ w.heap.size → TB w →
  Calls Tryz.prog 17 #[.agg (evCells es[i] vk vn vf vs A m c)] w fun r w' => r = .returned (.string (strB ts[i])) ∧ Below w.heap.size w w'

/-- Strings onto a row. -/
theorem run_append_strs {W : World} {base : Nat} (ty : TypeId) {v : Value} {l l2 : List ByteArray} (a : Addr) (c : Nat) (hx : ∀ j x, l2[j]? = some x → W.cell? (a.add j) = some (.string x)) (hown : SOwn W base v l) (hlen : l.length + l2.length ≤ 4194304) (hbase : base ≤ W.heap.size) :
    ∃ v' W', (Builtin.append_ #[93, 93] ty #[v, .slice (some a) l2.length c]).run Tryz.prog W = .ok v' W' ∧ SOwn W' base v' (l ++ l2) ∧ W.grownBy W' v.ownBlock := by
  obtain ⟨i0, hi, hz0, hz1, hz2⟩ := info_parts Bt.Tryz.infoS
  obtain ⟨v', W', hr, ho, hg, -, -⟩ := run_append_own_at (P := Tryz.prog) W base 93 ty 9 i0 (.string ⟨#[]⟩) 1 16 Tryz.underlying93 hi hz0 hz1 hz2 rfl (by decide) v l.length _ hown a l2.length c (l2.map Value.string) (by simp) (fun j u hu => by
    rw [List.getElem?_map] at hu
    obtain ⟨x, hx1, rfl⟩ := Option.map_eq_some_iff.1 hu
    exact hx j x hx1) (by intro u hu; obtain ⟨x, -, rfl⟩ := List.mem_map.1 hu; rfl) (by simp only [maxLen]; omega) (by omega) hbase
  refine ⟨v', W', hr, ?_, hg⟩
  unfold SOwn
  rw [List.length_append, List.map_append]
  exact ho
theorem wpList_append_strs {ops : Array Oper} {rest : List Oper} {o : Oper} {a : Act} {Q : Exit → Act → World → Prop} (W : World) (hgd : o.guard = none) (s y : Operand)
    (ho : o.op = .call { callee := .builtin .append, args := #[s, y], argTypes := #[93, 93] }) (base : Nat) (v : Value) (ad : Addr) (c : Nat) (l l2 : List ByteArray) (n : Nat) (hn : n = l2.length) (hv : a.eval s = v) (hy : a.eval y = .slice (some ad) n c) (hx : ∀ j x, l2[j]? = some x → W.cell? (ad.add j) = some (.string x)) (hown : SOwn W base v l) (hlen : l.length + l2.length ≤ 4194304) (hbase : base ≤ W.heap.size)
    (h : ∀ v' W', SOwn W' base v' (l ++ l2) → W.grownBy W' v.ownBlock → Below base W W' → wpList Tryz.prog ops Q rest (a.put o.dst v') W') : wpList Tryz.prog ops Q (o :: rest) a W := by
  subst hn
  obtain ⟨v', W', hr, h1, h2⟩ := run_append_strs o.type ad c hx hown hlen hbase
  exact Lib.wpList_append_run W hgd s y _ _ ho v _ hv hy v' W' hr (h v' W' h1 h2 ((Below.refl base W).grown h2 hbase hown.row_ge))
/-- The strings of a row, by their places. -/
theorem SOwn.at_ {w : World} {base : Nat} {v : Value} {l : List ByteArray} (h : SOwn w base v l) (h0 : l ≠ []) : ∃ g cap, v = .slice (some ⟨g, 0, none⟩) l.length cap ∧ base ≤ g ∧ g < w.heap.size ∧ l.length ≤ cap ∧ ∀ j x, l[j]? = some x → w.cell? ((⟨g, 0, none⟩ : Addr).add j) = some (.string x) := by
  rcases h.2 with ⟨h1, h2⟩ | ⟨g, cap, cur, rfl, q2, q3, q4, q5, q6, q7⟩
  · exact absurd (List.eq_nil_of_length_eq_zero h2) h0
  · refine ⟨g, cap, rfl, q2, (Array.getElem?_eq_some_iff.1 q3).1, q4, fun j x hj => ?_⟩
    have hlt := (List.getElem?_eq_some_iff.1 hj).1
    have hc : cur[j]? = some (.string x) := by
      have h3 : (l.map Value.string)[j]? = some (.string x) := by rw [List.getElem?_map, hj]; rfl
      rw [← q7, List.getElem?_take_of_lt (by omega)] at h3
      rw [← Array.getElem?_toList]; exact h3
    have e : (⟨g, 0, none⟩ : Addr).add j = ⟨g, j, none⟩ := by by_cases h : j = 0 <;> simp [Addr.add, h]
    rw [e]
    simp [World.cell?, q3, hc]
/-- Strings joined by whatever. -/
theorem join_sep (sep : ByteArray) (l : List ByteArray) (v : Value) (base : Nat) (w : World) (hown : SOwn w base v l) (h0 : l ≠ []) (hn : l.length ≤ 4194304) (hlen : (Lib.join (l.map (·.data.toList)) sep.data.toList).length ≤ 140737488355328) :
    Calls Tryz.prog 61 #[v, .string sep] w fun e w' => e = .returned (.string ⟨(Lib.join (l.map (·.data.toList)) sep.data.toList).toArray⟩) ∧ Below w.heap.size w w' := by
  obtain ⟨g, cap, rfl, -, h2, h3, h4⟩ := SOwn.at_ hown h0
  exact Any.strings_Join Tryz.laysJoin Tryz.extraJoin g 0 cap l sep w (fun j x hj => by have := h4 j x hj; rw [show (⟨g, 0, none⟩ : Addr).add j = ⟨g, 0 + j, none⟩ from by by_cases h : j = 0 <;> simp [Addr.add, h]] at this; exact this) h2 (by omega) h3 hlen

set_option maxRecDepth 100000 in
set_option maxHeartbeats 2000000 in
theorem mappeds_any (es : List EV) (hl2 : es.length ≤ 2097152) (ts : List (List UInt8)) (hET : EvTexts es ts) (A : Option Addr) (cap : Nat) (w : World) (h : EvsIn w A cap es) (ht : TB w) :
    Calls Tryz.prog 74 #[.slice A es.length cap, .func (.func 17) #[] #[]] w fun r w' => ∃ A2 cap2, r = .returned (.slice A2 es.length cap2) ∧ Below w.heap.size w w' ∧ SOwn w' w.heap.size (.slice A2 es.length cap2) (ts.map strB) := by
  have hl := h.le
  have hc := h.cap_le
  simp only [maxLen] at hc
  have HK := Lib.hid h; clear h
  have hbl := hET.1
  have HE := Lib.hid hET.2
  have HTB := Lib.hid ht
  clear hET ht
  go_enter Tryz.func74, Tryz.ntmps74
  go_wp2_with fail
  go_loopw [5, 10] (fun out i wr => ∃ (j : Nat) (A2 : Option Addr) (cap2 : Nat), j ≤ es.length ∧ i = .int .i64 j ∧ out = .slice A2 j cap2 ∧ SOwn wr w.heap.size (.slice A2 j cap2) ((ts.take j).map strB) ∧ Below w.heap.size w wr) (fun _ i _ => es.length - (intOf i).toNat)
  case atStart => exact ⟨0, none, 0, by omega, rfl, rfl, by simpa using sown_nil w w.heap.size, Below.refl _ _⟩
  case round =>
    obtain ⟨j, A2, cap2, hj, rfl, rfl, hrow, hb⟩ := hrel
    by_cases hlt : j < es.length
    · obtain ⟨b, off, lo, hi, vk, vn, vf, vs, A', m, c, rfl, hbl', hf, hv0, hhi0, e0, e1, e2, e3, e4, e5, e6, e7, e8, e9, e10⟩ := HK.out.get j hlt
      have HB := Lib.hid hb
      have hbs := hb.size
      have hcw : ∀ o, wr.cell? ⟨b, o, none⟩ = w.cell? ⟨b, o, none⟩ := fun o => HB.out.cell (p := ⟨b, o, none⟩) hbl'
      have d0 := (hcw _).trans e0; have d1 := (hcw _).trans e1; have d2 := (hcw _).trans e2; have d3 := (hcw _).trans e3; have d4 := (hcw _).trans e4; have d5 := (hcw _).trans e5; have d6 := (hcw _).trans e6; have d7 := (hcw _).trans e7; have d8 := (hcw _).trans e8; have d9 := (hcw _).trans e9; have d10 := (hcw _).trans e10
      have hv := hv0.later (HB.out.mono hhi0)
      have hhi : hi ≤ wr.heap.size := Nat.le_trans hhi0 hbs
      clear e0 e1 e2 e3 e4 e5 e6 e7 e8 e9 e10 hcw hv0 hb
      obtain ⟨W1, hW1⟩ : ∃ W1, W1 = wr.alloc (.cells (evCells es[j] vk vn vf vs A' m c) 32) := ⟨_, rfl⟩
      have hb1 : Below wr.heap.size wr W1 := by rw [hW1]; exact (Below.refl _ _).alloc (Nat.le_refl _) _
      have hx1 : EBox W1 wr.heap.size (evCells es[j] vk vn vf vs A' m c) := by rw [hW1]; exact box_ev ..
      obtain ⟨g0, g1, g2, g3, g4, g5, g6, g7, g8, g9, g10⟩ := EBox.cells hx1
      have hjb : j < ts.length := by omega
      have HC := Lib.hid (HE.out j hlt hjb lo hi vk vn vf vs A' m c W1 hf (hv.later (hb1.mono hhi)) (Nat.le_trans hhi hb1.size) (HTB.out.later (HB.out.trans (hb1.mono HB.out.size))))
      have HB1 := Lib.hid (HB.out.trans (hb1.mono HB.out.size))
      have HO1 := Lib.hid (hrow.later hb1)
      have HJ : Hid (((ts.take j).map strB).length = j) := Lib.hid (by rw [List.length_map, List.length_take]; omega)
      obtain ⟨tx, htx⟩ : ∃ tx, tx = strB ts[j] := ⟨_, rfl⟩
      rw [← htx] at HC
      have HTX := Lib.hid htx
      unfold evCells at HC hW1
      replace hW1 := Lib.hid hW1
      clear hf hv hx1 hb1 hrow htx
      go_upto_region 5 with fail
      rw [← hW1.out]
      clear d0 d1 d2 d3 d4 d5 d6 d7 d8 d9 d10
      go_wp2_with fail
      refine HC.out.mono ?_
      rintro x w2 ⟨rfl, hb2⟩
      obtain ⟨W4, hW4⟩ : ∃ W4, W4 = w2.alloc (.cells #[.string tx] 9) := ⟨_, rfl⟩
      have hb4 : Below w2.heap.size w2 W4 := by rw [hW4]; exact (Below.refl _ _).alloc (Nat.le_refl _) _
      have hcell : W4.cell? ⟨w2.heap.size, 0, none⟩ = some (.string tx) := by rw [hW4]; have e := heap_alloc_new w2 (.cells #[.string tx] 9); simp only [World.cell?, e]; rfl
      have HCE : Hid (∀ (k : Nat) x, [tx][k]? = some x → W4.cell? ((⟨w2.heap.size, 0, none⟩ : Addr).add k) = some (.string x)) := Lib.hid fun k x hx => by
        rcases k with _ | k
        · have e : tx = x := by simpa using hx
          rw [← e]; exact hcell
        · simp at hx
      have HO4 := Lib.hid ((HO1.out.later hb2).later hb4)
      have HB4 := Lib.hid ((HB1.out.trans (hb2.mono HB1.out.size)).trans (hb4.mono (Nat.le_trans HB1.out.size hb2.size)))
      clear hb2 hb4 hcell g0 g1 g2 g3 g4 g5 g6 g7 g8 g9 g10
      replace hW4 := Lib.hid hW4
      go_wp2_with (at_builtin; rw [← hW4.out]; refine wpList_append_strs _ rfl _ _ rfl w.heap.size _ ⟨w2.heap.size, 0, none⟩ 1 _ [tx] 1 rfl rfl rfl HCE.out HO4.out (by rw [HJ.out]; simp only [List.length_singleton]; omega) HB4.out.size ?_; intro v5 w5 hown5 hg5 hb5; have HO5 := Lib.hid hown5; have HB5 := Lib.hid (HB4.out.trans hb5); clear hown5 hg5 hb5)
      have hz5 : (((ts.take j).map strB) ++ [tx]).length = j + 1 := by rw [List.length_append, HJ.out]; rfl
      obtain ⟨A5, cap5, rfl⟩ : ∃ A5 cap5, v5 = .slice A5 (j + 1) cap5 := by
        rcases HO5.out.2 with ⟨-, h2⟩ | ⟨g, cp, cur, q1, -⟩
        · omega
        · exact ⟨_, _, by rw [q1, hz5]⟩
      have HO6 : Hid (SOwn w5 w.heap.size (.slice A5 (j + 1) cap5) ((ts.take (j + 1)).map strB)) := Lib.hid (by
        have := HO5.out
        rw [HTX.out] at this
        rw [List.take_succ_eq_append_getElem hjb, List.map_append]
        exact this)
      clear HO5 hz5
      go_wp2_with fail
      exact ⟨⟨j + 1, A5, cap5, by omega, by go_num, rfl, HO6.out, HB5.out⟩, by simp [intOf]; omega⟩
    · have hj' : j = es.length := by omega
      subst hj'
      rw [List.take_of_length_le (by omega)] at hrow
      have HE := Lib.hid hrow; have HB := Lib.hid hb
      clear hrow hb
      go_wp2_with fail
      go_ret
      exact ⟨A2, cap2, rfl, HB.out, HE.out⟩

/-- The text of a batch. -/
def bfront (f : ByteArray) (at' : Nat) : List UInt8 := stext f ++ (32 :: Lib.decDigits at')
def btext (f : ByteArray) (at' : Nat) (ts : List (List UInt8)) : List UInt8 := Lib.join (bfront f at' :: ts) [59, 32]

set_option maxRecDepth 100000 in
set_option maxHeartbeats 2000000 in
theorem btextb_any (es : List EV) (hl2 : es.length ≤ 2097152) (ts : List (List UInt8)) (hET : EvTexts es ts) (f : ByteArray) (at' : Nat) (hat : at' < 18446744073709551616) (hlen : (btext f at' ts).length ≤ 140737488355328) (A : Option Addr) (cap : Nat) (w : World) (h : EvsIn w A cap es) (hval : bvalid f at' es = true) (ht : TB w) :
    Calls Tryz.prog 25 #[.agg #[.string f, .int .u64 at', .slice A es.length cap]] w fun r w' => r = .returned (.string (strB (btext f at' ts))) ∧ Below w.heap.size w w' := by
  have hfz : f.size ≤ 1000 := by
    unfold bvalid at hval
    simp only [Bool.and_eq_true, decide_eq_true_iff] at hval
    exact hval.1.1.1.2
  have h0 : 0 < es.length := by
    unfold bvalid at hval
    simp only [Bool.and_eq_true, decide_eq_true_iff] at hval
    exact hval.1.2
  obtain ⟨W0, hW0⟩ : ∃ W0, W0 = w.alloc (.cells #[.string f, .int .u64 at', .slice A es.length cap] 49) := ⟨_, rfl⟩
  have hx0 : BB W0 w.heap.size f at' A es.length cap := by rw [hW0]; exact heap_alloc_new w _
  have hb0 : Below w.heap.size w W0 := by rw [hW0]; exact (Below.refl _ _).alloc (Nat.le_refl _) _
  have hz0 : W0.heap.size = w.heap.size + 1 := by rw [hW0]; simp
  have HV := Lib.hid (bvalid_any es f (by simp only [maxLen]; omega) at' hat A cap W0 (h.later hb0))
  rw [hval] at HV
  have HM := Lib.hid fun W (hW : Below W0.heap.size W0 W) => mappeds_any es hl2 ts hET A cap W ((h.later hb0).later hW) ((ht.later hb0).later hW)
  have hbl := hET.1
  obtain ⟨c0, c1, c2, -⟩ := hx0.cells
  have HX0 := Lib.hid hx0; have HBW := Lib.hid hb0
  have HTB0 := Lib.hid (ht.later hb0)
  obtain ⟨xf, hxf⟩ : ∃ xf : ByteArray, xf = strB (stext f) := ⟨_, rfl⟩
  obtain ⟨xa, hxa⟩ : ∃ xa : ByteArray, xa = strB (Lib.decDigits at') := ⟨_, rfl⟩
  have hsf : xf.size ≤ 3000 := by rw [hxf]; show (stext f).length ≤ 3000; rw [Vf.stext_len]; omega
  have hsa : xa.size ≤ 30 := by rw [hxa]; show (Lib.decDigits at').length ≤ 30; have := Vf.dec_len at' hat; omega
  have HXF := Lib.hid hxf; have HXA := Lib.hid hxa
  have HLEN := Lib.hid hlen
  clear hx0 hb0 hval h ht hET hxf hxa hlen
  replace hW0 := Lib.hid hW0
  go_enter Tryz.func25, Tryz.ntmps25
  go_upto_region 1 with fail
  rw [← hW0.out]
  go_wp2_with fail
  refine HV.out.mono ?_
  rintro x w1 ⟨rfl, hb1⟩
  have HB1 := Lib.hid hb1
  clear hb1 c0 c1 c2
  have KS : Hid (∀ W' : World, Below w1.heap.size w1 W' → (W'.cell? ⟨w.heap.size, 0, none⟩ = some (.string f) ∧ W'.cell? ⟨w.heap.size, 1, none⟩ = some (.int .u64 at') ∧ W'.cell? ⟨w.heap.size, 2, none⟩ = some (.slice A es.length cap))) := Lib.hid fun W' hW => by
    obtain ⟨c0, c1, c2, -⟩ := (HX0.out.later (HB1.out.trans (hW.mono HB1.out.size)) (by omega)).cells
    exact ⟨c0, c1, c2⟩
  have HQ : Hid (∀ W, Below w1.heap.size w1 W → Calls Tryz.prog 60 #[.agg #[.int .i64 3, .int .i64 0, .float .f64 0, .string f, .slice none 0 0]] W fun e w' => e = .returned (.string (strB (stext f))) ∧ Below W.heap.size W w') := Lib.hid fun W hW => by
    have h := Vf.vtext_any (.mk 3 0 0 f []) (by rw [Vf.text_of, Vf.stext_len]; omega) (Vf.text_slim f (by omega)) 0 0 3 0 0 f none 0 0 W (Rep.leaf ⟨by omega, by omega, by omega, by omega, by omega, by simp only [maxLen]; omega, by decide⟩) (Nat.zero_le _) (Vf.text_valid f) ((HTB0.out.later HB1.out).later hW)
    unfold Vf.textB at h
    rw [Vf.text_of] at h
    exact h
  have HN : Hid (∀ W, Below w1.heap.size w1 W → Calls Tryz.prog 57 #[.int .u64 at', .int .i64 10] W fun e w' => e = .returned (.string (strB (Lib.decDigits at'))) ∧ Below W.heap.size W w') := Lib.hid fun W hW => Fu.fmtu_any at' hat W ((HTB0.out.later HB1.out).later hW).pow
  have hk1 : ¬ (9223372036854775807 < xf.size + 1) := by omega
  have hk2 : ¬ (9223372036854775807 < xf.size + 1 + xa.size) := by omega
  go_upto_region 3 with fail
  refine wp_region_noPanic ?_
  refine wp_region_held_drew (S := (fun W' : World => W'.cell? ⟨w.heap.size, 0, none⟩ = some (.string f) ∧ W'.cell? ⟨w.heap.size, 1, none⟩ = some (.int .u64 at') ∧ W'.cell? ⟨w.heap.size, 2, none⟩ = some (.slice A es.length cap))) (by kernel_rfl) ?_ (fun hHeld => ?_)
  · exact KS.out _ (below_drew (Below.refl _ _))
  refine tk (i := 0) rfl ?_
  try simp only [Act.put, List.setIfInBounds_toArray, List.set_cons_zero, List.set_cons_succ]
  refine tk (i := 1) rfl ?_
  try simp only [Act.put, List.setIfInBounds_toArray, List.set_cons_zero, List.set_cons_succ]
  refine tk (i := 2) rfl ?_
  try simp only [Act.put, List.setIfInBounds_toArray, List.set_cons_zero, List.set_cons_succ]
  refine tk (i := 5) rfl ?_
  try simp only [Act.put, List.setIfInBounds_toArray, List.set_cons_zero, List.set_cons_succ]
  refine tk (i := 6) rfl ?_
  try simp only [Act.put, List.setIfInBounds_toArray, List.set_cons_zero, List.set_cons_succ]
  refine wpAnyH_ready (rs := [3]) (by kernel_rfl) (by simp) ?_
  refine cons_drop rfl (fun K hK => ?_) AllReadyH.nil
  go_simp
  refine (HQ.out _ (below_drew (Below.refl _ _))).mono ?_
  rintro e w2 ⟨rfl, hb2⟩
  have HB2 : Hid (Below w1.heap.size w1 w2) := Lib.hid ((below_drew (Below.refl _ _)).trans hb2)
  clear hb2
  rw [← HXF.out]
  go_wp2_with fail
  refine hK.out _ _ (KS.out _ HB2.out) (fun hHeld2 => ?_)
  clear hK K hHeld
  try simp only [Act.put, List.setIfInBounds_toArray, List.set_cons_zero, List.set_cons_succ]
  refine tk (i := 4) rfl ?_
  try simp only [Act.put, List.setIfInBounds_toArray, List.set_cons_zero, List.set_cons_succ]
  refine wpAnyH_ready (rs := [7]) (by kernel_rfl) (by simp) ?_
  refine cons_drop rfl (fun K hK => ?_) AllReadyH.nil
  go_simp
  refine (HN.out _ HB2.out).mono ?_
  rintro e w3 ⟨rfl, hb2⟩
  have HB3 : Hid (Below w1.heap.size w1 w3) := Lib.hid (HB2.out.trans (hb2.mono HB2.out.size))
  clear hb2
  rw [← HXA.out]
  go_wp2_with fail
  refine hK.out _ _ (KS.out _ HB3.out) (fun hHeld3 => ?_)
  clear hK K hHeld2
  try simp only [Act.put, List.setIfInBounds_toArray, List.set_cons_zero, List.set_cons_succ]
  refine tk (i := 8) rfl ?_
  try simp only [Act.put, List.setIfInBounds_toArray, List.set_cons_zero, List.set_cons_succ]
  refine tk (i := 9) rfl ?_
  try simp only [Act.put, List.setIfInBounds_toArray, List.set_cons_zero, List.set_cons_succ]
  refine wpAnyH_done (by kernel_rfl) ?_ _
  refine NoPanic.normal ?_
  obtain ⟨k0, k1, k2⟩ := KS.out _ HB3.out
  obtain ⟨fr, hfr⟩ : ∃ fr : ByteArray, fr = xf ++ ⟨#[32]⟩ ++ xa := ⟨_, rfl⟩
  have HFR : Hid (fr = strB (bfront f at')) := Lib.hid (by
    rw [hfr, HXF.out, HXA.out]
    apply Fu.bytes_ext
    simp [strB, bfront])
  rw [← hfr]
  clear hfr
  obtain ⟨W4, hW4⟩ : ∃ W4, W4 = w3.alloc (.cells #[.string fr] 9) := ⟨_, rfl⟩
  have hb4 : Below w3.heap.size w3 W4 := by rw [hW4]; exact (Below.refl _ _).alloc (Nat.le_refl _) _
  have HB4 := Lib.hid (HB3.out.trans (hb4.mono HB3.out.size))
  have HZ4 := Lib.hid hb4.size
  have hblk : W4.heap[w3.heap.size]? = some (.cells #[.string fr] 9 (0, 0)) := by rw [hW4]; exact heap_alloc_new w3 _
  have HO4 : Hid (SOwn W4 w3.heap.size (.slice (some ⟨w3.heap.size, 0, none⟩) 1 1) [fr]) := Lib.hid ⟨rfl, .inr ⟨w3.heap.size, 1, #[.string fr], rfl, Nat.le_refl _, hblk, by simp, by simp only [maxLen]; omega, rfl, rfl⟩⟩
  replace hW4 := Lib.hid hW4
  obtain ⟨l0, l1, l2⟩ := KS.out _ HB4.out
  have hzw : w.heap.size < w3.heap.size := by have := HB1.out.size; have := HB3.out.size; omega
  clear hb4 hblk k0 k1 l0 l1 l2
  have hn5 : (ts.map strB).length = es.length := by rw [List.length_map, hbl]
  have hne5 : ts.map strB ≠ [] := fun e => by rw [e] at hn5; simp at hn5; omega
  have HN5 := Lib.hid hn5; have HE5 := Lib.hid hne5
  have e9 : (fr :: ts.map strB).map (·.data.toList) = bfront f at' :: ts := by
    rw [List.map_cons, List.map_map, HFR.out]
    congr 1
    have : ((fun x : ByteArray => x.data.toList) ∘ strB) = id := by funext x; simp [strB]
    rw [this, List.map_id]
  have HJ9 : Hid ((Lib.join ((fr :: ts.map strB).map (·.data.toList)) (⟨#[59, 32]⟩ : ByteArray).data.toList) = btext f at' ts) := Lib.hid (by rw [e9]; rfl)
  clear hn5 hne5 e9
  go_wp2_with (first | (go_at_call 74; rw [← hW4.out]; refine (HM.out _ (HB1.out.trans (HB4.out.mono HB1.out.size))).mono ?_; rintro x w5 ⟨A2, cap2, rfl, hb5, hown5⟩; obtain ⟨g5, c5, e5, hg5, hl5, -, hx5⟩ := SOwn.at_ hown5 HE5.out; rw [HN5.out] at e5; injection e5 with e5 _ e6; subst e5 e6; have HB5 := Lib.hid (HB4.out.trans (hb5.mono HB4.out.size)); have HZ5 := Lib.hid (Nat.le_trans HZ4.out hb5.size); have HX5 : Hid (∀ j x, (ts.map strB)[j]? = some x → w5.cell? ((⟨g5, 0, none⟩ : Addr).add j) = some (.string x)) := Lib.hid hx5; have HO4b := Lib.hid (HO4.out.later hb5); clear hb5 hown5 hx5 hg5 hl5) | (at_builtin; go_loud (refine wpList_append_strs _ rfl _ _ rfl w3.heap.size _ ⟨g5, 0, none⟩ _ [fr] (ts.map strB) es.length HN5.out.symm rfl rfl HX5.out HO4b.out (by rw [HN5.out]; simp only [List.length_singleton]; omega) HZ5.out ?_; intro v6 w6 hown6 hg6 hb6; have HO6 := Lib.hid hown6; have HB6 := Lib.hid (hb6); clear hown6 hg6 hb6)))
  have HJC := join_sep ⟨#[59, 32]⟩ (fr :: ts.map strB) v6 w3.heap.size w6 HO6.out (by simp) (by rw [List.length_cons, HN5.out]; omega) (by rw [HJ9.out]; exact HLEN.out)
  rw [HJ9.out] at HJC
  change Calls Tryz.prog _ _ _ fun e w' => e = .returned (.string (strB (btext f at' ts))) ∧ _ at HJC
  obtain ⟨tx, htx⟩ : ∃ tx, tx = strB (btext f at' ts) := ⟨_, rfl⟩
  rw [← htx] at HJC
  have HTX := Lib.hid htx
  clear htx
  refine HJC.mono ?_
  rintro x w7 ⟨rfl, hb7⟩
  have HB7 := Lib.hid hb7
  clear hb7
  go_wp2_with fail
  go_ret
  have H6 := HB5.out.trans (HB6.out.mono HB3.out.size)
  have H7 := H6.trans (HB7.out.mono H6.size)
  exact ⟨congrArg (fun b => Ending.returned (Value.string b)) HTX.out, HBW.out.trans ((HB1.out.trans (H7.mono HB1.out.size)).mono HBW.out.size)⟩
end Bs
end Go.Proofs.YtcbddebmmaflgaaGreatDoor
namespace Go.Proofs.YtcbddebmmaflgaaGreatDoor
open Go.RowKit
set_option linter.unusedVariables false
set_option linter.unusedSimpArgs false
namespace Bs
open Vt (VT Rep)
open Ev (EV FieldsOk)
open Cm (EvsIn evsSame evSame)
open Cn (bform bvalid wrongE)
open Bt (ubytes sb)
open Pf (sform stext)
open Vf (VE ve_of eform etext)

def btextB (f : ByteArray) (a : Nat) (es : List EV) : ByteArray := strB (btext f a (es.map etext))
end Bs
end Go.Proofs.YtcbddebmmaflgaaGreatDoor
namespace Go.Proofs.YtcbddebmmaflgaaGreatDoor
open Go.RowKit
set_option linter.unusedVariables false
set_option linter.unusedSimpArgs false
namespace Vf
open _root_.Go.Proofs.YtcbddebmmaflgaaGreatDoor.Nm (bitsW ret_int ret_bool)
open Vt (VT Rep BoxAt below_drew KidsAt HeadOk)
open Ev (EV FieldsOk evCells vCells EBox ERep zeroT take_drop tk cons_drop nameOf fieldsOf of_in evalid_any)
open Cm (evsSame evSame rsev_any)
open Bt (BOwn BIn PIn ubytes sb bv)

end Vf
end Go.Proofs.YtcbddebmmaflgaaGreatDoor
namespace Go.Proofs.YtcbddebmmaflgaaGreatDoor
open Go.RowKit
set_option linter.unusedVariables false
set_option linter.unusedSimpArgs false
namespace Vf
open Vt (VT Rep)
open Ev (EV FieldsOk evCells vCells)
open Go.ChangeShapes Go.WideShapes Go.ChangeAt Go.Joins Go.Deep

theorem eleven (cs : List Value) (h : cs.length = 11) : ∃ a b c d e f g i j k l, cs = [a, b, c, d, e, f, g, i, j, k, l] := by
  match cs, h with
  | [a, b, c, d, e, f, g, i, j, k, l], _ => exact ⟨a, b, c, d, e, f, g, i, j, k, l, rfl⟩
set_option maxRecDepth 100000 in
theorem open_ev {H : Type} {enc : TypeId × Value → H} {W : World} {base : Nat} {spare : Nat → Bool} {held : Bool} (fuel : Nat) (cs : List Value) (x : DataW H × List MemPlace)
    (h : DataW.trod enc Tryz.prog W base spare held fuel 32 cs = some x) : ∃ (e : EV) (vk vn : Int) (vf : Nat) (vs : ByteArray) (A' : Option Addr) (m c : Nat), FieldsOk e ∧ Rep W base W.heap.size e.v (vCells vk vn vf vs A' m c) ∧ cs = (evCells e vk vn vf vs A' m c).toList := by
  have hC : Tryz.prog.cellsOf 32 = 11 := by kernel_rfl
  obtain ⟨xs, n, hn, hx, hlen, hxl, hg⟩ := DataW.trod_struct Tryz.underlying32 h
  obtain ⟨c0, c1, c2, c3, c4, c5, c6, c7, c8, c9, c10, rfl⟩ := eleven cs (hlen.trans hC)
  have hx : ∀ j : Nat, j < 7 → ∃ y, xs[j]? = some y := fun j hj => ⟨_, List.getElem?_eq_getElem (by rw [hxl]; exact hj)⟩
  obtain ⟨y0, z0⟩ := hx 0 (by omega); obtain ⟨y1, z1⟩ := hx 1 (by omega); obtain ⟨y2, z2⟩ := hx 2 (by omega); obtain ⟨y3, z3⟩ := hx 3 (by omega); obtain ⟨y4, z4⟩ := hx 4 (by omega); obtain ⟨y5, z5⟩ := hx 5 (by omega); obtain ⟨y6, z6⟩ := hx 6 (by omega)
  have g0 := (hg 0 _ rfl).trans z0; have g1 := (hg 1 _ rfl).trans z1; have g2 := (hg 2 _ rfl).trans z2; have g3 := (hg 3 _ rfl).trans z3; have g4 := (hg 4 _ rfl).trans z4; have g5 := (hg 5 _ rfl).trans z5; have g6 := (hg 6 _ rfl).trans z6
  have k1 : Tryz.prog.cellsOf 3 = 1 := by kernel_rfl
  have k2 : Tryz.prog.cellsOf 9 = 1 := by kernel_rfl
  have k3 : Tryz.prog.cellsOf 30 = 5 := by kernel_rfl
  have k4 : Tryz.prog.cellsOf 26 = 1 := by kernel_rfl
  simp [k1, k2, k3, k4] at g0 g1 g2 g3 g4 g5 g6
  obtain ⟨k, e0, -, w0⟩ := DataW.trod_int Tryz.underlying3 g0
  obtain ⟨id, e1, -, w1⟩ := DataW.trod_int Tryz.underlying26 g1
  obtain ⟨n2, e2, -, w2⟩ := DataW.trod_int Tryz.underlying3 g2
  obtain ⟨at', e3, -, w3⟩ := DataW.trod_int Tryz.underlying26 g3
  obtain ⟨nm, e4, -, w4⟩ := DataW.trod_string Tryz.underlying9 g4
  obtain ⟨tx, e5, -, w5⟩ := DataW.trod_string Tryz.underlying9 g5
  obtain ⟨t, ht⟩ := Vt.open_vt _ _ _ g6
  obtain rfl := List.singleton_inj.1 e0
  obtain rfl := List.singleton_inj.1 e1
  obtain rfl := List.singleton_inj.1 e2
  obtain rfl := List.singleton_inj.1 e3
  obtain rfl := List.singleton_inj.1 e4
  obtain rfl := List.singleton_inj.1 e5
  simp [Lit.wf, IntKind.min, IntKind.max, IntKind.bits, IntKind.signed] at w0 w1 w2 w3
  obtain ⟨vk, vn, vf, vs, l, A', cap, -, hv, -⟩ := ht.open_
  rw [hv] at ht
  injection hv with hv
  simp at hv
  obtain ⟨rfl, rfl, rfl, rfl, rfl⟩ := hv
  obtain ⟨mid, hmid⟩ : ∃ mn : Nat, id = mn := ⟨id.toNat, by omega⟩
  obtain ⟨mat, hmat⟩ : ∃ mn : Nat, at' = mn := ⟨at'.toNat, by omega⟩
  subst hmid hmat
  exact ⟨⟨k, mid, n2, mat, nm, tx, t⟩, vk, vn, vf, vs, A', l.length, cap, ⟨by show _ ≤ k; omega, by show k ≤ _; omega, by show mid < _; omega, by show _ ≤ n2; omega, by show n2 ≤ _; omega, by show mat < _; omega, w4, w5⟩, ht, rfl⟩

def deb64 : List Int := [0, 1, 56, 2, 57, 49, 28, 3, 61, 58, 42, 50, 38, 29, 17, 4, 62, 47, 59, 36, 45, 43, 51, 22, 53, 39, 33, 30, 24, 18, 12, 5, 63, 55, 48, 27, 60, 41, 37, 16, 46, 35, 44, 21, 52, 32, 23, 11, 54, 26, 40, 15, 34, 20, 31, 10, 25, 14, 19, 9, 13, 8, 7, 6]
theorem tb_of_laid {l : List (String × DataW Unit)} {W : World}
    (h1 : ((l.filter fun x => x.2.handleName?.isNone).filter fun x => x.1 == "internal/strconv.uint64pow10") = [("internal/strconv.uint64pow10", Lib.tabData .u64 Lib.pow10Tab)])
    (h2 : ((l.filter fun x => x.2.handleName?.isNone).filter fun x => x.1 == "math/bits.deBruijn64tab") = [("math/bits.deBruijn64tab", Lib.tabData .u8 deb64)])
    (h : laidMetH Tryz.prog l W) : TB W := by
  obtain ⟨hm, -⟩ := laidMetH_iff.1 h
  have k1 := hm.filter (fun x => x.1 == "internal/strconv.uint64pow10")
  have k2 := hm.filter (fun x => x.1 == "math/bits.deBruijn64tab")
  rw [h1] at k1
  rw [h2] at k2
  have t1 := Lib.tabIs_of_head (g := 1) (t := 169) (e := 26) (n := 20) (by kernel_rfl) (by kernel_rfl) Tryz.underlying169 Tryz.underlying26 (by kernel_rfl) (by kernel_rfl) k1
  have t2 := Lib.tabIs_of_head (g := 4) (t := 178) (e := 5) (n := 64) (by kernel_rfl) (by kernel_rfl) Tryz.underlying178 Tryz.underlying5 (by kernel_rfl) (by kernel_rfl) k2
  have c2 := Lib.TabIs.cell t2 (g := 4) (by kernel_rfl) 15 (by decide)
  refine ⟨t1, c2, ?_⟩
  rcases Nat.lt_or_ge 4 W.heap.size with h' | h'
  · exact h'
  · simp [World.cell?, Array.getElem?_eq_none h'] at c2

end Vf
end Go.Proofs.YtcbddebmmaflgaaGreatDoor
