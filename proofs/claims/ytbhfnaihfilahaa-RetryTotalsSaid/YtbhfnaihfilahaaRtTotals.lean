/- RetryTotals: the walk. -/
import Derived.Test.YtbhfnaihfilahaaRtI
import Derived.Test.YtbhfnaihfilahaaRtLater
namespace Go.Proofs.Ytbhfnaihfilahaa
open Go.RowKit
namespace Rt
open Nm (ret_int ret_bool scaleW addW)
attribute [local go_sem] run_store_float

theorem tot_step (wt fb lim k : Nat) : tot wt fb lim k ≤ tot wt fb lim (k + 1) := by
  have h := tot_lt wt fb lim k
  show _ ≤ addW _ _
  unfold addW; split <;> omega

theorem totals_bad (most : Int) (wt fb lim tmo : Nat) (hv : ¬ Vld most wt lim tmo) (w : World) :
    Calls Try.prog 5 #[pol most wt fb lim tmo] w fun e w' => e = .returned (.bool true) ∧ Below w.heap.size w w' := by
  have V := Lib.hid (fun w => rvalid_no most wt fb lim tmo hv w)
  have T := Lib.hid (fun w => total_no most wt fb lim tmo hv w)
  have RT := Lib.hid (fun w => rtotal_no most wt fb lim tmo hv w)
  have A := Lib.hid alive_any
  clear hv
  unfold pol at *
  go_enter Try.func5, Try.ntmps5
  go_wp2_with fail
  refine (T.out _).mono ?_
  rintro e W1 ⟨rfl, hb1⟩
  have HP := Lib.hid (PolAt.later ((polAt_new w 25 most wt fb lim tmo).later ((Below.refl _ _).alloc (Nat.le_refl _) (.cells #[.int .i64 most, .int .u64 wt, .float .f64 fb, .int .u64 lim, .int .u64 tmo] 28))) hb1)
  have HB1 := Lib.hid (((((Below.refl _ w).alloc (Nat.le_refl _) _).alloc (by simp) _)).trans (hb1.mono (by simp; omega)))
  clear hb1
  obtain ⟨zp, p0, p1, p2, p3, p4⟩ := HP.out
  go_wp2_with fail
  refine (RT.out _).mono ?_
  rintro e W2 ⟨rfl, hb2⟩
  have HP2 := Lib.hid (HP.out.later hb2)
  have HB2 := Lib.hid (HB1.out.trans (hb2.mono HB1.out.size))
  clear hb2 zp p0 p1 p2 p3 p4 HP HB1
  obtain ⟨zp, p0, p1, p2, p3, p4⟩ := HP2.out
  go_wp2_with fail
  refine (V.out _).mono ?_
  rintro e W3 ⟨rfl, hb3⟩
  have HB3 := Lib.hid (HB2.out.trans (hb3.mono HB2.out.size))
  clear hb3 zp p0 p1 p2 p3 p4 HP2 HB2
  go_wp2_with fail
  refine (A.out _).mono ?_
  rintro e W4 ⟨rfl, hb4⟩
  have HB4 := Lib.hid (HB3.out.trans (hb4.mono HB3.out.size))
  clear hb4 HB3
  go_wp2_with fail
  go_ret
  exact ⟨rfl, HB4.out⟩

set_option maxHeartbeats 2000000 in
theorem totals_good (most : Int) (wt fb lim tmo : Nat) (hfb : fb < 18446744073709551616) (hv : Vld most wt lim tmo) (w : World) :
    Calls Try.prog 5 #[pol most wt fb lim tmo] w fun e w' => e = .returned (.bool true) ∧ Below w.heap.size w w' := by
  have V := Lib.hid (fun w => rvalid_yes most wt fb lim tmo hv w)
  have T := Lib.hid (fun w => total_yes most wt fb lim tmo hv w)
  have RT := Lib.hid (fun w => rtotal_yes most wt fb lim tmo hfb hv w)
  have A := Lib.hid alive_any
  have N : Hid (∀ (j : Nat) (w : World), (j : Int) + 1 < most → Calls Try.prog 11 #[pol most wt fb lim tmo, .int .i64 ((j : Int) + 1), .int .u64 (tot wt fb lim j)] w fun e w' => e = .returned (.tuple #[.int .u64 (tot wt fb lim (j + 1)), .bool true]) ∧ Below w.heap.size w w') :=
    Lib.hid fun j w hj => (next_yes most wt fb lim tmo ((j : Int) + 1) (tot wt fb lim j) hv (by omega) hj (by have := tot_lt wt fb lim j; omega) w).mono fun e w' ⟨he, hb⟩ => ⟨he.trans (by rw [delay_at wt fb lim j (by have := hv.2.1; omega)]; rfl), hb⟩
  have NE := Lib.hid (fun (now : Nat) (w : World) => next_no most wt fb lim tmo most now (.inr (.inr (Int.le_refl _))) w)
  obtain ⟨R, hR⟩ : ∃ R, R = tot wt fb lim (most - 1).toNat := ⟨_, rfl⟩
  rw [← hR] at T RT
  have HR := Lib.hid hR; clear hR
  have hm1 := hv.1
  have hm2 := hv.2.1
  clear hv hfb
  unfold pol at *
  go_enter Try.func5, Try.ntmps5
  go_wp2_with fail
  refine (T.out _).mono ?_
  rintro e W1 ⟨rfl, hb1⟩
  have HP := Lib.hid (PolAt.later ((polAt_new w 25 most wt fb lim tmo).later ((Below.refl _ _).alloc (Nat.le_refl _) (.cells #[.int .i64 most, .int .u64 wt, .float .f64 fb, .int .u64 lim, .int .u64 tmo] 28))) hb1)
  have hq := PolAt.later (polAt_new (w.alloc (.cells #[.int .i64 most, .int .u64 wt, .float .f64 fb, .int .u64 lim, .int .u64 tmo] 25)) 28 most wt fb lim tmo) hb1
  rw [World.size_alloc] at hq
  have HQ := Lib.hid hq; clear hq
  have HB1 := Lib.hid (((((Below.refl _ w).alloc (Nat.le_refl _) _).alloc (by simp) _)).trans (hb1.mono (by simp; omega)))
  clear hb1
  obtain ⟨zp, p0, p1, p2, p3, p4⟩ := HP.out
  go_wp2_with fail
  refine (RT.out _).mono ?_
  rintro e W2 ⟨rfl, hb2⟩
  have HP2 := Lib.hid (HP.out.later hb2)
  have HQ2 := Lib.hid (HQ.out.later hb2)
  have HB2 := Lib.hid (HB1.out.trans (hb2.mono HB1.out.size))
  clear hb2 zp p0 p1 p2 p3 p4 HP HB1 HQ
  obtain ⟨zp, p0, p1, p2, p3, p4⟩ := HP2.out
  go_wp2_with fail
  refine (V.out _).mono ?_
  rintro e W3 ⟨rfl, hb3⟩
  have HP3 := Lib.hid (HP2.out.later hb3)
  have HQ3 := Lib.hid (HQ2.out.later hb3)
  have HB3 := Lib.hid (HB2.out.trans (hb3.mono HB2.out.size))
  clear hb3 zp p0 p1 p2 p3 p4 HP2 HB2 HQ2
  go_wp2_with fail
  go_loopw [5, 6] (fun t n wr => ∃ j : Nat, (j : Int) + 1 ≤ most ∧ n = .int .i64 ((j : Int) + 1) ∧ t = .int .u64 (tot wt fb lim j) ∧ PolAt wr w.heap.size most wt fb lim tmo ∧ PolAt wr (w.heap.size + 1) most wt fb lim tmo ∧ Below w.heap.size w wr) (fun _ n _ => 101 - (intOf n).toNat)
  case atStart => exact ⟨0, by omega, rfl, rfl, HP3.out, HQ3.out, HB3.out⟩
  case round =>
    clear HP3 HQ3 HB3
    rename_i wr
    obtain ⟨j, hj, rfl, rfl, hp, hq, hb⟩ := hrel
    have HP := Lib.hid hp; have HQ := Lib.hid hq; have HB := Lib.hid hb
    obtain ⟨zp, p0, _, _, _, _⟩ := hp
    obtain ⟨zq, q0, q1, q2, q3, q4⟩ := hq
    clear hb
    by_cases hlt : (j : Int) + 1 < most
    · have NJ := fun w => N.out j w hlt
      have hst := tot_step wt fb lim j
      obtain ⟨u, hu⟩ : ∃ u, u = tot wt fb lim (j + 1) := ⟨_, rfl⟩
      rw [← hu] at NJ hst
      have HU := Lib.hid hu; clear hu
      generalize tot wt fb lim j = t at *
      have NJ := Lib.hid NJ
      have hst1 : ¬ (u : Int) < t := by omega
      have hst2 : ¬ u < t := by omega
      clear hst
      go_wp2_with fail
      refine (NJ.out _).mono ?_
      rintro e W4 ⟨rfl, hb4⟩
      have HP4 := Lib.hid (HP.out.later hb4)
      have HQ4 := Lib.hid (HQ.out.later hb4)
      have HB4 := Lib.hid (HB.out.trans (hb4.mono HB.out.size))
      clear hb4
      go_wp2_with fail
      go_roundw
      case rel => exact ⟨j + 1, by omega, by go_num, by rw [HU.out], HP4.out, HQ4.out, HB4.out⟩
      case measure => simp [intOf]; omega
    · have hjm : tot wt fb lim j = R := by rw [HR.out]; congr 1; omega
      rw [hjm]
      clear hjm
      go_wp2_with fail
      refine (NE.out R _).mono ?_
      rintro e W4 ⟨rfl, hb4⟩
      have HB4 := Lib.hid (HB.out.trans (hb4.mono HB.out.size))
      clear hb4
      go_wp2_with fail
      refine (A.out _).mono ?_
      rintro e W5 ⟨rfl, hb5⟩
      have HB5 := Lib.hid (HB4.out.trans (hb5.mono HB4.out.size))
      clear hb5
      go_wp2_with fail
      go_ret
      exact ⟨rfl, HB5.out⟩

open Go.ChangeShapes Go.WideShapes Go.ChangeAt in
theorem totals_open {H : Type} {enc : TypeId × Value → H} {base b1 : Nat} {spare : Nat → Bool} {held : Bool} {d0 : DataW H} {p0 : List MemPlace} (v0 : Value) (W : World)
    (o0 : Value.okWide Try.prog W .any base 25 v0) (k0 : DataW.Trod enc Try.prog W b1 spare held 25 v0 d0 p0) :
    Calls Try.prog 5 #[v0] W fun e w' => e = .returned (.bool true) ∧ Below W.heap.size W w' := by
  obtain ⟨most, wt, fb, lim, tmo, rfl, hw, hf, hl, ht⟩ := policy_open v0 W o0 k0
  by_cases hv : Vld most wt lim tmo
  · exact totals_good most wt fb lim tmo hf hv W
  · exact totals_bad most wt fb lim tmo hv W
end Rt
end Go.Proofs.Ytbhfnaihfilahaa
