/- The reference's Total. -/
import Derived.Test.YtbhfnaihfilahaaRtF
namespace Go.Proofs.Ytbhfnaihfilahaa
open Go.RowKit
namespace Rt
open Nm (ret_int ret_bool scaleW addW)

/-- The sum of the first k delays, each at least 1. -/
def tot (wt fb lim : Nat) : Nat → Nat
  | 0 => 0
  | k + 1 => addW (tot wt fb lim k) (max (dl wt fb lim k) 1)
theorem tot_lt (wt fb lim k : Nat) : tot wt fb lim k ≤ 9223372036854775807 := by
  cases k with
  | zero => show 0 ≤ _; omega
  | succ k => show addW _ _ ≤ _; unfold addW; split <;> omega
theorem delay_at (wt fb lim k : Nat) (h : k < 100) : delayP wt fb lim ((k : Int) + 1) = dl wt fb lim k := by
  unfold delayP
  rw [if_pos (by omega)]
  congr 1; omega

theorem rtotal_no (most : Int) (wt fb lim tmo : Nat) (hv : ¬ Vld most wt lim tmo) (w : World) :
    Calls Try.prog 15 #[pol most wt fb lim tmo] w fun e w' => e = .returned (.int .u64 0) ∧ Below w.heap.size w w' := by
  have V := Lib.hid (fun w => rvalid_no most wt fb lim tmo hv w)
  clear hv
  unfold pol at *
  go_enter Try.func15, Try.ntmps15
  go_wp2_with fail
  refine (V.out _).mono ?_
  rintro e W1 ⟨rfl, hb1⟩
  have HB := Lib.hid (((Below.refl _ w).alloc (Nat.le_refl _) _).trans (hb1.mono (by simp)))
  clear hb1
  go_wp2_with fail
  go_ret
  exact ⟨rfl, HB.out⟩

set_option maxHeartbeats 2000000 in
theorem rtotal_yes (most : Int) (wt fb lim tmo : Nat) (hfb : fb < 18446744073709551616) (hv : Vld most wt lim tmo) (w : World) :
    Calls Try.prog 15 #[pol most wt fb lim tmo] w fun e w' => e = .returned (.int .u64 (tot wt fb lim (most - 1).toNat)) ∧ Below w.heap.size w w' := by
  have V := Lib.hid (fun w => rvalid_yes most wt fb lim tmo hv w)
  have D : Hid (∀ (k : Nat) (w : World), k < 100 → Calls Try.prog 23 #[pol most wt fb lim tmo, .int .i64 ((k : Int) + 1)] w fun e w' => e = .returned (.int .u64 (dl wt fb lim k)) ∧ Below w.heap.size w w') :=
    Lib.hid fun k w hk => (rdelay_any most wt fb lim tmo ((k : Int) + 1) hfb hv w).mono fun e w' ⟨he, hb⟩ => ⟨he.trans (ret_int (by rw [delay_at wt fb lim k hk])), hb⟩
  have AD : Hid (∀ (k : Nat) (w : World), Calls Try.prog 22 #[.int .u64 (tot wt fb lim k), .int .u64 (max (dl wt fb lim k) 1 : Nat)] w fun e w' => e = .returned (.int .u64 (tot wt fb lim (k + 1))) ∧ w = w') :=
    Lib.hid fun k w => Nm.radd_any (tot wt fb lim k) (max (dl wt fb lim k) 1) (by have := tot_lt wt fb lim k; omega) (by have := dl_le wt fb lim k; have := hv.2.2.2.1; omega) w
  obtain ⟨R, hR⟩ : ∃ R, R = tot wt fb lim (most - 1).toNat := ⟨_, rfl⟩
  rw [← hR]
  have HR := Lib.hid hR; clear hR
  have hm1 := hv.1
  have hm2 := hv.2.1
  clear hv hfb
  unfold pol at *
  go_enter Try.func15, Try.ntmps15
  go_wp2_with fail
  refine (V.out _).mono ?_
  rintro e W1 ⟨rfl, hb1⟩
  obtain ⟨z, p0, p1, p2, p3, p4⟩ := (polAt_new w 25 most wt fb lim tmo).later hb1
  have HB := Lib.hid (((Below.refl _ w).alloc (Nat.le_refl _) _).trans (hb1.mono (by simp)))
  clear hb1
  go_wp2_with fail
  go_loopw [3, 4] (fun t n wr => ∃ j : Nat, (j : Int) + 1 ≤ most ∧ n = .int .i64 ((j : Int) + 1) ∧ t = .int .u64 (tot wt fb lim j) ∧ PolAt wr w.heap.size most wt fb lim tmo ∧ Below w.heap.size w wr) (fun _ n _ => 101 - (intOf n).toNat)
  case atStart => exact ⟨0, by omega, rfl, rfl, (PolAt.later ⟨z, p0, p1, p2, p3, p4⟩ (Below.refl _ _)), HB.out⟩
  case round =>
    clear p0 p1 p2 p3 p4 HB
    rename_i wr
    obtain ⟨j, hj, rfl, rfl, ⟨z, p0, p1, p2, p3, p4⟩, hb⟩ := hrel
    have HB := Lib.hid hb
    have HP : Hid (PolAt wr w.heap.size most wt fb lim tmo) := Lib.hid ⟨z, p0, p1, p2, p3, p4⟩
    clear hb
    by_cases hlt : (j : Int) + 1 < most
    · have DJ := fun w => D.out j w (by omega)
      have AJ := AD.out j
      have hdb := dl_le wt fb lim j
      obtain ⟨u, hu⟩ : ∃ u, u = tot wt fb lim (j + 1) := ⟨_, rfl⟩
      rw [← hu] at AJ
      have HU := Lib.hid hu; clear hu
      generalize tot wt fb lim j = t at *
      generalize dl wt fb lim j = d at *
      clear hdb
      have DJ := Lib.hid DJ
      have sp : (d = 0 ∧ max d 1 = 1) ∨ ((1 : Int) ≤ d ∧ max d 1 = d) := by omega
      rcases sp with ⟨rfl, e⟩ | ⟨h1, e⟩
      all_goals
        rw [e] at AJ
        have AJ := Lib.hid AJ
        clear e
        go_wp2_with fail
        refine (DJ.out _).mono ?_
        rintro e W3 ⟨rfl, hb3⟩
        have HP3 := Lib.hid (HP.out.later hb3)
        have HB3 := Lib.hid (HB.out.trans (hb3.mono HB.out.size))
        clear hb3
        go_wp2_with fail
        refine (AJ.out _).mono ?_
        rintro e w' ⟨rfl, rfl⟩
        go_wp2_with fail
        go_roundw
        case rel => exact ⟨j + 1, by omega, by go_num, by rw [HU.out], HP3.out, HB3.out⟩
        case measure => simp [intOf]; omega
    · go_wp2_with fail
      go_ret
      have hj2 : (most - 1).toNat = j := by omega
      exact ⟨ret_int (by rw [HR.out, hj2]), HB.out⟩
end Rt
end Go.Proofs.Ytbhfnaihfilahaa
