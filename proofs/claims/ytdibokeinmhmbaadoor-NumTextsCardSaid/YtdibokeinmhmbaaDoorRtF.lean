/- The reference's Delay and Next. -/
import Derived.Test.YtdibokeinmhmbaaDoorRtE
import Derived.Deep.QuietTactic
import Derived.BigQuiet
import Derived.WalkSmall
namespace Go.Proofs.YtdibokeinmhmbaaDoor
open Go.RowKit
namespace Rt
open Nm (ret_int ret_bool scaleW addW)

theorem dl_succ (wt fb lim k : Nat) : dl wt fb lim (k + 1) = min (scaleW (dl wt fb lim k) fb) lim := by rw [dl_raw, raw_succ]

theorem rdelay_bad (most : Int) (wt fb lim tmo : Nat) (x : Int) (hv : ¬ Vld most wt lim tmo) (w : World) :
    Calls Tryd.prog 15 #[pol most wt fb lim tmo, .int .i64 x] w fun e w' => e = .returned (.int .u64 0) ∧ Below w.heap.size w w' := by
  have V := Lib.hid (fun w => rvalid_no most wt fb lim tmo hv w)
  clear hv
  unfold pol at *
  go_enter Tryd.func15, Tryd.ntmps15
  go_wp2_with fail
  refine (V.out _).mono ?_
  rintro e W1 ⟨rfl, hb1⟩
  have HB := Lib.hid (((Below.refl _ w).alloc (Nat.le_refl _) _).trans (hb1.mono (by simp)))
  clear hb1
  go_wp2_with fail
  go_ret
  exact ⟨rfl, HB.out⟩

theorem rdelay_out (most : Int) (wt fb lim tmo : Nat) (x : Int) (hv : Vld most wt lim tmo) (hx : x < 1 ∨ 100 < x) (w : World) :
    Calls Tryd.prog 15 #[pol most wt fb lim tmo, .int .i64 x] w fun e w' => e = .returned (.int .u64 0) ∧ Below w.heap.size w w' := by
  have V := Lib.hid (fun w => rvalid_yes most wt fb lim tmo hv w)
  clear hv
  unfold pol at *
  rcases hx with hx | hx
  all_goals
    go_enter Tryd.func15, Tryd.ntmps15
    go_wp2_with fail
    refine (V.out _).mono ?_
    rintro e W1 ⟨rfl, hb1⟩
    have HB := Lib.hid (((Below.refl _ w).alloc (Nat.le_refl _) _).trans (hb1.mono (by simp)))
    clear hb1
    go_wp2_with fail
    go_ret
    exact ⟨rfl, HB.out⟩

set_option maxHeartbeats 1000000 in
theorem rdelay_in (most : Int) (wt fb lim tmo : Nat) (x : Int) (hfb : fb < 18446744073709551616) (hv : Vld most wt lim tmo) (h1 : 1 ≤ x) (h2 : x ≤ 100) (w : World) :
    Calls Tryd.prog 15 #[pol most wt fb lim tmo, .int .i64 x] w fun e w' => e = .returned (.int .u64 (dl wt fb lim (x - 1).toNat)) ∧ Below w.heap.size w w' := by
  have V := Lib.hid (fun w => rvalid_yes most wt fb lim tmo hv w)
  have hl : lim ≤ 9223372036854775807 := hv.2.2.2.1
  clear hv
  have SC : Hid (∀ k w, Calls Tryd.prog 34 #[.int .u64 (dl wt fb lim k), .float .f64 fb] w fun e w' => e = .returned (.int .u64 (scaleW (dl wt fb lim k) fb)) ∧ w = w') :=
    Lib.hid fun k w => Nm.rscale_any (dl wt fb lim k) fb (by have := dl_le wt fb lim k; omega) hfb w
  have HF := Lib.hid hfb; have HL := Lib.hid hl
  clear hfb hl
  obtain ⟨R, hR⟩ : ∃ R, R = dl wt fb lim (x - 1).toNat := ⟨_, rfl⟩
  rw [← hR]
  have HR := Lib.hid hR; clear hR
  unfold pol at *
  go_enter Tryd.func15, Tryd.ntmps15
  go_wp2_with fail
  refine (V.out _).mono ?_
  rintro e W1 ⟨rfl, hb1⟩
  obtain ⟨z, p0, p1, p2, p3, p4⟩ := (polAt_new w 25 most wt fb lim tmo).later hb1
  have HB := Lib.hid (((Below.refl _ w).alloc (Nat.le_refl _) _).trans (hb1.mono (by simp)))
  clear hb1
  have sp : ((lim : Int) < wt ∧ Hid (dl wt fb lim 0 = lim)) ∨ (¬ (lim : Int) < wt ∧ Hid (dl wt fb lim 0 = wt)) := by
    have e := dl_raw wt fb lim 0
    by_cases h : (lim : Int) < wt
    · exact .inl ⟨h, by show _ = _; rw [e]; show min wt lim = lim; omega⟩
    · exact .inr ⟨h, by show _ = _; rw [e]; show min wt lim = wt; omega⟩
  rcases sp with ⟨hml, e0⟩ | ⟨hml, e0⟩
  all_goals
    go_wp2_with fail
    go_loopw [5, 6] (fun d i wr => ∃ j : Nat, (j : Int) + 1 ≤ x ∧ i = .int .i64 ((j : Int) + 1) ∧ d = .int .u64 (dl wt fb lim j) ∧ PolAt wr w.heap.size most wt fb lim tmo ∧ Below w.heap.size w wr) (fun _ i _ => 101 - (intOf i).toNat)
    case atStart => exact ⟨0, by omega, rfl, by rw [e0.out], (PolAt.later ⟨z, p0, p1, p2, p3, p4⟩ (Below.refl _ _)), HB.out⟩
    case round =>
      clear hml e0 p0 p1 p2 p3 p4 HB
      rename_i wr
      obtain ⟨j, hj, rfl, rfl, ⟨z, p0, p1, p2, p3, p4⟩, hb⟩ := hrel
      have HB := Lib.hid hb
      have HP : Hid (PolAt wr w.heap.size most wt fb lim tmo) := Lib.hid ⟨z, p0, p1, p2, p3, p4⟩
      clear hb
      have S := SC.out j
      have ds := dl_succ wt fb lim j
      by_cases hlt : (j : Int) + 1 < x
      · generalize hd : dl wt fb lim j = d at *
        clear hd
        generalize scaleW d fb = s at *
        by_cases hsl : (lim : Int) < s
        · have en : Hid (dl wt fb lim (j + 1) = lim) := by show _ = _; omega
          clear ds
          have S := Lib.hid S
          go_wp2_with fail
          go_quiet ((go_at_call 34; exact Calls.quiet_of_same ((S.out _).mono fun _ _ h => ⟨h.1, h.2.symm⟩)))
          go_wp2_with fail
          go_roundw
          case rel => exact ⟨j + 1, by omega, by go_num, by rw [en.out], HP.out.later (below_drewN (Below.refl _ _) _), below_drewN HB.out _⟩
          case measure => simp [intOf]; omega
        · have en : Hid (dl wt fb lim (j + 1) = s) := by show _ = _; omega
          clear ds
          have S := Lib.hid S
          go_wp2_with fail
          go_quiet ((go_at_call 34; exact Calls.quiet_of_same ((S.out _).mono fun _ _ h => ⟨h.1, h.2.symm⟩)))
          go_wp2_with fail
          go_roundw
          case rel => exact ⟨j + 1, by omega, by go_num, by rw [en.out], HP.out.later (below_drewN (Below.refl _ _) _), below_drewN HB.out _⟩
          case measure => simp [intOf]; omega
      · go_wp2_with fail
        go_ret
        have hj2 : (x - 1).toNat = j := by omega
        exact ⟨ret_int (by rw [HR.out, hj2]), HB.out⟩

theorem rdelay_any (most : Int) (wt fb lim tmo : Nat) (x : Int) (hfb : fb < 18446744073709551616) (hv : Vld most wt lim tmo) (w : World) :
    Calls Tryd.prog 15 #[pol most wt fb lim tmo, .int .i64 x] w fun e w' => e = .returned (.int .u64 (delayP wt fb lim x)) ∧ Below w.heap.size w w' := by
  unfold delayP
  by_cases h : 1 ≤ x ∧ x ≤ 100
  · rw [if_pos h]; exact rdelay_in most wt fb lim tmo x hfb hv h.1 h.2 w
  · rw [if_neg h]; exact rdelay_out most wt fb lim tmo x hv (by omega) w

theorem rnext_no (most : Int) (wt fb lim tmo : Nat) (x : Int) (now : Nat) (h : ¬ Vld most wt lim tmo ∨ x < 1 ∨ most ≤ x) (w : World) :
    Calls Tryd.prog 12 #[pol most wt fb lim tmo, .int .i64 x, .int .u64 now] w fun e w' => e = .returned (.tuple #[.int .u64 0, .bool false]) ∧ Below w.heap.size w w' := by
  by_cases hv : Vld most wt lim tmo
  · have V := Lib.hid (fun w => rvalid_yes most wt fb lim tmo hv w)
    by_cases h1 : x < 1
    · clear h hv
      unfold pol at *
      go_enter Tryd.func12, Tryd.ntmps12
      go_wp2_with fail
      refine (V.out _).mono ?_
      rintro e W1 ⟨rfl, hb1⟩
      have HB := Lib.hid (((Below.refl _ w).alloc (Nat.le_refl _) _).trans (hb1.mono (by simp)))
      clear hb1
      go_wp2_with fail
      go_ret2
      exact ⟨rfl, HB.out⟩
    · have h2 : most ≤ x := by rcases h with h | h | h <;> first | exact absurd hv h | omega
      clear h hv
      unfold pol at *
      go_enter Tryd.func12, Tryd.ntmps12
      go_wp2_with fail
      refine (V.out _).mono ?_
      rintro e W1 ⟨rfl, hb1⟩
      obtain ⟨z, p0, p1, p2, p3, p4⟩ := (polAt_new w 25 most wt fb lim tmo).later hb1
      have HB := Lib.hid (((Below.refl _ w).alloc (Nat.le_refl _) _).trans (hb1.mono (by simp)))
      clear hb1
      go_wp2_with fail
      go_ret2
      exact ⟨rfl, HB.out⟩
  · have V := Lib.hid (fun w => rvalid_no most wt fb lim tmo hv w)
    clear h hv
    unfold pol at *
    go_enter Tryd.func12, Tryd.ntmps12
    go_wp2_with fail
    refine (V.out _).mono ?_
    rintro e W1 ⟨rfl, hb1⟩
    have HB := Lib.hid (((Below.refl _ w).alloc (Nat.le_refl _) _).trans (hb1.mono (by simp)))
    clear hb1
    go_wp2_with fail
    go_ret2
    exact ⟨rfl, HB.out⟩

theorem rnext_yes (most : Int) (wt fb lim tmo : Nat) (x : Int) (now : Nat) (hfb : fb < 18446744073709551616) (hv : Vld most wt lim tmo) (h1 : 1 ≤ x) (h2 : x < most) (hnow : now < 18446744073709551616) (w : World) :
    Calls Tryd.prog 12 #[pol most wt fb lim tmo, .int .i64 x, .int .u64 now] w fun e w' => e = .returned (.tuple #[.int .u64 (addW now (max (delayP wt fb lim x) 1)), .bool true]) ∧ Below w.heap.size w w' := by
  have V := Lib.hid (fun w => rvalid_yes most wt fb lim tmo hv w)
  have D := Lib.hid (fun w => rdelay_any most wt fb lim tmo x hfb hv w)
  have hd : delayP wt fb lim x ≤ 9223372036854775807 := by
    unfold delayP
    split
    · have := dl_le wt fb lim (x - 1).toNat; have := hv.2.2.2.1; omega
    · omega
  generalize delayP wt fb lim x = d at *
  have AD := Lib.hid (fun w => Nm.radd_any now (max d 1) hnow (by omega) w)
  unfold pol at *
  clear hv hnow hfb
  have h2' : ¬ most ≤ x := by omega
  by_cases h0 : d = 0
  · subst h0
    have e : max 0 1 = 1 := rfl
    rw [e] at AD ⊢
    clear hd e
    go_enter Tryd.func12, Tryd.ntmps12
    go_wp2_with fail
    refine (V.out _).mono ?_
    rintro e W1 ⟨rfl, hb1⟩
    obtain ⟨z, p0, p1, p2, p3, p4⟩ := (polAt_new w 25 most wt fb lim tmo).later hb1
    have HB := Lib.hid (((Below.refl _ w).alloc (Nat.le_refl _) _).trans (hb1.mono (by simp)))
    clear hb1
    go_wp2_with fail
    refine (D.out _).mono ?_
    rintro e W2 ⟨rfl, hb2⟩
    go_wp2_with fail
    refine (AD.out _).mono ?_
    rintro e w' ⟨rfl, rfl⟩
    go_wp2_with fail
    go_ret2
    exact ⟨rfl, HB.out.trans (hb2.mono HB.out.size)⟩
  · have e : max d 1 = d := by omega
    rw [e] at AD ⊢
    have hd1 : (1 : Int) ≤ d := by omega
    clear hd e h0
    go_enter Tryd.func12, Tryd.ntmps12
    go_wp2_with fail
    refine (V.out _).mono ?_
    rintro e W1 ⟨rfl, hb1⟩
    obtain ⟨z, p0, p1, p2, p3, p4⟩ := (polAt_new w 25 most wt fb lim tmo).later hb1
    have HB := Lib.hid (((Below.refl _ w).alloc (Nat.le_refl _) _).trans (hb1.mono (by simp)))
    clear hb1
    go_wp2_with fail
    refine (D.out _).mono ?_
    rintro e W2 ⟨rfl, hb2⟩
    go_wp2_with fail
    refine (AD.out _).mono ?_
    rintro e w' ⟨rfl, rfl⟩
    go_wp2_with fail
    go_ret2
    exact ⟨rfl, HB.out.trans (hb2.mono HB.out.size)⟩
end Rt
end Go.Proofs.YtdibokeinmhmbaaDoor
