/- RetryMatches: the walk. -/
import Derived.Test.YtdibokeinmhmbaaDoorFuP
namespace Go.Proofs.YtdibokeinmhmbaaDoor
open Go.RowKit
set_option linter.unusedVariables false
namespace Fu
open _root_.Go.Proofs.YtdibokeinmhmbaaDoor.Nm (bitsW bitsW_lt addW)
open _root_.Go.Proofs.YtdibokeinmhmbaaDoor.Rt (pol Vld valid_yes valid_no rvalid_yes rvalid_no PolAt polAt_new alive_any policy_open delayP delay_yes delay_no rdelay_any rdelay_bad next_yes next_no rnext_yes rnext_no deadline_any run_store_float)
set_option maxRecDepth 100000 in
theorem rdeadline_any (most : Int) (wt fb lim tmo : Nat) (now : Nat) (hnow : now < 18446744073709551616) (ht : tmo < 18446744073709551616) (w : World) :
    Calls Tryd.prog 17 #[pol most wt fb lim tmo, .int .u64 now] w fun e w' => e = .returned (.int .u64 (addW now (max tmo 1))) ∧ Below w.heap.size w w' := by
  have AD := Lib.hid (fun w => Nm.radd_any now (max tmo 1) hnow (by omega) w)
  rw [show ((max tmo 1 : Nat) : Int) = max (tmo : Int) 1 by omega] at AD
  generalize addW now (max tmo 1) = r at *
  unfold pol at *
  clear hnow ht
  go_enter Tryd.func17, Tryd.ntmps17
  go_wp2_with fail
  refine (AD.out _).mono ?_
  rintro e w' ⟨rfl, rfl⟩
  go_wp2_with fail
  go_ret
  exact ⟨rfl, (Below.refl _ _).alloc (Nat.le_refl _) _⟩
attribute [local go_sem] run_store_float
set_option maxRecDepth 100000 in
set_option maxHeartbeats 2000000 in
theorem matches_walk (most : Int) (wt fb lim tmo : Nat) (x : Int) (now0 now : Nat) (hnow : now = min now0 9223372036854775807) (nx d dd : Nat) (nb vb : Bool) (t : ByteArray) (w : World)
    (hN : ∀ W, Below w.heap.size w W → Calls Tryd.prog 11 #[pol most wt fb lim tmo, .int .i64 x, .int .u64 now] W fun e w' => e = .returned (.tuple #[.int .u64 nx, .bool nb]) ∧ Below W.heap.size W w')
    (hRN : ∀ W, Below w.heap.size w W → Calls Tryd.prog 12 #[pol most wt fb lim tmo, .int .i64 x, .int .u64 now] W fun e w' => e = .returned (.tuple #[.int .u64 nx, .bool nb]) ∧ Below W.heap.size W w')
    (hV : ∀ W, Below w.heap.size w W → Calls Tryd.prog 13 #[pol most wt fb lim tmo] W fun e w' => e = .returned (.bool vb) ∧ Below W.heap.size W w')
    (hRV : ∀ W, Below w.heap.size w W → Calls Tryd.prog 7 #[pol most wt fb lim tmo] W fun e w' => e = .returned (.bool vb) ∧ Below W.heap.size W w')
    (hD : ∀ W, Below w.heap.size w W → Calls Tryd.prog 14 #[pol most wt fb lim tmo, .int .i64 x] W fun e w' => e = .returned (.int .u64 d) ∧ Below W.heap.size W w')
    (hRD : ∀ W, Below w.heap.size w W → Calls Tryd.prog 15 #[pol most wt fb lim tmo, .int .i64 x] W fun e w' => e = .returned (.int .u64 d) ∧ Below W.heap.size W w')
    (hDL : ∀ W, Below w.heap.size w W → Calls Tryd.prog 16 #[pol most wt fb lim tmo, .int .u64 now] W fun e w' => e = .returned (.int .u64 dd) ∧ Below W.heap.size W w')
    (hRDL : ∀ W, Below w.heap.size w W → Calls Tryd.prog 17 #[pol most wt fb lim tmo, .int .u64 now] W fun e w' => e = .returned (.int .u64 dd) ∧ Below W.heap.size W w')
    (hT : ∀ W, Below w.heap.size w W → Calls Tryd.prog 10 #[pol most wt fb lim tmo] W fun e w' => e = .returned (.string t) ∧ Below W.heap.size W w')
    (hRT : ∀ W, Below w.heap.size w W → Calls Tryd.prog 18 #[pol most wt fb lim tmo] W fun e w' => e = .returned (.string t) ∧ Below W.heap.size W w')
    :
    Calls Tryd.prog 4 #[pol most wt fb lim tmo, .int .i64 x, .int .u64 now0] w fun e w' => e = .returned (.bool true) ∧ Below w.heap.size w w' := by
  have N := Lib.hid hN
  have RN := Lib.hid hRN
  have V := Lib.hid hV
  have RV := Lib.hid hRV
  have D := Lib.hid hD
  have RD := Lib.hid hRD
  have DL := Lib.hid hDL
  have RDL := Lib.hid hRDL
  have T := Lib.hid hT
  have RT := Lib.hid hRT
  have A := Lib.hid (fun (W : World) (_ : Below w.heap.size w W) => alive_any W)
  have HNOW := Lib.hid hnow
  clear hnow hN hRN hV hRV hD hRD hDL hRDL hT hRT
  obtain ⟨W0, hW0⟩ : ∃ W0, W0 = (w.alloc (.cells #[.int .i64 most, .int .u64 wt, .float .f64 fb, .int .u64 lim, .int .u64 tmo] 25)).alloc (.cells #[.int .i64 most, .int .u64 wt, .float .f64 fb, .int .u64 lim, .int .u64 tmo] 30) := ⟨_, rfl⟩
  have HB0 : Hid (Below w.heap.size w W0) := Lib.hid (by rw [hW0]; exact ((Below.refl _ w).alloc (Nat.le_refl _) _).alloc (by simp) _)
  have HP : Hid (PolAt W0 w.heap.size most wt fb lim tmo) := Lib.hid (by rw [hW0]; exact (polAt_new w 25 most wt fb lim tmo).later ((Below.refl _ _).alloc (Nat.le_refl _) _))
  have HQ : Hid (PolAt W0 (w.heap.size + 1) most wt fb lim tmo) := Lib.hid (by
    have h := polAt_new (w.alloc (.cells #[.int .i64 most, .int .u64 wt, .float .f64 fb, .int .u64 lim, .int .u64 tmo] 25)) 30 most wt fb lim tmo
    rw [World.size_alloc] at h
    rw [hW0]; exact h)
  replace hW0 := Lib.hid hW0
  unfold pol at *
  go_enter Tryd.func4, Tryd.ntmps4
  go_upto_region 2 with fail
  rw [← hW0.out]
  go_cut [2] from 13 to 14 (fun z wx => z = .int .u64 now ∧ wx = W0)
  case first =>
    by_cases hm : 9223372036854775807 < now0
    · have hm' : (9223372036854775807 : Int) < now0 := by omega
      clear hm
      go_wp2_with fail
      go_meet
      case rel => exact ⟨congrArg (Value.int .u64) (by have := HNOW.out; omega), rfl⟩
    · have hm' : (now0 : Int) ≤ 9223372036854775807 := by omega
      clear hm
      go_wp2_with fail
      go_meet
      case rel => exact ⟨congrArg (Value.int .u64) (by have := HNOW.out; omega), rfl⟩
  case rest =>
    obtain ⟨rfl, rfl⟩ := hcut
    generalize hba : w.heap.size = ba at *
    generalize hbbn : ba + 1 = bb at *
    obtain ⟨y1, p0, p1, p2, p3, p4⟩ := HP.out
    obtain ⟨y2, q0, q1, q2, q3, q4⟩ := HQ.out
    go_wp2_with fail
    refine (N.out _ HB0.out).mono ?_
    rintro e w3 ⟨rfl, hb3⟩
    have HB3 : Hid (Below ba w w3) := Lib.hid (HB0.out.trans (hb3.mono (by omega)))
    have HP3 := Lib.hid (HP.out.later hb3)
    have HQ3 := Lib.hid (HQ.out.later hb3)
    clear hb3 p0 p1 p2 p3 p4 q0 q1 q2 q3 q4 HP HQ y1 y2
    obtain ⟨y1, p0, p1, p2, p3, p4⟩ := HP3.out
    go_wp2_with fail
    refine (RN.out _ HB3.out).mono ?_
    rintro e w4 ⟨rfl, hb4⟩
    have HB4 : Hid (Below ba w w4) := Lib.hid (HB3.out.trans (hb4.mono (by omega)))
    have HP4 := Lib.hid (HP3.out.later hb4)
    have HQ4 := Lib.hid (HQ3.out.later hb4)
    have hz4 : ba ≤ w4.heap.size := by have := hb4.size; omega
    clear hb4 p0 p1 p2 p3 p4 HP3 HQ3 y1 N RN
    have HBW : Hid (∀ W, Below w4.heap.size w4 W → Below ba w W) := Lib.hid fun W hW => HB4.out.trans (hW.mono hz4)
    have HS : Hid (∀ W, Below w4.heap.size w4 W → W.cell? ⟨ba, 0, none⟩ = some (.int .i64 most) ∧ W.cell? ⟨ba, 1, none⟩ = some (.int .u64 wt) ∧ W.cell? ⟨ba, 2, none⟩ = some (.float .f64 fb) ∧ W.cell? ⟨ba, 3, none⟩ = some (.int .u64 lim) ∧ W.cell? ⟨ba, 4, none⟩ = some (.int .u64 tmo) ∧ W.cell? ⟨bb, 0, none⟩ = some (.int .i64 most) ∧ W.cell? ⟨bb, 1, none⟩ = some (.int .u64 wt) ∧ W.cell? ⟨bb, 2, none⟩ = some (.float .f64 fb) ∧ W.cell? ⟨bb, 3, none⟩ = some (.int .u64 lim) ∧ W.cell? ⟨bb, 4, none⟩ = some (.int .u64 tmo)) := Lib.hid fun W hW => by
      obtain ⟨-, k0, k1, k2, k3, k4⟩ := HP4.out.later hW
      obtain ⟨-, l0, l1, l2, l3, l4⟩ := HQ4.out.later hW
      exact ⟨k0, k1, k2, k3, k4, l0, l1, l2, l3, l4⟩
    go_upto_region 5 with fail
    have HD0 : Hid (Below w4.heap.size w4 w4.drew) := Lib.hid (below_drew (Below.refl _ _))
    refine wp_region_noPanic ?_
    refine wp_region_held_drew (S := (fun w' : World => w'.cell? ⟨ba, 0, none⟩ = some (.int .i64 most) ∧ w'.cell? ⟨ba, 1, none⟩ = some (.int .u64 wt) ∧ w'.cell? ⟨ba, 2, none⟩ = some (.float .f64 fb) ∧ w'.cell? ⟨ba, 3, none⟩ = some (.int .u64 lim) ∧ w'.cell? ⟨ba, 4, none⟩ = some (.int .u64 tmo) ∧ w'.cell? ⟨bb, 0, none⟩ = some (.int .i64 most) ∧ w'.cell? ⟨bb, 1, none⟩ = some (.int .u64 wt) ∧ w'.cell? ⟨bb, 2, none⟩ = some (.float .f64 fb) ∧ w'.cell? ⟨bb, 3, none⟩ = some (.int .u64 lim) ∧ w'.cell? ⟨bb, 4, none⟩ = some (.int .u64 tmo))) (by kernel_rfl) ?_ (fun hH0 => ?_)
    · exact HS.out _ HD0.out
    refine wpAnyH_ready (rs := [0]) (by kernel_rfl) (by simp) ?_
    refine cons_drop rfl (fun K hK => ?_) AllReadyH.nil
    go_simp
    refine (A.out _ (HBW.out _ HD0.out)).mono ?_
    rintro e u1 ⟨rfl, hb⟩
    have HD1 : Hid (Below w4.heap.size w4 u1) := Lib.hid (HD0.out.trans (hb.mono HD0.out.size))
    clear hb
    go_wp2_with fail
    refine hK.out _ _ (HS.out _ HD1.out) (fun hH1 => ?_)
    clear hK K hH0
    try simp only [Act.put, List.setIfInBounds_toArray, List.set_cons_zero, List.set_cons_succ]
    first
      | (refine take_drop (i := 1) (v := ?_) rfl (by kernel_rfl) (by kernel_rfl) (by kernel_rfl) (fun _ _ _ h => h) (Or.inl ⟨by rfl, ?_⟩) (by assumption) ?_; rotate_left 1; (focus (intro w hSw; (try dsimp only at hSw); go_simp; try with_reducible rfl)); try simp only [Act.put, List.setIfInBounds_toArray, List.set_cons_zero, List.set_cons_succ])
      | (refine take_drop (i := 1) (v := undef) rfl (by kernel_rfl) (by kernel_rfl) (by kernel_rfl) (fun _ _ _ h => h) (Or.inr ⟨by rfl, rfl⟩) (by assumption) ?_; try simp only [Act.put, List.setIfInBounds_toArray, List.set_cons_zero, List.set_cons_succ])
    first
      | (refine take_drop (i := 2) (v := ?_) rfl (by kernel_rfl) (by kernel_rfl) (by kernel_rfl) (fun _ _ _ h => h) (Or.inl ⟨by rfl, ?_⟩) (by assumption) ?_; rotate_left 1; (focus (intro w hSw; (try dsimp only at hSw); go_simp; try with_reducible rfl)); try simp only [Act.put, List.setIfInBounds_toArray, List.set_cons_zero, List.set_cons_succ])
      | (refine take_drop (i := 2) (v := undef) rfl (by kernel_rfl) (by kernel_rfl) (by kernel_rfl) (fun _ _ _ h => h) (Or.inr ⟨by rfl, rfl⟩) (by assumption) ?_; try simp only [Act.put, List.setIfInBounds_toArray, List.set_cons_zero, List.set_cons_succ])
    first
      | (refine take_drop (i := 4) (v := ?_) rfl (by kernel_rfl) (by kernel_rfl) (by kernel_rfl) (fun _ _ _ h => h) (Or.inl ⟨by rfl, ?_⟩) (by assumption) ?_; rotate_left 1; (focus (intro w hSw; (try dsimp only at hSw); go_simp; try with_reducible rfl)); try simp only [Act.put, List.setIfInBounds_toArray, List.set_cons_zero, List.set_cons_succ])
      | (refine take_drop (i := 4) (v := undef) rfl (by kernel_rfl) (by kernel_rfl) (by kernel_rfl) (fun _ _ _ h => h) (Or.inr ⟨by rfl, rfl⟩) (by assumption) ?_; try simp only [Act.put, List.setIfInBounds_toArray, List.set_cons_zero, List.set_cons_succ])
    refine wpAnyH_ready (rs := [3]) (by kernel_rfl) (by simp) ?_
    refine cons_drop rfl (fun K hK => ?_) AllReadyH.nil
    go_simp
    refine (V.out _ (HBW.out _ HD1.out)).mono ?_
    rintro e u2 ⟨rfl, hb⟩
    have HD2 : Hid (Below w4.heap.size w4 u2) := Lib.hid (HD1.out.trans (hb.mono HD1.out.size))
    clear hb
    go_wp2_with fail
    refine hK.out _ _ (HS.out _ HD2.out) (fun hH2 => ?_)
    clear hK K hH1
    try simp only [Act.put, List.setIfInBounds_toArray, List.set_cons_zero, List.set_cons_succ]
    refine wpAnyH_ready (rs := [5]) (by kernel_rfl) (by simp) ?_
    refine cons_drop rfl (fun K hK => ?_) AllReadyH.nil
    go_simp
    refine (RV.out _ (HBW.out _ HD2.out)).mono ?_
    rintro e u3 ⟨rfl, hb⟩
    have HD3 : Hid (Below w4.heap.size w4 u3) := Lib.hid (HD2.out.trans (hb.mono HD2.out.size))
    clear hb
    go_wp2_with fail
    refine hK.out _ _ (HS.out _ HD3.out) (fun hH3 => ?_)
    clear hK K hH2
    try simp only [Act.put, List.setIfInBounds_toArray, List.set_cons_zero, List.set_cons_succ]
    first
      | (refine take_drop (i := 6) (v := ?_) rfl (by kernel_rfl) (by kernel_rfl) (by kernel_rfl) (fun _ _ _ h => h) (Or.inl ⟨by rfl, ?_⟩) (by assumption) ?_; rotate_left 1; (focus (intro w hSw; (try dsimp only at hSw); go_simp; try with_reducible rfl)); try simp only [Act.put, List.setIfInBounds_toArray, List.set_cons_zero, List.set_cons_succ])
      | (refine take_drop (i := 6) (v := undef) rfl (by kernel_rfl) (by kernel_rfl) (by kernel_rfl) (fun _ _ _ h => h) (Or.inr ⟨by rfl, rfl⟩) (by assumption) ?_; try simp only [Act.put, List.setIfInBounds_toArray, List.set_cons_zero, List.set_cons_succ])
    first
      | (refine take_drop (i := 7) (v := ?_) rfl (by kernel_rfl) (by kernel_rfl) (by kernel_rfl) (fun _ _ _ h => h) (Or.inl ⟨by rfl, ?_⟩) (by assumption) ?_; rotate_left 1; (focus (intro w hSw; (try dsimp only at hSw); go_simp; try with_reducible rfl)); try simp only [Act.put, List.setIfInBounds_toArray, List.set_cons_zero, List.set_cons_succ])
      | (refine take_drop (i := 7) (v := undef) rfl (by kernel_rfl) (by kernel_rfl) (by kernel_rfl) (fun _ _ _ h => h) (Or.inr ⟨by rfl, rfl⟩) (by assumption) ?_; try simp only [Act.put, List.setIfInBounds_toArray, List.set_cons_zero, List.set_cons_succ])
    first
      | (refine take_drop (i := 8) (v := ?_) rfl (by kernel_rfl) (by kernel_rfl) (by kernel_rfl) (fun _ _ _ h => h) (Or.inl ⟨by rfl, ?_⟩) (by assumption) ?_; rotate_left 1; (focus (intro w hSw; (try dsimp only at hSw); go_simp; try with_reducible rfl)); try simp only [Act.put, List.setIfInBounds_toArray, List.set_cons_zero, List.set_cons_succ])
      | (refine take_drop (i := 8) (v := undef) rfl (by kernel_rfl) (by kernel_rfl) (by kernel_rfl) (fun _ _ _ h => h) (Or.inr ⟨by rfl, rfl⟩) (by assumption) ?_; try simp only [Act.put, List.setIfInBounds_toArray, List.set_cons_zero, List.set_cons_succ])
    first
      | (refine take_drop (i := 9) (v := ?_) rfl (by kernel_rfl) (by kernel_rfl) (by kernel_rfl) (fun _ _ _ h => h) (Or.inl ⟨by rfl, ?_⟩) (by assumption) ?_; rotate_left 1; (focus (intro w hSw; (try dsimp only at hSw); go_simp; try with_reducible rfl)); try simp only [Act.put, List.setIfInBounds_toArray, List.set_cons_zero, List.set_cons_succ])
      | (refine take_drop (i := 9) (v := undef) rfl (by kernel_rfl) (by kernel_rfl) (by kernel_rfl) (fun _ _ _ h => h) (Or.inr ⟨by rfl, rfl⟩) (by assumption) ?_; try simp only [Act.put, List.setIfInBounds_toArray, List.set_cons_zero, List.set_cons_succ])
    first
      | (refine take_drop (i := 10) (v := ?_) rfl (by kernel_rfl) (by kernel_rfl) (by kernel_rfl) (fun _ _ _ h => h) (Or.inl ⟨by rfl, ?_⟩) (by assumption) ?_; rotate_left 1; (focus (intro w hSw; (try dsimp only at hSw); go_simp; try with_reducible rfl)); try simp only [Act.put, List.setIfInBounds_toArray, List.set_cons_zero, List.set_cons_succ])
      | (refine take_drop (i := 10) (v := undef) rfl (by kernel_rfl) (by kernel_rfl) (by kernel_rfl) (fun _ _ _ h => h) (Or.inr ⟨by rfl, rfl⟩) (by assumption) ?_; try simp only [Act.put, List.setIfInBounds_toArray, List.set_cons_zero, List.set_cons_succ])
    first
      | (refine take_drop (i := 12) (v := ?_) rfl (by kernel_rfl) (by kernel_rfl) (by kernel_rfl) (fun _ _ _ h => h) (Or.inl ⟨by rfl, ?_⟩) (by assumption) ?_; rotate_left 1; (focus (intro w hSw; (try dsimp only at hSw); go_simp; try with_reducible rfl)); try simp only [Act.put, List.setIfInBounds_toArray, List.set_cons_zero, List.set_cons_succ])
      | (refine take_drop (i := 12) (v := undef) rfl (by kernel_rfl) (by kernel_rfl) (by kernel_rfl) (fun _ _ _ h => h) (Or.inr ⟨by rfl, rfl⟩) (by assumption) ?_; try simp only [Act.put, List.setIfInBounds_toArray, List.set_cons_zero, List.set_cons_succ])
    first
      | (refine take_drop (i := 13) (v := ?_) rfl (by kernel_rfl) (by kernel_rfl) (by kernel_rfl) (fun _ _ _ h => h) (Or.inl ⟨by rfl, ?_⟩) (by assumption) ?_; rotate_left 1; (focus (intro w hSw; (try dsimp only at hSw); go_simp; try with_reducible rfl)); try simp only [Act.put, List.setIfInBounds_toArray, List.set_cons_zero, List.set_cons_succ])
      | (refine take_drop (i := 13) (v := undef) rfl (by kernel_rfl) (by kernel_rfl) (by kernel_rfl) (fun _ _ _ h => h) (Or.inr ⟨by rfl, rfl⟩) (by assumption) ?_; try simp only [Act.put, List.setIfInBounds_toArray, List.set_cons_zero, List.set_cons_succ])
    refine wpAnyH_ready (rs := [11]) (by kernel_rfl) (by simp) ?_
    refine cons_drop rfl (fun K hK => ?_) AllReadyH.nil
    go_simp
    refine (D.out _ (HBW.out _ HD3.out)).mono ?_
    rintro e u4 ⟨rfl, hb⟩
    have HD4 : Hid (Below w4.heap.size w4 u4) := Lib.hid (HD3.out.trans (hb.mono HD3.out.size))
    clear hb
    go_wp2_with fail
    refine hK.out _ _ (HS.out _ HD4.out) (fun hH4 => ?_)
    clear hK K hH3
    try simp only [Act.put, List.setIfInBounds_toArray, List.set_cons_zero, List.set_cons_succ]
    refine wpAnyH_ready (rs := [14]) (by kernel_rfl) (by simp) ?_
    refine cons_drop rfl (fun K hK => ?_) AllReadyH.nil
    go_simp
    refine (RD.out _ (HBW.out _ HD4.out)).mono ?_
    rintro e u5 ⟨rfl, hb⟩
    have HD5 : Hid (Below w4.heap.size w4 u5) := Lib.hid (HD4.out.trans (hb.mono HD4.out.size))
    clear hb
    go_wp2_with fail
    refine hK.out _ _ (HS.out _ HD5.out) (fun hH5 => ?_)
    clear hK K hH4
    try simp only [Act.put, List.setIfInBounds_toArray, List.set_cons_zero, List.set_cons_succ]
    first
      | (refine take_drop (i := 15) (v := ?_) rfl (by kernel_rfl) (by kernel_rfl) (by kernel_rfl) (fun _ _ _ h => h) (Or.inl ⟨by rfl, ?_⟩) (by assumption) ?_; rotate_left 1; (focus (intro w hSw; (try dsimp only at hSw); go_simp; try with_reducible rfl)); try simp only [Act.put, List.setIfInBounds_toArray, List.set_cons_zero, List.set_cons_succ])
      | (refine take_drop (i := 15) (v := undef) rfl (by kernel_rfl) (by kernel_rfl) (by kernel_rfl) (fun _ _ _ h => h) (Or.inr ⟨by rfl, rfl⟩) (by assumption) ?_; try simp only [Act.put, List.setIfInBounds_toArray, List.set_cons_zero, List.set_cons_succ])
    first
      | (refine take_drop (i := 16) (v := ?_) rfl (by kernel_rfl) (by kernel_rfl) (by kernel_rfl) (fun _ _ _ h => h) (Or.inl ⟨by rfl, ?_⟩) (by assumption) ?_; rotate_left 1; (focus (intro w hSw; (try dsimp only at hSw); go_simp; try with_reducible rfl)); try simp only [Act.put, List.setIfInBounds_toArray, List.set_cons_zero, List.set_cons_succ])
      | (refine take_drop (i := 16) (v := undef) rfl (by kernel_rfl) (by kernel_rfl) (by kernel_rfl) (fun _ _ _ h => h) (Or.inr ⟨by rfl, rfl⟩) (by assumption) ?_; try simp only [Act.put, List.setIfInBounds_toArray, List.set_cons_zero, List.set_cons_succ])
    first
      | (refine take_drop (i := 17) (v := ?_) rfl (by kernel_rfl) (by kernel_rfl) (by kernel_rfl) (fun _ _ _ h => h) (Or.inl ⟨by rfl, ?_⟩) (by assumption) ?_; rotate_left 1; (focus (intro w hSw; (try dsimp only at hSw); go_simp; try with_reducible rfl)); try simp only [Act.put, List.setIfInBounds_toArray, List.set_cons_zero, List.set_cons_succ])
      | (refine take_drop (i := 17) (v := undef) rfl (by kernel_rfl) (by kernel_rfl) (by kernel_rfl) (fun _ _ _ h => h) (Or.inr ⟨by rfl, rfl⟩) (by assumption) ?_; try simp only [Act.put, List.setIfInBounds_toArray, List.set_cons_zero, List.set_cons_succ])
    first
      | (refine take_drop (i := 18) (v := ?_) rfl (by kernel_rfl) (by kernel_rfl) (by kernel_rfl) (fun _ _ _ h => h) (Or.inl ⟨by rfl, ?_⟩) (by assumption) ?_; rotate_left 1; (focus (intro w hSw; (try dsimp only at hSw); go_simp; try with_reducible rfl)); try simp only [Act.put, List.setIfInBounds_toArray, List.set_cons_zero, List.set_cons_succ])
      | (refine take_drop (i := 18) (v := undef) rfl (by kernel_rfl) (by kernel_rfl) (by kernel_rfl) (fun _ _ _ h => h) (Or.inr ⟨by rfl, rfl⟩) (by assumption) ?_; try simp only [Act.put, List.setIfInBounds_toArray, List.set_cons_zero, List.set_cons_succ])
    first
      | (refine take_drop (i := 19) (v := ?_) rfl (by kernel_rfl) (by kernel_rfl) (by kernel_rfl) (fun _ _ _ h => h) (Or.inl ⟨by rfl, ?_⟩) (by assumption) ?_; rotate_left 1; (focus (intro w hSw; (try dsimp only at hSw); go_simp; try with_reducible rfl)); try simp only [Act.put, List.setIfInBounds_toArray, List.set_cons_zero, List.set_cons_succ])
      | (refine take_drop (i := 19) (v := undef) rfl (by kernel_rfl) (by kernel_rfl) (by kernel_rfl) (fun _ _ _ h => h) (Or.inr ⟨by rfl, rfl⟩) (by assumption) ?_; try simp only [Act.put, List.setIfInBounds_toArray, List.set_cons_zero, List.set_cons_succ])
    first
      | (refine take_drop (i := 20) (v := ?_) rfl (by kernel_rfl) (by kernel_rfl) (by kernel_rfl) (fun _ _ _ h => h) (Or.inl ⟨by rfl, ?_⟩) (by assumption) ?_; rotate_left 1; (focus (intro w hSw; (try dsimp only at hSw); go_simp; try with_reducible rfl)); try simp only [Act.put, List.setIfInBounds_toArray, List.set_cons_zero, List.set_cons_succ])
      | (refine take_drop (i := 20) (v := undef) rfl (by kernel_rfl) (by kernel_rfl) (by kernel_rfl) (fun _ _ _ h => h) (Or.inr ⟨by rfl, rfl⟩) (by assumption) ?_; try simp only [Act.put, List.setIfInBounds_toArray, List.set_cons_zero, List.set_cons_succ])
    first
      | (refine take_drop (i := 21) (v := ?_) rfl (by kernel_rfl) (by kernel_rfl) (by kernel_rfl) (fun _ _ _ h => h) (Or.inl ⟨by rfl, ?_⟩) (by assumption) ?_; rotate_left 1; (focus (intro w hSw; (try dsimp only at hSw); go_simp; try with_reducible rfl)); try simp only [Act.put, List.setIfInBounds_toArray, List.set_cons_zero, List.set_cons_succ])
      | (refine take_drop (i := 21) (v := undef) rfl (by kernel_rfl) (by kernel_rfl) (by kernel_rfl) (fun _ _ _ h => h) (Or.inr ⟨by rfl, rfl⟩) (by assumption) ?_; try simp only [Act.put, List.setIfInBounds_toArray, List.set_cons_zero, List.set_cons_succ])
    first
      | (refine take_drop (i := 22) (v := ?_) rfl (by kernel_rfl) (by kernel_rfl) (by kernel_rfl) (fun _ _ _ h => h) (Or.inl ⟨by rfl, ?_⟩) (by assumption) ?_; rotate_left 1; (focus (intro w hSw; (try dsimp only at hSw); go_simp; try with_reducible rfl)); try simp only [Act.put, List.setIfInBounds_toArray, List.set_cons_zero, List.set_cons_succ])
      | (refine take_drop (i := 22) (v := undef) rfl (by kernel_rfl) (by kernel_rfl) (by kernel_rfl) (fun _ _ _ h => h) (Or.inr ⟨by rfl, rfl⟩) (by assumption) ?_; try simp only [Act.put, List.setIfInBounds_toArray, List.set_cons_zero, List.set_cons_succ])
    first
      | (refine take_drop (i := 23) (v := ?_) rfl (by kernel_rfl) (by kernel_rfl) (by kernel_rfl) (fun _ _ _ h => h) (Or.inl ⟨by rfl, ?_⟩) (by assumption) ?_; rotate_left 1; (focus (intro w hSw; (try dsimp only at hSw); go_simp; try with_reducible rfl)); try simp only [Act.put, List.setIfInBounds_toArray, List.set_cons_zero, List.set_cons_succ])
      | (refine take_drop (i := 23) (v := undef) rfl (by kernel_rfl) (by kernel_rfl) (by kernel_rfl) (fun _ _ _ h => h) (Or.inr ⟨by rfl, rfl⟩) (by assumption) ?_; try simp only [Act.put, List.setIfInBounds_toArray, List.set_cons_zero, List.set_cons_succ])
    first
      | (refine take_drop (i := 24) (v := ?_) rfl (by kernel_rfl) (by kernel_rfl) (by kernel_rfl) (fun _ _ _ h => h) (Or.inl ⟨by rfl, ?_⟩) (by assumption) ?_; rotate_left 1; (focus (intro w hSw; (try dsimp only at hSw); go_simp; try with_reducible rfl)); try simp only [Act.put, List.setIfInBounds_toArray, List.set_cons_zero, List.set_cons_succ])
      | (refine take_drop (i := 24) (v := undef) rfl (by kernel_rfl) (by kernel_rfl) (by kernel_rfl) (fun _ _ _ h => h) (Or.inr ⟨by rfl, rfl⟩) (by assumption) ?_; try simp only [Act.put, List.setIfInBounds_toArray, List.set_cons_zero, List.set_cons_succ])
    first
      | (refine take_drop (i := 25) (v := ?_) rfl (by kernel_rfl) (by kernel_rfl) (by kernel_rfl) (fun _ _ _ h => h) (Or.inl ⟨by rfl, ?_⟩) (by assumption) ?_; rotate_left 1; (focus (intro w hSw; (try dsimp only at hSw); go_simp; try with_reducible rfl)); try simp only [Act.put, List.setIfInBounds_toArray, List.set_cons_zero, List.set_cons_succ])
      | (refine take_drop (i := 25) (v := undef) rfl (by kernel_rfl) (by kernel_rfl) (by kernel_rfl) (fun _ _ _ h => h) (Or.inr ⟨by rfl, rfl⟩) (by assumption) ?_; try simp only [Act.put, List.setIfInBounds_toArray, List.set_cons_zero, List.set_cons_succ])
    first
      | (refine take_drop (i := 26) (v := ?_) rfl (by kernel_rfl) (by kernel_rfl) (by kernel_rfl) (fun _ _ _ h => h) (Or.inl ⟨by rfl, ?_⟩) (by assumption) ?_; rotate_left 1; (focus (intro w hSw; (try dsimp only at hSw); go_simp; try with_reducible rfl)); try simp only [Act.put, List.setIfInBounds_toArray, List.set_cons_zero, List.set_cons_succ])
      | (refine take_drop (i := 26) (v := undef) rfl (by kernel_rfl) (by kernel_rfl) (by kernel_rfl) (fun _ _ _ h => h) (Or.inr ⟨by rfl, rfl⟩) (by assumption) ?_; try simp only [Act.put, List.setIfInBounds_toArray, List.set_cons_zero, List.set_cons_succ])
    first
      | (refine take_drop (i := 27) (v := ?_) rfl (by kernel_rfl) (by kernel_rfl) (by kernel_rfl) (fun _ _ _ h => h) (Or.inl ⟨by rfl, ?_⟩) (by assumption) ?_; rotate_left 1; (focus (intro w hSw; (try dsimp only at hSw); go_simp; try with_reducible rfl)); try simp only [Act.put, List.setIfInBounds_toArray, List.set_cons_zero, List.set_cons_succ])
      | (refine take_drop (i := 27) (v := undef) rfl (by kernel_rfl) (by kernel_rfl) (by kernel_rfl) (fun _ _ _ h => h) (Or.inr ⟨by rfl, rfl⟩) (by assumption) ?_; try simp only [Act.put, List.setIfInBounds_toArray, List.set_cons_zero, List.set_cons_succ])
    first
      | (refine take_drop (i := 28) (v := ?_) rfl (by kernel_rfl) (by kernel_rfl) (by kernel_rfl) (fun _ _ _ h => h) (Or.inl ⟨by rfl, ?_⟩) (by assumption) ?_; rotate_left 1; (focus (intro w hSw; (try dsimp only at hSw); go_simp; try with_reducible rfl)); try simp only [Act.put, List.setIfInBounds_toArray, List.set_cons_zero, List.set_cons_succ])
      | (refine take_drop (i := 28) (v := undef) rfl (by kernel_rfl) (by kernel_rfl) (by kernel_rfl) (fun _ _ _ h => h) (Or.inr ⟨by rfl, rfl⟩) (by assumption) ?_; try simp only [Act.put, List.setIfInBounds_toArray, List.set_cons_zero, List.set_cons_succ])
    first
      | (refine take_drop (i := 29) (v := ?_) rfl (by kernel_rfl) (by kernel_rfl) (by kernel_rfl) (fun _ _ _ h => h) (Or.inl ⟨by rfl, ?_⟩) (by assumption) ?_; rotate_left 1; (focus (intro w hSw; (try dsimp only at hSw); go_simp; try with_reducible rfl)); try simp only [Act.put, List.setIfInBounds_toArray, List.set_cons_zero, List.set_cons_succ])
      | (refine take_drop (i := 29) (v := undef) rfl (by kernel_rfl) (by kernel_rfl) (by kernel_rfl) (fun _ _ _ h => h) (Or.inr ⟨by rfl, rfl⟩) (by assumption) ?_; try simp only [Act.put, List.setIfInBounds_toArray, List.set_cons_zero, List.set_cons_succ])
    first
      | (refine take_drop (i := 31) (v := ?_) rfl (by kernel_rfl) (by kernel_rfl) (by kernel_rfl) (fun _ _ _ h => h) (Or.inl ⟨by rfl, ?_⟩) (by assumption) ?_; rotate_left 1; (focus (intro w hSw; (try dsimp only at hSw); go_simp; try with_reducible rfl)); try simp only [Act.put, List.setIfInBounds_toArray, List.set_cons_zero, List.set_cons_succ])
      | (refine take_drop (i := 31) (v := undef) rfl (by kernel_rfl) (by kernel_rfl) (by kernel_rfl) (fun _ _ _ h => h) (Or.inr ⟨by rfl, rfl⟩) (by assumption) ?_; try simp only [Act.put, List.setIfInBounds_toArray, List.set_cons_zero, List.set_cons_succ])
    first
      | (refine take_drop (i := 32) (v := ?_) rfl (by kernel_rfl) (by kernel_rfl) (by kernel_rfl) (fun _ _ _ h => h) (Or.inl ⟨by rfl, ?_⟩) (by assumption) ?_; rotate_left 1; (focus (intro w hSw; (try dsimp only at hSw); go_simp; try with_reducible rfl)); try simp only [Act.put, List.setIfInBounds_toArray, List.set_cons_zero, List.set_cons_succ])
      | (refine take_drop (i := 32) (v := undef) rfl (by kernel_rfl) (by kernel_rfl) (by kernel_rfl) (fun _ _ _ h => h) (Or.inr ⟨by rfl, rfl⟩) (by assumption) ?_; try simp only [Act.put, List.setIfInBounds_toArray, List.set_cons_zero, List.set_cons_succ])
    refine wpAnyH_ready (rs := [30]) (by kernel_rfl) (by simp) ?_
    refine cons_drop rfl (fun K hK => ?_) AllReadyH.nil
    go_simp
    refine (DL.out _ (HBW.out _ HD5.out)).mono ?_
    rintro e u6 ⟨rfl, hb⟩
    have HD6 : Hid (Below w4.heap.size w4 u6) := Lib.hid (HD5.out.trans (hb.mono HD5.out.size))
    clear hb
    go_wp2_with fail
    refine hK.out _ _ (HS.out _ HD6.out) (fun hH6 => ?_)
    clear hK K hH5
    try simp only [Act.put, List.setIfInBounds_toArray, List.set_cons_zero, List.set_cons_succ]
    refine wpAnyH_ready (rs := [33]) (by kernel_rfl) (by simp) ?_
    refine cons_drop rfl (fun K hK => ?_) AllReadyH.nil
    go_simp
    refine (RDL.out _ (HBW.out _ HD6.out)).mono ?_
    rintro e u7 ⟨rfl, hb⟩
    have HD7 : Hid (Below w4.heap.size w4 u7) := Lib.hid (HD6.out.trans (hb.mono HD6.out.size))
    clear hb
    go_wp2_with fail
    refine hK.out _ _ (HS.out _ HD7.out) (fun hH7 => ?_)
    clear hK K hH6
    try simp only [Act.put, List.setIfInBounds_toArray, List.set_cons_zero, List.set_cons_succ]
    first
      | (refine take_drop (i := 34) (v := ?_) rfl (by kernel_rfl) (by kernel_rfl) (by kernel_rfl) (fun _ _ _ h => h) (Or.inl ⟨by rfl, ?_⟩) (by assumption) ?_; rotate_left 1; (focus (intro w hSw; (try dsimp only at hSw); go_simp; try with_reducible rfl)); try simp only [Act.put, List.setIfInBounds_toArray, List.set_cons_zero, List.set_cons_succ])
      | (refine take_drop (i := 34) (v := undef) rfl (by kernel_rfl) (by kernel_rfl) (by kernel_rfl) (fun _ _ _ h => h) (Or.inr ⟨by rfl, rfl⟩) (by assumption) ?_; try simp only [Act.put, List.setIfInBounds_toArray, List.set_cons_zero, List.set_cons_succ])
    first
      | (refine take_drop (i := 35) (v := ?_) rfl (by kernel_rfl) (by kernel_rfl) (by kernel_rfl) (fun _ _ _ h => h) (Or.inl ⟨by rfl, ?_⟩) (by assumption) ?_; rotate_left 1; (focus (intro w hSw; (try dsimp only at hSw); go_simp; try with_reducible rfl)); try simp only [Act.put, List.setIfInBounds_toArray, List.set_cons_zero, List.set_cons_succ])
      | (refine take_drop (i := 35) (v := undef) rfl (by kernel_rfl) (by kernel_rfl) (by kernel_rfl) (fun _ _ _ h => h) (Or.inr ⟨by rfl, rfl⟩) (by assumption) ?_; try simp only [Act.put, List.setIfInBounds_toArray, List.set_cons_zero, List.set_cons_succ])
    first
      | (refine take_drop (i := 36) (v := ?_) rfl (by kernel_rfl) (by kernel_rfl) (by kernel_rfl) (fun _ _ _ h => h) (Or.inl ⟨by rfl, ?_⟩) (by assumption) ?_; rotate_left 1; (focus (intro w hSw; (try dsimp only at hSw); go_simp; try with_reducible rfl)); try simp only [Act.put, List.setIfInBounds_toArray, List.set_cons_zero, List.set_cons_succ])
      | (refine take_drop (i := 36) (v := undef) rfl (by kernel_rfl) (by kernel_rfl) (by kernel_rfl) (fun _ _ _ h => h) (Or.inr ⟨by rfl, rfl⟩) (by assumption) ?_; try simp only [Act.put, List.setIfInBounds_toArray, List.set_cons_zero, List.set_cons_succ])
    first
      | (refine take_drop (i := 37) (v := ?_) rfl (by kernel_rfl) (by kernel_rfl) (by kernel_rfl) (fun _ _ _ h => h) (Or.inl ⟨by rfl, ?_⟩) (by assumption) ?_; rotate_left 1; (focus (intro w hSw; (try dsimp only at hSw); go_simp; try with_reducible rfl)); try simp only [Act.put, List.setIfInBounds_toArray, List.set_cons_zero, List.set_cons_succ])
      | (refine take_drop (i := 37) (v := undef) rfl (by kernel_rfl) (by kernel_rfl) (by kernel_rfl) (fun _ _ _ h => h) (Or.inr ⟨by rfl, rfl⟩) (by assumption) ?_; try simp only [Act.put, List.setIfInBounds_toArray, List.set_cons_zero, List.set_cons_succ])
    first
      | (refine take_drop (i := 39) (v := ?_) rfl (by kernel_rfl) (by kernel_rfl) (by kernel_rfl) (fun _ _ _ h => h) (Or.inl ⟨by rfl, ?_⟩) (by assumption) ?_; rotate_left 1; (focus (intro w hSw; (try dsimp only at hSw); go_simp; try with_reducible rfl)); try simp only [Act.put, List.setIfInBounds_toArray, List.set_cons_zero, List.set_cons_succ])
      | (refine take_drop (i := 39) (v := undef) rfl (by kernel_rfl) (by kernel_rfl) (by kernel_rfl) (fun _ _ _ h => h) (Or.inr ⟨by rfl, rfl⟩) (by assumption) ?_; try simp only [Act.put, List.setIfInBounds_toArray, List.set_cons_zero, List.set_cons_succ])
    refine wpAnyH_ready (rs := [38]) (by kernel_rfl) (by simp) ?_
    refine cons_drop rfl (fun K hK => ?_) AllReadyH.nil
    go_simp
    refine (T.out _ (HBW.out _ HD7.out)).mono ?_
    rintro e u8 ⟨rfl, hb⟩
    have HD8 : Hid (Below w4.heap.size w4 u8) := Lib.hid (HD7.out.trans (hb.mono HD7.out.size))
    clear hb
    go_wp2_with fail
    refine hK.out _ _ (HS.out _ HD8.out) (fun hH8 => ?_)
    clear hK K hH7
    try simp only [Act.put, List.setIfInBounds_toArray, List.set_cons_zero, List.set_cons_succ]
    refine wpAnyH_ready (rs := [40]) (by kernel_rfl) (by simp) ?_
    refine cons_drop rfl (fun K hK => ?_) AllReadyH.nil
    go_simp
    refine (RT.out _ (HBW.out _ HD8.out)).mono ?_
    rintro e u9 ⟨rfl, hb⟩
    have HD9 : Hid (Below w4.heap.size w4 u9) := Lib.hid (HD8.out.trans (hb.mono HD8.out.size))
    clear hb
    go_wp2_with fail
    refine hK.out _ _ (HS.out _ HD9.out) (fun hH9 => ?_)
    clear hK K hH8
    try simp only [Act.put, List.setIfInBounds_toArray, List.set_cons_zero, List.set_cons_succ]
    first
      | (refine take_drop (i := 41) (v := ?_) rfl (by kernel_rfl) (by kernel_rfl) (by kernel_rfl) (fun _ _ _ h => h) (Or.inl ⟨by rfl, ?_⟩) (by assumption) ?_; rotate_left 1; (focus (intro w hSw; (try dsimp only at hSw); go_simp; try with_reducible rfl)); try simp only [Act.put, List.setIfInBounds_toArray, List.set_cons_zero, List.set_cons_succ])
      | (refine take_drop (i := 41) (v := undef) rfl (by kernel_rfl) (by kernel_rfl) (by kernel_rfl) (fun _ _ _ h => h) (Or.inr ⟨by rfl, rfl⟩) (by assumption) ?_; try simp only [Act.put, List.setIfInBounds_toArray, List.set_cons_zero, List.set_cons_succ])
    first
      | (refine take_drop (i := 42) (v := ?_) rfl (by kernel_rfl) (by kernel_rfl) (by kernel_rfl) (fun _ _ _ h => h) (Or.inl ⟨by rfl, ?_⟩) (by assumption) ?_; rotate_left 1; (focus (intro w hSw; (try dsimp only at hSw); go_simp; try with_reducible rfl)); try simp only [Act.put, List.setIfInBounds_toArray, List.set_cons_zero, List.set_cons_succ])
      | (refine take_drop (i := 42) (v := undef) rfl (by kernel_rfl) (by kernel_rfl) (by kernel_rfl) (fun _ _ _ h => h) (Or.inr ⟨by rfl, rfl⟩) (by assumption) ?_; try simp only [Act.put, List.setIfInBounds_toArray, List.set_cons_zero, List.set_cons_succ])
    first
      | (refine take_drop (i := 43) (v := ?_) rfl (by kernel_rfl) (by kernel_rfl) (by kernel_rfl) (fun _ _ _ h => h) (Or.inl ⟨by rfl, ?_⟩) (by assumption) ?_; rotate_left 1; (focus (intro w hSw; (try dsimp only at hSw); go_simp; try with_reducible rfl)); try simp only [Act.put, List.setIfInBounds_toArray, List.set_cons_zero, List.set_cons_succ])
      | (refine take_drop (i := 43) (v := undef) rfl (by kernel_rfl) (by kernel_rfl) (by kernel_rfl) (fun _ _ _ h => h) (Or.inr ⟨by rfl, rfl⟩) (by assumption) ?_; try simp only [Act.put, List.setIfInBounds_toArray, List.set_cons_zero, List.set_cons_succ])
    refine wpAnyH_done (by kernel_rfl) ?_ _
    refine NoPanic.normal ?_
    go_wp2_with fail
    go_ret
    exact ⟨by simp, by rw [hba]; exact HBW.out _ HD9.out⟩
open Go.ChangeShapes Go.WideShapes Go.ChangeAt in
theorem matches_any (most : Int) (wt fb lim tmo : Nat) (x : Int) (now0 : Nat) (hfb : fb < 18446744073709551616) (htm : tmo < 18446744073709551616) (w : World) (ht : Tabs w) :
    Calls Tryd.prog 4 #[pol most wt fb lim tmo, .int .i64 x, .int .u64 now0] w fun e w' => e = .returned (.bool true) ∧ Below w.heap.size w w' := by
  obtain ⟨now, hn⟩ : ∃ now, now = min now0 9223372036854775807 := ⟨_, rfl⟩
  have hnl : now < 18446744073709551616 := by omega
  by_cases hv : Vld most wt lim tmo
  · by_cases hok : 1 ≤ x ∧ x < most
    · exact matches_walk most wt fb lim tmo x now0 now hn _ _ _ true true _ w (fun W _ => next_yes most wt fb lim tmo x now hv hok.1 hok.2 hnl W) (fun W _ => rnext_yes most wt fb lim tmo x now hfb hv hok.1 hok.2 hnl W)
        (fun W _ => valid_yes most wt fb lim tmo hv W) (fun W _ => rvalid_yes most wt fb lim tmo hv W) (fun W _ => delay_yes most wt fb lim tmo x hv W) (fun W _ => rdelay_any most wt fb lim tmo x hfb hv W)
        (fun W _ => deadline_any most wt fb lim tmo now hnl htm W) (fun W _ => rdeadline_any most wt fb lim tmo now hnl htm W) (fun W hW => ptext_yes most wt fb lim tmo hfb hv W (ht.later hW)) (fun W _ => rptext_yes most wt fb lim tmo hfb hv W)
    · have hno : ¬ Vld most wt lim tmo ∨ x < 1 ∨ most ≤ x := by
        by_cases h1 : x < 1
        · exact .inr (.inl h1)
        · exact .inr (.inr (by omega))
      exact matches_walk most wt fb lim tmo x now0 now hn 0 _ _ false true _ w (fun W _ => next_no most wt fb lim tmo x now hno W) (fun W _ => rnext_no most wt fb lim tmo x now hno W)
        (fun W _ => valid_yes most wt fb lim tmo hv W) (fun W _ => rvalid_yes most wt fb lim tmo hv W) (fun W _ => delay_yes most wt fb lim tmo x hv W) (fun W _ => rdelay_any most wt fb lim tmo x hfb hv W)
        (fun W _ => deadline_any most wt fb lim tmo now hnl htm W) (fun W _ => rdeadline_any most wt fb lim tmo now hnl htm W) (fun W hW => ptext_yes most wt fb lim tmo hfb hv W (ht.later hW)) (fun W _ => rptext_yes most wt fb lim tmo hfb hv W)
  · exact matches_walk most wt fb lim tmo x now0 now hn 0 0 _ false false _ w (fun W _ => next_no most wt fb lim tmo x now (.inl hv) W) (fun W _ => rnext_no most wt fb lim tmo x now (.inl hv) W)
      (fun W _ => valid_no most wt fb lim tmo hv W) (fun W _ => rvalid_no most wt fb lim tmo hv W) (fun W _ => delay_no most wt fb lim tmo x hv W) (fun W _ => rdelay_bad most wt fb lim tmo x hv W)
      (fun W _ => deadline_any most wt fb lim tmo now hnl htm W) (fun W _ => rdeadline_any most wt fb lim tmo now hnl htm W) (fun W _ => ptext_no most wt fb lim tmo hv W) (fun W _ => rptext_no most wt fb lim tmo hv W)
set_option maxRecDepth 100000 in
open Go.ChangeShapes Go.WideShapes Go.ChangeAt in
theorem matches_open {H : Type} {enc : TypeId × Value → H} {base b1 : Nat} {spare : Nat → Bool} {held : Bool} {d0 d1 d2 : DataW H} {p0 p1 p2 : List MemPlace} (v0 v1 v2 : Value) (W : World)
    (o0 : Value.okWide Tryd.prog W .any base 25 v0) (k0 : DataW.Trod enc Tryd.prog W b1 spare held 25 v0 d0 p0)
    (o1 : Value.okWide Tryd.prog W .any base 3 v1) (k1 : DataW.Trod enc Tryd.prog W b1 spare held 3 v1 d1 p1)
    (o2 : Value.okWide Tryd.prog W .any base 22 v2) (k2 : DataW.Trod enc Tryd.prog W b1 spare held 22 v2 d2 p2) (hL : laidMetH Tryd.prog Rows.retryMatchesRow.laid W) :
    Calls Tryd.prog 4 #[v0, v1, v2] W fun e w' => e = .returned (.bool true) ∧ Below W.heap.size W w' := by
  have ht : Tabs W := tabs_of_laid (by kernel_rfl) (by kernel_rfl) hL
  obtain ⟨most, wt, fb, lim, tmo, rfl, hw, hf, hl, ht0⟩ := policy_open v0 W o0 k0
  obtain ⟨a1, rfl, rfl, rfl, w1⟩ := open_int Tryd.underlying3 o1 k1
  obtain ⟨a2, rfl, rfl, rfl, w2⟩ := open_int Tryd.underlying22 o2 k2
  simp [Lit.wf, IntKind.min, IntKind.max, IntKind.bits, IntKind.signed] at w2
  have h := matches_any most wt fb lim tmo a1 a2.toNat hf ht0 W ht
  rw [Int.toNat_of_nonneg w2.1] at h
  exact h
end Fu
end Go.Proofs.YtdibokeinmhmbaaDoor
