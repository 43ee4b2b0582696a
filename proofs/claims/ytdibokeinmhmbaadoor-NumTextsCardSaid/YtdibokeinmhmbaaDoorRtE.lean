/- retry's Next where there is none, Deadline, Default, and the example. -/
import Derived.Test.YtdibokeinmhmbaaDoorRtD
namespace Go.Proofs.YtdibokeinmhmbaaDoor
open Go.RowKit
namespace Rt
open Nm (ret_int ret_bool scaleW addW)

theorem next_no (most : Int) (wt fb lim tmo : Nat) (x : Int) (now : Nat) (h : ¬ Vld most wt lim tmo ∨ x < 1 ∨ most ≤ x) (w : World) :
    Calls Tryd.prog 11 #[pol most wt fb lim tmo, .int .i64 x, .int .u64 now] w fun e w' => e = .returned (.tuple #[.int .u64 0, .bool false]) ∧ Below w.heap.size w w' := by
  by_cases hv : Vld most wt lim tmo
  · have V := Lib.hid (fun w => valid_yes most wt fb lim tmo hv w)
    by_cases h1 : x < 1
    · clear h hv
      unfold pol at *
      go_enter Tryd.func11, Tryd.ntmps11
      go_wp2_with fail
      refine (V.out _).mono ?_
      rintro e W1 ⟨rfl, hb1⟩
      have HB := Lib.hid (((Below.refl _ w).alloc (Nat.le_refl _) _).trans (hb1.mono (by simp)))
      clear hb1
      go_wp2_with fail
      go_ret2
      exact ⟨rfl, HB.out⟩
    · have h2 : most ≤ x := by rcases h with h | h | h <;> first | exact absurd hv h | omega
      clear h hv
      unfold pol at *
      go_enter Tryd.func11, Tryd.ntmps11
      go_wp2_with fail
      refine (V.out _).mono ?_
      rintro e W1 ⟨rfl, hb1⟩
      obtain ⟨z, p0, p1, p2, p3, p4⟩ := (polAt_new w 30 most wt fb lim tmo).later hb1
      have HB := Lib.hid (((Below.refl _ w).alloc (Nat.le_refl _) _).trans (hb1.mono (by simp)))
      clear hb1
      go_wp2_with fail
      go_ret2
      exact ⟨rfl, HB.out⟩
  · have V := Lib.hid (fun w => valid_no most wt fb lim tmo hv w)
    clear h hv
    unfold pol at *
    go_enter Tryd.func11, Tryd.ntmps11
    go_wp2_with fail
    refine (V.out _).mono ?_
    rintro e W1 ⟨rfl, hb1⟩
    have HB := Lib.hid (((Below.refl _ w).alloc (Nat.le_refl _) _).trans (hb1.mono (by simp)))
    clear hb1
    go_wp2_with fail
    go_ret2
    exact ⟨rfl, HB.out⟩

theorem deadline_any (most : Int) (wt fb lim tmo : Nat) (now : Nat) (hnow : now < 18446744073709551616) (ht : tmo < 18446744073709551616) (w : World) :
    Calls Tryd.prog 16 #[pol most wt fb lim tmo, .int .u64 now] w fun e w' => e = .returned (.int .u64 (addW now (max tmo 1))) ∧ Below w.heap.size w w' := by
  have AD := Lib.hid (fun w => Nm.add_any now (max tmo 1) hnow (by omega) w)
  unfold pol at *
  clear hnow ht
  by_cases h0 : tmo = 0
  · subst h0
    have e : max 0 1 = 1 := rfl
    rw [e] at AD ⊢
    clear e
    go_enter Tryd.func16, Tryd.ntmps16
    go_wp2_with fail
    refine (AD.out _).mono ?_
    rintro e w' ⟨rfl, rfl⟩
    go_wp2_with fail
    go_ret
    exact ⟨rfl, (Below.refl _ _).alloc (Nat.le_refl _) _⟩
  · have e : max tmo 1 = tmo := by omega
    rw [e] at AD ⊢
    have hd1 : (1 : Int) ≤ tmo := by omega
    clear e h0
    go_enter Tryd.func16, Tryd.ntmps16
    go_wp2_with fail
    refine (AD.out _).mono ?_
    rintro e w' ⟨rfl, rfl⟩
    go_wp2_with fail
    go_ret
    exact ⟨rfl, (Below.refl _ _).alloc (Nat.le_refl _) _⟩

theorem run_store_float {P : Program} {a : Addr} {m : Mode} {w : World} (k : FloatKind) (b : Nat) : (store a (.float k b) m).run P w = stored P w a (.float k b) m := run_store P w a _ m rfl
attribute [local go_sem] run_store_float
theorem default_any (w : World) :
    Calls Tryd.prog 25 #[] w fun e w' => e = .returned (pol 3 2 4611686018427387904 100 10) ∧ Below w.heap.size w w' := by
  unfold pol
  go_enter Tryd.func25, Tryd.ntmps25
  go_wp2_with fail
  exact bodyPost_ret (v := .agg #[.int .i64 3, .int .u64 2, .float .f64 4611686018427387904, .int .u64 100, .int .u64 10]) (by simp [results, Tryd.results25, go_sem]) rfl ⟨rfl, (Below.refl _ _).alloc (Nat.le_refl _) _⟩

theorem dp1 : delayP 2 4611686018427387904 100 1 = 2 := by decide +kernel
theorem dp2 : delayP 2 4611686018427387904 100 2 = 4 := by decide +kernel
theorem dp3 : delayP 2 4611686018427387904 100 3 = 8 := by decide +kernel
theorem dp50 : delayP 2 4611686018427387904 100 50 = 100 := by decide +kernel
theorem alive_any (w : World) : Calls Tryd.prog 8 #[] w fun e w' => e = .returned (.bool true) ∧ Below w.heap.size w w' := by
  have hv : Vld 3 2 100 10 := by unfold Vld; decide
  have D1 : Hid (∀ w : World, Calls Tryd.prog 14 #[pol 3 2 4611686018427387904 100 10, .int .i64 1] w fun e w' => e = .returned (.int .u64 (2 : Nat)) ∧ Below w.heap.size w w') :=
    Lib.hid fun w => (delay_yes 3 2 4611686018427387904 100 10 1 hv w).mono fun e w' ⟨he, hb⟩ => ⟨he.trans (by rw [dp1]), hb⟩
  have D2 : Hid (∀ w : World, Calls Tryd.prog 14 #[pol 3 2 4611686018427387904 100 10, .int .i64 2] w fun e w' => e = .returned (.int .u64 (4 : Nat)) ∧ Below w.heap.size w w') :=
    Lib.hid fun w => (delay_yes 3 2 4611686018427387904 100 10 2 hv w).mono fun e w' ⟨he, hb⟩ => ⟨he.trans (by rw [dp2]), hb⟩
  have D3 : Hid (∀ w : World, Calls Tryd.prog 14 #[pol 3 2 4611686018427387904 100 10, .int .i64 3] w fun e w' => e = .returned (.int .u64 (8 : Nat)) ∧ Below w.heap.size w w') :=
    Lib.hid fun w => (delay_yes 3 2 4611686018427387904 100 10 3 hv w).mono fun e w' ⟨he, hb⟩ => ⟨he.trans (by rw [dp3]), hb⟩
  have D50 : Hid (∀ w : World, Calls Tryd.prog 14 #[pol 3 2 4611686018427387904 100 10, .int .i64 50] w fun e w' => e = .returned (.int .u64 (100 : Nat)) ∧ Below w.heap.size w w') :=
    Lib.hid fun w => (delay_yes 3 2 4611686018427387904 100 10 50 hv w).mono fun e w' ⟨he, hb⟩ => ⟨he.trans (by rw [dp50]), hb⟩
  have DF := Lib.hid default_any
  clear hv
  unfold pol at *
  go_enter Tryd.func8, Tryd.ntmps8
  go_wp2_with fail
  refine (DF.out _).mono ?_
  rintro e W1 ⟨rfl, hb1⟩
  go_wp2_with fail
  refine (D1.out _).mono ?_
  rintro e W2 ⟨rfl, hb2⟩
  obtain ⟨z2, p0, p1, p2, p3, p4⟩ := (polAt_new W1 30 3 2 4611686018427387904 100 10).later hb2
  have HB2 := Lib.hid ((hb1.alloc hb1.size (.cells #[.int .i64 3, .int .u64 2, .float .f64 4611686018427387904, .int .u64 100, .int .u64 10] 30)).trans (hb2.mono (by have := hb1.size; simp; omega)))
  clear hb2
  go_wp2_with fail
  refine (D2.out _).mono ?_
  rintro e W3 ⟨rfl, hb3⟩
  obtain ⟨z3, r0, r1, r2, r3, r4⟩ := PolAt.later ⟨z2, p0, p1, p2, p3, p4⟩ hb3
  have HB3 := Lib.hid (HB2.out.trans (hb3.mono HB2.out.size))
  clear hb3 HB2 p0 p1 p2 p3 p4
  go_wp2_with fail
  refine (D3.out _).mono ?_
  rintro e W4 ⟨rfl, hb4⟩
  obtain ⟨z4, s0, s1, s2, s3, s4⟩ := PolAt.later ⟨z3, r0, r1, r2, r3, r4⟩ hb4
  have HB4 := Lib.hid (HB3.out.trans (hb4.mono HB3.out.size))
  clear hb4 HB3 r0 r1 r2 r3 r4
  go_wp2_with fail
  refine (D50.out _).mono ?_
  rintro e W5 ⟨rfl, hb5⟩
  have HB5 := Lib.hid (HB4.out.trans (hb5.mono HB4.out.size))
  clear hb5 HB4
  go_wp2_with fail
  go_ret
  exact ⟨rfl, HB5.out⟩
end Rt
end Go.Proofs.YtdibokeinmhmbaaDoor
