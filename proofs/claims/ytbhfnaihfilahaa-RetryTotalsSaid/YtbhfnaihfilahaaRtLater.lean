/- RetryLater: the walk, and the opening of a policy. -/
import Derived.Test.YtbhfnaihfilahaaRtF
import Derived.Laws.Cover2
import Derived.Lib.SmallJoins
namespace Go.Proofs.Ytbhfnaihfilahaa
open Go.RowKit
namespace Rt
open Nm (ret_int ret_bool scaleW addW)

theorem addW_gt (now d : Nat) (h : now < 9223372036854775807) : now < addW now (max d 1) := by
  unfold addW; split <;> omega

attribute [local go_sem] run_store_float
theorem later_walk (most : Int) (wt fb lim tmo : Nat) (x : Int) (now0 : Nat) (hfb : fb < 18446744073709551616) (ht : tmo < 18446744073709551616) (w : World) :
    Calls Try.prog 4 #[pol most wt fb lim tmo, .int .i64 x, .int .u64 now0] w fun e w' => e = .returned (.bool true) ∧ Below w.heap.size w w' := by
  obtain ⟨now, hn⟩ : ∃ now : Nat, now = now0 % 9223372036854775807 := ⟨_, rfl⟩
  have hlt : now < 9223372036854775807 := by omega
  by_cases hok : Vld most wt lim tmo ∧ 1 ≤ x ∧ x < most
  · have N := Lib.hid (fun w => next_yes most wt fb lim tmo x now hok.1 hok.2.1 hok.2.2 (by omega) w)
    have RN := Lib.hid (fun w => rnext_yes most wt fb lim tmo x now hfb hok.1 hok.2.1 hok.2.2 (by omega) w)
    have hg := addW_gt now (delayP wt fb lim x) hlt
    generalize addW now (max (delayP wt fb lim x) 1) = at' at *
    have hg' : (now : Int) < at' := by omega
    clear hok hg
    have DL := Lib.hid (fun w => deadline_any most wt fb lim tmo now (by omega) ht w)
    have hdg := addW_gt now tmo hlt
    generalize addW now (max tmo 1) = dd at *
    have hdg' : (now : Int) < dd := by omega
    have e : (now0 : Int) % 9223372036854775807 = (now : Nat) := by omega
    have HE := Lib.hid e
    have A := Lib.hid alive_any
    clear e hn hlt hdg hfb ht
    unfold pol at *
    go_enter Try.func4, Try.ntmps4
    go_wp2_with fail
    rw [HE.out]
    refine (N.out _).mono ?_
    rintro e W1 ⟨rfl, hb1⟩
    obtain ⟨z1, p0, p1, p2, p3, p4⟩ := PolAt.later ((polAt_new w 25 most wt fb lim tmo).later ((Below.refl _ _).alloc (Nat.le_refl _) (.cells #[.int .i64 most, .int .u64 wt, .float .f64 fb, .int .u64 lim, .int .u64 tmo] 28))) hb1
    have hq := PolAt.later (polAt_new (w.alloc (.cells #[.int .i64 most, .int .u64 wt, .float .f64 fb, .int .u64 lim, .int .u64 tmo] 25)) 28 most wt fb lim tmo) hb1
    rw [World.size_alloc] at hq
    have HB1 := Lib.hid (((((Below.refl _ w).alloc (Nat.le_refl _) _).alloc (by simp) _)).trans (hb1.mono (by simp; omega)))
    clear hb1
    have HQ := Lib.hid hq
    clear hq
    go_wp2_with fail
    refine (RN.out _).mono ?_
    rintro e W2 ⟨rfl, hb2⟩
    have HQ2 := Lib.hid (HQ.out.later hb2)
    have HB2 := Lib.hid (HB1.out.trans (hb2.mono HB1.out.size))
    clear hb2 HB1 HQ p0 p1 p2 p3 p4
    go_wp2_with fail
    refine (A.out _).mono ?_
    rintro e W3 ⟨rfl, hb3⟩
    obtain ⟨z3, q0, q1, q2, q3, q4⟩ := HQ2.out.later hb3
    have HB3 := Lib.hid (HB2.out.trans (hb3.mono HB2.out.size))
    clear hb3 HB2 HQ2
    go_wp2_with fail
    refine (DL.out _).mono ?_
    rintro e W4 ⟨rfl, hb4⟩
    have HB4 := Lib.hid (HB3.out.trans (hb4.mono HB3.out.size))
    clear hb4 HB3
    go_wp2_with fail
    go_ret
    exact ⟨rfl, HB4.out⟩
  · have hno : ¬ Vld most wt lim tmo ∨ x < 1 ∨ most ≤ x := by
      by_cases hv : Vld most wt lim tmo
      · by_cases h1 : x < 1
        · exact .inr (.inl h1)
        · by_cases h2 : most ≤ x
          · exact .inr (.inr h2)
          · exact absurd ⟨hv, by omega, by omega⟩ hok
      · exact .inl hv
    have N := Lib.hid (fun w => next_no most wt fb lim tmo x now hno w)
    have RN := Lib.hid (fun w => rnext_no most wt fb lim tmo x now hno w)
    clear hok hno
    have DL := Lib.hid (fun w => deadline_any most wt fb lim tmo now (by omega) ht w)
    have hdg := addW_gt now tmo hlt
    generalize addW now (max tmo 1) = dd at *
    have hdg' : (now : Int) < dd := by omega
    have e : (now0 : Int) % 9223372036854775807 = (now : Nat) := by omega
    have HE := Lib.hid e
    have A := Lib.hid alive_any
    clear e hn hlt hdg hfb ht
    unfold pol at *
    go_enter Try.func4, Try.ntmps4
    go_wp2_with fail
    rw [HE.out]
    refine (N.out _).mono ?_
    rintro e W1 ⟨rfl, hb1⟩
    obtain ⟨z1, p0, p1, p2, p3, p4⟩ := PolAt.later ((polAt_new w 25 most wt fb lim tmo).later ((Below.refl _ _).alloc (Nat.le_refl _) (.cells #[.int .i64 most, .int .u64 wt, .float .f64 fb, .int .u64 lim, .int .u64 tmo] 28))) hb1
    have hq := PolAt.later (polAt_new (w.alloc (.cells #[.int .i64 most, .int .u64 wt, .float .f64 fb, .int .u64 lim, .int .u64 tmo] 25)) 28 most wt fb lim tmo) hb1
    rw [World.size_alloc] at hq
    have HB1 := Lib.hid (((((Below.refl _ w).alloc (Nat.le_refl _) _).alloc (by simp) _)).trans (hb1.mono (by simp; omega)))
    clear hb1
    have HQ := Lib.hid hq
    clear hq
    go_wp2_with fail
    refine (RN.out _).mono ?_
    rintro e W2 ⟨rfl, hb2⟩
    have HQ2 := Lib.hid (HQ.out.later hb2)
    have HB2 := Lib.hid (HB1.out.trans (hb2.mono HB1.out.size))
    clear hb2 HB1 HQ p0 p1 p2 p3 p4
    go_wp2_with fail
    refine (A.out _).mono ?_
    rintro e W3 ⟨rfl, hb3⟩
    obtain ⟨z3, q0, q1, q2, q3, q4⟩ := HQ2.out.later hb3
    have HB3 := Lib.hid (HB2.out.trans (hb3.mono HB2.out.size))
    clear hb3 HB2 HQ2
    go_wp2_with fail
    refine (DL.out _).mono ?_
    rintro e W4 ⟨rfl, hb4⟩
    have HB4 := Lib.hid (HB3.out.trans (hb4.mono HB3.out.size))
    clear hb4 HB3
    go_wp2_with fail
    go_ret
    exact ⟨rfl, HB4.out⟩

open Go.ChangeShapes Go.WideShapes Go.ChangeAt Go.Joins Go.Deep in
theorem float_cell {H : Type} {enc : TypeId × Value → H} {P : Program} {W : World} {base : Nat} {spare : Nat → Bool} {held : Bool} {t : TypeId} {k : FloatKind} {v : Value} {y : DataW H × List MemPlace} {n : Nat}
    (ht : P.underlying t = some (.float k)) (h : DataW.trod enc P W base spare held n t [v] = some y) : ∃ b, v = .float k b ∧ (Lit.float k b).wf = true := by
  cases n with
  | zero => simp [DataW.trod] at h
  | succ n =>
    cases v <;> simp [DataW.trod, ht] at h
    all_goals first | exact ⟨_, by rw [← h.1.1], by simpa [h.1.1] using h.1⟩ | (rename_i k' b; by_cases hk : k' = k <;> simp_all)

open Go.ChangeShapes Go.WideShapes Go.ChangeAt Go.Joins Go.Deep in
theorem policy_open {H : Type} {enc : TypeId × Value → H} {base b1 : Nat} {spare : Nat → Bool} {held : Bool} {d : DataW H} {p : List MemPlace} (v : Value) (W : World)
    (o : Value.okWide Try.prog W .any base 25 v) (k : DataW.Trod enc Try.prog W b1 spare held 25 v d p) :
    ∃ (most : Int) (wt fb lim tmo : Nat), v = pol most wt fb lim tmo ∧ wt < 18446744073709551616 ∧ fb < 18446744073709551616 ∧ lim < 18446744073709551616 ∧ tmo < 18446744073709551616 := by
  obtain ⟨cs, rfl, hsz⟩ := okWide_struct Try.underlying25 o
  have hC : Try.prog.cellsOf 25 = 5 := by kernel_rfl
  rw [hC] at hsz
  obtain ⟨fuel, hf⟩ := k
  obtain ⟨xs, n, _, _, _, hlen, hg⟩ := DataW.trod_struct Try.underlying25 hf
  obtain ⟨l⟩ := cs
  match l, hsz with
  | [c0, c1, c2, c3, c4], _ =>
    have one : ∀ (i : Nat) (hi : i < 5) (y : DataW H × List MemPlace), xs[i]? = some y → True := fun _ _ _ _ => trivial
    have g0 := hg 0 _ rfl
    have g1 := hg 1 _ rfl
    have g2 := hg 2 _ rfl
    have g3 := hg 3 _ rfl
    have g4 := hg 4 _ rfl
    have c1' : Try.prog.cellsOf 3 = 1 := by kernel_rfl
    have c2' : Try.prog.cellsOf 22 = 1 := by kernel_rfl
    have c3' : Try.prog.cellsOf 23 = 1 := by kernel_rfl
    match xs, hlen with
    | [y0, y1, y2, y3, y4], _ =>
      simp [Value.cells, c1', c2', c3'] at g0 g1 g2 g3 g4
      obtain ⟨a0, e0, _, w0⟩ := DataW.trod_int Try.underlying3 g0
      obtain ⟨a1, e1, _, w1⟩ := DataW.trod_int Try.underlying22 g1
      obtain ⟨a2, e2, w2⟩ := float_cell Try.underlying23 g2
      obtain ⟨a3, e3, _, w3⟩ := DataW.trod_int Try.underlying22 g3
      obtain ⟨a4, e4, _, w4⟩ := DataW.trod_int Try.underlying22 g4
      simp at e0 e1 e3 e4
      subst e0 e1 e2 e3 e4
      simp [Lit.wf, IntKind.min, IntKind.max, IntKind.bits, IntKind.signed] at w1 w3 w4
      simp [Lit.wf] at w2
      refine ⟨a0, a1.toNat, a2, a3.toNat, a4.toNat, ?_, by omega, ?_, by omega, by omega⟩
      · unfold pol
        rw [Int.toNat_of_nonneg w1.1, Int.toNat_of_nonneg w3.1, Int.toNat_of_nonneg w4.1]
      · exact w2

open Go.ChangeShapes Go.WideShapes Go.ChangeAt in
theorem later_open {H : Type} {enc : TypeId × Value → H} {base b1 : Nat} {spare : Nat → Bool} {held : Bool} {d0 d1 d2 : DataW H} {p0 p1 p2 : List MemPlace} (v0 v1 v2 : Value) (W : World)
    (o0 : Value.okWide Try.prog W .any base 25 v0) (k0 : DataW.Trod enc Try.prog W b1 spare held 25 v0 d0 p0)
    (o1 : Value.okWide Try.prog W .any base 3 v1) (k1 : DataW.Trod enc Try.prog W b1 spare held 3 v1 d1 p1)
    (o2 : Value.okWide Try.prog W .any base 22 v2) (k2 : DataW.Trod enc Try.prog W b1 spare held 22 v2 d2 p2) :
    Calls Try.prog 4 #[v0, v1, v2] W fun e w' => e = .returned (.bool true) ∧ Below W.heap.size W w' := by
  obtain ⟨most, wt, fb, lim, tmo, rfl, hw, hf, hl, ht⟩ := policy_open v0 W o0 k0
  obtain ⟨a1, rfl, rfl, rfl, w1⟩ := open_int Try.underlying3 o1 k1
  obtain ⟨a2, rfl, rfl, rfl, w2⟩ := open_int Try.underlying22 o2 k2
  simp [Lit.wf, IntKind.min, IntKind.max, IntKind.bits, IntKind.signed] at w2
  have h := later_walk most wt fb lim tmo a1 a2.toNat hf ht W
  rw [Int.toNat_of_nonneg w2.1] at h
  exact h
end Rt
end Go.Proofs.Ytbhfnaihfilahaa
