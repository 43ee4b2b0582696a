/- RetryGrows: the walk. -/
import Derived.Test.YtbhfnaihfilahaaRtG
namespace Go.Proofs.Ytbhfnaihfilahaa
open Go.RowKit
namespace Rt
open Nm (ret_int ret_bool scaleW addW)
attribute [local go_sem] run_store_float

theorem grows_bad (most : Int) (wt fb lim tmo : Nat) (hv : ¬ Vld most wt lim tmo) (w : World) :
    Calls Try.prog 3 #[pol most wt fb lim tmo] w fun e w' => e = .returned (.bool true) ∧ Below w.heap.size w w' := by
  have V := Lib.hid (fun w => rvalid_no most wt fb lim tmo hv w)
  have A := Lib.hid alive_any
  clear hv
  unfold pol at *
  go_enter Try.func3, Try.ntmps3
  go_wp2_with fail
  refine (V.out _).mono ?_
  rintro e W1 ⟨rfl, hb1⟩
  have HB1 := Lib.hid (((Below.refl _ w).alloc (Nat.le_refl _) _).trans (hb1.mono (by simp)))
  clear hb1
  go_wp2_with fail
  refine (A.out _).mono ?_
  rintro e W2 ⟨rfl, hb2⟩
  have HB2 := Lib.hid (HB1.out.trans (hb2.mono HB1.out.size))
  clear hb2
  go_wp2_with fail
  go_ret
  exact ⟨rfl, HB2.out⟩

theorem keepG {w W W' : World} {bq : Nat} {most : Int} {wt fb lim tmo : Nat} (hz : w.heap.size < bq) (hb : Below W.heap.size W W') (h1 : Below w.heap.size w W) (h2 : bq < W.heap.size)
    (c1 : W.cell? ⟨w.heap.size, 1, none⟩ = some (.int .u64 wt)) (c3 : W.cell? ⟨w.heap.size, 3, none⟩ = some (.int .u64 lim))
    (d0 : W.cell? ⟨bq, 0, none⟩ = some (.int .i64 most)) (d1 : W.cell? ⟨bq, 1, none⟩ = some (.int .u64 wt)) (d2 : W.cell? ⟨bq, 2, none⟩ = some (.float .f64 fb)) (d3 : W.cell? ⟨bq, 3, none⟩ = some (.int .u64 lim)) (d4 : W.cell? ⟨bq, 4, none⟩ = some (.int .u64 tmo)) :
    Below w.heap.size w W' ∧ bq < W'.heap.size ∧ W'.cell? ⟨w.heap.size, 1, none⟩ = some (.int .u64 wt) ∧ W'.cell? ⟨w.heap.size, 3, none⟩ = some (.int .u64 lim) ∧ W'.cell? ⟨bq, 0, none⟩ = some (.int .i64 most) ∧ W'.cell? ⟨bq, 1, none⟩ = some (.int .u64 wt) ∧ W'.cell? ⟨bq, 2, none⟩ = some (.float .f64 fb) ∧ W'.cell? ⟨bq, 3, none⟩ = some (.int .u64 lim) ∧ W'.cell? ⟨bq, 4, none⟩ = some (.int .u64 tmo) := by
  have hs : w.heap.size < W.heap.size := by omega
  exact ⟨h1.trans (hb.mono h1.size), Nat.lt_of_lt_of_le h2 hb.size, (hb.cell (p := ⟨w.heap.size, 1, none⟩) hs).trans c1, (hb.cell (p := ⟨w.heap.size, 3, none⟩) hs).trans c3, (hb.cell (p := ⟨bq, 0, none⟩) h2).trans d0, (hb.cell (p := ⟨bq, 1, none⟩) h2).trans d1, (hb.cell (p := ⟨bq, 2, none⟩) h2).trans d2, (hb.cell (p := ⟨bq, 3, none⟩) h2).trans d3, (hb.cell (p := ⟨bq, 4, none⟩) h2).trans d4⟩

set_option maxHeartbeats 8000000 in
set_option maxRecDepth 100000 in
theorem grows_good (most : Int) (wt fb lim tmo : Nat) (hfb : fb < 18446744073709551616) (hv : Vld most wt lim tmo) (w : World) :
    Calls Try.prog 3 #[pol most wt fb lim tmo] w fun e w' => e = .returned (.bool true) ∧ Below w.heap.size w w' := by
  have V := Lib.hid (fun w => rvalid_yes most wt fb lim tmo hv w)
  have A := Lib.hid alive_any
  have D : Hid (∀ (k : Nat) (w : World), k < 100 → Calls Try.prog 8 #[pol most wt fb lim tmo, .int .i64 ((k : Int) + 1)] w fun e w' => e = .returned (.int .u64 (dl wt fb lim k)) ∧ Below w.heap.size w w') :=
    Lib.hid fun k w hk => (delay_yes most wt fb lim tmo ((k : Int) + 1) hv w).mono fun e w' ⟨he, hb⟩ => ⟨he.trans (ret_int (by rw [delayP_at wt fb lim k hk])), hb⟩
  have DX : Hid (∀ (x : Int) (w : World), Calls Try.prog 8 #[pol most wt fb lim tmo, .int .i64 x] w fun e w' => e = .returned (.int .u64 (delayP wt fb lim x)) ∧ Below w.heap.size w w') :=
    Lib.hid fun x w => delay_yes most wt fb lim tmo x hv w
  have x1 : delayP wt fb lim 1 = dl wt fb lim 0 := delayP_at wt fb lim 0 (by omega)
  have x0 : delayP wt fb lim 0 = 0 := by unfold delayP; rw [if_neg (by omega)]
  have x101 : delayP wt fb lim 101 = 0 := by unfold delayP; rw [if_neg (by omega)]
  have X1 := Lib.hid x1; have X0 := Lib.hid x0; have X101 := Lib.hid x101
  clear x1 x0 x101
  have D1 : Hid (∀ w : World, Calls Try.prog 8 #[pol most wt fb lim tmo, .int .i64 1] w fun e w' => e = .returned (.int .u64 (dl wt fb lim 0)) ∧ Below w.heap.size w w') :=
    Lib.hid fun w => D.out 0 w (by omega)
  have SN := Lib.hid (fun w => same_nan fb hfb w)
  have NN := Lib.hid mnan_any
  have G : Hid (∀ k, ¬ lim < dl wt fb lim (k + 1)) := Lib.hid fun k => by have := dl_le wt fb lim (k + 1); omega
  clear hv hfb
  unfold pol at *
  go_enter Try.func3, Try.ntmps3
  go_wp2_with fail
  refine (V.out _).mono ?_
  rintro e W1 ⟨rfl, hb1⟩
  obtain ⟨z, p0, p1, p2, p3, p4⟩ := (polAt_new w 25 most wt fb lim tmo).later hb1
  have HB := Lib.hid (((Below.refl _ w).alloc (Nat.le_refl _) _).trans (hb1.mono (by simp)))
  clear hb1
  go_wp2_with fail
  refine (D1.out _).mono ?_
  rintro e W2 ⟨rfl, hb2⟩
  have HP := Lib.hid (PolAt.later (PolAt.later ⟨z, p0, p1, p2, p3, p4⟩ ((Below.refl _ _).alloc (Nat.le_refl _) (.cells #[.int .i64 most, .int .u64 wt, .float .f64 fb, .int .u64 lim, .int .u64 tmo] 28))) hb2)
  have HQ := Lib.hid (PolAt.later (polAt_new W1 28 most wt fb lim tmo) hb2)
  have HB2 := Lib.hid ((HB.out.alloc HB.out.size _).trans (hb2.mono (by have := HB.out.size; simp; omega)))
  have hz : w.heap.size < W1.heap.size := by have := HB.out.size; omega
  clear hb2 p0 p1 p2 p3 p4 HB
  go_wp2_with fail
  go_loopw [4, 5] (fun l n wr => ∃ j : Nat, j ≤ 99 ∧ n = .int .i64 ((j : Int) + 1 + 1) ∧ l = .int .u64 (dl wt fb lim j) ∧ PolAt wr w.heap.size most wt fb lim tmo ∧ PolAt wr W1.heap.size most wt fb lim tmo ∧ Below w.heap.size w wr) (fun _ n _ => 102 - (intOf n).toNat)
  case atStart => exact ⟨0, by omega, rfl, rfl, HP.out, HQ.out, HB2.out⟩
  case round =>
    clear HP HQ HB2
    rename_i wr
    obtain ⟨j, hj, rfl, rfl, hp, hq, hb⟩ := hrel
    by_cases hlt : j < 99
    · have hj2 : ((j : Int) + 1 + 1) ≤ 100 := by omega
      have DJ : Hid (∀ w : World, Calls Try.prog 8 #[pol most wt fb lim tmo, .int .i64 ((j : Int) + 1 + 1)] w fun e w' => e = .returned (.int .u64 (dl wt fb lim (j + 1))) ∧ Below w.heap.size w w') :=
        Lib.hid fun w => by have := D.out (j + 1) w (by omega); simpa [pol] using this
      have HP := Lib.hid hp; have HB := Lib.hid hb
      obtain ⟨zq, q0, q1, q2, q3, q4⟩ := hq
      clear hp hb
      have Hgr := Lib.hid (dl_grows wt fb lim j)
      have Hna := Lib.hid (dl_nan wt fb lim j)
      have Hli := Lib.hid (G.out j)
      obtain ⟨d, hd⟩ : ∃ d, d = dl wt fb lim (j + 1) := ⟨_, rfl⟩
      obtain ⟨l, hl⟩ : ∃ l, l = dl wt fb lim j := ⟨_, rfl⟩
      rw [← hd] at DJ Hgr Hna Hli
      rw [← hl] at Hgr ⊢
      have HD := Lib.hid hd; have HL := Lib.hid hl
      clear hd hl
      unfold pol at *
      go_wp2_with fail
      refine (DJ.out _).mono ?_
      rintro e W3 ⟨rfl, hb3⟩
      have HP3 := Lib.hid (HP.out.later hb3)
      obtain ⟨zp, p0, p1, p2, p3, p4⟩ := HP3.out
      have HQ3 := Lib.hid (PolAt.later ⟨zq, q0, q1, q2, q3, q4⟩ hb3)
      have HB3 := Lib.hid (HB.out.trans (hb3.mono HB.out.size))
      clear hb3 q0 q1 q2 q3 q4
      have hli : decide (lim < d) = false := by have := Hli.out; simp; omega
      obtain ⟨B, hB⟩ : ∃ B : Int, B = 9007199254740992 := ⟨_, rfl⟩
      have arms : (FloatKind.f64.format.order fb 4607182418800017408 == some Ordering.gt || FloatKind.f64.format.order fb 4607182418800017408 == some Ordering.eq) = false ∨
          ((FloatKind.f64.format.order fb 4607182418800017408 == some Ordering.gt || FloatKind.f64.format.order fb 4607182418800017408 == some Ordering.eq) = true ∧ decide (d < l) = false) ∨
          ((FloatKind.f64.format.order fb 4607182418800017408 == some Ordering.gt || FloatKind.f64.format.order fb 4607182418800017408 == some Ordering.eq) = true ∧ decide (d < l) = true ∧ decide ((l : Int) < B) = false) := by
        have hgr := Hgr.out
        unfold geOne at hgr
        cases hge : (FloatKind.f64.format.order fb 4607182418800017408 == some Ordering.gt || FloatKind.f64.format.order fb 4607182418800017408 == some Ordering.eq) with
        | false => exact .inl rfl
        | true =>
          have hgr := hgr hge
          by_cases h : d < l
          · refine .inr (.inr ⟨rfl, by simpa using h, ?_⟩)
            simp only [decide_eq_false_iff_not]
            intro h2
            have := hgr (by omega)
            omega
          · exact .inr (.inl ⟨rfl, by simpa using h⟩)
      have nans : (nanF fb = true ∧ (d != 0) = false) ∨ nanF fb = false := by
        cases hn : nanF fb with
        | false => exact .inr rfl
        | true => exact .inl ⟨rfl, by rw [Hna.out hn]; rfl⟩
      rcases nans with ⟨hn, hz0⟩ | hn
      all_goals
        rw [hn] at SN
        clear hn
        have HBB := Lib.hid hB; clear hB
        rcases arms with hge | ⟨hge, hdl⟩ | ⟨hge, hdl, h53⟩
        all_goals
          go_wp2_with fail
          rw [← HBB.out]
          clear HBB
          go_quiet (first | ((go_at_call 9; exact Calls.quiet_of_same ((SN.out _).mono fun _ _ h => ⟨h.1, h.2.symm⟩))) | ((go_at_call 10; exact Calls.quiet_of_same ((NN.out _).mono fun _ _ h => ⟨h.1, h.2.symm⟩))))
          go_wp2_with fail
          go_roundw
          case rel => exact ⟨j + 1, by omega, by go_num, by rw [HD.out], HP3.out.later (below_drewN (Below.refl _ _) _), HQ3.out.later (below_drewN (Below.refl _ _) _), below_drewN HB3.out _⟩
          case measure => simp [intOf]; omega
    · obtain ⟨zp, _, p1, _, p3, _⟩ := hp
      obtain ⟨zq, q0, q1, q2, q3, q4⟩ := hq
      generalize hbq : W1.heap.size = bq at *
      have sp : ((lim : Int) < wt ∧ lim < wt ∧ decide (lim < wt) = true ∧ dl wt fb lim 0 = lim) ∨ (¬ (lim : Int) < wt ∧ ¬ lim < wt ∧ decide (lim < wt) = false ∧ dl wt fb lim 0 = wt) := by
        have e := dl_raw wt fb lim 0
        by_cases h : lim < wt
        · exact .inl ⟨by omega, h, by simpa using h, by rw [e]; show min wt lim = lim; omega⟩
        · exact .inr ⟨by omega, h, by simpa using h, by rw [e]; show min wt lim = wt; omega⟩
      rcases sp with ⟨hml, hmn, hmd, e0⟩ | ⟨hml, hmn, hmd, e0⟩
      all_goals
        have x1 := X1.out; have x0 := X0.out; have x101 := X101.out
        rw [e0] at x1
        clear D D1 SN NN G V e0 X1 X0 X101
        go_wp2_with fail
        go_region_held3 (fun W' => Below w.heap.size w W' ∧ bq < W'.heap.size ∧ W'.cell? ⟨w.heap.size, 1, none⟩ = some (.int .u64 wt) ∧ W'.cell? ⟨w.heap.size, 3, none⟩ = some (.int .u64 lim) ∧ W'.cell? ⟨bq, 0, none⟩ = some (.int .i64 most) ∧ W'.cell? ⟨bq, 1, none⟩ = some (.int .u64 wt) ∧ W'.cell? ⟨bq, 2, none⟩ = some (.float .f64 fb) ∧ W'.cell? ⟨bq, 3, none⟩ = some (.int .u64 lim) ∧ W'.cell? ⟨bq, 4, none⟩ = some (.int .u64 tmo))
          (first
            | (go_split_ands; exact keepG hz ((Below.refl _ _).drew) (by assumption) (by assumption) (by assumption) (by assumption) (by assumption) (by assumption) (by assumption) (by assumption) (by assumption))
            | (go_split_ands; exact keepG hz hb9 (by assumption) (by assumption) (by assumption) (by assumption) (by assumption) (by assumption) (by assumption) (by assumption) (by assumption))
            | go_keep)
          (first
            | (go_at_call 7; refine (A.out _).mono ?_; rintro e w' ⟨rfl, hb9⟩)
            | (go_at_call 8; refine (DX.out _ _).mono ?_; rintro e w' ⟨rfl, hb9⟩))
        all_goals
          go_wp2_with fail
          go_ret
          first
            | exact ⟨rfl, by assumption⟩
            | (go_split_ands; exact ⟨rfl, by assumption⟩)
            | (go_split_ands; exact ⟨rfl, Below.trans (by assumption) (Below.mono hb9 (Below.size (by assumption)))⟩)

open Go.ChangeShapes Go.WideShapes Go.ChangeAt in
theorem growsp_open {H : Type} {enc : TypeId × Value → H} {base b1 : Nat} {spare : Nat → Bool} {held : Bool} {d0 : DataW H} {p0 : List MemPlace} (v0 : Value) (W : World)
    (o0 : Value.okWide Try.prog W .any base 25 v0) (k0 : DataW.Trod enc Try.prog W b1 spare held 25 v0 d0 p0) :
    Calls Try.prog 3 #[v0] W fun e w' => e = .returned (.bool true) ∧ Below W.heap.size W w' := by
  obtain ⟨most, wt, fb, lim, tmo, rfl, hw, hf, hl, ht⟩ := policy_open v0 W o0 k0
  by_cases hv : Vld most wt lim tmo
  · exact grows_good most wt fb lim tmo hf hv W
  · exact grows_bad most wt fb lim tmo hv W
end Rt
end Go.Proofs.Ytbhfnaihfilahaa
