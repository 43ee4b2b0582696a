/- The iterator of delays (retry.delays$2), walked inside the wide fence, for whatever loop body. -/
import Derived.Test.YtdibokeinmhmbaaDoorRtA
import Derived.Test.YtdibokeinmhmbaaDoorRtLaw
import Derived.OwnWalkIn
import Derived.TacticsInMore
import Derived.LoopNIn
import Derived.LoopIn
namespace Go.Proofs.YtdibokeinmhmbaaDoor
open Go.RowKit
namespace Rt
open Nm (ret_int ret_bool scaleW addW)
attribute [local go_sem] Oper.semAt_some

/-- The delay after attempt k + 1; the captured cell at the head of round k. -/
def dl (wt fb lim : Nat) : Nat → Nat
  | 0 => min wt lim
  | k + 1 => min (scaleW (dl wt fb lim k) fb) lim
def rawD (wt fb lim : Nat) : Nat → Nat
  | 0 => wt
  | k + 1 => scaleW (dl wt fb lim k) fb
theorem dl_raw (wt fb lim k : Nat) : dl wt fb lim k = min (rawD wt fb lim k) lim := by cases k <;> rfl
theorem raw_succ (wt fb lim k : Nat) : rawD wt fb lim (k + 1) = scaleW (dl wt fb lim k) fb := rfl
theorem dl_le (wt fb lim k : Nat) : dl wt fb lim k ≤ lim := by rw [dl_raw]; exact Nat.min_le_right _ _

/-- The iterator's own cells: d holds v; the policy's factor and limit; grow. -/
def Own3 (bd bp bg fb lim v : Nat) (W : World) : Prop :=
  W.cell? ⟨bd, 0, none⟩ = some (.int .u64 v) ∧ W.frozen? ⟨bd, 0, none⟩ = false ∧ W.cell? ⟨bp, 2, none⟩ = some (.float .f64 fb) ∧ W.cell? ⟨bp, 3, none⟩ = some (.int .u64 lim) ∧
  W.cell? ⟨bg, 0, none⟩ = some (.func (.func 51) #[] #[.pointer (some ⟨bd, 0, none⟩), .pointer (some ⟨bp, 0, none⟩)])

set_option maxHeartbeats 2000000 in
set_option maxRecDepth 100000 in
theorem iter_in (n : Nat) (hn : 3 ≤ n) (l bd bp bg wt fb lim : Nat) (hlim : lim < 18446744073709551616) (H I A : Nat → World → Prop) (B : Code → World → Prop) (L : World → Prop) (L' : Code → World → Prop)
    (hH : ∀ k W, H k W → Own3 bd bp bg fb lim (rawD wt fb lim k) W)
    (hHI : ∀ k W, k < 100 → H k W → I k (W.setCell ⟨bd, 0, none⟩ (.int .u64 (dl wt fb lim k))))
    (hA : ∀ k W, A k W → Own3 bd bp bg fb lim (dl wt fb lim k) W)
    (hAH : ∀ k W, A k W → H (k + 1) (W.setCell ⟨bd, 0, none⟩ (.int .u64 (rawD wt fb lim (k + 1)))))
    (hL : ∀ W v, L W → L (W.setCell ⟨bd, 0, none⟩ v))
    (hY : ∀ k W, I k W → L W → YieldAt Fence.wide (n - 1) Tryd.prog l #[.int .i64 ((k : Int) + 1), .int .u64 (dl wt fb lim k)] W fun e W' => (e = .returned (.bool true) ∧ A k W' ∧ L W') ∨ (e = .returned (.bool false) ∧ ∃ c, B c W' ∧ L' c W'))
    (W0 : World) (h0 : H 0 W0) (hl0 : L W0) :
    CallsIn Fence.wide n Tryd.prog 52 #[.func (.yield l) #[] #[], .pointer (some ⟨bd, 0, none⟩), .pointer (some ⟨bp, 0, none⟩), .pointer (some ⟨bg, 0, none⟩)] W0 fun e W' => (∃ v, e = .returned v) ∧ ((H 100 W' ∧ L W') ∨ ∃ c, B c W' ∧ L' c W') := by
  refine callsIn_of_wp Tryd.func52 rfl trivial ?_ rfl
  simp only [Tryd.ntmps52, List.size_toArray, List.length_cons, List.length_nil, Nat.reduceAdd, Nat.reduceSub, Array.replicate_succ, Array.replicate_zero, List.push_toArray, List.append_toArray, List.nil_append, List.cons_append]
  gi_wp2
  gi_loopw [5] (fun x W => ∃ k : Nat, k ≤ 100 ∧ x = .int .i64 ((k : Int) + 1) ∧ H k W ∧ L W) (fun x _ => 101 - (intOf x).toNat)
  case atStart => exact ⟨0, by omega, rfl, h0, hl0⟩
  case round =>
    obtain ⟨k, hk, rfl, hh, hl⟩ := hrel
    by_cases hlt : k < 100
    · obtain ⟨c1, c2, c3, c4, c5⟩ := hH k _ hh
      have hi := hHI k _ hlt hh
      have hl2 := hL _ (.int .u64 (dl wt fb lim k)) hl
      have hdl := dl_raw wt fb lim k
      obtain ⟨fn, tmps, assign, body, hy, hR⟩ := hY k _ hi hl2
      obtain ⟨v, hv⟩ : ∃ v, v = dl wt fb lim k := ⟨_, rfl⟩
      rw [← hv] at hy hR hi hl2 hdl
      have HV := Lib.hid hv
      clear hi hl2 hv hh hl
      by_cases hml : (lim : Int) < rawD wt fb lim k
      · have hvl : v = lim := by omega
        subst hvl
        clear hdl
        gi_wp2
        refine ⟨fun _ => by omega, hR.mono ?_⟩
        rintro e W3 (⟨rfl, ha, hl3⟩ | ⟨rfl, c, hb, hl3⟩)
        · obtain ⟨d1, d2, d3, d4, d5⟩ := hA k _ ha
          have hnext := hAH k _ ha
          have hlnext := hL _ (.int .u64 (rawD wt fb v (k + 1))) hl3
          rw [raw_succ] at hnext hlnext
          rw [← HV.out] at d1 hnext hlnext
          have HN := Lib.hid hnext; have HLN := Lib.hid hlnext
          clear hnext hlnext ha hl3
          gi_wp2_with fail
          refine ⟨trivial, fun _ => by omega, (callsIn_wide.2 (grow_any bd bp v fb (by omega) W3 d1 d2 d3)).mono ?_⟩
          rintro e w' ⟨⟨x, rfl⟩, rfl⟩
          clear d1 d2 d3 d4 d5 hy hR c1 c2 c3 c4 c5
          gi_wp2_with fail
          go_roundw
          case rel => exact ⟨k + 1, by omega, by go_num, HN.out, HLN.out⟩
          case measure => simp [intOf]; omega
        · gi_wp2
          refine bodyPost_ret (results_none rfl _ _ _) rfl ?_
          exact ⟨⟨_, rfl⟩, .inr ⟨c, hb, hl3⟩⟩
      · have hvr : v = rawD wt fb lim k := by omega
        clear hdl
        rw [← hvr] at c1
        have HVR := Lib.hid hvr
        have hml2 : ¬ (lim : Int) < v := by omega
        clear hvr hml
        gi_wp2
        refine ⟨fun _ => by omega, hR.mono ?_⟩
        rintro e W3 (⟨rfl, ha, hl3⟩ | ⟨rfl, c, hb, hl3⟩)
        · obtain ⟨d1, d2, d3, d4, d5⟩ := hA k _ ha
          have hnext := hAH k _ ha
          have hlnext := hL _ (.int .u64 (rawD wt fb lim (k + 1))) hl3
          rw [raw_succ] at hnext hlnext
          rw [← HV.out] at d1 hnext hlnext
          have HN := Lib.hid hnext; have HLN := Lib.hid hlnext
          clear hnext hlnext ha hl3
          gi_wp2_with fail
          refine ⟨trivial, fun _ => by omega, (callsIn_wide.2 (grow_any bd bp v fb (by omega) W3 d1 d2 d3)).mono ?_⟩
          rintro e w' ⟨⟨x, rfl⟩, rfl⟩
          clear d1 d2 d3 d4 d5 hy hR c1 c2 c3 c4 c5
          gi_wp2_with fail
          go_roundw
          case rel => exact ⟨k + 1, by omega, by go_num, HN.out, HLN.out⟩
          case measure => simp [intOf]; omega
        · gi_wp2
          refine bodyPost_ret (results_none rfl _ _ _) rfl ?_
          exact ⟨⟨_, rfl⟩, .inr ⟨c, hb, hl3⟩⟩
    · obtain rfl : k = 100 := by omega
      gi_wp2
      go_end0
      exact ⟨⟨_, rfl⟩, .inl ⟨hh, hl⟩⟩
end Rt
end Go.Proofs.YtdibokeinmhmbaaDoor
