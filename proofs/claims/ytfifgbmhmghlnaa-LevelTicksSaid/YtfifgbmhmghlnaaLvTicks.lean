/- LevelTicks: for every n, now and at the law returns true. No condition. -/
import Derived.Test.YtfifgbmhmghlnaaLvB
import Derived.ProofKit
import Derived.OpenShut
namespace Go.Proofs.Ytfifgbmhmghlnaa
open Go.RowKit
namespace Lv

/-- What every tick of the law's last row needs: the slot's first tick. -/
theorem tick_law (k at' : Nat) (hk : k ≤ 3) :
    startOf k at' (slotOf k at') ≤ at' ∧ slotOf k (startOf k at' (slotOf k at')) = slotOf k at' ∧ turnOf k (startOf k at' (slotOf k at')) = turnOf k at' := by
  unfold startOf slotOf turnOf
  rcases (by omega : k = 0 ∨ k = 1 ∨ k = 2 ∨ k = 3) with rfl | rfl | rfl | rfl
  all_goals simp only [W64, Nat.reduceAdd, Nat.reducePow, Nat.zero_add]
  all_goals omega

set_option maxHeartbeats 1000000 in
theorem ticks_walk (k now at' : Nat) (n : Int) (hn : n % 4 = k) (hn0 : 0 ≤ n) (hn1 : n ≤ 255) (hk : k ≤ 3) (h : at' < 18446744073709551616) (h' : now < 18446744073709551616) (w : World) :
    Calls Try.prog 3 #[.int .u8 n, .int .u64 now, .int .u64 at'] w fun e w' => e = .returned (.bool true) ∧ Below w.heap.size w w' := by
  have HN := Lib.hid hn; clear hn
  go_enter Try.func3, Try.ntmps3
  go_wp2_with fail
  rw [HN.out]
  refine (new_any k hk _).mono ?_
  rintro e w' ⟨rfl, rfl⟩
  have hc := cell_new w k
  have hb : Below w.heap.size w (w.alloc (.cells (fresh k) 42)) := (Below.refl _ _).alloc (Nat.le_refl _) _
  have hl : w.heap.size < (w.alloc (.cells (fresh k) 42)).heap.size := by simp
  generalize w.alloc (.cells (fresh k) 42) = w1 at *
  obtain ⟨b, hbz⟩ : ∃ b, b = w.heap.size := ⟨_, rfl⟩
  rw [← hbz] at hc hl ⊢
  have HL := Lib.hid hl; clear hl
  have HB := Lib.hid hb; clear hb
  have HZ := Lib.hid hbz; clear hbz
  go_wp2_with fail
  refine (slot_any k hk b at' h w1 hc).mono ?_
  rintro e w' ⟨rfl, rfl⟩
  go_wp2_with fail
  refine (rslot_any k hk at' h _).mono ?_
  rintro e w' ⟨rfl, rfl⟩
  go_wp2_with fail
  refine (fits_any k hk b now at' _ hc).mono ?_
  rintro e w' ⟨rfl, rfl⟩
  go_wp2_with fail
  refine (rfits_any k hk now at' h h' _).mono ?_
  rintro e w' ⟨rfl, m, rfl⟩
  go_wp2_with fail
  go_loopw [10] (fun i wr => ∃ j m : Nat, j ≤ 66 ∧ i = .int .i64 ((j : Int) - 1) ∧ wr = w1.drewN m) (fun i _ => 66 - (intOf i + 1).toNat)
  case atStart => exact ⟨0, m, by omega, rfl, rfl⟩
  case round =>
    obtain ⟨j, m, hj, rfl, rfl⟩ := hrel
    by_cases hlt : j < 66
    · go_wp2_with fail
      refine (start_any k hk b now _ h' _ (by simpa using hc)).mono ?_
      rintro e w' ⟨rfl, m2, rfl⟩
      go_wp2_with fail
      refine (rstart_any k hk now _ h' _).mono ?_
      rintro e w' ⟨rfl, m3, rfl⟩
      go_wp2_with fail
      go_roundw
      case rel => exact ⟨j + 1, _, by omega, by go_num, rfl⟩
      case measure => simp [intOf]; omega
    · go_wp2_with fail
      have hs1 := slotOf_lt k at'
      refine (start_in k hk b at' (slotOf k at') hs1 h _ (by simpa using hc)).mono ?_
      rintro e w' ⟨rfl, m4, rfl⟩
      go_wp2_with fail
      refine (alive_any _).mono ?_
      rintro e w2 ⟨rfl, hb2⟩
      obtain ⟨t1, t2, t3⟩ := tick_law k at' hk
      have hz1 : b < w1.heap.size := HL.out
      have hc2 : w2.cell? ⟨b, 0, none⟩ = some (.int .i64 k) := (hb2.cell (p := ⟨b, 0, none⟩) (by simpa using hz1)).trans (by simpa using hc)
      have ts : startOf k at' (slotOf k at') < 18446744073709551616 := startOf_lt k at' _ hk hs1 h
      have hend : Below w.heap.size w w2 := (below_drewN HB.out _).trans (hb2.mono (by have := HZ.out; simp; omega))
      have HE := Lib.hid hend; clear hend
      obtain ⟨x, hx⟩ : ∃ x, x = startOf k at' (slotOf k at') := ⟨_, rfl⟩
      rw [← hx] at t1 t2 t3 ts ⊢
      have HT2 := Lib.hid t2; clear t2
      have HT3 := Lib.hid t3; clear t3
      clear hx hb2
      have hle : ((x : Int) ≤ (at' : Int)) := by omega
      go_wp2_with fail
      refine (slot_any k hk b x ts _ hc2).mono ?_
      rintro e w' ⟨rfl, rfl⟩
      rw [HT2.out]
      go_wp2_with fail
      refine (fits_any k hk b x at' _ hc2).mono ?_
      rintro e w' ⟨rfl, rfl⟩
      rw [HT3.out]
      go_wp2_with fail
      go_ret
      exact ⟨by simp, HE.out⟩
open Go.ChangeShapes Go.WideShapes Go.ChangeAt in
theorem ticks_open {H : Type} {enc : TypeId × Value → H} {base b1 : Nat} {spare : Nat → Bool} {held : Bool} {d0 d1 d2 : DataW H} {p0 p1 p2 : List MemPlace} (v0 v1 v2 : Value) (W : World)
    (o0 : Value.okWide Try.prog W .any base 5 v0) (k0 : DataW.Trod enc Try.prog W b1 spare held 5 v0 d0 p0)
    (o1 : Value.okWide Try.prog W .any base 22 v1) (k1 : DataW.Trod enc Try.prog W b1 spare held 22 v1 d1 p1)
    (o2 : Value.okWide Try.prog W .any base 22 v2) (k2 : DataW.Trod enc Try.prog W b1 spare held 22 v2 d2 p2) :
    Calls Try.prog 3 #[v0, v1, v2] W fun e w' => e = .returned (.bool true) ∧ Below W.heap.size W w' := by
  obtain ⟨a0, rfl, rfl, rfl, w0⟩ := open_int Try.underlying5 o0 k0
  obtain ⟨a1, rfl, rfl, rfl, w1⟩ := open_int Try.underlying22 o1 k1
  obtain ⟨a2, rfl, rfl, rfl, w2⟩ := open_int Try.underlying22 o2 k2
  simp [Lit.wf, IntKind.min, IntKind.max, IntKind.bits, IntKind.signed] at w0 w1 w2
  obtain ⟨n1, rfl⟩ := Int.eq_ofNat_of_zero_le w1.1
  obtain ⟨n2, rfl⟩ := Int.eq_ofNat_of_zero_le w2.1
  obtain ⟨k, hk⟩ : ∃ k : Nat, a0 % 4 = k := ⟨(a0 % 4).toNat, by omega⟩
  exact ticks_walk k n1 n2 a0 hk w0.1 (by omega) (by omega) (by omega) (by omega) W
end Lv
end Go.Proofs.Ytfifgbmhmghlnaa
