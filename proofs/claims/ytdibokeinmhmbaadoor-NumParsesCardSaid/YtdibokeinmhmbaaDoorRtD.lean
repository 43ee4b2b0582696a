/- retry's Delay of an invalid policy, Next, Deadline, Default, the example, and the reference's Delay and Next. -/
import Derived.Test.YtdibokeinmhmbaaDoorRtC
import Derived.Deep.RegionHeld3
import Derived.Laws.Tables
namespace Go.Proofs.YtdibokeinmhmbaaDoor
open Go.RowKit
namespace Rt
open Nm (ret_int ret_bool scaleW addW)

/-- Block b holds a policy. -/
def PolAt (W : World) (b : Nat) (most : Int) (wt fb lim tmo : Nat) : Prop :=
  b < W.heap.size ∧ W.cell? ⟨b, 0, none⟩ = some (.int .i64 most) ∧ W.cell? ⟨b, 1, none⟩ = some (.int .u64 wt) ∧ W.cell? ⟨b, 2, none⟩ = some (.float .f64 fb) ∧ W.cell? ⟨b, 3, none⟩ = some (.int .u64 lim) ∧ W.cell? ⟨b, 4, none⟩ = some (.int .u64 tmo)
theorem PolAt.later {W W' : World} {b : Nat} {most : Int} {wt fb lim tmo : Nat} (h : PolAt W b most wt fb lim tmo) (hb : Below W.heap.size W W') : PolAt W' b most wt fb lim tmo := by
  obtain ⟨h0, h1, h2, h3, h4, h5⟩ := h
  exact ⟨Nat.lt_of_lt_of_le h0 hb.size, (hb.cell (p := ⟨b, 0, none⟩) h0).trans h1, (hb.cell (p := ⟨b, 1, none⟩) h0).trans h2, (hb.cell (p := ⟨b, 2, none⟩) h0).trans h3, (hb.cell (p := ⟨b, 3, none⟩) h0).trans h4, (hb.cell (p := ⟨b, 4, none⟩) h0).trans h5⟩
theorem polAt_new (w : World) (t : TypeId) (most : Int) (wt fb lim tmo : Nat) : PolAt (w.alloc (.cells #[.int .i64 most, .int .u64 wt, .float .f64 fb, .int .u64 lim, .int .u64 tmo] t)) w.heap.size most wt fb lim tmo :=
  ⟨by simp, by simp [go_sem], by simp [go_sem], by simp [go_sem], by simp [go_sem], by simp [go_sem]⟩

theorem delay_no (most : Int) (wt fb lim tmo : Nat) (x : Int) (hv : ¬ Vld most wt lim tmo) (w : World) :
    Calls Tryd.prog 14 #[pol most wt fb lim tmo, .int .i64 x] w fun e w' => e = .returned (.int .u64 0) ∧ Below w.heap.size w w' := by
  have V := Lib.hid (fun w => valid_no most wt fb lim tmo hv w)
  unfold pol at *
  go_enter Tryd.func14, Tryd.ntmps14
  go_wp2_with fail
  refine (V.out _).mono ?_
  rintro e W1 ⟨rfl, hb1⟩
  have q6 : W1.cell? ⟨w.heap.size + 1 + 1, 0, none⟩ = some (.int .u64 0) := (hb1.cell (p := ⟨w.heap.size + 1 + 1, 0, none⟩) (by simp)).trans (by simp [go_sem])
  have q7 : W1.frozen? ⟨w.heap.size + 1 + 1, 0, none⟩ = false := (hb1.frozen (p := ⟨w.heap.size + 1 + 1, 0, none⟩) (by simp)).trans (by simp [go_sem])
  have hB : Below w.heap.size w W1 := ((((Below.refl _ _).alloc (Nat.le_refl _) _).alloc (by simp) _).alloc (by simp; omega) _).trans (hb1.mono (by simp; omega))
  have HB := Lib.hid hB
  clear hb1 hB
  go_wp2_with fail
  have hc : (W1.setCell ⟨w.heap.size + 1 + 1, 0, none⟩ (.int .u64 0)).cell? ⟨w.heap.size + 1 + 1, 0, none⟩ = some (.int .u64 0) := World.cell?_setCell_same' _ _ _ (by rw [q6]; rfl)
  exact bodyPost_ret (v := .int .u64 0) (by simp [results, Tryd.results14, go_sem, hc]) rfl ⟨rfl, HB.out.setCell (by simp; omega) _⟩

theorem next_yes (most : Int) (wt fb lim tmo : Nat) (x : Int) (now : Nat) (hv : Vld most wt lim tmo) (h1 : 1 ≤ x) (h2 : x < most) (hnow : now < 18446744073709551616) (w : World) :
    Calls Tryd.prog 11 #[pol most wt fb lim tmo, .int .i64 x, .int .u64 now] w fun e w' => e = .returned (.tuple #[.int .u64 (addW now (max (delayP wt fb lim x) 1)), .bool true]) ∧ Below w.heap.size w w' := by
  have V := Lib.hid (fun w => valid_yes most wt fb lim tmo hv w)
  have D := Lib.hid (fun w => delay_yes most wt fb lim tmo x hv w)
  have hd : delayP wt fb lim x ≤ 9223372036854775807 := by
    unfold delayP
    split
    · have := dl_le wt fb lim (x - 1).toNat; have := hv.2.2.2.1; omega
    · omega
  generalize delayP wt fb lim x = d at *
  have AD := Lib.hid (fun w => Nm.add_any now (max d 1) hnow (by omega) w)
  unfold pol at *
  clear hv hnow
  have h2' : ¬ most ≤ x := by omega
  by_cases h0 : d = 0
  · subst h0
    have e : max 0 1 = 1 := rfl
    rw [e] at AD ⊢
    clear hd e
    go_enter Tryd.func11, Tryd.ntmps11
    go_wp2_with fail
    refine (V.out _).mono ?_
    rintro e W1 ⟨rfl, hb1⟩
    obtain ⟨z, p0, p1, p2, p3, p4⟩ := (polAt_new w 30 most wt fb lim tmo).later hb1
    have HB := Lib.hid (((Below.refl _ w).alloc (Nat.le_refl _) _).trans (hb1.mono (by simp)))
    clear hb1
    go_wp2_with fail
    refine (D.out _).mono ?_
    rintro e W2 ⟨rfl, hb2⟩
    go_wp2_with fail
    refine (AD.out _).mono ?_
    rintro e w' ⟨rfl, rfl⟩
    go_wp2_with fail
    go_ret2
    exact ⟨rfl, HB.out.trans (hb2.mono HB.out.size)⟩
  · have e : max d 1 = d := by omega
    rw [e] at AD ⊢
    have hd1 : (1 : Int) ≤ d := by omega
    clear hd e h0
    go_enter Tryd.func11, Tryd.ntmps11
    go_wp2_with fail
    refine (V.out _).mono ?_
    rintro e W1 ⟨rfl, hb1⟩
    obtain ⟨z, p0, p1, p2, p3, p4⟩ := (polAt_new w 30 most wt fb lim tmo).later hb1
    have HB := Lib.hid (((Below.refl _ w).alloc (Nat.le_refl _) _).trans (hb1.mono (by simp)))
    clear hb1
    go_wp2_with fail
    refine (D.out _).mono ?_
    rintro e W2 ⟨rfl, hb2⟩
    go_wp2_with fail
    refine (AD.out _).mono ?_
    rintro e w' ⟨rfl, rfl⟩
    go_wp2_with fail
    go_ret2
    exact ⟨rfl, HB.out.trans (hb2.mono HB.out.size)⟩
end Rt
end Go.Proofs.YtdibokeinmhmbaaDoor
