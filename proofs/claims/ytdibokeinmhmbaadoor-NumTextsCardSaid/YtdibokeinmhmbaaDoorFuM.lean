/- The reference's text of a policy. -/
import Derived.Test.YtdibokeinmhmbaaDoorFuI
import Derived.Test.YtdibokeinmhmbaaDoorRtF
namespace Go.Proofs.YtdibokeinmhmbaaDoor
open Go.RowKit
set_option linter.unusedVariables false
namespace Fu
open _root_.Go.Proofs.YtdibokeinmhmbaaDoor.Nm (bitsW)
open _root_.Go.Proofs.YtdibokeinmhmbaaDoor.Rt (pol Vld rvalid_yes rvalid_no PolAt polAt_new)
def decB (n : Nat) : ByteArray := ⟨(Lib.decDigits n).toArray⟩
theorem decB_size (n : Nat) (h : n < 18446744073709551616) : (decB n).size ≤ 20 := by
  show (Lib.decDigits n).toArray.size ≤ 20
  rw [List.size_toArray, Lib.decDigits_length]
  exact Lib.nDigits_le20 n h
theorem textW_size (v : Nat) : (textW v).size ≤ 17 := by
  unfold textW
  split
  · decide
  · split
    · decide
    · split
      · decide
      · split
        · decide
        · split
          · decide
          · rw [top_size v 16 (by omega)]; omega
theorem unsigned_any (u : Nat) (hu : u < 18446744073709551616) (w : World) : Calls Tryd.prog 35 #[.int .u64 u] w fun e w' => e = .returned (.string (decB u)) ∧ w' = w := by
  have HD : Hid (Calls Tryd.prog 53 #[.int .u64 u] w fun e w' => e = .returned (.string (decB u)) ∧ w' = w) := Lib.hid (rdigits_any u hu w)
  generalize decB u = r at *
  clear hu
  go_enter Tryd.func35, Tryd.ntmps35
  go_wp2_with fail
  refine HD.out.mono ?_
  rintro e w1 ⟨rfl, rfl⟩
  go_wp2_with fail
  go_ret
  exact ⟨rfl, rfl⟩
def polText (most : Int) (wt v lim tmo : Nat) : ByteArray := decB most.toNat ++ ⟨#[47]⟩ ++ decB wt ++ ⟨#[47]⟩ ++ textW v ++ ⟨#[47]⟩ ++ decB lim ++ ⟨#[47]⟩ ++ decB tmo
theorem rptext_no (most : Int) (wt fb lim tmo : Nat) (hv : ¬ Vld most wt lim tmo) (w : World) :
    Calls Tryd.prog 18 #[pol most wt fb lim tmo] w fun e w' => e = .returned (.string ⟨#[]⟩) ∧ Below w.heap.size w w' := by
  have HV := Lib.hid (fun w => rvalid_no most wt fb lim tmo hv w)
  clear hv
  unfold pol at *
  go_enter Tryd.func18, Tryd.ntmps18
  go_wp2_with fail
  refine (HV.out _).mono ?_
  rintro e w1 ⟨rfl, hb⟩
  go_wp2_with fail
  go_ret
  exact ⟨rfl, ((Below.refl _ w).alloc (Nat.le_refl _) _).trans (hb.mono (by simp))⟩
set_option maxRecDepth 100000 in
theorem rptext_yes (most : Int) (wt fb lim tmo : Nat) (hfb : fb < 18446744073709551616) (hv : Vld most wt lim tmo) (w : World) :
    Calls Tryd.prog 18 #[pol most wt fb lim tmo] w fun e w' => e = .returned (.string (polText most wt (bitsW fb) lim tmo)) ∧ Below w.heap.size w w' := by
  have HV := Lib.hid (fun w => rvalid_yes most wt fb lim tmo hv w)
  obtain ⟨v1, v2, v3, v4, v5⟩ := hv
  obtain ⟨m, hm⟩ : ∃ m : Nat, most = m := ⟨most.toNat, by omega⟩
  subst hm
  have u0 := Lib.hid (fun w => unsigned_any m (by omega) w)
  have u1 := Lib.hid (fun w => unsigned_any wt (by omega) w)
  have u2 := Lib.hid (fun w => rtext_any fb hfb w)
  have u3 := Lib.hid (fun w => unsigned_any lim (by omega) w)
  have u4 := Lib.hid (fun w => unsigned_any tmo (by omega) w)
  have l0 := decB_size m (by omega)
  have l1 := decB_size wt (by omega)
  have l2 := textW_size (bitsW fb)
  have l3 := decB_size lim (by omega)
  have l4 := decB_size tmo (by omega)
  unfold polText
  rw [show ((m : Int)).toNat = m from rfl]
  generalize decB m = a0 at *
  generalize decB wt = a1 at *
  generalize textW (bitsW fb) = a2 at *
  generalize decB lim = a3 at *
  generalize decB tmo = a4 at *
  have hcv : IntKind.u64.wrap (m : Int) = m := by
    show (m : Int) % 18446744073709551616 = m
    omega
  clear v1 v2 v3 v4 v5 hfb
  unfold pol at *
  go_enter Tryd.func18, Tryd.ntmps18
  go_wp2_with fail
  refine (HV.out _).mono ?_
  rintro e w1 ⟨rfl, hb⟩
  obtain ⟨z1, p0, p1, p2, p3, p4⟩ := PolAt.later (polAt_new w 25 (m : Int) wt fb lim tmo) hb
  have HB := Lib.hid (((Below.refl _ w).alloc (Nat.le_refl _) (.cells #[.int .i64 (m : Int), .int .u64 wt, .float .f64 fb, .int .u64 lim, .int .u64 tmo] 25)).trans (hb.mono (by simp)))
  clear hb HV
  have n1 : ¬ (9223372036854775807 < a0.size + 1) := by omega
  have n2 : ¬ (9223372036854775807 < a0.size + 1 + a1.size) := by omega
  have n3 : ¬ (9223372036854775807 < a0.size + 1 + a1.size + 1) := by omega
  have n4 : ¬ (9223372036854775807 < a0.size + 1 + a1.size + 1 + a2.size) := by omega
  have n5 : ¬ (9223372036854775807 < a0.size + 1 + a1.size + 1 + a2.size + 1) := by omega
  have n6 : ¬ (9223372036854775807 < a0.size + 1 + a1.size + 1 + a2.size + 1 + a3.size) := by omega
  have n7 : ¬ (9223372036854775807 < a0.size + 1 + a1.size + 1 + a2.size + 1 + a3.size + 1) := by omega
  have n8 : ¬ (9223372036854775807 < a0.size + 1 + a1.size + 1 + a2.size + 1 + a3.size + 1 + a4.size) := by omega
  go_wp2_with fail
  go_quiet (first
    | (go_at_call 35; (try rw [hcv]); first | exact Calls.quiet_of_same (u0.out _) | exact Calls.quiet_of_same (u1.out _) | exact Calls.quiet_of_same (u3.out _) | exact Calls.quiet_of_same (u4.out _))
    | (go_at_call 23; exact Calls.quiet_of_same (u2.out _)))
  go_wp2_with fail
  go_ret
  exact ⟨rfl, below_drewN HB.out _⟩
end Fu
end Go.Proofs.YtdibokeinmhmbaaDoor
