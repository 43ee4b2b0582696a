/- Contract of package value's Valid of a tree, whole. -/
import Derived.Test.YtpneejlilgepfaaVtF
import Derived.Laws.EntriesVeiled
namespace Go.Proofs.Ytpneejlilgepfaa
open Go.RowKit
set_option linter.unusedVariables false
namespace Vt
open Nm (bitsW ret_int ret_bool)

set_option maxRecDepth 100000 in
set_option maxHeartbeats 1000000 in
theorem vout (k : Int) (hk : k < 0 ∨ 4 < k) (n : Int) (f : Nat) (s : ByteArray) (m cap : Nat) (A : Option Addr) (x : Int) (g : Nat) (w : World) :
    Calls Try.prog 53 #[.agg #[.int .i64 k, .int .i64 n, .float .f64 f, .string s, .slice A m cap], .int .i64 x, .pointer (some ⟨g, 0, none⟩)] w fun e w' => e = .returned (.bool false) ∧ Below w.heap.size w w' := by
  have HAB := Lib.hid (box_below w k n f s A m cap)
  have HBX := Lib.hid (BoxAt.new w k n f s A m cap)
  have BL := blank_any k n f s A m cap
  have e0 : blankV k n f s A m cap = .agg #[.int .i64 k, .int .i64 n, .float .f64 f, .string s, .slice A m cap] := by unfold blankV; rw [if_neg (by omega), if_neg (by omega), if_neg (by omega), if_neg (by omega)]
  have e1 : kindV k = .nilIface := by unfold kindV; rw [if_neg (by omega), if_neg (by omega), if_neg (by omega), if_neg (by omega), if_neg (by omega)]
  rw [e0] at BL
  have BL := Lib.hid BL
  have O := of_any k
  rw [e1] at O
  have O := Lib.hid O
  clear e0 e1
  go_enter Try.func53, Try.ntmps53
  go_wp2_with fail
  refine (BL.out _).mono ?_
  rintro e w1 ⟨rfl, hb1⟩
  have hbox := HBX.out.later hb1 (by simp)
  obtain ⟨c0, c1, c2, c3, c4⟩ := hbox.cells
  have hlt := hbox.lt
  have HB1 := Lib.hid (HAB.out.trans (hb1.mono (by simp)))
  clear hbox hb1 HBX HAB BL
  go_wp2_with fail
  refine (O.out _).mono ?_
  rintro e w' ⟨rfl, rfl⟩
  go_wp2_with fail
  go_ret
  exact ⟨rfl, HB1.out.alloc (by omega) _⟩

theorem walk_any (t : VT) : ∀ (x : Int) (_ : 0 ≤ x) (_ : x ≤ 8) (g : Nat) (w : World) (lo hi : Nat) (v : Value) (_ : Rep w lo hi t v) (_ : hi ≤ w.heap.size) (_ : WalkAt w g),
    Calls Try.prog 53 #[v, .int .i64 x, .pointer (some ⟨g, 0, none⟩)] w fun e w' => e = .returned (.bool (t.valid x.toNat)) ∧ Below w.heap.size w w' := by
  induction t using VT.ind with
  | _ k n f s l ih =>
    intro x hx0 hx1 g w lo hi v hR hz hw
    obtain ⟨A, cap, rfl, ho, hl, hk⟩ := hR.head
    have hp := parts_iff k n f s l x hx0
    generalize (VT.mk k n f s l).valid x.toNat = R at hp ⊢
    by_cases hh : HeadV k n f s l.length
    · rcases (by omega : k = 0 ∨ k = 1 ∨ k = 2 ∨ k = 3 ∨ k = 4 ∨ (k < 0 ∨ 4 < k)) with rfl | rfl | rfl | rfl | rfl | h6
      · rcases headV_cases hh with ⟨q, -⟩ | ⟨q, -⟩ | ⟨q, -⟩ | ⟨q, -⟩ | ⟨e1, e2, e3, e4, rfl, q1, q2, q3⟩ <;> first | (exfalso; omega) | skip
        obtain rfl := List.eq_nil_of_length_eq_zero q3
        refine (vpass_0 f s q1 q2 A cap x g w).mono fun e w' h => ⟨?_, h.2⟩
        rw [h.1]
        exact parts_true hp ⟨by omega, by omega, .inr rfl, .inr q1, .inr q2, .inr rfl, by omega, rfl⟩
      · rcases headV_cases hh with ⟨-, q1, q2, q3⟩ | ⟨q, -⟩ | ⟨q, -⟩ | ⟨q, -⟩ | ⟨q, -⟩ <;> first | (exfalso; omega) | skip
        obtain rfl := List.eq_nil_of_length_eq_zero q3
        refine (vpass_1 n f s q1 q2 A cap x g w).mono fun e w' h => ⟨?_, h.2⟩
        rw [h.1]
        exact parts_true hp ⟨by omega, by omega, .inl rfl, .inr q1, .inr q2, .inr rfl, by omega, rfl⟩
      · rcases headV_cases hh with ⟨q, -⟩ | ⟨-, rfl, q2, q3⟩ | ⟨q, -⟩ | ⟨q, -⟩ | ⟨-, q, -⟩ <;> first | (exfalso; omega) | skip
        obtain rfl := List.eq_nil_of_length_eq_zero q3
        refine (vpass_2 f s q2 A cap x g w).mono fun e w' h => ⟨?_, h.2⟩
        rw [h.1]
        exact parts_true hp ⟨by omega, by omega, .inr rfl, .inl rfl, .inr q2, .inr rfl, by omega, rfl⟩
      · rcases headV_cases hh with ⟨q, -⟩ | ⟨q, -⟩ | ⟨-, rfl, q2, q3⟩ | ⟨q, -⟩ | ⟨-, -, q, -⟩ <;> first | (exfalso; omega) | skip
        obtain rfl := List.eq_nil_of_length_eq_zero q3
        refine (vpass_3 f s q2 A cap x g w).mono fun e w' h => ⟨?_, h.2⟩
        rw [h.1]
        exact parts_true hp ⟨by omega, by omega, .inr rfl, .inr q2, .inl rfl, .inr rfl, by omega, rfl⟩
      · rcases headV_cases hh with ⟨q, -⟩ | ⟨q, -⟩ | ⟨q, -⟩ | ⟨-, rfl, q2, q3⟩ | ⟨-, -, -, q, -⟩ <;> first | (exfalso; omega) | skip
        refine (vlist f s l A cap q2 q3 hl ho.m1 x hx0 hx1 g (fun i hi x a b w lo hi' v c d e => ih i hi x a b g w lo hi' v c d e) w lo hi hk hz hw).mono fun e w' h => ⟨?_, h.2⟩
        rw [h.1]
        congr 2
        rw [Bool.eq_iff_iff, hp]
        unfold Parts
        simp only [Bool.and_eq_true, decide_eq_true_iff]
        constructor
        · rintro ⟨h1, h2⟩
          exact ⟨by omega, by omega, by simp, .inr q2, .inr q3, by simp, fun _ => h1, h2⟩
        · rintro ⟨-, -, -, -, -, -, h1, h2⟩
          exact ⟨h1 (by simp), h2⟩
      · refine (vout k h6 n f s l.length cap A x g w).mono fun e w' h => ⟨?_, h.2⟩
        rw [h.1]
        exact parts_false hp fun q => by obtain ⟨a, b, -⟩ := q; omega
    · have ff : Calls Try.prog 53 #[.agg #[.int .i64 k, .int .i64 n, .float .f64 f, .string s, .slice A l.length cap], .int .i64 x, .pointer (some ⟨g, 0, none⟩)] w fun e w' => e = .returned (.bool false) ∧ Below w.heap.size w w' := by
        rcases (by omega : k = 0 ∨ k = 1 ∨ k = 2 ∨ k = 3 ∨ k = 4 ∨ (k < 0 ∨ 4 < k)) with rfl | rfl | rfl | rfl | rfl | h6
        · exact vfail_0 n f s l.length cap A hh x g w
        · exact vfail_1 n f s l.length cap A hh x g w
        · exact vfail_2 n f s l.length cap A hh x g w
        · exact vfail_3 n f s l.length cap A hh x g w
        · exact vfail_4 n f s l.length cap A hh x g w
        · exact vout k h6 n f s l.length cap A x g w
      refine ff.mono fun e w' h => ⟨?_, h.2⟩
      rw [h.1]
      exact parts_false hp fun q => hh (headV_of q)

set_option maxHeartbeats 1000000 in
theorem valid_any (t : VT) (w : World) (lo hi : Nat) (v : Value) (hR : Rep w lo hi t v) (hz : hi ≤ w.heap.size) :
    Calls Try.prog 46 #[v] w fun e w' => e = .returned (.bool (t.valid 8)) ∧ Below w.heap.size w w' := by
  have hv := hR
  obtain ⟨k, n, f, s, l, A, cap, rfl, rfl, ho, hl, hk⟩ := hR.open_
  generalize ht : VT.mk k n f s l = t at *
  have HV := Lib.hid hv
  have WA := Lib.hid (walk_any t 8 (by omega) (by omega))
  clear hv hR ho hk ht
  go_enter Try.func46, Try.ntmps46
  go_wp2_with fail
  refine (WA.out (w.heap.size + 1) _ lo hi _ ?h1 ?h2 ?h3).mono ?_
  case h1 => exact (HV.out.alloc hz _).alloc (by simp; omega) _
  case h2 => simp; omega
  case h3 => exact ⟨by simp [go_sem], by simp⟩
  rintro e w1 ⟨rfl, hb1⟩
  have HB2 := Lib.hid ((((Below.refl w.heap.size w).alloc (Nat.le_refl _) _).alloc (by simp) _).trans (hb1.mono (by simp; omega)))
  clear hb1
  go_wp2_with fail
  go_ret
  exact ⟨rfl, HB2.out⟩
end Vt
end Go.Proofs.Ytpneejlilgepfaa
