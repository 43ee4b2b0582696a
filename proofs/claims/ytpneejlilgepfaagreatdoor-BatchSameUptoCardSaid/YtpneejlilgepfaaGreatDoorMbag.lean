/- Contract of package value's Same of two trees. -/
import Derived.Test.YtpneejlilgepfaaGreatDoorMbaf
namespace Go.Proofs.YtpneejlilgepfaaGreatDoor
open Go.RowKit
set_option linter.unusedVariables false
namespace Vt
open Nm (bitsW ret_int ret_bool)

set_option maxRecDepth 100000 in
set_option maxHeartbeats 2000000 in
theorem eqf_any (l l' : List VT) (A A' : Option Addr) (cap cap' : Nat) (hl : l.length ≤ cap) (hl' : l'.length ≤ cap') (hc : cap ≤ maxLen) (hc' : cap' ≤ maxLen)
    (ih : ∀ (i : Nat) (hi : i < l.length) (t' : VT) (w : World) (lo hi lo' hi' : Nat) (v v' : Value) (_ : Rep w lo hi l[i] v) (_ : hi ≤ w.heap.size) (_ : Rep w lo' hi' t' v') (_ : hi' ≤ w.heap.size),
      Calls Tryz.prog 71 #[v, v'] w fun e w' => e = .returned (.bool (l[i].same t')) ∧ Below w.heap.size w w')
    (w : World) (lo hi lo' hi' : Nat) (hk : KidsAt w lo hi l A) (hz : hi ≤ w.heap.size) (hk' : KidsAt w lo' hi' l' A') (hz' : hi' ≤ w.heap.size) :
    Calls Tryz.prog 108 #[.slice A l.length cap, .slice A' l'.length cap', .func (.func 71) #[] #[]] w fun e w' =>
      e = .returned (.bool (l.length == l'.length && (l.zip l').all (fun p => p.1.same p.2))) ∧ Below w.heap.size w w' := by
  unfold maxLen at hc hc'
  by_cases hll : l.length = l'.length
  · have IH := Lib.hid ih; have HK := Lib.hid hk; have HK' := Lib.hid hk'; clear ih hk hk'
    obtain ⟨m, hm⟩ : ∃ m, m = l'.length := ⟨_, rfl⟩
    rw [← hm] at hll hl' ⊢
    have HM := Lib.hid hm; clear hm
    subst hll
    rw [show (l.length == l.length) = true from by simp, Bool.true_and]
    go_enter Tryz.func108, Tryz.ntmps108
    go_wp2_with fail
    go_loopw [6, 17] (fun r i wr => ∃ (j : Nat), j ≤ l.length ∧ i = .int .i64 j ∧ r = .bool false ∧ ((l.zip l').take j).all (fun p => p.1.same p.2) = true ∧ Below w.heap.size w wr) (fun _ i _ => l.length - (intOf i).toNat)
    case atStart => exact ⟨0, by omega, rfl, rfl, rfl, Below.refl _ _⟩
    case round =>
      obtain ⟨j, hj, rfl, rfl, hy, hb⟩ := hrel
      have HY := Lib.hid hy; clear hy
      have hszr := hb.size
      have HB := Lib.hid hb; clear hb
      by_cases hlt : j < l.length
      · obtain ⟨b, off, hA, h1, h2, h3⟩ := (HK.out.later (HB.out.mono hz)).at_ (by omega)
        obtain ⟨k1, n1, f1, s1, L1, A1, cap1, e, d0, d1, d2, d3, d4, hr⟩ := h3 j hlt
        subst hA
        have HR := Lib.hid hr
        clear h3 e hr
        obtain ⟨b', off', hA', h1', h2', h3'⟩ := (HK'.out.later (HB.out.mono hz')).at_ (by have := HM.out; omega)
        obtain ⟨k2, n2, f2, s2, L2, A2, cap2, e, g0, g1, g2, g3, g4, hr⟩ := h3' j (by have := HM.out; omega)
        subst hA'
        have HR' := Lib.hid hr
        clear h3' e hr
        have hbl : b < wr.heap.size := by omega
        have hbl' : b' < wr.heap.size := by omega
        go_wp2_with fail
        refine (IH.out j hlt _ _ lo hi lo' hi' _ _ ((HR.out.alloc (by omega) _).alloc (by simp; omega) _) (by simp; omega) ((HR'.out.alloc (by omega) _).alloc (by simp; omega) _) (by simp; omega)).mono ?_
        rintro e w1 ⟨rfl, hb1⟩
        have HB1 := Lib.hid (((HB.out.alloc (by omega) _).alloc (by simp; omega) _).trans (hb1.mono (by simp; omega)))
        clear HB HR HR' hb1 d0 d1 d2 d3 d4 g0 g1 g2 g3 g4
        have hzl : j < (l.zip l').length := by rw [List.length_zip, ← HM.out]; simpa using hlt
        have hge : ((l.zip l')[j]'hzl).1.same ((l.zip l')[j]'hzl).2 = l[j].same (l'[j]'(by have := HM.out; omega)) := by rw [List.getElem_zip]
        have HGE := Lib.hid hge; clear hge
        cases hp : l[j].same (l'[j]'(by have := HM.out; omega)) with
        | true =>
          have HP := Lib.hid hp; clear hp
          go_wp2_with fail
          go_roundw
          case rel => exact ⟨j + 1, by omega, by go_num, rfl, by rw [all_take_succ _ _ _ hzl, HY.out, HGE.out, HP.out]; rfl, HB1.out⟩
          case measure => simp [intOf]; omega
        | false =>
          have HP := Lib.hid hp; clear hp
          go_wp2_with fail
          go_ret
          exact ⟨ret_bool (by rw [all_false _ _ j hzl (by rw [HGE.out]; exact HP.out)]), HB1.out⟩
      · have hj' : j = l.length := by omega
        have HJ := Lib.hid hj'
        clear hj'
        go_wp2_with fail
        go_ret
        have hall : (l.zip l').all (fun p => p.1.same p.2) = true := by
          have := HY.out
          rw [HJ.out, List.take_of_length_le (by rw [List.length_zip, ← HM.out]; simp)] at this
          exact this
        exact ⟨ret_bool (by rw [hall]), HB.out⟩
  · have hb0 : (l.length == l'.length) = false := by simpa using hll
    have hbI : ((l.length : Int) != (l'.length : Int)) = true := by simp; omega
    have hx : ((l.length == l'.length) && (l.zip l').all (fun p => p.1.same p.2)) = false := by rw [hb0]; rfl
    rw [hx]
    clear ih hk hk' hll hb0 hx
    generalize l.length = m at *
    generalize l'.length = m' at *
    go_enter Tryz.func108, Tryz.ntmps108
    go_wp2_with fail
    go_ret
    exact ⟨rfl, Below.refl _ _⟩

set_option maxRecDepth 100000 in
set_option maxHeartbeats 2000000 in
theorem same_fail (k n : Int) (f : Nat) (s : ByteArray) (A : Option Addr) (m cap : Nat) (k' n' : Int) (f' : Nat) (s' : ByteArray) (A' : Option Addr) (m' cap' : Nat) (hf : f < 18446744073709551616) (hf' : f' < 18446744073709551616)
    (R : Bool) (w : World)
    (he : (k = k' ∧ n = n' ∧ bitsW f = bitsW f' ∧ s = s') → ∀ w1 : World, Below w.heap.size w w1 → Calls Tryz.prog 108 #[.slice A m cap, .slice A' m' cap', .func (.func 71) #[] #[]] w1 fun e w' => e = .returned (.bool R) ∧ Below w1.heap.size w1 w')
    (hn : ¬ (k = k' ∧ n = n' ∧ bitsW f = bitsW f' ∧ s = s') → R = false) :
    Calls Tryz.prog 71 #[.agg #[.int .i64 k, .int .i64 n, .float .f64 f, .string s, .slice A m cap], .agg #[.int .i64 k', .int .i64 n', .float .f64 f', .string s', .slice A' m' cap']] w fun e w' =>
      e = .returned (.bool R) ∧ Below w.heap.size w w' := by
  have H := Lib.hid he; have HN := Lib.hid hn; clear he hn
  have SF := Nm.nsame_any f f' hf hf'
  have e1 : (Nm.rcmpW f f' == 0) = decide (bitsW f = bitsW f') := by
    rcases Nm.rcmp_cases f f' hf hf' with ⟨h1, -, h3⟩ | ⟨h1, -, h3⟩ | ⟨h1, -, h3⟩
    · rw [h1]; simp at h3; symm; simp; omega
    · rw [h1]; simp at h3; symm; simp; omega
    · rw [h1]; simp at h3; symm; simp; omega
  rw [e1] at SF
  clear e1
  have SF := Lib.hid SF
  have HB := Lib.hid ((box_below w k n f s A m cap).alloc (by simp) (.cells #[.int .i64 k', .int .i64 n', .float .f64 f', .string s', .slice A' m' cap'] 41))
  by_cases hh : k = k' ∧ n = n' ∧ bitsW f = bitsW f' ∧ s = s'
  · obtain ⟨rfl, rfl, q, rfl⟩ := hh
    have E := Lib.hid (H.out ⟨rfl, rfl, q, rfl⟩)
    rw [show decide (bitsW f = bitsW f') = true from by simpa using q] at SF
    clear q H HN
    go_enter Tryz.func71, Tryz.ntmps71
    go_wp2_with (go_at_call 107; refine (SF.out _).mono ?_; rintro e w' ⟨rfl, rfl⟩)
    refine (E.out _ HB.out).mono ?_
    rintro e w1 ⟨rfl, hb1⟩
    have HB1 := Lib.hid (HB.out.trans (hb1.mono (by simp; omega)))
    clear hb1
    go_wp2_with fail
    go_ret
    exact ⟨rfl, HB1.out⟩
  · have HR := Lib.hid (HN.out hh)
    have HH := Lib.hid hh
    clear H HN hh
    rw [HR.out]
    go_enter Tryz.func71, Tryz.ntmps71
    go_wp2_with (go_at_call 107; refine (SF.out _).mono ?_; rintro e w' ⟨rfl, rfl⟩)
    all_goals first
      | (go_ret; exact ⟨rfl, ((Below.refl _ _).alloc (Nat.le_refl _) _).alloc (by simp) _⟩)
      | (exfalso
         refine HH.out ⟨?_, ?_, ?_, ?_⟩
         all_goals clear HH SF HR HB
         all_goals first
           | assumption
           | exact (toList_inj s s').1 (by assumption)
           | omega)

theorem same_any (t : VT) : ∀ (t' : VT) (w : World) (lo hi lo' hi' : Nat) (v v' : Value) (_ : Rep w lo hi t v) (_ : hi ≤ w.heap.size) (_ : Rep w lo' hi' t' v') (_ : hi' ≤ w.heap.size),
    Calls Tryz.prog 71 #[v, v'] w fun e w' => e = .returned (.bool (t.same t')) ∧ Below w.heap.size w w' := by
  induction t using VT.ind with
  | _ k n f s l ih =>
    intro t' w lo hi lo' hi' v v' hR hz hR' hz'
    obtain ⟨k', n', f', s', l'⟩ := t'
    obtain ⟨A, cap, rfl, ho, hl, hk⟩ := hR.head
    obtain ⟨A', cap', rfl, ho', hl', hk'⟩ := hR'.head
    refine same_fail k n f s A l.length cap k' n' f' s' A' l'.length cap' ho.f1 ho'.f1 _ w ?_ ?_
    · rintro ⟨rfl, rfl, q, rfl⟩ w1 hb
      refine (eqf_any l l' A A' cap cap' hl hl' ho.m1 ho'.m1 ih w1 lo hi lo' hi' (hk.later (hb.mono hz)) (Nat.le_trans hz hb.size) (hk'.later (hb.mono hz')) (Nat.le_trans hz' hb.size)).mono fun e w' h => ⟨?_, h.2⟩
      rw [h.1, same_mk, q]
      simp
    · intro h
      rw [Bool.eq_false_iff]
      intro q
      obtain ⟨a, b, c, d, e, -⟩ := (same_iff ..).1 q
      exact h ⟨a, b, d, c⟩
end Vt
end Go.Proofs.YtpneejlilgepfaaGreatDoor
