/- Contract of the reference's Same of two trees. -/
/- Contract of package value's Same of two trees. -/
/- Contract of slices.Clone of a list of values. -/
/- Contract of package value's Clone of a tree: a copy in new memory. -/
/- Contract of package value's Clone of a tree: the walk. -/
import Derived.Test.YtcbddebmmaflgaaGreatDoorMhad
import Derived.Test.YtcbddebmmaflgaaGreatDoorMhaf
import Derived.StillTailTactics
import Derived.Laws.OwnMore
import Derived.Deep.RegionHeld3
namespace Go.Proofs.YtcbddebmmaflgaaGreatDoor
open Go.RowKit
set_option linter.unusedVariables false
namespace Vt
open Nm (bitsW ret_int ret_bool)

theorem loop_eq (s : ByteArray) : ∀ (k i : Nat) (r : List UInt8), s.size - i = k → ByteArray.toList.loop s i r = r.reverse ++ s.data.toList.drop i := by
  intro k
  induction k with
  | zero =>
    intro i r h; rw [ByteArray.toList.loop, if_neg (by omega)]
    rw [List.drop_eq_nil_of_le (by have : s.data.toList.length = s.size := rfl; omega)]; simp
  | succ k ih =>
    intro i r h; rw [ByteArray.toList.loop, if_pos (by omega), ih _ _ (by omega)]
    have hl : i < s.data.toList.length := by have : s.data.toList.length = s.size := rfl; omega
    rw [List.drop_eq_getElem_cons hl]
    have : s.get! i = s.data.toList[i] := by
      cases s with | mk d => simp only [ByteArray.get!]; rw [getElem!_pos d i (by simpa using hl)]; simp
    simp [this]
theorem toList_data (s : ByteArray) : s.toList = s.data.toList := by
  unfold ByteArray.toList; rw [loop_eq s _ 0 [] rfl]; simp
theorem toList_inj (s s' : ByteArray) : s.toList = s'.toList ↔ s = s' := by
  rw [toList_data, toList_data]
  constructor
  · intro h
    cases s with | mk a => cases s' with | mk b => simp at h; rw [h]
  · intro h; rw [h]

/-- What Same asks of two values' own fields. -/
def HeadS (k n : Int) (f : Nat) (s : ByteArray) (m : Nat) (k' n' : Int) (f' : Nat) (s' : ByteArray) (m' : Nat) : Prop := k = k' ∧ n = n' ∧ s = s' ∧ bitsW f = bitsW f' ∧ m = m'

set_option maxRecDepth 100000 in
set_option maxHeartbeats 2000000 in
theorem rsame_pass (k n : Int) (f f' : Nat) (s : ByteArray) (l l' : List VT) (A A' : Option Addr) (cap cap' : Nat) (hf : f < 18446744073709551616) (hf' : f' < 18446744073709551616) (hff : bitsW f = bitsW f') (hll : l'.length = l.length) (hl : l.length ≤ cap) (hl' : l.length ≤ cap') (hc : cap ≤ maxLen) (hc' : cap' ≤ maxLen)
    (ih : ∀ (i : Nat) (hi : i < l.length) (t' : VT) (w : World) (lo hi lo' hi' : Nat) (v v' : Value) (_ : Rep w lo hi l[i] v) (_ : hi ≤ w.heap.size) (_ : Rep w lo' hi' t' v') (_ : hi' ≤ w.heap.size),
      Calls Tryz.prog 48 #[v, v'] w fun e w' => e = .returned (.bool (l[i].same t')) ∧ Below w.heap.size w w')
    (w : World) (lo hi lo' hi' : Nat) (hk : KidsAt w lo hi l A) (hz : hi ≤ w.heap.size) (hk' : KidsAt w lo' hi' l' A') (hz' : hi' ≤ w.heap.size) :
    Calls Tryz.prog 48 #[.agg #[.int .i64 k, .int .i64 n, .float .f64 f, .string s, .slice A l.length cap], .agg #[.int .i64 k, .int .i64 n, .float .f64 f', .string s, .slice A' l.length cap']] w fun e w' =>
      e = .returned (.bool ((l.zip l').all (fun p => p.1.same p.2))) ∧ Below w.heap.size w w' := by
  unfold maxLen at hc hc'
  have IH := Lib.hid ih; have HK := Lib.hid hk; have HK' := Lib.hid hk'; have HLL := Lib.hid hll; clear ih hk hk' hll
  have SF := Nm.rsame_any f f' hf hf'
  have e1 : ((bitsW f : Int) == bitsW f') = true := by rw [hff]; simp
  rw [e1] at SF
  have SF := Lib.hid SF
  clear e1 hff
  have HBA := Lib.hid ((BoxAt.new w k n f s A l.length cap).later ((Below.refl (w.heap.size + 1) _).alloc (by simp) (.cells #[.int .i64 k, .int .i64 n, .float .f64 f', .string s, .slice A' l.length cap'] 30)) (by omega))
  have HBB := BoxAt.new (w.alloc (.cells #[.int .i64 k, .int .i64 n, .float .f64 f, .string s, .slice A l.length cap] 30)) k n f' s A' l.length cap'
  rw [World.size_alloc] at HBB
  have HBB := Lib.hid HBB
  have HB0 := Lib.hid ((box_below w k n f s A l.length cap).alloc (by simp) (.cells #[.int .i64 k, .int .i64 n, .float .f64 f', .string s, .slice A' l.length cap'] 30))
  go_enter Tryz.func48, Tryz.ntmps48
  go_wp2_with (go_at_call 85; refine (SF.out _).mono ?_; rintro e w' ⟨rfl, rfl⟩)
  go_loopw [4, 5] (fun r i wr => ∃ (j : Nat), j ≤ l.length ∧ i = .int .i64 j ∧ r = .bool false ∧ ((l.zip l').take j).all (fun p => p.1.same p.2) = true ∧ BoxAt wr w.heap.size k n f s A l.length cap ∧ BoxAt wr (w.heap.size + 1) k n f' s A' l.length cap' ∧ Below w.heap.size w wr) (fun _ i _ => l.length - (intOf i).toNat)
  case atStart => exact ⟨0, by omega, rfl, rfl, rfl, HBA.out, HBB.out, HB0.out⟩
  case round =>
    obtain ⟨j, hj, rfl, rfl, hy, hbox, hbox', hb⟩ := hrel
    have HY := Lib.hid hy; clear hy
    have hlt0 := hbox'.lt
    obtain ⟨c0, c1, c2, c3, c4⟩ := hbox.cells
    obtain ⟨a0, a1, a2, a3, a4⟩ := hbox'.cells
    have HBX := Lib.hid hbox; have HBX' := Lib.hid hbox'; have HB := Lib.hid hb; clear hbox hbox' hb
    by_cases hlt : j < l.length
    · obtain ⟨b, off, hA, h1, h2, h3⟩ := (HK.out.later (HB.out.mono hz)).at_ (by omega)
      obtain ⟨k1, n1, f1, s1, L1, A1, cap1, e, d0, d1, d2, d3, d4, hr⟩ := h3 j hlt
      subst hA
      have HR := Lib.hid hr
      clear h3 e hr
      obtain ⟨b', off', hA', h1', h2', h3'⟩ := (HK'.out.later (HB.out.mono hz')).at_ (by have := HLL.out; omega)
      obtain ⟨k2, n2, f2, s2, L2, A2, cap2, e, g0, g1, g2, g3, g4, hr⟩ := h3' j (by have := HLL.out; omega)
      subst hA'
      have HR' := Lib.hid hr
      clear h3' e hr
      go_wp2_with fail
      go_still_tail 10, (by kernel_rfl)
      go_wp2_with fail
      refine (IH.out j hlt _ _ lo hi lo' hi' _ _ HR.out.drew (by show hi ≤ wr.heap.size; omega) HR'.out.drew (by show hi' ≤ wr.heap.size; omega)).mono ?_
      rintro e w1 ⟨rfl, hb1⟩
      have hb1' : Below wr.heap.size wr w1 := (below_drew (Below.refl _ _)).trans hb1
      clear hb1
      have HBX1 := Lib.hid (HBX.out.later hb1' (by omega))
      have HBX1' := Lib.hid (HBX'.out.later hb1' hlt0)
      have HB1 := Lib.hid (HB.out.trans (hb1'.mono (by omega)))
      clear HBX HBX' HB HR HR' hb1' c0 c1 c2 c3 c4 a0 a1 a2 a3 a4 d0 d1 d2 d3 d4 g0 g1 g2 g3 g4
      have hzl : j < (l.zip l').length := by rw [List.length_zip, HLL.out]; simpa using hlt
      have hge : ((l.zip l')[j]'hzl).1.same ((l.zip l')[j]'hzl).2 = l[j].same (l'[j]'(by have := HLL.out; omega)) := by rw [List.getElem_zip]
      have HGE := Lib.hid hge; clear hge
      cases hp : l[j].same (l'[j]'(by have := HLL.out; omega)) with
      | true =>
        have HP := Lib.hid hp; clear hp
        go_wp2_with fail
        go_roundw
        case rel => exact ⟨j + 1, by omega, by go_num, rfl, by rw [all_take_succ _ _ _ hzl, HY.out, HGE.out, HP.out]; rfl, HBX1.out, HBX1'.out, HB1.out⟩
        case measure => simp [intOf]; omega
      | false =>
        have HP := Lib.hid hp; clear hp
        go_wp2_with fail
        go_ret
        exact ⟨ret_bool (by rw [all_false _ _ j hzl (by rw [HGE.out]; exact HP.out)]), HB1.out⟩
    · have hj' : j = l.length := by omega
      have HJ := Lib.hid hj'
      clear hj'
      go_wp2_with fail
      go_ret
      have hall : (l.zip l').all (fun p => p.1.same p.2) = true := by
        have := HY.out
        rw [HJ.out, List.take_of_length_le (by rw [List.length_zip, HLL.out]; simp)] at this
        exact this
      exact ⟨ret_bool (by rw [hall]), HB.out⟩

set_option maxRecDepth 100000 in
set_option maxHeartbeats 2000000 in
theorem rsame_fail (k n : Int) (f : Nat) (s : ByteArray) (A : Option Addr) (m cap : Nat) (k' n' : Int) (f' : Nat) (s' : ByteArray) (A' : Option Addr) (m' cap' : Nat) (hf : f < 18446744073709551616) (hf' : f' < 18446744073709551616)
    (h : ¬ HeadS k n f s m k' n' f' s' m') (w : World) :
    Calls Tryz.prog 48 #[.agg #[.int .i64 k, .int .i64 n, .float .f64 f, .string s, .slice A m cap], .agg #[.int .i64 k', .int .i64 n', .float .f64 f', .string s', .slice A' m' cap']] w fun e w' =>
      e = .returned (.bool false) ∧ Below w.heap.size w w' := by
  have H := Lib.hid h; clear h
  have SF := Lib.hid (Nm.rsame_any f f' hf hf')
  go_enter Tryz.func48, Tryz.ntmps48
  go_wp2_with (go_at_call 85; refine (SF.out _).mono ?_; rintro e w' ⟨rfl, rfl⟩)
  all_goals first
    | (go_ret; exact ⟨rfl, ((Below.refl _ _).alloc (Nat.le_refl _) _).alloc (by simp) _⟩)
    | (exfalso
       refine H.out ⟨?_, ?_, ?_, ?_, ?_⟩
       all_goals clear H SF
       all_goals first
         | assumption
         | (exact (toList_inj s s').1 (by assumption))
         | omega
         | (have hm : ((m : Int) != (m' : Int)) = false := by assumption
            simp at hm; omega))

theorem rsame_any (t : VT) : ∀ (t' : VT) (w : World) (lo hi lo' hi' : Nat) (v v' : Value) (_ : Rep w lo hi t v) (_ : hi ≤ w.heap.size) (_ : Rep w lo' hi' t' v') (_ : hi' ≤ w.heap.size),
    Calls Tryz.prog 48 #[v, v'] w fun e w' => e = .returned (.bool (t.same t')) ∧ Below w.heap.size w w' := by
  induction t using VT.ind with
  | _ k n f s l ih =>
    intro t' w lo hi lo' hi' v v' hR hz hR' hz'
    obtain ⟨k', n', f', s', l'⟩ := t'
    obtain ⟨A, cap, rfl, ho, hl, hk⟩ := hR.head
    obtain ⟨A', cap', rfl, ho', hl', hk'⟩ := hR'.head
    by_cases hh : HeadS k n f s l.length k' n' f' s' l'.length
    · obtain ⟨rfl, rfl, rfl, hff, hll⟩ := hh
      have := rsame_pass k n f f' s l l' A A' cap cap' ho.f1 ho'.f1 hff hll.symm hl (by omega) ho.m1 ho'.m1 ih w lo hi lo' hi' hk hz hk' hz'
      rw [← hll]
      refine this.mono fun e w' h => ⟨?_, h.2⟩
      rw [h.1, same_mk, hff, hll]
      simp
    · refine (rsame_fail k n f s A l.length cap k' n' f' s' A' l'.length cap' ho.f1 ho'.f1 hh w).mono fun e w' h => ⟨?_, h.2⟩
      rw [h.1]
      congr 2
      rw [eq_comm, Bool.eq_false_iff]
      intro q
      obtain ⟨a, b, c, d, e, -⟩ := (same_iff ..).1 q
      exact hh ⟨a, b, c, d, e⟩
end Vt
end Go.Proofs.YtcbddebmmaflgaaGreatDoor
namespace Go.Proofs.YtcbddebmmaflgaaGreatDoor
open Go.RowKit
set_option linter.unusedVariables false
namespace Vt
open Nm (bitsW ret_int ret_bool)

set_option maxRecDepth 100000 in
set_option maxHeartbeats 2000000 in
theorem eqf_any (l l' : List VT) (A A' : Option Addr) (cap cap' : Nat) (hl : l.length ≤ cap) (hl' : l'.length ≤ cap') (hc : cap ≤ maxLen) (hc' : cap' ≤ maxLen)
    (ih : ∀ (i : Nat) (hi : i < l.length) (t' : VT) (w : World) (lo hi lo' hi' : Nat) (v v' : Value) (_ : Rep w lo hi l[i] v) (_ : hi ≤ w.heap.size) (_ : Rep w lo' hi' t' v') (_ : hi' ≤ w.heap.size),
      Calls Tryz.prog 49 #[v, v'] w fun e w' => e = .returned (.bool (l[i].same t')) ∧ Below w.heap.size w w')
    (w : World) (lo hi lo' hi' : Nat) (hk : KidsAt w lo hi l A) (hz : hi ≤ w.heap.size) (hk' : KidsAt w lo' hi' l' A') (hz' : hi' ≤ w.heap.size) :
    Calls Tryz.prog 87 #[.slice A l.length cap, .slice A' l'.length cap', .func (.func 49) #[] #[]] w fun e w' =>
      e = .returned (.bool (l.length == l'.length && (l.zip l').all (fun p => p.1.same p.2))) ∧ Below w.heap.size w w' := by
  unfold maxLen at hc hc'
  by_cases hll : l.length = l'.length
  · have IH := Lib.hid ih; have HK := Lib.hid hk; have HK' := Lib.hid hk'; clear ih hk hk'
    obtain ⟨m, hm⟩ : ∃ m, m = l'.length := ⟨_, rfl⟩
    rw [← hm] at hll hl' ⊢
    have HM := Lib.hid hm; clear hm
    subst hll
    rw [show (l.length == l.length) = true from by simp, Bool.true_and]
    go_enter Tryz.func87, Tryz.ntmps87
    go_wp2_with fail
    go_loopw [6, 17] (fun r i wr => ∃ (j : Nat), j ≤ l.length ∧ i = .int .i64 j ∧ r = .bool false ∧ ((l.zip l').take j).all (fun p => p.1.same p.2) = true ∧ Below w.heap.size w wr) (fun _ i _ => l.length - (intOf i).toNat)
    case atStart => exact ⟨0, by omega, rfl, rfl, rfl, Below.refl _ _⟩
    case round =>
      obtain ⟨j, hj, rfl, rfl, hy, hb⟩ := hrel
      have HY := Lib.hid hy; clear hy
      have hszr := hb.size
      have HB := Lib.hid hb; clear hb
      by_cases hlt : j < l.length
      · obtain ⟨b, off, hA, h1, h2, h3⟩ := (HK.out.later (HB.out.mono hz)).at_ (by omega)
        obtain ⟨k1, n1, f1, s1, L1, A1, cap1, e, d0, d1, d2, d3, d4, hr⟩ := h3 j hlt
        subst hA
        have HR := Lib.hid hr
        clear h3 e hr
        obtain ⟨b', off', hA', h1', h2', h3'⟩ := (HK'.out.later (HB.out.mono hz')).at_ (by have := HM.out; omega)
        obtain ⟨k2, n2, f2, s2, L2, A2, cap2, e, g0, g1, g2, g3, g4, hr⟩ := h3' j (by have := HM.out; omega)
        subst hA'
        have HR' := Lib.hid hr
        clear h3' e hr
        have hbl : b < wr.heap.size := by omega
        have hbl' : b' < wr.heap.size := by omega
        go_wp2_with fail
        refine (IH.out j hlt _ _ lo hi lo' hi' _ _ ((HR.out.alloc (by omega) _).alloc (by simp; omega) _) (by simp; omega) ((HR'.out.alloc (by omega) _).alloc (by simp; omega) _) (by simp; omega)).mono ?_
        rintro e w1 ⟨rfl, hb1⟩
        have HB1 := Lib.hid (((HB.out.alloc (by omega) _).alloc (by simp; omega) _).trans (hb1.mono (by simp; omega)))
        clear HB HR HR' hb1 d0 d1 d2 d3 d4 g0 g1 g2 g3 g4
        have hzl : j < (l.zip l').length := by rw [List.length_zip, ← HM.out]; simpa using hlt
        have hge : ((l.zip l')[j]'hzl).1.same ((l.zip l')[j]'hzl).2 = l[j].same (l'[j]'(by have := HM.out; omega)) := by rw [List.getElem_zip]
        have HGE := Lib.hid hge; clear hge
        cases hp : l[j].same (l'[j]'(by have := HM.out; omega)) with
        | true =>
          have HP := Lib.hid hp; clear hp
          go_wp2_with fail
          go_roundw
          case rel => exact ⟨j + 1, by omega, by go_num, rfl, by rw [all_take_succ _ _ _ hzl, HY.out, HGE.out, HP.out]; rfl, HB1.out⟩
          case measure => simp [intOf]; omega
        | false =>
          have HP := Lib.hid hp; clear hp
          go_wp2_with fail
          go_ret
          exact ⟨ret_bool (by rw [all_false _ _ j hzl (by rw [HGE.out]; exact HP.out)]), HB1.out⟩
      · have hj' : j = l.length := by omega
        have HJ := Lib.hid hj'
        clear hj'
        go_wp2_with fail
        go_ret
        have hall : (l.zip l').all (fun p => p.1.same p.2) = true := by
          have := HY.out
          rw [HJ.out, List.take_of_length_le (by rw [List.length_zip, ← HM.out]; simp)] at this
          exact this
        exact ⟨ret_bool (by rw [hall]), HB.out⟩
  · have hb0 : (l.length == l'.length) = false := by simpa using hll
    have hbI : ((l.length : Int) != (l'.length : Int)) = true := by simp; omega
    have hx : ((l.length == l'.length) && (l.zip l').all (fun p => p.1.same p.2)) = false := by rw [hb0]; rfl
    rw [hx]
    clear ih hk hk' hll hb0 hx
    generalize l.length = m at *
    generalize l'.length = m' at *
    go_enter Tryz.func87, Tryz.ntmps87
    go_wp2_with fail
    go_ret
    exact ⟨rfl, Below.refl _ _⟩

set_option maxRecDepth 100000 in
set_option maxHeartbeats 2000000 in
theorem same_fail (k n : Int) (f : Nat) (s : ByteArray) (A : Option Addr) (m cap : Nat) (k' n' : Int) (f' : Nat) (s' : ByteArray) (A' : Option Addr) (m' cap' : Nat) (hf : f < 18446744073709551616) (hf' : f' < 18446744073709551616)
    (R : Bool) (w : World)
    (he : (k = k' ∧ n = n' ∧ bitsW f = bitsW f' ∧ s = s') → ∀ w1 : World, Below w.heap.size w w1 → Calls Tryz.prog 87 #[.slice A m cap, .slice A' m' cap', .func (.func 49) #[] #[]] w1 fun e w' => e = .returned (.bool R) ∧ Below w1.heap.size w1 w')
    (hn : ¬ (k = k' ∧ n = n' ∧ bitsW f = bitsW f' ∧ s = s') → R = false) :
    Calls Tryz.prog 49 #[.agg #[.int .i64 k, .int .i64 n, .float .f64 f, .string s, .slice A m cap], .agg #[.int .i64 k', .int .i64 n', .float .f64 f', .string s', .slice A' m' cap']] w fun e w' =>
      e = .returned (.bool R) ∧ Below w.heap.size w w' := by
  have H := Lib.hid he; have HN := Lib.hid hn; clear he hn
  have SF := Nm.nsame_any f f' hf hf'
  have e1 : (Nm.rcmpW f f' == 0) = decide (bitsW f = bitsW f') := by
    rcases Nm.rcmp_cases f f' hf hf' with ⟨h1, -, h3⟩ | ⟨h1, -, h3⟩ | ⟨h1, -, h3⟩
    · rw [h1]; simp at h3; symm; simp; omega
    · rw [h1]; simp at h3; symm; simp; omega
    · rw [h1]; simp at h3; symm; simp; omega
  rw [e1] at SF
  clear e1
  have SF := Lib.hid SF
  have HB := Lib.hid ((box_below w k n f s A m cap).alloc (by simp) (.cells #[.int .i64 k', .int .i64 n', .float .f64 f', .string s', .slice A' m' cap'] 30))
  by_cases hh : k = k' ∧ n = n' ∧ bitsW f = bitsW f' ∧ s = s'
  · obtain ⟨rfl, rfl, q, rfl⟩ := hh
    have E := Lib.hid (H.out ⟨rfl, rfl, q, rfl⟩)
    rw [show decide (bitsW f = bitsW f') = true from by simpa using q] at SF
    clear q H HN
    go_enter Tryz.func49, Tryz.ntmps49
    go_wp2_with (go_at_call 86; refine (SF.out _).mono ?_; rintro e w' ⟨rfl, rfl⟩)
    refine (E.out _ HB.out).mono ?_
    rintro e w1 ⟨rfl, hb1⟩
    have HB1 := Lib.hid (HB.out.trans (hb1.mono (by simp; omega)))
    clear hb1
    go_wp2_with fail
    go_ret
    exact ⟨rfl, HB1.out⟩
  · have HR := Lib.hid (HN.out hh)
    have HH := Lib.hid hh
    clear H HN hh
    rw [HR.out]
    go_enter Tryz.func49, Tryz.ntmps49
    go_wp2_with (go_at_call 86; refine (SF.out _).mono ?_; rintro e w' ⟨rfl, rfl⟩)
    all_goals first
      | (go_ret; exact ⟨rfl, ((Below.refl _ _).alloc (Nat.le_refl _) _).alloc (by simp) _⟩)
      | (exfalso
         refine HH.out ⟨?_, ?_, ?_, ?_⟩
         all_goals clear HH SF HR HB
         all_goals first
           | assumption
           | exact (toList_inj s s').1 (by assumption)
           | omega)

theorem same_any (t : VT) : ∀ (t' : VT) (w : World) (lo hi lo' hi' : Nat) (v v' : Value) (_ : Rep w lo hi t v) (_ : hi ≤ w.heap.size) (_ : Rep w lo' hi' t' v') (_ : hi' ≤ w.heap.size),
    Calls Tryz.prog 49 #[v, v'] w fun e w' => e = .returned (.bool (t.same t')) ∧ Below w.heap.size w w' := by
  induction t using VT.ind with
  | _ k n f s l ih =>
    intro t' w lo hi lo' hi' v v' hR hz hR' hz'
    obtain ⟨k', n', f', s', l'⟩ := t'
    obtain ⟨A, cap, rfl, ho, hl, hk⟩ := hR.head
    obtain ⟨A', cap', rfl, ho', hl', hk'⟩ := hR'.head
    refine same_fail k n f s A l.length cap k' n' f' s' A' l'.length cap' ho.f1 ho'.f1 _ w ?_ ?_
    · rintro ⟨rfl, rfl, q, rfl⟩ w1 hb
      refine (eqf_any l l' A A' cap cap' hl hl' ho.m1 ho'.m1 ih w1 lo hi lo' hi' (hk.later (hb.mono hz)) (Nat.le_trans hz hb.size) (hk'.later (hb.mono hz')) (Nat.le_trans hz' hb.size)).mono fun e w' h => ⟨?_, h.2⟩
      rw [h.1, same_mk, q]
      simp
    · intro h
      rw [Bool.eq_false_iff]
      intro q
      obtain ⟨a, b, c, d, e, -⟩ := (same_iff ..).1 q
      exact h ⟨a, b, d, c⟩
end Vt
end Go.Proofs.YtcbddebmmaflgaaGreatDoor
namespace Go.Proofs.YtcbddebmmaflgaaGreatDoor
open Go.RowKit
set_option linter.unusedVariables false
namespace Vt
open Nm (bitsW ret_int ret_bool)

theorem Tryz.infoV : (Tryz.prog.info? 30).map (fun i => (i.zero, i.size, i.bytes)) = some (some (.agg #[.int .i64 0, .int .i64 0, .float .f64 0, .string ⟨#[]⟩, .slice none 0 0]), 5, 64) := by kernel_rfl

end Vt
end Go.Proofs.YtcbddebmmaflgaaGreatDoor
namespace Go.Proofs.YtcbddebmmaflgaaGreatDoor
open Go.RowKit
set_option linter.unusedVariables false
namespace Vt
open Nm (bitsW ret_int ret_bool)

/-- Five stores of a value into a row. -/
def put5 (w : World) (g o : Nat) (d0 d1 d2 d3 d4 : Value) : World :=
  ((((w.setCell ⟨g, o, none⟩ d0).setCell ⟨g, o + 1, none⟩ d1).setCell ⟨g, o + 2, none⟩ d2).setCell ⟨g, o + 3, none⟩ d3).setCell ⟨g, o + 4, none⟩ d4

theorem put5_size (w : World) (g o : Nat) (d0 d1 d2 d3 d4 : Value) : (put5 w g o d0 d1 d2 d3 d4).heap.size = w.heap.size := by simp [put5, World.setCell]
theorem put5_block (w : World) (g o : Nat) (d0 d1 d2 d3 d4 : Value) (t : TypeId) (cur : Array Value) (h : w.heap[g]? = some (.cells cur t (0, 0))) :
    (put5 w g o d0 d1 d2 d3 d4).heap[g]? = some (.cells (((((cur.setIfInBounds o d0).setIfInBounds (o + 1) d1).setIfInBounds (o + 2) d2).setIfInBounds (o + 3) d3).setIfInBounds (o + 4) d4) t (0, 0)) := by
  simp [put5, World.setCell, Array.getElem?_modify, h]
theorem put5_cell (w : World) (g o : Nat) (d0 d1 d2 d3 d4 : Value) (b p : Nat) (h : b ≠ g) : (put5 w g o d0 d1 d2 d3 d4).cell? ⟨b, p, none⟩ = w.cell? ⟨b, p, none⟩ := by
  have e (w : World) (q : Nat) (v : Value) : (w.setCell ⟨g, q, none⟩ v).cell? ⟨b, p, none⟩ = w.cell? ⟨b, p, none⟩ := World.cell?_setCell_other w ⟨g, q, none⟩ ⟨b, p, none⟩ v (fun x => by injection x with x; exact h x.symm)
  unfold put5
  rw [e, e, e, e, e]
theorem put5_other (w : World) (g o : Nat) (d0 d1 d2 d3 d4 : Value) (b : Nat) (h : b ≠ g) : (put5 w g o d0 d1 d2 d3 d4).heap[b]? = w.heap[b]? := by
  have e (w : World) (q : Nat) (v : Value) : (w.setCell ⟨g, q, none⟩ v).heap[b]? = w.heap[b]? := Below.heap_setCell w ⟨g, q, none⟩ v b h
  unfold put5
  rw [e, e, e, e, e]

end Vt
end Go.Proofs.YtcbddebmmaflgaaGreatDoor
namespace Go.Proofs.YtcbddebmmaflgaaGreatDoor
open Go.RowKit
set_option linter.unusedVariables false
namespace Vt
open Nm (bitsW ret_int ret_bool)

theorem box_set {w : World} {g : Nat} {k n : Int} {f : Nat} {s : ByteArray} {A A2 : Option Addr} {m c m2 c2 : Nat} (h : BoxAt w g k n f s A m c) : BoxAt (w.setCell ⟨g, 4, none⟩ (.slice A2 m2 c2)) g k n f s A2 m2 c2 := by
  unfold BoxAt at *
  simp [World.setCell, Array.getElem?_modify, h]
theorem box_far {w : World} {g : Nat} {k n : Int} {f : Nat} {s : ByteArray} {A : Option Addr} {m c : Nat} (h : BoxAt w g k n f s A m c) {b o : Nat} (hb : g ≠ b) (v : Value) : BoxAt (w.setCell ⟨b, o, none⟩ v) g k n f s A m c :=
  (Below.heap_setCell w ⟨b, o, none⟩ v g (by simpa using hb)).trans h
theorem box_free {w : World} {g : Nat} {k n : Int} {f : Nat} {s : ByteArray} {A : Option Addr} {m c : Nat} (h : BoxAt w g k n f s A m c) (o : Nat) : w.frozen? ⟨g, o, none⟩ = false := by
  unfold BoxAt at h; simp [World.frozen?, h]

end Vt
end Go.Proofs.YtcbddebmmaflgaaGreatDoor
