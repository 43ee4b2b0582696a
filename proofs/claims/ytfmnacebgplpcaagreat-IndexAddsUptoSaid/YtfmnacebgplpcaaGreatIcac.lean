/- Contract of the reference's Same of two trees. -/
import Derived.Test.YtfmnacebgplpcaaGreatIcab
import Derived.StillTailTactics
import Derived.Laws.OwnMore
import Derived.Deep.RegionHeld3
set_option linter.unusedVariables false
open Go.RowKit
namespace Go.Proofs.YtfmnacebgplpcaaGreat
namespace Vt
open Nm (bitsW ret_int ret_bool)

theorem loop_eq (s : ByteArray) : ∀ (k i : Nat) (r : List UInt8), s.size - i = k → ByteArray.toList.loop s i r = r.reverse ++ s.data.toList.drop i := by
 intro k
 induction k with
 | zero =>
  intro i r h; rw [ByteArray.toList.loop, if_neg (by omega)]
  rw [List.drop_eq_nil_of_le (by have : s.data.toList.length = s.size := rfl; omega)]; simp
 | succ k ih =>
  intro i r h; rw [ByteArray.toList.loop, if_pos (by omega), ih _ _ (by omega)]
  have hl : i < s.data.toList.length := by have : s.data.toList.length = s.size := rfl; omega
  rw [List.drop_eq_getElem_cons hl]
  have : s.get! i = s.data.toList[i] := by
   cases s with | mk d => simp only [ByteArray.get!]; rw [getElem!_pos d i (by simpa using hl)]; simp
  simp [this]
theorem toList_data (s : ByteArray) : s.toList = s.data.toList := by
 unfold ByteArray.toList; rw [loop_eq s _ 0 [] rfl]; simp
theorem toList_inj (s s' : ByteArray) : s.toList = s'.toList ↔ s = s' := by
 rw [toList_data, toList_data]
 constructor
 ·intro h
  cases s with | mk a => cases s' with | mk b => simp at h; rw [h]
 ·intro h; rw [h]

def HeadS (k n : Int) (f : Nat) (s : ByteArray) (m : Nat) (k' n' : Int) (f' : Nat) (s' : ByteArray) (m' : Nat) : Prop := k = k' ∧ n = n' ∧ s = s' ∧ bitsW f = bitsW f' ∧ m = m'

theorem M134 {p : Prop} (h : p := by
 have HP := Lib.hid hp; clear hp
 go_wp2_with fail
 go_ret
 exact ⟨ret_bool (by rw [all_false _ _ j hzl (by rw [HGE.out]; exact HP.out)]), HB1.out⟩) : p := h
set_option maxRecDepth 100000 in
set_option maxHeartbeats 2000000 in
theorem rsame_pass (k n : Int) (f f' : Nat) (s : ByteArray) (l l' : List VT) (A A' : Option Addr) (cap cap' : Nat) (hf : f < 18446744073709551616) (hf' : f' < 18446744073709551616) (hff : bitsW f = bitsW f') (hll : l'.length = l.length) (hl : l.length ≤ cap) (hl' : l.length ≤ cap') (hc : cap ≤ maxLen) (hc' : cap' ≤ maxLen)
  (ih : ∀ (i : Nat) (hi : i < l.length) (t' : VT) (w : World) (lo hi lo' hi' : Nat) (v v' : Value) (_ : Rep w lo hi l[i] v) (_ : hi ≤ w.heap.size) (_ : Rep w lo' hi' t' v') (_ : hi' ≤ w.heap.size),
   Calls Tryz.prog 80 #[v, v'] w fun e w' => e = .returned (.bool (l[i].same t')) ∧ Below w.heap.size w w')
  (w : World) (lo hi lo' hi' : Nat) (hk : KidsAt w lo hi l A) (hz : hi ≤ w.heap.size) (hk' : KidsAt w lo' hi' l' A') (hz' : hi' ≤ w.heap.size) :
  Calls Tryz.prog 80 #[.agg #[.int .i64 k, .int .i64 n, .float .f64 f, .string s, .slice A l.length cap], .agg #[.int .i64 k, .int .i64 n, .float .f64 f', .string s, .slice A' l.length cap']] w fun e w' =>
   e = .returned (.bool ((l.zip l').all (fun p => p.1.same p.2))) ∧ Below w.heap.size w w' := by
 unfold maxLen at hc hc'
 have IH := Lib.hid ih; have HK := Lib.hid hk; have HK' := Lib.hid hk'; have HLL := Lib.hid hll; clear ih hk hk' hll
 have SF := Nm.rsame_any f f' hf hf'
 have e1 : ((bitsW f : Int) == bitsW f') = true := by rw [hff]; simp
 rw [e1] at SF
 have SF := Lib.hid SF
 clear e1 hff
 have HBA := Lib.hid ((BoxAt.new w k n f s A l.length cap).later ((Below.refl (w.heap.size + 1) _).alloc (by simp) (.cells #[.int .i64 k, .int .i64 n, .float .f64 f', .string s, .slice A' l.length cap'] 69)) (by omega))
 have HBB := BoxAt.new (w.alloc (.cells #[.int .i64 k, .int .i64 n, .float .f64 f, .string s, .slice A l.length cap] 69)) k n f' s A' l.length cap'
 rw [World.size_alloc] at HBB
 have HBB := Lib.hid HBB
 have HB0 := Lib.hid ((box_below w k n f s A l.length cap).alloc (by simp) (.cells #[.int .i64 k, .int .i64 n, .float .f64 f', .string s, .slice A' l.length cap'] 69))
 go_enter Tryz.func80, Tryz.ntmps80
 go_wp2_with (go_at_call 118; refine (SF.out _).mono ?_; rintro e w' ⟨rfl, rfl⟩)
 go_loopw [4, 5] (fun r i wr => ∃ (j : Nat), j ≤ l.length ∧ i = .int .i64 j ∧ r = .bool false ∧ ((l.zip l').take j).all (fun p => p.1.same p.2) = true ∧ BoxAt wr w.heap.size k n f s A l.length cap ∧ BoxAt wr (w.heap.size + 1) k n f' s A' l.length cap' ∧ Below w.heap.size w wr) (fun _ i _ => l.length - (intOf i).toNat)
 case atStart => exact ⟨0, by omega, rfl, rfl, rfl, HBA.out, HBB.out, HB0.out⟩
 case round =>
  obtain ⟨j, hj, rfl, rfl, hy, hbox, hbox', hb⟩ := hrel
  have HY := Lib.hid hy; clear hy
  have hlt0 := hbox'.lt
  obtain ⟨c0, c1, c2, c3, c4⟩ := hbox.cells
  obtain ⟨a0, a1, a2, a3, a4⟩ := hbox'.cells
  have HBX := Lib.hid hbox; have HBX' := Lib.hid hbox'; have HB := Lib.hid hb; clear hbox hbox' hb
  by_cases hlt : j < l.length
  ·obtain ⟨b, off, hA, h1, h2, h3⟩ := (HK.out.later (HB.out.mono hz)).at_ (by omega)
   obtain ⟨k1, n1, f1, s1, L1, A1, cap1, e, d0, d1, d2, d3, d4, hr⟩ := h3 j hlt
   subst hA
   have HR := Lib.hid hr
   clear h3 e hr
   obtain ⟨b', off', hA', h1', h2', h3'⟩ := (HK'.out.later (HB.out.mono hz')).at_ (by have := HLL.out; omega)
   obtain ⟨k2, n2, f2, s2, L2, A2, cap2, e, g0, g1, g2, g3, g4, hr⟩ := h3' j (by have := HLL.out; omega)
   subst hA'
   have HR' := Lib.hid hr
   clear h3' e hr
   go_wp2_with fail
   go_still_tail 10, (by kernel_rfl)
   go_wp2_with fail
   refine (IH.out j hlt _ _ lo hi lo' hi' _ _ HR.out.drew (by show hi ≤ wr.heap.size; omega) HR'.out.drew (by show hi' ≤ wr.heap.size; omega)).mono ?_
   rintro e w1 ⟨rfl, hb1⟩
   have hb1' : Below wr.heap.size wr w1 := (below_drew (Below.refl _ _)).trans hb1
   clear hb1
   have HBX1 := Lib.hid (HBX.out.later hb1' (by omega))
   have HBX1' := Lib.hid (HBX'.out.later hb1' hlt0)
   have HB1 := Lib.hid (HB.out.trans (hb1'.mono (by omega)))
   clear HBX HBX' HB HR HR' hb1' c0 c1 c2 c3 c4 a0 a1 a2 a3 a4 d0 d1 d2 d3 d4 g0 g1 g2 g3 g4
   have hzl : j < (l.zip l').length := by rw [List.length_zip, HLL.out]; simpa using hlt
   have hge : ((l.zip l')[j]'hzl).1.same ((l.zip l')[j]'hzl).2 = l[j].same (l'[j]'(by have := HLL.out; omega)) := by rw [List.getElem_zip]
   have HGE := Lib.hid hge; clear hge
   cases hp : l[j].same (l'[j]'(by have := HLL.out; omega)) with
   | true =>
    have HP := Lib.hid hp; clear hp
    go_wp2_with fail
    go_roundw
    case rel => exact ⟨j + 1, by omega, by go_num, rfl, by rw [all_take_succ _ _ _ hzl, HY.out, HGE.out, HP.out]; rfl, HBX1.out, HBX1'.out, HB1.out⟩
    case measure => simp [intOf]; omega
   | false =>
    exact M134
  ·have hj' : j = l.length := by omega
   have HJ := Lib.hid hj'
   clear hj'
   go_wp2_with fail
   go_ret
   have hall : (l.zip l').all (fun p => p.1.same p.2) = true := by
    have := HY.out
    rw [HJ.out, List.take_of_length_le (by rw [List.length_zip, HLL.out]; simp)] at this
    exact this
   exact ⟨ret_bool (by rw [hall]), HB.out⟩

set_option maxRecDepth 100000 in
set_option maxHeartbeats 2000000 in
theorem rsame_fail (k n : Int) (f : Nat) (s : ByteArray) (A : Option Addr) (m cap : Nat) (k' n' : Int) (f' : Nat) (s' : ByteArray) (A' : Option Addr) (m' cap' : Nat) (hf : f < 18446744073709551616) (hf' : f' < 18446744073709551616)
  (h : ¬ HeadS k n f s m k' n' f' s' m') (w : World) :
  Calls Tryz.prog 80 #[.agg #[.int .i64 k, .int .i64 n, .float .f64 f, .string s, .slice A m cap], .agg #[.int .i64 k', .int .i64 n', .float .f64 f', .string s', .slice A' m' cap']] w fun e w' =>
   e = .returned (.bool false) ∧ Below w.heap.size w w' := by
 have H := Lib.hid h; clear h
 have SF := Lib.hid (Nm.rsame_any f f' hf hf')
 go_enter Tryz.func80, Tryz.ntmps80
 go_wp2_with (go_at_call 118; refine (SF.out _).mono ?_; rintro e w' ⟨rfl, rfl⟩)
 all_goals first
  | (go_ret; exact ⟨rfl, ((Below.refl _ _).alloc (Nat.le_refl _) _).alloc (by simp) _⟩)
  | (exfalso
     refine H.out ⟨?_, ?_, ?_, ?_, ?_⟩
     all_goals clear H SF
     all_goals first
      | assumption
      | (exact (toList_inj s s').1 (by assumption))
      | omega
      | (have hm : ((m : Int) != (m' : Int)) = false := by assumption
         simp at hm; omega))

theorem rsame_any (t : VT) : ∀ (t' : VT) (w : World) (lo hi lo' hi' : Nat) (v v' : Value) (_ : Rep w lo hi t v) (_ : hi ≤ w.heap.size) (_ : Rep w lo' hi' t' v') (_ : hi' ≤ w.heap.size),
  Calls Tryz.prog 80 #[v, v'] w fun e w' => e = .returned (.bool (t.same t')) ∧ Below w.heap.size w w' := by
 induction t using VT.ind with
 | _ k n f s l ih =>
  intro t' w lo hi lo' hi' v v' hR hz hR' hz'
  obtain ⟨k', n', f', s', l'⟩ := t'
  obtain ⟨A, cap, rfl, ho, hl, hk⟩ := hR.head
  obtain ⟨A', cap', rfl, ho', hl', hk'⟩ := hR'.head
  by_cases hh : HeadS k n f s l.length k' n' f' s' l'.length
  ·obtain ⟨rfl, rfl, rfl, hff, hll⟩ := hh
   have := rsame_pass k n f f' s l l' A A' cap cap' ho.f1 ho'.f1 hff hll.symm hl (by omega) ho.m1 ho'.m1 ih w lo hi lo' hi' hk hz hk' hz'
   rw [← hll]
   refine this.mono fun e w' h => ⟨?_, h.2⟩
   rw [h.1, same_mk, hff, hll]
   simp
  ·refine (rsame_fail k n f s A l.length cap k' n' f' s' A' l'.length cap' ho.f1 ho'.f1 hh w).mono fun e w' h => ⟨?_, h.2⟩
   rw [h.1]
   congr 2
   rw [eq_comm, Bool.eq_false_iff]
   intro q
   obtain ⟨a, b, c, d, e, -⟩ := (same_iff ..).1 q
   exact hh ⟨a, b, c, d, e⟩
end Vt
end Go.Proofs.YtfmnacebgplpcaaGreat
namespace Go.Proofs.YtfmnacebgplpcaaGreat
namespace Vt
open Nm (bitsW ret_int ret_bool)

set_option maxRecDepth 100000 in
set_option maxHeartbeats 2000000 in
theorem eqf_any (l l' : List VT) (A A' : Option Addr) (cap cap' : Nat) (hl : l.length ≤ cap) (hl' : l'.length ≤ cap') (hc : cap ≤ maxLen) (hc' : cap' ≤ maxLen)
  (ih : ∀ (i : Nat) (hi : i < l.length) (t' : VT) (w : World) (lo hi lo' hi' : Nat) (v v' : Value) (_ : Rep w lo hi l[i] v) (_ : hi ≤ w.heap.size) (_ : Rep w lo' hi' t' v') (_ : hi' ≤ w.heap.size),
   Calls Tryz.prog 111 #[v, v'] w fun e w' => e = .returned (.bool (l[i].same t')) ∧ Below w.heap.size w w')
  (w : World) (lo hi lo' hi' : Nat) (hk : KidsAt w lo hi l A) (hz : hi ≤ w.heap.size) (hk' : KidsAt w lo' hi' l' A') (hz' : hi' ≤ w.heap.size) :
  Calls Tryz.prog 150 #[.slice A l.length cap, .slice A' l'.length cap', .func (.func 111) #[] #[]] w fun e w' =>
   e = .returned (.bool (l.length == l'.length && (l.zip l').all (fun p => p.1.same p.2))) ∧ Below w.heap.size w w' := by
 unfold maxLen at hc hc'
 by_cases hll : l.length = l'.length
 ·have IH := Lib.hid ih; have HK := Lib.hid hk; have HK' := Lib.hid hk'; clear ih hk hk'
  obtain ⟨m, hm⟩ : ∃ m, m = l'.length := ⟨_, rfl⟩
  rw [← hm] at hll hl' ⊢
  have HM := Lib.hid hm; clear hm
  subst hll
  rw [show (l.length == l.length) = true from by simp, Bool.true_and]
  go_enter Tryz.func150, Tryz.ntmps150
  go_wp2_with fail
  go_loopw [6, 17] (fun r i wr => ∃ (j : Nat), j ≤ l.length ∧ i = .int .i64 j ∧ r = .bool false ∧ ((l.zip l').take j).all (fun p => p.1.same p.2) = true ∧ Below w.heap.size w wr) (fun _ i _ => l.length - (intOf i).toNat)
  case atStart => exact ⟨0, by omega, rfl, rfl, rfl, Below.refl _ _⟩
  case round =>
   obtain ⟨j, hj, rfl, rfl, hy, hb⟩ := hrel
   have HY := Lib.hid hy; clear hy
   have hszr := hb.size
   have HB := Lib.hid hb; clear hb
   by_cases hlt : j < l.length
   ·obtain ⟨b, off, hA, h1, h2, h3⟩ := (HK.out.later (HB.out.mono hz)).at_ (by omega)
    obtain ⟨k1, n1, f1, s1, L1, A1, cap1, e, d0, d1, d2, d3, d4, hr⟩ := h3 j hlt
    subst hA
    have HR := Lib.hid hr
    clear h3 e hr
    obtain ⟨b', off', hA', h1', h2', h3'⟩ := (HK'.out.later (HB.out.mono hz')).at_ (by have := HM.out; omega)
    obtain ⟨k2, n2, f2, s2, L2, A2, cap2, e, g0, g1, g2, g3, g4, hr⟩ := h3' j (by have := HM.out; omega)
    subst hA'
    have HR' := Lib.hid hr
    clear h3' e hr
    have hbl : b < wr.heap.size := by omega
    have hbl' : b' < wr.heap.size := by omega
    go_wp2_with fail
    refine (IH.out j hlt _ _ lo hi lo' hi' _ _ ((HR.out.alloc (by omega) _).alloc (by simp; omega) _) (by simp; omega) ((HR'.out.alloc (by omega) _).alloc (by simp; omega) _) (by simp; omega)).mono ?_
    rintro e w1 ⟨rfl, hb1⟩
    have HB1 := Lib.hid (((HB.out.alloc (by omega) _).alloc (by simp; omega) _).trans (hb1.mono (by simp; omega)))
    clear HB HR HR' hb1 d0 d1 d2 d3 d4 g0 g1 g2 g3 g4
    have hzl : j < (l.zip l').length := by rw [List.length_zip, ← HM.out]; simpa using hlt
    have hge : ((l.zip l')[j]'hzl).1.same ((l.zip l')[j]'hzl).2 = l[j].same (l'[j]'(by have := HM.out; omega)) := by rw [List.getElem_zip]
    have HGE := Lib.hid hge; clear hge
    cases hp : l[j].same (l'[j]'(by have := HM.out; omega)) with
    | true =>
     have HP := Lib.hid hp; clear hp
     go_wp2_with fail
     go_roundw
     case rel => exact ⟨j + 1, by omega, by go_num, rfl, by rw [all_take_succ _ _ _ hzl, HY.out, HGE.out, HP.out]; rfl, HB1.out⟩
     case measure => simp [intOf]; omega
    | false =>
     exact M134
   ·have hj' : j = l.length := by omega
    have HJ := Lib.hid hj'
    clear hj'
    go_wp2_with fail
    go_ret
    have hall : (l.zip l').all (fun p => p.1.same p.2) = true := by
     have := HY.out
     rw [HJ.out, List.take_of_length_le (by rw [List.length_zip, ← HM.out]; simp)] at this
     exact this
    exact ⟨ret_bool (by rw [hall]), HB.out⟩
 ·have hb0 : (l.length == l'.length) = false := by simpa using hll
  have hbI : ((l.length : Int) != (l'.length : Int)) = true := by simp; omega
  have hx : ((l.length == l'.length) && (l.zip l').all (fun p => p.1.same p.2)) = false := by rw [hb0]; rfl
  rw [hx]
  clear ih hk hk' hll hb0 hx
  generalize l.length = m at *
  generalize l'.length = m' at *
  go_enter Tryz.func150, Tryz.ntmps150
  go_wp2_with fail
  go_ret
  exact ⟨rfl, Below.refl _ _⟩

set_option maxRecDepth 100000 in
set_option maxHeartbeats 2000000 in
theorem same_fail (k n : Int) (f : Nat) (s : ByteArray) (A : Option Addr) (m cap : Nat) (k' n' : Int) (f' : Nat) (s' : ByteArray) (A' : Option Addr) (m' cap' : Nat) (hf : f < 18446744073709551616) (hf' : f' < 18446744073709551616)
  (R : Bool) (w : World)
  (he : (k = k' ∧ n = n' ∧ bitsW f = bitsW f' ∧ s = s') → ∀ w1 : World, Below w.heap.size w w1 → Calls Tryz.prog 150 #[.slice A m cap, .slice A' m' cap', .func (.func 111) #[] #[]] w1 fun e w' => e = .returned (.bool R) ∧ Below w1.heap.size w1 w')
  (hn : ¬ (k = k' ∧ n = n' ∧ bitsW f = bitsW f' ∧ s = s') → R = false) :
  Calls Tryz.prog 111 #[.agg #[.int .i64 k, .int .i64 n, .float .f64 f, .string s, .slice A m cap], .agg #[.int .i64 k', .int .i64 n', .float .f64 f', .string s', .slice A' m' cap']] w fun e w' =>
   e = .returned (.bool R) ∧ Below w.heap.size w w' := by
 have H := Lib.hid he; have HN := Lib.hid hn; clear he hn
 have SF := Nm.nsame_any f f' hf hf'
 have e1 : (Nm.rcmpW f f' == 0) = decide (bitsW f = bitsW f') := by
  rcases Nm.rcmp_cases f f' hf hf' with ⟨h1, -, h3⟩ | ⟨h1, -, h3⟩ | ⟨h1, -, h3⟩
  ·rw [h1]; simp at h3; symm; simp; omega
  ·rw [h1]; simp at h3; symm; simp; omega
  ·rw [h1]; simp at h3; symm; simp; omega
 rw [e1] at SF
 clear e1
 have SF := Lib.hid SF
 have HB := Lib.hid ((box_below w k n f s A m cap).alloc (by simp) (.cells #[.int .i64 k', .int .i64 n', .float .f64 f', .string s', .slice A' m' cap'] 69))
 by_cases hh : k = k' ∧ n = n' ∧ bitsW f = bitsW f' ∧ s = s'
 ·obtain ⟨rfl, rfl, q, rfl⟩ := hh
  have E := Lib.hid (H.out ⟨rfl, rfl, q, rfl⟩)
  rw [show decide (bitsW f = bitsW f') = true from by simpa using q] at SF
  clear q H HN
  go_enter Tryz.func111, Tryz.ntmps111
  go_wp2_with (go_at_call 149; refine (SF.out _).mono ?_; rintro e w' ⟨rfl, rfl⟩)
  refine (E.out _ HB.out).mono ?_
  rintro e w1 ⟨rfl, hb1⟩
  have HB1 := Lib.hid (HB.out.trans (hb1.mono (by simp; omega)))
  clear hb1
  go_wp2_with fail
  go_ret
  exact ⟨rfl, HB1.out⟩
 ·have HR := Lib.hid (HN.out hh)
  have HH := Lib.hid hh
  clear H HN hh
  rw [HR.out]
  go_enter Tryz.func111, Tryz.ntmps111
  go_wp2_with (go_at_call 149; refine (SF.out _).mono ?_; rintro e w' ⟨rfl, rfl⟩)
  all_goals first
   | (go_ret; exact ⟨rfl, ((Below.refl _ _).alloc (Nat.le_refl _) _).alloc (by simp) _⟩)
   | (exfalso
      refine HH.out ⟨?_, ?_, ?_, ?_⟩
      all_goals clear HH SF HR HB
      all_goals first
       | assumption
       | exact (toList_inj s s').1 (by assumption)
       | omega)

theorem same_any (t : VT) : ∀ (t' : VT) (w : World) (lo hi lo' hi' : Nat) (v v' : Value) (_ : Rep w lo hi t v) (_ : hi ≤ w.heap.size) (_ : Rep w lo' hi' t' v') (_ : hi' ≤ w.heap.size),
  Calls Tryz.prog 111 #[v, v'] w fun e w' => e = .returned (.bool (t.same t')) ∧ Below w.heap.size w w' := by
 induction t using VT.ind with
 | _ k n f s l ih =>
  intro t' w lo hi lo' hi' v v' hR hz hR' hz'
  obtain ⟨k', n', f', s', l'⟩ := t'
  obtain ⟨A, cap, rfl, ho, hl, hk⟩ := hR.head
  obtain ⟨A', cap', rfl, ho', hl', hk'⟩ := hR'.head
  refine same_fail k n f s A l.length cap k' n' f' s' A' l'.length cap' ho.f1 ho'.f1 _ w ?_ ?_
  ·rintro ⟨rfl, rfl, q, rfl⟩ w1 hb
   refine (eqf_any l l' A A' cap cap' hl hl' ho.m1 ho'.m1 ih w1 lo hi lo' hi' (hk.later (hb.mono hz)) (Nat.le_trans hz hb.size) (hk'.later (hb.mono hz')) (Nat.le_trans hz' hb.size)).mono fun e w' h => ⟨?_, h.2⟩
   rw [h.1, same_mk, q]
   simp
  ·intro h
   rw [Bool.eq_false_iff]
   intro q
   obtain ⟨a, b, c, d, e, -⟩ := (same_iff ..).1 q
   exact h ⟨a, b, d, c⟩
end Vt
end Go.Proofs.YtfmnacebgplpcaaGreat
namespace Go.Proofs.YtfmnacebgplpcaaGreat
namespace Vt
open Nm (bitsW ret_int ret_bool)

theorem Tryz.infoV : (Tryz.prog.info? 69).map (fun i => (i.zero, i.size, i.bytes)) = some (some (.agg #[.int .i64 0, .int .i64 0, .float .f64 0, .string ⟨#[]⟩, .slice none 0 0]), 5, 64) := by kernel_rfl

def rowCells (w : World) (A : Option Addr) (m : Nat) : List Value :=
 match A with
 | some ⟨b, off, _⟩ => (List.range m).map fun j => (w.cell? ⟨b, off + j, none⟩).getD undef
 | none => []

theorem kid_cell {w : World} {lo hi : Nat} {l : List VT} {b off : Nat} (hk : KidsAt w lo hi l (some ⟨b, off, none⟩)) (j : Nat) (hj : j < l.length * 5) :
  ∃ u, w.cell? ⟨b, off + j, none⟩ = some u ∧ u.oneCell' = true := by
 obtain ⟨b', off', hA, -, -, h3⟩ := hk.at_ (by omega)
 injection hA with hA
 injection hA with hb ho _
 subst hb; subst ho
 obtain ⟨k, n, f, s, L, A', cap, e, c0, c1, c2, c3, c4, -⟩ := h3 (j / 5) (by omega)
 rcases (by omega : j = j / 5 * 5 ∨ j = j / 5 * 5 + 1 ∨ j = j / 5 * 5 + 2 ∨ j = j / 5 * 5 + 3 ∨ j = j / 5 * 5 + 4) with q | q | q | q | q
 ·exact ⟨_, by rw [q]; exact c0, rfl⟩
 ·exact ⟨_, by rw [q, ← Nat.add_assoc]; exact c1, rfl⟩
 ·exact ⟨_, by rw [q, ← Nat.add_assoc]; exact c2, rfl⟩
 ·exact ⟨_, by rw [q, ← Nat.add_assoc]; exact c3, rfl⟩
 ·exact ⟨_, by rw [q, ← Nat.add_assoc]; exact c4, rfl⟩

theorem row_one {w : World} {lo hi : Nat} {l : List VT} {b off : Nat} (hk : KidsAt w lo hi l (some ⟨b, off, none⟩)) :
  ∀ u ∈ rowCells w (some ⟨b, off, none⟩) (l.length * 5), u.oneCell' = true := by
 intro u hu
 unfold rowCells at hu
 rw [List.mem_map] at hu
 obtain ⟨j, hj, rfl⟩ := hu
 obtain ⟨u, h1, h2⟩ := kid_cell hk j (by simpa using hj)
 rw [h1]; exact h2

theorem row_at {w : World} {lo hi : Nat} {l : List VT} {b off : Nat} (hk : KidsAt w lo hi l (some ⟨b, off, none⟩)) :
  ∀ j u, (rowCells w (some ⟨b, off, none⟩) (l.length * 5))[j]? = some u → w.cell? ⟨b, off + j, none⟩ = some u := by
 intro j u hu
 unfold rowCells at hu
 simp only [List.getElem?_map, Option.map_eq_some_iff] at hu
 obtain ⟨i, hi, rfl⟩ := hu
 rw [List.getElem?_eq_some_iff] at hi
 obtain ⟨h1, h2⟩ := hi
 simp at h1 h2
 subst h2
 obtain ⟨u, h3, -⟩ := kid_cell hk j h1
 rw [h3]; rfl

theorem add_plain' (b off j : Nat) : (⟨b, off, none⟩ : Addr).add j = ⟨b, off + j, none⟩ := Go.WideShapes.add_plain ..

theorem block_of_add' (a : Addr) (n : Nat) : (a.add n).block = a.block := by unfold Addr.add; split <;> rfl

set_option maxRecDepth 100000 in
set_option maxHeartbeats 1000000 in
theorem sclone_any (l : List VT) (A : Option Addr) (cap : Nat) (hl : l.length ≤ 900) (hcap : l.length ≤ cap) (hc : cap ≤ maxLen) (w : World) (lo hi : Nat) (hk : KidsAt w lo hi l A) (hz : hi ≤ w.heap.size) :
  Calls Tryz.prog 122 #[.slice A l.length cap] w fun e w' =>
   ∃ v', e = .returned v' ∧ w'.ownsRow w.heap.size 69 5 v' l.length (rowCells w A (l.length * 5)) ∧ Below w.heap.size w w' := by
 unfold maxLen at hc
 have HK := Lib.hid hk; clear hk
 cases A with
 | none =>
  have h0 : l.length = 0 := by
   rcases Nat.eq_zero_or_pos l.length with h | h
   ·exact h
   ·obtain ⟨b, off, h1, -⟩ := HK.out.at_ h
    cases h1
  have HR : Hid (rowCells w none (l.length * 5) = []) := Lib.hid rfl
  rw [HR.out, h0]
  clear h0 HK HR hcap hl
  have hnil := fun w => Lib.run_eql_slice_nil (P := Tryz.prog) w 67 69 none 0 cap 0 0 Tryz.underlying67
  go_enter Tryz.func122, Tryz.ntmps122
  go_wp2_with fail
  go_ret
  exact ⟨_, rfl, World.ownsRow_nil _ _ _ _, Below.refl _ _⟩
 | some ad =>
  have hone : ∀ u ∈ rowCells w (some ad) (l.length * 5), u.oneCell' = true := by
   rcases Nat.eq_zero_or_pos l.length with h | h
   ·rw [h]; obtain ⟨b, off, sp⟩ := ad; intro u hu; simp [rowCells] at hu
   ·obtain ⟨b, off, h1, -⟩ := HK.out.at_ h
    injection h1 with h1; subst h1
    exact row_one HK.out
  have hat : ∀ j u, (rowCells w (some ad) (l.length * 5))[j]? = some u → w.cell? (ad.add j) = some u ∧ ad.block < w.heap.size := by
   rcases Nat.eq_zero_or_pos l.length with h | h
   ·rw [h]; obtain ⟨b, off, sp⟩ := ad; intro j u hu; simp [rowCells] at hu
   ·obtain ⟨b, off, h1, -, h2, -⟩ := HK.out.at_ h
    injection h1 with h1; subst h1
    intro j u hu
    exact ⟨by rw [add_plain']; exact row_at HK.out j u hu, by simp only []; omega⟩
  have hlen : (rowCells w (some ad) (l.length * 5)).length = l.length * 5 := by obtain ⟨b, off, sp⟩ := ad; simp [rowCells]
  generalize rowCells w (some ad) (l.length * 5) = xs at *
  obtain ⟨i0, hi, hz0, hz1, hz2⟩ := info_parts Tryz.infoV
  have H1 := Lib.hid hone; have H2 := Lib.hid hat; have H3 := Lib.hid hlen
  clear hone hat hlen HK
  have I1 := Lib.hid hi; have I2 := Lib.hid hz0; have I3 := Lib.hid hz1; have I4 := Lib.hid hz2
  clear hi hz0 hz1 hz2
  generalize l.length = m at *
  have HOWN : Hid ((w.alloc (.cells #[] 69)).ownsRow w.heap.size 69 5 (.slice (some ⟨w.heap.size, 0, none⟩) 0 0) 0 []) :=
   Lib.hid ⟨rfl, .inr ⟨w.heap.size, 0, #[], rfl, Nat.le_refl _, heap_alloc_new w _, Nat.le_refl _, by unfold maxLen; omega, rfl, rfl⟩⟩
  have hnil := fun w => Lib.run_eql_slice_nil (P := Tryz.prog) w 67 69 (some ad) m cap 0 0 Tryz.underlying67
  go_enter Tryz.func122, Tryz.ntmps122
  go_wp2_with (at_builtin; refine wpList_append_own _ rfl _ _ 67 rfl w.heap.size 69 i0 _ 5 64 Tryz.underlying67 I1.out I2.out I3.out I4.out rfl (by decide) _ 0 [] rfl HOWN.out ad m cap xs rfl H3.out ?c2 H1.out ?c4 ?c5 ?c6 ?_)
  case c2 =>
   intro j u hu
   obtain ⟨h1, h2⟩ := H2.out j u hu
   exact (World.cell?_alloc_lt w _ (ad.add j) (by rw [block_of_add']; exact h2)).trans h1
  case c4 => unfold maxLen; omega
  case c5 => omega
  case c6 => simp
  intro v' w1 hown hgrow _
  have HB : Hid (Below w.heap.size w w1) := Lib.hid (((Below.refl _ _).alloc (Nat.le_refl _) _).grown hgrow (by simp) (fun g hg => by injection hg with hg; rw [← hg]; exact Nat.le_refl _))
  try simp only [Nat.zero_add, List.nil_append] at hown
  have HO := Lib.hid hown
  clear hown hgrow HOWN H1 H2 H3 hnil
  go_wp2_with fail
  go_ret
  exact ⟨_, rfl, HO.out, HB.out⟩
end Vt
end Go.Proofs.YtfmnacebgplpcaaGreat
namespace Go.Proofs.YtfmnacebgplpcaaGreat
namespace Vt
open Nm (bitsW ret_int ret_bool)

def MixAt (w : World) (base : Nat) (l : List VT) (C : Nat → Array Value) (A : Option Addr) (j : Nat) : Prop := 0 < l.length → ∃ g cur, A = some ⟨g, 0, none⟩ ∧ base ≤ g ∧ g < w.heap.size ∧
 w.heap[g]? = some (.cells cur 69 (0, 0)) ∧ l.length * 5 ≤ cur.size ∧ ∀ i (h : i < l.length),
  (i < j → ∃ D, Rep w (g + 1) w.heap.size l[i] (.agg D) ∧ ∀ r, r < 5 → cur[i * 5 + r]? = D[r]?) ∧ (j ≤ i → ∀ r, r < 5 → cur[i * 5 + r]? = (C i)[r]?)

theorem mix_later {w w' : World} {base : Nat} {l : List VT} {C : Nat → Array Value} {A : Option Addr} {j : Nat} (h : MixAt w base l C A j) (hb : Below w.heap.size w w') : MixAt w' base l C A j := fun hp => by
 obtain ⟨g, cur, hA, h1, h2, h3, h4, h5⟩ := h hp
 have hz := hb.size
 refine ⟨g, cur, hA, h1, by omega, (hb.block g h2).trans h3, h4, fun i hi => ⟨fun hj => ?_, (h5 i hi).2⟩⟩
 obtain ⟨D, hD, hc⟩ := (h5 i hi).1 hj
 exact ⟨D, (hD.later hb).more (Nat.le_refl _) hz, hc⟩

def put5 (w : World) (g o : Nat) (d0 d1 d2 d3 d4 : Value) : World :=
 ((((w.setCell ⟨g, o, none⟩ d0).setCell ⟨g, o + 1, none⟩ d1).setCell ⟨g, o + 2, none⟩ d2).setCell ⟨g, o + 3, none⟩ d3).setCell ⟨g, o + 4, none⟩ d4

theorem put5_size (w : World) (g o : Nat) (d0 d1 d2 d3 d4 : Value) : (put5 w g o d0 d1 d2 d3 d4).heap.size = w.heap.size := by simp [put5, World.setCell]
theorem put5_block (w : World) (g o : Nat) (d0 d1 d2 d3 d4 : Value) (t : TypeId) (cur : Array Value) (h : w.heap[g]? = some (.cells cur t (0, 0))) :
  (put5 w g o d0 d1 d2 d3 d4).heap[g]? = some (.cells (((((cur.setIfInBounds o d0).setIfInBounds (o + 1) d1).setIfInBounds (o + 2) d2).setIfInBounds (o + 3) d3).setIfInBounds (o + 4) d4) t (0, 0)) := by
 simp [put5, World.setCell, Array.getElem?_modify, h]
theorem put5_below {B : Nat} {w w' : World} {g o : Nat} {d0 d1 d2 d3 d4 : Value} (h : Below B w w') (hg : B ≤ g) : Below B w (put5 w' g o d0 d1 d2 d3 d4) := by
 unfold put5
 exact ((((h.setCell (p := ⟨g, o, none⟩) hg _).setCell (p := ⟨g, o + 1, none⟩) hg _).setCell (p := ⟨g, o + 2, none⟩) hg _).setCell (p := ⟨g, o + 3, none⟩) hg _).setCell (p := ⟨g, o + 4, none⟩) hg _
theorem put5_cell (w : World) (g o : Nat) (d0 d1 d2 d3 d4 : Value) (b p : Nat) (h : b ≠ g) : (put5 w g o d0 d1 d2 d3 d4).cell? ⟨b, p, none⟩ = w.cell? ⟨b, p, none⟩ := by
 have e (w : World) (q : Nat) (v : Value) : (w.setCell ⟨g, q, none⟩ v).cell? ⟨b, p, none⟩ = w.cell? ⟨b, p, none⟩ := World.cell?_setCell_other w ⟨g, q, none⟩ ⟨b, p, none⟩ v (fun x => by injection x with x; exact h x.symm)
 unfold put5
 rw [e, e, e, e, e]
theorem put5_other (w : World) (g o : Nat) (d0 d1 d2 d3 d4 : Value) (b : Nat) (h : b ≠ g) : (put5 w g o d0 d1 d2 d3 d4).heap[b]? = w.heap[b]? := by
 have e (w : World) (q : Nat) (v : Value) : (w.setCell ⟨g, q, none⟩ v).heap[b]? = w.heap[b]? := Below.heap_setCell w ⟨g, q, none⟩ v b h
 unfold put5
 rw [e, e, e, e, e]

theorem set5_get (cur : Array Value) (o : Nat) (d0 d1 d2 d3 d4 : Value) (hs : o + 5 ≤ cur.size) (q : Nat) :
  (((((cur.setIfInBounds o d0).setIfInBounds (o + 1) d1).setIfInBounds (o + 2) d2).setIfInBounds (o + 3) d3).setIfInBounds (o + 4) d4)[q]? =
   if q = o then some d0 else if q = o + 1 then some d1 else if q = o + 2 then some d2 else if q = o + 3 then some d3 else if q = o + 4 then some d4 else cur[q]? := by
 simp only [Array.getElem?_setIfInBounds, Array.size_setIfInBounds]
 by_cases h0 : q = o
 ·subst h0; simp; omega
 by_cases h1 : q = o + 1
 ·subst h1; simp; omega
 by_cases h2 : q = o + 2
 ·subst h2; simp; omega
 by_cases h3 : q = o + 3
 ·subst h3; simp; omega
 by_cases h4 : q = o + 4
 ·subst h4; simp; omega
 ·rw [if_neg (by omega), if_neg (by omega), if_neg (by omega), if_neg (by omega), if_neg (by omega), if_neg h0, if_neg h1, if_neg h2, if_neg h3, if_neg h4]

theorem mix_step {w : World} {base : Nat} {l : List VT} {C : Nat → Array Value} {A : Option Addr} {j g : Nat} {d0 d1 d2 d3 d4 : Value} (hj : j < l.length) (h : MixAt w base l C A j) (hA : A = some ⟨g, 0, none⟩)
  (hr : Rep w (g + 1) w.heap.size l[j] (.agg #[d0, d1, d2, d3, d4])) : MixAt (put5 w g (j * 5) d0 d1 d2 d3 d4) base l C A (j + 1) := fun hp => by
 obtain ⟨g', cur, hA', h1, h2, h3, h4, h5⟩ := h hp
 rw [hA] at hA'
 injection hA' with hA'
 injection hA' with hg _ _
 subst hg
 have keep : ∀ {t : VT} {v : Value}, Rep w (g + 1) w.heap.size t v → Rep (put5 w g (j * 5) d0 d1 d2 d3 d4) (g + 1) (put5 w g (j * 5) d0 d1 d2 d3 d4).heap.size t v := fun hq => by
  rw [put5_size]
  exact hq.keep fun b o hb _ => put5_cell _ _ _ _ _ _ _ _ b o (by omega)
 refine ⟨g, _, hA, h1, by rw [put5_size]; exact h2, put5_block _ _ _ _ _ _ _ _ _ cur h3, by simpa using h4, fun i hi => ⟨fun hij => ?_, fun hij r hr5 => ?_⟩⟩
 ·by_cases e : i = j
  ·subst e
   refine ⟨_, keep hr, fun r hr5 => ?_⟩
   rw [set5_get _ _ _ _ _ _ _ (by omega)]
   rcases (by omega : r = 0 ∨ r = 1 ∨ r = 2 ∨ r = 3 ∨ r = 4) with rfl | rfl | rfl | rfl | rfl <;> simp
  ·obtain ⟨D, hD, hc⟩ := (h5 i hi).1 (by omega)
   refine ⟨D, keep hD, fun r hr5 => ?_⟩
   rw [set5_get _ _ _ _ _ _ _ (by omega), if_neg (by omega), if_neg (by omega), if_neg (by omega), if_neg (by omega), if_neg (by omega)]
   exact hc r hr5
 ·rw [set5_get _ _ _ _ _ _ _ (by omega), if_neg (by omega), if_neg (by omega), if_neg (by omega), if_neg (by omega), if_neg (by omega)]
  exact (h5 i hi).2 (by omega) r hr5

theorem mix_done {w : World} {base : Nat} {l : List VT} {C : Nat → Array Value} {A : Option Addr} (h : MixAt w base l C A l.length) : KidsAt w base w.heap.size l A := ⟨fun hp => by
 obtain ⟨g, cur, hA, h1, h2, h3, h4, h5⟩ := h hp
 refine ⟨g, 0, hA, h1, h2, fun i hi => ?_⟩
 obtain ⟨D, hD, hc⟩ := (h5 i hi).1 hi
 obtain ⟨k, n, f, s, L, A', cap, e, hv, -⟩ := hD.open_
 injection hv with hv
 subst hv
 have hcell : ∀ r, r < 5 → w.cell? ⟨g, 0 + i * 5 + r, none⟩ = #[Value.int .i64 k, .int .i64 n, .float .f64 f, .string s, .slice A' L.length cap][r]? := fun r hr => by
  rw [← hc r hr]
  simp [World.cell?, h3]
 exact ⟨k, n, f, s, L, A', cap, e, by simpa using hcell 0 (by omega), by simpa using hcell 1 (by omega), by simpa using hcell 2 (by omega), by simpa using hcell 3 (by omega), by simpa using hcell 4 (by omega), hD.more (by omega) (Nat.le_refl _)⟩⟩
end Vt
end Go.Proofs.YtfmnacebgplpcaaGreat
namespace Go.Proofs.YtfmnacebgplpcaaGreat
namespace Vt
open Nm (bitsW ret_int ret_bool)

def Cloned (t : VT) (w : World) (e : Ending) (w' : World) : Prop := ∃ k n f s l A cap, t = .mk k n f s l ∧ e = .returned (.agg #[.int .i64 k, .int .i64 n, .float .f64 f, .string s, .slice A l.length cap]) ∧
 Rep w' w.heap.size w'.heap.size t (.agg #[.int .i64 k, .int .i64 n, .float .f64 f, .string s, .slice A l.length cap]) ∧ Below w.heap.size w w' ∧
 (0 < l.length → ∀ b off, A = some ⟨b, off, none⟩ → ∀ o, w'.frozen? ⟨b, o, none⟩ = false)

theorem mix_start {w w' : World} {lo hi base : Nat} {l : List VT} {A A2 : Option Addr} {cap2 : Nat} (hk : KidsAt w lo hi l A) (hz : hi ≤ base) (ho : w'.ownsRow base 69 5 (.slice A2 l.length cap2) l.length (rowCells w A (l.length * 5))) :
  ∃ C : Nat → Array Value, (∀ i (h : i < l.length), ∃ k n f s L A' cap, l[i] = .mk k n f s L ∧ C i = #[.int .i64 k, .int .i64 n, .float .f64 f, .string s, .slice A' L.length cap] ∧ Rep w lo hi l[i] (.agg (C i))) ∧ MixAt w' base l C A2 0 := by
 rcases Nat.eq_zero_or_pos l.length with h0 | hp
 ·exact ⟨fun _ => #[], fun i h => absurd h (by omega), fun h => absurd h (by omega)⟩
 ·obtain ⟨b, off, hA, h1, h2, h3⟩ := hk.at_ hp
  subst hA
  have h4 : ∀ i : Nat, ∃ C : Array Value, ∀ (h : i < l.length), (∃ k n f s L A' cap, l[i] = .mk k n f s L ∧ C = #[.int .i64 k, .int .i64 n, .float .f64 f, .string s, .slice A' L.length cap] ∧ Rep w lo hi l[i] (.agg C)) ∧
    ∀ r, r < 5 → w.cell? ⟨b, off + (i * 5 + r), none⟩ = C[r]? := fun i => by
   by_cases h : i < l.length
   ·obtain ⟨k, n, f, s, L, A', cap, e, c0, c1, c2, c3, c4, hr⟩ := h3 i h
    refine ⟨_, fun _ => ⟨⟨k, n, f, s, L, A', cap, e, rfl, hr⟩, fun r hr5 => ?_⟩⟩
    rcases (by omega : r = 0 ∨ r = 1 ∨ r = 2 ∨ r = 3 ∨ r = 4) with rfl | rfl | rfl | rfl | rfl
    all_goals simpa [← Nat.add_assoc]
   ·exact ⟨#[], fun h' => absurd h' h⟩
  obtain ⟨C, hC⟩ := Classical.axiomOfChoice h4
  refine ⟨C, fun i h => (hC i h).1, fun _ => ?_⟩
  rcases ho.2 with ⟨-, h0⟩ | ⟨g, cap, cur, hv, hb, hh, hn, hm, hs, ht⟩
  ·omega
  ·injection hv with hA2 _ _
   have hlt : g < w'.heap.size := (Array.getElem?_eq_some_iff.1 hh).1
   have hle : l.length * 5 ≤ cur.size := by rw [hs]; exact Nat.mul_le_mul_right 5 hn
   refine ⟨g, cur, hA2, hb, hlt, hh, hle, fun i hi => ⟨fun hj => absurd hj (by omega), fun _ r hr5 => ?_⟩⟩
   obtain ⟨⟨k, n, f, s, L, A', cap, e, hCi, hr⟩, hc⟩ := hC i hi
   have hq : i * 5 + r < l.length * 5 := by omega
   have e1 : cur[i * 5 + r]? = (rowCells w (some ⟨b, off, none⟩) (l.length * 5))[i * 5 + r]? := by
    rw [← ht, List.getElem?_take_of_lt hq, Array.getElem?_toList]
   rw [e1]
   have e2 := hc r hr5
   have e3 : ∃ u, (C i)[r]? = some u := by rw [hCi]; exact ⟨_, Array.getElem?_eq_getElem (by simpa using hr5)⟩
   obtain ⟨u, hu⟩ := e3
   rw [hu] at e2 ⊢
   unfold rowCells
   simp [List.getElem?_map, List.getElem?_range hq, e2]

theorem mix_cells {w : World} {base : Nat} {l : List VT} {C : Nat → Array Value} {A : Option Addr} {j : Nat} (hj : j < l.length) (h : MixAt w base l C A j) {u0 u1 u2 u3 u4 : Value} (hC : C j = #[u0, u1, u2, u3, u4]) :
  ∃ g, A = some ⟨g, 0, none⟩ ∧ base ≤ g ∧ g < w.heap.size ∧ w.cell? ⟨g, j * 5, none⟩ = some u0 ∧ w.cell? ⟨g, j * 5 + 1, none⟩ = some u1 ∧ w.cell? ⟨g, j * 5 + 2, none⟩ = some u2 ∧ w.cell? ⟨g, j * 5 + 3, none⟩ = some u3 ∧ w.cell? ⟨g, j * 5 + 4, none⟩ = some u4 ∧
   (∀ o, w.frozen? ⟨g, o, none⟩ = false) := by
 obtain ⟨g, cur, hA, h1, h2, h3, h4, h5⟩ := h (by omega)
 have hcell : ∀ r, r < 5 → w.cell? ⟨g, j * 5 + r, none⟩ = #[u0, u1, u2, u3, u4][r]? := fun r hr => by
  rw [← hC, ← (h5 j hj).2 (Nat.le_refl _) r hr]
  simp [World.cell?, h3]
 exact ⟨g, hA, h1, h2, by simpa using hcell 0 (by omega), by simpa using hcell 1 (by omega), by simpa using hcell 2 (by omega), by simpa using hcell 3 (by omega), by simpa using hcell 4 (by omega), fun o => by simp [World.frozen?, h3]⟩

theorem own_form {w : World} {base : Nat} {e : TypeId} {size : Nat} {v : Value} {n : Nat} {xs : List Value} (h : w.ownsRow base e size v n xs) : ∃ A cap, v = .slice A n cap ∧ n ≤ cap ∧ cap ≤ maxLen := by
 rcases h.2 with ⟨rfl, rfl⟩ | ⟨g, cap, cur, rfl, -, -, h1, h2, -⟩
 ·exact ⟨none, 0, rfl, Nat.le_refl _, by unfold maxLen; omega⟩
 ·exact ⟨_, cap, rfl, h1, h2⟩

theorem mix_set {w : World} {base : Nat} {l : List VT} {C : Nat → Array Value} {A : Option Addr} {j : Nat} (h : MixAt w base l C A j) {b o : Nat} (hb : b < base) (v : Value) : MixAt (w.setCell ⟨b, o, none⟩ v) base l C A j := fun hp => by
 obtain ⟨g, cur, hA, h1, h2, h3, h4, h5⟩ := h hp
 have hz : (w.setCell ⟨b, o, none⟩ v).heap.size = w.heap.size := by simp [World.setCell]
 refine ⟨g, cur, hA, h1, by omega, (Below.heap_setCell w ⟨b, o, none⟩ v g (by simp only []; omega)).trans h3, h4, fun i hi => ⟨fun hj => ?_, (h5 i hi).2⟩⟩
 obtain ⟨D, hD, hc⟩ := (h5 i hi).1 hj
 rw [hz]
 exact ⟨D, hD.setCell (.inl (by simp only []; omega)) v, hc⟩

theorem box_set {w : World} {g : Nat} {k n : Int} {f : Nat} {s : ByteArray} {A A2 : Option Addr} {m c m2 c2 : Nat} (h : BoxAt w g k n f s A m c) : BoxAt (w.setCell ⟨g, 4, none⟩ (.slice A2 m2 c2)) g k n f s A2 m2 c2 := by
 unfold BoxAt at *
 simp [World.setCell, Array.getElem?_modify, h]
theorem box_far {w : World} {g : Nat} {k n : Int} {f : Nat} {s : ByteArray} {A : Option Addr} {m c : Nat} (h : BoxAt w g k n f s A m c) {b o : Nat} (hb : g ≠ b) (v : Value) : BoxAt (w.setCell ⟨b, o, none⟩ v) g k n f s A m c :=
 (Below.heap_setCell w ⟨b, o, none⟩ v g (by simpa using hb)).trans h
theorem box_free {w : World} {g : Nat} {k n : Int} {f : Nat} {s : ByteArray} {A : Option Addr} {m c : Nat} (h : BoxAt w g k n f s A m c) (o : Nat) : w.frozen? ⟨g, o, none⟩ = false := by
 unfold BoxAt at h; simp [World.frozen?, h]

theorem free_row {w : World} {g : Nat} {t : TypeId} {cur : Array Value} (h : w.heap[g]? = some (.cells cur t (0, 0))) (o : Nat) : w.frozen? ⟨g, o, none⟩ = false := by simp [World.frozen?, h]

theorem clone_finish {w wr : World} {k n : Int} {f : Nat} {s : ByteArray} {l : List VT} {C : Nat → Array Value} {A2 : Option Addr} {cap0 cap2 : Nat} (ho : HeadOk k n f s cap0) (hl2 : l.length ≤ cap2) (hc2 : cap2 ≤ maxLen)
  (hm : MixAt wr (w.heap.size + 1 + 1) l C A2 l.length) (hb : Below w.heap.size w wr) :
  Cloned (.mk k n f s l) w (.returned (.agg #[.int .i64 k, .int .i64 n, .float .f64 f, .string s, .slice A2 l.length cap2])) (put5 wr (w.heap.size + 1) 0 (.int .i64 k) (.int .i64 n) (.float .f64 f) (.string s) (.slice A2 l.length cap2)) := by
 have hk2 := mix_done hm
 refine ⟨k, n, f, s, l, A2, cap2, rfl, rfl, ?_, put5_below hb (by omega), fun hp b off hA o => ?_⟩
 ·rw [put5_size]
  exact (Rep.close ⟨ho.k0, ho.k1, ho.n0, ho.n1, ho.f1, ho.s1, hc2⟩ hl2 (hk2.keep fun b o hb _ => put5_cell _ _ _ _ _ _ _ _ b o (by omega))).more (by omega) (Nat.le_refl _)
 ·obtain ⟨g, cur, hA', h1, h2, h3, -⟩ := hm hp
  rw [hA] at hA'
  obtain rfl : b = g := congrArg Addr.block (Option.some.inj hA')
  exact free_row ((put5_other wr (w.heap.size + 1) 0 _ _ _ _ _ b (by omega)).trans h3) o

set_option maxRecDepth 100000 in
set_option maxHeartbeats 4000000 in
theorem clone_any (t : VT) : ∀ (w : World) (lo hi : Nat) (v : Value) (_ : Rep w lo hi t v) (_ : hi ≤ w.heap.size) (_ : t.Slim 900),
  Calls Tryz.prog 84 #[v] w (Cloned t w) := by
 induction t using VT.ind with
 | _ k n f s l ih =>
  intro w lo hi v hR hz hS
  obtain ⟨A, cap, rfl, ho, hl, hk⟩ := hR.head
  obtain ⟨-, hl9, hkS⟩ := slim_mk.1 hS
  have hc := ho.m1
  have HO := Lib.hid ho
  have IH : Hid (∀ (i : Nat) (hi : i < l.length) (w : World) (lo hi : Nat) (v : Value) (_ : Rep w lo hi l[i] v) (_ : hi ≤ w.heap.size), Calls Tryz.prog 84 #[v] w (Cloned l[i] w)) :=
   Lib.hid fun i hi w lo hi' v h1 h2 => ih i hi w lo hi' v h1 h2 (hkS i hi)
  clear ih hR ho hkS hS
  have HK := Lib.hid hk; clear hk
  have hl0 : 0 ≤ (l.length : Int) := by omega
  have SC := Lib.hid (fun w lo hi h1 h2 => sclone_any l A cap hl9 hl hc w lo hi h1 h2)
  unfold maxLen at hc
  have HBX := Lib.hid ((BoxAt.new w k n f s A l.length cap).later ((Below.refl (w.heap.size + 1) _).alloc (by simp) (.cells #[.int .i64 0, .int .i64 0, .float .f64 0, .string ⟨#[]⟩, .slice none 0 0] 69)) (by omega))
  have HB0 := Lib.hid ((box_below w k n f s A l.length cap).alloc (by simp) (.cells #[.int .i64 0, .int .i64 0, .float .f64 0, .string ⟨#[]⟩, .slice none 0 0] 69))
  go_enter Tryz.func84, Tryz.ntmps84
  go_wp2_with fail
  refine (SC.out _ lo hi ((HK.out.alloc hz _).alloc (by simp; omega) _) (by simp; omega)).mono ?_
  rintro e w3 ⟨v', rfl, hown, hb3⟩
  obtain ⟨A2, cap2, rfl, hl2, hc2⟩ := own_form hown
  obtain ⟨C, hC, hmix⟩ := mix_start ((HK.out.alloc hz _).alloc (by simp; omega) _) (by simp; omega) hown
  have HC := Lib.hid hC
  clear hC hown
  simp only [World.size_alloc] at hmix
  have hsz3 := hb3.size
  simp only [World.size_alloc] at hsz3
  have hbox := HBX.out.later hb3 (by simp; omega)
  have hres : BoxAt w3 (w.heap.size + 1) 0 0 0 ⟨#[]⟩ none 0 0 := (hb3.block (w.heap.size + 1) (by simp only [World.size_alloc]; omega)).trans (by
   have := BoxAt.new (w.alloc (.cells #[.int .i64 k, .int .i64 n, .float .f64 f, .string s, .slice A l.length cap] 69)) 0 0 0 ⟨#[]⟩ none 0 0
   rw [World.size_alloc] at this
   exact this)
  have hb03 : Below w.heap.size w w3 := HB0.out.trans (hb3.mono (by simp; omega))
  clear hb3 HBX HB0 SC
  obtain ⟨c0, c1, c2, c3, c4⟩ := hbox.cells
  have hfz := box_free hbox 4
  have HM := Lib.hid (mix_set hmix (b := w.heap.size) (o := 4) (by omega) (.slice A2 l.length cap2))
  have HBX := Lib.hid (box_set (A2 := A2) (m2 := l.length) (c2 := cap2) hbox)
  have HRS := Lib.hid (box_far hres (b := w.heap.size) (o := 4) (by omega) (.slice A2 l.length cap2))
  have HBW := Lib.hid (hb03.setCell (p := ⟨w.heap.size, 4, none⟩) (Nat.le_refl _) (.slice A2 l.length cap2))
  clear hmix hbox hres hb03
  unfold maxLen at hc2
  go_wp2_with fail
  go_loopw [12] (fun i wr => ∃ (j : Nat), j ≤ l.length ∧ i = .int .i64 j ∧ BoxAt wr w.heap.size k n f s A2 l.length cap2 ∧ BoxAt wr (w.heap.size + 1) 0 0 0 ⟨#[]⟩ none 0 0 ∧ MixAt wr (w.heap.size + 1 + 1) l C A2 j ∧ Below w.heap.size w wr) (fun i _ => l.length - (intOf i).toNat)
  case atStart => exact ⟨0, by omega, rfl, HBX.out, HRS.out, HM.out, HBW.out⟩
  case round =>
   clear HBX HRS HM HBW c0 c1 c2 c3 c4 hfz hsz3
   obtain ⟨j, hj, rfl, hbox, hres, hmix, hb⟩ := hrel
   have hlt0 := hres.lt
   by_cases hlt : j < l.length
   ·obtain ⟨k', n', f', s', L', A', cap', e, hCj, hrj⟩ := HC.out j hlt
    obtain ⟨g, hA2, hg1, hg2, d0, d1, d2, d3, d4, hfg⟩ := mix_cells hlt hmix hCj
    subst hA2
    obtain ⟨c0, c1, c2, c3, c4⟩ := hbox.cells
    have HRJ : Hid (Rep wr lo hi l[j] (.agg #[.int .i64 k', .int .i64 n', .float .f64 f', .string s', .slice A' L'.length cap'])) := Lib.hid (by
     rw [hCj] at hrj
     exact hrj.keep fun b o _ h2 => (hb.cell (p := ⟨b, o, none⟩) (by simp only []; omega)).trans (by simp [World.cell?_alloc_lt, show b < w.heap.size by omega, show b < w.heap.size + 1 by omega]))
    have HBX := Lib.hid hbox; have HRS := Lib.hid hres; have HMX := Lib.hid hmix; have HB := Lib.hid hb; have HFG := Lib.hid hfg
    clear hCj hrj e hbox hres hmix hb hfg
    go_wp2_with fail
    have hq := BoxAt.new wr k' n' f' s' A' L'.length cap'
    have HBQ : Hid (Below wr.heap.size wr (wr.alloc (.cells #[.int .i64 k', .int .i64 n', .float .f64 f', .string s', .slice A' L'.length cap'] 69))) := Lib.hid (box_below ..)
    have hqz : (wr.alloc (.cells #[.int .i64 k', .int .i64 n', .float .f64 f', .string s', .slice A' L'.length cap'] 69)).heap.size = wr.heap.size + 1 := World.size_alloc ..
    generalize wr.alloc (.cells #[.int .i64 k', .int .i64 n', .float .f64 f', .string s', .slice A' L'.length cap'] 69) = wq at *
    have hqz' : wr.heap.size < wq.heap.size := by omega
    have HQZ := Lib.hid hqz; clear hqz
    obtain ⟨q0, q1, q2, q3, q4⟩ := hq.cells
    have c4' : wq.cell? ⟨w.heap.size, 4, none⟩ = some (.slice (some ⟨g, 0, none⟩) l.length cap2) := (HBQ.out.cell (p := ⟨w.heap.size, 4, none⟩) (by simp only []; omega)).trans c4
    clear hq
    have hgq : g < wq.heap.size := by omega
    have H9 : Hid (∀ W', Below wq.heap.size wq W' → Calls Tryz.prog 84 #[.agg #[.int .i64 k', .int .i64 n', .float .f64 f', .string s', .slice A' L'.length cap']] W' (Cloned l[j] W')) := Lib.hid fun W' hb => by
     have hz' := hb.size
     exact IH.out j hlt W' lo hi _ ((HRJ.out.later (HBQ.out.mono (by omega))).later (hb.mono (by omega))) (by omega)
    have KS : Hid (∀ W', Below wq.heap.size wq W' → W'.cell? ⟨w.heap.size, 4, none⟩ = some (.slice (some ⟨g, 0, none⟩) l.length cap2) ∧ W'.cell? ⟨wr.heap.size, 0, none⟩ = some (.int .i64 k') ∧ W'.cell? ⟨wr.heap.size, 1, none⟩ = some (.int .i64 n') ∧ W'.cell? ⟨wr.heap.size, 2, none⟩ = some (.float .f64 f') ∧ W'.cell? ⟨wr.heap.size, 3, none⟩ = some (.string s') ∧ W'.cell? ⟨wr.heap.size, 4, none⟩ = some (.slice A' L'.length cap')) := Lib.hid fun W' hb => by
     have e1 : ∀ b o, b < wq.heap.size → W'.cell? ⟨b, o, none⟩ = wq.cell? ⟨b, o, none⟩ := fun b o h => hb.cell (p := ⟨b, o, none⟩) h
     exact ⟨(e1 _ _ (by omega)).trans c4', (e1 _ _ hqz').trans q0, (e1 _ _ hqz').trans q1, (e1 _ _ hqz').trans q2, (e1 _ _ hqz').trans q3, (e1 _ _ hqz').trans q4⟩
    have KS2 : Hid (∀ (W5 W' : World), Below wq.heap.size wq W5 → (∀ b p, b ≠ g → W'.cell? ⟨b, p, none⟩ = W5.cell? ⟨b, p, none⟩) → W'.cell? ⟨w.heap.size, 4, none⟩ = some (.slice (some ⟨g, 0, none⟩) l.length cap2) ∧ W'.cell? ⟨wr.heap.size, 0, none⟩ = some (.int .i64 k') ∧ W'.cell? ⟨wr.heap.size, 1, none⟩ = some (.int .i64 n') ∧ W'.cell? ⟨wr.heap.size, 2, none⟩ = some (.float .f64 f') ∧ W'.cell? ⟨wr.heap.size, 3, none⟩ = some (.string s') ∧ W'.cell? ⟨wr.heap.size, 4, none⟩ = some (.slice A' L'.length cap')) := Lib.hid fun W5 W' hb he => by
     obtain ⟨a0, a1, a2, a3, a4, a5⟩ := KS.out W5 hb
     exact ⟨(he _ _ (by omega)).trans a0, (he _ _ (by omega)).trans a1, (he _ _ (by omega)).trans a2, (he _ _ (by omega)).trans a3, (he _ _ (by omega)).trans a4, (he _ _ (by omega)).trans a5⟩
    have KG : Hid (∀ W', Below wq.heap.size wq W' → W'.cell? ⟨g, j * 5, none⟩ = some (.int .i64 k') ∧ W'.cell? ⟨g, j * 5 + 1, none⟩ = some (.int .i64 n') ∧ W'.cell? ⟨g, j * 5 + 2, none⟩ = some (.float .f64 f') ∧ W'.cell? ⟨g, j * 5 + 3, none⟩ = some (.string s') ∧ W'.cell? ⟨g, j * 5 + 4, none⟩ = some (.slice A' L'.length cap') ∧
      W'.frozen? ⟨g, j * 5, none⟩ = false ∧ W'.frozen? ⟨g, j * 5 + 1, none⟩ = false ∧ W'.frozen? ⟨g, j * 5 + 2, none⟩ = false ∧ W'.frozen? ⟨g, j * 5 + 3, none⟩ = false ∧ W'.frozen? ⟨g, j * 5 + 4, none⟩ = false) := Lib.hid fun W' hb => by
     have e1 : ∀ o, W'.cell? ⟨g, o, none⟩ = wq.cell? ⟨g, o, none⟩ := fun o => hb.cell (p := ⟨g, o, none⟩) hgq
     have e2 : ∀ o, W'.frozen? ⟨g, o, none⟩ = false := fun o => (hb.frozen (p := ⟨g, o, none⟩) hgq).trans ((HBQ.out.frozen (p := ⟨g, o, none⟩) hg2).trans (HFG.out o))
     have e3 : ∀ o, wq.cell? ⟨g, o, none⟩ = wr.cell? ⟨g, o, none⟩ := fun o => HBQ.out.cell (p := ⟨g, o, none⟩) hg2
     exact ⟨((e1 _).trans (e3 _)).trans d0, ((e1 _).trans (e3 _)).trans d1, ((e1 _).trans (e3 _)).trans d2, ((e1 _).trans (e3 _)).trans d3, ((e1 _).trans (e3 _)).trans d4, e2 _, e2 _, e2 _, e2 _, e2 _⟩
    clear d0 d1 d2 d3 d4 q0 q1 q2 q3 q4 c0 c1 c2 c3 c4 c4'
    go_region_held3 (fun W' => W'.cell? ⟨w.heap.size, 4, none⟩ = some (.slice (some ⟨g, 0, none⟩) l.length cap2) ∧ W'.cell? ⟨wr.heap.size, 0, none⟩ = some (.int .i64 k') ∧ W'.cell? ⟨wr.heap.size, 1, none⟩ = some (.int .i64 n') ∧ W'.cell? ⟨wr.heap.size, 2, none⟩ = some (.float .f64 f') ∧ W'.cell? ⟨wr.heap.size, 3, none⟩ = some (.string s') ∧ W'.cell? ⟨wr.heap.size, 4, none⟩ = some (.slice A' L'.length cap'))
     (first
      | (exact KS.out _ (below_drew (Below.refl _ _)))
      | (exact KS.out _ (Below.trans (below_drew (Below.refl _ _)) hb9))
      | (exact KS2.out w5 _ (Below.trans (below_drew (Below.refl _ _)) hb9) (fun b p h => put5_cell w5 g (j * 5) _ _ _ _ _ b p h)))
     ((go_at_call 84; refine (H9.out _ (below_drew (Below.refl _ _))).mono ?_; rintro e w5 ⟨k5, n5, f5, s5, L5, A5, cap5, e5, rfl, hr5, hb9, -⟩; obtain ⟨g0, g1, g2, g3, g4, f0, f1, f2, f3, f4⟩ := KG.out w5 (Below.trans (below_drew (Below.refl _ _)) hb9); have E5 := Lib.hid e5; clear e5))
    have hbq5 : Below wq.heap.size wq w5 := Below.trans (below_drew (Below.refl _ _)) hb9
    have hb5r : Below wr.heap.size wr w5 := HBQ.out.trans (hbq5.mono (by omega))
    clear hbq5
    have hz5 := hb5r.size
    have HR5 : Hid (Rep w5 (g + 1) w5.heap.size l[j] (.agg #[.int .i64 k5, .int .i64 n5, .float .f64 f5, .string s5, .slice A5 L5.length cap5])) := Lib.hid (hr5.more (by show g + 1 ≤ wq.heap.size; omega) (Nat.le_refl _))
    have HM5 := Lib.hid (mix_step hlt (mix_later HMX.out hb5r) rfl HR5.out)
    have HX5 := Lib.hid (show BoxAt (put5 w5 g (j * 5) (.int .i64 k5) (.int .i64 n5) (.float .f64 f5) (.string s5) (.slice A5 L5.length cap5)) w.heap.size k n f s (some ⟨g, 0, none⟩) l.length cap2 from (put5_other _ _ _ _ _ _ _ _ _ (by omega)).trans (HBX.out.later hb5r (by omega)))
    have HS5 := Lib.hid (show BoxAt (put5 w5 g (j * 5) (.int .i64 k5) (.int .i64 n5) (.float .f64 f5) (.string s5) (.slice A5 L5.length cap5)) (w.heap.size + 1) 0 0 0 ⟨#[]⟩ none 0 0 from (put5_other _ _ _ _ _ _ _ _ _ (by omega)).trans (HRS.out.later hb5r (by omega)))
    have HB5 := Lib.hid (put5_below (d0 := .int .i64 k5) (d1 := .int .i64 n5) (d2 := .float .f64 f5) (d3 := .string s5) (d4 := .slice A5 L5.length cap5) (o := j * 5) (HB.out.trans (hb5r.mono (by omega))) (show w.heap.size ≤ g by omega))
    clear hb5r hr5 hb9 KS KS2 KG H9 HMX HBX HRS HB HR5 HFG HBQ HRJ E5
    go_split_ands
    unfold put5 at HM5 HX5 HS5 HB5
    generalize ((((w5.setCell ⟨g, j * 5, none⟩ (.int .i64 k5)).setCell ⟨g, j * 5 + 1, none⟩ (.int .i64 n5)).setCell ⟨g, j * 5 + 2, none⟩ (.float .f64 f5)).setCell ⟨g, j * 5 + 3, none⟩ (.string s5)).setCell ⟨g, j * 5 + 4, none⟩ (.slice A5 L5.length cap5) = w6 at *
    clear g0 g1 g2 g3 g4 f0 f1 f2 f3 f4
    go_wp2_with fail
    go_roundw
    case rel => exact ⟨j + 1, by omega, by go_num, HX5.out, HS5.out, HM5.out, HB5.out⟩
    case measure => simp [intOf]; omega
   ·have hj' : j = l.length := by omega
    subst hj'
    obtain ⟨c0, c1, c2, c3, c4⟩ := hbox.cells
    obtain ⟨r0, r1, r2, r3, r4⟩ := hres.cells
    have f0 := box_free hres 0
    have f1 := box_free hres 1
    have f2 := box_free hres 2
    have f3 := box_free hres 3
    have f4 := box_free hres 4
    have HMX := Lib.hid hmix; have HB := Lib.hid hb; have HRS := Lib.hid hres
    clear hmix hb hbox hres
    go_wp2_with fail
    refine bodyPost_ret (v := .agg #[.int .i64 k, .int .i64 n, .float .f64 f, .string s, .slice A2 l.length cap2]) (by simp [results, Tryz.results84, go_sem, r0, r1, r2, r3, r4]) rfl ?_
    exact clone_finish HO.out hl2 (by unfold maxLen; exact hc2) HMX.out HB.out
end Vt
end Go.Proofs.YtfmnacebgplpcaaGreat
