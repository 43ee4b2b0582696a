/- Contracts of the reference's Few (weight and small) of a tree. -/
import Derived.Test.YtpneejlilgepfaaVtB
import Derived.IntWalk
import Derived.Deep.DeepFit
namespace Go.Proofs.Ytpneejlilgepfaa
open Go.RowKit
set_option linter.unusedVariables false
namespace Vt
open Nm (bitsW ret_int ret_bool)

/-- A block that holds a value by itself. -/
def BoxAt (w : World) (g : Nat) (k n : Int) (f : Nat) (s : ByteArray) (A : Option Addr) (m c : Nat) : Prop :=
  w.heap[g]? = some (.cells #[.int .i64 k, .int .i64 n, .float .f64 f, .string s, .slice A m c] 33 (0, 0))

theorem BoxAt.later {w w' : World} {g B : Nat} {k n : Int} {f : Nat} {s : ByteArray} {A : Option Addr} {m c : Nat} (h : BoxAt w g k n f s A m c) (hb : Below B w w') (hg : g < B) : BoxAt w' g k n f s A m c := (hb.block g hg).trans h
theorem BoxAt.cells {w : World} {g : Nat} {k n : Int} {f : Nat} {s : ByteArray} {A : Option Addr} {m c : Nat} (h : BoxAt w g k n f s A m c) :
    w.cell? ⟨g, 0, none⟩ = some (.int .i64 k) ∧ w.cell? ⟨g, 1, none⟩ = some (.int .i64 n) ∧ w.cell? ⟨g, 2, none⟩ = some (.float .f64 f) ∧ w.cell? ⟨g, 3, none⟩ = some (.string s) ∧ w.cell? ⟨g, 4, none⟩ = some (.slice A m c) := by
  unfold BoxAt at h
  simp [World.cell?, h]
theorem BoxAt.new (w : World) (k n : Int) (f : Nat) (s : ByteArray) (A : Option Addr) (m c : Nat) : BoxAt (w.alloc (.cells #[.int .i64 k, .int .i64 n, .float .f64 f, .string s, .slice A m c] 33)) w.heap.size k n f s A m c := heap_alloc_new w _
theorem BoxAt.lt {w : World} {g : Nat} {k n : Int} {f : Nat} {s : ByteArray} {A : Option Addr} {m c : Nat} (h : BoxAt w g k n f s A m c) : g < w.heap.size := (Array.getElem?_eq_some_iff.1 h).1

theorem weightL_take (l : List VT) (n m : Int) (k : Nat) (h : k < l.length) (hn : weightL (l.take k) n m ≤ m) : weightL (l.take (k + 1)) n m = weightL (l.take k) n m + l[k].weight (m - weightL (l.take k) n m) := by
  rw [List.take_succ_eq_append_getElem h]
  unfold weightL at *
  rw [List.foldl_append]
  simp only [List.foldl_cons, List.foldl_nil]
  rw [if_pos hn]
theorem weightL_stop (l : List VT) (n m : Int) (k : Nat) (hn : ¬ weightL (l.take k) n m ≤ m) : weightL l n m = weightL (l.take k) n m := by
  have e : weightL l n m = weightL (l.drop k) (weightL (l.take k) n m) m := by
    unfold weightL
    rw [← List.foldl_append, List.take_append_drop]
  rw [e]
  generalize weightL (l.take k) n m = x at *
  cases hd : l.drop k with
  | nil => rfl
  | cons t r => rw [weightL_cons, if_neg hn]

set_option maxHeartbeats 1000000 in
theorem weight_any (t : VT) : ∀ (m : Int) (_ : 0 ≤ m) (_ : m ≤ 900) (w : World) (lo hi : Nat) (v : Value) (_ : Rep w lo hi t v) (_ : hi ≤ w.heap.size),
    Calls Try.prog 43 #[v, .int .i64 m] w fun e w' => e = .returned (.int .i64 (t.weight m)) ∧ Below w.heap.size w w' := by
  induction t using VT.ind with
  | _ k n f s l ih =>
    intro m hm0 hm1 w lo hi v hR hz
    obtain ⟨A, cap, rfl, ho, hl, hk⟩ := hR.head
    have hs := ho.s1
    have hc := ho.m1
    unfold maxLen at hs hc
    have IH := Lib.hid ih; clear ih hR ho
    have HK := Lib.hid hk; clear hk
    obtain ⟨n0, hn0⟩ : ∃ n0 : Int, n0 = 1 + min (s.size : Int) 1000 := ⟨_, rfl⟩
    have b0 : 1 ≤ n0 := by omega
    have b1 : n0 ≤ 1001 := by omega
    have HW : Hid ((VT.mk k n f s l).weight m = weightL l n0 m) := Lib.hid (by rw [weight_mk, hn0])
    have HN := Lib.hid hn0; clear hn0
    by_cases hsz : (s.size : Int) ≤ 1000
    all_goals
      go_enter Try.func43, Try.ntmps43
      go_wp2_with fail
      go_loopw [5, 6] (fun x i wr => ∃ (j : Nat) (y : Int), j ≤ l.length ∧ i = .int .i64 j ∧ x = .int .i64 y ∧ y = weightL (l.take j) n0 m ∧ BoxAt wr w.heap.size k n f s A l.length cap ∧ Below w.heap.size w wr) (fun _ i _ => l.length - (intOf i).toNat)
      case atStart => exact ⟨0, n0, by omega, rfl, by rw [HN.out]; congr 1; omega, rfl, BoxAt.new .., (Below.refl _ _).alloc (Nat.le_refl _) _⟩
      case round =>
        obtain ⟨j, y, hj, rfl, rfl, hy, hbox, hb⟩ := hrel
        have hy0 : n0 ≤ y := by rw [hy]; exact weightL_ge' _ _ _
        have hy1 : y ≤ m + 1001 := by rw [hy]; exact weightL_le _ m (fun _ _ => weight_le _) _ (by omega)
        have HY := Lib.hid hy; clear hy
        have hlt0 := hbox.lt
        obtain ⟨c0, c1, c2, c3, c4⟩ := hbox.cells
        have HBX := Lib.hid hbox; have HB := Lib.hid hb; clear hbox hb
        by_cases hlt : j < l.length
        · by_cases hle : y ≤ m
          · obtain ⟨b, off, hA, h1, h2, h3⟩ := (HK.out.later (HB.out.mono hz)).at_ (by omega)
            obtain ⟨k', n', f', s', L', A', cap', e, d0, d1, d2, d3, d4, hr⟩ := h3 j hlt
            subst hA
            have HR := Lib.hid hr
            clear h3 e hr
            go_wp2_with fail
            refine (IH.out j hlt (m - y) (by omega) (by omega) wr lo hi _ HR.out (by omega)).mono ?_
            rintro e w1 ⟨rfl, hb1⟩
            have hx1 := weight_le l[j] (m - y) (by omega)
            have hx0 := weight_ge l[j] (m - y)
            have HT : Hid (y + l[j].weight (m - y) = weightL (l.take (j + 1)) n0 m) := Lib.hid (by rw [weightL_take l n0 m j hlt (by rw [← HY.out]; exact hle), ← HY.out])
            have HBX1 : BoxAt w1 w.heap.size k n f s (some ⟨b, off, none⟩) l.length cap := HBX.out.later hb1 hlt0
            have HB1 : Below w.heap.size w w1 := HB.out.trans (hb1.mono (by omega))
            generalize l[j].weight (m - y) = x at *
            have HBX1 := Lib.hid HBX1; have HB1 := Lib.hid HB1
            clear HBX HB HR hb1 c0 c1 c2 c3 c4 d0 d1 d2 d3 d4
            go_wp2_with fail
            go_roundw
            case rel => exact ⟨j + 1, _, by omega, by go_num, rfl, HT.out, HBX1.out, HB1.out⟩
            case measure => simp [intOf]; omega
          · go_wp2_with fail
            go_ret
            exact ⟨ret_int (by rw [HW.out, weightL_stop l n0 m j (by rw [← HY.out]; omega), HY.out]), HB.out⟩
        · go_wp2_with fail
          go_ret
          have : j = l.length := by omega
          exact ⟨ret_int (by rw [HW.out, HY.out, this, List.take_length]), HB.out⟩

theorem all_take_succ {α : Type} (l : List α) (p : α → Bool) (j : Nat) (h : j < l.length) : (l.take (j + 1)).all p = ((l.take j).all p && p l[j]) := by
  rw [List.take_succ_eq_append_getElem h, List.all_append]; simp
theorem all_false {α : Type} (l : List α) (p : α → Bool) (j : Nat) (h : j < l.length) (hp : p l[j] = false) : l.all p = false := by
  rw [Bool.eq_false_iff]
  intro hh
  rw [all_iff] at hh
  rw [hh j h] at hp
  cases hp

set_option maxHeartbeats 1000000 in
theorem small_any (t : VT) : ∀ (x : Int) (_ : 0 ≤ x) (_ : x ≤ 20) (w : World) (lo hi : Nat) (v : Value) (_ : Rep w lo hi t v) (_ : hi ≤ w.heap.size),
    Calls Try.prog 44 #[v, .int .i64 x] w fun e w' => e = .returned (.bool (t.small x.toNat)) ∧ Below w.heap.size w w' := by
  induction t using VT.ind with
  | _ k n f s l ih =>
    intro x hx0 hx1 w lo hi v hR hz
    obtain ⟨A, cap, rfl, ho, hl, hk⟩ := hR.head
    have hc := ho.m1
    unfold maxLen at hc
    have IH := Lib.hid ih; clear ih hR ho
    have HK := Lib.hid hk; clear hk
    by_cases hx : x = 0
    · subst hx
      have HW : Hid ((VT.mk k n f s l).small (0 : Int).toNat = false) := Lib.hid (by rw [small_mk]; rfl)
      go_enter Try.func44, Try.ntmps44
      go_wp2_with fail
      go_ret
      exact ⟨ret_bool HW.out.symm, (Below.refl _ _).alloc (Nat.le_refl _) _⟩
    · have hxb : (x == 0) = false := by simpa using hx
      have HW : Hid ((VT.mk k n f s l).small x.toNat = l.all (fun t => t.small (x - 1).toNat)) := Lib.hid (by
        rw [small_mk, show x.toNat - 1 = (x - 1).toNat from by omega]
        have : (x.toNat != 0) = true := by simp; omega
        rw [this]; rfl)
      have hxp : 1 ≤ x := by omega
      clear hx
      go_enter Try.func44, Try.ntmps44
      go_wp2_with fail
      go_loopw [5] (fun i wr => ∃ (j : Nat), j ≤ l.length ∧ i = .int .i64 j ∧ (l.take j).all (fun t => t.small (x - 1).toNat) = true ∧ BoxAt wr w.heap.size k n f s A l.length cap ∧ Below w.heap.size w wr) (fun i _ => l.length - (intOf i).toNat)
      case atStart => exact ⟨0, by omega, rfl, rfl, BoxAt.new .., (Below.refl _ _).alloc (Nat.le_refl _) _⟩
      case round =>
        obtain ⟨j, hj, rfl, hy, hbox, hb⟩ := hrel
        have HY := Lib.hid hy; clear hy
        have hlt0 := hbox.lt
        obtain ⟨c0, c1, c2, c3, c4⟩ := hbox.cells
        have HBX := Lib.hid hbox; have HB := Lib.hid hb; clear hbox hb
        by_cases hlt : j < l.length
        · obtain ⟨b, off, hA, h1, h2, h3⟩ := (HK.out.later (HB.out.mono hz)).at_ (by omega)
          obtain ⟨k', n', f', s', L', A', cap', e, d0, d1, d2, d3, d4, hr⟩ := h3 j hlt
          subst hA
          have HR := Lib.hid hr
          clear h3 e hr
          go_wp2_with fail
          refine (IH.out j hlt (x - 1) (by omega) (by omega) wr lo hi _ HR.out (by omega)).mono ?_
          rintro e w1 ⟨rfl, hb1⟩
          have HBX1 := Lib.hid (HBX.out.later hb1 hlt0)
          have HB1 := Lib.hid (HB.out.trans (hb1.mono (by omega)))
          clear HBX HB HR hb1 c0 c1 c2 c3 c4 d0 d1 d2 d3 d4
          cases hp : l[j].small (x - 1).toNat with
          | true =>
            have HP := Lib.hid hp; clear hp
            go_wp2_with fail
            go_roundw
            case rel => exact ⟨j + 1, by omega, by go_num, by rw [all_take_succ _ _ _ hlt, HY.out, HP.out]; rfl, HBX1.out, HB1.out⟩
            case measure => simp [intOf]; omega
          | false =>
            have HP := Lib.hid hp; clear hp
            go_wp2_with fail
            go_ret
            exact ⟨ret_bool (by rw [HW.out, all_false _ _ j hlt HP.out]), HB1.out⟩
        · go_wp2_with fail
          go_ret
          have : j = l.length := by omega
          exact ⟨ret_bool (by rw [HW.out, ← HY.out, this, List.take_length]), HB.out⟩

theorem few_any (t : VT) (w : World) (lo hi : Nat) (v : Value) (hR : Rep w lo hi t v) (hz : hi ≤ w.heap.size) :
    Calls Try.prog 33 #[v] w fun e w' => e = .returned (.bool t.few) ∧ Below w.heap.size w w' := by
  have hv := hR
  obtain ⟨k, n, f, s, l, A, cap, rfl, rfl, ho, hl, hk⟩ := hR.open_
  generalize ht : VT.mk k n f s l = t at *
  have HV := Lib.hid hv
  have hw0 := weight_ge t 900
  clear hv hR ho hk ht
  have HF : Hid (t.few = (decide (t.weight 900 ≤ 900) && t.small 20)) := Lib.hid rfl
  go_enter Try.func33, Try.ntmps33
  go_wp2_with fail
  refine (weight_any t 900 (by omega) (by omega) _ lo hi _ (HV.out.alloc hz _) (by simp; omega)).mono ?_
  rintro e w1 ⟨rfl, hb1⟩
  have hbox := (BoxAt.new w k n f s A l.length cap).later hb1 (by simp)
  obtain ⟨c0, c1, c2, c3, c4⟩ := hbox.cells
  have HB := Lib.hid (((Below.refl w.heap.size w).alloc (Nat.le_refl _) (.cells #[.int .i64 k, .int .i64 n, .float .f64 f, .string s, .slice A l.length cap] 33)).trans (hb1.mono (by simp)))
  have HV1 := Lib.hid (HV.out.later (HB.out.mono hz))
  have hs1 := HB.out.size
  have HBX := Lib.hid hbox
  clear hb1 hbox HV
  generalize t.weight 900 = x at *
  by_cases hx : x ≤ 900
  · have hxd : decide (x ≤ 900) = true := by simpa using hx
    go_wp2_with fail
    refine (small_any t 20 (by omega) (by omega) w1 lo hi _ HV1.out (by omega)).mono ?_
    rintro e w2 ⟨rfl, hb2⟩
    have HB2 := Lib.hid (HB.out.trans (hb2.mono hs1))
    clear hb2 HB
    go_wp2_with fail
    go_ret
    exact ⟨ret_bool (by rw [HF.out, hxd]; rfl), HB2.out⟩
  · have hxd : decide (x ≤ 900) = false := by simpa using hx
    go_wp2_with fail
    go_ret
    exact ⟨ret_bool (by rw [HF.out, hxd]; rfl), HB.out⟩
end Vt
end Go.Proofs.Ytpneejlilgepfaa
