/- Contracts of the reference's Few (weight and small) of a tree. -/
/- Contracts of the reference's Valid of a tree. -/
/- Contracts of package value's of, blank, Valid of a tree. -/
/- The reference's Scale; policies: Valid, Delay, Next, Total, Default of both sides. -/
import Derived.Test.YtcbddebmmaflgaaGreatMqab
import Derived.IntWalk
import Derived.Deep.DeepFit
namespace Go.Proofs.YtcbddebmmaflgaaGreat
open Go.RowKit
set_option linter.unusedVariables false
namespace Vt
open Nm (bitsW ret_int ret_bool)

/-- A block that holds a value by itself. -/
def BoxAt (w : World) (g : Nat) (k n : Int) (f : Nat) (s : ByteArray) (A : Option Addr) (m c : Nat) : Prop :=
  w.heap[g]? = some (.cells #[.int .i64 k, .int .i64 n, .float .f64 f, .string s, .slice A m c] 42 (0, 0))

theorem BoxAt.later {w w' : World} {g B : Nat} {k n : Int} {f : Nat} {s : ByteArray} {A : Option Addr} {m c : Nat} (h : BoxAt w g k n f s A m c) (hb : Below B w w') (hg : g < B) : BoxAt w' g k n f s A m c := (hb.block g hg).trans h
theorem BoxAt.cells {w : World} {g : Nat} {k n : Int} {f : Nat} {s : ByteArray} {A : Option Addr} {m c : Nat} (h : BoxAt w g k n f s A m c) :
    w.cell? ⟨g, 0, none⟩ = some (.int .i64 k) ∧ w.cell? ⟨g, 1, none⟩ = some (.int .i64 n) ∧ w.cell? ⟨g, 2, none⟩ = some (.float .f64 f) ∧ w.cell? ⟨g, 3, none⟩ = some (.string s) ∧ w.cell? ⟨g, 4, none⟩ = some (.slice A m c) := by
  unfold BoxAt at h
  simp [World.cell?, h]
theorem BoxAt.new (w : World) (k n : Int) (f : Nat) (s : ByteArray) (A : Option Addr) (m c : Nat) : BoxAt (w.alloc (.cells #[.int .i64 k, .int .i64 n, .float .f64 f, .string s, .slice A m c] 42)) w.heap.size k n f s A m c := heap_alloc_new w _
theorem BoxAt.lt {w : World} {g : Nat} {k n : Int} {f : Nat} {s : ByteArray} {A : Option Addr} {m c : Nat} (h : BoxAt w g k n f s A m c) : g < w.heap.size := (Array.getElem?_eq_some_iff.1 h).1

theorem weightL_take (l : List VT) (n m : Int) (k : Nat) (h : k < l.length) (hn : weightL (l.take k) n m ≤ m) : weightL (l.take (k + 1)) n m = weightL (l.take k) n m + l[k].weight (m - weightL (l.take k) n m) := by
  rw [List.take_succ_eq_append_getElem h]
  unfold weightL at *
  rw [List.foldl_append]
  simp only [List.foldl_cons, List.foldl_nil]
  rw [if_pos hn]
theorem weightL_stop (l : List VT) (n m : Int) (k : Nat) (hn : ¬ weightL (l.take k) n m ≤ m) : weightL l n m = weightL (l.take k) n m := by
  have e : weightL l n m = weightL (l.drop k) (weightL (l.take k) n m) m := by
    unfold weightL
    rw [← List.foldl_append, List.take_append_drop]
  rw [e]
  generalize weightL (l.take k) n m = x at *
  cases hd : l.drop k with
  | nil => rfl
  | cons t r => rw [weightL_cons, if_neg hn]

set_option maxHeartbeats 1000000 in
theorem weight_any (t : VT) : ∀ (m : Int) (_ : 0 ≤ m) (_ : m ≤ 900) (w : World) (lo hi : Nat) (v : Value) (_ : Rep w lo hi t v) (_ : hi ≤ w.heap.size),
    Calls Tryz.prog 90 #[v, .int .i64 m] w fun e w' => e = .returned (.int .i64 (t.weight m)) ∧ Below w.heap.size w w' := by
  induction t using VT.ind with
  | _ k n f s l ih =>
    intro m hm0 hm1 w lo hi v hR hz
    obtain ⟨A, cap, rfl, ho, hl, hk⟩ := hR.head
    have hs := ho.s1
    have hc := ho.m1
    unfold maxLen at hs hc
    have IH := Lib.hid ih; clear ih hR ho
    have HK := Lib.hid hk; clear hk
    obtain ⟨n0, hn0⟩ : ∃ n0 : Int, n0 = 1 + min (s.size : Int) 1000 := ⟨_, rfl⟩
    have b0 : 1 ≤ n0 := by omega
    have b1 : n0 ≤ 1001 := by omega
    have HW : Hid ((VT.mk k n f s l).weight m = weightL l n0 m) := Lib.hid (by rw [weight_mk, hn0])
    have HN := Lib.hid hn0; clear hn0
    by_cases hsz : (s.size : Int) ≤ 1000
    all_goals
      go_enter Tryz.func90, Tryz.ntmps90
      go_wp2_with fail
      go_loopw [5, 6] (fun x i wr => ∃ (j : Nat) (y : Int), j ≤ l.length ∧ i = .int .i64 j ∧ x = .int .i64 y ∧ y = weightL (l.take j) n0 m ∧ BoxAt wr w.heap.size k n f s A l.length cap ∧ Below w.heap.size w wr) (fun _ i _ => l.length - (intOf i).toNat)
      case atStart => exact ⟨0, n0, by omega, rfl, by rw [HN.out]; congr 1; omega, rfl, BoxAt.new .., (Below.refl _ _).alloc (Nat.le_refl _) _⟩
      case round =>
        obtain ⟨j, y, hj, rfl, rfl, hy, hbox, hb⟩ := hrel
        have hy0 : n0 ≤ y := by rw [hy]; exact weightL_ge' _ _ _
        have hy1 : y ≤ m + 1001 := by rw [hy]; exact weightL_le _ m (fun _ _ => weight_le _) _ (by omega)
        have HY := Lib.hid hy; clear hy
        have hlt0 := hbox.lt
        obtain ⟨c0, c1, c2, c3, c4⟩ := hbox.cells
        have HBX := Lib.hid hbox; have HB := Lib.hid hb; clear hbox hb
        by_cases hlt : j < l.length
        · by_cases hle : y ≤ m
          · obtain ⟨b, off, hA, h1, h2, h3⟩ := (HK.out.later (HB.out.mono hz)).at_ (by omega)
            obtain ⟨k', n', f', s', L', A', cap', e, d0, d1, d2, d3, d4, hr⟩ := h3 j hlt
            subst hA
            have HR := Lib.hid hr
            clear h3 e hr
            go_wp2_with fail
            refine (IH.out j hlt (m - y) (by omega) (by omega) wr lo hi _ HR.out (by omega)).mono ?_
            rintro e w1 ⟨rfl, hb1⟩
            have hx1 := weight_le l[j] (m - y) (by omega)
            have hx0 := weight_ge l[j] (m - y)
            have HT : Hid (y + l[j].weight (m - y) = weightL (l.take (j + 1)) n0 m) := Lib.hid (by rw [weightL_take l n0 m j hlt (by rw [← HY.out]; exact hle), ← HY.out])
            have HBX1 : BoxAt w1 w.heap.size k n f s (some ⟨b, off, none⟩) l.length cap := HBX.out.later hb1 hlt0
            have HB1 : Below w.heap.size w w1 := HB.out.trans (hb1.mono (by omega))
            generalize l[j].weight (m - y) = x at *
            have HBX1 := Lib.hid HBX1; have HB1 := Lib.hid HB1
            clear HBX HB HR hb1 c0 c1 c2 c3 c4 d0 d1 d2 d3 d4
            go_wp2_with fail
            go_roundw
            case rel => exact ⟨j + 1, _, by omega, by go_num, rfl, HT.out, HBX1.out, HB1.out⟩
            case measure => simp [intOf]; omega
          · go_wp2_with fail
            go_ret
            exact ⟨ret_int (by rw [HW.out, weightL_stop l n0 m j (by rw [← HY.out]; omega), HY.out]), HB.out⟩
        · go_wp2_with fail
          go_ret
          have : j = l.length := by omega
          exact ⟨ret_int (by rw [HW.out, HY.out, this, List.take_length]), HB.out⟩

theorem all_take_succ {α : Type} (l : List α) (p : α → Bool) (j : Nat) (h : j < l.length) : (l.take (j + 1)).all p = ((l.take j).all p && p l[j]) := by
  rw [List.take_succ_eq_append_getElem h, List.all_append]; simp
theorem all_false {α : Type} (l : List α) (p : α → Bool) (j : Nat) (h : j < l.length) (hp : p l[j] = false) : l.all p = false := by
  rw [Bool.eq_false_iff]
  intro hh
  rw [all_iff] at hh
  rw [hh j h] at hp
  cases hp

set_option maxHeartbeats 1000000 in
theorem small_any (t : VT) : ∀ (x : Int) (_ : 0 ≤ x) (_ : x ≤ 20) (w : World) (lo hi : Nat) (v : Value) (_ : Rep w lo hi t v) (_ : hi ≤ w.heap.size),
    Calls Tryz.prog 91 #[v, .int .i64 x] w fun e w' => e = .returned (.bool (t.small x.toNat)) ∧ Below w.heap.size w w' := by
  induction t using VT.ind with
  | _ k n f s l ih =>
    intro x hx0 hx1 w lo hi v hR hz
    obtain ⟨A, cap, rfl, ho, hl, hk⟩ := hR.head
    have hc := ho.m1
    unfold maxLen at hc
    have IH := Lib.hid ih; clear ih hR ho
    have HK := Lib.hid hk; clear hk
    by_cases hx : x = 0
    · subst hx
      have HW : Hid ((VT.mk k n f s l).small (0 : Int).toNat = false) := Lib.hid (by rw [small_mk]; rfl)
      go_enter Tryz.func91, Tryz.ntmps91
      go_wp2_with fail
      go_ret
      exact ⟨ret_bool HW.out.symm, (Below.refl _ _).alloc (Nat.le_refl _) _⟩
    · have hxb : (x == 0) = false := by simpa using hx
      have HW : Hid ((VT.mk k n f s l).small x.toNat = l.all (fun t => t.small (x - 1).toNat)) := Lib.hid (by
        rw [small_mk, show x.toNat - 1 = (x - 1).toNat from by omega]
        have : (x.toNat != 0) = true := by simp; omega
        rw [this]; rfl)
      have hxp : 1 ≤ x := by omega
      clear hx
      go_enter Tryz.func91, Tryz.ntmps91
      go_wp2_with fail
      go_loopw [5] (fun i wr => ∃ (j : Nat), j ≤ l.length ∧ i = .int .i64 j ∧ (l.take j).all (fun t => t.small (x - 1).toNat) = true ∧ BoxAt wr w.heap.size k n f s A l.length cap ∧ Below w.heap.size w wr) (fun i _ => l.length - (intOf i).toNat)
      case atStart => exact ⟨0, by omega, rfl, rfl, BoxAt.new .., (Below.refl _ _).alloc (Nat.le_refl _) _⟩
      case round =>
        obtain ⟨j, hj, rfl, hy, hbox, hb⟩ := hrel
        have HY := Lib.hid hy; clear hy
        have hlt0 := hbox.lt
        obtain ⟨c0, c1, c2, c3, c4⟩ := hbox.cells
        have HBX := Lib.hid hbox; have HB := Lib.hid hb; clear hbox hb
        by_cases hlt : j < l.length
        · obtain ⟨b, off, hA, h1, h2, h3⟩ := (HK.out.later (HB.out.mono hz)).at_ (by omega)
          obtain ⟨k', n', f', s', L', A', cap', e, d0, d1, d2, d3, d4, hr⟩ := h3 j hlt
          subst hA
          have HR := Lib.hid hr
          clear h3 e hr
          go_wp2_with fail
          refine (IH.out j hlt (x - 1) (by omega) (by omega) wr lo hi _ HR.out (by omega)).mono ?_
          rintro e w1 ⟨rfl, hb1⟩
          have HBX1 := Lib.hid (HBX.out.later hb1 hlt0)
          have HB1 := Lib.hid (HB.out.trans (hb1.mono (by omega)))
          clear HBX HB HR hb1 c0 c1 c2 c3 c4 d0 d1 d2 d3 d4
          cases hp : l[j].small (x - 1).toNat with
          | true =>
            have HP := Lib.hid hp; clear hp
            go_wp2_with fail
            go_roundw
            case rel => exact ⟨j + 1, by omega, by go_num, by rw [all_take_succ _ _ _ hlt, HY.out, HP.out]; rfl, HBX1.out, HB1.out⟩
            case measure => simp [intOf]; omega
          | false =>
            have HP := Lib.hid hp; clear hp
            go_wp2_with fail
            go_ret
            exact ⟨ret_bool (by rw [HW.out, all_false _ _ j hlt HP.out]), HB1.out⟩
        · go_wp2_with fail
          go_ret
          have : j = l.length := by omega
          exact ⟨ret_bool (by rw [HW.out, ← HY.out, this, List.take_length]), HB.out⟩

theorem few_any (t : VT) (w : World) (lo hi : Nat) (v : Value) (hR : Rep w lo hi t v) (hz : hi ≤ w.heap.size) :
    Calls Tryz.prog 76 #[v] w fun e w' => e = .returned (.bool t.few) ∧ Below w.heap.size w w' := by
  have hv := hR
  obtain ⟨k, n, f, s, l, A, cap, rfl, rfl, ho, hl, hk⟩ := hR.open_
  generalize ht : VT.mk k n f s l = t at *
  have HV := Lib.hid hv
  have hw0 := weight_ge t 900
  clear hv hR ho hk ht
  have HF : Hid (t.few = (decide (t.weight 900 ≤ 900) && t.small 20)) := Lib.hid rfl
  go_enter Tryz.func76, Tryz.ntmps76
  go_wp2_with fail
  refine (weight_any t 900 (by omega) (by omega) _ lo hi _ (HV.out.alloc hz _) (by simp; omega)).mono ?_
  rintro e w1 ⟨rfl, hb1⟩
  have hbox := (BoxAt.new w k n f s A l.length cap).later hb1 (by simp)
  obtain ⟨c0, c1, c2, c3, c4⟩ := hbox.cells
  have HB := Lib.hid (((Below.refl w.heap.size w).alloc (Nat.le_refl _) (.cells #[.int .i64 k, .int .i64 n, .float .f64 f, .string s, .slice A l.length cap] 42)).trans (hb1.mono (by simp)))
  have HV1 := Lib.hid (HV.out.later (HB.out.mono hz))
  have hs1 := HB.out.size
  have HBX := Lib.hid hbox
  clear hb1 hbox HV
  generalize t.weight 900 = x at *
  by_cases hx : x ≤ 900
  · have hxd : decide (x ≤ 900) = true := by simpa using hx
    go_wp2_with fail
    refine (small_any t 20 (by omega) (by omega) w1 lo hi _ HV1.out (by omega)).mono ?_
    rintro e w2 ⟨rfl, hb2⟩
    have HB2 := Lib.hid (HB.out.trans (hb2.mono hs1))
    clear hb2 HB
    go_wp2_with fail
    go_ret
    exact ⟨ret_bool (by rw [HF.out, hxd]; rfl), HB2.out⟩
  · have hxd : decide (x ≤ 900) = false := by simpa using hx
    go_wp2_with fail
    go_ret
    exact ⟨ret_bool (by rw [HF.out, hxd]; rfl), HB.out⟩
end Vt
end Go.Proofs.YtcbddebmmaflgaaGreat
namespace Go.Proofs.YtcbddebmmaflgaaGreat
open Go.RowKit
set_option linter.unusedVariables false
namespace Vt
open Nm (bitsW ret_int ret_bool)

theorem loop_len (s : ByteArray) : ∀ (k i : Nat) (r : List UInt8), s.size - i = k → (ByteArray.toList.loop s i r).length = k + r.length := by
  intro k
  induction k with
  | zero => intro i r h; rw [ByteArray.toList.loop]; rw [if_neg (by omega)]; simp
  | succ k ih => intro i r h; rw [ByteArray.toList.loop]; rw [if_pos (by omega)]; rw [ih _ _ (by omega)]; simp; omega
theorem toList_nil (s : ByteArray) : s.toList = [] ↔ s.size = 0 := by
  rw [← List.length_eq_zero_iff]; unfold ByteArray.toList; rw [loop_len s s.size 0 [] (by omega)]; simp

/-- Valid, told by its parts. -/
def Parts (k n : Int) (f : Nat) (s : ByteArray) (l : List VT) (x : Int) : Prop :=
  0 ≤ k ∧ k ≤ 4 ∧ (k = 1 ∨ n = 0) ∧ (k = 2 ∨ bitsW f = 0) ∧ (k = 3 ∨ s.toList = []) ∧ (k = 4 ∨ l.length = 0) ∧ (k = 4 → x ≠ 0) ∧ l.all (fun t => t.valid (x - 1).toNat) = true

theorem parts_iff (k n : Int) (f : Nat) (s : ByteArray) (l : List VT) (x : Int) (hx : 0 ≤ x) : (VT.mk k n f s l).valid x.toNat = true ↔ Parts k n f s l x := by
  rw [valid_mk]
  unfold Parts
  rw [show (x - 1).toNat = x.toNat - 1 from by omega, toList_nil]
  simp only [Bool.and_eq_true, Bool.or_eq_true, decide_eq_true_iff, beq_iff_eq, bne_iff_ne, and_assoc]
  constructor
  · rintro ⟨a, b, c, d, e, f, g, h⟩
    exact ⟨a, b, c, d, e, f, fun h4 => by rcases g with g | g <;> omega, h⟩
  · rintro ⟨a, b, c, d, e, f, g, h⟩
    refine ⟨a, b, c, d, e, f, ?_, h⟩
    by_cases h4 : k = 4
    · right; have := g h4; omega
    · left; exact h4

theorem parts_false {k n : Int} {f : Nat} {s : ByteArray} {l : List VT} {x : Int} {b : Bool} (h : b = true ↔ Parts k n f s l x) (hp : ¬ Parts k n f s l x) : Ending.returned (.bool false) = .returned (.bool b) := by
  cases b with
  | false => rfl
  | true => exact absurd (h.1 rfl) hp
theorem parts_true {k n : Int} {f : Nat} {s : ByteArray} {l : List VT} {x : Int} {b : Bool} (h : b = true ↔ Parts k n f s l x) (hp : Parts k n f s l x) : Ending.returned (.bool true) = .returned (.bool b) := by
  rw [h.2 hp]

/-- What Valid asks of a value's own fields. -/
def HeadV (k n : Int) (f : Nat) (s : ByteArray) (m : Nat) : Prop := (k = 1 ∨ n = 0) ∧ (k = 2 ∨ bitsW f = 0) ∧ (k = 3 ∨ s.toList = []) ∧ (k = 4 ∨ m = 0)
theorem headV_of {k n : Int} {f : Nat} {s : ByteArray} {l : List VT} {x : Int} (h : Parts k n f s l x) : HeadV k n f s l.length := ⟨h.2.2.1, h.2.2.2.1, h.2.2.2.2.1, h.2.2.2.2.2.1⟩

theorem box_below (w : World) (k n : Int) (f : Nat) (s : ByteArray) (A : Option Addr) (m c : Nat) : Below w.heap.size w (w.alloc (.cells #[.int .i64 k, .int .i64 n, .float .f64 f, .string s, .slice A m c] 42)) :=
  (Below.refl _ _).alloc (Nat.le_refl _) _

set_option maxHeartbeats 2000000 in
theorem right_fail (k n : Int) (f : Nat) (s : ByteArray) (m cap : Nat) (A : Option Addr) (hf : f < 18446744073709551616) (h : ¬ HeadV k n f s m) (x : Int) (w : World) :
    Calls Tryz.prog 88 #[.agg #[.int .i64 k, .int .i64 n, .float .f64 f, .string s, .slice A m cap], .int .i64 x] w fun e w' => e = .returned (.bool false) ∧ Below w.heap.size w w' := by
  have H := Lib.hid h; clear h
  go_enter Tryz.func88, Tryz.ntmps88
  go_wp2_with (go_at_call 89; refine (Nm.rbits_any f hf _).mono ?_; rintro e w' ⟨rfl, rfl⟩)
  all_goals first
    | (go_ret; exact ⟨rfl, box_below ..⟩)
    | (exfalso
       refine H.out ⟨?_, ?_, ?_, ?_⟩
       all_goals first
         | omega
         | (right; assumption)
         | (rcases (by assumption : (k != 4) = false ∨ ¬ 0 < m) with q | q
            · simp at q; omega
            · omega))

theorem headV_cases {k n : Int} {f : Nat} {s : ByteArray} {m : Nat} (h : HeadV k n f s m) :
    (k = 1 ∧ bitsW f = 0 ∧ s.toList = [] ∧ m = 0) ∨ (k = 2 ∧ n = 0 ∧ s.toList = [] ∧ m = 0) ∨ (k = 3 ∧ n = 0 ∧ bitsW f = 0 ∧ m = 0) ∨ (k = 4 ∧ n = 0 ∧ bitsW f = 0 ∧ s.toList = []) ∨
      (k ≠ 1 ∧ k ≠ 2 ∧ k ≠ 3 ∧ k ≠ 4 ∧ n = 0 ∧ bitsW f = 0 ∧ s.toList = [] ∧ m = 0) := by
  obtain ⟨h1, h2, h3, h4⟩ := h
  by_cases e1 : k = 1
  · left; exact ⟨e1, by omega, by rcases h3 with h3 | h3; omega; exact h3, by omega⟩
  by_cases e2 : k = 2
  · right; left; exact ⟨e2, by omega, by rcases h3 with h3 | h3; omega; exact h3, by omega⟩
  by_cases e3 : k = 3
  · right; right; left; exact ⟨e3, by omega, by omega, by omega⟩
  by_cases e4 : k = 4
  · right; right; right; left; exact ⟨e4, by omega, by omega, by rcases h3 with h3 | h3; omega; exact h3⟩
  · right; right; right; right; exact ⟨e1, e2, e3, e4, by omega, by omega, by rcases h3 with h3 | h3; omega; exact h3, by omega⟩

set_option maxHeartbeats 1000000 in
theorem right_1 (n : Int) (f : Nat) (s : ByteArray) (hb0 : bitsW f = 0) (hs0 : s.toList = []) (A : Option Addr) (cap : Nat) (hf : f < 18446744073709551616) (x : Int) (w : World) :
    Calls Tryz.prog 88 #[.agg #[.int .i64 1, .int .i64 n, .float .f64 f, .string s, .slice A 0 cap], .int .i64 x] w fun e w' => e = .returned (.bool (true)) ∧ Below w.heap.size w w' := by
  have HAB := Lib.hid (box_below w 1 n f s A 0 cap)
  go_enter Tryz.func88, Tryz.ntmps88
  go_wp2_with (go_at_call 89; refine (Nm.rbits_any f hf _).mono ?_; rintro e w' ⟨rfl, rfl⟩)
  go_loop [5] (fun i => i = .int .i64 0) (fun _ => 0)
  case atStart => exact rfl
  case round =>
    subst hrel
    go_wp2_with fail
    all_goals
      go_ret
      exact ⟨ret_bool (by simp [*]), HAB.out⟩
set_option maxHeartbeats 1000000 in
theorem right_2 (f : Nat) (s : ByteArray) (hs0 : s.toList = []) (A : Option Addr) (cap : Nat) (_ : f < 18446744073709551616) (x : Int) (w : World) :
    Calls Tryz.prog 88 #[.agg #[.int .i64 2, .int .i64 0, .float .f64 f, .string s, .slice A 0 cap], .int .i64 x] w fun e w' => e = .returned (.bool (true)) ∧ Below w.heap.size w w' := by
  have HAB := Lib.hid (box_below w 2 0 f s A 0 cap)
  go_enter Tryz.func88, Tryz.ntmps88
  go_wp2_with fail
  go_loop [5] (fun i => i = .int .i64 0) (fun _ => 0)
  case atStart => exact rfl
  case round =>
    subst hrel
    go_wp2_with fail
    all_goals
      go_ret
      exact ⟨ret_bool (by simp [*]), HAB.out⟩
set_option maxHeartbeats 1000000 in
theorem right_3 (f : Nat) (s : ByteArray) (hb0 : bitsW f = 0) (A : Option Addr) (cap : Nat) (hf : f < 18446744073709551616) (x : Int) (w : World) :
    Calls Tryz.prog 88 #[.agg #[.int .i64 3, .int .i64 0, .float .f64 f, .string s, .slice A 0 cap], .int .i64 x] w fun e w' => e = .returned (.bool (true)) ∧ Below w.heap.size w w' := by
  have HAB := Lib.hid (box_below w 3 0 f s A 0 cap)
  go_enter Tryz.func88, Tryz.ntmps88
  go_wp2_with (go_at_call 89; refine (Nm.rbits_any f hf _).mono ?_; rintro e w' ⟨rfl, rfl⟩)
  go_loop [5] (fun i => i = .int .i64 0) (fun _ => 0)
  case atStart => exact rfl
  case round =>
    subst hrel
    go_wp2_with fail
    all_goals
      go_ret
      exact ⟨ret_bool (by simp [*]), HAB.out⟩
set_option maxHeartbeats 1000000 in
theorem right_0 (k : Int) (h1 : k ≠ 1) (h2 : k ≠ 2) (h3 : k ≠ 3) (h4 : k ≠ 4) (f : Nat) (s : ByteArray) (hb0 : bitsW f = 0) (hs0 : s.toList = []) (A : Option Addr) (cap : Nat) (hf : f < 18446744073709551616) (x : Int) (w : World) :
    Calls Tryz.prog 88 #[.agg #[.int .i64 k, .int .i64 0, .float .f64 f, .string s, .slice A 0 cap], .int .i64 x] w fun e w' => e = .returned (.bool (decide (0 ≤ k ∧ k ≤ 4))) ∧ Below w.heap.size w w' := by
  have e1 : (k != 1) = true := by simpa using h1
  have e2 : (k != 2) = true := by simpa using h2
  have e3 : (k != 3) = true := by simpa using h3
  have e4 : (k != 4) = true := by simpa using h4
  have e5 : (k == 4) = false := by simpa using h4
  clear h1 h2 h3 h4
  have HAB := Lib.hid (box_below w k 0 f s A 0 cap)
  go_enter Tryz.func88, Tryz.ntmps88
  go_wp2_with (go_at_call 89; refine (Nm.rbits_any f hf _).mono ?_; rintro e w' ⟨rfl, rfl⟩)
  go_loop [5] (fun i => i = .int .i64 0) (fun _ => 0)
  case atStart => exact rfl
  case round =>
    subst hrel
    go_wp2_with fail
    all_goals
      go_ret
      exact ⟨ret_bool (by first | (simp [*]; done) | (simp; done) | (simp; omega) | (simp [*]; omega)), HAB.out⟩
set_option maxHeartbeats 2000000 in
theorem right_list (f : Nat) (s : ByteArray) (l : List VT) (A : Option Addr) (cap : Nat) (hf : f < 18446744073709551616) (hb0 : bitsW f = 0) (hs0 : s.toList = []) (hl : l.length ≤ cap) (hc : cap ≤ maxLen) (x : Int) (hx0 : 0 ≤ x) (hx1 : x ≤ 8)
    (ih : ∀ (i : Nat) (hi : i < l.length) (x : Int) (_ : 0 ≤ x) (_ : x ≤ 8) (w : World) (lo hi : Nat) (v : Value) (_ : Rep w lo hi l[i] v) (_ : hi ≤ w.heap.size),
      Calls Tryz.prog 88 #[v, .int .i64 x] w fun e w' => e = .returned (.bool (l[i].valid x.toNat)) ∧ Below w.heap.size w w')
    (w : World) (lo hi : Nat) (hk : KidsAt w lo hi l A) (hz : hi ≤ w.heap.size) :
    Calls Tryz.prog 88 #[.agg #[.int .i64 4, .int .i64 0, .float .f64 f, .string s, .slice A l.length cap], .int .i64 x] w fun e w' =>
      e = .returned (.bool (decide (x ≠ 0) && l.all (fun t => t.valid (x - 1).toNat))) ∧ Below w.heap.size w w' := by
  unfold maxLen at hc
  have IH := Lib.hid ih; have HK := Lib.hid hk; clear ih hk
  by_cases hx : x = 0
  · subst hx
    have HAB := Lib.hid (box_below w 4 0 f s A l.length cap)
    go_enter Tryz.func88, Tryz.ntmps88
    go_wp2_with (go_at_call 89; refine (Nm.rbits_any f hf _).mono ?_; rintro e w' ⟨rfl, rfl⟩)
    go_ret
    exact ⟨ret_bool (by simp), HAB.out⟩
  · have hxb : (x == 0) = false := by simpa using hx
    have hxp : 1 ≤ x := by omega
    have HX : Hid (decide (x ≠ 0) = true) := Lib.hid (by simpa using hx)
    clear hx
    have HA := Lib.hid (BoxAt.new w 4 0 f s A l.length cap)
    have HAB := Lib.hid (box_below w 4 0 f s A l.length cap)
    go_enter Tryz.func88, Tryz.ntmps88
    go_wp2_with (go_at_call 89; refine (Nm.rbits_any f hf _).mono ?_; rintro e w' ⟨rfl, rfl⟩)
    go_loopw [4, 5] (fun r i wr => ∃ (j : Nat), j ≤ l.length ∧ i = .int .i64 j ∧ r = .bool false ∧ (l.take j).all (fun t => t.valid (x - 1).toNat) = true ∧ BoxAt wr w.heap.size 4 0 f s A l.length cap ∧ Below w.heap.size w wr) (fun _ i _ => l.length - (intOf i).toNat)
    case atStart => exact ⟨0, by omega, rfl, rfl, rfl, HA.out, HAB.out⟩
    case round =>
      obtain ⟨j, hj, rfl, rfl, hy, hbox, hb⟩ := hrel
      have HY := Lib.hid hy; clear hy
      have hlt0 := hbox.lt
      obtain ⟨c0, c1, c2, c3, c4⟩ := hbox.cells
      have HBX := Lib.hid hbox; have HB := Lib.hid hb; clear hbox hb
      by_cases hlt : j < l.length
      · obtain ⟨b, off, hA, h1, h2, h3⟩ := (HK.out.later (HB.out.mono hz)).at_ (by omega)
        obtain ⟨k', n', f', s', L', A', cap', e, d0, d1, d2, d3, d4, hr⟩ := h3 j hlt
        subst hA
        have HR := Lib.hid hr
        clear h3 e hr
        go_wp2_with fail
        refine (IH.out j hlt (x - 1) (by omega) (by omega) wr lo hi _ HR.out (by omega)).mono ?_
        rintro e w1 ⟨rfl, hb1⟩
        have HBX1 := Lib.hid (HBX.out.later hb1 hlt0)
        have HB1 := Lib.hid (HB.out.trans (hb1.mono (by omega)))
        clear HBX HB HR hb1 c0 c1 c2 c3 c4 d0 d1 d2 d3 d4
        cases hp : l[j].valid (x - 1).toNat with
        | true =>
          have HP := Lib.hid hp; clear hp
          go_wp2_with fail
          go_roundw
          case rel => exact ⟨j + 1, by omega, by go_num, rfl, by rw [all_take_succ _ _ _ hlt, HY.out, HP.out]; rfl, HBX1.out, HB1.out⟩
          case measure => simp [intOf]; omega
        | false =>
          have HP := Lib.hid hp; clear hp
          go_wp2_with fail
          go_ret
          exact ⟨ret_bool (by rw [HX.out, all_false _ _ j hlt HP.out]; rfl), HB1.out⟩
      · have hj' : j = l.length := by omega
        have HJ := Lib.hid hj'
        clear hj'
        go_wp2_with fail
        go_ret
        have hall : l.all (fun t => t.valid (x - 1).toNat) = true := by have := HY.out; rw [HJ.out, List.take_length] at this; exact this
        exact ⟨ret_bool (by rw [HX.out, hall]; rfl), HB.out⟩

theorem right_any (t : VT) : ∀ (x : Int) (_ : 0 ≤ x) (_ : x ≤ 8) (w : World) (lo hi : Nat) (v : Value) (_ : Rep w lo hi t v) (_ : hi ≤ w.heap.size),
    Calls Tryz.prog 88 #[v, .int .i64 x] w fun e w' => e = .returned (.bool (t.valid x.toNat)) ∧ Below w.heap.size w w' := by
  induction t using VT.ind with
  | _ k n f s l ih =>
    intro x hx0 hx1 w lo hi v hR hz
    obtain ⟨A, cap, rfl, ho, hl, hk⟩ := hR.head
    have hp := parts_iff k n f s l x hx0
    generalize (VT.mk k n f s l).valid x.toNat = R at hp ⊢
    by_cases hh : HeadV k n f s l.length
    · rcases headV_cases hh with ⟨rfl, q1, q2, q3⟩ | ⟨rfl, rfl, q2, q3⟩ | ⟨rfl, rfl, q2, q3⟩ | ⟨rfl, rfl, q2, q3⟩ | ⟨e1, e2, e3, e4, rfl, q1, q2, q3⟩
      · obtain rfl := List.eq_nil_of_length_eq_zero q3
        refine (right_1 n f s q1 q2 A cap ho.f1 x w).mono fun e w' h => ⟨?_, h.2⟩
        rw [h.1]
        exact parts_true hp ⟨by omega, by omega, .inl rfl, .inr q1, .inr q2, .inr rfl, by omega, rfl⟩
      · obtain rfl := List.eq_nil_of_length_eq_zero q3
        refine (right_2 f s q2 A cap ho.f1 x w).mono fun e w' h => ⟨?_, h.2⟩
        rw [h.1]
        exact parts_true hp ⟨by omega, by omega, .inr rfl, .inl rfl, .inr q2, .inr rfl, by omega, rfl⟩
      · obtain rfl := List.eq_nil_of_length_eq_zero q3
        refine (right_3 f s q2 A cap ho.f1 x w).mono fun e w' h => ⟨?_, h.2⟩
        rw [h.1]
        exact parts_true hp ⟨by omega, by omega, .inr rfl, .inr q2, .inl rfl, .inr rfl, by omega, rfl⟩
      · refine (right_list f s l A cap ho.f1 q2 q3 hl ho.m1 x hx0 hx1 (fun i hi x a b w lo hi' v c d => ih i hi x a b w lo hi' v c d) w lo hi hk hz).mono fun e w' h => ⟨?_, h.2⟩
        rw [h.1]
        congr 2
        rw [Bool.eq_iff_iff, hp]
        unfold Parts
        simp only [Bool.and_eq_true, decide_eq_true_iff]
        constructor
        · rintro ⟨h1, h2⟩
          exact ⟨by omega, by omega, by simp, .inr q2, .inr q3, by simp, fun _ => h1, h2⟩
        · rintro ⟨-, -, -, -, -, -, h1, h2⟩
          exact ⟨h1 (by simp), h2⟩
      · obtain rfl := List.eq_nil_of_length_eq_zero q3
        refine (right_0 k e1 e2 e3 e4 f s q1 q2 A cap ho.f1 x w).mono fun e w' h => ⟨?_, h.2⟩
        rw [h.1]
        congr 2
        rw [Bool.eq_iff_iff, hp]
        unfold Parts
        simp only [decide_eq_true_iff]
        constructor
        · rintro ⟨h1, h2⟩
          exact ⟨h1, h2, by simp, .inr q1, .inr q2, by simp, by omega, rfl⟩
        · rintro ⟨h1, h2, -⟩
          exact ⟨h1, h2⟩
    · refine (right_fail k n f s l.length cap A ho.f1 hh x w).mono fun e w' h => ⟨?_, h.2⟩
      rw [h.1]
      exact parts_false hp fun q => hh (headV_of q)

theorem rvalid_any (t : VT) (w : World) (lo hi : Nat) (v : Value) (hR : Rep w lo hi t v) (hz : hi ≤ w.heap.size) :
    Calls Tryz.prog 72 #[v] w fun e w' => e = .returned (.bool (t.valid 8)) ∧ Below w.heap.size w w' := by
  have hv := hR
  obtain ⟨k, n, f, s, l, A, cap, rfl, rfl, ho, hl, hk⟩ := hR.open_
  generalize ht : VT.mk k n f s l = t at *
  have HV := Lib.hid hv
  have HB := Lib.hid (box_below w k n f s A l.length cap)
  clear hv hR ho hk ht
  go_enter Tryz.func72, Tryz.ntmps72
  go_wp2_with fail
  refine (right_any t 8 (by omega) (by omega) _ lo hi _ (HV.out.alloc hz _) (by simp; omega)).mono ?_
  rintro e w1 ⟨rfl, hb1⟩
  have HB2 := Lib.hid (HB.out.trans (hb1.mono (by simp)))
  clear hb1
  go_wp2_with fail
  go_ret
  exact ⟨rfl, HB2.out⟩
end Vt
end Go.Proofs.YtcbddebmmaflgaaGreat
namespace Go.Proofs.YtcbddebmmaflgaaGreat
open Go.RowKit
set_option linter.unusedVariables false
namespace Vt
open Nm (bitsW ret_int ret_bool)

/-- The kind of a number, as a value. -/
def kindV (k : Int) : Value := if k = 0 then .iface 134 (.agg #[]) else if k = 1 then .iface 118 (.agg #[]) else if k = 2 then .iface 120 (.agg #[]) else if k = 3 then .iface 123 (.agg #[]) else if k = 4 then .iface 124 (.agg #[]) else .nilIface

set_option maxRecDepth 100000 in
theorem of_any (k : Int) (w : World) : Calls Tryz.prog 78 #[.int .i64 k] w fun e w' => e = .returned (kindV k) ∧ w = w' := by
  by_cases h : 0 ≤ k ∧ k ≤ 4
  · rcases (by omega : k = 0 ∨ k = 1 ∨ k = 2 ∨ k = 3 ∨ k = 4) with rfl | rfl | rfl | rfl | rfl
    all_goals
      have k0 : Tryz.prog.concrete 134 = true := by kernel_rfl
      have k1 : Tryz.prog.concrete 118 = true := by kernel_rfl
      have k2 : Tryz.prog.concrete 120 = true := by kernel_rfl
      have k3 : Tryz.prog.concrete 123 = true := by kernel_rfl
      have k4 : Tryz.prog.concrete 124 = true := by kernel_rfl
      have i0 : ∀ w, (Instr.index 135 (.agg #[.iface 134 (.agg #[]), .iface 118 (.agg #[]), .iface 120 (.agg #[]), .iface 123 (.agg #[]), .iface 124 (.agg #[])]) (.int .i64 0)).run Tryz.prog w = .ok (.iface 134 (.agg #[])) w := fun _ => by kernel_rfl
      have i1 : ∀ w, (Instr.index 135 (.agg #[.iface 134 (.agg #[]), .iface 118 (.agg #[]), .iface 120 (.agg #[]), .iface 123 (.agg #[]), .iface 124 (.agg #[])]) (.int .i64 1)).run Tryz.prog w = .ok (.iface 118 (.agg #[])) w := fun _ => by kernel_rfl
      have i2 : ∀ w, (Instr.index 135 (.agg #[.iface 134 (.agg #[]), .iface 118 (.agg #[]), .iface 120 (.agg #[]), .iface 123 (.agg #[]), .iface 124 (.agg #[])]) (.int .i64 2)).run Tryz.prog w = .ok (.iface 120 (.agg #[])) w := fun _ => by kernel_rfl
      have i3 : ∀ w, (Instr.index 135 (.agg #[.iface 134 (.agg #[]), .iface 118 (.agg #[]), .iface 120 (.agg #[]), .iface 123 (.agg #[]), .iface 124 (.agg #[])]) (.int .i64 3)).run Tryz.prog w = .ok (.iface 123 (.agg #[])) w := fun _ => by kernel_rfl
      have i4 : ∀ w, (Instr.index 135 (.agg #[.iface 134 (.agg #[]), .iface 118 (.agg #[]), .iface 120 (.agg #[]), .iface 123 (.agg #[]), .iface 124 (.agg #[])]) (.int .i64 4)).run Tryz.prog w = .ok (.iface 124 (.agg #[])) w := fun _ => by kernel_rfl
      go_enter Tryz.func78, Tryz.ntmps78
      go_wp2_with fail
      go_ret
      exact ⟨rfl, rfl⟩
  · have hk : kindV k = .nilIface := by unfold kindV; rw [if_neg (by omega), if_neg (by omega), if_neg (by omega), if_neg (by omega), if_neg (by omega)]
    rw [hk]
    have HK := Lib.hid hk; clear hk
    by_cases h0 : k < 0
    · clear h
      go_enter Tryz.func78, Tryz.ntmps78
      go_wp2_with fail
      go_ret
      exact ⟨rfl, rfl⟩
    · have h4 : 4 < k := by omega
      clear h
      go_enter Tryz.func78, Tryz.ntmps78
      go_wp2_with fail
      go_ret
      exact ⟨rfl, rfl⟩
theorem kv0 : kindV 0 = .iface 134 (.agg #[]) := rfl
theorem kv1 : kindV 1 = .iface 118 (.agg #[]) := rfl
theorem kv2 : kindV 2 = .iface 120 (.agg #[]) := rfl
theorem kv3 : kindV 3 = .iface 123 (.agg #[]) := rfl
theorem kv4 : kindV 4 = .iface 124 (.agg #[]) := rfl

theorem ta_none_integer (w : World) : (Instr.typeAssert (.iface 134 (.agg #[])) 115 118 true).run Tryz.prog w = .ok (.tuple #[.agg #[], .bool false]) w := by kernel_rfl
theorem ta_none_float (w : World) : (Instr.typeAssert (.iface 134 (.agg #[])) 115 120 true).run Tryz.prog w = .ok (.tuple #[.agg #[], .bool false]) w := by kernel_rfl
theorem ta_none_text (w : World) : (Instr.typeAssert (.iface 134 (.agg #[])) 115 123 true).run Tryz.prog w = .ok (.tuple #[.agg #[], .bool false]) w := by kernel_rfl
theorem ta_none_list (w : World) : (Instr.typeAssert (.iface 134 (.agg #[])) 115 124 true).run Tryz.prog w = .ok (.tuple #[.agg #[], .bool false]) w := by kernel_rfl
theorem ta_integer_integer (w : World) : (Instr.typeAssert (.iface 118 (.agg #[])) 115 118 true).run Tryz.prog w = .ok (.tuple #[.agg #[], .bool true]) w := by kernel_rfl
theorem ta_integer_float (w : World) : (Instr.typeAssert (.iface 118 (.agg #[])) 115 120 true).run Tryz.prog w = .ok (.tuple #[.agg #[], .bool false]) w := by kernel_rfl
theorem ta_integer_text (w : World) : (Instr.typeAssert (.iface 118 (.agg #[])) 115 123 true).run Tryz.prog w = .ok (.tuple #[.agg #[], .bool false]) w := by kernel_rfl
theorem ta_integer_list (w : World) : (Instr.typeAssert (.iface 118 (.agg #[])) 115 124 true).run Tryz.prog w = .ok (.tuple #[.agg #[], .bool false]) w := by kernel_rfl
theorem ta_float_integer (w : World) : (Instr.typeAssert (.iface 120 (.agg #[])) 115 118 true).run Tryz.prog w = .ok (.tuple #[.agg #[], .bool false]) w := by kernel_rfl
theorem ta_float_float (w : World) : (Instr.typeAssert (.iface 120 (.agg #[])) 115 120 true).run Tryz.prog w = .ok (.tuple #[.agg #[], .bool true]) w := by kernel_rfl
theorem ta_float_text (w : World) : (Instr.typeAssert (.iface 120 (.agg #[])) 115 123 true).run Tryz.prog w = .ok (.tuple #[.agg #[], .bool false]) w := by kernel_rfl
theorem ta_float_list (w : World) : (Instr.typeAssert (.iface 120 (.agg #[])) 115 124 true).run Tryz.prog w = .ok (.tuple #[.agg #[], .bool false]) w := by kernel_rfl
theorem ta_text_integer (w : World) : (Instr.typeAssert (.iface 123 (.agg #[])) 115 118 true).run Tryz.prog w = .ok (.tuple #[.agg #[], .bool false]) w := by kernel_rfl
theorem ta_text_float (w : World) : (Instr.typeAssert (.iface 123 (.agg #[])) 115 120 true).run Tryz.prog w = .ok (.tuple #[.agg #[], .bool false]) w := by kernel_rfl
theorem ta_text_text (w : World) : (Instr.typeAssert (.iface 123 (.agg #[])) 115 123 true).run Tryz.prog w = .ok (.tuple #[.agg #[], .bool true]) w := by kernel_rfl
theorem ta_text_list (w : World) : (Instr.typeAssert (.iface 123 (.agg #[])) 115 124 true).run Tryz.prog w = .ok (.tuple #[.agg #[], .bool false]) w := by kernel_rfl
theorem ta_list_integer (w : World) : (Instr.typeAssert (.iface 124 (.agg #[])) 115 118 true).run Tryz.prog w = .ok (.tuple #[.agg #[], .bool false]) w := by kernel_rfl
theorem ta_list_float (w : World) : (Instr.typeAssert (.iface 124 (.agg #[])) 115 120 true).run Tryz.prog w = .ok (.tuple #[.agg #[], .bool false]) w := by kernel_rfl
theorem ta_list_text (w : World) : (Instr.typeAssert (.iface 124 (.agg #[])) 115 123 true).run Tryz.prog w = .ok (.tuple #[.agg #[], .bool false]) w := by kernel_rfl
theorem ta_list_list (w : World) : (Instr.typeAssert (.iface 124 (.agg #[])) 115 124 true).run Tryz.prog w = .ok (.tuple #[.agg #[], .bool true]) w := by kernel_rfl
theorem ta_nil_integer (w : World) : (Instr.typeAssert .nilIface 115 118 true).run Tryz.prog w = .ok (.tuple #[.agg #[], .bool false]) w := by kernel_rfl
theorem ta_nil_float (w : World) : (Instr.typeAssert .nilIface 115 120 true).run Tryz.prog w = .ok (.tuple #[.agg #[], .bool false]) w := by kernel_rfl
theorem ta_nil_text (w : World) : (Instr.typeAssert .nilIface 115 123 true).run Tryz.prog w = .ok (.tuple #[.agg #[], .bool false]) w := by kernel_rfl
theorem ta_nil_list (w : World) : (Instr.typeAssert .nilIface 115 124 true).run Tryz.prog w = .ok (.tuple #[.agg #[], .bool false]) w := by kernel_rfl

theorem run_store_float (P : Program) (w : World) (a : Addr) (m : Mode) (k : FloatKind) (b : Nat) : (store a (.float k b) m).run P w = stored P w a (.float k b) m := run_store P w a _ m rfl
/-- A value with its kind's own field removed. -/
def blankV (k n : Int) (f : Nat) (s : ByteArray) (A : Option Addr) (m c : Nat) : Value :=
  .agg #[.int .i64 k, .int .i64 (if k = 1 then 0 else n), .float .f64 (if k = 2 then 0 else f), .string (if k = 3 then ⟨#[]⟩ else s), if k = 4 then .slice none 0 0 else .slice A m c]

attribute [go_sem] run_store_float
set_option maxRecDepth 100000 in
set_option maxHeartbeats 1000000 in
theorem blank_any (k n : Int) (f : Nat) (s : ByteArray) (A : Option Addr) (m c : Nat) (w : World) :
    Calls Tryz.prog 84 #[.agg #[.int .i64 k, .int .i64 n, .float .f64 f, .string s, .slice A m c]] w fun e w' => e = .returned (blankV k n f s A m c) ∧ Below w.heap.size w w' := by
  have O := Lib.hid of_any
  by_cases h : 0 ≤ k ∧ k ≤ 4
  · rcases (by omega : k = 0 ∨ k = 1 ∨ k = 2 ∨ k = 3 ∨ k = 4) with rfl | rfl | rfl | rfl | rfl
    · clear h
      have tinteger := ta_none_integer
      have tfloat := ta_none_float
      have ttext := ta_none_text
      have tlist := ta_none_list
      go_enter Tryz.func84, Tryz.ntmps84
      go_wp2_with fail
      refine (O.out _ _).mono ?_
      rintro e w' ⟨rfl, rfl⟩
      rw [kv0]
      go_wp2_with fail
      refine bodyPost_ret (v := blankV _ n f s A m c) (by simp [results, Tryz.results84, go_sem, blankV]) rfl ⟨rfl, ?_⟩
      exact ((Below.refl _ _).alloc (Nat.le_refl _) _).alloc (by simp) _
    · clear h
      have tinteger := ta_integer_integer
      have tfloat := ta_integer_float
      have ttext := ta_integer_text
      have tlist := ta_integer_list
      go_enter Tryz.func84, Tryz.ntmps84
      go_wp2_with fail
      refine (O.out _ _).mono ?_
      rintro e w' ⟨rfl, rfl⟩
      rw [kv1]
      go_wp2_with fail
      refine bodyPost_ret (v := blankV _ n f s A m c) (by simp [results, Tryz.results84, go_sem, blankV]) rfl ⟨rfl, ?_⟩
      exact ((Below.refl _ _).alloc (Nat.le_refl _) _).alloc (by simp) _
    · clear h
      have tinteger := ta_float_integer
      have tfloat := ta_float_float
      have ttext := ta_float_text
      have tlist := ta_float_list
      go_enter Tryz.func84, Tryz.ntmps84
      go_wp2_with fail
      refine (O.out _ _).mono ?_
      rintro e w' ⟨rfl, rfl⟩
      rw [kv2]
      go_wp2_with fail
      refine bodyPost_ret (v := blankV _ n f s A m c) (by simp [results, Tryz.results84, go_sem, blankV]) rfl ⟨rfl, ?_⟩
      exact ((Below.refl _ _).alloc (Nat.le_refl _) _).alloc (by simp) _
    · clear h
      have tinteger := ta_text_integer
      have tfloat := ta_text_float
      have ttext := ta_text_text
      have tlist := ta_text_list
      go_enter Tryz.func84, Tryz.ntmps84
      go_wp2_with fail
      refine (O.out _ _).mono ?_
      rintro e w' ⟨rfl, rfl⟩
      rw [kv3]
      go_wp2_with fail
      refine bodyPost_ret (v := blankV _ n f s A m c) (by simp [results, Tryz.results84, go_sem, blankV]) rfl ⟨rfl, ?_⟩
      exact ((Below.refl _ _).alloc (Nat.le_refl _) _).alloc (by simp) _
    · clear h
      have tinteger := ta_list_integer
      have tfloat := ta_list_float
      have ttext := ta_list_text
      have tlist := ta_list_list
      go_enter Tryz.func84, Tryz.ntmps84
      go_wp2_with fail
      refine (O.out _ _).mono ?_
      rintro e w' ⟨rfl, rfl⟩
      rw [kv4]
      go_wp2_with fail
      refine bodyPost_ret (v := blankV _ n f s A m c) (by simp [results, Tryz.results84, go_sem, blankV]) rfl ⟨rfl, ?_⟩
      exact ((Below.refl _ _).alloc (Nat.le_refl _) _).alloc (by simp) _
  · have hk : kindV k = .nilIface := by unfold kindV; rw [if_neg (by omega), if_neg (by omega), if_neg (by omega), if_neg (by omega), if_neg (by omega)]
    have HK := Lib.hid hk; clear hk
    have HB : Hid (blankV k n f s A m c = .agg #[.int .i64 k, .int .i64 n, .float .f64 f, .string s, .slice A m c]) := Lib.hid (by unfold blankV; rw [if_neg (by omega), if_neg (by omega), if_neg (by omega), if_neg (by omega)])
    clear h
    have tinteger := ta_nil_integer
    have tfloat := ta_nil_float
    have ttext := ta_nil_text
    have tlist := ta_nil_list
    go_enter Tryz.func84, Tryz.ntmps84
    go_wp2_with fail
    refine (O.out _ _).mono ?_
    rintro e w' ⟨rfl, rfl⟩
    rw [HK.out]
    go_wp2_with fail
    rw [HB.out]
    refine bodyPost_ret (v := .agg #[.int .i64 k, .int .i64 n, .float .f64 f, .string s, .slice A m c]) (by simp [results, Tryz.results84, go_sem]) rfl ⟨rfl, ?_⟩
    exact ((Below.refl _ _).alloc (Nat.le_refl _) _).alloc (by simp) _
end Vt
end Go.Proofs.YtcbddebmmaflgaaGreat
namespace Go.Proofs.YtcbddebmmaflgaaGreat
open Go.RowKit
namespace Nm

end Nm
end Go.Proofs.YtcbddebmmaflgaaGreat
