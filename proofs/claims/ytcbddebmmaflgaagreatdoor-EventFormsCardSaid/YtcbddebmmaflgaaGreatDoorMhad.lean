/- Contracts of the reference's Valid of a tree. -/
/- Contracts of package value's of, blank, Valid of a tree. -/
/- Contracts of package value's Valid of a tree. -/
import Derived.Test.YtcbddebmmaflgaaGreatDoorMhab
namespace Go.Proofs.YtcbddebmmaflgaaGreatDoor
open Go.RowKit
set_option linter.unusedVariables false
namespace Vt
open Nm (bitsW ret_int ret_bool)

theorem loop_len (s : ByteArray) : ∀ (k i : Nat) (r : List UInt8), s.size - i = k → (ByteArray.toList.loop s i r).length = k + r.length := by
  intro k
  induction k with
  | zero => intro i r h; rw [ByteArray.toList.loop]; rw [if_neg (by omega)]; simp
  | succ k ih => intro i r h; rw [ByteArray.toList.loop]; rw [if_pos (by omega)]; rw [ih _ _ (by omega)]; simp; omega
theorem toList_nil (s : ByteArray) : s.toList = [] ↔ s.size = 0 := by
  rw [← List.length_eq_zero_iff]; unfold ByteArray.toList; rw [loop_len s s.size 0 [] (by omega)]; simp

/-- Valid, told by its parts. -/
def Parts (k n : Int) (f : Nat) (s : ByteArray) (l : List VT) (x : Int) : Prop :=
  0 ≤ k ∧ k ≤ 4 ∧ (k = 1 ∨ n = 0) ∧ (k = 2 ∨ bitsW f = 0) ∧ (k = 3 ∨ s.toList = []) ∧ (k = 4 ∨ l.length = 0) ∧ (k = 4 → x ≠ 0) ∧ l.all (fun t => t.valid (x - 1).toNat) = true

theorem parts_iff (k n : Int) (f : Nat) (s : ByteArray) (l : List VT) (x : Int) (hx : 0 ≤ x) : (VT.mk k n f s l).valid x.toNat = true ↔ Parts k n f s l x := by
  rw [valid_mk]
  unfold Parts
  rw [show (x - 1).toNat = x.toNat - 1 from by omega, toList_nil]
  simp only [Bool.and_eq_true, Bool.or_eq_true, decide_eq_true_iff, beq_iff_eq, bne_iff_ne, and_assoc]
  constructor
  · rintro ⟨a, b, c, d, e, f, g, h⟩
    exact ⟨a, b, c, d, e, f, fun h4 => by rcases g with g | g <;> omega, h⟩
  · rintro ⟨a, b, c, d, e, f, g, h⟩
    refine ⟨a, b, c, d, e, f, ?_, h⟩
    by_cases h4 : k = 4
    · right; have := g h4; omega
    · left; exact h4

theorem parts_false {k n : Int} {f : Nat} {s : ByteArray} {l : List VT} {x : Int} {b : Bool} (h : b = true ↔ Parts k n f s l x) (hp : ¬ Parts k n f s l x) : Ending.returned (.bool false) = .returned (.bool b) := by
  cases b with
  | false => rfl
  | true => exact absurd (h.1 rfl) hp
theorem parts_true {k n : Int} {f : Nat} {s : ByteArray} {l : List VT} {x : Int} {b : Bool} (h : b = true ↔ Parts k n f s l x) (hp : Parts k n f s l x) : Ending.returned (.bool true) = .returned (.bool b) := by
  rw [h.2 hp]

/-- What Valid asks of a value's own fields. -/
def HeadV (k n : Int) (f : Nat) (s : ByteArray) (m : Nat) : Prop := (k = 1 ∨ n = 0) ∧ (k = 2 ∨ bitsW f = 0) ∧ (k = 3 ∨ s.toList = []) ∧ (k = 4 ∨ m = 0)
theorem headV_of {k n : Int} {f : Nat} {s : ByteArray} {l : List VT} {x : Int} (h : Parts k n f s l x) : HeadV k n f s l.length := ⟨h.2.2.1, h.2.2.2.1, h.2.2.2.2.1, h.2.2.2.2.2.1⟩

theorem box_below (w : World) (k n : Int) (f : Nat) (s : ByteArray) (A : Option Addr) (m c : Nat) : Below w.heap.size w (w.alloc (.cells #[.int .i64 k, .int .i64 n, .float .f64 f, .string s, .slice A m c] 30)) :=
  (Below.refl _ _).alloc (Nat.le_refl _) _

set_option maxHeartbeats 2000000 in
theorem right_fail (k n : Int) (f : Nat) (s : ByteArray) (m cap : Nat) (A : Option Addr) (hf : f < 18446744073709551616) (h : ¬ HeadV k n f s m) (x : Int) (w : World) :
    Calls Tryz.prog 110 #[.agg #[.int .i64 k, .int .i64 n, .float .f64 f, .string s, .slice A m cap], .int .i64 x] w fun e w' => e = .returned (.bool false) ∧ Below w.heap.size w w' := by
  have H := Lib.hid h; clear h
  go_enter Tryz.func110, Tryz.ntmps110
  go_wp2_with (go_at_call 111; refine (Nm.rbits_any f hf _).mono ?_; rintro e w' ⟨rfl, rfl⟩)
  all_goals first
    | (go_ret; exact ⟨rfl, box_below ..⟩)
    | (exfalso
       refine H.out ⟨?_, ?_, ?_, ?_⟩
       all_goals first
         | omega
         | (right; assumption)
         | (rcases (by assumption : (k != 4) = false ∨ ¬ 0 < m) with q | q
            · simp at q; omega
            · omega))

theorem headV_cases {k n : Int} {f : Nat} {s : ByteArray} {m : Nat} (h : HeadV k n f s m) :
    (k = 1 ∧ bitsW f = 0 ∧ s.toList = [] ∧ m = 0) ∨ (k = 2 ∧ n = 0 ∧ s.toList = [] ∧ m = 0) ∨ (k = 3 ∧ n = 0 ∧ bitsW f = 0 ∧ m = 0) ∨ (k = 4 ∧ n = 0 ∧ bitsW f = 0 ∧ s.toList = []) ∨
      (k ≠ 1 ∧ k ≠ 2 ∧ k ≠ 3 ∧ k ≠ 4 ∧ n = 0 ∧ bitsW f = 0 ∧ s.toList = [] ∧ m = 0) := by
  obtain ⟨h1, h2, h3, h4⟩ := h
  by_cases e1 : k = 1
  · left; exact ⟨e1, by omega, by rcases h3 with h3 | h3; omega; exact h3, by omega⟩
  by_cases e2 : k = 2
  · right; left; exact ⟨e2, by omega, by rcases h3 with h3 | h3; omega; exact h3, by omega⟩
  by_cases e3 : k = 3
  · right; right; left; exact ⟨e3, by omega, by omega, by omega⟩
  by_cases e4 : k = 4
  · right; right; right; left; exact ⟨e4, by omega, by omega, by rcases h3 with h3 | h3; omega; exact h3⟩
  · right; right; right; right; exact ⟨e1, e2, e3, e4, by omega, by omega, by rcases h3 with h3 | h3; omega; exact h3, by omega⟩

set_option maxHeartbeats 1000000 in
theorem right_1 (n : Int) (f : Nat) (s : ByteArray) (hb0 : bitsW f = 0) (hs0 : s.toList = []) (A : Option Addr) (cap : Nat) (hf : f < 18446744073709551616) (x : Int) (w : World) :
    Calls Tryz.prog 110 #[.agg #[.int .i64 1, .int .i64 n, .float .f64 f, .string s, .slice A 0 cap], .int .i64 x] w fun e w' => e = .returned (.bool (true)) ∧ Below w.heap.size w w' := by
  have HAB := Lib.hid (box_below w 1 n f s A 0 cap)
  go_enter Tryz.func110, Tryz.ntmps110
  go_wp2_with (go_at_call 111; refine (Nm.rbits_any f hf _).mono ?_; rintro e w' ⟨rfl, rfl⟩)
  go_loop [5] (fun i => i = .int .i64 0) (fun _ => 0)
  case atStart => exact rfl
  case round =>
    subst hrel
    go_wp2_with fail
    all_goals
      go_ret
      exact ⟨ret_bool (by simp [*]), HAB.out⟩
set_option maxHeartbeats 1000000 in
theorem right_2 (f : Nat) (s : ByteArray) (hs0 : s.toList = []) (A : Option Addr) (cap : Nat) (_ : f < 18446744073709551616) (x : Int) (w : World) :
    Calls Tryz.prog 110 #[.agg #[.int .i64 2, .int .i64 0, .float .f64 f, .string s, .slice A 0 cap], .int .i64 x] w fun e w' => e = .returned (.bool (true)) ∧ Below w.heap.size w w' := by
  have HAB := Lib.hid (box_below w 2 0 f s A 0 cap)
  go_enter Tryz.func110, Tryz.ntmps110
  go_wp2_with fail
  go_loop [5] (fun i => i = .int .i64 0) (fun _ => 0)
  case atStart => exact rfl
  case round =>
    subst hrel
    go_wp2_with fail
    all_goals
      go_ret
      exact ⟨ret_bool (by simp [*]), HAB.out⟩
set_option maxHeartbeats 1000000 in
theorem right_3 (f : Nat) (s : ByteArray) (hb0 : bitsW f = 0) (A : Option Addr) (cap : Nat) (hf : f < 18446744073709551616) (x : Int) (w : World) :
    Calls Tryz.prog 110 #[.agg #[.int .i64 3, .int .i64 0, .float .f64 f, .string s, .slice A 0 cap], .int .i64 x] w fun e w' => e = .returned (.bool (true)) ∧ Below w.heap.size w w' := by
  have HAB := Lib.hid (box_below w 3 0 f s A 0 cap)
  go_enter Tryz.func110, Tryz.ntmps110
  go_wp2_with (go_at_call 111; refine (Nm.rbits_any f hf _).mono ?_; rintro e w' ⟨rfl, rfl⟩)
  go_loop [5] (fun i => i = .int .i64 0) (fun _ => 0)
  case atStart => exact rfl
  case round =>
    subst hrel
    go_wp2_with fail
    all_goals
      go_ret
      exact ⟨ret_bool (by simp [*]), HAB.out⟩
set_option maxHeartbeats 1000000 in
theorem right_0 (k : Int) (h1 : k ≠ 1) (h2 : k ≠ 2) (h3 : k ≠ 3) (h4 : k ≠ 4) (f : Nat) (s : ByteArray) (hb0 : bitsW f = 0) (hs0 : s.toList = []) (A : Option Addr) (cap : Nat) (hf : f < 18446744073709551616) (x : Int) (w : World) :
    Calls Tryz.prog 110 #[.agg #[.int .i64 k, .int .i64 0, .float .f64 f, .string s, .slice A 0 cap], .int .i64 x] w fun e w' => e = .returned (.bool (decide (0 ≤ k ∧ k ≤ 4))) ∧ Below w.heap.size w w' := by
  have e1 : (k != 1) = true := by simpa using h1
  have e2 : (k != 2) = true := by simpa using h2
  have e3 : (k != 3) = true := by simpa using h3
  have e4 : (k != 4) = true := by simpa using h4
  have e5 : (k == 4) = false := by simpa using h4
  clear h1 h2 h3 h4
  have HAB := Lib.hid (box_below w k 0 f s A 0 cap)
  go_enter Tryz.func110, Tryz.ntmps110
  go_wp2_with (go_at_call 111; refine (Nm.rbits_any f hf _).mono ?_; rintro e w' ⟨rfl, rfl⟩)
  go_loop [5] (fun i => i = .int .i64 0) (fun _ => 0)
  case atStart => exact rfl
  case round =>
    subst hrel
    go_wp2_with fail
    all_goals
      go_ret
      exact ⟨ret_bool (by first | (simp [*]; done) | (simp; done) | (simp; omega) | (simp [*]; omega)), HAB.out⟩
set_option maxHeartbeats 2000000 in
theorem right_list (f : Nat) (s : ByteArray) (l : List VT) (A : Option Addr) (cap : Nat) (hf : f < 18446744073709551616) (hb0 : bitsW f = 0) (hs0 : s.toList = []) (hl : l.length ≤ cap) (hc : cap ≤ maxLen) (x : Int) (hx0 : 0 ≤ x) (hx1 : x ≤ 8)
    (ih : ∀ (i : Nat) (hi : i < l.length) (x : Int) (_ : 0 ≤ x) (_ : x ≤ 8) (w : World) (lo hi : Nat) (v : Value) (_ : Rep w lo hi l[i] v) (_ : hi ≤ w.heap.size),
      Calls Tryz.prog 110 #[v, .int .i64 x] w fun e w' => e = .returned (.bool (l[i].valid x.toNat)) ∧ Below w.heap.size w w')
    (w : World) (lo hi : Nat) (hk : KidsAt w lo hi l A) (hz : hi ≤ w.heap.size) :
    Calls Tryz.prog 110 #[.agg #[.int .i64 4, .int .i64 0, .float .f64 f, .string s, .slice A l.length cap], .int .i64 x] w fun e w' =>
      e = .returned (.bool (decide (x ≠ 0) && l.all (fun t => t.valid (x - 1).toNat))) ∧ Below w.heap.size w w' := by
  unfold maxLen at hc
  have IH := Lib.hid ih; have HK := Lib.hid hk; clear ih hk
  by_cases hx : x = 0
  · subst hx
    have HAB := Lib.hid (box_below w 4 0 f s A l.length cap)
    go_enter Tryz.func110, Tryz.ntmps110
    go_wp2_with (go_at_call 111; refine (Nm.rbits_any f hf _).mono ?_; rintro e w' ⟨rfl, rfl⟩)
    go_ret
    exact ⟨ret_bool (by simp), HAB.out⟩
  · have hxb : (x == 0) = false := by simpa using hx
    have hxp : 1 ≤ x := by omega
    have HX : Hid (decide (x ≠ 0) = true) := Lib.hid (by simpa using hx)
    clear hx
    have HA := Lib.hid (BoxAt.new w 4 0 f s A l.length cap)
    have HAB := Lib.hid (box_below w 4 0 f s A l.length cap)
    go_enter Tryz.func110, Tryz.ntmps110
    go_wp2_with (go_at_call 111; refine (Nm.rbits_any f hf _).mono ?_; rintro e w' ⟨rfl, rfl⟩)
    go_loopw [4, 5] (fun r i wr => ∃ (j : Nat), j ≤ l.length ∧ i = .int .i64 j ∧ r = .bool false ∧ (l.take j).all (fun t => t.valid (x - 1).toNat) = true ∧ BoxAt wr w.heap.size 4 0 f s A l.length cap ∧ Below w.heap.size w wr) (fun _ i _ => l.length - (intOf i).toNat)
    case atStart => exact ⟨0, by omega, rfl, rfl, rfl, HA.out, HAB.out⟩
    case round =>
      obtain ⟨j, hj, rfl, rfl, hy, hbox, hb⟩ := hrel
      have HY := Lib.hid hy; clear hy
      have hlt0 := hbox.lt
      obtain ⟨c0, c1, c2, c3, c4⟩ := hbox.cells
      have HBX := Lib.hid hbox; have HB := Lib.hid hb; clear hbox hb
      by_cases hlt : j < l.length
      · obtain ⟨b, off, hA, h1, h2, h3⟩ := (HK.out.later (HB.out.mono hz)).at_ (by omega)
        obtain ⟨k', n', f', s', L', A', cap', e, d0, d1, d2, d3, d4, hr⟩ := h3 j hlt
        subst hA
        have HR := Lib.hid hr
        clear h3 e hr
        go_wp2_with fail
        refine (IH.out j hlt (x - 1) (by omega) (by omega) wr lo hi _ HR.out (by omega)).mono ?_
        rintro e w1 ⟨rfl, hb1⟩
        have HBX1 := Lib.hid (HBX.out.later hb1 hlt0)
        have HB1 := Lib.hid (HB.out.trans (hb1.mono (by omega)))
        clear HBX HB HR hb1 c0 c1 c2 c3 c4 d0 d1 d2 d3 d4
        cases hp : l[j].valid (x - 1).toNat with
        | true =>
          have HP := Lib.hid hp; clear hp
          go_wp2_with fail
          go_roundw
          case rel => exact ⟨j + 1, by omega, by go_num, rfl, by rw [all_take_succ _ _ _ hlt, HY.out, HP.out]; rfl, HBX1.out, HB1.out⟩
          case measure => simp [intOf]; omega
        | false =>
          have HP := Lib.hid hp; clear hp
          go_wp2_with fail
          go_ret
          exact ⟨ret_bool (by rw [HX.out, all_false _ _ j hlt HP.out]; rfl), HB1.out⟩
      · have hj' : j = l.length := by omega
        have HJ := Lib.hid hj'
        clear hj'
        go_wp2_with fail
        go_ret
        have hall : l.all (fun t => t.valid (x - 1).toNat) = true := by have := HY.out; rw [HJ.out, List.take_length] at this; exact this
        exact ⟨ret_bool (by rw [HX.out, hall]; rfl), HB.out⟩

theorem right_any (t : VT) : ∀ (x : Int) (_ : 0 ≤ x) (_ : x ≤ 8) (w : World) (lo hi : Nat) (v : Value) (_ : Rep w lo hi t v) (_ : hi ≤ w.heap.size),
    Calls Tryz.prog 110 #[v, .int .i64 x] w fun e w' => e = .returned (.bool (t.valid x.toNat)) ∧ Below w.heap.size w w' := by
  induction t using VT.ind with
  | _ k n f s l ih =>
    intro x hx0 hx1 w lo hi v hR hz
    obtain ⟨A, cap, rfl, ho, hl, hk⟩ := hR.head
    have hp := parts_iff k n f s l x hx0
    generalize (VT.mk k n f s l).valid x.toNat = R at hp ⊢
    by_cases hh : HeadV k n f s l.length
    · rcases headV_cases hh with ⟨rfl, q1, q2, q3⟩ | ⟨rfl, rfl, q2, q3⟩ | ⟨rfl, rfl, q2, q3⟩ | ⟨rfl, rfl, q2, q3⟩ | ⟨e1, e2, e3, e4, rfl, q1, q2, q3⟩
      · obtain rfl := List.eq_nil_of_length_eq_zero q3
        refine (right_1 n f s q1 q2 A cap ho.f1 x w).mono fun e w' h => ⟨?_, h.2⟩
        rw [h.1]
        exact parts_true hp ⟨by omega, by omega, .inl rfl, .inr q1, .inr q2, .inr rfl, by omega, rfl⟩
      · obtain rfl := List.eq_nil_of_length_eq_zero q3
        refine (right_2 f s q2 A cap ho.f1 x w).mono fun e w' h => ⟨?_, h.2⟩
        rw [h.1]
        exact parts_true hp ⟨by omega, by omega, .inr rfl, .inl rfl, .inr q2, .inr rfl, by omega, rfl⟩
      · obtain rfl := List.eq_nil_of_length_eq_zero q3
        refine (right_3 f s q2 A cap ho.f1 x w).mono fun e w' h => ⟨?_, h.2⟩
        rw [h.1]
        exact parts_true hp ⟨by omega, by omega, .inr rfl, .inr q2, .inl rfl, .inr rfl, by omega, rfl⟩
      · refine (right_list f s l A cap ho.f1 q2 q3 hl ho.m1 x hx0 hx1 (fun i hi x a b w lo hi' v c d => ih i hi x a b w lo hi' v c d) w lo hi hk hz).mono fun e w' h => ⟨?_, h.2⟩
        rw [h.1]
        congr 2
        rw [Bool.eq_iff_iff, hp]
        unfold Parts
        simp only [Bool.and_eq_true, decide_eq_true_iff]
        constructor
        · rintro ⟨h1, h2⟩
          exact ⟨by omega, by omega, by simp, .inr q2, .inr q3, by simp, fun _ => h1, h2⟩
        · rintro ⟨-, -, -, -, -, -, h1, h2⟩
          exact ⟨h1 (by simp), h2⟩
      · obtain rfl := List.eq_nil_of_length_eq_zero q3
        refine (right_0 k e1 e2 e3 e4 f s q1 q2 A cap ho.f1 x w).mono fun e w' h => ⟨?_, h.2⟩
        rw [h.1]
        congr 2
        rw [Bool.eq_iff_iff, hp]
        unfold Parts
        simp only [decide_eq_true_iff]
        constructor
        · rintro ⟨h1, h2⟩
          exact ⟨h1, h2, by simp, .inr q1, .inr q2, by simp, by omega, rfl⟩
        · rintro ⟨h1, h2, -⟩
          exact ⟨h1, h2⟩
    · refine (right_fail k n f s l.length cap A ho.f1 hh x w).mono fun e w' h => ⟨?_, h.2⟩
      rw [h.1]
      exact parts_false hp fun q => hh (headV_of q)

theorem rvalid_any (t : VT) (w : World) (lo hi : Nat) (v : Value) (hR : Rep w lo hi t v) (hz : hi ≤ w.heap.size) :
    Calls Tryz.prog 84 #[v] w fun e w' => e = .returned (.bool (t.valid 8)) ∧ Below w.heap.size w w' := by
  have hv := hR
  obtain ⟨k, n, f, s, l, A, cap, rfl, rfl, ho, hl, hk⟩ := hR.open_
  generalize ht : VT.mk k n f s l = t at *
  have HV := Lib.hid hv
  have HB := Lib.hid (box_below w k n f s A l.length cap)
  clear hv hR ho hk ht
  go_enter Tryz.func84, Tryz.ntmps84
  go_wp2_with fail
  refine (right_any t 8 (by omega) (by omega) _ lo hi _ (HV.out.alloc hz _) (by simp; omega)).mono ?_
  rintro e w1 ⟨rfl, hb1⟩
  have HB2 := Lib.hid (HB.out.trans (hb1.mono (by simp)))
  clear hb1
  go_wp2_with fail
  go_ret
  exact ⟨rfl, HB2.out⟩
end Vt
end Go.Proofs.YtcbddebmmaflgaaGreatDoor
namespace Go.Proofs.YtcbddebmmaflgaaGreatDoor
open Go.RowKit
set_option linter.unusedVariables false
namespace Vt
open Nm (bitsW ret_int ret_bool)

/-- The kind of a number, as a value. -/
def kindV (k : Int) : Value := if k = 0 then .iface 148 (.agg #[]) else if k = 1 then .iface 136 (.agg #[]) else if k = 2 then .iface 138 (.agg #[]) else if k = 3 then .iface 142 (.agg #[]) else if k = 4 then .iface 143 (.agg #[]) else .nilIface

set_option maxRecDepth 100000 in
theorem of_any (k : Int) (w : World) : Calls Tryz.prog 90 #[.int .i64 k] w fun e w' => e = .returned (kindV k) ∧ w = w' := by
  by_cases h : 0 ≤ k ∧ k ≤ 4
  · rcases (by omega : k = 0 ∨ k = 1 ∨ k = 2 ∨ k = 3 ∨ k = 4) with rfl | rfl | rfl | rfl | rfl
    all_goals
      have k0 : Tryz.prog.concrete 148 = true := by kernel_rfl
      have k1 : Tryz.prog.concrete 136 = true := by kernel_rfl
      have k2 : Tryz.prog.concrete 138 = true := by kernel_rfl
      have k3 : Tryz.prog.concrete 142 = true := by kernel_rfl
      have k4 : Tryz.prog.concrete 143 = true := by kernel_rfl
      have i0 : ∀ w, (Instr.index 149 (.agg #[.iface 148 (.agg #[]), .iface 136 (.agg #[]), .iface 138 (.agg #[]), .iface 142 (.agg #[]), .iface 143 (.agg #[])]) (.int .i64 0)).run Tryz.prog w = .ok (.iface 148 (.agg #[])) w := fun _ => by kernel_rfl
      have i1 : ∀ w, (Instr.index 149 (.agg #[.iface 148 (.agg #[]), .iface 136 (.agg #[]), .iface 138 (.agg #[]), .iface 142 (.agg #[]), .iface 143 (.agg #[])]) (.int .i64 1)).run Tryz.prog w = .ok (.iface 136 (.agg #[])) w := fun _ => by kernel_rfl
      have i2 : ∀ w, (Instr.index 149 (.agg #[.iface 148 (.agg #[]), .iface 136 (.agg #[]), .iface 138 (.agg #[]), .iface 142 (.agg #[]), .iface 143 (.agg #[])]) (.int .i64 2)).run Tryz.prog w = .ok (.iface 138 (.agg #[])) w := fun _ => by kernel_rfl
      have i3 : ∀ w, (Instr.index 149 (.agg #[.iface 148 (.agg #[]), .iface 136 (.agg #[]), .iface 138 (.agg #[]), .iface 142 (.agg #[]), .iface 143 (.agg #[])]) (.int .i64 3)).run Tryz.prog w = .ok (.iface 142 (.agg #[])) w := fun _ => by kernel_rfl
      have i4 : ∀ w, (Instr.index 149 (.agg #[.iface 148 (.agg #[]), .iface 136 (.agg #[]), .iface 138 (.agg #[]), .iface 142 (.agg #[]), .iface 143 (.agg #[])]) (.int .i64 4)).run Tryz.prog w = .ok (.iface 143 (.agg #[])) w := fun _ => by kernel_rfl
      go_enter Tryz.func90, Tryz.ntmps90
      go_wp2_with fail
      go_ret
      exact ⟨rfl, rfl⟩
  · have hk : kindV k = .nilIface := by unfold kindV; rw [if_neg (by omega), if_neg (by omega), if_neg (by omega), if_neg (by omega), if_neg (by omega)]
    rw [hk]
    have HK := Lib.hid hk; clear hk
    by_cases h0 : k < 0
    · clear h
      go_enter Tryz.func90, Tryz.ntmps90
      go_wp2_with fail
      go_ret
      exact ⟨rfl, rfl⟩
    · have h4 : 4 < k := by omega
      clear h
      go_enter Tryz.func90, Tryz.ntmps90
      go_wp2_with fail
      go_ret
      exact ⟨rfl, rfl⟩
theorem kv0 : kindV 0 = .iface 148 (.agg #[]) := rfl
theorem kv1 : kindV 1 = .iface 136 (.agg #[]) := rfl
theorem kv2 : kindV 2 = .iface 138 (.agg #[]) := rfl
theorem kv3 : kindV 3 = .iface 142 (.agg #[]) := rfl
theorem kv4 : kindV 4 = .iface 143 (.agg #[]) := rfl

theorem ta_none_integer (w : World) : (Instr.typeAssert (.iface 148 (.agg #[])) 116 136 true).run Tryz.prog w = .ok (.tuple #[.agg #[], .bool false]) w := by kernel_rfl
theorem ta_none_float (w : World) : (Instr.typeAssert (.iface 148 (.agg #[])) 116 138 true).run Tryz.prog w = .ok (.tuple #[.agg #[], .bool false]) w := by kernel_rfl
theorem ta_none_text (w : World) : (Instr.typeAssert (.iface 148 (.agg #[])) 116 142 true).run Tryz.prog w = .ok (.tuple #[.agg #[], .bool false]) w := by kernel_rfl
theorem ta_none_list (w : World) : (Instr.typeAssert (.iface 148 (.agg #[])) 116 143 true).run Tryz.prog w = .ok (.tuple #[.agg #[], .bool false]) w := by kernel_rfl
theorem ta_integer_integer (w : World) : (Instr.typeAssert (.iface 136 (.agg #[])) 116 136 true).run Tryz.prog w = .ok (.tuple #[.agg #[], .bool true]) w := by kernel_rfl
theorem ta_integer_float (w : World) : (Instr.typeAssert (.iface 136 (.agg #[])) 116 138 true).run Tryz.prog w = .ok (.tuple #[.agg #[], .bool false]) w := by kernel_rfl
theorem ta_integer_text (w : World) : (Instr.typeAssert (.iface 136 (.agg #[])) 116 142 true).run Tryz.prog w = .ok (.tuple #[.agg #[], .bool false]) w := by kernel_rfl
theorem ta_integer_list (w : World) : (Instr.typeAssert (.iface 136 (.agg #[])) 116 143 true).run Tryz.prog w = .ok (.tuple #[.agg #[], .bool false]) w := by kernel_rfl
theorem ta_float_integer (w : World) : (Instr.typeAssert (.iface 138 (.agg #[])) 116 136 true).run Tryz.prog w = .ok (.tuple #[.agg #[], .bool false]) w := by kernel_rfl
theorem ta_float_float (w : World) : (Instr.typeAssert (.iface 138 (.agg #[])) 116 138 true).run Tryz.prog w = .ok (.tuple #[.agg #[], .bool true]) w := by kernel_rfl
theorem ta_float_text (w : World) : (Instr.typeAssert (.iface 138 (.agg #[])) 116 142 true).run Tryz.prog w = .ok (.tuple #[.agg #[], .bool false]) w := by kernel_rfl
theorem ta_float_list (w : World) : (Instr.typeAssert (.iface 138 (.agg #[])) 116 143 true).run Tryz.prog w = .ok (.tuple #[.agg #[], .bool false]) w := by kernel_rfl
theorem ta_text_integer (w : World) : (Instr.typeAssert (.iface 142 (.agg #[])) 116 136 true).run Tryz.prog w = .ok (.tuple #[.agg #[], .bool false]) w := by kernel_rfl
theorem ta_text_float (w : World) : (Instr.typeAssert (.iface 142 (.agg #[])) 116 138 true).run Tryz.prog w = .ok (.tuple #[.agg #[], .bool false]) w := by kernel_rfl
theorem ta_text_text (w : World) : (Instr.typeAssert (.iface 142 (.agg #[])) 116 142 true).run Tryz.prog w = .ok (.tuple #[.agg #[], .bool true]) w := by kernel_rfl
theorem ta_text_list (w : World) : (Instr.typeAssert (.iface 142 (.agg #[])) 116 143 true).run Tryz.prog w = .ok (.tuple #[.agg #[], .bool false]) w := by kernel_rfl
theorem ta_list_integer (w : World) : (Instr.typeAssert (.iface 143 (.agg #[])) 116 136 true).run Tryz.prog w = .ok (.tuple #[.agg #[], .bool false]) w := by kernel_rfl
theorem ta_list_float (w : World) : (Instr.typeAssert (.iface 143 (.agg #[])) 116 138 true).run Tryz.prog w = .ok (.tuple #[.agg #[], .bool false]) w := by kernel_rfl
theorem ta_list_text (w : World) : (Instr.typeAssert (.iface 143 (.agg #[])) 116 142 true).run Tryz.prog w = .ok (.tuple #[.agg #[], .bool false]) w := by kernel_rfl
theorem ta_list_list (w : World) : (Instr.typeAssert (.iface 143 (.agg #[])) 116 143 true).run Tryz.prog w = .ok (.tuple #[.agg #[], .bool true]) w := by kernel_rfl
theorem ta_nil_integer (w : World) : (Instr.typeAssert .nilIface 116 136 true).run Tryz.prog w = .ok (.tuple #[.agg #[], .bool false]) w := by kernel_rfl
theorem ta_nil_float (w : World) : (Instr.typeAssert .nilIface 116 138 true).run Tryz.prog w = .ok (.tuple #[.agg #[], .bool false]) w := by kernel_rfl
theorem ta_nil_text (w : World) : (Instr.typeAssert .nilIface 116 142 true).run Tryz.prog w = .ok (.tuple #[.agg #[], .bool false]) w := by kernel_rfl
theorem ta_nil_list (w : World) : (Instr.typeAssert .nilIface 116 143 true).run Tryz.prog w = .ok (.tuple #[.agg #[], .bool false]) w := by kernel_rfl

theorem run_store_float (P : Program) (w : World) (a : Addr) (m : Mode) (k : FloatKind) (b : Nat) : (store a (.float k b) m).run P w = stored P w a (.float k b) m := run_store P w a _ m rfl
/-- A value with its kind's own field removed. -/
def blankV (k n : Int) (f : Nat) (s : ByteArray) (A : Option Addr) (m c : Nat) : Value :=
  .agg #[.int .i64 k, .int .i64 (if k = 1 then 0 else n), .float .f64 (if k = 2 then 0 else f), .string (if k = 3 then ⟨#[]⟩ else s), if k = 4 then .slice none 0 0 else .slice A m c]

attribute [go_sem] run_store_float
set_option maxRecDepth 100000 in
set_option maxHeartbeats 1000000 in
theorem blank_any (k n : Int) (f : Nat) (s : ByteArray) (A : Option Addr) (m c : Nat) (w : World) :
    Calls Tryz.prog 89 #[.agg #[.int .i64 k, .int .i64 n, .float .f64 f, .string s, .slice A m c]] w fun e w' => e = .returned (blankV k n f s A m c) ∧ Below w.heap.size w w' := by
  have O := Lib.hid of_any
  by_cases h : 0 ≤ k ∧ k ≤ 4
  · rcases (by omega : k = 0 ∨ k = 1 ∨ k = 2 ∨ k = 3 ∨ k = 4) with rfl | rfl | rfl | rfl | rfl
    · clear h
      have tinteger := ta_none_integer
      have tfloat := ta_none_float
      have ttext := ta_none_text
      have tlist := ta_none_list
      go_enter Tryz.func89, Tryz.ntmps89
      go_wp2_with fail
      refine (O.out _ _).mono ?_
      rintro e w' ⟨rfl, rfl⟩
      rw [kv0]
      go_wp2_with fail
      refine bodyPost_ret (v := blankV _ n f s A m c) (by simp [results, Tryz.results89, go_sem, blankV]) rfl ⟨rfl, ?_⟩
      exact ((Below.refl _ _).alloc (Nat.le_refl _) _).alloc (by simp) _
    · clear h
      have tinteger := ta_integer_integer
      have tfloat := ta_integer_float
      have ttext := ta_integer_text
      have tlist := ta_integer_list
      go_enter Tryz.func89, Tryz.ntmps89
      go_wp2_with fail
      refine (O.out _ _).mono ?_
      rintro e w' ⟨rfl, rfl⟩
      rw [kv1]
      go_wp2_with fail
      refine bodyPost_ret (v := blankV _ n f s A m c) (by simp [results, Tryz.results89, go_sem, blankV]) rfl ⟨rfl, ?_⟩
      exact ((Below.refl _ _).alloc (Nat.le_refl _) _).alloc (by simp) _
    · clear h
      have tinteger := ta_float_integer
      have tfloat := ta_float_float
      have ttext := ta_float_text
      have tlist := ta_float_list
      go_enter Tryz.func89, Tryz.ntmps89
      go_wp2_with fail
      refine (O.out _ _).mono ?_
      rintro e w' ⟨rfl, rfl⟩
      rw [kv2]
      go_wp2_with fail
      refine bodyPost_ret (v := blankV _ n f s A m c) (by simp [results, Tryz.results89, go_sem, blankV]) rfl ⟨rfl, ?_⟩
      exact ((Below.refl _ _).alloc (Nat.le_refl _) _).alloc (by simp) _
    · clear h
      have tinteger := ta_text_integer
      have tfloat := ta_text_float
      have ttext := ta_text_text
      have tlist := ta_text_list
      go_enter Tryz.func89, Tryz.ntmps89
      go_wp2_with fail
      refine (O.out _ _).mono ?_
      rintro e w' ⟨rfl, rfl⟩
      rw [kv3]
      go_wp2_with fail
      refine bodyPost_ret (v := blankV _ n f s A m c) (by simp [results, Tryz.results89, go_sem, blankV]) rfl ⟨rfl, ?_⟩
      exact ((Below.refl _ _).alloc (Nat.le_refl _) _).alloc (by simp) _
    · clear h
      have tinteger := ta_list_integer
      have tfloat := ta_list_float
      have ttext := ta_list_text
      have tlist := ta_list_list
      go_enter Tryz.func89, Tryz.ntmps89
      go_wp2_with fail
      refine (O.out _ _).mono ?_
      rintro e w' ⟨rfl, rfl⟩
      rw [kv4]
      go_wp2_with fail
      refine bodyPost_ret (v := blankV _ n f s A m c) (by simp [results, Tryz.results89, go_sem, blankV]) rfl ⟨rfl, ?_⟩
      exact ((Below.refl _ _).alloc (Nat.le_refl _) _).alloc (by simp) _
  · have hk : kindV k = .nilIface := by unfold kindV; rw [if_neg (by omega), if_neg (by omega), if_neg (by omega), if_neg (by omega), if_neg (by omega)]
    have HK := Lib.hid hk; clear hk
    have HB : Hid (blankV k n f s A m c = .agg #[.int .i64 k, .int .i64 n, .float .f64 f, .string s, .slice A m c]) := Lib.hid (by unfold blankV; rw [if_neg (by omega), if_neg (by omega), if_neg (by omega), if_neg (by omega)])
    clear h
    have tinteger := ta_nil_integer
    have tfloat := ta_nil_float
    have ttext := ta_nil_text
    have tlist := ta_nil_list
    go_enter Tryz.func89, Tryz.ntmps89
    go_wp2_with fail
    refine (O.out _ _).mono ?_
    rintro e w' ⟨rfl, rfl⟩
    rw [HK.out]
    go_wp2_with fail
    rw [HB.out]
    refine bodyPost_ret (v := .agg #[.int .i64 k, .int .i64 n, .float .f64 f, .string s, .slice A m c]) (by simp [results, Tryz.results89, go_sem]) rfl ⟨rfl, ?_⟩
    exact ((Below.refl _ _).alloc (Nat.le_refl _) _).alloc (by simp) _
end Vt
end Go.Proofs.YtcbddebmmaflgaaGreatDoor
namespace Go.Proofs.YtcbddebmmaflgaaGreatDoor
open Go.RowKit
set_option linter.unusedVariables false
namespace Vt
open Nm (bitsW ret_int ret_bool)

theorem bv0 (n : Int) (f : Nat) (s : ByteArray) (A : Option Addr) (m c : Nat) : blankV 0 n f s A m c = .agg #[.int .i64 0, .int .i64 n, .float .f64 f, .string s, .slice A m c] := by simp [blankV]
theorem bv1 (n : Int) (f : Nat) (s : ByteArray) (A : Option Addr) (m c : Nat) : blankV 1 n f s A m c = .agg #[.int .i64 1, .int .i64 0, .float .f64 f, .string s, .slice A m c] := by simp [blankV]
theorem bv2 (n : Int) (f : Nat) (s : ByteArray) (A : Option Addr) (m c : Nat) : blankV 2 n f s A m c = .agg #[.int .i64 2, .int .i64 n, .float .f64 0, .string s, .slice A m c] := by simp [blankV]
theorem bv3 (n : Int) (f : Nat) (s : ByteArray) (A : Option Addr) (m c : Nat) : blankV 3 n f s A m c = .agg #[.int .i64 3, .int .i64 n, .float .f64 f, .string ⟨#[]⟩, .slice A m c] := by simp [blankV]
theorem bv4 (n : Int) (f : Nat) (s : ByteArray) (A : Option Addr) (m c : Nat) : blankV 4 n f s A m c = .agg #[.int .i64 4, .int .i64 n, .float .f64 f, .string s, .slice none 0 0] := by simp [blankV]

/-- The cell of Valid's own 'walk'. -/
def WalkAt (w : World) (g : Nat) : Prop := w.cell? ⟨g, 0, none⟩ = some (.func (.func 88) #[] #[.pointer (some ⟨g, 0, none⟩)]) ∧ g < w.heap.size
theorem WalkAt.later {w w' : World} {g : Nat} (h : WalkAt w g) (hb : Below w.heap.size w w') : WalkAt w' g := ⟨(hb.cell (p := ⟨g, 0, none⟩) h.2).trans h.1, Nat.lt_of_lt_of_le h.2 hb.size⟩

theorem bits0 : bitsW 0 = 0 := by decide +kernel

set_option maxRecDepth 100000 in
set_option maxHeartbeats 2000000 in
theorem vfail_0 (n : Int) (f : Nat) (s : ByteArray) (m cap : Nat) (A : Option Addr) (h : ¬ HeadV 0 n f s m) (x : Int) (g : Nat) (w : World) :
    Calls Tryz.prog 88 #[.agg #[.int .i64 0, .int .i64 n, .float .f64 f, .string s, .slice A m cap], .int .i64 x, .pointer (some ⟨g, 0, none⟩)] w fun e w' => e = .returned (.bool false) ∧ Below w.heap.size w w' := by
  have H := Lib.hid h; clear h
  have HAB := Lib.hid (box_below w 0 n f s A m cap)
  have HBX := Lib.hid (BoxAt.new w 0 n f s A m cap)
  have BL := blank_any 0 n f s A m cap
  rw [bv0] at BL
  have BL := Lib.hid BL
  have O := Lib.hid (of_any 0)
  rw [kv0] at O
  have BI := Lib.hid (Nm.bits_any)
  go_enter Tryz.func88, Tryz.ntmps88
  go_wp2_with fail
  refine (BL.out _).mono ?_
  rintro e w1 ⟨rfl, hb1⟩
  have hbox := HBX.out.later hb1 (by simp)
  obtain ⟨c0, c1, c2, c3, c4⟩ := hbox.cells
  have hlt := hbox.lt
  have HB1 := Lib.hid (HAB.out.trans (hb1.mono (by simp)))
  clear hbox
  clear hb1 HBX HAB BL
  go_wp2_with fail
  refine (O.out _).mono ?_
  rintro e w' ⟨rfl, rfl⟩
  go_wp2_with (go_at_call 91; refine (BI.out _ _).mono ?_; rintro e w' ⟨rfl, rfl⟩)
  all_goals first
    | (go_ret; exact ⟨rfl, HB1.out.alloc (by omega) _⟩)
    | (exfalso
       refine H.out ⟨?_, ?_, ?_, ?_⟩
       all_goals clear H HB1 O BI
       all_goals first
         | omega
         | (right; assumption)
         | (right; omega))

set_option maxRecDepth 100000 in
set_option maxHeartbeats 2000000 in
theorem vfail_1 (n : Int) (f : Nat) (s : ByteArray) (m cap : Nat) (A : Option Addr) (h : ¬ HeadV 1 n f s m) (x : Int) (g : Nat) (w : World) :
    Calls Tryz.prog 88 #[.agg #[.int .i64 1, .int .i64 n, .float .f64 f, .string s, .slice A m cap], .int .i64 x, .pointer (some ⟨g, 0, none⟩)] w fun e w' => e = .returned (.bool false) ∧ Below w.heap.size w w' := by
  have H := Lib.hid h; clear h
  have HAB := Lib.hid (box_below w 1 n f s A m cap)
  have HBX := Lib.hid (BoxAt.new w 1 n f s A m cap)
  have BL := blank_any 1 n f s A m cap
  rw [bv1] at BL
  have BL := Lib.hid BL
  have O := Lib.hid (of_any 1)
  rw [kv1] at O
  have BI := Lib.hid (Nm.bits_any)
  go_enter Tryz.func88, Tryz.ntmps88
  go_wp2_with fail
  refine (BL.out _).mono ?_
  rintro e w1 ⟨rfl, hb1⟩
  have hbox := HBX.out.later hb1 (by simp)
  obtain ⟨c0, c1, c2, c3, c4⟩ := hbox.cells
  have hlt := hbox.lt
  have HB1 := Lib.hid (HAB.out.trans (hb1.mono (by simp)))
  clear hbox
  clear hb1 HBX HAB BL
  go_wp2_with fail
  refine (O.out _).mono ?_
  rintro e w' ⟨rfl, rfl⟩
  go_wp2_with (go_at_call 91; refine (BI.out _ _).mono ?_; rintro e w' ⟨rfl, rfl⟩)
  all_goals first
    | (go_ret; exact ⟨rfl, HB1.out.alloc (by omega) _⟩)
    | (exfalso
       refine H.out ⟨?_, ?_, ?_, ?_⟩
       all_goals clear H HB1 O BI
       all_goals first
         | omega
         | (right; assumption)
         | (right; omega))

set_option maxRecDepth 100000 in
set_option maxHeartbeats 2000000 in
theorem vfail_2 (n : Int) (f : Nat) (s : ByteArray) (m cap : Nat) (A : Option Addr) (h : ¬ HeadV 2 n f s m) (x : Int) (g : Nat) (w : World) :
    Calls Tryz.prog 88 #[.agg #[.int .i64 2, .int .i64 n, .float .f64 f, .string s, .slice A m cap], .int .i64 x, .pointer (some ⟨g, 0, none⟩)] w fun e w' => e = .returned (.bool false) ∧ Below w.heap.size w w' := by
  have H := Lib.hid h; clear h
  have HAB := Lib.hid (box_below w 2 n f s A m cap)
  have HBX := Lib.hid (BoxAt.new w 2 n f s A m cap)
  have BL := blank_any 2 n f s A m cap
  rw [bv2] at BL
  have BL := Lib.hid BL
  have O := Lib.hid (of_any 2)
  rw [kv2] at O
  have BI := Lib.hid (Nm.bits_any)
  have b00 := bits0
  go_enter Tryz.func88, Tryz.ntmps88
  go_wp2_with fail
  refine (BL.out _).mono ?_
  rintro e w1 ⟨rfl, hb1⟩
  have hbox := HBX.out.later hb1 (by simp)
  obtain ⟨c0, c1, c2, c3, c4⟩ := hbox.cells
  have hlt := hbox.lt
  have HB1 := Lib.hid (HAB.out.trans (hb1.mono (by simp)))
  clear hbox
  clear hb1 HBX HAB BL
  go_wp2_with fail
  refine (O.out _).mono ?_
  rintro e w' ⟨rfl, rfl⟩
  go_wp2_with (go_at_call 91; refine (BI.out _ _).mono ?_; rintro e w' ⟨rfl, rfl⟩)
  all_goals first
    | (go_ret; exact ⟨rfl, HB1.out.alloc (by omega) _⟩)
    | (exfalso
       refine H.out ⟨?_, ?_, ?_, ?_⟩
       all_goals clear H HB1 O BI
       all_goals first
         | omega
         | (right; assumption)
         | (right; omega))

set_option maxRecDepth 100000 in
set_option maxHeartbeats 2000000 in
theorem vfail_3 (n : Int) (f : Nat) (s : ByteArray) (m cap : Nat) (A : Option Addr) (h : ¬ HeadV 3 n f s m) (x : Int) (g : Nat) (w : World) :
    Calls Tryz.prog 88 #[.agg #[.int .i64 3, .int .i64 n, .float .f64 f, .string s, .slice A m cap], .int .i64 x, .pointer (some ⟨g, 0, none⟩)] w fun e w' => e = .returned (.bool false) ∧ Below w.heap.size w w' := by
  have H := Lib.hid h; clear h
  have HAB := Lib.hid (box_below w 3 n f s A m cap)
  have HBX := Lib.hid (BoxAt.new w 3 n f s A m cap)
  have BL := blank_any 3 n f s A m cap
  rw [bv3] at BL
  have BL := Lib.hid BL
  have O := Lib.hid (of_any 3)
  rw [kv3] at O
  have BI := Lib.hid (Nm.bits_any)
  go_enter Tryz.func88, Tryz.ntmps88
  go_wp2_with fail
  refine (BL.out _).mono ?_
  rintro e w1 ⟨rfl, hb1⟩
  have hbox := HBX.out.later hb1 (by simp)
  obtain ⟨c0, c1, c2, c3, c4⟩ := hbox.cells
  have hlt := hbox.lt
  have HB1 := Lib.hid (HAB.out.trans (hb1.mono (by simp)))
  clear hbox
  clear hb1 HBX HAB BL
  go_wp2_with fail
  refine (O.out _).mono ?_
  rintro e w' ⟨rfl, rfl⟩
  go_wp2_with (go_at_call 91; refine (BI.out _ _).mono ?_; rintro e w' ⟨rfl, rfl⟩)
  all_goals first
    | (go_ret; exact ⟨rfl, HB1.out.alloc (by omega) _⟩)
    | (exfalso
       refine H.out ⟨?_, ?_, ?_, ?_⟩
       all_goals clear H HB1 O BI
       all_goals first
         | omega
         | (right; assumption)
         | (right; omega))

set_option maxRecDepth 100000 in
set_option maxHeartbeats 2000000 in
theorem vfail_4 (n : Int) (f : Nat) (s : ByteArray) (m cap : Nat) (A : Option Addr) (h : ¬ HeadV 4 n f s m) (x : Int) (g : Nat) (w : World) :
    Calls Tryz.prog 88 #[.agg #[.int .i64 4, .int .i64 n, .float .f64 f, .string s, .slice A m cap], .int .i64 x, .pointer (some ⟨g, 0, none⟩)] w fun e w' => e = .returned (.bool false) ∧ Below w.heap.size w w' := by
  have H := Lib.hid h; clear h
  have HAB := Lib.hid (box_below w 4 n f s A m cap)
  have HBX := Lib.hid (BoxAt.new w 4 n f s A m cap)
  have BL := blank_any 4 n f s A m cap
  rw [bv4] at BL
  have BL := Lib.hid BL
  have O := Lib.hid (of_any 4)
  rw [kv4] at O
  have BI := Lib.hid (Nm.bits_any)
  go_enter Tryz.func88, Tryz.ntmps88
  go_wp2_with fail
  refine (BL.out _).mono ?_
  rintro e w1 ⟨rfl, hb1⟩
  have hbox := HBX.out.later hb1 (by simp)
  obtain ⟨c0, c1, c2, c3, c4⟩ := hbox.cells
  have hlt := hbox.lt
  have HB1 := Lib.hid (HAB.out.trans (hb1.mono (by simp)))
  clear hbox
  clear hb1 HBX HAB BL
  go_wp2_with fail
  refine (O.out _).mono ?_
  rintro e w' ⟨rfl, rfl⟩
  go_wp2_with (go_at_call 91; refine (BI.out _ _).mono ?_; rintro e w' ⟨rfl, rfl⟩)
  all_goals first
    | (go_ret; exact ⟨rfl, HB1.out.alloc (by omega) _⟩)
    | (exfalso
       refine H.out ⟨?_, ?_, ?_, ?_⟩
       all_goals clear H HB1 O BI
       all_goals first
         | omega
         | (right; assumption)
         | (right; omega))

set_option maxRecDepth 100000 in
set_option maxHeartbeats 1000000 in
theorem vpass_0 (f : Nat) (s : ByteArray) (hb0 : bitsW f = 0) (hs0 : s.toList = []) (A : Option Addr) (cap : Nat) (x : Int) (g : Nat) (w : World) :
    Calls Tryz.prog 88 #[.agg #[.int .i64 0, .int .i64 0, .float .f64 f, .string s, .slice A 0 cap], .int .i64 x, .pointer (some ⟨g, 0, none⟩)] w fun e w' => e = .returned (.bool true) ∧ Below w.heap.size w w' := by
  have HAB := Lib.hid (box_below w 0 0 f s A 0 cap)
  have HBX := Lib.hid (BoxAt.new w 0 0 f s A 0 cap)
  have BL := blank_any 0 0 f s A 0 cap
  rw [bv0] at BL
  have BL := Lib.hid BL
  have O := Lib.hid (of_any 0)
  rw [kv0] at O
  have BI := Lib.hid (Nm.bits_any)
  go_enter Tryz.func88, Tryz.ntmps88
  go_wp2_with fail
  refine (BL.out _).mono ?_
  rintro e w1 ⟨rfl, hb1⟩
  have hbox := HBX.out.later hb1 (by simp)
  obtain ⟨c0, c1, c2, c3, c4⟩ := hbox.cells
  have hlt := hbox.lt
  have HB1 := Lib.hid (HAB.out.trans (hb1.mono (by simp)))
  clear hbox
  clear hb1 HBX HAB BL
  go_wp2_with fail
  refine (O.out _).mono ?_
  rintro e w' ⟨rfl, rfl⟩
  go_wp2_with (go_at_call 91; refine (BI.out _ _).mono ?_; rintro e w' ⟨rfl, rfl⟩)
  go_loop [49] (fun i => i = .int .i64 0) (fun _ => 0)
  case atStart => exact rfl
  case round =>
    subst hrel
    go_wp2_with fail
    go_ret
    exact ⟨rfl, HB1.out.alloc (by omega) _⟩

set_option maxRecDepth 100000 in
set_option maxHeartbeats 1000000 in
theorem vpass_1 (n : Int) (f : Nat) (s : ByteArray) (hb0 : bitsW f = 0) (hs0 : s.toList = []) (A : Option Addr) (cap : Nat) (x : Int) (g : Nat) (w : World) :
    Calls Tryz.prog 88 #[.agg #[.int .i64 1, .int .i64 n, .float .f64 f, .string s, .slice A 0 cap], .int .i64 x, .pointer (some ⟨g, 0, none⟩)] w fun e w' => e = .returned (.bool true) ∧ Below w.heap.size w w' := by
  have HAB := Lib.hid (box_below w 1 n f s A 0 cap)
  have HBX := Lib.hid (BoxAt.new w 1 n f s A 0 cap)
  have BL := blank_any 1 n f s A 0 cap
  rw [bv1] at BL
  have BL := Lib.hid BL
  have O := Lib.hid (of_any 1)
  rw [kv1] at O
  have BI := Lib.hid (Nm.bits_any)
  go_enter Tryz.func88, Tryz.ntmps88
  go_wp2_with fail
  refine (BL.out _).mono ?_
  rintro e w1 ⟨rfl, hb1⟩
  have hbox := HBX.out.later hb1 (by simp)
  obtain ⟨c0, c1, c2, c3, c4⟩ := hbox.cells
  have hlt := hbox.lt
  have HB1 := Lib.hid (HAB.out.trans (hb1.mono (by simp)))
  clear hbox
  clear hb1 HBX HAB BL
  go_wp2_with fail
  refine (O.out _).mono ?_
  rintro e w' ⟨rfl, rfl⟩
  go_wp2_with (go_at_call 91; refine (BI.out _ _).mono ?_; rintro e w' ⟨rfl, rfl⟩)
  go_loop [49] (fun i => i = .int .i64 0) (fun _ => 0)
  case atStart => exact rfl
  case round =>
    subst hrel
    go_wp2_with fail
    go_ret
    exact ⟨rfl, HB1.out.alloc (by omega) _⟩

set_option maxRecDepth 100000 in
set_option maxHeartbeats 1000000 in
theorem vpass_2 (f : Nat) (s : ByteArray) (hs0 : s.toList = []) (A : Option Addr) (cap : Nat) (x : Int) (g : Nat) (w : World) :
    Calls Tryz.prog 88 #[.agg #[.int .i64 2, .int .i64 0, .float .f64 f, .string s, .slice A 0 cap], .int .i64 x, .pointer (some ⟨g, 0, none⟩)] w fun e w' => e = .returned (.bool true) ∧ Below w.heap.size w w' := by
  have HAB := Lib.hid (box_below w 2 0 f s A 0 cap)
  have HBX := Lib.hid (BoxAt.new w 2 0 f s A 0 cap)
  have BL := blank_any 2 0 f s A 0 cap
  rw [bv2] at BL
  have BL := Lib.hid BL
  have O := Lib.hid (of_any 2)
  rw [kv2] at O
  have BI := Lib.hid (Nm.bits_any)
  have b00 := bits0
  go_enter Tryz.func88, Tryz.ntmps88
  go_wp2_with fail
  refine (BL.out _).mono ?_
  rintro e w1 ⟨rfl, hb1⟩
  have hbox := HBX.out.later hb1 (by simp)
  obtain ⟨c0, c1, c2, c3, c4⟩ := hbox.cells
  have hlt := hbox.lt
  have HB1 := Lib.hid (HAB.out.trans (hb1.mono (by simp)))
  clear hbox
  clear hb1 HBX HAB BL
  go_wp2_with fail
  refine (O.out _).mono ?_
  rintro e w' ⟨rfl, rfl⟩
  go_wp2_with (go_at_call 91; refine (BI.out _ _).mono ?_; rintro e w' ⟨rfl, rfl⟩)
  go_loop [49] (fun i => i = .int .i64 0) (fun _ => 0)
  case atStart => exact rfl
  case round =>
    subst hrel
    go_wp2_with fail
    go_ret
    exact ⟨rfl, HB1.out.alloc (by omega) _⟩

set_option maxRecDepth 100000 in
set_option maxHeartbeats 1000000 in
theorem vpass_3 (f : Nat) (s : ByteArray) (hb0 : bitsW f = 0) (A : Option Addr) (cap : Nat) (x : Int) (g : Nat) (w : World) :
    Calls Tryz.prog 88 #[.agg #[.int .i64 3, .int .i64 0, .float .f64 f, .string s, .slice A 0 cap], .int .i64 x, .pointer (some ⟨g, 0, none⟩)] w fun e w' => e = .returned (.bool true) ∧ Below w.heap.size w w' := by
  have HAB := Lib.hid (box_below w 3 0 f s A 0 cap)
  have HBX := Lib.hid (BoxAt.new w 3 0 f s A 0 cap)
  have BL := blank_any 3 0 f s A 0 cap
  rw [bv3] at BL
  have BL := Lib.hid BL
  have O := Lib.hid (of_any 3)
  rw [kv3] at O
  have BI := Lib.hid (Nm.bits_any)
  go_enter Tryz.func88, Tryz.ntmps88
  go_wp2_with fail
  refine (BL.out _).mono ?_
  rintro e w1 ⟨rfl, hb1⟩
  have hbox := HBX.out.later hb1 (by simp)
  obtain ⟨c0, c1, c2, c3, c4⟩ := hbox.cells
  have hlt := hbox.lt
  have HB1 := Lib.hid (HAB.out.trans (hb1.mono (by simp)))
  clear hbox
  clear hb1 HBX HAB BL
  go_wp2_with fail
  refine (O.out _).mono ?_
  rintro e w' ⟨rfl, rfl⟩
  go_wp2_with (go_at_call 91; refine (BI.out _ _).mono ?_; rintro e w' ⟨rfl, rfl⟩)
  go_loop [49] (fun i => i = .int .i64 0) (fun _ => 0)
  case atStart => exact rfl
  case round =>
    subst hrel
    go_wp2_with fail
    go_ret
    exact ⟨rfl, HB1.out.alloc (by omega) _⟩

set_option maxRecDepth 100000 in
set_option maxHeartbeats 2000000 in
theorem vlist (f : Nat) (s : ByteArray) (l : List VT) (A : Option Addr) (cap : Nat) (hb0 : bitsW f = 0) (hs0 : s.toList = []) (hl : l.length ≤ cap) (hc : cap ≤ maxLen) (x : Int) (hx0 : 0 ≤ x) (hx1 : x ≤ 8) (g : Nat)
    (ih : ∀ (i : Nat) (hi : i < l.length) (x : Int) (_ : 0 ≤ x) (_ : x ≤ 8) (w : World) (lo hi : Nat) (v : Value) (_ : Rep w lo hi l[i] v) (_ : hi ≤ w.heap.size) (_ : WalkAt w g),
      Calls Tryz.prog 88 #[v, .int .i64 x, .pointer (some ⟨g, 0, none⟩)] w fun e w' => e = .returned (.bool (l[i].valid x.toNat)) ∧ Below w.heap.size w w')
    (w : World) (lo hi : Nat) (hk : KidsAt w lo hi l A) (hz : hi ≤ w.heap.size) (hw : WalkAt w g) :
    Calls Tryz.prog 88 #[.agg #[.int .i64 4, .int .i64 0, .float .f64 f, .string s, .slice A l.length cap], .int .i64 x, .pointer (some ⟨g, 0, none⟩)] w fun e w' =>
      e = .returned (.bool (decide (x ≠ 0) && l.all (fun t => t.valid (x - 1).toNat))) ∧ Below w.heap.size w w' := by
  unfold maxLen at hc
  have IH := Lib.hid ih; have HK := Lib.hid hk; clear ih hk
  have HWK := Lib.hid hw; clear hw
  by_cases hx : x = 0
  · subst hx
    have HAB := Lib.hid (box_below w 4 0 f s A l.length cap)
    have HBX := Lib.hid (BoxAt.new w 4 0 f s A l.length cap)
    have BL := blank_any 4 0 f s A l.length cap
    rw [bv4] at BL
    have BL := Lib.hid BL
    have O := Lib.hid (of_any 4)
    rw [kv4] at O
    have BI := Lib.hid (Nm.bits_any)
    go_enter Tryz.func88, Tryz.ntmps88
    go_wp2_with fail
    refine (BL.out _).mono ?_
    rintro e w1 ⟨rfl, hb1⟩
    have hbox := HBX.out.later hb1 (by simp)
    obtain ⟨c0, c1, c2, c3, c4⟩ := hbox.cells
    have hlt := hbox.lt
    have HB1 := Lib.hid (HAB.out.trans (hb1.mono (by simp)))
    clear hbox
    clear hb1 HBX HAB BL
    go_wp2_with fail
    refine (O.out _).mono ?_
    rintro e w' ⟨rfl, rfl⟩
    go_wp2_with (go_at_call 91; refine (BI.out _ _).mono ?_; rintro e w' ⟨rfl, rfl⟩)
    go_ret
    exact ⟨ret_bool (by simp), HB1.out.alloc (by omega) _⟩
  · have hxb : (x == 0) = false := by simpa using hx
    have hxp : 1 ≤ x := by omega
    have HX : Hid (decide (x ≠ 0) = true) := Lib.hid (by simpa using hx)
    clear hx
    have HAB := Lib.hid (box_below w 4 0 f s A l.length cap)
    have HBX := Lib.hid (BoxAt.new w 4 0 f s A l.length cap)
    have BL := blank_any 4 0 f s A l.length cap
    rw [bv4] at BL
    have BL := Lib.hid BL
    have O := Lib.hid (of_any 4)
    rw [kv4] at O
    have BI := Lib.hid (Nm.bits_any)
    go_enter Tryz.func88, Tryz.ntmps88
    go_wp2_with fail
    refine (BL.out _).mono ?_
    rintro e w1 ⟨rfl, hb1⟩
    have hbox := HBX.out.later hb1 (by simp)
    obtain ⟨c0, c1, c2, c3, c4⟩ := hbox.cells
    have hlt := hbox.lt
    have HB1 := Lib.hid (HAB.out.trans (hb1.mono (by simp)))
    have HBX1 := Lib.hid hbox
    clear hbox
    clear hb1 HBX HAB BL
    go_wp2_with fail
    refine (O.out _).mono ?_
    rintro e w' ⟨rfl, rfl⟩
    go_wp2_with (go_at_call 91; refine (BI.out _ _).mono ?_; rintro e w' ⟨rfl, rfl⟩)
    have HB2 := Lib.hid (HB1.out.alloc (Nat.le_of_lt hlt) (.cells #[.int .i64 4, .int .i64 0, .float .f64 f, .string s, .slice none 0 0] 30))
    go_loopw [5, 49] (fun r i wr => ∃ (j : Nat), j ≤ l.length ∧ i = .int .i64 j ∧ r = .bool false ∧ (l.take j).all (fun t => t.valid (x - 1).toNat) = true ∧ w.heap.size < wr.heap.size ∧ Below w.heap.size w wr) (fun _ i _ => l.length - (intOf i).toNat)
    case atStart => exact ⟨0, by omega, rfl, rfl, rfl, by simp; omega, HB2.out⟩
    case round =>
      obtain ⟨j, hj, rfl, rfl, hy, hzr, hb⟩ := hrel
      have HY := Lib.hid hy; clear hy
      have HB := Lib.hid hb; clear hb
      by_cases hlt : j < l.length
      · obtain ⟨b, off, hA, h1, h2, h3⟩ := (HK.out.later (HB.out.mono hz)).at_ (by omega)
        obtain ⟨k', n', f', s', L', A', cap', e, d0, d1, d2, d3, d4, hr⟩ := h3 j hlt
        subst hA
        have hwk : WalkAt wr g := HWK.out.later HB.out
        have hwc := hwk.1
        have hwl := hwk.2
        have HWR := Lib.hid hwk
        have HR := Lib.hid hr
        clear h3 e hr hwk
        go_wp2_with fail
        refine (IH.out j hlt (x - 1) (by omega) (by omega) _ lo hi _ (HR.out.alloc (by omega) _) (by simp; omega) (HWR.out.later ((Below.refl _ _).alloc (Nat.le_refl _) _))).mono ?_
        rintro e w2 ⟨rfl, hb1⟩
        have HZ2 : w.heap.size < w2.heap.size := by have := hb1.size; simp at this; omega
        have HB1 := Lib.hid ((HB.out.alloc (by omega) _).trans (hb1.mono (by simp; omega)))
        clear HB HR hb1 c0 c1 c2 c3 c4 d0 d1 d2 d3 d4 hwc hwl HWR
        cases hp : l[j].valid (x - 1).toNat with
        | true =>
          have HP := Lib.hid hp; clear hp
          go_wp2_with fail
          go_roundw
          case rel => exact ⟨j + 1, by omega, by go_num, rfl, by rw [all_take_succ _ _ _ hlt, HY.out, HP.out]; rfl, HZ2, HB1.out⟩
          case measure => simp [intOf]; omega
        | false =>
          have HP := Lib.hid hp; clear hp
          go_wp2_with fail
          go_ret
          exact ⟨ret_bool (by rw [HX.out, all_false _ _ j hlt HP.out]; rfl), HB1.out⟩
      · have hj' : j = l.length := by omega
        have HJ := Lib.hid hj'
        clear hj'
        go_wp2_with fail
        go_ret
        have hall : l.all (fun t => t.valid (x - 1).toNat) = true := by have := HY.out; rw [HJ.out, List.take_length] at this; exact this
        exact ⟨ret_bool (by rw [HX.out, hall]; rfl), HB.out⟩
end Vt
end Go.Proofs.YtcbddebmmaflgaaGreatDoor
