/- Contracts of the reference's Valid of a tree. -/
import Derived.Test.YtpnepnhajpmccaaVtC
namespace Go.Proofs.Ytpnepnhajpmccaa
open Go.RowKit
set_option linter.unusedVariables false
namespace Vt
open Nm (bitsW ret_int ret_bool)

theorem loop_len (s : ByteArray) : ∀ (k i : Nat) (r : List UInt8), s.size - i = k → (ByteArray.toList.loop s i r).length = k + r.length := by
  intro k
  induction k with
  | zero => intro i r h; rw [ByteArray.toList.loop]; rw [if_neg (by omega)]; simp
  | succ k ih => intro i r h; rw [ByteArray.toList.loop]; rw [if_pos (by omega)]; rw [ih _ _ (by omega)]; simp; omega
theorem toList_nil (s : ByteArray) : s.toList = [] ↔ s.size = 0 := by
  rw [← List.length_eq_zero_iff]; unfold ByteArray.toList; rw [loop_len s s.size 0 [] (by omega)]; simp

/-- Valid, told by its parts. -/
def Parts (k n : Int) (f : Nat) (s : ByteArray) (l : List VT) (x : Int) : Prop :=
  0 ≤ k ∧ k ≤ 4 ∧ (k = 1 ∨ n = 0) ∧ (k = 2 ∨ bitsW f = 0) ∧ (k = 3 ∨ s.toList = []) ∧ (k = 4 ∨ l.length = 0) ∧ (k = 4 → x ≠ 0) ∧ l.all (fun t => t.valid (x - 1).toNat) = true

theorem parts_iff (k n : Int) (f : Nat) (s : ByteArray) (l : List VT) (x : Int) (hx : 0 ≤ x) : (VT.mk k n f s l).valid x.toNat = true ↔ Parts k n f s l x := by
  rw [valid_mk]
  unfold Parts
  rw [show (x - 1).toNat = x.toNat - 1 from by omega, toList_nil]
  simp only [Bool.and_eq_true, Bool.or_eq_true, decide_eq_true_iff, beq_iff_eq, bne_iff_ne, and_assoc]
  constructor
  · rintro ⟨a, b, c, d, e, f, g, h⟩
    exact ⟨a, b, c, d, e, f, fun h4 => by rcases g with g | g <;> omega, h⟩
  · rintro ⟨a, b, c, d, e, f, g, h⟩
    refine ⟨a, b, c, d, e, f, ?_, h⟩
    by_cases h4 : k = 4
    · right; have := g h4; omega
    · left; exact h4

theorem parts_false {k n : Int} {f : Nat} {s : ByteArray} {l : List VT} {x : Int} {b : Bool} (h : b = true ↔ Parts k n f s l x) (hp : ¬ Parts k n f s l x) : Ending.returned (.bool false) = .returned (.bool b) := by
  cases b with
  | false => rfl
  | true => exact absurd (h.1 rfl) hp
theorem parts_true {k n : Int} {f : Nat} {s : ByteArray} {l : List VT} {x : Int} {b : Bool} (h : b = true ↔ Parts k n f s l x) (hp : Parts k n f s l x) : Ending.returned (.bool true) = .returned (.bool b) := by
  rw [h.2 hp]

/-- What Valid asks of a value's own fields. -/
def HeadV (k n : Int) (f : Nat) (s : ByteArray) (m : Nat) : Prop := (k = 1 ∨ n = 0) ∧ (k = 2 ∨ bitsW f = 0) ∧ (k = 3 ∨ s.toList = []) ∧ (k = 4 ∨ m = 0)
theorem headV_of {k n : Int} {f : Nat} {s : ByteArray} {l : List VT} {x : Int} (h : Parts k n f s l x) : HeadV k n f s l.length := ⟨h.2.2.1, h.2.2.2.1, h.2.2.2.2.1, h.2.2.2.2.2.1⟩

theorem box_below (w : World) (k n : Int) (f : Nat) (s : ByteArray) (A : Option Addr) (m c : Nat) : Below w.heap.size w (w.alloc (.cells #[.int .i64 k, .int .i64 n, .float .f64 f, .string s, .slice A m c] 34)) :=
  (Below.refl _ _).alloc (Nat.le_refl _) _

set_option maxHeartbeats 2000000 in
theorem right_fail (k n : Int) (f : Nat) (s : ByteArray) (m cap : Nat) (A : Option Addr) (hf : f < 18446744073709551616) (h : ¬ HeadV k n f s m) (x : Int) (w : World) :
    Calls Try.prog 39 #[.agg #[.int .i64 k, .int .i64 n, .float .f64 f, .string s, .slice A m cap], .int .i64 x] w fun e w' => e = .returned (.bool false) ∧ Below w.heap.size w w' := by
  have H := Lib.hid h; clear h
  go_enter Try.func39, Try.ntmps39
  go_wp2_with (go_at_call 54; refine (Nm.rbits_any f hf _).mono ?_; rintro e w' ⟨rfl, rfl⟩)
  all_goals first
    | (go_ret; exact ⟨rfl, box_below ..⟩)
    | (exfalso
       refine H.out ⟨?_, ?_, ?_, ?_⟩
       all_goals first
         | omega
         | (right; assumption)
         | (rcases (by assumption : (k != 4) = false ∨ ¬ 0 < m) with q | q
            · simp at q; omega
            · omega))

theorem headV_cases {k n : Int} {f : Nat} {s : ByteArray} {m : Nat} (h : HeadV k n f s m) :
    (k = 1 ∧ bitsW f = 0 ∧ s.toList = [] ∧ m = 0) ∨ (k = 2 ∧ n = 0 ∧ s.toList = [] ∧ m = 0) ∨ (k = 3 ∧ n = 0 ∧ bitsW f = 0 ∧ m = 0) ∨ (k = 4 ∧ n = 0 ∧ bitsW f = 0 ∧ s.toList = []) ∨
      (k ≠ 1 ∧ k ≠ 2 ∧ k ≠ 3 ∧ k ≠ 4 ∧ n = 0 ∧ bitsW f = 0 ∧ s.toList = [] ∧ m = 0) := by
  obtain ⟨h1, h2, h3, h4⟩ := h
  by_cases e1 : k = 1
  · left; exact ⟨e1, by omega, by rcases h3 with h3 | h3; omega; exact h3, by omega⟩
  by_cases e2 : k = 2
  · right; left; exact ⟨e2, by omega, by rcases h3 with h3 | h3; omega; exact h3, by omega⟩
  by_cases e3 : k = 3
  · right; right; left; exact ⟨e3, by omega, by omega, by omega⟩
  by_cases e4 : k = 4
  · right; right; right; left; exact ⟨e4, by omega, by omega, by rcases h3 with h3 | h3; omega; exact h3⟩
  · right; right; right; right; exact ⟨e1, e2, e3, e4, by omega, by omega, by rcases h3 with h3 | h3; omega; exact h3, by omega⟩

set_option maxHeartbeats 1000000 in
theorem right_1 (n : Int) (f : Nat) (s : ByteArray) (hb0 : bitsW f = 0) (hs0 : s.toList = []) (A : Option Addr) (cap : Nat) (hf : f < 18446744073709551616) (x : Int) (w : World) :
    Calls Try.prog 39 #[.agg #[.int .i64 1, .int .i64 n, .float .f64 f, .string s, .slice A 0 cap], .int .i64 x] w fun e w' => e = .returned (.bool (true)) ∧ Below w.heap.size w w' := by
  have HAB := Lib.hid (box_below w 1 n f s A 0 cap)
  go_enter Try.func39, Try.ntmps39
  go_wp2_with (go_at_call 54; refine (Nm.rbits_any f hf _).mono ?_; rintro e w' ⟨rfl, rfl⟩)
  go_loop [5] (fun i => i = .int .i64 0) (fun _ => 0)
  case atStart => exact rfl
  case round =>
    subst hrel
    go_wp2_with fail
    all_goals
      go_ret
      exact ⟨ret_bool (by simp [*]), HAB.out⟩
set_option maxHeartbeats 1000000 in
theorem right_2 (f : Nat) (s : ByteArray) (hs0 : s.toList = []) (A : Option Addr) (cap : Nat) (_ : f < 18446744073709551616) (x : Int) (w : World) :
    Calls Try.prog 39 #[.agg #[.int .i64 2, .int .i64 0, .float .f64 f, .string s, .slice A 0 cap], .int .i64 x] w fun e w' => e = .returned (.bool (true)) ∧ Below w.heap.size w w' := by
  have HAB := Lib.hid (box_below w 2 0 f s A 0 cap)
  go_enter Try.func39, Try.ntmps39
  go_wp2_with fail
  go_loop [5] (fun i => i = .int .i64 0) (fun _ => 0)
  case atStart => exact rfl
  case round =>
    subst hrel
    go_wp2_with fail
    all_goals
      go_ret
      exact ⟨ret_bool (by simp [*]), HAB.out⟩
set_option maxHeartbeats 1000000 in
theorem right_3 (f : Nat) (s : ByteArray) (hb0 : bitsW f = 0) (A : Option Addr) (cap : Nat) (hf : f < 18446744073709551616) (x : Int) (w : World) :
    Calls Try.prog 39 #[.agg #[.int .i64 3, .int .i64 0, .float .f64 f, .string s, .slice A 0 cap], .int .i64 x] w fun e w' => e = .returned (.bool (true)) ∧ Below w.heap.size w w' := by
  have HAB := Lib.hid (box_below w 3 0 f s A 0 cap)
  go_enter Try.func39, Try.ntmps39
  go_wp2_with (go_at_call 54; refine (Nm.rbits_any f hf _).mono ?_; rintro e w' ⟨rfl, rfl⟩)
  go_loop [5] (fun i => i = .int .i64 0) (fun _ => 0)
  case atStart => exact rfl
  case round =>
    subst hrel
    go_wp2_with fail
    all_goals
      go_ret
      exact ⟨ret_bool (by simp [*]), HAB.out⟩
set_option maxHeartbeats 1000000 in
theorem right_0 (k : Int) (h1 : k ≠ 1) (h2 : k ≠ 2) (h3 : k ≠ 3) (h4 : k ≠ 4) (f : Nat) (s : ByteArray) (hb0 : bitsW f = 0) (hs0 : s.toList = []) (A : Option Addr) (cap : Nat) (hf : f < 18446744073709551616) (x : Int) (w : World) :
    Calls Try.prog 39 #[.agg #[.int .i64 k, .int .i64 0, .float .f64 f, .string s, .slice A 0 cap], .int .i64 x] w fun e w' => e = .returned (.bool (decide (0 ≤ k ∧ k ≤ 4))) ∧ Below w.heap.size w w' := by
  have e1 : (k != 1) = true := by simpa using h1
  have e2 : (k != 2) = true := by simpa using h2
  have e3 : (k != 3) = true := by simpa using h3
  have e4 : (k != 4) = true := by simpa using h4
  have e5 : (k == 4) = false := by simpa using h4
  clear h1 h2 h3 h4
  have HAB := Lib.hid (box_below w k 0 f s A 0 cap)
  go_enter Try.func39, Try.ntmps39
  go_wp2_with (go_at_call 54; refine (Nm.rbits_any f hf _).mono ?_; rintro e w' ⟨rfl, rfl⟩)
  go_loop [5] (fun i => i = .int .i64 0) (fun _ => 0)
  case atStart => exact rfl
  case round =>
    subst hrel
    go_wp2_with fail
    all_goals
      go_ret
      exact ⟨ret_bool (by first | (simp [*]; done) | (simp; done) | (simp; omega) | (simp [*]; omega)), HAB.out⟩
set_option maxHeartbeats 2000000 in
theorem right_list (f : Nat) (s : ByteArray) (l : List VT) (A : Option Addr) (cap : Nat) (hf : f < 18446744073709551616) (hb0 : bitsW f = 0) (hs0 : s.toList = []) (hl : l.length ≤ cap) (hc : cap ≤ maxLen) (x : Int) (hx0 : 0 ≤ x) (hx1 : x ≤ 8)
    (ih : ∀ (i : Nat) (hi : i < l.length) (x : Int) (_ : 0 ≤ x) (_ : x ≤ 8) (w : World) (lo hi : Nat) (v : Value) (_ : Rep w lo hi l[i] v) (_ : hi ≤ w.heap.size),
      Calls Try.prog 39 #[v, .int .i64 x] w fun e w' => e = .returned (.bool (l[i].valid x.toNat)) ∧ Below w.heap.size w w')
    (w : World) (lo hi : Nat) (hk : KidsAt w lo hi l A) (hz : hi ≤ w.heap.size) :
    Calls Try.prog 39 #[.agg #[.int .i64 4, .int .i64 0, .float .f64 f, .string s, .slice A l.length cap], .int .i64 x] w fun e w' =>
      e = .returned (.bool (decide (x ≠ 0) && l.all (fun t => t.valid (x - 1).toNat))) ∧ Below w.heap.size w w' := by
  unfold maxLen at hc
  have IH := Lib.hid ih; have HK := Lib.hid hk; clear ih hk
  by_cases hx : x = 0
  · subst hx
    have HAB := Lib.hid (box_below w 4 0 f s A l.length cap)
    go_enter Try.func39, Try.ntmps39
    go_wp2_with (go_at_call 54; refine (Nm.rbits_any f hf _).mono ?_; rintro e w' ⟨rfl, rfl⟩)
    go_ret
    exact ⟨ret_bool (by simp), HAB.out⟩
  · have hxb : (x == 0) = false := by simpa using hx
    have hxp : 1 ≤ x := by omega
    have HX : Hid (decide (x ≠ 0) = true) := Lib.hid (by simpa using hx)
    clear hx
    have HA := Lib.hid (BoxAt.new w 4 0 f s A l.length cap)
    have HAB := Lib.hid (box_below w 4 0 f s A l.length cap)
    go_enter Try.func39, Try.ntmps39
    go_wp2_with (go_at_call 54; refine (Nm.rbits_any f hf _).mono ?_; rintro e w' ⟨rfl, rfl⟩)
    go_loopw [4, 5] (fun r i wr => ∃ (j : Nat), j ≤ l.length ∧ i = .int .i64 j ∧ r = .bool false ∧ (l.take j).all (fun t => t.valid (x - 1).toNat) = true ∧ BoxAt wr w.heap.size 4 0 f s A l.length cap ∧ Below w.heap.size w wr) (fun _ i _ => l.length - (intOf i).toNat)
    case atStart => exact ⟨0, by omega, rfl, rfl, rfl, HA.out, HAB.out⟩
    case round =>
      obtain ⟨j, hj, rfl, rfl, hy, hbox, hb⟩ := hrel
      have HY := Lib.hid hy; clear hy
      have hlt0 := hbox.lt
      obtain ⟨c0, c1, c2, c3, c4⟩ := hbox.cells
      have HBX := Lib.hid hbox; have HB := Lib.hid hb; clear hbox hb
      by_cases hlt : j < l.length
      · obtain ⟨b, off, hA, h1, h2, h3⟩ := (HK.out.later (HB.out.mono hz)).at_ (by omega)
        obtain ⟨k', n', f', s', L', A', cap', e, d0, d1, d2, d3, d4, hr⟩ := h3 j hlt
        subst hA
        have HR := Lib.hid hr
        clear h3 e hr
        go_wp2_with fail
        refine (IH.out j hlt (x - 1) (by omega) (by omega) wr lo hi _ HR.out (by omega)).mono ?_
        rintro e w1 ⟨rfl, hb1⟩
        have HBX1 := Lib.hid (HBX.out.later hb1 hlt0)
        have HB1 := Lib.hid (HB.out.trans (hb1.mono (by omega)))
        clear HBX HB HR hb1 c0 c1 c2 c3 c4 d0 d1 d2 d3 d4
        cases hp : l[j].valid (x - 1).toNat with
        | true =>
          have HP := Lib.hid hp; clear hp
          go_wp2_with fail
          go_roundw
          case rel => exact ⟨j + 1, by omega, by go_num, rfl, by rw [all_take_succ _ _ _ hlt, HY.out, HP.out]; rfl, HBX1.out, HB1.out⟩
          case measure => simp [intOf]; omega
        | false =>
          have HP := Lib.hid hp; clear hp
          go_wp2_with fail
          go_ret
          exact ⟨ret_bool (by rw [HX.out, all_false _ _ j hlt HP.out]; rfl), HB1.out⟩
      · have hj' : j = l.length := by omega
        have HJ := Lib.hid hj'
        clear hj'
        go_wp2_with fail
        go_ret
        have hall : l.all (fun t => t.valid (x - 1).toNat) = true := by have := HY.out; rw [HJ.out, List.take_length] at this; exact this
        exact ⟨ret_bool (by rw [HX.out, hall]; rfl), HB.out⟩

theorem right_any (t : VT) : ∀ (x : Int) (_ : 0 ≤ x) (_ : x ≤ 8) (w : World) (lo hi : Nat) (v : Value) (_ : Rep w lo hi t v) (_ : hi ≤ w.heap.size),
    Calls Try.prog 39 #[v, .int .i64 x] w fun e w' => e = .returned (.bool (t.valid x.toNat)) ∧ Below w.heap.size w w' := by
  induction t using VT.ind with
  | _ k n f s l ih =>
    intro x hx0 hx1 w lo hi v hR hz
    obtain ⟨A, cap, rfl, ho, hl, hk⟩ := hR.head
    have hp := parts_iff k n f s l x hx0
    generalize (VT.mk k n f s l).valid x.toNat = R at hp ⊢
    by_cases hh : HeadV k n f s l.length
    · rcases headV_cases hh with ⟨rfl, q1, q2, q3⟩ | ⟨rfl, rfl, q2, q3⟩ | ⟨rfl, rfl, q2, q3⟩ | ⟨rfl, rfl, q2, q3⟩ | ⟨e1, e2, e3, e4, rfl, q1, q2, q3⟩
      · obtain rfl := List.eq_nil_of_length_eq_zero q3
        refine (right_1 n f s q1 q2 A cap ho.f1 x w).mono fun e w' h => ⟨?_, h.2⟩
        rw [h.1]
        exact parts_true hp ⟨by omega, by omega, .inl rfl, .inr q1, .inr q2, .inr rfl, by omega, rfl⟩
      · obtain rfl := List.eq_nil_of_length_eq_zero q3
        refine (right_2 f s q2 A cap ho.f1 x w).mono fun e w' h => ⟨?_, h.2⟩
        rw [h.1]
        exact parts_true hp ⟨by omega, by omega, .inr rfl, .inl rfl, .inr q2, .inr rfl, by omega, rfl⟩
      · obtain rfl := List.eq_nil_of_length_eq_zero q3
        refine (right_3 f s q2 A cap ho.f1 x w).mono fun e w' h => ⟨?_, h.2⟩
        rw [h.1]
        exact parts_true hp ⟨by omega, by omega, .inr rfl, .inr q2, .inl rfl, .inr rfl, by omega, rfl⟩
      · refine (right_list f s l A cap ho.f1 q2 q3 hl ho.m1 x hx0 hx1 (fun i hi x a b w lo hi' v c d => ih i hi x a b w lo hi' v c d) w lo hi hk hz).mono fun e w' h => ⟨?_, h.2⟩
        rw [h.1]
        congr 2
        rw [Bool.eq_iff_iff, hp]
        unfold Parts
        simp only [Bool.and_eq_true, decide_eq_true_iff]
        constructor
        · rintro ⟨h1, h2⟩
          exact ⟨by omega, by omega, by simp, .inr q2, .inr q3, by simp, fun _ => h1, h2⟩
        · rintro ⟨-, -, -, -, -, -, h1, h2⟩
          exact ⟨h1 (by simp), h2⟩
      · obtain rfl := List.eq_nil_of_length_eq_zero q3
        refine (right_0 k e1 e2 e3 e4 f s q1 q2 A cap ho.f1 x w).mono fun e w' h => ⟨?_, h.2⟩
        rw [h.1]
        congr 2
        rw [Bool.eq_iff_iff, hp]
        unfold Parts
        simp only [decide_eq_true_iff]
        constructor
        · rintro ⟨h1, h2⟩
          exact ⟨h1, h2, by simp, .inr q1, .inr q2, by simp, by omega, rfl⟩
        · rintro ⟨h1, h2, -⟩
          exact ⟨h1, h2⟩
    · refine (right_fail k n f s l.length cap A ho.f1 hh x w).mono fun e w' h => ⟨?_, h.2⟩
      rw [h.1]
      exact parts_false hp fun q => hh (headV_of q)

theorem rvalid_any (t : VT) (w : World) (lo hi : Nat) (v : Value) (hR : Rep w lo hi t v) (hz : hi ≤ w.heap.size) :
    Calls Try.prog 24 #[v] w fun e w' => e = .returned (.bool (t.valid 8)) ∧ Below w.heap.size w w' := by
  have hv := hR
  obtain ⟨k, n, f, s, l, A, cap, rfl, rfl, ho, hl, hk⟩ := hR.open_
  generalize ht : VT.mk k n f s l = t at *
  have HV := Lib.hid hv
  have HB := Lib.hid (box_below w k n f s A l.length cap)
  clear hv hR ho hk ht
  go_enter Try.func24, Try.ntmps24
  go_wp2_with fail
  refine (right_any t 8 (by omega) (by omega) _ lo hi _ (HV.out.alloc hz _) (by simp; omega)).mono ?_
  rintro e w1 ⟨rfl, hb1⟩
  have HB2 := Lib.hid (HB.out.trans (hb1.mono (by simp)))
  clear hb1
  go_wp2_with fail
  go_ret
  exact ⟨rfl, HB2.out⟩
end Vt
end Go.Proofs.Ytpnepnhajpmccaa
