/- Contracts of the reference's Valid of a tree. -/
import Derived.Test.YtpneejlilgepfaaVtC
namespace Go.Proofs.Ytpneejlilgepfaa
open Go.RowKit
set_option linter.unusedVariables false
namespace Vt
open Nm (bitsW ret_int ret_bool)

theorem loop_len (s : ByteArray) : ∀ (k i : Nat) (r : List UInt8), s.size - i = k → (ByteArray.toList.loop s i r).length = k + r.length := by
  intro k
  induction k with
  | zero => intro i r h; rw [ByteArray.toList.loop]; rw [if_neg (by omega)]; simp
  | succ k ih => intro i r h; rw [ByteArray.toList.loop]; rw [if_pos (by omega)]; rw [ih _ _ (by omega)]; simp; omega
theorem toList_nil (s : ByteArray) : s.toList = [] ↔ s.size = 0 := by
  rw [← List.length_eq_zero_iff]; unfold ByteArray.toList; rw [loop_len s s.size 0 [] (by omega)]; simp

/-- Valid, told by its parts. -/
def Parts (k n : Int) (f : Nat) (s : ByteArray) (l : List VT) (x : Int) : Prop :=
  0 ≤ k ∧ k ≤ 4 ∧ (k = 1 ∨ n = 0) ∧ (k = 2 ∨ bitsW f = 0) ∧ (k = 3 ∨ s.toList = []) ∧ (k = 4 ∨ l.length = 0) ∧ (k = 4 → x ≠ 0) ∧ l.all (fun t => t.valid (x - 1).toNat) = true

theorem parts_iff (k n : Int) (f : Nat) (s : ByteArray) (l : List VT) (x : Int) (hx : 0 ≤ x) : (VT.mk k n f s l).valid x.toNat = true ↔ Parts k n f s l x := by
  rw [valid_mk]
  unfold Parts
  rw [show (x - 1).toNat = x.toNat - 1 from by omega, toList_nil]
  simp only [Bool.and_eq_true, Bool.or_eq_true, decide_eq_true_iff, beq_iff_eq, bne_iff_ne, and_assoc]
  constructor
  · rintro ⟨a, b, c, d, e, f, g, h⟩
    exact ⟨a, b, c, d, e, f, fun h4 => by rcases g with g | g <;> omega, h⟩
  · rintro ⟨a, b, c, d, e, f, g, h⟩
    refine ⟨a, b, c, d, e, f, ?_, h⟩
    by_cases h4 : k = 4
    · right; have := g h4; omega
    · left; exact h4

theorem parts_false {k n : Int} {f : Nat} {s : ByteArray} {l : List VT} {x : Int} {b : Bool} (h : b = true ↔ Parts k n f s l x) (hp : ¬ Parts k n f s l x) : Ending.returned (.bool false) = .returned (.bool b) := by
  cases b with
  | false => rfl
  | true => exact absurd (h.1 rfl) hp
theorem parts_true {k n : Int} {f : Nat} {s : ByteArray} {l : List VT} {x : Int} {b : Bool} (h : b = true ↔ Parts k n f s l x) (hp : Parts k n f s l x) : Ending.returned (.bool true) = .returned (.bool b) := by
  rw [h.2 hp]

/-- What Valid asks of a value's own fields. -/
def HeadV (k n : Int) (f : Nat) (s : ByteArray) (m : Nat) : Prop := (k = 1 ∨ n = 0) ∧ (k = 2 ∨ bitsW f = 0) ∧ (k = 3 ∨ s.toList = []) ∧ (k = 4 ∨ m = 0)
theorem headV_of {k n : Int} {f : Nat} {s : ByteArray} {l : List VT} {x : Int} (h : Parts k n f s l x) : HeadV k n f s l.length := ⟨h.2.2.1, h.2.2.2.1, h.2.2.2.2.1, h.2.2.2.2.2.1⟩

theorem box_below (w : World) (k n : Int) (f : Nat) (s : ByteArray) (A : Option Addr) (m c : Nat) : Below w.heap.size w (w.alloc (.cells #[.int .i64 k, .int .i64 n, .float .f64 f, .string s, .slice A m c] 33)) :=
  (Below.refl _ _).alloc (Nat.le_refl _) _

theorem headV_cases {k n : Int} {f : Nat} {s : ByteArray} {m : Nat} (h : HeadV k n f s m) :
    (k = 1 ∧ bitsW f = 0 ∧ s.toList = [] ∧ m = 0) ∨ (k = 2 ∧ n = 0 ∧ s.toList = [] ∧ m = 0) ∨ (k = 3 ∧ n = 0 ∧ bitsW f = 0 ∧ m = 0) ∨ (k = 4 ∧ n = 0 ∧ bitsW f = 0 ∧ s.toList = []) ∨
      (k ≠ 1 ∧ k ≠ 2 ∧ k ≠ 3 ∧ k ≠ 4 ∧ n = 0 ∧ bitsW f = 0 ∧ s.toList = [] ∧ m = 0) := by
  obtain ⟨h1, h2, h3, h4⟩ := h
  by_cases e1 : k = 1
  · left; exact ⟨e1, by omega, by rcases h3 with h3 | h3; omega; exact h3, by omega⟩
  by_cases e2 : k = 2
  · right; left; exact ⟨e2, by omega, by rcases h3 with h3 | h3; omega; exact h3, by omega⟩
  by_cases e3 : k = 3
  · right; right; left; exact ⟨e3, by omega, by omega, by omega⟩
  by_cases e4 : k = 4
  · right; right; right; left; exact ⟨e4, by omega, by omega, by rcases h3 with h3 | h3; omega; exact h3⟩
  · right; right; right; right; exact ⟨e1, e2, e3, e4, by omega, by omega, by rcases h3 with h3 | h3; omega; exact h3, by omega⟩

end Vt
end Go.Proofs.Ytpneejlilgepfaa
