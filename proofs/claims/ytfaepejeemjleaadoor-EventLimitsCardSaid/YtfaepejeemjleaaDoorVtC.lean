/- Contracts of the reference's Few (weight and small) of a tree. -/
import Derived.Test.YtfaepejeemjleaaDoorVtB
import Derived.IntWalk
import Derived.Deep.DeepFit
namespace Go.Proofs.YtfaepejeemjleaaDoor
open Go.RowKit
set_option linter.unusedVariables false
namespace Vt
open Nm (bitsW ret_int ret_bool)

/-- A block that holds a value by itself. -/
def BoxAt (w : World) (g : Nat) (k n : Int) (f : Nat) (s : ByteArray) (A : Option Addr) (m c : Nat) : Prop :=
  w.heap[g]? = some (.cells #[.int .i64 k, .int .i64 n, .float .f64 f, .string s, .slice A m c] 28 (0, 0))

theorem BoxAt.later {w w' : World} {g B : Nat} {k n : Int} {f : Nat} {s : ByteArray} {A : Option Addr} {m c : Nat} (h : BoxAt w g k n f s A m c) (hb : Below B w w') (hg : g < B) : BoxAt w' g k n f s A m c := (hb.block g hg).trans h
theorem BoxAt.cells {w : World} {g : Nat} {k n : Int} {f : Nat} {s : ByteArray} {A : Option Addr} {m c : Nat} (h : BoxAt w g k n f s A m c) :
    w.cell? ⟨g, 0, none⟩ = some (.int .i64 k) ∧ w.cell? ⟨g, 1, none⟩ = some (.int .i64 n) ∧ w.cell? ⟨g, 2, none⟩ = some (.float .f64 f) ∧ w.cell? ⟨g, 3, none⟩ = some (.string s) ∧ w.cell? ⟨g, 4, none⟩ = some (.slice A m c) := by
  unfold BoxAt at h
  simp [World.cell?, h]
theorem BoxAt.new (w : World) (k n : Int) (f : Nat) (s : ByteArray) (A : Option Addr) (m c : Nat) : BoxAt (w.alloc (.cells #[.int .i64 k, .int .i64 n, .float .f64 f, .string s, .slice A m c] 28)) w.heap.size k n f s A m c := heap_alloc_new w _
theorem BoxAt.lt {w : World} {g : Nat} {k n : Int} {f : Nat} {s : ByteArray} {A : Option Addr} {m c : Nat} (h : BoxAt w g k n f s A m c) : g < w.heap.size := (Array.getElem?_eq_some_iff.1 h).1

theorem weightL_take (l : List VT) (n m : Int) (k : Nat) (h : k < l.length) (hn : weightL (l.take k) n m ≤ m) : weightL (l.take (k + 1)) n m = weightL (l.take k) n m + l[k].weight (m - weightL (l.take k) n m) := by
  rw [List.take_succ_eq_append_getElem h]
  unfold weightL at *
  rw [List.foldl_append]
  simp only [List.foldl_cons, List.foldl_nil]
  rw [if_pos hn]
theorem weightL_stop (l : List VT) (n m : Int) (k : Nat) (hn : ¬ weightL (l.take k) n m ≤ m) : weightL l n m = weightL (l.take k) n m := by
  have e : weightL l n m = weightL (l.drop k) (weightL (l.take k) n m) m := by
    unfold weightL
    rw [← List.foldl_append, List.take_append_drop]
  rw [e]
  generalize weightL (l.take k) n m = x at *
  cases hd : l.drop k with
  | nil => rfl
  | cons t r => rw [weightL_cons, if_neg hn]

theorem all_take_succ {α : Type} (l : List α) (p : α → Bool) (j : Nat) (h : j < l.length) : (l.take (j + 1)).all p = ((l.take j).all p && p l[j]) := by
  rw [List.take_succ_eq_append_getElem h, List.all_append]; simp
theorem all_false {α : Type} (l : List α) (p : α → Bool) (j : Nat) (h : j < l.length) (hp : p l[j] = false) : l.all p = false := by
  rw [Bool.eq_false_iff]
  intro hh
  rw [all_iff] at hh
  rw [hh j h] at hp
  cases hp

end Vt
end Go.Proofs.YtfaepejeemjleaaDoor
