/- internal/strconv.formatBits in base 16: the first loop. -/
import Derived.Test.YtdibokeinmhmbaaDoorFuB
import Derived.Deep.CutRange
import Derived.StillTailTactics
namespace Go.Proofs.YtdibokeinmhmbaaDoor
open Go.RowKit Go.Shelf Go.Sort
set_option linter.unusedVariables false
namespace Fu
/-- A hexadecimal digit's byte. -/
def hd (x : Nat) : Nat := if x < 10 then 48 + x else 87 + x
theorem hix (x : Nat) (h : x < 16) (W : World) : (Instr.index 9 (.string ⟨#[48, 49, 50, 51, 52, 53, 54, 55, 56, 57, 97, 98, 99, 100, 101, 102, 103, 104, 105, 106, 107, 108, 109, 110, 111, 112, 113, 114, 115, 116, 117, 118, 119, 120, 121, 122]⟩) (.int .u64 (x : Int))).run Tryd.prog W = .ok (.int .u8 (hd x : Nat)) W := by
  rcases (by omega : x = 0 ∨ x = 1 ∨ x = 2 ∨ x = 3 ∨ x = 4 ∨ x = 5 ∨ x = 6 ∨ x = 7 ∨ x = 8 ∨ x = 9 ∨ x = 10 ∨ x = 11 ∨ x = 12 ∨ x = 13 ∨ x = 14 ∨ x = 15) with rfl | rfl | rfl | rfl | rfl | rfl | rfl | rfl | rfl | rfl | rfl | rfl | rfl | rfl | rfl | rfl
  all_goals kernel_rfl
theorem mask15 (v : Nat) (h : v < 18446744073709551616) : bits BinOp.and IntKind.u64 (v : Int) 15 = ((v % 16 : Nat) : Int) := by
  have h := bits_and_u64_nat v 15 (by omega) (by omega)
  have e : v &&& 15 = v % 16 := Nat.and_two_pow_sub_one_eq_mod v 4
  rw [e] at h
  exact h
/-- The array, its last j cells the digits of u's low j nibbles. -/
def Low (w : World) (b : Nat) (u j : Nat) : Prop := ∃ c : Array Value, w.heap[b]? = some (.cells c 112 (0, 0)) ∧ c.size = 65 ∧ ∀ t, t < j → c[64 - t]? = some (.int .u8 (hd (u / 16 ^ t % 16) : Nat))
theorem Low.free {w : World} {b u j : Nat} (h : Low w b u j) (o : Nat) : w.frozen? ⟨b, o, none⟩ = false := by
  obtain ⟨c, h1, -⟩ := h; simp [World.frozen?, h1]
theorem Low.cell {w : World} {b u j : Nat} (h : Low w b u j) (o : Nat) (ho : o < 65) : ∃ v, w.cell? ⟨b, o, none⟩ = some v := by
  obtain ⟨c, h1, h2, -⟩ := h
  exact ⟨c[o]'(by omega), by simp [World.cell?, h1, h2, ho]⟩
theorem Low.step {w : World} {b u j : Nat} (h : Low w b u j) (hj : j < 65) : Low (w.setCell ⟨b, 64 - j, none⟩ (.int .u8 (hd (u / 16 ^ j % 16) : Nat))) b u (j + 1) := by
  obtain ⟨c, h1, h2, h3⟩ := h
  refine ⟨c.setIfInBounds (64 - j) (.int .u8 (hd (u / 16 ^ j % 16) : Nat)), by simp [World.setCell, Array.getElem?_modify, h1], by simpa using h2, fun t ht => ?_⟩
  rw [Array.getElem?_setIfInBounds]
  by_cases e : 64 - j = 64 - t
  · have : t = j := by omega
    subst this
    rw [if_pos e, if_pos (by omega)]
  · rw [if_neg e]
    exact h3 t (by omega)
theorem low_new (w : World) (u : Nat) : Low (w.alloc (.cells #[.int .u8 0, .int .u8 0, .int .u8 0, .int .u8 0, .int .u8 0, .int .u8 0, .int .u8 0, .int .u8 0, .int .u8 0, .int .u8 0, .int .u8 0, .int .u8 0, .int .u8 0, .int .u8 0, .int .u8 0, .int .u8 0, .int .u8 0, .int .u8 0, .int .u8 0, .int .u8 0, .int .u8 0, .int .u8 0, .int .u8 0, .int .u8 0, .int .u8 0, .int .u8 0, .int .u8 0, .int .u8 0, .int .u8 0, .int .u8 0, .int .u8 0, .int .u8 0, .int .u8 0, .int .u8 0, .int .u8 0, .int .u8 0, .int .u8 0, .int .u8 0, .int .u8 0, .int .u8 0, .int .u8 0, .int .u8 0, .int .u8 0, .int .u8 0, .int .u8 0, .int .u8 0, .int .u8 0, .int .u8 0, .int .u8 0, .int .u8 0, .int .u8 0, .int .u8 0, .int .u8 0, .int .u8 0, .int .u8 0, .int .u8 0, .int .u8 0, .int .u8 0, .int .u8 0, .int .u8 0, .int .u8 0, .int .u8 0, .int .u8 0, .int .u8 0, .int .u8 0] 112)) w.heap.size u 0 := ⟨_, heap_alloc_new w _, rfl, fun t ht => by omega⟩
end Fu
end Go.Proofs.YtdibokeinmhmbaaDoor
