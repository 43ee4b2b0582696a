/- Count; First of a level without items. -/
import Derived.Test.YtkjlfoihojfnbaaDoorLoC
import Derived.Laws.Cells
namespace Go.Proofs.YtkjlfoihojfnbaaDoor
open Go.RowKit
set_option linter.unusedVariables false
set_option linter.unusedSimpArgs false
namespace Lo
open Ln (lvCells LV upd only_set only_refl only_drew)
variable {w : World} {b k : Nat} {f : Nat → Value}
/-- How many items the first j slots have. -/
def cntL (L : Nat → List (Nat × Nat)) : Nat → Nat
  | 0 => 0
  | j + 1 => cntL L j + (L j).length
theorem cntL_le (L : Nat → List (Nat × Nat)) (h : ∀ s, s < 64 → (L s).length ≤ 1000) : ∀ j, j ≤ 64 → cntL L j ≤ 1000 * j
  | 0, _ => by simp [cntL]
  | j + 1, hj => by
    have := cntL_le L h j (by omega)
    have := h j (by omega)
    simp only [cntL]; omega
theorem index_arr (arr : Array Value) (v : Value) (i : Nat) (hi : i < 64) (hs : arr[i]? = some v) (W : World) : (Instr.index 72 (.agg arr) (.int .i64 (i : Int))).run Tryd.prog W = .ok v W := by
  have t := Tryd.underlying72
  have h1 : (0 : Int) ≤ i ∧ (i : Int) < 64 := by omega
  simp [Instr.index, run_underlying t, asIntOf, h1, hi, hs, go_sem]
theorem index_slots (f : Nat → Value) (i : Nat) (hi : i < 64) (W : World) : (Instr.index 72 (.agg ((List.range 64).map f).toArray) (.int .i64 (i : Int))).run Tryd.prog W = .ok (f i) W :=
  index_arr _ (f i) i hi (by rw [List.getElem?_toArray, List.getElem?_map, List.getElem?_range hi]; rfl) W
theorem wpList_load_run {ops : Array Oper} {rest : List Oper} {o : Oper} {a : Act} {Q : Exit → Act → World → Prop} (W : World) (hgd : o.guard = none) (t : TypeId) (p : Operand) (ho : o.op = .load t p) (v u : Value) (hp : a.eval p = u)
    (hr : (Instr.loadAt t u).run Tryd.prog W = .ok v W) (h : wpList Tryd.prog ops Q rest (a.put o.dst v) W) : wpList Tryd.prog ops Q (o :: rest) a W :=
  wpList_plain hgd fun K' hK' => by
    unfold Oper.wp
    simp [execOp, ho, hp, hr, Result.andThen]
    exact hK' _ _ h
theorem load_slots {m : Int} (r : LV w b k f m) : (Instr.loadAt 72 (.pointer (some ⟨b, 1, none⟩))).run Tryd.prog w = .ok (.agg ((List.range 64).map f).toArray) w := by
  have hlc : (loadCells ⟨b, 1, none⟩ 64).run Tryd.prog w = .ok ((List.range 64).map f).toArray w := run_loadCells (P := Tryd.prog) w ⟨b, 1, none⟩ 64 f (fun j hj => by
    have h := r.slot j hj
    cases j <;> simpa [Addr.add] using h)
  have ha := Tryd.isAgg72
  have hz := Tryd.sizeOf72
  generalize ((List.range 64).map f).toArray = arr at *
  simp [Instr.loadAt, Instr.sureAddr, loadVar, ha, hz, hlc]
set_option maxRecDepth 100000 in
set_option maxHeartbeats 1000000 in
theorem count_any (L : Nat → List (Nat × Nat)) (m : Int) (r : LV w b k f m) (hL : ∀ s, s < 64 → ∃ A cap, f s = .slice A (L s).length cap) (hl : ∀ s, s < 64 → (L s).length ≤ 1000) :
    Calls Tryd.prog 22 #[.pointer (some ⟨b, 0, none⟩)] w fun e w' => e = .returned (.int .i64 (cntL L 64 : Nat)) ∧ w' = w := by
  have hld := load_slots r
  obtain ⟨arr, harr⟩ : ∃ a : Array Value, a = ((List.range 64).map f).toArray := ⟨_, rfl⟩
  have HI : Hid (∀ (i : Nat) (hi : i < 64) (W : World), (Instr.index 72 (.agg arr) (.int .i64 (i : Int))).run Tryd.prog W = .ok (f i) W) := Lib.hid fun i hi W => by
    rw [harr]
    exact index_slots f i hi W
  have HL := Lib.hid hL
  have HB := Lib.hid (cntL_le L hl)
  have HLL := Lib.hid hl
  rw [← harr] at hld
  replace harr := Lib.hid harr
  clear hL hl
  go_enter Tryd.func22, Tryd.ntmps22
  go_wp2_with (refine wpList_load_run w rfl 72 (.tmp 10) rfl (.agg arr) (.pointer (some ⟨b, 1, none⟩)) rfl hld ?_)
  go_loop [3, 12] (fun vn vj => ∃ j : Nat, vj = .int .i64 (j : Int) ∧ j ≤ 64 ∧ vn = .int .i64 (cntL L j : Nat)) (fun _ vj => 65 - (intOf vj).toNat)
  case atStart => exact ⟨0, rfl, by omega, rfl⟩
  case round =>
    obtain ⟨j, rfl, hj, rfl⟩ := hrel
    have hcb := HB.out j hj
    by_cases hjn : j < 64
    · have hix := HI.out j hjn
      obtain ⟨A, cap, hfj⟩ := HL.out j hjn
      rw [hfj] at hix
      have hlj := HLL.out j hjn
      have hjn' : (j : Int) < 64 := by omega
      have HN : Hid (cntL L (j + 1) = cntL L j + (L j).length) := Lib.hid rfl
      generalize (L j).length = n at *
      generalize cntL L j = c at *
      go_wp2_with fail
      exact ⟨⟨j + 1, rfl, by omega, congrArg (Value.int .i64) (by rw [HN.out]; omega)⟩, by simp [intOf]; omega⟩
    · have hje : j = 64 := by omega
      subst hje
      go_wp2_with fail
      go_ret
      exact ⟨rfl, rfl⟩
theorem first_zero (r : LV w b k f 0) : Calls Tryd.prog 20 #[.pointer (some ⟨b, 0, none⟩), .int .i64 0] w fun e w' => e = .returned (.int .i64 (-1)) ∧ w' = w := by
  have c := r.marks
  go_enter Tryd.func20, Tryd.ntmps20
  go_wp2_with fail
  go_ret
  exact ⟨rfl, rfl⟩
end Lo
end Go.Proofs.YtkjlfoihojfnbaaDoor
