/- The law EventLimits. -/
import Derived.Test.YtfaepejeemjleaaDoorBtR
import Derived.ChangeMaps5
namespace Go.Proofs.YtfaepejeemjleaaDoor
open Go.RowKit
set_option linter.unusedVariables false
set_option linter.unusedSimpArgs false
namespace Bt
open _root_.Go.Proofs.YtfaepejeemjleaaDoor.Nm (ret_int ret_bool)
open Vt (VT Rep BoxAt below_drew)
open Ev (EV FieldsOk ERep evCells vCells zeroT EBox nameOf fieldsOf rowCellsOf of_in evalid_any)

theorem repeatL_len (x : UInt8) (c : Nat) : (Lib.repeatL [x] c).length = c := by
  induction c with
  | zero => rfl
  | succ c ih => simp_all [Lib.repeatL]
theorem repeat_size (c : Nat) : (⟨(Lib.repeatL [120] c).toArray⟩ : ByteArray).size = c := by
  show (Lib.repeatL [120] c).toArray.size = c
  rw [List.size_toArray]
  exact repeatL_len _ _
theorem empty_iff' (s : ByteArray) : s.toList.isEmpty = decide (s.size < 1) := by
  rw [Vt.toList_data]
  have : s.data.toList.length = s.size := rfl
  cases h : s.data.toList with
  | nil => rw [h] at this; have : s.size = 0 := this.symm; simp [this]
  | cons a l => rw [h] at this; have : s.size = l.length + 1 := this.symm; simp [this]
theorem not_empty (s : ByteArray) (h : 0 < s.size) : ¬ s.toList = [] := by
  have := empty_iff' s
  rw [decide_eq_false (by omega)] at this
  intro h2
  rw [h2] at this
  simp at this
theorem valid_name (s : ByteArray) (h0 : 0 < s.size) (h1 : s.size ≤ 1010) (w : World) : Calls Tryd.prog 6 #[.agg #[.int .i64 1, .int .u64 0, .int .i64 0, .int .u64 0, .string s, .string ⟨#[]⟩, .int .i64 0, .int .i64 0, .float .f64 0, .string ⟨#[]⟩, .slice none 0 0]] w fun r w' => r = .returned (.bool (decide (s.size ≤ 1000))) ∧ Below w.heap.size w w' := by
  have h := evalid_any ⟨1, 0, 0, 0, s, ⟨#[]⟩, zeroT⟩ w 0 0 _ ⟨⟨by dsimp only; first | decide | omega | (unfold maxLen; omega), by dsimp only; first | decide | omega | (unfold maxLen; omega), by dsimp only; first | decide | omega | (unfold maxLen; omega), by dsimp only; first | decide | omega | (unfold maxLen; omega), by dsimp only; first | decide | omega | (unfold maxLen; omega), by dsimp only; first | decide | omega | (unfold maxLen; omega), by dsimp only; first | decide | omega | (unfold maxLen; omega), by dsimp only; first | decide | omega | (unfold maxLen; omega)⟩, 0, 0, 0, ⟨#[]⟩, none, 0, 0, rfl, Rep.leaf ⟨by omega, by omega, by omega, by omega, by omega, by decide, by decide⟩⟩ (Nat.zero_le _)
  refine h.mono fun r w' h => ⟨?_, h.2⟩
  rw [h.1]
  refine ret_bool ?_
  unfold EV.valid Ev.goodL
  simp [fieldsOf, Vt.same_refl, Ev.pickB, zero_valid]
  try exact fun _ => not_empty s h0
theorem valid_text (s : ByteArray) (h0 : 0 < s.size) (h1 : s.size ≤ 1010) (w : World) : Calls Tryd.prog 6 #[.agg #[.int .i64 10, .int .u64 0, .int .i64 0, .int .u64 0, .string ⟨#[]⟩, .string s, .int .i64 0, .int .i64 0, .float .f64 0, .string ⟨#[]⟩, .slice none 0 0]] w fun r w' => r = .returned (.bool (decide (s.size ≤ 1000))) ∧ Below w.heap.size w w' := by
  have h := evalid_any ⟨10, 0, 0, 0, ⟨#[]⟩, s, zeroT⟩ w 0 0 _ ⟨⟨by dsimp only; first | decide | omega | (unfold maxLen; omega), by dsimp only; first | decide | omega | (unfold maxLen; omega), by dsimp only; first | decide | omega | (unfold maxLen; omega), by dsimp only; first | decide | omega | (unfold maxLen; omega), by dsimp only; first | decide | omega | (unfold maxLen; omega), by dsimp only; first | decide | omega | (unfold maxLen; omega), by dsimp only; first | decide | omega | (unfold maxLen; omega), by dsimp only; first | decide | omega | (unfold maxLen; omega)⟩, 0, 0, 0, ⟨#[]⟩, none, 0, 0, rfl, Rep.leaf ⟨by omega, by omega, by omega, by omega, by omega, by decide, by decide⟩⟩ (Nat.zero_le _)
  refine h.mono fun r w' h => ⟨?_, h.2⟩
  rw [h.1]
  refine ret_bool ?_
  unfold EV.valid Ev.goodL
  simp [fieldsOf, Vt.same_refl, Ev.pickB, zero_valid]
  try exact fun _ => not_empty s h0
theorem valid_at (a : Nat) (h1 : a < 18446744073709551616) (w : World) : Calls Tryd.prog 6 #[.agg #[.int .i64 8, .int .u64 1, .int .i64 0, .int .u64 a, .string ⟨#[]⟩, .string ⟨#[]⟩, .int .i64 0, .int .i64 0, .float .f64 0, .string ⟨#[]⟩, .slice none 0 0]] w fun r w' => r = .returned (.bool (decide (a ≤ 9223372036854775807))) ∧ Below w.heap.size w w' := by
  have h := evalid_any ⟨8, 1, 0, a, ⟨#[]⟩, ⟨#[]⟩, zeroT⟩ w 0 0 _ ⟨⟨by dsimp only; first | decide | omega | (unfold maxLen; omega), by dsimp only; first | decide | omega | (unfold maxLen; omega), by dsimp only; first | decide | omega | (unfold maxLen; omega), by dsimp only; first | decide | omega | (unfold maxLen; omega), by dsimp only; first | decide | omega | (unfold maxLen; omega), by dsimp only; first | decide | omega | (unfold maxLen; omega), by dsimp only; first | decide | omega | (unfold maxLen; omega), by dsimp only; first | decide | omega | (unfold maxLen; omega)⟩, 0, 0, 0, ⟨#[]⟩, none, 0, 0, rfl, Rep.leaf ⟨by omega, by omega, by omega, by omega, by omega, by decide, by decide⟩⟩ (Nat.zero_le _)
  refine h.mono fun r w' h => ⟨?_, h.2⟩
  rw [h.1]
  refine ret_bool ?_
  unfold EV.valid Ev.goodL
  simp [fieldsOf, Vt.same_refl, Ev.pickB, zero_valid]

theorem valid_n (n : Int) (h0 : -9223372036854775808 ≤ n) (h1 : n ≤ 9223372036854775807) (w : World) : Calls Tryd.prog 6 #[.agg #[.int .i64 3, .int .u64 1, .int .i64 n, .int .u64 0, .string ⟨#[]⟩, .string ⟨#[]⟩, .int .i64 0, .int .i64 0, .float .f64 0, .string ⟨#[]⟩, .slice none 0 0]] w fun r w' => r = .returned (.bool (decide (1 ≤ n) && decide (n ≤ 2147483647))) ∧ Below w.heap.size w w' := by
  have h := evalid_any ⟨3, 1, n, 0, ⟨#[]⟩, ⟨#[]⟩, zeroT⟩ w 0 0 _ ⟨⟨by dsimp only; first | decide | omega | (unfold maxLen; omega), by dsimp only; first | decide | omega | (unfold maxLen; omega), by dsimp only; first | decide | omega | (unfold maxLen; omega), by dsimp only; first | decide | omega | (unfold maxLen; omega), by dsimp only; first | decide | omega | (unfold maxLen; omega), by dsimp only; first | decide | omega | (unfold maxLen; omega), by dsimp only; first | decide | omega | (unfold maxLen; omega), by dsimp only; first | decide | omega | (unfold maxLen; omega)⟩, 0, 0, 0, ⟨#[]⟩, none, 0, 0, rfl, Rep.leaf ⟨by omega, by omega, by omega, by omega, by omega, by decide, by decide⟩⟩ (Nat.zero_le _)
  refine h.mono fun r w' h => ⟨?_, h.2⟩
  rw [h.1]
  refine ret_bool ?_
  unfold EV.valid Ev.goodL
  simp [fieldsOf, Vt.same_refl, Ev.pickB, zero_valid]

end Bt
end Go.Proofs.YtfaepejeemjleaaDoor
