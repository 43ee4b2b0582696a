/- Contract of the reference's Same of two trees. -/
import Derived.Test.YtfaepejeemjleaaDoorVtE
import Derived.Test.YtfaepejeemjleaaDoorNmG
import Derived.StillTailTactics
namespace Go.Proofs.YtfaepejeemjleaaDoor
open Go.RowKit
set_option linter.unusedVariables false
namespace Vt
open Nm (bitsW ret_int ret_bool)

theorem loop_eq (s : ByteArray) : ∀ (k i : Nat) (r : List UInt8), s.size - i = k → ByteArray.toList.loop s i r = r.reverse ++ s.data.toList.drop i := by
  intro k
  induction k with
  | zero =>
    intro i r h; rw [ByteArray.toList.loop, if_neg (by omega)]
    rw [List.drop_eq_nil_of_le (by have : s.data.toList.length = s.size := rfl; omega)]; simp
  | succ k ih =>
    intro i r h; rw [ByteArray.toList.loop, if_pos (by omega), ih _ _ (by omega)]
    have hl : i < s.data.toList.length := by have : s.data.toList.length = s.size := rfl; omega
    rw [List.drop_eq_getElem_cons hl]
    have : s.get! i = s.data.toList[i] := by
      cases s with | mk d => simp only [ByteArray.get!]; rw [getElem!_pos d i (by simpa using hl)]; simp
    simp [this]
theorem toList_data (s : ByteArray) : s.toList = s.data.toList := by
  unfold ByteArray.toList; rw [loop_eq s _ 0 [] rfl]; simp
theorem toList_inj (s s' : ByteArray) : s.toList = s'.toList ↔ s = s' := by
  rw [toList_data, toList_data]
  constructor
  · intro h
    cases s with | mk a => cases s' with | mk b => simp at h; rw [h]
  · intro h; rw [h]

/-- What Same asks of two values' own fields. -/
def HeadS (k n : Int) (f : Nat) (s : ByteArray) (m : Nat) (k' n' : Int) (f' : Nat) (s' : ByteArray) (m' : Nat) : Prop := k = k' ∧ n = n' ∧ s = s' ∧ bitsW f = bitsW f' ∧ m = m'

end Vt
end Go.Proofs.YtfaepejeemjleaaDoor
