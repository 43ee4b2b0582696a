/- Contracts of the reference's fields and has. -/
import Derived.Test.YtcbddebmmaflgaaGreatMqak
namespace Go.Proofs.YtcbddebmmaflgaaGreat
open Go.RowKit
set_option linter.unusedVariables false
namespace Cm
open Nm (bitsW ret_int ret_bool)
open Vt (VT Rep BoxAt below_drew put5 toList_inj)
open Ev (EV FieldsOk evCells vCells EBox ERep zeroT)

/-- The fields of a kind, as the reference writes them. -/
def fieldsB (k : Nat) : ByteArray := match k with
  | 1 => ⟨#[115, 118]⟩
  | 2 => ⟨#[105, 110, 97]⟩
  | 3 => ⟨#[105, 110, 118]⟩
  | 4 => ⟨#[105, 110, 97, 116]⟩
  | 5 => ⟨#[105]⟩
  | 6 => ⟨#[115, 116, 118]⟩
  | 7 => ⟨#[105, 115, 118]⟩
  | 8 => ⟨#[105, 97]⟩
  | 9 => ⟨#[118]⟩
  | 10 => ⟨#[116]⟩
  | 11 => ⟨#[116]⟩
  | _ => ⟨#[]⟩

set_option maxHeartbeats 1000000 in
theorem fields_in (k : Nat) (h1 : 1 ≤ k) (h2 : k ≤ 11) (w : World) : Calls Tryz.prog 70 #[.int .i64 k] w fun r w' => r = .returned (.string (fieldsB k)) ∧ Below w.heap.size w w' := by
  rcases (by omega : k = 1 ∨ k = 2 ∨ k = 3 ∨ k = 4 ∨ k = 5 ∨ k = 6 ∨ k = 7 ∨ k = 8 ∨ k = 9 ∨ k = 10 ∨ k = 11) with rfl | rfl | rfl | rfl | rfl | rfl | rfl | rfl | rfl | rfl | rfl
  all_goals
    go_enter Tryz.func70, Tryz.ntmps70
    go_wp2_with fail
    go_ret
    exact ⟨rfl, (Below.refl _ _).alloc (Nat.le_refl _) _⟩

theorem fieldsB_size (k : Nat) : (fieldsB k).size ≤ 4 := by
  unfold fieldsB
  split <;> decide

set_option maxHeartbeats 1000000 in
theorem has_in (k : Nat) (h1 : 1 ≤ k) (h2 : k ≤ 11) (c : Nat) (hc : c < 256) (w : World) : Calls Tryz.prog 56 #[.int .i64 k, .int .u8 c] w fun r w' => r = .returned (.bool ((fieldsB k).data.toList.any (fun x => x.toNat == c))) ∧ Below w.heap.size w w' := by
  have HF := Lib.hid (fields_in k h1 h2 w)
  have hsz := fieldsB_size k
  generalize fieldsB k = f at *
  obtain ⟨R, hR⟩ : ∃ R, R = f.data.toList.any (fun x => x.toNat == c) := ⟨_, rfl⟩
  rw [← hR]
  replace hR := Lib.hid hR
  go_enter Tryz.func56, Tryz.ntmps56
  go_wp2_with fail
  refine HF.out.mono ?_
  rintro x w1 ⟨rfl, hb⟩
  have HB := Lib.hid hb
  clear hb HF
  go_wp2_with fail
  go_loop [4, 6] (fun r i => ∃ j : Nat, j ≤ f.size ∧ i = .int .i64 j ∧ r = .bool false ∧ (f.data.toList.take j).any (fun x => x.toNat == c) = false) (fun _ i => f.size - (intOf i).toNat)
  case atStart => exact ⟨0, by omega, rfl, rfl, rfl⟩
  case round =>
    obtain ⟨j, hj, rfl, rfl, hy⟩ := hrel
    have HY := Lib.hid hy; clear hy
    by_cases hlt : j < f.size
    · have hget : ∀ h : j < f.data.toList.length, f.data.toList[j] = f[j] := fun h => rfl
      have hl : f.data.toList.length = f.size := rfl
      by_cases hcj : f[j].toNat = c
      · have hb : ((f[j].toNat : Int) == (c : Int)) = true := by simp; omega
        have hany : (f.data.toList.any fun x => x.toNat == c) = true := by
          rw [List.any_eq_true]
          exact ⟨f.data.toList[j], List.getElem_mem (by omega), by rw [hget (by omega)]; simpa using hcj⟩
        have HA := Lib.hid (hR.out.trans hany)
        clear hany hget hl
        go_wp2_with fail
        go_ret
        exact ⟨ret_bool (by rw [HA.out]), HB.out⟩
      · have hb : ((f[j].toNat : Int) == (c : Int)) = false := by simp; omega
        have hany : (f.data.toList.take (j + 1)).any (fun x => x.toNat == c) = false := by
          rw [List.take_succ_eq_append_getElem (by omega), List.any_append, HY.out, hget (by omega)]
          simpa using hcj
        have HA := Lib.hid hany
        clear hany hget hl
        go_wp2_with fail
        exact ⟨⟨j + 1, by omega, by go_num, rfl, HA.out⟩, by simp [intOf]; omega⟩
    · have hj' : j = f.size := by omega
      have hany : (f.data.toList.any fun x => x.toNat == c) = false := by
        have := HY.out
        rwa [hj', List.take_of_length_le (show f.data.toList.length ≤ f.size from Nat.le_refl _)] at this
      have HA := Lib.hid (hR.out.trans hany)
      clear hany
      subst hj'
      go_wp2_with fail
      go_ret
      exact ⟨ret_bool (by rw [HA.out]), HB.out⟩

/-- What the reference says of a kind's fields, and the program. -/
theorem has_field (k : Nat) (h1 : 1 ≤ k) (h2 : k ≤ 11) (c q : Nat) (hq : (c, q) ∈ [(105, 0), (110, 1), (97, 2), (115, 3), (116, 4), (118, 5)]) (w : World) : Calls Tryz.prog 56 #[.int .i64 k, .int .u8 c] w fun r w' => r = .returned (.bool ((Ev.fieldsOf k).contains q)) ∧ Below w.heap.size w w' := by
  have hc : c < 256 := by simp at hq; omega
  have := has_in k h1 h2 c hc w
  have he : (fieldsB k).data.toList.any (fun x => x.toNat == c) = (Ev.fieldsOf k).contains q := by
    simp at hq
    rcases (by omega : k = 1 ∨ k = 2 ∨ k = 3 ∨ k = 4 ∨ k = 5 ∨ k = 6 ∨ k = 7 ∨ k = 8 ∨ k = 9 ∨ k = 10 ∨ k = 11) with rfl | rfl | rfl | rfl | rfl | rfl | rfl | rfl | rfl | rfl | rfl
    all_goals rcases hq with ⟨rfl, rfl⟩ | ⟨rfl, rfl⟩ | ⟨rfl, rfl⟩ | ⟨rfl, rfl⟩ | ⟨rfl, rfl⟩ | ⟨rfl, rfl⟩ <;> decide
  rwa [he] at this
end Cm
end Go.Proofs.YtcbddebmmaflgaaGreat
