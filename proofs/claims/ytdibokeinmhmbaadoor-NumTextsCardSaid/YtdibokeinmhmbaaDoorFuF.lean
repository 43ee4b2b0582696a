/- The reference's decimal digits of any number. -/
import Derived.Test.YtdibokeinmhmbaaDoorFuE
import Derived.Lib.ItoaLen
namespace Go.Proofs.YtdibokeinmhmbaaDoor
open Go.RowKit
set_option linter.unusedVariables false
namespace Fu
/-- A digit's byte. -/
def dgt (x : Nat) : UInt8 := UInt8.ofNat (48 + x)
theorem dec_small (u : Nat) (h : u < 10) : Lib.decDigits u = [dgt u] := by rw [Lib.decDigits, dif_pos h]; rfl
theorem dec_big (u : Nat) (h : ¬ u < 10) : Lib.decDigits u = Lib.decDigits (u / 10) ++ [dgt (u % 10)] := by rw [Lib.decDigits, dif_neg h]; rfl
/-- One digit cut out of the ten. -/
theorem cut10 (y : Int) (h0 : 0 ≤ y) (h1 : y < 10) (W : World) : (Instr.slice 9 (.string ⟨#[48, 49, 50, 51, 52, 53, 54, 55, 56, 57]⟩) (some (.int .u64 y)) (some (.int .u64 (y + 1))) none).run Tryd.prog W = .ok (.string ⟨#[dgt y.toNat]⟩) W := by
  rcases (by omega : y = 0 ∨ y = 1 ∨ y = 2 ∨ y = 3 ∨ y = 4 ∨ y = 5 ∨ y = 6 ∨ y = 7 ∨ y = 8 ∨ y = 9) with rfl | rfl | rfl | rfl | rfl | rfl | rfl | rfl | rfl | rfl
  all_goals kernel_rfl
set_option maxRecDepth 100000 in
theorem rdigits_any (u : Nat) (hu : u < 18446744073709551616) (w : World) :
    Calls Tryd.prog 53 #[.int .u64 u] w fun e w' => e = .returned (.string ⟨(Lib.decDigits u).toArray⟩) ∧ w' = w := by
  have hc := cut10 ((u : Int) % 10) (by omega) (by omega)
  go_enter Tryd.func53, Tryd.ntmps53
  go_wp2_with fail
  go_loop [0, 3] (fun n s => ∃ (v : Nat) (r : List UInt8), v ≤ u ∧ n = .int .u64 v ∧ s = .string ⟨(dgt (v % 10) :: r).toArray⟩ ∧ Lib.decDigits u = Lib.decDigits v ++ r) (fun n _ => (intOf n).toNat)
  case atStart =>
    refine ⟨u, [], Nat.le_refl _, rfl, ?_, by simp⟩
    first | rfl | (have e : ((u : Int) % 10).toNat = u % 10 := by omega
                   rw [e])
  case round =>
    obtain ⟨v, r, hv, rfl, rfl, hd⟩ := hrel
    have hrl : r.length ≤ 20 := by
      have h1 := congrArg List.length hd
      rw [List.length_append, Lib.decDigits_length] at h1
      have h2 := Lib.nDigits_le20 u hu
      omega
    have hrl2 : ¬ (9223372036854775807 < 1 + (r.length + 1)) := by omega
    have HD := Lib.hid hd
    clear hd hc
    by_cases h : 10 ≤ v
    · have h' : (10 : Int) ≤ v := by omega
      have hc := cut10 ((v : Int) / 10 % 10) (by omega) (by omega)
      go_wp2_with fail
      refine ⟨⟨v / 10, dgt (v % 10) :: r, by omega, congrArg (Value.int .u64) (by omega), ?_, ?_⟩, by simp [intOf]; omega⟩
      · apply congrArg Value.string
        rfl
      · rw [HD.out, dec_big v (by omega), List.append_assoc]
        rfl
    · have h' : (v : Int) < 10 := by omega
      go_wp2_with fail
      go_ret
      have e := HD.out
      rw [dec_small v (by omega)] at e
      refine ⟨?_, rfl⟩
      rw [e, Nat.mod_eq_of_lt (by omega : v < 10)]
      rfl
end Fu
end Go.Proofs.YtdibokeinmhmbaaDoor
