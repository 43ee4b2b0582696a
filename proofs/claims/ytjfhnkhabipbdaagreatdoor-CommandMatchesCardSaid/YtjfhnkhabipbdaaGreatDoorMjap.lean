/- The reference's text of a number. -/
/- The reference's text of a number: the walk. -/
/- The reference's text of any number. -/
/- Texts of numbers are equal exactly if the numbers are: plain lemmas. -/
import Derived.Test.YtjfhnkhabipbdaaGreatDoorMjao
import Derived.Test.YtjfhnkhabipbdaaGreatDoorMjab
import Derived.Lib.Join
namespace Go.Proofs.YtjfhnkhabipbdaaGreatDoor
open Go.RowKit
set_option linter.unusedVariables false
namespace Fu
/-- One hexadecimal digit cut out of the sixteen. -/
theorem cut16 (y : Nat) (h : y < 16) (W : World) : (Instr.slice 9 (.string ⟨#[48, 49, 50, 51, 52, 53, 54, 55, 56, 57, 97, 98, 99, 100, 101, 102]⟩) (some (.int .u64 (y : Int))) (some (.int .u64 ((y : Int) + 1))) none).run Tryz.prog W = .ok (.string ⟨#[UInt8.ofNat (hd y)]⟩) W := by
  rcases (by omega : y = 0 ∨ y = 1 ∨ y = 2 ∨ y = 3 ∨ y = 4 ∨ y = 5 ∨ y = 6 ∨ y = 7 ∨ y = 8 ∨ y = 9 ∨ y = 10 ∨ y = 11 ∨ y = 12 ∨ y = 13 ∨ y = 14 ∨ y = 15) with rfl | rfl | rfl | rfl | rfl | rfl | rfl | rfl | rfl | rfl | rfl | rfl | rfl | rfl | rfl | rfl
  all_goals kernel_rfl
def hdb (x : Nat) : UInt8 := UInt8.ofNat (hd x)
/-- "x" and the first j of the sixteen digits. -/
def top (v j : Nat) : ByteArray := ⟨(120 :: (hexN 16 v).take j).toArray⟩
theorem top_step (v j : Nat) (h : j < 16) : top v j ++ ⟨#[hdb (v / 16 ^ (15 - j) % 16)]⟩ = top v (j + 1) := by
  unfold top
  rw [List.take_succ_eq_append_getElem (by rw [hexN_len]; exact h)]
  have e : (hexN 16 v)[j]'(by rw [hexN_len]; exact h) = hdb (v / 16 ^ (15 - j) % 16) := by simp [hexN, hdb]
  rw [e]
  apply ByteArray.ext
  simp
end Fu
end Go.Proofs.YtjfhnkhabipbdaaGreatDoor
namespace Go.Proofs.YtjfhnkhabipbdaaGreatDoor
open Go.RowKit
set_option linter.unusedVariables false
namespace Fu
open _root_.Go.Proofs.YtjfhnkhabipbdaaGreatDoor.Nm (bitsW rbits_any)
theorem top_size (v j : Nat) (h : j ≤ 16) : (top v j).size = j + 1 := by
  show (120 :: (hexN 16 v).take j).toArray.size = j + 1
  simp [hexN_len]; omega
set_option maxRecDepth 100000 in
set_option maxHeartbeats 2000000 in
theorem rtext_num (b : Nat) (hb : b < 18446744073709551616) (v : Nat) (hv : bitsW b = v) (hv0 : v < 18446744073709551616) (n1 : ((v : Int) == 9221120237041090561) = false) (n2 : ((v : Int) == 9218868437227405312) = false) (n3 : ((v : Int) == 18442240474082181120) = false) (n4 : ((v : Int) == 0) = false) (n5 : ((v : Int) == 9223372036854775808) = false) (w : World) :
    Calls Tryz.prog 84 #[.float .f64 b] w fun e w' => e = .returned (.string (top v 16)) ∧ w' = w := by
  have HB := Lib.hid (rbits_any b hb w)
  rw [hv] at HB
  clear hv
  go_enter Tryz.func84, Tryz.ntmps84
  go_wp2_with fail
  refine HB.out.mono ?_
  rintro e w1 ⟨rfl, rfl⟩
  go_wp2_with fail
  go_loop [4, 5] (fun s i => ∃ j : Int, 0 ≤ j ∧ j ≤ 16 ∧ i = .int .i64 (15 - j) ∧ s = .string (top v j.toNat)) (fun _ i => (intOf i + 1).toNat)
  case atStart => exact ⟨0, by omega, by omega, rfl, rfl⟩
  case round =>
    obtain ⟨j, hj0, hj, rfl, rfl⟩ := hrel
    rcases (by omega : j = 0 ∨ j = 1 ∨ j = 2 ∨ j = 3 ∨ j = 4 ∨ j = 5 ∨ j = 6 ∨ j = 7 ∨ j = 8 ∨ j = 9 ∨ j = 10 ∨ j = 11 ∨ j = 12 ∨ j = 13 ∨ j = 14 ∨ j = 15 ∨ j = 16) with rfl | rfl | rfl | rfl | rfl | rfl | rfl | rfl | rfl | rfl | rfl | rfl | rfl | rfl | rfl | rfl | rfl
    · have hm : bits BinOp.and IntKind.u64 ((v : Int) / 1152921504606846976) 15 = ((v / 16 ^ (15 - 0) % 16 : Nat) : Int) := by
        have h := mask15 (v / 1152921504606846976) (Nat.lt_of_le_of_lt (Nat.div_le_self _ _) hv0)
        rw [show ((v : Int) / 1152921504606846976) = ((v / 1152921504606846976 : Nat) : Int) by omega]
        exact h
      have hcc := cut16 (v / 16 ^ (15 - 0) % 16) (Nat.mod_lt _ (by omega))
      have hst := top_step v 0 (by omega)
      have hy : v / 16 ^ (15 - 0) % 16 < 16 := Nat.mod_lt _ (by omega)
      generalize v / 16 ^ (15 - 0) % 16 = y at *
      have hy1 : (y : Int) < 16 := by omega
      have hsz : ¬ (9223372036854775807 < (top v 0).size + 1) := by rw [top_size v 0 (by omega)]; omega
      go_wp2_with fail
      refine ⟨⟨0 + 1, by omega, by omega, rfl, ?_⟩, by simp [intOf]⟩
      exact congrArg Value.string hst
    · have hm : bits BinOp.and IntKind.u64 ((v : Int) / 72057594037927936) 15 = ((v / 16 ^ (15 - 1) % 16 : Nat) : Int) := by
        have h := mask15 (v / 72057594037927936) (Nat.lt_of_le_of_lt (Nat.div_le_self _ _) hv0)
        rw [show ((v : Int) / 72057594037927936) = ((v / 72057594037927936 : Nat) : Int) by omega]
        exact h
      have hcc := cut16 (v / 16 ^ (15 - 1) % 16) (Nat.mod_lt _ (by omega))
      have hst := top_step v 1 (by omega)
      have hy : v / 16 ^ (15 - 1) % 16 < 16 := Nat.mod_lt _ (by omega)
      generalize v / 16 ^ (15 - 1) % 16 = y at *
      have hy1 : (y : Int) < 16 := by omega
      have hsz : ¬ (9223372036854775807 < (top v 1).size + 1) := by rw [top_size v 1 (by omega)]; omega
      go_wp2_with fail
      refine ⟨⟨1 + 1, by omega, by omega, rfl, ?_⟩, by simp [intOf]⟩
      exact congrArg Value.string hst
    · have hm : bits BinOp.and IntKind.u64 ((v : Int) / 4503599627370496) 15 = ((v / 16 ^ (15 - 2) % 16 : Nat) : Int) := by
        have h := mask15 (v / 4503599627370496) (Nat.lt_of_le_of_lt (Nat.div_le_self _ _) hv0)
        rw [show ((v : Int) / 4503599627370496) = ((v / 4503599627370496 : Nat) : Int) by omega]
        exact h
      have hcc := cut16 (v / 16 ^ (15 - 2) % 16) (Nat.mod_lt _ (by omega))
      have hst := top_step v 2 (by omega)
      have hy : v / 16 ^ (15 - 2) % 16 < 16 := Nat.mod_lt _ (by omega)
      generalize v / 16 ^ (15 - 2) % 16 = y at *
      have hy1 : (y : Int) < 16 := by omega
      have hsz : ¬ (9223372036854775807 < (top v 2).size + 1) := by rw [top_size v 2 (by omega)]; omega
      go_wp2_with fail
      refine ⟨⟨2 + 1, by omega, by omega, rfl, ?_⟩, by simp [intOf]⟩
      exact congrArg Value.string hst
    · have hm : bits BinOp.and IntKind.u64 ((v : Int) / 281474976710656) 15 = ((v / 16 ^ (15 - 3) % 16 : Nat) : Int) := by
        have h := mask15 (v / 281474976710656) (Nat.lt_of_le_of_lt (Nat.div_le_self _ _) hv0)
        rw [show ((v : Int) / 281474976710656) = ((v / 281474976710656 : Nat) : Int) by omega]
        exact h
      have hcc := cut16 (v / 16 ^ (15 - 3) % 16) (Nat.mod_lt _ (by omega))
      have hst := top_step v 3 (by omega)
      have hy : v / 16 ^ (15 - 3) % 16 < 16 := Nat.mod_lt _ (by omega)
      generalize v / 16 ^ (15 - 3) % 16 = y at *
      have hy1 : (y : Int) < 16 := by omega
      have hsz : ¬ (9223372036854775807 < (top v 3).size + 1) := by rw [top_size v 3 (by omega)]; omega
      go_wp2_with fail
      refine ⟨⟨3 + 1, by omega, by omega, rfl, ?_⟩, by simp [intOf]⟩
      exact congrArg Value.string hst
    · have hm : bits BinOp.and IntKind.u64 ((v : Int) / 17592186044416) 15 = ((v / 16 ^ (15 - 4) % 16 : Nat) : Int) := by
        have h := mask15 (v / 17592186044416) (Nat.lt_of_le_of_lt (Nat.div_le_self _ _) hv0)
        rw [show ((v : Int) / 17592186044416) = ((v / 17592186044416 : Nat) : Int) by omega]
        exact h
      have hcc := cut16 (v / 16 ^ (15 - 4) % 16) (Nat.mod_lt _ (by omega))
      have hst := top_step v 4 (by omega)
      have hy : v / 16 ^ (15 - 4) % 16 < 16 := Nat.mod_lt _ (by omega)
      generalize v / 16 ^ (15 - 4) % 16 = y at *
      have hy1 : (y : Int) < 16 := by omega
      have hsz : ¬ (9223372036854775807 < (top v 4).size + 1) := by rw [top_size v 4 (by omega)]; omega
      go_wp2_with fail
      refine ⟨⟨4 + 1, by omega, by omega, rfl, ?_⟩, by simp [intOf]⟩
      exact congrArg Value.string hst
    · have hm : bits BinOp.and IntKind.u64 ((v : Int) / 1099511627776) 15 = ((v / 16 ^ (15 - 5) % 16 : Nat) : Int) := by
        have h := mask15 (v / 1099511627776) (Nat.lt_of_le_of_lt (Nat.div_le_self _ _) hv0)
        rw [show ((v : Int) / 1099511627776) = ((v / 1099511627776 : Nat) : Int) by omega]
        exact h
      have hcc := cut16 (v / 16 ^ (15 - 5) % 16) (Nat.mod_lt _ (by omega))
      have hst := top_step v 5 (by omega)
      have hy : v / 16 ^ (15 - 5) % 16 < 16 := Nat.mod_lt _ (by omega)
      generalize v / 16 ^ (15 - 5) % 16 = y at *
      have hy1 : (y : Int) < 16 := by omega
      have hsz : ¬ (9223372036854775807 < (top v 5).size + 1) := by rw [top_size v 5 (by omega)]; omega
      go_wp2_with fail
      refine ⟨⟨5 + 1, by omega, by omega, rfl, ?_⟩, by simp [intOf]⟩
      exact congrArg Value.string hst
    · have hm : bits BinOp.and IntKind.u64 ((v : Int) / 68719476736) 15 = ((v / 16 ^ (15 - 6) % 16 : Nat) : Int) := by
        have h := mask15 (v / 68719476736) (Nat.lt_of_le_of_lt (Nat.div_le_self _ _) hv0)
        rw [show ((v : Int) / 68719476736) = ((v / 68719476736 : Nat) : Int) by omega]
        exact h
      have hcc := cut16 (v / 16 ^ (15 - 6) % 16) (Nat.mod_lt _ (by omega))
      have hst := top_step v 6 (by omega)
      have hy : v / 16 ^ (15 - 6) % 16 < 16 := Nat.mod_lt _ (by omega)
      generalize v / 16 ^ (15 - 6) % 16 = y at *
      have hy1 : (y : Int) < 16 := by omega
      have hsz : ¬ (9223372036854775807 < (top v 6).size + 1) := by rw [top_size v 6 (by omega)]; omega
      go_wp2_with fail
      refine ⟨⟨6 + 1, by omega, by omega, rfl, ?_⟩, by simp [intOf]⟩
      exact congrArg Value.string hst
    · have hm : bits BinOp.and IntKind.u64 ((v : Int) / 4294967296) 15 = ((v / 16 ^ (15 - 7) % 16 : Nat) : Int) := by
        have h := mask15 (v / 4294967296) (Nat.lt_of_le_of_lt (Nat.div_le_self _ _) hv0)
        rw [show ((v : Int) / 4294967296) = ((v / 4294967296 : Nat) : Int) by omega]
        exact h
      have hcc := cut16 (v / 16 ^ (15 - 7) % 16) (Nat.mod_lt _ (by omega))
      have hst := top_step v 7 (by omega)
      have hy : v / 16 ^ (15 - 7) % 16 < 16 := Nat.mod_lt _ (by omega)
      generalize v / 16 ^ (15 - 7) % 16 = y at *
      have hy1 : (y : Int) < 16 := by omega
      have hsz : ¬ (9223372036854775807 < (top v 7).size + 1) := by rw [top_size v 7 (by omega)]; omega
      go_wp2_with fail
      refine ⟨⟨7 + 1, by omega, by omega, rfl, ?_⟩, by simp [intOf]⟩
      exact congrArg Value.string hst
    · have hm : bits BinOp.and IntKind.u64 ((v : Int) / 268435456) 15 = ((v / 16 ^ (15 - 8) % 16 : Nat) : Int) := by
        have h := mask15 (v / 268435456) (Nat.lt_of_le_of_lt (Nat.div_le_self _ _) hv0)
        rw [show ((v : Int) / 268435456) = ((v / 268435456 : Nat) : Int) by omega]
        exact h
      have hcc := cut16 (v / 16 ^ (15 - 8) % 16) (Nat.mod_lt _ (by omega))
      have hst := top_step v 8 (by omega)
      have hy : v / 16 ^ (15 - 8) % 16 < 16 := Nat.mod_lt _ (by omega)
      generalize v / 16 ^ (15 - 8) % 16 = y at *
      have hy1 : (y : Int) < 16 := by omega
      have hsz : ¬ (9223372036854775807 < (top v 8).size + 1) := by rw [top_size v 8 (by omega)]; omega
      go_wp2_with fail
      refine ⟨⟨8 + 1, by omega, by omega, rfl, ?_⟩, by simp [intOf]⟩
      exact congrArg Value.string hst
    · have hm : bits BinOp.and IntKind.u64 ((v : Int) / 16777216) 15 = ((v / 16 ^ (15 - 9) % 16 : Nat) : Int) := by
        have h := mask15 (v / 16777216) (Nat.lt_of_le_of_lt (Nat.div_le_self _ _) hv0)
        rw [show ((v : Int) / 16777216) = ((v / 16777216 : Nat) : Int) by omega]
        exact h
      have hcc := cut16 (v / 16 ^ (15 - 9) % 16) (Nat.mod_lt _ (by omega))
      have hst := top_step v 9 (by omega)
      have hy : v / 16 ^ (15 - 9) % 16 < 16 := Nat.mod_lt _ (by omega)
      generalize v / 16 ^ (15 - 9) % 16 = y at *
      have hy1 : (y : Int) < 16 := by omega
      have hsz : ¬ (9223372036854775807 < (top v 9).size + 1) := by rw [top_size v 9 (by omega)]; omega
      go_wp2_with fail
      refine ⟨⟨9 + 1, by omega, by omega, rfl, ?_⟩, by simp [intOf]⟩
      exact congrArg Value.string hst
    · have hm : bits BinOp.and IntKind.u64 ((v : Int) / 1048576) 15 = ((v / 16 ^ (15 - 10) % 16 : Nat) : Int) := by
        have h := mask15 (v / 1048576) (Nat.lt_of_le_of_lt (Nat.div_le_self _ _) hv0)
        rw [show ((v : Int) / 1048576) = ((v / 1048576 : Nat) : Int) by omega]
        exact h
      have hcc := cut16 (v / 16 ^ (15 - 10) % 16) (Nat.mod_lt _ (by omega))
      have hst := top_step v 10 (by omega)
      have hy : v / 16 ^ (15 - 10) % 16 < 16 := Nat.mod_lt _ (by omega)
      generalize v / 16 ^ (15 - 10) % 16 = y at *
      have hy1 : (y : Int) < 16 := by omega
      have hsz : ¬ (9223372036854775807 < (top v 10).size + 1) := by rw [top_size v 10 (by omega)]; omega
      go_wp2_with fail
      refine ⟨⟨10 + 1, by omega, by omega, rfl, ?_⟩, by simp [intOf]⟩
      exact congrArg Value.string hst
    · have hm : bits BinOp.and IntKind.u64 ((v : Int) / 65536) 15 = ((v / 16 ^ (15 - 11) % 16 : Nat) : Int) := by
        have h := mask15 (v / 65536) (Nat.lt_of_le_of_lt (Nat.div_le_self _ _) hv0)
        rw [show ((v : Int) / 65536) = ((v / 65536 : Nat) : Int) by omega]
        exact h
      have hcc := cut16 (v / 16 ^ (15 - 11) % 16) (Nat.mod_lt _ (by omega))
      have hst := top_step v 11 (by omega)
      have hy : v / 16 ^ (15 - 11) % 16 < 16 := Nat.mod_lt _ (by omega)
      generalize v / 16 ^ (15 - 11) % 16 = y at *
      have hy1 : (y : Int) < 16 := by omega
      have hsz : ¬ (9223372036854775807 < (top v 11).size + 1) := by rw [top_size v 11 (by omega)]; omega
      go_wp2_with fail
      refine ⟨⟨11 + 1, by omega, by omega, rfl, ?_⟩, by simp [intOf]⟩
      exact congrArg Value.string hst
    · have hm : bits BinOp.and IntKind.u64 ((v : Int) / 4096) 15 = ((v / 16 ^ (15 - 12) % 16 : Nat) : Int) := by
        have h := mask15 (v / 4096) (Nat.lt_of_le_of_lt (Nat.div_le_self _ _) hv0)
        rw [show ((v : Int) / 4096) = ((v / 4096 : Nat) : Int) by omega]
        exact h
      have hcc := cut16 (v / 16 ^ (15 - 12) % 16) (Nat.mod_lt _ (by omega))
      have hst := top_step v 12 (by omega)
      have hy : v / 16 ^ (15 - 12) % 16 < 16 := Nat.mod_lt _ (by omega)
      generalize v / 16 ^ (15 - 12) % 16 = y at *
      have hy1 : (y : Int) < 16 := by omega
      have hsz : ¬ (9223372036854775807 < (top v 12).size + 1) := by rw [top_size v 12 (by omega)]; omega
      go_wp2_with fail
      refine ⟨⟨12 + 1, by omega, by omega, rfl, ?_⟩, by simp [intOf]⟩
      exact congrArg Value.string hst
    · have hm : bits BinOp.and IntKind.u64 ((v : Int) / 256) 15 = ((v / 16 ^ (15 - 13) % 16 : Nat) : Int) := by
        have h := mask15 (v / 256) (Nat.lt_of_le_of_lt (Nat.div_le_self _ _) hv0)
        rw [show ((v : Int) / 256) = ((v / 256 : Nat) : Int) by omega]
        exact h
      have hcc := cut16 (v / 16 ^ (15 - 13) % 16) (Nat.mod_lt _ (by omega))
      have hst := top_step v 13 (by omega)
      have hy : v / 16 ^ (15 - 13) % 16 < 16 := Nat.mod_lt _ (by omega)
      generalize v / 16 ^ (15 - 13) % 16 = y at *
      have hy1 : (y : Int) < 16 := by omega
      have hsz : ¬ (9223372036854775807 < (top v 13).size + 1) := by rw [top_size v 13 (by omega)]; omega
      go_wp2_with fail
      refine ⟨⟨13 + 1, by omega, by omega, rfl, ?_⟩, by simp [intOf]⟩
      exact congrArg Value.string hst
    · have hm : bits BinOp.and IntKind.u64 ((v : Int) / 16) 15 = ((v / 16 ^ (15 - 14) % 16 : Nat) : Int) := by
        have h := mask15 (v / 16) (Nat.lt_of_le_of_lt (Nat.div_le_self _ _) hv0)
        rw [show ((v : Int) / 16) = ((v / 16 : Nat) : Int) by omega]
        exact h
      have hcc := cut16 (v / 16 ^ (15 - 14) % 16) (Nat.mod_lt _ (by omega))
      have hst := top_step v 14 (by omega)
      have hy : v / 16 ^ (15 - 14) % 16 < 16 := Nat.mod_lt _ (by omega)
      generalize v / 16 ^ (15 - 14) % 16 = y at *
      have hy1 : (y : Int) < 16 := by omega
      have hsz : ¬ (9223372036854775807 < (top v 14).size + 1) := by rw [top_size v 14 (by omega)]; omega
      go_wp2_with fail
      refine ⟨⟨14 + 1, by omega, by omega, rfl, ?_⟩, by simp [intOf]⟩
      exact congrArg Value.string hst
    · have hm : bits BinOp.and IntKind.u64 (v : Int) 15 = ((v / 16 ^ (15 - 15) % 16 : Nat) : Int) := by
        have h := mask15 (v / 1) (Nat.lt_of_le_of_lt (Nat.div_le_self _ _) hv0)
        rw [Nat.div_one] at h
        rw [show v / 16 ^ (15 - 15) = v from Nat.div_one v]
        exact h
      have hcc := cut16 (v / 16 ^ (15 - 15) % 16) (Nat.mod_lt _ (by omega))
      have hst := top_step v 15 (by omega)
      have hy : v / 16 ^ (15 - 15) % 16 < 16 := Nat.mod_lt _ (by omega)
      generalize v / 16 ^ (15 - 15) % 16 = y at *
      have hy1 : (y : Int) < 16 := by omega
      have hsz : ¬ (9223372036854775807 < (top v 15).size + 1) := by rw [top_size v 15 (by omega)]; omega
      go_wp2_with fail
      refine ⟨⟨15 + 1, by omega, by omega, rfl, ?_⟩, by simp [intOf]⟩
      exact congrArg Value.string hst
    · go_wp2_with fail
      go_ret
      exact ⟨rfl, rfl⟩
end Fu
end Go.Proofs.YtjfhnkhabipbdaaGreatDoor
namespace Go.Proofs.YtjfhnkhabipbdaaGreatDoor
open Go.RowKit
set_option linter.unusedVariables false
namespace Fu
open _root_.Go.Proofs.YtjfhnkhabipbdaaGreatDoor.Nm (bitsW rbits_any bitsW_lt)
/-- The text of a number with these bits. -/
def textW (v : Nat) : ByteArray :=
  if v = 9221120237041090561 then ⟨#[110, 97, 110]⟩ else
  if v = 9218868437227405312 then ⟨#[105, 110, 102]⟩ else
  if v = 18442240474082181120 then ⟨#[45, 105, 110, 102]⟩ else
  if v = 0 then ⟨#[48]⟩ else
  if v = 9223372036854775808 then ⟨#[45, 48]⟩ else
  top v 16
set_option maxRecDepth 100000 in
theorem rtext_sp1 (b : Nat) (hb : b < 18446744073709551616) (hv : bitsW b = 9221120237041090561) (w : World) :
    Calls Tryz.prog 84 #[.float .f64 b] w fun e w' => e = .returned (.string ⟨#[110, 97, 110]⟩) ∧ w' = w := by
  have HB := Lib.hid (rbits_any b hb w)
  rw [hv] at HB
  clear hv hb
  go_enter Tryz.func84, Tryz.ntmps84
  go_wp2_with fail
  refine HB.out.mono ?_
  rintro e w1 ⟨rfl, rfl⟩
  go_wp2_with fail
  go_ret
  exact ⟨rfl, rfl⟩
set_option maxRecDepth 100000 in
theorem rtext_sp2 (b : Nat) (hb : b < 18446744073709551616) (hv : bitsW b = 9218868437227405312) (w : World) :
    Calls Tryz.prog 84 #[.float .f64 b] w fun e w' => e = .returned (.string ⟨#[105, 110, 102]⟩) ∧ w' = w := by
  have HB := Lib.hid (rbits_any b hb w)
  rw [hv] at HB
  clear hv hb
  go_enter Tryz.func84, Tryz.ntmps84
  go_wp2_with fail
  refine HB.out.mono ?_
  rintro e w1 ⟨rfl, rfl⟩
  go_wp2_with fail
  go_ret
  exact ⟨rfl, rfl⟩
set_option maxRecDepth 100000 in
theorem rtext_sp3 (b : Nat) (hb : b < 18446744073709551616) (hv : bitsW b = 18442240474082181120) (w : World) :
    Calls Tryz.prog 84 #[.float .f64 b] w fun e w' => e = .returned (.string ⟨#[45, 105, 110, 102]⟩) ∧ w' = w := by
  have HB := Lib.hid (rbits_any b hb w)
  rw [hv] at HB
  clear hv hb
  go_enter Tryz.func84, Tryz.ntmps84
  go_wp2_with fail
  refine HB.out.mono ?_
  rintro e w1 ⟨rfl, rfl⟩
  go_wp2_with fail
  go_ret
  exact ⟨rfl, rfl⟩
set_option maxRecDepth 100000 in
theorem rtext_sp4 (b : Nat) (hb : b < 18446744073709551616) (hv : bitsW b = 0) (w : World) :
    Calls Tryz.prog 84 #[.float .f64 b] w fun e w' => e = .returned (.string ⟨#[48]⟩) ∧ w' = w := by
  have HB := Lib.hid (rbits_any b hb w)
  rw [hv] at HB
  clear hv hb
  go_enter Tryz.func84, Tryz.ntmps84
  go_wp2_with fail
  refine HB.out.mono ?_
  rintro e w1 ⟨rfl, rfl⟩
  go_wp2_with fail
  go_ret
  exact ⟨rfl, rfl⟩
set_option maxRecDepth 100000 in
theorem rtext_sp5 (b : Nat) (hb : b < 18446744073709551616) (hv : bitsW b = 9223372036854775808) (w : World) :
    Calls Tryz.prog 84 #[.float .f64 b] w fun e w' => e = .returned (.string ⟨#[45, 48]⟩) ∧ w' = w := by
  have HB := Lib.hid (rbits_any b hb w)
  rw [hv] at HB
  clear hv hb
  go_enter Tryz.func84, Tryz.ntmps84
  go_wp2_with fail
  refine HB.out.mono ?_
  rintro e w1 ⟨rfl, rfl⟩
  go_wp2_with fail
  go_ret
  exact ⟨rfl, rfl⟩
theorem rtext_any (b : Nat) (hb : b < 18446744073709551616) (w : World) :
    Calls Tryz.prog 84 #[.float .f64 b] w fun e w' => e = .returned (.string (textW (bitsW b))) ∧ w' = w := by
  have hl := bitsW_lt b hb
  unfold textW
  by_cases h1 : bitsW b = 9221120237041090561
  · rw [if_pos h1]
    exact rtext_sp1 b hb h1 w
  by_cases h2 : bitsW b = 9218868437227405312
  · rw [if_neg h1, if_pos h2]
    exact rtext_sp2 b hb h2 w
  by_cases h3 : bitsW b = 18442240474082181120
  · rw [if_neg h1, if_neg h2, if_pos h3]
    exact rtext_sp3 b hb h3 w
  by_cases h4 : bitsW b = 0
  · rw [if_neg h1, if_neg h2, if_neg h3, if_pos h4]
    exact rtext_sp4 b hb h4 w
  by_cases h5 : bitsW b = 9223372036854775808
  · rw [if_neg h1, if_neg h2, if_neg h3, if_neg h4, if_pos h5]
    exact rtext_sp5 b hb h5 w
  rw [if_neg h1, if_neg h2, if_neg h3, if_neg h4, if_neg h5]
  exact rtext_num b hb (bitsW b) rfl hl (by simpa using (by omega : ¬ ((bitsW b : Int) = 9221120237041090561))) (by simpa using (by omega : ¬ ((bitsW b : Int) = 9218868437227405312))) (by simpa using (by omega : ¬ ((bitsW b : Int) = 18442240474082181120))) (by simpa using (by omega : ¬ ((bitsW b : Int) = 0))) (by simpa using (by omega : ¬ ((bitsW b : Int) = 9223372036854775808))) w
end Fu
end Go.Proofs.YtjfhnkhabipbdaaGreatDoor
namespace Go.Proofs.YtjfhnkhabipbdaaGreatDoor
open Go.RowKit
set_option linter.unusedVariables false
namespace Fu
theorem bytes_ext {a b : ByteArray} (h : a.data.toList = b.data.toList) : a = b := by
  apply ByteArray.ext
  exact Array.toList_inj.1 h
end Fu
end Go.Proofs.YtjfhnkhabipbdaaGreatDoor
