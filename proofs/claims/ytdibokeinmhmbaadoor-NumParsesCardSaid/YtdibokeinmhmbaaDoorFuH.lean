/- The reference's text of a number: the walk. -/
import Derived.Test.YtdibokeinmhmbaaDoorFuG
namespace Go.Proofs.YtdibokeinmhmbaaDoor
open Go.RowKit
set_option linter.unusedVariables false
namespace Fu
open _root_.Go.Proofs.YtdibokeinmhmbaaDoor.Nm (bitsW rbits_any)
theorem ext16 (y : Nat) (h : y < 16) : (⟨#[48, 49, 50, 51, 52, 53, 54, 55, 56, 57, 97, 98, 99, 100, 101, 102]⟩ : ByteArray).extract y (y + 1) = ⟨#[hdb y]⟩ := by
  rcases (by omega : y = 0 ∨ y = 1 ∨ y = 2 ∨ y = 3 ∨ y = 4 ∨ y = 5 ∨ y = 6 ∨ y = 7 ∨ y = 8 ∨ y = 9 ∨ y = 10 ∨ y = 11 ∨ y = 12 ∨ y = 13 ∨ y = 14 ∨ y = 15) with rfl | rfl | rfl | rfl | rfl | rfl | rfl | rfl | rfl | rfl | rfl | rfl | rfl | rfl | rfl | rfl
  all_goals rfl
theorem top_size (v j : Nat) (h : j ≤ 16) : (top v j).size = j + 1 := by
  show (120 :: (hexN 16 v).take j).toArray.size = j + 1
  simp [hexN_len]; omega
set_option maxRecDepth 100000 in
set_option maxHeartbeats 2000000 in
theorem rtext_num (b : Nat) (hb : b < 18446744073709551616) (v : Nat) (hv : bitsW b = v) (hv0 : v < 18446744073709551616) (n1 : ((v : Int) == 9221120237041090561) = false) (n2 : ((v : Int) == 9218868437227405312) = false) (n3 : ((v : Int) == 18442240474082181120) = false) (n4 : ((v : Int) == 0) = false) (n5 : ((v : Int) == 9223372036854775808) = false) (w : World) :
    Calls Tryd.prog 23 #[.float .f64 b] w fun e w' => e = .returned (.string (top v 16)) ∧ w' = w := by
  have HB := Lib.hid (rbits_any b hb w)
  rw [hv] at HB
  clear hv
  go_enter Tryd.func23, Tryd.ntmps23
  go_wp2_with fail
  refine HB.out.mono ?_
  rintro e w1 ⟨rfl, rfl⟩
  go_wp2_with fail
  go_loop [4, 5] (fun s i => ∃ j : Int, 0 ≤ j ∧ j ≤ 16 ∧ i = .int .i64 (15 - j) ∧ s = .string (top v j.toNat)) (fun _ i => (intOf i + 1).toNat)
  case atStart => exact ⟨0, by omega, by omega, rfl, rfl⟩
  case round =>
    obtain ⟨j, hj0, hj, rfl, rfl⟩ := hrel
    rcases (by omega : j = 0 ∨ j = 1 ∨ j = 2 ∨ j = 3 ∨ j = 4 ∨ j = 5 ∨ j = 6 ∨ j = 7 ∨ j = 8 ∨ j = 9 ∨ j = 10 ∨ j = 11 ∨ j = 12 ∨ j = 13 ∨ j = 14 ∨ j = 15 ∨ j = 16) with rfl | rfl | rfl | rfl | rfl | rfl | rfl | rfl | rfl | rfl | rfl | rfl | rfl | rfl | rfl | rfl | rfl
    · have hm : bits BinOp.and IntKind.u64 ((v : Int) / 1152921504606846976) 15 = ((v / 16 ^ (15 - 0) % 16 : Nat) : Int) := by
        have h := mask15 (v / 1152921504606846976) (Nat.lt_of_le_of_lt (Nat.div_le_self _ _) hv0)
        rw [show ((v : Int) / 1152921504606846976) = ((v / 1152921504606846976 : Nat) : Int) by omega]
        exact h
      have hcc := cut16 (v / 16 ^ (15 - 0) % 16) (Nat.mod_lt _ (by omega))
      have hst := top_step v 0 (by omega)
      have hy : v / 16 ^ (15 - 0) % 16 < 16 := Nat.mod_lt _ (by omega)
      generalize v / 16 ^ (15 - 0) % 16 = y at *
      have hy1 : (y : Int) < 16 := by omega
      have hsz : ¬ (9223372036854775807 < (top v 0).size + 1) := by rw [top_size v 0 (by omega)]; omega
      go_wp2_with fail
      refine ⟨⟨0 + 1, by omega, by omega, rfl, ?_⟩, by simp [intOf]⟩
      exact congrArg Value.string hst
    · have hm : bits BinOp.and IntKind.u64 ((v : Int) / 72057594037927936) 15 = ((v / 16 ^ (15 - 1) % 16 : Nat) : Int) := by
        have h := mask15 (v / 72057594037927936) (Nat.lt_of_le_of_lt (Nat.div_le_self _ _) hv0)
        rw [show ((v : Int) / 72057594037927936) = ((v / 72057594037927936 : Nat) : Int) by omega]
        exact h
      have hcc := cut16 (v / 16 ^ (15 - 1) % 16) (Nat.mod_lt _ (by omega))
      have hst := top_step v 1 (by omega)
      have hy : v / 16 ^ (15 - 1) % 16 < 16 := Nat.mod_lt _ (by omega)
      generalize v / 16 ^ (15 - 1) % 16 = y at *
      have hy1 : (y : Int) < 16 := by omega
      have hsz : ¬ (9223372036854775807 < (top v 1).size + 1) := by rw [top_size v 1 (by omega)]; omega
      go_wp2_with fail
      refine ⟨⟨1 + 1, by omega, by omega, rfl, ?_⟩, by simp [intOf]⟩
      exact congrArg Value.string hst
    · have hm : bits BinOp.and IntKind.u64 ((v : Int) / 4503599627370496) 15 = ((v / 16 ^ (15 - 2) % 16 : Nat) : Int) := by
        have h := mask15 (v / 4503599627370496) (Nat.lt_of_le_of_lt (Nat.div_le_self _ _) hv0)
        rw [show ((v : Int) / 4503599627370496) = ((v / 4503599627370496 : Nat) : Int) by omega]
        exact h
      have hcc := cut16 (v / 16 ^ (15 - 2) % 16) (Nat.mod_lt _ (by omega))
      have hst := top_step v 2 (by omega)
      have hy : v / 16 ^ (15 - 2) % 16 < 16 := Nat.mod_lt _ (by omega)
      generalize v / 16 ^ (15 - 2) % 16 = y at *
      have hy1 : (y : Int) < 16 := by omega
      have hsz : ¬ (9223372036854775807 < (top v 2).size + 1) := by rw [top_size v 2 (by omega)]; omega
      go_wp2_with fail
      refine ⟨⟨2 + 1, by omega, by omega, rfl, ?_⟩, by simp [intOf]⟩
      exact congrArg Value.string hst
    · have hm : bits BinOp.and IntKind.u64 ((v : Int) / 281474976710656) 15 = ((v / 16 ^ (15 - 3) % 16 : Nat) : Int) := by
        have h := mask15 (v / 281474976710656) (Nat.lt_of_le_of_lt (Nat.div_le_self _ _) hv0)
        rw [show ((v : Int) / 281474976710656) = ((v / 281474976710656 : Nat) : Int) by omega]
        exact h
      have hcc := cut16 (v / 16 ^ (15 - 3) % 16) (Nat.mod_lt _ (by omega))
      have hst := top_step v 3 (by omega)
      have hy : v / 16 ^ (15 - 3) % 16 < 16 := Nat.mod_lt _ (by omega)
      generalize v / 16 ^ (15 - 3) % 16 = y at *
      have hy1 : (y : Int) < 16 := by omega
      have hsz : ¬ (9223372036854775807 < (top v 3).size + 1) := by rw [top_size v 3 (by omega)]; omega
      go_wp2_with fail
      refine ⟨⟨3 + 1, by omega, by omega, rfl, ?_⟩, by simp [intOf]⟩
      exact congrArg Value.string hst
    · have hm : bits BinOp.and IntKind.u64 ((v : Int) / 17592186044416) 15 = ((v / 16 ^ (15 - 4) % 16 : Nat) : Int) := by
        have h := mask15 (v / 17592186044416) (Nat.lt_of_le_of_lt (Nat.div_le_self _ _) hv0)
        rw [show ((v : Int) / 17592186044416) = ((v / 17592186044416 : Nat) : Int) by omega]
        exact h
      have hcc := cut16 (v / 16 ^ (15 - 4) % 16) (Nat.mod_lt _ (by omega))
      have hst := top_step v 4 (by omega)
      have hy : v / 16 ^ (15 - 4) % 16 < 16 := Nat.mod_lt _ (by omega)
      generalize v / 16 ^ (15 - 4) % 16 = y at *
      have hy1 : (y : Int) < 16 := by omega
      have hsz : ¬ (9223372036854775807 < (top v 4).size + 1) := by rw [top_size v 4 (by omega)]; omega
      go_wp2_with fail
      refine ⟨⟨4 + 1, by omega, by omega, rfl, ?_⟩, by simp [intOf]⟩
      exact congrArg Value.string hst
    · have hm : bits BinOp.and IntKind.u64 ((v : Int) / 1099511627776) 15 = ((v / 16 ^ (15 - 5) % 16 : Nat) : Int) := by
        have h := mask15 (v / 1099511627776) (Nat.lt_of_le_of_lt (Nat.div_le_self _ _) hv0)
        rw [show ((v : Int) / 1099511627776) = ((v / 1099511627776 : Nat) : Int) by omega]
        exact h
      have hcc := cut16 (v / 16 ^ (15 - 5) % 16) (Nat.mod_lt _ (by omega))
      have hst := top_step v 5 (by omega)
      have hy : v / 16 ^ (15 - 5) % 16 < 16 := Nat.mod_lt _ (by omega)
      generalize v / 16 ^ (15 - 5) % 16 = y at *
      have hy1 : (y : Int) < 16 := by omega
      have hsz : ¬ (9223372036854775807 < (top v 5).size + 1) := by rw [top_size v 5 (by omega)]; omega
      go_wp2_with fail
      refine ⟨⟨5 + 1, by omega, by omega, rfl, ?_⟩, by simp [intOf]⟩
      exact congrArg Value.string hst
    · have hm : bits BinOp.and IntKind.u64 ((v : Int) / 68719476736) 15 = ((v / 16 ^ (15 - 6) % 16 : Nat) : Int) := by
        have h := mask15 (v / 68719476736) (Nat.lt_of_le_of_lt (Nat.div_le_self _ _) hv0)
        rw [show ((v : Int) / 68719476736) = ((v / 68719476736 : Nat) : Int) by omega]
        exact h
      have hcc := cut16 (v / 16 ^ (15 - 6) % 16) (Nat.mod_lt _ (by omega))
      have hst := top_step v 6 (by omega)
      have hy : v / 16 ^ (15 - 6) % 16 < 16 := Nat.mod_lt _ (by omega)
      generalize v / 16 ^ (15 - 6) % 16 = y at *
      have hy1 : (y : Int) < 16 := by omega
      have hsz : ¬ (9223372036854775807 < (top v 6).size + 1) := by rw [top_size v 6 (by omega)]; omega
      go_wp2_with fail
      refine ⟨⟨6 + 1, by omega, by omega, rfl, ?_⟩, by simp [intOf]⟩
      exact congrArg Value.string hst
    · have hm : bits BinOp.and IntKind.u64 ((v : Int) / 4294967296) 15 = ((v / 16 ^ (15 - 7) % 16 : Nat) : Int) := by
        have h := mask15 (v / 4294967296) (Nat.lt_of_le_of_lt (Nat.div_le_self _ _) hv0)
        rw [show ((v : Int) / 4294967296) = ((v / 4294967296 : Nat) : Int) by omega]
        exact h
      have hcc := cut16 (v / 16 ^ (15 - 7) % 16) (Nat.mod_lt _ (by omega))
      have hst := top_step v 7 (by omega)
      have hy : v / 16 ^ (15 - 7) % 16 < 16 := Nat.mod_lt _ (by omega)
      generalize v / 16 ^ (15 - 7) % 16 = y at *
      have hy1 : (y : Int) < 16 := by omega
      have hsz : ¬ (9223372036854775807 < (top v 7).size + 1) := by rw [top_size v 7 (by omega)]; omega
      go_wp2_with fail
      refine ⟨⟨7 + 1, by omega, by omega, rfl, ?_⟩, by simp [intOf]⟩
      exact congrArg Value.string hst
    · have hm : bits BinOp.and IntKind.u64 ((v : Int) / 268435456) 15 = ((v / 16 ^ (15 - 8) % 16 : Nat) : Int) := by
        have h := mask15 (v / 268435456) (Nat.lt_of_le_of_lt (Nat.div_le_self _ _) hv0)
        rw [show ((v : Int) / 268435456) = ((v / 268435456 : Nat) : Int) by omega]
        exact h
      have hcc := cut16 (v / 16 ^ (15 - 8) % 16) (Nat.mod_lt _ (by omega))
      have hst := top_step v 8 (by omega)
      have hy : v / 16 ^ (15 - 8) % 16 < 16 := Nat.mod_lt _ (by omega)
      generalize v / 16 ^ (15 - 8) % 16 = y at *
      have hy1 : (y : Int) < 16 := by omega
      have hsz : ¬ (9223372036854775807 < (top v 8).size + 1) := by rw [top_size v 8 (by omega)]; omega
      go_wp2_with fail
      refine ⟨⟨8 + 1, by omega, by omega, rfl, ?_⟩, by simp [intOf]⟩
      exact congrArg Value.string hst
    · have hm : bits BinOp.and IntKind.u64 ((v : Int) / 16777216) 15 = ((v / 16 ^ (15 - 9) % 16 : Nat) : Int) := by
        have h := mask15 (v / 16777216) (Nat.lt_of_le_of_lt (Nat.div_le_self _ _) hv0)
        rw [show ((v : Int) / 16777216) = ((v / 16777216 : Nat) : Int) by omega]
        exact h
      have hcc := cut16 (v / 16 ^ (15 - 9) % 16) (Nat.mod_lt _ (by omega))
      have hst := top_step v 9 (by omega)
      have hy : v / 16 ^ (15 - 9) % 16 < 16 := Nat.mod_lt _ (by omega)
      generalize v / 16 ^ (15 - 9) % 16 = y at *
      have hy1 : (y : Int) < 16 := by omega
      have hsz : ¬ (9223372036854775807 < (top v 9).size + 1) := by rw [top_size v 9 (by omega)]; omega
      go_wp2_with fail
      refine ⟨⟨9 + 1, by omega, by omega, rfl, ?_⟩, by simp [intOf]⟩
      exact congrArg Value.string hst
    · have hm : bits BinOp.and IntKind.u64 ((v : Int) / 1048576) 15 = ((v / 16 ^ (15 - 10) % 16 : Nat) : Int) := by
        have h := mask15 (v / 1048576) (Nat.lt_of_le_of_lt (Nat.div_le_self _ _) hv0)
        rw [show ((v : Int) / 1048576) = ((v / 1048576 : Nat) : Int) by omega]
        exact h
      have hcc := cut16 (v / 16 ^ (15 - 10) % 16) (Nat.mod_lt _ (by omega))
      have hst := top_step v 10 (by omega)
      have hy : v / 16 ^ (15 - 10) % 16 < 16 := Nat.mod_lt _ (by omega)
      generalize v / 16 ^ (15 - 10) % 16 = y at *
      have hy1 : (y : Int) < 16 := by omega
      have hsz : ¬ (9223372036854775807 < (top v 10).size + 1) := by rw [top_size v 10 (by omega)]; omega
      go_wp2_with fail
      refine ⟨⟨10 + 1, by omega, by omega, rfl, ?_⟩, by simp [intOf]⟩
      exact congrArg Value.string hst
    · have hm : bits BinOp.and IntKind.u64 ((v : Int) / 65536) 15 = ((v / 16 ^ (15 - 11) % 16 : Nat) : Int) := by
        have h := mask15 (v / 65536) (Nat.lt_of_le_of_lt (Nat.div_le_self _ _) hv0)
        rw [show ((v : Int) / 65536) = ((v / 65536 : Nat) : Int) by omega]
        exact h
      have hcc := cut16 (v / 16 ^ (15 - 11) % 16) (Nat.mod_lt _ (by omega))
      have hst := top_step v 11 (by omega)
      have hy : v / 16 ^ (15 - 11) % 16 < 16 := Nat.mod_lt _ (by omega)
      generalize v / 16 ^ (15 - 11) % 16 = y at *
      have hy1 : (y : Int) < 16 := by omega
      have hsz : ¬ (9223372036854775807 < (top v 11).size + 1) := by rw [top_size v 11 (by omega)]; omega
      go_wp2_with fail
      refine ⟨⟨11 + 1, by omega, by omega, rfl, ?_⟩, by simp [intOf]⟩
      exact congrArg Value.string hst
    · have hm : bits BinOp.and IntKind.u64 ((v : Int) / 4096) 15 = ((v / 16 ^ (15 - 12) % 16 : Nat) : Int) := by
        have h := mask15 (v / 4096) (Nat.lt_of_le_of_lt (Nat.div_le_self _ _) hv0)
        rw [show ((v : Int) / 4096) = ((v / 4096 : Nat) : Int) by omega]
        exact h
      have hcc := cut16 (v / 16 ^ (15 - 12) % 16) (Nat.mod_lt _ (by omega))
      have hst := top_step v 12 (by omega)
      have hy : v / 16 ^ (15 - 12) % 16 < 16 := Nat.mod_lt _ (by omega)
      generalize v / 16 ^ (15 - 12) % 16 = y at *
      have hy1 : (y : Int) < 16 := by omega
      have hsz : ¬ (9223372036854775807 < (top v 12).size + 1) := by rw [top_size v 12 (by omega)]; omega
      go_wp2_with fail
      refine ⟨⟨12 + 1, by omega, by omega, rfl, ?_⟩, by simp [intOf]⟩
      exact congrArg Value.string hst
    · have hm : bits BinOp.and IntKind.u64 ((v : Int) / 256) 15 = ((v / 16 ^ (15 - 13) % 16 : Nat) : Int) := by
        have h := mask15 (v / 256) (Nat.lt_of_le_of_lt (Nat.div_le_self _ _) hv0)
        rw [show ((v : Int) / 256) = ((v / 256 : Nat) : Int) by omega]
        exact h
      have hcc := cut16 (v / 16 ^ (15 - 13) % 16) (Nat.mod_lt _ (by omega))
      have hst := top_step v 13 (by omega)
      have hy : v / 16 ^ (15 - 13) % 16 < 16 := Nat.mod_lt _ (by omega)
      generalize v / 16 ^ (15 - 13) % 16 = y at *
      have hy1 : (y : Int) < 16 := by omega
      have hsz : ¬ (9223372036854775807 < (top v 13).size + 1) := by rw [top_size v 13 (by omega)]; omega
      go_wp2_with fail
      refine ⟨⟨13 + 1, by omega, by omega, rfl, ?_⟩, by simp [intOf]⟩
      exact congrArg Value.string hst
    · have hm : bits BinOp.and IntKind.u64 ((v : Int) / 16) 15 = ((v / 16 ^ (15 - 14) % 16 : Nat) : Int) := by
        have h := mask15 (v / 16) (Nat.lt_of_le_of_lt (Nat.div_le_self _ _) hv0)
        rw [show ((v : Int) / 16) = ((v / 16 : Nat) : Int) by omega]
        exact h
      have hcc := cut16 (v / 16 ^ (15 - 14) % 16) (Nat.mod_lt _ (by omega))
      have hst := top_step v 14 (by omega)
      have hy : v / 16 ^ (15 - 14) % 16 < 16 := Nat.mod_lt _ (by omega)
      generalize v / 16 ^ (15 - 14) % 16 = y at *
      have hy1 : (y : Int) < 16 := by omega
      have hsz : ¬ (9223372036854775807 < (top v 14).size + 1) := by rw [top_size v 14 (by omega)]; omega
      go_wp2_with fail
      refine ⟨⟨14 + 1, by omega, by omega, rfl, ?_⟩, by simp [intOf]⟩
      exact congrArg Value.string hst
    · have hm : bits BinOp.and IntKind.u64 (v : Int) 15 = ((v / 16 ^ (15 - 15) % 16 : Nat) : Int) := by
        have h := mask15 (v / 1) (Nat.lt_of_le_of_lt (Nat.div_le_self _ _) hv0)
        rw [Nat.div_one] at h
        rw [show v / 16 ^ (15 - 15) = v from Nat.div_one v]
        exact h
      have hcc := cut16 (v / 16 ^ (15 - 15) % 16) (Nat.mod_lt _ (by omega))
      have hst := top_step v 15 (by omega)
      have hy : v / 16 ^ (15 - 15) % 16 < 16 := Nat.mod_lt _ (by omega)
      generalize v / 16 ^ (15 - 15) % 16 = y at *
      have hy1 : (y : Int) < 16 := by omega
      have hsz : ¬ (9223372036854775807 < (top v 15).size + 1) := by rw [top_size v 15 (by omega)]; omega
      go_wp2_with fail
      refine ⟨⟨15 + 1, by omega, by omega, rfl, ?_⟩, by simp [intOf]⟩
      exact congrArg Value.string hst
    · go_wp2_with fail
      go_ret
      exact ⟨rfl, rfl⟩
end Fu
end Go.Proofs.YtdibokeinmhmbaaDoor
