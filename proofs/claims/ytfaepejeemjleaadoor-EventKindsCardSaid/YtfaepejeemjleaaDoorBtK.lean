/- The laws EventKinds and EventLimits. -/
import Derived.Test.YtfaepejeemjleaaDoorBtJ
import Derived.ChangeMaps5
namespace Go.Proofs.YtfaepejeemjleaaDoor
open Go.RowKit
set_option linter.unusedVariables false
namespace Bt
open _root_.Go.Proofs.YtfaepejeemjleaaDoor.Nm (ret_int ret_bool)
open Vt (VT Rep BoxAt below_drew)
open Ev (EV FieldsOk ERep evCells vCells zeroT EBox nameOf fieldsOf rowCellsOf of_in evalid_any)

set_option maxRecDepth 100000 in
set_option maxHeartbeats 4000000 in
theorem rname_in (k : Nat) (h1 : 1 ≤ k) (h2 : k ≤ 11) (w : World) : Calls Tryd.prog 9 #[.int .i64 k] w fun e w' => e = .returned (.string (nameOf k)) ∧ Below w.heap.size w w' := by
  rcases (by omega : k = 1 ∨ k = 2 ∨ k = 3 ∨ k = 4 ∨ k = 5 ∨ k = 6 ∨ k = 7 ∨ k = 8 ∨ k = 9 ∨ k = 10 ∨ k = 11) with rfl | rfl | rfl | rfl | rfl | rfl | rfl | rfl | rfl | rfl | rfl
  all_goals
    go_enter Tryd.func9, Tryd.ntmps9
    go_wp2_with fail
    go_ret
    exact ⟨rfl, (Below.refl _ _).alloc (Nat.le_refl _) _⟩
theorem rname_out (k : Int) (hk0 : -9223372036854775808 ≤ k) (hk1 : k ≤ 9223372036854775807) (h : k < 1 ∨ 11 < k) (w : World) : Calls Tryd.prog 9 #[.int .i64 k] w fun e w' => e = .returned (.string ⟨#[]⟩) ∧ Below w.heap.size w w' := by
  rcases h with h | h
  all_goals
    go_enter Tryd.func9, Tryd.ntmps9
    go_wp2_with fail
    go_ret
    exact ⟨rfl, Below.refl _ _⟩
theorem kinds_lo (k : Int) (hk0 : -9223372036854775808 ≤ k) (hk1 : k ≤ 9223372036854775807) (a1 : k < 1) (s : ByteArray) (hn : ∀ w, Calls Tryd.prog 8 #[.int .i64 k] w fun e w' => e = .returned (.string s) ∧ Below w.heap.size w w') (hr : ∀ w, Calls Tryd.prog 9 #[.int .i64 k] w fun e w' => e = .returned (.string s) ∧ Below w.heap.size w w') (w : World) :
    Calls Tryd.prog 4 #[.int .i64 k] w fun e w' => e = .returned (.bool true) ∧ Below w.heap.size w w' := by
  have HA := Lib.hid (alive_any w)
  have HN := Lib.hid hn
  have HR := Lib.hid hr
  have HO : Hid (∀ w, Calls Tryd.prog 10 #[.int .i64 k] w fun e w' => e = .returned (.bool false) ∧ w' = w) := Lib.hid fun w => by
    go_enter Tryd.func10, Tryd.ntmps10
    go_wp2_with fail
    go_ret
    exact ⟨ret_bool (by first | rfl | (simp; omega)), rfl⟩
  have HC : Hid (∀ w, Calls Tryd.prog 11 #[.int .i64 k] w fun e w' => e = .returned (.bool false) ∧ w' = w) := Lib.hid fun w => by
    go_enter Tryd.func11, Tryd.ntmps11
    go_wp2_with fail
    go_ret
    exact ⟨ret_bool (by first | rfl | (simp; omega)), rfl⟩
  clear hn hr
  go_enter Tryd.func4, Tryd.ntmps4
  go_wp2_with fail
  refine HA.out.mono ?_
  rintro e w1 ⟨rfl, hb1⟩
  have HB1 := Lib.hid hb1; clear hb1 HA
  go_wp2_with fail
  refine (HN.out _).mono ?_
  rintro e w2 ⟨rfl, hb2⟩
  have HB2 : Hid (Below w.heap.size w w2) := Lib.hid (HB1.out.trans (hb2.mono HB1.out.size)); clear hb2
  go_wp2_with fail
  refine (HR.out _).mono ?_
  rintro e w3 ⟨rfl, hb3⟩
  have HB3 : Hid (Below w.heap.size w w3) := Lib.hid (HB2.out.trans (hb3.mono HB2.out.size)); clear hb3
  go_wp2_with fail
  refine (HO.out _).mono ?_
  rintro e w4 ⟨rfl, rfl⟩
  go_wp2_with fail
  refine (HC.out _).mono ?_
  rintro e w5 ⟨rfl, rfl⟩
  go_wp2_with fail
  go_ret
  exact ⟨ret_bool (by first | rfl | (simp; omega)), HB3.out⟩
theorem kinds_a (k : Int) (hk0 : -9223372036854775808 ≤ k) (hk1 : k ≤ 9223372036854775807) (a1 : 1 ≤ k) (a2 : k ≤ 6) (s : ByteArray) (hn : ∀ w, Calls Tryd.prog 8 #[.int .i64 k] w fun e w' => e = .returned (.string s) ∧ Below w.heap.size w w') (hr : ∀ w, Calls Tryd.prog 9 #[.int .i64 k] w fun e w' => e = .returned (.string s) ∧ Below w.heap.size w w') (w : World) :
    Calls Tryd.prog 4 #[.int .i64 k] w fun e w' => e = .returned (.bool true) ∧ Below w.heap.size w w' := by
  have HA := Lib.hid (alive_any w)
  have HN := Lib.hid hn
  have HR := Lib.hid hr
  have HO : Hid (∀ w, Calls Tryd.prog 10 #[.int .i64 k] w fun e w' => e = .returned (.bool true) ∧ w' = w) := Lib.hid fun w => by
    go_enter Tryd.func10, Tryd.ntmps10
    go_wp2_with fail
    go_ret
    exact ⟨ret_bool (by first | rfl | (simp; omega)), rfl⟩
  have HC : Hid (∀ w, Calls Tryd.prog 11 #[.int .i64 k] w fun e w' => e = .returned (.bool false) ∧ w' = w) := Lib.hid fun w => by
    go_enter Tryd.func11, Tryd.ntmps11
    go_wp2_with fail
    go_ret
    exact ⟨ret_bool (by first | rfl | (simp; omega)), rfl⟩
  clear hn hr
  go_enter Tryd.func4, Tryd.ntmps4
  go_wp2_with fail
  refine HA.out.mono ?_
  rintro e w1 ⟨rfl, hb1⟩
  have HB1 := Lib.hid hb1; clear hb1 HA
  go_wp2_with fail
  refine (HN.out _).mono ?_
  rintro e w2 ⟨rfl, hb2⟩
  have HB2 : Hid (Below w.heap.size w w2) := Lib.hid (HB1.out.trans (hb2.mono HB1.out.size)); clear hb2
  go_wp2_with fail
  refine (HR.out _).mono ?_
  rintro e w3 ⟨rfl, hb3⟩
  have HB3 : Hid (Below w.heap.size w w3) := Lib.hid (HB2.out.trans (hb3.mono HB2.out.size)); clear hb3
  go_wp2_with fail
  refine (HO.out _).mono ?_
  rintro e w4 ⟨rfl, rfl⟩
  go_wp2_with fail
  refine (HC.out _).mono ?_
  rintro e w5 ⟨rfl, rfl⟩
  go_wp2_with fail
  go_ret
  exact ⟨ret_bool (by first | rfl | (simp; omega)), HB3.out⟩
theorem kinds_b (k : Int) (hk0 : -9223372036854775808 ≤ k) (hk1 : k ≤ 9223372036854775807) (a1 : 7 ≤ k) (a2 : k ≤ 8) (s : ByteArray) (hn : ∀ w, Calls Tryd.prog 8 #[.int .i64 k] w fun e w' => e = .returned (.string s) ∧ Below w.heap.size w w') (hr : ∀ w, Calls Tryd.prog 9 #[.int .i64 k] w fun e w' => e = .returned (.string s) ∧ Below w.heap.size w w') (w : World) :
    Calls Tryd.prog 4 #[.int .i64 k] w fun e w' => e = .returned (.bool true) ∧ Below w.heap.size w w' := by
  have HA := Lib.hid (alive_any w)
  have HN := Lib.hid hn
  have HR := Lib.hid hr
  have HO : Hid (∀ w, Calls Tryd.prog 10 #[.int .i64 k] w fun e w' => e = .returned (.bool false) ∧ w' = w) := Lib.hid fun w => by
    go_enter Tryd.func10, Tryd.ntmps10
    go_wp2_with fail
    go_ret
    exact ⟨ret_bool (by first | rfl | (simp; omega)), rfl⟩
  have HC : Hid (∀ w, Calls Tryd.prog 11 #[.int .i64 k] w fun e w' => e = .returned (.bool false) ∧ w' = w) := Lib.hid fun w => by
    go_enter Tryd.func11, Tryd.ntmps11
    go_wp2_with fail
    go_ret
    exact ⟨ret_bool (by first | rfl | (simp; omega)), rfl⟩
  clear hn hr
  go_enter Tryd.func4, Tryd.ntmps4
  go_wp2_with fail
  refine HA.out.mono ?_
  rintro e w1 ⟨rfl, hb1⟩
  have HB1 := Lib.hid hb1; clear hb1 HA
  go_wp2_with fail
  refine (HN.out _).mono ?_
  rintro e w2 ⟨rfl, hb2⟩
  have HB2 : Hid (Below w.heap.size w w2) := Lib.hid (HB1.out.trans (hb2.mono HB1.out.size)); clear hb2
  go_wp2_with fail
  refine (HR.out _).mono ?_
  rintro e w3 ⟨rfl, hb3⟩
  have HB3 : Hid (Below w.heap.size w w3) := Lib.hid (HB2.out.trans (hb3.mono HB2.out.size)); clear hb3
  go_wp2_with fail
  refine (HO.out _).mono ?_
  rintro e w4 ⟨rfl, rfl⟩
  go_wp2_with fail
  refine (HC.out _).mono ?_
  rintro e w5 ⟨rfl, rfl⟩
  go_wp2_with fail
  go_ret
  exact ⟨ret_bool (by first | rfl | (simp; omega)), HB3.out⟩
theorem kinds_c (k : Int) (hk0 : -9223372036854775808 ≤ k) (hk1 : k ≤ 9223372036854775807) (a1 : 9 ≤ k) (a2 : k ≤ 11) (s : ByteArray) (hn : ∀ w, Calls Tryd.prog 8 #[.int .i64 k] w fun e w' => e = .returned (.string s) ∧ Below w.heap.size w w') (hr : ∀ w, Calls Tryd.prog 9 #[.int .i64 k] w fun e w' => e = .returned (.string s) ∧ Below w.heap.size w w') (w : World) :
    Calls Tryd.prog 4 #[.int .i64 k] w fun e w' => e = .returned (.bool true) ∧ Below w.heap.size w w' := by
  have HA := Lib.hid (alive_any w)
  have HN := Lib.hid hn
  have HR := Lib.hid hr
  have HO : Hid (∀ w, Calls Tryd.prog 10 #[.int .i64 k] w fun e w' => e = .returned (.bool false) ∧ w' = w) := Lib.hid fun w => by
    go_enter Tryd.func10, Tryd.ntmps10
    go_wp2_with fail
    go_ret
    exact ⟨ret_bool (by first | rfl | (simp; omega)), rfl⟩
  have HC : Hid (∀ w, Calls Tryd.prog 11 #[.int .i64 k] w fun e w' => e = .returned (.bool true) ∧ w' = w) := Lib.hid fun w => by
    go_enter Tryd.func11, Tryd.ntmps11
    go_wp2_with fail
    go_ret
    exact ⟨ret_bool (by first | rfl | (simp; omega)), rfl⟩
  clear hn hr
  go_enter Tryd.func4, Tryd.ntmps4
  go_wp2_with fail
  refine HA.out.mono ?_
  rintro e w1 ⟨rfl, hb1⟩
  have HB1 := Lib.hid hb1; clear hb1 HA
  go_wp2_with fail
  refine (HN.out _).mono ?_
  rintro e w2 ⟨rfl, hb2⟩
  have HB2 : Hid (Below w.heap.size w w2) := Lib.hid (HB1.out.trans (hb2.mono HB1.out.size)); clear hb2
  go_wp2_with fail
  refine (HR.out _).mono ?_
  rintro e w3 ⟨rfl, hb3⟩
  have HB3 : Hid (Below w.heap.size w w3) := Lib.hid (HB2.out.trans (hb3.mono HB2.out.size)); clear hb3
  go_wp2_with fail
  refine (HO.out _).mono ?_
  rintro e w4 ⟨rfl, rfl⟩
  go_wp2_with fail
  refine (HC.out _).mono ?_
  rintro e w5 ⟨rfl, rfl⟩
  go_wp2_with fail
  go_ret
  exact ⟨ret_bool (by first | rfl | (simp; omega)), HB3.out⟩
theorem kinds_hi (k : Int) (hk0 : -9223372036854775808 ≤ k) (hk1 : k ≤ 9223372036854775807) (a1 : 12 ≤ k) (s : ByteArray) (hn : ∀ w, Calls Tryd.prog 8 #[.int .i64 k] w fun e w' => e = .returned (.string s) ∧ Below w.heap.size w w') (hr : ∀ w, Calls Tryd.prog 9 #[.int .i64 k] w fun e w' => e = .returned (.string s) ∧ Below w.heap.size w w') (w : World) :
    Calls Tryd.prog 4 #[.int .i64 k] w fun e w' => e = .returned (.bool true) ∧ Below w.heap.size w w' := by
  have HA := Lib.hid (alive_any w)
  have HN := Lib.hid hn
  have HR := Lib.hid hr
  have HO : Hid (∀ w, Calls Tryd.prog 10 #[.int .i64 k] w fun e w' => e = .returned (.bool false) ∧ w' = w) := Lib.hid fun w => by
    go_enter Tryd.func10, Tryd.ntmps10
    go_wp2_with fail
    go_ret
    exact ⟨ret_bool (by first | rfl | (simp; omega)), rfl⟩
  have HC : Hid (∀ w, Calls Tryd.prog 11 #[.int .i64 k] w fun e w' => e = .returned (.bool false) ∧ w' = w) := Lib.hid fun w => by
    go_enter Tryd.func11, Tryd.ntmps11
    go_wp2_with fail
    go_ret
    exact ⟨ret_bool (by first | rfl | (simp; omega)), rfl⟩
  clear hn hr
  go_enter Tryd.func4, Tryd.ntmps4
  go_wp2_with fail
  refine HA.out.mono ?_
  rintro e w1 ⟨rfl, hb1⟩
  have HB1 := Lib.hid hb1; clear hb1 HA
  go_wp2_with fail
  refine (HN.out _).mono ?_
  rintro e w2 ⟨rfl, hb2⟩
  have HB2 : Hid (Below w.heap.size w w2) := Lib.hid (HB1.out.trans (hb2.mono HB1.out.size)); clear hb2
  go_wp2_with fail
  refine (HR.out _).mono ?_
  rintro e w3 ⟨rfl, hb3⟩
  have HB3 : Hid (Below w.heap.size w w3) := Lib.hid (HB2.out.trans (hb3.mono HB2.out.size)); clear hb3
  go_wp2_with fail
  refine (HO.out _).mono ?_
  rintro e w4 ⟨rfl, rfl⟩
  go_wp2_with fail
  refine (HC.out _).mono ?_
  rintro e w5 ⟨rfl, rfl⟩
  go_wp2_with fail
  go_ret
  exact ⟨ret_bool (by first | rfl | (simp; omega)), HB3.out⟩
theorem kinds_walk (k : Int) (hk0 : -9223372036854775808 ≤ k) (hk1 : k ≤ 9223372036854775807) (w : World) :
    Calls Tryd.prog 4 #[.int .i64 k] w fun e w' => e = .returned (.bool true) ∧ Below w.heap.size w w' := by
  by_cases h : k < 1 ∨ 11 < k
  · rcases h with h' | h'
    · exact kinds_lo k hk0 hk1 h' _ (ename_out k (by omega)) (rname_out k hk0 hk1 (by omega)) w
    · exact kinds_hi k hk0 hk1 (by omega) _ (ename_out k (by omega)) (rname_out k hk0 hk1 (by omega)) w
  · obtain ⟨n, rfl⟩ : ∃ n : Nat, k = n := ⟨k.toNat, by omega⟩
    have a := ename_in n (by omega) (by omega)
    have b := rname_in n (by omega) (by omega)
    by_cases h6 : n ≤ 6
    · exact kinds_a n hk0 hk1 (by omega) (by omega) _ a b w
    · by_cases h8 : n ≤ 8
      · exact kinds_b n hk0 hk1 (by omega) (by omega) _ a b w
      · exact kinds_c n hk0 hk1 (by omega) (by omega) _ a b w

set_option maxRecDepth 100000 in
open Go.ChangeShapes Go.WideShapes Go.ChangeAt Go.ChangeMaps in
theorem kinds_open {H : Type} {enc : TypeId × Value → H} {base b1 : Nat} {spare : Nat → Bool} {held : Bool} {d0 : DataW H} {p0 : List MemPlace} (v0 : Value) (W : World)
    (o0 : Value.okWide Tryd.prog W .any base 3 v0) (k0 : DataW.Trod enc Tryd.prog W b1 spare held 3 v0 d0 p0) :
    Calls Tryd.prog 4 #[v0] W fun e w' => e = .returned (.bool true) ∧ Below W.heap.size W w' := by
  obtain ⟨a, rfl, rfl, rfl, w2⟩ := open_int Tryd.underlying3 o0 k0
  simp [Lit.wf, IntKind.min, IntKind.max, IntKind.bits, IntKind.signed] at w2
  exact kinds_walk a (by omega) (by omega) W
end Bt
end Go.Proofs.YtfaepejeemjleaaDoor
