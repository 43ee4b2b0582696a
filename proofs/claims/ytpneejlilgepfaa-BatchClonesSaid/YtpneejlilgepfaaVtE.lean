/- Contracts of package value's of, blank, Valid of a tree. -/
import Derived.Test.YtpneejlilgepfaaVtD
namespace Go.Proofs.Ytpneejlilgepfaa
open Go.RowKit
set_option linter.unusedVariables false
namespace Vt
open Nm (bitsW ret_int ret_bool)

/-- The kind of a number, as a value. -/
def kindV (k : Int) : Value := if k = 0 then .iface 95 (.agg #[]) else if k = 1 then .iface 91 (.agg #[]) else if k = 2 then .iface 92 (.agg #[]) else if k = 3 then .iface 93 (.agg #[]) else if k = 4 then .iface 94 (.agg #[]) else .nilIface

set_option maxRecDepth 100000 in
theorem of_any (k : Int) (w : World) : Calls Try.prog 55 #[.int .i64 k] w fun e w' => e = .returned (kindV k) ∧ w = w' := by
  by_cases h : 0 ≤ k ∧ k ≤ 4
  · rcases (by omega : k = 0 ∨ k = 1 ∨ k = 2 ∨ k = 3 ∨ k = 4) with rfl | rfl | rfl | rfl | rfl
    all_goals
      have k0 : Try.prog.concrete 95 = true := by kernel_rfl
      have k1 : Try.prog.concrete 91 = true := by kernel_rfl
      have k2 : Try.prog.concrete 92 = true := by kernel_rfl
      have k3 : Try.prog.concrete 93 = true := by kernel_rfl
      have k4 : Try.prog.concrete 94 = true := by kernel_rfl
      have i0 : ∀ w, (Instr.index 96 (.agg #[.iface 95 (.agg #[]), .iface 91 (.agg #[]), .iface 92 (.agg #[]), .iface 93 (.agg #[]), .iface 94 (.agg #[])]) (.int .i64 0)).run Try.prog w = .ok (.iface 95 (.agg #[])) w := fun _ => by kernel_rfl
      have i1 : ∀ w, (Instr.index 96 (.agg #[.iface 95 (.agg #[]), .iface 91 (.agg #[]), .iface 92 (.agg #[]), .iface 93 (.agg #[]), .iface 94 (.agg #[])]) (.int .i64 1)).run Try.prog w = .ok (.iface 91 (.agg #[])) w := fun _ => by kernel_rfl
      have i2 : ∀ w, (Instr.index 96 (.agg #[.iface 95 (.agg #[]), .iface 91 (.agg #[]), .iface 92 (.agg #[]), .iface 93 (.agg #[]), .iface 94 (.agg #[])]) (.int .i64 2)).run Try.prog w = .ok (.iface 92 (.agg #[])) w := fun _ => by kernel_rfl
      have i3 : ∀ w, (Instr.index 96 (.agg #[.iface 95 (.agg #[]), .iface 91 (.agg #[]), .iface 92 (.agg #[]), .iface 93 (.agg #[]), .iface 94 (.agg #[])]) (.int .i64 3)).run Try.prog w = .ok (.iface 93 (.agg #[])) w := fun _ => by kernel_rfl
      have i4 : ∀ w, (Instr.index 96 (.agg #[.iface 95 (.agg #[]), .iface 91 (.agg #[]), .iface 92 (.agg #[]), .iface 93 (.agg #[]), .iface 94 (.agg #[])]) (.int .i64 4)).run Try.prog w = .ok (.iface 94 (.agg #[])) w := fun _ => by kernel_rfl
      go_enter Try.func55, Try.ntmps55
      go_wp2_with fail
      go_ret
      exact ⟨rfl, rfl⟩
  · have hk : kindV k = .nilIface := by unfold kindV; rw [if_neg (by omega), if_neg (by omega), if_neg (by omega), if_neg (by omega), if_neg (by omega)]
    rw [hk]
    have HK := Lib.hid hk; clear hk
    by_cases h0 : k < 0
    · clear h
      go_enter Try.func55, Try.ntmps55
      go_wp2_with fail
      go_ret
      exact ⟨rfl, rfl⟩
    · have h4 : 4 < k := by omega
      clear h
      go_enter Try.func55, Try.ntmps55
      go_wp2_with fail
      go_ret
      exact ⟨rfl, rfl⟩
theorem kv0 : kindV 0 = .iface 95 (.agg #[]) := rfl
theorem kv1 : kindV 1 = .iface 91 (.agg #[]) := rfl
theorem kv2 : kindV 2 = .iface 92 (.agg #[]) := rfl
theorem kv3 : kindV 3 = .iface 93 (.agg #[]) := rfl
theorem kv4 : kindV 4 = .iface 94 (.agg #[]) := rfl

theorem ta_none_integer (w : World) : (Instr.typeAssert (.iface 95 (.agg #[])) 85 91 true).run Try.prog w = .ok (.tuple #[.agg #[], .bool false]) w := by kernel_rfl
theorem ta_none_float (w : World) : (Instr.typeAssert (.iface 95 (.agg #[])) 85 92 true).run Try.prog w = .ok (.tuple #[.agg #[], .bool false]) w := by kernel_rfl
theorem ta_none_text (w : World) : (Instr.typeAssert (.iface 95 (.agg #[])) 85 93 true).run Try.prog w = .ok (.tuple #[.agg #[], .bool false]) w := by kernel_rfl
theorem ta_none_list (w : World) : (Instr.typeAssert (.iface 95 (.agg #[])) 85 94 true).run Try.prog w = .ok (.tuple #[.agg #[], .bool false]) w := by kernel_rfl
theorem ta_integer_integer (w : World) : (Instr.typeAssert (.iface 91 (.agg #[])) 85 91 true).run Try.prog w = .ok (.tuple #[.agg #[], .bool true]) w := by kernel_rfl
theorem ta_integer_float (w : World) : (Instr.typeAssert (.iface 91 (.agg #[])) 85 92 true).run Try.prog w = .ok (.tuple #[.agg #[], .bool false]) w := by kernel_rfl
theorem ta_integer_text (w : World) : (Instr.typeAssert (.iface 91 (.agg #[])) 85 93 true).run Try.prog w = .ok (.tuple #[.agg #[], .bool false]) w := by kernel_rfl
theorem ta_integer_list (w : World) : (Instr.typeAssert (.iface 91 (.agg #[])) 85 94 true).run Try.prog w = .ok (.tuple #[.agg #[], .bool false]) w := by kernel_rfl
theorem ta_float_integer (w : World) : (Instr.typeAssert (.iface 92 (.agg #[])) 85 91 true).run Try.prog w = .ok (.tuple #[.agg #[], .bool false]) w := by kernel_rfl
theorem ta_float_float (w : World) : (Instr.typeAssert (.iface 92 (.agg #[])) 85 92 true).run Try.prog w = .ok (.tuple #[.agg #[], .bool true]) w := by kernel_rfl
theorem ta_float_text (w : World) : (Instr.typeAssert (.iface 92 (.agg #[])) 85 93 true).run Try.prog w = .ok (.tuple #[.agg #[], .bool false]) w := by kernel_rfl
theorem ta_float_list (w : World) : (Instr.typeAssert (.iface 92 (.agg #[])) 85 94 true).run Try.prog w = .ok (.tuple #[.agg #[], .bool false]) w := by kernel_rfl
theorem ta_text_integer (w : World) : (Instr.typeAssert (.iface 93 (.agg #[])) 85 91 true).run Try.prog w = .ok (.tuple #[.agg #[], .bool false]) w := by kernel_rfl
theorem ta_text_float (w : World) : (Instr.typeAssert (.iface 93 (.agg #[])) 85 92 true).run Try.prog w = .ok (.tuple #[.agg #[], .bool false]) w := by kernel_rfl
theorem ta_text_text (w : World) : (Instr.typeAssert (.iface 93 (.agg #[])) 85 93 true).run Try.prog w = .ok (.tuple #[.agg #[], .bool true]) w := by kernel_rfl
theorem ta_text_list (w : World) : (Instr.typeAssert (.iface 93 (.agg #[])) 85 94 true).run Try.prog w = .ok (.tuple #[.agg #[], .bool false]) w := by kernel_rfl
theorem ta_list_integer (w : World) : (Instr.typeAssert (.iface 94 (.agg #[])) 85 91 true).run Try.prog w = .ok (.tuple #[.agg #[], .bool false]) w := by kernel_rfl
theorem ta_list_float (w : World) : (Instr.typeAssert (.iface 94 (.agg #[])) 85 92 true).run Try.prog w = .ok (.tuple #[.agg #[], .bool false]) w := by kernel_rfl
theorem ta_list_text (w : World) : (Instr.typeAssert (.iface 94 (.agg #[])) 85 93 true).run Try.prog w = .ok (.tuple #[.agg #[], .bool false]) w := by kernel_rfl
theorem ta_list_list (w : World) : (Instr.typeAssert (.iface 94 (.agg #[])) 85 94 true).run Try.prog w = .ok (.tuple #[.agg #[], .bool true]) w := by kernel_rfl
theorem ta_nil_integer (w : World) : (Instr.typeAssert .nilIface 85 91 true).run Try.prog w = .ok (.tuple #[.agg #[], .bool false]) w := by kernel_rfl
theorem ta_nil_float (w : World) : (Instr.typeAssert .nilIface 85 92 true).run Try.prog w = .ok (.tuple #[.agg #[], .bool false]) w := by kernel_rfl
theorem ta_nil_text (w : World) : (Instr.typeAssert .nilIface 85 93 true).run Try.prog w = .ok (.tuple #[.agg #[], .bool false]) w := by kernel_rfl
theorem ta_nil_list (w : World) : (Instr.typeAssert .nilIface 85 94 true).run Try.prog w = .ok (.tuple #[.agg #[], .bool false]) w := by kernel_rfl

theorem run_store_float (P : Program) (w : World) (a : Addr) (m : Mode) (k : FloatKind) (b : Nat) : (store a (.float k b) m).run P w = stored P w a (.float k b) m := run_store P w a _ m rfl
/-- A value with its kind's own field removed. -/
def blankV (k n : Int) (f : Nat) (s : ByteArray) (A : Option Addr) (m c : Nat) : Value :=
  .agg #[.int .i64 k, .int .i64 (if k = 1 then 0 else n), .float .f64 (if k = 2 then 0 else f), .string (if k = 3 then ⟨#[]⟩ else s), if k = 4 then .slice none 0 0 else .slice A m c]

attribute [go_sem] run_store_float
set_option maxRecDepth 100000 in
set_option maxHeartbeats 1000000 in
theorem blank_any (k n : Int) (f : Nat) (s : ByteArray) (A : Option Addr) (m c : Nat) (w : World) :
    Calls Try.prog 54 #[.agg #[.int .i64 k, .int .i64 n, .float .f64 f, .string s, .slice A m c]] w fun e w' => e = .returned (blankV k n f s A m c) ∧ Below w.heap.size w w' := by
  have O := Lib.hid of_any
  by_cases h : 0 ≤ k ∧ k ≤ 4
  · rcases (by omega : k = 0 ∨ k = 1 ∨ k = 2 ∨ k = 3 ∨ k = 4) with rfl | rfl | rfl | rfl | rfl
    · clear h
      have tinteger := ta_none_integer
      have tfloat := ta_none_float
      have ttext := ta_none_text
      have tlist := ta_none_list
      go_enter Try.func54, Try.ntmps54
      go_wp2_with fail
      refine (O.out _ _).mono ?_
      rintro e w' ⟨rfl, rfl⟩
      rw [kv0]
      go_wp2_with fail
      refine bodyPost_ret (v := blankV _ n f s A m c) (by simp [results, Try.results54, go_sem, blankV]) rfl ⟨rfl, ?_⟩
      exact ((Below.refl _ _).alloc (Nat.le_refl _) _).alloc (by simp) _
    · clear h
      have tinteger := ta_integer_integer
      have tfloat := ta_integer_float
      have ttext := ta_integer_text
      have tlist := ta_integer_list
      go_enter Try.func54, Try.ntmps54
      go_wp2_with fail
      refine (O.out _ _).mono ?_
      rintro e w' ⟨rfl, rfl⟩
      rw [kv1]
      go_wp2_with fail
      refine bodyPost_ret (v := blankV _ n f s A m c) (by simp [results, Try.results54, go_sem, blankV]) rfl ⟨rfl, ?_⟩
      exact ((Below.refl _ _).alloc (Nat.le_refl _) _).alloc (by simp) _
    · clear h
      have tinteger := ta_float_integer
      have tfloat := ta_float_float
      have ttext := ta_float_text
      have tlist := ta_float_list
      go_enter Try.func54, Try.ntmps54
      go_wp2_with fail
      refine (O.out _ _).mono ?_
      rintro e w' ⟨rfl, rfl⟩
      rw [kv2]
      go_wp2_with fail
      refine bodyPost_ret (v := blankV _ n f s A m c) (by simp [results, Try.results54, go_sem, blankV]) rfl ⟨rfl, ?_⟩
      exact ((Below.refl _ _).alloc (Nat.le_refl _) _).alloc (by simp) _
    · clear h
      have tinteger := ta_text_integer
      have tfloat := ta_text_float
      have ttext := ta_text_text
      have tlist := ta_text_list
      go_enter Try.func54, Try.ntmps54
      go_wp2_with fail
      refine (O.out _ _).mono ?_
      rintro e w' ⟨rfl, rfl⟩
      rw [kv3]
      go_wp2_with fail
      refine bodyPost_ret (v := blankV _ n f s A m c) (by simp [results, Try.results54, go_sem, blankV]) rfl ⟨rfl, ?_⟩
      exact ((Below.refl _ _).alloc (Nat.le_refl _) _).alloc (by simp) _
    · clear h
      have tinteger := ta_list_integer
      have tfloat := ta_list_float
      have ttext := ta_list_text
      have tlist := ta_list_list
      go_enter Try.func54, Try.ntmps54
      go_wp2_with fail
      refine (O.out _ _).mono ?_
      rintro e w' ⟨rfl, rfl⟩
      rw [kv4]
      go_wp2_with fail
      refine bodyPost_ret (v := blankV _ n f s A m c) (by simp [results, Try.results54, go_sem, blankV]) rfl ⟨rfl, ?_⟩
      exact ((Below.refl _ _).alloc (Nat.le_refl _) _).alloc (by simp) _
  · have hk : kindV k = .nilIface := by unfold kindV; rw [if_neg (by omega), if_neg (by omega), if_neg (by omega), if_neg (by omega), if_neg (by omega)]
    have HK := Lib.hid hk; clear hk
    have HB : Hid (blankV k n f s A m c = .agg #[.int .i64 k, .int .i64 n, .float .f64 f, .string s, .slice A m c]) := Lib.hid (by unfold blankV; rw [if_neg (by omega), if_neg (by omega), if_neg (by omega), if_neg (by omega)])
    clear h
    have tinteger := ta_nil_integer
    have tfloat := ta_nil_float
    have ttext := ta_nil_text
    have tlist := ta_nil_list
    go_enter Try.func54, Try.ntmps54
    go_wp2_with fail
    refine (O.out _ _).mono ?_
    rintro e w' ⟨rfl, rfl⟩
    rw [HK.out]
    go_wp2_with fail
    rw [HB.out]
    refine bodyPost_ret (v := .agg #[.int .i64 k, .int .i64 n, .float .f64 f, .string s, .slice A m c]) (by simp [results, Try.results54, go_sem]) rfl ⟨rfl, ?_⟩
    exact ((Below.refl _ _).alloc (Nat.le_refl _) _).alloc (by simp) _
end Vt
end Go.Proofs.Ytpneejlilgepfaa
