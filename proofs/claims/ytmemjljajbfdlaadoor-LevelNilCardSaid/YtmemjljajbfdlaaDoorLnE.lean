/- Back, Of and Equal of at most one item. -/
import Derived.Test.YtmemjljajbfdlaaDoorLnD
import Derived.Lib.AppendZeros
namespace Go.Proofs.YtmemjljajbfdlaaDoor
open Go.RowKit
set_option linter.unusedVariables false
namespace Ln
open Lv (W64 slotOf slotOf_lt fresh ret_int ret_bool slot_any rslot_any)

theorem wpList_one {ops : Array Oper} {rest : List Oper} {o : Oper} {a : Act} {Q : Exit → Act → World → Prop} (W : World) (hgd : o.guard = none) (s x : Operand)
    (ho : o.op = .call { callee := .builtin .append, args := #[s, x], argTypes := #[22, 22] }) (g c i t : Nat) (hv : a.eval s = .slice none 0 0) (hx : a.eval x = .slice (some ⟨g, 0, none⟩) 1 c) (h1 : One W g i t)
    (h : ∀ g2 c2 W', 1 ≤ c2 → c2 ≤ maxLen → One W' g2 i t → Below W.heap.size W W' → wpList Tryd.prog ops Q rest (a.put o.dst (.slice (some ⟨g2, 0, none⟩) 1 c2)) W') : wpList Tryd.prog ops Q (o :: rest) a W := by
  obtain ⟨g2, c2, W', hr, q1, q2, q3, q4⟩ := one_append o.type g c i t h1
  exact Lib.wpList_append_run W hgd s x _ _ ho _ _ hv hx _ W' hr (h g2 c2 W' q1 q2 q3 q4)

theorem one_new (w : World) (i a : Nat) (ty : TypeId) : One (w.alloc (.cells #[.int .u64 i, .int .u64 a] ty)) w.heap.size i a := by
  have h : (w.alloc (.cells #[.int .u64 i, .int .u64 a] ty)).heap[w.heap.size]? = some (.cells #[.int .u64 i, .int .u64 a] ty (0, 0)) := heap_alloc_new w _
  exact ⟨(Array.getElem?_eq_some_iff.1 h).1, by unfold World.cell?; rw [h]; rfl, by unfold World.cell?; rw [h]; rfl⟩

theorem back_nil (c : Nat) (w : World) : Calls Tryd.prog 11 #[.slice none 0 c] w fun e w' => e = .returned (.slice none 0 0) ∧ w' = w := by
  go_enter Tryd.func11, Tryd.ntmps11
  go_wp2_with fail
  go_loop [3, 8] (fun o j => o = .slice none 0 0 ∧ j = .int .i64 0) (fun _ _ => 0)
  case atStart => exact ⟨rfl, rfl⟩
  case round =>
    obtain ⟨rfl, rfl⟩ := hrel
    go_wp2_with fail
    go_ret
    exact ⟨rfl, rfl⟩

set_option maxRecDepth 100000 in
theorem back_one (g c i a : Nat) (hc : 1 ≤ c) (w : World) (h : One w g i a) : Calls Tryd.prog 11 #[.slice (some ⟨g, 0, none⟩) 1 c] w fun e w' => ∃ g2 c2, e = .returned (.slice (some ⟨g2, 0, none⟩) 1 c2) ∧ 1 ≤ c2 ∧ One w' g2 i a ∧ Below w.heap.size w w' := by
  obtain ⟨W1, hW1⟩ : ∃ W, W = w.alloc (.cells #[.int .u64 i, .int .u64 a] 30) := ⟨_, rfl⟩
  obtain ⟨W2, hW2⟩ : ∃ W, W = W1.alloc (.cells #[.int .u64 i, .int .u64 a] 28) := ⟨_, rfl⟩
  have hs1 : W1.heap.size = w.heap.size + 1 := by rw [hW1]; simp
  have h2 : Hid (One W2 (w.heap.size + 1) i a) := Lib.hid (by rw [hW2, ← hs1]; exact one_new _ _ _ _)
  have hb2 : Hid (Below w.heap.size w W2) := Lib.hid (by rw [hW2]; exact Below.alloc (by rw [hW1]; exact (Below.refl _ _).alloc (Nat.le_refl _) _) (by omega) _)
  obtain ⟨h0, c0, c1⟩ := h
  replace hW1 := Lib.hid hW1
  replace hW2 := Lib.hid hW2
  go_enter Tryd.func11, Tryd.ntmps11
  go_wp2_with fail
  go_loopw [3, 8] (fun o j wr => (j = .int .i64 0 ∧ o = .slice none 0 0 ∧ wr = w) ∨ (j = .int .i64 1 ∧ ∃ g2 c2, o = .slice (some ⟨g2, 0, none⟩) 1 c2 ∧ 1 ≤ c2 ∧ One wr g2 i a ∧ Below w.heap.size w wr)) (fun _ j _ => 1 - (intOf j).toNat)
  case atStart => exact .inl ⟨rfl, rfl, rfl⟩
  case round =>
    rcases hrel with ⟨rfl, rfl, rfl⟩ | ⟨rfl, g2, c2, rfl, q1, q2, q3⟩
    · go_wp2_with (at_builtin; rw [← hW1.out, ← hW2.out]; refine wpList_one _ rfl _ _ rfl _ _ i a rfl rfl h2.out ?_; intro g2 c2 W' q1 q2 q3 q4; have Q3 := Lib.hid q3; have Q4 := Lib.hid (hb2.out.trans (q4.mono hb2.out.size)); clear q3 q4)
      exact ⟨.inr ⟨by go_num, g2, c2, rfl, q1, Q3.out, Q4.out⟩, by simp [intOf]⟩
    · have Q2 := Lib.hid q2
      have Q3 := Lib.hid q3
      clear q2 q3
      go_wp2_with fail
      go_ret
      exact ⟨g2, c2, rfl, q1, Q2.out, Q3.out⟩

set_option maxRecDepth 100000 in
theorem of_no (k : Nat) (hk : k ≤ 3) (s : Int) (g c i a : Nat) (ha : a < 18446744073709551616) (hc : 1 ≤ c) (hne : (slotOf k a : Int) ≠ s) (w : World) (h : One w g i a) : Calls Tryd.prog 13 #[.int .i64 k, .slice (some ⟨g, 0, none⟩) 1 c, .int .i64 s] w fun e w' => e = .returned (.slice none 0 0) ∧ w' = w := by
  have HR := Lib.hid fun w => rslot_any k hk a ha w
  obtain ⟨x, hx⟩ : ∃ x : Nat, x = slotOf k a := ⟨_, rfl⟩
  rw [← hx] at HR hne
  clear hx
  obtain ⟨h0, c0, c1⟩ := h
  go_enter Tryd.func13, Tryd.ntmps13
  go_wp2_with fail
  go_loop [7, 8] (fun o j => o = .slice none 0 0 ∧ (j = .int .i64 0 ∨ j = .int .i64 1)) (fun _ j => 1 - (intOf j).toNat)
  case atStart => exact ⟨rfl, .inl rfl⟩
  case round =>
    obtain ⟨rfl, rfl | rfl⟩ := hrel
    · go_wp2_with fail
      refine (HR.out _).mono ?_
      rintro e w1 ⟨rfl, rfl⟩
      go_wp2_with fail
      exact ⟨⟨rfl, .inr (by go_num)⟩, by simp [intOf]⟩
    · go_wp2_with fail
      go_ret
      exact ⟨rfl, rfl⟩

set_option maxRecDepth 100000 in
theorem of_one (k : Nat) (hk : k ≤ 3) (g c i a : Nat) (ha : a < 18446744073709551616) (hc : 1 ≤ c) (w : World) (h : One w g i a) : Calls Tryd.prog 13 #[.int .i64 k, .slice (some ⟨g, 0, none⟩) 1 c, .int .i64 (slotOf k a)] w fun e w' => ∃ g2 c2, e = .returned (.slice (some ⟨g2, 0, none⟩) 1 c2) ∧ 1 ≤ c2 ∧ One w' g2 i a ∧ Below w.heap.size w w' := by
  have HR := Lib.hid fun w => rslot_any k hk a ha w
  obtain ⟨x, hx⟩ : ∃ x : Nat, x = slotOf k a := ⟨_, rfl⟩
  rw [← hx] at HR ⊢
  clear hx
  obtain ⟨W2, hW2⟩ : ∃ W, W = w.alloc (.cells #[.int .u64 i, .int .u64 a] 28) := ⟨_, rfl⟩
  have h2 : Hid (One W2 w.heap.size i a) := Lib.hid (by rw [hW2]; exact one_new _ _ _ _)
  have hb2 : Hid (Below w.heap.size w W2) := Lib.hid (by rw [hW2]; exact (Below.refl _ _).alloc (Nat.le_refl _) _)
  replace hW2 := Lib.hid hW2
  obtain ⟨h0, c0, c1⟩ := h
  go_enter Tryd.func13, Tryd.ntmps13
  go_wp2_with fail
  go_loopw [7, 8] (fun o j wr => (j = .int .i64 0 ∧ o = .slice none 0 0 ∧ wr = w) ∨ (j = .int .i64 1 ∧ ∃ g2 c2, o = .slice (some ⟨g2, 0, none⟩) 1 c2 ∧ 1 ≤ c2 ∧ One wr g2 i a ∧ Below w.heap.size w wr)) (fun _ j _ => 1 - (intOf j).toNat)
  case atStart => exact .inl ⟨rfl, rfl, rfl⟩
  case round =>
    rcases hrel with ⟨rfl, rfl, rfl⟩ | ⟨rfl, g2, c2, rfl, q1, q2, q3⟩
    · go_wp2_with fail
      refine (HR.out _).mono ?_
      rintro e w1 ⟨rfl, rfl⟩
      go_wp2_with (at_builtin; rw [← hW2.out]; refine wpList_one _ rfl _ _ rfl _ _ i a rfl rfl h2.out ?_; intro g2 c2 W' q1 q2 q3 q4; have Q3 := Lib.hid q3; have Q4 := Lib.hid (hb2.out.trans (q4.mono hb2.out.size)); clear q3 q4)
      exact ⟨.inr ⟨by go_num, g2, c2, rfl, q1, Q3.out, Q4.out⟩, by simp [intOf]⟩
    · have Q2 := Lib.hid q2
      have Q3 := Lib.hid q3
      clear q2 q3
      go_wp2_with fail
      go_ret
      exact ⟨g2, c2, rfl, q1, Q2.out, Q3.out⟩

theorem eq_nil (w : World) : Calls Tryd.prog 14 #[.slice none 0 0, .slice none 0 0] w fun e w' => e = .returned (.bool true) ∧ w' = w := by
  go_enter Tryd.func14, Tryd.ntmps14
  go_wp2_with fail
  go_loop [13] (fun j => j = .int .i64 0) (fun _ => 0)
  case atStart => rfl
  case round =>
    obtain rfl := hrel
    go_wp2_with fail
    go_ret
    exact ⟨rfl, rfl⟩

set_option maxRecDepth 100000 in
theorem eq_one (g c g' c' i a : Nat) (hc : 1 ≤ c) (hc' : 1 ≤ c') (w : World) (h : One w g i a) (h' : One w g' i a) : Calls Tryd.prog 14 #[.slice (some ⟨g, 0, none⟩) 1 c, .slice (some ⟨g', 0, none⟩) 1 c'] w fun e w' => e = .returned (.bool true) ∧ Below w.heap.size w w' := by
  obtain ⟨h0, c0, c1⟩ := h
  obtain ⟨h0', c0', c1'⟩ := h'
  go_enter Tryd.func14, Tryd.ntmps14
  go_wp2_with fail
  go_loopw [13] (fun j wr => (j = .int .i64 0 ∨ j = .int .i64 1) ∧ Below w.heap.size w wr) (fun j _ => 1 - (intOf j).toNat)
  case atStart => exact ⟨.inl rfl, Below.refl _ _⟩
  case round =>
    obtain ⟨rfl | rfl, hb⟩ := hrel
    · have d0 := (hb.cell (p := ⟨g, 0, none⟩) h0).trans c0
      have d1 := (hb.cell (p := ⟨g, 1, none⟩) h0).trans c1
      have d0' := (hb.cell (p := ⟨g', 0, none⟩) h0').trans c0'
      have d1' := (hb.cell (p := ⟨g', 1, none⟩) h0').trans c1'
      have HB := Lib.hid hb
      clear hb
      go_wp2_with fail
      go_region
      all_goals go_wp2_with fail
      all_goals exact ⟨⟨.inr (by go_num), HB.out.drew⟩, by simp [intOf]⟩
    · go_wp2_with fail
      go_ret
      exact ⟨rfl, hb⟩
end Ln
end Go.Proofs.YtmemjljajbfdlaaDoor
