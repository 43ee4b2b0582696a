/- value.form and value.Bytes of a value of kind 0. -/
import Derived.Test.YtpneejlilgepfaaBtD
import Derived.Test.YtpneejlilgepfaaVtG
import Derived.Test.YtpneejlilgepfaaEvC
import Derived.Deep.RegionWith
import Derived.Deep.CutRange
import Derived.Laws.EntriesVeiled
import Derived.StillTailTactics
namespace Go.Proofs.Ytpneejlilgepfaa
open Go.RowKit
set_option linter.unusedVariables false
namespace Bt
open Nm (ret_int ret_bool)
open Vt (VT Rep BoxAt below_drew)
open Ev (take_drop cons_drop)

theorem none_bytes (x v : Value) (vn : Int) (vf : Nat) (vs : ByteArray) (A : Option Addr) (m c : Nat) (vk : Int) (w : World) :
    Calls Try.prog 97 #[.agg #[], .agg #[.int .i64 vk, .int .i64 vn, .float .f64 vf, .string vs, .slice A m c]] w fun e w' => e = .returned (.slice none 0 0) ∧ Below w.heap.size w w' := by
  go_enter Try.func97, Try.ntmps97
  go_wp2_with fail
  go_ret
  exact ⟨rfl, ((Below.refl _ _).alloc (Nat.le_refl _) _).alloc (by simp) _⟩

theorem step_append_bytes {ops : Array Oper} {o : Oper} {a : Act} {K : Act → World → Prop} {Q : Exit → Act → World → Prop} {E : Prop} (W : World) (hgd : o.guard = none) (s x : Operand)
    (ho : o.op = .call { callee := .builtin .append, args := #[s, x], argTypes := #[40, 40] }) (base : Nat) (v src : Value) (l m : List Nat) (hv : a.eval s = v) (hx : a.eval x = src) (hown : BOwn W base v l) (hs : BIn W src m) (hlen : l.length + m.length ≤ 35184372088832) (hbase : base ≤ W.heap.size)
    (h : ∀ v' W', BOwn W' base v' (l ++ m) → W.grownBy W' v.ownBlock → Below base W W' → K (a.put o.dst v') W') : if Region.wanted o (yielded ops a.tmps) = true then Oper.wp Try.prog o a W K Q else E := by
  have hw : Region.wanted o (yielded ops a.tmps) = true := by simp [Region.wanted, hgd]
  rw [if_pos hw]
  obtain ⟨v', W', hr, h1, h2⟩ := run_append_bytes o.type hown hs hlen hbase
  exact Lib.wp_append_run W s x _ _ ho v src hv hx v' W' hr (h v' W' h1 h2 ((Below.refl base W).grown h2 hbase hown.row_ge))

theorem m_none_bytes (n : Nat) (w : World) : (method (n + 1) 95 (.agg #[]) "clockwork/value.bytes").run Try.prog w = .ok (97, .agg #[]) w := by kernel_rfl

set_option maxRecDepth 100000 in
set_option maxHeartbeats 400000 in
theorem form0 (vn : Int) (vf : Nat) (vs : ByteArray) (A : Option Addr) (m c : Nat) (w : World) :
    Calls Try.prog 48 #[.agg #[.int .i64 0, .int .i64 vn, .float .f64 vf, .string vs, .slice A m c]] w fun e w' => ∃ v, e = .returned v ∧ BOwn w' w.heap.size v [0] ∧ Below w.heap.size w w' := by
  obtain ⟨W0, hW0⟩ : ∃ W0, W0 = w.alloc (.cells #[.int .i64 0, .int .i64 vn, .float .f64 vf, .string vs, .slice A m c] 33) := ⟨_, rfl⟩
  have hB0 : Below w.heap.size w W0 := by rw [hW0]; exact (Below.refl _ _).alloc (Nat.le_refl _) _
  have hbx : BoxAt W0 w.heap.size 0 vn vf vs A m c := by rw [hW0]; exact BoxAt.new ..
  have hz : w.heap.size < W0.heap.size := by rw [hW0]; simp
  have HBX : Hid (∀ W, Below W0.heap.size W0 W → BoxAt W w.heap.size 0 vn vf vs A m c) := Lib.hid fun W hW => hbx.later hW hz
  have HU : Hid (∀ W, Calls Try.prog 29 #[.int .u64 0] W fun e w' => ∃ v, e = .returned v ∧ BOwn w' W.heap.size v [0] ∧ Below W.heap.size W w') := Lib.hid fun W => uint_any 0 (by omega) W
  have HO : Hid (∀ W, Calls Try.prog 55 #[.int .i64 0] W fun e w' => e = .returned (.iface 95 (.agg #[])) ∧ W = w') := Lib.hid fun W => Vt.of_any 0 W
  have HNB := Lib.hid fun W => none_bytes undef undef vn vf vs A m c 0 W
  have HB0 := Lib.hid hB0
  have hM := m_none_bytes
  obtain ⟨c0, c1, c2, c3, c4⟩ := hbx.cells
  clear hB0 hbx
  replace hW0 := Lib.hid hW0
  go_enter Try.func48, Try.ntmps48
  go_upto_region 1 with fail
  rw [← hW0.out]
  have HS : Hid (∀ W, Below W0.heap.size W0 W → (W.cell? ⟨w.heap.size, 0, none⟩ = some (.int .i64 0) ∧ W.cell? ⟨w.heap.size, 1, none⟩ = some (.int .i64 vn) ∧ W.cell? ⟨w.heap.size, 2, none⟩ = some (.float .f64 vf) ∧ W.cell? ⟨w.heap.size, 3, none⟩ = some (.string vs) ∧ W.cell? ⟨w.heap.size, 4, none⟩ = some (.slice A m c))) := Lib.hid fun W hW => (HBX.out W hW).cells
  refine wp_region_noPanic ?_
  refine wp_region_held_drew (S := (fun w' : World => w'.cell? ⟨w.heap.size, 0, none⟩ = some (.int .i64 0) ∧ w'.cell? ⟨w.heap.size, 1, none⟩ = some (.int .i64 vn) ∧ w'.cell? ⟨w.heap.size, 2, none⟩ = some (.float .f64 vf) ∧ w'.cell? ⟨w.heap.size, 3, none⟩ = some (.string vs) ∧ w'.cell? ⟨w.heap.size, 4, none⟩ = some (.slice A m c))) (by kernel_rfl) ?_ (fun hHeld => ?_)
  · exact HS.out _ (below_drew (Below.refl _ _))
  first
    | (refine take_drop (i := 0) (v := ?_) rfl (by kernel_rfl) (by kernel_rfl) (by kernel_rfl) (fun _ _ _ h => h) (Or.inl ⟨by rfl, ?_⟩) (by assumption) ?_; rotate_left 1; (focus (intro w hSw; (try dsimp only at hSw); go_simp; try with_reducible rfl)); try simp only [Act.put, List.setIfInBounds_toArray, List.set_cons_zero, List.set_cons_succ])
    | (refine take_drop (i := 0) (v := undef) rfl (by kernel_rfl) (by kernel_rfl) (by kernel_rfl) (fun _ _ _ h => h) (Or.inr ⟨by rfl, rfl⟩) (by assumption) ?_; try simp only [Act.put, List.setIfInBounds_toArray, List.set_cons_zero, List.set_cons_succ])
  first
    | (refine take_drop (i := 1) (v := ?_) rfl (by kernel_rfl) (by kernel_rfl) (by kernel_rfl) (fun _ _ _ h => h) (Or.inl ⟨by rfl, ?_⟩) (by assumption) ?_; rotate_left 1; (focus (intro w hSw; (try dsimp only at hSw); go_simp; try with_reducible rfl)); try simp only [Act.put, List.setIfInBounds_toArray, List.set_cons_zero, List.set_cons_succ])
    | (refine take_drop (i := 1) (v := undef) rfl (by kernel_rfl) (by kernel_rfl) (by kernel_rfl) (fun _ _ _ h => h) (Or.inr ⟨by rfl, rfl⟩) (by assumption) ?_; try simp only [Act.put, List.setIfInBounds_toArray, List.set_cons_zero, List.set_cons_succ])
  first
    | (refine take_drop (i := 2) (v := ?_) rfl (by kernel_rfl) (by kernel_rfl) (by kernel_rfl) (fun _ _ _ h => h) (Or.inl ⟨by rfl, ?_⟩) (by assumption) ?_; rotate_left 1; (focus (intro w hSw; (try dsimp only at hSw); go_simp; try with_reducible rfl)); try simp only [Act.put, List.setIfInBounds_toArray, List.set_cons_zero, List.set_cons_succ])
    | (refine take_drop (i := 2) (v := undef) rfl (by kernel_rfl) (by kernel_rfl) (by kernel_rfl) (fun _ _ _ h => h) (Or.inr ⟨by rfl, rfl⟩) (by assumption) ?_; try simp only [Act.put, List.setIfInBounds_toArray, List.set_cons_zero, List.set_cons_succ])
  first
    | (refine take_drop (i := 4) (v := ?_) rfl (by kernel_rfl) (by kernel_rfl) (by kernel_rfl) (fun _ _ _ h => h) (Or.inl ⟨by rfl, ?_⟩) (by assumption) ?_; rotate_left 1; (focus (intro w hSw; (try dsimp only at hSw); go_simp; try with_reducible rfl)); try simp only [Act.put, List.setIfInBounds_toArray, List.set_cons_zero, List.set_cons_succ])
    | (refine take_drop (i := 4) (v := undef) rfl (by kernel_rfl) (by kernel_rfl) (by kernel_rfl) (fun _ _ _ h => h) (Or.inr ⟨by rfl, rfl⟩) (by assumption) ?_; try simp only [Act.put, List.setIfInBounds_toArray, List.set_cons_zero, List.set_cons_succ])
  first
    | (refine take_drop (i := 5) (v := ?_) rfl (by kernel_rfl) (by kernel_rfl) (by kernel_rfl) (fun _ _ _ h => h) (Or.inl ⟨by rfl, ?_⟩) (by assumption) ?_; rotate_left 1; (focus (intro w hSw; (try dsimp only at hSw); go_simp; try with_reducible rfl)); try simp only [Act.put, List.setIfInBounds_toArray, List.set_cons_zero, List.set_cons_succ])
    | (refine take_drop (i := 5) (v := undef) rfl (by kernel_rfl) (by kernel_rfl) (by kernel_rfl) (fun _ _ _ h => h) (Or.inr ⟨by rfl, rfl⟩) (by assumption) ?_; try simp only [Act.put, List.setIfInBounds_toArray, List.set_cons_zero, List.set_cons_succ])
  first
    | (refine take_drop (i := 7) (v := ?_) rfl (by kernel_rfl) (by kernel_rfl) (by kernel_rfl) (fun _ _ _ h => h) (Or.inl ⟨by rfl, ?_⟩) (by assumption) ?_; rotate_left 1; (focus (intro w hSw; (try dsimp only at hSw); go_simp; try with_reducible rfl)); try simp only [Act.put, List.setIfInBounds_toArray, List.set_cons_zero, List.set_cons_succ])
    | (refine take_drop (i := 7) (v := undef) rfl (by kernel_rfl) (by kernel_rfl) (by kernel_rfl) (fun _ _ _ h => h) (Or.inr ⟨by rfl, rfl⟩) (by assumption) ?_; try simp only [Act.put, List.setIfInBounds_toArray, List.set_cons_zero, List.set_cons_succ])
  refine wpAnyH_ready (rs := [3]) (by kernel_rfl) (by simp) ?_
  refine cons_drop rfl (fun K hK => ?_) AllReadyH.nil
  go_simp
  refine (HU.out _).mono ?_
  rintro e w1 ⟨v1, rfl, ho1, hb1⟩
  have h1B : Hid (Below W0.heap.size W0 w1) := Lib.hid ((below_drew (Below.refl _ _)).trans hb1)
  have HO1 := Lib.hid ho1
  clear ho1 hb1
  go_wp2_with fail
  refine hK.out _ _ (HS.out _ h1B.out) (fun h1 => ?_)
  clear hK K hHeld
  try simp only [Act.put, List.setIfInBounds_toArray, List.set_cons_zero, List.set_cons_succ]
  refine wpAnyH_ready (rs := [6]) (by kernel_rfl) (by simp) ?_
  refine cons_drop rfl (fun K hK => ?_) AllReadyH.nil
  go_simp
  refine (HO.out _).mono ?_
  rintro e w2 ⟨rfl, rfl⟩
  have h2B := h1B
  go_wp2_with fail
  refine hK.out _ _ (HS.out _ h2B.out) (fun h2 => ?_)
  clear hK K h1
  try simp only [Act.put, List.setIfInBounds_toArray, List.set_cons_zero, List.set_cons_succ]
  refine wpAnyH_ready (rs := [8]) (by kernel_rfl) (by simp) ?_
  refine cons_drop rfl (fun K hK => ?_) AllReadyH.nil
  go_simp
  refine (HNB.out _).mono ?_
  rintro e w3 ⟨rfl, hb3⟩
  have h3B : Hid (Below W0.heap.size W0 w3) := Lib.hid (h1B.out.trans (hb3.mono h1B.out.size))
  have HO3 := Lib.hid (HO1.out.later hb3)
  clear hb3
  go_wp2_with fail
  refine hK.out _ _ (HS.out _ h3B.out) (fun h3 => ?_)
  clear hK K h2
  try simp only [Act.put, List.setIfInBounds_toArray, List.set_cons_zero, List.set_cons_succ]
  refine wpAnyH_ready (rs := [9]) (by kernel_rfl) (by simp) ?_
  refine cons_drop rfl (fun K hK => ?_) AllReadyH.nil
  refine step_append_bytes _ rfl (.tmp 6) (.tmp 11) rfl W0.heap.size v1 (.slice none 0 0) [0] [] (by simp [Act.eval]) (by simp [Act.eval]) HO3.out (.inl ⟨rfl, rfl⟩) (by simp) h3B.out.size ?_
  intro v4 w4 hown4 hg4 hb4
  have h4B := Lib.hid (h3B.out.trans hb4)
  refine hK.out _ _ (HS.out _ h4B.out) (fun h4 => ?_)
  clear hK K h3
  try simp only [Act.put, List.setIfInBounds_toArray, List.set_cons_zero, List.set_cons_succ]
  first
    | (refine take_drop (i := 10) (v := ?_) rfl (by kernel_rfl) (by kernel_rfl) (by kernel_rfl) (fun _ _ _ h => h) (Or.inl ⟨by rfl, ?_⟩) (by assumption) ?_; rotate_left 1; (focus (intro w hSw; (try dsimp only at hSw); go_simp; try with_reducible rfl)); try simp only [Act.put, List.setIfInBounds_toArray, List.set_cons_zero, List.set_cons_succ])
    | (refine take_drop (i := 10) (v := undef) rfl (by kernel_rfl) (by kernel_rfl) (by kernel_rfl) (fun _ _ _ h => h) (Or.inr ⟨by rfl, rfl⟩) (by assumption) ?_; try simp only [Act.put, List.setIfInBounds_toArray, List.set_cons_zero, List.set_cons_succ])
  refine wpAnyH_done (by kernel_rfl) ?_ _
  refine NoPanic.normal ?_
  go_wp2_with fail
  go_ret
  exact ⟨v4, rfl, hown4.base HB0.out.size, HB0.out.trans (h4B.out.mono HB0.out.size)⟩

set_option maxRecDepth 100000 in
set_option maxHeartbeats 400000 in
theorem vbytes0 (t : VT) (lo hi : Nat) (vn : Int) (vf : Nat) (vs : ByteArray) (A : Option Addr) (m c : Nat) (w : World) (hv : Rep w lo hi t (.agg #[.int .i64 0, .int .i64 vn, .float .f64 vf, .string vs, .slice A m c])) (hz : hi ≤ w.heap.size) (hval : t.valid 8 = true) :
    Calls Try.prog 38 #[.agg #[.int .i64 0, .int .i64 vn, .float .f64 vf, .string vs, .slice A m c]] w fun e w' => ∃ v, e = .returned (.tuple #[v, .bool true]) ∧ BOwn w' w.heap.size v [0] ∧ Below w.heap.size w w' := by
  obtain ⟨W0, hW0⟩ : ∃ W0, W0 = w.alloc (.cells #[.int .i64 0, .int .i64 vn, .float .f64 vf, .string vs, .slice A m c] 33) := ⟨_, rfl⟩
  have hB0 : Below w.heap.size w W0 := by rw [hW0]; exact (Below.refl _ _).alloc (Nat.le_refl _) _
  have hbx : BoxAt W0 w.heap.size 0 vn vf vs A m c := by rw [hW0]; exact BoxAt.new ..
  have hz0 : w.heap.size < W0.heap.size := by rw [hW0]; simp
  have HBX : Hid (∀ W, Below W0.heap.size W0 W → BoxAt W w.heap.size 0 vn vf vs A m c) := Lib.hid fun W hW => hbx.later hW hz0
  have HV := Lib.hid (Vt.valid_any t W0 lo hi _ (hv.later (hB0.mono hz)) (Nat.le_trans hz hB0.size))
  rw [hval] at HV
  have HF := Lib.hid fun W => form0 vn vf vs A m c W
  have HB0 := Lib.hid hB0
  obtain ⟨c0, c1, c2, c3, c4⟩ := hbx.cells
  clear hB0 hbx hv
  replace hW0 := Lib.hid hW0
  go_enter Try.func38, Try.ntmps38
  go_upto_region 1 with fail
  rw [← hW0.out]
  go_wp2_with fail
  refine HV.out.mono ?_
  rintro e w1 ⟨rfl, hb1⟩
  obtain ⟨d0, d1, d2, d3, d4⟩ := (HBX.out w1 hb1).cells
  have HB1 := Lib.hid hb1
  clear hb1 c0 c1 c2 c3 c4
  go_wp2_with fail
  refine (HF.out _).mono ?_
  rintro e w2 ⟨v, rfl, hown, hb2⟩
  have HO2 := Lib.hid hown
  have HB2 := Lib.hid hb2
  clear hown hb2
  go_wp2_with fail
  have hz1 := Nat.le_trans HB0.out.size HB1.out.size
  exact bodyPost_ret (v := .tuple #[v, .bool true]) (by simp [results, Try.results38, go_sem]) rfl ⟨v, rfl, HO2.out.base hz1, HB0.out.trans ((HB1.out.trans (HB2.out.mono HB1.out.size)).mono HB0.out.size)⟩
end Bt
end Go.Proofs.Ytpneejlilgepfaa
