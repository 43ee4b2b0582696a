/- Texts: value.Text of kinds 0 and 3, quoted, small numbers. -/
/- event.Text of a valid event whose parts' texts are known. -/
import Derived.Test.YtcbddebmmaflgaaGreatDoorMsas
import Derived.Lib.BufferRead
import Derived.Lib.AtoiErrMem
import Derived.Shelf.Strings.OnBuilder
namespace Go.Proofs.YtcbddebmmaflgaaGreatDoor
open Go.RowKit
set_option linter.unusedVariables false
namespace Bt
open _root_.Go.Proofs.YtcbddebmmaflgaaGreatDoor.Nm (ret_int ret_bool)
open Vt (VT Rep BoxAt below_drew)
open Ev (take_drop cons_drop)

theorem m_none_text (n : Nat) (w : World) : (method (n + 1) 148 (.agg #[]) "clockwork/value.text").run Tryz.prog w = .ok (188, .agg #[]) w := by kernel_rfl
theorem m_text_text (n : Nat) (w : World) : (method (n + 1) 142 (.agg #[]) "clockwork/value.text").run Tryz.prog w = .ok (182, .agg #[]) w := by kernel_rfl

theorem none_text (vn : Int) (vf : Nat) (vs : ByteArray) (A : Option Addr) (m c k : Nat) (w : World) :
    Calls Tryz.prog 188 #[.agg #[], .agg #[.int .i64 k, .int .i64 vn, .float .f64 vf, .string vs, .slice A m c]] w fun e w' => e = .returned (.string ⟨#[110, 105, 108]⟩) ∧ Below w.heap.size w w' := by
  go_enter Tryz.func188, Tryz.ntmps188
  go_wp2_with fail
  go_ret
  exact ⟨rfl, ((Below.refl _ _).alloc (Nat.le_refl _) _).alloc (by simp) _⟩

set_option maxRecDepth 100000 in
/-- What the empty text reads. -/
theorem text_text0 (vn : Int) (vf : Nat) (A : Option Addr) (m c k : Nat) (w : World) :
    Calls Tryz.prog 182 #[.agg #[], .agg #[.int .i64 k, .int .i64 vn, .float .f64 vf, .string ⟨#[]⟩, .slice A m c]] w fun e w' => e = .returned (.string ⟨#[34, 34]⟩) ∧ Below w.heap.size w w' := by
  obtain ⟨W1, hW1⟩ : ∃ W, W = w.alloc (.cells #[] 142) := ⟨_, rfl⟩
  obtain ⟨W2, hW2⟩ : ∃ W, W = W1.alloc (.cells #[.int .i64 k, .int .i64 vn, .float .f64 vf, .string ⟨#[]⟩, .slice A m c] 30) := ⟨_, rfl⟩
  obtain ⟨W3, hW3⟩ : ∃ W, W = W2.alloc (.cells #[.int .u8 34] 5) := ⟨_, rfl⟩
  have hs1 : W1.heap.size = w.heap.size + 1 := by rw [hW1]; simp
  have hs2 : W2.heap.size = w.heap.size + 1 + 1 := by rw [hW2]; simp [hs1]
  have h2 : W2.heap[w.heap.size + 1]? = some (.cells #[.int .i64 k, .int .i64 vn, .float .f64 vf, .string ⟨#[]⟩, .slice A m c] 30 (0, 0)) := by rw [hW2, ← hs1]; exact heap_alloc_new _ _
  have h3 : W3.heap[w.heap.size + 1 + 1]? = some (.cells #[.int .u8 34] 5 (0, 0)) := by rw [hW3, ← hs2]; exact heap_alloc_new _ _
  have hb3 : Below W2.heap.size W2 W3 := by rw [hW3]; exact (Below.refl _ _).alloc (Nat.le_refl _) _
  have hb2 : Below w.heap.size w W2 := by rw [hW2]; exact Below.alloc (by rw [hW1]; exact (Below.refl _ _).alloc (Nat.le_refl _) _) (by omega) _
  have HB3 : Hid (Below w.heap.size w W3) := Lib.hid (hb2.trans (hb3.mono (by omega)))
  have c3 : W3.cell? ⟨w.heap.size + 1, 3, none⟩ = some (.string ⟨#[]⟩) := by
    rw [hb3.cell (p := ⟨w.heap.size + 1, 3, none⟩) (by simp only []; omega)]
    simp [World.cell?, h2]
  have HO3 : Hid (BOwn W3 w.heap.size (.slice (some ⟨w.heap.size + 1 + 1, 0, none⟩) 1 1) [34]) := Lib.hid (by
    refine ⟨rfl, .inr ⟨w.heap.size + 1 + 1, 1, #[.int .u8 34], rfl, by omega, h3, by simp, by decide, rfl, rfl⟩⟩)
  obtain ⟨W4, hW4⟩ : ∃ W, W = Lib.bytesWorld W3 5 ⟨#[]⟩ := ⟨_, rfl⟩
  have hb4 : Below W3.heap.size W3 W4 := by rw [hW4]; exact Lib.bytesWorld_below _ _ _
  have hcv : (convert 9 22 (.string ⟨#[]⟩)).run Tryz.prog W3 = .ok (.slice (some ⟨W3.heap.size, 0, none⟩) 0 (grownCap W3 0 0 5)) W4 := by rw [hW4]; exact Lib.run_convert_string_bytes W3 _ _ _ ⟨#[]⟩ Tryz.underlying9 Tryz.underlying22 Tryz.underlying5
  generalize grownCap W3 0 0 5 = cc at *
  have HB4 : Hid (Below w.heap.size w W4) := Lib.hid (HB3.out.trans (hb4.mono HB3.out.size))
  have HO4 := Lib.hid (HO3.out.later hb4)
  clear hb4 HO3
  rw [hW2, hW1] at hW3
  replace hW3 := Lib.hid hW3
  replace hW4 := Lib.hid hW4
  clear hs1 hs2 h2 h3 hb3 hb2 hW2 hW1
  go_enter Tryz.func182, Tryz.ntmps182
  go_upto_region 2 with fail
  rw [← hW3.out]
  go_wp2_with (rw [hcv])
  go_loop [5, 13] (fun o i => o = .slice (some ⟨w.heap.size + 1 + 1, 0, none⟩) 1 1 ∧ i = .int .i64 0) (fun _ _ => 0)
  case atStart => exact ⟨rfl, rfl⟩
  case round =>
    obtain ⟨rfl, rfl⟩ := hrel
    obtain ⟨W5, hW5⟩ : ∃ W, W = W4.alloc (.cells #[.int .u8 34] 5) := ⟨_, rfl⟩
    have hb5 : Below W4.heap.size W4 W5 := by rw [hW5]; exact (Below.refl _ _).alloc (Nat.le_refl _) _
    have HB5 : Hid (Below w.heap.size w W5) := Lib.hid (HB4.out.trans (hb5.mono HB4.out.size))
    have hown := HO4.out.later hb5
    have hin : BIn W5 (.slice (some ⟨W4.heap.size, 0, none⟩) 1 1) [34] := .inr ⟨_, 1, rfl, by simp, by decide, by rw [hW5]; simp, fun j u hu => by
      rcases j with _ | j
      · have hv : Value.int .u8 34 = u := by simpa [bv] using hu
        rw [← hv, hW5]
        show World.cell? _ ⟨W4.heap.size, 0, none⟩ = _
        unfold World.cell?; rw [heap_alloc_new]; rfl
      · simp at hu⟩
    replace hW5 := Lib.hid hW5
    clear hb5 HO4
    go_wp2_with (at_builtin; rw [← hW5.out]; refine wpList_append_bytes _ rfl _ _ rfl w.heap.size _ _ [34] [34] rfl rfl hown hin (by simp) HB5.out.size ?_; intro v2 w2 hown2 hg2 hb2; have HB6 := Lib.hid (HB5.out.trans hb2); have hcv2 := hown2.read.toText (by simp))
    go_ret
    exact ⟨rfl, HB6.out⟩

theorem small5 (w : World) : Calls Tryz.prog 117 #[.int .i64 5] w fun e w' => e = .returned (.string ⟨#[53]⟩) ∧ w' = w := by
  go_enter Tryz.func117, Tryz.ntmps117
  go_wp2_with fail
  go_ret
  exact ⟨rfl, rfl⟩
theorem small0 (w : World) : Calls Tryz.prog 117 #[.int .i64 0] w fun e w' => e = .returned (.string ⟨#[48]⟩) ∧ w' = w := by
  go_enter Tryz.func117, Tryz.ntmps117
  go_wp2_with fail
  go_ret
  exact ⟨rfl, rfl⟩
theorem ifmt5 (w : World) : Calls Tryz.prog 98 #[.int .u64 5, .int .i64 10] w fun e w' => e = .returned (.string ⟨#[53]⟩) ∧ w' = w := by
  have H := Lib.hid (fun W => small5 W)
  go_enter Tryz.func98, Tryz.ntmps98
  go_wp2_with fail
  refine (H.out _).mono ?_
  rintro e w1 ⟨rfl, rfl⟩
  go_wp2_with fail
  go_ret
  exact ⟨rfl, rfl⟩
theorem fmt5 (w : World) : Calls Tryz.prog 57 #[.int .u64 5, .int .i64 10] w fun e w' => e = .returned (.string ⟨#[53]⟩) ∧ w' = w := by
  have H := Lib.hid (fun W => ifmt5 W)
  go_enter Tryz.func57, Tryz.ntmps57
  go_wp2_with fail
  refine (H.out _).mono ?_
  rintro e w1 ⟨rfl, rfl⟩
  go_wp2_with fail
  go_ret
  exact ⟨rfl, rfl⟩
theorem ifmt0 (w : World) : Calls Tryz.prog 98 #[.int .u64 0, .int .i64 10] w fun e w' => e = .returned (.string ⟨#[48]⟩) ∧ w' = w := by
  have H := Lib.hid (fun W => small0 W)
  go_enter Tryz.func98, Tryz.ntmps98
  go_wp2_with fail
  refine (H.out _).mono ?_
  rintro e w1 ⟨rfl, rfl⟩
  go_wp2_with fail
  go_ret
  exact ⟨rfl, rfl⟩
theorem fmt0 (w : World) : Calls Tryz.prog 57 #[.int .u64 0, .int .i64 10] w fun e w' => e = .returned (.string ⟨#[48]⟩) ∧ w' = w := by
  have H := Lib.hid (fun W => ifmt0 W)
  go_enter Tryz.func57, Tryz.ntmps57
  go_wp2_with fail
  refine (H.out _).mono ?_
  rintro e w1 ⟨rfl, rfl⟩
  go_wp2_with fail
  go_ret
  exact ⟨rfl, rfl⟩
theorem ifmi0 (w : World) : Calls Tryz.prog 121 #[.int .i64 0, .int .i64 10] w fun e w' => e = .returned (.string ⟨#[48]⟩) ∧ w' = w := by
  have H := Lib.hid (fun W => small0 W)
  go_enter Tryz.func121, Tryz.ntmps121
  go_wp2_with fail
  refine (H.out _).mono ?_
  rintro e w1 ⟨rfl, rfl⟩
  go_wp2_with fail
  go_ret
  exact ⟨rfl, rfl⟩
theorem iitoa0 (w : World) : Calls Tryz.prog 99 #[.int .i64 0] w fun e w' => e = .returned (.string ⟨#[48]⟩) ∧ w' = w := by
  have H := Lib.hid (fun W => ifmi0 W)
  go_enter Tryz.func99, Tryz.ntmps99
  go_wp2_with fail
  refine (H.out _).mono ?_
  rintro e w1 ⟨rfl, rfl⟩
  go_wp2_with fail
  go_ret
  exact ⟨rfl, rfl⟩
theorem itoa0 (w : World) : Calls Tryz.prog 58 #[.int .i64 0] w fun e w' => e = .returned (.string ⟨#[48]⟩) ∧ w' = w := by
  have H := Lib.hid (fun W => iitoa0 W)
  go_enter Tryz.func58, Tryz.ntmps58
  go_wp2_with fail
  refine (H.out _).mono ?_
  rintro e w1 ⟨rfl, rfl⟩
  go_wp2_with fail
  go_ret
  exact ⟨rfl, rfl⟩
set_option maxRecDepth 100000 in
set_option maxHeartbeats 400000 in
theorem vtext_none (t : VT) (lo hi : Nat) (vn : Int) (vf : Nat) (vs : ByteArray) (A : Option Addr) (m c : Nat) (w : World) (hv : Rep w lo hi t (.agg #[.int .i64 0, .int .i64 vn, .float .f64 vf, .string vs, .slice A m c])) (hz : hi ≤ w.heap.size) (hval : t.valid 8 = true) (res : ByteArray)
    (hm : ∀ W, Calls Tryz.prog 188 #[.agg #[], .agg #[.int .i64 0, .int .i64 vn, .float .f64 vf, .string vs, .slice A m c]] W fun e w' => e = .returned (.string res) ∧ Below W.heap.size W w') :
    Calls Tryz.prog 60 #[.agg #[.int .i64 0, .int .i64 vn, .float .f64 vf, .string vs, .slice A m c]] w fun e w' => e = .returned (.string res) ∧ Below w.heap.size w w' := by
  obtain ⟨W0, hW0⟩ : ∃ W0, W0 = w.alloc (.cells #[.int .i64 0, .int .i64 vn, .float .f64 vf, .string vs, .slice A m c] 30) := ⟨_, rfl⟩
  have hB0 : Below w.heap.size w W0 := by rw [hW0]; exact (Below.refl _ _).alloc (Nat.le_refl _) _
  have hbx : BoxAt W0 w.heap.size 0 vn vf vs A m c := by rw [hW0]; exact BoxAt.new ..
  have hz0 : w.heap.size < W0.heap.size := by rw [hW0]; simp
  have HBX : Hid (∀ W, Below W0.heap.size W0 W → BoxAt W w.heap.size 0 vn vf vs A m c) := Lib.hid fun W hW => hbx.later hW hz0
  have HV := Lib.hid (Vt.valid_any t W0 lo hi _ (hv.later (hB0.mono hz)) (Nat.le_trans hz hB0.size))
  rw [hval] at HV
  have HO : Hid (∀ W, Calls Tryz.prog 90 #[.int .i64 0] W fun e w' => e = .returned (.iface 148 (.agg #[])) ∧ W = w') := Lib.hid fun W => Vt.of_any 0 W
  have HM := Lib.hid hm
  have hM : ∀ (n : Nat) (w : World), (method (n + 1) 148 (.agg #[]) "clockwork/value.text").run Tryz.prog w = .ok (188, .agg #[]) w := m_none_text
  have HB0 := Lib.hid hB0
  obtain ⟨c0, c1, c2, c3, c4⟩ := hbx.cells
  clear hB0 hbx hv hm
  replace hW0 := Lib.hid hW0
  go_enter Tryz.func60, Tryz.ntmps60
  go_upto_region 1 with fail
  rw [← hW0.out]
  go_wp2_with fail
  refine HV.out.mono ?_
  rintro e w1 ⟨rfl, hb1⟩
  have HB1 := Lib.hid hb1
  clear hb1 c0 c1 c2 c3 c4
  have HS : Hid (∀ W, Below W0.heap.size W0 W → (W.cell? ⟨w.heap.size, 0, none⟩ = some (.int .i64 0) ∧ W.cell? ⟨w.heap.size, 1, none⟩ = some (.int .i64 vn) ∧ W.cell? ⟨w.heap.size, 2, none⟩ = some (.float .f64 vf) ∧ W.cell? ⟨w.heap.size, 3, none⟩ = some (.string vs) ∧ W.cell? ⟨w.heap.size, 4, none⟩ = some (.slice A m c))) := Lib.hid fun W hW => (HBX.out W hW).cells
  have H1D : Hid (Below W0.heap.size W0 w1.drew) := Lib.hid (HB1.out.trans (below_drew (Below.refl _ _) |>.mono HB1.out.size))
  go_upto_region 3 with fail
  refine wp_region_noPanic ?_
  refine wp_region_held_drew (S := (fun w' : World => w'.cell? ⟨w.heap.size, 0, none⟩ = some (.int .i64 0) ∧ w'.cell? ⟨w.heap.size, 1, none⟩ = some (.int .i64 vn) ∧ w'.cell? ⟨w.heap.size, 2, none⟩ = some (.float .f64 vf) ∧ w'.cell? ⟨w.heap.size, 3, none⟩ = some (.string vs) ∧ w'.cell? ⟨w.heap.size, 4, none⟩ = some (.slice A m c))) (by kernel_rfl) ?_ (fun hHeld => ?_)
  · exact HS.out _ H1D.out
  first
    | (refine take_drop (i := 0) (v := ?_) rfl (by kernel_rfl) (by kernel_rfl) (by kernel_rfl) (fun _ _ _ h => h) (Or.inl ⟨by rfl, ?_⟩) (by assumption) ?_; rotate_left 1; (focus (intro w hSw; (try dsimp only at hSw); go_simp; try with_reducible rfl)))
    | (refine take_drop (i := 0) (v := undef) rfl (by kernel_rfl) (by kernel_rfl) (by kernel_rfl) (fun _ _ _ h => h) (Or.inr ⟨by rfl, rfl⟩) (by assumption) ?_)
  try simp only [Act.put, List.setIfInBounds_toArray, List.set_cons_zero, List.set_cons_succ]
  first
    | (refine take_drop (i := 1) (v := ?_) rfl (by kernel_rfl) (by kernel_rfl) (by kernel_rfl) (fun _ _ _ h => h) (Or.inl ⟨by rfl, ?_⟩) (by assumption) ?_; rotate_left 1; (focus (intro w hSw; (try dsimp only at hSw); go_simp; try with_reducible rfl)))
    | (refine take_drop (i := 1) (v := undef) rfl (by kernel_rfl) (by kernel_rfl) (by kernel_rfl) (fun _ _ _ h => h) (Or.inr ⟨by rfl, rfl⟩) (by assumption) ?_)
  try simp only [Act.put, List.setIfInBounds_toArray, List.set_cons_zero, List.set_cons_succ]
  first
    | (refine take_drop (i := 3) (v := ?_) rfl (by kernel_rfl) (by kernel_rfl) (by kernel_rfl) (fun _ _ _ h => h) (Or.inl ⟨by rfl, ?_⟩) (by assumption) ?_; rotate_left 1; (focus (intro w hSw; (try dsimp only at hSw); go_simp; try with_reducible rfl)))
    | (refine take_drop (i := 3) (v := undef) rfl (by kernel_rfl) (by kernel_rfl) (by kernel_rfl) (fun _ _ _ h => h) (Or.inr ⟨by rfl, rfl⟩) (by assumption) ?_)
  try simp only [Act.put, List.setIfInBounds_toArray, List.set_cons_zero, List.set_cons_succ]
  refine wpAnyH_ready (rs := [2]) (by kernel_rfl) (by simp) ?_
  refine cons_drop rfl (fun K hK => ?_) AllReadyH.nil
  go_simp
  refine (HO.out _).mono ?_
  rintro e w2 ⟨rfl, rfl⟩
  go_wp2_with fail
  refine hK.out _ _ (HS.out _ H1D.out) (fun h2 => ?_)
  clear hK K hHeld
  try simp only [Act.put, List.setIfInBounds_toArray, List.set_cons_zero, List.set_cons_succ]
  refine wpAnyH_ready (rs := [4]) (by kernel_rfl) (by simp) ?_
  refine cons_drop rfl (fun K hK => ?_) AllReadyH.nil
  go_simp
  refine (HM.out _).mono ?_
  rintro e w3 ⟨rfl, hb3⟩
  have h3B : Hid (Below W0.heap.size W0 w3) := Lib.hid (H1D.out.trans (hb3.mono H1D.out.size))
  clear hb3
  go_wp2_with fail
  refine hK.out _ _ (HS.out _ h3B.out) (fun h3 => ?_)
  clear hK K h2
  try simp only [Act.put, List.setIfInBounds_toArray, List.set_cons_zero, List.set_cons_succ]
  first
    | (refine take_drop (i := 5) (v := ?_) rfl (by kernel_rfl) (by kernel_rfl) (by kernel_rfl) (fun _ _ _ h => h) (Or.inl ⟨by rfl, ?_⟩) (by assumption) ?_; rotate_left 1; (focus (intro w hSw; (try dsimp only at hSw); go_simp; try with_reducible rfl)))
    | (refine take_drop (i := 5) (v := undef) rfl (by kernel_rfl) (by kernel_rfl) (by kernel_rfl) (fun _ _ _ h => h) (Or.inr ⟨by rfl, rfl⟩) (by assumption) ?_)
  try simp only [Act.put, List.setIfInBounds_toArray, List.set_cons_zero, List.set_cons_succ]
  refine wpAnyH_done (by kernel_rfl) ?_ _
  refine NoPanic.normal ?_
  go_wp2_with fail
  go_ret
  exact ⟨rfl, HB0.out.trans (h3B.out.mono HB0.out.size)⟩

set_option maxRecDepth 100000 in
set_option maxHeartbeats 400000 in
theorem vtext_text (t : VT) (lo hi : Nat) (vn : Int) (vf : Nat) (vs : ByteArray) (A : Option Addr) (m c : Nat) (w : World) (hv : Rep w lo hi t (.agg #[.int .i64 3, .int .i64 vn, .float .f64 vf, .string vs, .slice A m c])) (hz : hi ≤ w.heap.size) (hval : t.valid 8 = true) (res : ByteArray)
    (hm : ∀ W, Calls Tryz.prog 182 #[.agg #[], .agg #[.int .i64 3, .int .i64 vn, .float .f64 vf, .string vs, .slice A m c]] W fun e w' => e = .returned (.string res) ∧ Below W.heap.size W w') :
    Calls Tryz.prog 60 #[.agg #[.int .i64 3, .int .i64 vn, .float .f64 vf, .string vs, .slice A m c]] w fun e w' => e = .returned (.string res) ∧ Below w.heap.size w w' := by
  obtain ⟨W0, hW0⟩ : ∃ W0, W0 = w.alloc (.cells #[.int .i64 3, .int .i64 vn, .float .f64 vf, .string vs, .slice A m c] 30) := ⟨_, rfl⟩
  have hB0 : Below w.heap.size w W0 := by rw [hW0]; exact (Below.refl _ _).alloc (Nat.le_refl _) _
  have hbx : BoxAt W0 w.heap.size 3 vn vf vs A m c := by rw [hW0]; exact BoxAt.new ..
  have hz0 : w.heap.size < W0.heap.size := by rw [hW0]; simp
  have HBX : Hid (∀ W, Below W0.heap.size W0 W → BoxAt W w.heap.size 3 vn vf vs A m c) := Lib.hid fun W hW => hbx.later hW hz0
  have HV := Lib.hid (Vt.valid_any t W0 lo hi _ (hv.later (hB0.mono hz)) (Nat.le_trans hz hB0.size))
  rw [hval] at HV
  have HO : Hid (∀ W, Calls Tryz.prog 90 #[.int .i64 3] W fun e w' => e = .returned (.iface 142 (.agg #[])) ∧ W = w') := Lib.hid fun W => Vt.of_any 3 W
  have HM := Lib.hid hm
  have hM : ∀ (n : Nat) (w : World), (method (n + 1) 142 (.agg #[]) "clockwork/value.text").run Tryz.prog w = .ok (182, .agg #[]) w := m_text_text
  have HB0 := Lib.hid hB0
  obtain ⟨c0, c1, c2, c3, c4⟩ := hbx.cells
  clear hB0 hbx hv hm
  replace hW0 := Lib.hid hW0
  go_enter Tryz.func60, Tryz.ntmps60
  go_upto_region 1 with fail
  rw [← hW0.out]
  go_wp2_with fail
  refine HV.out.mono ?_
  rintro e w1 ⟨rfl, hb1⟩
  have HB1 := Lib.hid hb1
  clear hb1 c0 c1 c2 c3 c4
  have HS : Hid (∀ W, Below W0.heap.size W0 W → (W.cell? ⟨w.heap.size, 0, none⟩ = some (.int .i64 3) ∧ W.cell? ⟨w.heap.size, 1, none⟩ = some (.int .i64 vn) ∧ W.cell? ⟨w.heap.size, 2, none⟩ = some (.float .f64 vf) ∧ W.cell? ⟨w.heap.size, 3, none⟩ = some (.string vs) ∧ W.cell? ⟨w.heap.size, 4, none⟩ = some (.slice A m c))) := Lib.hid fun W hW => (HBX.out W hW).cells
  have H1D : Hid (Below W0.heap.size W0 w1.drew) := Lib.hid (HB1.out.trans (below_drew (Below.refl _ _) |>.mono HB1.out.size))
  go_upto_region 3 with fail
  refine wp_region_noPanic ?_
  refine wp_region_held_drew (S := (fun w' : World => w'.cell? ⟨w.heap.size, 0, none⟩ = some (.int .i64 3) ∧ w'.cell? ⟨w.heap.size, 1, none⟩ = some (.int .i64 vn) ∧ w'.cell? ⟨w.heap.size, 2, none⟩ = some (.float .f64 vf) ∧ w'.cell? ⟨w.heap.size, 3, none⟩ = some (.string vs) ∧ w'.cell? ⟨w.heap.size, 4, none⟩ = some (.slice A m c))) (by kernel_rfl) ?_ (fun hHeld => ?_)
  · exact HS.out _ H1D.out
  first
    | (refine take_drop (i := 0) (v := ?_) rfl (by kernel_rfl) (by kernel_rfl) (by kernel_rfl) (fun _ _ _ h => h) (Or.inl ⟨by rfl, ?_⟩) (by assumption) ?_; rotate_left 1; (focus (intro w hSw; (try dsimp only at hSw); go_simp; try with_reducible rfl)))
    | (refine take_drop (i := 0) (v := undef) rfl (by kernel_rfl) (by kernel_rfl) (by kernel_rfl) (fun _ _ _ h => h) (Or.inr ⟨by rfl, rfl⟩) (by assumption) ?_)
  try simp only [Act.put, List.setIfInBounds_toArray, List.set_cons_zero, List.set_cons_succ]
  first
    | (refine take_drop (i := 1) (v := ?_) rfl (by kernel_rfl) (by kernel_rfl) (by kernel_rfl) (fun _ _ _ h => h) (Or.inl ⟨by rfl, ?_⟩) (by assumption) ?_; rotate_left 1; (focus (intro w hSw; (try dsimp only at hSw); go_simp; try with_reducible rfl)))
    | (refine take_drop (i := 1) (v := undef) rfl (by kernel_rfl) (by kernel_rfl) (by kernel_rfl) (fun _ _ _ h => h) (Or.inr ⟨by rfl, rfl⟩) (by assumption) ?_)
  try simp only [Act.put, List.setIfInBounds_toArray, List.set_cons_zero, List.set_cons_succ]
  first
    | (refine take_drop (i := 3) (v := ?_) rfl (by kernel_rfl) (by kernel_rfl) (by kernel_rfl) (fun _ _ _ h => h) (Or.inl ⟨by rfl, ?_⟩) (by assumption) ?_; rotate_left 1; (focus (intro w hSw; (try dsimp only at hSw); go_simp; try with_reducible rfl)))
    | (refine take_drop (i := 3) (v := undef) rfl (by kernel_rfl) (by kernel_rfl) (by kernel_rfl) (fun _ _ _ h => h) (Or.inr ⟨by rfl, rfl⟩) (by assumption) ?_)
  try simp only [Act.put, List.setIfInBounds_toArray, List.set_cons_zero, List.set_cons_succ]
  refine wpAnyH_ready (rs := [2]) (by kernel_rfl) (by simp) ?_
  refine cons_drop rfl (fun K hK => ?_) AllReadyH.nil
  go_simp
  refine (HO.out _).mono ?_
  rintro e w2 ⟨rfl, rfl⟩
  go_wp2_with fail
  refine hK.out _ _ (HS.out _ H1D.out) (fun h2 => ?_)
  clear hK K hHeld
  try simp only [Act.put, List.setIfInBounds_toArray, List.set_cons_zero, List.set_cons_succ]
  refine wpAnyH_ready (rs := [4]) (by kernel_rfl) (by simp) ?_
  refine cons_drop rfl (fun K hK => ?_) AllReadyH.nil
  go_simp
  refine (HM.out _).mono ?_
  rintro e w3 ⟨rfl, hb3⟩
  have h3B : Hid (Below W0.heap.size W0 w3) := Lib.hid (H1D.out.trans (hb3.mono H1D.out.size))
  clear hb3
  go_wp2_with fail
  refine hK.out _ _ (HS.out _ h3B.out) (fun h3 => ?_)
  clear hK K h2
  try simp only [Act.put, List.setIfInBounds_toArray, List.set_cons_zero, List.set_cons_succ]
  first
    | (refine take_drop (i := 5) (v := ?_) rfl (by kernel_rfl) (by kernel_rfl) (by kernel_rfl) (fun _ _ _ h => h) (Or.inl ⟨by rfl, ?_⟩) (by assumption) ?_; rotate_left 1; (focus (intro w hSw; (try dsimp only at hSw); go_simp; try with_reducible rfl)))
    | (refine take_drop (i := 5) (v := undef) rfl (by kernel_rfl) (by kernel_rfl) (by kernel_rfl) (fun _ _ _ h => h) (Or.inr ⟨by rfl, rfl⟩) (by assumption) ?_)
  try simp only [Act.put, List.setIfInBounds_toArray, List.set_cons_zero, List.set_cons_succ]
  refine wpAnyH_done (by kernel_rfl) ?_ _
  refine NoPanic.normal ?_
  go_wp2_with fail
  go_ret
  exact ⟨rfl, HB0.out.trans (h3B.out.mono HB0.out.size)⟩

theorem quoted0 (w : World) : Calls Tryz.prog 59 #[.string ⟨#[]⟩] w fun e w' => e = .returned (.string ⟨#[34, 34]⟩) ∧ Below w.heap.size w w' := by
  have H := Lib.hid (fun W => vtext_text (.mk 3 0 0 ⟨#[]⟩ []) 0 0 0 0 ⟨#[]⟩ none 0 0 W (Rep.leaf ⟨by omega, by omega, by omega, by omega, by omega, by decide, by decide⟩) (Nat.zero_le _) (by rw [Vt.valid_mk]; simp; decide) ⟨#[34, 34]⟩ (fun W => text_text0 0 0 none 0 0 3 W))
  go_enter Tryz.func59, Tryz.ntmps59
  go_wp2_with fail
  refine (H.out _).mono ?_
  rintro e w1 ⟨rfl, hb⟩
  go_wp2_with fail
  go_ret
  exact ⟨rfl, hb⟩
end Bt
end Go.Proofs.YtcbddebmmaflgaaGreatDoor
namespace Go.Proofs.YtcbddebmmaflgaaGreatDoor
open Go.RowKit Go.Shelf
set_option linter.unusedVariables false

def Tryz.laysJoin_ren : Go.Shelf.Ren := ⟨fun | 156 => 61 | 165 => 100 | 166 => 101 | 169 => 102 | 240 => 122 | 241 => 123 | 276 => 139 | 277 => 140 | n => n, fun | 31 => 93 | 9 => 9 | 3 => 3 | 4 => 4 | 0 => 0 | 20 => 20 | 72 => 127 | 76 => 131 | 70 => 125 | 37 => 22 | 75 => 130 | 127 => 158 | 164 => 174 | 5 => 5 | 80 => 63 | n => n, fun | n => n⟩
theorem Tryz.laysJoin : Go.Proofs.Lays.n156 Tryz.prog Tryz.laysJoin_ren := {
  mixed := by kernel_rfl
  f156 := Tryz.func61.trans (congrArg some (by kernel_rfl))
  f165 := Tryz.func100.trans (congrArg some (by kernel_rfl))
  f166 := Tryz.func101.trans (congrArg some (by kernel_rfl))
  f169 := Tryz.func102.trans (congrArg some (by kernel_rfl))
  f240 := Tryz.func122.trans (congrArg some (by kernel_rfl))
  f241 := Tryz.func123.trans (congrArg some (by kernel_rfl))
  f276 := Tryz.func139.trans (congrArg some (by kernel_rfl))
  f277 := Tryz.func140.trans (congrArg some (by kernel_rfl))
  t0 := Tryz.underlying0
  a0 := Tryz.isAgg0
  z0 := Tryz.sizeOf0
  v0 := Tryz.zeroValue0
  t3 := Tryz.underlying3
  a3 := Tryz.isAgg3
  z3 := Tryz.sizeOf3
  v3 := Tryz.zeroValue3
  t4 := Tryz.underlying4
  a4 := Tryz.isAgg4
  z4 := Tryz.sizeOf4
  v4 := Tryz.zeroValue4
  t9 := Tryz.underlying9
  a9 := Tryz.isAgg9
  z9 := Tryz.sizeOf9
  v9 := Tryz.zeroValue9
  t20 := Tryz.underlying20
  a20 := Tryz.isAgg20
  z20 := Tryz.sizeOf20
  v20 := Tryz.zeroValue20
  t31 := Tryz.underlying93
  a31 := Tryz.isAgg93
  z31 := Tryz.sizeOf93
  v31 := Tryz.zeroValue93
  t37 := Tryz.underlying22
  a37 := Tryz.isAgg22
  z37 := Tryz.sizeOf22
  v37 := Tryz.zeroValue22
  t70 := Tryz.underlying125
  a70 := Tryz.isAgg125
  z70 := Tryz.sizeOf125
  v70 := Tryz.zeroValue125
  t72 := Tryz.underlying127
  a72 := Tryz.isAgg127
  z72 := Tryz.sizeOf127
  v72 := Tryz.zeroValue127
  t75 := Tryz.underlying130
  a75 := Tryz.isAgg130
  z75 := Tryz.sizeOf130
  v75 := Tryz.zeroValue130
  t76 := Tryz.underlying131
  a76 := Tryz.isAgg131
  z76 := Tryz.sizeOf131
  v76 := Tryz.zeroValue131
  t127 := Tryz.underlying158
  a127 := Tryz.isAgg158
  z127 := Tryz.sizeOf158
  v127 := Tryz.zeroValue158
  t164 := Tryz.underlying174
  a164 := Tryz.isAgg174
  z164 := Tryz.sizeOf174
  v164 := Tryz.zeroValue174 }

theorem Tryz.extraJoin : Builder.Extra Tryz.prog Tryz.laysJoin_ren := {
  sizeBuilder := by kernel_rfl
  liesBuilder := by kernel_rfl
  t5 := by kernel_rfl
  a5 := by first | exact Tryz.isAgg5 | (intro w; rfl)
  z5 := by first | exact Tryz.sizeOf5 | (intro w; rfl)
  v5 := by first | exact Tryz.zeroValue5 | (intro w; rfl)
  infoByte := by kernel_rfl
  cellsByte := by kernel_rfl
  sizeByte := by kernel_rfl
  neB5 := by decide }

namespace Bt
open Vt (VT Rep BoxAt below_drew)
open Ev (take_drop cons_drop EBox six_cells six_row RowAt ix0 ix1 ix2 ix3 ix4 ix5)

/-- A slice of strings in a row of the call's own. -/
def SOwn (w : World) (base : Nat) (v : Value) (l : List ByteArray) : Prop := w.ownsRow base 9 1 v l.length (l.map Value.string)
theorem Tryz.infoS : (Tryz.prog.info? 9).map (fun i => (i.zero, i.size, i.bytes)) = some (some (.string ⟨#[]⟩), 1, 16) := by kernel_rfl
theorem SOwn.later {w w' : World} {base : Nat} {v : Value} {l : List ByteArray} (h : SOwn w base v l) (hb : Below w.heap.size w w') : SOwn w' base v l := by
  refine ⟨h.1, ?_⟩
  rcases h.2 with h | ⟨g, cap, cur, q1, q2, q3, q4⟩
  · exact .inl h
  · exact .inr ⟨g, cap, cur, q1, q2, (hb.block g (Array.getElem?_eq_some_iff.1 q3).1).trans q3, q4⟩
theorem SOwn.row_ge {w : World} {base : Nat} {v : Value} {l : List ByteArray} (h : SOwn w base v l) : ∀ k, v.ownBlock = some k → base ≤ k := by
  intro k hk
  rcases h.2 with ⟨rfl, -⟩ | ⟨g, cap, cur, rfl, q2, -⟩
  · cases hk
  · cases hk; exact q2
/-- One string onto a row. -/
theorem run_append_str {W : World} {base : Nat} (ty : TypeId) {v : Value} {l : List ByteArray} {x : ByteArray} (g c : Nat) (hx : W.cell? ⟨g, 0, none⟩ = some (.string x)) (hown : SOwn W base v l) (hlen : l.length ≤ 1000000) (hbase : base ≤ W.heap.size) :
    ∃ v' W', (Builtin.append_ #[93, 93] ty #[v, .slice (some ⟨g, 0, none⟩) 1 c]).run Tryz.prog W = .ok v' W' ∧ SOwn W' base v' (l ++ [x]) ∧ W.grownBy W' v.ownBlock := by
  obtain ⟨i0, hi, hz0, hz1, hz2⟩ := info_parts Tryz.infoS
  obtain ⟨v', W', hr, ho, hg, -, -⟩ := run_append_own_at (P := Tryz.prog) W base 93 ty 9 i0 (.string ⟨#[]⟩) 1 16 Tryz.underlying93 hi hz0 hz1 hz2 rfl (by decide) v l.length _ hown ⟨g, 0, none⟩ 1 c [.string x] (by simp) (fun j u hu => by
    rcases j with _ | j
    · have : Value.string x = u := by simpa using hu
      rw [← this]; exact hx
    · simp at hu) (by intro u hu; rw [List.mem_singleton] at hu; subst hu; rfl) (by simp only [maxLen]; omega) (by omega) hbase
  refine ⟨v', W', hr, ?_, hg⟩
  unfold SOwn
  rw [List.length_append, List.map_append]
  exact ho
theorem wpList_append_str {ops : Array Oper} {rest : List Oper} {o : Oper} {a : Act} {Q : Exit → Act → World → Prop} (W : World) (hgd : o.guard = none) (s y : Operand)
    (ho : o.op = .call { callee := .builtin .append, args := #[s, y], argTypes := #[93, 93] }) (base : Nat) (v : Value) (g c : Nat) (l : List ByteArray) (x : ByteArray) (hv : a.eval s = v) (hy : a.eval y = .slice (some ⟨g, 0, none⟩) 1 c) (hx : W.cell? ⟨g, 0, none⟩ = some (.string x)) (hown : SOwn W base v l) (hlen : l.length ≤ 1000000) (hbase : base ≤ W.heap.size)
    (h : ∀ v' W', SOwn W' base v' (l ++ [x]) → W.grownBy W' v.ownBlock → Below base W W' → wpList Tryz.prog ops Q rest (a.put o.dst v') W') : wpList Tryz.prog ops Q (o :: rest) a W := by
  obtain ⟨v', W', hr, h1, h2⟩ := run_append_str o.type g c hx hown hlen hbase
  exact Lib.wpList_append_run W hgd s y _ _ ho v _ hv hy v' W' hr (h v' W' h1 h2 ((Below.refl base W).grown h2 hbase hown.row_ge))

/-- Those texts that a kind has, of the first j. -/
def selS (bs : List Bool) (ps : List ByteArray) (j : Nat) : List ByteArray := (((bs.zip ps).take j).map (fun p => if p.1 then [p.2] else [])).flatten
theorem selS_len : ∀ (bs : List Bool) (ps : List ByteArray) (j : Nat), (selS bs ps j).length ≤ ps.length
  | [], _, _ => by simp [selS]
  | _ :: _, [], _ => by simp [selS]
  | _ :: _, _ :: _, 0 => by simp [selS]
  | b :: bs, p :: ps, j + 1 => by have := selS_len bs ps j; simp only [selS] at this ⊢; simp only [List.zip_cons_cons, List.take_succ_cons, List.map_cons, List.flatten_cons, List.length_append, List.length_cons]; cases b <;> simp only [Bool.false_eq_true, if_true, if_false, List.length_nil, List.length_singleton] <;> omega

/-- Strings joined by a blank. -/
theorem join_any (l : List ByteArray) (v : Value) (base : Nat) (w : World) (hown : SOwn w base v l) (h0 : l ≠ []) (hn : l.length ≤ 1000000) (hlen : (Lib.join (l.map (·.data.toList)) [32]).length ≤ 140737488355328) :
    Calls Tryz.prog 61 #[v, .string ⟨#[32]⟩] w fun e w' => e = .returned (.string ⟨(Lib.join (l.map (·.data.toList)) [32]).toArray⟩) ∧ Below w.heap.size w w' := by
  rcases hown.2 with ⟨h1, h2⟩ | ⟨g, cap, cur, rfl, q2, q3, q4, q5, q6, q7⟩
  · exact absurd (List.eq_nil_of_length_eq_zero h2) h0
  · refine Any.strings_Join Tryz.laysJoin Tryz.extraJoin g 0 cap l ⟨#[32]⟩ w (fun j x hj => ?_) (Array.getElem?_eq_some_iff.1 q3).1 (by omega) q4 hlen
    have hlt := (List.getElem?_eq_some_iff.1 hj).1
    have hc : cur[j]? = some (.string x) := by
      have h3 : (l.map Value.string)[j]? = some (.string x) := by rw [List.getElem?_map, hj]; rfl
      rw [← q7, List.getElem?_take_of_lt (by omega)] at h3
      rw [← Array.getElem?_toList]; exact h3
    simp [World.cell?, q3, hc]

end Bt
end Go.Proofs.YtcbddebmmaflgaaGreatDoor
