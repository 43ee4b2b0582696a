/- Texts: value.Text of kinds 0 and 3, quoted, small numbers. -/
import Derived.Test.YtfaepejeemjleaaDoorBtF
import Derived.Lib.BufferRead
import Derived.Lib.AtoiErrMem
namespace Go.Proofs.YtfaepejeemjleaaDoor
open Go.RowKit
set_option linter.unusedVariables false
namespace Bt
open Nm (ret_int ret_bool)
open Vt (VT Rep BoxAt below_drew)
open Ev (take_drop cons_drop)

theorem m_none_text (n : Nat) (w : World) : (method (n + 1) 97 (.agg #[]) "clockwork/value.text").run Tryd.prog w = .ok (110, .agg #[]) w := by kernel_rfl
theorem m_text_text (n : Nat) (w : World) : (method (n + 1) 95 (.agg #[]) "clockwork/value.text").run Tryd.prog w = .ok (104, .agg #[]) w := by kernel_rfl

theorem none_text (vn : Int) (vf : Nat) (vs : ByteArray) (A : Option Addr) (m c k : Nat) (w : World) :
    Calls Tryd.prog 110 #[.agg #[], .agg #[.int .i64 k, .int .i64 vn, .float .f64 vf, .string vs, .slice A m c]] w fun e w' => e = .returned (.string ⟨#[110, 105, 108]⟩) ∧ Below w.heap.size w w' := by
  go_enter Tryd.func110, Tryd.ntmps110
  go_wp2_with fail
  go_ret
  exact ⟨rfl, ((Below.refl _ _).alloc (Nat.le_refl _) _).alloc (by simp) _⟩

/-- Bytes read as a string. -/
theorem BIn.toText {w : World} {v : Value} {l : List Nat} (h : BIn w v l) (hb : ∀ b ∈ l, b < 256) : (convert 40 9 v).run Tryd.prog w = .ok (.string ⟨(l.map UInt8.ofNat).toArray⟩) w := by
  rcases h with ⟨rfl, rfl⟩ | ⟨ad, cap, rfl, h2, h3, h4, h5⟩
  · exact Lib.run_convert_nil_bytes w _ _ 5 0 Tryd.underlying40 Tryd.underlying5 Tryd.underlying9
  · have := run_convert_bytes_back (P := Tryd.prog) w 40 9 5 ad cap (l.map UInt8.ofNat) Tryd.underlying40 Tryd.underlying5 Tryd.underlying9 (fun j hj => by
      have hj' : j < l.length := by simpa using hj
      have h6 := h5 j (bv l[j]) (by simp [hj'])
      rw [h6]
      have h7 : l[j] < 256 := hb _ (List.getElem_mem hj')
      simp only [bv, List.getElem_map, UInt8.toNat_ofNat']
      rw [Nat.mod_eq_of_lt (by omega)])
    rw [List.length_map] at this
    exact this

set_option maxRecDepth 100000 in
/-- What the empty text reads. -/
theorem text_text0 (vn : Int) (vf : Nat) (A : Option Addr) (m c k : Nat) (w : World) :
    Calls Tryd.prog 104 #[.agg #[], .agg #[.int .i64 k, .int .i64 vn, .float .f64 vf, .string ⟨#[]⟩, .slice A m c]] w fun e w' => e = .returned (.string ⟨#[34, 34]⟩) ∧ Below w.heap.size w w' := by
  obtain ⟨W1, hW1⟩ : ∃ W, W = w.alloc (.cells #[] 95) := ⟨_, rfl⟩
  obtain ⟨W2, hW2⟩ : ∃ W, W = W1.alloc (.cells #[.int .i64 k, .int .i64 vn, .float .f64 vf, .string ⟨#[]⟩, .slice A m c] 28) := ⟨_, rfl⟩
  obtain ⟨W3, hW3⟩ : ∃ W, W = W2.alloc (.cells #[.int .u8 34] 5) := ⟨_, rfl⟩
  have hs1 : W1.heap.size = w.heap.size + 1 := by rw [hW1]; simp
  have hs2 : W2.heap.size = w.heap.size + 1 + 1 := by rw [hW2]; simp [hs1]
  have h2 : W2.heap[w.heap.size + 1]? = some (.cells #[.int .i64 k, .int .i64 vn, .float .f64 vf, .string ⟨#[]⟩, .slice A m c] 28 (0, 0)) := by rw [hW2, ← hs1]; exact heap_alloc_new _ _
  have h3 : W3.heap[w.heap.size + 1 + 1]? = some (.cells #[.int .u8 34] 5 (0, 0)) := by rw [hW3, ← hs2]; exact heap_alloc_new _ _
  have hb3 : Below W2.heap.size W2 W3 := by rw [hW3]; exact (Below.refl _ _).alloc (Nat.le_refl _) _
  have hb2 : Below w.heap.size w W2 := by rw [hW2]; exact Below.alloc (by rw [hW1]; exact (Below.refl _ _).alloc (Nat.le_refl _) _) (by omega) _
  have HB3 : Hid (Below w.heap.size w W3) := Lib.hid (hb2.trans (hb3.mono (by omega)))
  have c3 : W3.cell? ⟨w.heap.size + 1, 3, none⟩ = some (.string ⟨#[]⟩) := by
    rw [hb3.cell (p := ⟨w.heap.size + 1, 3, none⟩) (by simp only []; omega)]
    simp [World.cell?, h2]
  have HO3 : Hid (BOwn W3 w.heap.size (.slice (some ⟨w.heap.size + 1 + 1, 0, none⟩) 1 1) [34]) := Lib.hid (by
    refine ⟨rfl, .inr ⟨w.heap.size + 1 + 1, 1, #[.int .u8 34], rfl, by omega, h3, by simp, by decide, rfl, rfl⟩⟩)
  obtain ⟨W4, hW4⟩ : ∃ W, W = Lib.bytesWorld W3 5 ⟨#[]⟩ := ⟨_, rfl⟩
  have hb4 : Below W3.heap.size W3 W4 := by rw [hW4]; exact Lib.bytesWorld_below _ _ _
  have hcv : (convert 9 40 (.string ⟨#[]⟩)).run Tryd.prog W3 = .ok (.slice (some ⟨W3.heap.size, 0, none⟩) 0 (grownCap W3 0 0 5)) W4 := by rw [hW4]; exact Lib.run_convert_string_bytes W3 _ _ _ ⟨#[]⟩ Tryd.underlying9 Tryd.underlying40 Tryd.underlying5
  generalize grownCap W3 0 0 5 = cc at *
  have HB4 : Hid (Below w.heap.size w W4) := Lib.hid (HB3.out.trans (hb4.mono HB3.out.size))
  have HO4 := Lib.hid (HO3.out.later hb4)
  clear hb4 HO3
  rw [hW2, hW1] at hW3
  replace hW3 := Lib.hid hW3
  replace hW4 := Lib.hid hW4
  clear hs1 hs2 h2 h3 hb3 hb2 hW2 hW1
  go_enter Tryd.func104, Tryd.ntmps104
  go_upto_region 2 with fail
  rw [← hW3.out]
  go_wp2_with (rw [hcv])
  go_loop [5, 13] (fun o i => o = .slice (some ⟨w.heap.size + 1 + 1, 0, none⟩) 1 1 ∧ i = .int .i64 0) (fun _ _ => 0)
  case atStart => exact ⟨rfl, rfl⟩
  case round =>
    obtain ⟨rfl, rfl⟩ := hrel
    obtain ⟨W5, hW5⟩ : ∃ W, W = W4.alloc (.cells #[.int .u8 34] 5) := ⟨_, rfl⟩
    have hb5 : Below W4.heap.size W4 W5 := by rw [hW5]; exact (Below.refl _ _).alloc (Nat.le_refl _) _
    have HB5 : Hid (Below w.heap.size w W5) := Lib.hid (HB4.out.trans (hb5.mono HB4.out.size))
    have hown := HO4.out.later hb5
    have hin : BIn W5 (.slice (some ⟨W4.heap.size, 0, none⟩) 1 1) [34] := .inr ⟨_, 1, rfl, by simp, by decide, by rw [hW5]; simp, fun j u hu => by
      rcases j with _ | j
      · have hv : Value.int .u8 34 = u := by simpa [bv] using hu
        rw [← hv, hW5]
        show World.cell? _ ⟨W4.heap.size, 0, none⟩ = _
        unfold World.cell?; rw [heap_alloc_new]; rfl
      · simp at hu⟩
    replace hW5 := Lib.hid hW5
    clear hb5 HO4
    go_wp2_with (at_builtin; rw [← hW5.out]; refine wpList_append_bytes _ rfl _ _ rfl w.heap.size _ _ [34] [34] rfl rfl hown hin (by simp) HB5.out.size ?_; intro v2 w2 hown2 hg2 hb2; have HB6 := Lib.hid (HB5.out.trans hb2); have hcv2 := hown2.read.toText (by simp))
    go_ret
    exact ⟨rfl, HB6.out⟩

theorem small5 (w : World) : Calls Tryd.prog 60 #[.int .i64 5] w fun e w' => e = .returned (.string ⟨#[53]⟩) ∧ w' = w := by
  go_enter Tryd.func60, Tryd.ntmps60
  go_wp2_with fail
  go_ret
  exact ⟨rfl, rfl⟩
theorem small0 (w : World) : Calls Tryd.prog 60 #[.int .i64 0] w fun e w' => e = .returned (.string ⟨#[48]⟩) ∧ w' = w := by
  go_enter Tryd.func60, Tryd.ntmps60
  go_wp2_with fail
  go_ret
  exact ⟨rfl, rfl⟩
theorem ifmt5 (w : World) : Calls Tryd.prog 52 #[.int .u64 5, .int .i64 10] w fun e w' => e = .returned (.string ⟨#[53]⟩) ∧ w' = w := by
  have H := Lib.hid (fun W => small5 W)
  go_enter Tryd.func52, Tryd.ntmps52
  go_wp2_with fail
  refine (H.out _).mono ?_
  rintro e w1 ⟨rfl, rfl⟩
  go_wp2_with fail
  go_ret
  exact ⟨rfl, rfl⟩
theorem fmt5 (w : World) : Calls Tryd.prog 39 #[.int .u64 5, .int .i64 10] w fun e w' => e = .returned (.string ⟨#[53]⟩) ∧ w' = w := by
  have H := Lib.hid (fun W => ifmt5 W)
  go_enter Tryd.func39, Tryd.ntmps39
  go_wp2_with fail
  refine (H.out _).mono ?_
  rintro e w1 ⟨rfl, rfl⟩
  go_wp2_with fail
  go_ret
  exact ⟨rfl, rfl⟩
theorem ifmt0 (w : World) : Calls Tryd.prog 52 #[.int .u64 0, .int .i64 10] w fun e w' => e = .returned (.string ⟨#[48]⟩) ∧ w' = w := by
  have H := Lib.hid (fun W => small0 W)
  go_enter Tryd.func52, Tryd.ntmps52
  go_wp2_with fail
  refine (H.out _).mono ?_
  rintro e w1 ⟨rfl, rfl⟩
  go_wp2_with fail
  go_ret
  exact ⟨rfl, rfl⟩
theorem fmt0 (w : World) : Calls Tryd.prog 39 #[.int .u64 0, .int .i64 10] w fun e w' => e = .returned (.string ⟨#[48]⟩) ∧ w' = w := by
  have H := Lib.hid (fun W => ifmt0 W)
  go_enter Tryd.func39, Tryd.ntmps39
  go_wp2_with fail
  refine (H.out _).mono ?_
  rintro e w1 ⟨rfl, rfl⟩
  go_wp2_with fail
  go_ret
  exact ⟨rfl, rfl⟩
theorem ifmi0 (w : World) : Calls Tryd.prog 64 #[.int .i64 0, .int .i64 10] w fun e w' => e = .returned (.string ⟨#[48]⟩) ∧ w' = w := by
  have H := Lib.hid (fun W => small0 W)
  go_enter Tryd.func64, Tryd.ntmps64
  go_wp2_with fail
  refine (H.out _).mono ?_
  rintro e w1 ⟨rfl, rfl⟩
  go_wp2_with fail
  go_ret
  exact ⟨rfl, rfl⟩
theorem iitoa0 (w : World) : Calls Tryd.prog 53 #[.int .i64 0] w fun e w' => e = .returned (.string ⟨#[48]⟩) ∧ w' = w := by
  have H := Lib.hid (fun W => ifmi0 W)
  go_enter Tryd.func53, Tryd.ntmps53
  go_wp2_with fail
  refine (H.out _).mono ?_
  rintro e w1 ⟨rfl, rfl⟩
  go_wp2_with fail
  go_ret
  exact ⟨rfl, rfl⟩
theorem itoa0 (w : World) : Calls Tryd.prog 40 #[.int .i64 0] w fun e w' => e = .returned (.string ⟨#[48]⟩) ∧ w' = w := by
  have H := Lib.hid (fun W => iitoa0 W)
  go_enter Tryd.func40, Tryd.ntmps40
  go_wp2_with fail
  refine (H.out _).mono ?_
  rintro e w1 ⟨rfl, rfl⟩
  go_wp2_with fail
  go_ret
  exact ⟨rfl, rfl⟩
set_option maxRecDepth 100000 in
set_option maxHeartbeats 400000 in
theorem vtext_none (t : VT) (lo hi : Nat) (vn : Int) (vf : Nat) (vs : ByteArray) (A : Option Addr) (m c : Nat) (w : World) (hv : Rep w lo hi t (.agg #[.int .i64 0, .int .i64 vn, .float .f64 vf, .string vs, .slice A m c])) (hz : hi ≤ w.heap.size) (hval : t.valid 8 = true) (res : ByteArray)
    (hm : ∀ W, Calls Tryd.prog 110 #[.agg #[], .agg #[.int .i64 0, .int .i64 vn, .float .f64 vf, .string vs, .slice A m c]] W fun e w' => e = .returned (.string res) ∧ Below W.heap.size W w') :
    Calls Tryd.prog 42 #[.agg #[.int .i64 0, .int .i64 vn, .float .f64 vf, .string vs, .slice A m c]] w fun e w' => e = .returned (.string res) ∧ Below w.heap.size w w' := by
  obtain ⟨W0, hW0⟩ : ∃ W0, W0 = w.alloc (.cells #[.int .i64 0, .int .i64 vn, .float .f64 vf, .string vs, .slice A m c] 28) := ⟨_, rfl⟩
  have hB0 : Below w.heap.size w W0 := by rw [hW0]; exact (Below.refl _ _).alloc (Nat.le_refl _) _
  have hbx : BoxAt W0 w.heap.size 0 vn vf vs A m c := by rw [hW0]; exact BoxAt.new ..
  have hz0 : w.heap.size < W0.heap.size := by rw [hW0]; simp
  have HBX : Hid (∀ W, Below W0.heap.size W0 W → BoxAt W w.heap.size 0 vn vf vs A m c) := Lib.hid fun W hW => hbx.later hW hz0
  have HV := Lib.hid (Vt.valid_any t W0 lo hi _ (hv.later (hB0.mono hz)) (Nat.le_trans hz hB0.size))
  rw [hval] at HV
  have HO : Hid (∀ W, Calls Tryd.prog 33 #[.int .i64 0] W fun e w' => e = .returned (.iface 97 (.agg #[])) ∧ W = w') := Lib.hid fun W => Vt.of_any 0 W
  have HM := Lib.hid hm
  have hM : ∀ (n : Nat) (w : World), (method (n + 1) 97 (.agg #[]) "clockwork/value.text").run Tryd.prog w = .ok (110, .agg #[]) w := m_none_text
  have HB0 := Lib.hid hB0
  obtain ⟨c0, c1, c2, c3, c4⟩ := hbx.cells
  clear hB0 hbx hv hm
  replace hW0 := Lib.hid hW0
  go_enter Tryd.func42, Tryd.ntmps42
  go_upto_region 1 with fail
  rw [← hW0.out]
  go_wp2_with fail
  refine HV.out.mono ?_
  rintro e w1 ⟨rfl, hb1⟩
  have HB1 := Lib.hid hb1
  clear hb1 c0 c1 c2 c3 c4
  have HS : Hid (∀ W, Below W0.heap.size W0 W → (W.cell? ⟨w.heap.size, 0, none⟩ = some (.int .i64 0) ∧ W.cell? ⟨w.heap.size, 1, none⟩ = some (.int .i64 vn) ∧ W.cell? ⟨w.heap.size, 2, none⟩ = some (.float .f64 vf) ∧ W.cell? ⟨w.heap.size, 3, none⟩ = some (.string vs) ∧ W.cell? ⟨w.heap.size, 4, none⟩ = some (.slice A m c))) := Lib.hid fun W hW => (HBX.out W hW).cells
  have H1D : Hid (Below W0.heap.size W0 w1.drew) := Lib.hid (HB1.out.trans (below_drew (Below.refl _ _) |>.mono HB1.out.size))
  go_upto_region 3 with fail
  refine wp_region_noPanic ?_
  refine wp_region_held_drew (S := (fun w' : World => w'.cell? ⟨w.heap.size, 0, none⟩ = some (.int .i64 0) ∧ w'.cell? ⟨w.heap.size, 1, none⟩ = some (.int .i64 vn) ∧ w'.cell? ⟨w.heap.size, 2, none⟩ = some (.float .f64 vf) ∧ w'.cell? ⟨w.heap.size, 3, none⟩ = some (.string vs) ∧ w'.cell? ⟨w.heap.size, 4, none⟩ = some (.slice A m c))) (by kernel_rfl) ?_ (fun hHeld => ?_)
  · exact HS.out _ H1D.out
  first
    | (refine take_drop (i := 0) (v := ?_) rfl (by kernel_rfl) (by kernel_rfl) (by kernel_rfl) (fun _ _ _ h => h) (Or.inl ⟨by rfl, ?_⟩) (by assumption) ?_; rotate_left 1; (focus (intro w hSw; (try dsimp only at hSw); go_simp; try with_reducible rfl)); try simp only [Act.put, List.setIfInBounds_toArray, List.set_cons_zero, List.set_cons_succ])
    | (refine take_drop (i := 0) (v := undef) rfl (by kernel_rfl) (by kernel_rfl) (by kernel_rfl) (fun _ _ _ h => h) (Or.inr ⟨by rfl, rfl⟩) (by assumption) ?_; try simp only [Act.put, List.setIfInBounds_toArray, List.set_cons_zero, List.set_cons_succ])
  first
    | (refine take_drop (i := 1) (v := ?_) rfl (by kernel_rfl) (by kernel_rfl) (by kernel_rfl) (fun _ _ _ h => h) (Or.inl ⟨by rfl, ?_⟩) (by assumption) ?_; rotate_left 1; (focus (intro w hSw; (try dsimp only at hSw); go_simp; try with_reducible rfl)); try simp only [Act.put, List.setIfInBounds_toArray, List.set_cons_zero, List.set_cons_succ])
    | (refine take_drop (i := 1) (v := undef) rfl (by kernel_rfl) (by kernel_rfl) (by kernel_rfl) (fun _ _ _ h => h) (Or.inr ⟨by rfl, rfl⟩) (by assumption) ?_; try simp only [Act.put, List.setIfInBounds_toArray, List.set_cons_zero, List.set_cons_succ])
  first
    | (refine take_drop (i := 3) (v := ?_) rfl (by kernel_rfl) (by kernel_rfl) (by kernel_rfl) (fun _ _ _ h => h) (Or.inl ⟨by rfl, ?_⟩) (by assumption) ?_; rotate_left 1; (focus (intro w hSw; (try dsimp only at hSw); go_simp; try with_reducible rfl)); try simp only [Act.put, List.setIfInBounds_toArray, List.set_cons_zero, List.set_cons_succ])
    | (refine take_drop (i := 3) (v := undef) rfl (by kernel_rfl) (by kernel_rfl) (by kernel_rfl) (fun _ _ _ h => h) (Or.inr ⟨by rfl, rfl⟩) (by assumption) ?_; try simp only [Act.put, List.setIfInBounds_toArray, List.set_cons_zero, List.set_cons_succ])
  refine wpAnyH_ready (rs := [2]) (by kernel_rfl) (by simp) ?_
  refine cons_drop rfl (fun K hK => ?_) AllReadyH.nil
  go_simp
  refine (HO.out _).mono ?_
  rintro e w2 ⟨rfl, rfl⟩
  go_wp2_with fail
  refine hK.out _ _ (HS.out _ H1D.out) (fun h2 => ?_)
  clear hK K hHeld
  try simp only [Act.put, List.setIfInBounds_toArray, List.set_cons_zero, List.set_cons_succ]
  refine wpAnyH_ready (rs := [4]) (by kernel_rfl) (by simp) ?_
  refine cons_drop rfl (fun K hK => ?_) AllReadyH.nil
  go_simp
  refine (HM.out _).mono ?_
  rintro e w3 ⟨rfl, hb3⟩
  have h3B : Hid (Below W0.heap.size W0 w3) := Lib.hid (H1D.out.trans (hb3.mono H1D.out.size))
  clear hb3
  go_wp2_with fail
  refine hK.out _ _ (HS.out _ h3B.out) (fun h3 => ?_)
  clear hK K h2
  try simp only [Act.put, List.setIfInBounds_toArray, List.set_cons_zero, List.set_cons_succ]
  first
    | (refine take_drop (i := 5) (v := ?_) rfl (by kernel_rfl) (by kernel_rfl) (by kernel_rfl) (fun _ _ _ h => h) (Or.inl ⟨by rfl, ?_⟩) (by assumption) ?_; rotate_left 1; (focus (intro w hSw; (try dsimp only at hSw); go_simp; try with_reducible rfl)); try simp only [Act.put, List.setIfInBounds_toArray, List.set_cons_zero, List.set_cons_succ])
    | (refine take_drop (i := 5) (v := undef) rfl (by kernel_rfl) (by kernel_rfl) (by kernel_rfl) (fun _ _ _ h => h) (Or.inr ⟨by rfl, rfl⟩) (by assumption) ?_; try simp only [Act.put, List.setIfInBounds_toArray, List.set_cons_zero, List.set_cons_succ])
  refine wpAnyH_done (by kernel_rfl) ?_ _
  refine NoPanic.normal ?_
  go_wp2_with fail
  go_ret
  exact ⟨rfl, HB0.out.trans (h3B.out.mono HB0.out.size)⟩

set_option maxRecDepth 100000 in
set_option maxHeartbeats 400000 in
theorem vtext_text (t : VT) (lo hi : Nat) (vn : Int) (vf : Nat) (vs : ByteArray) (A : Option Addr) (m c : Nat) (w : World) (hv : Rep w lo hi t (.agg #[.int .i64 3, .int .i64 vn, .float .f64 vf, .string vs, .slice A m c])) (hz : hi ≤ w.heap.size) (hval : t.valid 8 = true) (res : ByteArray)
    (hm : ∀ W, Calls Tryd.prog 104 #[.agg #[], .agg #[.int .i64 3, .int .i64 vn, .float .f64 vf, .string vs, .slice A m c]] W fun e w' => e = .returned (.string res) ∧ Below W.heap.size W w') :
    Calls Tryd.prog 42 #[.agg #[.int .i64 3, .int .i64 vn, .float .f64 vf, .string vs, .slice A m c]] w fun e w' => e = .returned (.string res) ∧ Below w.heap.size w w' := by
  obtain ⟨W0, hW0⟩ : ∃ W0, W0 = w.alloc (.cells #[.int .i64 3, .int .i64 vn, .float .f64 vf, .string vs, .slice A m c] 28) := ⟨_, rfl⟩
  have hB0 : Below w.heap.size w W0 := by rw [hW0]; exact (Below.refl _ _).alloc (Nat.le_refl _) _
  have hbx : BoxAt W0 w.heap.size 3 vn vf vs A m c := by rw [hW0]; exact BoxAt.new ..
  have hz0 : w.heap.size < W0.heap.size := by rw [hW0]; simp
  have HBX : Hid (∀ W, Below W0.heap.size W0 W → BoxAt W w.heap.size 3 vn vf vs A m c) := Lib.hid fun W hW => hbx.later hW hz0
  have HV := Lib.hid (Vt.valid_any t W0 lo hi _ (hv.later (hB0.mono hz)) (Nat.le_trans hz hB0.size))
  rw [hval] at HV
  have HO : Hid (∀ W, Calls Tryd.prog 33 #[.int .i64 3] W fun e w' => e = .returned (.iface 95 (.agg #[])) ∧ W = w') := Lib.hid fun W => Vt.of_any 3 W
  have HM := Lib.hid hm
  have hM : ∀ (n : Nat) (w : World), (method (n + 1) 95 (.agg #[]) "clockwork/value.text").run Tryd.prog w = .ok (104, .agg #[]) w := m_text_text
  have HB0 := Lib.hid hB0
  obtain ⟨c0, c1, c2, c3, c4⟩ := hbx.cells
  clear hB0 hbx hv hm
  replace hW0 := Lib.hid hW0
  go_enter Tryd.func42, Tryd.ntmps42
  go_upto_region 1 with fail
  rw [← hW0.out]
  go_wp2_with fail
  refine HV.out.mono ?_
  rintro e w1 ⟨rfl, hb1⟩
  have HB1 := Lib.hid hb1
  clear hb1 c0 c1 c2 c3 c4
  have HS : Hid (∀ W, Below W0.heap.size W0 W → (W.cell? ⟨w.heap.size, 0, none⟩ = some (.int .i64 3) ∧ W.cell? ⟨w.heap.size, 1, none⟩ = some (.int .i64 vn) ∧ W.cell? ⟨w.heap.size, 2, none⟩ = some (.float .f64 vf) ∧ W.cell? ⟨w.heap.size, 3, none⟩ = some (.string vs) ∧ W.cell? ⟨w.heap.size, 4, none⟩ = some (.slice A m c))) := Lib.hid fun W hW => (HBX.out W hW).cells
  have H1D : Hid (Below W0.heap.size W0 w1.drew) := Lib.hid (HB1.out.trans (below_drew (Below.refl _ _) |>.mono HB1.out.size))
  go_upto_region 3 with fail
  refine wp_region_noPanic ?_
  refine wp_region_held_drew (S := (fun w' : World => w'.cell? ⟨w.heap.size, 0, none⟩ = some (.int .i64 3) ∧ w'.cell? ⟨w.heap.size, 1, none⟩ = some (.int .i64 vn) ∧ w'.cell? ⟨w.heap.size, 2, none⟩ = some (.float .f64 vf) ∧ w'.cell? ⟨w.heap.size, 3, none⟩ = some (.string vs) ∧ w'.cell? ⟨w.heap.size, 4, none⟩ = some (.slice A m c))) (by kernel_rfl) ?_ (fun hHeld => ?_)
  · exact HS.out _ H1D.out
  first
    | (refine take_drop (i := 0) (v := ?_) rfl (by kernel_rfl) (by kernel_rfl) (by kernel_rfl) (fun _ _ _ h => h) (Or.inl ⟨by rfl, ?_⟩) (by assumption) ?_; rotate_left 1; (focus (intro w hSw; (try dsimp only at hSw); go_simp; try with_reducible rfl)); try simp only [Act.put, List.setIfInBounds_toArray, List.set_cons_zero, List.set_cons_succ])
    | (refine take_drop (i := 0) (v := undef) rfl (by kernel_rfl) (by kernel_rfl) (by kernel_rfl) (fun _ _ _ h => h) (Or.inr ⟨by rfl, rfl⟩) (by assumption) ?_; try simp only [Act.put, List.setIfInBounds_toArray, List.set_cons_zero, List.set_cons_succ])
  first
    | (refine take_drop (i := 1) (v := ?_) rfl (by kernel_rfl) (by kernel_rfl) (by kernel_rfl) (fun _ _ _ h => h) (Or.inl ⟨by rfl, ?_⟩) (by assumption) ?_; rotate_left 1; (focus (intro w hSw; (try dsimp only at hSw); go_simp; try with_reducible rfl)); try simp only [Act.put, List.setIfInBounds_toArray, List.set_cons_zero, List.set_cons_succ])
    | (refine take_drop (i := 1) (v := undef) rfl (by kernel_rfl) (by kernel_rfl) (by kernel_rfl) (fun _ _ _ h => h) (Or.inr ⟨by rfl, rfl⟩) (by assumption) ?_; try simp only [Act.put, List.setIfInBounds_toArray, List.set_cons_zero, List.set_cons_succ])
  first
    | (refine take_drop (i := 3) (v := ?_) rfl (by kernel_rfl) (by kernel_rfl) (by kernel_rfl) (fun _ _ _ h => h) (Or.inl ⟨by rfl, ?_⟩) (by assumption) ?_; rotate_left 1; (focus (intro w hSw; (try dsimp only at hSw); go_simp; try with_reducible rfl)); try simp only [Act.put, List.setIfInBounds_toArray, List.set_cons_zero, List.set_cons_succ])
    | (refine take_drop (i := 3) (v := undef) rfl (by kernel_rfl) (by kernel_rfl) (by kernel_rfl) (fun _ _ _ h => h) (Or.inr ⟨by rfl, rfl⟩) (by assumption) ?_; try simp only [Act.put, List.setIfInBounds_toArray, List.set_cons_zero, List.set_cons_succ])
  refine wpAnyH_ready (rs := [2]) (by kernel_rfl) (by simp) ?_
  refine cons_drop rfl (fun K hK => ?_) AllReadyH.nil
  go_simp
  refine (HO.out _).mono ?_
  rintro e w2 ⟨rfl, rfl⟩
  go_wp2_with fail
  refine hK.out _ _ (HS.out _ H1D.out) (fun h2 => ?_)
  clear hK K hHeld
  try simp only [Act.put, List.setIfInBounds_toArray, List.set_cons_zero, List.set_cons_succ]
  refine wpAnyH_ready (rs := [4]) (by kernel_rfl) (by simp) ?_
  refine cons_drop rfl (fun K hK => ?_) AllReadyH.nil
  go_simp
  refine (HM.out _).mono ?_
  rintro e w3 ⟨rfl, hb3⟩
  have h3B : Hid (Below W0.heap.size W0 w3) := Lib.hid (H1D.out.trans (hb3.mono H1D.out.size))
  clear hb3
  go_wp2_with fail
  refine hK.out _ _ (HS.out _ h3B.out) (fun h3 => ?_)
  clear hK K h2
  try simp only [Act.put, List.setIfInBounds_toArray, List.set_cons_zero, List.set_cons_succ]
  first
    | (refine take_drop (i := 5) (v := ?_) rfl (by kernel_rfl) (by kernel_rfl) (by kernel_rfl) (fun _ _ _ h => h) (Or.inl ⟨by rfl, ?_⟩) (by assumption) ?_; rotate_left 1; (focus (intro w hSw; (try dsimp only at hSw); go_simp; try with_reducible rfl)); try simp only [Act.put, List.setIfInBounds_toArray, List.set_cons_zero, List.set_cons_succ])
    | (refine take_drop (i := 5) (v := undef) rfl (by kernel_rfl) (by kernel_rfl) (by kernel_rfl) (fun _ _ _ h => h) (Or.inr ⟨by rfl, rfl⟩) (by assumption) ?_; try simp only [Act.put, List.setIfInBounds_toArray, List.set_cons_zero, List.set_cons_succ])
  refine wpAnyH_done (by kernel_rfl) ?_ _
  refine NoPanic.normal ?_
  go_wp2_with fail
  go_ret
  exact ⟨rfl, HB0.out.trans (h3B.out.mono HB0.out.size)⟩

theorem quoted0 (w : World) : Calls Tryd.prog 41 #[.string ⟨#[]⟩] w fun e w' => e = .returned (.string ⟨#[34, 34]⟩) ∧ Below w.heap.size w w' := by
  have H := Lib.hid (fun W => vtext_text (.mk 3 0 0 ⟨#[]⟩ []) 0 0 0 0 ⟨#[]⟩ none 0 0 W (Rep.leaf ⟨by omega, by omega, by omega, by omega, by omega, by decide, by decide⟩) (Nat.zero_le _) (by rw [Vt.valid_mk]; simp; decide) ⟨#[34, 34]⟩ (fun W => text_text0 0 0 none 0 0 3 W))
  go_enter Tryd.func41, Tryd.ntmps41
  go_wp2_with fail
  refine (H.out _).mono ?_
  rintro e w1 ⟨rfl, hb⟩
  go_wp2_with fail
  go_ret
  exact ⟨rfl, hb⟩
end Bt
end Go.Proofs.YtfaepejeemjleaaDoor
