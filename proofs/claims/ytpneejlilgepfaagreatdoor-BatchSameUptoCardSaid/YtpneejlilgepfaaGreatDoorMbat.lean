/- Texts: value.Text of kinds 0 and 3, quoted, small numbers. -/
/- event.Text of a valid event whose parts' texts are known. -/
/- Tables that stand; strconv.FormatInt; the text of a text. -/
/- The text of a text. -/
import Derived.Test.YtpneejlilgepfaaGreatDoorMbas
import Derived.Lib.BufferRead
import Derived.Lib.AtoiErrMem
import Derived.Shelf.Strings.OnBuilder
import Derived.Test.YtpneejlilgepfaaGreatDoorMbap
import Derived.Test.YtpneejlilgepfaaGreatDoorMbar
import Derived.Shelf.Strconv.Itoa4
import Derived.OrdersHeld
import Derived.Test.YtpneejlilgepfaaGreatDoorMbaj
namespace Go.Proofs.YtpneejlilgepfaaGreatDoor
open Go.RowKit
set_option linter.unusedVariables false
namespace Bt
open _root_.Go.Proofs.YtpneejlilgepfaaGreatDoor.Nm (ret_int ret_bool)
open Vt (VT Rep BoxAt below_drew)
open Ev (take_drop cons_drop)

theorem m_none_text (n : Nat) (w : World) : (method (n + 1) 145 (.agg #[]) "clockwork/value.text").run Tryz.prog w = .ok (178, .agg #[]) w := by kernel_rfl
theorem m_text_text (n : Nat) (w : World) : (method (n + 1) 148 (.agg #[]) "clockwork/value.text").run Tryz.prog w = .ok (199, .agg #[]) w := by kernel_rfl

theorem none_text (vn : Int) (vf : Nat) (vs : ByteArray) (A : Option Addr) (m c k : Nat) (w : World) :
    Calls Tryz.prog 178 #[.agg #[], .agg #[.int .i64 k, .int .i64 vn, .float .f64 vf, .string vs, .slice A m c]] w fun e w' => e = .returned (.string ⟨#[110, 105, 108]⟩) ∧ Below w.heap.size w w' := by
  go_enter Tryz.func178, Tryz.ntmps178
  go_wp2_with fail
  go_ret
  exact ⟨rfl, ((Below.refl _ _).alloc (Nat.le_refl _) _).alloc (by simp) _⟩

/-- Bytes read as a string. -/
theorem BIn.toText {w : World} {v : Value} {l : List Nat} (h : BIn w v l) (hb : ∀ b ∈ l, b < 256) : (convert 31 9 v).run Tryz.prog w = .ok (.string ⟨(l.map UInt8.ofNat).toArray⟩) w := by
  rcases h with ⟨rfl, rfl⟩ | ⟨ad, cap, rfl, h2, h3, h4, h5⟩
  · exact Lib.run_convert_nil_bytes w _ _ 5 0 Tryz.underlying31 Tryz.underlying5 Tryz.underlying9
  · have := run_convert_bytes_back (P := Tryz.prog) w 31 9 5 ad cap (l.map UInt8.ofNat) Tryz.underlying31 Tryz.underlying5 Tryz.underlying9 (fun j hj => by
      have hj' : j < l.length := by simpa using hj
      have h6 := h5 j (bv l[j]) (by simp [hj'])
      rw [h6]
      have h7 : l[j] < 256 := hb _ (List.getElem_mem hj')
      simp only [bv, List.getElem_map, UInt8.toNat_ofNat']
      rw [Nat.mod_eq_of_lt (by omega)])
    rw [List.length_map] at this
    exact this

set_option maxRecDepth 100000 in
/-- What the empty text reads. -/
theorem text_text0 (vn : Int) (vf : Nat) (A : Option Addr) (m c k : Nat) (w : World) :
    Calls Tryz.prog 199 #[.agg #[], .agg #[.int .i64 k, .int .i64 vn, .float .f64 vf, .string ⟨#[]⟩, .slice A m c]] w fun e w' => e = .returned (.string ⟨#[34, 34]⟩) ∧ Below w.heap.size w w' := by
  obtain ⟨W1, hW1⟩ : ∃ W, W = w.alloc (.cells #[] 148) := ⟨_, rfl⟩
  obtain ⟨W2, hW2⟩ : ∃ W, W = W1.alloc (.cells #[.int .i64 k, .int .i64 vn, .float .f64 vf, .string ⟨#[]⟩, .slice A m c] 41) := ⟨_, rfl⟩
  obtain ⟨W3, hW3⟩ : ∃ W, W = W2.alloc (.cells #[.int .u8 34] 5) := ⟨_, rfl⟩
  have hs1 : W1.heap.size = w.heap.size + 1 := by rw [hW1]; simp
  have hs2 : W2.heap.size = w.heap.size + 1 + 1 := by rw [hW2]; simp [hs1]
  have h2 : W2.heap[w.heap.size + 1]? = some (.cells #[.int .i64 k, .int .i64 vn, .float .f64 vf, .string ⟨#[]⟩, .slice A m c] 41 (0, 0)) := by rw [hW2, ← hs1]; exact heap_alloc_new _ _
  have h3 : W3.heap[w.heap.size + 1 + 1]? = some (.cells #[.int .u8 34] 5 (0, 0)) := by rw [hW3, ← hs2]; exact heap_alloc_new _ _
  have hb3 : Below W2.heap.size W2 W3 := by rw [hW3]; exact (Below.refl _ _).alloc (Nat.le_refl _) _
  have hb2 : Below w.heap.size w W2 := by rw [hW2]; exact Below.alloc (by rw [hW1]; exact (Below.refl _ _).alloc (Nat.le_refl _) _) (by omega) _
  have HB3 : Hid (Below w.heap.size w W3) := Lib.hid (hb2.trans (hb3.mono (by omega)))
  have c3 : W3.cell? ⟨w.heap.size + 1, 3, none⟩ = some (.string ⟨#[]⟩) := by
    rw [hb3.cell (p := ⟨w.heap.size + 1, 3, none⟩) (by simp only []; omega)]
    simp [World.cell?, h2]
  have HO3 : Hid (BOwn W3 w.heap.size (.slice (some ⟨w.heap.size + 1 + 1, 0, none⟩) 1 1) [34]) := Lib.hid (by
    refine ⟨rfl, .inr ⟨w.heap.size + 1 + 1, 1, #[.int .u8 34], rfl, by omega, h3, by simp, by decide, rfl, rfl⟩⟩)
  obtain ⟨W4, hW4⟩ : ∃ W, W = Lib.bytesWorld W3 5 ⟨#[]⟩ := ⟨_, rfl⟩
  have hb4 : Below W3.heap.size W3 W4 := by rw [hW4]; exact Lib.bytesWorld_below _ _ _
  have hcv : (convert 9 31 (.string ⟨#[]⟩)).run Tryz.prog W3 = .ok (.slice (some ⟨W3.heap.size, 0, none⟩) 0 (grownCap W3 0 0 5)) W4 := by rw [hW4]; exact Lib.run_convert_string_bytes W3 _ _ _ ⟨#[]⟩ Tryz.underlying9 Tryz.underlying31 Tryz.underlying5
  generalize grownCap W3 0 0 5 = cc at *
  have HB4 : Hid (Below w.heap.size w W4) := Lib.hid (HB3.out.trans (hb4.mono HB3.out.size))
  have HO4 := Lib.hid (HO3.out.later hb4)
  clear hb4 HO3
  rw [hW2, hW1] at hW3
  replace hW3 := Lib.hid hW3
  replace hW4 := Lib.hid hW4
  clear hs1 hs2 h2 h3 hb3 hb2 hW2 hW1
  go_enter Tryz.func199, Tryz.ntmps199
  go_upto_region 2 with fail
  rw [← hW3.out]
  go_wp2_with (rw [hcv])
  go_loop [5, 13] (fun o i => o = .slice (some ⟨w.heap.size + 1 + 1, 0, none⟩) 1 1 ∧ i = .int .i64 0) (fun _ _ => 0)
  case atStart => exact ⟨rfl, rfl⟩
  case round =>
    obtain ⟨rfl, rfl⟩ := hrel
    obtain ⟨W5, hW5⟩ : ∃ W, W = W4.alloc (.cells #[.int .u8 34] 5) := ⟨_, rfl⟩
    have hb5 : Below W4.heap.size W4 W5 := by rw [hW5]; exact (Below.refl _ _).alloc (Nat.le_refl _) _
    have HB5 : Hid (Below w.heap.size w W5) := Lib.hid (HB4.out.trans (hb5.mono HB4.out.size))
    have hown := HO4.out.later hb5
    have hin : BIn W5 (.slice (some ⟨W4.heap.size, 0, none⟩) 1 1) [34] := .inr ⟨_, 1, rfl, by simp, by decide, by rw [hW5]; simp, fun j u hu => by
      rcases j with _ | j
      · have hv : Value.int .u8 34 = u := by simpa [bv] using hu
        rw [← hv, hW5]
        show World.cell? _ ⟨W4.heap.size, 0, none⟩ = _
        unfold World.cell?; rw [heap_alloc_new]; rfl
      · simp at hu⟩
    replace hW5 := Lib.hid hW5
    clear hb5 HO4
    go_wp2_with (at_builtin; rw [← hW5.out]; refine wpList_append_bytes _ rfl _ _ rfl w.heap.size _ _ [34] [34] rfl rfl hown hin (by simp) HB5.out.size ?_; intro v2 w2 hown2 hg2 hb2; have HB6 := Lib.hid (HB5.out.trans hb2); have hcv2 := hown2.read.toText (by simp))
    go_ret
    exact ⟨rfl, HB6.out⟩

theorem small5 (w : World) : Calls Tryz.prog 121 #[.int .i64 5] w fun e w' => e = .returned (.string ⟨#[53]⟩) ∧ w' = w := by
  go_enter Tryz.func121, Tryz.ntmps121
  go_wp2_with fail
  go_ret
  exact ⟨rfl, rfl⟩
theorem small0 (w : World) : Calls Tryz.prog 121 #[.int .i64 0] w fun e w' => e = .returned (.string ⟨#[48]⟩) ∧ w' = w := by
  go_enter Tryz.func121, Tryz.ntmps121
  go_wp2_with fail
  go_ret
  exact ⟨rfl, rfl⟩
theorem ifmt5 (w : World) : Calls Tryz.prog 92 #[.int .u64 5, .int .i64 10] w fun e w' => e = .returned (.string ⟨#[53]⟩) ∧ w' = w := by
  have H := Lib.hid (fun W => small5 W)
  go_enter Tryz.func92, Tryz.ntmps92
  go_wp2_with fail
  refine (H.out _).mono ?_
  rintro e w1 ⟨rfl, rfl⟩
  go_wp2_with fail
  go_ret
  exact ⟨rfl, rfl⟩
theorem fmt5 (w : World) : Calls Tryz.prog 48 #[.int .u64 5, .int .i64 10] w fun e w' => e = .returned (.string ⟨#[53]⟩) ∧ w' = w := by
  have H := Lib.hid (fun W => ifmt5 W)
  go_enter Tryz.func48, Tryz.ntmps48
  go_wp2_with fail
  refine (H.out _).mono ?_
  rintro e w1 ⟨rfl, rfl⟩
  go_wp2_with fail
  go_ret
  exact ⟨rfl, rfl⟩
theorem ifmt0 (w : World) : Calls Tryz.prog 92 #[.int .u64 0, .int .i64 10] w fun e w' => e = .returned (.string ⟨#[48]⟩) ∧ w' = w := by
  have H := Lib.hid (fun W => small0 W)
  go_enter Tryz.func92, Tryz.ntmps92
  go_wp2_with fail
  refine (H.out _).mono ?_
  rintro e w1 ⟨rfl, rfl⟩
  go_wp2_with fail
  go_ret
  exact ⟨rfl, rfl⟩
theorem fmt0 (w : World) : Calls Tryz.prog 48 #[.int .u64 0, .int .i64 10] w fun e w' => e = .returned (.string ⟨#[48]⟩) ∧ w' = w := by
  have H := Lib.hid (fun W => ifmt0 W)
  go_enter Tryz.func48, Tryz.ntmps48
  go_wp2_with fail
  refine (H.out _).mono ?_
  rintro e w1 ⟨rfl, rfl⟩
  go_wp2_with fail
  go_ret
  exact ⟨rfl, rfl⟩
theorem ifmi0 (w : World) : Calls Tryz.prog 137 #[.int .i64 0, .int .i64 10] w fun e w' => e = .returned (.string ⟨#[48]⟩) ∧ w' = w := by
  have H := Lib.hid (fun W => small0 W)
  go_enter Tryz.func137, Tryz.ntmps137
  go_wp2_with fail
  refine (H.out _).mono ?_
  rintro e w1 ⟨rfl, rfl⟩
  go_wp2_with fail
  go_ret
  exact ⟨rfl, rfl⟩
theorem iitoa0 (w : World) : Calls Tryz.prog 116 #[.int .i64 0] w fun e w' => e = .returned (.string ⟨#[48]⟩) ∧ w' = w := by
  have H := Lib.hid (fun W => ifmi0 W)
  go_enter Tryz.func116, Tryz.ntmps116
  go_wp2_with fail
  refine (H.out _).mono ?_
  rintro e w1 ⟨rfl, rfl⟩
  go_wp2_with fail
  go_ret
  exact ⟨rfl, rfl⟩
theorem itoa0 (w : World) : Calls Tryz.prog 76 #[.int .i64 0] w fun e w' => e = .returned (.string ⟨#[48]⟩) ∧ w' = w := by
  have H := Lib.hid (fun W => iitoa0 W)
  go_enter Tryz.func76, Tryz.ntmps76
  go_wp2_with fail
  refine (H.out _).mono ?_
  rintro e w1 ⟨rfl, rfl⟩
  go_wp2_with fail
  go_ret
  exact ⟨rfl, rfl⟩
set_option maxRecDepth 100000 in
set_option maxHeartbeats 400000 in
theorem vtext_none (t : VT) (lo hi : Nat) (vn : Int) (vf : Nat) (vs : ByteArray) (A : Option Addr) (m c : Nat) (w : World) (hv : Rep w lo hi t (.agg #[.int .i64 0, .int .i64 vn, .float .f64 vf, .string vs, .slice A m c])) (hz : hi ≤ w.heap.size) (hval : t.valid 8 = true) (res : ByteArray)
    (hm : ∀ W, Calls Tryz.prog 178 #[.agg #[], .agg #[.int .i64 0, .int .i64 vn, .float .f64 vf, .string vs, .slice A m c]] W fun e w' => e = .returned (.string res) ∧ Below W.heap.size W w') :
    Calls Tryz.prog 47 #[.agg #[.int .i64 0, .int .i64 vn, .float .f64 vf, .string vs, .slice A m c]] w fun e w' => e = .returned (.string res) ∧ Below w.heap.size w w' := by
  obtain ⟨W0, hW0⟩ : ∃ W0, W0 = w.alloc (.cells #[.int .i64 0, .int .i64 vn, .float .f64 vf, .string vs, .slice A m c] 41) := ⟨_, rfl⟩
  have hB0 : Below w.heap.size w W0 := by rw [hW0]; exact (Below.refl _ _).alloc (Nat.le_refl _) _
  have hbx : BoxAt W0 w.heap.size 0 vn vf vs A m c := by rw [hW0]; exact BoxAt.new ..
  have hz0 : w.heap.size < W0.heap.size := by rw [hW0]; simp
  have HBX : Hid (∀ W, Below W0.heap.size W0 W → BoxAt W w.heap.size 0 vn vf vs A m c) := Lib.hid fun W hW => hbx.later hW hz0
  have HV := Lib.hid (Vt.valid_any t W0 lo hi _ (hv.later (hB0.mono hz)) (Nat.le_trans hz hB0.size))
  rw [hval] at HV
  have HO : Hid (∀ W, Calls Tryz.prog 91 #[.int .i64 0] W fun e w' => e = .returned (.iface 145 (.agg #[])) ∧ W = w') := Lib.hid fun W => Vt.of_any 0 W
  have HM := Lib.hid hm
  have hM : ∀ (n : Nat) (w : World), (method (n + 1) 145 (.agg #[]) "clockwork/value.text").run Tryz.prog w = .ok (178, .agg #[]) w := m_none_text
  have HB0 := Lib.hid hB0
  obtain ⟨c0, c1, c2, c3, c4⟩ := hbx.cells
  clear hB0 hbx hv hm
  replace hW0 := Lib.hid hW0
  go_enter Tryz.func47, Tryz.ntmps47
  go_upto_region 1 with fail
  rw [← hW0.out]
  go_wp2_with fail
  refine HV.out.mono ?_
  rintro e w1 ⟨rfl, hb1⟩
  have HB1 := Lib.hid hb1
  clear hb1 c0 c1 c2 c3 c4
  have HS : Hid (∀ W, Below W0.heap.size W0 W → (W.cell? ⟨w.heap.size, 0, none⟩ = some (.int .i64 0) ∧ W.cell? ⟨w.heap.size, 1, none⟩ = some (.int .i64 vn) ∧ W.cell? ⟨w.heap.size, 2, none⟩ = some (.float .f64 vf) ∧ W.cell? ⟨w.heap.size, 3, none⟩ = some (.string vs) ∧ W.cell? ⟨w.heap.size, 4, none⟩ = some (.slice A m c))) := Lib.hid fun W hW => (HBX.out W hW).cells
  have H1D : Hid (Below W0.heap.size W0 w1.drew) := Lib.hid (HB1.out.trans (below_drew (Below.refl _ _) |>.mono HB1.out.size))
  go_upto_region 3 with fail
  refine wp_region_noPanic ?_
  refine wp_region_held_drew (S := (fun w' : World => w'.cell? ⟨w.heap.size, 0, none⟩ = some (.int .i64 0) ∧ w'.cell? ⟨w.heap.size, 1, none⟩ = some (.int .i64 vn) ∧ w'.cell? ⟨w.heap.size, 2, none⟩ = some (.float .f64 vf) ∧ w'.cell? ⟨w.heap.size, 3, none⟩ = some (.string vs) ∧ w'.cell? ⟨w.heap.size, 4, none⟩ = some (.slice A m c))) (by kernel_rfl) ?_ (fun hHeld => ?_)
  · exact HS.out _ H1D.out
  first
    | (refine take_drop (i := 0) (v := ?_) rfl (by kernel_rfl) (by kernel_rfl) (by kernel_rfl) (fun _ _ _ h => h) (Or.inl ⟨by rfl, ?_⟩) (by assumption) ?_; rotate_left 1; (focus (intro w hSw; (try dsimp only at hSw); go_simp; try with_reducible rfl)); try simp only [Act.put, List.setIfInBounds_toArray, List.set_cons_zero, List.set_cons_succ])
    | (refine take_drop (i := 0) (v := undef) rfl (by kernel_rfl) (by kernel_rfl) (by kernel_rfl) (fun _ _ _ h => h) (Or.inr ⟨by rfl, rfl⟩) (by assumption) ?_; try simp only [Act.put, List.setIfInBounds_toArray, List.set_cons_zero, List.set_cons_succ])
  first
    | (refine take_drop (i := 1) (v := ?_) rfl (by kernel_rfl) (by kernel_rfl) (by kernel_rfl) (fun _ _ _ h => h) (Or.inl ⟨by rfl, ?_⟩) (by assumption) ?_; rotate_left 1; (focus (intro w hSw; (try dsimp only at hSw); go_simp; try with_reducible rfl)); try simp only [Act.put, List.setIfInBounds_toArray, List.set_cons_zero, List.set_cons_succ])
    | (refine take_drop (i := 1) (v := undef) rfl (by kernel_rfl) (by kernel_rfl) (by kernel_rfl) (fun _ _ _ h => h) (Or.inr ⟨by rfl, rfl⟩) (by assumption) ?_; try simp only [Act.put, List.setIfInBounds_toArray, List.set_cons_zero, List.set_cons_succ])
  first
    | (refine take_drop (i := 3) (v := ?_) rfl (by kernel_rfl) (by kernel_rfl) (by kernel_rfl) (fun _ _ _ h => h) (Or.inl ⟨by rfl, ?_⟩) (by assumption) ?_; rotate_left 1; (focus (intro w hSw; (try dsimp only at hSw); go_simp; try with_reducible rfl)); try simp only [Act.put, List.setIfInBounds_toArray, List.set_cons_zero, List.set_cons_succ])
    | (refine take_drop (i := 3) (v := undef) rfl (by kernel_rfl) (by kernel_rfl) (by kernel_rfl) (fun _ _ _ h => h) (Or.inr ⟨by rfl, rfl⟩) (by assumption) ?_; try simp only [Act.put, List.setIfInBounds_toArray, List.set_cons_zero, List.set_cons_succ])
  refine wpAnyH_ready (rs := [2]) (by kernel_rfl) (by simp) ?_
  refine cons_drop rfl (fun K hK => ?_) AllReadyH.nil
  go_simp
  refine (HO.out _).mono ?_
  rintro e w2 ⟨rfl, rfl⟩
  go_wp2_with fail
  refine hK.out _ _ (HS.out _ H1D.out) (fun h2 => ?_)
  clear hK K hHeld
  try simp only [Act.put, List.setIfInBounds_toArray, List.set_cons_zero, List.set_cons_succ]
  refine wpAnyH_ready (rs := [4]) (by kernel_rfl) (by simp) ?_
  refine cons_drop rfl (fun K hK => ?_) AllReadyH.nil
  go_simp
  refine (HM.out _).mono ?_
  rintro e w3 ⟨rfl, hb3⟩
  have h3B : Hid (Below W0.heap.size W0 w3) := Lib.hid (H1D.out.trans (hb3.mono H1D.out.size))
  clear hb3
  go_wp2_with fail
  refine hK.out _ _ (HS.out _ h3B.out) (fun h3 => ?_)
  clear hK K h2
  try simp only [Act.put, List.setIfInBounds_toArray, List.set_cons_zero, List.set_cons_succ]
  first
    | (refine take_drop (i := 5) (v := ?_) rfl (by kernel_rfl) (by kernel_rfl) (by kernel_rfl) (fun _ _ _ h => h) (Or.inl ⟨by rfl, ?_⟩) (by assumption) ?_; rotate_left 1; (focus (intro w hSw; (try dsimp only at hSw); go_simp; try with_reducible rfl)); try simp only [Act.put, List.setIfInBounds_toArray, List.set_cons_zero, List.set_cons_succ])
    | (refine take_drop (i := 5) (v := undef) rfl (by kernel_rfl) (by kernel_rfl) (by kernel_rfl) (fun _ _ _ h => h) (Or.inr ⟨by rfl, rfl⟩) (by assumption) ?_; try simp only [Act.put, List.setIfInBounds_toArray, List.set_cons_zero, List.set_cons_succ])
  refine wpAnyH_done (by kernel_rfl) ?_ _
  refine NoPanic.normal ?_
  go_wp2_with fail
  go_ret
  exact ⟨rfl, HB0.out.trans (h3B.out.mono HB0.out.size)⟩

set_option maxRecDepth 100000 in
set_option maxHeartbeats 400000 in
theorem vtext_text (t : VT) (lo hi : Nat) (vn : Int) (vf : Nat) (vs : ByteArray) (A : Option Addr) (m c : Nat) (w : World) (hv : Rep w lo hi t (.agg #[.int .i64 3, .int .i64 vn, .float .f64 vf, .string vs, .slice A m c])) (hz : hi ≤ w.heap.size) (hval : t.valid 8 = true) (res : ByteArray)
    (hm : ∀ W, Calls Tryz.prog 199 #[.agg #[], .agg #[.int .i64 3, .int .i64 vn, .float .f64 vf, .string vs, .slice A m c]] W fun e w' => e = .returned (.string res) ∧ Below W.heap.size W w') :
    Calls Tryz.prog 47 #[.agg #[.int .i64 3, .int .i64 vn, .float .f64 vf, .string vs, .slice A m c]] w fun e w' => e = .returned (.string res) ∧ Below w.heap.size w w' := by
  obtain ⟨W0, hW0⟩ : ∃ W0, W0 = w.alloc (.cells #[.int .i64 3, .int .i64 vn, .float .f64 vf, .string vs, .slice A m c] 41) := ⟨_, rfl⟩
  have hB0 : Below w.heap.size w W0 := by rw [hW0]; exact (Below.refl _ _).alloc (Nat.le_refl _) _
  have hbx : BoxAt W0 w.heap.size 3 vn vf vs A m c := by rw [hW0]; exact BoxAt.new ..
  have hz0 : w.heap.size < W0.heap.size := by rw [hW0]; simp
  have HBX : Hid (∀ W, Below W0.heap.size W0 W → BoxAt W w.heap.size 3 vn vf vs A m c) := Lib.hid fun W hW => hbx.later hW hz0
  have HV := Lib.hid (Vt.valid_any t W0 lo hi _ (hv.later (hB0.mono hz)) (Nat.le_trans hz hB0.size))
  rw [hval] at HV
  have HO : Hid (∀ W, Calls Tryz.prog 91 #[.int .i64 3] W fun e w' => e = .returned (.iface 148 (.agg #[])) ∧ W = w') := Lib.hid fun W => Vt.of_any 3 W
  have HM := Lib.hid hm
  have hM : ∀ (n : Nat) (w : World), (method (n + 1) 148 (.agg #[]) "clockwork/value.text").run Tryz.prog w = .ok (199, .agg #[]) w := m_text_text
  have HB0 := Lib.hid hB0
  obtain ⟨c0, c1, c2, c3, c4⟩ := hbx.cells
  clear hB0 hbx hv hm
  replace hW0 := Lib.hid hW0
  go_enter Tryz.func47, Tryz.ntmps47
  go_upto_region 1 with fail
  rw [← hW0.out]
  go_wp2_with fail
  refine HV.out.mono ?_
  rintro e w1 ⟨rfl, hb1⟩
  have HB1 := Lib.hid hb1
  clear hb1 c0 c1 c2 c3 c4
  have HS : Hid (∀ W, Below W0.heap.size W0 W → (W.cell? ⟨w.heap.size, 0, none⟩ = some (.int .i64 3) ∧ W.cell? ⟨w.heap.size, 1, none⟩ = some (.int .i64 vn) ∧ W.cell? ⟨w.heap.size, 2, none⟩ = some (.float .f64 vf) ∧ W.cell? ⟨w.heap.size, 3, none⟩ = some (.string vs) ∧ W.cell? ⟨w.heap.size, 4, none⟩ = some (.slice A m c))) := Lib.hid fun W hW => (HBX.out W hW).cells
  have H1D : Hid (Below W0.heap.size W0 w1.drew) := Lib.hid (HB1.out.trans (below_drew (Below.refl _ _) |>.mono HB1.out.size))
  go_upto_region 3 with fail
  refine wp_region_noPanic ?_
  refine wp_region_held_drew (S := (fun w' : World => w'.cell? ⟨w.heap.size, 0, none⟩ = some (.int .i64 3) ∧ w'.cell? ⟨w.heap.size, 1, none⟩ = some (.int .i64 vn) ∧ w'.cell? ⟨w.heap.size, 2, none⟩ = some (.float .f64 vf) ∧ w'.cell? ⟨w.heap.size, 3, none⟩ = some (.string vs) ∧ w'.cell? ⟨w.heap.size, 4, none⟩ = some (.slice A m c))) (by kernel_rfl) ?_ (fun hHeld => ?_)
  · exact HS.out _ H1D.out
  first
    | (refine take_drop (i := 0) (v := ?_) rfl (by kernel_rfl) (by kernel_rfl) (by kernel_rfl) (fun _ _ _ h => h) (Or.inl ⟨by rfl, ?_⟩) (by assumption) ?_; rotate_left 1; (focus (intro w hSw; (try dsimp only at hSw); go_simp; try with_reducible rfl)); try simp only [Act.put, List.setIfInBounds_toArray, List.set_cons_zero, List.set_cons_succ])
    | (refine take_drop (i := 0) (v := undef) rfl (by kernel_rfl) (by kernel_rfl) (by kernel_rfl) (fun _ _ _ h => h) (Or.inr ⟨by rfl, rfl⟩) (by assumption) ?_; try simp only [Act.put, List.setIfInBounds_toArray, List.set_cons_zero, List.set_cons_succ])
  first
    | (refine take_drop (i := 1) (v := ?_) rfl (by kernel_rfl) (by kernel_rfl) (by kernel_rfl) (fun _ _ _ h => h) (Or.inl ⟨by rfl, ?_⟩) (by assumption) ?_; rotate_left 1; (focus (intro w hSw; (try dsimp only at hSw); go_simp; try with_reducible rfl)); try simp only [Act.put, List.setIfInBounds_toArray, List.set_cons_zero, List.set_cons_succ])
    | (refine take_drop (i := 1) (v := undef) rfl (by kernel_rfl) (by kernel_rfl) (by kernel_rfl) (fun _ _ _ h => h) (Or.inr ⟨by rfl, rfl⟩) (by assumption) ?_; try simp only [Act.put, List.setIfInBounds_toArray, List.set_cons_zero, List.set_cons_succ])
  first
    | (refine take_drop (i := 3) (v := ?_) rfl (by kernel_rfl) (by kernel_rfl) (by kernel_rfl) (fun _ _ _ h => h) (Or.inl ⟨by rfl, ?_⟩) (by assumption) ?_; rotate_left 1; (focus (intro w hSw; (try dsimp only at hSw); go_simp; try with_reducible rfl)); try simp only [Act.put, List.setIfInBounds_toArray, List.set_cons_zero, List.set_cons_succ])
    | (refine take_drop (i := 3) (v := undef) rfl (by kernel_rfl) (by kernel_rfl) (by kernel_rfl) (fun _ _ _ h => h) (Or.inr ⟨by rfl, rfl⟩) (by assumption) ?_; try simp only [Act.put, List.setIfInBounds_toArray, List.set_cons_zero, List.set_cons_succ])
  refine wpAnyH_ready (rs := [2]) (by kernel_rfl) (by simp) ?_
  refine cons_drop rfl (fun K hK => ?_) AllReadyH.nil
  go_simp
  refine (HO.out _).mono ?_
  rintro e w2 ⟨rfl, rfl⟩
  go_wp2_with fail
  refine hK.out _ _ (HS.out _ H1D.out) (fun h2 => ?_)
  clear hK K hHeld
  try simp only [Act.put, List.setIfInBounds_toArray, List.set_cons_zero, List.set_cons_succ]
  refine wpAnyH_ready (rs := [4]) (by kernel_rfl) (by simp) ?_
  refine cons_drop rfl (fun K hK => ?_) AllReadyH.nil
  go_simp
  refine (HM.out _).mono ?_
  rintro e w3 ⟨rfl, hb3⟩
  have h3B : Hid (Below W0.heap.size W0 w3) := Lib.hid (H1D.out.trans (hb3.mono H1D.out.size))
  clear hb3
  go_wp2_with fail
  refine hK.out _ _ (HS.out _ h3B.out) (fun h3 => ?_)
  clear hK K h2
  try simp only [Act.put, List.setIfInBounds_toArray, List.set_cons_zero, List.set_cons_succ]
  first
    | (refine take_drop (i := 5) (v := ?_) rfl (by kernel_rfl) (by kernel_rfl) (by kernel_rfl) (fun _ _ _ h => h) (Or.inl ⟨by rfl, ?_⟩) (by assumption) ?_; rotate_left 1; (focus (intro w hSw; (try dsimp only at hSw); go_simp; try with_reducible rfl)); try simp only [Act.put, List.setIfInBounds_toArray, List.set_cons_zero, List.set_cons_succ])
    | (refine take_drop (i := 5) (v := undef) rfl (by kernel_rfl) (by kernel_rfl) (by kernel_rfl) (fun _ _ _ h => h) (Or.inr ⟨by rfl, rfl⟩) (by assumption) ?_; try simp only [Act.put, List.setIfInBounds_toArray, List.set_cons_zero, List.set_cons_succ])
  refine wpAnyH_done (by kernel_rfl) ?_ _
  refine NoPanic.normal ?_
  go_wp2_with fail
  go_ret
  exact ⟨rfl, HB0.out.trans (h3B.out.mono HB0.out.size)⟩

theorem quoted0 (w : World) : Calls Tryz.prog 77 #[.string ⟨#[]⟩] w fun e w' => e = .returned (.string ⟨#[34, 34]⟩) ∧ Below w.heap.size w w' := by
  have H := Lib.hid (fun W => vtext_text (.mk 3 0 0 ⟨#[]⟩ []) 0 0 0 0 ⟨#[]⟩ none 0 0 W (Rep.leaf ⟨by omega, by omega, by omega, by omega, by omega, by decide, by decide⟩) (Nat.zero_le _) (by rw [Vt.valid_mk]; simp; decide) ⟨#[34, 34]⟩ (fun W => text_text0 0 0 none 0 0 3 W))
  go_enter Tryz.func77, Tryz.ntmps77
  go_wp2_with fail
  refine (H.out _).mono ?_
  rintro e w1 ⟨rfl, hb⟩
  go_wp2_with fail
  go_ret
  exact ⟨rfl, hb⟩
end Bt
end Go.Proofs.YtpneejlilgepfaaGreatDoor
namespace Go.Proofs.YtpneejlilgepfaaGreatDoor
open Go.RowKit Go.Shelf
set_option linter.unusedVariables false

def Tryz.laysJoin_ren : Go.Shelf.Ren := ⟨fun | 156 => 49 | 165 => 93 | 166 => 94 | 169 => 95 | 240 => 125 | 241 => 126 | 276 => 146 | 277 => 147 | n => n, fun | 31 => 74 | 9 => 9 | 3 => 3 | 4 => 4 | 0 => 0 | 20 => 20 | 72 => 120 | 76 => 124 | 70 => 118 | 37 => 31 | 75 => 123 | 127 => 156 | 164 => 175 | 5 => 5 | 80 => 83 | n => n, fun | n => n⟩
theorem Tryz.laysJoin : Go.Proofs.Lays.n156 Tryz.prog Tryz.laysJoin_ren := {
  mixed := by kernel_rfl
  f156 := Tryz.func49.trans (congrArg some (by kernel_rfl))
  f165 := Tryz.func93.trans (congrArg some (by kernel_rfl))
  f166 := Tryz.func94.trans (congrArg some (by kernel_rfl))
  f169 := Tryz.func95.trans (congrArg some (by kernel_rfl))
  f240 := Tryz.func125.trans (congrArg some (by kernel_rfl))
  f241 := Tryz.func126.trans (congrArg some (by kernel_rfl))
  f276 := Tryz.func146.trans (congrArg some (by kernel_rfl))
  f277 := Tryz.func147.trans (congrArg some (by kernel_rfl))
  t0 := Tryz.underlying0
  a0 := Tryz.isAgg0
  z0 := Tryz.sizeOf0
  v0 := Tryz.zeroValue0
  t3 := Tryz.underlying3
  a3 := Tryz.isAgg3
  z3 := Tryz.sizeOf3
  v3 := Tryz.zeroValue3
  t4 := Tryz.underlying4
  a4 := Tryz.isAgg4
  z4 := Tryz.sizeOf4
  v4 := Tryz.zeroValue4
  t9 := Tryz.underlying9
  a9 := Tryz.isAgg9
  z9 := Tryz.sizeOf9
  v9 := Tryz.zeroValue9
  t20 := Tryz.underlying20
  a20 := Tryz.isAgg20
  z20 := Tryz.sizeOf20
  v20 := Tryz.zeroValue20
  t31 := Tryz.underlying74
  a31 := Tryz.isAgg74
  z31 := Tryz.sizeOf74
  v31 := Tryz.zeroValue74
  t37 := Tryz.underlying31
  a37 := Tryz.isAgg31
  z37 := Tryz.sizeOf31
  v37 := Tryz.zeroValue31
  t70 := Tryz.underlying118
  a70 := Tryz.isAgg118
  z70 := Tryz.sizeOf118
  v70 := Tryz.zeroValue118
  t72 := Tryz.underlying120
  a72 := Tryz.isAgg120
  z72 := Tryz.sizeOf120
  v72 := Tryz.zeroValue120
  t75 := Tryz.underlying123
  a75 := Tryz.isAgg123
  z75 := Tryz.sizeOf123
  v75 := Tryz.zeroValue123
  t76 := Tryz.underlying124
  a76 := Tryz.isAgg124
  z76 := Tryz.sizeOf124
  v76 := Tryz.zeroValue124
  t127 := Tryz.underlying156
  a127 := Tryz.isAgg156
  z127 := Tryz.sizeOf156
  v127 := Tryz.zeroValue156
  t164 := Tryz.underlying175
  a164 := Tryz.isAgg175
  z164 := Tryz.sizeOf175
  v164 := Tryz.zeroValue175 }

theorem Tryz.extraJoin : Builder.Extra Tryz.prog Tryz.laysJoin_ren := {
  sizeBuilder := by kernel_rfl
  liesBuilder := by kernel_rfl
  t5 := by kernel_rfl
  a5 := by first | exact Tryz.isAgg5 | (intro w; rfl)
  z5 := by first | exact Tryz.sizeOf5 | (intro w; rfl)
  v5 := by first | exact Tryz.zeroValue5 | (intro w; rfl)
  infoByte := by kernel_rfl
  cellsByte := by kernel_rfl
  sizeByte := by kernel_rfl
  neB5 := by decide }

namespace Bt
open Vt (VT Rep BoxAt below_drew)
open Ev (take_drop cons_drop EBox six_cells six_row RowAt ix0 ix1 ix2 ix3 ix4 ix5)

/-- A slice of strings in a row of the call's own. -/
def SOwn (w : World) (base : Nat) (v : Value) (l : List ByteArray) : Prop := w.ownsRow base 9 1 v l.length (l.map Value.string)
theorem Tryz.infoS : (Tryz.prog.info? 9).map (fun i => (i.zero, i.size, i.bytes)) = some (some (.string ⟨#[]⟩), 1, 16) := by kernel_rfl
theorem SOwn.later {w w' : World} {base : Nat} {v : Value} {l : List ByteArray} (h : SOwn w base v l) (hb : Below w.heap.size w w') : SOwn w' base v l := by
  refine ⟨h.1, ?_⟩
  rcases h.2 with h | ⟨g, cap, cur, q1, q2, q3, q4⟩
  · exact .inl h
  · exact .inr ⟨g, cap, cur, q1, q2, (hb.block g (Array.getElem?_eq_some_iff.1 q3).1).trans q3, q4⟩
theorem SOwn.row_ge {w : World} {base : Nat} {v : Value} {l : List ByteArray} (h : SOwn w base v l) : ∀ k, v.ownBlock = some k → base ≤ k := by
  intro k hk
  rcases h.2 with ⟨rfl, -⟩ | ⟨g, cap, cur, rfl, q2, -⟩
  · cases hk
  · cases hk; exact q2
/-- One string onto a row. -/
theorem run_append_str {W : World} {base : Nat} (ty : TypeId) {v : Value} {l : List ByteArray} {x : ByteArray} (g c : Nat) (hx : W.cell? ⟨g, 0, none⟩ = some (.string x)) (hown : SOwn W base v l) (hlen : l.length ≤ 1000000) (hbase : base ≤ W.heap.size) :
    ∃ v' W', (Builtin.append_ #[74, 74] ty #[v, .slice (some ⟨g, 0, none⟩) 1 c]).run Tryz.prog W = .ok v' W' ∧ SOwn W' base v' (l ++ [x]) ∧ W.grownBy W' v.ownBlock := by
  obtain ⟨i0, hi, hz0, hz1, hz2⟩ := info_parts Tryz.infoS
  obtain ⟨v', W', hr, ho, hg, -, -⟩ := run_append_own_at (P := Tryz.prog) W base 74 ty 9 i0 (.string ⟨#[]⟩) 1 16 Tryz.underlying74 hi hz0 hz1 hz2 rfl (by decide) v l.length _ hown ⟨g, 0, none⟩ 1 c [.string x] (by simp) (fun j u hu => by
    rcases j with _ | j
    · have : Value.string x = u := by simpa using hu
      rw [← this]; exact hx
    · simp at hu) (by intro u hu; rw [List.mem_singleton] at hu; subst hu; rfl) (by simp only [maxLen]; omega) (by omega) hbase
  refine ⟨v', W', hr, ?_, hg⟩
  unfold SOwn
  rw [List.length_append, List.map_append]
  exact ho
theorem wpList_append_str {ops : Array Oper} {rest : List Oper} {o : Oper} {a : Act} {Q : Exit → Act → World → Prop} (W : World) (hgd : o.guard = none) (s y : Operand)
    (ho : o.op = .call { callee := .builtin .append, args := #[s, y], argTypes := #[74, 74] }) (base : Nat) (v : Value) (g c : Nat) (l : List ByteArray) (x : ByteArray) (hv : a.eval s = v) (hy : a.eval y = .slice (some ⟨g, 0, none⟩) 1 c) (hx : W.cell? ⟨g, 0, none⟩ = some (.string x)) (hown : SOwn W base v l) (hlen : l.length ≤ 1000000) (hbase : base ≤ W.heap.size)
    (h : ∀ v' W', SOwn W' base v' (l ++ [x]) → W.grownBy W' v.ownBlock → Below base W W' → wpList Tryz.prog ops Q rest (a.put o.dst v') W') : wpList Tryz.prog ops Q (o :: rest) a W := by
  obtain ⟨v', W', hr, h1, h2⟩ := run_append_str o.type g c hx hown hlen hbase
  exact Lib.wpList_append_run W hgd s y _ _ ho v _ hv hy v' W' hr (h v' W' h1 h2 ((Below.refl base W).grown h2 hbase hown.row_ge))

/-- Those texts that a kind has, of the first j. -/
def selS (bs : List Bool) (ps : List ByteArray) (j : Nat) : List ByteArray := (((bs.zip ps).take j).map (fun p => if p.1 then [p.2] else [])).flatten
theorem selS_len : ∀ (bs : List Bool) (ps : List ByteArray) (j : Nat), (selS bs ps j).length ≤ ps.length
  | [], _, _ => by simp [selS]
  | _ :: _, [], _ => by simp [selS]
  | _ :: _, _ :: _, 0 => by simp [selS]
  | b :: bs, p :: ps, j + 1 => by have := selS_len bs ps j; simp only [selS] at this ⊢; simp only [List.zip_cons_cons, List.take_succ_cons, List.map_cons, List.flatten_cons, List.length_append, List.length_cons]; cases b <;> simp only [Bool.false_eq_true, if_true, if_false, List.length_nil, List.length_singleton] <;> omega

/-- Strings joined by a blank. -/
theorem join_any (l : List ByteArray) (v : Value) (base : Nat) (w : World) (hown : SOwn w base v l) (h0 : l ≠ []) (hn : l.length ≤ 1000000) (hlen : (Lib.join (l.map (·.data.toList)) [32]).length ≤ 140737488355328) :
    Calls Tryz.prog 49 #[v, .string ⟨#[32]⟩] w fun e w' => e = .returned (.string ⟨(Lib.join (l.map (·.data.toList)) [32]).toArray⟩) ∧ Below w.heap.size w w' := by
  rcases hown.2 with ⟨h1, h2⟩ | ⟨g, cap, cur, rfl, q2, q3, q4, q5, q6, q7⟩
  · exact absurd (List.eq_nil_of_length_eq_zero h2) h0
  · refine Any.strings_Join Tryz.laysJoin Tryz.extraJoin g 0 cap l ⟨#[32]⟩ w (fun j x hj => ?_) (Array.getElem?_eq_some_iff.1 q3).1 (by omega) q4 hlen
    have hlt := (List.getElem?_eq_some_iff.1 hj).1
    have hc : cur[j]? = some (.string x) := by
      have h3 : (l.map Value.string)[j]? = some (.string x) := by rw [List.getElem?_map, hj]; rfl
      rw [← q7, List.getElem?_take_of_lt (by omega)] at h3
      rw [← Array.getElem?_toList]; exact h3
    simp [World.cell?, q3, hc]

end Bt
end Go.Proofs.YtpneejlilgepfaaGreatDoor
namespace Go.Proofs.YtpneejlilgepfaaGreatDoor
open Go.RowKit Go.Shelf
set_option linter.unusedVariables false
set_option linter.unusedSimpArgs false
def Tryz.laysFi3_ren : Go.Shelf.Ren := ⟨fun | 173 => 183 | 246 => 137 | 283 => 121 | 284 => 122 | 285 => 123 | 286 => 124 | 129 => 142 | 317 => 141 | 318 => 143 | 319 => 144 | 320 => 145 | 337 => 155 | 338 => 156 | n => n, fun | 2 => 2 | 3 => 3 | 9 => 9 | 4 => 4 | 171 => 151 | 0 => 0 | 53 => 22 | 37 => 31 | 5 => 5 | 173 => 154 | 212 => 171 | 51 => 172 | 20 => 20 | 213 => 173 | 46 => 143 | 232 => 184 | 233 => 185 | n => n, fun | 17 => 0 | 18 => 3 | 19 => 4 | n => n⟩
theorem Tryz.laysFi3 : Go.Proofs.LaysM.n173 Tryz.prog Tryz.laysFi3_ren := {
  mixed := by kernel_rfl
  f129 := Tryz.func142.trans (congrArg some (by kernel_rfl))
  f173 := Tryz.func183.trans (congrArg some (by kernel_rfl))
  f246 := Tryz.func137.trans (congrArg some (by kernel_rfl))
  f283 := Tryz.func121.trans (congrArg some (by kernel_rfl))
  f284 := Tryz.func122.trans (congrArg some (by kernel_rfl))
  f285 := Tryz.func123.trans (congrArg some (by kernel_rfl))
  f286 := Tryz.func124.trans (congrArg some (by kernel_rfl))
  f317 := Tryz.func141.trans (congrArg some (by kernel_rfl))
  f318 := Tryz.func143.trans (congrArg some (by kernel_rfl))
  f319 := Tryz.func144.trans (congrArg some (by kernel_rfl))
  f320 := Tryz.func145.trans (congrArg some (by kernel_rfl))
  f337 := Tryz.func155.trans (congrArg some (by kernel_rfl))
  f338 := Tryz.func156.trans (congrArg some (by kernel_rfl))
  t0 := Tryz.underlying0
  a0 := Tryz.isAgg0
  z0 := Tryz.sizeOf0
  v0 := Tryz.zeroValue0
  t2 := Tryz.underlying2
  a2 := Tryz.isAgg2
  z2 := Tryz.sizeOf2
  v2 := Tryz.zeroValue2
  t3 := Tryz.underlying3
  a3 := Tryz.isAgg3
  z3 := Tryz.sizeOf3
  v3 := Tryz.zeroValue3
  t4 := Tryz.underlying4
  a4 := Tryz.isAgg4
  z4 := Tryz.sizeOf4
  v4 := Tryz.zeroValue4
  t5 := Tryz.underlying5
  a5 := Tryz.isAgg5
  z5 := Tryz.sizeOf5
  v5 := Tryz.zeroValue5
  t9 := Tryz.underlying9
  a9 := Tryz.isAgg9
  z9 := Tryz.sizeOf9
  v9 := Tryz.zeroValue9
  t20 := Tryz.underlying20
  a20 := Tryz.isAgg20
  z20 := Tryz.sizeOf20
  v20 := Tryz.zeroValue20
  t37 := Tryz.underlying31
  a37 := Tryz.isAgg31
  z37 := Tryz.sizeOf31
  v37 := Tryz.zeroValue31
  t46 := Tryz.underlying143
  a46 := Tryz.isAgg143
  z46 := Tryz.sizeOf143
  v46 := Tryz.zeroValue143
  t51 := Tryz.underlying172
  a51 := Tryz.isAgg172
  z51 := Tryz.sizeOf172
  v51 := Tryz.zeroValue172
  t53 := Tryz.underlying22
  a53 := Tryz.isAgg22
  z53 := Tryz.sizeOf22
  v53 := Tryz.zeroValue22
  t171 := Tryz.underlying151
  a171 := Tryz.isAgg151
  z171 := Tryz.sizeOf151
  v171 := Tryz.zeroValue151
  t173 := Tryz.underlying154
  a173 := Tryz.isAgg154
  z173 := Tryz.sizeOf154
  v173 := Tryz.zeroValue154
  t212 := Tryz.underlying171
  a212 := Tryz.isAgg171
  z212 := Tryz.sizeOf171
  v212 := Tryz.zeroValue171
  t213 := Tryz.underlying173
  a213 := Tryz.isAgg173
  z213 := Tryz.sizeOf173
  t232 := Tryz.underlying184
  a232 := Tryz.isAgg184
  z232 := Tryz.sizeOf184
  v232 := Tryz.zeroValue184
  t233 := Tryz.underlying185
  a233 := Tryz.isAgg185
  z233 := Tryz.sizeOf185
  v233 := Tryz.zeroValue185
  g17 := by kernel_rfl
  g18 := by kernel_rfl
  g19 := by kernel_rfl
  i0 := by kernel_rfl
  i2 := by kernel_rfl
  i3 := by kernel_rfl
  i4 := by kernel_rfl
  i5 := by kernel_rfl
  i9 := by kernel_rfl
  i20 := by kernel_rfl
  i37 := by kernel_rfl
  i46 := by kernel_rfl
  i51 := by kernel_rfl
  i53 := by kernel_rfl
  i171 := by kernel_rfl
  i173 := by kernel_rfl
  i212 := by kernel_rfl
  i232 := by kernel_rfl
  i233 := by kernel_rfl
  m17 := by kernel_rfl
  m18 := by kernel_rfl
  m19 := by kernel_rfl }
namespace Vf
open _root_.Go.Proofs.YtpneejlilgepfaaGreatDoor.Nm (bitsW bits_any ret_int ret_bool)
open Bt (BOwn BIn ubytes sb uint_any btext_any bown_nil wpList_append_bytes step_append_bytes bv SOwn join_any)
open Pf (zz zz_lt be8 sform hexL hexL_cons stext)
open Vt (VT Rep BoxAt below_drew KidsAt HeadOk kindV of_any)
open Ev (take_drop cons_drop)
open Fu (hd hd_lt textW)

/-- The tables of the numbers' texts. -/
structure TB (w : World) : Prop where
  pow : Lib.TabIs Tryz.prog w "internal/strconv.uint64pow10" .u64 Lib.pow10Tab
  deb : w.cell? ⟨4, 15, none⟩ = some (.int .u8 4)
  lt : 4 < w.heap.size
theorem TB.later {w w' : World} (h : TB w) (hb : Below w.heap.size w w') : TB w' := ⟨Fu.tab_later h.pow hb, (hb.cell (p := ⟨4, 15, none⟩) h.lt).trans h.deb, Nat.lt_of_lt_of_le h.lt hb.size⟩

theorem fmti_any (n : Int) (h0 : -9223372036854775808 ≤ n) (h1 : n ≤ 9223372036854775807) (w : World) (ht : TB w) :
    Calls Tryz.prog 183 #[.int .i64 n, .int .i64 10] w fun e w' => e = .returned (.string ⟨(Lib.itoa n).toArray⟩) ∧ Below w.heap.size w w' :=
  (Any.strconv_FormatInt_10 Tryz.laysFi3 n h0 h1 w ht.pow).mono fun e w' h => ⟨h.1, by obtain ⟨k, os, rfl⟩ := h.2; exact Fu.grow_below _ _ _⟩

/-- What a kind's method of text leaves. -/
def KT (w : World) (l : List UInt8) (r : Ending) (w' : World) : Prop := r = .returned (.string ⟨l.toArray⟩) ∧ Below w.heap.size w w'

set_option maxRecDepth 100000 in
theorem none_text (k n : Int) (f : Nat) (s : ByteArray) (A : Option Addr) (m c : Nat) (w : World) :
    Calls Tryz.prog 178 #[.agg #[], .agg #[.int .i64 k, .int .i64 n, .float .f64 f, .string s, .slice A m c]] w (KT w [110, 105, 108]) := by
  go_enter Tryz.func178, Tryz.ntmps178
  go_wp2_with fail
  go_ret
  exact ⟨rfl, ((Below.refl _ _).alloc (Nat.le_refl _) _).alloc (by simp) _⟩

set_option maxRecDepth 100000 in
theorem int_text (k n : Int) (h0 : -9223372036854775808 ≤ n) (h1 : n ≤ 9223372036854775807) (f : Nat) (s : ByteArray) (A : Option Addr) (m c : Nat) (w : World) (ht : TB w) :
    Calls Tryz.prog 181 #[.agg #[], .agg #[.int .i64 k, .int .i64 n, .float .f64 f, .string s, .slice A m c]] w (KT w (Lib.itoa n)) := by
  obtain ⟨W0, hW0⟩ : ∃ W0, W0 = (w.alloc (.cells #[] 146)).alloc (.cells #[.int .i64 k, .int .i64 n, .float .f64 f, .string s, .slice A m c] 41) := ⟨_, rfl⟩
  have HB0 : Hid (Below w.heap.size w W0) := Lib.hid (by rw [hW0]; exact ((Below.refl _ _).alloc (Nat.le_refl _) _).alloc (by simp) _)
  have hx0 : BoxAt W0 (w.heap.size + 1) k n f s A m c := by
    rw [hW0]
    have e := heap_alloc_new (w.alloc (.cells #[] 146)) (.cells #[.int .i64 k, .int .i64 n, .float .f64 f, .string s, .slice A m c] 41)
    rw [World.size_alloc] at e
    exact e
  obtain ⟨c0, c1, c2, c3, c4⟩ := hx0.cells
  have HI := Lib.hid (fmti_any n h0 h1 W0 (ht.later HB0.out))
  replace hW0 := Lib.hid hW0
  go_enter Tryz.func181, Tryz.ntmps181
  go_upto_region 1 with fail
  rw [← hW0.out]
  go_wp2_with fail
  refine HI.out.mono ?_
  rintro x w1 ⟨rfl, hb⟩
  have HB := Lib.hid (HB0.out.trans (hb.mono HB0.out.size))
  clear hb
  go_wp2_with fail
  go_ret
  exact ⟨rfl, HB.out⟩

set_option maxRecDepth 100000 in
theorem float_text (k n : Int) (f : Nat) (hf : f < 18446744073709551616) (s : ByteArray) (A : Option Addr) (m c : Nat) (w : World) (ht : TB w) :
    Calls Tryz.prog 186 #[.agg #[], .agg #[.int .i64 k, .int .i64 n, .float .f64 f, .string s, .slice A m c]] w (KT w (35 :: (textW (bitsW f)).data.toList)) := by
  obtain ⟨W0, hW0⟩ : ∃ W0, W0 = (w.alloc (.cells #[] 147)).alloc (.cells #[.int .i64 k, .int .i64 n, .float .f64 f, .string s, .slice A m c] 41) := ⟨_, rfl⟩
  have HB0 : Hid (Below w.heap.size w W0) := Lib.hid (by rw [hW0]; exact ((Below.refl _ _).alloc (Nat.le_refl _) _).alloc (by simp) _)
  have hx0 : BoxAt W0 (w.heap.size + 1) k n f s A m c := by
    rw [hW0]
    have e := heap_alloc_new (w.alloc (.cells #[] 147)) (.cells #[.int .i64 k, .int .i64 n, .float .f64 f, .string s, .slice A m c] 41)
    rw [World.size_alloc] at e
    exact e
  obtain ⟨c0, c1, c2, c3, c4⟩ := hx0.cells
  have htl := ht.later HB0.out
  have HI := Lib.hid (Fu.ntext_any f hf W0 htl.deb htl.lt)
  have htz : (textW (bitsW f)).size ≤ 17 := by
    unfold textW
    split
    · decide
    · split
      · decide
      · split
        · decide
        · split
          · decide
          · split
            · decide
            · rw [Fu.top_size _ _ (by omega)]; omega
  obtain ⟨tx, htx⟩ : ∃ tx, tx = textW (bitsW f) := ⟨_, rfl⟩
  rw [← htx] at HI htz ⊢
  replace hW0 := Lib.hid hW0
  clear htx htl hx0
  go_enter Tryz.func186, Tryz.ntmps186
  go_upto_region 1 with fail
  rw [← hW0.out]
  go_wp2_with fail
  refine HI.out.mono ?_
  rintro x w1 ⟨rfl, hb⟩
  have HB := Lib.hid (HB0.out.trans (hb.mono HB0.out.size))
  clear hb
  go_wp2_with fail
  go_ret
  refine ⟨?_, HB.out⟩
  congr 2
end Vf
end Go.Proofs.YtpneejlilgepfaaGreatDoor
namespace Go.Proofs.YtpneejlilgepfaaGreatDoor
open Go.RowKit Go.Shelf
set_option linter.unusedVariables false
set_option linter.unusedSimpArgs false
namespace Vf
open _root_.Go.Proofs.YtpneejlilgepfaaGreatDoor.Nm (bitsW bits_any ret_int ret_bool)
open Bt (BOwn BIn ubytes sb uint_any btext_any bown_nil wpList_append_bytes step_append_bytes bv SOwn join_any)
open Pf (zz zz_lt be8 sform hexL hexL_cons stext)
open Vt (VT Rep BoxAt below_drew KidsAt HeadOk kindV of_any)
open Cm (takeA consA)
open Fu (hd hd_lt textW)

theorem sx16 (x : Nat) (h : x < 16) (h' : x < (⟨#[48, 49, 50, 51, 52, 53, 54, 55, 56, 57, 97, 98, 99, 100, 101, 102]⟩ : ByteArray).size) : ((⟨#[48, 49, 50, 51, 52, 53, 54, 55, 56, 57, 97, 98, 99, 100, 101, 102]⟩ : ByteArray)[x]'h').toNat = hd x := by
  rcases (by omega : x = 0 ∨ x = 1 ∨ x = 2 ∨ x = 3 ∨ x = 4 ∨ x = 5 ∨ x = 6 ∨ x = 7 ∨ x = 8 ∨ x = 9 ∨ x = 10 ∨ x = 11 ∨ x = 12 ∨ x = 13 ∨ x = 14 ∨ x = 15) with rfl | rfl | rfl | rfl | rfl | rfl | rfl | rfl | rfl | rfl | rfl | rfl | rfl | rfl | rfl | rfl
  all_goals rfl
theorem and15 : ∀ r : Fin 256, bits BinOp.and IntKind.u8 (r.val : Int) 15 = ((r.val % 16 : Nat) : Int) := by decide +kernel
theorem and_15 (c : Nat) (h : c < 256) : bits BinOp.and IntKind.u8 (c : Int) 15 = ((c % 16 : Nat) : Int) := and15 ⟨c, h⟩
theorem drew_alloc (w : World) (o : Obj) : w.drew.alloc o = (w.alloc o).drew := rfl
theorem two_bytes (w : World) (a b : Nat) : BIn (w.alloc (.cells #[.int .u8 (a : Nat), .int .u8 (b : Nat)] 5)) (.slice (some ⟨w.heap.size, 0, none⟩) 2 2) [a, b] := by
  refine .inr ⟨⟨w.heap.size, 0, none⟩, 2, rfl, by simp, by simp only [maxLen]; omega, by simp, fun j u hu => ?_⟩
  have hj : j = 0 ∨ j = 1 := by have := (List.getElem?_eq_some_iff.1 hu).1; simp at this; omega
  have e := heap_alloc_new w (.cells #[.int .u8 (a : Nat), .int .u8 (b : Nat)] 5)
  rcases hj with rfl | rfl
  all_goals
    simp [bv] at hu
    subst hu
    rw [Go.WideShapes.add_plain]
    simp only [World.cell?, e]
    rfl
theorem ixs (x : Nat) (h : x < 16) (w : World) : (Instr.index 9 (.string ⟨#[48, 49, 50, 51, 52, 53, 54, 55, 56, 57, 97, 98, 99, 100, 101, 102]⟩) (.int .u8 (x : Nat))).run Tryz.prog w = .ok (.int .u8 (hd x : Nat)) w := by
  rcases (by omega : x = 0 ∨ x = 1 ∨ x = 2 ∨ x = 3 ∨ x = 4 ∨ x = 5 ∨ x = 6 ∨ x = 7 ∨ x = 8 ∨ x = 9 ∨ x = 10 ∨ x = 11 ∨ x = 12 ∨ x = 13 ∨ x = 14 ∨ x = 15) with rfl | rfl | rfl | rfl | rfl | rfl | rfl | rfl | rfl | rfl | rfl | rfl | rfl | rfl | rfl | rfl
  all_goals kernel_rfl
/-- Two digits for each byte, as numbers. -/
def hexN2 (l : List Nat) : List Nat := (l.map fun c => [hd (c / 16), hd (c % 16)]).flatten
theorem hexN2_len (l : List Nat) : (hexN2 l).length = 2 * l.length := by
  induction l with
  | nil => rfl
  | cons c l ih => simp [hexN2] at ih ⊢; omega
theorem hexN2_take (l : List Nat) (j : Nat) (h : j < l.length) : hexN2 (l.take (j + 1)) = hexN2 (l.take j) ++ [hd (l[j] / 16), hd (l[j] % 16)] := by
  unfold hexN2
  rw [List.take_succ_eq_append_getElem h, List.map_append, List.flatten_append]; simp
theorem hexN2_map (l : List Nat) : (hexN2 l).map UInt8.ofNat = hexL l := by
  induction l with
  | nil => rfl
  | cons c l ih => rw [hexL_cons, ← ih]; simp [hexN2]
theorem hexN2_lt (l : List Nat) (h : ∀ b ∈ l, b < 256) : ∀ b ∈ hexN2 l, b < 256 := by
  intro b hb
  simp only [hexN2, List.mem_flatten, List.mem_map] at hb
  obtain ⟨q, ⟨c, hc, rfl⟩, hb⟩ := hb
  have := h c hc
  simp only [List.mem_cons, List.not_mem_nil, or_false] at hb
  rcases hb with rfl | rfl
  · exact hd_lt _ (by omega)
  · exact hd_lt _ (by omega)
theorem sb_get (s : ByteArray) (j : Nat) (h : j < (sb s).length) : (s.data.toList.getD j 0).toNat = (sb s)[j] := by
  have hl : j < s.data.toList.length := by simpa [sb] using h
  simp [sb, List.getD_eq_getElem?_getD, List.getElem?_eq_getElem hl]

/-- A row of one's own is no frozen block. -/
theorem own_ne {w : World} {base b p q : Nat} {C : Array Value} {T : TypeId} {v : Value} {l : List Nat} (h : BOwn w base v l) (hb : w.heap[b]? = some (.cells C T (p, q))) (hq : q ≠ 0) : v.ownBlock ≠ some b := by
  intro e
  rcases h.2 with ⟨rfl, -⟩ | ⟨g, cap, cur, rfl, q2, q3, -⟩
  · cases e
  · cases e
    rw [hb] at q3
    injection q3 with q3
    injection q3 with _ _ q3
    injection q3 with _ q3
    exact hq q3

set_option maxRecDepth 100000 in
set_option maxHeartbeats 2000000 in
theorem text_text (k n : Int) (f : Nat) (s : ByteArray) (hs : s.size ≤ 100000) (A : Option Addr) (m c : Nat) (w : World) :
    Calls Tryz.prog 199 #[.agg #[], .agg #[.int .i64 k, .int .i64 n, .float .f64 f, .string s, .slice A m c]] w (KT w (stext s)) := by
  obtain ⟨W1, hW1⟩ : ∃ W, W = w.alloc (.cells #[] 148) := ⟨_, rfl⟩
  obtain ⟨W2, hW2⟩ : ∃ W, W = W1.alloc (.cells #[.int .i64 k, .int .i64 n, .float .f64 f, .string s, .slice A m c] 41) := ⟨_, rfl⟩
  obtain ⟨W3, hW3⟩ : ∃ W, W = W2.alloc (.cells #[.int .u8 34] 5) := ⟨_, rfl⟩
  have hs1 : W1.heap.size = w.heap.size + 1 := by rw [hW1]; simp
  have hs2 : W2.heap.size = w.heap.size + 1 + 1 := by rw [hW2]; simp [hs1]
  have h2 : W2.heap[w.heap.size + 1]? = some (.cells #[.int .i64 k, .int .i64 n, .float .f64 f, .string s, .slice A m c] 41 (0, 0)) := by rw [hW2, ← hs1]; exact heap_alloc_new _ _
  have h3 : W3.heap[w.heap.size + 1 + 1]? = some (.cells #[.int .u8 34] 5 (0, 0)) := by rw [hW3, ← hs2]; exact heap_alloc_new _ _
  have hb3 : Below W2.heap.size W2 W3 := by rw [hW3]; exact (Below.refl _ _).alloc (Nat.le_refl _) _
  have hb2 : Below w.heap.size w W2 := by rw [hW2]; exact Below.alloc (by rw [hW1]; exact (Below.refl _ _).alloc (Nat.le_refl _) _) (by omega) _
  have HB3 : Hid (Below w.heap.size w W3) := Lib.hid (hb2.trans (hb3.mono (by omega)))
  have c3 : W3.cell? ⟨w.heap.size + 1, 3, none⟩ = some (.string s) := by
    rw [hb3.cell (p := ⟨w.heap.size + 1, 3, none⟩) (by simp only []; omega)]
    simp [World.cell?, h2]
  have HO3 : Hid (BOwn W3 w.heap.size (.slice (some ⟨w.heap.size + 1 + 1, 0, none⟩) 1 1) [34]) := Lib.hid (by
    refine ⟨rfl, .inr ⟨w.heap.size + 1 + 1, 1, #[.int .u8 34], rfl, by omega, h3, by simp, by decide, rfl, rfl⟩⟩)
  obtain ⟨W0, hW0⟩ : ∃ W, W = Lib.bytesWorld W3 5 s := ⟨_, rfl⟩
  have hb4 : Below W3.heap.size W3 W0 := by rw [hW0]; exact Lib.bytesWorld_below _ _ _
  have hcv : (convert 9 31 (.string s)).run Tryz.prog W3 = .ok (.slice (some ⟨W3.heap.size, 0, none⟩) s.size (grownCap W3 s.size 0 5)) W0 := by rw [hW0]; exact Lib.run_convert_string_bytes W3 _ _ _ s Tryz.underlying9 Tryz.underlying31 Tryz.underlying5
  have hge : s.size ≤ grownCap W3 s.size 0 5 := grownCap_ge ..
  have hle : grownCap W3 s.size 0 5 ≤ maxLen := grownCap_le_maxLen _ _ _ _ (by simp only [maxLen]; omega)
  have hcells : ∀ j (h : j < (sb s).length), W0.cell? ⟨W3.heap.size, j, none⟩ = some (.int .u8 ((sb s)[j] : Nat)) := fun j h => by
    rw [hW0, Lib.bytesWorld_cell _ _ _ _ (by rw [Bt.sb_len] at h; exact h), sb_get s j h]
  have hz4 : W3.heap.size < W0.heap.size := by rw [hW0, Lib.bytesWorld_size]; omega
  have HFZ : Hid (∃ C p q, W0.heap[W3.heap.size]? = some (.cells C 5 (p, q)) ∧ q ≠ 0) := Lib.hid ⟨_, _, _, by rw [hW0]; exact Lib.bytesWorld_at_new _ _ _, by omega⟩
  generalize grownCap W3 s.size 0 5 = cc at *
  have HB4 : Hid (Below w.heap.size w W0) := Lib.hid (HB3.out.trans (hb4.mono HB3.out.size))
  have HO4 := Lib.hid ((HO3.out.later hb4))
  have HCS := Lib.hid hcells
  have hsl := Bt.sb_len s
  have hlt := Pf.sb_lt s
  simp only [maxLen] at hle
  clear hb4 HO3 hcells
  rw [hW2, hW1] at hW3
  replace hW3 := Lib.hid hW3
  replace hW0 := Lib.hid hW0
  clear hs1 hs2 h2 h3 hb3 hb2 hW2 hW1
  obtain ⟨l, hl⟩ : ∃ l, l = sb s := ⟨_, rfl⟩
  rw [← hl] at HCS hsl hlt
  have HLT := Lib.hid hlt
  have HR : Hid ((([34] ++ hexN2 l ++ [34]).map UInt8.ofNat) = stext s) := Lib.hid (by rw [List.map_append, List.map_append, hexN2_map, hl]; rfl)
  have HRL : Hid (∀ b ∈ ([34] ++ hexN2 l ++ [34] : List Nat), b < 256) := Lib.hid (fun b hb => by
    rcases List.mem_append.1 hb with hb | hb
    · rcases List.mem_append.1 hb with hb | hb
      · rw [List.mem_singleton.1 hb]; omega
      · exact hexN2_lt l hlt b hb
    · rw [List.mem_singleton.1 hb]; omega)
  have hln : l.length ≤ 100000 := by omega
  generalize hN : s.size = N at *
  clear hl hlt hN
  go_enter Tryz.func199, Tryz.ntmps199
  go_upto_region 2 with fail
  rw [← hW3.out]
  go_wp2_with (rw [hcv])
  go_loopw [5, 13] (fun o i wr => ∃ (j : Nat), j ≤ N ∧ i = .int .i64 j ∧ BOwn wr w.heap.size o ([34] ++ hexN2 (l.take j)) ∧ wr.heap[W3.heap.size]? = W0.heap[W3.heap.size]? ∧ Below w.heap.size w wr) (fun _ i _ => N - (intOf i).toNat)
  case atStart => exact ⟨0, by omega, rfl, by simpa [hexN2] using HO4.out, rfl, HB4.out⟩
  case round =>
    obtain ⟨j, hj, rfl, hown, hfx, hb⟩ := hrel
    have HO := Lib.hid hown; have HB := Lib.hid hb; have HFX := Lib.hid hfx
    clear hown hb hfx
    by_cases hjl : j < N
    · have hjl' : j < l.length := by omega
      obtain ⟨cn, hcn⟩ : ∃ cn, cn = l[j] := ⟨_, rfl⟩
      have hcl : cn < 256 := by rw [hcn]; exact HLT.out _ (List.getElem_mem hjl')
      have hcell := (World.cell?_of_block (a := ⟨W3.heap.size, j, none⟩) HFX.out).trans (HCS.out j hjl')
      have hzr : W3.heap.size < wr.heap.size := by
        obtain ⟨C, p, q, hC, -⟩ := HFZ.out
        exact (Array.getElem?_eq_some_iff.1 (HFX.out.trans hC)).1
      rw [← hcn] at hcell
      obtain ⟨acc, hacc⟩ : ∃ a, a = [34] ++ hexN2 (l.take j) := ⟨_, rfl⟩
      rw [← hacc] at HO
      have HLE : Hid (acc.length + ([hd (cn / 16), hd (cn % 16)] : List Nat).length ≤ 35184372088832) := Lib.hid (by
        rw [hacc, List.length_append, hexN2_len, List.length_take]
        simp only [List.length_singleton, List.length_cons, List.length_nil]
        omega)
      have HFIN : Hid (∀ v W, BOwn W w.heap.size v (acc ++ [hd (cn / 16), hd (cn % 16)]) → BOwn W w.heap.size v ([34] ++ hexN2 (l.take (j + 1)))) := Lib.hid fun v W h => by
        rw [hexN2_take l j hjl', ← List.append_assoc, ← hacc, ← hcn]; exact h
      have HBW : Hid (w.heap.size ≤ wr.heap.size) := Lib.hid HB.out.size
      have hsh : ((cn : Int) / 16) = ((cn / 16 : Nat) : Int) := by omega
      have han := and_15 cn hcl
      have hi1 : ∀ w, (Instr.index 9 (.string ⟨#[48, 49, 50, 51, 52, 53, 54, 55, 56, 57, 97, 98, 99, 100, 101, 102]⟩) (.int .u8 ((cn : Int) / 16))).run Tryz.prog w = .ok (.int .u8 (hd (cn / 16) : Nat)) w := fun w => by rw [hsh]; exact ixs _ (by omega) w
      have hi2 : ∀ w, (Instr.index 9 (.string ⟨#[48, 49, 50, 51, 52, 53, 54, 55, 56, 57, 97, 98, 99, 100, 101, 102]⟩) (.int .u8 ((cn : Int) % 16))).run Tryz.prog w = .ok (.int .u8 (hd (cn % 16) : Nat)) w := fun w => by rw [show ((cn : Int) % 16) = ((cn % 16 : Nat) : Int) from by omega]; exact ixs _ (by omega) w
      clear hsh
      clear hacc hcn
      go_upto_region 5 with fail
      refine wp_region_any (by kernel_rfl) ?_
      change wpAny _ _ _ _ _ _ _ (World.drew _)
      refine takeA (i := 0) (v := ?_) rfl (by kernel_rfl) (by kernel_rfl) (by kernel_rfl) (fun _ _ _ h => h) (Or.inl ⟨by rfl, ?_⟩) ?_
      rotate_left 1
      focus (intro w; go_simp; try with_reducible rfl)
      try simp only [Act.put, List.setIfInBounds_toArray, List.set_cons_zero, List.set_cons_succ]
      refine takeA (i := 1) (v := ?_) rfl (by kernel_rfl) (by kernel_rfl) (by kernel_rfl) (fun _ _ _ h => h) (Or.inl ⟨by rfl, ?_⟩) ?_
      rotate_left 1
      focus (intro w; go_simp; try with_reducible rfl)
      try simp only [Act.put, List.setIfInBounds_toArray, List.set_cons_zero, List.set_cons_succ]
      refine takeA (i := 2) (v := ?_) rfl (by kernel_rfl) (by kernel_rfl) (by kernel_rfl) (fun _ _ _ h => h) (Or.inl ⟨by rfl, ?_⟩) ?_
      rotate_left 1
      focus (intro w; go_simp; try with_reducible rfl)
      try simp only [Act.put, List.setIfInBounds_toArray, List.set_cons_zero, List.set_cons_succ]
      refine takeA (i := 4) (v := ?_) rfl (by kernel_rfl) (by kernel_rfl) (by kernel_rfl) (fun _ _ _ h => h) (Or.inl ⟨by rfl, ?_⟩) ?_
      rotate_left 1
      focus (intro w; go_simp; try with_reducible rfl)
      try simp only [Act.put, List.setIfInBounds_toArray, List.set_cons_zero, List.set_cons_succ]
      refine takeA (i := 5) (v := ?_) rfl (by kernel_rfl) (by kernel_rfl) (by kernel_rfl) (fun _ _ _ h => h) (Or.inl ⟨by rfl, ?_⟩) ?_
      rotate_left 1
      focus (intro w; go_simp; try with_reducible rfl)
      try simp only [Act.put, List.setIfInBounds_toArray, List.set_cons_zero, List.set_cons_succ]
      refine takeA (i := 3) (v := ?_) rfl (by kernel_rfl) (by kernel_rfl) (by kernel_rfl) (fun _ _ _ h => h) (Or.inl ⟨by rfl, ?_⟩) ?_
      rotate_left 1
      focus (intro w; go_simp; try with_reducible rfl)
      try simp only [Act.put, List.setIfInBounds_toArray, List.set_cons_zero, List.set_cons_succ]
      refine takeA (i := 6) (v := ?_) rfl (by kernel_rfl) (by kernel_rfl) (by kernel_rfl) (fun _ _ _ h => h) (Or.inl ⟨by rfl, ?_⟩) ?_
      rotate_left 1
      focus (intro w; go_simp; try with_reducible rfl)
      try simp only [Act.put, List.setIfInBounds_toArray, List.set_cons_zero, List.set_cons_succ]
      refine wpAny_ready (rs := [7]) (by kernel_rfl) (by simp) ?_
      refine consA rfl (fun K hK => ?_) AllReady.nil
      go_simp
      obtain ⟨w5, hw5⟩ : ∃ x, x = (wr.alloc (.cells #[.int .u8 (hd (cn / 16) : Nat), .int .u8 (hd (cn % 16) : Nat)] 5)).drew := ⟨_, rfl⟩
      have hin : BIn w5 (.slice (some ⟨wr.heap.size, 0, none⟩) 2 2) [hd (cn / 16), hd (cn % 16)] := by rw [hw5]; exact (two_bytes wr _ _).later (below_drew (Below.refl _ _))
      have hb5 : Below wr.heap.size wr w5 := by rw [hw5]; exact below_drew ((Below.refl _ _).alloc (Nat.le_refl _) _)
      have hown5 := HO.out.later hb5
      have HB5 := Lib.hid (HB.out.trans (hb5.mono HB.out.size))
      rw [← hw5]
      refine hK _ _ ?_
      clear hK K hw5
      try simp only [Act.put, List.setIfInBounds_toArray, List.set_cons_zero, List.set_cons_succ]
      refine wpAny_ready (rs := [8]) (by kernel_rfl) (by simp) ?_
      refine consA rfl (fun K hK => ?_) AllReady.nil
      refine step_append_bytes _ rfl (.tmp 17) (.tmp 24) rfl w.heap.size _ _ acc [hd (cn / 16), hd (cn % 16)] rfl rfl hown5 hin HLE.out (Nat.le_trans HBW.out hb5.size) ?_
      intro v3 w3 hown3 hg3 hb3
      have HF3 : Hid (w3.heap[W3.heap.size]? = W0.heap[W3.heap.size]?) := Lib.hid (by
        obtain ⟨C, p, q, hC, hq⟩ := HFZ.out
        have h5 : w5.heap[W3.heap.size]? = W0.heap[W3.heap.size]? := (hb5.block _ hzr).trans HFX.out
        exact (hg3.block _ (Nat.lt_of_lt_of_le hzr hb5.size) (fun e => own_ne hown5 (h5.trans hC) hq e.symm)).trans h5)
      have HO3 := Lib.hid hown3
      have HB3 := Lib.hid (HB5.out.trans hb3)
      clear hown3 hb3 hown5 hin
      refine hK _ _ ?_
      clear hK K
      try simp only [Act.put, List.setIfInBounds_toArray, List.set_cons_zero, List.set_cons_succ]
      refine takeA (i := 9) (v := ?_) rfl (by kernel_rfl) (by kernel_rfl) (by kernel_rfl) (fun _ _ _ h => h) (Or.inl ⟨by rfl, ?_⟩) ?_
      rotate_left 1
      focus (intro w; go_simp; try with_reducible rfl)
      try simp only [Act.put, List.setIfInBounds_toArray, List.set_cons_zero, List.set_cons_succ]
      refine wpAny_done (by kernel_rfl) ?_ _
      go_wp2_with fail
      exact ⟨⟨j + 1, by omega, by go_num, HFIN.out _ _ HO3.out, HF3.out, HB3.out⟩, by simp [intOf]; omega⟩
    · have hj' : j = N := by omega
      subst hj'
      rw [List.take_of_length_le (by omega)] at HO
      obtain ⟨W5, hW5⟩ : ∃ W, W = wr.alloc (.cells #[.int .u8 34] 5) := ⟨_, rfl⟩
      have hb5 : Below wr.heap.size wr W5 := by rw [hW5]; exact (Below.refl _ _).alloc (Nat.le_refl _) _
      have HB5 : Hid (Below w.heap.size w W5) := Lib.hid (HB.out.trans (hb5.mono HB.out.size))
      have hown5 := HO.out.later hb5
      have hin : BIn W5 (.slice (some ⟨wr.heap.size, 0, none⟩) 1 1) [34] := by rw [hW5]; exact one_byte wr 34 34 rfl
      have HLE : Hid (([34] ++ hexN2 l).length + ([34] : List Nat).length ≤ 35184372088832) := Lib.hid (by
        rw [List.length_append, hexN2_len]
        simp only [List.length_singleton]
        omega)
      obtain ⟨acc, hacc⟩ : ∃ a, a = [34] ++ hexN2 l := ⟨_, rfl⟩
      rw [← hacc] at hown5 HLE HR HRL
      replace hW5 := Lib.hid hW5
      clear hb5 HO hacc
      go_wp2_with (at_builtin; rw [← hW5.out]; refine wpList_append_bytes _ rfl _ _ rfl w.heap.size _ _ acc [34] rfl rfl hown5 hin HLE.out HB5.out.size ?_; intro v2 w2 hown2 hg2 hb2; have HB6 := Lib.hid (HB5.out.trans hb2); have hcv2 := hown2.read.toText HRL.out; rw [HR.out] at hcv2)
      go_ret
      exact ⟨rfl, HB6.out⟩
end Vf
end Go.Proofs.YtpneejlilgepfaaGreatDoor
