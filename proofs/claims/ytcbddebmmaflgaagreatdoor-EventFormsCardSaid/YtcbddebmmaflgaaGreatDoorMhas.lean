/- Bytes read as a string. -/
/- Texts: value.Text of kinds 0 and 3, quoted, small numbers. -/
/- Forms of events: event.Bytes of any valid small event; no form is the beginning of another. -/
/- batch.Bytes: rows of byte slices; the walk. -/
/- batch.Bytes: the walk. -/
/- slices.Equal of bytes; clockworklaw13's alive. -/
/- The reference's forms of numbers and bytes. -/
import Derived.Test.YtcbddebmmaflgaaGreatDoorMhar
import Derived.Lib.BufferRead
import Derived.Lib.AtoiErrMem
import Derived.Test.YtcbddebmmaflgaaGreatDoorMhal
import Derived.Test.YtcbddebmmaflgaaGreatDoorMhai
import Derived.BigQuiet
namespace Go.Proofs.YtcbddebmmaflgaaGreatDoor
open Go.RowKit
set_option linter.unusedVariables false
namespace Bt
open _root_.Go.Proofs.YtcbddebmmaflgaaGreatDoor.Nm (ret_int ret_bool)
open Vt (VT Rep BoxAt below_drew)
open Ev (take_drop tk cons_drop)

/-- Bytes read as a string. -/
theorem BIn.toText {w : World} {v : Value} {l : List Nat} (h : BIn w v l) (hb : ∀ b ∈ l, b < 256) : (convert 22 9 v).run Tryz.prog w = .ok (.string ⟨(l.map UInt8.ofNat).toArray⟩) w := by
  rcases h with ⟨rfl, rfl⟩ | ⟨ad, cap, rfl, h2, h3, h4, h5⟩
  · exact Lib.run_convert_nil_bytes w _ _ 5 0 Tryz.underlying22 Tryz.underlying5 Tryz.underlying9
  · have := run_convert_bytes_back (P := Tryz.prog) w 22 9 5 ad cap (l.map UInt8.ofNat) Tryz.underlying22 Tryz.underlying5 Tryz.underlying9 (fun j hj => by
      have hj' : j < l.length := by simpa using hj
      have h6 := h5 j (bv l[j]) (by simp [hj'])
      rw [h6]
      have h7 : l[j] < 256 := hb _ (List.getElem_mem hj')
      simp only [bv, List.getElem_map, UInt8.toNat_ofNat']
      rw [Nat.mod_eq_of_lt (by omega)])
    rw [List.length_map] at this
    exact this

end Bt
end Go.Proofs.YtcbddebmmaflgaaGreatDoor
namespace Go.Proofs.YtcbddebmmaflgaaGreatDoor
open Go.RowKit
set_option linter.unusedVariables false
namespace Bt
open _root_.Go.Proofs.YtcbddebmmaflgaaGreatDoor.Nm (ret_int ret_bool)
open Vt (VT Rep BoxAt below_drew)
open Ev (take_drop tk cons_drop)

theorem m_none_text (n : Nat) (w : World) : (method (n + 1) 148 (.agg #[]) "clockwork/value.text").run Tryz.prog w = .ok (188, .agg #[]) w := by kernel_rfl
theorem m_text_text (n : Nat) (w : World) : (method (n + 1) 142 (.agg #[]) "clockwork/value.text").run Tryz.prog w = .ok (182, .agg #[]) w := by kernel_rfl

theorem none_text (vn : Int) (vf : Nat) (vs : ByteArray) (A : Option Addr) (m c k : Nat) (w : World) :
    Calls Tryz.prog 188 #[.agg #[], .agg #[.int .i64 k, .int .i64 vn, .float .f64 vf, .string vs, .slice A m c]] w fun e w' => e = .returned (.string ⟨#[110, 105, 108]⟩) ∧ Below w.heap.size w w' := by
  go_enter Tryz.func188, Tryz.ntmps188
  go_wp2_with fail
  go_ret
  exact ⟨rfl, ((Below.refl _ _).alloc (Nat.le_refl _) _).alloc (by simp) _⟩

set_option maxRecDepth 100000 in
/-- What the empty text reads. -/
theorem text_text0 (vn : Int) (vf : Nat) (A : Option Addr) (m c k : Nat) (w : World) :
    Calls Tryz.prog 182 #[.agg #[], .agg #[.int .i64 k, .int .i64 vn, .float .f64 vf, .string ⟨#[]⟩, .slice A m c]] w fun e w' => e = .returned (.string ⟨#[34, 34]⟩) ∧ Below w.heap.size w w' := by
  obtain ⟨W1, hW1⟩ : ∃ W, W = w.alloc (.cells #[] 142) := ⟨_, rfl⟩
  obtain ⟨W2, hW2⟩ : ∃ W, W = W1.alloc (.cells #[.int .i64 k, .int .i64 vn, .float .f64 vf, .string ⟨#[]⟩, .slice A m c] 30) := ⟨_, rfl⟩
  obtain ⟨W3, hW3⟩ : ∃ W, W = W2.alloc (.cells #[.int .u8 34] 5) := ⟨_, rfl⟩
  have hs1 : W1.heap.size = w.heap.size + 1 := by rw [hW1]; simp
  have hs2 : W2.heap.size = w.heap.size + 1 + 1 := by rw [hW2]; simp [hs1]
  have h2 : W2.heap[w.heap.size + 1]? = some (.cells #[.int .i64 k, .int .i64 vn, .float .f64 vf, .string ⟨#[]⟩, .slice A m c] 30 (0, 0)) := by rw [hW2, ← hs1]; exact heap_alloc_new _ _
  have h3 : W3.heap[w.heap.size + 1 + 1]? = some (.cells #[.int .u8 34] 5 (0, 0)) := by rw [hW3, ← hs2]; exact heap_alloc_new _ _
  have hb3 : Below W2.heap.size W2 W3 := by rw [hW3]; exact (Below.refl _ _).alloc (Nat.le_refl _) _
  have hb2 : Below w.heap.size w W2 := by rw [hW2]; exact Below.alloc (by rw [hW1]; exact (Below.refl _ _).alloc (Nat.le_refl _) _) (by omega) _
  have HB3 : Hid (Below w.heap.size w W3) := Lib.hid (hb2.trans (hb3.mono (by omega)))
  have c3 : W3.cell? ⟨w.heap.size + 1, 3, none⟩ = some (.string ⟨#[]⟩) := by
    rw [hb3.cell (p := ⟨w.heap.size + 1, 3, none⟩) (by simp only []; omega)]
    simp [World.cell?, h2]
  have HO3 : Hid (BOwn W3 w.heap.size (.slice (some ⟨w.heap.size + 1 + 1, 0, none⟩) 1 1) [34]) := Lib.hid (by
    refine ⟨rfl, .inr ⟨w.heap.size + 1 + 1, 1, #[.int .u8 34], rfl, by omega, h3, by simp, by decide, rfl, rfl⟩⟩)
  obtain ⟨W4, hW4⟩ : ∃ W, W = Lib.bytesWorld W3 5 ⟨#[]⟩ := ⟨_, rfl⟩
  have hb4 : Below W3.heap.size W3 W4 := by rw [hW4]; exact Lib.bytesWorld_below _ _ _
  have hcv : (convert 9 22 (.string ⟨#[]⟩)).run Tryz.prog W3 = .ok (.slice (some ⟨W3.heap.size, 0, none⟩) 0 (grownCap W3 0 0 5)) W4 := by rw [hW4]; exact Lib.run_convert_string_bytes W3 _ _ _ ⟨#[]⟩ Tryz.underlying9 Tryz.underlying22 Tryz.underlying5
  generalize grownCap W3 0 0 5 = cc at *
  have HB4 : Hid (Below w.heap.size w W4) := Lib.hid (HB3.out.trans (hb4.mono HB3.out.size))
  have HO4 := Lib.hid (HO3.out.later hb4)
  clear hb4 HO3
  rw [hW2, hW1] at hW3
  replace hW3 := Lib.hid hW3
  replace hW4 := Lib.hid hW4
  clear hs1 hs2 h2 h3 hb3 hb2 hW2 hW1
  go_enter Tryz.func182, Tryz.ntmps182
  go_upto_region 2 with fail
  rw [← hW3.out]
  go_wp2_with (rw [hcv])
  go_loop [5, 13] (fun o i => o = .slice (some ⟨w.heap.size + 1 + 1, 0, none⟩) 1 1 ∧ i = .int .i64 0) (fun _ _ => 0)
  case atStart => exact ⟨rfl, rfl⟩
  case round =>
    obtain ⟨rfl, rfl⟩ := hrel
    obtain ⟨W5, hW5⟩ : ∃ W, W = W4.alloc (.cells #[.int .u8 34] 5) := ⟨_, rfl⟩
    have hb5 : Below W4.heap.size W4 W5 := by rw [hW5]; exact (Below.refl _ _).alloc (Nat.le_refl _) _
    have HB5 : Hid (Below w.heap.size w W5) := Lib.hid (HB4.out.trans (hb5.mono HB4.out.size))
    have hown := HO4.out.later hb5
    have hin : BIn W5 (.slice (some ⟨W4.heap.size, 0, none⟩) 1 1) [34] := .inr ⟨_, 1, rfl, by simp, by decide, by rw [hW5]; simp, fun j u hu => by
      rcases j with _ | j
      · have hv : Value.int .u8 34 = u := by simpa [bv] using hu
        rw [← hv, hW5]
        show World.cell? _ ⟨W4.heap.size, 0, none⟩ = _
        unfold World.cell?; rw [heap_alloc_new]; rfl
      · simp at hu⟩
    replace hW5 := Lib.hid hW5
    clear hb5 HO4
    go_wp2_with (at_builtin; rw [← hW5.out]; refine wpList_append_bytes _ rfl _ _ rfl w.heap.size _ _ [34] [34] rfl rfl hown hin (by simp) HB5.out.size ?_; intro v2 w2 hown2 hg2 hb2; have HB6 := Lib.hid (HB5.out.trans hb2); have hcv2 := hown2.read.toText (by simp))
    go_ret
    exact ⟨rfl, HB6.out⟩

theorem small5 (w : World) : Calls Tryz.prog 117 #[.int .i64 5] w fun e w' => e = .returned (.string ⟨#[53]⟩) ∧ w' = w := by
  go_enter Tryz.func117, Tryz.ntmps117
  go_wp2_with fail
  go_ret
  exact ⟨rfl, rfl⟩
theorem small0 (w : World) : Calls Tryz.prog 117 #[.int .i64 0] w fun e w' => e = .returned (.string ⟨#[48]⟩) ∧ w' = w := by
  go_enter Tryz.func117, Tryz.ntmps117
  go_wp2_with fail
  go_ret
  exact ⟨rfl, rfl⟩
theorem ifmt5 (w : World) : Calls Tryz.prog 98 #[.int .u64 5, .int .i64 10] w fun e w' => e = .returned (.string ⟨#[53]⟩) ∧ w' = w := by
  have H := Lib.hid (fun W => small5 W)
  go_enter Tryz.func98, Tryz.ntmps98
  go_wp2_with fail
  refine (H.out _).mono ?_
  rintro e w1 ⟨rfl, rfl⟩
  go_wp2_with fail
  go_ret
  exact ⟨rfl, rfl⟩
theorem fmt5 (w : World) : Calls Tryz.prog 57 #[.int .u64 5, .int .i64 10] w fun e w' => e = .returned (.string ⟨#[53]⟩) ∧ w' = w := by
  have H := Lib.hid (fun W => ifmt5 W)
  go_enter Tryz.func57, Tryz.ntmps57
  go_wp2_with fail
  refine (H.out _).mono ?_
  rintro e w1 ⟨rfl, rfl⟩
  go_wp2_with fail
  go_ret
  exact ⟨rfl, rfl⟩
theorem ifmt0 (w : World) : Calls Tryz.prog 98 #[.int .u64 0, .int .i64 10] w fun e w' => e = .returned (.string ⟨#[48]⟩) ∧ w' = w := by
  have H := Lib.hid (fun W => small0 W)
  go_enter Tryz.func98, Tryz.ntmps98
  go_wp2_with fail
  refine (H.out _).mono ?_
  rintro e w1 ⟨rfl, rfl⟩
  go_wp2_with fail
  go_ret
  exact ⟨rfl, rfl⟩
theorem fmt0 (w : World) : Calls Tryz.prog 57 #[.int .u64 0, .int .i64 10] w fun e w' => e = .returned (.string ⟨#[48]⟩) ∧ w' = w := by
  have H := Lib.hid (fun W => ifmt0 W)
  go_enter Tryz.func57, Tryz.ntmps57
  go_wp2_with fail
  refine (H.out _).mono ?_
  rintro e w1 ⟨rfl, rfl⟩
  go_wp2_with fail
  go_ret
  exact ⟨rfl, rfl⟩
theorem ifmi0 (w : World) : Calls Tryz.prog 121 #[.int .i64 0, .int .i64 10] w fun e w' => e = .returned (.string ⟨#[48]⟩) ∧ w' = w := by
  have H := Lib.hid (fun W => small0 W)
  go_enter Tryz.func121, Tryz.ntmps121
  go_wp2_with fail
  refine (H.out _).mono ?_
  rintro e w1 ⟨rfl, rfl⟩
  go_wp2_with fail
  go_ret
  exact ⟨rfl, rfl⟩
theorem iitoa0 (w : World) : Calls Tryz.prog 99 #[.int .i64 0] w fun e w' => e = .returned (.string ⟨#[48]⟩) ∧ w' = w := by
  have H := Lib.hid (fun W => ifmi0 W)
  go_enter Tryz.func99, Tryz.ntmps99
  go_wp2_with fail
  refine (H.out _).mono ?_
  rintro e w1 ⟨rfl, rfl⟩
  go_wp2_with fail
  go_ret
  exact ⟨rfl, rfl⟩
theorem itoa0 (w : World) : Calls Tryz.prog 58 #[.int .i64 0] w fun e w' => e = .returned (.string ⟨#[48]⟩) ∧ w' = w := by
  have H := Lib.hid (fun W => iitoa0 W)
  go_enter Tryz.func58, Tryz.ntmps58
  go_wp2_with fail
  refine (H.out _).mono ?_
  rintro e w1 ⟨rfl, rfl⟩
  go_wp2_with fail
  go_ret
  exact ⟨rfl, rfl⟩
set_option maxRecDepth 100000 in
set_option maxHeartbeats 400000 in
theorem vtext_none (t : VT) (lo hi : Nat) (vn : Int) (vf : Nat) (vs : ByteArray) (A : Option Addr) (m c : Nat) (w : World) (hv : Rep w lo hi t (.agg #[.int .i64 0, .int .i64 vn, .float .f64 vf, .string vs, .slice A m c])) (hz : hi ≤ w.heap.size) (hval : t.valid 8 = true) (res : ByteArray)
    (hm : ∀ W, Calls Tryz.prog 188 #[.agg #[], .agg #[.int .i64 0, .int .i64 vn, .float .f64 vf, .string vs, .slice A m c]] W fun e w' => e = .returned (.string res) ∧ Below W.heap.size W w') :
    Calls Tryz.prog 60 #[.agg #[.int .i64 0, .int .i64 vn, .float .f64 vf, .string vs, .slice A m c]] w fun e w' => e = .returned (.string res) ∧ Below w.heap.size w w' := by
  obtain ⟨W0, hW0⟩ : ∃ W0, W0 = w.alloc (.cells #[.int .i64 0, .int .i64 vn, .float .f64 vf, .string vs, .slice A m c] 30) := ⟨_, rfl⟩
  have hB0 : Below w.heap.size w W0 := by rw [hW0]; exact (Below.refl _ _).alloc (Nat.le_refl _) _
  have hbx : BoxAt W0 w.heap.size 0 vn vf vs A m c := by rw [hW0]; exact BoxAt.new ..
  have hz0 : w.heap.size < W0.heap.size := by rw [hW0]; simp
  have HBX : Hid (∀ W, Below W0.heap.size W0 W → BoxAt W w.heap.size 0 vn vf vs A m c) := Lib.hid fun W hW => hbx.later hW hz0
  have HV := Lib.hid (Vt.valid_any t W0 lo hi _ (hv.later (hB0.mono hz)) (Nat.le_trans hz hB0.size))
  rw [hval] at HV
  have HO : Hid (∀ W, Calls Tryz.prog 90 #[.int .i64 0] W fun e w' => e = .returned (.iface 148 (.agg #[])) ∧ W = w') := Lib.hid fun W => Vt.of_any 0 W
  have HM := Lib.hid hm
  have hM : ∀ (n : Nat) (w : World), (method (n + 1) 148 (.agg #[]) "clockwork/value.text").run Tryz.prog w = .ok (188, .agg #[]) w := m_none_text
  have HB0 := Lib.hid hB0
  obtain ⟨c0, c1, c2, c3, c4⟩ := hbx.cells
  clear hB0 hbx hv hm
  replace hW0 := Lib.hid hW0
  go_enter Tryz.func60, Tryz.ntmps60
  go_upto_region 1 with fail
  rw [← hW0.out]
  go_wp2_with fail
  refine HV.out.mono ?_
  rintro e w1 ⟨rfl, hb1⟩
  have HB1 := Lib.hid hb1
  clear hb1 c0 c1 c2 c3 c4
  have HS : Hid (∀ W, Below W0.heap.size W0 W → (W.cell? ⟨w.heap.size, 0, none⟩ = some (.int .i64 0) ∧ W.cell? ⟨w.heap.size, 1, none⟩ = some (.int .i64 vn) ∧ W.cell? ⟨w.heap.size, 2, none⟩ = some (.float .f64 vf) ∧ W.cell? ⟨w.heap.size, 3, none⟩ = some (.string vs) ∧ W.cell? ⟨w.heap.size, 4, none⟩ = some (.slice A m c))) := Lib.hid fun W hW => (HBX.out W hW).cells
  have H1D : Hid (Below W0.heap.size W0 w1.drew) := Lib.hid (HB1.out.trans (below_drew (Below.refl _ _) |>.mono HB1.out.size))
  go_upto_region 3 with fail
  refine wp_region_noPanic ?_
  refine wp_region_held_drew (S := (fun w' : World => w'.cell? ⟨w.heap.size, 0, none⟩ = some (.int .i64 0) ∧ w'.cell? ⟨w.heap.size, 1, none⟩ = some (.int .i64 vn) ∧ w'.cell? ⟨w.heap.size, 2, none⟩ = some (.float .f64 vf) ∧ w'.cell? ⟨w.heap.size, 3, none⟩ = some (.string vs) ∧ w'.cell? ⟨w.heap.size, 4, none⟩ = some (.slice A m c))) (by kernel_rfl) ?_ (fun hHeld => ?_)
  · exact HS.out _ H1D.out
  refine tk (i := 0) rfl ?_
  try simp only [Act.put, List.setIfInBounds_toArray, List.set_cons_zero, List.set_cons_succ]
  refine tk (i := 1) rfl ?_
  try simp only [Act.put, List.setIfInBounds_toArray, List.set_cons_zero, List.set_cons_succ]
  refine tk (i := 3) rfl ?_
  try simp only [Act.put, List.setIfInBounds_toArray, List.set_cons_zero, List.set_cons_succ]
  refine wpAnyH_ready (rs := [2]) (by kernel_rfl) (by simp) ?_
  refine cons_drop rfl (fun K hK => ?_) AllReadyH.nil
  go_simp
  refine (HO.out _).mono ?_
  rintro e w2 ⟨rfl, rfl⟩
  go_wp2_with fail
  refine hK.out _ _ (HS.out _ H1D.out) (fun h2 => ?_)
  clear hK K hHeld
  try simp only [Act.put, List.setIfInBounds_toArray, List.set_cons_zero, List.set_cons_succ]
  refine wpAnyH_ready (rs := [4]) (by kernel_rfl) (by simp) ?_
  refine cons_drop rfl (fun K hK => ?_) AllReadyH.nil
  go_simp
  refine (HM.out _).mono ?_
  rintro e w3 ⟨rfl, hb3⟩
  have h3B : Hid (Below W0.heap.size W0 w3) := Lib.hid (H1D.out.trans (hb3.mono H1D.out.size))
  clear hb3
  go_wp2_with fail
  refine hK.out _ _ (HS.out _ h3B.out) (fun h3 => ?_)
  clear hK K h2
  try simp only [Act.put, List.setIfInBounds_toArray, List.set_cons_zero, List.set_cons_succ]
  refine tk (i := 5) rfl ?_
  try simp only [Act.put, List.setIfInBounds_toArray, List.set_cons_zero, List.set_cons_succ]
  refine wpAnyH_done (by kernel_rfl) ?_ _
  refine NoPanic.normal ?_
  go_wp2_with fail
  go_ret
  exact ⟨rfl, HB0.out.trans (h3B.out.mono HB0.out.size)⟩

set_option maxRecDepth 100000 in
set_option maxHeartbeats 400000 in
theorem vtext_text (t : VT) (lo hi : Nat) (vn : Int) (vf : Nat) (vs : ByteArray) (A : Option Addr) (m c : Nat) (w : World) (hv : Rep w lo hi t (.agg #[.int .i64 3, .int .i64 vn, .float .f64 vf, .string vs, .slice A m c])) (hz : hi ≤ w.heap.size) (hval : t.valid 8 = true) (res : ByteArray)
    (hm : ∀ W, Calls Tryz.prog 182 #[.agg #[], .agg #[.int .i64 3, .int .i64 vn, .float .f64 vf, .string vs, .slice A m c]] W fun e w' => e = .returned (.string res) ∧ Below W.heap.size W w') :
    Calls Tryz.prog 60 #[.agg #[.int .i64 3, .int .i64 vn, .float .f64 vf, .string vs, .slice A m c]] w fun e w' => e = .returned (.string res) ∧ Below w.heap.size w w' := by
  obtain ⟨W0, hW0⟩ : ∃ W0, W0 = w.alloc (.cells #[.int .i64 3, .int .i64 vn, .float .f64 vf, .string vs, .slice A m c] 30) := ⟨_, rfl⟩
  have hB0 : Below w.heap.size w W0 := by rw [hW0]; exact (Below.refl _ _).alloc (Nat.le_refl _) _
  have hbx : BoxAt W0 w.heap.size 3 vn vf vs A m c := by rw [hW0]; exact BoxAt.new ..
  have hz0 : w.heap.size < W0.heap.size := by rw [hW0]; simp
  have HBX : Hid (∀ W, Below W0.heap.size W0 W → BoxAt W w.heap.size 3 vn vf vs A m c) := Lib.hid fun W hW => hbx.later hW hz0
  have HV := Lib.hid (Vt.valid_any t W0 lo hi _ (hv.later (hB0.mono hz)) (Nat.le_trans hz hB0.size))
  rw [hval] at HV
  have HO : Hid (∀ W, Calls Tryz.prog 90 #[.int .i64 3] W fun e w' => e = .returned (.iface 142 (.agg #[])) ∧ W = w') := Lib.hid fun W => Vt.of_any 3 W
  have HM := Lib.hid hm
  have hM : ∀ (n : Nat) (w : World), (method (n + 1) 142 (.agg #[]) "clockwork/value.text").run Tryz.prog w = .ok (182, .agg #[]) w := m_text_text
  have HB0 := Lib.hid hB0
  obtain ⟨c0, c1, c2, c3, c4⟩ := hbx.cells
  clear hB0 hbx hv hm
  replace hW0 := Lib.hid hW0
  go_enter Tryz.func60, Tryz.ntmps60
  go_upto_region 1 with fail
  rw [← hW0.out]
  go_wp2_with fail
  refine HV.out.mono ?_
  rintro e w1 ⟨rfl, hb1⟩
  have HB1 := Lib.hid hb1
  clear hb1 c0 c1 c2 c3 c4
  have HS : Hid (∀ W, Below W0.heap.size W0 W → (W.cell? ⟨w.heap.size, 0, none⟩ = some (.int .i64 3) ∧ W.cell? ⟨w.heap.size, 1, none⟩ = some (.int .i64 vn) ∧ W.cell? ⟨w.heap.size, 2, none⟩ = some (.float .f64 vf) ∧ W.cell? ⟨w.heap.size, 3, none⟩ = some (.string vs) ∧ W.cell? ⟨w.heap.size, 4, none⟩ = some (.slice A m c))) := Lib.hid fun W hW => (HBX.out W hW).cells
  have H1D : Hid (Below W0.heap.size W0 w1.drew) := Lib.hid (HB1.out.trans (below_drew (Below.refl _ _) |>.mono HB1.out.size))
  go_upto_region 3 with fail
  refine wp_region_noPanic ?_
  refine wp_region_held_drew (S := (fun w' : World => w'.cell? ⟨w.heap.size, 0, none⟩ = some (.int .i64 3) ∧ w'.cell? ⟨w.heap.size, 1, none⟩ = some (.int .i64 vn) ∧ w'.cell? ⟨w.heap.size, 2, none⟩ = some (.float .f64 vf) ∧ w'.cell? ⟨w.heap.size, 3, none⟩ = some (.string vs) ∧ w'.cell? ⟨w.heap.size, 4, none⟩ = some (.slice A m c))) (by kernel_rfl) ?_ (fun hHeld => ?_)
  · exact HS.out _ H1D.out
  refine tk (i := 0) rfl ?_
  try simp only [Act.put, List.setIfInBounds_toArray, List.set_cons_zero, List.set_cons_succ]
  refine tk (i := 1) rfl ?_
  try simp only [Act.put, List.setIfInBounds_toArray, List.set_cons_zero, List.set_cons_succ]
  refine tk (i := 3) rfl ?_
  try simp only [Act.put, List.setIfInBounds_toArray, List.set_cons_zero, List.set_cons_succ]
  refine wpAnyH_ready (rs := [2]) (by kernel_rfl) (by simp) ?_
  refine cons_drop rfl (fun K hK => ?_) AllReadyH.nil
  go_simp
  refine (HO.out _).mono ?_
  rintro e w2 ⟨rfl, rfl⟩
  go_wp2_with fail
  refine hK.out _ _ (HS.out _ H1D.out) (fun h2 => ?_)
  clear hK K hHeld
  try simp only [Act.put, List.setIfInBounds_toArray, List.set_cons_zero, List.set_cons_succ]
  refine wpAnyH_ready (rs := [4]) (by kernel_rfl) (by simp) ?_
  refine cons_drop rfl (fun K hK => ?_) AllReadyH.nil
  go_simp
  refine (HM.out _).mono ?_
  rintro e w3 ⟨rfl, hb3⟩
  have h3B : Hid (Below W0.heap.size W0 w3) := Lib.hid (H1D.out.trans (hb3.mono H1D.out.size))
  clear hb3
  go_wp2_with fail
  refine hK.out _ _ (HS.out _ h3B.out) (fun h3 => ?_)
  clear hK K h2
  try simp only [Act.put, List.setIfInBounds_toArray, List.set_cons_zero, List.set_cons_succ]
  refine tk (i := 5) rfl ?_
  try simp only [Act.put, List.setIfInBounds_toArray, List.set_cons_zero, List.set_cons_succ]
  refine wpAnyH_done (by kernel_rfl) ?_ _
  refine NoPanic.normal ?_
  go_wp2_with fail
  go_ret
  exact ⟨rfl, HB0.out.trans (h3B.out.mono HB0.out.size)⟩

theorem quoted0 (w : World) : Calls Tryz.prog 59 #[.string ⟨#[]⟩] w fun e w' => e = .returned (.string ⟨#[34, 34]⟩) ∧ Below w.heap.size w w' := by
  have H := Lib.hid (fun W => vtext_text (.mk 3 0 0 ⟨#[]⟩ []) 0 0 0 0 ⟨#[]⟩ none 0 0 W (Rep.leaf ⟨by omega, by omega, by omega, by omega, by omega, by decide, by decide⟩) (Nat.zero_le _) (by rw [Vt.valid_mk]; simp; decide) ⟨#[34, 34]⟩ (fun W => text_text0 0 0 none 0 0 3 W))
  go_enter Tryz.func59, Tryz.ntmps59
  go_wp2_with fail
  refine (H.out _).mono ?_
  rintro e w1 ⟨rfl, hb⟩
  go_wp2_with fail
  go_ret
  exact ⟨rfl, hb⟩
end Bt
end Go.Proofs.YtcbddebmmaflgaaGreatDoor
namespace Go.Proofs.YtcbddebmmaflgaaGreatDoor
open Go.RowKit
set_option linter.unusedVariables false
set_option linter.unusedSimpArgs false
namespace Vf
open _root_.Go.Proofs.YtcbddebmmaflgaaGreatDoor.Nm (bitsW ret_int ret_bool)
open Bt (BOwn BIn ubytes sb uint_any sel ebytes_walk)
open Pf (zz zz_lt be8 sform size_zero)
open Vt (VT Rep BoxAt below_drew KidsAt HeadOk)
open Ev (EV FieldsOk evCells vCells EBox ERep zeroT fieldsOf nameOf of_in evalid_any goodL pickB)
open Cm (evSame)

/-- Which fields an event's kind has. -/
def hasF (e : EV) (j : Nat) : Bool := (fieldsOf e.k.toNat).contains j
/-- The form of a valid event. -/
def eform (e : EV) : List Nat := [1] ++ ubytes 10 e.k.toNat ++ sel [hasF e 0, hasF e 1, hasF e 2, hasF e 3, hasF e 4, hasF e 5] [ubytes 10 e.id, ubytes 10 e.n.toNat, ubytes 10 e.at', sform e.name, sform e.text, Pf.VT.form e.v] 6

/-- What is valid. -/
structure VE (e : EV) : Prop where
  k1 : 1 ≤ e.k
  k2 : e.k ≤ 11
  i0 : hasF e 0 = false → e.id = 0
  i1 : hasF e 0 = true → 0 < e.id
  n0 : hasF e 1 = false → e.n = 0
  n1 : 0 ≤ e.n
  n2 : e.n ≤ 2147483647
  n3 : hasF e 1 = true → 1 ≤ e.n
  a0 : hasF e 2 = false → e.at' = 0
  a1 : e.at' ≤ 9223372036854775807
  s0 : hasF e 3 = false → e.name = ⟨#[]⟩
  s1 : e.name.size ≤ 1000
  s2 : hasF e 3 = true → e.name.toList.isEmpty = false
  t0 : hasF e 4 = false → e.text = ⟨#[]⟩
  t1 : e.text.size ≤ 1000
  v0 : hasF e 5 = false → e.v.same zeroT = true
  v1 : e.v.valid 8 = true

theorem toList_nil {s : ByteArray} (h : s.toList.isEmpty = true) : s = ⟨#[]⟩ := by
  rw [Vt.toList_data] at h
  cases s with | mk d => simp at h; rw [h]
theorem zero_val : zeroT.valid 8 = true := by unfold zeroT; rw [Vt.valid_mk]; simp; decide
theorem ve_of {e : EV} (h : e.valid = true) : VE e := by
  unfold EV.valid goodL at h
  simp only [Bool.and_eq_true, decide_eq_true_iff, List.all_cons, List.all_nil, Bool.and_true] at h
  obtain ⟨⟨k1, k2⟩, h0, h1, h2, h3, h4, h5⟩ := h
  have pick : ∀ {b f z : Bool}, pickB b f z = true → (b = true → f = true) ∧ (b = false → z = true) := fun {b f z} hh => by
    unfold pickB at hh
    cases b with
    | true => rw [if_pos rfl] at hh; exact ⟨fun _ => hh, fun h => Bool.noConfusion h⟩
    | false => rw [if_neg (by simp)] at hh; exact ⟨fun h => Bool.noConfusion h, fun _ => hh⟩
  obtain ⟨p0, q0⟩ := pick h0
  obtain ⟨p1, q1⟩ := pick h1
  obtain ⟨p2, q2⟩ := pick h2
  obtain ⟨p3, q3⟩ := pick h3
  obtain ⟨p4, q4⟩ := pick h4
  obtain ⟨p5, q5⟩ := pick h5
  have e1 : ∀ b : Bool, b = true ∨ b = false := fun b => by cases b <;> simp
  have fn : ∀ h : hasF e 1 = false, e.n = 0 := fun h => by have := q1 h; simpa using this
  have tn : ∀ h : hasF e 1 = true, 1 ≤ e.n ∧ e.n ≤ 2147483647 := fun h => by have := p1 h; simpa using this
  have fs : ∀ h : hasF e 3 = false, e.name = ⟨#[]⟩ := fun h => toList_nil (q3 h)
  have ts : ∀ h : hasF e 3 = true, e.name.toList.isEmpty = false ∧ e.name.size ≤ 1000 := fun h => by
    have := p3 h
    simp only [Bool.and_eq_true, Bool.not_eq_true', decide_eq_true_iff] at this
    exact this
  have ft : ∀ h : hasF e 4 = false, e.text = ⟨#[]⟩ := fun h => toList_nil (q4 h)
  refine ⟨k1, k2, fun h => by have := q0 h; simpa using this, fun h => by have := p0 h; simpa using this, fn, ?_, ?_, fun h => (tn h).1, fun h => by have := q2 h; simpa using this, ?_, fs, ?_, fun h => (ts h).1, ft, ?_, fun h => q5 h, ?_⟩
  · rcases e1 (hasF e 1) with h | h
    · have := tn h; omega
    · rw [fn h]; omega
  · rcases e1 (hasF e 1) with h | h
    · exact (tn h).2
    · rw [fn h]; omega
  · rcases e1 (hasF e 2) with h | h
    · have := p2 h; simpa using this
    · have : e.at' = 0 := by have := q2 h; simpa using this
      omega
  · rcases e1 (hasF e 3) with h | h
    · exact (ts h).2
    · rw [fs h]; decide
  · rcases e1 (hasF e 4) with h | h
    · have := p4 h; simpa using this
    · rw [ft h]; decide
  · rcases e1 (hasF e 5) with h | h
    · exact p5 h
    · rw [Vt.same_valid e.v zeroT 8 (q5 h)]; exact zero_val

theorem ebytes_any (e : EV) (hval : e.valid = true) (hf : FieldsOk e) (hfew : e.v.few = true) (lo hi : Nat) (vk vn : Int) (vf : Nat) (vs : ByteArray) (A : Option Addr) (m c : Nat) (w : World) (hv : Rep w lo hi e.v (vCells vk vn vf vs A m c)) (hz : hi ≤ w.heap.size) :
    Calls Tryz.prog 14 #[.agg (evCells e vk vn vf vs A m c)] w fun r w' => ∃ v, r = .returned (.tuple #[v, .bool true]) ∧ BOwn w' w.heap.size v (eform e) ∧ Below w.heap.size w w' := by
  have V := ve_of hval
  have hev := fun W (hW : Below w.heap.size w W) => evalid_any e W lo hi _ ⟨hf, vk, vn, vf, vs, A, m, c, rfl, hv.later (hW.mono hz)⟩ (Nat.le_trans hz hW.size)
  obtain ⟨kn, hkn⟩ : ∃ kn : Nat, e.k = kn := ⟨e.k.toNat, by have := V.k1; omega⟩
  obtain ⟨nn, hnn⟩ : ∃ nn : Nat, e.n = nn := ⟨e.n.toNat, by have := V.n1; omega⟩
  have k1 := V.k1; have k2 := V.k2; have n2 := V.n2
  have hkt : e.k.toNat = kn := by omega
  have hnt : e.n.toNat = nn := by omega
  unfold eform hasF
  rw [hkt, hnt]
  unfold evCells at hev ⊢
  rw [hkn, hnn] at hev ⊢
  exact ebytes_walk kn e.id nn e.at' e.name e.text (by omega) hf.i1 (by omega) hf.a1 V.s1 V.t1 vk vn vf vs A m c (nameOf kn) ((fieldsOf kn).contains 0) ((fieldsOf kn).contains 1) ((fieldsOf kn).contains 2) ((fieldsOf kn).contains 3) ((fieldsOf kn).contains 4) ((fieldsOf kn).contains 5) (Pf.VT.form e.v) (by have := form_len_few hfew; omega) w
    (fun W hW => (hev W hW).mono fun r w' h => by rw [hval] at h; exact h)
    (fun W => of_in kn (by omega) (by omega) W)
    (fun W hW => vbytes_any e.v hfew lo hi vk vn vf vs A m c W (hv.later (hW.mono hz)) (Nat.le_trans hz hW.size) V.v1)

theorem sel6 (b0 b1 b2 b3 b4 b5 : Bool) (p0 p1 p2 p3 p4 p5 : List Nat) : sel [b0, b1, b2, b3, b4, b5] [p0, p1, p2, p3, p4, p5] 6 = (if b0 then p0 else []) ++ ((if b1 then p1 else []) ++ ((if b2 then p2 else []) ++ ((if b3 then p3 else []) ++ ((if b4 then p4 else []) ++ (if b5 then p5 else []))))) := by simp [sel]
theorem evSame_parts {a b : EV} (h : evSame a b = true) : a.k = b.k ∧ a.id = b.id ∧ a.n = b.n ∧ a.at' = b.at' ∧ a.name = b.name ∧ a.text = b.text ∧ a.v.same b.v = true := by
  simp only [evSame, Bool.and_eq_true, beq_iff_eq, decide_eq_true_iff] at h
  obtain ⟨⟨⟨⟨⟨⟨h1, h2⟩, h3⟩, h4⟩, h5⟩, h6⟩, h7⟩ := h
  exact ⟨h1, h2, h3, h4, h5, h6, h7⟩
end Vf
end Go.Proofs.YtcbddebmmaflgaaGreatDoor
namespace Go.Proofs.YtcbddebmmaflgaaGreatDoor
open Go.RowKit
set_option linter.unusedVariables false
set_option linter.unusedSimpArgs false
namespace Cn
open _root_.Go.Proofs.YtcbddebmmaflgaaGreatDoor.Nm (bitsW ret_int ret_bool)
open Vt (VT Rep BoxAt below_drew put5 KidsAt HeadOk)
open Ev (EV FieldsOk evCells vCells EBox ERep zeroT take_drop tk cons_drop)
open Cm (rowOf EvsIn EvsAt EvNew evSame)
open Bt (BOwn BIn PIn ubytes sb bv concat_any btext_any uint_any)

theorem Tryz.infoY : (Tryz.prog.info? 22).map (fun i => (i.zero, i.size, i.bytes)) = some (some (.slice none 0 0), 1, 24) := by kernel_rfl

end Cn
end Go.Proofs.YtcbddebmmaflgaaGreatDoor
namespace Go.Proofs.YtcbddebmmaflgaaGreatDoor
open Go.RowKit
set_option linter.unusedVariables false
set_option linter.unusedSimpArgs false
namespace Cn
open _root_.Go.Proofs.YtcbddebmmaflgaaGreatDoor.Nm (bitsW ret_int ret_bool)
open Vt (VT Rep BoxAt below_drew put5 KidsAt HeadOk)
open Ev (EV FieldsOk evCells vCells EBox ERep zeroT take_drop tk cons_drop)
open Cm (rowOf EvsIn EvsAt EvNew evSame)
open Bt (BOwn BIn PIn ubytes sb bv concat_any btext_any uint_any)

theorem slice_form {w : World} {base : Nat} {v : Value} {l : List Nat} (h : BOwn w base v l) : ∃ A n cap, v = .slice A n cap := by
  obtain ⟨A, cap, e⟩ := h.read.form
  exact ⟨A, _, cap, e⟩

end Cn
end Go.Proofs.YtcbddebmmaflgaaGreatDoor
namespace Go.Proofs.YtcbddebmmaflgaaGreatDoor
open Go.RowKit
set_option linter.unusedVariables false
set_option linter.unusedSimpArgs false
namespace Cn
open _root_.Go.Proofs.YtcbddebmmaflgaaGreatDoor.Nm (bitsW ret_int ret_bool)
open Vt (VT Rep BoxAt below_drew put5 KidsAt HeadOk)
open Ev (EV FieldsOk evCells vCells EBox ERep zeroT take_drop tk cons_drop nameOf fieldsOf of_in evalid_any)
open Cm (rowOf EvsIn EvsAt EvNew evSame)
open Bt (BOwn BIn PIn ubytes sb bv ebytes_walk vbytes0)

/-- Bytes that are read by their places. -/
def BRd (w : World) (v : Value) (l : List Nat) : Prop := (v = .slice none 0 0 ∧ l = []) ∨ ∃ b off cap, v = .slice (some ⟨b, off, none⟩) l.length cap ∧ l.length ≤ cap ∧ cap ≤ maxLen ∧ b < w.heap.size ∧ ∀ j (h : j < l.length), w.cell? ⟨b, off + j, none⟩ = some (.int .u8 (l[j] : Nat))
theorem below_drewN {B n : Nat} {a w : World} (h : Below B a w) : Below B a (w.drewN n) := ⟨h.os, h.tape, h.output, h.size, h.block⟩
theorem BRd.later {w w' : World} {v : Value} {l : List Nat} (h : BRd w v l) (hb : Below w.heap.size w w') : BRd w' v l := by
  rcases h with h | ⟨b, off, cap, h1, h2, h3, h4, h5⟩
  · exact .inl h
  · exact .inr ⟨b, off, cap, h1, h2, h3, Nat.lt_of_lt_of_le h4 hb.size, fun j hj => (hb.cell (p := ⟨b, off + j, none⟩) h4).trans (h5 j hj)⟩
theorem brd_own {w : World} {base : Nat} {v : Value} {l : List Nat} (h : BOwn w base v l) : BRd w v l := by
  rcases h.2 with ⟨h1, h2⟩ | ⟨g, cap, cur, q1, q2, q3, q4, q5, q6, q7⟩
  · exact .inl ⟨h1, List.eq_nil_of_length_eq_zero h2⟩
  · refine .inr ⟨g, 0, cap, q1, q4, q5, (Array.getElem?_eq_some_iff.1 q3).1, fun j hj => ?_⟩
    have e : cur[j]? = some (.int .u8 (l[j] : Nat)) := by
      have e1 : (l.map fun (b : Nat) => Value.int .u8 (b : Int))[j]? = some (.int .u8 (l[j] : Nat)) := by simp [List.getElem?_eq_getElem hj]
      rw [← e1, ← q7, List.getElem?_take_of_lt (by omega), Array.getElem?_toList]
    rw [Nat.zero_add]
    simp [World.cell?, q3, e]
theorem BRd.form {w : World} {v : Value} {l : List Nat} (h : BRd w v l) : ∃ A cap, v = .slice A l.length cap := by
  rcases h with ⟨rfl, rfl⟩ | ⟨b, off, cap, rfl, -⟩
  · exact ⟨none, 0, rfl⟩
  · exact ⟨_, cap, rfl⟩

set_option maxRecDepth 100000 in
set_option maxHeartbeats 1000000 in
theorem bequal_same (l m : List Nat) (hlm : l.length = m.length) (x y : Value) (w : World) (hx : BRd w x l) (hy : BRd w y m) :
    Calls Tryz.prog 16 #[x, y] w fun r w' => r = .returned (.bool (decide (l = m))) ∧ Below w.heap.size w w' := by
  obtain ⟨A, cap, rfl⟩ := hx.form
  obtain ⟨A', cap', rfl⟩ := hy.form
  have hll : l.length ≤ 9223372036854775807 := by
    rcases hx with ⟨-, rfl⟩ | ⟨b, off, cap, -, h1, h2, -⟩
    · simp
    · simp only [maxLen] at h2; omega
  have HX := Lib.hid fun W (hW : Below w.heap.size w W) => hx.later hW
  have HY := Lib.hid fun W (hW : Below w.heap.size w W) => hy.later hW
  have HLM := Lib.hid hlm
  rw [← hlm] at HY ⊢
  clear hx hy hlm
  generalize hn : l.length = n at *
  have HN := Lib.hid hn; clear hn
  go_enter Tryz.func16, Tryz.ntmps16
  go_wp2_with fail
  go_loopw [4, 13] (fun r i wr => ∃ (j : Nat), j ≤ n ∧ i = .int .i64 j ∧ r = .bool false ∧ l.take j = m.take j ∧ Below w.heap.size w wr) (fun _ i _ => n - (intOf i).toNat)
  case atStart => exact ⟨0, by omega, rfl, rfl, by simp, Below.refl _ _⟩
  case round =>
    obtain ⟨j, hj, rfl, rfl, hy, hb⟩ := hrel
    have HYT := Lib.hid hy; have HB := Lib.hid hb
    clear hy hb
    by_cases hlt : j < n
    · have hjl : j < l.length := by have := HN.out; omega
      have hjm : j < m.length := by have := HLM.out; have := HN.out; omega
      obtain ⟨b, off, cp, e1, h2, h3, h4, h5⟩ := (HX.out wr HB.out).resolve_left (fun h => by rw [h.2] at hjl; simp at hjl)
      obtain ⟨b', off', cp', e1', h2', h3', h4', h5'⟩ := (HY.out wr HB.out).resolve_left (fun h => by rw [h.2] at hjm; simp at hjm)
      injection e1 with e1 _ _
      injection e1' with e1' _ _
      subst e1 e1'
      have c1 := h5 j hjl
      have c2 := h5' j hjm
      obtain ⟨a, ha⟩ : ∃ a, a = l[j] := ⟨_, rfl⟩
      obtain ⟨a', ha'⟩ : ∃ a, a = m[j] := ⟨_, rfl⟩
      rw [← ha] at c1
      rw [← ha'] at c2
      have HA := Lib.hid ha; have HA' := Lib.hid ha'
      have HT : Hid (a = a' → l.take (j + 1) = m.take (j + 1)) := Lib.hid fun e => by rw [List.take_succ_eq_append_getElem hjl, List.take_succ_eq_append_getElem hjm, HYT.out, ← HA.out, ← HA'.out, e]
      have HF : Hid (a ≠ a' → decide (l = m) = false) := Lib.hid fun e => decide_eq_false (fun h => e (by rw [HA.out, HA'.out]; simp [h]))
      clear ha ha' h2 h3 h4 h5 h2' h3' h4' h5'
      by_cases haa : a = a'
      · subst haa
        go_upto_region 6 with fail
        go_quiet (fail)
        go_wp2_with fail
        go_roundw
        case rel => exact ⟨j + 1, by omega, by go_num, rfl, HT.out rfl, below_drewN HB.out⟩
        case measure => simp [intOf]; omega
      · have hne : ((a : Int) != (a' : Int)) = true := by simp; omega
        have HNE := Lib.hid haa
        go_upto_region 6 with fail
        go_quiet (fail)
        go_wp2_with fail
        go_ret
        exact ⟨ret_bool (by rw [HF.out HNE.out]), below_drewN HB.out⟩
    · have hj' : j = n := by omega
      subst hj'
      go_wp2_with fail
      go_ret
      have he : l = m := by
        have := HYT.out
        rw [List.take_of_length_le (by have := HN.out; omega), List.take_of_length_le (by have := HN.out; have := HLM.out; omega)] at this
        exact this
      exact ⟨ret_bool (by rw [decide_eq_true he]), HB.out⟩

set_option maxRecDepth 100000 in
theorem bequal_any (l m : List Nat) (x y : Value) (w : World) (hx : BRd w x l) (hy : BRd w y m) :
    Calls Tryz.prog 16 #[x, y] w fun r w' => r = .returned (.bool (decide (l = m))) ∧ Below w.heap.size w w' := by
  by_cases hlm : l.length = m.length
  · exact bequal_same l m hlm x y w hx hy
  · obtain ⟨A, cap, rfl⟩ := hx.form
    obtain ⟨A', cap', rfl⟩ := hy.form
    have hd : decide (l = m) = false := decide_eq_false (fun h => hlm (by rw [h]))
    rw [hd]
    generalize l.length = n at *
    generalize m.length = k at *
    have hne : ((n : Int) != (k : Int)) = true := by simp; omega
    clear hx hy hd
    go_enter Tryz.func16, Tryz.ntmps16
    go_wp2_with fail
    go_ret
    exact ⟨rfl, Below.refl _ _⟩

def e5 : EV := ⟨5, 5, 0, 0, ⟨#[]⟩, ⟨#[]⟩, zeroT⟩
theorem zero_valid : zeroT.valid 8 = true := by unfold zeroT; rw [Vt.valid_mk]; simp; decide
theorem e5_valid : e5.valid = true := by
  unfold EV.valid Ev.goodL e5
  simp [fieldsOf, Vt.same_refl, Ev.pickB]
  try decide
end Cn
end Go.Proofs.YtcbddebmmaflgaaGreatDoor
namespace Go.Proofs.YtcbddebmmaflgaaGreatDoor
open Go.RowKit
set_option linter.unusedVariables false
set_option linter.unusedSimpArgs false
namespace Rf
open _root_.Go.Proofs.YtcbddebmmaflgaaGreatDoor.Nm (bitsW ret_int ret_bool)
open Bt (BOwn BIn ubytes sb bown_nil wpList_append_bytes bv)
open Pf (zz zz_lt be8 sform)
open Vf (KB one_byte)
open Cn (BRd)

theorem ub_next {f y : Nat} (h : y < 128 ^ (f + 1)) (h2 : 128 ≤ y) : ∃ g, f = g + 1 ∧ y / 128 < 128 ^ (g + 1) ∧ ubytes f y = (y % 128 + 128) :: ubytes g (y / 128) := by
  cases f with
  | zero => simp at h; omega
  | succ g =>
    refine ⟨g, rfl, ?_, by rw [ubytes, if_neg (by omega)]⟩
    rw [Nat.pow_succ] at h
    exact Nat.div_lt_of_lt_mul (by rw [Nat.mul_comm]; exact h)
theorem ub_last {f y : Nat} (h : y < 128) : ubytes f y = [y] := by
  cases f with
  | zero => rfl
  | succ g => rw [ubytes, if_pos h]
theorem ub_big {x : Nat} (h : x < 18446744073709551616) : x < 128 ^ (10 + 1) := Nat.lt_trans h (by decide)

set_option maxRecDepth 100000 in
set_option maxHeartbeats 2000000 in
theorem ruform_any (x0 : Nat) (hx : x0 < 18446744073709551616) (w : World) : Calls Tryz.prog 71 #[.int .u64 (x0 : Nat)] w (KB w (ubytes 10 x0)) := by
  have HX := Lib.hid hx
  have HL := Lib.hid (Bt.ubytes_len 10 x0)
  have HX10 := Lib.hid (ub_big hx)
  clear hx
  go_enter Tryz.func71, Tryz.ntmps71
  go_wp2_with fail
  go_loopw [0, 3] (fun x o wr => ∃ (y f : Nat) (lo : List Nat), x = .int .u64 (y : Nat) ∧ y < 18446744073709551616 ∧ Hid (y < 128 ^ (f + 1)) ∧ Hid (lo ++ ubytes f y = ubytes 10 x0) ∧ BOwn wr w.heap.size o lo ∧ Below w.heap.size w wr) (fun x _ _ => (intOf x).toNat)
  case atStart => exact ⟨x0, 10, [], rfl, HX.out, HX10, Lib.hid rfl, bown_nil _ _, Below.refl _ _⟩
  case round =>
    obtain ⟨y, f, lo, rfl, hy, HY, HE, hown, hb⟩ := hrel
    have HO := Lib.hid hown; have HB := Lib.hid hb
    have HLO : Hid (lo.length ≤ 11) := Lib.hid (by have h1 := congrArg List.length HE.out; rw [List.length_append] at h1; have := HL.out; omega)
    clear hown hb
    by_cases hlt : 128 ≤ y
    · have k1 : decide ((128 : Int) ≤ (y : Int)) = true := decide_eq_true (by omega)
      obtain ⟨g, hfg, hg, hu⟩ := ub_next HY.out hlt
      have HG := Lib.hid hg; have HU := Lib.hid hu
      clear hg hu
      have HN := Lib.hid (one_byte wr ((y : Int) % 128 + 128) (y % 128 + 128) (by omega))
      go_wp2_with (at_builtin; refine wpList_append_bytes _ rfl _ _ rfl w.heap.size _ _ lo [y % 128 + 128] rfl rfl (HO.out.later ((Below.refl _ _).alloc (Nat.le_refl _) _)) HN.out (by have := HLO.out; simp; omega) (by simp; exact Nat.le_succ_of_le HB.out.size) ?_; intro v2 w2 hown2 hg2 hb2; have HO2 := Lib.hid hown2; have HB2 := Lib.hid ((HB.out.alloc HB.out.size _).trans hb2); clear hown2 hb2)
      exact ⟨⟨y / 128, g, lo ++ [y % 128 + 128], by go_num, by omega, HG, Lib.hid (by rw [← HE.out, HU.out]; simp), HO2.out, HB2.out⟩, by simp [intOf]; omega⟩
    · have k1 : decide ((128 : Int) ≤ (y : Int)) = false := decide_eq_false (by omega)
      have hu := ub_last (f := f) (by omega : y < 128)
      have HU := Lib.hid hu
      clear hu
      have HN := Lib.hid (one_byte wr (y : Int) y rfl)
      go_wp2_with (at_builtin; refine wpList_append_bytes _ rfl _ _ rfl w.heap.size _ _ lo [y] rfl rfl (HO.out.later ((Below.refl _ _).alloc (Nat.le_refl _) _)) HN.out (by have := HLO.out; simp; omega) (by simp; exact Nat.le_succ_of_le HB.out.size) ?_; intro v2 w2 hown2 hg2 hb2; have HO2 := Lib.hid hown2; have HB2 := Lib.hid ((HB.out.alloc HB.out.size _).trans hb2); clear hown2 hb2)
      go_ret
      refine ⟨_, rfl, ?_, HB2.out⟩
      have := HO2.out
      rw [show lo ++ [y] = ubytes 10 x0 from by rw [← HE.out, HU.out]] at this
      exact this

set_option maxRecDepth 100000 in
theorem rbform_any (v : Value) (l : List Nat) (hl : l.length ≤ 1000000) (w : World) (h : BIn w v l) : Calls Tryz.prog 70 #[v] w (KB w (ubytes 10 l.length ++ l)) := by
  obtain ⟨A, cap, rfl⟩ := h.form
  have HV := Lib.hid h
  have HU := Lib.hid (ruform_any l.length (by omega) w)
  have HL := Lib.hid (Bt.ubytes_len 10 l.length)
  have HWR : Hid (IntKind.u64.wrap (l.length : Int) = (l.length : Int)) := Lib.hid (IntWalk.u64_in _ (by omega))
  clear h
  go_enter Tryz.func70, Tryz.ntmps70
  go_wp2_with fail
  refine HU.out.mono ?_
  rintro e w1 ⟨v, rfl, hown, hb⟩
  have HO := Lib.hid hown; have HB := Lib.hid hb
  clear hown hb
  go_wp2_with (at_builtin; refine wpList_append_bytes _ rfl _ _ rfl w.heap.size _ _ (ubytes 10 l.length) l rfl rfl HO.out (HV.out.later HB.out) (by have := HL.out; omega) HB.out.size ?_; intro v2 w2 hown2 hg2 hb2; have HO2 := Lib.hid hown2; have HB2 := Lib.hid (HB.out.trans hb2); clear hown2 hb2)
  go_ret
  exact ⟨_, rfl, HO2.out, HB2.out⟩

theorem zz_pos (n : Int) (h0 : 0 ≤ n) (h1 : n ≤ 9223372036854775807) : ((zz n : Nat) : Int) = n * 2 := by unfold zz; rw [if_pos h0]; omega
theorem zz_neg (n : Int) (h0 : ¬ 0 ≤ n) (h1 : -9223372036854775808 ≤ n) : ((zz n : Nat) : Int) = -(n + 1) * 2 + 1 := by unfold zz; rw [if_neg h0]; omega

set_option maxRecDepth 100000 in
theorem riform_any (n : Int) (h0 : -9223372036854775808 ≤ n) (h1 : n ≤ 9223372036854775807) (w : World) : Calls Tryz.prog 133 #[.int .i64 n] w (KB w (ubytes 10 (zz n))) := by
  have HU := Lib.hid (ruform_any (zz n) (zz_lt h0 h1) w)
  by_cases hn : 0 ≤ n
  · have k1 : decide ((0 : Int) ≤ n) = true := decide_eq_true hn
    have HZ := Lib.hid (zz_pos n hn h1)
    rw [HZ.out] at HU
    go_enter Tryz.func133, Tryz.ntmps133
    go_wp2_with fail
    refine HU.out.mono ?_
    rintro e w1 ⟨v, rfl, hown, hb⟩
    have HO := Lib.hid hown; have HB := Lib.hid hb
    clear hown hb
    go_wp2_with fail
    go_ret
    exact ⟨_, rfl, HO.out, HB.out⟩
  · have k1 : decide ((0 : Int) ≤ n) = false := decide_eq_false hn
    have HZ := Lib.hid (zz_neg n hn h0)
    rw [HZ.out] at HU
    go_enter Tryz.func133, Tryz.ntmps133
    go_wp2_with fail
    refine HU.out.mono ?_
    rintro e w1 ⟨v, rfl, hown, hb⟩
    have HO := Lib.hid hown; have HB := Lib.hid hb
    clear hown hb
    go_wp2_with fail
    go_ret
    exact ⟨_, rfl, HO.out, HB.out⟩
end Rf
end Go.Proofs.YtcbddebmmaflgaaGreatDoor
