/- The reference's Valid of any event, and of any batch. -/
/- The reference's form of a value. -/
/- A small form is that of a small value; a form is read as the value it is the form of. No program in sight. -/
/- What a reader's walk asks of memory; what value.read leaves. -/
import Derived.Laws.Rows
import Derived.Laws.IdiomRangeMap
import Derived.Test.YtcbddebmmaflgaaGreatDoorMiay
import Derived.Test.YtcbddebmmaflgaaGreatDoorMiai
import Derived.Test.YtcbddebmmaflgaaGreatDoorMiat
import Derived.Test.YtcbddebmmaflgaaGreatDoorMiam
import Derived.Lib.AtoiErrMem
import Derived.Laws.Bits64b
namespace Go.Proofs.YtcbddebmmaflgaaGreatDoor
open Go.RowKit
set_option linter.unusedVariables false
set_option linter.unusedSimpArgs false
namespace Rd
open _root_.Go.Proofs.YtcbddebmmaflgaaGreatDoor.Nm (bitsW ret_int ret_bool)
open Vt (VT Rep BoxAt below_drew)
open Ev (EV FieldsOk evCells vCells EBox ERep zeroT take_drop tk cons_drop)
open Cm (rowOf EvsIn)
open Cn (BB bvalid wrongE)

set_option maxRecDepth 100000 in
theorem rvalid_out (k : Int) (hk : k < 1 ∨ 11 < k) (id : Nat) (n : Int) (at' : Nat) (name text : ByteArray) (vk vn : Int) (vf : Nat) (vs : ByteArray) (A : Option Addr) (m c : Nat) (w : World) :
    Calls Tryz.prog 47 #[.agg #[.int .i64 k, .int .u64 (id : Nat), .int .i64 n, .int .u64 (at' : Nat), .string name, .string text, .int .i64 vk, .int .i64 vn, .float .f64 vf, .string vs, .slice A m c]] w fun r w' => r = .returned (.bool false) ∧ Below w.heap.size w w' := by
  obtain ⟨W0, hW0⟩ : ∃ W0, W0 = w.alloc (.cells #[.int .i64 k, .int .u64 (id : Nat), .int .i64 n, .int .u64 (at' : Nat), .string name, .string text, .int .i64 vk, .int .i64 vn, .float .f64 vf, .string vs, .slice A m c] 32) := ⟨_, rfl⟩
  have HB0 : Hid (Below w.heap.size w W0) := Lib.hid (by rw [hW0]; exact (Below.refl _ _).alloc (Nat.le_refl _) _)
  have hbx : EBox W0 w.heap.size #[.int .i64 k, .int .u64 (id : Nat), .int .i64 n, .int .u64 (at' : Nat), .string name, .string text, .int .i64 vk, .int .i64 vn, .float .f64 vf, .string vs, .slice A m c] := by rw [hW0]; exact heap_alloc_new w _
  have HS : Hid (∀ W' : World, Below W0.heap.size W0 W' → W'.cell? ⟨w.heap.size, 0, none⟩ = some (.int .i64 k)) := Lib.hid fun W hW => by
    obtain ⟨c0, -⟩ := EBox.cells (hbx.later hW (by rw [hW0]; simp))
    exact c0
  clear hbx
  replace hW0 := Lib.hid hW0
  go_enter Tryz.func47, Tryz.ntmps47
  go_upto_region 1 with fail
  rw [← hW0.out]
  by_cases h1 : k < 1
  · have g1 : decide (k < 1) = true := decide_eq_true h1
    clear hk
    refine wp_region_noPanic ?_
    refine wp_region_held_drew (S := (fun W' : World => W'.cell? ⟨w.heap.size, 0, none⟩ = some (.int .i64 k))) (by kernel_rfl) ?_ (fun hHeld => ?_)
    · exact HS.out _ (below_drew (Below.refl _ _))
    refine tk (i := 0) rfl ?_
    try simp only [Act.put, List.setIfInBounds_toArray, List.set_cons_zero, List.set_cons_succ]
    refine tk (i := 1) rfl ?_
    try simp only [Act.put, List.setIfInBounds_toArray, List.set_cons_zero, List.set_cons_succ]
    refine tk (i := 2) rfl ?_
    try simp only [Act.put, List.setIfInBounds_toArray, List.set_cons_zero, List.set_cons_succ]
    refine tk (i := 3) rfl ?_
    try simp only [Act.put, List.setIfInBounds_toArray, List.set_cons_zero, List.set_cons_succ]
    refine tk (i := 4) rfl ?_
    try simp only [Act.put, List.setIfInBounds_toArray, List.set_cons_zero, List.set_cons_succ]
    refine tk (i := 5) rfl ?_
    try simp only [Act.put, List.setIfInBounds_toArray, List.set_cons_zero, List.set_cons_succ]
    refine tk (i := 6) rfl ?_
    try simp only [Act.put, List.setIfInBounds_toArray, List.set_cons_zero, List.set_cons_succ]
    refine tk (i := 7) rfl ?_
    try simp only [Act.put, List.setIfInBounds_toArray, List.set_cons_zero, List.set_cons_succ]
    refine tk (i := 8) rfl ?_
    try simp only [Act.put, List.setIfInBounds_toArray, List.set_cons_zero, List.set_cons_succ]
    refine tk (i := 9) rfl ?_
    try simp only [Act.put, List.setIfInBounds_toArray, List.set_cons_zero, List.set_cons_succ]
    refine tk (i := 10) rfl ?_
    try simp only [Act.put, List.setIfInBounds_toArray, List.set_cons_zero, List.set_cons_succ]
    refine tk (i := 11) rfl ?_
    try simp only [Act.put, List.setIfInBounds_toArray, List.set_cons_zero, List.set_cons_succ]
    refine tk (i := 12) rfl ?_
    try simp only [Act.put, List.setIfInBounds_toArray, List.set_cons_zero, List.set_cons_succ]
    refine tk (i := 13) rfl ?_
    try simp only [Act.put, List.setIfInBounds_toArray, List.set_cons_zero, List.set_cons_succ]
    refine tk (i := 14) rfl ?_
    try simp only [Act.put, List.setIfInBounds_toArray, List.set_cons_zero, List.set_cons_succ]
    refine tk (i := 15) rfl ?_
    try simp only [Act.put, List.setIfInBounds_toArray, List.set_cons_zero, List.set_cons_succ]
    refine tk (i := 16) rfl ?_
    try simp only [Act.put, List.setIfInBounds_toArray, List.set_cons_zero, List.set_cons_succ]
    refine wpAnyH_done (by kernel_rfl) ?_ _
    refine NoPanic.normal ?_
    go_wp2_with fail
    go_ret
    exact ⟨rfl, below_drew HB0.out⟩
  · have g1 : decide (k < 1) = false := decide_eq_false h1
    have g2 : decide (11 < k) = true := decide_eq_true (by omega)
    clear hk
    refine wp_region_noPanic ?_
    refine wp_region_held_drew (S := (fun W' : World => W'.cell? ⟨w.heap.size, 0, none⟩ = some (.int .i64 k))) (by kernel_rfl) ?_ (fun hHeld => ?_)
    · exact HS.out _ (below_drew (Below.refl _ _))
    refine tk (i := 0) rfl ?_
    try simp only [Act.put, List.setIfInBounds_toArray, List.set_cons_zero, List.set_cons_succ]
    refine tk (i := 1) rfl ?_
    try simp only [Act.put, List.setIfInBounds_toArray, List.set_cons_zero, List.set_cons_succ]
    refine tk (i := 2) rfl ?_
    try simp only [Act.put, List.setIfInBounds_toArray, List.set_cons_zero, List.set_cons_succ]
    refine tk (i := 3) rfl ?_
    try simp only [Act.put, List.setIfInBounds_toArray, List.set_cons_zero, List.set_cons_succ]
    refine tk (i := 4) rfl ?_
    try simp only [Act.put, List.setIfInBounds_toArray, List.set_cons_zero, List.set_cons_succ]
    refine tk (i := 5) rfl ?_
    try simp only [Act.put, List.setIfInBounds_toArray, List.set_cons_zero, List.set_cons_succ]
    refine tk (i := 6) rfl ?_
    try simp only [Act.put, List.setIfInBounds_toArray, List.set_cons_zero, List.set_cons_succ]
    refine tk (i := 7) rfl ?_
    try simp only [Act.put, List.setIfInBounds_toArray, List.set_cons_zero, List.set_cons_succ]
    refine tk (i := 8) rfl ?_
    try simp only [Act.put, List.setIfInBounds_toArray, List.set_cons_zero, List.set_cons_succ]
    refine tk (i := 9) rfl ?_
    try simp only [Act.put, List.setIfInBounds_toArray, List.set_cons_zero, List.set_cons_succ]
    refine tk (i := 10) rfl ?_
    try simp only [Act.put, List.setIfInBounds_toArray, List.set_cons_zero, List.set_cons_succ]
    refine tk (i := 11) rfl ?_
    try simp only [Act.put, List.setIfInBounds_toArray, List.set_cons_zero, List.set_cons_succ]
    refine tk (i := 12) rfl ?_
    try simp only [Act.put, List.setIfInBounds_toArray, List.set_cons_zero, List.set_cons_succ]
    refine tk (i := 13) rfl ?_
    try simp only [Act.put, List.setIfInBounds_toArray, List.set_cons_zero, List.set_cons_succ]
    refine tk (i := 14) rfl ?_
    try simp only [Act.put, List.setIfInBounds_toArray, List.set_cons_zero, List.set_cons_succ]
    refine tk (i := 15) rfl ?_
    try simp only [Act.put, List.setIfInBounds_toArray, List.set_cons_zero, List.set_cons_succ]
    refine tk (i := 16) rfl ?_
    try simp only [Act.put, List.setIfInBounds_toArray, List.set_cons_zero, List.set_cons_succ]
    refine wpAnyH_done (by kernel_rfl) ?_ _
    refine NoPanic.normal ?_
    go_wp2_with fail
    go_ret
    exact ⟨rfl, below_drew HB0.out⟩

theorem valid_out (e : EV) (h : ¬ (1 ≤ e.k ∧ e.k ≤ 11)) : e.valid = false := by unfold EV.valid; rw [decide_eq_false h]; rfl
theorem rvalid_all (e : EV) (lo hi : Nat) (vk vn : Int) (vf : Nat) (vs : ByteArray) (A : Option Addr) (m c : Nat) (w : World) (hv : Rep w lo hi e.v (vCells vk vn vf vs A m c)) (hz : hi ≤ w.heap.size) :
    Calls Tryz.prog 47 #[.agg (evCells e vk vn vf vs A m c)] w fun r w' => r = .returned (.bool e.valid) ∧ Below w.heap.size w w' := by
  by_cases hk : 1 ≤ e.k ∧ e.k ≤ 11
  · exact rvalid_ev2 e hk.1 hk.2 lo hi vk vn vf vs A m c w hv hz
  · rw [valid_out e hk]
    exact rvalid_out e.k (by omega) e.id e.n e.at' e.name e.text vk vn vf vs A m c w

theorem any_take (es : List EV) (j : Nat) (h : j < es.length) : (es.take (j + 1)).any wrongE = ((es.take j).any wrongE || wrongE es[j]) := by
  rw [List.take_succ_eq_append_getElem h, List.any_append]; simp
theorem any_at (es : List EV) (j : Nat) (h : j < es.length) (hw : wrongE es[j] = true) : es.any wrongE = true := List.any_eq_true.2 ⟨_, List.getElem_mem h, hw⟩

set_option maxRecDepth 100000 in
set_option maxHeartbeats 2000000 in
theorem r13valid_any (es : List EV) (f : ByteArray) (hfs : f.size ≤ maxLen) (at' : Nat) (hat : at' < 18446744073709551616) (A : Option Addr) (cap : Nat) (w : World) (h : EvsIn w A cap es) :
    Calls Tryz.prog 69 #[.agg #[.string f, .int .u64 at', .slice A es.length cap]] w fun r w' => r = .returned (.bool (bvalid f at' es)) ∧ Below w.heap.size w w' := by
  simp only [maxLen] at hfs
  have hle := h.le
  have hc := h.cap_le
  simp only [maxLen] at hc
  obtain ⟨W0, hW0⟩ : ∃ W0, W0 = w.alloc (.cells #[.string f, .int .u64 at', .slice A es.length cap] 49) := ⟨_, rfl⟩
  have hx0 : BB W0 w.heap.size f at' A es.length cap := by rw [hW0]; exact heap_alloc_new w _
  have hb0 : Below w.heap.size w W0 := by rw [hW0]; exact (Below.refl _ _).alloc (Nat.le_refl _) _
  have hz0 : w.heap.size < W0.heap.size := by rw [hW0]; simp
  have HK := Lib.hid (h.later hb0)
  have HBX : Hid (∀ W, Below W0.heap.size W0 W → BB W w.heap.size f at' A es.length cap) := Lib.hid fun W hW => hx0.later hW hz0
  have HB0 := Lib.hid hb0
  have HFZ : Hid (f.toList.isEmpty = decide (f.size = 0)) := Lib.hid (by rw [Vt.toList_data]; cases f with | mk d => cases d with | mk l => cases l <;> simp [ByteArray.size])
  clear h hx0 hb0
  replace hW0 := Lib.hid hW0
  generalize hn : es.length = n at *
  have HN := Lib.hid hn; clear hn
  go_enter Tryz.func69, Tryz.ntmps69
  go_upto_region 1 with fail
  rw [← hW0.out]
  go_wp2_with fail
  go_loopw [2, 3] (fun r i wr => ∃ (j : Nat), j ≤ n ∧ i = .int .i64 j ∧ r = .bool false ∧ (es.take j).any wrongE = false ∧ Below W0.heap.size W0 wr) (fun _ i _ => n - (intOf i).toNat)
  case atStart => exact ⟨0, by omega, rfl, rfl, rfl, Below.refl _ _⟩
  case round =>
    obtain ⟨j, hj, rfl, rfl, hany, hb⟩ := hrel
    have HA := Lib.hid hany; have HB := Lib.hid hb
    obtain ⟨d0, d1, d2, -⟩ := (HBX.out _ hb).cells
    clear hany hb
    have HBF : Hid (∀ W, Below wr.heap.size wr W → Below w.heap.size w W) := Lib.hid fun W hW => HB0.out.trans ((HB.out.trans (hW.mono HB.out.size)).mono HB0.out.size)
    by_cases hkl : j < n
    · have hke : j < es.length := by have := HN.out; omega
      obtain ⟨b2, off2, lo, hi, vk, vn, vf, vs, A2, m2, c2, rfl, hbl2, hf, hv, hhi, e0, e1, e2, e3, e4, e5, e6, e7, e8, e9, e10⟩ := (HK.out.later HB.out).get j hke
      have HC := Lib.hid (rvalid_all es[j] lo hi vk vn vf vs A2 m2 c2 _ hv hhi)
      have HT := Lib.hid (any_take es j hke)
      have HTA := Lib.hid (any_at es j hke)
      unfold evCells at HC
      clear hf hv
      go_wp2_with fail
      refine HC.out.mono ?_
      rintro x w1 ⟨rfl, hb1⟩
      have HB1 := Lib.hid hb1
      clear hb1 e0 e1 e2 e3 e4 e5 e6 e7 e8 e9 e10 d0 d1 d2 HC
      cases hp : es[j].valid with
      | true =>
        have HP := Lib.hid hp; clear hp
        go_wp2_with fail
        go_roundw
        case rel => exact ⟨j + 1, by omega, by go_num, rfl, by rw [HT.out, HA.out]; simp [wrongE, HP.out], HB.out.trans (HB1.out.mono HB.out.size)⟩
        case measure => simp [intOf]; omega
      | false =>
        have HP := Lib.hid hp; clear hp
        go_wp2_with fail
        go_ret
        exact ⟨ret_bool (by unfold bvalid; rw [HTA.out (by simp [wrongE, HP.out])]; simp), HBF.out _ HB1.out⟩
    · have hk' : j = n := by omega
      subst hk'
      have HAA : Hid (es.any wrongE = false) := Lib.hid (by have := HA.out; rw [← HN.out, List.take_length] at this; exact this)
      have HBW : Hid (Below w.heap.size w wr) := Lib.hid (HBF.out _ (Below.refl _ _))
      by_cases h1 : 1 ≤ f.size
      · have g1 : decide ((1 : Int) ≤ (f.size : Int)) = true := decide_eq_true (by omega)
        by_cases h2 : f.size ≤ 1000
        · have g2 : decide ((f.size : Int) ≤ 1000) = true := decide_eq_true (by omega)
          by_cases h3 : at' ≤ 9223372036854775807
          · have g3 : decide ((at' : Int) ≤ 9223372036854775807) = true := decide_eq_true (by omega)
            have HH := Lib.hid (And.intro h1 (And.intro h2 h3))
            clear h3
            go_wp2_with fail
            go_ret
            exact ⟨ret_bool (by obtain ⟨z1, z2, z3⟩ := HH.out; unfold bvalid; rw [HAA.out, HFZ.out, HN.out, decide_eq_true z2, decide_eq_true z3, decide_eq_false (by omega : ¬ f.size = 0)]; simp), HBW.out⟩
          · have g3 : decide ((at' : Int) ≤ 9223372036854775807) = false := decide_eq_false (by omega)
            have HH := Lib.hid h3
            clear h3
            go_wp2_with fail
            go_ret
            exact ⟨ret_bool (by unfold bvalid; rw [decide_eq_false HH.out]; simp), HBW.out⟩
        · have g2 : decide ((f.size : Int) ≤ 1000) = false := decide_eq_false (by omega)
          have HH := Lib.hid h2
          go_wp2_with fail
          go_ret
          exact ⟨ret_bool (by unfold bvalid; rw [decide_eq_false HH.out]; simp), HBW.out⟩
      · have g1 : decide ((1 : Int) ≤ (f.size : Int)) = false := decide_eq_false (by omega)
        have HH := Lib.hid h1
        go_wp2_with fail
        go_ret
        exact ⟨ret_bool (by unfold bvalid; rw [HFZ.out, decide_eq_true (by have := HH.out; omega : f.size = 0)]; simp), HBW.out⟩
end Rd
end Go.Proofs.YtcbddebmmaflgaaGreatDoor
namespace Go.Proofs.YtcbddebmmaflgaaGreatDoor
open Go.RowKit
set_option linter.unusedVariables false
set_option linter.unusedSimpArgs false
namespace Rf
open _root_.Go.Proofs.YtcbddebmmaflgaaGreatDoor.Nm (bitsW rbits_any ret_int ret_bool)
open Bt (BOwn BIn ubytes sb bown_nil wpList_append_bytes bv)
open Pf (zz zz_lt be8 sform)
open Vf (KB one_byte be8_take forms_take forms_le)
open Vt (VT Rep BoxAt below_drew KidsAt HeadOk)

theorem and255 (x : Nat) (h : x < 18446744073709551616) : bits BinOp.and IntKind.u64 (x : Int) 255 % 256 = ((x % 256 : Nat) : Int) := by
  have := bits_and_u64_nat x 255 h (by decide)
  rw [show ((255 : Nat) : Int) = 255 from rfl] at this
  rw [this, show (255 : Nat) = 2 ^ 8 - 1 from rfl, Nat.and_two_pow_sub_one_eq_mod]
  omega
theorem sb_get2 (s : ByteArray) (j : Nat) (h : j < (sb s).length) : (s.data.toList.getD j 0).toNat = (sb s)[j] := by
  have hl : j < s.data.toList.length := by simpa [sb] using h
  simp [sb, List.getD_eq_getElem?_getD, List.getElem?_eq_getElem hl]
/-- A string as bytes. -/
theorem str_in (W : World) (s : ByteArray) (hs : s.size ≤ 1000000) : ∃ cc W0, (convert 9 22 (.string s)).run Tryz.prog W = .ok (.slice (some ⟨W.heap.size, 0, none⟩) s.size cc) W0 ∧ BIn W0 (.slice (some ⟨W.heap.size, 0, none⟩) s.size cc) (sb s) ∧ Below W.heap.size W W0 := by
  have hcv := Lib.run_convert_string_bytes (P := Tryz.prog) W 9 22 5 s (u := .string) Tryz.underlying9 Tryz.underlying22 Tryz.underlying5
  refine ⟨_, _, hcv, .inr ⟨⟨W.heap.size, 0, none⟩, _, by rw [Bt.sb_len], by rw [Bt.sb_len]; exact grownCap_ge .., grownCap_le_maxLen _ _ _ _ (by simp only [maxLen]; omega), by rw [Lib.bytesWorld_size]; simp, fun j u hu => ?_⟩, Lib.bytesWorld_below _ _ _⟩
  have hj : j < (sb s).length := by have := (List.getElem?_eq_some_iff.1 hu).1; simpa using this
  have e : u = bv (sb s)[j] := by
    have := List.getElem?_map (f := bv) (l := sb s) (i := j)
    rw [hu, List.getElem?_eq_getElem hj] at this
    simpa using this
  rw [Go.WideShapes.add_plain, Nat.zero_add, Lib.bytesWorld_cell _ _ _ _ (by rw [Bt.sb_len] at hj; exact hj), sb_get2 s j hj, e]; rfl

set_option maxRecDepth 100000 in
set_option maxHeartbeats 2000000 in
theorem rform_none (n : Int) (f : Nat) (s : ByteArray) (A : Option Addr) (m c : Nat) (w : World) :
    Calls Tryz.prog 116 #[.agg #[.int .i64 0, .int .i64 n, .float .f64 f, .string s, .slice A m c]] w (KB w (ubytes 10 0 ++ [])) := by
  obtain ⟨W0, hW0⟩ : ∃ W0, W0 = w.alloc (.cells #[.int .i64 0, .int .i64 n, .float .f64 f, .string s, .slice A m c] 30) := ⟨_, rfl⟩
  have HB0 : Hid (Below w.heap.size w W0) := Lib.hid (by rw [hW0]; exact (Below.refl _ _).alloc (Nat.le_refl _) _)
  have hz0 : w.heap.size < W0.heap.size := by rw [hW0]; simp
  have hx0 : BoxAt W0 w.heap.size 0 n f s A m c := by rw [hW0]; exact BoxAt.new ..
  have HBX : Hid (∀ W, Below W0.heap.size W0 W → BoxAt W w.heap.size 0 n f s A m c) := Lib.hid fun W hW => hx0.later hW hz0
  have HU : Hid (Calls Tryz.prog 71 #[.int .u64 0] W0 (KB W0 (ubytes 10 0))) := Lib.hid (ruform_any 0 (by decide) W0)
  have HUL : Hid ((ubytes 10 0).length ≤ 11) := Lib.hid (Bt.ubytes_len 10 0)
  obtain ⟨c0, c1, c2, c3, c4⟩ := hx0.cells
  clear hx0
  replace hW0 := Lib.hid hW0
  go_enter Tryz.func116, Tryz.ntmps116
  go_upto_region 1 with fail
  rw [← hW0.out]
  go_wp2_with fail
  refine HU.out.mono ?_
  rintro e w1 ⟨v1, rfl, ho1, hb1⟩
  have HO1 := Lib.hid (ho1.base HB0.out.size); have HB1 := Lib.hid hb1
  have HBW1 : Hid (Below w.heap.size w w1) := Lib.hid (HB0.out.trans (hb1.mono HB0.out.size))
  clear c0 c1 c2 c3 c4 ho1 hb1
  obtain ⟨c0, c1, c2, c3, c4⟩ := (HBX.out w1 HB1.out).cells
  go_wp2_with fail
  go_ret
  exact ⟨_, rfl, by rw [List.append_nil]; exact HO1.out, HBW1.out⟩

set_option maxRecDepth 100000 in
set_option maxHeartbeats 2000000 in
theorem rform_int (n : Int) (f : Nat) (s : ByteArray) (A : Option Addr) (m c : Nat) (w : World) (h0 : -9223372036854775808 ≤ n) (h1 : n ≤ 9223372036854775807) :
    Calls Tryz.prog 116 #[.agg #[.int .i64 1, .int .i64 n, .float .f64 f, .string s, .slice A m c]] w (KB w (ubytes 10 1 ++ ubytes 10 (zz n))) := by
  obtain ⟨W0, hW0⟩ : ∃ W0, W0 = w.alloc (.cells #[.int .i64 1, .int .i64 n, .float .f64 f, .string s, .slice A m c] 30) := ⟨_, rfl⟩
  have HB0 : Hid (Below w.heap.size w W0) := Lib.hid (by rw [hW0]; exact (Below.refl _ _).alloc (Nat.le_refl _) _)
  have hz0 : w.heap.size < W0.heap.size := by rw [hW0]; simp
  have hx0 : BoxAt W0 w.heap.size 1 n f s A m c := by rw [hW0]; exact BoxAt.new ..
  have HBX : Hid (∀ W, Below W0.heap.size W0 W → BoxAt W w.heap.size 1 n f s A m c) := Lib.hid fun W hW => hx0.later hW hz0
  have HU : Hid (Calls Tryz.prog 71 #[.int .u64 1] W0 (KB W0 (ubytes 10 1))) := Lib.hid (ruform_any 1 (by decide) W0)
  have HUL : Hid ((ubytes 10 1).length ≤ 11) := Lib.hid (Bt.ubytes_len 10 1)
  have HI := Lib.hid fun W => riform_any n h0 h1 W
  have HZL := Lib.hid (Bt.ubytes_len 10 (zz n))
  clear h0 h1
  obtain ⟨c0, c1, c2, c3, c4⟩ := hx0.cells
  clear hx0
  replace hW0 := Lib.hid hW0
  go_enter Tryz.func116, Tryz.ntmps116
  go_upto_region 1 with fail
  rw [← hW0.out]
  go_wp2_with fail
  refine HU.out.mono ?_
  rintro e w1 ⟨v1, rfl, ho1, hb1⟩
  have HO1 := Lib.hid (ho1.base HB0.out.size); have HB1 := Lib.hid hb1
  have HBW1 : Hid (Below w.heap.size w w1) := Lib.hid (HB0.out.trans (hb1.mono HB0.out.size))
  clear c0 c1 c2 c3 c4 ho1 hb1
  obtain ⟨c0, c1, c2, c3, c4⟩ := (HBX.out w1 HB1.out).cells
  go_wp2_with fail
  refine (HI.out w1).mono ?_
  rintro e w2 ⟨v2, rfl, ho2, hb2⟩
  have HI2 := Lib.hid ho2.read; have HO2 := Lib.hid (HO1.out.later hb2); have HB2 := Lib.hid (HBW1.out.trans (hb2.mono HBW1.out.size))
  clear ho2 hb2
  go_wp2_with (at_builtin; refine wpList_append_bytes _ rfl _ _ rfl w.heap.size _ _ (ubytes 10 1) (ubytes 10 (zz n)) rfl rfl HO2.out HI2.out (by have := HUL.out; have := HZL.out; omega) HB2.out.size ?_; intro v3 w3 hown3 hg3 hb3; have HO3 := Lib.hid hown3; have HB3 := Lib.hid (HB2.out.trans hb3); clear hown3 hb3 hg3)
  go_ret
  exact ⟨_, rfl, HO3.out, HB3.out⟩

set_option maxRecDepth 100000 in
set_option maxHeartbeats 2000000 in
theorem rform_text (n : Int) (f : Nat) (s : ByteArray) (A : Option Addr) (m c : Nat) (w : World) (hs : s.size ≤ 100000) :
    Calls Tryz.prog 116 #[.agg #[.int .i64 3, .int .i64 n, .float .f64 f, .string s, .slice A m c]] w (KB w (ubytes 10 3 ++ sform s)) := by
  obtain ⟨W0, hW0⟩ : ∃ W0, W0 = w.alloc (.cells #[.int .i64 3, .int .i64 n, .float .f64 f, .string s, .slice A m c] 30) := ⟨_, rfl⟩
  have HB0 : Hid (Below w.heap.size w W0) := Lib.hid (by rw [hW0]; exact (Below.refl _ _).alloc (Nat.le_refl _) _)
  have hz0 : w.heap.size < W0.heap.size := by rw [hW0]; simp
  have hx0 : BoxAt W0 w.heap.size 3 n f s A m c := by rw [hW0]; exact BoxAt.new ..
  have HBX : Hid (∀ W, Below W0.heap.size W0 W → BoxAt W w.heap.size 3 n f s A m c) := Lib.hid fun W hW => hx0.later hW hz0
  have HU : Hid (Calls Tryz.prog 71 #[.int .u64 3] W0 (KB W0 (ubytes 10 3))) := Lib.hid (ruform_any 3 (by decide) W0)
  have HUL : Hid ((ubytes 10 3).length ≤ 11) := Lib.hid (Bt.ubytes_len 10 3)
  have HS := Lib.hid fun W => str_in W s (by omega)
  have HFB := Lib.hid fun (W : World) (v : Value) (hv : BIn W v (sb s)) => rbform_any v (sb s) (by rw [Bt.sb_len]; omega) W hv
  have HSL := Lib.hid (Bt.sb_len s)
  have HSZ := Lib.hid hs
  have HZL := Lib.hid (Bt.ubytes_len 10 s.size)
  obtain ⟨c0, c1, c2, c3, c4⟩ := hx0.cells
  clear hx0
  replace hW0 := Lib.hid hW0
  go_enter Tryz.func116, Tryz.ntmps116
  go_upto_region 1 with fail
  rw [← hW0.out]
  go_wp2_with fail
  refine HU.out.mono ?_
  rintro e w1 ⟨v1, rfl, ho1, hb1⟩
  have HO1 := Lib.hid (ho1.base HB0.out.size); have HB1 := Lib.hid hb1
  have HBW1 : Hid (Below w.heap.size w w1) := Lib.hid (HB0.out.trans (hb1.mono HB0.out.size))
  clear c0 c1 c2 c3 c4 ho1 hb1
  obtain ⟨c0, c1, c2, c3, c4⟩ := (HBX.out w1 HB1.out).cells
  obtain ⟨cc, w2, hcv, hin2, hb2⟩ := HS.out w1
  have HI2 := Lib.hid hin2; have HO2 := Lib.hid (HO1.out.later hb2); have HB2 := Lib.hid (HBW1.out.trans (hb2.mono HBW1.out.size))
  clear hin2 hb2
  go_wp2_with fail
  refine (HFB.out _ _ HI2.out).mono ?_
  rintro e w3 ⟨v3, rfl, ho3, hb3⟩
  have HI3 := Lib.hid ho3.read; have HO3 := Lib.hid (HO2.out.later hb3); have HB3 := Lib.hid (HB2.out.trans (hb3.mono HB2.out.size))
  clear ho3 hb3 hcv
  go_wp2_with (at_builtin; refine wpList_append_bytes _ rfl _ _ rfl w.heap.size _ _ (ubytes 10 3) (ubytes 10 (sb s).length ++ sb s) rfl rfl HO3.out HI3.out (by have := HUL.out; have := HZL.out; have := HSZ.out; rw [List.length_append, HSL.out]; omega) HB3.out.size ?_; intro v4 w4 hown4 hg4 hb4; have HO4 := Lib.hid hown4; have HB4 := Lib.hid (HB3.out.trans hb4); clear hown4 hb4 hg4)
  go_ret
  refine ⟨_, rfl, ?_, HB4.out⟩
  have := HO4.out
  rw [HSL.out] at this
  exact this

set_option maxRecDepth 100000 in
set_option maxHeartbeats 2000000 in
theorem rform_float (n : Int) (f : Nat) (s : ByteArray) (A : Option Addr) (m c : Nat) (w : World) (hf : f < 18446744073709551616) :
    Calls Tryz.prog 116 #[.agg #[.int .i64 2, .int .i64 n, .float .f64 f, .string s, .slice A m c]] w (KB w (ubytes 10 2 ++ be8 (bitsW f))) := by
  obtain ⟨W0, hW0⟩ : ∃ W0, W0 = w.alloc (.cells #[.int .i64 2, .int .i64 n, .float .f64 f, .string s, .slice A m c] 30) := ⟨_, rfl⟩
  have HB0 : Hid (Below w.heap.size w W0) := Lib.hid (by rw [hW0]; exact (Below.refl _ _).alloc (Nat.le_refl _) _)
  have hz0 : w.heap.size < W0.heap.size := by rw [hW0]; simp
  have hx0 : BoxAt W0 w.heap.size 2 n f s A m c := by rw [hW0]; exact BoxAt.new ..
  have HBX : Hid (∀ W, Below W0.heap.size W0 W → BoxAt W w.heap.size 2 n f s A m c) := Lib.hid fun W hW => hx0.later hW hz0
  have HU : Hid (Calls Tryz.prog 71 #[.int .u64 2] W0 (KB W0 (ubytes 10 2))) := Lib.hid (ruform_any 2 (by decide) W0)
  have HUL : Hid ((ubytes 10 2).length ≤ 11) := Lib.hid (Bt.ubytes_len 10 2)
  have HBI := Lib.hid fun W => rbits_any f hf W
  obtain ⟨v, hv⟩ : ∃ v, v = bitsW f := ⟨_, rfl⟩
  have hvl : v < 18446744073709551616 := by rw [hv]; exact Pf.bits_lt hf
  rw [← hv] at HBI ⊢
  clear hv hf
  obtain ⟨c0, c1, c2, c3, c4⟩ := hx0.cells
  clear hx0
  replace hW0 := Lib.hid hW0
  go_enter Tryz.func116, Tryz.ntmps116
  go_upto_region 1 with fail
  rw [← hW0.out]
  go_wp2_with fail
  refine HU.out.mono ?_
  rintro e w1 ⟨v1, rfl, ho1, hb1⟩
  have HO1 := Lib.hid (ho1.base HB0.out.size); have HB1 := Lib.hid hb1
  have HBW1 : Hid (Below w.heap.size w w1) := Lib.hid (HB0.out.trans (hb1.mono HB0.out.size))
  clear c0 c1 c2 c3 c4 ho1 hb1
  obtain ⟨c0, c1, c2, c3, c4⟩ := (HBX.out w1 HB1.out).cells
  go_wp2_with fail
  refine (HBI.out w1).mono ?_
  rintro e w2 ⟨rfl, rfl⟩
  go_wp2_with fail
  go_loopw [3, 5] (fun out i wr => ∃ (j : Nat) (sh : Int), j ≤ 8 ∧ sh = 7 - (j : Int) ∧ i = .int .i64 sh ∧ BOwn wr w.heap.size out (ubytes 10 2 ++ (be8 v).take j) ∧ Below w.heap.size w wr) (fun _ i _ => (intOf i + 8).toNat)
  case atStart => exact ⟨0, 7, by omega, by omega, rfl, by simpa using HO1.out, HBW1.out⟩
  case round =>
    obtain ⟨j, sh, hj, hsh, rfl, hown, hb⟩ := hrel
    have HO := Lib.hid hown; have HB := Lib.hid hb
    clear hown hb
    rcases (by omega : j = 0 ∨ j = 1 ∨ j = 2 ∨ j = 3 ∨ j = 4 ∨ j = 5 ∨ j = 6 ∨ j = 7 ∨ j = 8) with rfl | rfl | rfl | rfl | rfl | rfl | rfl | rfl | rfl
    · obtain rfl : sh = 7 := by omega
      clear hsh
      have HN := Lib.hid (one_byte wr (bits BinOp.and IntKind.u64 ((v : Int) / 72057594037927936) 255 % 256) (v / 72057594037927936 % 256) (and255 (v / 72057594037927936) (by omega)))
      go_wp2_with (at_builtin; refine wpList_append_bytes _ rfl _ _ rfl w.heap.size _ _ (ubytes 10 2 ++ (be8 v).take 0) [v / 72057594037927936 % 256] rfl rfl (HO.out.later ((Below.refl _ _).alloc (Nat.le_refl _) _)) HN.out (by have := HUL.out; have := be8_take v 0; rw [List.length_append]; simp only [List.length_singleton]; omega) (by simp; exact Nat.le_succ_of_le HB.out.size) ?_; intro v2 w2 hown2 hg2 hb2; have HO2 := Lib.hid hown2; have HB2 := Lib.hid ((HB.out.alloc HB.out.size _).trans hb2); clear hown2 hb2)
      exact ⟨⟨1, 6, by omega, by omega, by go_num, (by rw [← List.append_assoc]; exact HO2.out : BOwn w2 w.heap.size v2 (ubytes 10 2 ++ ((be8 v).take 0 ++ [v / 72057594037927936 % 256]))), HB2.out⟩, by simp [intOf]⟩
    · obtain rfl : sh = 6 := by omega
      clear hsh
      have HN := Lib.hid (one_byte wr (bits BinOp.and IntKind.u64 ((v : Int) / 281474976710656) 255 % 256) (v / 281474976710656 % 256) (and255 (v / 281474976710656) (by omega)))
      go_wp2_with (at_builtin; refine wpList_append_bytes _ rfl _ _ rfl w.heap.size _ _ (ubytes 10 2 ++ (be8 v).take 1) [v / 281474976710656 % 256] rfl rfl (HO.out.later ((Below.refl _ _).alloc (Nat.le_refl _) _)) HN.out (by have := HUL.out; have := be8_take v 1; rw [List.length_append]; simp only [List.length_singleton]; omega) (by simp; exact Nat.le_succ_of_le HB.out.size) ?_; intro v2 w2 hown2 hg2 hb2; have HO2 := Lib.hid hown2; have HB2 := Lib.hid ((HB.out.alloc HB.out.size _).trans hb2); clear hown2 hb2)
      exact ⟨⟨2, 5, by omega, by omega, by go_num, (by rw [← List.append_assoc]; exact HO2.out : BOwn w2 w.heap.size v2 (ubytes 10 2 ++ ((be8 v).take 1 ++ [v / 281474976710656 % 256]))), HB2.out⟩, by simp [intOf]⟩
    · obtain rfl : sh = 5 := by omega
      clear hsh
      have HN := Lib.hid (one_byte wr (bits BinOp.and IntKind.u64 ((v : Int) / 1099511627776) 255 % 256) (v / 1099511627776 % 256) (and255 (v / 1099511627776) (by omega)))
      go_wp2_with (at_builtin; refine wpList_append_bytes _ rfl _ _ rfl w.heap.size _ _ (ubytes 10 2 ++ (be8 v).take 2) [v / 1099511627776 % 256] rfl rfl (HO.out.later ((Below.refl _ _).alloc (Nat.le_refl _) _)) HN.out (by have := HUL.out; have := be8_take v 2; rw [List.length_append]; simp only [List.length_singleton]; omega) (by simp; exact Nat.le_succ_of_le HB.out.size) ?_; intro v2 w2 hown2 hg2 hb2; have HO2 := Lib.hid hown2; have HB2 := Lib.hid ((HB.out.alloc HB.out.size _).trans hb2); clear hown2 hb2)
      exact ⟨⟨3, 4, by omega, by omega, by go_num, (by rw [← List.append_assoc]; exact HO2.out : BOwn w2 w.heap.size v2 (ubytes 10 2 ++ ((be8 v).take 2 ++ [v / 1099511627776 % 256]))), HB2.out⟩, by simp [intOf]⟩
    · obtain rfl : sh = 4 := by omega
      clear hsh
      have HN := Lib.hid (one_byte wr (bits BinOp.and IntKind.u64 ((v : Int) / 4294967296) 255 % 256) (v / 4294967296 % 256) (and255 (v / 4294967296) (by omega)))
      go_wp2_with (at_builtin; refine wpList_append_bytes _ rfl _ _ rfl w.heap.size _ _ (ubytes 10 2 ++ (be8 v).take 3) [v / 4294967296 % 256] rfl rfl (HO.out.later ((Below.refl _ _).alloc (Nat.le_refl _) _)) HN.out (by have := HUL.out; have := be8_take v 3; rw [List.length_append]; simp only [List.length_singleton]; omega) (by simp; exact Nat.le_succ_of_le HB.out.size) ?_; intro v2 w2 hown2 hg2 hb2; have HO2 := Lib.hid hown2; have HB2 := Lib.hid ((HB.out.alloc HB.out.size _).trans hb2); clear hown2 hb2)
      exact ⟨⟨4, 3, by omega, by omega, by go_num, (by rw [← List.append_assoc]; exact HO2.out : BOwn w2 w.heap.size v2 (ubytes 10 2 ++ ((be8 v).take 3 ++ [v / 4294967296 % 256]))), HB2.out⟩, by simp [intOf]⟩
    · obtain rfl : sh = 3 := by omega
      clear hsh
      have HN := Lib.hid (one_byte wr (bits BinOp.and IntKind.u64 ((v : Int) / 16777216) 255 % 256) (v / 16777216 % 256) (and255 (v / 16777216) (by omega)))
      go_wp2_with (at_builtin; refine wpList_append_bytes _ rfl _ _ rfl w.heap.size _ _ (ubytes 10 2 ++ (be8 v).take 4) [v / 16777216 % 256] rfl rfl (HO.out.later ((Below.refl _ _).alloc (Nat.le_refl _) _)) HN.out (by have := HUL.out; have := be8_take v 4; rw [List.length_append]; simp only [List.length_singleton]; omega) (by simp; exact Nat.le_succ_of_le HB.out.size) ?_; intro v2 w2 hown2 hg2 hb2; have HO2 := Lib.hid hown2; have HB2 := Lib.hid ((HB.out.alloc HB.out.size _).trans hb2); clear hown2 hb2)
      exact ⟨⟨5, 2, by omega, by omega, by go_num, (by rw [← List.append_assoc]; exact HO2.out : BOwn w2 w.heap.size v2 (ubytes 10 2 ++ ((be8 v).take 4 ++ [v / 16777216 % 256]))), HB2.out⟩, by simp [intOf]⟩
    · obtain rfl : sh = 2 := by omega
      clear hsh
      have HN := Lib.hid (one_byte wr (bits BinOp.and IntKind.u64 ((v : Int) / 65536) 255 % 256) (v / 65536 % 256) (and255 (v / 65536) (by omega)))
      go_wp2_with (at_builtin; refine wpList_append_bytes _ rfl _ _ rfl w.heap.size _ _ (ubytes 10 2 ++ (be8 v).take 5) [v / 65536 % 256] rfl rfl (HO.out.later ((Below.refl _ _).alloc (Nat.le_refl _) _)) HN.out (by have := HUL.out; have := be8_take v 5; rw [List.length_append]; simp only [List.length_singleton]; omega) (by simp; exact Nat.le_succ_of_le HB.out.size) ?_; intro v2 w2 hown2 hg2 hb2; have HO2 := Lib.hid hown2; have HB2 := Lib.hid ((HB.out.alloc HB.out.size _).trans hb2); clear hown2 hb2)
      exact ⟨⟨6, 1, by omega, by omega, by go_num, (by rw [← List.append_assoc]; exact HO2.out : BOwn w2 w.heap.size v2 (ubytes 10 2 ++ ((be8 v).take 5 ++ [v / 65536 % 256]))), HB2.out⟩, by simp [intOf]⟩
    · obtain rfl : sh = 1 := by omega
      clear hsh
      have HN := Lib.hid (one_byte wr (bits BinOp.and IntKind.u64 ((v : Int) / 256) 255 % 256) (v / 256 % 256) (and255 (v / 256) (by omega)))
      go_wp2_with (at_builtin; refine wpList_append_bytes _ rfl _ _ rfl w.heap.size _ _ (ubytes 10 2 ++ (be8 v).take 6) [v / 256 % 256] rfl rfl (HO.out.later ((Below.refl _ _).alloc (Nat.le_refl _) _)) HN.out (by have := HUL.out; have := be8_take v 6; rw [List.length_append]; simp only [List.length_singleton]; omega) (by simp; exact Nat.le_succ_of_le HB.out.size) ?_; intro v2 w2 hown2 hg2 hb2; have HO2 := Lib.hid hown2; have HB2 := Lib.hid ((HB.out.alloc HB.out.size _).trans hb2); clear hown2 hb2)
      exact ⟨⟨7, 0, by omega, by omega, by go_num, (by rw [← List.append_assoc]; exact HO2.out : BOwn w2 w.heap.size v2 (ubytes 10 2 ++ ((be8 v).take 6 ++ [v / 256 % 256]))), HB2.out⟩, by simp [intOf]⟩
    · obtain rfl : sh = 0 := by omega
      clear hsh
      have HN := Lib.hid (one_byte wr (bits BinOp.and IntKind.u64 (v : Int) 255 % 256) (v % 256) (and255 (v) (by omega)))
      go_wp2_with (at_builtin; refine wpList_append_bytes _ rfl _ _ rfl w.heap.size _ _ (ubytes 10 2 ++ (be8 v).take 7) [v % 256] rfl rfl (HO.out.later ((Below.refl _ _).alloc (Nat.le_refl _) _)) HN.out (by have := HUL.out; have := be8_take v 7; rw [List.length_append]; simp only [List.length_singleton]; omega) (by simp; exact Nat.le_succ_of_le HB.out.size) ?_; intro v2 w2 hown2 hg2 hb2; have HO2 := Lib.hid hown2; have HB2 := Lib.hid ((HB.out.alloc HB.out.size _).trans hb2); clear hown2 hb2)
      exact ⟨⟨8, -1, by omega, by omega, by go_num, (by rw [← List.append_assoc]; exact HO2.out : BOwn w2 w.heap.size v2 (ubytes 10 2 ++ ((be8 v).take 7 ++ [v % 256]))), HB2.out⟩, by simp [intOf]⟩
    · obtain rfl : sh = -1 := by omega
      clear hsh
      go_wp2_with fail
      go_ret
      exact ⟨_, rfl, HO.out, HB.out⟩

set_option maxRecDepth 100000 in
set_option maxHeartbeats 2000000 in
theorem rform_list (n : Int) (f : Nat) (s : ByteArray) (l : List VT) (A : Option Addr) (cap : Nat) (hl : l.length ≤ cap) (hcap : cap ≤ maxLen) (w : World) (lo hi : Nat) (hk : KidsAt w lo hi l A) (hz : hi ≤ w.heap.size) (hlen : (l.map Pf.VT.form).flatten.length ≤ 500000)
    (ih : ∀ i (h : i < l.length) (W : World) (lo hi : Nat) (v : Value), Rep W lo hi l[i] v → hi ≤ W.heap.size → Calls Tryz.prog 116 #[v] W (KB W (Pf.VT.form l[i]))) :
    Calls Tryz.prog 116 #[.agg #[.int .i64 4, .int .i64 n, .float .f64 f, .string s, .slice A l.length cap]] w (KB w (ubytes 10 4 ++ (ubytes 10 l.length ++ (l.map Pf.VT.form).flatten))) := by
  simp only [maxLen] at hcap
  obtain ⟨W0, hW0⟩ : ∃ W0, W0 = w.alloc (.cells #[.int .i64 4, .int .i64 n, .float .f64 f, .string s, .slice A l.length cap] 30) := ⟨_, rfl⟩
  have HB0 : Hid (Below w.heap.size w W0) := Lib.hid (by rw [hW0]; exact (Below.refl _ _).alloc (Nat.le_refl _) _)
  have hz0 : w.heap.size < W0.heap.size := by rw [hW0]; simp
  have hx0 : BoxAt W0 w.heap.size 4 n f s A l.length cap := by rw [hW0]; exact BoxAt.new ..
  have HBX : Hid (∀ W, Below W0.heap.size W0 W → BoxAt W w.heap.size 4 n f s A l.length cap) := Lib.hid fun W hW => hx0.later hW hz0
  have HU : Hid (Calls Tryz.prog 71 #[.int .u64 4] W0 (KB W0 (ubytes 10 4))) := Lib.hid (ruform_any 4 (by decide) W0)
  have HUL : Hid ((ubytes 10 4).length ≤ 11) := Lib.hid (Bt.ubytes_len 10 4)
  have HUN := Lib.hid fun W => ruform_any l.length (by omega) W
  have HNL := Lib.hid (Bt.ubytes_len 10 l.length)
  have HWR : Hid (IntKind.u64.wrap (l.length : Int) = (l.length : Int)) := Lib.hid (IntWalk.u64_in _ (by omega))
  have HK := Lib.hid (hk.later (HB0.out.mono hz))
  have IH := Lib.hid ih
  have HLEN := Lib.hid hlen
  have hhi : hi ≤ W0.heap.size := Nat.le_trans hz HB0.out.size
  obtain ⟨c0, c1, c2, c3, c4⟩ := hx0.cells
  clear hx0 hk ih hlen
  replace hW0 := Lib.hid hW0
  go_enter Tryz.func116, Tryz.ntmps116
  go_upto_region 1 with fail
  rw [← hW0.out]
  go_wp2_with fail
  refine HU.out.mono ?_
  rintro e w1 ⟨v1, rfl, ho1, hb1⟩
  have HO1 := Lib.hid ho1; have HB1 := Lib.hid hb1
  clear c0 c1 c2 c3 c4 ho1 hb1
  obtain ⟨c0, c1, c2, c3, c4⟩ := (HBX.out w1 HB1.out).cells
  go_wp2_with fail
  refine (HUN.out w1).mono ?_
  rintro e w2 ⟨v2, rfl, ho2, hb2⟩
  have HI2 := Lib.hid ho2.read; have HO2 := Lib.hid (HO1.out.later hb2); have HB2 := Lib.hid (HB1.out.trans (hb2.mono HB1.out.size))
  clear ho2 hb2 c0 c1 c2 c3 c4
  obtain ⟨pre, hpre⟩ : ∃ p, p = ubytes 10 4 ++ ubytes 10 l.length := ⟨_, rfl⟩
  have HPRE := Lib.hid hpre
  have HPL : Hid (pre.length ≤ 22) := Lib.hid (by rw [hpre, List.length_append]; have := HUL.out; have := HNL.out; omega)
  clear hpre
  go_wp2_with (at_builtin; refine wpList_append_bytes _ rfl _ _ rfl W0.heap.size _ _ (ubytes 10 4) (ubytes 10 l.length) rfl rfl HO2.out HI2.out (by have := HUL.out; have := HNL.out; omega) HB2.out.size ?_; intro v3 w3 hown3 hg3 hb3; rw [← HPRE.out] at hown3; have HO3 := Lib.hid hown3; have HB3 := Lib.hid (HB2.out.trans hb3); clear hown3 hb3 hg3)
  go_loopw [3, 6] (fun out i wr => ∃ (j : Nat), j ≤ l.length ∧ i = .int .i64 j ∧ BOwn wr W0.heap.size out (pre ++ ((l.take j).map Pf.VT.form).flatten) ∧ Below W0.heap.size W0 wr) (fun _ i _ => l.length - (intOf i).toNat)
  case atStart => exact ⟨0, by omega, rfl, by simpa using HO3.out, HB3.out⟩
  case round =>
    obtain ⟨j, hj, rfl, hown, hb⟩ := hrel
    have HO := Lib.hid hown; have HB := Lib.hid hb
    obtain ⟨c0, c1, c2, c3, c4⟩ := (HBX.out wr hb).cells
    clear hown hb
    by_cases hlt : j < l.length
    · obtain ⟨b, off, rfl, hb1, hb2, h3⟩ := (HK.out.later (HB.out.mono hhi)).at_ (by omega)
      obtain ⟨k', n', f', s', L', A', cap', e, g0, g1, g2, g3, g4, hrj⟩ := h3 j hlt
      have hhr : hi ≤ wr.heap.size := Nat.le_trans hhi HB.out.size
      have HF := Lib.hid (IH.out j hlt wr lo hi _ hrj hhr)
      have HFT := Lib.hid (forms_take l j hlt)
      have HLE : Hid ((pre ++ ((l.take j).map Pf.VT.form).flatten).length + (Pf.VT.form l[j]).length ≤ 35184372088832) := Lib.hid (by
        have h1 := forms_le l (j + 1)
        rw [forms_take l j hlt, List.length_append] at h1
        have h2 := HLEN.out
        have h4 := HPL.out
        rw [List.length_append]
        omega)
      clear h3 hrj e
      obtain ⟨acc, hacc⟩ : ∃ a, a = pre ++ ((l.take j).map Pf.VT.form).flatten := ⟨_, rfl⟩
      rw [← hacc] at HO HLE
      have HACC := Lib.hid hacc
      obtain ⟨fj, hfj⟩ : ∃ a, a = Pf.VT.form l[j] := ⟨_, rfl⟩
      rw [← hfj] at HF HLE
      have HFJ := Lib.hid hfj
      clear hacc hfj
      go_wp2_with fail
      refine HF.out.mono ?_
      rintro x w4 ⟨v4, rfl, ho4, hb4⟩
      have HOB := Lib.hid (HO.out.later hb4)
      have HI4 := Lib.hid ho4.read
      have HBB := Lib.hid (HB.out.trans (hb4.mono HB.out.size))
      clear ho4 hb4 c0 c1 c2 c3 c4 g0 g1 g2 g3 g4
      go_wp2_with (at_builtin; refine wpList_append_bytes _ rfl _ _ rfl W0.heap.size _ _ acc fj rfl rfl HOB.out HI4.out HLE.out HBB.out.size ?_; intro v5 w5 hown5 hg5 hb5; have HO5 := Lib.hid hown5; have HB5 := Lib.hid (HBB.out.trans hb5); clear hown5 hb5 hg5)
      exact ⟨⟨j + 1, by omega, by go_num, by rw [HFT.out, ← List.append_assoc, ← HACC.out, ← HFJ.out]; exact HO5.out, HB5.out⟩, by simp [intOf]; omega⟩
    · have hj' : j = l.length := by omega
      subst hj'
      go_wp2_with fail
      go_ret
      have h := HO.out
      rw [List.take_length, HPRE.out, List.append_assoc] at h
      exact ⟨_, rfl, h.base HB0.out.size, HB0.out.trans (HB.out.mono HB0.out.size)⟩

/-- The form of whatever value is valid. -/
theorem rform_any (t : VT) : ∀ (d : Nat) (w : World) (lo hi : Nat) (v : Value), t.valid d = true → (Pf.VT.form t).length ≤ 100000 → t.Slim 900 → Rep w lo hi t v → hi ≤ w.heap.size → Calls Tryz.prog 116 #[v] w (KB w (Pf.VT.form t)) := by
  induction t using VT.ind with
  | _ k n f s l ih =>
    intro d w lo hi v hv hlen hS hR hz
    obtain ⟨A, cap, rfl, ho, hl, hk⟩ := hR.head
    obtain ⟨hs9, hl9, hkS⟩ := Vt.slim_mk.1 hS
    rw [Pf.form_mk] at hlen ⊢
    rw [List.length_append] at hlen
    rcases Pf.valid_cases hv with ⟨rfl, -⟩ | ⟨rfl, -⟩ | ⟨rfl, -⟩ | ⟨rfl, -⟩ | ⟨rfl, -, -, -, hkv⟩
    · exact rform_none n f s A l.length cap w
    · exact rform_int n f s A l.length cap w ho.n0 ho.n1
    · exact rform_float n f s A l.length cap w ho.f1
    · exact rform_text n f s A l.length cap w (by omega)
    · rw [if_neg (by omega), if_neg (by omega), if_neg (by omega), if_pos rfl] at hlen ⊢
      rw [List.length_append] at hlen
      have hfl : ∀ i (h : i < l.length), (Pf.VT.form l[i]).length ≤ 100000 := fun i hi => by
        have h1 := forms_le l (i + 1)
        rw [forms_take l i hi, List.length_append] at h1
        omega
      exact rform_list n f s l A cap hl ho.m1 w lo hi hk hz (by omega) (fun i hi W lo hi' v h1 h2 => ih i hi (d - 1) W lo hi' v (hkv _ (List.getElem_mem hi)) (hfl i hi) (hkS i hi) h1 h2)

set_option maxRecDepth 100000 in
theorem rvbytes_any (t : VT) (hfew : t.few = true) (lo hi : Nat) (v : Value) (w : World) (hv : Rep w lo hi t v) (hz : hi ≤ w.heap.size) (hval : t.valid 8 = true) :
    Calls Tryz.prog 97 #[v] w fun e w' => ∃ v, e = .returned (.tuple #[v, .bool true]) ∧ BOwn w' w.heap.size v (Pf.VT.form t) ∧ Below w.heap.size w w' := by
  obtain ⟨k, n, f, s, l⟩ := t
  obtain ⟨A, cap, rfl, -⟩ := id hv.head
  obtain ⟨W0, hW0⟩ : ∃ W0, W0 = w.alloc (.cells #[.int .i64 k, .int .i64 n, .float .f64 f, .string s, .slice A l.length cap] 30) := ⟨_, rfl⟩
  have hB0 : Below w.heap.size w W0 := by rw [hW0]; exact (Below.refl _ _).alloc (Nat.le_refl _) _
  have hbx : BoxAt W0 w.heap.size k n f s A l.length cap := by rw [hW0]; exact BoxAt.new ..
  have hz0 : w.heap.size < W0.heap.size := by rw [hW0]; simp
  have HBX : Hid (∀ W, Below W0.heap.size W0 W → BoxAt W w.heap.size k n f s A l.length cap) := Lib.hid fun W hW => hbx.later hW hz0
  have HV := Lib.hid (Vt.rvalid_any (.mk k n f s l) W0 lo hi _ (hv.later (hB0.mono hz)) (Nat.le_trans hz hB0.size))
  rw [hval] at HV
  have HF := Lib.hid fun W (hW : Below W0.heap.size W0 W) => rform_any (.mk k n f s l) 8 W lo hi _ hval (by have := Vf.form_len_few hfew; omega) (Vt.slim_of_few _ hfew) ((hv.later (hB0.mono hz)).later (hW.mono (Nat.le_trans hz hB0.size))) (Nat.le_trans hz (Nat.le_trans hB0.size hW.size))
  have HB0 := Lib.hid hB0
  obtain ⟨c0, c1, c2, c3, c4⟩ := hbx.cells
  clear hB0 hbx hv
  replace hW0 := Lib.hid hW0
  go_enter Tryz.func97, Tryz.ntmps97
  go_upto_region 1 with fail
  rw [← hW0.out]
  go_wp2_with fail
  refine HV.out.mono ?_
  rintro e w1 ⟨rfl, hb1⟩
  obtain ⟨d0, d1, d2, d3, d4⟩ := (HBX.out w1 hb1).cells
  have HB1 := Lib.hid hb1
  clear hb1 c0 c1 c2 c3 c4
  go_wp2_with fail
  refine (HF.out _ HB1.out).mono ?_
  rintro e w2 ⟨v, rfl, hown, hb2⟩
  have HO2 := Lib.hid hown
  have HB2 := Lib.hid hb2
  clear hown hb2
  go_wp2_with fail
  have hz1 := Nat.le_trans HB0.out.size HB1.out.size
  exact bodyPost_ret (v := .tuple #[v, .bool true]) (by simp [results, Tryz.results97, go_sem]) rfl ⟨v, rfl, HO2.out.base hz1, HB0.out.trans ((HB1.out.trans (HB2.out.mono HB1.out.size)).mono HB0.out.size)⟩
end Rf
end Go.Proofs.YtcbddebmmaflgaaGreatDoor
namespace Go.Proofs.YtcbddebmmaflgaaGreatDoor
open Go.RowKit
set_option linter.unusedVariables false
set_option linter.unusedSimpArgs false
namespace Rd
open _root_.Go.Proofs.YtcbddebmmaflgaaGreatDoor.Nm (bitsW ofW okW)
open Bt (ubytes sb sb_len)
open Vt (VT weightL weightL_nil weightL_cons weight_mk small_mk)
open Pf (sform zz be8 form_mk fine_mk)

theorem ub_pos (f x : Nat) : 0 < (ubytes f x).length := by
  cases f with
  | zero => simp [ubytes]
  | succ f => simp only [ubytes]; split <;> simp
theorem weightL_le (l : List VT) (ih : ∀ t ∈ l, ∀ m : Int, t.weight m ≤ ((Pf.VT.form t).length : Int)) : ∀ (n m : Int), weightL l n m ≤ n + ((l.map Pf.VT.form).flatten.length : Int) := by
  induction l with
  | nil => intro n m; rw [weightL_nil]; simp
  | cons t l ih2 =>
    intro n m
    rw [weightL_cons]
    have h1 := ih t (by simp) (m - n)
    have h2 := ih2 (fun x hx => ih x (List.mem_cons_of_mem _ hx)) (n + t.weight (m - n)) m
    simp only [List.map_cons, List.flatten_cons, List.length_append]
    split <;> omega
theorem weight_le (t : VT) : ∀ (d : Nat) (m : Int), t.valid d = true → t.weight m ≤ ((Pf.VT.form t).length : Int) := by
  induction t using VT.ind with
  | _ k n f s l ih =>
    intro d m hv
    rw [weight_mk]
    rw [form_mk]
    have u0 := ub_pos 10 0; have u1 := ub_pos 10 1; have u2 := ub_pos 10 2; have u3 := ub_pos 10 3; have u4 := ub_pos 10 4
    rcases Pf.valid_cases hv with ⟨rfl, -, -, h4, rfl⟩ | ⟨rfl, -, h4, rfl⟩ | ⟨rfl, -, h4, rfl⟩ | ⟨rfl, -, -, rfl⟩ | ⟨rfl, -, -, h4, hkv⟩
    · rw [weightL_nil, h4]; show (1 + min ((0 : Nat) : Int) 1000) ≤ ((ubytes 10 0 ++ []).length : Int); rw [List.length_append]; push_cast; omega
    · rw [weightL_nil, h4, List.length_append]; push_cast; omega
    · rw [weightL_nil, h4, List.length_append]; push_cast; omega
    · rw [weightL_nil, if_neg (by decide), if_neg (by decide), if_pos rfl]
      unfold sform
      rw [List.length_append, List.length_append, sb_len]; push_cast; omega
    · have := weightL_le l (fun t ht m => by
        obtain ⟨i, hi, rfl⟩ := List.getElem_of_mem ht
        exact ih i hi (d - 1) m (hkv _ ht)) (1 + min (s.size : Int) 1000) m
      rw [if_neg (by decide), if_neg (by decide), if_neg (by decide), if_pos rfl, List.length_append, List.length_append]
      rw [h4] at this ⊢
      push_cast at this ⊢
      omega
/-! A form is read. -/
theorem rUint_of {x : Nat} (hx : x < 18446744073709551616) (r : List Nat) : rUint (ubytes 10 x ++ r, false) = ((r, false), x) := by
  have : nxt (ubytes 10 x ++ r, false) = some (x, (ubytes 10 x).length) := by
    unfold nxt
    rw [if_neg (by simp)]
    exact num_form hx r
  unfold rUint
  rw [this]
  simp
theorem rTake_of (l r : List Nat) : rTake (l ++ r, false) l.length = ((r, false), l) := by
  unfold rTake
  rw [if_pos ⟨rfl, by simp⟩]
  simp
theorem rBytes_of {s : ByteArray} (hs : s.size < 18446744073709551616) (r : List Nat) : rBytes (sform s ++ r, false) = ((r, false), sb s) := by
  have : nxt (sform s ++ r, false) = some (s.size, (ubytes 10 s.size).length) := by
    unfold nxt sform
    rw [if_neg (by simp), List.append_assoc]
    exact num_form hs _
  have hl := sb_len s
  unfold rBytes
  rw [this]
  simp only
  rw [if_pos (by unfold sform; simp; omega)]
  unfold sform
  rw [← List.drop_drop, List.append_assoc, List.drop_left, ← hl, List.drop_left, List.take_left]
theorem sb_byt (s : ByteArray) : Byt (sb s) := fun b hb => by
  simp only [sb, List.mem_map] at hb
  obtain ⟨x, -, rfl⟩ := hb
  exact x.toNat_lt
theorem strOf_sb (s : ByteArray) : strOf (sb s) = s := by
  apply Pf.sb_inj
  exact sb_strOf (sb_byt s)

theorem rep_of {α : Type} {p : St → Option (St × α)} {F : α → List Nat} {R : α → α → Prop} (ts : List α) (r : List Nat) (hp : ∀ t ∈ ts, ∀ r, ∃ t', p (F t ++ r, false) = some ((r, false), t') ∧ R t t') :
    ∃ ts', rep p ts.length ((ts.map F).flatten ++ r, false) = some ((r, false), ts') ∧ ts.length = ts'.length ∧ ∀ (i : Nat) (hi : i < ts.length) (hi' : i < ts'.length), R ts[i] ts'[i] := by
  induction ts with
  | nil => exact ⟨[], by simp [rep], rfl, fun i hi => absurd hi (by simp)⟩
  | cons t ts ih =>
    obtain ⟨t', h1, h2⟩ := hp t (by simp) ((ts.map F).flatten ++ r)
    obtain ⟨ts', h3, h4, h5⟩ := ih fun x hx => hp x (List.mem_cons_of_mem _ hx)
    refine ⟨t' :: ts', ?_, by simp [h4], fun i hi hi' => ?_⟩
    · rw [List.map_cons, List.flatten_cons, List.append_assoc, List.length_cons, rep_some h1, h3]; rfl
    · cases i with
      | zero => exact h2
      | succ i => exact h5 i (by simpa using hi) (by simpa using hi')
theorem pv_q {s : St} (d : Nat) (hb : (rUint s).1.2 = false) : ((rUint s).2 = 0 → pv d s = some ((rUint s).1, .mk 0 0 0 ⟨#[]⟩ [])) ∧
    ((rUint s).2 = 1 → pv d s = if (rUint (rUint s).1).1.2 = true then none else some ((rUint (rUint s).1).1, .mk 1 (unzz (rUint (rUint s).1).2) 0 ⟨#[]⟩ [])) ∧
    ((rUint s).2 = 2 → pv d s = if (rTake (rUint s).1 8).1.2 = true ∨ okW (beN (rTake (rUint s).1 8).2) = false then none else some ((rTake (rUint s).1 8).1, .mk 2 0 (ofW (beN (rTake (rUint s).1 8).2)) ⟨#[]⟩ [])) ∧
    ((rUint s).2 = 3 → pv d s = if (rBytes (rUint s).1).1.2 = true then none else some ((rBytes (rUint s).1).1, .mk 3 0 0 (strOf (rBytes (rUint s).1).2) [])) ∧
    ((rUint s).2 = 4 → pv d s = match d with
        | 0 => none
        | left + 1 => match rep (pv left) (rUint (rUint s).1).2 (rUint (rUint s).1).1 with
          | none => none
          | some (s3, ts) => if s3.2 = true then none else some (s3, .mk 4 0 0 ⟨#[]⟩ ts)) := by
  refine ⟨fun h => ?_, fun h => ?_, fun h => ?_, fun h => ?_, fun h => ?_⟩ <;> rw [pv_eq, if_neg (by rw [hb, h]; simp)]
  · rw [if_pos h]
  · rw [if_neg (by omega), if_pos h]
  · rw [if_neg (by omega), if_neg (by omega), if_pos h]
  · rw [if_neg (by omega), if_neg (by omega), if_neg (by omega), if_pos h]
  · rw [if_neg (by omega), if_neg (by omega), if_neg (by omega), if_neg (by omega)]
    cases d <;> rfl
theorem pv_of (t : VT) : ∀ (d : Nat) (r : List Nat), t.valid d = true → Pf.VT.fine t → ∃ t', pv d (Pf.VT.form t ++ r, false) = some ((r, false), t') ∧ t.same t' = true := by
  induction t using VT.ind with
  | _ k n f s l ih =>
    intro d r hv hg
    obtain ⟨⟨n0, n1, f1, s1, m1⟩, hkg⟩ := fine_mk.1 hg
    rcases Pf.valid_cases hv with ⟨rfl, rfl, h3, h4, rfl⟩ | ⟨rfl, h3, h4, rfl⟩ | ⟨rfl, rfl, h4, rfl⟩ | ⟨rfl, rfl, h3, rfl⟩ | ⟨rfl, rfl, h3, h4, hkv⟩
    · obtain rfl := Pf.size_zero h4
      have e : Pf.VT.form (.mk 0 0 f ⟨#[]⟩ []) = ubytes 10 0 ++ [] := by rw [form_mk]; rfl
      have hq := rUint_of (x := 0) (by decide) ([] ++ r)
      rw [e, List.append_assoc, (pv_q d (by rw [hq])).1 (by rw [hq]), hq]
      exact ⟨_, rfl, Pf.same_mk_of (by rw [h3, bits0]) rfl fun i hi => absurd hi (by simp)⟩
    · obtain rfl := Pf.size_zero h4
      have e : Pf.VT.form (.mk 1 n f ⟨#[]⟩ []) = ubytes 10 1 ++ ubytes 10 (zz n) := by rw [form_mk]; rfl
      have hq := rUint_of (x := 1) (by decide) (ubytes 10 (zz n) ++ r)
      have hq2 := rUint_of (Pf.zz_lt n0 n1) r
      rw [e, List.append_assoc, (pv_q d (by rw [hq])).2.1 (by rw [hq]), hq]
      simp only [hq2]
      rw [if_neg (by simp), unzz_zz n n0 n1]
      exact ⟨_, rfl, Pf.same_mk_of (by rw [h3, bits0]) rfl fun i hi => absurd hi (by simp)⟩
    · obtain rfl := Pf.size_zero h4
      have e : Pf.VT.form (.mk 2 0 f ⟨#[]⟩ []) = ubytes 10 2 ++ be8 (bitsW f) := by rw [form_mk]; rfl
      have hq := rUint_of (x := 2) (by decide) (be8 (bitsW f) ++ r)
      have hT : rTake (be8 (bitsW f) ++ r, false) 8 = ((r, false), be8 (bitsW f)) := rTake_of (be8 (bitsW f)) r
      rw [e, List.append_assoc, (pv_q d (by rw [hq])).2.2.1 (by rw [hq]), hq]
      simp only [hT, beN_be8 _ (Pf.bits_lt f1), ok_bits]
      rw [if_neg (by simp)]
      exact ⟨_, rfl, Pf.same_mk_of (by rw [of_bits]) rfl fun i hi => absurd hi (by simp)⟩
    · have e : Pf.VT.form (.mk 3 0 f s []) = ubytes 10 3 ++ sform s := by rw [form_mk]; rfl
      have hq := rUint_of (x := 3) (by decide) (sform s ++ r)
      rw [e, List.append_assoc, (pv_q d (by rw [hq])).2.2.2.1 (by rw [hq]), hq]
      simp only [rBytes_of s1, strOf_sb]
      rw [if_neg (by simp)]
      exact ⟨_, rfl, Pf.same_mk_of (by rw [h3, bits0]) rfl fun i hi => absurd hi (by simp)⟩
    · obtain rfl := Pf.size_zero h4
      have e : Pf.VT.form (.mk 4 0 f ⟨#[]⟩ l) = ubytes 10 4 ++ (ubytes 10 l.length ++ (l.map Pf.VT.form).flatten) := by rw [form_mk]; rfl
      have hq := rUint_of (x := 4) (by decide) (ubytes 10 l.length ++ ((l.map Pf.VT.form).flatten ++ r))
      have hq2 := rUint_of m1 ((l.map Pf.VT.form).flatten ++ r)
      rw [e, List.append_assoc, List.append_assoc, (pv_q d (by rw [hq])).2.2.2.2 (by rw [hq]), hq]
      simp only [hq2]
      cases d with
      | zero => rw [Vt.valid_mk] at hv; simp at hv
      | succ d =>
        obtain ⟨ts', e1, e2, e3⟩ := rep_of (p := pv d) (F := Pf.VT.form) (R := fun a b => a.same b = true) l r (fun t ht r => by
          obtain ⟨i, hi, rfl⟩ := List.getElem_of_mem ht
          exact ih i hi d r (hkv _ ht) (hkg _ ht))
        simp only [e1]
        rw [if_neg (by simp)]
        exact ⟨_, rfl, Pf.same_mk_of (by rw [h3, bits0]) e2 e3⟩
end Rd
end Go.Proofs.YtcbddebmmaflgaaGreatDoor
namespace Go.Proofs.YtcbddebmmaflgaaGreatDoor
open Go.RowKit
set_option linter.unusedVariables false
set_option linter.unusedSimpArgs false
namespace Rd
open Vt (VT Rep BoxAt below_drew put5 KidsAt HeadOk)
open Cn (VsAt VNew)
open Cm (OnlyAt rowOf)

theorem box_only {w w' : World} {g b : Nat} {k n : Int} {f : Nat} {s : ByteArray} {A : Option Addr} {m c : Nat} (h : BoxAt w b k n f s A m c) (ho : OnlyAt w w' g none) (hg : b ≠ g) : BoxAt w' b k n f s A m c :=
  (ho.block b h.lt hg (by simp)).trans h
theorem only_set {w W : World} {g b o : Nat} (h : OnlyAt w W g none) (hb : w.heap.size ≤ b) (v : Value) : OnlyAt w (W.setCell ⟨b, o, none⟩ v) g none :=
  ⟨h.os, h.tape, h.output, by simpa [World.setCell] using h.size, fun x hx h1 h2 => (Below.heap_setCell W ⟨b, o, none⟩ v x (by simp only []; omega)).trans (h.block x hx h1 h2)⟩
theorem only_alloc {w W : World} {g : Nat} (h : OnlyAt w W g none) (o : Obj) : OnlyAt w (W.alloc o) g none :=
  ⟨h.os, h.tape, h.output, by rw [World.size_alloc]; have := h.size; omega, fun x hx h1 h2 => (heap_alloc_old W o (Nat.lt_of_lt_of_le hx h.size)).trans (h.block x hx h1 h2)⟩
theorem only_put5 {w W : World} {g b o : Nat} (h : OnlyAt w W g none) (hb : w.heap.size ≤ b) (d0 d1 d2 d3 d4 : Value) : OnlyAt w (put5 W b o d0 d1 d2 d3 d4) g none := by
  unfold put5
  exact only_set (only_set (only_set (only_set (only_set h hb _) hb _) hb _) hb _) hb _
theorem rs_set {W : World} {g b o : Nat} {s : St} (h : RS W g s) (hb : g < b) (v : Value) : RS (W.setCell ⟨b, o, none⟩ v) g s :=
  h.frame (by simp [World.setCell]) fun x hx => Below.heap_setCell W ⟨b, o, none⟩ v x (by simp only []; omega)
theorem rs_put5 {W : World} {g b o : Nat} {s : St} (h : RS W g s) (hb : g < b) (d0 d1 d2 d3 d4 : Value) : RS (put5 W b o d0 d1 d2 d3 d4) g s := by
  unfold put5
  exact rs_set (rs_set (rs_set (rs_set (rs_set h hb _) hb _) hb _) hb _) hb _
theorem rs_alloc {W : World} {g : Nat} {s : St} (h : RS W g s) (o : Obj) : RS (W.alloc o) g s := h.later ((Below.refl _ _).alloc (Nat.le_refl _) _)
theorem vs_only {W W' : World} {base g : Nat} {A : Option Addr} {cap n : Nat} {ts : List VT} (h : VsAt W base A cap n ts) (ho : OnlyAt W W' g none) (hg : g < base) : VsAt W' base A cap n ts := by
  obtain ⟨h0, xs, h1, h3⟩ := h
  refine ⟨h0, xs, ⟨h1.1, ?_⟩, fun i hi => ?_⟩
  · rcases h1.2 with h | ⟨r, cp, cur, q1, q2, q3, q4⟩
    · exact .inl h
    · exact .inr ⟨r, cp, cur, q1, q2, (ho.block r (Array.getElem?_eq_some_iff.1 q3).1 (by omega) (by simp)).trans q3, q4⟩
  · obtain ⟨lo, hi', k, n, f, s, A, m, c, k0, k1, k2, k3, k4⟩ := h3 i hi
    refine ⟨lo, hi', k, n, f, s, A, m, c, k0, Nat.le_trans k1 ho.size, k2.keep fun b o hb1 hb2 => ?_, k3, k4⟩
    exact World.cell?_of_block (a := ⟨b, o, none⟩) (ho.block b (by omega) (by omega) (by simp))

/-- The zero value, and a value's five cells. -/
def zeroC : Value := .agg #[.int .i64 0, .int .i64 0, .float .f64 0, .string ⟨#[]⟩, .slice none 0 0]
def fiveC (k n : Int) (f : Nat) (s : ByteArray) (A : Option Addr) (m c : Nat) : Value := .agg #[.int .i64 k, .int .i64 n, .float .f64 f, .string s, .slice A m c]
/-- What reading a value leaves. -/
def VRead (left : Nat) (s : St) (w : World) (g : Nat) (r : Ending) (w' : World) : Prop := match pv left s with
  | some (s', t) => ∃ k n f str A m c, r = .returned (.tuple #[fiveC k n f str A m c, .bool true]) ∧ Rep w' w.heap.size w'.heap.size t (fiveC k n f str A m c) ∧ RS w' g s' ∧ OnlyAt w w' g none
  | none => r = .returned (.tuple #[zeroC, .bool false]) ∧ (∃ s', RS w' g s') ∧ OnlyAt w w' g none
theorem vread_no {left : Nat} {s s' : St} {w w' : World} {g : Nat} (h : pv left s = none) (hr : RS w' g s') (ho : OnlyAt w w' g none) : VRead left s w g (.returned (.tuple #[.agg #[.int .i64 0, .int .i64 0, .float .f64 0, .string ⟨#[]⟩, .slice none 0 0], .bool false])) w' := by
  unfold VRead; rw [h]; exact ⟨rfl, ⟨s', hr⟩, ho⟩
theorem vread_yes {left : Nat} {s s' : St} {w w' : World} {g : Nat} {t : VT} {k n : Int} {f : Nat} {str : ByteArray} {A : Option Addr} {m c : Nat} (h : pv left s = some (s', t)) (hrep : Rep w' w.heap.size w'.heap.size t (.agg #[.int .i64 k, .int .i64 n, .float .f64 f, .string str, .slice A m c])) (hr : RS w' g s') (ho : OnlyAt w w' g none) :
    VRead left s w g (.returned (.tuple #[.agg #[.int .i64 k, .int .i64 n, .float .f64 f, .string str, .slice A m c], .bool true])) w' := by
  unfold VRead; rw [h]; exact ⟨k, n, f, str, A, m, c, rfl, hrep, hr, ho⟩
theorem rep_leaf {w : World} {lo hi : Nat} {k n : Int} {f : Nat} {s : ByteArray} (h : HeadOk k n f s 0) : Rep w lo hi (.mk k n f s []) (.agg #[.int .i64 k, .int .i64 n, .float .f64 f, .string s, .slice none 0 0]) :=
  Rep.close (A := none) (cap := 0) h (Nat.le_refl _) ⟨fun hp => absurd hp (by simp)⟩
end Rd
end Go.Proofs.YtcbddebmmaflgaaGreatDoor
