/- The walk of CommandNil. -/
import Derived.Test.YtpnepnhajpmccaaCmG
namespace Go.Proofs.Ytpnepnhajpmccaa
open Go.RowKit
set_option linter.unusedVariables false
namespace Cm
open Nm (ret_int ret_bool)
open Vt (VT Rep BoxAt below_drew Cloned put5)
open Ev (EV FieldsOk evCells vCells EBox ERep zeroT)

def right (name : ByteArray) (t : VT) : Bool := (!name.toList.isEmpty && decide (name.size ≤ 1000)) && t.valid 8

theorem sched0 (name : ByteArray) (t : VT) : ∃ s1 : BS, (BS.number ⟨[], 0, 1, 0⟩ (schedE name t)) = (s1, if right name t = true then 1 else 0) ∧ s1.closed = 0 ∧ s1.es.length ≤ 1 := by
  unfold BS.number
  rw [sched_valid _ _ _ (by show 0 < 1; omega)]
  by_cases h : right name t = true
  · exact ⟨_, by rw [if_pos ⟨h, rfl⟩, if_pos h], rfl, by simp⟩
  · refine ⟨⟨[], 0, 1, 0⟩, ?_, rfl, by simp⟩
    rw [if_neg h, if_neg (fun hh => h hh.1)]
theorem fin0 (s1 : BS) (t : VT) (h : s1.closed = 0) : (s1.fin (complE t)).2 = t.valid 8 := by
  unfold BS.fin
  rw [compl_valid]
  cases hv : t.valid 8 with
  | false => rw [if_neg (by simp)]
  | true => rw [if_pos ⟨rfl, h⟩]

set_option maxRecDepth 100000 in
set_option maxHeartbeats 2000000 in
theorem nil_walk (name : ByteArray) (hs : name.size ≤ maxLen) (t : VT) (lo hi : Nat) (vk vn : Int) (vf : Nat) (vs : ByteArray) (A : Option Addr) (m c : Nat) (w : World) (hv : Rep w lo hi t (vCells vk vn vf vs A m c)) (hz : hi ≤ w.heap.size) :
    Calls Try.prog 4 #[.string name, vCells vk vn vf vs A m c] w fun r w' => r = .returned (.bool true) ∧ Below w.heap.size w w' := by
  obtain ⟨w1, hw1⟩ : ∃ w1, w1 = w.alloc (.cells #[.int .i64 vk, .int .i64 vn, .float .f64 vf, .string vs, .slice A m c] 34) := ⟨_, rfl⟩
  have hw1z : w1.heap.size = w.heap.size + 1 := by rw [hw1, World.size_alloc]
  have HB0 : Hid (Below w.heap.size w w1) := Lib.hid (by rw [hw1]; exact (Below.refl _ _).alloc (Nat.le_refl _) _)
  have HBX : Hid (∀ W, Below w1.heap.size w1 W → BoxAt W w.heap.size vk vn vf vs A m c) := Lib.hid fun W hW => by
    have h0 : BoxAt w1 w.heap.size vk vn vf vs A m c := by rw [hw1]; exact BoxAt.new w vk vn vf vs A m c
    exact h0.later hW (by omega)
  have HV : Hid (∀ W, Below w1.heap.size w1 W → Rep W lo hi t (vCells vk vn vf vs A m c)) := Lib.hid fun W hW => (hv.later (HB0.out.mono hz)).later (hW.mono (by omega))
  have HZ : Hid (∀ W, Below w1.heap.size w1 W → hi ≤ W.heap.size) := Lib.hid fun W hW => by have := hW.size; omega
  have HAl : Hid (∀ W, Below w1.heap.size w1 W → Calls Try.prog 9 #[] W fun r w' => r = .returned (.bool true) ∧ Below w1.heap.size w1 w' ∧ Below W.heap.size W w') := Lib.hid fun W hW => (alive_any W).mono fun r w' h => ⟨h.1, hW.trans (h.2.mono hW.size), h.2⟩
  have HFe : Hid (∀ W, Below w1.heap.size w1 W → Calls Try.prog 18 #[.agg #[.int .i64 vk, .int .i64 vn, .float .f64 vf, .string vs, .slice A m c]] W fun r w' => r = .returned (.bool t.few) ∧ Below w1.heap.size w1 w') := Lib.hid fun W hW => (Vt.few_any t W lo hi _ (HV.out W hW) (HZ.out W hW)).mono fun r w' h => ⟨h.1, hW.trans (h.2.mono hW.size)⟩
  have HVa : Hid (∀ W, Below w1.heap.size w1 W → Calls Try.prog 24 #[.agg #[.int .i64 vk, .int .i64 vn, .float .f64 vf, .string vs, .slice A m c]] W fun r w' => r = .returned (.bool (t.valid 8)) ∧ Below w1.heap.size w1 w' ∧ Below W.heap.size W w') := Lib.hid fun W hW => (Vt.rvalid_any t W lo hi _ (HV.out W hW) (HZ.out W hW)).mono fun r w' h => ⟨h.1, hW.trans (h.2.mono hW.size), h.2⟩
  have hs9 : name.size ≤ 9223372036854775807 := by simp only [maxLen] at hs; omega
  obtain ⟨c0, c1, c2, c3, c4⟩ := (HBX.out w1 (Below.refl _ _)).cells
  have HR1 := Lib.hid (Below.refl w1.heap.size w1)
  clear hv hz
  replace hw1 := Lib.hid hw1
  unfold vCells
  go_enter Try.func4, Try.ntmps4
  by_cases h11 : 1100 < name.size
  · go_wp2_with fail
    rw [← hw1.out]
    refine (HAl.out _ HR1.out).mono ?_
    rintro x wa ⟨rfl, ha, -⟩
    go_wp2_with fail
    go_ret
    exact ⟨rfl, HB0.out.trans (ha.mono (by omega))⟩
  · cases hfew : t.few with
    | false =>
      rw [hfew] at HFe
      go_wp2_with fail
      rw [← hw1.out]
      refine (HFe.out _ HR1.out).mono ?_
      rintro x w2 ⟨rfl, h2⟩
      have H2 := Lib.hid h2; clear h2
      go_wp2_with fail
      refine (HAl.out _ H2.out).mono ?_
      rintro x wa ⟨rfl, ha, -⟩
      go_wp2_with fail
      go_ret
      exact ⟨rfl, HB0.out.trans (ha.mono (by omega))⟩
    | true =>
      rw [hfew] at HFe
      have hsl := Vt.slim_of_few t hfew
      go_wp2_with fail
      rw [← hw1.out]
      refine (HFe.out _ HR1.out).mono ?_
      rintro x w2 ⟨rfl, h2⟩
      have H2 := Lib.hid h2; clear h2
      clear c0 c1 c2 c3 c4
      obtain ⟨d20, d21, d22, d23, d24⟩ := (HBX.out w2 H2.out).cells
      go_wp2_with fail
      refine (schedule_nil name vk vn vf vs A m c _).mono ?_
      rintro x w3 ⟨rfl, h3'⟩
      have h3 := H2.out.trans (h3'.mono H2.out.size); clear h3'
      have H3 := Lib.hid h3; clear h3
      clear d20 d21 d22 d23 d24
      obtain ⟨d30, d31, d32, d33, d34⟩ := (HBX.out w3 H3.out).cells
      go_wp2_with fail
      refine (arm_nil 1 _).mono ?_
      rintro x w4 ⟨rfl, rfl⟩
      go_wp2_with fail
      refine (complete_nil t lo hi vk vn vf vs A m c _ (HV.out _ H3.out) (HZ.out _ H3.out) hsl).mono ?_
      rintro x w5 ⟨rfl, h5'⟩
      have h5 := H3.out.trans (h5'.mono H3.out.size); clear h5'
      have H5 := Lib.hid h5; clear h5
      clear d30 d31 d32 d33 d34
      obtain ⟨d50, d51, d52, d53, d54⟩ := (HBX.out w5 H5.out).cells
      go_wp2_with fail
      refine (fail_nil ⟨#[]⟩ (Nat.zero_le _) _).mono ?_
      rintro x w6 ⟨rfl, h6'⟩
      have h6 := H5.out.trans (h6'.mono H5.out.size); clear h6'
      have H6 := Lib.hid h6; clear h6
      clear d50 d51 d52 d53 d54
      obtain ⟨d60, d61, d62, d63, d64⟩ := (HBX.out w6 H6.out).cells
      go_wp2_with fail
      refine (panic_nil ⟨#[]⟩ (Nat.zero_le _) _).mono ?_
      rintro x w7 ⟨rfl, h7'⟩
      have h7 := H6.out.trans (h7'.mono H6.out.size); clear h7'
      have H7 := Lib.hid h7; clear h7
      clear d60 d61 d62 d63 d64
      obtain ⟨d70, d71, d72, d73, d74⟩ := (HBX.out w7 H7.out).cells
      go_wp2_with fail
      refine (closed_nil _).mono ?_
      rintro x w8 ⟨rfl, rfl⟩
      go_wp2_with fail
      refine (next_nil _).mono ?_
      rintro x w8 ⟨rfl, rfl⟩
      go_wp2_with fail
      refine (events_nil _).mono ?_
      rintro x w8 ⟨rfl, rfl⟩
      go_wp2_with fail
      refine (new_any 1 0 (by omega) (by omega) _).mono ?_
      rintro x w9 ⟨rfl, hb9, hbl9⟩
      have h9 := H7.out.trans (hbl9.mono H7.out.size)
      have hg9 := H7.out.size
      have hg9' := hbl9.size
      have HN := Lib.hid hb9
      clear hb9 hbl9
      have H9 := Lib.hid h9; clear h9
      clear d70 d71 d72 d73 d74
      obtain ⟨d90, d91, d92, d93, d94⟩ := (HBX.out w9 H9.out).cells
      generalize w8.heap.size = b0 at *
      go_upto_region 7 with fail
      go_cut [7] from 57 to 67 (fun z wx => z = .bool (right name t) ∧ Below w9.heap.size w9 wx)
      case first =>
        cases hE : name.toList.isEmpty
        · by_cases h10 : name.size ≤ 1000
          · go_wp2_with fail
            refine (HVa.out _ H9.out).mono ?_
            rintro x wv ⟨rfl, -, hv2⟩
            go_wp2_with fail
            go_meet
            case rel => exact ⟨by simp [right, hE, h10], hv2⟩
          · go_wp2_with fail
            go_meet
            case rel => exact ⟨by simp [right, hE, h10], Below.refl _ _⟩
        · go_wp2_with fail
          go_meet
          case rel => exact ⟨by simp [right, hE], Below.refl _ _⟩
      case rest =>
        obtain ⟨rfl, hbc⟩ := hcut
        obtain ⟨s1, hs1, hc1, hl1⟩ := sched0 name t
        have hcz := hbc.size
        have hc9 := H9.out.trans (hbc.mono H9.out.size)
        have HSc : Hid (∀ W, Below wc.heap.size wc W → Calls Try.prog 19 #[.pointer (some ⟨b0, 0, none⟩), .string name, .agg #[.int .i64 vk, .int .i64 vn, .float .f64 vf, .string vs, .slice A m c]] W fun r w' => r = .returned (.int .u64 ((if right name t = true then 1 else 0 : Nat) : Nat)) ∧ Below w1.heap.size w1 w' ∧ ∃ A', BH w' b0 b0 A' s1) := Lib.hid fun W hW => by
          have hz1 := hW.size
          have hW1 := hc9.trans (hW.mono hc9.size)
          have hbh : BH W b0 b0 none ⟨[], 0, 1, 0⟩ := (BH.later (w := w9) ⟨0, HN.out⟩ (hbc.trans (hW.mono hcz)))
          have := schedule_any b0 b0 none ⟨[], 0, 1, 0⟩ name t lo hi vk vn vf vs A m c W hbh (by simp) (by omega) hs (by simp) (HV.out W hW1) (HZ.out W hW1) hsl
          rw [hs1] at this
          refine this.mono fun r w' h => ⟨h.1, ?_⟩
          obtain ⟨A', g1, g2, -⟩ := h.2
          exact ⟨hW1.trans (g2.below hg9 (by intro r hr; cases hr) hW1.size), A', g1⟩
        have HCo : Hid (∀ W A', Below w1.heap.size w1 W → BH W b0 b0 A' s1 → Calls Try.prog 21 #[.pointer (some ⟨b0, 0, none⟩), .agg #[.int .i64 vk, .int .i64 vn, .float .f64 vf, .string vs, .slice A m c]] W fun r w' => r = .returned (.bool (t.valid 8)) ∧ Below w1.heap.size w1 w') := Lib.hid fun W A' hW1 hbh => by
          have hbb : b0 ≤ W.heap.size := by obtain ⟨cap, hb⟩ := hbh; exact Nat.le_of_lt hb.lt
          have := complete_any b0 b0 A' s1 t lo hi vk vn vf vs A m c W hbh (by omega) hbb (HV.out W hW1) (HZ.out W hW1) hsl
          rw [fin0 s1 t hc1] at this
          refine this.mono fun r w' h => ⟨h.1, ?_⟩
          obtain ⟨A2, g1, g2, -⟩ := h.2
          obtain ⟨cap, hb⟩ := hbh
          exact hW1.trans (g2.below hg9 (fun r hr => Nat.le_trans hg9 (hb.row_lt hr).2) hW1.size)
        have HAl8 := Lib.hid (HAl.out wc.drew (below_drew hc9))
        have HW8 := Lib.hid (below_drew (Below.refl wc.heap.size wc))
        clear d90 d91 d92 d93 d94 HFe HAl hbc hs1
        generalize t.valid 8 = vb at *
        cases hR : right name t
        · rw [hR] at HSc
          rw [if_neg (by simp)] at HSc
          go_wp2_with fail
          go_region_with (first
            | (go_at_call 9; refine HAl8.out.mono ?_; rintro x wa ⟨rfl, ha1, ha⟩; obtain ⟨e0, e1, e2, e3, e4⟩ := (HBX.out wa ha1).cells)
            | (go_at_call 19; refine (HSc.out _ (HW8.out.trans (ha.mono HW8.out.size))).mono ?_; rintro x ws ⟨rfl, hs1, A', hsb⟩; clear e0 e1 e2 e3 e4; obtain ⟨e0, e1, e2, e3, e4⟩ := (HBX.out ws hs1).cells; have HSB := Lib.hid hsb; clear hsb)
            | (go_at_call 21; (first | (with_reducible refine (HCo.out _ _ hs1 HSB.out).mono ?_) | (with_reducible refine (HCo.out _ _ hv1 (HSB.out.later hv2)).mono ?_)); rintro x wd ⟨rfl, hd1⟩; clear e0 e1 e2 e3 e4; obtain ⟨e0, e1, e2, e3, e4⟩ := (HBX.out wd hd1).cells)
            | (go_at_call 24; (first | (with_reducible refine (HVa.out _ hs1).mono ?_) | (with_reducible refine (HVa.out _ hd1).mono ?_)); rintro x wv ⟨rfl, hv1, hv2⟩; clear e0 e1 e2 e3 e4; obtain ⟨e0, e1, e2, e3, e4⟩ := (HBX.out wv hv1).cells))
          all_goals go_wp2_with fail
          all_goals go_ret
          all_goals
            refine ⟨?_, ?_⟩
            · first
                | rfl
                | (cases vb <;> rfl)
            · first
                | exact HB0.out.trans (hd1.mono (by omega))
                | exact HB0.out.trans (hv1.mono (by omega))
        · rw [hR] at HSc
          rw [if_pos rfl] at HSc
          go_wp2_with fail
          go_region_with (first
            | (go_at_call 9; refine HAl8.out.mono ?_; rintro x wa ⟨rfl, ha1, ha⟩; obtain ⟨e0, e1, e2, e3, e4⟩ := (HBX.out wa ha1).cells)
            | (go_at_call 19; refine (HSc.out _ (HW8.out.trans (ha.mono HW8.out.size))).mono ?_; rintro x ws ⟨rfl, hs1, A', hsb⟩; clear e0 e1 e2 e3 e4; obtain ⟨e0, e1, e2, e3, e4⟩ := (HBX.out ws hs1).cells; have HSB := Lib.hid hsb; clear hsb)
            | (go_at_call 21; (first | (with_reducible refine (HCo.out _ _ hs1 HSB.out).mono ?_) | (with_reducible refine (HCo.out _ _ hv1 (HSB.out.later hv2)).mono ?_)); rintro x wd ⟨rfl, hd1⟩; clear e0 e1 e2 e3 e4; obtain ⟨e0, e1, e2, e3, e4⟩ := (HBX.out wd hd1).cells)
            | (go_at_call 24; (first | (with_reducible refine (HVa.out _ hs1).mono ?_) | (with_reducible refine (HVa.out _ hd1).mono ?_)); rintro x wv ⟨rfl, hv1, hv2⟩; clear e0 e1 e2 e3 e4; obtain ⟨e0, e1, e2, e3, e4⟩ := (HBX.out wv hv1).cells))
          all_goals go_wp2_with fail
          all_goals go_ret
          all_goals
            refine ⟨?_, ?_⟩
            · first
                | rfl
                | (cases vb <;> rfl)
            · first
                | exact HB0.out.trans (hd1.mono (by omega))
                | exact HB0.out.trans (hv1.mono (by omega))
end Cm
end Go.Proofs.Ytpnepnhajpmccaa
