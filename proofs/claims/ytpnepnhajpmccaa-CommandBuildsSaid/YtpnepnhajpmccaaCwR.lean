/- Lists of calls; few. -/
import Derived.Test.YtpnepnhajpmccaaCwQ
namespace Go.Proofs.Ytpnepnhajpmccaa
open Go.RowKit
set_option linter.unusedVariables false
namespace Cm
open Nm (bitsW ret_int ret_bool)
open Vt (VT Rep BoxAt below_drew Cloned put5 toList_inj rowCells)
open Ev (EV FieldsOk evCells vCells EBox ERep zeroT)

/-- A list of calls that can be read. -/
structure OpsIn (w : World) (lo hi : Nat) (A : Option Addr) (cap : Nat) (ops : List OpT) : Prop where
  le : ops.length ≤ cap
  cap_le : cap ≤ maxLen
  hi_le : hi ≤ w.heap.size
  at_ : 0 < ops.length → ∃ b off, A = some ⟨b, off, none⟩ ∧ b < hi ∧ ∀ i (h : i < ops.length), ∃ vk vn vf vs A' m c, ops[i].text.size ≤ maxLen ∧ ops[i].n < 18446744073709551616 ∧ Rep w lo hi ops[i].v (vCells vk vn vf vs A' m c) ∧
    ∀ q, q < 8 → w.cell? ⟨b, off + i * 8 + q, none⟩ = (opCells ops[i] vk vn vf vs A' m c)[q]?

theorem OpsIn.later {w w' : World} {lo hi : Nat} {A : Option Addr} {cap : Nat} {ops : List OpT} (h : OpsIn w lo hi A cap ops) (hb : Below hi w w') : OpsIn w' lo hi A cap ops := ⟨h.le, h.cap_le, Nat.le_trans h.hi_le hb.size, fun hp => by
  obtain ⟨b, off, hA, hlt, h3⟩ := h.at_ hp
  refine ⟨b, off, hA, hlt, fun i hi => ?_⟩
  obtain ⟨vk, vn, vf, vs, A', m, c, h4, h5, h6, h7⟩ := h3 i hi
  exact ⟨vk, vn, vf, vs, A', m, c, h4, h5, h6.later hb, fun q hq => (hb.cell (p := ⟨b, _, none⟩) hlt).trans (h7 q hq)⟩⟩

theorem OpsIn.get {w : World} {lo hi : Nat} {A : Option Addr} {cap : Nat} {ops : List OpT} (h : OpsIn w lo hi A cap ops) (i : Nat) (hi' : i < ops.length) :
    ∃ b off vk vn vf vs A' m c, A = some ⟨b, off, none⟩ ∧ b < hi ∧ ops[i].text.size ≤ maxLen ∧ ops[i].n < 18446744073709551616 ∧ Rep w lo hi ops[i].v (vCells vk vn vf vs A' m c) ∧
      w.cell? ⟨b, off + i * 8, none⟩ = some (.int .i64 ops[i].kind) ∧ w.cell? ⟨b, off + i * 8 + 1, none⟩ = some (.string ops[i].text) ∧ w.cell? ⟨b, off + i * 8 + 2, none⟩ = some (.int .i64 vk) ∧ w.cell? ⟨b, off + i * 8 + 3, none⟩ = some (.int .i64 vn) ∧
      w.cell? ⟨b, off + i * 8 + 4, none⟩ = some (.float .f64 vf) ∧ w.cell? ⟨b, off + i * 8 + 5, none⟩ = some (.string vs) ∧ w.cell? ⟨b, off + i * 8 + 6, none⟩ = some (.slice A' m c) ∧ w.cell? ⟨b, off + i * 8 + 7, none⟩ = some (.int .u64 ops[i].n) := by
  obtain ⟨b, off, hA, hlt, h3⟩ := h.at_ (by omega)
  obtain ⟨vk, vn, vf, vs, A', m, c, h4, h5, h6, h7⟩ := h3 i hi'
  exact ⟨b, off, vk, vn, vf, vs, A', m, c, hA, hlt, h4, h5, h6, h7 0 (by omega), h7 1 (by omega), h7 2 (by omega), h7 3 (by omega), h7 4 (by omega), h7 5 (by omega), h7 6 (by omega), h7 7 (by omega)⟩

def FewRes (ops : List OpT) (w : World) (r : Ending) (w' : World) : Prop := ∃ b, r = .returned (.bool b) ∧ (b = true → ops.length ≤ 60 ∧ ∀ i (h : i < ops.length), ops[i].v.few = true) ∧ Below w.heap.size w w'

set_option maxRecDepth 100000 in
set_option maxHeartbeats 1000000 in
theorem fewl_any (ops : List OpT) (A : Option Addr) (cap : Nat) (lo hi : Nat) (w : World) (h : OpsIn w lo hi A cap ops) :
    Calls Try.prog 8 #[.slice A ops.length cap] w (FewRes ops w) := by
  have hl := h.le
  have hc := h.cap_le
  simp only [maxLen] at hc
  have HK := Lib.hid h; clear h
  go_enter Try.func8, Try.ntmps8
  go_wp2_with fail
  go_loopw [2, 3, 8] (fun r n i wr => ∃ (j : Nat) (y : Int), j ≤ ops.length ∧ i = .int .i64 j ∧ r = .bool false ∧ n = .int .i64 y ∧ 0 ≤ y ∧ y ≤ 400 ∧ (∀ i (h : i < ops.length), i < j → ops[i].v.few = true) ∧ Below w.heap.size w wr) (fun _ _ i _ => ops.length - (intOf i).toNat)
  case atStart => exact ⟨0, 0, by omega, rfl, rfl, rfl, by omega, by omega, fun i _ h => absurd h (by omega), Below.refl _ _⟩
  case round =>
    obtain ⟨j, y, hj, rfl, rfl, rfl, hy0, hy1, hfew, hb⟩ := hrel
    have HF := Lib.hid hfew
    have HB := Lib.hid hb
    clear hfew hb
    by_cases hlt : j < ops.length
    · obtain ⟨b, off, vk, vn, vf, vs, A1, m, c, rfl, hblt, ht, hn, hv, d0, d1, d2, d3, d4, d5, d6, d7⟩ := (HK.out.later (HB.out.mono HK.out.hi_le)).get j hlt
      obtain ⟨W1, hW1⟩ : ∃ W1, W1 = wr.alloc (.cells (opCells ops[j] vk vn vf vs A1 m c) 36) := ⟨_, rfl⟩
      have HBa : Hid (Below wr.heap.size wr W1) := Lib.hid (by rw [hW1]; exact (Below.refl _ _).alloc (Nat.le_refl _) _)
      have hbox : W1.heap[wr.heap.size]? = some (.cells (opCells ops[j] vk vn vf vs A1 m c) 36 (0, 0)) := by rw [hW1]; exact heap_alloc_new wr _
      unfold opCells at hbox hW1
      obtain ⟨e0, e1, e2, e3, e4, e5, e6, e7⟩ := cells8 hbox
      have hhi : hi ≤ wr.heap.size := Nat.le_trans HK.out.hi_le HB.out.size
      have HS := Lib.hid (Vt.few_any ops[j].v W1 lo hi _ (hv.later (HBa.out.mono hhi)) (Nat.le_trans hhi HBa.out.size))
      unfold vCells at HS
      clear hv hbox hn
      simp only [maxLen] at ht
      replace hW1 := Lib.hid hW1
      generalize hsz : ops[j].text.size = sz at *
      go_upto_region 5 with fail
      rw [← hW1.out]
      go_upto_region 6 with fail
      obtain ⟨z, hz⟩ : ∃ z : Int, z = y + (if (2000 : Int) < (sz : Int) then (2000 : Int) else (sz : Int)) / 10 := ⟨_, rfl⟩
      have hz0 : 0 ≤ z := by rw [hz]; split <;> omega
      rw [← hz]
      generalize (if (2000 : Int) < (sz : Int) then (2000 : Int) else (sz : Int)) = mm at *
      clear hz d0 d1 d2 d3 d4 d5 d6 d7
      by_cases hz4 : 400 < z
      · have hb4 : decide (400 < z) = true := by simpa using hz4
        go_wp2_with fail
        go_ret
        exact ⟨false, rfl, (fun h => by cases h), HB.out.trans (HBa.out.mono HB.out.size)⟩
      · have hb4 : decide (400 < z) = false := by simpa using hz4
        cases hfw : ops[j].v.few with
        | false =>
          rw [hfw] at HS
          go_wp2_with fail
          refine HS.out.mono ?_
          rintro x w1 ⟨rfl, hb1⟩
          have HB1 := Lib.hid ((HB.out.trans (HBa.out.mono HB.out.size)).trans (hb1.mono (Nat.le_trans HB.out.size HBa.out.size)))
          clear hb1
          go_wp2_with fail
          go_ret
          exact ⟨false, rfl, (fun h => by cases h), HB1.out⟩
        | true =>
          rw [hfw] at HS
          replace hfw := Lib.hid hfw
          go_wp2_with fail
          refine HS.out.mono ?_
          rintro x w1 ⟨rfl, hb1⟩
          have HB1 := Lib.hid ((HB.out.trans (HBa.out.mono HB.out.size)).trans (hb1.mono (Nat.le_trans HB.out.size HBa.out.size)))
          clear hb1
          go_wp2_with fail
          exact ⟨⟨j + 1, z, by omega, by go_num, rfl, rfl, hz0, by omega, fun i h hij => by
            rcases Nat.lt_or_ge i j with q | q
            · exact HF.out i h q
            · obtain rfl : i = j := by omega
              exact hfw.out, HB1.out⟩, by simp [intOf]; omega⟩
    · have hj' : j = ops.length := by omega
      subst hj'
      go_wp2_with fail
      go_ret
      exact ⟨decide (ops.length ≤ 60), ret_bool (decide_eq_decide.2 (by omega)), fun h => ⟨by simpa using h, fun i hi => HF.out i hi hi⟩, HB.out⟩
end Cm
end Go.Proofs.Ytpnepnhajpmccaa
