/- Contracts: event.Same, command.Match. -/
import Derived.Test.YtpnepnhajpmccaaCwI
import Derived.Test.YtpnepnhajpmccaaVtI
import Derived.Deep.CutRange
namespace Go.Proofs.Ytpnepnhajpmccaa
open Go.RowKit
set_option linter.unusedVariables false
namespace Cm
open Nm (bitsW ret_int ret_bool)
open Vt (VT Rep BoxAt below_drew Cloned put5 toList_inj)
open Ev (EV FieldsOk evCells vCells EBox ERep zeroT)

theorem four (w : World) (Z1 Z2 Z3 Z4 : Obj) : ((((w.alloc Z1).alloc Z2).alloc Z3).alloc Z4).drew.heap[w.heap.size]? = some Z1 ∧ ((((w.alloc Z1).alloc Z2).alloc Z3).alloc Z4).drew.heap[w.heap.size + 1]? = some Z2 ∧
    ((((w.alloc Z1).alloc Z2).alloc Z3).alloc Z4).drew.heap[w.heap.size + 1 + 1]? = some Z3 ∧ ((((w.alloc Z1).alloc Z2).alloc Z3).alloc Z4).drew.heap[w.heap.size + 1 + 1 + 1]? = some Z4 ∧ Below w.heap.size w ((((w.alloc Z1).alloc Z2).alloc Z3).alloc Z4).drew := by
  have e : ∀ W : World, W.drew.heap = W.heap := fun _ => rfl
  have n1 := heap_alloc_new w Z1
  have n2 := heap_alloc_new (w.alloc Z1) Z2
  have n3 := heap_alloc_new ((w.alloc Z1).alloc Z2) Z3
  have n4 := heap_alloc_new (((w.alloc Z1).alloc Z2).alloc Z3) Z4
  simp only [World.size_alloc] at n2 n3 n4
  refine ⟨?_, ?_, ?_, n4, below_drew ((((Below.refl w.heap.size w).alloc (Nat.le_refl _) Z1).alloc (by simp) Z2).alloc (by simp; omega) Z3 |>.alloc (by simp; omega) Z4)⟩
  · rw [e, heap_alloc_old _ _ (by simp only [World.size_alloc]; omega), heap_alloc_old _ _ (by simp only [World.size_alloc]; omega), heap_alloc_old _ _ (by simp only [World.size_alloc]; omega), n1]
  · rw [e, heap_alloc_old _ _ (by simp only [World.size_alloc]; omega), heap_alloc_old _ _ (by simp only [World.size_alloc]; omega), n2]
  · rw [e, heap_alloc_old _ _ (by simp only [World.size_alloc]; omega), n3]

set_option maxRecDepth 100000 in
set_option maxHeartbeats 400000 in
theorem evsame_cut (a b : EV) (w : World) (lo hi lo' hi' : Nat) (x y : Value) (hR : ERep w lo hi a x) (hz : hi ≤ w.heap.size) (hR' : ERep w lo' hi' b y) (hz' : hi' ≤ w.heap.size) :
    Calls Try.prog 40 #[x, y] w fun r w' => r = .returned (.bool (evSame a b)) ∧ Below w.heap.size w w' := by
  obtain ⟨hf, vk, vn, vf, vs, A, m, c, rfl, hv⟩ := hR
  obtain ⟨hf', vk', vn', vf', vs', A', m', c', rfl, hv'⟩ := hR'
  have HB0 := Lib.hid fun Z Z' => ((Below.refl w.heap.size w).alloc (Nat.le_refl _) Z).alloc (by simp) Z'
  have HS := Lib.hid fun W (hW : Below w.heap.size w W) => Vt.same_any a.v b.v W lo hi lo' hi' _ _ (hv.later (hW.mono hz)) (Nat.le_trans hz hW.size) (hv'.later (hW.mono hz')) (Nat.le_trans hz' hW.size)
  clear hv hv' hf hf'
  obtain ⟨R, hRR⟩ : ∃ R, R = evSame a b := ⟨_, rfl⟩
  rw [← hRR]
  replace hRR := Lib.hid hRR
  obtain ⟨k, id, n, at', name, text, v⟩ := a
  obtain ⟨k', id', n', at'', name', text', v'⟩ := b
  unfold vCells at HS
  simp only at HS
  unfold evCells
  go_enter Try.func40, Try.ntmps40
  go_upto_region 1 with fail
  go_cut [5, 6] from 7 to 10 (fun z z' wx => ∃ g g', z = .pointer (some ⟨g, 0, none⟩) ∧ z' = .pointer (some ⟨g', 0, none⟩) ∧ BoxAt wx g vk vn vf vs A m c ∧ BoxAt wx g' vk' vn' vf' vs' A' m' c' ∧
    EBox wx w.heap.size (evCells ⟨k, id, n, at', name, text, v⟩ vk vn vf vs A m c) ∧ EBox wx (w.heap.size + 1) (evCells ⟨k', id', n', at'', name', text', v'⟩ vk' vn' vf' vs' A' m' c') ∧ Below w.heap.size w wx)
  case first =>
    go_region
    all_goals go_wp2_with fail
    all_goals go_meet
    case' rel => exact ⟨_, _, rfl, rfl, (four _ _ _ _ _).2.2.1, (four _ _ _ _ _).2.2.2.1, (four _ _ _ _ _).1, (four _ _ _ _ _).2.1, (four _ _ _ _ _).2.2.2.2⟩
    all_goals exact ⟨_, _, rfl, rfl, (four _ _ _ _ _).2.2.2.1, (four _ _ _ _ _).2.2.1, (four _ _ _ _ _).1, (four _ _ _ _ _).2.1, (four _ _ _ _ _).2.2.2.2⟩
  case rest =>
    obtain ⟨g, g', rfl, rfl, hx, hx', hy, hy', hb0⟩ := hcut
    obtain ⟨c0, c1, c2, c3, c4⟩ := hx.cells
    obtain ⟨d0, d1, d2, d3, d4⟩ := hx'.cells
    obtain ⟨a0, a1, a2, a3, a4, a5, -⟩ := EBox.cells hy
    obtain ⟨b0, b1, b2, b3, b4, b5, -⟩ := EBox.cells hy'
    have HB := Lib.hid hb0
    have HS1 := Lib.hid (HS.out wc hb0)
    clear hx hx' hy hy' hb0 HS HB0
    by_cases hh : HeadE ⟨k, id, n, at', name, text, v⟩ ⟨k', id', n', at'', name', text', v'⟩
    · have HRR := Lib.hid (hRR.out.trans (evSame_head hh))
      obtain ⟨h1, h2, h3, h4, h5, h6⟩ := hh
      simp only at h1 h2 h3 h4 h5 h6
      subst h1 h2 h3 h4 h5 h6
      go_wp2_with fail
      refine HS1.out.mono ?_
      rintro e w1 ⟨rfl, hb⟩
      have HB1 := Lib.hid (HB.out.trans (hb.mono HB.out.size))
      clear hb
      go_wp2_with fail
      go_ret
      exact ⟨ret_bool (by rw [HRR.out]), HB1.out⟩
    · have HRR := Lib.hid (hRR.out.trans (evSame_not hh))
      have H := Lib.hid hh; clear hh
      go_wp2_with fail
      all_goals first
        | (go_ret; exact ⟨ret_bool (by rw [HRR.out]), HB.out⟩)
        | (exfalso
           refine H.out ⟨?_, ?_, ?_, ?_, ?_, ?_⟩
           all_goals clear H HS1 HB HRR hRR
           all_goals first
             | assumption
             | (exact (toList_inj _ _).1 (by assumption))
             | omega
             | (simp at *; omega))

set_option maxRecDepth 100000 in
set_option maxHeartbeats 2000000 in
theorem match_same (es : List EV) (A A' : Option Addr) (cap cap' : Nat) (w : World) (h : EvsIn w A cap es) (h' : EvsIn w A' cap' es) :
    Calls Try.prog 25 #[.slice A es.length cap, .slice A' es.length cap'] w fun r w' => r = .returned (.int .i64 (-1)) ∧ Below w.heap.size w w' := by
  have hl := h.le
  have hc := h.cap_le
  have hl' := h'.le
  have hc' := h'.cap_le
  simp only [maxLen] at hc hc'
  have HK := Lib.hid h; have HK' := Lib.hid h'; clear h h'
  go_enter Try.func25, Try.ntmps25
  go_wp2_with fail
  go_loopw [4, 9] (fun r i wr => ∃ (j : Nat), j ≤ es.length ∧ i = .int .i64 j ∧ r = .int .i64 0 ∧ Below w.heap.size w wr) (fun _ i _ => es.length - (intOf i).toNat)
  case atStart => exact ⟨0, by omega, rfl, rfl, Below.refl _ _⟩
  case round =>
    obtain ⟨j, hj, rfl, rfl, hb⟩ := hrel
    have HB := Lib.hid hb; clear hb
    by_cases hlt : j < es.length
    · obtain ⟨b, off, lo, hi, vk, vn, vf, vs, A1, m, c, rfl, hblt, hf, hv, hz, d0, d1, d2, d3, d4, d5, d6, d7, d8, d9, d10⟩ := (HK.out.later HB.out).get j hlt
      obtain ⟨W1, hW1⟩ : ∃ W1, W1 = wr.alloc (.cells (evCells es[j] vk vn vf vs A1 m c) 45) := ⟨_, rfl⟩
      have HBa : Hid (Below wr.heap.size wr W1) := Lib.hid (by rw [hW1]; exact (Below.refl _ _).alloc (Nat.le_refl _) _)
      have hbox : EBox W1 wr.heap.size (evCells es[j] vk vn vf vs A1 m c) := by rw [hW1]; exact heap_alloc_new wr _
      obtain ⟨e0, e1, e2, e3, e4, e5, e6, e7, e8, e9, e10⟩ := EBox.cells hbox
      have hz1 := HBa.out.size
      obtain ⟨b', off', lo', hi', vk', vn', vf', vs', A1', m', c', rfl, hblt', hf', hv', hz', g0, g1, g2, g3, g4, g5, g6, g7, g8, g9, g10⟩ := (HK'.out.later (HB.out.trans (HBa.out.mono HB.out.size))).get j hlt
      have hge : decide (es.length ≤ j) = false := by simp; omega
      have HS := Lib.hid (evsame_cut es[j] es[j] W1.drew lo hi lo' hi' _ _ ⟨hf, vk, vn, vf, vs, A1, m, c, rfl, (hv.later (HBa.out.mono hz)).drew⟩ (Nat.le_trans hz hz1) ⟨hf', vk', vn', vf', vs', A1', m', c', rfl, hv'.drew⟩ hz')
      rw [evSame_refl] at HS
      clear hf hf' hv hv' hbox
      unfold evCells at HS hW1
      replace hW1 := Lib.hid hW1
      go_upto_region 4 with fail
      rw [← hW1.out]
      clear d0 d1 d2 d3 d4 d5 d6 d7 d8 d9 d10
      go_still_tail 10, (by kernel_rfl)
      go_wp2_with fail
      refine HS.out.mono ?_
      rintro e w1 ⟨rfl, hb1⟩
      have HB1 : Hid (Below w.heap.size w w1) := Lib.hid (HB.out.trans ((HBa.out.trans (((below_drew (Below.refl _ _)).trans hb1).mono hz1)).mono HB.out.size))
      clear hb1 HS g0 g1 g2 g3 g4 g5 g6 g7 g8 g9 g10 e0 e1 e2 e3 e4 e5 e6 e7 e8 e9 e10
      go_wp2_with fail
      first
        | exact ⟨⟨j + 1, by omega, by go_num, rfl, HB1.out⟩, by simp [intOf]; omega⟩
        | (go_roundw
           case rel => exact ⟨j + 1, by omega, by go_num, rfl, HB1.out⟩
           case measure => simp [intOf]; omega)
    · have hj' : j = es.length := by omega
      subst hj'
      have hnn : decide ((es.length : Int) < es.length) = false := by simp
      go_wp2_with fail
      go_ret
      exact ⟨rfl, HB.out⟩
end Cm
end Go.Proofs.Ytpnepnhajpmccaa
