/- Contract of model. -/
import Derived.Test.YtpnepnhajpmccaaCwP
namespace Go.Proofs.Ytpnepnhajpmccaa
open Go.RowKit
set_option linter.unusedVariables false
namespace Cm
open Nm (bitsW ret_int ret_bool)
open Vt (VT Rep BoxAt below_drew Cloned put5 toList_inj rowCells)
open Ev (EV FieldsOk evCells vCells EBox ERep zeroT)

theorem MAt.row_in {w : World} {base : Nat} {A : Option Addr} {cap : Nat} {es : List EV} (h : MAt w base A cap es) {r : Nat} (hr : rowOf A = some r) : r < w.heap.size := by
  rcases Nat.eq_zero_or_pos es.length with h0 | hp
  · obtain ⟨rfl, -⟩ := h.nil_ (List.eq_nil_of_length_eq_zero h0)
    cases hr
  · exact (h.row_lt hp hr).2

theorem rres_end {w W0 W : World} {base : Nat} {A A' : Option Addr} {cap cap' : Nat} {s s' : BS} (h : MAt w base A cap s.es) (hr : RRes W0 W base A s' A' cap') : ∀ r, rowOf A' = some r → r < w.heap.size ∨ W0.heap.size ≤ r := by
  intro r hr'
  rcases hr.2.2 with e | h'
  · subst e; exact .inl (h.row_in hr')
  · exact .inr (h' r hr')

set_option maxRecDepth 100000 in
set_option maxHeartbeats 1000000 in
theorem model_any (base : Nat) (A : Option Addr) (cap : Nat) (s : BS) (b k : Nat) (hok : SOk s b k) (hk : b + k + 1 < 18446744073709551616) (o : OpT) (ho : OpOk o) (vk vn : Int) (vf : Nat) (vs : ByteArray) (A' : Option Addr) (m c : Nat) (w : World) (h : MAt w base A cap s.es) (hl : s.es.length ≤ 1000000) (hbw : base ≤ w.heap.size)
    (hv : Rep w 0 base o.v (vCells vk vn vf vs A' m c)) :
    Calls Try.prog 10 #[.agg #[.int .u64 s.next, .int .u64 s.at', .slice A s.es.length cap], .agg (opCells o vk vn vf vs A' m c)] w fun r w' =>
      ∃ A' cap', r = .returned (.tuple #[.agg #[.int .u64 (doS s o).1.next, .int .u64 (doS s o).1.at', .slice A' (doS s o).1.es.length cap'], .int .u64 (doS s o).2]) ∧ RRes w w' base A (doS s o).1 A' cap' := by
  obtain ⟨W0, hW0⟩ : ∃ W0, W0 = ((w.alloc (.cells #[.int .u64 s.next, .int .u64 s.at', .slice A s.es.length cap] 30)).alloc (.cells (opCells o vk vn vf vs A' m c) 36)).alloc (.cells #[.int .u64 0, .int .u64 0, .slice none 0 0] 30) := ⟨_, rfl⟩
  obtain ⟨g1, g2, g3, gb, gz⟩ := three w (.cells #[.int .u64 s.next, .int .u64 s.at', .slice A s.es.length cap] 30) (.cells (opCells o vk vn vf vs A' m c) 36) (.cells #[.int .u64 0, .int .u64 0, .slice none 0 0] 30)
  rw [← hW0] at g1 g2 g3 gb gz
  have hbw0 : base ≤ W0.heap.size := Nat.le_trans hbw gb.size
  have HG : Hid (∀ W, Below W0.heap.size W0 W → W.heap[w.heap.size]? = some (.cells #[.int .u64 s.next, .int .u64 s.at', .slice A s.es.length cap] 30 (0, 0)) ∧ W.heap[w.heap.size + 1 + 1]? = some (.cells #[.int .u64 0, .int .u64 0, .slice none 0 0] 30 (0, 0)) ∧ Below w.heap.size w W) :=
    Lib.hid fun W hW => ⟨(hW.block _ (by omega)).trans g1, (hW.block _ (by omega)).trans g3, gb.trans (hW.mono (by omega))⟩
  have HR : Hid (∀ s' W A2 cap2, RRes W0 W base A s' A2 cap2 → ∀ r, rowOf A2 = some r → r < w.heap.size ∨ W0.heap.size ≤ r) := Lib.hid fun s' W A2 cap2 hr => rres_end h hr
  have HRW : Hid (∀ A2 (W : World), (A2 = A ∨ ∀ r, rowOf A2 = some r → W0.heap.size ≤ r) → (A2 = A ∨ ∀ r, rowOf A2 = some r → w.heap.size ≤ r)) := Lib.hid fun A2 W hr => hr.imp id (fun hr r hr' => by have := hr r hr'; omega)
  have h0' := h.later hbw gb
  have hv0 := hv.later (gb.mono hbw)
  have HSc := Lib.hid (rsched_any base A cap s k b hok hk o.text o.v vk vn vf vs A' m c W0 h0' hl hbw0 ho.t1 hv0)
  have HAr := Lib.hid (rarm_any base A cap s k b hok hk o.n ho.n1 W0 h0' hl hbw0)
  have HCo := Lib.hid (rclose_any base A cap s k b hok 9 (by omega) (by omega) o.v ⟨#[]⟩ (by rw [closeE_compl]; exact compl_valid o.v) vk vn vf vs A' m c W0 h0' hl hbw0 (Nat.zero_le _) hv0)
  have HFa := Lib.hid (rclose_any base A cap s k b hok 10 (by omega) (by omega) zeroT o.text (closeE_valid_text 10 (.inl rfl) _) 0 0 0 ⟨#[]⟩ none 0 0 W0 h0' hl hbw0 ho.t1 ((zero_rep W0).more (Nat.le_refl _) (Nat.zero_le _)))
  have HPa := Lib.hid (rclose_any base A cap s k b hok 11 (by omega) (by omega) zeroT o.text (closeE_valid_text 11 (.inr rfl) _) 0 0 0 ⟨#[]⟩ none 0 0 W0 h0' hl hbw0 ho.t1 ((zero_rep W0).more (Nat.le_refl _) (Nat.zero_le _)))
  rw [closeE_compl] at HCo
  rw [closeE_fail] at HFa
  rw [closeE_panic] at HPa
  obtain ⟨kd, text, v, n⟩ := o
  unfold opCells at g2 hW0
  obtain ⟨c0, c1, c2, c3, c4, c5, c6, c7⟩ := cells8 g2
  obtain ⟨a0, a1, a2, -, -, -⟩ := cells3 g1
  have hz0 := Lib.hid gz
  clear hv hv0 h h0' g1 g2 g3 hok ho gb hl gz
  replace hW0 := Lib.hid hW0
  unfold opCells
  simp only at HSc HAr HCo HFa HPa c0 c1 c2 c3 c4 c5 c6 c7
  unfold vCells at HSc HCo HFa HPa
  unfold doS finE
  simp only
  by_cases h0 : kd = 0
  · subst h0
    rw [if_pos rfl]
    generalize s.number (schedE text v) = q at *
    obtain ⟨s', n'⟩ := q
    clear HAr HCo HFa HPa
    simp only at HSc ⊢
    obtain ⟨es', cl', nx', at2⟩ := s'
    simp only at HSc ⊢
    go_enter Try.func10, Try.ntmps10
    go_upto_region 1 with fail
    rw [← hW0.out]
    go_wp2_with fail
    refine HSc.out.mono ?_
    rintro x W3 ⟨A2, cap2, rfl, hr⟩
    obtain ⟨h1, h3, hbb⟩ := HG.out W3 hr.1
    obtain ⟨r0, r1, r2, f0, f1, f2⟩ := cells3 h3
    obtain ⟨b0, b1, b2, q0, q1, q2⟩ := cells3 h1
    have HRR := Lib.hid (HR.out _ _ _ _ hr)
    have HRX := Lib.hid (HRW.out A2 w hr.2.2)
    have HMM := Lib.hid hr.2.1
    have HBB := Lib.hid hbb
    clear hr h1 h3 hbb a0 a1 a2 c0 c1 c2 c3 c4 c5 c6 c7
    go_wp2_with fail
    refine bodyPost_ret (v := .tuple #[.agg #[.int .u64 nx', .int .u64 at2, .slice A2 es'.length cap2], .int .u64 n']) (by simp [results, Try.results10, go_sem, r0, r1, r2]) rfl ⟨A2, cap2, rfl, ?_, ?_, HRX.out⟩
    · have HBO := HBB.out
      repeat (first | (with_reducible exact HBO) | refine Below.setCell ?_ (by simp only []; omega) _)
    · have HMO := HMM.out
      have hz := hz0.out
      have hrr := HRR.out
      repeat (first | (with_reducible exact HMO) | refine MAt.set ?_ (by simp only []; omega) (by intro r hr; have := hrr r hr; simp only []; omega) _)
  · rw [if_neg h0]
    have e0 : (kd == 0) = false := by simpa using h0
    by_cases h1 : kd = 1
    · subst h1
      rw [if_pos rfl]
      generalize s.number (armE (Nm.addW s.at' n)) = q at *
      obtain ⟨s', n'⟩ := q
      clear HSc HCo HFa HPa
      simp only at HAr ⊢
      obtain ⟨es', cl', nx', at2⟩ := s'
      simp only at HAr ⊢
      go_enter Try.func10, Try.ntmps10
      go_upto_region 1 with fail
      rw [← hW0.out]
      go_wp2_with fail
      refine HAr.out.mono ?_
      rintro x W3 ⟨A2, cap2, rfl, hr⟩
      obtain ⟨h1, h3, hbb⟩ := HG.out W3 hr.1
      obtain ⟨r0, r1, r2, f0, f1, f2⟩ := cells3 h3
      obtain ⟨b0, b1, b2, q0, q1, q2⟩ := cells3 h1
      have HRR := Lib.hid (HR.out _ _ _ _ hr)
      have HRX := Lib.hid (HRW.out A2 w hr.2.2)
      have HMM := Lib.hid hr.2.1
      have HBB := Lib.hid hbb
      clear hr h1 h3 hbb a0 a1 a2 c0 c1 c2 c3 c4 c5 c6 c7
      go_wp2_with fail
      refine bodyPost_ret (v := .tuple #[.agg #[.int .u64 nx', .int .u64 at2, .slice A2 es'.length cap2], .int .u64 n']) (by simp [results, Try.results10, go_sem, r0, r1, r2]) rfl ⟨A2, cap2, rfl, ?_, ?_, HRX.out⟩
      · have HBO := HBB.out
        repeat (first | (with_reducible exact HBO) | refine Below.setCell ?_ (by simp only []; omega) _)
      · have HMO := HMM.out
        have hz := hz0.out
        have hrr := HRR.out
        repeat (first | (with_reducible exact HMO) | refine MAt.set ?_ (by simp only []; omega) (by intro r hr; have := hrr r hr; simp only []; omega) _)
    · rw [if_neg h1]
      have e1 : (kd == 1) = false := by simpa using h1
      by_cases h2 : kd = 2
      · subst h2
        rw [if_pos rfl]
        generalize s.fin (complE v) = q at *
        obtain ⟨s', n'⟩ := q
        clear HSc HAr HFa HPa
        simp only at HCo ⊢
        obtain ⟨es', cl', nx', at2⟩ := s'
        simp only at HCo ⊢
        cases n'
        · go_enter Try.func10, Try.ntmps10
          go_upto_region 1 with fail
          rw [← hW0.out]
          go_wp2_with fail
          refine HCo.out.mono ?_
          rintro x W3 ⟨A2, cap2, rfl, hr⟩
          obtain ⟨h1, h3, hbb⟩ := HG.out W3 hr.1
          obtain ⟨r0, r1, r2, f0, f1, f2⟩ := cells3 h3
          obtain ⟨b0, b1, b2, q0, q1, q2⟩ := cells3 h1
          have HRR := Lib.hid (HR.out _ _ _ _ hr)
          have HRX := Lib.hid (HRW.out A2 w hr.2.2)
          have HMM := Lib.hid hr.2.1
          have HBB := Lib.hid hbb
          clear hr h1 h3 hbb a0 a1 a2 c0 c1 c2 c3 c4 c5 c6 c7
          go_wp2_with fail
          refine bodyPost_ret (v := .tuple #[.agg #[.int .u64 nx', .int .u64 at2, .slice A2 es'.length cap2], .int .u64 (0 : Nat)]) (by simp [results, Try.results10, go_sem, r0, r1, r2]) rfl ⟨A2, cap2, rfl, ?_, ?_, HRX.out⟩
          · have HBO := HBB.out
            repeat (first | (with_reducible exact HBO) | refine Below.setCell ?_ (by simp only []; omega) _)
          · have HMO := HMM.out
            have hz := hz0.out
            have hrr := HRR.out
            repeat (first | (with_reducible exact HMO) | refine MAt.set ?_ (by simp only []; omega) (by intro r hr; have := hrr r hr; simp only []; omega) _)
        · go_enter Try.func10, Try.ntmps10
          go_upto_region 1 with fail
          rw [← hW0.out]
          go_wp2_with fail
          refine HCo.out.mono ?_
          rintro x W3 ⟨A2, cap2, rfl, hr⟩
          obtain ⟨h1, h3, hbb⟩ := HG.out W3 hr.1
          obtain ⟨r0, r1, r2, f0, f1, f2⟩ := cells3 h3
          obtain ⟨b0, b1, b2, q0, q1, q2⟩ := cells3 h1
          have HRR := Lib.hid (HR.out _ _ _ _ hr)
          have HRX := Lib.hid (HRW.out A2 w hr.2.2)
          have HMM := Lib.hid hr.2.1
          have HBB := Lib.hid hbb
          clear hr h1 h3 hbb a0 a1 a2 c0 c1 c2 c3 c4 c5 c6 c7
          go_wp2_with fail
          refine bodyPost_ret (v := .tuple #[.agg #[.int .u64 nx', .int .u64 at2, .slice A2 es'.length cap2], .int .u64 (1 : Nat)]) (by simp [results, Try.results10, go_sem, r0, r1, r2]) rfl ⟨A2, cap2, rfl, ?_, ?_, HRX.out⟩
          · have HBO := HBB.out
            repeat (first | (with_reducible exact HBO) | refine Below.setCell ?_ (by simp only []; omega) _)
          · have HMO := HMM.out
            have hz := hz0.out
            have hrr := HRR.out
            repeat (first | (with_reducible exact HMO) | refine MAt.set ?_ (by simp only []; omega) (by intro r hr; have := hrr r hr; simp only []; omega) _)
      · rw [if_neg h2]
        have e2 : (kd == 2) = false := by simpa using h2
        by_cases h3 : kd = 3
        · subst h3
          rw [if_pos rfl]
          generalize s.fin (failE text) = q at *
          obtain ⟨s', n'⟩ := q
          clear HSc HAr HCo HPa
          simp only at HFa ⊢
          obtain ⟨es', cl', nx', at2⟩ := s'
          simp only at HFa ⊢
          cases n'
          · go_enter Try.func10, Try.ntmps10
            go_upto_region 1 with fail
            rw [← hW0.out]
            go_wp2_with fail
            refine HFa.out.mono ?_
            rintro x W3 ⟨A2, cap2, rfl, hr⟩
            obtain ⟨h1, h3, hbb⟩ := HG.out W3 hr.1
            obtain ⟨r0, r1, r2, f0, f1, f2⟩ := cells3 h3
            obtain ⟨b0, b1, b2, q0, q1, q2⟩ := cells3 h1
            have HRR := Lib.hid (HR.out _ _ _ _ hr)
            have HRX := Lib.hid (HRW.out A2 w hr.2.2)
            have HMM := Lib.hid hr.2.1
            have HBB := Lib.hid hbb
            clear hr h1 h3 hbb a0 a1 a2 c0 c1 c2 c3 c4 c5 c6 c7
            go_wp2_with fail
            refine bodyPost_ret (v := .tuple #[.agg #[.int .u64 nx', .int .u64 at2, .slice A2 es'.length cap2], .int .u64 (0 : Nat)]) (by simp [results, Try.results10, go_sem, r0, r1, r2]) rfl ⟨A2, cap2, rfl, ?_, ?_, HRX.out⟩
            · have HBO := HBB.out
              repeat (first | (with_reducible exact HBO) | refine Below.setCell ?_ (by simp only []; omega) _)
            · have HMO := HMM.out
              have hz := hz0.out
              have hrr := HRR.out
              repeat (first | (with_reducible exact HMO) | refine MAt.set ?_ (by simp only []; omega) (by intro r hr; have := hrr r hr; simp only []; omega) _)
          · go_enter Try.func10, Try.ntmps10
            go_upto_region 1 with fail
            rw [← hW0.out]
            go_wp2_with fail
            refine HFa.out.mono ?_
            rintro x W3 ⟨A2, cap2, rfl, hr⟩
            obtain ⟨h1, h3, hbb⟩ := HG.out W3 hr.1
            obtain ⟨r0, r1, r2, f0, f1, f2⟩ := cells3 h3
            obtain ⟨b0, b1, b2, q0, q1, q2⟩ := cells3 h1
            have HRR := Lib.hid (HR.out _ _ _ _ hr)
            have HRX := Lib.hid (HRW.out A2 w hr.2.2)
            have HMM := Lib.hid hr.2.1
            have HBB := Lib.hid hbb
            clear hr h1 h3 hbb a0 a1 a2 c0 c1 c2 c3 c4 c5 c6 c7
            go_wp2_with fail
            refine bodyPost_ret (v := .tuple #[.agg #[.int .u64 nx', .int .u64 at2, .slice A2 es'.length cap2], .int .u64 (1 : Nat)]) (by simp [results, Try.results10, go_sem, r0, r1, r2]) rfl ⟨A2, cap2, rfl, ?_, ?_, HRX.out⟩
            · have HBO := HBB.out
              repeat (first | (with_reducible exact HBO) | refine Below.setCell ?_ (by simp only []; omega) _)
            · have HMO := HMM.out
              have hz := hz0.out
              have hrr := HRR.out
              repeat (first | (with_reducible exact HMO) | refine MAt.set ?_ (by simp only []; omega) (by intro r hr; have := hrr r hr; simp only []; omega) _)
        · rw [if_neg h3]
          have e3 : (kd == 3) = false := by simpa using h3
          generalize s.fin (panicE text) = q at *
          obtain ⟨s', n'⟩ := q
          clear HSc HAr HCo HFa
          simp only at HPa ⊢
          obtain ⟨es', cl', nx', at2⟩ := s'
          simp only at HPa ⊢
          cases n'
          · go_enter Try.func10, Try.ntmps10
            go_upto_region 1 with fail
            rw [← hW0.out]
            go_wp2_with fail
            refine HPa.out.mono ?_
            rintro x W3 ⟨A2, cap2, rfl, hr⟩
            obtain ⟨h1, h3, hbb⟩ := HG.out W3 hr.1
            obtain ⟨r0, r1, r2, f0, f1, f2⟩ := cells3 h3
            obtain ⟨b0, b1, b2, q0, q1, q2⟩ := cells3 h1
            have HRR := Lib.hid (HR.out _ _ _ _ hr)
            have HRX := Lib.hid (HRW.out A2 w hr.2.2)
            have HMM := Lib.hid hr.2.1
            have HBB := Lib.hid hbb
            clear hr h1 h3 hbb a0 a1 a2 c0 c1 c2 c3 c4 c5 c6 c7
            go_wp2_with fail
            refine bodyPost_ret (v := .tuple #[.agg #[.int .u64 nx', .int .u64 at2, .slice A2 es'.length cap2], .int .u64 (0 : Nat)]) (by simp [results, Try.results10, go_sem, r0, r1, r2]) rfl ⟨A2, cap2, rfl, ?_, ?_, HRX.out⟩
            · have HBO := HBB.out
              repeat (first | (with_reducible exact HBO) | refine Below.setCell ?_ (by simp only []; omega) _)
            · have HMO := HMM.out
              have hz := hz0.out
              have hrr := HRR.out
              repeat (first | (with_reducible exact HMO) | refine MAt.set ?_ (by simp only []; omega) (by intro r hr; have := hrr r hr; simp only []; omega) _)
          · go_enter Try.func10, Try.ntmps10
            go_upto_region 1 with fail
            rw [← hW0.out]
            go_wp2_with fail
            refine HPa.out.mono ?_
            rintro x W3 ⟨A2, cap2, rfl, hr⟩
            obtain ⟨h1, h3, hbb⟩ := HG.out W3 hr.1
            obtain ⟨r0, r1, r2, f0, f1, f2⟩ := cells3 h3
            obtain ⟨b0, b1, b2, q0, q1, q2⟩ := cells3 h1
            have HRR := Lib.hid (HR.out _ _ _ _ hr)
            have HRX := Lib.hid (HRW.out A2 w hr.2.2)
            have HMM := Lib.hid hr.2.1
            have HBB := Lib.hid hbb
            clear hr h1 h3 hbb a0 a1 a2 c0 c1 c2 c3 c4 c5 c6 c7
            go_wp2_with fail
            refine bodyPost_ret (v := .tuple #[.agg #[.int .u64 nx', .int .u64 at2, .slice A2 es'.length cap2], .int .u64 (1 : Nat)]) (by simp [results, Try.results10, go_sem, r0, r1, r2]) rfl ⟨A2, cap2, rfl, ?_, ?_, HRX.out⟩
            · have HBO := HBB.out
              repeat (first | (with_reducible exact HBO) | refine Below.setCell ?_ (by simp only []; omega) _)
            · have HMO := HMM.out
              have hz := hz0.out
              have hrr := HRR.out
              repeat (first | (with_reducible exact HMO) | refine MAt.set ?_ (by simp only []; omega) (by intro r hr; have := hrr r hr; simp only []; omega) _)
end Cm
end Go.Proofs.Ytpnepnhajpmccaa
