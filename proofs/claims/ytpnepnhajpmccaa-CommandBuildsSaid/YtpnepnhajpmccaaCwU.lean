/- The walk of CommandTwins. -/
import Derived.Test.YtpnepnhajpmccaaCwT
import Derived.Test.YtpnepnhajpmccaaCwJ
namespace Go.Proofs.Ytpnepnhajpmccaa
open Go.RowKit
set_option linter.unusedVariables false
namespace Cm
variable {X : Nat → Prop}
open Nm (bitsW ret_int ret_bool)
open Vt (VT Rep BoxAt below_drew Cloned put5 toList_inj rowCells)
open Ev (EV FieldsOk evCells vCells EBox ERep zeroT)

theorem tw_start {w w1 w2 w3 : World} (s0 : BS) (hs : s0 = ⟨[], 0, 1, 5⟩) (h1 : BAt X w1 w.heap.size w.heap.size none 0 [] 0 1 5) (b1 : Below w.heap.size w w1) (h2 : BAt X w2 w1.heap.size w1.heap.size none 0 [] 0 1 5) (b2 : Below w1.heap.size w1 w2) (b3 : Below w2.heap.size w2 w3) :
    TW w (w3.alloc (.cells #[.int .u64 1, .int .u64 5, .slice none 0 0] 30)) w.heap.size w1.heap.size w3.heap.size s0 s0 s0 none none none 0 := by
  subst hs
  have l1 := h1.lt
  have l2 := h2.lt
  have l3 := b3.size
  have l0 := b1.size
  have n0 := b2.size
  have bA : Below w3.heap.size w3 (w3.alloc (.cells #[.int .u64 1, .int .u64 5, .slice none 0 0] 30)) := (Below.refl _ _).alloc (Nat.le_refl _) _
  exact ⟨b1.trans ((b2.trans ((b3.trans (bA.mono l3)).mono n0)).mono l0), by omega,
    ⟨0, (((h1.later b2).later b3).later bA).fresh (Nat.le_refl _)⟩, ⟨0, ((h2.later b3).later bA).fresh (by omega)⟩, MAt.nil _ _, heap_alloc_new w3 _, by omega, by omega, by omega,
    by simp [rowOf], by simp [rowOf], by simp [rowOf], by simp [rowOf], by simp [rowOf], by simp [rowOf], by simp [rowOf], by simp [rowOf], by simp [rowOf], by simp [rowOf]⟩

theorem sok_start (s0 : BS) (hs : s0 = ⟨[], 0, 1, 5⟩) : SOk s0 1 0 := by
  subst hs
  exact ⟨rfl, Nat.one_pos, Nat.le_refl _, by simp, by simp, fun i h => absurd h (by simp), fun i h => absurd h (by simp)⟩

theorem BStep.keep {w w' : World} {base g : Nat} {A : Option Addr} {s : BS} (h : BStep X w w' base g A s) {b : Nat} (hb : b < w.heap.size) (h1 : b ≠ g) (h2 : rowOf A ≠ some b) : w'.heap[b]? = w.heap[b]? := by
  obtain ⟨A', -, ho, -⟩ := h
  exact ho.block b hb h1 (fun e => h2 e.symm)

theorem BStep.size {w w' : World} {base g : Nat} {A : Option Addr} {s : BS} (h : BStep X w w' base g A s) : w.heap.size ≤ w'.heap.size := by
  obtain ⟨A', -, ho, -⟩ := h
  exact ho.size

set_option maxRecDepth 100000 in
set_option maxHeartbeats 1000000 in
theorem twins_walk (ops : List OpT) (A : Option Addr) (cap : Nat) (w : World) (h : OpsIn w 0 w.heap.size A cap ops) :
    Calls Try.prog 5 #[.slice A ops.length cap] w fun r w' => r = .returned (.bool true) ∧ Below w.heap.size w w' := by
  have hl := h.le
  have hc := h.cap_le
  simp only [maxLen] at hc
  have HK := Lib.hid h; clear h
  have HN1 := Lib.hid (new_any (X := fun _ => False) 1 5 (by omega) (by omega) w)
  obtain ⟨s0, hs0⟩ : ∃ s0 : BS, s0 = ⟨[], 0, 1, 5⟩ := ⟨_, rfl⟩
  go_enter Try.func5, Try.ntmps5
  go_wp2_with fail
  refine HN1.out.mono ?_
  rintro x w1 ⟨rfl, hb1, hbl1⟩
  have HN2 := Lib.hid (new_any (X := fun _ => False) 1 5 (by omega) (by omega) w1)
  have hz1 := hb1.lt
  replace hb1 := Lib.hid hb1
  replace hbl1 := Lib.hid hbl1
  go_wp2_with fail
  refine HN2.out.mono ?_
  rintro x w2 ⟨rfl, hb2, hbl2⟩
  have HFw := Lib.hid (fewl_any ops A cap 0 w.heap.size w2 (HK.out.later (hbl1.out.trans (hbl2.mono hbl1.out.size))))
  have hz2 := hb2.lt
  replace hb2 := Lib.hid hb2
  replace hbl2 := Lib.hid hbl2
  go_wp2_with fail
  refine HFw.out.mono ?_
  rintro x w3 ⟨b, rfl, hf, hbl3⟩
  have HB3 := Lib.hid (hbl1.out.trans ((hbl2.out.trans (hbl3.mono hbl2.out.size)).mono hbl1.out.size))
  cases b with
  | false =>
    have HAl := Lib.hid (alive_any w3)
    go_wp2_with fail
    refine HAl.out.mono ?_
    rintro x w4 ⟨rfl, hb4⟩
    have HB4 := Lib.hid (HB3.out.trans (hb4.mono HB3.out.size))
    go_wp2_with fail
    go_ret
    exact ⟨rfl, HB4.out⟩
  | true =>
    obtain ⟨hlen, hfew⟩ := hf rfl
    have hslim : ∀ i (h : i < ops.length), ops[i].v.Slim 900 := fun i h => Vt.slim_of_few _ (hfew i h)
    have HT0 := Lib.hid (tw_start s0 hs0 hb1.out hbl1.out hb2.out hbl2.out hbl3)
    have HS0 := Lib.hid (sok_start s0 hs0)
    have HSL := Lib.hid hslim
    have hz3 := hbl3.size
    clear hf hfew hslim hbl3 hs0 HN1 HN2 HFw hb1 hb2 hbl1 hbl2
    obtain ⟨ga, hga⟩ : ∃ ga, ga = w.heap.size := ⟨_, rfl⟩
    generalize hgb : w1.heap.size = gb at *
    go_wp2_with fail
    go_loopw [36] (fun i wr => ∃ (j : Nat) (s : BS) (Aa Ab Am : Option Addr) (cm : Nat), j ≤ ops.length ∧ i = .int .i64 j ∧ TW w wr w.heap.size gb w3.heap.size s s s Aa Ab Am cm ∧ SOk s 1 j) (fun i _ => ops.length - (intOf i).toNat)
    case atStart => exact ⟨0, s0, none, none, none, 0, by omega, rfl, HT0.out, HS0.out⟩
    case round =>
      obtain ⟨j, s, Aa, Ab, Am, cm, hj, rfl, htw, hok⟩ := hrel
      by_cases hlt : j < ops.length
      · have hsl := HSL.out j hlt
        obtain ⟨b, off, vk, vn, vf, vs, A1, m, c, rfl, hblt, ht, hn, hv, D0, D1, D2, D3, D4, D5, D6, D7⟩ := HK.out.get j hlt
        have d0 := (htw.below.cell (p := ⟨b, _, none⟩) hblt).trans D0
        have d1 := (htw.below.cell (p := ⟨b, _, none⟩) hblt).trans D1
        have d2 := (htw.below.cell (p := ⟨b, _, none⟩) hblt).trans D2
        have d3 := (htw.below.cell (p := ⟨b, _, none⟩) hblt).trans D3
        have d4 := (htw.below.cell (p := ⟨b, _, none⟩) hblt).trans D4
        have d5 := (htw.below.cell (p := ⟨b, _, none⟩) hblt).trans D5
        have d6 := (htw.below.cell (p := ⟨b, _, none⟩) hblt).trans D6
        have d7 := (htw.below.cell (p := ⟨b, _, none⟩) hblt).trans D7
        clear D0 D1 D2 D3 D4 D5 D6 D7
        generalize hop : ops[j] = o at *
        obtain ⟨W1, hW1⟩ : ∃ W1, W1 = wr.alloc (.cells (opCells o vk vn vf vs A1 m c) 36) := ⟨_, rfl⟩
        have hBa : Below wr.heap.size wr W1 := by rw [hW1]; exact (Below.refl _ _).alloc (Nat.le_refl _) _
        have hbox : W1.heap[wr.heap.size]? = some (.cells (opCells o vk vn vf vs A1 m c) 36 (0, 0)) := by rw [hW1]; exact heap_alloc_new wr _
        have hzW : wr.heap.size < W1.heap.size := by rw [hW1]; simp
        have tw1 := htw.later hBa
        have hbz := htw.below.size
        have hoo : OpOk o := ⟨ht, hn, hsl⟩
        have hv1 := hv.later tw1.below
        have HD := Lib.hid (do_any (X := Hot gb w3.heap.size Ab) w.heap.size w.heap.size Aa s 1 j hok (by omega) o hoo 0 w.heap.size vk vn vf vs A1 m c W1 tw1.ha (by have := hok.len; omega) (by omega) (fun r hr => by
          rcases hr with q | q | q
          · subst q; exact tw1.hb.lt.1
          · subst q; exact tw1.gm_lt
          · exact (tw1.hb.row_lt q).1) hv1 (by omega))
        have hgl := htw.ha.lt.1
        have hgl2 := htw.hb.lt.1
        have hgl3 := htw.gm_lt
        have hra : rowOf Aa ≠ some wr.heap.size := fun e => by have := (htw.ha.row_lt e).1; omega
        have hrb : rowOf Ab ≠ some wr.heap.size := fun e => by have := (htw.hb.row_lt e).1; omega
        have HTW := Lib.hid tw1
        have hbox1 := hbox
        unfold opCells at hbox1 hW1 HD
        obtain ⟨e0, e1, e2, e3, e4, e5, e6, e7⟩ := cells8 hbox1
        replace hW1 := Lib.hid hW1
        replace hbox := Lib.hid hbox
        replace hv := Lib.hid hv
        replace hok := Lib.hid hok
        replace hoo := Lib.hid hoo
        clear htw tw1 hBa hbox1 hv1
        go_upto_region 8 with fail
        rw [← hW1.out]
        go_wp2_with fail
        refine HD.out.mono ?_
        rintro x w5 ⟨rfl, hs5⟩
        obtain ⟨Aa', tw5⟩ := HTW.out.stepA hs5
        have hk5 := (hs5.keep hzW (by omega) hra).trans hbox.out
        have hz5 := hs5.size
        clear hs5 HTW HD e0 e1 e2 e3 e4 e5 e6 e7
        have hv5 := hv.out.later (tw5.below)
        have HD := Lib.hid (do_any (X := Hot w.heap.size w3.heap.size Aa') w.heap.size gb Ab s 1 j hok.out (by omega) o hoo.out 0 w.heap.size vk vn vf vs A1 m c w5 tw5.hb (by have := hok.out.len; omega) (by omega) (fun r hr => by
          rcases hr with q | q | q
          · subst q; exact tw5.ha.lt.1
          · subst q; exact tw5.gm_lt
          · exact (tw5.ha.row_lt q).1) hv5 (by omega))
        have HTW := Lib.hid tw5.symm
        have hbox1 := hk5
        unfold opCells at hbox1 HD
        obtain ⟨e0, e1, e2, e3, e4, e5, e6, e7⟩ := cells8 hbox1
        replace hbox := Lib.hid hk5
        clear tw5 hbox1 hk5 hv5
        go_wp2_with fail
        refine HD.out.mono ?_
        rintro x w6 ⟨rfl, hs6⟩
        obtain ⟨Ab', tw6⟩ := HTW.out.stepA hs6
        replace tw6 := tw6.symm
        have hk6 := (hs6.keep (by omega) (by omega) hrb).trans hbox.out
        have hz6 := hs6.size
        clear hs6 HTW HD e0 e1 e2 e3 e4 e5 e6 e7
        have HD := Lib.hid (model_any w.heap.size Am cm s 1 j hok.out (by omega) o hoo.out vk vn vf vs A1 m c w6 tw6.hm (by have := hok.out.len; omega) tw6.below.size (hv.out.later tw6.below))
        have hbm := tw6.box
        obtain ⟨b0, b1, b2, -, -, -⟩ := cells3 hbm
        have HTW := Lib.hid tw6
        have hbox1 := hk6
        unfold opCells at hbox1 HD
        obtain ⟨e0, e1, e2, e3, e4, e5, e6, e7⟩ := cells8 hbox1
        clear tw6 hbox1 hk6 hbm hbox
        go_wp2_with fail
        refine HD.out.mono ?_
        rintro x w7 ⟨Am', cm', rfl, hr7⟩
        have htw7 := (HTW.out.later hr7.1).box
        obtain ⟨m0, m1, m2, f0, f1, f2⟩ := cells3 htw7
        have HTW8 := Lib.hid (HTW.out.stepM hr7)
        have HOK := Lib.hid (doS_ok hok.out o hsl)
        clear hr7 htw7 HTW HD e0 e1 e2 e3 e4 e5 e6 e7 b0 b1 b2 hok hoo hv
        go_upto_region 11 with fail
        generalize doS s o = q at *
        obtain ⟨s', n'⟩ := q
        simp only at HTW8 HOK ⊢
        generalize hW8 : ((w7.setCell _ _).setCell _ _).setCell _ _ = W8 at HTW8 ⊢
        have hEv := Lib.hid (events_any (X := Hot w.heap.size w3.heap.size Aa') w.heap.size gb Ab' s' W8 HTW8.out.hb (by have := HOK.out.len; omega) HOK.out.slim)
        generalize hnn : s'.es.length = nn at *
        clear hW8 m0 m1 m2 f0 f1 f2
        go_wp2_with fail
        refine hEv.out.mono ?_
        rintro x w9 ⟨A2, cap2, rfl, hb9, hev⟩
        have HB9 := Lib.hid hb9
        have HM9 := Lib.hid hev.mut
        have hc2 := hev.read.le
        have hc3 := hev.read.cap_le
        simp only [maxLen] at hc3
        rw [hnn] at hc2
        clear hev hb9 hEv
        go_wp2_with fail
        go_loopw [55] (fun i wi => ∃ (p : Nat), p ≤ nn ∧ i = .int .i64 p ∧ Below W8.heap.size W8 wi ∧ MutAt wi W8.heap.size A2 nn) (fun i _ => nn - (intOf i).toNat)
        case atStart => exact ⟨0, by omega, rfl, HB9.out, HM9.out⟩
        case round =>
          obtain ⟨p, hp, rfl, hbi, hmi⟩ := hrel
          by_cases hpl : p < nn
          · obtain ⟨r, rfl, hr1, hr2, hr3⟩ := hmi (by omega)
            obtain ⟨e, wk, wn, wf, ws, A3, m3, c3, hcs, hm3, hc3', hna⟩ := hr3 p hpl
            have q0 := hcs 0 (by omega); have q1 := hcs 1 (by omega); have q2 := hcs 2 (by omega); have q3 := hcs 3 (by omega); have q4 := hcs 4 (by omega); have q5 := hcs 5 (by omega); have q6 := hcs 6 (by omega); have q7 := hcs 7 (by omega); have q8 := hcs 8 (by omega); have q9 := hcs 9 (by omega); have q10 := hcs 10 (by omega)
            simp [evCells] at q0 q1 q2 q3 q4 q5 q6 q7 q8 q9 q10
            have h9 : 0 < m3 → ∃ b off, A3 = some ⟨b, off, none⟩ ∧ b < wr.heap.size ∧ b ≠ r ∧ W8.heap.size ≤ b := fun h => by
              obtain ⟨b, off, z1, z2, z3, z4, -⟩ := hna h
              exact ⟨b, off, z1, z4, z2, z3⟩
            obtain ⟨W3, hW3⟩ : ∃ W3, W3 = wr.alloc (.cells (evCells e wk wn wf ws A3 m3 c3) 45) := ⟨_, rfl⟩
            have hBa3 : Below wr.heap.size wr W3 := by rw [hW3]; exact (Below.refl _ _).alloc (Nat.le_refl _) _
            have hbx3 : EBox W3 wr.heap.size (evCells e wk wn wf ws A3 m3 c3) := by rw [hW3]; exact heap_alloc_new wr _
            obtain ⟨-, -, -, -, -, -, -, -, -, -, v10⟩ := EBox.cells hbx3
            have HI := Lib.hid (hbi.trans (hBa3.mono hbi.size))
            have HMI := Lib.hid (hmi.later hBa3)
            have HNA := Lib.hid (hna.later hBa3)
            have H9 := Lib.hid h9
            simp only [maxLen] at hc3'
            unfold evCells at hW3
            replace hW3 := Lib.hid hW3
            clear hcs hr3 hmi hbi hna h9 hBa3 hbx3
            go_upto_region 14 with fail
            rw [← hW3.out]
            go_wp2_with fail
            generalize hzi : wr.heap.size = zi at *
            go_loopw [63] (fun i wk => ∃ (q : Nat), q ≤ m3 ∧ i = .int .i64 q ∧ Below W8.heap.size W8 wk ∧ MutAt wk W8.heap.size (some ⟨r, 0, none⟩) nn ∧ NAt wk W8.heap.size r A3 m3 ∧ wk.cell? ⟨zi, 10, none⟩ = some (.slice A3 m3 c3)) (fun i _ => m3 - (intOf i).toNat)
            case atStart => exact ⟨0, by omega, rfl, HI.out, HMI.out, HNA.out, v10⟩
            case round =>
              obtain ⟨q, hq, rfl, hbk, hmk, hnk, hck⟩ := hrel
              by_cases hql : q < m3
              · obtain ⟨b3, off3, rfl, hbl3, hbr3, hbb3⟩ := H9.out (by omega)
                obtain ⟨b3', off3', hA3, -, -, -, hN⟩ := hnk (by omega)
                injection hA3 with hA3
                injection hA3 with h1 h2 _
                subst h1 h2
                obtain ⟨⟨x3, hx3⟩, hfz⟩ := hN q hql
                have HBK := Lib.hid hbk; have HMK := Lib.hid hmk; have HNK := Lib.hid hnk
                clear hbk hmk hnk hN
                go_wp2_with fail
                refine ⟨⟨q + 1, by omega, by go_num, HBK.out.setCell hbb3 _, HMK.out.set _ (fun r' hr' => by cases hr'; exact hbr3) _, HNK.out.set _ _, ?_⟩, by simp [intOf]; omega⟩
                rw [World.cell?_setCell_other _ _ _ _ (fun e => by injection e with e; omega)]
                exact hck
              · have hq' : q = m3 := by omega
                subst hq'
                have HBK := Lib.hid hbk; have HMK := Lib.hid hmk
                clear hbk hmk hnk
                go_wp2_with fail
                exact ⟨⟨p + 1, by omega, by go_num, HBK.out, HMK.out⟩, by simp [intOf]; omega⟩
          · have hp' : p = nn := by omega
            subst hp'
            have HTE := Lib.hid (HTW8.out.later hbi)
            clear hbi hmi
            go_wp2_with fail
            exact ⟨⟨j + 1, s', Aa', Ab', Am', cm', by omega, by go_num, HTE.out, HOK.out⟩, by simp [intOf]; omega⟩
      · have hj' : j = ops.length := by omega
        subst hj'
        have HBW := Lib.hid htw.below
        have HAl : Hid (Calls Try.prog 9 #[] wr.drew fun r w' => r = .returned (.bool true) ∧ Below wr.heap.size wr w') := Lib.hid ((alive_any wr.drew).mono fun r w' h => ⟨h.1, (below_drew (Below.refl _ _)).trans h.2⟩)
        have HEa : Hid (∀ W, Below wr.heap.size wr W → Calls Try.prog 15 #[.pointer (some ⟨w.heap.size, 0, none⟩)] W fun r w' => ∃ A2 cap2, r = .returned (.slice A2 s.es.length cap2) ∧ Below W.heap.size W w' ∧ Below wr.heap.size wr w' ∧ EvsIn w' A2 cap2 s.es) := Lib.hid fun W hW => (events_any w.heap.size w.heap.size Aa s W (htw.later hW).ha (by have := hok.len; omega) hok.slim).mono fun r w' ⟨A2, cap2, h1, h2, h3⟩ => ⟨A2, cap2, h1, h2, hW.trans (h2.mono hW.size), h3.read⟩
        have HEb : Hid (∀ W, Below wr.heap.size wr W → Calls Try.prog 15 #[.pointer (some ⟨gb, 0, none⟩)] W fun r w' => ∃ A2 cap2, r = .returned (.slice A2 s.es.length cap2) ∧ Below W.heap.size W w' ∧ Below wr.heap.size wr w' ∧ EvsIn w' A2 cap2 s.es) := Lib.hid fun W hW => (events_any w.heap.size gb Ab s W (htw.later hW).hb (by have := hok.len; omega) hok.slim).mono fun r w' ⟨A2, cap2, h1, h2, h3⟩ => ⟨A2, cap2, h1, h2, hW.trans (h2.mono hW.size), h3.read⟩
        have HMt : Hid (∀ W A2 cap2 A3 cap3, EvsIn W A2 cap2 s.es → EvsIn W A3 cap3 s.es → Calls Try.prog 25 #[.slice A2 s.es.length cap2, .slice A3 s.es.length cap3] W fun r w' => r = .returned (.int .i64 (-1)) ∧ Below W.heap.size W w') := Lib.hid fun W A2 cap2 A3 cap3 h1 h2 => match_same s.es A2 A3 cap2 cap3 W h1 h2
        have HSm : Hid (∀ W A2 cap2 A3 cap3, EvsIn W A2 cap2 s.es → EvsIn W A3 cap3 s.es → Calls Try.prog 17 #[.slice A2 s.es.length cap2, .slice A3 s.es.length cap3] W fun r w' => r = .returned (.bool true) ∧ Below W.heap.size W w') := Lib.hid fun W A2 cap2 A3 cap3 h1 h2 => (sevs_any s.es s.es A2 A3 cap2 cap3 W h1 h2).mono fun r w' h => ⟨by rw [h.1, evsSame_refl], h.2⟩
        have HBm : Hid (∀ W, Below wr.heap.size wr W → W.cell? ⟨w3.heap.size, 2, none⟩ = some (.slice Am s.es.length cm) ∧ EvsIn W Am cm s.es) := Lib.hid fun W hW => ⟨(cells3 (htw.later hW).box).2.2.1, (htw.later hW).hm.read (htw.later hW).below.size⟩
        clear htw hok HT0 HS0 HSL HB3
        go_upto_region 21 with fail
        refine wp_region_any (by kernel_rfl) ?_
        change wpAny _ _ _ _ _ _ _ (World.drew _)
        refine wpAny_ready (rs := [0]) (by kernel_rfl) (by simp) ?_
        refine consA rfl (fun K hK => ?_) AllReady.nil
        go_simp
        refine HAl.out.mono ?_
        rintro x v1 ⟨rfl, hb1⟩
        have HB1 := Lib.hid hb1
        clear hb1
        go_wp2_with fail
        try simp only [Act.put, List.setIfInBounds_toArray, List.set_cons_zero, List.set_cons_succ]
        refine takeA (i := 1) (v := ?_) rfl (by kernel_rfl) (by kernel_rfl) (by kernel_rfl) (fun _ _ _ h => h) (Or.inl ⟨by rfl, ?_⟩) ?_
        rotate_left 1
        focus (intro w; go_simp; try with_reducible rfl)
        try simp only [Act.put, List.setIfInBounds_toArray, List.set_cons_zero, List.set_cons_succ]
        refine takeA (i := 2) (v := ?_) rfl (by kernel_rfl) (by kernel_rfl) (by kernel_rfl) (fun _ _ _ h => h) (Or.inl ⟨by rfl, ?_⟩) ?_
        rotate_left 1
        focus (intro w; go_simp; try with_reducible rfl)
        try simp only [Act.put, List.setIfInBounds_toArray, List.set_cons_zero, List.set_cons_succ]
        refine takeA (i := 4) (v := ?_) rfl (by kernel_rfl) (by kernel_rfl) (by kernel_rfl) (fun _ _ _ h => h) (Or.inl ⟨by rfl, ?_⟩) ?_
        rotate_left 1
        focus (intro w; go_simp; try with_reducible rfl)
        try simp only [Act.put, List.setIfInBounds_toArray, List.set_cons_zero, List.set_cons_succ]
        refine wpAny_ready (rs := [3]) (by kernel_rfl) (by simp) ?_
        refine consA rfl (fun K hK => ?_) AllReady.nil
        go_simp
        refine (HEa.out _ HB1.out).mono ?_
        rintro x v2 ⟨A2, c2, rfl, hw2, hb2, he2⟩
        have HW2 := Lib.hid hw2
        have HB2 := Lib.hid hb2
        have HE2 := Lib.hid he2
        have lc2 := he2.le
        have lm2 := he2.cap_le
        clear hw2 hb2 he2
        go_wp2_with fail
        try simp only [Act.put, List.setIfInBounds_toArray, List.set_cons_zero, List.set_cons_succ]
        refine wpAny_ready (rs := [5]) (by kernel_rfl) (by simp) ?_
        refine consA rfl (fun K hK => ?_) AllReady.nil
        go_simp
        refine (HEb.out _ HB2.out).mono ?_
        rintro x v3 ⟨A3, c3, rfl, hw3, hb3, he3⟩
        have HW3 := Lib.hid hw3
        have HB3 := Lib.hid hb3
        have HE3 := Lib.hid he3
        have lc3 := he3.le
        have lm3 := he3.cap_le
        clear hw3 hb3 he3
        go_wp2_with fail
        try simp only [Act.put, List.setIfInBounds_toArray, List.set_cons_zero, List.set_cons_succ]
        refine wpAny_ready (rs := [6]) (by kernel_rfl) (by simp) ?_
        refine consA rfl (fun K hK => ?_) AllReady.nil
        go_simp
        refine (HMt.out _ _ _ _ _ (HE2.out.later HW3.out) HE3.out).mono ?_
        rintro x v4 ⟨rfl, hb4⟩
        have HB4 := Lib.hid (HB3.out.trans (hb4.mono HB3.out.size))
        clear hb4
        obtain ⟨k4, -⟩ := HBm.out _ HB4.out
        go_wp2_with fail
        try simp only [Act.put, List.setIfInBounds_toArray, List.set_cons_zero, List.set_cons_succ]
        refine takeA (i := 7) (v := ?_) rfl (by kernel_rfl) (by kernel_rfl) (by kernel_rfl) (fun _ _ _ h => h) (Or.inl ⟨by rfl, ?_⟩) ?_
        rotate_left 1
        focus (intro w; go_simp; try with_reducible rfl)
        try simp only [Act.put, List.setIfInBounds_toArray, List.set_cons_zero, List.set_cons_succ]
        refine takeA (i := 8) (v := ?_) rfl (by kernel_rfl) (by kernel_rfl) (by kernel_rfl) (fun _ _ _ h => h) (Or.inl ⟨by rfl, ?_⟩) ?_
        rotate_left 1
        focus (intro w; go_simp; try with_reducible rfl)
        try simp only [Act.put, List.setIfInBounds_toArray, List.set_cons_zero, List.set_cons_succ]
        refine takeA (i := 9) (v := ?_) rfl (by kernel_rfl) (by kernel_rfl) (by kernel_rfl) (fun _ _ _ h => h) (Or.inl ⟨by rfl, ?_⟩) ?_
        rotate_left 1
        focus (intro w; go_simp; try with_reducible rfl)
        try simp only [Act.put, List.setIfInBounds_toArray, List.set_cons_zero, List.set_cons_succ]
        refine takeA (i := 10) (v := ?_) rfl (by kernel_rfl) (by kernel_rfl) (by kernel_rfl) (fun _ _ _ h => h) (Or.inl ⟨by rfl, ?_⟩) ?_
        rotate_left 1
        focus (intro w; go_simp; try with_reducible rfl)
        try simp only [Act.put, List.setIfInBounds_toArray, List.set_cons_zero, List.set_cons_succ]
        refine takeA (i := 12) (v := ?_) rfl (by kernel_rfl) (by kernel_rfl) (by kernel_rfl) (fun _ _ _ h => h) (Or.inl ⟨by rfl, ?_⟩) ?_
        rotate_left 1
        focus (intro w; go_simp; try with_reducible rfl)
        try simp only [Act.put, List.setIfInBounds_toArray, List.set_cons_zero, List.set_cons_succ]
        refine wpAny_ready (rs := [11, 13]) (by kernel_rfl) (by simp) ?_
        refine consA rfl (fun K hK => ?_) (consA rfl (fun K hK => ?_) AllReady.nil)
        · go_simp
          refine (HEb.out _ HB4.out).mono ?_
          rintro x v5 ⟨A5, c5, rfl, hw5, hb5, he5⟩
          have HW5 := Lib.hid hw5
          have HB5 := Lib.hid hb5
          have HE5 := Lib.hid he5
          have lc5 := he5.le
          have lm5 := he5.cap_le
          clear hw5 hb5 he5
          obtain ⟨k5, -⟩ := HBm.out _ HB5.out
          go_wp2_with fail
          try simp only [Act.put, List.setIfInBounds_toArray, List.set_cons_zero, List.set_cons_succ]
          refine wpAny_ready (rs := [13]) (by kernel_rfl) (by simp) ?_
          refine consA rfl (fun K hK => ?_) AllReady.nil
          go_simp
          refine hK _ _ ?_
          clear hK K
          try simp only [Act.put, List.setIfInBounds_toArray, List.set_cons_zero, List.set_cons_succ]
          refine wpAny_ready (rs := [14]) (by kernel_rfl) (by simp) ?_
          refine consA rfl (fun K hK => ?_) AllReady.nil
          go_simp
          refine (HSm.out _ _ _ _ _ HE5.out (HBm.out _ HB5.out).2).mono ?_
          rintro x v6 ⟨rfl, hb6⟩
          have HB6 := Lib.hid (HB5.out.trans (hb6.mono HB5.out.size))
          clear hb6
          go_wp2_with fail
          try simp only [Act.put, List.setIfInBounds_toArray, List.set_cons_zero, List.set_cons_succ]
          refine takeA (i := 15) (v := ?_) rfl (by kernel_rfl) (by kernel_rfl) (by kernel_rfl) (fun _ _ _ h => h) (Or.inl ⟨by rfl, ?_⟩) ?_
          rotate_left 1
          focus (intro w; go_simp; try with_reducible rfl)
          try simp only [Act.put, List.setIfInBounds_toArray, List.set_cons_zero, List.set_cons_succ]
          refine takeA (i := 16) (v := ?_) rfl (by kernel_rfl) (by kernel_rfl) (by kernel_rfl) (fun _ _ _ h => h) (Or.inl ⟨by rfl, ?_⟩) ?_
          rotate_left 1
          focus (intro w; go_simp; try with_reducible rfl)
          try simp only [Act.put, List.setIfInBounds_toArray, List.set_cons_zero, List.set_cons_succ]
          refine wpAny_done (by kernel_rfl) ?_ _
          go_wp2_with fail
          go_ret
          exact ⟨rfl, HBW.out.trans (HB6.out.mono HBW.out.size)⟩
        · go_simp
          refine hK _ _ ?_
          clear hK K
          try simp only [Act.put, List.setIfInBounds_toArray, List.set_cons_zero, List.set_cons_succ]
          refine wpAny_ready (rs := [11]) (by kernel_rfl) (by simp) ?_
          refine consA rfl (fun K hK => ?_) AllReady.nil
          go_simp
          refine (HEb.out _ HB4.out).mono ?_
          rintro x v5 ⟨A5, c5, rfl, hw5, hb5, he5⟩
          have HW5 := Lib.hid hw5
          have HB5 := Lib.hid hb5
          have HE5 := Lib.hid he5
          have lc5 := he5.le
          have lm5 := he5.cap_le
          clear hw5 hb5 he5
          go_wp2_with fail
          try simp only [Act.put, List.setIfInBounds_toArray, List.set_cons_zero, List.set_cons_succ]
          refine wpAny_ready (rs := [14]) (by kernel_rfl) (by simp) ?_
          refine consA rfl (fun K hK => ?_) AllReady.nil
          go_simp
          refine (HSm.out _ _ _ _ _ HE5.out (HBm.out _ HB5.out).2).mono ?_
          rintro x v6 ⟨rfl, hb6⟩
          have HB6 := Lib.hid (HB5.out.trans (hb6.mono HB5.out.size))
          clear hb6
          go_wp2_with fail
          try simp only [Act.put, List.setIfInBounds_toArray, List.set_cons_zero, List.set_cons_succ]
          refine takeA (i := 15) (v := ?_) rfl (by kernel_rfl) (by kernel_rfl) (by kernel_rfl) (fun _ _ _ h => h) (Or.inl ⟨by rfl, ?_⟩) ?_
          rotate_left 1
          focus (intro w; go_simp; try with_reducible rfl)
          try simp only [Act.put, List.setIfInBounds_toArray, List.set_cons_zero, List.set_cons_succ]
          refine takeA (i := 16) (v := ?_) rfl (by kernel_rfl) (by kernel_rfl) (by kernel_rfl) (fun _ _ _ h => h) (Or.inl ⟨by rfl, ?_⟩) ?_
          rotate_left 1
          focus (intro w; go_simp; try with_reducible rfl)
          try simp only [Act.put, List.setIfInBounds_toArray, List.set_cons_zero, List.set_cons_succ]
          refine wpAny_done (by kernel_rfl) ?_ _
          go_wp2_with fail
          go_ret
          exact ⟨rfl, HBW.out.trans (HB6.out.mono HBW.out.size)⟩
end Cm
end Go.Proofs.Ytpnepnhajpmccaa
