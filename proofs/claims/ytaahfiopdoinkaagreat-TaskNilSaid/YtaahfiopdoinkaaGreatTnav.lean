/- The reference's outside: a timer fired. -/
import Derived.Laws.Rows
import Derived.Laws.IdiomRangeMap
import Derived.Test.YtaahfiopdoinkaaGreatTnap
import Derived.Test.YtaahfiopdoinkaaGreatTnau
import Derived.Test.YtaahfiopdoinkaaGreatTnam
set_option linter.unusedVariables false
set_option linter.unusedSimpArgs false
open Go.RowKit
namespace Go.Proofs.YtaahfiopdoinkaaGreat
namespace Hi
open _root_.Go.Proofs.YtaahfiopdoinkaaGreat.Nm (ret_int ret_bool)
open Vt (VT Rep below_drew Cloned put5)
open Ev (EV FieldsOk evCells vCells EBox take_drop tk ap rd1 rd2 cons_drop)
open Cm (rowOf EvsIn)
open Cn (BT BB BtsIn box_ev)
variable {X X' Y Y' : Nat → Prop} {u v w w' V V' : World} {hb bt bm bk n cap : Nat} {A : Option Addr} {h : HM}
theorem fm_take : ∀ (l : List (Nat × Nat)) (j : Nat), (l.flatMap timerL).take (j * 2) = (l.take j).flatMap timerL
 | [], j => by simp
 | x :: l, 0 => by simp
 | x :: l, j + 1 => by
  rw [List.flatMap_cons, List.take_succ_cons, List.flatMap_cons, ← fm_take l j, Nat.succ_mul, List.take_append, timerL_len, List.take_of_length_le (by rw [timerL_len]; omega), Nat.add_sub_cancel]
theorem fm_drop : ∀ (l : List (Nat × Nat)) (j : Nat), (l.flatMap timerL).drop (j * 2) = (l.drop j).flatMap timerL
 | [], j => by simp
 | x :: l, 0 => by simp
 | x :: l, j + 1 => by
  rw [List.flatMap_cons, List.drop_succ_cons, ← fm_drop l j, Nat.succ_mul, List.drop_append, timerL_len, List.drop_of_length_le (by rw [timerL_len]; omega), Nat.add_sub_cancel, List.nil_append]
set_option maxRecDepth 100000 in
set_option maxHeartbeats 2000000 in
theorem out5_any (s : ST) (f : ByteArray) (Bu : Option Addr) (nu cu : Nat) (uk ut um : Value) (b : BT) (A : Option Addr) (cap : Nat) (w : World) (h : OIn X w s uk ut um b A cap) (hp : 0 < b.es.length) (he : EvOk (b.es[0]'hp)) (hk : b.es[0].k = 5) :
  Calls Tryz.prog 81 #[.agg (rhC f (.slice Bu nu cu) s.closed s.next uk ut um), .agg #[.string b.flow, .int .u64 (b.at' : Nat), .slice A b.es.length cap]] w (ROut X w f (.slice Bu nu cu) (applyM b.at' (decide (b.es.length = 1)) (b.es[0]'hp) s)) := by
 obtain ⟨Ak, nk, ck, rfl⟩ : ∃ A n c, uk = .slice A n c := by obtain ⟨xs, ⟨-, -, A, c, e, -⟩, -⟩ := h.rs.keys; exact ⟨_, _, _, e⟩
 obtain ⟨Aq, nt, ct, rfl⟩ : ∃ A n c, ut = .slice A n c := by obtain ⟨xs, ⟨-, -, A, c, e, -⟩, -⟩ := h.rs.tasks; exact ⟨_, _, _, e⟩
 obtain ⟨Am, nm, cm, rfl⟩ : ∃ A n c, um = .slice A n c := by obtain ⟨xs, ⟨-, -, A, c, e, -⟩, -⟩ := h.rs.timers; exact ⟨_, _, _, e⟩
 obtain ⟨eb, eo, lo0, hi0, vk, vn, vf, vs, A0, m0, c0, rfl, heb, hff, hrep, hhi, z0, z1, z2, z3, z4, z5, z6, z7, z8, z9, z10⟩ := h.evs.get 0 hp
 have hrepV := hrep
 replace hrep := Rep.leads hrep (leads_veil X w)
 rw [veil_size] at heb hhi
 replace z0 := (leads_veil X w).cell z0
 replace z1 := (leads_veil X w).cell z1
 replace z2 := (leads_veil X w).cell z2
 replace z3 := (leads_veil X w).cell z3
 replace z4 := (leads_veil X w).cell z4
 replace z5 := (leads_veil X w).cell z5
 replace z6 := (leads_veil X w).cell z6
 replace z7 := (leads_veil X w).cell z7
 replace z8 := (leads_veil X w).cell z8
 replace z9 := (leads_veil X w).cell z9
 replace z10 := (leads_veil X w).cell z10
 have hle := h.evs.le
 have hcm := h.evs.cap_le
 simp only [maxLen] at hcm
 rw [show eo + 0 * 11 = eo by omega] at z0 z1 z2 z3 z4 z5 z6 z7 z8 z9 z10
 obtain ⟨m, hm⟩ : ∃ m, m = b.es.length := ⟨_, rfl⟩
 obtain ⟨ff, hf0⟩ : ∃ ff, ff = b.flow := ⟨_, rfl⟩
 obtain ⟨at', hat⟩ : ∃ at', at' = b.at' := ⟨_, rfl⟩
 obtain ⟨e, hee⟩ : ∃ e, e = b.es[0]'hp := ⟨_, rfl⟩
 have hbat := h.at'
 rw [← hat] at hbat
 rw [← hee] at hff hrep hrepV z0 z1 z2 z3 z4 z5 he hk ⊢
 have HRV := Lib.hid h.rs; have HRS := Lib.hid (h.rs.leads (leads_veil X w)); have HXB := Lib.hid h.xb; have HFI := Lib.hid h.fine; have hn1 := h.n1; have hn2 := h.n2; have hn3 := h.n3; have hn4 := h.n4
 rw [← hm] at hle ⊢
 rw [← hf0, ← hat]
 have hmp : 0 < m := by omega
 clear h hee hat hf0 hm hp
 obtain ⟨k, id, en, ea, name, text, ev⟩ := e
 have hid := he.f.i1
 dsimp only at hid hk hrep hrepV hff z0 z1 z2 z3 z4 z5 z6 z7 z8 z9 z10
 obtain rfl : k = 5 := hk
 have HE := Lib.hid he
 obtain ⟨W0, hW0⟩ : ∃ W0, W0 = ((w.alloc (.cells (rhC f (.slice Bu nu cu) s.closed s.next (.slice Ak nk ck) (.slice Aq nt ct) (.slice Am nm cm)) 84)).alloc (.cells #[.string ff, .int .u64 (at' : Nat), .slice (some ⟨eb, eo, none⟩) m cap] 64)).alloc (.cells (rhC ⟨#[]⟩ (.slice none 0 0) 0 0 (.slice none 0 0) (.slice none 0 0) (.slice none 0 0)) 84) := ⟨_, rfl⟩
 obtain ⟨W1, hW1⟩ : ∃ W1, W1 = W0.alloc (.cells (evCells ⟨5, id, en, ea, name, text, ev⟩ vk vn vf vs A0 m0 c0) 61) := ⟨_, rfl⟩
 have hs0 : W0.heap.size = w.heap.size + 3 := by rw [hW0]; simp
 have hs1 : W1.heap.size = w.heap.size + 4 := by rw [hW1]; simp [hs0]
 have hb0 : Below w.heap.size w W0 := by rw [hW0]; exact (((Below.refl _ _).alloc (Nat.le_refl _) _).alloc (by simp) _).alloc (by simp; omega) _
 have hb1 : Below w.heap.size w W1 := by rw [hW1]; exact hb0.alloc (by omega) _
 have hx0 : W0.heap[w.heap.size]? = some (.cells (rhC f (.slice Bu nu cu) s.closed s.next (.slice Ak nk ck) (.slice Aq nt ct) (.slice Am nm cm)) 84 (0, 0)) := by rw [hW0]; exact (heap_alloc_old _ _ (by simp; omega)).trans ((heap_alloc_old _ _ (by simp)).trans (heap_alloc_new w _))
 have hx1 : W0.heap[w.heap.size + 1]? = some (.cells #[.string ff, .int .u64 (at' : Nat), .slice (some ⟨eb, eo, none⟩) m cap] 64 (0, 0)) := by
  rw [hW0, heap_alloc_old _ _ (by simp)]
  have e := heap_alloc_new (w.alloc (.cells (rhC f (.slice Bu nu cu) s.closed s.next (.slice Ak nk ck) (.slice Aq nt ct) (.slice Am nm cm)) 84)) (.cells #[.string ff, .int .u64 (at' : Nat), .slice (some ⟨eb, eo, none⟩) m cap] 64)
  rw [World.size_alloc] at e
  exact e
 have hx2 : W0.heap[w.heap.size + 2]? = some (.cells (rhC ⟨#[]⟩ (.slice none 0 0) 0 0 (.slice none 0 0) (.slice none 0 0) (.slice none 0 0)) 84 (0, 0)) := by
  rw [hW0]
  have e := heap_alloc_new ((w.alloc (.cells (rhC f (.slice Bu nu cu) s.closed s.next (.slice Ak nk ck) (.slice Aq nt ct) (.slice Am nm cm)) 84)).alloc (.cells #[.string ff, .int .u64 (at' : Nat), .slice (some ⟨eb, eo, none⟩) m cap] 64)) (.cells (rhC ⟨#[]⟩ (.slice none 0 0) 0 0 (.slice none 0 0) (.slice none 0 0) (.slice none 0 0)) 84)
  simp only [World.size_alloc] at e
  exact e
 have HX : Hid (∀ W, Below W1.heap.size W1 W → RX W w.heap.size f (.slice Bu nu cu) s.closed s.next (.slice Ak nk ck) (.slice Aq nt ct) (.slice Am nm cm) ∧ BB W (w.heap.size + 1) ff at' (some ⟨eb, eo, none⟩) m cap ∧ RX W (w.heap.size + 1 + 1) ⟨#[]⟩ (.slice none 0 0) 0 0 (.slice none 0 0) (.slice none 0 0) (.slice none 0 0) ∧ EBox W (w.heap.size + 3) (evCells ⟨5, id, en, ea, name, text, ev⟩ vk vn vf vs A0 m0 c0)) := Lib.hid fun W hW => by
  have o : ∀ c, c < w.heap.size + 3 → W.heap[c]? = W0.heap[c]? := fun c hc => (hW.block c (by omega)).trans (by rw [hW1]; exact heap_alloc_old _ _ (by omega))
  refine ⟨(o _ (by omega)).trans hx0, (o _ (by omega)).trans hx1, (o _ (by omega)).trans hx2, (hW.block _ (by omega)).trans ?_⟩
  rw [hW1, ← hs0]; exact heap_alloc_new ..
 have HBW : Hid (∀ W, Below W1.heap.size W1 W → Below w.heap.size w W) := Lib.hid fun W hW => hb1.trans (hW.mono hb1.size)
 have HTK := Lib.hid (rtask_any s.tasks id hid f (.slice Bu nu cu) (.slice Ak nk ck) (.slice Aq nt ct) (.slice Am nm cm) s.closed s.next W1 ((HRS.out.later hb1).tasks))
 have HS1 := Lib.hid hs1; have HB1 := Lib.hid hb1
 obtain ⟨y0, y1, y2, -⟩ := BB.cells (show BB W0 (w.heap.size + 1) ff at' (some ⟨eb, eo, none⟩) m cap from hx1)
 obtain ⟨x0, x1, x2, x3, x4, x5, x6, -⟩ := (HX.out W1 (Below.refl _ _)).1.cells
 have e0 := (hb0.cell (p := ⟨eb, eo, none⟩) heb).trans z0
 have e1 := (hb0.cell (p := ⟨eb, eo + 1, none⟩) heb).trans z1
 have e2 := (hb0.cell (p := ⟨eb, eo + 2, none⟩) heb).trans z2
 have e3 := (hb0.cell (p := ⟨eb, eo + 3, none⟩) heb).trans z3
 have e4 := (hb0.cell (p := ⟨eb, eo + 4, none⟩) heb).trans z4
 have e5 := (hb0.cell (p := ⟨eb, eo + 5, none⟩) heb).trans z5
 have e6 := (hb0.cell (p := ⟨eb, eo + 6, none⟩) heb).trans z6
 have e7 := (hb0.cell (p := ⟨eb, eo + 7, none⟩) heb).trans z7
 have e8 := (hb0.cell (p := ⟨eb, eo + 8, none⟩) heb).trans z8
 have e9 := (hb0.cell (p := ⟨eb, eo + 9, none⟩) heb).trans z9
 have e10 := (hb0.cell (p := ⟨eb, eo + 10, none⟩) heb).trans z10
 have HREP := Lib.hid hrep; have HREPV := Lib.hid hrepV; have HHI := Lib.hid hhi
 unfold rhC at hW0 HTK ⊢
 unfold evCells at hW1
 dsimp only at hW1
 rw [show ((0 : Nat) : Int) = 0 from rfl] at hW0
 have hWs := Lib.hid hs0
 clear hs0 hs1 hb0 hb1 hx0 hx1 hx2 z0 z1 z2 z3 z4 z5 z6 z7 z8 z9 z10 hrep hrepV hhi hff he heb
 replace hW0 := Lib.hid hW0
 replace hW1 := Lib.hid hW1
 obtain ⟨al, hal⟩ : ∃ al, al = decide (m = 1) := ⟨_, rfl⟩
 have hm1 : ((m : Int) == 1) = al := by
  rw [hal]
  by_cases q : m = 1
  ·subst q; rfl
  ·rw [decide_eq_false q, beq_eq_false_iff_ne]; omega
 rw [← hal]
 have HAL := Lib.hid hal
 clear hal
 go_enter Tryz.func81, Tryz.ntmps81
 go_upto_region 1 with fail
 rw [← hW0.out]
 go_upto_region 2 with fail
 rw [← hW1.out]
 rw [show W0.heap.size = w.heap.size + 3 from hWs.out]
 clear y0 y1 y2 e0 e1 e2 e3 e4 e5 e6 e7 e8 e9 e10
 obtain ⟨-, y, -, ez⟩ := HX.out W1 (Below.refl _ _)
 obtain ⟨e0, e1, e2, e3, e4, e5, e6, e7, e8, e9, e10⟩ := EBox.cells ez
 dsimp only at e0 e1 e2 e3 e4 e5
 clear ez y
 go_upto_region 24 with (go_at_call 113; refine HTK.out.mono ?_; rintro x w1 ⟨⟨ti, rfl, hti⟩, hq1⟩; have HTI := Lib.hid (idx_get HFI.out.tasks hti); have HQ1 := Lib.hid hq1; clear hti hq1 x0 x1 x2 x3 x4 x5 x6 e0 e1 e2 e3 e4 e5 e6 e7 e8 e9 e10; obtain ⟨x0, x1, x2, x3, x4, x5, x6, -⟩ := (HX.out w1 HQ1.out).1.cells; obtain ⟨y0, y1, y2, -⟩ := (HX.out w1 HQ1.out).2.1.cells; obtain ⟨e0, e1, e2, e3, e4, e5, e6, e7, e8, e9, e10⟩ := EBox.cells (HX.out w1 HQ1.out).2.2.2; dsimp only at e0 e1 e2 e3 e4 e5)
 obtain ⟨xs, hcinV, htm⟩ := HRV.out.timers
 have hcin := hcinV.leads (leads_veil X w)
 clear hcinV
 have HCI := Lib.hid hcin; have HTMC := Lib.hid htm
 obtain ⟨hlen, -, A9, cap9, heq9, hle9, hcp9, hrd9⟩ := hcin
 obtain ⟨rfl, rfl, rfl⟩ : Am = A9 ∧ nm = s.timers.length ∧ cm = cap9 := by injection heq9 with a1 a2 a3; exact ⟨a1, a2, a3⟩
 have HRD := Lib.hid hrd9; have HLEN := Lib.hid hlen
 simp only [maxLen] at hcp9
 obtain ⟨N, hN⟩ : ∃ N, N = s.timers.length := ⟨_, rfl⟩
 rw [← hN] at hle9 hn2 HX x6
 have HNN := Lib.hid hN
 obtain ⟨i0, hi0, hz0, hz1, hz2⟩ := info_parts Tryz.infoRm
 have HSZ := Lib.hid (sz_of hi0 hz1)
 clear hN hrd9 hlen heq9 htm HTI
 go_wp2_with fail
 clear x0 x1 x2 x3 x4 x5 x6 y0 y1 y2 e0 e1 e2 e3 e4 e5 e6 e7 e8 e9 e10
 go_loopw [11] (fun i wr => ∃ (j : Nat), j ≤ N ∧ i = .int .i64 j ∧ (∀ q (hq : q < s.timers.length), q < j → ¬ ((s.timers[q]).1 = id ∧ (s.timers[q]).2 ≤ at')) ∧ Below W1.heap.size W1 wr) (fun i _ => N - (intOf i).toNat)
 case atStart => exact ⟨0, by omega, rfl, fun q _ h => absurd h (by omega), HQ1.out⟩
 case round =>
  obtain ⟨j, hj, rfl, hno, hb⟩ := hrel
  have HNO := Lib.hid hno; have HB := Lib.hid hb
  clear hno hb
  obtain ⟨x0, x1, x2, x3, x4, x5, x6, xf⟩ := (HX.out wr HB.out).1.cells
  obtain ⟨y0, y1, y2, -⟩ := (HX.out wr HB.out).2.1.cells
  obtain ⟨e0, e1, e2, e3, e4, e5, e6, e7, e8, e9, e10⟩ := EBox.cells (HX.out wr HB.out).2.2.2
  dsimp only at e0 e1 e2 e3 e4 e5
  by_cases hlt : j < N
  ·obtain ⟨mb, mo, rfl, hmb, h39⟩ := HRD.out (by have := HNN.out; omega)
   have hjt : j < s.timers.length := by have := HNN.out; omega
   obtain ⟨tm, htm⟩ : ∃ tm, tm = s.timers[j] := ⟨_, rfl⟩
   have HTT := Lib.hid htm
   obtain ⟨tid, tat⟩ := tm
   have g0 := h39 (j * 2 + 0) (.int .u64 (tid : Nat)) (by rw [HTMC.out, flat_get timerL 2 timerL_len _ j 0 hjt (by omega), ← HTT.out]; rfl)
   have g1 := h39 (j * 2 + 1) (.int .u64 (tat : Nat)) (by rw [HTMC.out, flat_get timerL 2 timerL_len _ j 1 hjt (by omega), ← HTT.out]; rfl)
   have t0 := ((HBW.out wr HB.out).cell (p := ⟨mb, mo + (j * 2 + 0), none⟩) hmb).trans g0
   have t1 := ((HBW.out wr HB.out).cell (p := ⟨mb, mo + (j * 2 + 1), none⟩) hmb).trans g1
   rw [Nat.add_zero] at t0
   rw [← Nat.add_assoc] at t1
   have HJT := Lib.hid hjt
   clear g0 g1 htm
   by_cases h1 : tid = id
   ·by_cases h2 : tat ≤ at'
    ·have HN : Hid (applyM at' al ⟨5, id, en, ea, name, text, ev⟩ s = some { s with timers := mdel s.timers id }) := Lib.hid (by
      have hg := mget_at HFI.out.timers HJT.out
      rw [← HTT.out] at hg
      dsimp only at hg
      rw [h1] at hg
      simp [applyM, hg, h2])
     have k1 : ((tid : Int) == (id : Int)) = true := by simp; omega
     have k2 : decide ((tat : Int) ≤ (at' : Int)) = true := decide_eq_true (by omega)
     have H1 := Lib.hid h1
     clear h1
     go_upto_region 27 with fail
     go_quiet (fail)
     generalize hw2 : wr.drewN nq = w2 at *
     have HQ2 : Hid (Below W1.heap.size W1 w2) := Lib.hid (by rw [← hw2]; exact below_drewN HB.out nq)
     clear hw2
     go_upto_region 28 with fail
     clear x0 x1 x2 x3 x4 x5 x6 y0 y1 y2 e0 e1 e2 e3 e4 e5 e6 e7 e8 e9 e10 t0 t1
     obtain ⟨u0, hu0⟩ : ∃ u, u = w2.drew := ⟨_, rfl⟩
     have HBu1 : Hid (∀ W, Below u0.heap.size u0 W → Below W1.heap.size W1 W) := Lib.hid fun W hW => by rw [hu0] at hW; exact (below_drew HQ2.out).trans (hW.mono (below_drew HQ2.out).size)
     have HBu0 : Hid (W1.heap.size ≤ u0.heap.size) := Lib.hid (by rw [hu0]; exact (below_drew HQ2.out).size)
     have HBu : Hid (Below u0.heap.size u0 u0) := Lib.hid (Below.refl _ _)
     have HKS : Hid (∀ W, Below u0.heap.size u0 W → (fun W : World => W.cell? ⟨w.heap.size + 3, 5, none⟩ = some (.string text)) W) := Lib.hid fun W hW => (EBox.cells (HX.out W (HBu1.out W hW)).2.2.2).2.2.2.2.2.1
     have HKS2 : Hid (∀ W v, Below u0.heap.size u0 W → (fun W : World => W.cell? ⟨w.heap.size + 3, 5, none⟩ = some (.string text)) (W.setCell ⟨w.heap.size, 6, none⟩ v)) := Lib.hid fun W v hW => (World.cell?_of_block (a := ⟨w.heap.size + 3, 5, none⟩) (RowKit.Below.heap_setCell _ _ _ _ (by show w.heap.size + 3 ≠ w.heap.size; omega))).trans (HKS.out W hW)
     have HCX : Hid (∀ W, Below u0.heap.size u0 W → W.cell? ⟨w.heap.size, 6, none⟩ = some (.slice (some ⟨mb, mo, none⟩) N cm) ∧ W.frozen? ⟨w.heap.size, 6, none⟩ = false) := Lib.hid fun W hW => ⟨(HX.out W (HBu1.out W hW)).1.cells.2.2.2.2.2.2.1, (HX.out W (HBu1.out W hW)).1.cells.2.2.2.2.2.2.2 6⟩
     have HL2 : Hid (xs.length = N * 2) := Lib.hid (by rw [HNN.out]; exact HLEN.out)
     have HC : Hid (∀ W, Below u0.heap.size u0 W → ∀ p x, xs[p]? = some x → W.cell? ⟨mb, mo + p, none⟩ = some x) := Lib.hid fun W hW p x hx => ((HBW.out W (HBu1.out W hW)).cell (p := ⟨mb, mo + p, none⟩) hmb).trans (h39 p x hx)
     have HMB : Hid (∀ W, Below u0.heap.size u0 W → mb < W.heap.size) := Lib.hid fun W hW => Nat.lt_of_lt_of_le hmb (HBW.out W (HBu1.out W hW)).size
     have HIN : Hid (∀ W, Below u0.heap.size u0 W → CIn W (.slice (some ⟨mb, mo, none⟩) j cm) j 2 (xs.take (j * 2))) := Lib.hid fun W hW => CIn.take HL2.out HCI.out.2.1 hle9 hcp9 (HMB.out W hW) (HC.out W hW) (by omega)
     have HIN2a : Hid (∀ W, Below u0.heap.size u0 W → CIn W (.slice (some ⟨mb, mo + (j + 1) * 2, none⟩) (N - (j + 1)) (cm - (j + 1))) (N - (j + 1)) 2 (xs.drop ((j + 1) * 2))) := Lib.hid fun W hW => CIn.drop HL2.out HCI.out.2.1 hle9 hcp9 (HMB.out W hW) (HC.out W hW) (by omega)
     have HIN2b : Hid (cm = j + 1 → ∀ W, Below u0.heap.size u0 W → CIn W (.slice (some ⟨mb, mo, none⟩) (N - (j + 1)) 0) (N - (j + 1)) 2 (xs.drop ((j + 1) * 2))) := Lib.hid fun e W hW => by
      have := HL2.out
      rw [List.drop_of_length_le (by omega), show N - (j + 1) = 0 by omega]
      exact ⟨by simp, by simp, _, 0, rfl, Nat.zero_le _, Nat.zero_le _, fun h => absurd h (by omega)⟩
     have HOUT : Hid (∀ (cF w6 W7 : World) (Ar : Option Addr) (cr NR : Nat), NR = j + (N - (j + 1)) → cF.ownsRow u0.heap.size 94 2 (.slice Ar NR cr) NR (xs.take (j * 2) ++ xs.drop ((j + 1) * 2)) → (∀ r, rowOf Ar = some r → u0.heap.size ≤ r) → Below u0.heap.size u0 cF → w6 = cF.setCell ⟨w.heap.size, 6, none⟩ (.slice Ar NR cr) → Below w.heap.size w w6 →
       W7 = ((((((w6.setCell ⟨w.heap.size + 1 + 1, 0, none⟩ (.string f)).setCell ⟨w.heap.size + 1 + 1, 1, none⟩ (.slice Bu nu cu)).setCell ⟨w.heap.size + 1 + 1, 2, none⟩ (.int .i64 s.closed)).setCell ⟨w.heap.size + 1 + 1, 3, none⟩ (.int .u64 (s.next : Nat))).setCell ⟨w.heap.size + 1 + 1, 4, none⟩ (.slice Ak nk ck)).setCell ⟨w.heap.size + 1 + 1, 5, none⟩ (.slice Aq nt ct)).setCell ⟨w.heap.size + 1 + 1, 6, none⟩ (.slice Ar NR cr) →
       ROut X w f (.slice Bu nu cu) (applyM at' al ⟨5, id, en, ea, name, text, ev⟩ s) (.returned (.tuple #[.agg #[.string f, .slice Bu nu cu, .int .i64 s.closed, .int .u64 (s.next : Nat), .slice Ak nk ck, .slice Aq nt ct, .slice Ar NR cr], .bool true])) W7) := Lib.hid fun cF w6 W7 Ar cr NR hNR ho hbr hbF hw6 hb6 hW7 => by
      have hb7 : Below w.heap.size w W7 := by rw [hW7]; exact below7 (g := w.heap.size + 1 + 1) hb6 (Nat.le_succ_of_le (Nat.le_succ _)) _ _ _ _ _ _ _
      have hs := HS1.out
      have hu := HBu0.out
      have ho7 := own_move (w' := W7) ho (fun r hr => by
       have := hbr r hr
       rw [hW7, heap7 (by omega), hw6]
       exact RowKit.Below.heap_setCell _ _ _ _ (by show r ≠ w.heap.size; omega))
      refine ⟨hb7, s.closed, s.next, .slice Ak nk ck, .slice Aq nt ct, .slice Ar NR cr, ⟨_, _, _, rfl⟩, ⟨_, _, _, rfl⟩, ⟨_, _, _, rfl⟩, by rw [HN.out]; rfl, fun s' hs => ?_⟩
      rw [HN.out] at hs
      cases hs
      have hp := mdel_with HFI.out.timers HJT.out
      rw [← HTT.out] at hp
      dsimp only at hp
      rw [H1.out] at hp
      refine ⟨rfl, rfl, ⟨(HRV.out.leads (veil_below X hb7)).keys, (HRV.out.leads (veil_below X hb7)).tasks, ⟨xs.take (j * 2) ++ xs.drop ((j + 1) * 2), ?_, ?_⟩⟩⟩
      ·have e : (mdel s.timers id).length = NR := by
        have := HNN.out
        rw [← hp, List.length_append, List.length_take, List.length_drop]; omega
       dsimp only
       rw [e]
       refine CIn.of_veil ho7 ?_ (by intro c hc; have := HXB.out c hc; have := HBu0.out; have := HS1.out; omega)
       intro x hx
       rcases List.mem_append.1 hx with q | q
       ·exact HCI.out.2.1 x (List.mem_of_mem_take q)
       ·exact HCI.out.2.1 x (List.mem_of_mem_drop q)
      ·dsimp only
       unfold TmC
       rw [← hp, List.flatMap_append, ← fm_take, ← fm_drop, HTMC.out]
     have f1 : j ≤ cm := by omega
     have f2 : (j : Int) ≤ (j : Int) + 1 := by omega
     have f3 : (0 : Int) ≤ (j : Int) + 1 := by omega
     have f4 : (j : Int) + 1 ≤ (N : Int) := by omega
     have f5 : ((j : Int) + 1).toNat = j + 1 := by omega
     have ka := IntWalk.i64_in ((j : Int) + 1) (by omega)
     by_cases hcj : cm = j + 1
     ·subst hcj
      obtain rfl : N = j + 1 := by omega
      have HIN2 : Hid (∀ W, Below u0.heap.size u0 W → CIn W (.slice (some ⟨mb, mo, none⟩) 0 0) 0 2 (xs.drop ((j + 1) * 2))) := Lib.hid (fun W hW => by have := HIN2b.out rfl W hW; rw [Nat.sub_self] at this; exact this)
      refine wp_region_noPanic ?_
      refine wp_region_held_drew (S := (fun W : World => W.cell? ⟨w.heap.size + 3, 5, none⟩ = some (.string text))) (by kernel_rfl) ?_ (fun hHeld => ?_)
      ·rw [← hu0]; exact HKS.out _ (Below.refl _ _)
      rw [← hu0] at hHeld
      rw [← hu0]
      replace hu0 := Lib.hid hu0
      refine tk 1 rfl ?_
      refine tk 3 rfl ?_
      refine tk 6 rfl ?_
      refine tk 8 rfl ?_
      refine tk 9 rfl ?_
      refine wpAnyH_ready (rs := [0, 2, 7]) (by kernel_rfl) (by simp) ?_
      refine cons_drop rfl (fun K hK => ?_) (cons_drop rfl (fun K hK => ?_) (cons_drop rfl (fun K hK => ?_) AllReadyH.nil))
      ·go_simp
       obtain ⟨zw0, hc0⟩ : ∃ u, u = u0.alloc (.cells #[] 94) := ⟨_, rfl⟩
       rw [← hc0]
       obtain ⟨ia, hia⟩ : ∃ i, i = u0.heap.size := ⟨_, rfl⟩
       rw [← hia]
       have hbz : Below u0.heap.size u0 zw0 := by rw [hc0]; exact (Below.refl _ _).alloc (Nat.le_refl _) _
       have HB0 : Hid (Below u0.heap.size u0 zw0) := Lib.hid (HBu.out.trans (hbz.mono HBu.out.size))
       have own0_0 : Hid (zw0.ownsRow u0.heap.size 94 2 (.slice (some ⟨ia, 0, none⟩) 0 0) 0 []) := Lib.hid (by rw [hc0, hia]; exact World.ownsRow_lit u0 #[] 0 HBu.out.size (Nat.zero_le _) (by simp))
       clear hbz
       replace hc0 := Lib.hid hc0
       replace hia := Lib.hid hia
       refine hK.out _ _ (HKS.out _ HB0.out) (fun hH0 => ?_)
       clear hK K hHeld
       try simp only [ap]
       refine rd2 2 7 rfl rfl (fun K hK => ?_) fun K hK => ?_
       ·obtain ⟨cx, -⟩ := HCX.out zw0 HB0.out
        go_simp
        refine hK.out _ _ (HKS.out _ HB0.out) (fun hH0L => ?_)
        clear hK K hH0
        try simp only [ap]
        clear cx
        refine tk 4 rfl ?_
        refine rd2 5 7 rfl rfl (fun K hK => ?_) fun K hK => ?_
        ·refine step_append_any zw0 rfl _ _ 82 94 rfl i0 _ 2 16 Tryz.underlying82 HSZ.out hi0 hz0 hz1 hz2 rfl (by decide) u0.heap.size (.slice (some ⟨ia, 0, none⟩) 0 0) (.slice (some ⟨mb, mo, none⟩) j (j + 1)) 0 j [] (xs.take (j * 2)) rfl rfl own0_0.out (HIN.out _ HB0.out) (by simp only [maxLen]; omega) (by omega) HB0.out.size ?_
         intro v1 zw0A hown hgr
         have HB0A : Hid (Below u0.heap.size u0 zw0A) := Lib.hid (below_grown HB0.out hgr (fun r hr => (own0_0.out.lt r hr).1) HB0.out.size)
         rw [Nat.zero_add, List.nil_append] at hown
         have own1_0A := Lib.hid hown
         clear hown hgr
         refine hK.out _ _ (HKS.out _ HB0A.out) (fun hH0AL => ?_)
         clear hK K hH0L
         try simp only [ap]
         refine rd1 7 rfl fun K hK => ?_
         obtain ⟨cx, -⟩ := HCX.out zw0A HB0A.out
         go_simp
         refine hK.out _ _ (HKS.out _ HB0A.out) (fun hH01AL => ?_)
         clear hK K hH0AL
         try simp only [ap]
         clear cx
         refine tk 10 rfl ?_
         refine rd1 11 rfl fun K hK => ?_
         refine step_append_any zw0A rfl _ _ 82 94 rfl i0 _ 2 16 Tryz.underlying82 HSZ.out hi0 hz0 hz1 hz2 rfl (by decide) u0.heap.size v1 (.slice (some ⟨mb, mo, none⟩) 0 0) j 0 (xs.take (j * 2)) (xs.drop ((j + 1) * 2)) rfl rfl own1_0A.out (HIN2.out _ HB0A.out) (by simp only [maxLen]; omega) (by omega) HB0A.out.size ?_
         intro vF cF hown hgr
         rw [Nat.add_zero] at hown
         obtain ⟨Ar, cr, rfl, hbr⟩ := own_slice hown
         have HOF := Lib.hid hown; have HBRF := Lib.hid hbr
         have HBF : Hid (Below u0.heap.size u0 cF) := Lib.hid (below_grown HB0A.out hgr (fun r hr => (own1_0A.out.lt r hr).1) HB0A.out.size)
         clear hown hgr hbr
         refine hK.out _ _ (HKS.out _ HBF.out) (fun hH01ABL => ?_)
         clear hK K hH01AL
         try simp only [ap]
         refine tk 12 rfl ?_
         obtain ⟨cx, fx⟩ := HCX.out cF HBF.out
         refine rd1 13 rfl fun K hK => ?_
         go_simp
         refine hK.out _ _ (HKS2.out _ _ HBF.out) (fun hHeldZ => ?_)
         clear hK K hH01ABL
         try simp only [ap]
         refine wpAnyH_done (by kernel_rfl) ?_ _
         refine NoPanic.normal ?_
         clear hHeldZ cx fx
         obtain ⟨w6, hw6⟩ : ∃ w6, w6 = cF.setCell ⟨w.heap.size, 6, none⟩ (.slice Ar j cr) := ⟨_, rfl⟩
         have hbF1 : Below W1.heap.size W1 cF := HBu1.out _ HBF.out
         have hx6 : RX w6 w.heap.size f (.slice Bu nu cu) s.closed s.next (.slice Ak nk ck) (.slice Aq nt ct) (.slice Ar j cr) := by rw [hw6]; exact (HX.out cF hbF1).1.set6
         have hq6 : RX w6 (w.heap.size + 1 + 1) ⟨#[]⟩ (.slice none 0 0) 0 0 (.slice none 0 0) (.slice none 0 0) (.slice none 0 0) := by rw [hw6]; exact (HX.out cF hbF1).2.2.1.far (by omega)
         have HB6 : Hid (Below w.heap.size w w6) := Lib.hid (by rw [hw6]; exact (HBW.out cF hbF1).setCell (p := ⟨w.heap.size, 6, none⟩) (Nat.le_refl _) _)
         have HW6 := Lib.hid hw6
         obtain ⟨x0, x1, x2, x3, x4, x5, x6, xf⟩ := hx6.cells
         obtain ⟨q0, q1, q2, q3, q4, q5, q6, qf⟩ := hq6.cells
         rw [show ((0 : Nat) : Int) = 0 from rfl] at q3
         have qf0 := qf 0; have qf1 := qf 1; have qf2 := qf 2; have qf3 := qf 3; have qf4 := qf 4; have qf5 := qf 5; have qf6 := qf 6
         clear qf xf hx6 hq6 hbF1
         rw [← hw6]
         clear hw6
         go_wp2_with fail
         refine bodyPost_ret (v := .tuple #[.agg #[.string f, .slice Bu nu cu, .int .i64 s.closed, .int .u64 (s.next : Nat), .slice Ak nk ck, .slice Aq nt ct, .slice Ar j cr], .bool true]) (by simp [results, Tryz.results81, go_sem, q0, q1, q2, q3, q4, q5, q6]) rfl ?_
         obtain ⟨W7, hW7⟩ : ∃ W7, W7 = ((((((w6.setCell ⟨w.heap.size + 1 + 1, 0, none⟩ (.string f)).setCell ⟨w.heap.size + 1 + 1, 1, none⟩ (.slice Bu nu cu)).setCell ⟨w.heap.size + 1 + 1, 2, none⟩ (.int .i64 s.closed)).setCell ⟨w.heap.size + 1 + 1, 3, none⟩ (.int .u64 (s.next : Nat))).setCell ⟨w.heap.size + 1 + 1, 4, none⟩ (.slice Ak nk ck)).setCell ⟨w.heap.size + 1 + 1, 5, none⟩ (.slice Aq nt ct)).setCell ⟨w.heap.size + 1 + 1, 6, none⟩ (.slice Ar j cr) := ⟨_, rfl⟩
         rw [← hW7]
         exact HOUT.out cF w6 W7 Ar cr j (by omega) HOF.out HBRF.out HBF.out HW6.out HB6.out hW7
        ·obtain ⟨cx, -⟩ := HCX.out zw0 HB0.out
         go_simp
         refine hK.out _ _ (HKS.out _ HB0.out) (fun hH01L => ?_)
         clear hK K hH0L
         try simp only [ap]
         clear cx
         refine tk 10 rfl ?_
         refine rd1 5 rfl fun K hK => ?_
         refine step_append_any zw0 rfl _ _ 82 94 rfl i0 _ 2 16 Tryz.underlying82 HSZ.out hi0 hz0 hz1 hz2 rfl (by decide) u0.heap.size (.slice (some ⟨ia, 0, none⟩) 0 0) (.slice (some ⟨mb, mo, none⟩) j (j + 1)) 0 j [] (xs.take (j * 2)) rfl rfl own0_0.out (HIN.out _ HB0.out) (by simp only [maxLen]; omega) (by omega) HB0.out.size ?_
         intro v1 zw0A hown hgr
         have HB0A : Hid (Below u0.heap.size u0 zw0A) := Lib.hid (below_grown HB0.out hgr (fun r hr => (own0_0.out.lt r hr).1) HB0.out.size)
         rw [Nat.zero_add, List.nil_append] at hown
         have own1_0A := Lib.hid hown
         clear hown hgr
         refine hK.out _ _ (HKS.out _ HB0A.out) (fun hH01AL => ?_)
         clear hK K hH01L
         try simp only [ap]
         refine rd1 11 rfl fun K hK => ?_
         refine step_append_any zw0A rfl _ _ 82 94 rfl i0 _ 2 16 Tryz.underlying82 HSZ.out hi0 hz0 hz1 hz2 rfl (by decide) u0.heap.size v1 (.slice (some ⟨mb, mo, none⟩) 0 0) j 0 (xs.take (j * 2)) (xs.drop ((j + 1) * 2)) rfl rfl own1_0A.out (HIN2.out _ HB0A.out) (by simp only [maxLen]; omega) (by omega) HB0A.out.size ?_
         intro vF cF hown hgr
         rw [Nat.add_zero] at hown
         obtain ⟨Ar, cr, rfl, hbr⟩ := own_slice hown
         have HOF := Lib.hid hown; have HBRF := Lib.hid hbr
         have HBF : Hid (Below u0.heap.size u0 cF) := Lib.hid (below_grown HB0A.out hgr (fun r hr => (own1_0A.out.lt r hr).1) HB0A.out.size)
         clear hown hgr hbr
         refine hK.out _ _ (HKS.out _ HBF.out) (fun hH01ABL => ?_)
         clear hK K hH01AL
         try simp only [ap]
         refine tk 12 rfl ?_
         obtain ⟨cx, fx⟩ := HCX.out cF HBF.out
         refine rd1 13 rfl fun K hK => ?_
         go_simp
         refine hK.out _ _ (HKS2.out _ _ HBF.out) (fun hHeldZ => ?_)
         clear hK K hH01ABL
         try simp only [ap]
         refine wpAnyH_done (by kernel_rfl) ?_ _
         refine NoPanic.normal ?_
         clear hHeldZ cx fx
         obtain ⟨w6, hw6⟩ : ∃ w6, w6 = cF.setCell ⟨w.heap.size, 6, none⟩ (.slice Ar j cr) := ⟨_, rfl⟩
         have hbF1 : Below W1.heap.size W1 cF := HBu1.out _ HBF.out
         have hx6 : RX w6 w.heap.size f (.slice Bu nu cu) s.closed s.next (.slice Ak nk ck) (.slice Aq nt ct) (.slice Ar j cr) := by rw [hw6]; exact (HX.out cF hbF1).1.set6
         have hq6 : RX w6 (w.heap.size + 1 + 1) ⟨#[]⟩ (.slice none 0 0) 0 0 (.slice none 0 0) (.slice none 0 0) (.slice none 0 0) := by rw [hw6]; exact (HX.out cF hbF1).2.2.1.far (by omega)
         have HB6 : Hid (Below w.heap.size w w6) := Lib.hid (by rw [hw6]; exact (HBW.out cF hbF1).setCell (p := ⟨w.heap.size, 6, none⟩) (Nat.le_refl _) _)
         have HW6 := Lib.hid hw6
         obtain ⟨x0, x1, x2, x3, x4, x5, x6, xf⟩ := hx6.cells
         obtain ⟨q0, q1, q2, q3, q4, q5, q6, qf⟩ := hq6.cells
         rw [show ((0 : Nat) : Int) = 0 from rfl] at q3
         have qf0 := qf 0; have qf1 := qf 1; have qf2 := qf 2; have qf3 := qf 3; have qf4 := qf 4; have qf5 := qf 5; have qf6 := qf 6
         clear qf xf hx6 hq6 hbF1
         rw [← hw6]
         clear hw6
         go_wp2_with fail
         refine bodyPost_ret (v := .tuple #[.agg #[.string f, .slice Bu nu cu, .int .i64 s.closed, .int .u64 (s.next : Nat), .slice Ak nk ck, .slice Aq nt ct, .slice Ar j cr], .bool true]) (by simp [results, Tryz.results81, go_sem, q0, q1, q2, q3, q4, q5, q6]) rfl ?_
         obtain ⟨W7, hW7⟩ : ∃ W7, W7 = ((((((w6.setCell ⟨w.heap.size + 1 + 1, 0, none⟩ (.string f)).setCell ⟨w.heap.size + 1 + 1, 1, none⟩ (.slice Bu nu cu)).setCell ⟨w.heap.size + 1 + 1, 2, none⟩ (.int .i64 s.closed)).setCell ⟨w.heap.size + 1 + 1, 3, none⟩ (.int .u64 (s.next : Nat))).setCell ⟨w.heap.size + 1 + 1, 4, none⟩ (.slice Ak nk ck)).setCell ⟨w.heap.size + 1 + 1, 5, none⟩ (.slice Aq nt ct)).setCell ⟨w.heap.size + 1 + 1, 6, none⟩ (.slice Ar j cr) := ⟨_, rfl⟩
         rw [← hW7]
         exact HOUT.out cF w6 W7 Ar cr j (by omega) HOF.out HBRF.out HBF.out HW6.out HB6.out hW7
       ·obtain ⟨cx, -⟩ := HCX.out zw0 HB0.out
        go_simp
        refine hK.out _ _ (HKS.out _ HB0.out) (fun hH01 => ?_)
        clear hK K hH0
        try simp only [ap]
        clear cx
        refine tk 10 rfl ?_
        refine rd1 2 rfl fun K hK => ?_
        obtain ⟨cx, -⟩ := HCX.out zw0 HB0.out
        go_simp
        refine hK.out _ _ (HKS.out _ HB0.out) (fun hH01L => ?_)
        clear hK K hH01
        try simp only [ap]
        clear cx
        refine tk 4 rfl ?_
        refine rd1 5 rfl fun K hK => ?_
        refine step_append_any zw0 rfl _ _ 82 94 rfl i0 _ 2 16 Tryz.underlying82 HSZ.out hi0 hz0 hz1 hz2 rfl (by decide) u0.heap.size (.slice (some ⟨ia, 0, none⟩) 0 0) (.slice (some ⟨mb, mo, none⟩) j (j + 1)) 0 j [] (xs.take (j * 2)) rfl rfl own0_0.out (HIN.out _ HB0.out) (by simp only [maxLen]; omega) (by omega) HB0.out.size ?_
        intro v1 zw0A hown hgr
        have HB0A : Hid (Below u0.heap.size u0 zw0A) := Lib.hid (below_grown HB0.out hgr (fun r hr => (own0_0.out.lt r hr).1) HB0.out.size)
        rw [Nat.zero_add, List.nil_append] at hown
        have own1_0A := Lib.hid hown
        clear hown hgr
        refine hK.out _ _ (HKS.out _ HB0A.out) (fun hH01AL => ?_)
        clear hK K hH01L
        try simp only [ap]
        refine rd1 11 rfl fun K hK => ?_
        refine step_append_any zw0A rfl _ _ 82 94 rfl i0 _ 2 16 Tryz.underlying82 HSZ.out hi0 hz0 hz1 hz2 rfl (by decide) u0.heap.size v1 (.slice (some ⟨mb, mo, none⟩) 0 0) j 0 (xs.take (j * 2)) (xs.drop ((j + 1) * 2)) rfl rfl own1_0A.out (HIN2.out _ HB0A.out) (by simp only [maxLen]; omega) (by omega) HB0A.out.size ?_
        intro vF cF hown hgr
        rw [Nat.add_zero] at hown
        obtain ⟨Ar, cr, rfl, hbr⟩ := own_slice hown
        have HOF := Lib.hid hown; have HBRF := Lib.hid hbr
        have HBF : Hid (Below u0.heap.size u0 cF) := Lib.hid (below_grown HB0A.out hgr (fun r hr => (own1_0A.out.lt r hr).1) HB0A.out.size)
        clear hown hgr hbr
        refine hK.out _ _ (HKS.out _ HBF.out) (fun hH01ABL => ?_)
        clear hK K hH01AL
        try simp only [ap]
        refine tk 12 rfl ?_
        obtain ⟨cx, fx⟩ := HCX.out cF HBF.out
        refine rd1 13 rfl fun K hK => ?_
        go_simp
        refine hK.out _ _ (HKS2.out _ _ HBF.out) (fun hHeldZ => ?_)
        clear hK K hH01ABL
        try simp only [ap]
        refine wpAnyH_done (by kernel_rfl) ?_ _
        refine NoPanic.normal ?_
        clear hHeldZ cx fx
        obtain ⟨w6, hw6⟩ : ∃ w6, w6 = cF.setCell ⟨w.heap.size, 6, none⟩ (.slice Ar j cr) := ⟨_, rfl⟩
        have hbF1 : Below W1.heap.size W1 cF := HBu1.out _ HBF.out
        have hx6 : RX w6 w.heap.size f (.slice Bu nu cu) s.closed s.next (.slice Ak nk ck) (.slice Aq nt ct) (.slice Ar j cr) := by rw [hw6]; exact (HX.out cF hbF1).1.set6
        have hq6 : RX w6 (w.heap.size + 1 + 1) ⟨#[]⟩ (.slice none 0 0) 0 0 (.slice none 0 0) (.slice none 0 0) (.slice none 0 0) := by rw [hw6]; exact (HX.out cF hbF1).2.2.1.far (by omega)
        have HB6 : Hid (Below w.heap.size w w6) := Lib.hid (by rw [hw6]; exact (HBW.out cF hbF1).setCell (p := ⟨w.heap.size, 6, none⟩) (Nat.le_refl _) _)
        have HW6 := Lib.hid hw6
        obtain ⟨x0, x1, x2, x3, x4, x5, x6, xf⟩ := hx6.cells
        obtain ⟨q0, q1, q2, q3, q4, q5, q6, qf⟩ := hq6.cells
        rw [show ((0 : Nat) : Int) = 0 from rfl] at q3
        have qf0 := qf 0; have qf1 := qf 1; have qf2 := qf 2; have qf3 := qf 3; have qf4 := qf 4; have qf5 := qf 5; have qf6 := qf 6
        clear qf xf hx6 hq6 hbF1
        rw [← hw6]
        clear hw6
        go_wp2_with fail
        refine bodyPost_ret (v := .tuple #[.agg #[.string f, .slice Bu nu cu, .int .i64 s.closed, .int .u64 (s.next : Nat), .slice Ak nk ck, .slice Aq nt ct, .slice Ar j cr], .bool true]) (by simp [results, Tryz.results81, go_sem, q0, q1, q2, q3, q4, q5, q6]) rfl ?_
        obtain ⟨W7, hW7⟩ : ∃ W7, W7 = ((((((w6.setCell ⟨w.heap.size + 1 + 1, 0, none⟩ (.string f)).setCell ⟨w.heap.size + 1 + 1, 1, none⟩ (.slice Bu nu cu)).setCell ⟨w.heap.size + 1 + 1, 2, none⟩ (.int .i64 s.closed)).setCell ⟨w.heap.size + 1 + 1, 3, none⟩ (.int .u64 (s.next : Nat))).setCell ⟨w.heap.size + 1 + 1, 4, none⟩ (.slice Ak nk ck)).setCell ⟨w.heap.size + 1 + 1, 5, none⟩ (.slice Aq nt ct)).setCell ⟨w.heap.size + 1 + 1, 6, none⟩ (.slice Ar j cr) := ⟨_, rfl⟩
        rw [← hW7]
        exact HOUT.out cF w6 W7 Ar cr j (by omega) HOF.out HBRF.out HBF.out HW6.out HB6.out hW7
      ·obtain ⟨cx, -⟩ := HCX.out u0 HBu.out
       go_simp
       refine hK.out _ _ (HKS.out _ HBu.out) (fun hHL => ?_)
       clear hK K hHeld
       try simp only [ap]
       clear cx
       refine tk 4 rfl ?_
       refine rd2 0 7 rfl rfl (fun K hK => ?_) fun K hK => ?_
       ·go_simp
        obtain ⟨zw0, hc0⟩ : ∃ u, u = u0.alloc (.cells #[] 94) := ⟨_, rfl⟩
        rw [← hc0]
        obtain ⟨ia, hia⟩ : ∃ i, i = u0.heap.size := ⟨_, rfl⟩
        rw [← hia]
        have hbz : Below u0.heap.size u0 zw0 := by rw [hc0]; exact (Below.refl _ _).alloc (Nat.le_refl _) _
        have HB0 : Hid (Below u0.heap.size u0 zw0) := Lib.hid (HBu.out.trans (hbz.mono HBu.out.size))
        have own0_0 : Hid (zw0.ownsRow u0.heap.size 94 2 (.slice (some ⟨ia, 0, none⟩) 0 0) 0 []) := Lib.hid (by rw [hc0, hia]; exact World.ownsRow_lit u0 #[] 0 HBu.out.size (Nat.zero_le _) (by simp))
        clear hbz
        replace hc0 := Lib.hid hc0
        replace hia := Lib.hid hia
        refine hK.out _ _ (HKS.out _ HB0.out) (fun hH0L => ?_)
        clear hK K hHL
        try simp only [ap]
        refine rd2 5 7 rfl rfl (fun K hK => ?_) fun K hK => ?_
        ·refine step_append_any zw0 rfl _ _ 82 94 rfl i0 _ 2 16 Tryz.underlying82 HSZ.out hi0 hz0 hz1 hz2 rfl (by decide) u0.heap.size (.slice (some ⟨ia, 0, none⟩) 0 0) (.slice (some ⟨mb, mo, none⟩) j (j + 1)) 0 j [] (xs.take (j * 2)) rfl rfl own0_0.out (HIN.out _ HB0.out) (by simp only [maxLen]; omega) (by omega) HB0.out.size ?_
         intro v1 zw0A hown hgr
         have HB0A : Hid (Below u0.heap.size u0 zw0A) := Lib.hid (below_grown HB0.out hgr (fun r hr => (own0_0.out.lt r hr).1) HB0.out.size)
         rw [Nat.zero_add, List.nil_append] at hown
         have own1_0A := Lib.hid hown
         clear hown hgr
         refine hK.out _ _ (HKS.out _ HB0A.out) (fun hH0AL => ?_)
         clear hK K hH0L
         try simp only [ap]
         refine rd1 7 rfl fun K hK => ?_
         obtain ⟨cx, -⟩ := HCX.out zw0A HB0A.out
         go_simp
         refine hK.out _ _ (HKS.out _ HB0A.out) (fun hH01AL => ?_)
         clear hK K hH0AL
         try simp only [ap]
         clear cx
         refine tk 10 rfl ?_
         refine rd1 11 rfl fun K hK => ?_
         refine step_append_any zw0A rfl _ _ 82 94 rfl i0 _ 2 16 Tryz.underlying82 HSZ.out hi0 hz0 hz1 hz2 rfl (by decide) u0.heap.size v1 (.slice (some ⟨mb, mo, none⟩) 0 0) j 0 (xs.take (j * 2)) (xs.drop ((j + 1) * 2)) rfl rfl own1_0A.out (HIN2.out _ HB0A.out) (by simp only [maxLen]; omega) (by omega) HB0A.out.size ?_
         intro vF cF hown hgr
         rw [Nat.add_zero] at hown
         obtain ⟨Ar, cr, rfl, hbr⟩ := own_slice hown
         have HOF := Lib.hid hown; have HBRF := Lib.hid hbr
         have HBF : Hid (Below u0.heap.size u0 cF) := Lib.hid (below_grown HB0A.out hgr (fun r hr => (own1_0A.out.lt r hr).1) HB0A.out.size)
         clear hown hgr hbr
         refine hK.out _ _ (HKS.out _ HBF.out) (fun hH01ABL => ?_)
         clear hK K hH01AL
         try simp only [ap]
         refine tk 12 rfl ?_
         obtain ⟨cx, fx⟩ := HCX.out cF HBF.out
         refine rd1 13 rfl fun K hK => ?_
         go_simp
         refine hK.out _ _ (HKS2.out _ _ HBF.out) (fun hHeldZ => ?_)
         clear hK K hH01ABL
         try simp only [ap]
         refine wpAnyH_done (by kernel_rfl) ?_ _
         refine NoPanic.normal ?_
         clear hHeldZ cx fx
         obtain ⟨w6, hw6⟩ : ∃ w6, w6 = cF.setCell ⟨w.heap.size, 6, none⟩ (.slice Ar j cr) := ⟨_, rfl⟩
         have hbF1 : Below W1.heap.size W1 cF := HBu1.out _ HBF.out
         have hx6 : RX w6 w.heap.size f (.slice Bu nu cu) s.closed s.next (.slice Ak nk ck) (.slice Aq nt ct) (.slice Ar j cr) := by rw [hw6]; exact (HX.out cF hbF1).1.set6
         have hq6 : RX w6 (w.heap.size + 1 + 1) ⟨#[]⟩ (.slice none 0 0) 0 0 (.slice none 0 0) (.slice none 0 0) (.slice none 0 0) := by rw [hw6]; exact (HX.out cF hbF1).2.2.1.far (by omega)
         have HB6 : Hid (Below w.heap.size w w6) := Lib.hid (by rw [hw6]; exact (HBW.out cF hbF1).setCell (p := ⟨w.heap.size, 6, none⟩) (Nat.le_refl _) _)
         have HW6 := Lib.hid hw6
         obtain ⟨x0, x1, x2, x3, x4, x5, x6, xf⟩ := hx6.cells
         obtain ⟨q0, q1, q2, q3, q4, q5, q6, qf⟩ := hq6.cells
         rw [show ((0 : Nat) : Int) = 0 from rfl] at q3
         have qf0 := qf 0; have qf1 := qf 1; have qf2 := qf 2; have qf3 := qf 3; have qf4 := qf 4; have qf5 := qf 5; have qf6 := qf 6
         clear qf xf hx6 hq6 hbF1
         rw [← hw6]
         clear hw6
         go_wp2_with fail
         refine bodyPost_ret (v := .tuple #[.agg #[.string f, .slice Bu nu cu, .int .i64 s.closed, .int .u64 (s.next : Nat), .slice Ak nk ck, .slice Aq nt ct, .slice Ar j cr], .bool true]) (by simp [results, Tryz.results81, go_sem, q0, q1, q2, q3, q4, q5, q6]) rfl ?_
         obtain ⟨W7, hW7⟩ : ∃ W7, W7 = ((((((w6.setCell ⟨w.heap.size + 1 + 1, 0, none⟩ (.string f)).setCell ⟨w.heap.size + 1 + 1, 1, none⟩ (.slice Bu nu cu)).setCell ⟨w.heap.size + 1 + 1, 2, none⟩ (.int .i64 s.closed)).setCell ⟨w.heap.size + 1 + 1, 3, none⟩ (.int .u64 (s.next : Nat))).setCell ⟨w.heap.size + 1 + 1, 4, none⟩ (.slice Ak nk ck)).setCell ⟨w.heap.size + 1 + 1, 5, none⟩ (.slice Aq nt ct)).setCell ⟨w.heap.size + 1 + 1, 6, none⟩ (.slice Ar j cr) := ⟨_, rfl⟩
         rw [← hW7]
         exact HOUT.out cF w6 W7 Ar cr j (by omega) HOF.out HBRF.out HBF.out HW6.out HB6.out hW7
        ·obtain ⟨cx, -⟩ := HCX.out zw0 HB0.out
         go_simp
         refine hK.out _ _ (HKS.out _ HB0.out) (fun hH01L => ?_)
         clear hK K hH0L
         try simp only [ap]
         clear cx
         refine tk 10 rfl ?_
         refine rd1 5 rfl fun K hK => ?_
         refine step_append_any zw0 rfl _ _ 82 94 rfl i0 _ 2 16 Tryz.underlying82 HSZ.out hi0 hz0 hz1 hz2 rfl (by decide) u0.heap.size (.slice (some ⟨ia, 0, none⟩) 0 0) (.slice (some ⟨mb, mo, none⟩) j (j + 1)) 0 j [] (xs.take (j * 2)) rfl rfl own0_0.out (HIN.out _ HB0.out) (by simp only [maxLen]; omega) (by omega) HB0.out.size ?_
         intro v1 zw0A hown hgr
         have HB0A : Hid (Below u0.heap.size u0 zw0A) := Lib.hid (below_grown HB0.out hgr (fun r hr => (own0_0.out.lt r hr).1) HB0.out.size)
         rw [Nat.zero_add, List.nil_append] at hown
         have own1_0A := Lib.hid hown
         clear hown hgr
         refine hK.out _ _ (HKS.out _ HB0A.out) (fun hH01AL => ?_)
         clear hK K hH01L
         try simp only [ap]
         refine rd1 11 rfl fun K hK => ?_
         refine step_append_any zw0A rfl _ _ 82 94 rfl i0 _ 2 16 Tryz.underlying82 HSZ.out hi0 hz0 hz1 hz2 rfl (by decide) u0.heap.size v1 (.slice (some ⟨mb, mo, none⟩) 0 0) j 0 (xs.take (j * 2)) (xs.drop ((j + 1) * 2)) rfl rfl own1_0A.out (HIN2.out _ HB0A.out) (by simp only [maxLen]; omega) (by omega) HB0A.out.size ?_
         intro vF cF hown hgr
         rw [Nat.add_zero] at hown
         obtain ⟨Ar, cr, rfl, hbr⟩ := own_slice hown
         have HOF := Lib.hid hown; have HBRF := Lib.hid hbr
         have HBF : Hid (Below u0.heap.size u0 cF) := Lib.hid (below_grown HB0A.out hgr (fun r hr => (own1_0A.out.lt r hr).1) HB0A.out.size)
         clear hown hgr hbr
         refine hK.out _ _ (HKS.out _ HBF.out) (fun hH01ABL => ?_)
         clear hK K hH01AL
         try simp only [ap]
         refine tk 12 rfl ?_
         obtain ⟨cx, fx⟩ := HCX.out cF HBF.out
         refine rd1 13 rfl fun K hK => ?_
         go_simp
         refine hK.out _ _ (HKS2.out _ _ HBF.out) (fun hHeldZ => ?_)
         clear hK K hH01ABL
         try simp only [ap]
         refine wpAnyH_done (by kernel_rfl) ?_ _
         refine NoPanic.normal ?_
         clear hHeldZ cx fx
         obtain ⟨w6, hw6⟩ : ∃ w6, w6 = cF.setCell ⟨w.heap.size, 6, none⟩ (.slice Ar j cr) := ⟨_, rfl⟩
         have hbF1 : Below W1.heap.size W1 cF := HBu1.out _ HBF.out
         have hx6 : RX w6 w.heap.size f (.slice Bu nu cu) s.closed s.next (.slice Ak nk ck) (.slice Aq nt ct) (.slice Ar j cr) := by rw [hw6]; exact (HX.out cF hbF1).1.set6
         have hq6 : RX w6 (w.heap.size + 1 + 1) ⟨#[]⟩ (.slice none 0 0) 0 0 (.slice none 0 0) (.slice none 0 0) (.slice none 0 0) := by rw [hw6]; exact (HX.out cF hbF1).2.2.1.far (by omega)
         have HB6 : Hid (Below w.heap.size w w6) := Lib.hid (by rw [hw6]; exact (HBW.out cF hbF1).setCell (p := ⟨w.heap.size, 6, none⟩) (Nat.le_refl _) _)
         have HW6 := Lib.hid hw6
         obtain ⟨x0, x1, x2, x3, x4, x5, x6, xf⟩ := hx6.cells
         obtain ⟨q0, q1, q2, q3, q4, q5, q6, qf⟩ := hq6.cells
         rw [show ((0 : Nat) : Int) = 0 from rfl] at q3
         have qf0 := qf 0; have qf1 := qf 1; have qf2 := qf 2; have qf3 := qf 3; have qf4 := qf 4; have qf5 := qf 5; have qf6 := qf 6
         clear qf xf hx6 hq6 hbF1
         rw [← hw6]
         clear hw6
         go_wp2_with fail
         refine bodyPost_ret (v := .tuple #[.agg #[.string f, .slice Bu nu cu, .int .i64 s.closed, .int .u64 (s.next : Nat), .slice Ak nk ck, .slice Aq nt ct, .slice Ar j cr], .bool true]) (by simp [results, Tryz.results81, go_sem, q0, q1, q2, q3, q4, q5, q6]) rfl ?_
         obtain ⟨W7, hW7⟩ : ∃ W7, W7 = ((((((w6.setCell ⟨w.heap.size + 1 + 1, 0, none⟩ (.string f)).setCell ⟨w.heap.size + 1 + 1, 1, none⟩ (.slice Bu nu cu)).setCell ⟨w.heap.size + 1 + 1, 2, none⟩ (.int .i64 s.closed)).setCell ⟨w.heap.size + 1 + 1, 3, none⟩ (.int .u64 (s.next : Nat))).setCell ⟨w.heap.size + 1 + 1, 4, none⟩ (.slice Ak nk ck)).setCell ⟨w.heap.size + 1 + 1, 5, none⟩ (.slice Aq nt ct)).setCell ⟨w.heap.size + 1 + 1, 6, none⟩ (.slice Ar j cr) := ⟨_, rfl⟩
         rw [← hW7]
         exact HOUT.out cF w6 W7 Ar cr j (by omega) HOF.out HBRF.out HBF.out HW6.out HB6.out hW7
       ·obtain ⟨cx, -⟩ := HCX.out u0 HBu.out
        go_simp
        refine hK.out _ _ (HKS.out _ HBu.out) (fun hH1L => ?_)
        clear hK K hHL
        try simp only [ap]
        clear cx
        refine tk 10 rfl ?_
        refine rd1 0 rfl fun K hK => ?_
        go_simp
        obtain ⟨zw0, hc0⟩ : ∃ u, u = u0.alloc (.cells #[] 94) := ⟨_, rfl⟩
        rw [← hc0]
        obtain ⟨ia, hia⟩ : ∃ i, i = u0.heap.size := ⟨_, rfl⟩
        rw [← hia]
        have hbz : Below u0.heap.size u0 zw0 := by rw [hc0]; exact (Below.refl _ _).alloc (Nat.le_refl _) _
        have HB0 : Hid (Below u0.heap.size u0 zw0) := Lib.hid (HBu.out.trans (hbz.mono HBu.out.size))
        have own0_0 : Hid (zw0.ownsRow u0.heap.size 94 2 (.slice (some ⟨ia, 0, none⟩) 0 0) 0 []) := Lib.hid (by rw [hc0, hia]; exact World.ownsRow_lit u0 #[] 0 HBu.out.size (Nat.zero_le _) (by simp))
        clear hbz
        replace hc0 := Lib.hid hc0
        replace hia := Lib.hid hia
        refine hK.out _ _ (HKS.out _ HB0.out) (fun hH01L => ?_)
        clear hK K hH1L
        try simp only [ap]
        refine rd1 5 rfl fun K hK => ?_
        refine step_append_any zw0 rfl _ _ 82 94 rfl i0 _ 2 16 Tryz.underlying82 HSZ.out hi0 hz0 hz1 hz2 rfl (by decide) u0.heap.size (.slice (some ⟨ia, 0, none⟩) 0 0) (.slice (some ⟨mb, mo, none⟩) j (j + 1)) 0 j [] (xs.take (j * 2)) rfl rfl own0_0.out (HIN.out _ HB0.out) (by simp only [maxLen]; omega) (by omega) HB0.out.size ?_
        intro v1 zw0A hown hgr
        have HB0A : Hid (Below u0.heap.size u0 zw0A) := Lib.hid (below_grown HB0.out hgr (fun r hr => (own0_0.out.lt r hr).1) HB0.out.size)
        rw [Nat.zero_add, List.nil_append] at hown
        have own1_0A := Lib.hid hown
        clear hown hgr
        refine hK.out _ _ (HKS.out _ HB0A.out) (fun hH01AL => ?_)
        clear hK K hH01L
        try simp only [ap]
        refine rd1 11 rfl fun K hK => ?_
        refine step_append_any zw0A rfl _ _ 82 94 rfl i0 _ 2 16 Tryz.underlying82 HSZ.out hi0 hz0 hz1 hz2 rfl (by decide) u0.heap.size v1 (.slice (some ⟨mb, mo, none⟩) 0 0) j 0 (xs.take (j * 2)) (xs.drop ((j + 1) * 2)) rfl rfl own1_0A.out (HIN2.out _ HB0A.out) (by simp only [maxLen]; omega) (by omega) HB0A.out.size ?_
        intro vF cF hown hgr
        rw [Nat.add_zero] at hown
        obtain ⟨Ar, cr, rfl, hbr⟩ := own_slice hown
        have HOF := Lib.hid hown; have HBRF := Lib.hid hbr
        have HBF : Hid (Below u0.heap.size u0 cF) := Lib.hid (below_grown HB0A.out hgr (fun r hr => (own1_0A.out.lt r hr).1) HB0A.out.size)
        clear hown hgr hbr
        refine hK.out _ _ (HKS.out _ HBF.out) (fun hH01ABL => ?_)
        clear hK K hH01AL
        try simp only [ap]
        refine tk 12 rfl ?_
        obtain ⟨cx, fx⟩ := HCX.out cF HBF.out
        refine rd1 13 rfl fun K hK => ?_
        go_simp
        refine hK.out _ _ (HKS2.out _ _ HBF.out) (fun hHeldZ => ?_)
        clear hK K hH01ABL
        try simp only [ap]
        refine wpAnyH_done (by kernel_rfl) ?_ _
        refine NoPanic.normal ?_
        clear hHeldZ cx fx
        obtain ⟨w6, hw6⟩ : ∃ w6, w6 = cF.setCell ⟨w.heap.size, 6, none⟩ (.slice Ar j cr) := ⟨_, rfl⟩
        have hbF1 : Below W1.heap.size W1 cF := HBu1.out _ HBF.out
        have hx6 : RX w6 w.heap.size f (.slice Bu nu cu) s.closed s.next (.slice Ak nk ck) (.slice Aq nt ct) (.slice Ar j cr) := by rw [hw6]; exact (HX.out cF hbF1).1.set6
        have hq6 : RX w6 (w.heap.size + 1 + 1) ⟨#[]⟩ (.slice none 0 0) 0 0 (.slice none 0 0) (.slice none 0 0) (.slice none 0 0) := by rw [hw6]; exact (HX.out cF hbF1).2.2.1.far (by omega)
        have HB6 : Hid (Below w.heap.size w w6) := Lib.hid (by rw [hw6]; exact (HBW.out cF hbF1).setCell (p := ⟨w.heap.size, 6, none⟩) (Nat.le_refl _) _)
        have HW6 := Lib.hid hw6
        obtain ⟨x0, x1, x2, x3, x4, x5, x6, xf⟩ := hx6.cells
        obtain ⟨q0, q1, q2, q3, q4, q5, q6, qf⟩ := hq6.cells
        rw [show ((0 : Nat) : Int) = 0 from rfl] at q3
        have qf0 := qf 0; have qf1 := qf 1; have qf2 := qf 2; have qf3 := qf 3; have qf4 := qf 4; have qf5 := qf 5; have qf6 := qf 6
        clear qf xf hx6 hq6 hbF1
        rw [← hw6]
        clear hw6
        go_wp2_with fail
        refine bodyPost_ret (v := .tuple #[.agg #[.string f, .slice Bu nu cu, .int .i64 s.closed, .int .u64 (s.next : Nat), .slice Ak nk ck, .slice Aq nt ct, .slice Ar j cr], .bool true]) (by simp [results, Tryz.results81, go_sem, q0, q1, q2, q3, q4, q5, q6]) rfl ?_
        obtain ⟨W7, hW7⟩ : ∃ W7, W7 = ((((((w6.setCell ⟨w.heap.size + 1 + 1, 0, none⟩ (.string f)).setCell ⟨w.heap.size + 1 + 1, 1, none⟩ (.slice Bu nu cu)).setCell ⟨w.heap.size + 1 + 1, 2, none⟩ (.int .i64 s.closed)).setCell ⟨w.heap.size + 1 + 1, 3, none⟩ (.int .u64 (s.next : Nat))).setCell ⟨w.heap.size + 1 + 1, 4, none⟩ (.slice Ak nk ck)).setCell ⟨w.heap.size + 1 + 1, 5, none⟩ (.slice Aq nt ct)).setCell ⟨w.heap.size + 1 + 1, 6, none⟩ (.slice Ar j cr) := ⟨_, rfl⟩
        rw [← hW7]
        exact HOUT.out cF w6 W7 Ar cr j (by omega) HOF.out HBRF.out HBF.out HW6.out HB6.out hW7
      ·obtain ⟨cx, -⟩ := HCX.out u0 HBu.out
       go_simp
       refine hK.out _ _ (HKS.out _ HBu.out) (fun hH1 => ?_)
       clear hK K hHeld
       try simp only [ap]
       clear cx
       refine tk 10 rfl ?_
       refine rd2 0 2 rfl rfl (fun K hK => ?_) fun K hK => ?_
       ·go_simp
        obtain ⟨zw0, hc0⟩ : ∃ u, u = u0.alloc (.cells #[] 94) := ⟨_, rfl⟩
        rw [← hc0]
        obtain ⟨ia, hia⟩ : ∃ i, i = u0.heap.size := ⟨_, rfl⟩
        rw [← hia]
        have hbz : Below u0.heap.size u0 zw0 := by rw [hc0]; exact (Below.refl _ _).alloc (Nat.le_refl _) _
        have HB0 : Hid (Below u0.heap.size u0 zw0) := Lib.hid (HBu.out.trans (hbz.mono HBu.out.size))
        have own0_0 : Hid (zw0.ownsRow u0.heap.size 94 2 (.slice (some ⟨ia, 0, none⟩) 0 0) 0 []) := Lib.hid (by rw [hc0, hia]; exact World.ownsRow_lit u0 #[] 0 HBu.out.size (Nat.zero_le _) (by simp))
        clear hbz
        replace hc0 := Lib.hid hc0
        replace hia := Lib.hid hia
        refine hK.out _ _ (HKS.out _ HB0.out) (fun hH01 => ?_)
        clear hK K hH1
        try simp only [ap]
        refine rd1 2 rfl fun K hK => ?_
        obtain ⟨cx, -⟩ := HCX.out zw0 HB0.out
        go_simp
        refine hK.out _ _ (HKS.out _ HB0.out) (fun hH01L => ?_)
        clear hK K hH01
        try simp only [ap]
        clear cx
        refine tk 4 rfl ?_
        refine rd1 5 rfl fun K hK => ?_
        refine step_append_any zw0 rfl _ _ 82 94 rfl i0 _ 2 16 Tryz.underlying82 HSZ.out hi0 hz0 hz1 hz2 rfl (by decide) u0.heap.size (.slice (some ⟨ia, 0, none⟩) 0 0) (.slice (some ⟨mb, mo, none⟩) j (j + 1)) 0 j [] (xs.take (j * 2)) rfl rfl own0_0.out (HIN.out _ HB0.out) (by simp only [maxLen]; omega) (by omega) HB0.out.size ?_
        intro v1 zw0A hown hgr
        have HB0A : Hid (Below u0.heap.size u0 zw0A) := Lib.hid (below_grown HB0.out hgr (fun r hr => (own0_0.out.lt r hr).1) HB0.out.size)
        rw [Nat.zero_add, List.nil_append] at hown
        have own1_0A := Lib.hid hown
        clear hown hgr
        refine hK.out _ _ (HKS.out _ HB0A.out) (fun hH01AL => ?_)
        clear hK K hH01L
        try simp only [ap]
        refine rd1 11 rfl fun K hK => ?_
        refine step_append_any zw0A rfl _ _ 82 94 rfl i0 _ 2 16 Tryz.underlying82 HSZ.out hi0 hz0 hz1 hz2 rfl (by decide) u0.heap.size v1 (.slice (some ⟨mb, mo, none⟩) 0 0) j 0 (xs.take (j * 2)) (xs.drop ((j + 1) * 2)) rfl rfl own1_0A.out (HIN2.out _ HB0A.out) (by simp only [maxLen]; omega) (by omega) HB0A.out.size ?_
        intro vF cF hown hgr
        rw [Nat.add_zero] at hown
        obtain ⟨Ar, cr, rfl, hbr⟩ := own_slice hown
        have HOF := Lib.hid hown; have HBRF := Lib.hid hbr
        have HBF : Hid (Below u0.heap.size u0 cF) := Lib.hid (below_grown HB0A.out hgr (fun r hr => (own1_0A.out.lt r hr).1) HB0A.out.size)
        clear hown hgr hbr
        refine hK.out _ _ (HKS.out _ HBF.out) (fun hH01ABL => ?_)
        clear hK K hH01AL
        try simp only [ap]
        refine tk 12 rfl ?_
        obtain ⟨cx, fx⟩ := HCX.out cF HBF.out
        refine rd1 13 rfl fun K hK => ?_
        go_simp
        refine hK.out _ _ (HKS2.out _ _ HBF.out) (fun hHeldZ => ?_)
        clear hK K hH01ABL
        try simp only [ap]
        refine wpAnyH_done (by kernel_rfl) ?_ _
        refine NoPanic.normal ?_
        clear hHeldZ cx fx
        obtain ⟨w6, hw6⟩ : ∃ w6, w6 = cF.setCell ⟨w.heap.size, 6, none⟩ (.slice Ar j cr) := ⟨_, rfl⟩
        have hbF1 : Below W1.heap.size W1 cF := HBu1.out _ HBF.out
        have hx6 : RX w6 w.heap.size f (.slice Bu nu cu) s.closed s.next (.slice Ak nk ck) (.slice Aq nt ct) (.slice Ar j cr) := by rw [hw6]; exact (HX.out cF hbF1).1.set6
        have hq6 : RX w6 (w.heap.size + 1 + 1) ⟨#[]⟩ (.slice none 0 0) 0 0 (.slice none 0 0) (.slice none 0 0) (.slice none 0 0) := by rw [hw6]; exact (HX.out cF hbF1).2.2.1.far (by omega)
        have HB6 : Hid (Below w.heap.size w w6) := Lib.hid (by rw [hw6]; exact (HBW.out cF hbF1).setCell (p := ⟨w.heap.size, 6, none⟩) (Nat.le_refl _) _)
        have HW6 := Lib.hid hw6
        obtain ⟨x0, x1, x2, x3, x4, x5, x6, xf⟩ := hx6.cells
        obtain ⟨q0, q1, q2, q3, q4, q5, q6, qf⟩ := hq6.cells
        rw [show ((0 : Nat) : Int) = 0 from rfl] at q3
        have qf0 := qf 0; have qf1 := qf 1; have qf2 := qf 2; have qf3 := qf 3; have qf4 := qf 4; have qf5 := qf 5; have qf6 := qf 6
        clear qf xf hx6 hq6 hbF1
        rw [← hw6]
        clear hw6
        go_wp2_with fail
        refine bodyPost_ret (v := .tuple #[.agg #[.string f, .slice Bu nu cu, .int .i64 s.closed, .int .u64 (s.next : Nat), .slice Ak nk ck, .slice Aq nt ct, .slice Ar j cr], .bool true]) (by simp [results, Tryz.results81, go_sem, q0, q1, q2, q3, q4, q5, q6]) rfl ?_
        obtain ⟨W7, hW7⟩ : ∃ W7, W7 = ((((((w6.setCell ⟨w.heap.size + 1 + 1, 0, none⟩ (.string f)).setCell ⟨w.heap.size + 1 + 1, 1, none⟩ (.slice Bu nu cu)).setCell ⟨w.heap.size + 1 + 1, 2, none⟩ (.int .i64 s.closed)).setCell ⟨w.heap.size + 1 + 1, 3, none⟩ (.int .u64 (s.next : Nat))).setCell ⟨w.heap.size + 1 + 1, 4, none⟩ (.slice Ak nk ck)).setCell ⟨w.heap.size + 1 + 1, 5, none⟩ (.slice Aq nt ct)).setCell ⟨w.heap.size + 1 + 1, 6, none⟩ (.slice Ar j cr) := ⟨_, rfl⟩
        rw [← hW7]
        exact HOUT.out cF w6 W7 Ar cr j (by omega) HOF.out HBRF.out HBF.out HW6.out HB6.out hW7
       ·obtain ⟨cx, -⟩ := HCX.out u0 HBu.out
        go_simp
        refine hK.out _ _ (HKS.out _ HBu.out) (fun hH1L => ?_)
        clear hK K hH1
        try simp only [ap]
        clear cx
        refine tk 4 rfl ?_
        refine rd1 0 rfl fun K hK => ?_
        go_simp
        obtain ⟨zw0, hc0⟩ : ∃ u, u = u0.alloc (.cells #[] 94) := ⟨_, rfl⟩
        rw [← hc0]
        obtain ⟨ia, hia⟩ : ∃ i, i = u0.heap.size := ⟨_, rfl⟩
        rw [← hia]
        have hbz : Below u0.heap.size u0 zw0 := by rw [hc0]; exact (Below.refl _ _).alloc (Nat.le_refl _) _
        have HB0 : Hid (Below u0.heap.size u0 zw0) := Lib.hid (HBu.out.trans (hbz.mono HBu.out.size))
        have own0_0 : Hid (zw0.ownsRow u0.heap.size 94 2 (.slice (some ⟨ia, 0, none⟩) 0 0) 0 []) := Lib.hid (by rw [hc0, hia]; exact World.ownsRow_lit u0 #[] 0 HBu.out.size (Nat.zero_le _) (by simp))
        clear hbz
        replace hc0 := Lib.hid hc0
        replace hia := Lib.hid hia
        refine hK.out _ _ (HKS.out _ HB0.out) (fun hH01L => ?_)
        clear hK K hH1L
        try simp only [ap]
        refine rd1 5 rfl fun K hK => ?_
        refine step_append_any zw0 rfl _ _ 82 94 rfl i0 _ 2 16 Tryz.underlying82 HSZ.out hi0 hz0 hz1 hz2 rfl (by decide) u0.heap.size (.slice (some ⟨ia, 0, none⟩) 0 0) (.slice (some ⟨mb, mo, none⟩) j (j + 1)) 0 j [] (xs.take (j * 2)) rfl rfl own0_0.out (HIN.out _ HB0.out) (by simp only [maxLen]; omega) (by omega) HB0.out.size ?_
        intro v1 zw0A hown hgr
        have HB0A : Hid (Below u0.heap.size u0 zw0A) := Lib.hid (below_grown HB0.out hgr (fun r hr => (own0_0.out.lt r hr).1) HB0.out.size)
        rw [Nat.zero_add, List.nil_append] at hown
        have own1_0A := Lib.hid hown
        clear hown hgr
        refine hK.out _ _ (HKS.out _ HB0A.out) (fun hH01AL => ?_)
        clear hK K hH01L
        try simp only [ap]
        refine rd1 11 rfl fun K hK => ?_
        refine step_append_any zw0A rfl _ _ 82 94 rfl i0 _ 2 16 Tryz.underlying82 HSZ.out hi0 hz0 hz1 hz2 rfl (by decide) u0.heap.size v1 (.slice (some ⟨mb, mo, none⟩) 0 0) j 0 (xs.take (j * 2)) (xs.drop ((j + 1) * 2)) rfl rfl own1_0A.out (HIN2.out _ HB0A.out) (by simp only [maxLen]; omega) (by omega) HB0A.out.size ?_
        intro vF cF hown hgr
        rw [Nat.add_zero] at hown
        obtain ⟨Ar, cr, rfl, hbr⟩ := own_slice hown
        have HOF := Lib.hid hown; have HBRF := Lib.hid hbr
        have HBF : Hid (Below u0.heap.size u0 cF) := Lib.hid (below_grown HB0A.out hgr (fun r hr => (own1_0A.out.lt r hr).1) HB0A.out.size)
        clear hown hgr hbr
        refine hK.out _ _ (HKS.out _ HBF.out) (fun hH01ABL => ?_)
        clear hK K hH01AL
        try simp only [ap]
        refine tk 12 rfl ?_
        obtain ⟨cx, fx⟩ := HCX.out cF HBF.out
        refine rd1 13 rfl fun K hK => ?_
        go_simp
        refine hK.out _ _ (HKS2.out _ _ HBF.out) (fun hHeldZ => ?_)
        clear hK K hH01ABL
        try simp only [ap]
        refine wpAnyH_done (by kernel_rfl) ?_ _
        refine NoPanic.normal ?_
        clear hHeldZ cx fx
        obtain ⟨w6, hw6⟩ : ∃ w6, w6 = cF.setCell ⟨w.heap.size, 6, none⟩ (.slice Ar j cr) := ⟨_, rfl⟩
        have hbF1 : Below W1.heap.size W1 cF := HBu1.out _ HBF.out
        have hx6 : RX w6 w.heap.size f (.slice Bu nu cu) s.closed s.next (.slice Ak nk ck) (.slice Aq nt ct) (.slice Ar j cr) := by rw [hw6]; exact (HX.out cF hbF1).1.set6
        have hq6 : RX w6 (w.heap.size + 1 + 1) ⟨#[]⟩ (.slice none 0 0) 0 0 (.slice none 0 0) (.slice none 0 0) (.slice none 0 0) := by rw [hw6]; exact (HX.out cF hbF1).2.2.1.far (by omega)
        have HB6 : Hid (Below w.heap.size w w6) := Lib.hid (by rw [hw6]; exact (HBW.out cF hbF1).setCell (p := ⟨w.heap.size, 6, none⟩) (Nat.le_refl _) _)
        have HW6 := Lib.hid hw6
        obtain ⟨x0, x1, x2, x3, x4, x5, x6, xf⟩ := hx6.cells
        obtain ⟨q0, q1, q2, q3, q4, q5, q6, qf⟩ := hq6.cells
        rw [show ((0 : Nat) : Int) = 0 from rfl] at q3
        have qf0 := qf 0; have qf1 := qf 1; have qf2 := qf 2; have qf3 := qf 3; have qf4 := qf 4; have qf5 := qf 5; have qf6 := qf 6
        clear qf xf hx6 hq6 hbF1
        rw [← hw6]
        clear hw6
        go_wp2_with fail
        refine bodyPost_ret (v := .tuple #[.agg #[.string f, .slice Bu nu cu, .int .i64 s.closed, .int .u64 (s.next : Nat), .slice Ak nk ck, .slice Aq nt ct, .slice Ar j cr], .bool true]) (by simp [results, Tryz.results81, go_sem, q0, q1, q2, q3, q4, q5, q6]) rfl ?_
        obtain ⟨W7, hW7⟩ : ∃ W7, W7 = ((((((w6.setCell ⟨w.heap.size + 1 + 1, 0, none⟩ (.string f)).setCell ⟨w.heap.size + 1 + 1, 1, none⟩ (.slice Bu nu cu)).setCell ⟨w.heap.size + 1 + 1, 2, none⟩ (.int .i64 s.closed)).setCell ⟨w.heap.size + 1 + 1, 3, none⟩ (.int .u64 (s.next : Nat))).setCell ⟨w.heap.size + 1 + 1, 4, none⟩ (.slice Ak nk ck)).setCell ⟨w.heap.size + 1 + 1, 5, none⟩ (.slice Aq nt ct)).setCell ⟨w.heap.size + 1 + 1, 6, none⟩ (.slice Ar j cr) := ⟨_, rfl⟩
        rw [← hW7]
        exact HOUT.out cF w6 W7 Ar cr j (by omega) HOF.out HBRF.out HBF.out HW6.out HB6.out hW7
     ·have HIN2 := HIN2a
      refine wp_region_noPanic ?_
      refine wp_region_held_drew (S := (fun W : World => W.cell? ⟨w.heap.size + 3, 5, none⟩ = some (.string text))) (by kernel_rfl) ?_ (fun hHeld => ?_)
      ·rw [← hu0]; exact HKS.out _ (Below.refl _ _)
      rw [← hu0] at hHeld
      rw [← hu0]
      replace hu0 := Lib.hid hu0
      refine tk 1 rfl ?_
      refine tk 3 rfl ?_
      refine tk 6 rfl ?_
      refine tk 8 rfl ?_
      refine tk 9 rfl ?_
      refine wpAnyH_ready (rs := [0, 2, 7]) (by kernel_rfl) (by simp) ?_
      refine cons_drop rfl (fun K hK => ?_) (cons_drop rfl (fun K hK => ?_) (cons_drop rfl (fun K hK => ?_) AllReadyH.nil))
      ·go_simp
       obtain ⟨zw0, hc0⟩ : ∃ u, u = u0.alloc (.cells #[] 94) := ⟨_, rfl⟩
       rw [← hc0]
       obtain ⟨ia, hia⟩ : ∃ i, i = u0.heap.size := ⟨_, rfl⟩
       rw [← hia]
       have hbz : Below u0.heap.size u0 zw0 := by rw [hc0]; exact (Below.refl _ _).alloc (Nat.le_refl _) _
       have HB0 : Hid (Below u0.heap.size u0 zw0) := Lib.hid (HBu.out.trans (hbz.mono HBu.out.size))
       have own0_0 : Hid (zw0.ownsRow u0.heap.size 94 2 (.slice (some ⟨ia, 0, none⟩) 0 0) 0 []) := Lib.hid (by rw [hc0, hia]; exact World.ownsRow_lit u0 #[] 0 HBu.out.size (Nat.zero_le _) (by simp))
       clear hbz
       replace hc0 := Lib.hid hc0
       replace hia := Lib.hid hia
       refine hK.out _ _ (HKS.out _ HB0.out) (fun hH0 => ?_)
       clear hK K hHeld
       try simp only [ap]
       refine rd2 2 7 rfl rfl (fun K hK => ?_) fun K hK => ?_
       ·obtain ⟨cx, -⟩ := HCX.out zw0 HB0.out
        go_simp
        refine hK.out _ _ (HKS.out _ HB0.out) (fun hH0L => ?_)
        clear hK K hH0
        try simp only [ap]
        clear cx
        refine tk 4 rfl ?_
        refine rd2 5 7 rfl rfl (fun K hK => ?_) fun K hK => ?_
        ·refine step_append_any zw0 rfl _ _ 82 94 rfl i0 _ 2 16 Tryz.underlying82 HSZ.out hi0 hz0 hz1 hz2 rfl (by decide) u0.heap.size (.slice (some ⟨ia, 0, none⟩) 0 0) (.slice (some ⟨mb, mo, none⟩) j cm) 0 j [] (xs.take (j * 2)) rfl rfl own0_0.out (HIN.out _ HB0.out) (by simp only [maxLen]; omega) (by omega) HB0.out.size ?_
         intro v1 zw0A hown hgr
         have HB0A : Hid (Below u0.heap.size u0 zw0A) := Lib.hid (below_grown HB0.out hgr (fun r hr => (own0_0.out.lt r hr).1) HB0.out.size)
         rw [Nat.zero_add, List.nil_append] at hown
         have own1_0A := Lib.hid hown
         clear hown hgr
         refine hK.out _ _ (HKS.out _ HB0A.out) (fun hH0AL => ?_)
         clear hK K hH0L
         try simp only [ap]
         refine rd1 7 rfl fun K hK => ?_
         obtain ⟨cx, -⟩ := HCX.out zw0A HB0A.out
         go_simp
         refine hK.out _ _ (HKS.out _ HB0A.out) (fun hH01AL => ?_)
         clear hK K hH0AL
         try simp only [ap]
         clear cx
         refine tk 10 rfl ?_
         refine rd1 11 rfl fun K hK => ?_
         refine step_append_any zw0A rfl _ _ 82 94 rfl i0 _ 2 16 Tryz.underlying82 HSZ.out hi0 hz0 hz1 hz2 rfl (by decide) u0.heap.size v1 (.slice (some ⟨mb, mo + (j + 1) * 2, none⟩) (N - (j + 1)) (cm - (j + 1))) j (N - (j + 1)) (xs.take (j * 2)) (xs.drop ((j + 1) * 2)) rfl rfl own1_0A.out (HIN2.out _ HB0A.out) (by simp only [maxLen]; omega) (by omega) HB0A.out.size ?_
         intro vF cF hown hgr
         obtain ⟨Ar, cr, rfl, hbr⟩ := own_slice hown
         have HOF := Lib.hid hown; have HBRF := Lib.hid hbr
         have HBF : Hid (Below u0.heap.size u0 cF) := Lib.hid (below_grown HB0A.out hgr (fun r hr => (own1_0A.out.lt r hr).1) HB0A.out.size)
         clear hown hgr hbr
         refine hK.out _ _ (HKS.out _ HBF.out) (fun hH01ABL => ?_)
         clear hK K hH01AL
         try simp only [ap]
         refine tk 12 rfl ?_
         obtain ⟨cx, fx⟩ := HCX.out cF HBF.out
         refine rd1 13 rfl fun K hK => ?_
         go_simp
         refine hK.out _ _ (HKS2.out _ _ HBF.out) (fun hHeldZ => ?_)
         clear hK K hH01ABL
         try simp only [ap]
         refine wpAnyH_done (by kernel_rfl) ?_ _
         refine NoPanic.normal ?_
         clear hHeldZ cx fx
         obtain ⟨w6, hw6⟩ : ∃ w6, w6 = cF.setCell ⟨w.heap.size, 6, none⟩ (.slice Ar (j + (N - (j + 1))) cr) := ⟨_, rfl⟩
         have hbF1 : Below W1.heap.size W1 cF := HBu1.out _ HBF.out
         have hx6 : RX w6 w.heap.size f (.slice Bu nu cu) s.closed s.next (.slice Ak nk ck) (.slice Aq nt ct) (.slice Ar (j + (N - (j + 1))) cr) := by rw [hw6]; exact (HX.out cF hbF1).1.set6
         have hq6 : RX w6 (w.heap.size + 1 + 1) ⟨#[]⟩ (.slice none 0 0) 0 0 (.slice none 0 0) (.slice none 0 0) (.slice none 0 0) := by rw [hw6]; exact (HX.out cF hbF1).2.2.1.far (by omega)
         have HB6 : Hid (Below w.heap.size w w6) := Lib.hid (by rw [hw6]; exact (HBW.out cF hbF1).setCell (p := ⟨w.heap.size, 6, none⟩) (Nat.le_refl _) _)
         have HW6 := Lib.hid hw6
         obtain ⟨x0, x1, x2, x3, x4, x5, x6, xf⟩ := hx6.cells
         obtain ⟨q0, q1, q2, q3, q4, q5, q6, qf⟩ := hq6.cells
         rw [show ((0 : Nat) : Int) = 0 from rfl] at q3
         have qf0 := qf 0; have qf1 := qf 1; have qf2 := qf 2; have qf3 := qf 3; have qf4 := qf 4; have qf5 := qf 5; have qf6 := qf 6
         clear qf xf hx6 hq6 hbF1
         rw [← hw6]
         clear hw6
         go_wp2_with fail
         refine bodyPost_ret (v := .tuple #[.agg #[.string f, .slice Bu nu cu, .int .i64 s.closed, .int .u64 (s.next : Nat), .slice Ak nk ck, .slice Aq nt ct, .slice Ar (j + (N - (j + 1))) cr], .bool true]) (by simp [results, Tryz.results81, go_sem, q0, q1, q2, q3, q4, q5, q6]) rfl ?_
         obtain ⟨W7, hW7⟩ : ∃ W7, W7 = ((((((w6.setCell ⟨w.heap.size + 1 + 1, 0, none⟩ (.string f)).setCell ⟨w.heap.size + 1 + 1, 1, none⟩ (.slice Bu nu cu)).setCell ⟨w.heap.size + 1 + 1, 2, none⟩ (.int .i64 s.closed)).setCell ⟨w.heap.size + 1 + 1, 3, none⟩ (.int .u64 (s.next : Nat))).setCell ⟨w.heap.size + 1 + 1, 4, none⟩ (.slice Ak nk ck)).setCell ⟨w.heap.size + 1 + 1, 5, none⟩ (.slice Aq nt ct)).setCell ⟨w.heap.size + 1 + 1, 6, none⟩ (.slice Ar (j + (N - (j + 1))) cr) := ⟨_, rfl⟩
         rw [← hW7]
         exact HOUT.out cF w6 W7 Ar cr (j + (N - (j + 1))) (by omega) HOF.out HBRF.out HBF.out HW6.out HB6.out hW7
        ·obtain ⟨cx, -⟩ := HCX.out zw0 HB0.out
         go_simp
         refine hK.out _ _ (HKS.out _ HB0.out) (fun hH01L => ?_)
         clear hK K hH0L
         try simp only [ap]
         clear cx
         refine tk 10 rfl ?_
         refine rd1 5 rfl fun K hK => ?_
         refine step_append_any zw0 rfl _ _ 82 94 rfl i0 _ 2 16 Tryz.underlying82 HSZ.out hi0 hz0 hz1 hz2 rfl (by decide) u0.heap.size (.slice (some ⟨ia, 0, none⟩) 0 0) (.slice (some ⟨mb, mo, none⟩) j cm) 0 j [] (xs.take (j * 2)) rfl rfl own0_0.out (HIN.out _ HB0.out) (by simp only [maxLen]; omega) (by omega) HB0.out.size ?_
         intro v1 zw0A hown hgr
         have HB0A : Hid (Below u0.heap.size u0 zw0A) := Lib.hid (below_grown HB0.out hgr (fun r hr => (own0_0.out.lt r hr).1) HB0.out.size)
         rw [Nat.zero_add, List.nil_append] at hown
         have own1_0A := Lib.hid hown
         clear hown hgr
         refine hK.out _ _ (HKS.out _ HB0A.out) (fun hH01AL => ?_)
         clear hK K hH01L
         try simp only [ap]
         refine rd1 11 rfl fun K hK => ?_
         refine step_append_any zw0A rfl _ _ 82 94 rfl i0 _ 2 16 Tryz.underlying82 HSZ.out hi0 hz0 hz1 hz2 rfl (by decide) u0.heap.size v1 (.slice (some ⟨mb, mo + (j + 1) * 2, none⟩) (N - (j + 1)) (cm - (j + 1))) j (N - (j + 1)) (xs.take (j * 2)) (xs.drop ((j + 1) * 2)) rfl rfl own1_0A.out (HIN2.out _ HB0A.out) (by simp only [maxLen]; omega) (by omega) HB0A.out.size ?_
         intro vF cF hown hgr
         obtain ⟨Ar, cr, rfl, hbr⟩ := own_slice hown
         have HOF := Lib.hid hown; have HBRF := Lib.hid hbr
         have HBF : Hid (Below u0.heap.size u0 cF) := Lib.hid (below_grown HB0A.out hgr (fun r hr => (own1_0A.out.lt r hr).1) HB0A.out.size)
         clear hown hgr hbr
         refine hK.out _ _ (HKS.out _ HBF.out) (fun hH01ABL => ?_)
         clear hK K hH01AL
         try simp only [ap]
         refine tk 12 rfl ?_
         obtain ⟨cx, fx⟩ := HCX.out cF HBF.out
         refine rd1 13 rfl fun K hK => ?_
         go_simp
         refine hK.out _ _ (HKS2.out _ _ HBF.out) (fun hHeldZ => ?_)
         clear hK K hH01ABL
         try simp only [ap]
         refine wpAnyH_done (by kernel_rfl) ?_ _
         refine NoPanic.normal ?_
         clear hHeldZ cx fx
         obtain ⟨w6, hw6⟩ : ∃ w6, w6 = cF.setCell ⟨w.heap.size, 6, none⟩ (.slice Ar (j + (N - (j + 1))) cr) := ⟨_, rfl⟩
         have hbF1 : Below W1.heap.size W1 cF := HBu1.out _ HBF.out
         have hx6 : RX w6 w.heap.size f (.slice Bu nu cu) s.closed s.next (.slice Ak nk ck) (.slice Aq nt ct) (.slice Ar (j + (N - (j + 1))) cr) := by rw [hw6]; exact (HX.out cF hbF1).1.set6
         have hq6 : RX w6 (w.heap.size + 1 + 1) ⟨#[]⟩ (.slice none 0 0) 0 0 (.slice none 0 0) (.slice none 0 0) (.slice none 0 0) := by rw [hw6]; exact (HX.out cF hbF1).2.2.1.far (by omega)
         have HB6 : Hid (Below w.heap.size w w6) := Lib.hid (by rw [hw6]; exact (HBW.out cF hbF1).setCell (p := ⟨w.heap.size, 6, none⟩) (Nat.le_refl _) _)
         have HW6 := Lib.hid hw6
         obtain ⟨x0, x1, x2, x3, x4, x5, x6, xf⟩ := hx6.cells
         obtain ⟨q0, q1, q2, q3, q4, q5, q6, qf⟩ := hq6.cells
         rw [show ((0 : Nat) : Int) = 0 from rfl] at q3
         have qf0 := qf 0; have qf1 := qf 1; have qf2 := qf 2; have qf3 := qf 3; have qf4 := qf 4; have qf5 := qf 5; have qf6 := qf 6
         clear qf xf hx6 hq6 hbF1
         rw [← hw6]
         clear hw6
         go_wp2_with fail
         refine bodyPost_ret (v := .tuple #[.agg #[.string f, .slice Bu nu cu, .int .i64 s.closed, .int .u64 (s.next : Nat), .slice Ak nk ck, .slice Aq nt ct, .slice Ar (j + (N - (j + 1))) cr], .bool true]) (by simp [results, Tryz.results81, go_sem, q0, q1, q2, q3, q4, q5, q6]) rfl ?_
         obtain ⟨W7, hW7⟩ : ∃ W7, W7 = ((((((w6.setCell ⟨w.heap.size + 1 + 1, 0, none⟩ (.string f)).setCell ⟨w.heap.size + 1 + 1, 1, none⟩ (.slice Bu nu cu)).setCell ⟨w.heap.size + 1 + 1, 2, none⟩ (.int .i64 s.closed)).setCell ⟨w.heap.size + 1 + 1, 3, none⟩ (.int .u64 (s.next : Nat))).setCell ⟨w.heap.size + 1 + 1, 4, none⟩ (.slice Ak nk ck)).setCell ⟨w.heap.size + 1 + 1, 5, none⟩ (.slice Aq nt ct)).setCell ⟨w.heap.size + 1 + 1, 6, none⟩ (.slice Ar (j + (N - (j + 1))) cr) := ⟨_, rfl⟩
         rw [← hW7]
         exact HOUT.out cF w6 W7 Ar cr (j + (N - (j + 1))) (by omega) HOF.out HBRF.out HBF.out HW6.out HB6.out hW7
       ·obtain ⟨cx, -⟩ := HCX.out zw0 HB0.out
        go_simp
        refine hK.out _ _ (HKS.out _ HB0.out) (fun hH01 => ?_)
        clear hK K hH0
        try simp only [ap]
        clear cx
        refine tk 10 rfl ?_
        refine rd1 2 rfl fun K hK => ?_
        obtain ⟨cx, -⟩ := HCX.out zw0 HB0.out
        go_simp
        refine hK.out _ _ (HKS.out _ HB0.out) (fun hH01L => ?_)
        clear hK K hH01
        try simp only [ap]
        clear cx
        refine tk 4 rfl ?_
        refine rd1 5 rfl fun K hK => ?_
        refine step_append_any zw0 rfl _ _ 82 94 rfl i0 _ 2 16 Tryz.underlying82 HSZ.out hi0 hz0 hz1 hz2 rfl (by decide) u0.heap.size (.slice (some ⟨ia, 0, none⟩) 0 0) (.slice (some ⟨mb, mo, none⟩) j cm) 0 j [] (xs.take (j * 2)) rfl rfl own0_0.out (HIN.out _ HB0.out) (by simp only [maxLen]; omega) (by omega) HB0.out.size ?_
        intro v1 zw0A hown hgr
        have HB0A : Hid (Below u0.heap.size u0 zw0A) := Lib.hid (below_grown HB0.out hgr (fun r hr => (own0_0.out.lt r hr).1) HB0.out.size)
        rw [Nat.zero_add, List.nil_append] at hown
        have own1_0A := Lib.hid hown
        clear hown hgr
        refine hK.out _ _ (HKS.out _ HB0A.out) (fun hH01AL => ?_)
        clear hK K hH01L
        try simp only [ap]
        refine rd1 11 rfl fun K hK => ?_
        refine step_append_any zw0A rfl _ _ 82 94 rfl i0 _ 2 16 Tryz.underlying82 HSZ.out hi0 hz0 hz1 hz2 rfl (by decide) u0.heap.size v1 (.slice (some ⟨mb, mo + (j + 1) * 2, none⟩) (N - (j + 1)) (cm - (j + 1))) j (N - (j + 1)) (xs.take (j * 2)) (xs.drop ((j + 1) * 2)) rfl rfl own1_0A.out (HIN2.out _ HB0A.out) (by simp only [maxLen]; omega) (by omega) HB0A.out.size ?_
        intro vF cF hown hgr
        obtain ⟨Ar, cr, rfl, hbr⟩ := own_slice hown
        have HOF := Lib.hid hown; have HBRF := Lib.hid hbr
        have HBF : Hid (Below u0.heap.size u0 cF) := Lib.hid (below_grown HB0A.out hgr (fun r hr => (own1_0A.out.lt r hr).1) HB0A.out.size)
        clear hown hgr hbr
        refine hK.out _ _ (HKS.out _ HBF.out) (fun hH01ABL => ?_)
        clear hK K hH01AL
        try simp only [ap]
        refine tk 12 rfl ?_
        obtain ⟨cx, fx⟩ := HCX.out cF HBF.out
        refine rd1 13 rfl fun K hK => ?_
        go_simp
        refine hK.out _ _ (HKS2.out _ _ HBF.out) (fun hHeldZ => ?_)
        clear hK K hH01ABL
        try simp only [ap]
        refine wpAnyH_done (by kernel_rfl) ?_ _
        refine NoPanic.normal ?_
        clear hHeldZ cx fx
        obtain ⟨w6, hw6⟩ : ∃ w6, w6 = cF.setCell ⟨w.heap.size, 6, none⟩ (.slice Ar (j + (N - (j + 1))) cr) := ⟨_, rfl⟩
        have hbF1 : Below W1.heap.size W1 cF := HBu1.out _ HBF.out
        have hx6 : RX w6 w.heap.size f (.slice Bu nu cu) s.closed s.next (.slice Ak nk ck) (.slice Aq nt ct) (.slice Ar (j + (N - (j + 1))) cr) := by rw [hw6]; exact (HX.out cF hbF1).1.set6
        have hq6 : RX w6 (w.heap.size + 1 + 1) ⟨#[]⟩ (.slice none 0 0) 0 0 (.slice none 0 0) (.slice none 0 0) (.slice none 0 0) := by rw [hw6]; exact (HX.out cF hbF1).2.2.1.far (by omega)
        have HB6 : Hid (Below w.heap.size w w6) := Lib.hid (by rw [hw6]; exact (HBW.out cF hbF1).setCell (p := ⟨w.heap.size, 6, none⟩) (Nat.le_refl _) _)
        have HW6 := Lib.hid hw6
        obtain ⟨x0, x1, x2, x3, x4, x5, x6, xf⟩ := hx6.cells
        obtain ⟨q0, q1, q2, q3, q4, q5, q6, qf⟩ := hq6.cells
        rw [show ((0 : Nat) : Int) = 0 from rfl] at q3
        have qf0 := qf 0; have qf1 := qf 1; have qf2 := qf 2; have qf3 := qf 3; have qf4 := qf 4; have qf5 := qf 5; have qf6 := qf 6
        clear qf xf hx6 hq6 hbF1
        rw [← hw6]
        clear hw6
        go_wp2_with fail
        refine bodyPost_ret (v := .tuple #[.agg #[.string f, .slice Bu nu cu, .int .i64 s.closed, .int .u64 (s.next : Nat), .slice Ak nk ck, .slice Aq nt ct, .slice Ar (j + (N - (j + 1))) cr], .bool true]) (by simp [results, Tryz.results81, go_sem, q0, q1, q2, q3, q4, q5, q6]) rfl ?_
        obtain ⟨W7, hW7⟩ : ∃ W7, W7 = ((((((w6.setCell ⟨w.heap.size + 1 + 1, 0, none⟩ (.string f)).setCell ⟨w.heap.size + 1 + 1, 1, none⟩ (.slice Bu nu cu)).setCell ⟨w.heap.size + 1 + 1, 2, none⟩ (.int .i64 s.closed)).setCell ⟨w.heap.size + 1 + 1, 3, none⟩ (.int .u64 (s.next : Nat))).setCell ⟨w.heap.size + 1 + 1, 4, none⟩ (.slice Ak nk ck)).setCell ⟨w.heap.size + 1 + 1, 5, none⟩ (.slice Aq nt ct)).setCell ⟨w.heap.size + 1 + 1, 6, none⟩ (.slice Ar (j + (N - (j + 1))) cr) := ⟨_, rfl⟩
        rw [← hW7]
        exact HOUT.out cF w6 W7 Ar cr (j + (N - (j + 1))) (by omega) HOF.out HBRF.out HBF.out HW6.out HB6.out hW7
      ·obtain ⟨cx, -⟩ := HCX.out u0 HBu.out
       go_simp
       refine hK.out _ _ (HKS.out _ HBu.out) (fun hHL => ?_)
       clear hK K hHeld
       try simp only [ap]
       clear cx
       refine tk 4 rfl ?_
       refine rd2 0 7 rfl rfl (fun K hK => ?_) fun K hK => ?_
       ·go_simp
        obtain ⟨zw0, hc0⟩ : ∃ u, u = u0.alloc (.cells #[] 94) := ⟨_, rfl⟩
        rw [← hc0]
        obtain ⟨ia, hia⟩ : ∃ i, i = u0.heap.size := ⟨_, rfl⟩
        rw [← hia]
        have hbz : Below u0.heap.size u0 zw0 := by rw [hc0]; exact (Below.refl _ _).alloc (Nat.le_refl _) _
        have HB0 : Hid (Below u0.heap.size u0 zw0) := Lib.hid (HBu.out.trans (hbz.mono HBu.out.size))
        have own0_0 : Hid (zw0.ownsRow u0.heap.size 94 2 (.slice (some ⟨ia, 0, none⟩) 0 0) 0 []) := Lib.hid (by rw [hc0, hia]; exact World.ownsRow_lit u0 #[] 0 HBu.out.size (Nat.zero_le _) (by simp))
        clear hbz
        replace hc0 := Lib.hid hc0
        replace hia := Lib.hid hia
        refine hK.out _ _ (HKS.out _ HB0.out) (fun hH0L => ?_)
        clear hK K hHL
        try simp only [ap]
        refine rd2 5 7 rfl rfl (fun K hK => ?_) fun K hK => ?_
        ·refine step_append_any zw0 rfl _ _ 82 94 rfl i0 _ 2 16 Tryz.underlying82 HSZ.out hi0 hz0 hz1 hz2 rfl (by decide) u0.heap.size (.slice (some ⟨ia, 0, none⟩) 0 0) (.slice (some ⟨mb, mo, none⟩) j cm) 0 j [] (xs.take (j * 2)) rfl rfl own0_0.out (HIN.out _ HB0.out) (by simp only [maxLen]; omega) (by omega) HB0.out.size ?_
         intro v1 zw0A hown hgr
         have HB0A : Hid (Below u0.heap.size u0 zw0A) := Lib.hid (below_grown HB0.out hgr (fun r hr => (own0_0.out.lt r hr).1) HB0.out.size)
         rw [Nat.zero_add, List.nil_append] at hown
         have own1_0A := Lib.hid hown
         clear hown hgr
         refine hK.out _ _ (HKS.out _ HB0A.out) (fun hH0AL => ?_)
         clear hK K hH0L
         try simp only [ap]
         refine rd1 7 rfl fun K hK => ?_
         obtain ⟨cx, -⟩ := HCX.out zw0A HB0A.out
         go_simp
         refine hK.out _ _ (HKS.out _ HB0A.out) (fun hH01AL => ?_)
         clear hK K hH0AL
         try simp only [ap]
         clear cx
         refine tk 10 rfl ?_
         refine rd1 11 rfl fun K hK => ?_
         refine step_append_any zw0A rfl _ _ 82 94 rfl i0 _ 2 16 Tryz.underlying82 HSZ.out hi0 hz0 hz1 hz2 rfl (by decide) u0.heap.size v1 (.slice (some ⟨mb, mo + (j + 1) * 2, none⟩) (N - (j + 1)) (cm - (j + 1))) j (N - (j + 1)) (xs.take (j * 2)) (xs.drop ((j + 1) * 2)) rfl rfl own1_0A.out (HIN2.out _ HB0A.out) (by simp only [maxLen]; omega) (by omega) HB0A.out.size ?_
         intro vF cF hown hgr
         obtain ⟨Ar, cr, rfl, hbr⟩ := own_slice hown
         have HOF := Lib.hid hown; have HBRF := Lib.hid hbr
         have HBF : Hid (Below u0.heap.size u0 cF) := Lib.hid (below_grown HB0A.out hgr (fun r hr => (own1_0A.out.lt r hr).1) HB0A.out.size)
         clear hown hgr hbr
         refine hK.out _ _ (HKS.out _ HBF.out) (fun hH01ABL => ?_)
         clear hK K hH01AL
         try simp only [ap]
         refine tk 12 rfl ?_
         obtain ⟨cx, fx⟩ := HCX.out cF HBF.out
         refine rd1 13 rfl fun K hK => ?_
         go_simp
         refine hK.out _ _ (HKS2.out _ _ HBF.out) (fun hHeldZ => ?_)
         clear hK K hH01ABL
         try simp only [ap]
         refine wpAnyH_done (by kernel_rfl) ?_ _
         refine NoPanic.normal ?_
         clear hHeldZ cx fx
         obtain ⟨w6, hw6⟩ : ∃ w6, w6 = cF.setCell ⟨w.heap.size, 6, none⟩ (.slice Ar (j + (N - (j + 1))) cr) := ⟨_, rfl⟩
         have hbF1 : Below W1.heap.size W1 cF := HBu1.out _ HBF.out
         have hx6 : RX w6 w.heap.size f (.slice Bu nu cu) s.closed s.next (.slice Ak nk ck) (.slice Aq nt ct) (.slice Ar (j + (N - (j + 1))) cr) := by rw [hw6]; exact (HX.out cF hbF1).1.set6
         have hq6 : RX w6 (w.heap.size + 1 + 1) ⟨#[]⟩ (.slice none 0 0) 0 0 (.slice none 0 0) (.slice none 0 0) (.slice none 0 0) := by rw [hw6]; exact (HX.out cF hbF1).2.2.1.far (by omega)
         have HB6 : Hid (Below w.heap.size w w6) := Lib.hid (by rw [hw6]; exact (HBW.out cF hbF1).setCell (p := ⟨w.heap.size, 6, none⟩) (Nat.le_refl _) _)
         have HW6 := Lib.hid hw6
         obtain ⟨x0, x1, x2, x3, x4, x5, x6, xf⟩ := hx6.cells
         obtain ⟨q0, q1, q2, q3, q4, q5, q6, qf⟩ := hq6.cells
         rw [show ((0 : Nat) : Int) = 0 from rfl] at q3
         have qf0 := qf 0; have qf1 := qf 1; have qf2 := qf 2; have qf3 := qf 3; have qf4 := qf 4; have qf5 := qf 5; have qf6 := qf 6
         clear qf xf hx6 hq6 hbF1
         rw [← hw6]
         clear hw6
         go_wp2_with fail
         refine bodyPost_ret (v := .tuple #[.agg #[.string f, .slice Bu nu cu, .int .i64 s.closed, .int .u64 (s.next : Nat), .slice Ak nk ck, .slice Aq nt ct, .slice Ar (j + (N - (j + 1))) cr], .bool true]) (by simp [results, Tryz.results81, go_sem, q0, q1, q2, q3, q4, q5, q6]) rfl ?_
         obtain ⟨W7, hW7⟩ : ∃ W7, W7 = ((((((w6.setCell ⟨w.heap.size + 1 + 1, 0, none⟩ (.string f)).setCell ⟨w.heap.size + 1 + 1, 1, none⟩ (.slice Bu nu cu)).setCell ⟨w.heap.size + 1 + 1, 2, none⟩ (.int .i64 s.closed)).setCell ⟨w.heap.size + 1 + 1, 3, none⟩ (.int .u64 (s.next : Nat))).setCell ⟨w.heap.size + 1 + 1, 4, none⟩ (.slice Ak nk ck)).setCell ⟨w.heap.size + 1 + 1, 5, none⟩ (.slice Aq nt ct)).setCell ⟨w.heap.size + 1 + 1, 6, none⟩ (.slice Ar (j + (N - (j + 1))) cr) := ⟨_, rfl⟩
         rw [← hW7]
         exact HOUT.out cF w6 W7 Ar cr (j + (N - (j + 1))) (by omega) HOF.out HBRF.out HBF.out HW6.out HB6.out hW7
        ·obtain ⟨cx, -⟩ := HCX.out zw0 HB0.out
         go_simp
         refine hK.out _ _ (HKS.out _ HB0.out) (fun hH01L => ?_)
         clear hK K hH0L
         try simp only [ap]
         clear cx
         refine tk 10 rfl ?_
         refine rd1 5 rfl fun K hK => ?_
         refine step_append_any zw0 rfl _ _ 82 94 rfl i0 _ 2 16 Tryz.underlying82 HSZ.out hi0 hz0 hz1 hz2 rfl (by decide) u0.heap.size (.slice (some ⟨ia, 0, none⟩) 0 0) (.slice (some ⟨mb, mo, none⟩) j cm) 0 j [] (xs.take (j * 2)) rfl rfl own0_0.out (HIN.out _ HB0.out) (by simp only [maxLen]; omega) (by omega) HB0.out.size ?_
         intro v1 zw0A hown hgr
         have HB0A : Hid (Below u0.heap.size u0 zw0A) := Lib.hid (below_grown HB0.out hgr (fun r hr => (own0_0.out.lt r hr).1) HB0.out.size)
         rw [Nat.zero_add, List.nil_append] at hown
         have own1_0A := Lib.hid hown
         clear hown hgr
         refine hK.out _ _ (HKS.out _ HB0A.out) (fun hH01AL => ?_)
         clear hK K hH01L
         try simp only [ap]
         refine rd1 11 rfl fun K hK => ?_
         refine step_append_any zw0A rfl _ _ 82 94 rfl i0 _ 2 16 Tryz.underlying82 HSZ.out hi0 hz0 hz1 hz2 rfl (by decide) u0.heap.size v1 (.slice (some ⟨mb, mo + (j + 1) * 2, none⟩) (N - (j + 1)) (cm - (j + 1))) j (N - (j + 1)) (xs.take (j * 2)) (xs.drop ((j + 1) * 2)) rfl rfl own1_0A.out (HIN2.out _ HB0A.out) (by simp only [maxLen]; omega) (by omega) HB0A.out.size ?_
         intro vF cF hown hgr
         obtain ⟨Ar, cr, rfl, hbr⟩ := own_slice hown
         have HOF := Lib.hid hown; have HBRF := Lib.hid hbr
         have HBF : Hid (Below u0.heap.size u0 cF) := Lib.hid (below_grown HB0A.out hgr (fun r hr => (own1_0A.out.lt r hr).1) HB0A.out.size)
         clear hown hgr hbr
         refine hK.out _ _ (HKS.out _ HBF.out) (fun hH01ABL => ?_)
         clear hK K hH01AL
         try simp only [ap]
         refine tk 12 rfl ?_
         obtain ⟨cx, fx⟩ := HCX.out cF HBF.out
         refine rd1 13 rfl fun K hK => ?_
         go_simp
         refine hK.out _ _ (HKS2.out _ _ HBF.out) (fun hHeldZ => ?_)
         clear hK K hH01ABL
         try simp only [ap]
         refine wpAnyH_done (by kernel_rfl) ?_ _
         refine NoPanic.normal ?_
         clear hHeldZ cx fx
         obtain ⟨w6, hw6⟩ : ∃ w6, w6 = cF.setCell ⟨w.heap.size, 6, none⟩ (.slice Ar (j + (N - (j + 1))) cr) := ⟨_, rfl⟩
         have hbF1 : Below W1.heap.size W1 cF := HBu1.out _ HBF.out
         have hx6 : RX w6 w.heap.size f (.slice Bu nu cu) s.closed s.next (.slice Ak nk ck) (.slice Aq nt ct) (.slice Ar (j + (N - (j + 1))) cr) := by rw [hw6]; exact (HX.out cF hbF1).1.set6
         have hq6 : RX w6 (w.heap.size + 1 + 1) ⟨#[]⟩ (.slice none 0 0) 0 0 (.slice none 0 0) (.slice none 0 0) (.slice none 0 0) := by rw [hw6]; exact (HX.out cF hbF1).2.2.1.far (by omega)
         have HB6 : Hid (Below w.heap.size w w6) := Lib.hid (by rw [hw6]; exact (HBW.out cF hbF1).setCell (p := ⟨w.heap.size, 6, none⟩) (Nat.le_refl _) _)
         have HW6 := Lib.hid hw6
         obtain ⟨x0, x1, x2, x3, x4, x5, x6, xf⟩ := hx6.cells
         obtain ⟨q0, q1, q2, q3, q4, q5, q6, qf⟩ := hq6.cells
         rw [show ((0 : Nat) : Int) = 0 from rfl] at q3
         have qf0 := qf 0; have qf1 := qf 1; have qf2 := qf 2; have qf3 := qf 3; have qf4 := qf 4; have qf5 := qf 5; have qf6 := qf 6
         clear qf xf hx6 hq6 hbF1
         rw [← hw6]
         clear hw6
         go_wp2_with fail
         refine bodyPost_ret (v := .tuple #[.agg #[.string f, .slice Bu nu cu, .int .i64 s.closed, .int .u64 (s.next : Nat), .slice Ak nk ck, .slice Aq nt ct, .slice Ar (j + (N - (j + 1))) cr], .bool true]) (by simp [results, Tryz.results81, go_sem, q0, q1, q2, q3, q4, q5, q6]) rfl ?_
         obtain ⟨W7, hW7⟩ : ∃ W7, W7 = ((((((w6.setCell ⟨w.heap.size + 1 + 1, 0, none⟩ (.string f)).setCell ⟨w.heap.size + 1 + 1, 1, none⟩ (.slice Bu nu cu)).setCell ⟨w.heap.size + 1 + 1, 2, none⟩ (.int .i64 s.closed)).setCell ⟨w.heap.size + 1 + 1, 3, none⟩ (.int .u64 (s.next : Nat))).setCell ⟨w.heap.size + 1 + 1, 4, none⟩ (.slice Ak nk ck)).setCell ⟨w.heap.size + 1 + 1, 5, none⟩ (.slice Aq nt ct)).setCell ⟨w.heap.size + 1 + 1, 6, none⟩ (.slice Ar (j + (N - (j + 1))) cr) := ⟨_, rfl⟩
         rw [← hW7]
         exact HOUT.out cF w6 W7 Ar cr (j + (N - (j + 1))) (by omega) HOF.out HBRF.out HBF.out HW6.out HB6.out hW7
       ·obtain ⟨cx, -⟩ := HCX.out u0 HBu.out
        go_simp
        refine hK.out _ _ (HKS.out _ HBu.out) (fun hH1L => ?_)
        clear hK K hHL
        try simp only [ap]
        clear cx
        refine tk 10 rfl ?_
        refine rd1 0 rfl fun K hK => ?_
        go_simp
        obtain ⟨zw0, hc0⟩ : ∃ u, u = u0.alloc (.cells #[] 94) := ⟨_, rfl⟩
        rw [← hc0]
        obtain ⟨ia, hia⟩ : ∃ i, i = u0.heap.size := ⟨_, rfl⟩
        rw [← hia]
        have hbz : Below u0.heap.size u0 zw0 := by rw [hc0]; exact (Below.refl _ _).alloc (Nat.le_refl _) _
        have HB0 : Hid (Below u0.heap.size u0 zw0) := Lib.hid (HBu.out.trans (hbz.mono HBu.out.size))
        have own0_0 : Hid (zw0.ownsRow u0.heap.size 94 2 (.slice (some ⟨ia, 0, none⟩) 0 0) 0 []) := Lib.hid (by rw [hc0, hia]; exact World.ownsRow_lit u0 #[] 0 HBu.out.size (Nat.zero_le _) (by simp))
        clear hbz
        replace hc0 := Lib.hid hc0
        replace hia := Lib.hid hia
        refine hK.out _ _ (HKS.out _ HB0.out) (fun hH01L => ?_)
        clear hK K hH1L
        try simp only [ap]
        refine rd1 5 rfl fun K hK => ?_
        refine step_append_any zw0 rfl _ _ 82 94 rfl i0 _ 2 16 Tryz.underlying82 HSZ.out hi0 hz0 hz1 hz2 rfl (by decide) u0.heap.size (.slice (some ⟨ia, 0, none⟩) 0 0) (.slice (some ⟨mb, mo, none⟩) j cm) 0 j [] (xs.take (j * 2)) rfl rfl own0_0.out (HIN.out _ HB0.out) (by simp only [maxLen]; omega) (by omega) HB0.out.size ?_
        intro v1 zw0A hown hgr
        have HB0A : Hid (Below u0.heap.size u0 zw0A) := Lib.hid (below_grown HB0.out hgr (fun r hr => (own0_0.out.lt r hr).1) HB0.out.size)
        rw [Nat.zero_add, List.nil_append] at hown
        have own1_0A := Lib.hid hown
        clear hown hgr
        refine hK.out _ _ (HKS.out _ HB0A.out) (fun hH01AL => ?_)
        clear hK K hH01L
        try simp only [ap]
        refine rd1 11 rfl fun K hK => ?_
        refine step_append_any zw0A rfl _ _ 82 94 rfl i0 _ 2 16 Tryz.underlying82 HSZ.out hi0 hz0 hz1 hz2 rfl (by decide) u0.heap.size v1 (.slice (some ⟨mb, mo + (j + 1) * 2, none⟩) (N - (j + 1)) (cm - (j + 1))) j (N - (j + 1)) (xs.take (j * 2)) (xs.drop ((j + 1) * 2)) rfl rfl own1_0A.out (HIN2.out _ HB0A.out) (by simp only [maxLen]; omega) (by omega) HB0A.out.size ?_
        intro vF cF hown hgr
        obtain ⟨Ar, cr, rfl, hbr⟩ := own_slice hown
        have HOF := Lib.hid hown; have HBRF := Lib.hid hbr
        have HBF : Hid (Below u0.heap.size u0 cF) := Lib.hid (below_grown HB0A.out hgr (fun r hr => (own1_0A.out.lt r hr).1) HB0A.out.size)
        clear hown hgr hbr
        refine hK.out _ _ (HKS.out _ HBF.out) (fun hH01ABL => ?_)
        clear hK K hH01AL
        try simp only [ap]
        refine tk 12 rfl ?_
        obtain ⟨cx, fx⟩ := HCX.out cF HBF.out
        refine rd1 13 rfl fun K hK => ?_
        go_simp
        refine hK.out _ _ (HKS2.out _ _ HBF.out) (fun hHeldZ => ?_)
        clear hK K hH01ABL
        try simp only [ap]
        refine wpAnyH_done (by kernel_rfl) ?_ _
        refine NoPanic.normal ?_
        clear hHeldZ cx fx
        obtain ⟨w6, hw6⟩ : ∃ w6, w6 = cF.setCell ⟨w.heap.size, 6, none⟩ (.slice Ar (j + (N - (j + 1))) cr) := ⟨_, rfl⟩
        have hbF1 : Below W1.heap.size W1 cF := HBu1.out _ HBF.out
        have hx6 : RX w6 w.heap.size f (.slice Bu nu cu) s.closed s.next (.slice Ak nk ck) (.slice Aq nt ct) (.slice Ar (j + (N - (j + 1))) cr) := by rw [hw6]; exact (HX.out cF hbF1).1.set6
        have hq6 : RX w6 (w.heap.size + 1 + 1) ⟨#[]⟩ (.slice none 0 0) 0 0 (.slice none 0 0) (.slice none 0 0) (.slice none 0 0) := by rw [hw6]; exact (HX.out cF hbF1).2.2.1.far (by omega)
        have HB6 : Hid (Below w.heap.size w w6) := Lib.hid (by rw [hw6]; exact (HBW.out cF hbF1).setCell (p := ⟨w.heap.size, 6, none⟩) (Nat.le_refl _) _)
        have HW6 := Lib.hid hw6
        obtain ⟨x0, x1, x2, x3, x4, x5, x6, xf⟩ := hx6.cells
        obtain ⟨q0, q1, q2, q3, q4, q5, q6, qf⟩ := hq6.cells
        rw [show ((0 : Nat) : Int) = 0 from rfl] at q3
        have qf0 := qf 0; have qf1 := qf 1; have qf2 := qf 2; have qf3 := qf 3; have qf4 := qf 4; have qf5 := qf 5; have qf6 := qf 6
        clear qf xf hx6 hq6 hbF1
        rw [← hw6]
        clear hw6
        go_wp2_with fail
        refine bodyPost_ret (v := .tuple #[.agg #[.string f, .slice Bu nu cu, .int .i64 s.closed, .int .u64 (s.next : Nat), .slice Ak nk ck, .slice Aq nt ct, .slice Ar (j + (N - (j + 1))) cr], .bool true]) (by simp [results, Tryz.results81, go_sem, q0, q1, q2, q3, q4, q5, q6]) rfl ?_
        obtain ⟨W7, hW7⟩ : ∃ W7, W7 = ((((((w6.setCell ⟨w.heap.size + 1 + 1, 0, none⟩ (.string f)).setCell ⟨w.heap.size + 1 + 1, 1, none⟩ (.slice Bu nu cu)).setCell ⟨w.heap.size + 1 + 1, 2, none⟩ (.int .i64 s.closed)).setCell ⟨w.heap.size + 1 + 1, 3, none⟩ (.int .u64 (s.next : Nat))).setCell ⟨w.heap.size + 1 + 1, 4, none⟩ (.slice Ak nk ck)).setCell ⟨w.heap.size + 1 + 1, 5, none⟩ (.slice Aq nt ct)).setCell ⟨w.heap.size + 1 + 1, 6, none⟩ (.slice Ar (j + (N - (j + 1))) cr) := ⟨_, rfl⟩
        rw [← hW7]
        exact HOUT.out cF w6 W7 Ar cr (j + (N - (j + 1))) (by omega) HOF.out HBRF.out HBF.out HW6.out HB6.out hW7
      ·obtain ⟨cx, -⟩ := HCX.out u0 HBu.out
       go_simp
       refine hK.out _ _ (HKS.out _ HBu.out) (fun hH1 => ?_)
       clear hK K hHeld
       try simp only [ap]
       clear cx
       refine tk 10 rfl ?_
       refine rd2 0 2 rfl rfl (fun K hK => ?_) fun K hK => ?_
       ·go_simp
        obtain ⟨zw0, hc0⟩ : ∃ u, u = u0.alloc (.cells #[] 94) := ⟨_, rfl⟩
        rw [← hc0]
        obtain ⟨ia, hia⟩ : ∃ i, i = u0.heap.size := ⟨_, rfl⟩
        rw [← hia]
        have hbz : Below u0.heap.size u0 zw0 := by rw [hc0]; exact (Below.refl _ _).alloc (Nat.le_refl _) _
        have HB0 : Hid (Below u0.heap.size u0 zw0) := Lib.hid (HBu.out.trans (hbz.mono HBu.out.size))
        have own0_0 : Hid (zw0.ownsRow u0.heap.size 94 2 (.slice (some ⟨ia, 0, none⟩) 0 0) 0 []) := Lib.hid (by rw [hc0, hia]; exact World.ownsRow_lit u0 #[] 0 HBu.out.size (Nat.zero_le _) (by simp))
        clear hbz
        replace hc0 := Lib.hid hc0
        replace hia := Lib.hid hia
        refine hK.out _ _ (HKS.out _ HB0.out) (fun hH01 => ?_)
        clear hK K hH1
        try simp only [ap]
        refine rd1 2 rfl fun K hK => ?_
        obtain ⟨cx, -⟩ := HCX.out zw0 HB0.out
        go_simp
        refine hK.out _ _ (HKS.out _ HB0.out) (fun hH01L => ?_)
        clear hK K hH01
        try simp only [ap]
        clear cx
        refine tk 4 rfl ?_
        refine rd1 5 rfl fun K hK => ?_
        refine step_append_any zw0 rfl _ _ 82 94 rfl i0 _ 2 16 Tryz.underlying82 HSZ.out hi0 hz0 hz1 hz2 rfl (by decide) u0.heap.size (.slice (some ⟨ia, 0, none⟩) 0 0) (.slice (some ⟨mb, mo, none⟩) j cm) 0 j [] (xs.take (j * 2)) rfl rfl own0_0.out (HIN.out _ HB0.out) (by simp only [maxLen]; omega) (by omega) HB0.out.size ?_
        intro v1 zw0A hown hgr
        have HB0A : Hid (Below u0.heap.size u0 zw0A) := Lib.hid (below_grown HB0.out hgr (fun r hr => (own0_0.out.lt r hr).1) HB0.out.size)
        rw [Nat.zero_add, List.nil_append] at hown
        have own1_0A := Lib.hid hown
        clear hown hgr
        refine hK.out _ _ (HKS.out _ HB0A.out) (fun hH01AL => ?_)
        clear hK K hH01L
        try simp only [ap]
        refine rd1 11 rfl fun K hK => ?_
        refine step_append_any zw0A rfl _ _ 82 94 rfl i0 _ 2 16 Tryz.underlying82 HSZ.out hi0 hz0 hz1 hz2 rfl (by decide) u0.heap.size v1 (.slice (some ⟨mb, mo + (j + 1) * 2, none⟩) (N - (j + 1)) (cm - (j + 1))) j (N - (j + 1)) (xs.take (j * 2)) (xs.drop ((j + 1) * 2)) rfl rfl own1_0A.out (HIN2.out _ HB0A.out) (by simp only [maxLen]; omega) (by omega) HB0A.out.size ?_
        intro vF cF hown hgr
        obtain ⟨Ar, cr, rfl, hbr⟩ := own_slice hown
        have HOF := Lib.hid hown; have HBRF := Lib.hid hbr
        have HBF : Hid (Below u0.heap.size u0 cF) := Lib.hid (below_grown HB0A.out hgr (fun r hr => (own1_0A.out.lt r hr).1) HB0A.out.size)
        clear hown hgr hbr
        refine hK.out _ _ (HKS.out _ HBF.out) (fun hH01ABL => ?_)
        clear hK K hH01AL
        try simp only [ap]
        refine tk 12 rfl ?_
        obtain ⟨cx, fx⟩ := HCX.out cF HBF.out
        refine rd1 13 rfl fun K hK => ?_
        go_simp
        refine hK.out _ _ (HKS2.out _ _ HBF.out) (fun hHeldZ => ?_)
        clear hK K hH01ABL
        try simp only [ap]
        refine wpAnyH_done (by kernel_rfl) ?_ _
        refine NoPanic.normal ?_
        clear hHeldZ cx fx
        obtain ⟨w6, hw6⟩ : ∃ w6, w6 = cF.setCell ⟨w.heap.size, 6, none⟩ (.slice Ar (j + (N - (j + 1))) cr) := ⟨_, rfl⟩
        have hbF1 : Below W1.heap.size W1 cF := HBu1.out _ HBF.out
        have hx6 : RX w6 w.heap.size f (.slice Bu nu cu) s.closed s.next (.slice Ak nk ck) (.slice Aq nt ct) (.slice Ar (j + (N - (j + 1))) cr) := by rw [hw6]; exact (HX.out cF hbF1).1.set6
        have hq6 : RX w6 (w.heap.size + 1 + 1) ⟨#[]⟩ (.slice none 0 0) 0 0 (.slice none 0 0) (.slice none 0 0) (.slice none 0 0) := by rw [hw6]; exact (HX.out cF hbF1).2.2.1.far (by omega)
        have HB6 : Hid (Below w.heap.size w w6) := Lib.hid (by rw [hw6]; exact (HBW.out cF hbF1).setCell (p := ⟨w.heap.size, 6, none⟩) (Nat.le_refl _) _)
        have HW6 := Lib.hid hw6
        obtain ⟨x0, x1, x2, x3, x4, x5, x6, xf⟩ := hx6.cells
        obtain ⟨q0, q1, q2, q3, q4, q5, q6, qf⟩ := hq6.cells
        rw [show ((0 : Nat) : Int) = 0 from rfl] at q3
        have qf0 := qf 0; have qf1 := qf 1; have qf2 := qf 2; have qf3 := qf 3; have qf4 := qf 4; have qf5 := qf 5; have qf6 := qf 6
        clear qf xf hx6 hq6 hbF1
        rw [← hw6]
        clear hw6
        go_wp2_with fail
        refine bodyPost_ret (v := .tuple #[.agg #[.string f, .slice Bu nu cu, .int .i64 s.closed, .int .u64 (s.next : Nat), .slice Ak nk ck, .slice Aq nt ct, .slice Ar (j + (N - (j + 1))) cr], .bool true]) (by simp [results, Tryz.results81, go_sem, q0, q1, q2, q3, q4, q5, q6]) rfl ?_
        obtain ⟨W7, hW7⟩ : ∃ W7, W7 = ((((((w6.setCell ⟨w.heap.size + 1 + 1, 0, none⟩ (.string f)).setCell ⟨w.heap.size + 1 + 1, 1, none⟩ (.slice Bu nu cu)).setCell ⟨w.heap.size + 1 + 1, 2, none⟩ (.int .i64 s.closed)).setCell ⟨w.heap.size + 1 + 1, 3, none⟩ (.int .u64 (s.next : Nat))).setCell ⟨w.heap.size + 1 + 1, 4, none⟩ (.slice Ak nk ck)).setCell ⟨w.heap.size + 1 + 1, 5, none⟩ (.slice Aq nt ct)).setCell ⟨w.heap.size + 1 + 1, 6, none⟩ (.slice Ar (j + (N - (j + 1))) cr) := ⟨_, rfl⟩
        rw [← hW7]
        exact HOUT.out cF w6 W7 Ar cr (j + (N - (j + 1))) (by omega) HOF.out HBRF.out HBF.out HW6.out HB6.out hW7
       ·obtain ⟨cx, -⟩ := HCX.out u0 HBu.out
        go_simp
        refine hK.out _ _ (HKS.out _ HBu.out) (fun hH1L => ?_)
        clear hK K hH1
        try simp only [ap]
        clear cx
        refine tk 4 rfl ?_
        refine rd1 0 rfl fun K hK => ?_
        go_simp
        obtain ⟨zw0, hc0⟩ : ∃ u, u = u0.alloc (.cells #[] 94) := ⟨_, rfl⟩
        rw [← hc0]
        obtain ⟨ia, hia⟩ : ∃ i, i = u0.heap.size := ⟨_, rfl⟩
        rw [← hia]
        have hbz : Below u0.heap.size u0 zw0 := by rw [hc0]; exact (Below.refl _ _).alloc (Nat.le_refl _) _
        have HB0 : Hid (Below u0.heap.size u0 zw0) := Lib.hid (HBu.out.trans (hbz.mono HBu.out.size))
        have own0_0 : Hid (zw0.ownsRow u0.heap.size 94 2 (.slice (some ⟨ia, 0, none⟩) 0 0) 0 []) := Lib.hid (by rw [hc0, hia]; exact World.ownsRow_lit u0 #[] 0 HBu.out.size (Nat.zero_le _) (by simp))
        clear hbz
        replace hc0 := Lib.hid hc0
        replace hia := Lib.hid hia
        refine hK.out _ _ (HKS.out _ HB0.out) (fun hH01L => ?_)
        clear hK K hH1L
        try simp only [ap]
        refine rd1 5 rfl fun K hK => ?_
        refine step_append_any zw0 rfl _ _ 82 94 rfl i0 _ 2 16 Tryz.underlying82 HSZ.out hi0 hz0 hz1 hz2 rfl (by decide) u0.heap.size (.slice (some ⟨ia, 0, none⟩) 0 0) (.slice (some ⟨mb, mo, none⟩) j cm) 0 j [] (xs.take (j * 2)) rfl rfl own0_0.out (HIN.out _ HB0.out) (by simp only [maxLen]; omega) (by omega) HB0.out.size ?_
        intro v1 zw0A hown hgr
        have HB0A : Hid (Below u0.heap.size u0 zw0A) := Lib.hid (below_grown HB0.out hgr (fun r hr => (own0_0.out.lt r hr).1) HB0.out.size)
        rw [Nat.zero_add, List.nil_append] at hown
        have own1_0A := Lib.hid hown
        clear hown hgr
        refine hK.out _ _ (HKS.out _ HB0A.out) (fun hH01AL => ?_)
        clear hK K hH01L
        try simp only [ap]
        refine rd1 11 rfl fun K hK => ?_
        refine step_append_any zw0A rfl _ _ 82 94 rfl i0 _ 2 16 Tryz.underlying82 HSZ.out hi0 hz0 hz1 hz2 rfl (by decide) u0.heap.size v1 (.slice (some ⟨mb, mo + (j + 1) * 2, none⟩) (N - (j + 1)) (cm - (j + 1))) j (N - (j + 1)) (xs.take (j * 2)) (xs.drop ((j + 1) * 2)) rfl rfl own1_0A.out (HIN2.out _ HB0A.out) (by simp only [maxLen]; omega) (by omega) HB0A.out.size ?_
        intro vF cF hown hgr
        obtain ⟨Ar, cr, rfl, hbr⟩ := own_slice hown
        have HOF := Lib.hid hown; have HBRF := Lib.hid hbr
        have HBF : Hid (Below u0.heap.size u0 cF) := Lib.hid (below_grown HB0A.out hgr (fun r hr => (own1_0A.out.lt r hr).1) HB0A.out.size)
        clear hown hgr hbr
        refine hK.out _ _ (HKS.out _ HBF.out) (fun hH01ABL => ?_)
        clear hK K hH01AL
        try simp only [ap]
        refine tk 12 rfl ?_
        obtain ⟨cx, fx⟩ := HCX.out cF HBF.out
        refine rd1 13 rfl fun K hK => ?_
        go_simp
        refine hK.out _ _ (HKS2.out _ _ HBF.out) (fun hHeldZ => ?_)
        clear hK K hH01ABL
        try simp only [ap]
        refine wpAnyH_done (by kernel_rfl) ?_ _
        refine NoPanic.normal ?_
        clear hHeldZ cx fx
        obtain ⟨w6, hw6⟩ : ∃ w6, w6 = cF.setCell ⟨w.heap.size, 6, none⟩ (.slice Ar (j + (N - (j + 1))) cr) := ⟨_, rfl⟩
        have hbF1 : Below W1.heap.size W1 cF := HBu1.out _ HBF.out
        have hx6 : RX w6 w.heap.size f (.slice Bu nu cu) s.closed s.next (.slice Ak nk ck) (.slice Aq nt ct) (.slice Ar (j + (N - (j + 1))) cr) := by rw [hw6]; exact (HX.out cF hbF1).1.set6
        have hq6 : RX w6 (w.heap.size + 1 + 1) ⟨#[]⟩ (.slice none 0 0) 0 0 (.slice none 0 0) (.slice none 0 0) (.slice none 0 0) := by rw [hw6]; exact (HX.out cF hbF1).2.2.1.far (by omega)
        have HB6 : Hid (Below w.heap.size w w6) := Lib.hid (by rw [hw6]; exact (HBW.out cF hbF1).setCell (p := ⟨w.heap.size, 6, none⟩) (Nat.le_refl _) _)
        have HW6 := Lib.hid hw6
        obtain ⟨x0, x1, x2, x3, x4, x5, x6, xf⟩ := hx6.cells
        obtain ⟨q0, q1, q2, q3, q4, q5, q6, qf⟩ := hq6.cells
        rw [show ((0 : Nat) : Int) = 0 from rfl] at q3
        have qf0 := qf 0; have qf1 := qf 1; have qf2 := qf 2; have qf3 := qf 3; have qf4 := qf 4; have qf5 := qf 5; have qf6 := qf 6
        clear qf xf hx6 hq6 hbF1
        rw [← hw6]
        clear hw6
        go_wp2_with fail
        refine bodyPost_ret (v := .tuple #[.agg #[.string f, .slice Bu nu cu, .int .i64 s.closed, .int .u64 (s.next : Nat), .slice Ak nk ck, .slice Aq nt ct, .slice Ar (j + (N - (j + 1))) cr], .bool true]) (by simp [results, Tryz.results81, go_sem, q0, q1, q2, q3, q4, q5, q6]) rfl ?_
        obtain ⟨W7, hW7⟩ : ∃ W7, W7 = ((((((w6.setCell ⟨w.heap.size + 1 + 1, 0, none⟩ (.string f)).setCell ⟨w.heap.size + 1 + 1, 1, none⟩ (.slice Bu nu cu)).setCell ⟨w.heap.size + 1 + 1, 2, none⟩ (.int .i64 s.closed)).setCell ⟨w.heap.size + 1 + 1, 3, none⟩ (.int .u64 (s.next : Nat))).setCell ⟨w.heap.size + 1 + 1, 4, none⟩ (.slice Ak nk ck)).setCell ⟨w.heap.size + 1 + 1, 5, none⟩ (.slice Aq nt ct)).setCell ⟨w.heap.size + 1 + 1, 6, none⟩ (.slice Ar (j + (N - (j + 1))) cr) := ⟨_, rfl⟩
        rw [← hW7]
        exact HOUT.out cF w6 W7 Ar cr (j + (N - (j + 1))) (by omega) HOF.out HBRF.out HBF.out HW6.out HB6.out hW7
    ·have k1 : ((tid : Int) == (id : Int)) = true := by simp; omega
     have k2 : decide ((tat : Int) ≤ (at' : Int)) = false := decide_eq_false (by omega)
     have h2n : at' < tat := by omega
     have HROUND : Hid (∀ q (hq : q < s.timers.length), q < j + 1 → ¬ ((s.timers[q]).1 = id ∧ (s.timers[q]).2 ≤ at')) := Lib.hid fun q hq hlq => by
      by_cases e : q = j
      ·subst e; rw [← HTT.out]; exact fun h => h2 h.2
      ·exact HNO.out q hq (by omega)
     have H1 := Lib.hid h1
     clear h1
     go_upto_region 27 with fail
     go_quiet (fail)
     generalize hw2 : wr.drewN nq = w2 at *
     have HQ2 : Hid (Below W1.heap.size W1 w2) := Lib.hid (by rw [← hw2]; exact below_drewN HB.out nq)
     clear hw2
     go_wp2_with fail
     go_roundw
     case rel => exact ⟨j + 1, by omega, by go_num, HROUND.out, HQ2.out⟩
     case measure => simp [intOf]; omega
   ·have k1 : ((tid : Int) == (id : Int)) = false := by simp; omega
    have HROUND : Hid (∀ q (hq : q < s.timers.length), q < j + 1 → ¬ ((s.timers[q]).1 = id ∧ (s.timers[q]).2 ≤ at')) := Lib.hid fun q hq hlq => by
     by_cases e : q = j
     ·subst e; rw [← HTT.out]; exact fun h => h1 h.1
     ·exact HNO.out q hq (by omega)
    go_upto_region 27 with fail
    go_quiet (fail)
    generalize hw2 : wr.drewN nq = w2 at *
    have HQ2 : Hid (Below W1.heap.size W1 w2) := Lib.hid (by rw [← hw2]; exact below_drewN HB.out nq)
    clear hw2
    go_wp2_with fail
    go_roundw
    case rel => exact ⟨j + 1, by omega, by go_num, HROUND.out, HQ2.out⟩
    case measure => simp [intOf]; omega
  ·have hj' : j = N := by omega
   have HN : Hid (applyM at' al ⟨5, id, en, ea, name, text, ev⟩ s = none) := Lib.hid (by
    have hnn := HNN.out
    cases hg : mget s.timers id with
    | none => simp [applyM, hg]
    | some x =>
     have h1 := List.mem_of_find?_eq_some hg
     have h2 := List.find?_some hg
     obtain ⟨q, hq, rfl⟩ := List.getElem_of_mem h1
     have h3 := HNO.out q hq (by omega)
     have h4 : ¬ (s.timers[q]).2 ≤ at' := fun h => h3 ⟨by simpa using h2, h⟩
     simp [applyM, hg, h4])
   subst hj'
   clear x0 x1 x2 x3 x4 x5 x6 y0 y1 y2 e0 e1 e2 e3 e4 e5 e6 e7 e8 e9 e10
   obtain ⟨x0, x1, x2, x3, x4, x5, x6, xf⟩ := (HX.out wr HB.out).1.cells
   obtain ⟨y0, y1, y2, -⟩ := (HX.out wr HB.out).2.1.cells
   obtain ⟨e0, e1, e2, e3, e4, e5, e6, e7, e8, e9, e10⟩ := EBox.cells (HX.out wr HB.out).2.2.2
   dsimp only at e0 e1 e2 e3 e4 e5
   obtain ⟨q0, q1, q2, q3, q4, q5, q6, qf⟩ := (HX.out wr HB.out).2.2.1.cells
   rw [show ((0 : Nat) : Int) = 0 from rfl] at q3
   have qf0 := qf 0; have qf1 := qf 1; have qf2 := qf 2; have qf3 := qf 3; have qf4 := qf 4; have qf5 := qf 5; have qf6 := qf 6
   clear qf
   go_wp2_with fail
   refine bodyPost_ret (v := .tuple #[.agg #[.string f, .slice Bu nu cu, .int .i64 s.closed, .int .u64 (s.next : Nat), .slice Ak nk ck, .slice Aq nt ct, .slice Am j cm], .bool false]) (by simp [results, Tryz.results81, go_sem, q0, q1, q2, q3, q4, q5, q6]) rfl ?_
   exact ⟨below7 (HBW.out wr HB.out) (Nat.le_succ_of_le (Nat.le_succ _)) _ _ _ _ _ _ _, s.closed, s.next, .slice Ak nk ck, .slice Aq nt ct, .slice Am j cm, ⟨_, _, _, rfl⟩, ⟨_, _, _, rfl⟩, ⟨_, _, _, rfl⟩, by rw [HN.out]; rfl, fun s' hs => by rw [HN.out] at hs; cases hs⟩
end Hi
end Go.Proofs.YtaahfiopdoinkaaGreat
namespace Go.Proofs.YtaahfiopdoinkaaGreat
namespace Hi
open Ev (EV)
open Cn (BT)
variable {X : Nat → Prop}

theorem outside_any (s : ST) (f : ByteArray) (Bu : Option Addr) (nu cu : Nat) (uk ut um : Value) (b : BT) (A : Option Addr) (cap : Nat) (w : World) (h : OIn X w s uk ut um b A cap) (hp : 0 < b.es.length) (he : EvOk (b.es[0]'hp)) (hk : (b.es[0]'hp).k ≤ 6) :
  Calls Tryz.prog 81 #[.agg (rhC f (.slice Bu nu cu) s.closed s.next uk ut um), .agg #[.string b.flow, .int .u64 (b.at' : Nat), .slice A b.es.length cap]] w (ROut X w f (.slice Bu nu cu) (applyM b.at' (decide (b.es.length = 1)) (b.es[0]'hp) s)) := by
 have h1 := he.k0
 have hc : (b.es[0]'hp).k = 1 ∨ (b.es[0]'hp).k = 2 ∨ (b.es[0]'hp).k = 3 ∨ (b.es[0]'hp).k = 4 ∨ (b.es[0]'hp).k = 5 ∨ (b.es[0]'hp).k = 6 := by omega
 rcases hc with q | q | q | q | q | q
 ·exact out1_any s f Bu nu cu uk ut um b A cap w h hp he q
 ·exact out2_any s f Bu nu cu uk ut um b A cap w h hp he q
 ·exact out3_any s f Bu nu cu uk ut um b A cap w h hp he q
 ·exact out4_any s f Bu nu cu uk ut um b A cap w h hp he q
 ·exact out5_any s f Bu nu cu uk ut um b A cap w h hp he q
 ·exact out6_any s f Bu nu cu uk ut um b A cap w h hp he q
end Hi
end Go.Proofs.YtaahfiopdoinkaaGreat
namespace Go.Proofs.YtaahfiopdoinkaaGreat
namespace Hi
open Ev (EV)
open Cn (BT)
variable {X : Nat → Prop}

end Hi
end Go.Proofs.YtaahfiopdoinkaaGreat
namespace Go.Proofs.YtaahfiopdoinkaaGreat
namespace Hi
open _root_.Go.Proofs.YtaahfiopdoinkaaGreat.Nm (ret_int ret_bool)
open Vt (VT Rep below_drew)
open Ev (EV FieldsOk evCells vCells take_drop tk ap rd1 rd2 cons_drop)
open Cm (rowOf EvsIn)
open Cn (BT BB BtsIn)
variable {X X' Y Y' : Nat → Prop} {u v w w' V V' : World} {hb bt bm bk n cap : Nat} {A : Option Addr} {h : HM}

theorem Tryz.infoHt : (Tryz.prog.info? 89).map (fun i => (i.zero, i.size, i.bytes)) = some (some (.agg #[.int .u64 0, .int .u64 0]), 2, 16) := by kernel_rfl
end Hi
end Go.Proofs.YtaahfiopdoinkaaGreat
namespace Go.Proofs.YtaahfiopdoinkaaGreat
namespace Hi
open _root_.Go.Proofs.YtaahfiopdoinkaaGreat.Nm (ret_int ret_bool)
open Vt (VT Rep below_drew same_refl)
open Ev (EV FieldsOk evCells vCells)
open Cm (rowOf EvsIn evsSame evSame evsSame_refl)
open Cn (BT BtsIn)
variable {v w w' : World}

def BSame (b b' : BT) : Prop := b.flow = b'.flow ∧ b.at' = b'.at' ∧ evsSame b.es b'.es = true
def TSame (t t' : TK) : Prop := t.id = t'.id ∧ t.name = t'.name ∧ t.n = t'.n ∧ t.fl = t'.fl ∧ t.at' = t'.at' ∧ t.v.same t'.v = true
structure HSame (h h' : HM) : Prop where
 flow : h.flow = h'.flow
 closed : h.s.closed = h'.s.closed
 next : h.s.next = h'.s.next
 keys : h.s.keys = h'.s.keys
 timers : h.s.timers = h'.s.timers
 blen : h'.bs.length = h.bs.length
 bs : ∀ i (h1 : i < h.bs.length) (h2 : i < h'.bs.length), BSame h.bs[i] h'.bs[i]
 tlen : h'.s.tasks.length = h.s.tasks.length
 tasks : ∀ i (h1 : i < h.s.tasks.length) (h2 : i < h'.s.tasks.length), TSame h.s.tasks[i] h'.s.tasks[i]
end Hi
end Go.Proofs.YtaahfiopdoinkaaGreat
namespace Go.Proofs.YtaahfiopdoinkaaGreat
namespace Hi
open _root_.Go.Proofs.YtaahfiopdoinkaaGreat.Nm (ret_int ret_bool)
open Vt (VT Rep below_drew)
open Ev (EV FieldsOk evCells vCells take_drop tk ap rd1 rd2 cons_drop)
open Cm (rowOf EvsIn)
open Cn (BT BB BtsIn)
variable {X X' Y Y' : Nat → Prop} {u v w w' V V' : World} {hb bt bm bk n cap : Nat} {A : Option Addr} {h : HM}

theorem HSame.at {h h' : HM} (k : HSame h h') : h.at' = h'.at' := by
 unfold HM.at'
 rw [List.getLast?_eq_getElem?, List.getLast?_eq_getElem?, k.blen]
 by_cases hp : h.bs.length - 1 < h.bs.length
 ·rw [List.getElem?_eq_getElem hp, List.getElem?_eq_getElem (by rw [k.blen]; exact hp)]
  exact (k.bs _ hp (by rw [k.blen]; exact hp)).2.1
 ·rw [List.getElem?_eq_none (by omega), List.getElem?_eq_none (by rw [k.blen]; omega)]
end Hi
end Go.Proofs.YtaahfiopdoinkaaGreat
