/- The reference's outside: a timer fired. -/
import Derived.Laws.Rows
import Derived.Laws.IdiomRangeMap
import Derived.Test.YtkajcldmolcllaaGreatHaaw
set_option linter.unusedVariables false
set_option linter.unusedSimpArgs false
open Go.RowKit
namespace Go.Proofs.YtkajcldmolcllaaGreat
namespace Hi
open _root_.Go.Proofs.YtkajcldmolcllaaGreat.Nm (ret_int ret_bool)
open Vt (VT Rep below_drew Cloned put5)
open Ev (EV FieldsOk evCells vCells EBox take_drop tk ap cons_drop)
open Cm (rowOf EvsIn)
open Cn (BT BB BtsIn box_ev)
variable {X X' Y Y' : Nat → Prop} {u v w w' V V' : World} {hb bt bm bk n cap : Nat} {A : Option Addr} {h : HM}
theorem fm_take : ∀ (l : List (Nat × Nat)) (j : Nat), (l.flatMap timerL).take (j * 2) = (l.take j).flatMap timerL
 | [], j => by simp
 | x :: l, 0 => by simp
 | x :: l, j + 1 => by
  rw [List.flatMap_cons, List.take_succ_cons, List.flatMap_cons, ← fm_take l j, Nat.succ_mul, List.take_append, timerL_len, List.take_of_length_le (by rw [timerL_len]; omega), Nat.add_sub_cancel]
theorem fm_drop : ∀ (l : List (Nat × Nat)) (j : Nat), (l.flatMap timerL).drop (j * 2) = (l.drop j).flatMap timerL
 | [], j => by simp
 | x :: l, 0 => by simp
 | x :: l, j + 1 => by
  rw [List.flatMap_cons, List.drop_succ_cons, ← fm_drop l j, Nat.succ_mul, List.drop_append, timerL_len, List.drop_of_length_le (by rw [timerL_len]; omega), Nat.add_sub_cancel, List.nil_append]
set_option maxRecDepth 100000 in
set_option maxHeartbeats 2000000 in
theorem out5_any (s : ST) (f : ByteArray) (Bu : Option Addr) (nu cu : Nat) (uk ut um : Value) (b : BT) (A : Option Addr) (cap : Nat) (w : World) (h : OIn X w s uk ut um b A cap) (hp : 0 < b.es.length) (he : EvOk (b.es[0]'hp)) (hk : b.es[0].k = 5) :
  Calls Tryz.prog 32 #[.agg (rhC f (.slice Bu nu cu) s.closed s.next uk ut um), .agg #[.string b.flow, .int .u64 (b.at' : Nat), .slice A b.es.length cap]] w (ROut X w f (.slice Bu nu cu) (applyM b.at' (decide (b.es.length = 1)) (b.es[0]'hp) s)) := by
 obtain ⟨Ak, nk, ck, rfl⟩ : ∃ A n c, uk = .slice A n c := by obtain ⟨xs, ⟨-, -, A, c, e, -⟩, -⟩ := h.rs.keys; exact ⟨_, _, _, e⟩
 obtain ⟨Aq, nt, ct, rfl⟩ : ∃ A n c, ut = .slice A n c := by obtain ⟨xs, ⟨-, -, A, c, e, -⟩, -⟩ := h.rs.tasks; exact ⟨_, _, _, e⟩
 obtain ⟨Am, nm, cm, rfl⟩ : ∃ A n c, um = .slice A n c := by obtain ⟨xs, ⟨-, -, A, c, e, -⟩, -⟩ := h.rs.timers; exact ⟨_, _, _, e⟩
 obtain ⟨eb, eo, lo0, hi0, vk, vn, vf, vs, A0, m0, c0, rfl, heb, hff, hrep, hhi, z0, z1, z2, z3, z4, z5, z6, z7, z8, z9, z10⟩ := h.evs.get 0 hp
 have hrepV := hrep
 replace hrep := Rep.leads hrep (leads_veil X w)
 rw [veil_size] at heb hhi
 replace z0 := (leads_veil X w).cell z0
 replace z1 := (leads_veil X w).cell z1
 replace z2 := (leads_veil X w).cell z2
 replace z3 := (leads_veil X w).cell z3
 replace z4 := (leads_veil X w).cell z4
 replace z5 := (leads_veil X w).cell z5
 replace z6 := (leads_veil X w).cell z6
 replace z7 := (leads_veil X w).cell z7
 replace z8 := (leads_veil X w).cell z8
 replace z9 := (leads_veil X w).cell z9
 replace z10 := (leads_veil X w).cell z10
 have hle := h.evs.le
 have hcm := h.evs.cap_le
 simp only [maxLen] at hcm
 rw [show eo + 0 * 11 = eo by omega] at z0 z1 z2 z3 z4 z5 z6 z7 z8 z9 z10
 obtain ⟨m, hm⟩ : ∃ m, m = b.es.length := ⟨_, rfl⟩
 obtain ⟨ff, hf0⟩ : ∃ ff, ff = b.flow := ⟨_, rfl⟩
 obtain ⟨at', hat⟩ : ∃ at', at' = b.at' := ⟨_, rfl⟩
 obtain ⟨e, hee⟩ : ∃ e, e = b.es[0]'hp := ⟨_, rfl⟩
 have hbat := h.at'
 rw [← hat] at hbat
 rw [← hee] at hff hrep hrepV z0 z1 z2 z3 z4 z5 he hk ⊢
 have HRV := Lib.hid h.rs; have HRS := Lib.hid (h.rs.leads (leads_veil X w)); have HXB := Lib.hid h.xb; have HFI := Lib.hid h.fine; have hn1 := h.n1; have hn2 := h.n2; have hn3 := h.n3; have hn4 := h.n4
 rw [← hm] at hle ⊢
 rw [← hf0, ← hat]
 have hmp : 0 < m := by omega
 clear h hee hat hf0 hm hp
 obtain ⟨k, id, en, ea, name, text, ev⟩ := e
 have hid := he.f.i1
 dsimp only at hid hk hrep hrepV hff z0 z1 z2 z3 z4 z5 z6 z7 z8 z9 z10
 obtain rfl : k = 5 := hk
 have HE := Lib.hid he
 obtain ⟨W0, hW0⟩ : ∃ W0, W0 = ((w.alloc (.cells (rhC f (.slice Bu nu cu) s.closed s.next (.slice Ak nk ck) (.slice Aq nt ct) (.slice Am nm cm)) 32)).alloc (.cells #[.string ff, .int .u64 (at' : Nat), .slice (some ⟨eb, eo, none⟩) m cap] 36)).alloc (.cells (rhC ⟨#[]⟩ (.slice none 0 0) 0 0 (.slice none 0 0) (.slice none 0 0) (.slice none 0 0)) 32) := ⟨_, rfl⟩
 obtain ⟨W1, hW1⟩ : ∃ W1, W1 = W0.alloc (.cells (evCells ⟨5, id, en, ea, name, text, ev⟩ vk vn vf vs A0 m0 c0) 53) := ⟨_, rfl⟩
 have hs0 : W0.heap.size = w.heap.size + 3 := by rw [hW0]; simp
 have hs1 : W1.heap.size = w.heap.size + 4 := by rw [hW1]; simp [hs0]
 have hb0 : Below w.heap.size w W0 := by rw [hW0]; exact (((Below.refl _ _).alloc (Nat.le_refl _) _).alloc (by simp) _).alloc (by simp; omega) _
 have hb1 : Below w.heap.size w W1 := by rw [hW1]; exact hb0.alloc (by omega) _
 have hx0 : W0.heap[w.heap.size]? = some (.cells (rhC f (.slice Bu nu cu) s.closed s.next (.slice Ak nk ck) (.slice Aq nt ct) (.slice Am nm cm)) 32 (0, 0)) := by rw [hW0]; exact (heap_alloc_old _ _ (by simp; omega)).trans ((heap_alloc_old _ _ (by simp)).trans (heap_alloc_new w _))
 have hx1 : W0.heap[w.heap.size + 1]? = some (.cells #[.string ff, .int .u64 (at' : Nat), .slice (some ⟨eb, eo, none⟩) m cap] 36 (0, 0)) := by
  rw [hW0, heap_alloc_old _ _ (by simp)]
  have e := heap_alloc_new (w.alloc (.cells (rhC f (.slice Bu nu cu) s.closed s.next (.slice Ak nk ck) (.slice Aq nt ct) (.slice Am nm cm)) 32)) (.cells #[.string ff, .int .u64 (at' : Nat), .slice (some ⟨eb, eo, none⟩) m cap] 36)
  rw [World.size_alloc] at e
  exact e
 have hx2 : W0.heap[w.heap.size + 2]? = some (.cells (rhC ⟨#[]⟩ (.slice none 0 0) 0 0 (.slice none 0 0) (.slice none 0 0) (.slice none 0 0)) 32 (0, 0)) := by
  rw [hW0]
  have e := heap_alloc_new ((w.alloc (.cells (rhC f (.slice Bu nu cu) s.closed s.next (.slice Ak nk ck) (.slice Aq nt ct) (.slice Am nm cm)) 32)).alloc (.cells #[.string ff, .int .u64 (at' : Nat), .slice (some ⟨eb, eo, none⟩) m cap] 36)) (.cells (rhC ⟨#[]⟩ (.slice none 0 0) 0 0 (.slice none 0 0) (.slice none 0 0) (.slice none 0 0)) 32)
  simp only [World.size_alloc] at e
  exact e
 have HX : Hid (∀ W, Below W1.heap.size W1 W → RX W w.heap.size f (.slice Bu nu cu) s.closed s.next (.slice Ak nk ck) (.slice Aq nt ct) (.slice Am nm cm) ∧ BB W (w.heap.size + 1) ff at' (some ⟨eb, eo, none⟩) m cap ∧ RX W (w.heap.size + 1 + 1) ⟨#[]⟩ (.slice none 0 0) 0 0 (.slice none 0 0) (.slice none 0 0) (.slice none 0 0) ∧ EBox W (w.heap.size + 3) (evCells ⟨5, id, en, ea, name, text, ev⟩ vk vn vf vs A0 m0 c0)) := Lib.hid fun W hW => by
  have o : ∀ c, c < w.heap.size + 3 → W.heap[c]? = W0.heap[c]? := fun c hc => (hW.block c (by omega)).trans (by rw [hW1]; exact heap_alloc_old _ _ (by omega))
  refine ⟨(o _ (by omega)).trans hx0, (o _ (by omega)).trans hx1, (o _ (by omega)).trans hx2, (hW.block _ (by omega)).trans ?_⟩
  rw [hW1, ← hs0]; exact heap_alloc_new ..
 have HBW : Hid (∀ W, Below W1.heap.size W1 W → Below w.heap.size w W) := Lib.hid fun W hW => hb1.trans (hW.mono hb1.size)
 have HTK := Lib.hid (rtask_any s.tasks id hid f (.slice Bu nu cu) (.slice Ak nk ck) (.slice Aq nt ct) (.slice Am nm cm) s.closed s.next W1 ((HRS.out.later hb1).tasks))
 have HS1 := Lib.hid hs1; have HB1 := Lib.hid hb1
 obtain ⟨y0, y1, y2, -⟩ := BB.cells (show BB W0 (w.heap.size + 1) ff at' (some ⟨eb, eo, none⟩) m cap from hx1)
 obtain ⟨x0, x1, x2, x3, x4, x5, x6, -⟩ := (HX.out W1 (Below.refl _ _)).1.cells
 have e0 := (hb0.cell (p := ⟨eb, eo, none⟩) heb).trans z0
 have e1 := (hb0.cell (p := ⟨eb, eo + 1, none⟩) heb).trans z1
 have e2 := (hb0.cell (p := ⟨eb, eo + 2, none⟩) heb).trans z2
 have e3 := (hb0.cell (p := ⟨eb, eo + 3, none⟩) heb).trans z3
 have e4 := (hb0.cell (p := ⟨eb, eo + 4, none⟩) heb).trans z4
 have e5 := (hb0.cell (p := ⟨eb, eo + 5, none⟩) heb).trans z5
 have e6 := (hb0.cell (p := ⟨eb, eo + 6, none⟩) heb).trans z6
 have e7 := (hb0.cell (p := ⟨eb, eo + 7, none⟩) heb).trans z7
 have e8 := (hb0.cell (p := ⟨eb, eo + 8, none⟩) heb).trans z8
 have e9 := (hb0.cell (p := ⟨eb, eo + 9, none⟩) heb).trans z9
 have e10 := (hb0.cell (p := ⟨eb, eo + 10, none⟩) heb).trans z10
 have HREP := Lib.hid hrep; have HREPV := Lib.hid hrepV; have HHI := Lib.hid hhi
 unfold rhC at hW0 HTK ⊢
 unfold evCells at hW1
 dsimp only at hW1
 rw [show ((0 : Nat) : Int) = 0 from rfl] at hW0
 have hWs := Lib.hid hs0
 clear hs0 hs1 hb0 hb1 hx0 hx1 hx2 z0 z1 z2 z3 z4 z5 z6 z7 z8 z9 z10 hrep hrepV hhi hff he heb
 replace hW0 := Lib.hid hW0
 replace hW1 := Lib.hid hW1
 obtain ⟨al, hal⟩ : ∃ al, al = decide (m = 1) := ⟨_, rfl⟩
 have hm1 : ((m : Int) == 1) = al := by
  rw [hal]
  by_cases q : m = 1
  ·subst q; rfl
  ·rw [decide_eq_false q, beq_eq_false_iff_ne]; omega
 rw [← hal]
 have HAL := Lib.hid hal
 clear hal
 go_enter Tryz.func32, Tryz.ntmps32
 go_upto_region 1 with fail
 rw [← hW0.out]
 go_upto_region 2 with fail
 rw [← hW1.out]
 rw [show W0.heap.size = w.heap.size + 3 from hWs.out]
 clear y0 y1 y2 e0 e1 e2 e3 e4 e5 e6 e7 e8 e9 e10
 obtain ⟨-, y, -, ez⟩ := HX.out W1 (Below.refl _ _)
 obtain ⟨e0, e1, e2, e3, e4, e5, e6, e7, e8, e9, e10⟩ := EBox.cells ez
 dsimp only at e0 e1 e2 e3 e4 e5
 clear ez y
 go_upto_region 24 with (go_at_call 54; refine HTK.out.mono ?_; rintro x w1 ⟨⟨ti, rfl, hti⟩, hq1⟩; have HTI := Lib.hid (idx_get HFI.out.tasks hti); have HQ1 := Lib.hid hq1; clear hti hq1 x0 x1 x2 x3 x4 x5 x6 e0 e1 e2 e3 e4 e5 e6 e7 e8 e9 e10; obtain ⟨x0, x1, x2, x3, x4, x5, x6, -⟩ := (HX.out w1 HQ1.out).1.cells; obtain ⟨y0, y1, y2, -⟩ := (HX.out w1 HQ1.out).2.1.cells; obtain ⟨e0, e1, e2, e3, e4, e5, e6, e7, e8, e9, e10⟩ := EBox.cells (HX.out w1 HQ1.out).2.2.2; dsimp only at e0 e1 e2 e3 e4 e5)
 obtain ⟨xs, hcinV, htm⟩ := HRV.out.timers
 have hcin := hcinV.leads (leads_veil X w)
 clear hcinV
 have HCI := Lib.hid hcin; have HTMC := Lib.hid htm
 obtain ⟨hlen, -, A9, cap9, heq9, hle9, hcp9, hrd9⟩ := hcin
 obtain ⟨rfl, rfl, rfl⟩ : Am = A9 ∧ nm = s.timers.length ∧ cm = cap9 := by injection heq9 with a1 a2 a3; exact ⟨a1, a2, a3⟩
 have HRD := Lib.hid hrd9; have HLEN := Lib.hid hlen
 simp only [maxLen] at hcp9
 obtain ⟨N, hN⟩ : ∃ N, N = s.timers.length := ⟨_, rfl⟩
 rw [← hN] at hle9 hn2 HX x6
 have HNN := Lib.hid hN
 obtain ⟨i0, hi0, hz0, hz1, hz2⟩ := info_parts Tryz.infoRm
 have HSZ := Lib.hid (sz_of hi0 hz1)
 clear hN hrd9 hlen heq9 htm HTI
 go_wp2_with fail
 clear x0 x1 x2 x3 x4 x5 x6 y0 y1 y2 e0 e1 e2 e3 e4 e5 e6 e7 e8 e9 e10
 go_loopw [11] (fun i wr => ∃ (j : Nat), j ≤ N ∧ i = .int .i64 j ∧ (∀ q (hq : q < s.timers.length), q < j → ¬ ((s.timers[q]).1 = id ∧ (s.timers[q]).2 ≤ at')) ∧ Below W1.heap.size W1 wr) (fun i _ => N - (intOf i).toNat)
 case atStart => exact ⟨0, by omega, rfl, fun q _ h => absurd h (by omega), HQ1.out⟩
 case round =>
  obtain ⟨j, hj, rfl, hno, hb⟩ := hrel
  have HNO := Lib.hid hno; have HB := Lib.hid hb
  clear hno hb
  obtain ⟨x0, x1, x2, x3, x4, x5, x6, xf⟩ := (HX.out wr HB.out).1.cells
  obtain ⟨y0, y1, y2, -⟩ := (HX.out wr HB.out).2.1.cells
  obtain ⟨e0, e1, e2, e3, e4, e5, e6, e7, e8, e9, e10⟩ := EBox.cells (HX.out wr HB.out).2.2.2
  dsimp only at e0 e1 e2 e3 e4 e5
  by_cases hlt : j < N
  ·obtain ⟨mb, mo, rfl, hmb, h39⟩ := HRD.out (by have := HNN.out; omega)
   have hjt : j < s.timers.length := by have := HNN.out; omega
   obtain ⟨tm, htm⟩ : ∃ tm, tm = s.timers[j] := ⟨_, rfl⟩
   have HTT := Lib.hid htm
   obtain ⟨tid, tat⟩ := tm
   have g0 := h39 (j * 2 + 0) (.int .u64 (tid : Nat)) (by rw [HTMC.out, flat_get timerL 2 timerL_len _ j 0 hjt (by omega), ← HTT.out]; rfl)
   have g1 := h39 (j * 2 + 1) (.int .u64 (tat : Nat)) (by rw [HTMC.out, flat_get timerL 2 timerL_len _ j 1 hjt (by omega), ← HTT.out]; rfl)
   have t0 := ((HBW.out wr HB.out).cell (p := ⟨mb, mo + (j * 2 + 0), none⟩) hmb).trans g0
   have t1 := ((HBW.out wr HB.out).cell (p := ⟨mb, mo + (j * 2 + 1), none⟩) hmb).trans g1
   rw [Nat.add_zero] at t0
   rw [← Nat.add_assoc] at t1
   have HJT := Lib.hid hjt
   clear g0 g1 htm
   by_cases h1 : tid = id
   ·by_cases h2 : tat ≤ at'
    ·have HN : Hid (applyM at' al ⟨5, id, en, ea, name, text, ev⟩ s = some { s with timers := mdel s.timers id }) := Lib.hid (by
      have hg := mget_at HFI.out.timers HJT.out
      rw [← HTT.out] at hg
      dsimp only at hg
      rw [h1] at hg
      simp [applyM, hg, h2])
     have k1 : ((tid : Int) == (id : Int)) = true := by simp; omega
     have k2 : decide ((tat : Int) ≤ (at' : Int)) = true := decide_eq_true (by omega)
     have H1 := Lib.hid h1
     clear h1
     go_upto_region 27 with fail
     go_quiet (fail)
     generalize hw2 : wr.drewN nq = w2 at *
     have HQ2 : Hid (Below W1.heap.size W1 w2) := Lib.hid (by rw [← hw2]; exact below_drewN HB.out nq)
     clear hw2
     go_upto_region 28 with fail
     clear x0 x1 x2 x3 x4 x5 x6 y0 y1 y2 e0 e1 e2 e3 e4 e5 e6 e7 e8 e9 e10 t0 t1
     obtain ⟨u0, hu0⟩ : ∃ u, u = w2.drew := ⟨_, rfl⟩
     have HBu1 : Hid (∀ W, Below u0.heap.size u0 W → Below W1.heap.size W1 W) := Lib.hid fun W hW => by rw [hu0] at hW; exact (below_drew HQ2.out).trans (hW.mono (below_drew HQ2.out).size)
     have HBu0 : Hid (W1.heap.size ≤ u0.heap.size) := Lib.hid (by rw [hu0]; exact (below_drew HQ2.out).size)
     have HBu : Hid (Below u0.heap.size u0 u0) := Lib.hid (Below.refl _ _)
     have HKS : Hid (∀ W, Below u0.heap.size u0 W → (fun W : World => W.cell? ⟨w.heap.size + 3, 5, none⟩ = some (.string text)) W) := Lib.hid fun W hW => (EBox.cells (HX.out W (HBu1.out W hW)).2.2.2).2.2.2.2.2.1
     have HKS2 : Hid (∀ W v, Below u0.heap.size u0 W → (fun W : World => W.cell? ⟨w.heap.size + 3, 5, none⟩ = some (.string text)) (W.setCell ⟨w.heap.size, 6, none⟩ v)) := Lib.hid fun W v hW => (World.cell?_of_block (a := ⟨w.heap.size + 3, 5, none⟩) (RowKit.Below.heap_setCell _ _ _ _ (by show w.heap.size + 3 ≠ w.heap.size; omega))).trans (HKS.out W hW)
     have HCX : Hid (∀ W, Below u0.heap.size u0 W → W.cell? ⟨w.heap.size, 6, none⟩ = some (.slice (some ⟨mb, mo, none⟩) N cm) ∧ W.frozen? ⟨w.heap.size, 6, none⟩ = false) := Lib.hid fun W hW => ⟨(HX.out W (HBu1.out W hW)).1.cells.2.2.2.2.2.2.1, (HX.out W (HBu1.out W hW)).1.cells.2.2.2.2.2.2.2 6⟩
     have HL2 : Hid (xs.length = N * 2) := Lib.hid (by rw [HNN.out]; exact HLEN.out)
     have HC : Hid (∀ W, Below u0.heap.size u0 W → ∀ p x, xs[p]? = some x → W.cell? ⟨mb, mo + p, none⟩ = some x) := Lib.hid fun W hW p x hx => ((HBW.out W (HBu1.out W hW)).cell (p := ⟨mb, mo + p, none⟩) hmb).trans (h39 p x hx)
     have HMB : Hid (∀ W, Below u0.heap.size u0 W → mb < W.heap.size) := Lib.hid fun W hW => Nat.lt_of_lt_of_le hmb (HBW.out W (HBu1.out W hW)).size
     have HIN : Hid (∀ W, Below u0.heap.size u0 W → CIn W (.slice (some ⟨mb, mo, none⟩) j cm) j 2 (xs.take (j * 2))) := Lib.hid fun W hW => CIn.take HL2.out HCI.out.2.1 hle9 hcp9 (HMB.out W hW) (HC.out W hW) (by omega)
     have HIN2a : Hid (∀ W, Below u0.heap.size u0 W → CIn W (.slice (some ⟨mb, mo + (j + 1) * 2, none⟩) (N - (j + 1)) (cm - (j + 1))) (N - (j + 1)) 2 (xs.drop ((j + 1) * 2))) := Lib.hid fun W hW => CIn.drop HL2.out HCI.out.2.1 hle9 hcp9 (HMB.out W hW) (HC.out W hW) (by omega)
     have HIN2b : Hid (cm = j + 1 → ∀ W, Below u0.heap.size u0 W → CIn W (.slice (some ⟨mb, mo, none⟩) (N - (j + 1)) 0) (N - (j + 1)) 2 (xs.drop ((j + 1) * 2))) := Lib.hid fun e W hW => by
      have := HL2.out
      rw [List.drop_of_length_le (by omega), show N - (j + 1) = 0 by omega]
      exact ⟨by simp, by simp, _, 0, rfl, Nat.zero_le _, Nat.zero_le _, fun h => absurd h (by omega)⟩
     have HOUT : Hid (∀ (cF w6 W7 : World) (Ar : Option Addr) (cr NR : Nat), NR = j + (N - (j + 1)) → cF.ownsRow u0.heap.size 81 2 (.slice Ar NR cr) NR (xs.take (j * 2) ++ xs.drop ((j + 1) * 2)) → (∀ r, rowOf Ar = some r → u0.heap.size ≤ r) → Below u0.heap.size u0 cF → w6 = cF.setCell ⟨w.heap.size, 6, none⟩ (.slice Ar NR cr) → Below w.heap.size w w6 →
       W7 = ((((((w6.setCell ⟨w.heap.size + 1 + 1, 0, none⟩ (.string f)).setCell ⟨w.heap.size + 1 + 1, 1, none⟩ (.slice Bu nu cu)).setCell ⟨w.heap.size + 1 + 1, 2, none⟩ (.int .i64 s.closed)).setCell ⟨w.heap.size + 1 + 1, 3, none⟩ (.int .u64 (s.next : Nat))).setCell ⟨w.heap.size + 1 + 1, 4, none⟩ (.slice Ak nk ck)).setCell ⟨w.heap.size + 1 + 1, 5, none⟩ (.slice Aq nt ct)).setCell ⟨w.heap.size + 1 + 1, 6, none⟩ (.slice Ar NR cr) →
       ROut X w f (.slice Bu nu cu) (applyM at' al ⟨5, id, en, ea, name, text, ev⟩ s) (.returned (.tuple #[.agg #[.string f, .slice Bu nu cu, .int .i64 s.closed, .int .u64 (s.next : Nat), .slice Ak nk ck, .slice Aq nt ct, .slice Ar NR cr], .bool true])) W7) := Lib.hid fun cF w6 W7 Ar cr NR hNR ho hbr hbF hw6 hb6 hW7 => by
      have hb7 : Below w.heap.size w W7 := by rw [hW7]; exact below7 (g := w.heap.size + 1 + 1) hb6 (Nat.le_succ_of_le (Nat.le_succ _)) _ _ _ _ _ _ _
      have hs := HS1.out
      have hu := HBu0.out
      have ho7 := own_move (w' := W7) ho (fun r hr => by
       have := hbr r hr
       rw [hW7, heap7 (by omega), hw6]
       exact RowKit.Below.heap_setCell _ _ _ _ (by show r ≠ w.heap.size; omega))
      refine ⟨hb7, s.closed, s.next, .slice Ak nk ck, .slice Aq nt ct, .slice Ar NR cr, ⟨_, _, _, rfl⟩, ⟨_, _, _, rfl⟩, ⟨_, _, _, rfl⟩, by rw [HN.out]; rfl, fun s' hs => ?_⟩
      rw [HN.out] at hs
      cases hs
      have hp := mdel_with HFI.out.timers HJT.out
      rw [← HTT.out] at hp
      dsimp only at hp
      rw [H1.out] at hp
      refine ⟨rfl, rfl, ⟨(HRV.out.leads (veil_below X hb7)).keys, (HRV.out.leads (veil_below X hb7)).tasks, ⟨xs.take (j * 2) ++ xs.drop ((j + 1) * 2), ?_, ?_⟩⟩⟩
      ·have e : (mdel s.timers id).length = NR := by
        have := HNN.out
        rw [← hp, List.length_append, List.length_take, List.length_drop]; omega
       dsimp only
       rw [e]
       refine CIn.of_veil ho7 ?_ (by intro c hc; have := HXB.out c hc; have := HBu0.out; have := HS1.out; omega)
       intro x hx
       rcases List.mem_append.1 hx with q | q
       ·exact HCI.out.2.1 x (List.mem_of_mem_take q)
       ·exact HCI.out.2.1 x (List.mem_of_mem_drop q)
      ·dsimp only
       unfold TmC
       rw [← hp, List.flatMap_append, ← fm_take, ← fm_drop, HTMC.out]
     have f1 : j ≤ cm := by omega
     have f2 : (j : Int) ≤ (j : Int) + 1 := by omega
     have f3 : (0 : Int) ≤ (j : Int) + 1 := by omega
     have f4 : (j : Int) + 1 ≤ (N : Int) := by omega
     have f5 : ((j : Int) + 1).toNat = j + 1 := by omega
     have ka := IntWalk.i64_in ((j : Int) + 1) (by omega)
     by_cases hcj : cm = j + 1
     ·subst hcj
      obtain rfl : N = j + 1 := by omega
      have HIN2 : Hid (∀ W, Below u0.heap.size u0 W → CIn W (.slice (some ⟨mb, mo, none⟩) 0 0) 0 2 (xs.drop ((j + 1) * 2))) := Lib.hid (fun W hW => by have := HIN2b.out rfl W hW; rw [Nat.sub_self] at this; exact this)
      refine wp_region_noPanic ?_
      refine wp_region_held_drew (S := (fun W : World => W.cell? ⟨w.heap.size + 3, 5, none⟩ = some (.string text))) (by kernel_rfl) ?_ (fun hHeld => ?_)
      ·rw [← hu0]; exact HKS.out _ (Below.refl _ _)
      rw [← hu0] at hHeld
      rw [← hu0]
      replace hu0 := Lib.hid hu0
      refine tk 1 rfl ?_
      try simp only [ap]
      refine tk 3 rfl ?_
      try simp only [ap]
      refine tk 6 rfl ?_
      try simp only [ap]
      refine tk 8 rfl ?_
      try simp only [ap]
      refine tk 9 rfl ?_
      try simp only [ap]
      refine wpAnyH_ready (rs := [0, 2, 7]) (by kernel_rfl) (by simp) ?_
      refine cons_drop rfl (fun K hK => ?_) (cons_drop rfl (fun K hK => ?_) (cons_drop rfl (fun K hK => ?_) AllReadyH.nil))
      go_simp
      obtain ⟨c1, hc1⟩ : ∃ u, u = u0.alloc (.cells #[] 81) := ⟨_, rfl⟩
      rw [← hc1]
      have hbz : Below u0.heap.size u0 c1 := by rw [hc1]; exact (Below.refl _ _).alloc (Nat.le_refl _) _
      have HB1 : Hid (Below u0.heap.size u0 c1) := Lib.hid (HBu.out.trans (hbz.mono HBu.out.size))
      have own0_1 : Hid (c1.ownsRow u0.heap.size 81 2 (.slice (some ⟨u0.heap.size, 0, none⟩) 0 0) 0 []) := Lib.hid (by rw [hc1]; exact World.ownsRow_lit u0 #[] 0 HBu.out.size (Nat.zero_le _) (by simp))
      clear hbz
      replace hc1 := Lib.hid hc1
      refine hK.out _ _ (HKS.out _ HB1.out) (fun hHeld1 => ?_)
      clear hK K hHeld
      try simp only [ap]
      refine wpAnyH_ready (rs := [2, 7]) (by kernel_rfl) (by simp) ?_
      refine cons_drop rfl (fun K hK => ?_) (cons_drop rfl (fun K hK => ?_) AllReadyH.nil)
      obtain ⟨cx, -⟩ := HCX.out c1 HB1.out
      go_simp
      refine hK.out _ _ (HKS.out _ HB1.out) (fun hHeld2 => ?_)
      clear hK K hHeld1
      try simp only [ap]
      clear cx
      refine tk 4 rfl ?_
      try simp only [ap]
      refine wpAnyH_ready (rs := [5, 7]) (by kernel_rfl) (by simp) ?_
      refine cons_drop rfl (fun K hK => ?_) (cons_drop rfl (fun K hK => ?_) AllReadyH.nil)
      refine step_append_any c1 rfl _ _ 30 81 rfl i0 _ 2 16 Tryz.underlying30 HSZ.out hi0 hz0 hz1 hz2 rfl (by decide) u0.heap.size (.slice (some ⟨u0.heap.size, 0, none⟩) 0 0) (.slice (some ⟨mb, mo, none⟩) j (j + 1)) 0 j [] (xs.take (j * 2)) rfl rfl own0_1.out (HIN.out _ HB1.out) (by simp only [maxLen]; omega) (by omega) HB1.out.size ?_
      intro v1_3 c3 hown hgr
      have HB3 : Hid (Below u0.heap.size u0 c3) := Lib.hid (below_grown HB1.out hgr (fun r hr => (own0_1.out.lt r hr).1) HB1.out.size)
      rw [Nat.zero_add, List.nil_append] at hown
      have own1_3 := Lib.hid hown
      clear hown hgr
      refine hK.out _ _ (HKS.out _ HB3.out) (fun hHeld3 => ?_)
      clear hK K hHeld2
      try simp only [ap]
      refine wpAnyH_ready (rs := [7]) (by kernel_rfl) (by simp) ?_
      refine cons_drop rfl (fun K hK => ?_) AllReadyH.nil
      obtain ⟨cx, -⟩ := HCX.out c3 HB3.out
      go_simp
      refine hK.out _ _ (HKS.out _ HB3.out) (fun hHeld4 => ?_)
      clear hK K hHeld3
      try simp only [ap]
      clear cx
      refine tk 10 rfl ?_
      try simp only [ap]
      refine wpAnyH_ready (rs := [11]) (by kernel_rfl) (by simp) ?_
      refine cons_drop rfl (fun K hK => ?_) AllReadyH.nil
      refine step_append_any c3 rfl _ _ 30 81 rfl i0 _ 2 16 Tryz.underlying30 HSZ.out hi0 hz0 hz1 hz2 rfl (by decide) u0.heap.size v1_3 (.slice (some ⟨mb, mo, none⟩) 0 0) j 0 (xs.take (j * 2)) (xs.drop ((j + 1) * 2)) rfl rfl own1_3.out (HIN2.out _ HB3.out) (by simp only [maxLen]; omega) (by omega) HB3.out.size ?_
      intro vF cF hown hgr
      rw [Nat.add_zero] at hown
      obtain ⟨Ar, cr, rfl, hbr⟩ := own_slice hown
      have HOF := Lib.hid hown; have HBRF := Lib.hid hbr
      have HBF : Hid (Below u0.heap.size u0 cF) := Lib.hid (below_grown HB3.out hgr (fun r hr => (own1_3.out.lt r hr).1) HB3.out.size)
      clear hown hgr hbr
      refine hK.out _ _ (HKS.out _ HBF.out) (fun hHeld5 => ?_)
      clear hK K hHeld4
      try simp only [ap]
      refine tk 12 rfl ?_
      try simp only [ap]
      obtain ⟨cx, fx⟩ := HCX.out cF HBF.out
      refine wpAnyH_ready (rs := [13]) (by kernel_rfl) (by simp) ?_
      refine cons_drop rfl (fun K hK => ?_) AllReadyH.nil
      go_simp
      refine hK.out _ _ (HKS2.out _ _ HBF.out) (fun hHeldZ => ?_)
      clear hK K hHeld5
      try simp only [ap]
      refine wpAnyH_done (by kernel_rfl) ?_ _
      refine NoPanic.normal ?_
      clear hHeldZ cx fx
      rotate_left
      obtain ⟨cx, -⟩ := HCX.out c1 HB1.out
      go_simp
      refine hK.out _ _ (HKS.out _ HB1.out) (fun hHeld6 => ?_)
      clear hK K hHeld2
      try simp only [ap]
      clear cx
      refine tk 10 rfl ?_
      try simp only [ap]
      refine wpAnyH_ready (rs := [5]) (by kernel_rfl) (by simp) ?_
      refine cons_drop rfl (fun K hK => ?_) AllReadyH.nil
      refine step_append_any c1 rfl _ _ 30 81 rfl i0 _ 2 16 Tryz.underlying30 HSZ.out hi0 hz0 hz1 hz2 rfl (by decide) u0.heap.size (.slice (some ⟨u0.heap.size, 0, none⟩) 0 0) (.slice (some ⟨mb, mo, none⟩) j (j + 1)) 0 j [] (xs.take (j * 2)) rfl rfl own0_1.out (HIN.out _ HB1.out) (by simp only [maxLen]; omega) (by omega) HB1.out.size ?_
      intro v1_7 c7 hown hgr
      have HB7 : Hid (Below u0.heap.size u0 c7) := Lib.hid (below_grown HB1.out hgr (fun r hr => (own0_1.out.lt r hr).1) HB1.out.size)
      rw [Nat.zero_add, List.nil_append] at hown
      have own1_7 := Lib.hid hown
      clear hown hgr
      refine hK.out _ _ (HKS.out _ HB7.out) (fun hHeld7 => ?_)
      clear hK K hHeld6
      try simp only [ap]
      refine wpAnyH_ready (rs := [11]) (by kernel_rfl) (by simp) ?_
      refine cons_drop rfl (fun K hK => ?_) AllReadyH.nil
      refine step_append_any c7 rfl _ _ 30 81 rfl i0 _ 2 16 Tryz.underlying30 HSZ.out hi0 hz0 hz1 hz2 rfl (by decide) u0.heap.size v1_7 (.slice (some ⟨mb, mo, none⟩) 0 0) j 0 (xs.take (j * 2)) (xs.drop ((j + 1) * 2)) rfl rfl own1_7.out (HIN2.out _ HB7.out) (by simp only [maxLen]; omega) (by omega) HB7.out.size ?_
      intro vF cF hown hgr
      rw [Nat.add_zero] at hown
      obtain ⟨Ar, cr, rfl, hbr⟩ := own_slice hown
      have HOF := Lib.hid hown; have HBRF := Lib.hid hbr
      have HBF : Hid (Below u0.heap.size u0 cF) := Lib.hid (below_grown HB7.out hgr (fun r hr => (own1_7.out.lt r hr).1) HB7.out.size)
      clear hown hgr hbr
      refine hK.out _ _ (HKS.out _ HBF.out) (fun hHeld8 => ?_)
      clear hK K hHeld7
      try simp only [ap]
      refine tk 12 rfl ?_
      try simp only [ap]
      obtain ⟨cx, fx⟩ := HCX.out cF HBF.out
      refine wpAnyH_ready (rs := [13]) (by kernel_rfl) (by simp) ?_
      refine cons_drop rfl (fun K hK => ?_) AllReadyH.nil
      go_simp
      refine hK.out _ _ (HKS2.out _ _ HBF.out) (fun hHeldZ => ?_)
      clear hK K hHeld8
      try simp only [ap]
      refine wpAnyH_done (by kernel_rfl) ?_ _
      refine NoPanic.normal ?_
      clear hHeldZ cx fx
      rotate_left
      obtain ⟨cx, -⟩ := HCX.out c1 HB1.out
      go_simp
      refine hK.out _ _ (HKS.out _ HB1.out) (fun hHeld9 => ?_)
      clear hK K hHeld1
      try simp only [ap]
      clear cx
      refine tk 10 rfl ?_
      try simp only [ap]
      refine wpAnyH_ready (rs := [2]) (by kernel_rfl) (by simp) ?_
      refine cons_drop rfl (fun K hK => ?_) AllReadyH.nil
      obtain ⟨cx, -⟩ := HCX.out c1 HB1.out
      go_simp
      refine hK.out _ _ (HKS.out _ HB1.out) (fun hHeld10 => ?_)
      clear hK K hHeld9
      try simp only [ap]
      clear cx
      refine tk 4 rfl ?_
      try simp only [ap]
      refine wpAnyH_ready (rs := [5]) (by kernel_rfl) (by simp) ?_
      refine cons_drop rfl (fun K hK => ?_) AllReadyH.nil
      refine step_append_any c1 rfl _ _ 30 81 rfl i0 _ 2 16 Tryz.underlying30 HSZ.out hi0 hz0 hz1 hz2 rfl (by decide) u0.heap.size (.slice (some ⟨u0.heap.size, 0, none⟩) 0 0) (.slice (some ⟨mb, mo, none⟩) j (j + 1)) 0 j [] (xs.take (j * 2)) rfl rfl own0_1.out (HIN.out _ HB1.out) (by simp only [maxLen]; omega) (by omega) HB1.out.size ?_
      intro v1_11 c11 hown hgr
      have HB11 : Hid (Below u0.heap.size u0 c11) := Lib.hid (below_grown HB1.out hgr (fun r hr => (own0_1.out.lt r hr).1) HB1.out.size)
      rw [Nat.zero_add, List.nil_append] at hown
      have own1_11 := Lib.hid hown
      clear hown hgr
      refine hK.out _ _ (HKS.out _ HB11.out) (fun hHeld11 => ?_)
      clear hK K hHeld10
      try simp only [ap]
      refine wpAnyH_ready (rs := [11]) (by kernel_rfl) (by simp) ?_
      refine cons_drop rfl (fun K hK => ?_) AllReadyH.nil
      refine step_append_any c11 rfl _ _ 30 81 rfl i0 _ 2 16 Tryz.underlying30 HSZ.out hi0 hz0 hz1 hz2 rfl (by decide) u0.heap.size v1_11 (.slice (some ⟨mb, mo, none⟩) 0 0) j 0 (xs.take (j * 2)) (xs.drop ((j + 1) * 2)) rfl rfl own1_11.out (HIN2.out _ HB11.out) (by simp only [maxLen]; omega) (by omega) HB11.out.size ?_
      intro vF cF hown hgr
      rw [Nat.add_zero] at hown
      obtain ⟨Ar, cr, rfl, hbr⟩ := own_slice hown
      have HOF := Lib.hid hown; have HBRF := Lib.hid hbr
      have HBF : Hid (Below u0.heap.size u0 cF) := Lib.hid (below_grown HB11.out hgr (fun r hr => (own1_11.out.lt r hr).1) HB11.out.size)
      clear hown hgr hbr
      refine hK.out _ _ (HKS.out _ HBF.out) (fun hHeld12 => ?_)
      clear hK K hHeld11
      try simp only [ap]
      refine tk 12 rfl ?_
      try simp only [ap]
      obtain ⟨cx, fx⟩ := HCX.out cF HBF.out
      refine wpAnyH_ready (rs := [13]) (by kernel_rfl) (by simp) ?_
      refine cons_drop rfl (fun K hK => ?_) AllReadyH.nil
      go_simp
      refine hK.out _ _ (HKS2.out _ _ HBF.out) (fun hHeldZ => ?_)
      clear hK K hHeld12
      try simp only [ap]
      refine wpAnyH_done (by kernel_rfl) ?_ _
      refine NoPanic.normal ?_
      clear hHeldZ cx fx
      rotate_left
      obtain ⟨cx, -⟩ := HCX.out u0 HBu.out
      go_simp
      refine hK.out _ _ (HKS.out _ HBu.out) (fun hHeld13 => ?_)
      clear hK K hHeld
      try simp only [ap]
      clear cx
      refine tk 4 rfl ?_
      try simp only [ap]
      refine wpAnyH_ready (rs := [0, 7]) (by kernel_rfl) (by simp) ?_
      refine cons_drop rfl (fun K hK => ?_) (cons_drop rfl (fun K hK => ?_) AllReadyH.nil)
      go_simp
      obtain ⟨c14, hc14⟩ : ∃ u, u = u0.alloc (.cells #[] 81) := ⟨_, rfl⟩
      rw [← hc14]
      have hbz : Below u0.heap.size u0 c14 := by rw [hc14]; exact (Below.refl _ _).alloc (Nat.le_refl _) _
      have HB14 : Hid (Below u0.heap.size u0 c14) := Lib.hid (HBu.out.trans (hbz.mono HBu.out.size))
      have own0_14 : Hid (c14.ownsRow u0.heap.size 81 2 (.slice (some ⟨u0.heap.size, 0, none⟩) 0 0) 0 []) := Lib.hid (by rw [hc14]; exact World.ownsRow_lit u0 #[] 0 HBu.out.size (Nat.zero_le _) (by simp))
      clear hbz
      replace hc14 := Lib.hid hc14
      refine hK.out _ _ (HKS.out _ HB14.out) (fun hHeld14 => ?_)
      clear hK K hHeld13
      try simp only [ap]
      refine wpAnyH_ready (rs := [5, 7]) (by kernel_rfl) (by simp) ?_
      refine cons_drop rfl (fun K hK => ?_) (cons_drop rfl (fun K hK => ?_) AllReadyH.nil)
      refine step_append_any c14 rfl _ _ 30 81 rfl i0 _ 2 16 Tryz.underlying30 HSZ.out hi0 hz0 hz1 hz2 rfl (by decide) u0.heap.size (.slice (some ⟨u0.heap.size, 0, none⟩) 0 0) (.slice (some ⟨mb, mo, none⟩) j (j + 1)) 0 j [] (xs.take (j * 2)) rfl rfl own0_14.out (HIN.out _ HB14.out) (by simp only [maxLen]; omega) (by omega) HB14.out.size ?_
      intro v1_15 c15 hown hgr
      have HB15 : Hid (Below u0.heap.size u0 c15) := Lib.hid (below_grown HB14.out hgr (fun r hr => (own0_14.out.lt r hr).1) HB14.out.size)
      rw [Nat.zero_add, List.nil_append] at hown
      have own1_15 := Lib.hid hown
      clear hown hgr
      refine hK.out _ _ (HKS.out _ HB15.out) (fun hHeld15 => ?_)
      clear hK K hHeld14
      try simp only [ap]
      refine wpAnyH_ready (rs := [7]) (by kernel_rfl) (by simp) ?_
      refine cons_drop rfl (fun K hK => ?_) AllReadyH.nil
      obtain ⟨cx, -⟩ := HCX.out c15 HB15.out
      go_simp
      refine hK.out _ _ (HKS.out _ HB15.out) (fun hHeld16 => ?_)
      clear hK K hHeld15
      try simp only [ap]
      clear cx
      refine tk 10 rfl ?_
      try simp only [ap]
      refine wpAnyH_ready (rs := [11]) (by kernel_rfl) (by simp) ?_
      refine cons_drop rfl (fun K hK => ?_) AllReadyH.nil
      refine step_append_any c15 rfl _ _ 30 81 rfl i0 _ 2 16 Tryz.underlying30 HSZ.out hi0 hz0 hz1 hz2 rfl (by decide) u0.heap.size v1_15 (.slice (some ⟨mb, mo, none⟩) 0 0) j 0 (xs.take (j * 2)) (xs.drop ((j + 1) * 2)) rfl rfl own1_15.out (HIN2.out _ HB15.out) (by simp only [maxLen]; omega) (by omega) HB15.out.size ?_
      intro vF cF hown hgr
      rw [Nat.add_zero] at hown
      obtain ⟨Ar, cr, rfl, hbr⟩ := own_slice hown
      have HOF := Lib.hid hown; have HBRF := Lib.hid hbr
      have HBF : Hid (Below u0.heap.size u0 cF) := Lib.hid (below_grown HB15.out hgr (fun r hr => (own1_15.out.lt r hr).1) HB15.out.size)
      clear hown hgr hbr
      refine hK.out _ _ (HKS.out _ HBF.out) (fun hHeld17 => ?_)
      clear hK K hHeld16
      try simp only [ap]
      refine tk 12 rfl ?_
      try simp only [ap]
      obtain ⟨cx, fx⟩ := HCX.out cF HBF.out
      refine wpAnyH_ready (rs := [13]) (by kernel_rfl) (by simp) ?_
      refine cons_drop rfl (fun K hK => ?_) AllReadyH.nil
      go_simp
      refine hK.out _ _ (HKS2.out _ _ HBF.out) (fun hHeldZ => ?_)
      clear hK K hHeld17
      try simp only [ap]
      refine wpAnyH_done (by kernel_rfl) ?_ _
      refine NoPanic.normal ?_
      clear hHeldZ cx fx
      rotate_left
      obtain ⟨cx, -⟩ := HCX.out c14 HB14.out
      go_simp
      refine hK.out _ _ (HKS.out _ HB14.out) (fun hHeld18 => ?_)
      clear hK K hHeld14
      try simp only [ap]
      clear cx
      refine tk 10 rfl ?_
      try simp only [ap]
      refine wpAnyH_ready (rs := [5]) (by kernel_rfl) (by simp) ?_
      refine cons_drop rfl (fun K hK => ?_) AllReadyH.nil
      refine step_append_any c14 rfl _ _ 30 81 rfl i0 _ 2 16 Tryz.underlying30 HSZ.out hi0 hz0 hz1 hz2 rfl (by decide) u0.heap.size (.slice (some ⟨u0.heap.size, 0, none⟩) 0 0) (.slice (some ⟨mb, mo, none⟩) j (j + 1)) 0 j [] (xs.take (j * 2)) rfl rfl own0_14.out (HIN.out _ HB14.out) (by simp only [maxLen]; omega) (by omega) HB14.out.size ?_
      intro v1_19 c19 hown hgr
      have HB19 : Hid (Below u0.heap.size u0 c19) := Lib.hid (below_grown HB14.out hgr (fun r hr => (own0_14.out.lt r hr).1) HB14.out.size)
      rw [Nat.zero_add, List.nil_append] at hown
      have own1_19 := Lib.hid hown
      clear hown hgr
      refine hK.out _ _ (HKS.out _ HB19.out) (fun hHeld19 => ?_)
      clear hK K hHeld18
      try simp only [ap]
      refine wpAnyH_ready (rs := [11]) (by kernel_rfl) (by simp) ?_
      refine cons_drop rfl (fun K hK => ?_) AllReadyH.nil
      refine step_append_any c19 rfl _ _ 30 81 rfl i0 _ 2 16 Tryz.underlying30 HSZ.out hi0 hz0 hz1 hz2 rfl (by decide) u0.heap.size v1_19 (.slice (some ⟨mb, mo, none⟩) 0 0) j 0 (xs.take (j * 2)) (xs.drop ((j + 1) * 2)) rfl rfl own1_19.out (HIN2.out _ HB19.out) (by simp only [maxLen]; omega) (by omega) HB19.out.size ?_
      intro vF cF hown hgr
      rw [Nat.add_zero] at hown
      obtain ⟨Ar, cr, rfl, hbr⟩ := own_slice hown
      have HOF := Lib.hid hown; have HBRF := Lib.hid hbr
      have HBF : Hid (Below u0.heap.size u0 cF) := Lib.hid (below_grown HB19.out hgr (fun r hr => (own1_19.out.lt r hr).1) HB19.out.size)
      clear hown hgr hbr
      refine hK.out _ _ (HKS.out _ HBF.out) (fun hHeld20 => ?_)
      clear hK K hHeld19
      try simp only [ap]
      refine tk 12 rfl ?_
      try simp only [ap]
      obtain ⟨cx, fx⟩ := HCX.out cF HBF.out
      refine wpAnyH_ready (rs := [13]) (by kernel_rfl) (by simp) ?_
      refine cons_drop rfl (fun K hK => ?_) AllReadyH.nil
      go_simp
      refine hK.out _ _ (HKS2.out _ _ HBF.out) (fun hHeldZ => ?_)
      clear hK K hHeld20
      try simp only [ap]
      refine wpAnyH_done (by kernel_rfl) ?_ _
      refine NoPanic.normal ?_
      clear hHeldZ cx fx
      rotate_left
      obtain ⟨cx, -⟩ := HCX.out u0 HBu.out
      go_simp
      refine hK.out _ _ (HKS.out _ HBu.out) (fun hHeld21 => ?_)
      clear hK K hHeld13
      try simp only [ap]
      clear cx
      refine tk 10 rfl ?_
      try simp only [ap]
      refine wpAnyH_ready (rs := [0]) (by kernel_rfl) (by simp) ?_
      refine cons_drop rfl (fun K hK => ?_) AllReadyH.nil
      go_simp
      obtain ⟨c22, hc22⟩ : ∃ u, u = u0.alloc (.cells #[] 81) := ⟨_, rfl⟩
      rw [← hc22]
      have hbz : Below u0.heap.size u0 c22 := by rw [hc22]; exact (Below.refl _ _).alloc (Nat.le_refl _) _
      have HB22 : Hid (Below u0.heap.size u0 c22) := Lib.hid (HBu.out.trans (hbz.mono HBu.out.size))
      have own0_22 : Hid (c22.ownsRow u0.heap.size 81 2 (.slice (some ⟨u0.heap.size, 0, none⟩) 0 0) 0 []) := Lib.hid (by rw [hc22]; exact World.ownsRow_lit u0 #[] 0 HBu.out.size (Nat.zero_le _) (by simp))
      clear hbz
      replace hc22 := Lib.hid hc22
      refine hK.out _ _ (HKS.out _ HB22.out) (fun hHeld22 => ?_)
      clear hK K hHeld21
      try simp only [ap]
      refine wpAnyH_ready (rs := [5]) (by kernel_rfl) (by simp) ?_
      refine cons_drop rfl (fun K hK => ?_) AllReadyH.nil
      refine step_append_any c22 rfl _ _ 30 81 rfl i0 _ 2 16 Tryz.underlying30 HSZ.out hi0 hz0 hz1 hz2 rfl (by decide) u0.heap.size (.slice (some ⟨u0.heap.size, 0, none⟩) 0 0) (.slice (some ⟨mb, mo, none⟩) j (j + 1)) 0 j [] (xs.take (j * 2)) rfl rfl own0_22.out (HIN.out _ HB22.out) (by simp only [maxLen]; omega) (by omega) HB22.out.size ?_
      intro v1_23 c23 hown hgr
      have HB23 : Hid (Below u0.heap.size u0 c23) := Lib.hid (below_grown HB22.out hgr (fun r hr => (own0_22.out.lt r hr).1) HB22.out.size)
      rw [Nat.zero_add, List.nil_append] at hown
      have own1_23 := Lib.hid hown
      clear hown hgr
      refine hK.out _ _ (HKS.out _ HB23.out) (fun hHeld23 => ?_)
      clear hK K hHeld22
      try simp only [ap]
      refine wpAnyH_ready (rs := [11]) (by kernel_rfl) (by simp) ?_
      refine cons_drop rfl (fun K hK => ?_) AllReadyH.nil
      refine step_append_any c23 rfl _ _ 30 81 rfl i0 _ 2 16 Tryz.underlying30 HSZ.out hi0 hz0 hz1 hz2 rfl (by decide) u0.heap.size v1_23 (.slice (some ⟨mb, mo, none⟩) 0 0) j 0 (xs.take (j * 2)) (xs.drop ((j + 1) * 2)) rfl rfl own1_23.out (HIN2.out _ HB23.out) (by simp only [maxLen]; omega) (by omega) HB23.out.size ?_
      intro vF cF hown hgr
      rw [Nat.add_zero] at hown
      obtain ⟨Ar, cr, rfl, hbr⟩ := own_slice hown
      have HOF := Lib.hid hown; have HBRF := Lib.hid hbr
      have HBF : Hid (Below u0.heap.size u0 cF) := Lib.hid (below_grown HB23.out hgr (fun r hr => (own1_23.out.lt r hr).1) HB23.out.size)
      clear hown hgr hbr
      refine hK.out _ _ (HKS.out _ HBF.out) (fun hHeld24 => ?_)
      clear hK K hHeld23
      try simp only [ap]
      refine tk 12 rfl ?_
      try simp only [ap]
      obtain ⟨cx, fx⟩ := HCX.out cF HBF.out
      refine wpAnyH_ready (rs := [13]) (by kernel_rfl) (by simp) ?_
      refine cons_drop rfl (fun K hK => ?_) AllReadyH.nil
      go_simp
      refine hK.out _ _ (HKS2.out _ _ HBF.out) (fun hHeldZ => ?_)
      clear hK K hHeld24
      try simp only [ap]
      refine wpAnyH_done (by kernel_rfl) ?_ _
      refine NoPanic.normal ?_
      clear hHeldZ cx fx
      rotate_left
      obtain ⟨cx, -⟩ := HCX.out u0 HBu.out
      go_simp
      refine hK.out _ _ (HKS.out _ HBu.out) (fun hHeld25 => ?_)
      clear hK K hHeld
      try simp only [ap]
      clear cx
      refine tk 10 rfl ?_
      try simp only [ap]
      refine wpAnyH_ready (rs := [0, 2]) (by kernel_rfl) (by simp) ?_
      refine cons_drop rfl (fun K hK => ?_) (cons_drop rfl (fun K hK => ?_) AllReadyH.nil)
      go_simp
      obtain ⟨c26, hc26⟩ : ∃ u, u = u0.alloc (.cells #[] 81) := ⟨_, rfl⟩
      rw [← hc26]
      have hbz : Below u0.heap.size u0 c26 := by rw [hc26]; exact (Below.refl _ _).alloc (Nat.le_refl _) _
      have HB26 : Hid (Below u0.heap.size u0 c26) := Lib.hid (HBu.out.trans (hbz.mono HBu.out.size))
      have own0_26 : Hid (c26.ownsRow u0.heap.size 81 2 (.slice (some ⟨u0.heap.size, 0, none⟩) 0 0) 0 []) := Lib.hid (by rw [hc26]; exact World.ownsRow_lit u0 #[] 0 HBu.out.size (Nat.zero_le _) (by simp))
      clear hbz
      replace hc26 := Lib.hid hc26
      refine hK.out _ _ (HKS.out _ HB26.out) (fun hHeld26 => ?_)
      clear hK K hHeld25
      try simp only [ap]
      refine wpAnyH_ready (rs := [2]) (by kernel_rfl) (by simp) ?_
      refine cons_drop rfl (fun K hK => ?_) AllReadyH.nil
      obtain ⟨cx, -⟩ := HCX.out c26 HB26.out
      go_simp
      refine hK.out _ _ (HKS.out _ HB26.out) (fun hHeld27 => ?_)
      clear hK K hHeld26
      try simp only [ap]
      clear cx
      refine tk 4 rfl ?_
      try simp only [ap]
      refine wpAnyH_ready (rs := [5]) (by kernel_rfl) (by simp) ?_
      refine cons_drop rfl (fun K hK => ?_) AllReadyH.nil
      refine step_append_any c26 rfl _ _ 30 81 rfl i0 _ 2 16 Tryz.underlying30 HSZ.out hi0 hz0 hz1 hz2 rfl (by decide) u0.heap.size (.slice (some ⟨u0.heap.size, 0, none⟩) 0 0) (.slice (some ⟨mb, mo, none⟩) j (j + 1)) 0 j [] (xs.take (j * 2)) rfl rfl own0_26.out (HIN.out _ HB26.out) (by simp only [maxLen]; omega) (by omega) HB26.out.size ?_
      intro v1_28 c28 hown hgr
      have HB28 : Hid (Below u0.heap.size u0 c28) := Lib.hid (below_grown HB26.out hgr (fun r hr => (own0_26.out.lt r hr).1) HB26.out.size)
      rw [Nat.zero_add, List.nil_append] at hown
      have own1_28 := Lib.hid hown
      clear hown hgr
      refine hK.out _ _ (HKS.out _ HB28.out) (fun hHeld28 => ?_)
      clear hK K hHeld27
      try simp only [ap]
      refine wpAnyH_ready (rs := [11]) (by kernel_rfl) (by simp) ?_
      refine cons_drop rfl (fun K hK => ?_) AllReadyH.nil
      refine step_append_any c28 rfl _ _ 30 81 rfl i0 _ 2 16 Tryz.underlying30 HSZ.out hi0 hz0 hz1 hz2 rfl (by decide) u0.heap.size v1_28 (.slice (some ⟨mb, mo, none⟩) 0 0) j 0 (xs.take (j * 2)) (xs.drop ((j + 1) * 2)) rfl rfl own1_28.out (HIN2.out _ HB28.out) (by simp only [maxLen]; omega) (by omega) HB28.out.size ?_
      intro vF cF hown hgr
      rw [Nat.add_zero] at hown
      obtain ⟨Ar, cr, rfl, hbr⟩ := own_slice hown
      have HOF := Lib.hid hown; have HBRF := Lib.hid hbr
      have HBF : Hid (Below u0.heap.size u0 cF) := Lib.hid (below_grown HB28.out hgr (fun r hr => (own1_28.out.lt r hr).1) HB28.out.size)
      clear hown hgr hbr
      refine hK.out _ _ (HKS.out _ HBF.out) (fun hHeld29 => ?_)
      clear hK K hHeld28
      try simp only [ap]
      refine tk 12 rfl ?_
      try simp only [ap]
      obtain ⟨cx, fx⟩ := HCX.out cF HBF.out
      refine wpAnyH_ready (rs := [13]) (by kernel_rfl) (by simp) ?_
      refine cons_drop rfl (fun K hK => ?_) AllReadyH.nil
      go_simp
      refine hK.out _ _ (HKS2.out _ _ HBF.out) (fun hHeldZ => ?_)
      clear hK K hHeld29
      try simp only [ap]
      refine wpAnyH_done (by kernel_rfl) ?_ _
      refine NoPanic.normal ?_
      clear hHeldZ cx fx
      rotate_left
      obtain ⟨cx, -⟩ := HCX.out u0 HBu.out
      go_simp
      refine hK.out _ _ (HKS.out _ HBu.out) (fun hHeld30 => ?_)
      clear hK K hHeld25
      try simp only [ap]
      clear cx
      refine tk 4 rfl ?_
      try simp only [ap]
      refine wpAnyH_ready (rs := [0]) (by kernel_rfl) (by simp) ?_
      refine cons_drop rfl (fun K hK => ?_) AllReadyH.nil
      go_simp
      obtain ⟨c31, hc31⟩ : ∃ u, u = u0.alloc (.cells #[] 81) := ⟨_, rfl⟩
      rw [← hc31]
      have hbz : Below u0.heap.size u0 c31 := by rw [hc31]; exact (Below.refl _ _).alloc (Nat.le_refl _) _
      have HB31 : Hid (Below u0.heap.size u0 c31) := Lib.hid (HBu.out.trans (hbz.mono HBu.out.size))
      have own0_31 : Hid (c31.ownsRow u0.heap.size 81 2 (.slice (some ⟨u0.heap.size, 0, none⟩) 0 0) 0 []) := Lib.hid (by rw [hc31]; exact World.ownsRow_lit u0 #[] 0 HBu.out.size (Nat.zero_le _) (by simp))
      clear hbz
      replace hc31 := Lib.hid hc31
      refine hK.out _ _ (HKS.out _ HB31.out) (fun hHeld31 => ?_)
      clear hK K hHeld30
      try simp only [ap]
      refine wpAnyH_ready (rs := [5]) (by kernel_rfl) (by simp) ?_
      refine cons_drop rfl (fun K hK => ?_) AllReadyH.nil
      refine step_append_any c31 rfl _ _ 30 81 rfl i0 _ 2 16 Tryz.underlying30 HSZ.out hi0 hz0 hz1 hz2 rfl (by decide) u0.heap.size (.slice (some ⟨u0.heap.size, 0, none⟩) 0 0) (.slice (some ⟨mb, mo, none⟩) j (j + 1)) 0 j [] (xs.take (j * 2)) rfl rfl own0_31.out (HIN.out _ HB31.out) (by simp only [maxLen]; omega) (by omega) HB31.out.size ?_
      intro v1_32 c32 hown hgr
      have HB32 : Hid (Below u0.heap.size u0 c32) := Lib.hid (below_grown HB31.out hgr (fun r hr => (own0_31.out.lt r hr).1) HB31.out.size)
      rw [Nat.zero_add, List.nil_append] at hown
      have own1_32 := Lib.hid hown
      clear hown hgr
      refine hK.out _ _ (HKS.out _ HB32.out) (fun hHeld32 => ?_)
      clear hK K hHeld31
      try simp only [ap]
      refine wpAnyH_ready (rs := [11]) (by kernel_rfl) (by simp) ?_
      refine cons_drop rfl (fun K hK => ?_) AllReadyH.nil
      refine step_append_any c32 rfl _ _ 30 81 rfl i0 _ 2 16 Tryz.underlying30 HSZ.out hi0 hz0 hz1 hz2 rfl (by decide) u0.heap.size v1_32 (.slice (some ⟨mb, mo, none⟩) 0 0) j 0 (xs.take (j * 2)) (xs.drop ((j + 1) * 2)) rfl rfl own1_32.out (HIN2.out _ HB32.out) (by simp only [maxLen]; omega) (by omega) HB32.out.size ?_
      intro vF cF hown hgr
      rw [Nat.add_zero] at hown
      obtain ⟨Ar, cr, rfl, hbr⟩ := own_slice hown
      have HOF := Lib.hid hown; have HBRF := Lib.hid hbr
      have HBF : Hid (Below u0.heap.size u0 cF) := Lib.hid (below_grown HB32.out hgr (fun r hr => (own1_32.out.lt r hr).1) HB32.out.size)
      clear hown hgr hbr
      refine hK.out _ _ (HKS.out _ HBF.out) (fun hHeld33 => ?_)
      clear hK K hHeld32
      try simp only [ap]
      refine tk 12 rfl ?_
      try simp only [ap]
      obtain ⟨cx, fx⟩ := HCX.out cF HBF.out
      refine wpAnyH_ready (rs := [13]) (by kernel_rfl) (by simp) ?_
      refine cons_drop rfl (fun K hK => ?_) AllReadyH.nil
      go_simp
      refine hK.out _ _ (HKS2.out _ _ HBF.out) (fun hHeldZ => ?_)
      clear hK K hHeld33
      try simp only [ap]
      refine wpAnyH_done (by kernel_rfl) ?_ _
      refine NoPanic.normal ?_
      clear hHeldZ cx fx
      rotate_left
      all_goals
       obtain ⟨w6, hw6⟩ : ∃ w6, w6 = cF.setCell ⟨w.heap.size, 6, none⟩ (.slice Ar j cr) := ⟨_, rfl⟩
       have hbF1 : Below W1.heap.size W1 cF := HBu1.out _ HBF.out
       have hx6 : RX w6 w.heap.size f (.slice Bu nu cu) s.closed s.next (.slice Ak nk ck) (.slice Aq nt ct) (.slice Ar j cr) := by rw [hw6]; exact (HX.out cF hbF1).1.set6
       have hq6 : RX w6 (w.heap.size + 1 + 1) ⟨#[]⟩ (.slice none 0 0) 0 0 (.slice none 0 0) (.slice none 0 0) (.slice none 0 0) := by rw [hw6]; exact (HX.out cF hbF1).2.2.1.far (by omega)
       have HB6 : Hid (Below w.heap.size w w6) := Lib.hid (by rw [hw6]; exact (HBW.out cF hbF1).setCell (p := ⟨w.heap.size, 6, none⟩) (Nat.le_refl _) _)
       have HW6 := Lib.hid hw6
       obtain ⟨x0, x1, x2, x3, x4, x5, x6, xf⟩ := hx6.cells
       obtain ⟨q0, q1, q2, q3, q4, q5, q6, qf⟩ := hq6.cells
       rw [show ((0 : Nat) : Int) = 0 from rfl] at q3
       have qf0 := qf 0; have qf1 := qf 1; have qf2 := qf 2; have qf3 := qf 3; have qf4 := qf 4; have qf5 := qf 5; have qf6 := qf 6
       clear qf xf hx6 hq6 hbF1
       rw [← hw6]
       clear hw6
       go_wp2_with fail
       refine bodyPost_ret (v := .tuple #[.agg #[.string f, .slice Bu nu cu, .int .i64 s.closed, .int .u64 (s.next : Nat), .slice Ak nk ck, .slice Aq nt ct, .slice Ar j cr], .bool true]) (by simp [results, Tryz.results32, go_sem, q0, q1, q2, q3, q4, q5, q6]) rfl ?_
       obtain ⟨W7, hW7⟩ : ∃ W7, W7 = ((((((w6.setCell ⟨w.heap.size + 1 + 1, 0, none⟩ (.string f)).setCell ⟨w.heap.size + 1 + 1, 1, none⟩ (.slice Bu nu cu)).setCell ⟨w.heap.size + 1 + 1, 2, none⟩ (.int .i64 s.closed)).setCell ⟨w.heap.size + 1 + 1, 3, none⟩ (.int .u64 (s.next : Nat))).setCell ⟨w.heap.size + 1 + 1, 4, none⟩ (.slice Ak nk ck)).setCell ⟨w.heap.size + 1 + 1, 5, none⟩ (.slice Aq nt ct)).setCell ⟨w.heap.size + 1 + 1, 6, none⟩ (.slice Ar j cr) := ⟨_, rfl⟩
       rw [← hW7]
       exact HOUT.out cF w6 W7 Ar cr j (by omega) HOF.out HBRF.out HBF.out HW6.out HB6.out hW7
     ·have HIN2 := HIN2a
      refine wp_region_noPanic ?_
      refine wp_region_held_drew (S := (fun W : World => W.cell? ⟨w.heap.size + 3, 5, none⟩ = some (.string text))) (by kernel_rfl) ?_ (fun hHeld => ?_)
      ·rw [← hu0]; exact HKS.out _ (Below.refl _ _)
      rw [← hu0] at hHeld
      rw [← hu0]
      replace hu0 := Lib.hid hu0
      refine tk 1 rfl ?_
      try simp only [ap]
      refine tk 3 rfl ?_
      try simp only [ap]
      refine tk 6 rfl ?_
      try simp only [ap]
      refine tk 8 rfl ?_
      try simp only [ap]
      refine tk 9 rfl ?_
      try simp only [ap]
      refine wpAnyH_ready (rs := [0, 2, 7]) (by kernel_rfl) (by simp) ?_
      refine cons_drop rfl (fun K hK => ?_) (cons_drop rfl (fun K hK => ?_) (cons_drop rfl (fun K hK => ?_) AllReadyH.nil))
      go_simp
      obtain ⟨c1, hc1⟩ : ∃ u, u = u0.alloc (.cells #[] 81) := ⟨_, rfl⟩
      rw [← hc1]
      have hbz : Below u0.heap.size u0 c1 := by rw [hc1]; exact (Below.refl _ _).alloc (Nat.le_refl _) _
      have HB1 : Hid (Below u0.heap.size u0 c1) := Lib.hid (HBu.out.trans (hbz.mono HBu.out.size))
      have own0_1 : Hid (c1.ownsRow u0.heap.size 81 2 (.slice (some ⟨u0.heap.size, 0, none⟩) 0 0) 0 []) := Lib.hid (by rw [hc1]; exact World.ownsRow_lit u0 #[] 0 HBu.out.size (Nat.zero_le _) (by simp))
      clear hbz
      replace hc1 := Lib.hid hc1
      refine hK.out _ _ (HKS.out _ HB1.out) (fun hHeld1 => ?_)
      clear hK K hHeld
      try simp only [ap]
      refine wpAnyH_ready (rs := [2, 7]) (by kernel_rfl) (by simp) ?_
      refine cons_drop rfl (fun K hK => ?_) (cons_drop rfl (fun K hK => ?_) AllReadyH.nil)
      obtain ⟨cx, -⟩ := HCX.out c1 HB1.out
      go_simp
      refine hK.out _ _ (HKS.out _ HB1.out) (fun hHeld2 => ?_)
      clear hK K hHeld1
      try simp only [ap]
      clear cx
      refine tk 4 rfl ?_
      try simp only [ap]
      refine wpAnyH_ready (rs := [5, 7]) (by kernel_rfl) (by simp) ?_
      refine cons_drop rfl (fun K hK => ?_) (cons_drop rfl (fun K hK => ?_) AllReadyH.nil)
      refine step_append_any c1 rfl _ _ 30 81 rfl i0 _ 2 16 Tryz.underlying30 HSZ.out hi0 hz0 hz1 hz2 rfl (by decide) u0.heap.size (.slice (some ⟨u0.heap.size, 0, none⟩) 0 0) (.slice (some ⟨mb, mo, none⟩) j cm) 0 j [] (xs.take (j * 2)) rfl rfl own0_1.out (HIN.out _ HB1.out) (by simp only [maxLen]; omega) (by omega) HB1.out.size ?_
      intro v1_3 c3 hown hgr
      have HB3 : Hid (Below u0.heap.size u0 c3) := Lib.hid (below_grown HB1.out hgr (fun r hr => (own0_1.out.lt r hr).1) HB1.out.size)
      rw [Nat.zero_add, List.nil_append] at hown
      have own1_3 := Lib.hid hown
      clear hown hgr
      refine hK.out _ _ (HKS.out _ HB3.out) (fun hHeld3 => ?_)
      clear hK K hHeld2
      try simp only [ap]
      refine wpAnyH_ready (rs := [7]) (by kernel_rfl) (by simp) ?_
      refine cons_drop rfl (fun K hK => ?_) AllReadyH.nil
      obtain ⟨cx, -⟩ := HCX.out c3 HB3.out
      go_simp
      refine hK.out _ _ (HKS.out _ HB3.out) (fun hHeld4 => ?_)
      clear hK K hHeld3
      try simp only [ap]
      clear cx
      refine tk 10 rfl ?_
      try simp only [ap]
      refine wpAnyH_ready (rs := [11]) (by kernel_rfl) (by simp) ?_
      refine cons_drop rfl (fun K hK => ?_) AllReadyH.nil
      refine step_append_any c3 rfl _ _ 30 81 rfl i0 _ 2 16 Tryz.underlying30 HSZ.out hi0 hz0 hz1 hz2 rfl (by decide) u0.heap.size v1_3 (.slice (some ⟨mb, mo + (j + 1) * 2, none⟩) (N - (j + 1)) (cm - (j + 1))) j (N - (j + 1)) (xs.take (j * 2)) (xs.drop ((j + 1) * 2)) rfl rfl own1_3.out (HIN2.out _ HB3.out) (by simp only [maxLen]; omega) (by omega) HB3.out.size ?_
      intro vF cF hown hgr
      obtain ⟨Ar, cr, rfl, hbr⟩ := own_slice hown
      have HOF := Lib.hid hown; have HBRF := Lib.hid hbr
      have HBF : Hid (Below u0.heap.size u0 cF) := Lib.hid (below_grown HB3.out hgr (fun r hr => (own1_3.out.lt r hr).1) HB3.out.size)
      clear hown hgr hbr
      refine hK.out _ _ (HKS.out _ HBF.out) (fun hHeld5 => ?_)
      clear hK K hHeld4
      try simp only [ap]
      refine tk 12 rfl ?_
      try simp only [ap]
      obtain ⟨cx, fx⟩ := HCX.out cF HBF.out
      refine wpAnyH_ready (rs := [13]) (by kernel_rfl) (by simp) ?_
      refine cons_drop rfl (fun K hK => ?_) AllReadyH.nil
      go_simp
      refine hK.out _ _ (HKS2.out _ _ HBF.out) (fun hHeldZ => ?_)
      clear hK K hHeld5
      try simp only [ap]
      refine wpAnyH_done (by kernel_rfl) ?_ _
      refine NoPanic.normal ?_
      clear hHeldZ cx fx
      rotate_left
      obtain ⟨cx, -⟩ := HCX.out c1 HB1.out
      go_simp
      refine hK.out _ _ (HKS.out _ HB1.out) (fun hHeld6 => ?_)
      clear hK K hHeld2
      try simp only [ap]
      clear cx
      refine tk 10 rfl ?_
      try simp only [ap]
      refine wpAnyH_ready (rs := [5]) (by kernel_rfl) (by simp) ?_
      refine cons_drop rfl (fun K hK => ?_) AllReadyH.nil
      refine step_append_any c1 rfl _ _ 30 81 rfl i0 _ 2 16 Tryz.underlying30 HSZ.out hi0 hz0 hz1 hz2 rfl (by decide) u0.heap.size (.slice (some ⟨u0.heap.size, 0, none⟩) 0 0) (.slice (some ⟨mb, mo, none⟩) j cm) 0 j [] (xs.take (j * 2)) rfl rfl own0_1.out (HIN.out _ HB1.out) (by simp only [maxLen]; omega) (by omega) HB1.out.size ?_
      intro v1_7 c7 hown hgr
      have HB7 : Hid (Below u0.heap.size u0 c7) := Lib.hid (below_grown HB1.out hgr (fun r hr => (own0_1.out.lt r hr).1) HB1.out.size)
      rw [Nat.zero_add, List.nil_append] at hown
      have own1_7 := Lib.hid hown
      clear hown hgr
      refine hK.out _ _ (HKS.out _ HB7.out) (fun hHeld7 => ?_)
      clear hK K hHeld6
      try simp only [ap]
      refine wpAnyH_ready (rs := [11]) (by kernel_rfl) (by simp) ?_
      refine cons_drop rfl (fun K hK => ?_) AllReadyH.nil
      refine step_append_any c7 rfl _ _ 30 81 rfl i0 _ 2 16 Tryz.underlying30 HSZ.out hi0 hz0 hz1 hz2 rfl (by decide) u0.heap.size v1_7 (.slice (some ⟨mb, mo + (j + 1) * 2, none⟩) (N - (j + 1)) (cm - (j + 1))) j (N - (j + 1)) (xs.take (j * 2)) (xs.drop ((j + 1) * 2)) rfl rfl own1_7.out (HIN2.out _ HB7.out) (by simp only [maxLen]; omega) (by omega) HB7.out.size ?_
      intro vF cF hown hgr
      obtain ⟨Ar, cr, rfl, hbr⟩ := own_slice hown
      have HOF := Lib.hid hown; have HBRF := Lib.hid hbr
      have HBF : Hid (Below u0.heap.size u0 cF) := Lib.hid (below_grown HB7.out hgr (fun r hr => (own1_7.out.lt r hr).1) HB7.out.size)
      clear hown hgr hbr
      refine hK.out _ _ (HKS.out _ HBF.out) (fun hHeld8 => ?_)
      clear hK K hHeld7
      try simp only [ap]
      refine tk 12 rfl ?_
      try simp only [ap]
      obtain ⟨cx, fx⟩ := HCX.out cF HBF.out
      refine wpAnyH_ready (rs := [13]) (by kernel_rfl) (by simp) ?_
      refine cons_drop rfl (fun K hK => ?_) AllReadyH.nil
      go_simp
      refine hK.out _ _ (HKS2.out _ _ HBF.out) (fun hHeldZ => ?_)
      clear hK K hHeld8
      try simp only [ap]
      refine wpAnyH_done (by kernel_rfl) ?_ _
      refine NoPanic.normal ?_
      clear hHeldZ cx fx
      rotate_left
      obtain ⟨cx, -⟩ := HCX.out c1 HB1.out
      go_simp
      refine hK.out _ _ (HKS.out _ HB1.out) (fun hHeld9 => ?_)
      clear hK K hHeld1
      try simp only [ap]
      clear cx
      refine tk 10 rfl ?_
      try simp only [ap]
      refine wpAnyH_ready (rs := [2]) (by kernel_rfl) (by simp) ?_
      refine cons_drop rfl (fun K hK => ?_) AllReadyH.nil
      obtain ⟨cx, -⟩ := HCX.out c1 HB1.out
      go_simp
      refine hK.out _ _ (HKS.out _ HB1.out) (fun hHeld10 => ?_)
      clear hK K hHeld9
      try simp only [ap]
      clear cx
      refine tk 4 rfl ?_
      try simp only [ap]
      refine wpAnyH_ready (rs := [5]) (by kernel_rfl) (by simp) ?_
      refine cons_drop rfl (fun K hK => ?_) AllReadyH.nil
      refine step_append_any c1 rfl _ _ 30 81 rfl i0 _ 2 16 Tryz.underlying30 HSZ.out hi0 hz0 hz1 hz2 rfl (by decide) u0.heap.size (.slice (some ⟨u0.heap.size, 0, none⟩) 0 0) (.slice (some ⟨mb, mo, none⟩) j cm) 0 j [] (xs.take (j * 2)) rfl rfl own0_1.out (HIN.out _ HB1.out) (by simp only [maxLen]; omega) (by omega) HB1.out.size ?_
      intro v1_11 c11 hown hgr
      have HB11 : Hid (Below u0.heap.size u0 c11) := Lib.hid (below_grown HB1.out hgr (fun r hr => (own0_1.out.lt r hr).1) HB1.out.size)
      rw [Nat.zero_add, List.nil_append] at hown
      have own1_11 := Lib.hid hown
      clear hown hgr
      refine hK.out _ _ (HKS.out _ HB11.out) (fun hHeld11 => ?_)
      clear hK K hHeld10
      try simp only [ap]
      refine wpAnyH_ready (rs := [11]) (by kernel_rfl) (by simp) ?_
      refine cons_drop rfl (fun K hK => ?_) AllReadyH.nil
      refine step_append_any c11 rfl _ _ 30 81 rfl i0 _ 2 16 Tryz.underlying30 HSZ.out hi0 hz0 hz1 hz2 rfl (by decide) u0.heap.size v1_11 (.slice (some ⟨mb, mo + (j + 1) * 2, none⟩) (N - (j + 1)) (cm - (j + 1))) j (N - (j + 1)) (xs.take (j * 2)) (xs.drop ((j + 1) * 2)) rfl rfl own1_11.out (HIN2.out _ HB11.out) (by simp only [maxLen]; omega) (by omega) HB11.out.size ?_
      intro vF cF hown hgr
      obtain ⟨Ar, cr, rfl, hbr⟩ := own_slice hown
      have HOF := Lib.hid hown; have HBRF := Lib.hid hbr
      have HBF : Hid (Below u0.heap.size u0 cF) := Lib.hid (below_grown HB11.out hgr (fun r hr => (own1_11.out.lt r hr).1) HB11.out.size)
      clear hown hgr hbr
      refine hK.out _ _ (HKS.out _ HBF.out) (fun hHeld12 => ?_)
      clear hK K hHeld11
      try simp only [ap]
      refine tk 12 rfl ?_
      try simp only [ap]
      obtain ⟨cx, fx⟩ := HCX.out cF HBF.out
      refine wpAnyH_ready (rs := [13]) (by kernel_rfl) (by simp) ?_
      refine cons_drop rfl (fun K hK => ?_) AllReadyH.nil
      go_simp
      refine hK.out _ _ (HKS2.out _ _ HBF.out) (fun hHeldZ => ?_)
      clear hK K hHeld12
      try simp only [ap]
      refine wpAnyH_done (by kernel_rfl) ?_ _
      refine NoPanic.normal ?_
      clear hHeldZ cx fx
      rotate_left
      obtain ⟨cx, -⟩ := HCX.out u0 HBu.out
      go_simp
      refine hK.out _ _ (HKS.out _ HBu.out) (fun hHeld13 => ?_)
      clear hK K hHeld
      try simp only [ap]
      clear cx
      refine tk 4 rfl ?_
      try simp only [ap]
      refine wpAnyH_ready (rs := [0, 7]) (by kernel_rfl) (by simp) ?_
      refine cons_drop rfl (fun K hK => ?_) (cons_drop rfl (fun K hK => ?_) AllReadyH.nil)
      go_simp
      obtain ⟨c14, hc14⟩ : ∃ u, u = u0.alloc (.cells #[] 81) := ⟨_, rfl⟩
      rw [← hc14]
      have hbz : Below u0.heap.size u0 c14 := by rw [hc14]; exact (Below.refl _ _).alloc (Nat.le_refl _) _
      have HB14 : Hid (Below u0.heap.size u0 c14) := Lib.hid (HBu.out.trans (hbz.mono HBu.out.size))
      have own0_14 : Hid (c14.ownsRow u0.heap.size 81 2 (.slice (some ⟨u0.heap.size, 0, none⟩) 0 0) 0 []) := Lib.hid (by rw [hc14]; exact World.ownsRow_lit u0 #[] 0 HBu.out.size (Nat.zero_le _) (by simp))
      clear hbz
      replace hc14 := Lib.hid hc14
      refine hK.out _ _ (HKS.out _ HB14.out) (fun hHeld14 => ?_)
      clear hK K hHeld13
      try simp only [ap]
      refine wpAnyH_ready (rs := [5, 7]) (by kernel_rfl) (by simp) ?_
      refine cons_drop rfl (fun K hK => ?_) (cons_drop rfl (fun K hK => ?_) AllReadyH.nil)
      refine step_append_any c14 rfl _ _ 30 81 rfl i0 _ 2 16 Tryz.underlying30 HSZ.out hi0 hz0 hz1 hz2 rfl (by decide) u0.heap.size (.slice (some ⟨u0.heap.size, 0, none⟩) 0 0) (.slice (some ⟨mb, mo, none⟩) j cm) 0 j [] (xs.take (j * 2)) rfl rfl own0_14.out (HIN.out _ HB14.out) (by simp only [maxLen]; omega) (by omega) HB14.out.size ?_
      intro v1_15 c15 hown hgr
      have HB15 : Hid (Below u0.heap.size u0 c15) := Lib.hid (below_grown HB14.out hgr (fun r hr => (own0_14.out.lt r hr).1) HB14.out.size)
      rw [Nat.zero_add, List.nil_append] at hown
      have own1_15 := Lib.hid hown
      clear hown hgr
      refine hK.out _ _ (HKS.out _ HB15.out) (fun hHeld15 => ?_)
      clear hK K hHeld14
      try simp only [ap]
      refine wpAnyH_ready (rs := [7]) (by kernel_rfl) (by simp) ?_
      refine cons_drop rfl (fun K hK => ?_) AllReadyH.nil
      obtain ⟨cx, -⟩ := HCX.out c15 HB15.out
      go_simp
      refine hK.out _ _ (HKS.out _ HB15.out) (fun hHeld16 => ?_)
      clear hK K hHeld15
      try simp only [ap]
      clear cx
      refine tk 10 rfl ?_
      try simp only [ap]
      refine wpAnyH_ready (rs := [11]) (by kernel_rfl) (by simp) ?_
      refine cons_drop rfl (fun K hK => ?_) AllReadyH.nil
      refine step_append_any c15 rfl _ _ 30 81 rfl i0 _ 2 16 Tryz.underlying30 HSZ.out hi0 hz0 hz1 hz2 rfl (by decide) u0.heap.size v1_15 (.slice (some ⟨mb, mo + (j + 1) * 2, none⟩) (N - (j + 1)) (cm - (j + 1))) j (N - (j + 1)) (xs.take (j * 2)) (xs.drop ((j + 1) * 2)) rfl rfl own1_15.out (HIN2.out _ HB15.out) (by simp only [maxLen]; omega) (by omega) HB15.out.size ?_
      intro vF cF hown hgr
      obtain ⟨Ar, cr, rfl, hbr⟩ := own_slice hown
      have HOF := Lib.hid hown; have HBRF := Lib.hid hbr
      have HBF : Hid (Below u0.heap.size u0 cF) := Lib.hid (below_grown HB15.out hgr (fun r hr => (own1_15.out.lt r hr).1) HB15.out.size)
      clear hown hgr hbr
      refine hK.out _ _ (HKS.out _ HBF.out) (fun hHeld17 => ?_)
      clear hK K hHeld16
      try simp only [ap]
      refine tk 12 rfl ?_
      try simp only [ap]
      obtain ⟨cx, fx⟩ := HCX.out cF HBF.out
      refine wpAnyH_ready (rs := [13]) (by kernel_rfl) (by simp) ?_
      refine cons_drop rfl (fun K hK => ?_) AllReadyH.nil
      go_simp
      refine hK.out _ _ (HKS2.out _ _ HBF.out) (fun hHeldZ => ?_)
      clear hK K hHeld17
      try simp only [ap]
      refine wpAnyH_done (by kernel_rfl) ?_ _
      refine NoPanic.normal ?_
      clear hHeldZ cx fx
      rotate_left
      obtain ⟨cx, -⟩ := HCX.out c14 HB14.out
      go_simp
      refine hK.out _ _ (HKS.out _ HB14.out) (fun hHeld18 => ?_)
      clear hK K hHeld14
      try simp only [ap]
      clear cx
      refine tk 10 rfl ?_
      try simp only [ap]
      refine wpAnyH_ready (rs := [5]) (by kernel_rfl) (by simp) ?_
      refine cons_drop rfl (fun K hK => ?_) AllReadyH.nil
      refine step_append_any c14 rfl _ _ 30 81 rfl i0 _ 2 16 Tryz.underlying30 HSZ.out hi0 hz0 hz1 hz2 rfl (by decide) u0.heap.size (.slice (some ⟨u0.heap.size, 0, none⟩) 0 0) (.slice (some ⟨mb, mo, none⟩) j cm) 0 j [] (xs.take (j * 2)) rfl rfl own0_14.out (HIN.out _ HB14.out) (by simp only [maxLen]; omega) (by omega) HB14.out.size ?_
      intro v1_19 c19 hown hgr
      have HB19 : Hid (Below u0.heap.size u0 c19) := Lib.hid (below_grown HB14.out hgr (fun r hr => (own0_14.out.lt r hr).1) HB14.out.size)
      rw [Nat.zero_add, List.nil_append] at hown
      have own1_19 := Lib.hid hown
      clear hown hgr
      refine hK.out _ _ (HKS.out _ HB19.out) (fun hHeld19 => ?_)
      clear hK K hHeld18
      try simp only [ap]
      refine wpAnyH_ready (rs := [11]) (by kernel_rfl) (by simp) ?_
      refine cons_drop rfl (fun K hK => ?_) AllReadyH.nil
      refine step_append_any c19 rfl _ _ 30 81 rfl i0 _ 2 16 Tryz.underlying30 HSZ.out hi0 hz0 hz1 hz2 rfl (by decide) u0.heap.size v1_19 (.slice (some ⟨mb, mo + (j + 1) * 2, none⟩) (N - (j + 1)) (cm - (j + 1))) j (N - (j + 1)) (xs.take (j * 2)) (xs.drop ((j + 1) * 2)) rfl rfl own1_19.out (HIN2.out _ HB19.out) (by simp only [maxLen]; omega) (by omega) HB19.out.size ?_
      intro vF cF hown hgr
      obtain ⟨Ar, cr, rfl, hbr⟩ := own_slice hown
      have HOF := Lib.hid hown; have HBRF := Lib.hid hbr
      have HBF : Hid (Below u0.heap.size u0 cF) := Lib.hid (below_grown HB19.out hgr (fun r hr => (own1_19.out.lt r hr).1) HB19.out.size)
      clear hown hgr hbr
      refine hK.out _ _ (HKS.out _ HBF.out) (fun hHeld20 => ?_)
      clear hK K hHeld19
      try simp only [ap]
      refine tk 12 rfl ?_
      try simp only [ap]
      obtain ⟨cx, fx⟩ := HCX.out cF HBF.out
      refine wpAnyH_ready (rs := [13]) (by kernel_rfl) (by simp) ?_
      refine cons_drop rfl (fun K hK => ?_) AllReadyH.nil
      go_simp
      refine hK.out _ _ (HKS2.out _ _ HBF.out) (fun hHeldZ => ?_)
      clear hK K hHeld20
      try simp only [ap]
      refine wpAnyH_done (by kernel_rfl) ?_ _
      refine NoPanic.normal ?_
      clear hHeldZ cx fx
      rotate_left
      obtain ⟨cx, -⟩ := HCX.out u0 HBu.out
      go_simp
      refine hK.out _ _ (HKS.out _ HBu.out) (fun hHeld21 => ?_)
      clear hK K hHeld13
      try simp only [ap]
      clear cx
      refine tk 10 rfl ?_
      try simp only [ap]
      refine wpAnyH_ready (rs := [0]) (by kernel_rfl) (by simp) ?_
      refine cons_drop rfl (fun K hK => ?_) AllReadyH.nil
      go_simp
      obtain ⟨c22, hc22⟩ : ∃ u, u = u0.alloc (.cells #[] 81) := ⟨_, rfl⟩
      rw [← hc22]
      have hbz : Below u0.heap.size u0 c22 := by rw [hc22]; exact (Below.refl _ _).alloc (Nat.le_refl _) _
      have HB22 : Hid (Below u0.heap.size u0 c22) := Lib.hid (HBu.out.trans (hbz.mono HBu.out.size))
      have own0_22 : Hid (c22.ownsRow u0.heap.size 81 2 (.slice (some ⟨u0.heap.size, 0, none⟩) 0 0) 0 []) := Lib.hid (by rw [hc22]; exact World.ownsRow_lit u0 #[] 0 HBu.out.size (Nat.zero_le _) (by simp))
      clear hbz
      replace hc22 := Lib.hid hc22
      refine hK.out _ _ (HKS.out _ HB22.out) (fun hHeld22 => ?_)
      clear hK K hHeld21
      try simp only [ap]
      refine wpAnyH_ready (rs := [5]) (by kernel_rfl) (by simp) ?_
      refine cons_drop rfl (fun K hK => ?_) AllReadyH.nil
      refine step_append_any c22 rfl _ _ 30 81 rfl i0 _ 2 16 Tryz.underlying30 HSZ.out hi0 hz0 hz1 hz2 rfl (by decide) u0.heap.size (.slice (some ⟨u0.heap.size, 0, none⟩) 0 0) (.slice (some ⟨mb, mo, none⟩) j cm) 0 j [] (xs.take (j * 2)) rfl rfl own0_22.out (HIN.out _ HB22.out) (by simp only [maxLen]; omega) (by omega) HB22.out.size ?_
      intro v1_23 c23 hown hgr
      have HB23 : Hid (Below u0.heap.size u0 c23) := Lib.hid (below_grown HB22.out hgr (fun r hr => (own0_22.out.lt r hr).1) HB22.out.size)
      rw [Nat.zero_add, List.nil_append] at hown
      have own1_23 := Lib.hid hown
      clear hown hgr
      refine hK.out _ _ (HKS.out _ HB23.out) (fun hHeld23 => ?_)
      clear hK K hHeld22
      try simp only [ap]
      refine wpAnyH_ready (rs := [11]) (by kernel_rfl) (by simp) ?_
      refine cons_drop rfl (fun K hK => ?_) AllReadyH.nil
      refine step_append_any c23 rfl _ _ 30 81 rfl i0 _ 2 16 Tryz.underlying30 HSZ.out hi0 hz0 hz1 hz2 rfl (by decide) u0.heap.size v1_23 (.slice (some ⟨mb, mo + (j + 1) * 2, none⟩) (N - (j + 1)) (cm - (j + 1))) j (N - (j + 1)) (xs.take (j * 2)) (xs.drop ((j + 1) * 2)) rfl rfl own1_23.out (HIN2.out _ HB23.out) (by simp only [maxLen]; omega) (by omega) HB23.out.size ?_
      intro vF cF hown hgr
      obtain ⟨Ar, cr, rfl, hbr⟩ := own_slice hown
      have HOF := Lib.hid hown; have HBRF := Lib.hid hbr
      have HBF : Hid (Below u0.heap.size u0 cF) := Lib.hid (below_grown HB23.out hgr (fun r hr => (own1_23.out.lt r hr).1) HB23.out.size)
      clear hown hgr hbr
      refine hK.out _ _ (HKS.out _ HBF.out) (fun hHeld24 => ?_)
      clear hK K hHeld23
      try simp only [ap]
      refine tk 12 rfl ?_
      try simp only [ap]
      obtain ⟨cx, fx⟩ := HCX.out cF HBF.out
      refine wpAnyH_ready (rs := [13]) (by kernel_rfl) (by simp) ?_
      refine cons_drop rfl (fun K hK => ?_) AllReadyH.nil
      go_simp
      refine hK.out _ _ (HKS2.out _ _ HBF.out) (fun hHeldZ => ?_)
      clear hK K hHeld24
      try simp only [ap]
      refine wpAnyH_done (by kernel_rfl) ?_ _
      refine NoPanic.normal ?_
      clear hHeldZ cx fx
      rotate_left
      obtain ⟨cx, -⟩ := HCX.out u0 HBu.out
      go_simp
      refine hK.out _ _ (HKS.out _ HBu.out) (fun hHeld25 => ?_)
      clear hK K hHeld
      try simp only [ap]
      clear cx
      refine tk 10 rfl ?_
      try simp only [ap]
      refine wpAnyH_ready (rs := [0, 2]) (by kernel_rfl) (by simp) ?_
      refine cons_drop rfl (fun K hK => ?_) (cons_drop rfl (fun K hK => ?_) AllReadyH.nil)
      go_simp
      obtain ⟨c26, hc26⟩ : ∃ u, u = u0.alloc (.cells #[] 81) := ⟨_, rfl⟩
      rw [← hc26]
      have hbz : Below u0.heap.size u0 c26 := by rw [hc26]; exact (Below.refl _ _).alloc (Nat.le_refl _) _
      have HB26 : Hid (Below u0.heap.size u0 c26) := Lib.hid (HBu.out.trans (hbz.mono HBu.out.size))
      have own0_26 : Hid (c26.ownsRow u0.heap.size 81 2 (.slice (some ⟨u0.heap.size, 0, none⟩) 0 0) 0 []) := Lib.hid (by rw [hc26]; exact World.ownsRow_lit u0 #[] 0 HBu.out.size (Nat.zero_le _) (by simp))
      clear hbz
      replace hc26 := Lib.hid hc26
      refine hK.out _ _ (HKS.out _ HB26.out) (fun hHeld26 => ?_)
      clear hK K hHeld25
      try simp only [ap]
      refine wpAnyH_ready (rs := [2]) (by kernel_rfl) (by simp) ?_
      refine cons_drop rfl (fun K hK => ?_) AllReadyH.nil
      obtain ⟨cx, -⟩ := HCX.out c26 HB26.out
      go_simp
      refine hK.out _ _ (HKS.out _ HB26.out) (fun hHeld27 => ?_)
      clear hK K hHeld26
      try simp only [ap]
      clear cx
      refine tk 4 rfl ?_
      try simp only [ap]
      refine wpAnyH_ready (rs := [5]) (by kernel_rfl) (by simp) ?_
      refine cons_drop rfl (fun K hK => ?_) AllReadyH.nil
      refine step_append_any c26 rfl _ _ 30 81 rfl i0 _ 2 16 Tryz.underlying30 HSZ.out hi0 hz0 hz1 hz2 rfl (by decide) u0.heap.size (.slice (some ⟨u0.heap.size, 0, none⟩) 0 0) (.slice (some ⟨mb, mo, none⟩) j cm) 0 j [] (xs.take (j * 2)) rfl rfl own0_26.out (HIN.out _ HB26.out) (by simp only [maxLen]; omega) (by omega) HB26.out.size ?_
      intro v1_28 c28 hown hgr
      have HB28 : Hid (Below u0.heap.size u0 c28) := Lib.hid (below_grown HB26.out hgr (fun r hr => (own0_26.out.lt r hr).1) HB26.out.size)
      rw [Nat.zero_add, List.nil_append] at hown
      have own1_28 := Lib.hid hown
      clear hown hgr
      refine hK.out _ _ (HKS.out _ HB28.out) (fun hHeld28 => ?_)
      clear hK K hHeld27
      try simp only [ap]
      refine wpAnyH_ready (rs := [11]) (by kernel_rfl) (by simp) ?_
      refine cons_drop rfl (fun K hK => ?_) AllReadyH.nil
      refine step_append_any c28 rfl _ _ 30 81 rfl i0 _ 2 16 Tryz.underlying30 HSZ.out hi0 hz0 hz1 hz2 rfl (by decide) u0.heap.size v1_28 (.slice (some ⟨mb, mo + (j + 1) * 2, none⟩) (N - (j + 1)) (cm - (j + 1))) j (N - (j + 1)) (xs.take (j * 2)) (xs.drop ((j + 1) * 2)) rfl rfl own1_28.out (HIN2.out _ HB28.out) (by simp only [maxLen]; omega) (by omega) HB28.out.size ?_
      intro vF cF hown hgr
      obtain ⟨Ar, cr, rfl, hbr⟩ := own_slice hown
      have HOF := Lib.hid hown; have HBRF := Lib.hid hbr
      have HBF : Hid (Below u0.heap.size u0 cF) := Lib.hid (below_grown HB28.out hgr (fun r hr => (own1_28.out.lt r hr).1) HB28.out.size)
      clear hown hgr hbr
      refine hK.out _ _ (HKS.out _ HBF.out) (fun hHeld29 => ?_)
      clear hK K hHeld28
      try simp only [ap]
      refine tk 12 rfl ?_
      try simp only [ap]
      obtain ⟨cx, fx⟩ := HCX.out cF HBF.out
      refine wpAnyH_ready (rs := [13]) (by kernel_rfl) (by simp) ?_
      refine cons_drop rfl (fun K hK => ?_) AllReadyH.nil
      go_simp
      refine hK.out _ _ (HKS2.out _ _ HBF.out) (fun hHeldZ => ?_)
      clear hK K hHeld29
      try simp only [ap]
      refine wpAnyH_done (by kernel_rfl) ?_ _
      refine NoPanic.normal ?_
      clear hHeldZ cx fx
      rotate_left
      obtain ⟨cx, -⟩ := HCX.out u0 HBu.out
      go_simp
      refine hK.out _ _ (HKS.out _ HBu.out) (fun hHeld30 => ?_)
      clear hK K hHeld25
      try simp only [ap]
      clear cx
      refine tk 4 rfl ?_
      try simp only [ap]
      refine wpAnyH_ready (rs := [0]) (by kernel_rfl) (by simp) ?_
      refine cons_drop rfl (fun K hK => ?_) AllReadyH.nil
      go_simp
      obtain ⟨c31, hc31⟩ : ∃ u, u = u0.alloc (.cells #[] 81) := ⟨_, rfl⟩
      rw [← hc31]
      have hbz : Below u0.heap.size u0 c31 := by rw [hc31]; exact (Below.refl _ _).alloc (Nat.le_refl _) _
      have HB31 : Hid (Below u0.heap.size u0 c31) := Lib.hid (HBu.out.trans (hbz.mono HBu.out.size))
      have own0_31 : Hid (c31.ownsRow u0.heap.size 81 2 (.slice (some ⟨u0.heap.size, 0, none⟩) 0 0) 0 []) := Lib.hid (by rw [hc31]; exact World.ownsRow_lit u0 #[] 0 HBu.out.size (Nat.zero_le _) (by simp))
      clear hbz
      replace hc31 := Lib.hid hc31
      refine hK.out _ _ (HKS.out _ HB31.out) (fun hHeld31 => ?_)
      clear hK K hHeld30
      try simp only [ap]
      refine wpAnyH_ready (rs := [5]) (by kernel_rfl) (by simp) ?_
      refine cons_drop rfl (fun K hK => ?_) AllReadyH.nil
      refine step_append_any c31 rfl _ _ 30 81 rfl i0 _ 2 16 Tryz.underlying30 HSZ.out hi0 hz0 hz1 hz2 rfl (by decide) u0.heap.size (.slice (some ⟨u0.heap.size, 0, none⟩) 0 0) (.slice (some ⟨mb, mo, none⟩) j cm) 0 j [] (xs.take (j * 2)) rfl rfl own0_31.out (HIN.out _ HB31.out) (by simp only [maxLen]; omega) (by omega) HB31.out.size ?_
      intro v1_32 c32 hown hgr
      have HB32 : Hid (Below u0.heap.size u0 c32) := Lib.hid (below_grown HB31.out hgr (fun r hr => (own0_31.out.lt r hr).1) HB31.out.size)
      rw [Nat.zero_add, List.nil_append] at hown
      have own1_32 := Lib.hid hown
      clear hown hgr
      refine hK.out _ _ (HKS.out _ HB32.out) (fun hHeld32 => ?_)
      clear hK K hHeld31
      try simp only [ap]
      refine wpAnyH_ready (rs := [11]) (by kernel_rfl) (by simp) ?_
      refine cons_drop rfl (fun K hK => ?_) AllReadyH.nil
      refine step_append_any c32 rfl _ _ 30 81 rfl i0 _ 2 16 Tryz.underlying30 HSZ.out hi0 hz0 hz1 hz2 rfl (by decide) u0.heap.size v1_32 (.slice (some ⟨mb, mo + (j + 1) * 2, none⟩) (N - (j + 1)) (cm - (j + 1))) j (N - (j + 1)) (xs.take (j * 2)) (xs.drop ((j + 1) * 2)) rfl rfl own1_32.out (HIN2.out _ HB32.out) (by simp only [maxLen]; omega) (by omega) HB32.out.size ?_
      intro vF cF hown hgr
      obtain ⟨Ar, cr, rfl, hbr⟩ := own_slice hown
      have HOF := Lib.hid hown; have HBRF := Lib.hid hbr
      have HBF : Hid (Below u0.heap.size u0 cF) := Lib.hid (below_grown HB32.out hgr (fun r hr => (own1_32.out.lt r hr).1) HB32.out.size)
      clear hown hgr hbr
      refine hK.out _ _ (HKS.out _ HBF.out) (fun hHeld33 => ?_)
      clear hK K hHeld32
      try simp only [ap]
      refine tk 12 rfl ?_
      try simp only [ap]
      obtain ⟨cx, fx⟩ := HCX.out cF HBF.out
      refine wpAnyH_ready (rs := [13]) (by kernel_rfl) (by simp) ?_
      refine cons_drop rfl (fun K hK => ?_) AllReadyH.nil
      go_simp
      refine hK.out _ _ (HKS2.out _ _ HBF.out) (fun hHeldZ => ?_)
      clear hK K hHeld33
      try simp only [ap]
      refine wpAnyH_done (by kernel_rfl) ?_ _
      refine NoPanic.normal ?_
      clear hHeldZ cx fx
      rotate_left
      all_goals
       obtain ⟨w6, hw6⟩ : ∃ w6, w6 = cF.setCell ⟨w.heap.size, 6, none⟩ (.slice Ar (j + (N - (j + 1))) cr) := ⟨_, rfl⟩
       have hbF1 : Below W1.heap.size W1 cF := HBu1.out _ HBF.out
       have hx6 : RX w6 w.heap.size f (.slice Bu nu cu) s.closed s.next (.slice Ak nk ck) (.slice Aq nt ct) (.slice Ar (j + (N - (j + 1))) cr) := by rw [hw6]; exact (HX.out cF hbF1).1.set6
       have hq6 : RX w6 (w.heap.size + 1 + 1) ⟨#[]⟩ (.slice none 0 0) 0 0 (.slice none 0 0) (.slice none 0 0) (.slice none 0 0) := by rw [hw6]; exact (HX.out cF hbF1).2.2.1.far (by omega)
       have HB6 : Hid (Below w.heap.size w w6) := Lib.hid (by rw [hw6]; exact (HBW.out cF hbF1).setCell (p := ⟨w.heap.size, 6, none⟩) (Nat.le_refl _) _)
       have HW6 := Lib.hid hw6
       obtain ⟨x0, x1, x2, x3, x4, x5, x6, xf⟩ := hx6.cells
       obtain ⟨q0, q1, q2, q3, q4, q5, q6, qf⟩ := hq6.cells
       rw [show ((0 : Nat) : Int) = 0 from rfl] at q3
       have qf0 := qf 0; have qf1 := qf 1; have qf2 := qf 2; have qf3 := qf 3; have qf4 := qf 4; have qf5 := qf 5; have qf6 := qf 6
       clear qf xf hx6 hq6 hbF1
       rw [← hw6]
       clear hw6
       go_wp2_with fail
       refine bodyPost_ret (v := .tuple #[.agg #[.string f, .slice Bu nu cu, .int .i64 s.closed, .int .u64 (s.next : Nat), .slice Ak nk ck, .slice Aq nt ct, .slice Ar (j + (N - (j + 1))) cr], .bool true]) (by simp [results, Tryz.results32, go_sem, q0, q1, q2, q3, q4, q5, q6]) rfl ?_
       obtain ⟨W7, hW7⟩ : ∃ W7, W7 = ((((((w6.setCell ⟨w.heap.size + 1 + 1, 0, none⟩ (.string f)).setCell ⟨w.heap.size + 1 + 1, 1, none⟩ (.slice Bu nu cu)).setCell ⟨w.heap.size + 1 + 1, 2, none⟩ (.int .i64 s.closed)).setCell ⟨w.heap.size + 1 + 1, 3, none⟩ (.int .u64 (s.next : Nat))).setCell ⟨w.heap.size + 1 + 1, 4, none⟩ (.slice Ak nk ck)).setCell ⟨w.heap.size + 1 + 1, 5, none⟩ (.slice Aq nt ct)).setCell ⟨w.heap.size + 1 + 1, 6, none⟩ (.slice Ar (j + (N - (j + 1))) cr) := ⟨_, rfl⟩
       rw [← hW7]
       exact HOUT.out cF w6 W7 Ar cr (j + (N - (j + 1))) (by omega) HOF.out HBRF.out HBF.out HW6.out HB6.out hW7
    ·have k1 : ((tid : Int) == (id : Int)) = true := by simp; omega
     have k2 : decide ((tat : Int) ≤ (at' : Int)) = false := decide_eq_false (by omega)
     have h2n : at' < tat := by omega
     have HROUND : Hid (∀ q (hq : q < s.timers.length), q < j + 1 → ¬ ((s.timers[q]).1 = id ∧ (s.timers[q]).2 ≤ at')) := Lib.hid fun q hq hlq => by
      by_cases e : q = j
      ·subst e; rw [← HTT.out]; exact fun h => h2 h.2
      ·exact HNO.out q hq (by omega)
     have H1 := Lib.hid h1
     clear h1
     go_upto_region 27 with fail
     go_quiet (fail)
     generalize hw2 : wr.drewN nq = w2 at *
     have HQ2 : Hid (Below W1.heap.size W1 w2) := Lib.hid (by rw [← hw2]; exact below_drewN HB.out nq)
     clear hw2
     go_wp2_with fail
     go_roundw
     case rel => exact ⟨j + 1, by omega, by go_num, HROUND.out, HQ2.out⟩
     case measure => simp [intOf]; omega
   ·have k1 : ((tid : Int) == (id : Int)) = false := by simp; omega
    have HROUND : Hid (∀ q (hq : q < s.timers.length), q < j + 1 → ¬ ((s.timers[q]).1 = id ∧ (s.timers[q]).2 ≤ at')) := Lib.hid fun q hq hlq => by
     by_cases e : q = j
     ·subst e; rw [← HTT.out]; exact fun h => h1 h.1
     ·exact HNO.out q hq (by omega)
    go_upto_region 27 with fail
    go_quiet (fail)
    generalize hw2 : wr.drewN nq = w2 at *
    have HQ2 : Hid (Below W1.heap.size W1 w2) := Lib.hid (by rw [← hw2]; exact below_drewN HB.out nq)
    clear hw2
    go_wp2_with fail
    go_roundw
    case rel => exact ⟨j + 1, by omega, by go_num, HROUND.out, HQ2.out⟩
    case measure => simp [intOf]; omega
  ·have hj' : j = N := by omega
   have HN : Hid (applyM at' al ⟨5, id, en, ea, name, text, ev⟩ s = none) := Lib.hid (by
    have hnn := HNN.out
    cases hg : mget s.timers id with
    | none => simp [applyM, hg]
    | some x =>
     have h1 := List.mem_of_find?_eq_some hg
     have h2 := List.find?_some hg
     obtain ⟨q, hq, rfl⟩ := List.getElem_of_mem h1
     have h3 := HNO.out q hq (by omega)
     have h4 : ¬ (s.timers[q]).2 ≤ at' := fun h => h3 ⟨by simpa using h2, h⟩
     simp [applyM, hg, h4])
   subst hj'
   clear x0 x1 x2 x3 x4 x5 x6 y0 y1 y2 e0 e1 e2 e3 e4 e5 e6 e7 e8 e9 e10
   obtain ⟨x0, x1, x2, x3, x4, x5, x6, xf⟩ := (HX.out wr HB.out).1.cells
   obtain ⟨y0, y1, y2, -⟩ := (HX.out wr HB.out).2.1.cells
   obtain ⟨e0, e1, e2, e3, e4, e5, e6, e7, e8, e9, e10⟩ := EBox.cells (HX.out wr HB.out).2.2.2
   dsimp only at e0 e1 e2 e3 e4 e5
   obtain ⟨q0, q1, q2, q3, q4, q5, q6, qf⟩ := (HX.out wr HB.out).2.2.1.cells
   rw [show ((0 : Nat) : Int) = 0 from rfl] at q3
   have qf0 := qf 0; have qf1 := qf 1; have qf2 := qf 2; have qf3 := qf 3; have qf4 := qf 4; have qf5 := qf 5; have qf6 := qf 6
   clear qf
   go_wp2_with fail
   refine bodyPost_ret (v := .tuple #[.agg #[.string f, .slice Bu nu cu, .int .i64 s.closed, .int .u64 (s.next : Nat), .slice Ak nk ck, .slice Aq nt ct, .slice Am j cm], .bool false]) (by simp [results, Tryz.results32, go_sem, q0, q1, q2, q3, q4, q5, q6]) rfl ?_
   exact ⟨below7 (HBW.out wr HB.out) (Nat.le_succ_of_le (Nat.le_succ _)) _ _ _ _ _ _ _, s.closed, s.next, .slice Ak nk ck, .slice Aq nt ct, .slice Am j cm, ⟨_, _, _, rfl⟩, ⟨_, _, _, rfl⟩, ⟨_, _, _, rfl⟩, by rw [HN.out]; rfl, fun s' hs => by rw [HN.out] at hs; cases hs⟩
end Hi
end Go.Proofs.YtkajcldmolcllaaGreat
