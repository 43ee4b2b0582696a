/- The reference's outside: an activity broken. -/
import Derived.Laws.Rows
import Derived.Laws.IdiomRangeMap
import Derived.Test.YtaahfiopdoinkaaGreatTnap
set_option linter.unusedVariables false
set_option linter.unusedSimpArgs false
open Go.RowKit
namespace Go.Proofs.YtaahfiopdoinkaaGreat
namespace Hi
open _root_.Go.Proofs.YtaahfiopdoinkaaGreat.Nm (ret_int ret_bool)
open Vt (VT Rep below_drew Cloned put5)
open Ev (EV FieldsOk evCells vCells EBox take_drop tk ap rd1 rd2 cons_drop)
open Cm (rowOf EvsIn)
open Cn (BT BB BtsIn box_ev)
variable {X X' Y Y' : Nat → Prop} {u v w w' V V' : World} {hb bt bm bk n cap : Nat} {A : Option Addr} {h : HM}
set_option maxRecDepth 100000 in
set_option maxHeartbeats 2000000 in
theorem out4_any (s : ST) (f : ByteArray) (Bu : Option Addr) (nu cu : Nat) (uk ut um : Value) (b : BT) (A : Option Addr) (cap : Nat) (w : World) (h : OIn X w s uk ut um b A cap) (hp : 0 < b.es.length) (he : EvOk (b.es[0]'hp)) (hk : b.es[0].k = 4) :
  Calls Tryz.prog 81 #[.agg (rhC f (.slice Bu nu cu) s.closed s.next uk ut um), .agg #[.string b.flow, .int .u64 (b.at' : Nat), .slice A b.es.length cap]] w (ROut X w f (.slice Bu nu cu) (applyM b.at' (decide (b.es.length = 1)) (b.es[0]'hp) s)) := by
 obtain ⟨Ak, nk, ck, rfl⟩ : ∃ A n c, uk = .slice A n c := by obtain ⟨xs, ⟨-, -, A, c, e, -⟩, -⟩ := h.rs.keys; exact ⟨_, _, _, e⟩
 obtain ⟨Aq, nt, ct, rfl⟩ : ∃ A n c, ut = .slice A n c := by obtain ⟨xs, ⟨-, -, A, c, e, -⟩, -⟩ := h.rs.tasks; exact ⟨_, _, _, e⟩
 obtain ⟨Am, nm, cm, rfl⟩ : ∃ A n c, um = .slice A n c := by obtain ⟨xs, ⟨-, -, A, c, e, -⟩, -⟩ := h.rs.timers; exact ⟨_, _, _, e⟩
 obtain ⟨eb, eo, lo0, hi0, vk, vn, vf, vs, A0, m0, c0, rfl, heb, hff, hrep, hhi, z0, z1, z2, z3, z4, z5, z6, z7, z8, z9, z10⟩ := h.evs.get 0 hp
 have hrepV := hrep
 replace hrep := Rep.leads hrep (leads_veil X w)
 rw [veil_size] at heb hhi
 replace z0 := (leads_veil X w).cell z0
 replace z1 := (leads_veil X w).cell z1
 replace z2 := (leads_veil X w).cell z2
 replace z3 := (leads_veil X w).cell z3
 replace z4 := (leads_veil X w).cell z4
 replace z5 := (leads_veil X w).cell z5
 replace z6 := (leads_veil X w).cell z6
 replace z7 := (leads_veil X w).cell z7
 replace z8 := (leads_veil X w).cell z8
 replace z9 := (leads_veil X w).cell z9
 replace z10 := (leads_veil X w).cell z10
 have hle := h.evs.le
 have hcm := h.evs.cap_le
 simp only [maxLen] at hcm
 rw [show eo + 0 * 11 = eo by omega] at z0 z1 z2 z3 z4 z5 z6 z7 z8 z9 z10
 obtain ⟨m, hm⟩ : ∃ m, m = b.es.length := ⟨_, rfl⟩
 obtain ⟨ff, hf0⟩ : ∃ ff, ff = b.flow := ⟨_, rfl⟩
 obtain ⟨at', hat⟩ : ∃ at', at' = b.at' := ⟨_, rfl⟩
 obtain ⟨e, hee⟩ : ∃ e, e = b.es[0]'hp := ⟨_, rfl⟩
 have hbat := h.at'
 rw [← hat] at hbat
 rw [← hee] at hff hrep hrepV z0 z1 z2 z3 z4 z5 he hk ⊢
 have HRV := Lib.hid h.rs; have HRS := Lib.hid (h.rs.leads (leads_veil X w)); have HXB := Lib.hid h.xb; have HFI := Lib.hid h.fine; have hn1 := h.n1; have hn2 := h.n2; have hn3 := h.n3; have hn4 := h.n4
 rw [← hm] at hle ⊢
 rw [← hf0, ← hat]
 have hmp : 0 < m := by omega
 clear h hee hat hf0 hm hp
 obtain ⟨k, id, en, ea, name, text, ev⟩ := e
 have hid := he.f.i1
 dsimp only at hid hk hrep hrepV hff z0 z1 z2 z3 z4 z5 z6 z7 z8 z9 z10
 obtain rfl : k = 4 := hk
 have HE := Lib.hid he
 obtain ⟨W0, hW0⟩ : ∃ W0, W0 = ((w.alloc (.cells (rhC f (.slice Bu nu cu) s.closed s.next (.slice Ak nk ck) (.slice Aq nt ct) (.slice Am nm cm)) 84)).alloc (.cells #[.string ff, .int .u64 (at' : Nat), .slice (some ⟨eb, eo, none⟩) m cap] 64)).alloc (.cells (rhC ⟨#[]⟩ (.slice none 0 0) 0 0 (.slice none 0 0) (.slice none 0 0) (.slice none 0 0)) 84) := ⟨_, rfl⟩
 obtain ⟨W1, hW1⟩ : ∃ W1, W1 = W0.alloc (.cells (evCells ⟨4, id, en, ea, name, text, ev⟩ vk vn vf vs A0 m0 c0) 61) := ⟨_, rfl⟩
 have hs0 : W0.heap.size = w.heap.size + 3 := by rw [hW0]; simp
 have hs1 : W1.heap.size = w.heap.size + 4 := by rw [hW1]; simp [hs0]
 have hb0 : Below w.heap.size w W0 := by rw [hW0]; exact (((Below.refl _ _).alloc (Nat.le_refl _) _).alloc (by simp) _).alloc (by simp; omega) _
 have hb1 : Below w.heap.size w W1 := by rw [hW1]; exact hb0.alloc (by omega) _
 have hx0 : W0.heap[w.heap.size]? = some (.cells (rhC f (.slice Bu nu cu) s.closed s.next (.slice Ak nk ck) (.slice Aq nt ct) (.slice Am nm cm)) 84 (0, 0)) := by rw [hW0]; exact (heap_alloc_old _ _ (by simp; omega)).trans ((heap_alloc_old _ _ (by simp)).trans (heap_alloc_new w _))
 have hx1 : W0.heap[w.heap.size + 1]? = some (.cells #[.string ff, .int .u64 (at' : Nat), .slice (some ⟨eb, eo, none⟩) m cap] 64 (0, 0)) := by
  rw [hW0, heap_alloc_old _ _ (by simp)]
  have e := heap_alloc_new (w.alloc (.cells (rhC f (.slice Bu nu cu) s.closed s.next (.slice Ak nk ck) (.slice Aq nt ct) (.slice Am nm cm)) 84)) (.cells #[.string ff, .int .u64 (at' : Nat), .slice (some ⟨eb, eo, none⟩) m cap] 64)
  rw [World.size_alloc] at e
  exact e
 have hx2 : W0.heap[w.heap.size + 2]? = some (.cells (rhC ⟨#[]⟩ (.slice none 0 0) 0 0 (.slice none 0 0) (.slice none 0 0) (.slice none 0 0)) 84 (0, 0)) := by
  rw [hW0]
  have e := heap_alloc_new ((w.alloc (.cells (rhC f (.slice Bu nu cu) s.closed s.next (.slice Ak nk ck) (.slice Aq nt ct) (.slice Am nm cm)) 84)).alloc (.cells #[.string ff, .int .u64 (at' : Nat), .slice (some ⟨eb, eo, none⟩) m cap] 64)) (.cells (rhC ⟨#[]⟩ (.slice none 0 0) 0 0 (.slice none 0 0) (.slice none 0 0) (.slice none 0 0)) 84)
  simp only [World.size_alloc] at e
  exact e
 have HX : Hid (∀ W, Below W1.heap.size W1 W → RX W w.heap.size f (.slice Bu nu cu) s.closed s.next (.slice Ak nk ck) (.slice Aq nt ct) (.slice Am nm cm) ∧ BB W (w.heap.size + 1) ff at' (some ⟨eb, eo, none⟩) m cap ∧ RX W (w.heap.size + 1 + 1) ⟨#[]⟩ (.slice none 0 0) 0 0 (.slice none 0 0) (.slice none 0 0) (.slice none 0 0) ∧ EBox W (w.heap.size + 3) (evCells ⟨4, id, en, ea, name, text, ev⟩ vk vn vf vs A0 m0 c0)) := Lib.hid fun W hW => by
  have o : ∀ c, c < w.heap.size + 3 → W.heap[c]? = W0.heap[c]? := fun c hc => (hW.block c (by omega)).trans (by rw [hW1]; exact heap_alloc_old _ _ (by omega))
  refine ⟨(o _ (by omega)).trans hx0, (o _ (by omega)).trans hx1, (o _ (by omega)).trans hx2, (hW.block _ (by omega)).trans ?_⟩
  rw [hW1, ← hs0]; exact heap_alloc_new ..
 have HBW : Hid (∀ W, Below W1.heap.size W1 W → Below w.heap.size w W) := Lib.hid fun W hW => hb1.trans (hW.mono hb1.size)
 have HTK := Lib.hid (rtask_any s.tasks id hid f (.slice Bu nu cu) (.slice Ak nk ck) (.slice Aq nt ct) (.slice Am nm cm) s.closed s.next W1 ((HRS.out.later hb1).tasks))
 have HS1 := Lib.hid hs1; have HB1 := Lib.hid hb1
 obtain ⟨y0, y1, y2, -⟩ := BB.cells (show BB W0 (w.heap.size + 1) ff at' (some ⟨eb, eo, none⟩) m cap from hx1)
 obtain ⟨x0, x1, x2, x3, x4, x5, x6, -⟩ := (HX.out W1 (Below.refl _ _)).1.cells
 have e0 := (hb0.cell (p := ⟨eb, eo, none⟩) heb).trans z0
 have e1 := (hb0.cell (p := ⟨eb, eo + 1, none⟩) heb).trans z1
 have e2 := (hb0.cell (p := ⟨eb, eo + 2, none⟩) heb).trans z2
 have e3 := (hb0.cell (p := ⟨eb, eo + 3, none⟩) heb).trans z3
 have e4 := (hb0.cell (p := ⟨eb, eo + 4, none⟩) heb).trans z4
 have e5 := (hb0.cell (p := ⟨eb, eo + 5, none⟩) heb).trans z5
 have e6 := (hb0.cell (p := ⟨eb, eo + 6, none⟩) heb).trans z6
 have e7 := (hb0.cell (p := ⟨eb, eo + 7, none⟩) heb).trans z7
 have e8 := (hb0.cell (p := ⟨eb, eo + 8, none⟩) heb).trans z8
 have e9 := (hb0.cell (p := ⟨eb, eo + 9, none⟩) heb).trans z9
 have e10 := (hb0.cell (p := ⟨eb, eo + 10, none⟩) heb).trans z10
 have HREP := Lib.hid hrep; have HREPV := Lib.hid hrepV; have HHI := Lib.hid hhi
 unfold rhC at hW0 HTK ⊢
 unfold evCells at hW1
 dsimp only at hW1
 rw [show ((0 : Nat) : Int) = 0 from rfl] at hW0
 have hWs := Lib.hid hs0
 clear hs0 hs1 hb0 hb1 hx0 hx1 hx2 z0 z1 z2 z3 z4 z5 z6 z7 z8 z9 z10 hrep hrepV hhi hff he heb
 replace hW0 := Lib.hid hW0
 replace hW1 := Lib.hid hW1
 obtain ⟨al, hal⟩ : ∃ al, al = decide (m = 1) := ⟨_, rfl⟩
 have hm1 : ((m : Int) == 1) = al := by
  rw [hal]
  by_cases q : m = 1
  ·subst q; rfl
  ·rw [decide_eq_false q, beq_eq_false_iff_ne]; omega
 rw [← hal]
 have HAL := Lib.hid hal
 clear hal
 go_enter Tryz.func81, Tryz.ntmps81
 go_upto_region 1 with fail
 rw [← hW0.out]
 go_upto_region 2 with fail
 rw [← hW1.out]
 rw [show W0.heap.size = w.heap.size + 3 from hWs.out]
 clear y0 y1 y2 e0 e1 e2 e3 e4 e5 e6 e7 e8 e9 e10
 obtain ⟨-, y, -, ez⟩ := HX.out W1 (Below.refl _ _)
 obtain ⟨e0, e1, e2, e3, e4, e5, e6, e7, e8, e9, e10⟩ := EBox.cells ez
 dsimp only at e0 e1 e2 e3 e4 e5
 clear ez y
 go_wp2_with (go_at_call 113; refine HTK.out.mono ?_; rintro x w1 ⟨⟨ti, rfl, hti⟩, hq1⟩; have HTI := Lib.hid (idx_get HFI.out.tasks hti); have HQ1 := Lib.hid hq1; clear hti hq1 x0 x1 x2 x3 x4 x5 x6 e0 e1 e2 e3 e4 e5 e6 e7 e8 e9 e10; obtain ⟨x0, x1, x2, x3, x4, x5, x6, -⟩ := (HX.out w1 HQ1.out).1.cells; obtain ⟨y0, y1, y2, -⟩ := (HX.out w1 HQ1.out).2.1.cells; obtain ⟨e0, e1, e2, e3, e4, e5, e6, e7, e8, e9, e10⟩ := EBox.cells (HX.out w1 HQ1.out).2.2.2; dsimp only at e0 e1 e2 e3 e4 e5)
 rcases HTI.out with ⟨hm1', hg⟩ | ⟨i, hi, hi', hid', hg⟩
 ·subst hm1'
  have HN : Hid (applyM at' al ⟨4, id, en, ea, name, text, ev⟩ s = none) := Lib.hid (by simp [applyM, hg])
  clear hg HTI
  go_quiet (fail)
  generalize hw2 : w1.drewN nq = w2 at *
  have HQ2 : Hid (Below W1.heap.size W1 w2) := Lib.hid (by rw [← hw2]; exact below_drewN HQ1.out nq)
  clear hw2
  clear x0 x1 x2 x3 x4 x5 x6 y0 y1 y2 e0 e1 e2 e3 e4 e5 e6 e7 e8 e9 e10
  obtain ⟨x0, x1, x2, x3, x4, x5, x6, xf⟩ := (HX.out w2 HQ2.out).1.cells
  obtain ⟨y0, y1, y2, -⟩ := (HX.out w2 HQ2.out).2.1.cells
  obtain ⟨e0, e1, e2, e3, e4, e5, e6, e7, e8, e9, e10⟩ := EBox.cells (HX.out w2 HQ2.out).2.2.2
  dsimp only at e0 e1 e2 e3 e4 e5
  obtain ⟨q0, q1, q2, q3, q4, q5, q6, qf⟩ := (HX.out w2 HQ2.out).2.2.1.cells
  rw [show ((0 : Nat) : Int) = 0 from rfl] at q3
  have qf0 := qf 0; have qf1 := qf 1; have qf2 := qf 2; have qf3 := qf 3; have qf4 := qf 4; have qf5 := qf 5; have qf6 := qf 6
  clear qf
  go_wp2_with fail
  refine bodyPost_ret (v := .tuple #[.agg #[.string f, .slice Bu nu cu, .int .i64 s.closed, .int .u64 (s.next : Nat), .slice Ak nk ck, .slice Aq nt ct, .slice Am nm cm], .bool false]) (by simp [results, Tryz.results81, go_sem, q0, q1, q2, q3, q4, q5, q6]) rfl ?_
  exact ⟨below7 (HBW.out w2 HQ2.out) (by omega) _ _ _ _ _ _ _, s.closed, s.next, .slice Ak nk ck, .slice Aq nt ct, .slice Am nm cm, ⟨_, _, _, rfl⟩, ⟨_, _, _, rfl⟩, ⟨_, _, _, rfl⟩, by rw [HN.out]; rfl, fun s' hs => by rw [HN.out] at hs; cases hs⟩
 ·obtain ⟨xs, hcinV, htk⟩ := HRV.out.tasks
  have hcin := hcinV.leads (leads_veil X w)
  clear hcinV
  have HCI := Lib.hid hcin; have HTKC := Lib.hid htk
  obtain ⟨hlen, -, A9, cap9, heq9, hle9, hcp9, hrd9⟩ := hcin
  obtain ⟨rfl, rfl, rfl⟩ : Aq = A9 ∧ nt = s.tasks.length ∧ ct = cap9 := by injection heq9 with a1 a2 a3; exact ⟨a1, a2, a3⟩
  obtain ⟨tb, tf0, rfl, htb, h39⟩ := hrd9 (by omega)
  simp only [maxLen] at hcp9
  obtain ⟨lo2, hi2, tk, tn', tf, ts, tA, tm, tc, hto, htr, hth, hq⟩ := htk.2 i hi
  rw [veil_size] at hth
  obtain ⟨t, htt⟩ : ∃ t, t = s.tasks[i] := ⟨_, rfl⟩
  rw [← htt] at hid' hg hto htr hq
  have HIDQ := Lib.hid hid'
  have HTT := Lib.hid htt
  clear htt
  obtain ⟨tid, tname, tv, tn, tfl, tat⟩ := t
  dsimp only at hid' hto htr hq HIDQ
  have HTKO := Lib.hid hto
  obtain ⟨-, tn0, tn1, ta1, -⟩ := hto
  dsimp only at tn0 tn1 ta1
  have HTC : Hid (∀ W, Below W1.heap.size W1 W → W.cell? ⟨tb, tf0 + i * 10, none⟩ = some (.int .u64 (tid : Nat)) ∧ W.cell? ⟨tb, tf0 + i * 10 + 1, none⟩ = some (.string tname) ∧ W.cell? ⟨tb, tf0 + i * 10 + 2, none⟩ = some (.int .i64 tk) ∧ W.cell? ⟨tb, tf0 + i * 10 + 3, none⟩ = some (.int .i64 tn') ∧ W.cell? ⟨tb, tf0 + i * 10 + 4, none⟩ = some (.float .f64 tf) ∧ W.cell? ⟨tb, tf0 + i * 10 + 5, none⟩ = some (.string ts) ∧ W.cell? ⟨tb, tf0 + i * 10 + 6, none⟩ = some (.slice tA tm tc) ∧ W.cell? ⟨tb, tf0 + i * 10 + 7, none⟩ = some (.int .i64 tn) ∧ W.cell? ⟨tb, tf0 + i * 10 + 8, none⟩ = some (.bool tfl) ∧ W.cell? ⟨tb, tf0 + i * 10 + 9, none⟩ = some (.int .u64 (tat : Nat))) := Lib.hid fun W hW => by
   have g : ∀ q x, q < 10 → (tCells ⟨tid, tname, tv, tn, tfl, tat⟩ tk tn' tf ts tA tm tc)[q]? = some x → W.cell? ⟨tb, tf0 + i * 10 + q, none⟩ = some x := fun q x hq10 hx => by
    have := h39 (i * 10 + q) x (by rw [hq q hq10]; exact hx)
    rw [Nat.add_assoc]
    exact ((HBW.out W hW).cell (p := ⟨tb, tf0 + (i * 10 + q), none⟩) htb).trans this
   exact ⟨g 0 _ (by omega) rfl, g 1 _ (by omega) rfl, g 2 _ (by omega) rfl, g 3 _ (by omega) rfl, g 4 _ (by omega) rfl, g 5 _ (by omega) rfl, g 6 _ (by omega) rfl, g 7 _ (by omega) rfl, g 8 _ (by omega) rfl, g 9 _ (by omega) rfl⟩
  have HTR := Lib.hid htr; have HTH := Lib.hid hth; have HG := Lib.hid hg; have HLEN := Lib.hid hlen
  clear hq h39 hrd9 htr hth hg hlen hid' heq9 htk htb HTI
  obtain ⟨t0, t1, t2, t3, t4, t5, t6, t7, t8, t9⟩ := HTC.out w1 HQ1.out
  have hen0 := HE.out.n0; have hen1 := HE.out.n1
  dsimp only at hen0 hen1
  subst hi'
  have ki0 : decide ((i : Int) < 0) = false := decide_eq_false (by omega)
  obtain ⟨L, hL⟩ : ∃ L, L = s.tasks.length := ⟨_, rfl⟩
  rw [← hL] at hi hn1 hle9 x5 HX
  have HLL := Lib.hid hL
  clear hL
  cases tfl with
  | false =>
   have HN : Hid (applyM at' al ⟨4, id, en, ea, name, text, ev⟩ s = none) := Lib.hid (by simp [applyM, HG.out, ])
   go_quiet (fail)
   generalize hw2 : w1.drewN nq = w2 at *
   have HQ2 : Hid (Below W1.heap.size W1 w2) := Lib.hid (by rw [← hw2]; exact below_drewN HQ1.out nq)
   clear hw2
   clear x0 x1 x2 x3 x4 x5 x6 y0 y1 y2 e0 e1 e2 e3 e4 e5 e6 e7 e8 e9 e10
   obtain ⟨x0, x1, x2, x3, x4, x5, x6, xf⟩ := (HX.out w2 HQ2.out).1.cells
   obtain ⟨y0, y1, y2, -⟩ := (HX.out w2 HQ2.out).2.1.cells
   obtain ⟨e0, e1, e2, e3, e4, e5, e6, e7, e8, e9, e10⟩ := EBox.cells (HX.out w2 HQ2.out).2.2.2
   dsimp only at e0 e1 e2 e3 e4 e5
   obtain ⟨q0, q1, q2, q3, q4, q5, q6, qf⟩ := (HX.out w2 HQ2.out).2.2.1.cells
   rw [show ((0 : Nat) : Int) = 0 from rfl] at q3
   have qf0 := qf 0; have qf1 := qf 1; have qf2 := qf 2; have qf3 := qf 3; have qf4 := qf 4; have qf5 := qf 5; have qf6 := qf 6
   clear qf
   go_wp2_with fail
   refine bodyPost_ret (v := .tuple #[.agg #[.string f, .slice Bu nu cu, .int .i64 s.closed, .int .u64 (s.next : Nat), .slice Ak nk ck, .slice (some ⟨tb, tf0, none⟩) L ct, .slice Am nm cm], .bool false]) (by simp [results, Tryz.results81, go_sem, q0, q1, q2, q3, q4, q5, q6]) rfl ?_
   exact ⟨below7 (HBW.out w2 HQ2.out) (by omega) _ _ _ _ _ _ _, s.closed, s.next, .slice Ak nk ck, .slice (some ⟨tb, tf0, none⟩) L ct, .slice Am nm cm, ⟨_, _, _, rfl⟩, ⟨_, _, _, rfl⟩, ⟨_, _, _, rfl⟩, by rw [HN.out]; rfl, fun s' hs => by rw [HN.out] at hs; cases hs⟩
  | true =>
   by_cases h2 : tn = en
   rotate_left
   ·have HN : Hid (applyM at' al ⟨4, id, en, ea, name, text, ev⟩ s = none) := Lib.hid (by simp [applyM, HG.out, h2])
    have k2 : (tn == en) = false := by simpa using h2
    have k2' : (tn != en) = true := by simpa using h2
    go_quiet (fail)
    generalize hw2 : w1.drewN nq = w2 at *
    have HQ2 : Hid (Below W1.heap.size W1 w2) := Lib.hid (by rw [← hw2]; exact below_drewN HQ1.out nq)
    clear hw2
    clear x0 x1 x2 x3 x4 x5 x6 y0 y1 y2 e0 e1 e2 e3 e4 e5 e6 e7 e8 e9 e10
    obtain ⟨x0, x1, x2, x3, x4, x5, x6, xf⟩ := (HX.out w2 HQ2.out).1.cells
    obtain ⟨y0, y1, y2, -⟩ := (HX.out w2 HQ2.out).2.1.cells
    obtain ⟨e0, e1, e2, e3, e4, e5, e6, e7, e8, e9, e10⟩ := EBox.cells (HX.out w2 HQ2.out).2.2.2
    dsimp only at e0 e1 e2 e3 e4 e5
    obtain ⟨q0, q1, q2, q3, q4, q5, q6, qf⟩ := (HX.out w2 HQ2.out).2.2.1.cells
    rw [show ((0 : Nat) : Int) = 0 from rfl] at q3
    have qf0 := qf 0; have qf1 := qf 1; have qf2 := qf 2; have qf3 := qf 3; have qf4 := qf 4; have qf5 := qf 5; have qf6 := qf 6
    clear qf
    go_wp2_with fail
    refine bodyPost_ret (v := .tuple #[.agg #[.string f, .slice Bu nu cu, .int .i64 s.closed, .int .u64 (s.next : Nat), .slice Ak nk ck, .slice (some ⟨tb, tf0, none⟩) L ct, .slice Am nm cm], .bool false]) (by simp [results, Tryz.results81, go_sem, q0, q1, q2, q3, q4, q5, q6]) rfl ?_
    exact ⟨below7 (HBW.out w2 HQ2.out) (Nat.le_succ_of_le (Nat.le_succ _)) _ _ _ _ _ _ _, s.closed, s.next, .slice Ak nk ck, .slice (some ⟨tb, tf0, none⟩) L ct, .slice Am nm cm, ⟨_, _, _, rfl⟩, ⟨_, _, _, rfl⟩, ⟨_, _, _, rfl⟩, by rw [HN.out]; rfl, fun s' hs => by rw [HN.out] at hs; cases hs⟩
   subst h2
   go_quiet (fail)
   generalize hw2 : w1.drewN nq = w2 at *
   have HQ2 : Hid (Below W1.heap.size W1 w2) := Lib.hid (by rw [← hw2]; exact below_drewN HQ1.out nq)
   clear hw2
   clear x0 x1 x2 x3 x4 x5 x6 y0 y1 y2 e0 e1 e2 e3 e4 e5 e6 e7 e8 e9 e10
   clear t0 t1 t2 t3 t4 t5 t6 t7 t8 t9
   obtain ⟨x0, x1, x2, x3, x4, x5, x6, xf⟩ := (HX.out w2 HQ2.out).1.cells
   obtain ⟨y0, y1, y2, -⟩ := (HX.out w2 HQ2.out).2.1.cells
   obtain ⟨e0, e1, e2, e3, e4, e5, e6, e7, e8, e9, e10⟩ := EBox.cells (HX.out w2 HQ2.out).2.2.2
   dsimp only at e0 e1 e2 e3 e4 e5
   obtain ⟨t0, t1, t2, t3, t4, t5, t6, t7, t8, t9⟩ := HTC.out w2 HQ2.out
   obtain ⟨W3, hW3⟩ : ∃ W3, W3 = w2.alloc (.cells #[.int .u64 (tid : Nat), .string tname, .int .i64 tk, .int .i64 tn', .float .f64 tf, .string ts, .slice tA tm tc, .int .i64 tn, .bool true, .int .u64 (tat : Nat)] 39) := ⟨_, rfl⟩
   have hb3 : Below W1.heap.size W1 W3 := by rw [hW3]; exact HQ2.out.alloc HQ2.out.size _
   have hx3 : W3.heap[w2.heap.size]? = some (.cells #[.int .u64 (tid : Nat), .string tname, .int .i64 tk, .int .i64 tn', .float .f64 tf, .string ts, .slice tA tm tc, .int .i64 tn, .bool true, .int .u64 (tat : Nat)] 39 (0, 0)) := by rw [hW3]; exact heap_alloc_new ..
   have hz3 : W3.heap.size = w2.heap.size + 1 := by rw [hW3]; simp
   have hz2 := HQ2.out.size
   have hS1 := HS1.out
   obtain ⟨c0, c1, c2, c3, c4, c5, c6, c7, c8, c9, cf⟩ := t_cells hx3
   have HB3 := Lib.hid hb3; have HX3 := Lib.hid hx3; have HZ3 := Lib.hid hz3; have HZ2 := Lib.hid hz2
   have cf7 := cf 7; have cf8 := cf 8; have cf9 := cf 9
   clear hb3 hx3 hz3 hz2 hS1 cf
   replace hW3 := Lib.hid hW3
   go_upto_region 18 with fail
   rw [← hW3.out]
   clear t0 t1 t2 t3 t4 t5 t6 t7 t8 t9
   clear x0 x1 x2 x3 x4 x5 x6 y0 y1 y2 e0 e1 e2 e3 e4 e5 e6 e7 e8 e9 e10
   obtain ⟨x0, x1, x2, x3, x4, x5, x6, xf⟩ := (HX.out W3 HB3.out).1.cells
   obtain ⟨y0, y1, y2, -⟩ := (HX.out W3 HB3.out).2.1.cells
   obtain ⟨e0, e1, e2, e3, e4, e5, e6, e7, e8, e9, e10⟩ := EBox.cells (HX.out W3 HB3.out).2.2.2
   dsimp only at e0 e1 e2 e3 e4 e5
   go_upto_region 20 with fail
   obtain ⟨W4, hW4⟩ : ∃ W4, W4 = (W3.setCell ⟨w2.heap.size, 8, none⟩ (.bool false)).setCell ⟨w2.heap.size, 9, none⟩ (.int .u64 (ea : Nat)) := ⟨_, rfl⟩
   rw [← hW4]
   by_cases h5 : ea = 0
   ·have HN : Hid (applyM at' al ⟨4, id, tn, ea, name, text, ev⟩ s = some { s with tasks := tdel s.tasks id }) := Lib.hid (by simp [applyM, HG.out, h5])
    have k5 : ((ea : Int) == 0) = true := by simp; omega
    have k5' : ((ea : Int) != 0) = false := by simp; omega
    clear h5
    have HB4 : Hid (Below W1.heap.size W1 W4) := Lib.hid (by rw [hW4]; exact (HB3.out.setCell (p := ⟨w2.heap.size, 8, none⟩) HZ2.out _).setCell (p := ⟨w2.heap.size, 9, none⟩) HZ2.out _)
    have HX4 : Hid (W4.heap[w2.heap.size]? = some (.cells (tCells ⟨tid, tname, tv, tn, false, ea⟩ tk tn' tf ts tA tm tc) 39 (0, 0))) := Lib.hid (by rw [hW4]; simp [World.setCell, Array.getElem?_modify, HX3.out, tCells])
    have HWI := Lib.hid (rwith_any L xs i hi ⟨tid, tname, tv, tn, false, ea⟩ tk tn' tf ts tA tm tc true (.slice (some ⟨tb, tf0, none⟩) L ct) W4 (by rw [HLL.out]; exact HCI.out.later (HBW.out _ HB4.out)) hn1)
    obtain ⟨c0, c1, c2, c3, c4, c5, c6, c7, c8, c9, cf⟩ := t_cells (show W4.heap[w2.heap.size]? = some (.cells #[.int .u64 (tid : Nat), .string tname, .int .i64 tk, .int .i64 tn', .float .f64 tf, .string ts, .slice tA tm tc, .int .i64 tn, .bool false, .int .u64 (ea : Nat)] 39 (0, 0)) from HX4.out)
    replace hW4 := Lib.hid hW4
    clear cf7 cf8 cf9
    unfold tCells at HWI
    dsimp only at HWI
    clear x0 x1 x2 x3 x4 x5 x6 y0 y1 y2 e0 e1 e2 e3 e4 e5 e6 e7 e8 e9 e10
    obtain ⟨x0, x1, x2, x3, x4, x5, x6, xf⟩ := (HX.out W4 HB4.out).1.cells
    obtain ⟨y0, y1, y2, -⟩ := (HX.out W4 HB4.out).2.1.cells
    obtain ⟨e0, e1, e2, e3, e4, e5, e6, e7, e8, e9, e10⟩ := EBox.cells (HX.out W4 HB4.out).2.2.2
    dsimp only at e0 e1 e2 e3 e4 e5
    go_upto_region 35 with (go_at_call 114; refine HWI.out.mono ?_; rintro x w5 ⟨u', rfl, hown5, hb5⟩; have HB5 := Lib.hid (HB4.out.trans (hb5.mono HB4.out.size)); replace hown5 : w5.ownsRow W4.heap.size 39 10 u' (i + (L - (i + 1))) (xs.take (i * 10) ++ ([] ++ xs.drop ((i + 1) * 10))) := (by rw [← Nat.zero_add (L - (i + 1))]; exact hown5); obtain ⟨Ar, cr, rfl, hbr⟩ := own_slice hown5; have HO5 := Lib.hid hown5; have HBR := Lib.hid hbr; clear hown5 hb5 hbr x0 x1 x2 x3 x4 x5 x6 y0 y1 y2 e0 e1 e2 e3 e4 e5 e6 e7 e8 e9 e10 c0 c1 c2 c3 c4 c5 c6 c7 c8 c9 cf; obtain ⟨x0, x1, x2, x3, x4, x5, x6, xf⟩ := (HX.out w5 HB5.out).1.cells; have xf5 := xf 5; clear xf)
    obtain ⟨w6, hw6⟩ : ∃ w6, w6 = w5.setCell ⟨w.heap.size, 5, none⟩ (.slice Ar (i + (L - (i + 1))) cr) := ⟨_, rfl⟩
    have hx6 : RX w6 w.heap.size f (.slice Bu nu cu) s.closed s.next (.slice Ak nk ck) (.slice Ar (i + (L - (i + 1))) cr) (.slice Am nm cm) := by rw [hw6]; exact (HX.out w5 HB5.out).1.set5
    have hq6 : RX w6 (w.heap.size + 1 + 1) ⟨#[]⟩ (.slice none 0 0) 0 0 (.slice none 0 0) (.slice none 0 0) (.slice none 0 0) := by rw [hw6]; exact (HX.out w5 HB5.out).2.2.1.far (by omega)
    have HB6 : Hid (Below w.heap.size w w6) := Lib.hid (by rw [hw6]; exact (HBW.out w5 HB5.out).setCell (p := ⟨w.heap.size, 5, none⟩) (Nat.le_refl _) _)
    have HW6 := Lib.hid hw6
    clear x0 x1 x2 x3 x4 x5 x6 xf5
    obtain ⟨x0, x1, x2, x3, x4, x5, x6, xf⟩ := hx6.cells
    obtain ⟨q0, q1, q2, q3, q4, q5, q6, qf⟩ := hq6.cells
    rw [show ((0 : Nat) : Int) = 0 from rfl] at q3
    have qf0 := qf 0; have qf1 := qf 1; have qf2 := qf 2; have qf3 := qf 3; have qf4 := qf 4; have qf5 := qf 5; have qf6 := qf 6
    clear qf xf hx6 hq6
    rw [← hw6]
    clear hw6
    go_wp2_with fail
    refine bodyPost_ret (v := .tuple #[.agg #[.string f, .slice Bu nu cu, .int .i64 s.closed, .int .u64 (s.next : Nat), .slice Ak nk ck, .slice Ar (i + (L - (i + 1))) cr, .slice Am nm cm], .bool true]) (by simp [results, Tryz.results81, go_sem, q0, q1, q2, q3, q4, q5, q6]) rfl ?_
    obtain ⟨W7, hW7⟩ : ∃ W7, W7 = ((((((w6.setCell ⟨w.heap.size + 1 + 1, 0, none⟩ (.string f)).setCell ⟨w.heap.size + 1 + 1, 1, none⟩ (.slice Bu nu cu)).setCell ⟨w.heap.size + 1 + 1, 2, none⟩ (.int .i64 s.closed)).setCell ⟨w.heap.size + 1 + 1, 3, none⟩ (.int .u64 (s.next : Nat))).setCell ⟨w.heap.size + 1 + 1, 4, none⟩ (.slice Ak nk ck)).setCell ⟨w.heap.size + 1 + 1, 5, none⟩ (.slice Ar (i + (L - (i + 1))) cr)).setCell ⟨w.heap.size + 1 + 1, 6, none⟩ (.slice Am nm cm) := ⟨_, rfl⟩
    rw [← hW7]
    have hb7 : Below w.heap.size w W7 := by rw [hW7]; exact below7 (g := w.heap.size + 1 + 1) HB6.out (Nat.le_succ_of_le (Nat.le_succ _)) _ _ _ _ _ _ _
    have hm7 : ∀ r, r ≠ w.heap.size → r ≠ w.heap.size + 1 + 1 → W7.heap[r]? = w5.heap[r]? := fun r h1 h2 => by
     rw [hW7, heap7 h2, HW6.out]
     exact RowKit.Below.heap_setCell _ _ _ _ h1
    clear hW7 x0 x1 x2 x3 x4 x5 x6 q0 q1 q2 q3 q4 q5 q6 qf0 qf1 qf2 qf3 qf4 qf5 qf6
    refine ⟨hb7, s.closed, s.next, .slice Ak nk ck, .slice Ar (i + (L - (i + 1))) cr, .slice Am nm cm, ⟨_, _, _, rfl⟩, ⟨_, _, _, rfl⟩, ⟨_, _, _, rfl⟩, by rw [HN.out]; rfl, fun s' hs => ?_⟩
    rw [HN.out] at hs
    cases hs
    have hz4 := HB4.out.size
    have hS1 := HS1.out
    have ho7 := own_move (w' := W7) HO5.out (fun r hr => hm7 r (by have := HBR.out r hr; omega) (by have := HBR.out r hr; omega))
    clear hz4 hS1
    rw [HLL.out] at ho7
    have hi' : i < s.tasks.length := by rw [← HLL.out]; exact hi
    have hr7 := rtk_with (dn := true) (t := ⟨tid, tname, tv, tn, false, ea⟩) hi' (by obtain ⟨o1, -, -, -, o5⟩ := HTKO.out; exact ⟨o1, tn0, tn1, HE.out.f.a1, o5⟩) HTR.out HTH.out HTKC.out HCI.out.2.1 hb7 (by simp) ho7 (by intro c hc; have := HXB.out c hc; have := HB4.out.size; have := HS1.out; omega)
    have hp := del_with HFI.out.tasks (i := i) hi'
    rw [← HTT.out] at hp
    dsimp only at hp
    rw [HIDQ.out] at hp
    refine ⟨rfl, rfl, ⟨(HRV.out.leads (veil_below X hb7)).keys, ?_, (HRV.out.leads (veil_below X hb7)).timers⟩⟩
    dsimp only
    rw [← hp, HLL.out]
    exact hr7
   ·have k5 : ((ea : Int) == 0) = false := by simp; omega
    have k5' : ((ea : Int) != 0) = true := by simp; omega
    by_cases h4 : at' ≤ ea
    rotate_left
    ·have HN : Hid (applyM at' al ⟨4, id, tn, ea, name, text, ev⟩ s = none) := Lib.hid (by simp [applyM, HG.out, h5, h4])
     have k4 : decide ((at' : Int) ≤ (ea : Int)) = false := decide_eq_false (by omega)
     have k4' : decide ((ea : Int) < (at' : Int)) = true := decide_eq_true (by omega)
     have h4n : ea < at' := by omega
     have HB4 : Hid (Below W1.heap.size W1 W4) := Lib.hid (by rw [hW4]; exact (HB3.out.setCell (p := ⟨w2.heap.size, 8, none⟩) HZ2.out _).setCell (p := ⟨w2.heap.size, 9, none⟩) HZ2.out _)
     clear hW4 c0 c1 c2 c3 c4 c5 c6 c7 c8 c9 cf7 cf8 cf9
     clear x0 x1 x2 x3 x4 x5 x6 y0 y1 y2 e0 e1 e2 e3 e4 e5 e6 e7 e8 e9 e10
     obtain ⟨x0, x1, x2, x3, x4, x5, x6, xf⟩ := (HX.out W4 HB4.out).1.cells
     obtain ⟨y0, y1, y2, -⟩ := (HX.out W4 HB4.out).2.1.cells
     obtain ⟨e0, e1, e2, e3, e4, e5, e6, e7, e8, e9, e10⟩ := EBox.cells (HX.out W4 HB4.out).2.2.2
     dsimp only at e0 e1 e2 e3 e4 e5
     obtain ⟨q0, q1, q2, q3, q4, q5, q6, qf⟩ := (HX.out W4 HB4.out).2.2.1.cells
     rw [show ((0 : Nat) : Int) = 0 from rfl] at q3
     have qf0 := qf 0; have qf1 := qf 1; have qf2 := qf 2; have qf3 := qf 3; have qf4 := qf 4; have qf5 := qf 5; have qf6 := qf 6
     clear qf
     go_wp2_with fail
     refine bodyPost_ret (v := .tuple #[.agg #[.string f, .slice Bu nu cu, .int .i64 s.closed, .int .u64 (s.next : Nat), .slice Ak nk ck, .slice (some ⟨tb, tf0, none⟩) L ct, .slice Am nm cm], .bool false]) (by simp [results, Tryz.results81, go_sem, q0, q1, q2, q3, q4, q5, q6]) rfl ?_
     exact ⟨below7 (HBW.out W4 HB4.out) (Nat.le_succ_of_le (Nat.le_succ _)) _ _ _ _ _ _ _, s.closed, s.next, .slice Ak nk ck, .slice (some ⟨tb, tf0, none⟩) L ct, .slice Am nm cm, ⟨_, _, _, rfl⟩, ⟨_, _, _, rfl⟩, ⟨_, _, _, rfl⟩, by rw [HN.out]; rfl, fun s' hs => by rw [HN.out] at hs; cases hs⟩
    have k4 : decide ((at' : Int) ≤ (ea : Int)) = true := decide_eq_true (by omega)
    have k4' : decide ((ea : Int) < (at' : Int)) = false := decide_eq_false (by omega)
    cases al with
    | false =>
     have HN : Hid (applyM at' false ⟨4, id, tn, ea, name, text, ev⟩ s = none) := Lib.hid (by simp [applyM, HG.out, h5, h4])
     have HB4 : Hid (Below W1.heap.size W1 W4) := Lib.hid (by rw [hW4]; exact (HB3.out.setCell (p := ⟨w2.heap.size, 8, none⟩) HZ2.out _).setCell (p := ⟨w2.heap.size, 9, none⟩) HZ2.out _)
     clear hW4 c0 c1 c2 c3 c4 c5 c6 c7 c8 c9 cf7 cf8 cf9
     clear x0 x1 x2 x3 x4 x5 x6 y0 y1 y2 e0 e1 e2 e3 e4 e5 e6 e7 e8 e9 e10
     obtain ⟨x0, x1, x2, x3, x4, x5, x6, xf⟩ := (HX.out W4 HB4.out).1.cells
     obtain ⟨y0, y1, y2, -⟩ := (HX.out W4 HB4.out).2.1.cells
     obtain ⟨e0, e1, e2, e3, e4, e5, e6, e7, e8, e9, e10⟩ := EBox.cells (HX.out W4 HB4.out).2.2.2
     dsimp only at e0 e1 e2 e3 e4 e5
     obtain ⟨q0, q1, q2, q3, q4, q5, q6, qf⟩ := (HX.out W4 HB4.out).2.2.1.cells
     rw [show ((0 : Nat) : Int) = 0 from rfl] at q3
     have qf0 := qf 0; have qf1 := qf 1; have qf2 := qf 2; have qf3 := qf 3; have qf4 := qf 4; have qf5 := qf 5; have qf6 := qf 6
     clear qf
     go_wp2_with fail
     refine bodyPost_ret (v := .tuple #[.agg #[.string f, .slice Bu nu cu, .int .i64 s.closed, .int .u64 (s.next : Nat), .slice Ak nk ck, .slice (some ⟨tb, tf0, none⟩) L ct, .slice Am nm cm], .bool false]) (by simp [results, Tryz.results81, go_sem, q0, q1, q2, q3, q4, q5, q6]) rfl ?_
     exact ⟨below7 (HBW.out W4 HB4.out) (Nat.le_succ_of_le (Nat.le_succ _)) _ _ _ _ _ _ _, s.closed, s.next, .slice Ak nk ck, .slice (some ⟨tb, tf0, none⟩) L ct, .slice Am nm cm, ⟨_, _, _, rfl⟩, ⟨_, _, _, rfl⟩, ⟨_, _, _, rfl⟩, by rw [HN.out]; rfl, fun s' hs => by rw [HN.out] at hs; cases hs⟩
    | true =>
     have HN : Hid (applyM at' true ⟨4, id, tn, ea, name, text, ev⟩ s = some { s with tasks := tput s.tasks ⟨tid, tname, tv, tn, false, ea⟩ }) := Lib.hid (by simp [applyM, HG.out, h5, h4])
     have HB4 : Hid (Below W1.heap.size W1 W4) := Lib.hid (by rw [hW4]; exact (HB3.out.setCell (p := ⟨w2.heap.size, 8, none⟩) HZ2.out _).setCell (p := ⟨w2.heap.size, 9, none⟩) HZ2.out _)
     have HX4 : Hid (W4.heap[w2.heap.size]? = some (.cells (tCells ⟨tid, tname, tv, tn, false, ea⟩ tk tn' tf ts tA tm tc) 39 (0, 0))) := Lib.hid (by rw [hW4]; simp [World.setCell, Array.getElem?_modify, HX3.out, tCells])
     have HWI := Lib.hid (rwith_any L xs i hi ⟨tid, tname, tv, tn, false, ea⟩ tk tn' tf ts tA tm tc false (.slice (some ⟨tb, tf0, none⟩) L ct) W4 (by rw [HLL.out]; exact HCI.out.later (HBW.out _ HB4.out)) hn1)
     obtain ⟨c0, c1, c2, c3, c4, c5, c6, c7, c8, c9, cf⟩ := t_cells (show W4.heap[w2.heap.size]? = some (.cells #[.int .u64 (tid : Nat), .string tname, .int .i64 tk, .int .i64 tn', .float .f64 tf, .string ts, .slice tA tm tc, .int .i64 tn, .bool false, .int .u64 (ea : Nat)] 39 (0, 0)) from HX4.out)
     replace hW4 := Lib.hid hW4
     clear cf7 cf8 cf9
     unfold tCells at HWI
     dsimp only at HWI
     clear x0 x1 x2 x3 x4 x5 x6 y0 y1 y2 e0 e1 e2 e3 e4 e5 e6 e7 e8 e9 e10
     obtain ⟨x0, x1, x2, x3, x4, x5, x6, xf⟩ := (HX.out W4 HB4.out).1.cells
     obtain ⟨y0, y1, y2, -⟩ := (HX.out W4 HB4.out).2.1.cells
     obtain ⟨e0, e1, e2, e3, e4, e5, e6, e7, e8, e9, e10⟩ := EBox.cells (HX.out W4 HB4.out).2.2.2
     dsimp only at e0 e1 e2 e3 e4 e5
     go_upto_region 35 with (go_at_call 114; refine HWI.out.mono ?_; rintro x w5 ⟨u', rfl, hown5, hb5⟩; have HB5 := Lib.hid (HB4.out.trans (hb5.mono HB4.out.size)); obtain ⟨Ar, cr, rfl, hbr⟩ := own_slice hown5; have HO5 := Lib.hid hown5; have HBR := Lib.hid hbr; clear hown5 hb5 hbr x0 x1 x2 x3 x4 x5 x6 y0 y1 y2 e0 e1 e2 e3 e4 e5 e6 e7 e8 e9 e10 c0 c1 c2 c3 c4 c5 c6 c7 c8 c9 cf; obtain ⟨x0, x1, x2, x3, x4, x5, x6, xf⟩ := (HX.out w5 HB5.out).1.cells; have xf5 := xf 5; clear xf)
     obtain ⟨w6, hw6⟩ : ∃ w6, w6 = w5.setCell ⟨w.heap.size, 5, none⟩ (.slice Ar (i + (1 + (L - (i + 1)))) cr) := ⟨_, rfl⟩
     have hx6 : RX w6 w.heap.size f (.slice Bu nu cu) s.closed s.next (.slice Ak nk ck) (.slice Ar (i + (1 + (L - (i + 1)))) cr) (.slice Am nm cm) := by rw [hw6]; exact (HX.out w5 HB5.out).1.set5
     have hq6 : RX w6 (w.heap.size + 1 + 1) ⟨#[]⟩ (.slice none 0 0) 0 0 (.slice none 0 0) (.slice none 0 0) (.slice none 0 0) := by rw [hw6]; exact (HX.out w5 HB5.out).2.2.1.far (by omega)
     have HB6 : Hid (Below w.heap.size w w6) := Lib.hid (by rw [hw6]; exact (HBW.out w5 HB5.out).setCell (p := ⟨w.heap.size, 5, none⟩) (Nat.le_refl _) _)
     have HW6 := Lib.hid hw6
     clear x0 x1 x2 x3 x4 x5 x6 xf5
     obtain ⟨x0, x1, x2, x3, x4, x5, x6, xf⟩ := hx6.cells
     obtain ⟨q0, q1, q2, q3, q4, q5, q6, qf⟩ := hq6.cells
     rw [show ((0 : Nat) : Int) = 0 from rfl] at q3
     have qf0 := qf 0; have qf1 := qf 1; have qf2 := qf 2; have qf3 := qf 3; have qf4 := qf 4; have qf5 := qf 5; have qf6 := qf 6
     clear qf xf hx6 hq6
     rw [← hw6]
     clear hw6
     go_wp2_with fail
     refine bodyPost_ret (v := .tuple #[.agg #[.string f, .slice Bu nu cu, .int .i64 s.closed, .int .u64 (s.next : Nat), .slice Ak nk ck, .slice Ar (i + (1 + (L - (i + 1)))) cr, .slice Am nm cm], .bool true]) (by simp [results, Tryz.results81, go_sem, q0, q1, q2, q3, q4, q5, q6]) rfl ?_
     obtain ⟨W7, hW7⟩ : ∃ W7, W7 = ((((((w6.setCell ⟨w.heap.size + 1 + 1, 0, none⟩ (.string f)).setCell ⟨w.heap.size + 1 + 1, 1, none⟩ (.slice Bu nu cu)).setCell ⟨w.heap.size + 1 + 1, 2, none⟩ (.int .i64 s.closed)).setCell ⟨w.heap.size + 1 + 1, 3, none⟩ (.int .u64 (s.next : Nat))).setCell ⟨w.heap.size + 1 + 1, 4, none⟩ (.slice Ak nk ck)).setCell ⟨w.heap.size + 1 + 1, 5, none⟩ (.slice Ar (i + (1 + (L - (i + 1)))) cr)).setCell ⟨w.heap.size + 1 + 1, 6, none⟩ (.slice Am nm cm) := ⟨_, rfl⟩
     rw [← hW7]
     have hb7 : Below w.heap.size w W7 := by rw [hW7]; exact below7 (g := w.heap.size + 1 + 1) HB6.out (Nat.le_succ_of_le (Nat.le_succ _)) _ _ _ _ _ _ _
     have hm7 : ∀ r, r ≠ w.heap.size → r ≠ w.heap.size + 1 + 1 → W7.heap[r]? = w5.heap[r]? := fun r h1 h2 => by
      rw [hW7, heap7 h2, HW6.out]
      exact RowKit.Below.heap_setCell _ _ _ _ h1
     clear hW7 x0 x1 x2 x3 x4 x5 x6 q0 q1 q2 q3 q4 q5 q6 qf0 qf1 qf2 qf3 qf4 qf5 qf6
     refine ⟨hb7, s.closed, s.next, .slice Ak nk ck, .slice Ar (i + (1 + (L - (i + 1)))) cr, .slice Am nm cm, ⟨_, _, _, rfl⟩, ⟨_, _, _, rfl⟩, ⟨_, _, _, rfl⟩, by rw [HN.out]; rfl, fun s' hs => ?_⟩
     rw [HN.out] at hs
     cases hs
     have hz4 := HB4.out.size
     have hS1 := HS1.out
     have ho7 := own_move (w' := W7) HO5.out (fun r hr => hm7 r (by have := HBR.out r hr; omega) (by have := HBR.out r hr; omega))
     clear hz4 hS1
     rw [HLL.out] at ho7
     have hi' : i < s.tasks.length := by rw [← HLL.out]; exact hi
     have hr7 := rtk_with (dn := false) (t := ⟨tid, tname, tv, tn, false, ea⟩) hi' (by obtain ⟨o1, -, -, -, o5⟩ := HTKO.out; exact ⟨o1, tn0, tn1, HE.out.f.a1, o5⟩) HTR.out HTH.out HTKC.out HCI.out.2.1 hb7 (by simp) ho7 (by intro c hc; have := HXB.out c hc; have := HB4.out.size; have := HS1.out; omega)
     have hp := put_with HFI.out.tasks (i := i) hi' ⟨tid, tname, tv, tn, false, ea⟩ (by rw [← HTT.out])
     refine ⟨rfl, rfl, ⟨(HRV.out.leads (veil_below X hb7)).keys, ?_, (HRV.out.leads (veil_below X hb7)).timers⟩⟩
     dsimp only
     rw [← hp, HLL.out]
     exact hr7
end Hi
end Go.Proofs.YtaahfiopdoinkaaGreat
namespace Go.Proofs.YtaahfiopdoinkaaGreat
namespace Hi
open _root_.Go.Proofs.YtaahfiopdoinkaaGreat.Nm (ret_int ret_bool)
open Vt (VT Rep below_drew Cloned put5)
open Ev (EV FieldsOk evCells vCells EBox take_drop tk ap rd1 rd2 cons_drop)
open Cm (rowOf EvsIn)
open Cn (BT BB BtsIn box_ev)
variable {X X' Y Y' : Nat → Prop} {u v w w' V V' : World} {hb bt bm bk n cap : Nat} {A : Option Addr} {h : HM}
set_option maxRecDepth 100000 in
set_option maxHeartbeats 2000000 in
theorem out6_any (s : ST) (f : ByteArray) (Bu : Option Addr) (nu cu : Nat) (uk ut um : Value) (b : BT) (A : Option Addr) (cap : Nat) (w : World) (h : OIn X w s uk ut um b A cap) (hp : 0 < b.es.length) (he : EvOk (b.es[0]'hp)) (hk : b.es[0].k = 6) :
  Calls Tryz.prog 81 #[.agg (rhC f (.slice Bu nu cu) s.closed s.next uk ut um), .agg #[.string b.flow, .int .u64 (b.at' : Nat), .slice A b.es.length cap]] w (ROut X w f (.slice Bu nu cu) (applyM b.at' (decide (b.es.length = 1)) (b.es[0]'hp) s)) := by
 obtain ⟨Ak, nk, ck, rfl⟩ : ∃ A n c, uk = .slice A n c := by obtain ⟨xs, ⟨-, -, A, c, e, -⟩, -⟩ := h.rs.keys; exact ⟨_, _, _, e⟩
 obtain ⟨Aq, nt, ct, rfl⟩ : ∃ A n c, ut = .slice A n c := by obtain ⟨xs, ⟨-, -, A, c, e, -⟩, -⟩ := h.rs.tasks; exact ⟨_, _, _, e⟩
 obtain ⟨Am, nm, cm, rfl⟩ : ∃ A n c, um = .slice A n c := by obtain ⟨xs, ⟨-, -, A, c, e, -⟩, -⟩ := h.rs.timers; exact ⟨_, _, _, e⟩
 obtain ⟨eb, eo, lo0, hi0, vk, vn, vf, vs, A0, m0, c0, rfl, heb, hff, hrep, hhi, z0, z1, z2, z3, z4, z5, z6, z7, z8, z9, z10⟩ := h.evs.get 0 hp
 have hrepV := hrep
 replace hrep := Rep.leads hrep (leads_veil X w)
 rw [veil_size] at heb hhi
 replace z0 := (leads_veil X w).cell z0
 replace z1 := (leads_veil X w).cell z1
 replace z2 := (leads_veil X w).cell z2
 replace z3 := (leads_veil X w).cell z3
 replace z4 := (leads_veil X w).cell z4
 replace z5 := (leads_veil X w).cell z5
 replace z6 := (leads_veil X w).cell z6
 replace z7 := (leads_veil X w).cell z7
 replace z8 := (leads_veil X w).cell z8
 replace z9 := (leads_veil X w).cell z9
 replace z10 := (leads_veil X w).cell z10
 have hle := h.evs.le
 have hcm := h.evs.cap_le
 simp only [maxLen] at hcm
 rw [show eo + 0 * 11 = eo by omega] at z0 z1 z2 z3 z4 z5 z6 z7 z8 z9 z10
 obtain ⟨m, hm⟩ : ∃ m, m = b.es.length := ⟨_, rfl⟩
 obtain ⟨ff, hf0⟩ : ∃ ff, ff = b.flow := ⟨_, rfl⟩
 obtain ⟨at', hat⟩ : ∃ at', at' = b.at' := ⟨_, rfl⟩
 obtain ⟨e, hee⟩ : ∃ e, e = b.es[0]'hp := ⟨_, rfl⟩
 have hbat := h.at'
 rw [← hat] at hbat
 rw [← hee] at hff hrep hrepV z0 z1 z2 z3 z4 z5 he hk ⊢
 have HRV := Lib.hid h.rs; have HRS := Lib.hid (h.rs.leads (leads_veil X w)); have HXB := Lib.hid h.xb; have HFI := Lib.hid h.fine; have hn1 := h.n1; have hn2 := h.n2; have hn3 := h.n3; have hn4 := h.n4
 rw [← hm] at hle ⊢
 rw [← hf0, ← hat]
 have hmp : 0 < m := by omega
 clear h hee hat hf0 hm hp
 obtain ⟨k, id, en, ea, name, text, ev⟩ := e
 have hid := he.f.i1
 dsimp only at hid hk hrep hrepV hff z0 z1 z2 z3 z4 z5 z6 z7 z8 z9 z10
 obtain rfl : k = 6 := hk
 have HE := Lib.hid he
 obtain ⟨W0, hW0⟩ : ∃ W0, W0 = ((w.alloc (.cells (rhC f (.slice Bu nu cu) s.closed s.next (.slice Ak nk ck) (.slice Aq nt ct) (.slice Am nm cm)) 84)).alloc (.cells #[.string ff, .int .u64 (at' : Nat), .slice (some ⟨eb, eo, none⟩) m cap] 64)).alloc (.cells (rhC ⟨#[]⟩ (.slice none 0 0) 0 0 (.slice none 0 0) (.slice none 0 0) (.slice none 0 0)) 84) := ⟨_, rfl⟩
 obtain ⟨W1, hW1⟩ : ∃ W1, W1 = W0.alloc (.cells (evCells ⟨6, id, en, ea, name, text, ev⟩ vk vn vf vs A0 m0 c0) 61) := ⟨_, rfl⟩
 have hs0 : W0.heap.size = w.heap.size + 3 := by rw [hW0]; simp
 have hs1 : W1.heap.size = w.heap.size + 4 := by rw [hW1]; simp [hs0]
 have hb0 : Below w.heap.size w W0 := by rw [hW0]; exact (((Below.refl _ _).alloc (Nat.le_refl _) _).alloc (by simp) _).alloc (by simp; omega) _
 have hb1 : Below w.heap.size w W1 := by rw [hW1]; exact hb0.alloc (by omega) _
 have hx0 : W0.heap[w.heap.size]? = some (.cells (rhC f (.slice Bu nu cu) s.closed s.next (.slice Ak nk ck) (.slice Aq nt ct) (.slice Am nm cm)) 84 (0, 0)) := by rw [hW0]; exact (heap_alloc_old _ _ (by simp; omega)).trans ((heap_alloc_old _ _ (by simp)).trans (heap_alloc_new w _))
 have hx1 : W0.heap[w.heap.size + 1]? = some (.cells #[.string ff, .int .u64 (at' : Nat), .slice (some ⟨eb, eo, none⟩) m cap] 64 (0, 0)) := by
  rw [hW0, heap_alloc_old _ _ (by simp)]
  have e := heap_alloc_new (w.alloc (.cells (rhC f (.slice Bu nu cu) s.closed s.next (.slice Ak nk ck) (.slice Aq nt ct) (.slice Am nm cm)) 84)) (.cells #[.string ff, .int .u64 (at' : Nat), .slice (some ⟨eb, eo, none⟩) m cap] 64)
  rw [World.size_alloc] at e
  exact e
 have hx2 : W0.heap[w.heap.size + 2]? = some (.cells (rhC ⟨#[]⟩ (.slice none 0 0) 0 0 (.slice none 0 0) (.slice none 0 0) (.slice none 0 0)) 84 (0, 0)) := by
  rw [hW0]
  have e := heap_alloc_new ((w.alloc (.cells (rhC f (.slice Bu nu cu) s.closed s.next (.slice Ak nk ck) (.slice Aq nt ct) (.slice Am nm cm)) 84)).alloc (.cells #[.string ff, .int .u64 (at' : Nat), .slice (some ⟨eb, eo, none⟩) m cap] 64)) (.cells (rhC ⟨#[]⟩ (.slice none 0 0) 0 0 (.slice none 0 0) (.slice none 0 0) (.slice none 0 0)) 84)
  simp only [World.size_alloc] at e
  exact e
 have HX : Hid (∀ W, Below W1.heap.size W1 W → RX W w.heap.size f (.slice Bu nu cu) s.closed s.next (.slice Ak nk ck) (.slice Aq nt ct) (.slice Am nm cm) ∧ BB W (w.heap.size + 1) ff at' (some ⟨eb, eo, none⟩) m cap ∧ RX W (w.heap.size + 1 + 1) ⟨#[]⟩ (.slice none 0 0) 0 0 (.slice none 0 0) (.slice none 0 0) (.slice none 0 0) ∧ EBox W (w.heap.size + 3) (evCells ⟨6, id, en, ea, name, text, ev⟩ vk vn vf vs A0 m0 c0)) := Lib.hid fun W hW => by
  have o : ∀ c, c < w.heap.size + 3 → W.heap[c]? = W0.heap[c]? := fun c hc => (hW.block c (by omega)).trans (by rw [hW1]; exact heap_alloc_old _ _ (by omega))
  refine ⟨(o _ (by omega)).trans hx0, (o _ (by omega)).trans hx1, (o _ (by omega)).trans hx2, (hW.block _ (by omega)).trans ?_⟩
  rw [hW1, ← hs0]; exact heap_alloc_new ..
 have HBW : Hid (∀ W, Below W1.heap.size W1 W → Below w.heap.size w W) := Lib.hid fun W hW => hb1.trans (hW.mono hb1.size)
 have HTK := Lib.hid (rtask_any s.tasks id hid f (.slice Bu nu cu) (.slice Ak nk ck) (.slice Aq nt ct) (.slice Am nm cm) s.closed s.next W1 ((HRS.out.later hb1).tasks))
 have HS1 := Lib.hid hs1; have HB1 := Lib.hid hb1
 obtain ⟨y0, y1, y2, -⟩ := BB.cells (show BB W0 (w.heap.size + 1) ff at' (some ⟨eb, eo, none⟩) m cap from hx1)
 obtain ⟨x0, x1, x2, x3, x4, x5, x6, -⟩ := (HX.out W1 (Below.refl _ _)).1.cells
 have e0 := (hb0.cell (p := ⟨eb, eo, none⟩) heb).trans z0
 have e1 := (hb0.cell (p := ⟨eb, eo + 1, none⟩) heb).trans z1
 have e2 := (hb0.cell (p := ⟨eb, eo + 2, none⟩) heb).trans z2
 have e3 := (hb0.cell (p := ⟨eb, eo + 3, none⟩) heb).trans z3
 have e4 := (hb0.cell (p := ⟨eb, eo + 4, none⟩) heb).trans z4
 have e5 := (hb0.cell (p := ⟨eb, eo + 5, none⟩) heb).trans z5
 have e6 := (hb0.cell (p := ⟨eb, eo + 6, none⟩) heb).trans z6
 have e7 := (hb0.cell (p := ⟨eb, eo + 7, none⟩) heb).trans z7
 have e8 := (hb0.cell (p := ⟨eb, eo + 8, none⟩) heb).trans z8
 have e9 := (hb0.cell (p := ⟨eb, eo + 9, none⟩) heb).trans z9
 have e10 := (hb0.cell (p := ⟨eb, eo + 10, none⟩) heb).trans z10
 have HREP := Lib.hid hrep; have HREPV := Lib.hid hrepV; have HHI := Lib.hid hhi
 unfold rhC at hW0 HTK ⊢
 unfold evCells at hW1
 dsimp only at hW1
 rw [show ((0 : Nat) : Int) = 0 from rfl] at hW0
 have hWs := Lib.hid hs0
 clear hs0 hs1 hb0 hb1 hx0 hx1 hx2 z0 z1 z2 z3 z4 z5 z6 z7 z8 z9 z10 hrep hrepV hhi hff he heb
 replace hW0 := Lib.hid hW0
 replace hW1 := Lib.hid hW1
 obtain ⟨hk, hhk⟩ : ∃ hk, hk = hasK s.keys text := ⟨_, rfl⟩
 have HHK := Lib.hid hhk
 have HHS : Hid (∀ W, Below W1.heap.size W1 W → Calls Tryz.prog 115 #[.agg #[.string f, .slice Bu nu cu, .int .i64 s.closed, .int .u64 (s.next : Nat), .slice Ak nk ck, .slice Aq nt ct, .slice Am nm cm], .string text] W fun r w' => r = .returned (.bool hk) ∧ Below W.heap.size W w') := Lib.hid fun W hW => by rw [hhk]; exact rhas_any s.keys text HE.out.f.t1 f (.slice Bu nu cu) (.slice Ak nk ck) (.slice Aq nt ct) (.slice Am nm cm) s.closed s.next W ((HRS.out.later (HBW.out W hW)).keys)
 clear hhk
 obtain ⟨al, hal⟩ : ∃ al, al = decide (m = 1) := ⟨_, rfl⟩
 have hm1 : ((m : Int) == 1) = al := by
  rw [hal]
  by_cases q : m = 1
  ·subst q; rfl
  ·rw [decide_eq_false q, beq_eq_false_iff_ne]; omega
 rw [← hal]
 have HAL := Lib.hid hal
 clear hal
 go_enter Tryz.func81, Tryz.ntmps81
 go_upto_region 1 with fail
 rw [← hW0.out]
 go_upto_region 2 with fail
 rw [← hW1.out]
 rw [show W0.heap.size = w.heap.size + 3 from hWs.out]
 clear y0 y1 y2 e0 e1 e2 e3 e4 e5 e6 e7 e8 e9 e10
 obtain ⟨-, y, -, ez⟩ := HX.out W1 (Below.refl _ _)
 obtain ⟨e0, e1, e2, e3, e4, e5, e6, e7, e8, e9, e10⟩ := EBox.cells ez
 dsimp only at e0 e1 e2 e3 e4 e5
 clear ez y
 go_upto_region 32 with (go_at_call 113; refine HTK.out.mono ?_; rintro x w1 ⟨⟨ti, rfl, hti⟩, hq1⟩; have HTI := Lib.hid (idx_get HFI.out.tasks hti); have HQ1 := Lib.hid hq1; clear hti hq1 x0 x1 x2 x3 x4 x5 x6 e0 e1 e2 e3 e4 e5 e6 e7 e8 e9 e10; obtain ⟨x0, x1, x2, x3, x4, x5, x6, -⟩ := (HX.out w1 HQ1.out).1.cells; obtain ⟨y0, y1, y2, -⟩ := (HX.out w1 HQ1.out).2.1.cells; obtain ⟨e0, e1, e2, e3, e4, e5, e6, e7, e8, e9, e10⟩ := EBox.cells (HX.out w1 HQ1.out).2.2.2; dsimp only at e0 e1 e2 e3 e4 e5)
 cases hk with
 | true =>
  have HN : Hid (applyM at' al ⟨6, id, en, ea, name, text, ev⟩ s = none) := Lib.hid (by simp [applyM, ← HHK.out])
  go_wp2_with (go_at_call 115; refine (HHS.out w1 HQ1.out).mono ?_; rintro x w2 ⟨rfl, hq2⟩; have HQ2 := Lib.hid (HQ1.out.trans (hq2.mono HQ1.out.size)); clear hq2 x0 x1 x2 x3 x4 x5 x6 y0 y1 y2 e0 e1 e2 e3 e4 e5 e6 e7 e8 e9 e10; obtain ⟨x0, x1, x2, x3, x4, x5, x6, xf⟩ := (HX.out w2 HQ2.out).1.cells; obtain ⟨y0, y1, y2, -⟩ := (HX.out w2 HQ2.out).2.1.cells; obtain ⟨e0, e1, e2, e3, e4, e5, e6, e7, e8, e9, e10⟩ := EBox.cells (HX.out w2 HQ2.out).2.2.2; dsimp only at e0 e1 e2 e3 e4 e5; obtain ⟨q0, q1, q2, q3, q4, q5, q6, qf⟩ := (HX.out w2 HQ2.out).2.2.1.cells; rw [show ((0 : Nat) : Int) = 0 from rfl] at q3; have qf0 := qf 0; have qf1 := qf 1; have qf2 := qf 2; have qf3 := qf 3; have qf4 := qf 4; have qf5 := qf 5; have qf6 := qf 6; clear qf)
  refine bodyPost_ret (v := .tuple #[.agg #[.string f, .slice Bu nu cu, .int .i64 s.closed, .int .u64 (s.next : Nat), .slice Ak nk ck, .slice Aq nt ct, .slice Am nm cm], .bool false]) (by simp [results, Tryz.results81, go_sem, q0, q1, q2, q3, q4, q5, q6]) rfl ?_
  exact ⟨below7 (HBW.out w2 HQ2.out) (by omega) _ _ _ _ _ _ _, s.closed, s.next, .slice Ak nk ck, .slice Aq nt ct, .slice Am nm cm, ⟨_, _, _, rfl⟩, ⟨_, _, _, rfl⟩, ⟨_, _, _, rfl⟩, by rw [HN.out]; rfl, fun s' hs => by rw [HN.out] at hs; cases hs⟩
 | false =>
  have HN : Hid (applyM at' al ⟨6, id, en, ea, name, text, ev⟩ s = some { s with keys := s.keys ++ [text] }) := Lib.hid (by simp [applyM, ← HHK.out])
  obtain ⟨xs, hcinV, hst⟩ := HRV.out.keys
  have hcin := hcinV.leads (leads_veil X w)
  clear hcinV
  have HCI := Lib.hid hcin; have HST := Lib.hid hst
  obtain ⟨rfl, hkc⟩ : nk = s.keys.length ∧ s.keys.length ≤ ck := by obtain ⟨-, -, A9, cap9, heq9, hle9, -, -⟩ := hcin; injection heq9 with a1 a2 a3; exact ⟨a2, by rw [a3]; exact hle9⟩
  obtain ⟨i0, hi0, hz0, hz1, hz2⟩ := info_parts Tryz.infoStr
  have HSZ := Lib.hid (sz_of hi0 hz1)
  have HONE : Hid (∀ x ∈ (#[Value.string text] : Array Value).toList, x.oneCell' = true) := Lib.hid (by intro x hx; simp at hx; subst hx; rfl)
  clear hcin hst
  go_upto_region 34 with (go_at_call 115; refine (HHS.out w1 HQ1.out).mono ?_; rintro x w2 ⟨rfl, hq2⟩; have HQ2 := Lib.hid (HQ1.out.trans (hq2.mono HQ1.out.size)); clear hq2 x0 x1 x2 x3 x4 x5 x6 y0 y1 y2 e0 e1 e2 e3 e4 e5 e6 e7 e8 e9 e10; obtain ⟨x0, x1, x2, x3, x4, x5, x6, xf⟩ := (HX.out w2 HQ2.out).1.cells; obtain ⟨y0, y1, y2, -⟩ := (HX.out w2 HQ2.out).2.1.cells; obtain ⟨e0, e1, e2, e3, e4, e5, e6, e7, e8, e9, e10⟩ := EBox.cells (HX.out w2 HQ2.out).2.2.2; dsimp only at e0 e1 e2 e3 e4 e5; obtain ⟨q0, q1, q2, q3, q4, q5, q6, qf⟩ := (HX.out w2 HQ2.out).2.2.1.cells; rw [show ((0 : Nat) : Int) = 0 from rfl] at q3; have qf0 := qf 0; have qf1 := qf 1; have qf2 := qf 2; have qf3 := qf 3; have qf4 := qf 4; have qf5 := qf 5; have qf6 := qf 6; clear qf)
  obtain ⟨u0, hu0⟩ : ∃ u, u = w2.drew := ⟨_, rfl⟩
  obtain ⟨L, hL⟩ : ∃ L, L = s.keys.length := ⟨_, rfl⟩
  have HLL := Lib.hid hL
  have HBu1 : Hid (∀ W, Below u0.heap.size u0 W → Below W1.heap.size W1 W) := Lib.hid fun W hW => by rw [hu0] at hW; exact (below_drew HQ2.out).trans (hW.mono (below_drew HQ2.out).size)
  have HBu0 : Hid (W1.heap.size ≤ u0.heap.size) := Lib.hid (by rw [hu0]; exact (below_drew HQ2.out).size)
  have HBu : Hid (Below u0.heap.size u0 u0) := Lib.hid (Below.refl _ _)
  have HKS : Hid (∀ W, Below u0.heap.size u0 W → (fun W : World => W.cell? ⟨w.heap.size + 3, 5, none⟩ = some (.string text)) W) := Lib.hid fun W hW => (EBox.cells (HX.out W (HBu1.out W hW)).2.2.2).2.2.2.2.2.1
  have HKS2 : Hid (∀ W v, Below u0.heap.size u0 W → (fun W : World => W.cell? ⟨w.heap.size + 3, 5, none⟩ = some (.string text)) (W.setCell ⟨w.heap.size, 4, none⟩ v)) := Lib.hid fun W v hW => (World.cell?_of_block (a := ⟨w.heap.size + 3, 5, none⟩) (RowKit.Below.heap_setCell _ _ _ _ (by show w.heap.size + 3 ≠ w.heap.size; omega))).trans (HKS.out W hW)
  rw [← hL] at hkc hn3 HX
  have HCX : Hid (∀ W, Below u0.heap.size u0 W → W.cell? ⟨w.heap.size, 4, none⟩ = some (.slice Ak L ck) ∧ W.frozen? ⟨w.heap.size, 4, none⟩ = false) := Lib.hid fun W hW => ⟨(HX.out W (HBu1.out W hW)).1.cells.2.2.2.2.1, (HX.out W (HBu1.out W hW)).1.cells.2.2.2.2.2.2.2 4⟩
  have HIN : Hid (∀ W, Below u0.heap.size u0 W → CIn W (.slice Ak L ck) L 1 xs) := Lib.hid fun W hW => by rw [hL]; exact HCI.out.later (HBW.out W (HBu1.out W hW))
  clear hL
  have HOUT : Hid (∀ (cF w6 W7 : World) (Ar : Option Addr) (cr : Nat), cF.ownsRow u0.heap.size 9 1 (.slice Ar (L + 1) cr) (L + 1) (xs ++ (#[Value.string text] : Array Value).toList) → (∀ r, rowOf Ar = some r → u0.heap.size ≤ r) → Below u0.heap.size u0 cF → w6 = cF.setCell ⟨w.heap.size, 4, none⟩ (.slice Ar (L + 1) cr) → Below w.heap.size w w6 →
    W7 = ((((((w6.setCell ⟨w.heap.size + 1 + 1, 0, none⟩ (.string f)).setCell ⟨w.heap.size + 1 + 1, 1, none⟩ (.slice Bu nu cu)).setCell ⟨w.heap.size + 1 + 1, 2, none⟩ (.int .i64 s.closed)).setCell ⟨w.heap.size + 1 + 1, 3, none⟩ (.int .u64 (s.next : Nat))).setCell ⟨w.heap.size + 1 + 1, 4, none⟩ (.slice Ar (L + 1) cr)).setCell ⟨w.heap.size + 1 + 1, 5, none⟩ (.slice Aq nt ct)).setCell ⟨w.heap.size + 1 + 1, 6, none⟩ (.slice Am nm cm) →
    ROut X w f (.slice Bu nu cu) (applyM at' al ⟨6, id, en, ea, name, text, ev⟩ s) (.returned (.tuple #[.agg #[.string f, .slice Bu nu cu, .int .i64 s.closed, .int .u64 (s.next : Nat), .slice Ar (L + 1) cr, .slice Aq nt ct, .slice Am nm cm], .bool true])) W7) := Lib.hid fun cF w6 W7 Ar cr ho hbr hbF hw6 hb6 hW7 => by
   have hb7 : Below w.heap.size w W7 := by rw [hW7]; exact below7 (g := w.heap.size + 1 + 1) hb6 (Nat.le_succ_of_le (Nat.le_succ _)) _ _ _ _ _ _ _
   have hs := HS1.out
   have hu := HBu0.out
   have ho7 := own_move (w' := W7) ho (fun r hr => by
    have := hbr r hr
    rw [hW7, heap7 (by omega), hw6]
    exact RowKit.Below.heap_setCell _ _ _ _ (by show r ≠ w.heap.size; omega))
   refine ⟨hb7, s.closed, s.next, .slice Ar (L + 1) cr, .slice Aq nt ct, .slice Am nm cm, ⟨_, _, _, rfl⟩, ⟨_, _, _, rfl⟩, ⟨_, _, _, rfl⟩, by rw [HN.out]; rfl, fun s' hs => ?_⟩
   rw [HN.out] at hs
   cases hs
   refine ⟨rfl, rfl, ⟨⟨xs ++ (#[Value.string text] : Array Value).toList, ?_, ?_⟩, (HRV.out.leads (veil_below X hb7)).tasks, (HRV.out.leads (veil_below X hb7)).timers⟩⟩
   ·have e : (s.keys ++ [text]).length = L + 1 := by rw [List.length_append, ← HLL.out]; rfl
    dsimp only
    rw [e]
    refine CIn.of_veil ho7 ?_ (by intro c hc; have := HXB.out c hc; have := HBu0.out; have := HS1.out; omega)
    intro x hx
    rcases List.mem_append.1 hx with q | q
    ·exact HCI.out.2.1 x q
    ·exact HONE.out x q
   ·refine ⟨by rw [HST.out.1]; simp, fun k hk => ?_⟩
    rcases List.mem_append.1 hk with q | q
    ·exact HST.out.2 k q
    ·rw [List.mem_singleton.1 q]; exact HE.out.f.t1
  clear x0 x1 x2 x3 x4 x5 x6 y0 y1 y2 e0 e1 e2 e3 e4 e5 e6 e7 e8 e9 e10
  clear q0 q1 q2 q3 q4 q5 q6 qf0 qf1 qf2 qf3 qf4 qf5 qf6 xf
  refine wp_region_noPanic ?_
  refine wp_region_held_drew (S := (fun W : World => W.cell? ⟨w.heap.size + 3, 5, none⟩ = some (.string text))) (by kernel_rfl) ?_ (fun hHeld => ?_)
  ·rw [← hu0]; exact HKS.out _ (Below.refl _ _)
  rw [← hu0] at hHeld
  rw [← hu0]
  replace hu0 := Lib.hid hu0
  refine tk 1 rfl ?_
  refine tk 4 rfl ?_
  refine tk 5 rfl ?_
  refine wpAnyH_ready (rs := [0, 2, 6]) (by kernel_rfl) (by simp) ?_
  refine cons_drop rfl (fun K hK => ?_) (cons_drop rfl (fun K hK => ?_) (cons_drop rfl (fun K hK => ?_) AllReadyH.nil))
  ·go_simp
   obtain ⟨zw0, hc0⟩ : ∃ u, u = u0.alloc (.cells #[] 9) := ⟨_, rfl⟩
   rw [← hc0]
   obtain ⟨ia, hia⟩ : ∃ i, i = u0.heap.size := ⟨_, rfl⟩
   rw [← hia]
   have hbz : Below u0.heap.size u0 zw0 := by rw [hc0]; exact (Below.refl _ _).alloc (Nat.le_refl _) _
   have HB0 : Hid (Below u0.heap.size u0 zw0) := Lib.hid (HBu.out.trans (hbz.mono HBu.out.size))
   have own0_0 : Hid (zw0.ownsRow u0.heap.size 9 1 (.slice (some ⟨ia, 0, none⟩) 0 0) 0 []) := Lib.hid (by rw [hc0, hia]; exact World.ownsRow_lit u0 #[] 0 HBu.out.size (Nat.zero_le _) (by simp))
   clear hbz
   replace hc0 := Lib.hid hc0
   replace hia := Lib.hid hia
   refine hK.out _ _ (HKS.out _ HB0.out) (fun hH0 => ?_)
   clear hK K hHeld
   try simp only [ap]
   refine rd2 2 6 rfl rfl (fun K hK => ?_) fun K hK => ?_
   ·obtain ⟨cx, -⟩ := HCX.out zw0 HB0.out
    go_simp
    refine hK.out _ _ (HKS.out _ HB0.out) (fun hH0L => ?_)
    clear hK K hH0
    try simp only [ap]
    clear cx
    refine rd2 3 6 rfl rfl (fun K hK => ?_) fun K hK => ?_
    ·refine step_append_any zw0 rfl _ _ 81 9 rfl i0 _ 1 16 Tryz.underlying81 HSZ.out hi0 hz0 hz1 hz2 rfl (by decide) u0.heap.size (.slice (some ⟨ia, 0, none⟩) 0 0) (.slice Ak L ck) 0 L [] xs rfl rfl own0_0.out (HIN.out _ HB0.out) (by simp only [maxLen]; omega) (by omega) HB0.out.size ?_
     intro v1 zw0A hown hgr
     have HB0A : Hid (Below u0.heap.size u0 zw0A) := Lib.hid (below_grown HB0.out hgr (fun r hr => (own0_0.out.lt r hr).1) HB0.out.size)
     rw [Nat.zero_add, List.nil_append] at hown
     have own1_0A := Lib.hid hown
     clear hown hgr
     refine hK.out _ _ (HKS.out _ HB0A.out) (fun hH0AL => ?_)
     clear hK K hH0L
     try simp only [ap]
     refine rd1 6 rfl fun K hK => ?_
     go_simp
     obtain ⟨zw01A, hc01A⟩ : ∃ u, u = zw0A.alloc (.cells #[Value.string text] 9) := ⟨_, rfl⟩
     rw [← hc01A]
     obtain ⟨ib, hib⟩ : ∃ i, i = zw0A.heap.size := ⟨_, rfl⟩
     rw [← hib]
     have hbz : Below zw0A.heap.size zw0A zw01A := by rw [hc01A]; exact (Below.refl _ _).alloc (Nat.le_refl _) _
     have HB01A : Hid (Below u0.heap.size u0 zw01A) := Lib.hid (HB0A.out.trans (hbz.mono HB0A.out.size))
     have one_01A : Hid (CIn zw01A (.slice (some ⟨ib, 0, none⟩) 1 1) 1 1 #[Value.string text].toList) := Lib.hid (by rw [hc01A, hib]; exact CIn.new zw0A _ _ rfl HONE.out)
     have own1_01A := Lib.hid (own_stay own1_0A.out hbz)
     clear hbz
     replace hc01A := Lib.hid hc01A
     replace hib := Lib.hid hib
     refine hK.out _ _ (HKS.out _ HB01A.out) (fun hH01AL => ?_)
     clear hK K hH0AL
     try simp only [ap]
     refine rd1 7 rfl fun K hK => ?_
     refine step_append_any zw01A rfl _ _ 81 9 rfl i0 _ 1 16 Tryz.underlying81 HSZ.out hi0 hz0 hz1 hz2 rfl (by decide) u0.heap.size v1 (.slice (some ⟨ib, 0, none⟩) 1 1) L 1 xs #[Value.string text].toList rfl rfl own1_01A.out one_01A.out (by simp only [maxLen]; omega) (by omega) HB01A.out.size ?_
     intro vF cF hown hgr
     obtain ⟨Ar, cr, rfl, hbr⟩ := own_slice hown
     have HOF := Lib.hid hown; have HBRF := Lib.hid hbr
     have HBF : Hid (Below u0.heap.size u0 cF) := Lib.hid (below_grown HB01A.out hgr (fun r hr => (own1_01A.out.lt r hr).1) HB01A.out.size)
     clear hown hgr hbr
     refine hK.out _ _ (HKS.out _ HBF.out) (fun hH01ABL => ?_)
     clear hK K hH01AL
     try simp only [ap]
     refine tk 8 rfl ?_
     obtain ⟨cx, fx⟩ := HCX.out cF HBF.out
     refine rd1 9 rfl fun K hK => ?_
     go_simp
     refine hK.out _ _ (HKS2.out _ _ HBF.out) (fun hHeldZ => ?_)
     clear hK K hH01ABL
     try simp only [ap]
     refine wpAnyH_done (by kernel_rfl) ?_ _
     refine NoPanic.normal ?_
     clear hHeldZ cx fx
     obtain ⟨w6, hw6⟩ : ∃ w6, w6 = cF.setCell ⟨w.heap.size, 4, none⟩ (.slice Ar (L + 1) cr) := ⟨_, rfl⟩
     have hbF1 : Below W1.heap.size W1 cF := HBu1.out _ HBF.out
     have hx6 : RX w6 w.heap.size f (.slice Bu nu cu) s.closed s.next (.slice Ar (L + 1) cr) (.slice Aq nt ct) (.slice Am nm cm) := by rw [hw6]; exact (HX.out cF hbF1).1.set4
     have hq6 : RX w6 (w.heap.size + 1 + 1) ⟨#[]⟩ (.slice none 0 0) 0 0 (.slice none 0 0) (.slice none 0 0) (.slice none 0 0) := by rw [hw6]; exact (HX.out cF hbF1).2.2.1.far (by omega)
     have HB6 : Hid (Below w.heap.size w w6) := Lib.hid (by rw [hw6]; exact (HBW.out cF hbF1).setCell (p := ⟨w.heap.size, 4, none⟩) (Nat.le_refl _) _)
     have HW6 := Lib.hid hw6
     obtain ⟨x0, x1, x2, x3, x4, x5, x6, xf⟩ := hx6.cells
     obtain ⟨q0, q1, q2, q3, q4, q5, q6, qf⟩ := hq6.cells
     rw [show ((0 : Nat) : Int) = 0 from rfl] at q3
     have qf0 := qf 0; have qf1 := qf 1; have qf2 := qf 2; have qf3 := qf 3; have qf4 := qf 4; have qf5 := qf 5; have qf6 := qf 6
     clear qf xf hx6 hq6 hbF1
     rw [← hw6]
     clear hw6
     go_wp2_with fail
     refine bodyPost_ret (v := .tuple #[.agg #[.string f, .slice Bu nu cu, .int .i64 s.closed, .int .u64 (s.next : Nat), .slice Ar (L + 1) cr, .slice Aq nt ct, .slice Am nm cm], .bool true]) (by simp [results, Tryz.results81, go_sem, q0, q1, q2, q3, q4, q5, q6]) rfl ?_
     obtain ⟨W7, hW7⟩ : ∃ W7, W7 = ((((((w6.setCell ⟨w.heap.size + 1 + 1, 0, none⟩ (.string f)).setCell ⟨w.heap.size + 1 + 1, 1, none⟩ (.slice Bu nu cu)).setCell ⟨w.heap.size + 1 + 1, 2, none⟩ (.int .i64 s.closed)).setCell ⟨w.heap.size + 1 + 1, 3, none⟩ (.int .u64 (s.next : Nat))).setCell ⟨w.heap.size + 1 + 1, 4, none⟩ (.slice Ar (L + 1) cr)).setCell ⟨w.heap.size + 1 + 1, 5, none⟩ (.slice Aq nt ct)).setCell ⟨w.heap.size + 1 + 1, 6, none⟩ (.slice Am nm cm) := ⟨_, rfl⟩
     rw [← hW7]
     exact HOUT.out cF w6 W7 Ar cr HOF.out HBRF.out HBF.out HW6.out HB6.out hW7
    ·go_simp
     obtain ⟨zw01, hc01⟩ : ∃ u, u = zw0.alloc (.cells #[Value.string text] 9) := ⟨_, rfl⟩
     rw [← hc01]
     obtain ⟨ib, hib⟩ : ∃ i, i = zw0.heap.size := ⟨_, rfl⟩
     rw [← hib]
     have hbz : Below zw0.heap.size zw0 zw01 := by rw [hc01]; exact (Below.refl _ _).alloc (Nat.le_refl _) _
     have HB01 : Hid (Below u0.heap.size u0 zw01) := Lib.hid (HB0.out.trans (hbz.mono HB0.out.size))
     have one_01 : Hid (CIn zw01 (.slice (some ⟨ib, 0, none⟩) 1 1) 1 1 #[Value.string text].toList) := Lib.hid (by rw [hc01, hib]; exact CIn.new zw0 _ _ rfl HONE.out)
     have HNE : Hid (ib ≠ ia) := Lib.hid (by have q := (own0_0.out.lt ia rfl).2; omega)
     have own0_01 := Lib.hid (own_stay own0_0.out hbz)
     clear hbz
     replace hc01 := Lib.hid hc01
     replace hib := Lib.hid hib
     refine hK.out _ _ (HKS.out _ HB01.out) (fun hH01L => ?_)
     clear hK K hH0L
     try simp only [ap]
     refine rd1 3 rfl fun K hK => ?_
     refine step_append_any zw01 rfl _ _ 81 9 rfl i0 _ 1 16 Tryz.underlying81 HSZ.out hi0 hz0 hz1 hz2 rfl (by decide) u0.heap.size (.slice (some ⟨ia, 0, none⟩) 0 0) (.slice Ak L ck) 0 L [] xs rfl rfl own0_01.out (HIN.out _ HB01.out) (by simp only [maxLen]; omega) (by omega) HB01.out.size ?_
     intro v1 zw01A hown hgr
     have HB01A : Hid (Below u0.heap.size u0 zw01A) := Lib.hid (below_grown HB01.out hgr (fun r hr => (own0_01.out.lt r hr).1) HB01.out.size)
     rw [Nat.zero_add, List.nil_append] at hown
     have own1_01A := Lib.hid hown
     have one_01A := Lib.hid (CIn.grown one_01.out hgr (fun e => HNE.out (Option.some.inj e)))
     clear hown hgr
     refine hK.out _ _ (HKS.out _ HB01A.out) (fun hH01AL => ?_)
     clear hK K hH01L
     try simp only [ap]
     refine rd1 7 rfl fun K hK => ?_
     refine step_append_any zw01A rfl _ _ 81 9 rfl i0 _ 1 16 Tryz.underlying81 HSZ.out hi0 hz0 hz1 hz2 rfl (by decide) u0.heap.size v1 (.slice (some ⟨ib, 0, none⟩) 1 1) L 1 xs #[Value.string text].toList rfl rfl own1_01A.out one_01A.out (by simp only [maxLen]; omega) (by omega) HB01A.out.size ?_
     intro vF cF hown hgr
     obtain ⟨Ar, cr, rfl, hbr⟩ := own_slice hown
     have HOF := Lib.hid hown; have HBRF := Lib.hid hbr
     have HBF : Hid (Below u0.heap.size u0 cF) := Lib.hid (below_grown HB01A.out hgr (fun r hr => (own1_01A.out.lt r hr).1) HB01A.out.size)
     clear hown hgr hbr
     refine hK.out _ _ (HKS.out _ HBF.out) (fun hH01ABL => ?_)
     clear hK K hH01AL
     try simp only [ap]
     refine tk 8 rfl ?_
     obtain ⟨cx, fx⟩ := HCX.out cF HBF.out
     refine rd1 9 rfl fun K hK => ?_
     go_simp
     refine hK.out _ _ (HKS2.out _ _ HBF.out) (fun hHeldZ => ?_)
     clear hK K hH01ABL
     try simp only [ap]
     refine wpAnyH_done (by kernel_rfl) ?_ _
     refine NoPanic.normal ?_
     clear hHeldZ cx fx
     obtain ⟨w6, hw6⟩ : ∃ w6, w6 = cF.setCell ⟨w.heap.size, 4, none⟩ (.slice Ar (L + 1) cr) := ⟨_, rfl⟩
     have hbF1 : Below W1.heap.size W1 cF := HBu1.out _ HBF.out
     have hx6 : RX w6 w.heap.size f (.slice Bu nu cu) s.closed s.next (.slice Ar (L + 1) cr) (.slice Aq nt ct) (.slice Am nm cm) := by rw [hw6]; exact (HX.out cF hbF1).1.set4
     have hq6 : RX w6 (w.heap.size + 1 + 1) ⟨#[]⟩ (.slice none 0 0) 0 0 (.slice none 0 0) (.slice none 0 0) (.slice none 0 0) := by rw [hw6]; exact (HX.out cF hbF1).2.2.1.far (by omega)
     have HB6 : Hid (Below w.heap.size w w6) := Lib.hid (by rw [hw6]; exact (HBW.out cF hbF1).setCell (p := ⟨w.heap.size, 4, none⟩) (Nat.le_refl _) _)
     have HW6 := Lib.hid hw6
     obtain ⟨x0, x1, x2, x3, x4, x5, x6, xf⟩ := hx6.cells
     obtain ⟨q0, q1, q2, q3, q4, q5, q6, qf⟩ := hq6.cells
     rw [show ((0 : Nat) : Int) = 0 from rfl] at q3
     have qf0 := qf 0; have qf1 := qf 1; have qf2 := qf 2; have qf3 := qf 3; have qf4 := qf 4; have qf5 := qf 5; have qf6 := qf 6
     clear qf xf hx6 hq6 hbF1
     rw [← hw6]
     clear hw6
     go_wp2_with fail
     refine bodyPost_ret (v := .tuple #[.agg #[.string f, .slice Bu nu cu, .int .i64 s.closed, .int .u64 (s.next : Nat), .slice Ar (L + 1) cr, .slice Aq nt ct, .slice Am nm cm], .bool true]) (by simp [results, Tryz.results81, go_sem, q0, q1, q2, q3, q4, q5, q6]) rfl ?_
     obtain ⟨W7, hW7⟩ : ∃ W7, W7 = ((((((w6.setCell ⟨w.heap.size + 1 + 1, 0, none⟩ (.string f)).setCell ⟨w.heap.size + 1 + 1, 1, none⟩ (.slice Bu nu cu)).setCell ⟨w.heap.size + 1 + 1, 2, none⟩ (.int .i64 s.closed)).setCell ⟨w.heap.size + 1 + 1, 3, none⟩ (.int .u64 (s.next : Nat))).setCell ⟨w.heap.size + 1 + 1, 4, none⟩ (.slice Ar (L + 1) cr)).setCell ⟨w.heap.size + 1 + 1, 5, none⟩ (.slice Aq nt ct)).setCell ⟨w.heap.size + 1 + 1, 6, none⟩ (.slice Am nm cm) := ⟨_, rfl⟩
     rw [← hW7]
     exact HOUT.out cF w6 W7 Ar cr HOF.out HBRF.out HBF.out HW6.out HB6.out hW7
   ·go_simp
    obtain ⟨zw01, hc01⟩ : ∃ u, u = zw0.alloc (.cells #[Value.string text] 9) := ⟨_, rfl⟩
    rw [← hc01]
    obtain ⟨ib, hib⟩ : ∃ i, i = zw0.heap.size := ⟨_, rfl⟩
    rw [← hib]
    have hbz : Below zw0.heap.size zw0 zw01 := by rw [hc01]; exact (Below.refl _ _).alloc (Nat.le_refl _) _
    have HB01 : Hid (Below u0.heap.size u0 zw01) := Lib.hid (HB0.out.trans (hbz.mono HB0.out.size))
    have one_01 : Hid (CIn zw01 (.slice (some ⟨ib, 0, none⟩) 1 1) 1 1 #[Value.string text].toList) := Lib.hid (by rw [hc01, hib]; exact CIn.new zw0 _ _ rfl HONE.out)
    have HNE : Hid (ib ≠ ia) := Lib.hid (by have q := (own0_0.out.lt ia rfl).2; omega)
    have own0_01 := Lib.hid (own_stay own0_0.out hbz)
    clear hbz
    replace hc01 := Lib.hid hc01
    replace hib := Lib.hid hib
    refine hK.out _ _ (HKS.out _ HB01.out) (fun hH01 => ?_)
    clear hK K hH0
    try simp only [ap]
    refine rd1 2 rfl fun K hK => ?_
    obtain ⟨cx, -⟩ := HCX.out zw01 HB01.out
    go_simp
    refine hK.out _ _ (HKS.out _ HB01.out) (fun hH01L => ?_)
    clear hK K hH01
    try simp only [ap]
    clear cx
    refine rd1 3 rfl fun K hK => ?_
    refine step_append_any zw01 rfl _ _ 81 9 rfl i0 _ 1 16 Tryz.underlying81 HSZ.out hi0 hz0 hz1 hz2 rfl (by decide) u0.heap.size (.slice (some ⟨ia, 0, none⟩) 0 0) (.slice Ak L ck) 0 L [] xs rfl rfl own0_01.out (HIN.out _ HB01.out) (by simp only [maxLen]; omega) (by omega) HB01.out.size ?_
    intro v1 zw01A hown hgr
    have HB01A : Hid (Below u0.heap.size u0 zw01A) := Lib.hid (below_grown HB01.out hgr (fun r hr => (own0_01.out.lt r hr).1) HB01.out.size)
    rw [Nat.zero_add, List.nil_append] at hown
    have own1_01A := Lib.hid hown
    have one_01A := Lib.hid (CIn.grown one_01.out hgr (fun e => HNE.out (Option.some.inj e)))
    clear hown hgr
    refine hK.out _ _ (HKS.out _ HB01A.out) (fun hH01AL => ?_)
    clear hK K hH01L
    try simp only [ap]
    refine rd1 7 rfl fun K hK => ?_
    refine step_append_any zw01A rfl _ _ 81 9 rfl i0 _ 1 16 Tryz.underlying81 HSZ.out hi0 hz0 hz1 hz2 rfl (by decide) u0.heap.size v1 (.slice (some ⟨ib, 0, none⟩) 1 1) L 1 xs #[Value.string text].toList rfl rfl own1_01A.out one_01A.out (by simp only [maxLen]; omega) (by omega) HB01A.out.size ?_
    intro vF cF hown hgr
    obtain ⟨Ar, cr, rfl, hbr⟩ := own_slice hown
    have HOF := Lib.hid hown; have HBRF := Lib.hid hbr
    have HBF : Hid (Below u0.heap.size u0 cF) := Lib.hid (below_grown HB01A.out hgr (fun r hr => (own1_01A.out.lt r hr).1) HB01A.out.size)
    clear hown hgr hbr
    refine hK.out _ _ (HKS.out _ HBF.out) (fun hH01ABL => ?_)
    clear hK K hH01AL
    try simp only [ap]
    refine tk 8 rfl ?_
    obtain ⟨cx, fx⟩ := HCX.out cF HBF.out
    refine rd1 9 rfl fun K hK => ?_
    go_simp
    refine hK.out _ _ (HKS2.out _ _ HBF.out) (fun hHeldZ => ?_)
    clear hK K hH01ABL
    try simp only [ap]
    refine wpAnyH_done (by kernel_rfl) ?_ _
    refine NoPanic.normal ?_
    clear hHeldZ cx fx
    obtain ⟨w6, hw6⟩ : ∃ w6, w6 = cF.setCell ⟨w.heap.size, 4, none⟩ (.slice Ar (L + 1) cr) := ⟨_, rfl⟩
    have hbF1 : Below W1.heap.size W1 cF := HBu1.out _ HBF.out
    have hx6 : RX w6 w.heap.size f (.slice Bu nu cu) s.closed s.next (.slice Ar (L + 1) cr) (.slice Aq nt ct) (.slice Am nm cm) := by rw [hw6]; exact (HX.out cF hbF1).1.set4
    have hq6 : RX w6 (w.heap.size + 1 + 1) ⟨#[]⟩ (.slice none 0 0) 0 0 (.slice none 0 0) (.slice none 0 0) (.slice none 0 0) := by rw [hw6]; exact (HX.out cF hbF1).2.2.1.far (by omega)
    have HB6 : Hid (Below w.heap.size w w6) := Lib.hid (by rw [hw6]; exact (HBW.out cF hbF1).setCell (p := ⟨w.heap.size, 4, none⟩) (Nat.le_refl _) _)
    have HW6 := Lib.hid hw6
    obtain ⟨x0, x1, x2, x3, x4, x5, x6, xf⟩ := hx6.cells
    obtain ⟨q0, q1, q2, q3, q4, q5, q6, qf⟩ := hq6.cells
    rw [show ((0 : Nat) : Int) = 0 from rfl] at q3
    have qf0 := qf 0; have qf1 := qf 1; have qf2 := qf 2; have qf3 := qf 3; have qf4 := qf 4; have qf5 := qf 5; have qf6 := qf 6
    clear qf xf hx6 hq6 hbF1
    rw [← hw6]
    clear hw6
    go_wp2_with fail
    refine bodyPost_ret (v := .tuple #[.agg #[.string f, .slice Bu nu cu, .int .i64 s.closed, .int .u64 (s.next : Nat), .slice Ar (L + 1) cr, .slice Aq nt ct, .slice Am nm cm], .bool true]) (by simp [results, Tryz.results81, go_sem, q0, q1, q2, q3, q4, q5, q6]) rfl ?_
    obtain ⟨W7, hW7⟩ : ∃ W7, W7 = ((((((w6.setCell ⟨w.heap.size + 1 + 1, 0, none⟩ (.string f)).setCell ⟨w.heap.size + 1 + 1, 1, none⟩ (.slice Bu nu cu)).setCell ⟨w.heap.size + 1 + 1, 2, none⟩ (.int .i64 s.closed)).setCell ⟨w.heap.size + 1 + 1, 3, none⟩ (.int .u64 (s.next : Nat))).setCell ⟨w.heap.size + 1 + 1, 4, none⟩ (.slice Ar (L + 1) cr)).setCell ⟨w.heap.size + 1 + 1, 5, none⟩ (.slice Aq nt ct)).setCell ⟨w.heap.size + 1 + 1, 6, none⟩ (.slice Am nm cm) := ⟨_, rfl⟩
    rw [← hW7]
    exact HOUT.out cF w6 W7 Ar cr HOF.out HBRF.out HBF.out HW6.out HB6.out hW7
  ·obtain ⟨cx, -⟩ := HCX.out u0 HBu.out
   go_simp
   refine hK.out _ _ (HKS.out _ HBu.out) (fun hHL => ?_)
   clear hK K hHeld
   try simp only [ap]
   clear cx
   refine rd2 0 6 rfl rfl (fun K hK => ?_) fun K hK => ?_
   ·go_simp
    obtain ⟨zw0, hc0⟩ : ∃ u, u = u0.alloc (.cells #[] 9) := ⟨_, rfl⟩
    rw [← hc0]
    obtain ⟨ia, hia⟩ : ∃ i, i = u0.heap.size := ⟨_, rfl⟩
    rw [← hia]
    have hbz : Below u0.heap.size u0 zw0 := by rw [hc0]; exact (Below.refl _ _).alloc (Nat.le_refl _) _
    have HB0 : Hid (Below u0.heap.size u0 zw0) := Lib.hid (HBu.out.trans (hbz.mono HBu.out.size))
    have own0_0 : Hid (zw0.ownsRow u0.heap.size 9 1 (.slice (some ⟨ia, 0, none⟩) 0 0) 0 []) := Lib.hid (by rw [hc0, hia]; exact World.ownsRow_lit u0 #[] 0 HBu.out.size (Nat.zero_le _) (by simp))
    clear hbz
    replace hc0 := Lib.hid hc0
    replace hia := Lib.hid hia
    refine hK.out _ _ (HKS.out _ HB0.out) (fun hH0L => ?_)
    clear hK K hHL
    try simp only [ap]
    refine rd2 3 6 rfl rfl (fun K hK => ?_) fun K hK => ?_
    ·refine step_append_any zw0 rfl _ _ 81 9 rfl i0 _ 1 16 Tryz.underlying81 HSZ.out hi0 hz0 hz1 hz2 rfl (by decide) u0.heap.size (.slice (some ⟨ia, 0, none⟩) 0 0) (.slice Ak L ck) 0 L [] xs rfl rfl own0_0.out (HIN.out _ HB0.out) (by simp only [maxLen]; omega) (by omega) HB0.out.size ?_
     intro v1 zw0A hown hgr
     have HB0A : Hid (Below u0.heap.size u0 zw0A) := Lib.hid (below_grown HB0.out hgr (fun r hr => (own0_0.out.lt r hr).1) HB0.out.size)
     rw [Nat.zero_add, List.nil_append] at hown
     have own1_0A := Lib.hid hown
     clear hown hgr
     refine hK.out _ _ (HKS.out _ HB0A.out) (fun hH0AL => ?_)
     clear hK K hH0L
     try simp only [ap]
     refine rd1 6 rfl fun K hK => ?_
     go_simp
     obtain ⟨zw01A, hc01A⟩ : ∃ u, u = zw0A.alloc (.cells #[Value.string text] 9) := ⟨_, rfl⟩
     rw [← hc01A]
     obtain ⟨ib, hib⟩ : ∃ i, i = zw0A.heap.size := ⟨_, rfl⟩
     rw [← hib]
     have hbz : Below zw0A.heap.size zw0A zw01A := by rw [hc01A]; exact (Below.refl _ _).alloc (Nat.le_refl _) _
     have HB01A : Hid (Below u0.heap.size u0 zw01A) := Lib.hid (HB0A.out.trans (hbz.mono HB0A.out.size))
     have one_01A : Hid (CIn zw01A (.slice (some ⟨ib, 0, none⟩) 1 1) 1 1 #[Value.string text].toList) := Lib.hid (by rw [hc01A, hib]; exact CIn.new zw0A _ _ rfl HONE.out)
     have own1_01A := Lib.hid (own_stay own1_0A.out hbz)
     clear hbz
     replace hc01A := Lib.hid hc01A
     replace hib := Lib.hid hib
     refine hK.out _ _ (HKS.out _ HB01A.out) (fun hH01AL => ?_)
     clear hK K hH0AL
     try simp only [ap]
     refine rd1 7 rfl fun K hK => ?_
     refine step_append_any zw01A rfl _ _ 81 9 rfl i0 _ 1 16 Tryz.underlying81 HSZ.out hi0 hz0 hz1 hz2 rfl (by decide) u0.heap.size v1 (.slice (some ⟨ib, 0, none⟩) 1 1) L 1 xs #[Value.string text].toList rfl rfl own1_01A.out one_01A.out (by simp only [maxLen]; omega) (by omega) HB01A.out.size ?_
     intro vF cF hown hgr
     obtain ⟨Ar, cr, rfl, hbr⟩ := own_slice hown
     have HOF := Lib.hid hown; have HBRF := Lib.hid hbr
     have HBF : Hid (Below u0.heap.size u0 cF) := Lib.hid (below_grown HB01A.out hgr (fun r hr => (own1_01A.out.lt r hr).1) HB01A.out.size)
     clear hown hgr hbr
     refine hK.out _ _ (HKS.out _ HBF.out) (fun hH01ABL => ?_)
     clear hK K hH01AL
     try simp only [ap]
     refine tk 8 rfl ?_
     obtain ⟨cx, fx⟩ := HCX.out cF HBF.out
     refine rd1 9 rfl fun K hK => ?_
     go_simp
     refine hK.out _ _ (HKS2.out _ _ HBF.out) (fun hHeldZ => ?_)
     clear hK K hH01ABL
     try simp only [ap]
     refine wpAnyH_done (by kernel_rfl) ?_ _
     refine NoPanic.normal ?_
     clear hHeldZ cx fx
     obtain ⟨w6, hw6⟩ : ∃ w6, w6 = cF.setCell ⟨w.heap.size, 4, none⟩ (.slice Ar (L + 1) cr) := ⟨_, rfl⟩
     have hbF1 : Below W1.heap.size W1 cF := HBu1.out _ HBF.out
     have hx6 : RX w6 w.heap.size f (.slice Bu nu cu) s.closed s.next (.slice Ar (L + 1) cr) (.slice Aq nt ct) (.slice Am nm cm) := by rw [hw6]; exact (HX.out cF hbF1).1.set4
     have hq6 : RX w6 (w.heap.size + 1 + 1) ⟨#[]⟩ (.slice none 0 0) 0 0 (.slice none 0 0) (.slice none 0 0) (.slice none 0 0) := by rw [hw6]; exact (HX.out cF hbF1).2.2.1.far (by omega)
     have HB6 : Hid (Below w.heap.size w w6) := Lib.hid (by rw [hw6]; exact (HBW.out cF hbF1).setCell (p := ⟨w.heap.size, 4, none⟩) (Nat.le_refl _) _)
     have HW6 := Lib.hid hw6
     obtain ⟨x0, x1, x2, x3, x4, x5, x6, xf⟩ := hx6.cells
     obtain ⟨q0, q1, q2, q3, q4, q5, q6, qf⟩ := hq6.cells
     rw [show ((0 : Nat) : Int) = 0 from rfl] at q3
     have qf0 := qf 0; have qf1 := qf 1; have qf2 := qf 2; have qf3 := qf 3; have qf4 := qf 4; have qf5 := qf 5; have qf6 := qf 6
     clear qf xf hx6 hq6 hbF1
     rw [← hw6]
     clear hw6
     go_wp2_with fail
     refine bodyPost_ret (v := .tuple #[.agg #[.string f, .slice Bu nu cu, .int .i64 s.closed, .int .u64 (s.next : Nat), .slice Ar (L + 1) cr, .slice Aq nt ct, .slice Am nm cm], .bool true]) (by simp [results, Tryz.results81, go_sem, q0, q1, q2, q3, q4, q5, q6]) rfl ?_
     obtain ⟨W7, hW7⟩ : ∃ W7, W7 = ((((((w6.setCell ⟨w.heap.size + 1 + 1, 0, none⟩ (.string f)).setCell ⟨w.heap.size + 1 + 1, 1, none⟩ (.slice Bu nu cu)).setCell ⟨w.heap.size + 1 + 1, 2, none⟩ (.int .i64 s.closed)).setCell ⟨w.heap.size + 1 + 1, 3, none⟩ (.int .u64 (s.next : Nat))).setCell ⟨w.heap.size + 1 + 1, 4, none⟩ (.slice Ar (L + 1) cr)).setCell ⟨w.heap.size + 1 + 1, 5, none⟩ (.slice Aq nt ct)).setCell ⟨w.heap.size + 1 + 1, 6, none⟩ (.slice Am nm cm) := ⟨_, rfl⟩
     rw [← hW7]
     exact HOUT.out cF w6 W7 Ar cr HOF.out HBRF.out HBF.out HW6.out HB6.out hW7
    ·go_simp
     obtain ⟨zw01, hc01⟩ : ∃ u, u = zw0.alloc (.cells #[Value.string text] 9) := ⟨_, rfl⟩
     rw [← hc01]
     obtain ⟨ib, hib⟩ : ∃ i, i = zw0.heap.size := ⟨_, rfl⟩
     rw [← hib]
     have hbz : Below zw0.heap.size zw0 zw01 := by rw [hc01]; exact (Below.refl _ _).alloc (Nat.le_refl _) _
     have HB01 : Hid (Below u0.heap.size u0 zw01) := Lib.hid (HB0.out.trans (hbz.mono HB0.out.size))
     have one_01 : Hid (CIn zw01 (.slice (some ⟨ib, 0, none⟩) 1 1) 1 1 #[Value.string text].toList) := Lib.hid (by rw [hc01, hib]; exact CIn.new zw0 _ _ rfl HONE.out)
     have HNE : Hid (ib ≠ ia) := Lib.hid (by have q := (own0_0.out.lt ia rfl).2; omega)
     have own0_01 := Lib.hid (own_stay own0_0.out hbz)
     clear hbz
     replace hc01 := Lib.hid hc01
     replace hib := Lib.hid hib
     refine hK.out _ _ (HKS.out _ HB01.out) (fun hH01L => ?_)
     clear hK K hH0L
     try simp only [ap]
     refine rd1 3 rfl fun K hK => ?_
     refine step_append_any zw01 rfl _ _ 81 9 rfl i0 _ 1 16 Tryz.underlying81 HSZ.out hi0 hz0 hz1 hz2 rfl (by decide) u0.heap.size (.slice (some ⟨ia, 0, none⟩) 0 0) (.slice Ak L ck) 0 L [] xs rfl rfl own0_01.out (HIN.out _ HB01.out) (by simp only [maxLen]; omega) (by omega) HB01.out.size ?_
     intro v1 zw01A hown hgr
     have HB01A : Hid (Below u0.heap.size u0 zw01A) := Lib.hid (below_grown HB01.out hgr (fun r hr => (own0_01.out.lt r hr).1) HB01.out.size)
     rw [Nat.zero_add, List.nil_append] at hown
     have own1_01A := Lib.hid hown
     have one_01A := Lib.hid (CIn.grown one_01.out hgr (fun e => HNE.out (Option.some.inj e)))
     clear hown hgr
     refine hK.out _ _ (HKS.out _ HB01A.out) (fun hH01AL => ?_)
     clear hK K hH01L
     try simp only [ap]
     refine rd1 7 rfl fun K hK => ?_
     refine step_append_any zw01A rfl _ _ 81 9 rfl i0 _ 1 16 Tryz.underlying81 HSZ.out hi0 hz0 hz1 hz2 rfl (by decide) u0.heap.size v1 (.slice (some ⟨ib, 0, none⟩) 1 1) L 1 xs #[Value.string text].toList rfl rfl own1_01A.out one_01A.out (by simp only [maxLen]; omega) (by omega) HB01A.out.size ?_
     intro vF cF hown hgr
     obtain ⟨Ar, cr, rfl, hbr⟩ := own_slice hown
     have HOF := Lib.hid hown; have HBRF := Lib.hid hbr
     have HBF : Hid (Below u0.heap.size u0 cF) := Lib.hid (below_grown HB01A.out hgr (fun r hr => (own1_01A.out.lt r hr).1) HB01A.out.size)
     clear hown hgr hbr
     refine hK.out _ _ (HKS.out _ HBF.out) (fun hH01ABL => ?_)
     clear hK K hH01AL
     try simp only [ap]
     refine tk 8 rfl ?_
     obtain ⟨cx, fx⟩ := HCX.out cF HBF.out
     refine rd1 9 rfl fun K hK => ?_
     go_simp
     refine hK.out _ _ (HKS2.out _ _ HBF.out) (fun hHeldZ => ?_)
     clear hK K hH01ABL
     try simp only [ap]
     refine wpAnyH_done (by kernel_rfl) ?_ _
     refine NoPanic.normal ?_
     clear hHeldZ cx fx
     obtain ⟨w6, hw6⟩ : ∃ w6, w6 = cF.setCell ⟨w.heap.size, 4, none⟩ (.slice Ar (L + 1) cr) := ⟨_, rfl⟩
     have hbF1 : Below W1.heap.size W1 cF := HBu1.out _ HBF.out
     have hx6 : RX w6 w.heap.size f (.slice Bu nu cu) s.closed s.next (.slice Ar (L + 1) cr) (.slice Aq nt ct) (.slice Am nm cm) := by rw [hw6]; exact (HX.out cF hbF1).1.set4
     have hq6 : RX w6 (w.heap.size + 1 + 1) ⟨#[]⟩ (.slice none 0 0) 0 0 (.slice none 0 0) (.slice none 0 0) (.slice none 0 0) := by rw [hw6]; exact (HX.out cF hbF1).2.2.1.far (by omega)
     have HB6 : Hid (Below w.heap.size w w6) := Lib.hid (by rw [hw6]; exact (HBW.out cF hbF1).setCell (p := ⟨w.heap.size, 4, none⟩) (Nat.le_refl _) _)
     have HW6 := Lib.hid hw6
     obtain ⟨x0, x1, x2, x3, x4, x5, x6, xf⟩ := hx6.cells
     obtain ⟨q0, q1, q2, q3, q4, q5, q6, qf⟩ := hq6.cells
     rw [show ((0 : Nat) : Int) = 0 from rfl] at q3
     have qf0 := qf 0; have qf1 := qf 1; have qf2 := qf 2; have qf3 := qf 3; have qf4 := qf 4; have qf5 := qf 5; have qf6 := qf 6
     clear qf xf hx6 hq6 hbF1
     rw [← hw6]
     clear hw6
     go_wp2_with fail
     refine bodyPost_ret (v := .tuple #[.agg #[.string f, .slice Bu nu cu, .int .i64 s.closed, .int .u64 (s.next : Nat), .slice Ar (L + 1) cr, .slice Aq nt ct, .slice Am nm cm], .bool true]) (by simp [results, Tryz.results81, go_sem, q0, q1, q2, q3, q4, q5, q6]) rfl ?_
     obtain ⟨W7, hW7⟩ : ∃ W7, W7 = ((((((w6.setCell ⟨w.heap.size + 1 + 1, 0, none⟩ (.string f)).setCell ⟨w.heap.size + 1 + 1, 1, none⟩ (.slice Bu nu cu)).setCell ⟨w.heap.size + 1 + 1, 2, none⟩ (.int .i64 s.closed)).setCell ⟨w.heap.size + 1 + 1, 3, none⟩ (.int .u64 (s.next : Nat))).setCell ⟨w.heap.size + 1 + 1, 4, none⟩ (.slice Ar (L + 1) cr)).setCell ⟨w.heap.size + 1 + 1, 5, none⟩ (.slice Aq nt ct)).setCell ⟨w.heap.size + 1 + 1, 6, none⟩ (.slice Am nm cm) := ⟨_, rfl⟩
     rw [← hW7]
     exact HOUT.out cF w6 W7 Ar cr HOF.out HBRF.out HBF.out HW6.out HB6.out hW7
   ·go_simp
    obtain ⟨zw1, hc1⟩ : ∃ u, u = u0.alloc (.cells #[Value.string text] 9) := ⟨_, rfl⟩
    rw [← hc1]
    obtain ⟨ib, hib⟩ : ∃ i, i = u0.heap.size := ⟨_, rfl⟩
    rw [← hib]
    have hbz : Below u0.heap.size u0 zw1 := by rw [hc1]; exact (Below.refl _ _).alloc (Nat.le_refl _) _
    have HB1 : Hid (Below u0.heap.size u0 zw1) := Lib.hid (HBu.out.trans (hbz.mono HBu.out.size))
    have one_1 : Hid (CIn zw1 (.slice (some ⟨ib, 0, none⟩) 1 1) 1 1 #[Value.string text].toList) := Lib.hid (by rw [hc1, hib]; exact CIn.new u0 _ _ rfl HONE.out)
    clear hbz
    replace hc1 := Lib.hid hc1
    replace hib := Lib.hid hib
    refine hK.out _ _ (HKS.out _ HB1.out) (fun hH1L => ?_)
    clear hK K hHL
    try simp only [ap]
    refine rd1 0 rfl fun K hK => ?_
    go_simp
    obtain ⟨zw01, hc01⟩ : ∃ u, u = zw1.alloc (.cells #[] 9) := ⟨_, rfl⟩
    rw [← hc01]
    obtain ⟨ia, hia⟩ : ∃ i, i = zw1.heap.size := ⟨_, rfl⟩
    rw [← hia]
    have hbz : Below zw1.heap.size zw1 zw01 := by rw [hc01]; exact (Below.refl _ _).alloc (Nat.le_refl _) _
    have HB01 : Hid (Below u0.heap.size u0 zw01) := Lib.hid (HB1.out.trans (hbz.mono HB1.out.size))
    have own0_01 : Hid (zw01.ownsRow u0.heap.size 9 1 (.slice (some ⟨ia, 0, none⟩) 0 0) 0 []) := Lib.hid (by rw [hc01, hia]; exact World.ownsRow_lit zw1 #[] 0 HB1.out.size (Nat.zero_le _) (by simp))
    have HNE : Hid (ib ≠ ia) := Lib.hid (by have q : ib < zw1.heap.size := one_1.out.lt; omega)
    have one_01 := Lib.hid (CIn.later one_1.out hbz)
    clear hbz
    replace hc01 := Lib.hid hc01
    replace hia := Lib.hid hia
    refine hK.out _ _ (HKS.out _ HB01.out) (fun hH01L => ?_)
    clear hK K hH1L
    try simp only [ap]
    refine rd1 3 rfl fun K hK => ?_
    refine step_append_any zw01 rfl _ _ 81 9 rfl i0 _ 1 16 Tryz.underlying81 HSZ.out hi0 hz0 hz1 hz2 rfl (by decide) u0.heap.size (.slice (some ⟨ia, 0, none⟩) 0 0) (.slice Ak L ck) 0 L [] xs rfl rfl own0_01.out (HIN.out _ HB01.out) (by simp only [maxLen]; omega) (by omega) HB01.out.size ?_
    intro v1 zw01A hown hgr
    have HB01A : Hid (Below u0.heap.size u0 zw01A) := Lib.hid (below_grown HB01.out hgr (fun r hr => (own0_01.out.lt r hr).1) HB01.out.size)
    rw [Nat.zero_add, List.nil_append] at hown
    have own1_01A := Lib.hid hown
    have one_01A := Lib.hid (CIn.grown one_01.out hgr (fun e => HNE.out (Option.some.inj e)))
    clear hown hgr
    refine hK.out _ _ (HKS.out _ HB01A.out) (fun hH01AL => ?_)
    clear hK K hH01L
    try simp only [ap]
    refine rd1 7 rfl fun K hK => ?_
    refine step_append_any zw01A rfl _ _ 81 9 rfl i0 _ 1 16 Tryz.underlying81 HSZ.out hi0 hz0 hz1 hz2 rfl (by decide) u0.heap.size v1 (.slice (some ⟨ib, 0, none⟩) 1 1) L 1 xs #[Value.string text].toList rfl rfl own1_01A.out one_01A.out (by simp only [maxLen]; omega) (by omega) HB01A.out.size ?_
    intro vF cF hown hgr
    obtain ⟨Ar, cr, rfl, hbr⟩ := own_slice hown
    have HOF := Lib.hid hown; have HBRF := Lib.hid hbr
    have HBF : Hid (Below u0.heap.size u0 cF) := Lib.hid (below_grown HB01A.out hgr (fun r hr => (own1_01A.out.lt r hr).1) HB01A.out.size)
    clear hown hgr hbr
    refine hK.out _ _ (HKS.out _ HBF.out) (fun hH01ABL => ?_)
    clear hK K hH01AL
    try simp only [ap]
    refine tk 8 rfl ?_
    obtain ⟨cx, fx⟩ := HCX.out cF HBF.out
    refine rd1 9 rfl fun K hK => ?_
    go_simp
    refine hK.out _ _ (HKS2.out _ _ HBF.out) (fun hHeldZ => ?_)
    clear hK K hH01ABL
    try simp only [ap]
    refine wpAnyH_done (by kernel_rfl) ?_ _
    refine NoPanic.normal ?_
    clear hHeldZ cx fx
    obtain ⟨w6, hw6⟩ : ∃ w6, w6 = cF.setCell ⟨w.heap.size, 4, none⟩ (.slice Ar (L + 1) cr) := ⟨_, rfl⟩
    have hbF1 : Below W1.heap.size W1 cF := HBu1.out _ HBF.out
    have hx6 : RX w6 w.heap.size f (.slice Bu nu cu) s.closed s.next (.slice Ar (L + 1) cr) (.slice Aq nt ct) (.slice Am nm cm) := by rw [hw6]; exact (HX.out cF hbF1).1.set4
    have hq6 : RX w6 (w.heap.size + 1 + 1) ⟨#[]⟩ (.slice none 0 0) 0 0 (.slice none 0 0) (.slice none 0 0) (.slice none 0 0) := by rw [hw6]; exact (HX.out cF hbF1).2.2.1.far (by omega)
    have HB6 : Hid (Below w.heap.size w w6) := Lib.hid (by rw [hw6]; exact (HBW.out cF hbF1).setCell (p := ⟨w.heap.size, 4, none⟩) (Nat.le_refl _) _)
    have HW6 := Lib.hid hw6
    obtain ⟨x0, x1, x2, x3, x4, x5, x6, xf⟩ := hx6.cells
    obtain ⟨q0, q1, q2, q3, q4, q5, q6, qf⟩ := hq6.cells
    rw [show ((0 : Nat) : Int) = 0 from rfl] at q3
    have qf0 := qf 0; have qf1 := qf 1; have qf2 := qf 2; have qf3 := qf 3; have qf4 := qf 4; have qf5 := qf 5; have qf6 := qf 6
    clear qf xf hx6 hq6 hbF1
    rw [← hw6]
    clear hw6
    go_wp2_with fail
    refine bodyPost_ret (v := .tuple #[.agg #[.string f, .slice Bu nu cu, .int .i64 s.closed, .int .u64 (s.next : Nat), .slice Ar (L + 1) cr, .slice Aq nt ct, .slice Am nm cm], .bool true]) (by simp [results, Tryz.results81, go_sem, q0, q1, q2, q3, q4, q5, q6]) rfl ?_
    obtain ⟨W7, hW7⟩ : ∃ W7, W7 = ((((((w6.setCell ⟨w.heap.size + 1 + 1, 0, none⟩ (.string f)).setCell ⟨w.heap.size + 1 + 1, 1, none⟩ (.slice Bu nu cu)).setCell ⟨w.heap.size + 1 + 1, 2, none⟩ (.int .i64 s.closed)).setCell ⟨w.heap.size + 1 + 1, 3, none⟩ (.int .u64 (s.next : Nat))).setCell ⟨w.heap.size + 1 + 1, 4, none⟩ (.slice Ar (L + 1) cr)).setCell ⟨w.heap.size + 1 + 1, 5, none⟩ (.slice Aq nt ct)).setCell ⟨w.heap.size + 1 + 1, 6, none⟩ (.slice Am nm cm) := ⟨_, rfl⟩
    rw [← hW7]
    exact HOUT.out cF w6 W7 Ar cr HOF.out HBRF.out HBF.out HW6.out HB6.out hW7
  ·go_simp
   obtain ⟨zw1, hc1⟩ : ∃ u, u = u0.alloc (.cells #[Value.string text] 9) := ⟨_, rfl⟩
   rw [← hc1]
   obtain ⟨ib, hib⟩ : ∃ i, i = u0.heap.size := ⟨_, rfl⟩
   rw [← hib]
   have hbz : Below u0.heap.size u0 zw1 := by rw [hc1]; exact (Below.refl _ _).alloc (Nat.le_refl _) _
   have HB1 : Hid (Below u0.heap.size u0 zw1) := Lib.hid (HBu.out.trans (hbz.mono HBu.out.size))
   have one_1 : Hid (CIn zw1 (.slice (some ⟨ib, 0, none⟩) 1 1) 1 1 #[Value.string text].toList) := Lib.hid (by rw [hc1, hib]; exact CIn.new u0 _ _ rfl HONE.out)
   clear hbz
   replace hc1 := Lib.hid hc1
   replace hib := Lib.hid hib
   refine hK.out _ _ (HKS.out _ HB1.out) (fun hH1 => ?_)
   clear hK K hHeld
   try simp only [ap]
   refine rd2 0 2 rfl rfl (fun K hK => ?_) fun K hK => ?_
   ·go_simp
    obtain ⟨zw01, hc01⟩ : ∃ u, u = zw1.alloc (.cells #[] 9) := ⟨_, rfl⟩
    rw [← hc01]
    obtain ⟨ia, hia⟩ : ∃ i, i = zw1.heap.size := ⟨_, rfl⟩
    rw [← hia]
    have hbz : Below zw1.heap.size zw1 zw01 := by rw [hc01]; exact (Below.refl _ _).alloc (Nat.le_refl _) _
    have HB01 : Hid (Below u0.heap.size u0 zw01) := Lib.hid (HB1.out.trans (hbz.mono HB1.out.size))
    have own0_01 : Hid (zw01.ownsRow u0.heap.size 9 1 (.slice (some ⟨ia, 0, none⟩) 0 0) 0 []) := Lib.hid (by rw [hc01, hia]; exact World.ownsRow_lit zw1 #[] 0 HB1.out.size (Nat.zero_le _) (by simp))
    have HNE : Hid (ib ≠ ia) := Lib.hid (by have q : ib < zw1.heap.size := one_1.out.lt; omega)
    have one_01 := Lib.hid (CIn.later one_1.out hbz)
    clear hbz
    replace hc01 := Lib.hid hc01
    replace hia := Lib.hid hia
    refine hK.out _ _ (HKS.out _ HB01.out) (fun hH01 => ?_)
    clear hK K hH1
    try simp only [ap]
    refine rd1 2 rfl fun K hK => ?_
    obtain ⟨cx, -⟩ := HCX.out zw01 HB01.out
    go_simp
    refine hK.out _ _ (HKS.out _ HB01.out) (fun hH01L => ?_)
    clear hK K hH01
    try simp only [ap]
    clear cx
    refine rd1 3 rfl fun K hK => ?_
    refine step_append_any zw01 rfl _ _ 81 9 rfl i0 _ 1 16 Tryz.underlying81 HSZ.out hi0 hz0 hz1 hz2 rfl (by decide) u0.heap.size (.slice (some ⟨ia, 0, none⟩) 0 0) (.slice Ak L ck) 0 L [] xs rfl rfl own0_01.out (HIN.out _ HB01.out) (by simp only [maxLen]; omega) (by omega) HB01.out.size ?_
    intro v1 zw01A hown hgr
    have HB01A : Hid (Below u0.heap.size u0 zw01A) := Lib.hid (below_grown HB01.out hgr (fun r hr => (own0_01.out.lt r hr).1) HB01.out.size)
    rw [Nat.zero_add, List.nil_append] at hown
    have own1_01A := Lib.hid hown
    have one_01A := Lib.hid (CIn.grown one_01.out hgr (fun e => HNE.out (Option.some.inj e)))
    clear hown hgr
    refine hK.out _ _ (HKS.out _ HB01A.out) (fun hH01AL => ?_)
    clear hK K hH01L
    try simp only [ap]
    refine rd1 7 rfl fun K hK => ?_
    refine step_append_any zw01A rfl _ _ 81 9 rfl i0 _ 1 16 Tryz.underlying81 HSZ.out hi0 hz0 hz1 hz2 rfl (by decide) u0.heap.size v1 (.slice (some ⟨ib, 0, none⟩) 1 1) L 1 xs #[Value.string text].toList rfl rfl own1_01A.out one_01A.out (by simp only [maxLen]; omega) (by omega) HB01A.out.size ?_
    intro vF cF hown hgr
    obtain ⟨Ar, cr, rfl, hbr⟩ := own_slice hown
    have HOF := Lib.hid hown; have HBRF := Lib.hid hbr
    have HBF : Hid (Below u0.heap.size u0 cF) := Lib.hid (below_grown HB01A.out hgr (fun r hr => (own1_01A.out.lt r hr).1) HB01A.out.size)
    clear hown hgr hbr
    refine hK.out _ _ (HKS.out _ HBF.out) (fun hH01ABL => ?_)
    clear hK K hH01AL
    try simp only [ap]
    refine tk 8 rfl ?_
    obtain ⟨cx, fx⟩ := HCX.out cF HBF.out
    refine rd1 9 rfl fun K hK => ?_
    go_simp
    refine hK.out _ _ (HKS2.out _ _ HBF.out) (fun hHeldZ => ?_)
    clear hK K hH01ABL
    try simp only [ap]
    refine wpAnyH_done (by kernel_rfl) ?_ _
    refine NoPanic.normal ?_
    clear hHeldZ cx fx
    obtain ⟨w6, hw6⟩ : ∃ w6, w6 = cF.setCell ⟨w.heap.size, 4, none⟩ (.slice Ar (L + 1) cr) := ⟨_, rfl⟩
    have hbF1 : Below W1.heap.size W1 cF := HBu1.out _ HBF.out
    have hx6 : RX w6 w.heap.size f (.slice Bu nu cu) s.closed s.next (.slice Ar (L + 1) cr) (.slice Aq nt ct) (.slice Am nm cm) := by rw [hw6]; exact (HX.out cF hbF1).1.set4
    have hq6 : RX w6 (w.heap.size + 1 + 1) ⟨#[]⟩ (.slice none 0 0) 0 0 (.slice none 0 0) (.slice none 0 0) (.slice none 0 0) := by rw [hw6]; exact (HX.out cF hbF1).2.2.1.far (by omega)
    have HB6 : Hid (Below w.heap.size w w6) := Lib.hid (by rw [hw6]; exact (HBW.out cF hbF1).setCell (p := ⟨w.heap.size, 4, none⟩) (Nat.le_refl _) _)
    have HW6 := Lib.hid hw6
    obtain ⟨x0, x1, x2, x3, x4, x5, x6, xf⟩ := hx6.cells
    obtain ⟨q0, q1, q2, q3, q4, q5, q6, qf⟩ := hq6.cells
    rw [show ((0 : Nat) : Int) = 0 from rfl] at q3
    have qf0 := qf 0; have qf1 := qf 1; have qf2 := qf 2; have qf3 := qf 3; have qf4 := qf 4; have qf5 := qf 5; have qf6 := qf 6
    clear qf xf hx6 hq6 hbF1
    rw [← hw6]
    clear hw6
    go_wp2_with fail
    refine bodyPost_ret (v := .tuple #[.agg #[.string f, .slice Bu nu cu, .int .i64 s.closed, .int .u64 (s.next : Nat), .slice Ar (L + 1) cr, .slice Aq nt ct, .slice Am nm cm], .bool true]) (by simp [results, Tryz.results81, go_sem, q0, q1, q2, q3, q4, q5, q6]) rfl ?_
    obtain ⟨W7, hW7⟩ : ∃ W7, W7 = ((((((w6.setCell ⟨w.heap.size + 1 + 1, 0, none⟩ (.string f)).setCell ⟨w.heap.size + 1 + 1, 1, none⟩ (.slice Bu nu cu)).setCell ⟨w.heap.size + 1 + 1, 2, none⟩ (.int .i64 s.closed)).setCell ⟨w.heap.size + 1 + 1, 3, none⟩ (.int .u64 (s.next : Nat))).setCell ⟨w.heap.size + 1 + 1, 4, none⟩ (.slice Ar (L + 1) cr)).setCell ⟨w.heap.size + 1 + 1, 5, none⟩ (.slice Aq nt ct)).setCell ⟨w.heap.size + 1 + 1, 6, none⟩ (.slice Am nm cm) := ⟨_, rfl⟩
    rw [← hW7]
    exact HOUT.out cF w6 W7 Ar cr HOF.out HBRF.out HBF.out HW6.out HB6.out hW7
   ·obtain ⟨cx, -⟩ := HCX.out zw1 HB1.out
    go_simp
    refine hK.out _ _ (HKS.out _ HB1.out) (fun hH1L => ?_)
    clear hK K hH1
    try simp only [ap]
    clear cx
    refine rd1 0 rfl fun K hK => ?_
    go_simp
    obtain ⟨zw01, hc01⟩ : ∃ u, u = zw1.alloc (.cells #[] 9) := ⟨_, rfl⟩
    rw [← hc01]
    obtain ⟨ia, hia⟩ : ∃ i, i = zw1.heap.size := ⟨_, rfl⟩
    rw [← hia]
    have hbz : Below zw1.heap.size zw1 zw01 := by rw [hc01]; exact (Below.refl _ _).alloc (Nat.le_refl _) _
    have HB01 : Hid (Below u0.heap.size u0 zw01) := Lib.hid (HB1.out.trans (hbz.mono HB1.out.size))
    have own0_01 : Hid (zw01.ownsRow u0.heap.size 9 1 (.slice (some ⟨ia, 0, none⟩) 0 0) 0 []) := Lib.hid (by rw [hc01, hia]; exact World.ownsRow_lit zw1 #[] 0 HB1.out.size (Nat.zero_le _) (by simp))
    have HNE : Hid (ib ≠ ia) := Lib.hid (by have q : ib < zw1.heap.size := one_1.out.lt; omega)
    have one_01 := Lib.hid (CIn.later one_1.out hbz)
    clear hbz
    replace hc01 := Lib.hid hc01
    replace hia := Lib.hid hia
    refine hK.out _ _ (HKS.out _ HB01.out) (fun hH01L => ?_)
    clear hK K hH1L
    try simp only [ap]
    refine rd1 3 rfl fun K hK => ?_
    refine step_append_any zw01 rfl _ _ 81 9 rfl i0 _ 1 16 Tryz.underlying81 HSZ.out hi0 hz0 hz1 hz2 rfl (by decide) u0.heap.size (.slice (some ⟨ia, 0, none⟩) 0 0) (.slice Ak L ck) 0 L [] xs rfl rfl own0_01.out (HIN.out _ HB01.out) (by simp only [maxLen]; omega) (by omega) HB01.out.size ?_
    intro v1 zw01A hown hgr
    have HB01A : Hid (Below u0.heap.size u0 zw01A) := Lib.hid (below_grown HB01.out hgr (fun r hr => (own0_01.out.lt r hr).1) HB01.out.size)
    rw [Nat.zero_add, List.nil_append] at hown
    have own1_01A := Lib.hid hown
    have one_01A := Lib.hid (CIn.grown one_01.out hgr (fun e => HNE.out (Option.some.inj e)))
    clear hown hgr
    refine hK.out _ _ (HKS.out _ HB01A.out) (fun hH01AL => ?_)
    clear hK K hH01L
    try simp only [ap]
    refine rd1 7 rfl fun K hK => ?_
    refine step_append_any zw01A rfl _ _ 81 9 rfl i0 _ 1 16 Tryz.underlying81 HSZ.out hi0 hz0 hz1 hz2 rfl (by decide) u0.heap.size v1 (.slice (some ⟨ib, 0, none⟩) 1 1) L 1 xs #[Value.string text].toList rfl rfl own1_01A.out one_01A.out (by simp only [maxLen]; omega) (by omega) HB01A.out.size ?_
    intro vF cF hown hgr
    obtain ⟨Ar, cr, rfl, hbr⟩ := own_slice hown
    have HOF := Lib.hid hown; have HBRF := Lib.hid hbr
    have HBF : Hid (Below u0.heap.size u0 cF) := Lib.hid (below_grown HB01A.out hgr (fun r hr => (own1_01A.out.lt r hr).1) HB01A.out.size)
    clear hown hgr hbr
    refine hK.out _ _ (HKS.out _ HBF.out) (fun hH01ABL => ?_)
    clear hK K hH01AL
    try simp only [ap]
    refine tk 8 rfl ?_
    obtain ⟨cx, fx⟩ := HCX.out cF HBF.out
    refine rd1 9 rfl fun K hK => ?_
    go_simp
    refine hK.out _ _ (HKS2.out _ _ HBF.out) (fun hHeldZ => ?_)
    clear hK K hH01ABL
    try simp only [ap]
    refine wpAnyH_done (by kernel_rfl) ?_ _
    refine NoPanic.normal ?_
    clear hHeldZ cx fx
    obtain ⟨w6, hw6⟩ : ∃ w6, w6 = cF.setCell ⟨w.heap.size, 4, none⟩ (.slice Ar (L + 1) cr) := ⟨_, rfl⟩
    have hbF1 : Below W1.heap.size W1 cF := HBu1.out _ HBF.out
    have hx6 : RX w6 w.heap.size f (.slice Bu nu cu) s.closed s.next (.slice Ar (L + 1) cr) (.slice Aq nt ct) (.slice Am nm cm) := by rw [hw6]; exact (HX.out cF hbF1).1.set4
    have hq6 : RX w6 (w.heap.size + 1 + 1) ⟨#[]⟩ (.slice none 0 0) 0 0 (.slice none 0 0) (.slice none 0 0) (.slice none 0 0) := by rw [hw6]; exact (HX.out cF hbF1).2.2.1.far (by omega)
    have HB6 : Hid (Below w.heap.size w w6) := Lib.hid (by rw [hw6]; exact (HBW.out cF hbF1).setCell (p := ⟨w.heap.size, 4, none⟩) (Nat.le_refl _) _)
    have HW6 := Lib.hid hw6
    obtain ⟨x0, x1, x2, x3, x4, x5, x6, xf⟩ := hx6.cells
    obtain ⟨q0, q1, q2, q3, q4, q5, q6, qf⟩ := hq6.cells
    rw [show ((0 : Nat) : Int) = 0 from rfl] at q3
    have qf0 := qf 0; have qf1 := qf 1; have qf2 := qf 2; have qf3 := qf 3; have qf4 := qf 4; have qf5 := qf 5; have qf6 := qf 6
    clear qf xf hx6 hq6 hbF1
    rw [← hw6]
    clear hw6
    go_wp2_with fail
    refine bodyPost_ret (v := .tuple #[.agg #[.string f, .slice Bu nu cu, .int .i64 s.closed, .int .u64 (s.next : Nat), .slice Ar (L + 1) cr, .slice Aq nt ct, .slice Am nm cm], .bool true]) (by simp [results, Tryz.results81, go_sem, q0, q1, q2, q3, q4, q5, q6]) rfl ?_
    obtain ⟨W7, hW7⟩ : ∃ W7, W7 = ((((((w6.setCell ⟨w.heap.size + 1 + 1, 0, none⟩ (.string f)).setCell ⟨w.heap.size + 1 + 1, 1, none⟩ (.slice Bu nu cu)).setCell ⟨w.heap.size + 1 + 1, 2, none⟩ (.int .i64 s.closed)).setCell ⟨w.heap.size + 1 + 1, 3, none⟩ (.int .u64 (s.next : Nat))).setCell ⟨w.heap.size + 1 + 1, 4, none⟩ (.slice Ar (L + 1) cr)).setCell ⟨w.heap.size + 1 + 1, 5, none⟩ (.slice Aq nt ct)).setCell ⟨w.heap.size + 1 + 1, 6, none⟩ (.slice Am nm cm) := ⟨_, rfl⟩
    rw [← hW7]
    exact HOUT.out cF w6 W7 Ar cr HOF.out HBRF.out HBF.out HW6.out HB6.out hW7
end Hi
end Go.Proofs.YtaahfiopdoinkaaGreat
