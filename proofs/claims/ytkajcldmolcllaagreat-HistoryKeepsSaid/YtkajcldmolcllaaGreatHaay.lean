/- The reference's outside: a signal. -/
import Derived.Laws.Rows
import Derived.Laws.IdiomRangeMap
import Derived.Test.YtkajcldmolcllaaGreatHaaw
set_option linter.unusedVariables false
set_option linter.unusedSimpArgs false
open Go.RowKit
namespace Go.Proofs.YtkajcldmolcllaaGreat
namespace Hi
open _root_.Go.Proofs.YtkajcldmolcllaaGreat.Nm (ret_int ret_bool)
open Vt (VT Rep below_drew Cloned put5)
open Ev (EV FieldsOk evCells vCells EBox take_drop tk ap cons_drop)
open Cm (rowOf EvsIn)
open Cn (BT BB BtsIn box_ev)
variable {X X' Y Y' : Nat → Prop} {u v w w' V V' : World} {hb bt bm bk n cap : Nat} {A : Option Addr} {h : HM}
set_option maxRecDepth 100000 in
set_option maxHeartbeats 2000000 in
theorem out6_any (s : ST) (f : ByteArray) (Bu : Option Addr) (nu cu : Nat) (uk ut um : Value) (b : BT) (A : Option Addr) (cap : Nat) (w : World) (h : OIn X w s uk ut um b A cap) (hp : 0 < b.es.length) (he : EvOk (b.es[0]'hp)) (hk : b.es[0].k = 6) :
  Calls Tryz.prog 32 #[.agg (rhC f (.slice Bu nu cu) s.closed s.next uk ut um), .agg #[.string b.flow, .int .u64 (b.at' : Nat), .slice A b.es.length cap]] w (ROut X w f (.slice Bu nu cu) (applyM b.at' (decide (b.es.length = 1)) (b.es[0]'hp) s)) := by
 obtain ⟨Ak, nk, ck, rfl⟩ : ∃ A n c, uk = .slice A n c := by obtain ⟨xs, ⟨-, -, A, c, e, -⟩, -⟩ := h.rs.keys; exact ⟨_, _, _, e⟩
 obtain ⟨Aq, nt, ct, rfl⟩ : ∃ A n c, ut = .slice A n c := by obtain ⟨xs, ⟨-, -, A, c, e, -⟩, -⟩ := h.rs.tasks; exact ⟨_, _, _, e⟩
 obtain ⟨Am, nm, cm, rfl⟩ : ∃ A n c, um = .slice A n c := by obtain ⟨xs, ⟨-, -, A, c, e, -⟩, -⟩ := h.rs.timers; exact ⟨_, _, _, e⟩
 obtain ⟨eb, eo, lo0, hi0, vk, vn, vf, vs, A0, m0, c0, rfl, heb, hff, hrep, hhi, z0, z1, z2, z3, z4, z5, z6, z7, z8, z9, z10⟩ := h.evs.get 0 hp
 have hrepV := hrep
 replace hrep := Rep.leads hrep (leads_veil X w)
 rw [veil_size] at heb hhi
 replace z0 := (leads_veil X w).cell z0
 replace z1 := (leads_veil X w).cell z1
 replace z2 := (leads_veil X w).cell z2
 replace z3 := (leads_veil X w).cell z3
 replace z4 := (leads_veil X w).cell z4
 replace z5 := (leads_veil X w).cell z5
 replace z6 := (leads_veil X w).cell z6
 replace z7 := (leads_veil X w).cell z7
 replace z8 := (leads_veil X w).cell z8
 replace z9 := (leads_veil X w).cell z9
 replace z10 := (leads_veil X w).cell z10
 have hle := h.evs.le
 have hcm := h.evs.cap_le
 simp only [maxLen] at hcm
 rw [show eo + 0 * 11 = eo by omega] at z0 z1 z2 z3 z4 z5 z6 z7 z8 z9 z10
 obtain ⟨m, hm⟩ : ∃ m, m = b.es.length := ⟨_, rfl⟩
 obtain ⟨ff, hf0⟩ : ∃ ff, ff = b.flow := ⟨_, rfl⟩
 obtain ⟨at', hat⟩ : ∃ at', at' = b.at' := ⟨_, rfl⟩
 obtain ⟨e, hee⟩ : ∃ e, e = b.es[0]'hp := ⟨_, rfl⟩
 have hbat := h.at'
 rw [← hat] at hbat
 rw [← hee] at hff hrep hrepV z0 z1 z2 z3 z4 z5 he hk ⊢
 have HRV := Lib.hid h.rs; have HRS := Lib.hid (h.rs.leads (leads_veil X w)); have HXB := Lib.hid h.xb; have HFI := Lib.hid h.fine; have hn1 := h.n1; have hn2 := h.n2; have hn3 := h.n3; have hn4 := h.n4
 rw [← hm] at hle ⊢
 rw [← hf0, ← hat]
 have hmp : 0 < m := by omega
 clear h hee hat hf0 hm hp
 obtain ⟨k, id, en, ea, name, text, ev⟩ := e
 have hid := he.f.i1
 dsimp only at hid hk hrep hrepV hff z0 z1 z2 z3 z4 z5 z6 z7 z8 z9 z10
 obtain rfl : k = 6 := hk
 have HE := Lib.hid he
 obtain ⟨W0, hW0⟩ : ∃ W0, W0 = ((w.alloc (.cells (rhC f (.slice Bu nu cu) s.closed s.next (.slice Ak nk ck) (.slice Aq nt ct) (.slice Am nm cm)) 32)).alloc (.cells #[.string ff, .int .u64 (at' : Nat), .slice (some ⟨eb, eo, none⟩) m cap] 36)).alloc (.cells (rhC ⟨#[]⟩ (.slice none 0 0) 0 0 (.slice none 0 0) (.slice none 0 0) (.slice none 0 0)) 32) := ⟨_, rfl⟩
 obtain ⟨W1, hW1⟩ : ∃ W1, W1 = W0.alloc (.cells (evCells ⟨6, id, en, ea, name, text, ev⟩ vk vn vf vs A0 m0 c0) 53) := ⟨_, rfl⟩
 have hs0 : W0.heap.size = w.heap.size + 3 := by rw [hW0]; simp
 have hs1 : W1.heap.size = w.heap.size + 4 := by rw [hW1]; simp [hs0]
 have hb0 : Below w.heap.size w W0 := by rw [hW0]; exact (((Below.refl _ _).alloc (Nat.le_refl _) _).alloc (by simp) _).alloc (by simp; omega) _
 have hb1 : Below w.heap.size w W1 := by rw [hW1]; exact hb0.alloc (by omega) _
 have hx0 : W0.heap[w.heap.size]? = some (.cells (rhC f (.slice Bu nu cu) s.closed s.next (.slice Ak nk ck) (.slice Aq nt ct) (.slice Am nm cm)) 32 (0, 0)) := by rw [hW0]; exact (heap_alloc_old _ _ (by simp; omega)).trans ((heap_alloc_old _ _ (by simp)).trans (heap_alloc_new w _))
 have hx1 : W0.heap[w.heap.size + 1]? = some (.cells #[.string ff, .int .u64 (at' : Nat), .slice (some ⟨eb, eo, none⟩) m cap] 36 (0, 0)) := by
  rw [hW0, heap_alloc_old _ _ (by simp)]
  have e := heap_alloc_new (w.alloc (.cells (rhC f (.slice Bu nu cu) s.closed s.next (.slice Ak nk ck) (.slice Aq nt ct) (.slice Am nm cm)) 32)) (.cells #[.string ff, .int .u64 (at' : Nat), .slice (some ⟨eb, eo, none⟩) m cap] 36)
  rw [World.size_alloc] at e
  exact e
 have hx2 : W0.heap[w.heap.size + 2]? = some (.cells (rhC ⟨#[]⟩ (.slice none 0 0) 0 0 (.slice none 0 0) (.slice none 0 0) (.slice none 0 0)) 32 (0, 0)) := by
  rw [hW0]
  have e := heap_alloc_new ((w.alloc (.cells (rhC f (.slice Bu nu cu) s.closed s.next (.slice Ak nk ck) (.slice Aq nt ct) (.slice Am nm cm)) 32)).alloc (.cells #[.string ff, .int .u64 (at' : Nat), .slice (some ⟨eb, eo, none⟩) m cap] 36)) (.cells (rhC ⟨#[]⟩ (.slice none 0 0) 0 0 (.slice none 0 0) (.slice none 0 0) (.slice none 0 0)) 32)
  simp only [World.size_alloc] at e
  exact e
 have HX : Hid (∀ W, Below W1.heap.size W1 W → RX W w.heap.size f (.slice Bu nu cu) s.closed s.next (.slice Ak nk ck) (.slice Aq nt ct) (.slice Am nm cm) ∧ BB W (w.heap.size + 1) ff at' (some ⟨eb, eo, none⟩) m cap ∧ RX W (w.heap.size + 1 + 1) ⟨#[]⟩ (.slice none 0 0) 0 0 (.slice none 0 0) (.slice none 0 0) (.slice none 0 0) ∧ EBox W (w.heap.size + 3) (evCells ⟨6, id, en, ea, name, text, ev⟩ vk vn vf vs A0 m0 c0)) := Lib.hid fun W hW => by
  have o : ∀ c, c < w.heap.size + 3 → W.heap[c]? = W0.heap[c]? := fun c hc => (hW.block c (by omega)).trans (by rw [hW1]; exact heap_alloc_old _ _ (by omega))
  refine ⟨(o _ (by omega)).trans hx0, (o _ (by omega)).trans hx1, (o _ (by omega)).trans hx2, (hW.block _ (by omega)).trans ?_⟩
  rw [hW1, ← hs0]; exact heap_alloc_new ..
 have HBW : Hid (∀ W, Below W1.heap.size W1 W → Below w.heap.size w W) := Lib.hid fun W hW => hb1.trans (hW.mono hb1.size)
 have HTK := Lib.hid (rtask_any s.tasks id hid f (.slice Bu nu cu) (.slice Ak nk ck) (.slice Aq nt ct) (.slice Am nm cm) s.closed s.next W1 ((HRS.out.later hb1).tasks))
 have HS1 := Lib.hid hs1; have HB1 := Lib.hid hb1
 obtain ⟨y0, y1, y2, -⟩ := BB.cells (show BB W0 (w.heap.size + 1) ff at' (some ⟨eb, eo, none⟩) m cap from hx1)
 obtain ⟨x0, x1, x2, x3, x4, x5, x6, -⟩ := (HX.out W1 (Below.refl _ _)).1.cells
 have e0 := (hb0.cell (p := ⟨eb, eo, none⟩) heb).trans z0
 have e1 := (hb0.cell (p := ⟨eb, eo + 1, none⟩) heb).trans z1
 have e2 := (hb0.cell (p := ⟨eb, eo + 2, none⟩) heb).trans z2
 have e3 := (hb0.cell (p := ⟨eb, eo + 3, none⟩) heb).trans z3
 have e4 := (hb0.cell (p := ⟨eb, eo + 4, none⟩) heb).trans z4
 have e5 := (hb0.cell (p := ⟨eb, eo + 5, none⟩) heb).trans z5
 have e6 := (hb0.cell (p := ⟨eb, eo + 6, none⟩) heb).trans z6
 have e7 := (hb0.cell (p := ⟨eb, eo + 7, none⟩) heb).trans z7
 have e8 := (hb0.cell (p := ⟨eb, eo + 8, none⟩) heb).trans z8
 have e9 := (hb0.cell (p := ⟨eb, eo + 9, none⟩) heb).trans z9
 have e10 := (hb0.cell (p := ⟨eb, eo + 10, none⟩) heb).trans z10
 have HREP := Lib.hid hrep; have HREPV := Lib.hid hrepV; have HHI := Lib.hid hhi
 unfold rhC at hW0 HTK ⊢
 unfold evCells at hW1
 dsimp only at hW1
 rw [show ((0 : Nat) : Int) = 0 from rfl] at hW0
 have hWs := Lib.hid hs0
 clear hs0 hs1 hb0 hb1 hx0 hx1 hx2 z0 z1 z2 z3 z4 z5 z6 z7 z8 z9 z10 hrep hrepV hhi hff he heb
 replace hW0 := Lib.hid hW0
 replace hW1 := Lib.hid hW1
 obtain ⟨hk, hhk⟩ : ∃ hk, hk = hasK s.keys text := ⟨_, rfl⟩
 have HHK := Lib.hid hhk
 have HHS : Hid (∀ W, Below W1.heap.size W1 W → Calls Tryz.prog 16 #[.agg #[.string f, .slice Bu nu cu, .int .i64 s.closed, .int .u64 (s.next : Nat), .slice Ak nk ck, .slice Aq nt ct, .slice Am nm cm], .string text] W fun r w' => r = .returned (.bool hk) ∧ Below W.heap.size W w') := Lib.hid fun W hW => by rw [hhk]; exact rhas_any s.keys text HE.out.f.t1 f (.slice Bu nu cu) (.slice Ak nk ck) (.slice Aq nt ct) (.slice Am nm cm) s.closed s.next W ((HRS.out.later (HBW.out W hW)).keys)
 clear hhk
 obtain ⟨al, hal⟩ : ∃ al, al = decide (m = 1) := ⟨_, rfl⟩
 have hm1 : ((m : Int) == 1) = al := by
  rw [hal]
  by_cases q : m = 1
  ·subst q; rfl
  ·rw [decide_eq_false q, beq_eq_false_iff_ne]; omega
 rw [← hal]
 have HAL := Lib.hid hal
 clear hal
 go_enter Tryz.func32, Tryz.ntmps32
 go_upto_region 1 with fail
 rw [← hW0.out]
 go_upto_region 2 with fail
 rw [← hW1.out]
 rw [show W0.heap.size = w.heap.size + 3 from hWs.out]
 clear y0 y1 y2 e0 e1 e2 e3 e4 e5 e6 e7 e8 e9 e10
 obtain ⟨-, y, -, ez⟩ := HX.out W1 (Below.refl _ _)
 obtain ⟨e0, e1, e2, e3, e4, e5, e6, e7, e8, e9, e10⟩ := EBox.cells ez
 dsimp only at e0 e1 e2 e3 e4 e5
 clear ez y
 go_upto_region 32 with (go_at_call 54; refine HTK.out.mono ?_; rintro x w1 ⟨⟨ti, rfl, hti⟩, hq1⟩; have HTI := Lib.hid (idx_get HFI.out.tasks hti); have HQ1 := Lib.hid hq1; clear hti hq1 x0 x1 x2 x3 x4 x5 x6 e0 e1 e2 e3 e4 e5 e6 e7 e8 e9 e10; obtain ⟨x0, x1, x2, x3, x4, x5, x6, -⟩ := (HX.out w1 HQ1.out).1.cells; obtain ⟨y0, y1, y2, -⟩ := (HX.out w1 HQ1.out).2.1.cells; obtain ⟨e0, e1, e2, e3, e4, e5, e6, e7, e8, e9, e10⟩ := EBox.cells (HX.out w1 HQ1.out).2.2.2; dsimp only at e0 e1 e2 e3 e4 e5)
 cases hk with
 | true =>
  have HN : Hid (applyM at' al ⟨6, id, en, ea, name, text, ev⟩ s = none) := Lib.hid (by simp [applyM, ← HHK.out])
  go_wp2_with (go_at_call 16; refine (HHS.out w1 HQ1.out).mono ?_; rintro x w2 ⟨rfl, hq2⟩; have HQ2 := Lib.hid (HQ1.out.trans (hq2.mono HQ1.out.size)); clear hq2 x0 x1 x2 x3 x4 x5 x6 y0 y1 y2 e0 e1 e2 e3 e4 e5 e6 e7 e8 e9 e10; obtain ⟨x0, x1, x2, x3, x4, x5, x6, xf⟩ := (HX.out w2 HQ2.out).1.cells; obtain ⟨y0, y1, y2, -⟩ := (HX.out w2 HQ2.out).2.1.cells; obtain ⟨e0, e1, e2, e3, e4, e5, e6, e7, e8, e9, e10⟩ := EBox.cells (HX.out w2 HQ2.out).2.2.2; dsimp only at e0 e1 e2 e3 e4 e5; obtain ⟨q0, q1, q2, q3, q4, q5, q6, qf⟩ := (HX.out w2 HQ2.out).2.2.1.cells; rw [show ((0 : Nat) : Int) = 0 from rfl] at q3; have qf0 := qf 0; have qf1 := qf 1; have qf2 := qf 2; have qf3 := qf 3; have qf4 := qf 4; have qf5 := qf 5; have qf6 := qf 6; clear qf)
  refine bodyPost_ret (v := .tuple #[.agg #[.string f, .slice Bu nu cu, .int .i64 s.closed, .int .u64 (s.next : Nat), .slice Ak nk ck, .slice Aq nt ct, .slice Am nm cm], .bool false]) (by simp [results, Tryz.results32, go_sem, q0, q1, q2, q3, q4, q5, q6]) rfl ?_
  exact ⟨below7 (HBW.out w2 HQ2.out) (by omega) _ _ _ _ _ _ _, s.closed, s.next, .slice Ak nk ck, .slice Aq nt ct, .slice Am nm cm, ⟨_, _, _, rfl⟩, ⟨_, _, _, rfl⟩, ⟨_, _, _, rfl⟩, by rw [HN.out]; rfl, fun s' hs => by rw [HN.out] at hs; cases hs⟩
 | false =>
  have HN : Hid (applyM at' al ⟨6, id, en, ea, name, text, ev⟩ s = some { s with keys := s.keys ++ [text] }) := Lib.hid (by simp [applyM, ← HHK.out])
  obtain ⟨xs, hcinV, hst⟩ := HRV.out.keys
  have hcin := hcinV.leads (leads_veil X w)
  clear hcinV
  have HCI := Lib.hid hcin; have HST := Lib.hid hst
  obtain ⟨rfl, hkc⟩ : nk = s.keys.length ∧ s.keys.length ≤ ck := by obtain ⟨-, -, A9, cap9, heq9, hle9, -, -⟩ := hcin; injection heq9 with a1 a2 a3; exact ⟨a2, by rw [a3]; exact hle9⟩
  obtain ⟨i0, hi0, hz0, hz1, hz2⟩ := info_parts Tryz.infoStr
  have HSZ := Lib.hid (sz_of hi0 hz1)
  have HONE : Hid (∀ x ∈ (#[Value.string text] : Array Value).toList, x.oneCell' = true) := Lib.hid (by intro x hx; simp at hx; subst hx; rfl)
  clear hcin hst
  go_upto_region 34 with (go_at_call 16; refine (HHS.out w1 HQ1.out).mono ?_; rintro x w2 ⟨rfl, hq2⟩; have HQ2 := Lib.hid (HQ1.out.trans (hq2.mono HQ1.out.size)); clear hq2 x0 x1 x2 x3 x4 x5 x6 y0 y1 y2 e0 e1 e2 e3 e4 e5 e6 e7 e8 e9 e10; obtain ⟨x0, x1, x2, x3, x4, x5, x6, xf⟩ := (HX.out w2 HQ2.out).1.cells; obtain ⟨y0, y1, y2, -⟩ := (HX.out w2 HQ2.out).2.1.cells; obtain ⟨e0, e1, e2, e3, e4, e5, e6, e7, e8, e9, e10⟩ := EBox.cells (HX.out w2 HQ2.out).2.2.2; dsimp only at e0 e1 e2 e3 e4 e5; obtain ⟨q0, q1, q2, q3, q4, q5, q6, qf⟩ := (HX.out w2 HQ2.out).2.2.1.cells; rw [show ((0 : Nat) : Int) = 0 from rfl] at q3; have qf0 := qf 0; have qf1 := qf 1; have qf2 := qf 2; have qf3 := qf 3; have qf4 := qf 4; have qf5 := qf 5; have qf6 := qf 6; clear qf)
  obtain ⟨u0, hu0⟩ : ∃ u, u = w2.drew := ⟨_, rfl⟩
  obtain ⟨L, hL⟩ : ∃ L, L = s.keys.length := ⟨_, rfl⟩
  have HLL := Lib.hid hL
  have HBu1 : Hid (∀ W, Below u0.heap.size u0 W → Below W1.heap.size W1 W) := Lib.hid fun W hW => by rw [hu0] at hW; exact (below_drew HQ2.out).trans (hW.mono (below_drew HQ2.out).size)
  have HBu0 : Hid (W1.heap.size ≤ u0.heap.size) := Lib.hid (by rw [hu0]; exact (below_drew HQ2.out).size)
  have HBu : Hid (Below u0.heap.size u0 u0) := Lib.hid (Below.refl _ _)
  have HKS : Hid (∀ W, Below u0.heap.size u0 W → (fun W : World => W.cell? ⟨w.heap.size + 3, 5, none⟩ = some (.string text)) W) := Lib.hid fun W hW => (EBox.cells (HX.out W (HBu1.out W hW)).2.2.2).2.2.2.2.2.1
  have HKS2 : Hid (∀ W v, Below u0.heap.size u0 W → (fun W : World => W.cell? ⟨w.heap.size + 3, 5, none⟩ = some (.string text)) (W.setCell ⟨w.heap.size, 4, none⟩ v)) := Lib.hid fun W v hW => (World.cell?_of_block (a := ⟨w.heap.size + 3, 5, none⟩) (RowKit.Below.heap_setCell _ _ _ _ (by show w.heap.size + 3 ≠ w.heap.size; omega))).trans (HKS.out W hW)
  rw [← hL] at hkc hn3 HX
  have HCX : Hid (∀ W, Below u0.heap.size u0 W → W.cell? ⟨w.heap.size, 4, none⟩ = some (.slice Ak L ck) ∧ W.frozen? ⟨w.heap.size, 4, none⟩ = false) := Lib.hid fun W hW => ⟨(HX.out W (HBu1.out W hW)).1.cells.2.2.2.2.1, (HX.out W (HBu1.out W hW)).1.cells.2.2.2.2.2.2.2 4⟩
  have HIN : Hid (∀ W, Below u0.heap.size u0 W → CIn W (.slice Ak L ck) L 1 xs) := Lib.hid fun W hW => by rw [hL]; exact HCI.out.later (HBW.out W (HBu1.out W hW))
  clear hL
  have HOUT : Hid (∀ (cF w6 W7 : World) (Ar : Option Addr) (cr : Nat), cF.ownsRow u0.heap.size 9 1 (.slice Ar (L + 1) cr) (L + 1) (xs ++ (#[Value.string text] : Array Value).toList) → (∀ r, rowOf Ar = some r → u0.heap.size ≤ r) → Below u0.heap.size u0 cF → w6 = cF.setCell ⟨w.heap.size, 4, none⟩ (.slice Ar (L + 1) cr) → Below w.heap.size w w6 →
    W7 = ((((((w6.setCell ⟨w.heap.size + 1 + 1, 0, none⟩ (.string f)).setCell ⟨w.heap.size + 1 + 1, 1, none⟩ (.slice Bu nu cu)).setCell ⟨w.heap.size + 1 + 1, 2, none⟩ (.int .i64 s.closed)).setCell ⟨w.heap.size + 1 + 1, 3, none⟩ (.int .u64 (s.next : Nat))).setCell ⟨w.heap.size + 1 + 1, 4, none⟩ (.slice Ar (L + 1) cr)).setCell ⟨w.heap.size + 1 + 1, 5, none⟩ (.slice Aq nt ct)).setCell ⟨w.heap.size + 1 + 1, 6, none⟩ (.slice Am nm cm) →
    ROut X w f (.slice Bu nu cu) (applyM at' al ⟨6, id, en, ea, name, text, ev⟩ s) (.returned (.tuple #[.agg #[.string f, .slice Bu nu cu, .int .i64 s.closed, .int .u64 (s.next : Nat), .slice Ar (L + 1) cr, .slice Aq nt ct, .slice Am nm cm], .bool true])) W7) := Lib.hid fun cF w6 W7 Ar cr ho hbr hbF hw6 hb6 hW7 => by
   have hb7 : Below w.heap.size w W7 := by rw [hW7]; exact below7 (g := w.heap.size + 1 + 1) hb6 (Nat.le_succ_of_le (Nat.le_succ _)) _ _ _ _ _ _ _
   have hs := HS1.out
   have hu := HBu0.out
   have ho7 := own_move (w' := W7) ho (fun r hr => by
    have := hbr r hr
    rw [hW7, heap7 (by omega), hw6]
    exact RowKit.Below.heap_setCell _ _ _ _ (by show r ≠ w.heap.size; omega))
   refine ⟨hb7, s.closed, s.next, .slice Ar (L + 1) cr, .slice Aq nt ct, .slice Am nm cm, ⟨_, _, _, rfl⟩, ⟨_, _, _, rfl⟩, ⟨_, _, _, rfl⟩, by rw [HN.out]; rfl, fun s' hs => ?_⟩
   rw [HN.out] at hs
   cases hs
   refine ⟨rfl, rfl, ⟨⟨xs ++ (#[Value.string text] : Array Value).toList, ?_, ?_⟩, (HRV.out.leads (veil_below X hb7)).tasks, (HRV.out.leads (veil_below X hb7)).timers⟩⟩
   ·have e : (s.keys ++ [text]).length = L + 1 := by rw [List.length_append, ← HLL.out]; rfl
    dsimp only
    rw [e]
    refine CIn.of_veil ho7 ?_ (by intro c hc; have := HXB.out c hc; have := HBu0.out; have := HS1.out; omega)
    intro x hx
    rcases List.mem_append.1 hx with q | q
    ·exact HCI.out.2.1 x q
    ·exact HONE.out x q
   ·refine ⟨by rw [HST.out.1]; simp, fun k hk => ?_⟩
    rcases List.mem_append.1 hk with q | q
    ·exact HST.out.2 k q
    ·rw [List.mem_singleton.1 q]; exact HE.out.f.t1
  clear x0 x1 x2 x3 x4 x5 x6 y0 y1 y2 e0 e1 e2 e3 e4 e5 e6 e7 e8 e9 e10
  clear q0 q1 q2 q3 q4 q5 q6 qf0 qf1 qf2 qf3 qf4 qf5 qf6 xf
  refine wp_region_noPanic ?_
  refine wp_region_held_drew (S := (fun W : World => W.cell? ⟨w.heap.size + 3, 5, none⟩ = some (.string text))) (by kernel_rfl) ?_ (fun hHeld => ?_)
  ·rw [← hu0]; exact HKS.out _ (Below.refl _ _)
  rw [← hu0] at hHeld
  rw [← hu0]
  replace hu0 := Lib.hid hu0
  refine tk 1 rfl ?_
  try simp only [ap]
  refine tk 4 rfl ?_
  try simp only [ap]
  refine tk 5 rfl ?_
  try simp only [ap]
  refine wpAnyH_ready (rs := [0, 2, 6]) (by kernel_rfl) (by simp) ?_
  refine cons_drop rfl (fun K hK => ?_) (cons_drop rfl (fun K hK => ?_) (cons_drop rfl (fun K hK => ?_) AllReadyH.nil))
  go_simp
  obtain ⟨c1, hc1⟩ : ∃ u, u = u0.alloc (.cells #[] 9) := ⟨_, rfl⟩
  rw [← hc1]
  have hbz : Below u0.heap.size u0 c1 := by rw [hc1]; exact (Below.refl _ _).alloc (Nat.le_refl _) _
  have HB1 : Hid (Below u0.heap.size u0 c1) := Lib.hid (HBu.out.trans (hbz.mono HBu.out.size))
  have own0_1 : Hid (c1.ownsRow u0.heap.size 9 1 (.slice (some ⟨u0.heap.size, 0, none⟩) 0 0) 0 []) := Lib.hid (by rw [hc1]; exact World.ownsRow_lit u0 #[] 0 HBu.out.size (Nat.zero_le _) (by simp))
  clear hbz
  replace hc1 := Lib.hid hc1
  refine hK.out _ _ (HKS.out _ HB1.out) (fun hHeld1 => ?_)
  clear hK K hHeld
  try simp only [ap]
  refine wpAnyH_ready (rs := [2, 6]) (by kernel_rfl) (by simp) ?_
  refine cons_drop rfl (fun K hK => ?_) (cons_drop rfl (fun K hK => ?_) AllReadyH.nil)
  obtain ⟨cx, -⟩ := HCX.out c1 HB1.out
  go_simp
  refine hK.out _ _ (HKS.out _ HB1.out) (fun hHeld2 => ?_)
  clear hK K hHeld1
  try simp only [ap]
  clear cx
  refine wpAnyH_ready (rs := [3, 6]) (by kernel_rfl) (by simp) ?_
  refine cons_drop rfl (fun K hK => ?_) (cons_drop rfl (fun K hK => ?_) AllReadyH.nil)
  refine step_append_any c1 rfl _ _ 28 9 rfl i0 _ 1 16 Tryz.underlying28 HSZ.out hi0 hz0 hz1 hz2 rfl (by decide) u0.heap.size (.slice (some ⟨u0.heap.size, 0, none⟩) 0 0) (.slice Ak L ck) 0 L [] xs rfl rfl own0_1.out (HIN.out _ HB1.out) (by simp only [maxLen]; omega) (by omega) HB1.out.size ?_
  intro v1_3 c3 hown hgr
  have HB3 : Hid (Below u0.heap.size u0 c3) := Lib.hid (below_grown HB1.out hgr (fun r hr => (own0_1.out.lt r hr).1) HB1.out.size)
  rw [Nat.zero_add, List.nil_append] at hown
  have own1_3 := Lib.hid hown
  clear hown hgr
  refine hK.out _ _ (HKS.out _ HB3.out) (fun hHeld3 => ?_)
  clear hK K hHeld2
  try simp only [ap]
  refine wpAnyH_ready (rs := [6]) (by kernel_rfl) (by simp) ?_
  refine cons_drop rfl (fun K hK => ?_) AllReadyH.nil
  go_simp
  obtain ⟨c4, hc4⟩ : ∃ u, u = c3.alloc (.cells #[Value.string text] 9) := ⟨_, rfl⟩
  rw [← hc4]
  have hbz : Below c3.heap.size c3 c4 := by rw [hc4]; exact (Below.refl _ _).alloc (Nat.le_refl _) _
  have HB4 : Hid (Below u0.heap.size u0 c4) := Lib.hid (HB3.out.trans (hbz.mono HB3.out.size))
  have one_4 : Hid (CIn c4 (.slice (some ⟨c3.heap.size, 0, none⟩) 1 1) 1 1 #[Value.string text].toList) := Lib.hid (by rw [hc4]; exact CIn.new c3 _ _ rfl HONE.out)
  have own1_4 := Lib.hid (own_stay own1_3.out hbz)
  clear hbz
  replace hc4 := Lib.hid hc4
  refine hK.out _ _ (HKS.out _ HB4.out) (fun hHeld4 => ?_)
  clear hK K hHeld3
  try simp only [ap]
  refine wpAnyH_ready (rs := [7]) (by kernel_rfl) (by simp) ?_
  refine cons_drop rfl (fun K hK => ?_) AllReadyH.nil
  refine step_append_any c4 rfl _ _ 28 9 rfl i0 _ 1 16 Tryz.underlying28 HSZ.out hi0 hz0 hz1 hz2 rfl (by decide) u0.heap.size v1_3 (.slice (some ⟨c3.heap.size, 0, none⟩) 1 1) L 1 xs #[Value.string text].toList rfl rfl own1_4.out one_4.out (by simp only [maxLen]; omega) (by omega) HB4.out.size ?_
  intro vF cF hown hgr
  obtain ⟨Ar, cr, rfl, hbr⟩ := own_slice hown
  have HOF := Lib.hid hown; have HBRF := Lib.hid hbr
  have HBF : Hid (Below u0.heap.size u0 cF) := Lib.hid (below_grown HB4.out hgr (fun r hr => (own1_4.out.lt r hr).1) HB4.out.size)
  clear hown hgr hbr
  refine hK.out _ _ (HKS.out _ HBF.out) (fun hHeld5 => ?_)
  clear hK K hHeld4
  try simp only [ap]
  refine tk 8 rfl ?_
  try simp only [ap]
  obtain ⟨cx, fx⟩ := HCX.out cF HBF.out
  refine wpAnyH_ready (rs := [9]) (by kernel_rfl) (by simp) ?_
  refine cons_drop rfl (fun K hK => ?_) AllReadyH.nil
  go_simp
  refine hK.out _ _ (HKS2.out _ _ HBF.out) (fun hHeldZ => ?_)
  clear hK K hHeld5
  try simp only [ap]
  refine wpAnyH_done (by kernel_rfl) ?_ _
  refine NoPanic.normal ?_
  clear hHeldZ cx fx
  rotate_left
  go_simp
  obtain ⟨c6, hc6⟩ : ∃ u, u = c1.alloc (.cells #[Value.string text] 9) := ⟨_, rfl⟩
  rw [← hc6]
  have hbz : Below c1.heap.size c1 c6 := by rw [hc6]; exact (Below.refl _ _).alloc (Nat.le_refl _) _
  have HB6 : Hid (Below u0.heap.size u0 c6) := Lib.hid (HB1.out.trans (hbz.mono HB1.out.size))
  have one_6 : Hid (CIn c6 (.slice (some ⟨c1.heap.size, 0, none⟩) 1 1) 1 1 #[Value.string text].toList) := Lib.hid (by rw [hc6]; exact CIn.new c1 _ _ rfl HONE.out)
  have HNE6 : Hid (c1.heap.size ≠ u0.heap.size) := Lib.hid (by have q := (own0_1.out.lt u0.heap.size rfl).2; omega)
  have own0_6 := Lib.hid (own_stay own0_1.out hbz)
  clear hbz
  replace hc6 := Lib.hid hc6
  refine hK.out _ _ (HKS.out _ HB6.out) (fun hHeld6 => ?_)
  clear hK K hHeld2
  try simp only [ap]
  refine wpAnyH_ready (rs := [3]) (by kernel_rfl) (by simp) ?_
  refine cons_drop rfl (fun K hK => ?_) AllReadyH.nil
  refine step_append_any c6 rfl _ _ 28 9 rfl i0 _ 1 16 Tryz.underlying28 HSZ.out hi0 hz0 hz1 hz2 rfl (by decide) u0.heap.size (.slice (some ⟨u0.heap.size, 0, none⟩) 0 0) (.slice Ak L ck) 0 L [] xs rfl rfl own0_6.out (HIN.out _ HB6.out) (by simp only [maxLen]; omega) (by omega) HB6.out.size ?_
  intro v1_7 c7 hown hgr
  have HB7 : Hid (Below u0.heap.size u0 c7) := Lib.hid (below_grown HB6.out hgr (fun r hr => (own0_6.out.lt r hr).1) HB6.out.size)
  rw [Nat.zero_add, List.nil_append] at hown
  have own1_7 := Lib.hid hown
  have one_7 := Lib.hid (CIn.grown one_6.out hgr (fun e => HNE6.out (Option.some.inj e)))
  clear hown hgr
  refine hK.out _ _ (HKS.out _ HB7.out) (fun hHeld7 => ?_)
  clear hK K hHeld6
  try simp only [ap]
  refine wpAnyH_ready (rs := [7]) (by kernel_rfl) (by simp) ?_
  refine cons_drop rfl (fun K hK => ?_) AllReadyH.nil
  refine step_append_any c7 rfl _ _ 28 9 rfl i0 _ 1 16 Tryz.underlying28 HSZ.out hi0 hz0 hz1 hz2 rfl (by decide) u0.heap.size v1_7 (.slice (some ⟨c1.heap.size, 0, none⟩) 1 1) L 1 xs #[Value.string text].toList rfl rfl own1_7.out one_7.out (by simp only [maxLen]; omega) (by omega) HB7.out.size ?_
  intro vF cF hown hgr
  obtain ⟨Ar, cr, rfl, hbr⟩ := own_slice hown
  have HOF := Lib.hid hown; have HBRF := Lib.hid hbr
  have HBF : Hid (Below u0.heap.size u0 cF) := Lib.hid (below_grown HB7.out hgr (fun r hr => (own1_7.out.lt r hr).1) HB7.out.size)
  clear hown hgr hbr
  refine hK.out _ _ (HKS.out _ HBF.out) (fun hHeld8 => ?_)
  clear hK K hHeld7
  try simp only [ap]
  refine tk 8 rfl ?_
  try simp only [ap]
  obtain ⟨cx, fx⟩ := HCX.out cF HBF.out
  refine wpAnyH_ready (rs := [9]) (by kernel_rfl) (by simp) ?_
  refine cons_drop rfl (fun K hK => ?_) AllReadyH.nil
  go_simp
  refine hK.out _ _ (HKS2.out _ _ HBF.out) (fun hHeldZ => ?_)
  clear hK K hHeld8
  try simp only [ap]
  refine wpAnyH_done (by kernel_rfl) ?_ _
  refine NoPanic.normal ?_
  clear hHeldZ cx fx
  rotate_left
  go_simp
  obtain ⟨c9, hc9⟩ : ∃ u, u = c1.alloc (.cells #[Value.string text] 9) := ⟨_, rfl⟩
  rw [← hc9]
  have hbz : Below c1.heap.size c1 c9 := by rw [hc9]; exact (Below.refl _ _).alloc (Nat.le_refl _) _
  have HB9 : Hid (Below u0.heap.size u0 c9) := Lib.hid (HB1.out.trans (hbz.mono HB1.out.size))
  have one_9 : Hid (CIn c9 (.slice (some ⟨c1.heap.size, 0, none⟩) 1 1) 1 1 #[Value.string text].toList) := Lib.hid (by rw [hc9]; exact CIn.new c1 _ _ rfl HONE.out)
  have HNE9 : Hid (c1.heap.size ≠ u0.heap.size) := Lib.hid (by have q := (own0_1.out.lt u0.heap.size rfl).2; omega)
  have own0_9 := Lib.hid (own_stay own0_1.out hbz)
  clear hbz
  replace hc9 := Lib.hid hc9
  refine hK.out _ _ (HKS.out _ HB9.out) (fun hHeld9 => ?_)
  clear hK K hHeld1
  try simp only [ap]
  refine wpAnyH_ready (rs := [2]) (by kernel_rfl) (by simp) ?_
  refine cons_drop rfl (fun K hK => ?_) AllReadyH.nil
  obtain ⟨cx, -⟩ := HCX.out c9 HB9.out
  go_simp
  refine hK.out _ _ (HKS.out _ HB9.out) (fun hHeld10 => ?_)
  clear hK K hHeld9
  try simp only [ap]
  clear cx
  refine wpAnyH_ready (rs := [3]) (by kernel_rfl) (by simp) ?_
  refine cons_drop rfl (fun K hK => ?_) AllReadyH.nil
  refine step_append_any c9 rfl _ _ 28 9 rfl i0 _ 1 16 Tryz.underlying28 HSZ.out hi0 hz0 hz1 hz2 rfl (by decide) u0.heap.size (.slice (some ⟨u0.heap.size, 0, none⟩) 0 0) (.slice Ak L ck) 0 L [] xs rfl rfl own0_9.out (HIN.out _ HB9.out) (by simp only [maxLen]; omega) (by omega) HB9.out.size ?_
  intro v1_11 c11 hown hgr
  have HB11 : Hid (Below u0.heap.size u0 c11) := Lib.hid (below_grown HB9.out hgr (fun r hr => (own0_9.out.lt r hr).1) HB9.out.size)
  rw [Nat.zero_add, List.nil_append] at hown
  have own1_11 := Lib.hid hown
  have one_11 := Lib.hid (CIn.grown one_9.out hgr (fun e => HNE9.out (Option.some.inj e)))
  clear hown hgr
  refine hK.out _ _ (HKS.out _ HB11.out) (fun hHeld11 => ?_)
  clear hK K hHeld10
  try simp only [ap]
  refine wpAnyH_ready (rs := [7]) (by kernel_rfl) (by simp) ?_
  refine cons_drop rfl (fun K hK => ?_) AllReadyH.nil
  refine step_append_any c11 rfl _ _ 28 9 rfl i0 _ 1 16 Tryz.underlying28 HSZ.out hi0 hz0 hz1 hz2 rfl (by decide) u0.heap.size v1_11 (.slice (some ⟨c1.heap.size, 0, none⟩) 1 1) L 1 xs #[Value.string text].toList rfl rfl own1_11.out one_11.out (by simp only [maxLen]; omega) (by omega) HB11.out.size ?_
  intro vF cF hown hgr
  obtain ⟨Ar, cr, rfl, hbr⟩ := own_slice hown
  have HOF := Lib.hid hown; have HBRF := Lib.hid hbr
  have HBF : Hid (Below u0.heap.size u0 cF) := Lib.hid (below_grown HB11.out hgr (fun r hr => (own1_11.out.lt r hr).1) HB11.out.size)
  clear hown hgr hbr
  refine hK.out _ _ (HKS.out _ HBF.out) (fun hHeld12 => ?_)
  clear hK K hHeld11
  try simp only [ap]
  refine tk 8 rfl ?_
  try simp only [ap]
  obtain ⟨cx, fx⟩ := HCX.out cF HBF.out
  refine wpAnyH_ready (rs := [9]) (by kernel_rfl) (by simp) ?_
  refine cons_drop rfl (fun K hK => ?_) AllReadyH.nil
  go_simp
  refine hK.out _ _ (HKS2.out _ _ HBF.out) (fun hHeldZ => ?_)
  clear hK K hHeld12
  try simp only [ap]
  refine wpAnyH_done (by kernel_rfl) ?_ _
  refine NoPanic.normal ?_
  clear hHeldZ cx fx
  rotate_left
  obtain ⟨cx, -⟩ := HCX.out u0 HBu.out
  go_simp
  refine hK.out _ _ (HKS.out _ HBu.out) (fun hHeld13 => ?_)
  clear hK K hHeld
  try simp only [ap]
  clear cx
  refine wpAnyH_ready (rs := [0, 6]) (by kernel_rfl) (by simp) ?_
  refine cons_drop rfl (fun K hK => ?_) (cons_drop rfl (fun K hK => ?_) AllReadyH.nil)
  go_simp
  obtain ⟨c14, hc14⟩ : ∃ u, u = u0.alloc (.cells #[] 9) := ⟨_, rfl⟩
  rw [← hc14]
  have hbz : Below u0.heap.size u0 c14 := by rw [hc14]; exact (Below.refl _ _).alloc (Nat.le_refl _) _
  have HB14 : Hid (Below u0.heap.size u0 c14) := Lib.hid (HBu.out.trans (hbz.mono HBu.out.size))
  have own0_14 : Hid (c14.ownsRow u0.heap.size 9 1 (.slice (some ⟨u0.heap.size, 0, none⟩) 0 0) 0 []) := Lib.hid (by rw [hc14]; exact World.ownsRow_lit u0 #[] 0 HBu.out.size (Nat.zero_le _) (by simp))
  clear hbz
  replace hc14 := Lib.hid hc14
  refine hK.out _ _ (HKS.out _ HB14.out) (fun hHeld14 => ?_)
  clear hK K hHeld13
  try simp only [ap]
  refine wpAnyH_ready (rs := [3, 6]) (by kernel_rfl) (by simp) ?_
  refine cons_drop rfl (fun K hK => ?_) (cons_drop rfl (fun K hK => ?_) AllReadyH.nil)
  refine step_append_any c14 rfl _ _ 28 9 rfl i0 _ 1 16 Tryz.underlying28 HSZ.out hi0 hz0 hz1 hz2 rfl (by decide) u0.heap.size (.slice (some ⟨u0.heap.size, 0, none⟩) 0 0) (.slice Ak L ck) 0 L [] xs rfl rfl own0_14.out (HIN.out _ HB14.out) (by simp only [maxLen]; omega) (by omega) HB14.out.size ?_
  intro v1_15 c15 hown hgr
  have HB15 : Hid (Below u0.heap.size u0 c15) := Lib.hid (below_grown HB14.out hgr (fun r hr => (own0_14.out.lt r hr).1) HB14.out.size)
  rw [Nat.zero_add, List.nil_append] at hown
  have own1_15 := Lib.hid hown
  clear hown hgr
  refine hK.out _ _ (HKS.out _ HB15.out) (fun hHeld15 => ?_)
  clear hK K hHeld14
  try simp only [ap]
  refine wpAnyH_ready (rs := [6]) (by kernel_rfl) (by simp) ?_
  refine cons_drop rfl (fun K hK => ?_) AllReadyH.nil
  go_simp
  obtain ⟨c16, hc16⟩ : ∃ u, u = c15.alloc (.cells #[Value.string text] 9) := ⟨_, rfl⟩
  rw [← hc16]
  have hbz : Below c15.heap.size c15 c16 := by rw [hc16]; exact (Below.refl _ _).alloc (Nat.le_refl _) _
  have HB16 : Hid (Below u0.heap.size u0 c16) := Lib.hid (HB15.out.trans (hbz.mono HB15.out.size))
  have one_16 : Hid (CIn c16 (.slice (some ⟨c15.heap.size, 0, none⟩) 1 1) 1 1 #[Value.string text].toList) := Lib.hid (by rw [hc16]; exact CIn.new c15 _ _ rfl HONE.out)
  have own1_16 := Lib.hid (own_stay own1_15.out hbz)
  clear hbz
  replace hc16 := Lib.hid hc16
  refine hK.out _ _ (HKS.out _ HB16.out) (fun hHeld16 => ?_)
  clear hK K hHeld15
  try simp only [ap]
  refine wpAnyH_ready (rs := [7]) (by kernel_rfl) (by simp) ?_
  refine cons_drop rfl (fun K hK => ?_) AllReadyH.nil
  refine step_append_any c16 rfl _ _ 28 9 rfl i0 _ 1 16 Tryz.underlying28 HSZ.out hi0 hz0 hz1 hz2 rfl (by decide) u0.heap.size v1_15 (.slice (some ⟨c15.heap.size, 0, none⟩) 1 1) L 1 xs #[Value.string text].toList rfl rfl own1_16.out one_16.out (by simp only [maxLen]; omega) (by omega) HB16.out.size ?_
  intro vF cF hown hgr
  obtain ⟨Ar, cr, rfl, hbr⟩ := own_slice hown
  have HOF := Lib.hid hown; have HBRF := Lib.hid hbr
  have HBF : Hid (Below u0.heap.size u0 cF) := Lib.hid (below_grown HB16.out hgr (fun r hr => (own1_16.out.lt r hr).1) HB16.out.size)
  clear hown hgr hbr
  refine hK.out _ _ (HKS.out _ HBF.out) (fun hHeld17 => ?_)
  clear hK K hHeld16
  try simp only [ap]
  refine tk 8 rfl ?_
  try simp only [ap]
  obtain ⟨cx, fx⟩ := HCX.out cF HBF.out
  refine wpAnyH_ready (rs := [9]) (by kernel_rfl) (by simp) ?_
  refine cons_drop rfl (fun K hK => ?_) AllReadyH.nil
  go_simp
  refine hK.out _ _ (HKS2.out _ _ HBF.out) (fun hHeldZ => ?_)
  clear hK K hHeld17
  try simp only [ap]
  refine wpAnyH_done (by kernel_rfl) ?_ _
  refine NoPanic.normal ?_
  clear hHeldZ cx fx
  rotate_left
  go_simp
  obtain ⟨c18, hc18⟩ : ∃ u, u = c14.alloc (.cells #[Value.string text] 9) := ⟨_, rfl⟩
  rw [← hc18]
  have hbz : Below c14.heap.size c14 c18 := by rw [hc18]; exact (Below.refl _ _).alloc (Nat.le_refl _) _
  have HB18 : Hid (Below u0.heap.size u0 c18) := Lib.hid (HB14.out.trans (hbz.mono HB14.out.size))
  have one_18 : Hid (CIn c18 (.slice (some ⟨c14.heap.size, 0, none⟩) 1 1) 1 1 #[Value.string text].toList) := Lib.hid (by rw [hc18]; exact CIn.new c14 _ _ rfl HONE.out)
  have HNE18 : Hid (c14.heap.size ≠ u0.heap.size) := Lib.hid (by have q := (own0_14.out.lt u0.heap.size rfl).2; omega)
  have own0_18 := Lib.hid (own_stay own0_14.out hbz)
  clear hbz
  replace hc18 := Lib.hid hc18
  refine hK.out _ _ (HKS.out _ HB18.out) (fun hHeld18 => ?_)
  clear hK K hHeld14
  try simp only [ap]
  refine wpAnyH_ready (rs := [3]) (by kernel_rfl) (by simp) ?_
  refine cons_drop rfl (fun K hK => ?_) AllReadyH.nil
  refine step_append_any c18 rfl _ _ 28 9 rfl i0 _ 1 16 Tryz.underlying28 HSZ.out hi0 hz0 hz1 hz2 rfl (by decide) u0.heap.size (.slice (some ⟨u0.heap.size, 0, none⟩) 0 0) (.slice Ak L ck) 0 L [] xs rfl rfl own0_18.out (HIN.out _ HB18.out) (by simp only [maxLen]; omega) (by omega) HB18.out.size ?_
  intro v1_19 c19 hown hgr
  have HB19 : Hid (Below u0.heap.size u0 c19) := Lib.hid (below_grown HB18.out hgr (fun r hr => (own0_18.out.lt r hr).1) HB18.out.size)
  rw [Nat.zero_add, List.nil_append] at hown
  have own1_19 := Lib.hid hown
  have one_19 := Lib.hid (CIn.grown one_18.out hgr (fun e => HNE18.out (Option.some.inj e)))
  clear hown hgr
  refine hK.out _ _ (HKS.out _ HB19.out) (fun hHeld19 => ?_)
  clear hK K hHeld18
  try simp only [ap]
  refine wpAnyH_ready (rs := [7]) (by kernel_rfl) (by simp) ?_
  refine cons_drop rfl (fun K hK => ?_) AllReadyH.nil
  refine step_append_any c19 rfl _ _ 28 9 rfl i0 _ 1 16 Tryz.underlying28 HSZ.out hi0 hz0 hz1 hz2 rfl (by decide) u0.heap.size v1_19 (.slice (some ⟨c14.heap.size, 0, none⟩) 1 1) L 1 xs #[Value.string text].toList rfl rfl own1_19.out one_19.out (by simp only [maxLen]; omega) (by omega) HB19.out.size ?_
  intro vF cF hown hgr
  obtain ⟨Ar, cr, rfl, hbr⟩ := own_slice hown
  have HOF := Lib.hid hown; have HBRF := Lib.hid hbr
  have HBF : Hid (Below u0.heap.size u0 cF) := Lib.hid (below_grown HB19.out hgr (fun r hr => (own1_19.out.lt r hr).1) HB19.out.size)
  clear hown hgr hbr
  refine hK.out _ _ (HKS.out _ HBF.out) (fun hHeld20 => ?_)
  clear hK K hHeld19
  try simp only [ap]
  refine tk 8 rfl ?_
  try simp only [ap]
  obtain ⟨cx, fx⟩ := HCX.out cF HBF.out
  refine wpAnyH_ready (rs := [9]) (by kernel_rfl) (by simp) ?_
  refine cons_drop rfl (fun K hK => ?_) AllReadyH.nil
  go_simp
  refine hK.out _ _ (HKS2.out _ _ HBF.out) (fun hHeldZ => ?_)
  clear hK K hHeld20
  try simp only [ap]
  refine wpAnyH_done (by kernel_rfl) ?_ _
  refine NoPanic.normal ?_
  clear hHeldZ cx fx
  rotate_left
  go_simp
  obtain ⟨c21, hc21⟩ : ∃ u, u = u0.alloc (.cells #[Value.string text] 9) := ⟨_, rfl⟩
  rw [← hc21]
  have hbz : Below u0.heap.size u0 c21 := by rw [hc21]; exact (Below.refl _ _).alloc (Nat.le_refl _) _
  have HB21 : Hid (Below u0.heap.size u0 c21) := Lib.hid (HBu.out.trans (hbz.mono HBu.out.size))
  have one_21 : Hid (CIn c21 (.slice (some ⟨u0.heap.size, 0, none⟩) 1 1) 1 1 #[Value.string text].toList) := Lib.hid (by rw [hc21]; exact CIn.new u0 _ _ rfl HONE.out)
  clear hbz
  replace hc21 := Lib.hid hc21
  refine hK.out _ _ (HKS.out _ HB21.out) (fun hHeld21 => ?_)
  clear hK K hHeld13
  try simp only [ap]
  refine wpAnyH_ready (rs := [0]) (by kernel_rfl) (by simp) ?_
  refine cons_drop rfl (fun K hK => ?_) AllReadyH.nil
  go_simp
  obtain ⟨c22, hc22⟩ : ∃ u, u = c21.alloc (.cells #[] 9) := ⟨_, rfl⟩
  rw [← hc22]
  have hbz : Below c21.heap.size c21 c22 := by rw [hc22]; exact (Below.refl _ _).alloc (Nat.le_refl _) _
  have HB22 : Hid (Below u0.heap.size u0 c22) := Lib.hid (HB21.out.trans (hbz.mono HB21.out.size))
  have own0_22 : Hid (c22.ownsRow u0.heap.size 9 1 (.slice (some ⟨c21.heap.size, 0, none⟩) 0 0) 0 []) := Lib.hid (by rw [hc22]; exact World.ownsRow_lit c21 #[] 0 HB21.out.size (Nat.zero_le _) (by simp))
  have HNE22 : Hid (u0.heap.size ≠ c21.heap.size) := Lib.hid (by have q : u0.heap.size < c21.heap.size := one_21.out.lt; omega)
  have one_22 := Lib.hid (CIn.later one_21.out hbz)
  clear hbz
  replace hc22 := Lib.hid hc22
  refine hK.out _ _ (HKS.out _ HB22.out) (fun hHeld22 => ?_)
  clear hK K hHeld21
  try simp only [ap]
  refine wpAnyH_ready (rs := [3]) (by kernel_rfl) (by simp) ?_
  refine cons_drop rfl (fun K hK => ?_) AllReadyH.nil
  refine step_append_any c22 rfl _ _ 28 9 rfl i0 _ 1 16 Tryz.underlying28 HSZ.out hi0 hz0 hz1 hz2 rfl (by decide) u0.heap.size (.slice (some ⟨c21.heap.size, 0, none⟩) 0 0) (.slice Ak L ck) 0 L [] xs rfl rfl own0_22.out (HIN.out _ HB22.out) (by simp only [maxLen]; omega) (by omega) HB22.out.size ?_
  intro v1_23 c23 hown hgr
  have HB23 : Hid (Below u0.heap.size u0 c23) := Lib.hid (below_grown HB22.out hgr (fun r hr => (own0_22.out.lt r hr).1) HB22.out.size)
  rw [Nat.zero_add, List.nil_append] at hown
  have own1_23 := Lib.hid hown
  have one_23 := Lib.hid (CIn.grown one_22.out hgr (fun e => HNE22.out (Option.some.inj e)))
  clear hown hgr
  refine hK.out _ _ (HKS.out _ HB23.out) (fun hHeld23 => ?_)
  clear hK K hHeld22
  try simp only [ap]
  refine wpAnyH_ready (rs := [7]) (by kernel_rfl) (by simp) ?_
  refine cons_drop rfl (fun K hK => ?_) AllReadyH.nil
  refine step_append_any c23 rfl _ _ 28 9 rfl i0 _ 1 16 Tryz.underlying28 HSZ.out hi0 hz0 hz1 hz2 rfl (by decide) u0.heap.size v1_23 (.slice (some ⟨u0.heap.size, 0, none⟩) 1 1) L 1 xs #[Value.string text].toList rfl rfl own1_23.out one_23.out (by simp only [maxLen]; omega) (by omega) HB23.out.size ?_
  intro vF cF hown hgr
  obtain ⟨Ar, cr, rfl, hbr⟩ := own_slice hown
  have HOF := Lib.hid hown; have HBRF := Lib.hid hbr
  have HBF : Hid (Below u0.heap.size u0 cF) := Lib.hid (below_grown HB23.out hgr (fun r hr => (own1_23.out.lt r hr).1) HB23.out.size)
  clear hown hgr hbr
  refine hK.out _ _ (HKS.out _ HBF.out) (fun hHeld24 => ?_)
  clear hK K hHeld23
  try simp only [ap]
  refine tk 8 rfl ?_
  try simp only [ap]
  obtain ⟨cx, fx⟩ := HCX.out cF HBF.out
  refine wpAnyH_ready (rs := [9]) (by kernel_rfl) (by simp) ?_
  refine cons_drop rfl (fun K hK => ?_) AllReadyH.nil
  go_simp
  refine hK.out _ _ (HKS2.out _ _ HBF.out) (fun hHeldZ => ?_)
  clear hK K hHeld24
  try simp only [ap]
  refine wpAnyH_done (by kernel_rfl) ?_ _
  refine NoPanic.normal ?_
  clear hHeldZ cx fx
  rotate_left
  go_simp
  obtain ⟨c25, hc25⟩ : ∃ u, u = u0.alloc (.cells #[Value.string text] 9) := ⟨_, rfl⟩
  rw [← hc25]
  have hbz : Below u0.heap.size u0 c25 := by rw [hc25]; exact (Below.refl _ _).alloc (Nat.le_refl _) _
  have HB25 : Hid (Below u0.heap.size u0 c25) := Lib.hid (HBu.out.trans (hbz.mono HBu.out.size))
  have one_25 : Hid (CIn c25 (.slice (some ⟨u0.heap.size, 0, none⟩) 1 1) 1 1 #[Value.string text].toList) := Lib.hid (by rw [hc25]; exact CIn.new u0 _ _ rfl HONE.out)
  clear hbz
  replace hc25 := Lib.hid hc25
  refine hK.out _ _ (HKS.out _ HB25.out) (fun hHeld25 => ?_)
  clear hK K hHeld
  try simp only [ap]
  refine wpAnyH_ready (rs := [0, 2]) (by kernel_rfl) (by simp) ?_
  refine cons_drop rfl (fun K hK => ?_) (cons_drop rfl (fun K hK => ?_) AllReadyH.nil)
  go_simp
  obtain ⟨c26, hc26⟩ : ∃ u, u = c25.alloc (.cells #[] 9) := ⟨_, rfl⟩
  rw [← hc26]
  have hbz : Below c25.heap.size c25 c26 := by rw [hc26]; exact (Below.refl _ _).alloc (Nat.le_refl _) _
  have HB26 : Hid (Below u0.heap.size u0 c26) := Lib.hid (HB25.out.trans (hbz.mono HB25.out.size))
  have own0_26 : Hid (c26.ownsRow u0.heap.size 9 1 (.slice (some ⟨c25.heap.size, 0, none⟩) 0 0) 0 []) := Lib.hid (by rw [hc26]; exact World.ownsRow_lit c25 #[] 0 HB25.out.size (Nat.zero_le _) (by simp))
  have HNE26 : Hid (u0.heap.size ≠ c25.heap.size) := Lib.hid (by have q : u0.heap.size < c25.heap.size := one_25.out.lt; omega)
  have one_26 := Lib.hid (CIn.later one_25.out hbz)
  clear hbz
  replace hc26 := Lib.hid hc26
  refine hK.out _ _ (HKS.out _ HB26.out) (fun hHeld26 => ?_)
  clear hK K hHeld25
  try simp only [ap]
  refine wpAnyH_ready (rs := [2]) (by kernel_rfl) (by simp) ?_
  refine cons_drop rfl (fun K hK => ?_) AllReadyH.nil
  obtain ⟨cx, -⟩ := HCX.out c26 HB26.out
  go_simp
  refine hK.out _ _ (HKS.out _ HB26.out) (fun hHeld27 => ?_)
  clear hK K hHeld26
  try simp only [ap]
  clear cx
  refine wpAnyH_ready (rs := [3]) (by kernel_rfl) (by simp) ?_
  refine cons_drop rfl (fun K hK => ?_) AllReadyH.nil
  refine step_append_any c26 rfl _ _ 28 9 rfl i0 _ 1 16 Tryz.underlying28 HSZ.out hi0 hz0 hz1 hz2 rfl (by decide) u0.heap.size (.slice (some ⟨c25.heap.size, 0, none⟩) 0 0) (.slice Ak L ck) 0 L [] xs rfl rfl own0_26.out (HIN.out _ HB26.out) (by simp only [maxLen]; omega) (by omega) HB26.out.size ?_
  intro v1_28 c28 hown hgr
  have HB28 : Hid (Below u0.heap.size u0 c28) := Lib.hid (below_grown HB26.out hgr (fun r hr => (own0_26.out.lt r hr).1) HB26.out.size)
  rw [Nat.zero_add, List.nil_append] at hown
  have own1_28 := Lib.hid hown
  have one_28 := Lib.hid (CIn.grown one_26.out hgr (fun e => HNE26.out (Option.some.inj e)))
  clear hown hgr
  refine hK.out _ _ (HKS.out _ HB28.out) (fun hHeld28 => ?_)
  clear hK K hHeld27
  try simp only [ap]
  refine wpAnyH_ready (rs := [7]) (by kernel_rfl) (by simp) ?_
  refine cons_drop rfl (fun K hK => ?_) AllReadyH.nil
  refine step_append_any c28 rfl _ _ 28 9 rfl i0 _ 1 16 Tryz.underlying28 HSZ.out hi0 hz0 hz1 hz2 rfl (by decide) u0.heap.size v1_28 (.slice (some ⟨u0.heap.size, 0, none⟩) 1 1) L 1 xs #[Value.string text].toList rfl rfl own1_28.out one_28.out (by simp only [maxLen]; omega) (by omega) HB28.out.size ?_
  intro vF cF hown hgr
  obtain ⟨Ar, cr, rfl, hbr⟩ := own_slice hown
  have HOF := Lib.hid hown; have HBRF := Lib.hid hbr
  have HBF : Hid (Below u0.heap.size u0 cF) := Lib.hid (below_grown HB28.out hgr (fun r hr => (own1_28.out.lt r hr).1) HB28.out.size)
  clear hown hgr hbr
  refine hK.out _ _ (HKS.out _ HBF.out) (fun hHeld29 => ?_)
  clear hK K hHeld28
  try simp only [ap]
  refine tk 8 rfl ?_
  try simp only [ap]
  obtain ⟨cx, fx⟩ := HCX.out cF HBF.out
  refine wpAnyH_ready (rs := [9]) (by kernel_rfl) (by simp) ?_
  refine cons_drop rfl (fun K hK => ?_) AllReadyH.nil
  go_simp
  refine hK.out _ _ (HKS2.out _ _ HBF.out) (fun hHeldZ => ?_)
  clear hK K hHeld29
  try simp only [ap]
  refine wpAnyH_done (by kernel_rfl) ?_ _
  refine NoPanic.normal ?_
  clear hHeldZ cx fx
  rotate_left
  obtain ⟨cx, -⟩ := HCX.out c25 HB25.out
  go_simp
  refine hK.out _ _ (HKS.out _ HB25.out) (fun hHeld30 => ?_)
  clear hK K hHeld25
  try simp only [ap]
  clear cx
  refine wpAnyH_ready (rs := [0]) (by kernel_rfl) (by simp) ?_
  refine cons_drop rfl (fun K hK => ?_) AllReadyH.nil
  go_simp
  obtain ⟨c31, hc31⟩ : ∃ u, u = c25.alloc (.cells #[] 9) := ⟨_, rfl⟩
  rw [← hc31]
  have hbz : Below c25.heap.size c25 c31 := by rw [hc31]; exact (Below.refl _ _).alloc (Nat.le_refl _) _
  have HB31 : Hid (Below u0.heap.size u0 c31) := Lib.hid (HB25.out.trans (hbz.mono HB25.out.size))
  have own0_31 : Hid (c31.ownsRow u0.heap.size 9 1 (.slice (some ⟨c25.heap.size, 0, none⟩) 0 0) 0 []) := Lib.hid (by rw [hc31]; exact World.ownsRow_lit c25 #[] 0 HB25.out.size (Nat.zero_le _) (by simp))
  have HNE31 : Hid (u0.heap.size ≠ c25.heap.size) := Lib.hid (by have q : u0.heap.size < c25.heap.size := one_25.out.lt; omega)
  have one_31 := Lib.hid (CIn.later one_25.out hbz)
  clear hbz
  replace hc31 := Lib.hid hc31
  refine hK.out _ _ (HKS.out _ HB31.out) (fun hHeld31 => ?_)
  clear hK K hHeld30
  try simp only [ap]
  refine wpAnyH_ready (rs := [3]) (by kernel_rfl) (by simp) ?_
  refine cons_drop rfl (fun K hK => ?_) AllReadyH.nil
  refine step_append_any c31 rfl _ _ 28 9 rfl i0 _ 1 16 Tryz.underlying28 HSZ.out hi0 hz0 hz1 hz2 rfl (by decide) u0.heap.size (.slice (some ⟨c25.heap.size, 0, none⟩) 0 0) (.slice Ak L ck) 0 L [] xs rfl rfl own0_31.out (HIN.out _ HB31.out) (by simp only [maxLen]; omega) (by omega) HB31.out.size ?_
  intro v1_32 c32 hown hgr
  have HB32 : Hid (Below u0.heap.size u0 c32) := Lib.hid (below_grown HB31.out hgr (fun r hr => (own0_31.out.lt r hr).1) HB31.out.size)
  rw [Nat.zero_add, List.nil_append] at hown
  have own1_32 := Lib.hid hown
  have one_32 := Lib.hid (CIn.grown one_31.out hgr (fun e => HNE31.out (Option.some.inj e)))
  clear hown hgr
  refine hK.out _ _ (HKS.out _ HB32.out) (fun hHeld32 => ?_)
  clear hK K hHeld31
  try simp only [ap]
  refine wpAnyH_ready (rs := [7]) (by kernel_rfl) (by simp) ?_
  refine cons_drop rfl (fun K hK => ?_) AllReadyH.nil
  refine step_append_any c32 rfl _ _ 28 9 rfl i0 _ 1 16 Tryz.underlying28 HSZ.out hi0 hz0 hz1 hz2 rfl (by decide) u0.heap.size v1_32 (.slice (some ⟨u0.heap.size, 0, none⟩) 1 1) L 1 xs #[Value.string text].toList rfl rfl own1_32.out one_32.out (by simp only [maxLen]; omega) (by omega) HB32.out.size ?_
  intro vF cF hown hgr
  obtain ⟨Ar, cr, rfl, hbr⟩ := own_slice hown
  have HOF := Lib.hid hown; have HBRF := Lib.hid hbr
  have HBF : Hid (Below u0.heap.size u0 cF) := Lib.hid (below_grown HB32.out hgr (fun r hr => (own1_32.out.lt r hr).1) HB32.out.size)
  clear hown hgr hbr
  refine hK.out _ _ (HKS.out _ HBF.out) (fun hHeld33 => ?_)
  clear hK K hHeld32
  try simp only [ap]
  refine tk 8 rfl ?_
  try simp only [ap]
  obtain ⟨cx, fx⟩ := HCX.out cF HBF.out
  refine wpAnyH_ready (rs := [9]) (by kernel_rfl) (by simp) ?_
  refine cons_drop rfl (fun K hK => ?_) AllReadyH.nil
  go_simp
  refine hK.out _ _ (HKS2.out _ _ HBF.out) (fun hHeldZ => ?_)
  clear hK K hHeld33
  try simp only [ap]
  refine wpAnyH_done (by kernel_rfl) ?_ _
  refine NoPanic.normal ?_
  clear hHeldZ cx fx
  rotate_left
  all_goals
   obtain ⟨w6, hw6⟩ : ∃ w6, w6 = cF.setCell ⟨w.heap.size, 4, none⟩ (.slice Ar (L + 1) cr) := ⟨_, rfl⟩
   have hbF1 : Below W1.heap.size W1 cF := HBu1.out _ HBF.out
   have hx6 : RX w6 w.heap.size f (.slice Bu nu cu) s.closed s.next (.slice Ar (L + 1) cr) (.slice Aq nt ct) (.slice Am nm cm) := by rw [hw6]; exact (HX.out cF hbF1).1.set4
   have hq6 : RX w6 (w.heap.size + 1 + 1) ⟨#[]⟩ (.slice none 0 0) 0 0 (.slice none 0 0) (.slice none 0 0) (.slice none 0 0) := by rw [hw6]; exact (HX.out cF hbF1).2.2.1.far (by omega)
   have HB6 : Hid (Below w.heap.size w w6) := Lib.hid (by rw [hw6]; exact (HBW.out cF hbF1).setCell (p := ⟨w.heap.size, 4, none⟩) (Nat.le_refl _) _)
   have HW6 := Lib.hid hw6
   obtain ⟨x0, x1, x2, x3, x4, x5, x6, xf⟩ := hx6.cells
   obtain ⟨q0, q1, q2, q3, q4, q5, q6, qf⟩ := hq6.cells
   rw [show ((0 : Nat) : Int) = 0 from rfl] at q3
   have qf0 := qf 0; have qf1 := qf 1; have qf2 := qf 2; have qf3 := qf 3; have qf4 := qf 4; have qf5 := qf 5; have qf6 := qf 6
   clear qf xf hx6 hq6 hbF1
   rw [← hw6]
   clear hw6
   go_wp2_with fail
   refine bodyPost_ret (v := .tuple #[.agg #[.string f, .slice Bu nu cu, .int .i64 s.closed, .int .u64 (s.next : Nat), .slice Ar (L + 1) cr, .slice Aq nt ct, .slice Am nm cm], .bool true]) (by simp [results, Tryz.results32, go_sem, q0, q1, q2, q3, q4, q5, q6]) rfl ?_
   obtain ⟨W7, hW7⟩ : ∃ W7, W7 = ((((((w6.setCell ⟨w.heap.size + 1 + 1, 0, none⟩ (.string f)).setCell ⟨w.heap.size + 1 + 1, 1, none⟩ (.slice Bu nu cu)).setCell ⟨w.heap.size + 1 + 1, 2, none⟩ (.int .i64 s.closed)).setCell ⟨w.heap.size + 1 + 1, 3, none⟩ (.int .u64 (s.next : Nat))).setCell ⟨w.heap.size + 1 + 1, 4, none⟩ (.slice Ar (L + 1) cr)).setCell ⟨w.heap.size + 1 + 1, 5, none⟩ (.slice Aq nt ct)).setCell ⟨w.heap.size + 1 + 1, 6, none⟩ (.slice Am nm cm) := ⟨_, rfl⟩
   rw [← hW7]
   exact HOUT.out cF w6 W7 Ar cr HOF.out HBRF.out HBF.out HW6.out HB6.out hW7
end Hi
end Go.Proofs.YtkajcldmolcllaaGreat
