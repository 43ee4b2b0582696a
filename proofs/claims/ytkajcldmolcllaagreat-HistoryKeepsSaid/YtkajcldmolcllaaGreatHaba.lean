/- The reference's outside. -/
/- The reference's outside: the reference's command: scheduled. -/
import Derived.Laws.Rows
import Derived.Laws.IdiomRangeMap
import Derived.Test.YtkajcldmolcllaaGreatHaaw
import Derived.Test.YtkajcldmolcllaaGreatHaax
import Derived.Test.YtkajcldmolcllaaGreatHaay
import Derived.Test.YtkajcldmolcllaaGreatHaaz
set_option linter.unusedVariables false
set_option linter.unusedSimpArgs false
open Go.RowKit
namespace Go.Proofs.YtkajcldmolcllaaGreat
namespace Hi
open Ev (EV)
open Cn (BT)
variable {X : Nat → Prop}

theorem outside_any (s : ST) (f : ByteArray) (Bu : Option Addr) (nu cu : Nat) (uk ut um : Value) (b : BT) (A : Option Addr) (cap : Nat) (w : World) (h : OIn X w s uk ut um b A cap) (hp : 0 < b.es.length) (he : EvOk (b.es[0]'hp)) (hk : (b.es[0]'hp).k ≤ 6) :
  Calls Tryz.prog 32 #[.agg (rhC f (.slice Bu nu cu) s.closed s.next uk ut um), .agg #[.string b.flow, .int .u64 (b.at' : Nat), .slice A b.es.length cap]] w (ROut X w f (.slice Bu nu cu) (applyM b.at' (decide (b.es.length = 1)) (b.es[0]'hp) s)) := by
 have h1 := he.k0
 have hc : (b.es[0]'hp).k = 1 ∨ (b.es[0]'hp).k = 2 ∨ (b.es[0]'hp).k = 3 ∨ (b.es[0]'hp).k = 4 ∨ (b.es[0]'hp).k = 5 ∨ (b.es[0]'hp).k = 6 := by omega
 rcases hc with q | q | q | q | q | q
 ·exact out1_any s f Bu nu cu uk ut um b A cap w h hp he q
 ·exact out2_any s f Bu nu cu uk ut um b A cap w h hp he q
 ·exact out3_any s f Bu nu cu uk ut um b A cap w h hp he q
 ·exact out4_any s f Bu nu cu uk ut um b A cap w h hp he q
 ·exact out5_any s f Bu nu cu uk ut um b A cap w h hp he q
 ·exact out6_any s f Bu nu cu uk ut um b A cap w h hp he q
end Hi
end Go.Proofs.YtkajcldmolcllaaGreat
namespace Go.Proofs.YtkajcldmolcllaaGreat
namespace Hi
open _root_.Go.Proofs.YtkajcldmolcllaaGreat.Nm (ret_int ret_bool)
open Vt (VT Rep below_drew Cloned put5)
open Ev (EV FieldsOk evCells vCells EBox take_drop tk ap cons_drop)
open Cm (rowOf EvsIn)
open Cn (BT BB BtsIn box_ev)
variable {X X' Y Y' : Nat → Prop} {u v w w' V V' : World} {hb bt bm bk n cap : Nat} {A : Option Addr} {h : HM}
set_option maxRecDepth 100000 in
set_option maxHeartbeats 4000000 in
theorem cmd7_any (s : ST) (f : ByteArray) (Bu : Option Addr) (nu cu : Nat) (uk ut um : Value) (b : BT) (A : Option Addr) (cap : Nat) (w : World) (h : OIn X w s uk ut um b A cap) (i : Nat) (hp : i < b.es.length) (he : EvOk (b.es[i]'hp)) (hk : b.es[i].k = 7) :
  Calls Tryz.prog 33 #[.agg (rhC f (.slice Bu nu cu) s.closed s.next uk ut um), .agg #[.string b.flow, .int .u64 (b.at' : Nat), .slice A b.es.length cap], .int .i64 (i : Nat)] w (ROut X w f (.slice Bu nu cu) (applyM b.at' (decide (i + 1 = b.es.length)) (b.es[i]'hp) s)) := by
 obtain ⟨Ak, nk, ck, rfl⟩ : ∃ A n c, uk = .slice A n c := by obtain ⟨xs, ⟨-, -, A, c, e, -⟩, -⟩ := h.rs.keys; exact ⟨_, _, _, e⟩
 obtain ⟨Aq, nt, ct, rfl⟩ : ∃ A n c, ut = .slice A n c := by obtain ⟨xs, ⟨-, -, A, c, e, -⟩, -⟩ := h.rs.tasks; exact ⟨_, _, _, e⟩
 obtain ⟨Am, nm, cm, rfl⟩ : ∃ A n c, um = .slice A n c := by obtain ⟨xs, ⟨-, -, A, c, e, -⟩, -⟩ := h.rs.timers; exact ⟨_, _, _, e⟩
 obtain ⟨eb, eo, lo0, hi0, vk, vn, vf, vs, A0, m0, c0, rfl, heb, hff, hrep, hhi, z0, z1, z2, z3, z4, z5, z6, z7, z8, z9, z10⟩ := h.evs.get i hp
 have hrepV := hrep
 replace hrep := Rep.leads hrep (leads_veil X w)
 rw [veil_size] at heb hhi
 replace z0 := (leads_veil X w).cell z0
 replace z1 := (leads_veil X w).cell z1
 replace z2 := (leads_veil X w).cell z2
 replace z3 := (leads_veil X w).cell z3
 replace z4 := (leads_veil X w).cell z4
 replace z5 := (leads_veil X w).cell z5
 replace z6 := (leads_veil X w).cell z6
 replace z7 := (leads_veil X w).cell z7
 replace z8 := (leads_veil X w).cell z8
 replace z9 := (leads_veil X w).cell z9
 replace z10 := (leads_veil X w).cell z10
 have hle := h.evs.le
 have hcm := h.evs.cap_le
 simp only [maxLen] at hcm
 obtain ⟨m, hm⟩ : ∃ m, m = b.es.length := ⟨_, rfl⟩
 obtain ⟨ff, hf0⟩ : ∃ ff, ff = b.flow := ⟨_, rfl⟩
 obtain ⟨at', hat⟩ : ∃ at', at' = b.at' := ⟨_, rfl⟩
 obtain ⟨e, hee⟩ : ∃ e, e = b.es[i]'hp := ⟨_, rfl⟩
 have hbat := h.at'
 rw [← hat] at hbat
 rw [← hee] at hff hrep hrepV z0 z1 z2 z3 z4 z5 he hk ⊢
 have HRV := Lib.hid h.rs; have HRS := Lib.hid (h.rs.leads (leads_veil X w)); have HXB := Lib.hid h.xb; have HFI := Lib.hid h.fine; have hn1 := h.n1; have hn2 := h.n2; have hn3 := h.n3; have hn4 := h.n4
 rw [← hm] at hle ⊢
 rw [← hf0, ← hat]
 have hmp : i < m := by omega
 clear h hee hat hf0 hm hp
 obtain ⟨k, id, en, ea, name, text, ev⟩ := e
 have hid := he.f.i1
 dsimp only at hid hk hrep hrepV hff z0 z1 z2 z3 z4 z5 z6 z7 z8 z9 z10
 obtain rfl : k = 7 := hk
 have HE := Lib.hid he
 obtain ⟨W0, hW0⟩ : ∃ W0, W0 = ((w.alloc (.cells (rhC f (.slice Bu nu cu) s.closed s.next (.slice Ak nk ck) (.slice Aq nt ct) (.slice Am nm cm)) 32)).alloc (.cells #[.string ff, .int .u64 (at' : Nat), .slice (some ⟨eb, eo, none⟩) m cap] 36)).alloc (.cells (rhC ⟨#[]⟩ (.slice none 0 0) 0 0 (.slice none 0 0) (.slice none 0 0) (.slice none 0 0)) 32) := ⟨_, rfl⟩
 obtain ⟨W1, hW1⟩ : ∃ W1, W1 = W0.alloc (.cells (evCells ⟨7, id, en, ea, name, text, ev⟩ vk vn vf vs A0 m0 c0) 53) := ⟨_, rfl⟩
 have hs0 : W0.heap.size = w.heap.size + 3 := by rw [hW0]; simp
 have hs1 : W1.heap.size = w.heap.size + 4 := by rw [hW1]; simp [hs0]
 have hb0 : Below w.heap.size w W0 := by rw [hW0]; exact (((Below.refl _ _).alloc (Nat.le_refl _) _).alloc (by simp) _).alloc (by simp; omega) _
 have hb1 : Below w.heap.size w W1 := by rw [hW1]; exact hb0.alloc (by omega) _
 have hx0 : W0.heap[w.heap.size]? = some (.cells (rhC f (.slice Bu nu cu) s.closed s.next (.slice Ak nk ck) (.slice Aq nt ct) (.slice Am nm cm)) 32 (0, 0)) := by rw [hW0]; exact (heap_alloc_old _ _ (by simp; omega)).trans ((heap_alloc_old _ _ (by simp)).trans (heap_alloc_new w _))
 have hx1 : W0.heap[w.heap.size + 1]? = some (.cells #[.string ff, .int .u64 (at' : Nat), .slice (some ⟨eb, eo, none⟩) m cap] 36 (0, 0)) := by
  rw [hW0, heap_alloc_old _ _ (by simp)]
  have e := heap_alloc_new (w.alloc (.cells (rhC f (.slice Bu nu cu) s.closed s.next (.slice Ak nk ck) (.slice Aq nt ct) (.slice Am nm cm)) 32)) (.cells #[.string ff, .int .u64 (at' : Nat), .slice (some ⟨eb, eo, none⟩) m cap] 36)
  rw [World.size_alloc] at e
  exact e
 have hx2 : W0.heap[w.heap.size + 2]? = some (.cells (rhC ⟨#[]⟩ (.slice none 0 0) 0 0 (.slice none 0 0) (.slice none 0 0) (.slice none 0 0)) 32 (0, 0)) := by
  rw [hW0]
  have e := heap_alloc_new ((w.alloc (.cells (rhC f (.slice Bu nu cu) s.closed s.next (.slice Ak nk ck) (.slice Aq nt ct) (.slice Am nm cm)) 32)).alloc (.cells #[.string ff, .int .u64 (at' : Nat), .slice (some ⟨eb, eo, none⟩) m cap] 36)) (.cells (rhC ⟨#[]⟩ (.slice none 0 0) 0 0 (.slice none 0 0) (.slice none 0 0) (.slice none 0 0)) 32)
  simp only [World.size_alloc] at e
  exact e
 have HX : Hid (∀ W, Below W1.heap.size W1 W → RX W w.heap.size f (.slice Bu nu cu) s.closed s.next (.slice Ak nk ck) (.slice Aq nt ct) (.slice Am nm cm) ∧ BB W (w.heap.size + 1) ff at' (some ⟨eb, eo, none⟩) m cap ∧ RX W (w.heap.size + 1 + 1) ⟨#[]⟩ (.slice none 0 0) 0 0 (.slice none 0 0) (.slice none 0 0) (.slice none 0 0) ∧ EBox W (w.heap.size + 3) (evCells ⟨7, id, en, ea, name, text, ev⟩ vk vn vf vs A0 m0 c0)) := Lib.hid fun W hW => by
  have o : ∀ c, c < w.heap.size + 3 → W.heap[c]? = W0.heap[c]? := fun c hc => (hW.block c (by omega)).trans (by rw [hW1]; exact heap_alloc_old _ _ (by omega))
  refine ⟨(o _ (by omega)).trans hx0, (o _ (by omega)).trans hx1, (o _ (by omega)).trans hx2, (hW.block _ (by omega)).trans ?_⟩
  rw [hW1, ← hs0]; exact heap_alloc_new ..
 have HBW : Hid (∀ W, Below W1.heap.size W1 W → Below w.heap.size w W) := Lib.hid fun W hW => hb1.trans (hW.mono hb1.size)
 have HS1 := Lib.hid hs1; have HB1 := Lib.hid hb1
 obtain ⟨y0, y1, y2, -⟩ := BB.cells (show BB W0 (w.heap.size + 1) ff at' (some ⟨eb, eo, none⟩) m cap from hx1)
 obtain ⟨x0, x1, x2, x3, x4, x5, x6, -⟩ := (HX.out W1 (Below.refl _ _)).1.cells
 have e0 := (hb0.cell (p := ⟨eb, eo + i * 11, none⟩) heb).trans z0
 have e1 := (hb0.cell (p := ⟨eb, eo + i * 11 + 1, none⟩) heb).trans z1
 have e2 := (hb0.cell (p := ⟨eb, eo + i * 11 + 2, none⟩) heb).trans z2
 have e3 := (hb0.cell (p := ⟨eb, eo + i * 11 + 3, none⟩) heb).trans z3
 have e4 := (hb0.cell (p := ⟨eb, eo + i * 11 + 4, none⟩) heb).trans z4
 have e5 := (hb0.cell (p := ⟨eb, eo + i * 11 + 5, none⟩) heb).trans z5
 have e6 := (hb0.cell (p := ⟨eb, eo + i * 11 + 6, none⟩) heb).trans z6
 have e7 := (hb0.cell (p := ⟨eb, eo + i * 11 + 7, none⟩) heb).trans z7
 have e8 := (hb0.cell (p := ⟨eb, eo + i * 11 + 8, none⟩) heb).trans z8
 have e9 := (hb0.cell (p := ⟨eb, eo + i * 11 + 9, none⟩) heb).trans z9
 have e10 := (hb0.cell (p := ⟨eb, eo + i * 11 + 10, none⟩) heb).trans z10
 have HREP := Lib.hid hrep; have HREPV := Lib.hid hrepV; have HHI := Lib.hid hhi
 unfold rhC at hW0 ⊢
 unfold evCells at hW1
 dsimp only at hW1
 rw [show ((0 : Nat) : Int) = 0 from rfl] at hW0
 have hWs := Lib.hid hs0
 clear hs0 hs1 hb0 hb1 hx0 hx1 hx2 z0 z1 z2 z3 z4 z5 z6 z7 z8 z9 z10 hrep hrepV hhi hff he heb
 replace hW0 := Lib.hid hW0
 replace hW1 := Lib.hid hW1
 obtain ⟨al, hal⟩ : ∃ al, al = decide (i + 1 = m) := ⟨_, rfl⟩
 have hm1 : ((i : Int) == (m : Int) - 1) = al := by
  rw [hal]
  by_cases q : i + 1 = m
  ·rw [decide_eq_true q, beq_iff_eq]; omega
  ·rw [decide_eq_false q, beq_eq_false_iff_ne]; omega
 rw [← hal]
 have HAL := Lib.hid hal
 clear hal
 go_enter Tryz.func33, Tryz.ntmps33
 go_upto_region 1 with fail
 rw [← hW0.out]
 go_upto_region 2 with fail
 rw [← hW1.out]
 rw [show W0.heap.size = w.heap.size + 3 from hWs.out]
 clear y0 y1 y2 e0 e1 e2 e3 e4 e5 e6 e7 e8 e9 e10
 clear x0 x1 x2 x3 x4 x5 x6
 obtain ⟨x0, x1, x2, x3, x4, x5, x6, xf⟩ := (HX.out W1 (Below.refl _ _)).1.cells
 obtain ⟨y0, y1, y2, -⟩ := (HX.out W1 (Below.refl _ _)).2.1.cells
 obtain ⟨e0, e1, e2, e3, e4, e5, e6, e7, e8, e9, e10⟩ := EBox.cells (HX.out W1 (Below.refl _ _)).2.2.2
 dsimp only at e0 e1 e2 e3 e4 e5
 obtain ⟨q0, q1, q2, q3, q4, q5, q6, qf⟩ := (HX.out W1 (Below.refl _ _)).2.2.1.cells
 rw [show ((0 : Nat) : Int) = 0 from rfl] at q3
 have qf0 := qf 0; have qf1 := qf 1; have qf2 := qf 2; have qf3 := qf 3; have qf4 := qf 4; have qf5 := qf 5; have qf6 := qf 6
 clear qf
 by_cases h1 : id = s.next
 rotate_left
 ·have HN : Hid (applyM at' al ⟨7, id, en, ea, name, text, ev⟩ s = none) := Lib.hid (by simp [applyM, h1])
  have k1 : ((id : Int) == (s.next : Int)) = false := by simp; omega
  have k1' : ((id : Int) != (s.next : Int)) = true := by simp; omega
  go_wp2_with fail
  refine bodyPost_ret (v := .tuple #[.agg #[.string f, .slice Bu nu cu, .int .i64 s.closed, .int .u64 (s.next : Nat), .slice Ak nk ck, .slice Aq nt ct, .slice Am nm cm], .bool false]) (by simp [results, Tryz.results33, go_sem, q0, q1, q2, q3, q4, q5, q6]) rfl ?_
  exact ⟨below7 (HBW.out W1 (Below.refl _ _)) (Nat.le_succ_of_le (Nat.le_succ _)) _ _ _ _ _ _ _, s.closed, s.next, .slice Ak nk ck, .slice Aq nt ct, .slice Am nm cm, ⟨_, _, _, rfl⟩, ⟨_, _, _, rfl⟩, ⟨_, _, _, rfl⟩, by rw [HN.out]; rfl, fun s' hs => by rw [HN.out] at hs; cases hs⟩
 have k1 : ((id : Int) == (s.next : Int)) = true := by simp; omega
 have k1' : ((id : Int) != (s.next : Int)) = false := by simp; omega
 have H1 := Lib.hid h1
 clear h1
 obtain ⟨xs, hcinV, hst⟩ := HRV.out.tasks
 have hcin := hcinV.leads (leads_veil X w)
 clear hcinV
 have HCI := Lib.hid hcin; have HST := Lib.hid hst
 obtain ⟨rfl, hkc⟩ : nt = s.tasks.length ∧ s.tasks.length ≤ ct := by obtain ⟨-, -, A9, cap9, heq9, hle9, -, -⟩ := hcin; injection heq9 with a1 a2 a3; exact ⟨a2, by rw [a3]; exact hle9⟩
 obtain ⟨i0, hi0, hz0, hz1, hz2⟩ := info_parts Tryz.infoRt
 have HSZ := Lib.hid (sz_of hi0 hz1)
 have HONE : Hid (∀ x ∈ (#[Value.int .u64 (id : Nat), .string name, .int .i64 vk, .int .i64 vn, .float .f64 vf, .string vs, .slice A0 m0 c0, .int .i64 0, .bool false, .int .u64 (at' : Nat)] : Array Value).toList, x.oneCell' = true) := Lib.hid (by intro x hx; simp at hx; rcases hx with rfl | rfl | rfl | rfl | rfl | rfl | rfl | rfl | rfl | rfl <;> rfl)
 clear hcin hst
 obtain ⟨L, hL⟩ : ∃ L, L = s.tasks.length := ⟨_, rfl⟩
 have HLL := Lib.hid hL
 obtain ⟨W2, hW2⟩ : ∃ W2, W2 = W1.setCell ⟨w.heap.size, 3, none⟩ (.int .u64 ((s.next : Int) + 1)) := ⟨_, rfl⟩
 rw [← hL] at hkc hn1 HX x5
 have hb2 : Below w.heap.size w W2 := by rw [hW2]; exact (HBW.out W1 (Below.refl _ _)).setCell (p := ⟨w.heap.size, 3, none⟩) (Nat.le_refl _) _
 have hz2' : W2.heap.size = W1.heap.size := by rw [hW2]; simp [World.setCell]
 have HX2 : Hid (∀ W, Below W2.heap.size W2 W → RX W w.heap.size f (.slice Bu nu cu) s.closed (s.next + 1) (.slice Ak nk ck) (.slice Aq L ct) (.slice Am nm cm) ∧ BB W (w.heap.size + 1) ff at' (some ⟨eb, eo, none⟩) m cap ∧ RX W (w.heap.size + 1 + 1) ⟨#[]⟩ (.slice none 0 0) 0 0 (.slice none 0 0) (.slice none 0 0) (.slice none 0 0) ∧ EBox W (w.heap.size + 3) (evCells ⟨7, id, en, ea, name, text, ev⟩ vk vn vf vs A0 m0 c0)) := Lib.hid fun W hW => by
  have hs1 := HS1.out
  obtain ⟨r1, r2, r3, r4⟩ := HX.out W1 (Below.refl _ _)
  have o : ∀ c, c < w.heap.size + 4 → c ≠ w.heap.size → W.heap[c]? = W1.heap[c]? := fun c hc hne => (hW.block c (by omega)).trans (by rw [hW2]; exact RowKit.Below.heap_setCell _ _ _ _ hne)
  refine ⟨(hW.block _ (by omega)).trans ?_, (o _ (by omega) (by omega)).trans r2, (o _ (by omega) (by omega)).trans r3, (o _ (by omega) (by omega)).trans r4⟩
  rw [hW2]; exact r1.set3
 have HBW2 : Hid (∀ W, Below W2.heap.size W2 W → Below w.heap.size w W) := Lib.hid fun W hW => hb2.trans (hW.mono hb2.size)
 have HZ22 := Lib.hid hz2'
 clear hL hb2 hz2'
 replace hW2 := Lib.hid hW2
 have kn := IntWalk.u64_in ((s.next : Int) + 1) (by omega)
 go_upto_region 9 with fail
 rw [← hW2.out]
 clear kn
 clear x0 x1 x2 x3 x4 x5 x6 xf y0 y1 y2 e0 e1 e2 e3 e4 e5 e6 e7 e8 e9 e10 q0 q1 q2 q3 q4 q5 q6 qf0 qf1 qf2 qf3 qf4 qf5 qf6
 obtain ⟨u0, hu0⟩ : ∃ u, u = W2.drew := ⟨_, rfl⟩
 have HBu1 : Hid (∀ W, Below u0.heap.size u0 W → Below W2.heap.size W2 W) := Lib.hid fun W hW => by rw [hu0] at hW; exact (below_drew (Below.refl W2.heap.size W2)).trans (hW.mono (Nat.le_refl _))
 have HBu0 : Hid (W1.heap.size ≤ u0.heap.size) := Lib.hid (by rw [hu0, ← HZ22.out]; exact Nat.le_refl _)
 have HBu : Hid (Below u0.heap.size u0 u0) := Lib.hid (Below.refl _ _)
 have HKS : Hid (∀ W, Below u0.heap.size u0 W → (fun W : World => W.cell? ⟨w.heap.size + 3, 1, none⟩ = some (.int .u64 (id : Nat)) ∧ W.cell? ⟨w.heap.size + 3, 3, none⟩ = some (.int .u64 (ea : Nat)) ∧ W.cell? ⟨w.heap.size + 3, 4, none⟩ = some (.string name) ∧ W.cell? ⟨w.heap.size + 3, 6, none⟩ = some (.int .i64 vk) ∧ W.cell? ⟨w.heap.size + 3, 7, none⟩ = some (.int .i64 vn) ∧ W.cell? ⟨w.heap.size + 3, 8, none⟩ = some (.float .f64 vf) ∧ W.cell? ⟨w.heap.size + 3, 9, none⟩ = some (.string vs) ∧ W.cell? ⟨w.heap.size + 3, 10, none⟩ = some (.slice A0 m0 c0) ∧ W.cell? ⟨w.heap.size + 1, 1, none⟩ = some (.int .u64 (at' : Nat))) W) := Lib.hid fun W hW => by
  obtain ⟨-, d2, -, d4⟩ := HX2.out W (HBu1.out W hW)
  obtain ⟨g0, g1, g2, g3, g4, g5, g6, g7, g8, g9, g10⟩ := EBox.cells d4
  exact ⟨g1, g3, g4, g6, g7, g8, g9, g10, (BB.cells d2).2.1⟩
 have HKS2 : Hid (∀ W v, Below u0.heap.size u0 W → (fun W : World => W.cell? ⟨w.heap.size + 3, 1, none⟩ = some (.int .u64 (id : Nat)) ∧ W.cell? ⟨w.heap.size + 3, 3, none⟩ = some (.int .u64 (ea : Nat)) ∧ W.cell? ⟨w.heap.size + 3, 4, none⟩ = some (.string name) ∧ W.cell? ⟨w.heap.size + 3, 6, none⟩ = some (.int .i64 vk) ∧ W.cell? ⟨w.heap.size + 3, 7, none⟩ = some (.int .i64 vn) ∧ W.cell? ⟨w.heap.size + 3, 8, none⟩ = some (.float .f64 vf) ∧ W.cell? ⟨w.heap.size + 3, 9, none⟩ = some (.string vs) ∧ W.cell? ⟨w.heap.size + 3, 10, none⟩ = some (.slice A0 m0 c0) ∧ W.cell? ⟨w.heap.size + 1, 1, none⟩ = some (.int .u64 (at' : Nat))) (W.setCell ⟨w.heap.size, 5, none⟩ v)) := Lib.hid fun W v hW => by
  obtain ⟨-, d2, -, d4⟩ := HX2.out W (HBu1.out W hW)
  have d4' : EBox (W.setCell ⟨w.heap.size, 5, none⟩ v) (w.heap.size + 3) (evCells ⟨7, id, en, ea, name, text, ev⟩ vk vn vf vs A0 m0 c0) := (RowKit.Below.heap_setCell _ _ _ _ (by show w.heap.size + 3 ≠ w.heap.size; omega)).trans d4
  have d2' : BB (W.setCell ⟨w.heap.size, 5, none⟩ v) (w.heap.size + 1) ff at' (some ⟨eb, eo, none⟩) m cap := (RowKit.Below.heap_setCell _ _ _ _ (by show w.heap.size + 1 ≠ w.heap.size; omega)).trans d2
  obtain ⟨g0, g1, g2, g3, g4, g5, g6, g7, g8, g9, g10⟩ := EBox.cells d4'
  exact ⟨g1, g3, g4, g6, g7, g8, g9, g10, (BB.cells d2').2.1⟩
 have HCX : Hid (∀ W, Below u0.heap.size u0 W → W.cell? ⟨w.heap.size, 5, none⟩ = some (.slice Aq L ct) ∧ W.frozen? ⟨w.heap.size, 5, none⟩ = false) := Lib.hid fun W hW => ⟨(HX2.out W (HBu1.out W hW)).1.cells.2.2.2.2.2.1, (HX2.out W (HBu1.out W hW)).1.cells.2.2.2.2.2.2.2 5⟩
 have HIN : Hid (∀ W, Below u0.heap.size u0 W → CIn W (.slice Aq L ct) L 10 xs) := Lib.hid fun W hW => by rw [HLL.out]; exact HCI.out.later (HBW2.out W (HBu1.out W hW))
 have HOUT : Hid (∀ (s1 : ST) (bb : Bool) (cF W7 : World) (Ar : Option Addr) (cr : Nat), (bb = true → (some { s with tasks := s.tasks ++ [⟨id, name, ev, 0, false, at'⟩], next := s.next + 1 } : Option ST) = some s1) → ((some { s with tasks := s.tasks ++ [⟨id, name, ev, 0, false, at'⟩], next := s.next + 1 } : Option ST)).isSome = true → applyM at' al ⟨7, id, en, ea, name, text, ev⟩ s = (if bb = true then (some { s with tasks := s.tasks ++ [⟨id, name, ev, 0, false, at'⟩], next := s.next + 1 } : Option ST) else none) → cF.ownsRow u0.heap.size 105 10 (.slice Ar (L + 1) cr) (L + 1) (xs ++ (#[Value.int .u64 (id : Nat), .string name, .int .i64 vk, .int .i64 vn, .float .f64 vf, .string vs, .slice A0 m0 c0, .int .i64 0, .bool false, .int .u64 (at' : Nat)] : Array Value).toList) → (∀ r, rowOf Ar = some r → u0.heap.size ≤ r) → Below u0.heap.size u0 cF → Below w.heap.size w W7 → (∀ r, r ≠ w.heap.size → r ≠ w.heap.size + 1 + 1 → W7.heap[r]? = cF.heap[r]?) →
   ROut X w f (.slice Bu nu cu) (applyM at' al ⟨7, id, en, ea, name, text, ev⟩ s) (.returned (.tuple #[.agg #[.string f, .slice Bu nu cu, .int .i64 s.closed, .int .u64 ((s.next : Int) + 1), .slice Ak nk ck, .slice Ar (L + 1) cr, .slice Am nm cm], .bool bb])) W7) := Lib.hid fun s1 bb cF W7 Ar cr hs1 hsm hap ho hbr hbF hb7 hm7 => by
  have hs := HS1.out
  have hu := HBu0.out
  have ho7 := own_move (w' := W7) ho (fun r hr => by
   have := hbr r hr
   exact hm7 r (by omega) (by omega))
  refine ⟨hb7, s.closed, s.next + 1, .slice Ak nk ck, .slice Ar (L + 1) cr, .slice Am nm cm, ⟨_, _, _, rfl⟩, ⟨_, _, _, rfl⟩, ⟨_, _, _, rfl⟩, ?_, fun s' hs => ?_⟩
  ·rw [hap]; cases bb <;> rfl
  rw [hap] at hs
  cases bb with
  | false => cases hs
  | true =>
  cases hs
  refine ⟨rfl, rfl, ⟨(HRV.out.leads (veil_below X hb7)).keys, ⟨xs ++ (#[Value.int .u64 (id : Nat), .string name, .int .i64 vk, .int .i64 vn, .float .f64 vf, .string vs, .slice A0 m0 c0, .int .i64 0, .bool false, .int .u64 (at' : Nat)] : Array Value).toList, ?_, ?_⟩, (HRV.out.leads (veil_below X hb7)).timers⟩⟩
  ·have e : (s.tasks ++ [(⟨id, name, ev, 0, false, at'⟩ : TK)]).length = L + 1 := by rw [List.length_append, ← HLL.out]; rfl
   dsimp only
   rw [e]
   refine CIn.of_veil ho7 ?_ (by intro c hc; have := HXB.out c hc; have := HBu0.out; have := HS1.out; omega)
   intro x hx
   rcases List.mem_append.1 hx with q | q
   ·exact HCI.out.2.1 x q
   ·exact HONE.out x q
  ·exact (HST.out.leads (veil_below X hb7)).append (TkC.one (t := ⟨id, name, ev, 0, false, at'⟩) ⟨hid, Int.le_refl 0, (by show (0 : Int) ≤ 2147483647; decide), hbat, HE.out.f.s1⟩ (Rep.leads HREPV.out (veil_below X hb7)) (by rw [veil_size]; exact Nat.le_trans HHI.out hb7.size))
 have HN : Hid (applyM at' al ⟨7, id, en, ea, name, text, ev⟩ s = (some { s with tasks := s.tasks ++ [⟨id, name, ev, 0, false, at'⟩], next := s.next + 1 } : Option ST)) := Lib.hid (by simp [applyM, H1.out])
 refine wp_region_noPanic ?_
 refine wp_region_held_drew (S := (fun W : World => W.cell? ⟨w.heap.size + 3, 1, none⟩ = some (.int .u64 (id : Nat)) ∧ W.cell? ⟨w.heap.size + 3, 3, none⟩ = some (.int .u64 (ea : Nat)) ∧ W.cell? ⟨w.heap.size + 3, 4, none⟩ = some (.string name) ∧ W.cell? ⟨w.heap.size + 3, 6, none⟩ = some (.int .i64 vk) ∧ W.cell? ⟨w.heap.size + 3, 7, none⟩ = some (.int .i64 vn) ∧ W.cell? ⟨w.heap.size + 3, 8, none⟩ = some (.float .f64 vf) ∧ W.cell? ⟨w.heap.size + 3, 9, none⟩ = some (.string vs) ∧ W.cell? ⟨w.heap.size + 3, 10, none⟩ = some (.slice A0 m0 c0) ∧ W.cell? ⟨w.heap.size + 1, 1, none⟩ = some (.int .u64 (at' : Nat)))) (by kernel_rfl) ?_ (fun hHeld => ?_)
 ·rw [← hu0]; exact HKS.out _ (Below.refl _ _)
 rw [← hu0] at hHeld
 rw [← hu0]
 replace hu0 := Lib.hid hu0
 refine tk 1 rfl ?_
 try simp only [ap]
 refine tk 4 rfl ?_
 try simp only [ap]
 refine tk 5 rfl ?_
 try simp only [ap]
 refine tk 6 rfl ?_
 try simp only [ap]
 refine tk 7 rfl ?_
 try simp only [ap]
 refine tk 8 rfl ?_
 try simp only [ap]
 refine tk 9 rfl ?_
 try simp only [ap]
 refine tk 10 rfl ?_
 try simp only [ap]
 refine tk 11 rfl ?_
 try simp only [ap]
 refine tk 12 rfl ?_
 try simp only [ap]
 refine wpAnyH_ready (rs := [0, 2, 13]) (by kernel_rfl) (by simp) ?_
 refine cons_drop rfl (fun K hK => ?_) (cons_drop rfl (fun K hK => ?_) (cons_drop rfl (fun K hK => ?_) AllReadyH.nil))
 go_simp
 obtain ⟨c1, hc1⟩ : ∃ u, u = u0.alloc (.cells #[] 105) := ⟨_, rfl⟩
 rw [← hc1]
 have hbz : Below u0.heap.size u0 c1 := by rw [hc1]; exact (Below.refl _ _).alloc (Nat.le_refl _) _
 have HB1 : Hid (Below u0.heap.size u0 c1) := Lib.hid (HBu.out.trans (hbz.mono HBu.out.size))
 have own0_1 : Hid (c1.ownsRow u0.heap.size 105 10 (.slice (some ⟨u0.heap.size, 0, none⟩) 0 0) 0 []) := Lib.hid (by rw [hc1]; exact World.ownsRow_lit u0 #[] 0 HBu.out.size (Nat.zero_le _) (by simp))
 clear hbz
 replace hc1 := Lib.hid hc1
 refine hK.out _ _ (HKS.out _ HB1.out) (fun hHeld1 => ?_)
 clear hK K hHeld
 try simp only [ap]
 refine wpAnyH_ready (rs := [2, 13]) (by kernel_rfl) (by simp) ?_
 refine cons_drop rfl (fun K hK => ?_) (cons_drop rfl (fun K hK => ?_) AllReadyH.nil)
 obtain ⟨cx, -⟩ := HCX.out c1 HB1.out
 go_simp
 refine hK.out _ _ (HKS.out _ HB1.out) (fun hHeld2 => ?_)
 clear hK K hHeld1
 try simp only [ap]
 clear cx
 refine wpAnyH_ready (rs := [3, 13]) (by kernel_rfl) (by simp) ?_
 refine cons_drop rfl (fun K hK => ?_) (cons_drop rfl (fun K hK => ?_) AllReadyH.nil)
 refine step_append_any c1 rfl _ _ 29 105 rfl i0 _ 10 112 Tryz.underlying29 HSZ.out hi0 hz0 hz1 hz2 rfl (by decide) u0.heap.size (.slice (some ⟨u0.heap.size, 0, none⟩) 0 0) (.slice Aq L ct) 0 L [] xs rfl rfl own0_1.out (HIN.out _ HB1.out) (by simp only [maxLen]; omega) (by omega) HB1.out.size ?_
 intro v1_3 c3 hown hgr
 have HB3 : Hid (Below u0.heap.size u0 c3) := Lib.hid (below_grown HB1.out hgr (fun r hr => (own0_1.out.lt r hr).1) HB1.out.size)
 rw [Nat.zero_add, List.nil_append] at hown
 have own1_3 := Lib.hid hown
 clear hown hgr
 refine hK.out _ _ (HKS.out _ HB3.out) (fun hHeld3 => ?_)
 clear hK K hHeld2
 try simp only [ap]
 refine wpAnyH_ready (rs := [13]) (by kernel_rfl) (by simp) ?_
 refine cons_drop rfl (fun K hK => ?_) AllReadyH.nil
 go_simp
 obtain ⟨c4, hc4⟩ : ∃ u, u = c3.alloc (.cells (#[Value.int .u64 (id : Nat), .string name, .int .i64 vk, .int .i64 vn, .float .f64 vf, .string vs, .slice A0 m0 c0, .int .i64 0, .bool false, .int .u64 (at' : Nat)] : Array Value) 105) := ⟨_, rfl⟩
 rw [← hc4]
 have hbz : Below c3.heap.size c3 c4 := by rw [hc4]; exact (Below.refl _ _).alloc (Nat.le_refl _) _
 have HB4 : Hid (Below u0.heap.size u0 c4) := Lib.hid (HB3.out.trans (hbz.mono HB3.out.size))
 have one_4 : Hid (CIn c4 (.slice (some ⟨c3.heap.size, 0, none⟩) 1 1) 1 10 (#[Value.int .u64 (id : Nat), .string name, .int .i64 vk, .int .i64 vn, .float .f64 vf, .string vs, .slice A0 m0 c0, .int .i64 0, .bool false, .int .u64 (at' : Nat)] : Array Value).toList) := Lib.hid (by rw [hc4]; exact CIn.new c3 _ _ rfl HONE.out)
 have own1_4 := Lib.hid (own_stay own1_3.out hbz)
 clear hbz
 replace hc4 := Lib.hid hc4
 refine hK.out _ _ (HKS.out _ HB4.out) (fun hHeld4 => ?_)
 clear hK K hHeld3
 try simp only [ap]
 refine wpAnyH_ready (rs := [14]) (by kernel_rfl) (by simp) ?_
 refine cons_drop rfl (fun K hK => ?_) AllReadyH.nil
 refine step_append_any c4 rfl _ _ 29 105 rfl i0 _ 10 112 Tryz.underlying29 HSZ.out hi0 hz0 hz1 hz2 rfl (by decide) u0.heap.size v1_3 (.slice (some ⟨c3.heap.size, 0, none⟩) 1 1) L 1 xs (#[Value.int .u64 (id : Nat), .string name, .int .i64 vk, .int .i64 vn, .float .f64 vf, .string vs, .slice A0 m0 c0, .int .i64 0, .bool false, .int .u64 (at' : Nat)] : Array Value).toList rfl rfl own1_4.out one_4.out (by simp only [maxLen]; omega) (by omega) HB4.out.size ?_
 intro vF cF hown hgr
 obtain ⟨Ar, cr, rfl, hbr⟩ := own_slice hown
 have HOF := Lib.hid hown; have HBRF := Lib.hid hbr
 have HBF : Hid (Below u0.heap.size u0 cF) := Lib.hid (below_grown HB4.out hgr (fun r hr => (own1_4.out.lt r hr).1) HB4.out.size)
 clear hown hgr hbr
 refine hK.out _ _ (HKS.out _ HBF.out) (fun hHeld5 => ?_)
 clear hK K hHeld4
 try simp only [ap]
 refine tk 15 rfl ?_
 try simp only [ap]
 obtain ⟨cx, fx⟩ := HCX.out cF HBF.out
 refine wpAnyH_ready (rs := [16]) (by kernel_rfl) (by simp) ?_
 refine cons_drop rfl (fun K hK => ?_) AllReadyH.nil
 go_simp
 refine hK.out _ _ (HKS2.out _ _ HBF.out) (fun hHeldZ => ?_)
 clear hK K hHeld5
 try simp only [ap]
 refine wpAnyH_done (by kernel_rfl) ?_ _
 refine NoPanic.normal ?_
 clear hHeldZ cx fx
 rotate_left
 go_simp
 obtain ⟨c6, hc6⟩ : ∃ u, u = c1.alloc (.cells (#[Value.int .u64 (id : Nat), .string name, .int .i64 vk, .int .i64 vn, .float .f64 vf, .string vs, .slice A0 m0 c0, .int .i64 0, .bool false, .int .u64 (at' : Nat)] : Array Value) 105) := ⟨_, rfl⟩
 rw [← hc6]
 have hbz : Below c1.heap.size c1 c6 := by rw [hc6]; exact (Below.refl _ _).alloc (Nat.le_refl _) _
 have HB6 : Hid (Below u0.heap.size u0 c6) := Lib.hid (HB1.out.trans (hbz.mono HB1.out.size))
 have one_6 : Hid (CIn c6 (.slice (some ⟨c1.heap.size, 0, none⟩) 1 1) 1 10 (#[Value.int .u64 (id : Nat), .string name, .int .i64 vk, .int .i64 vn, .float .f64 vf, .string vs, .slice A0 m0 c0, .int .i64 0, .bool false, .int .u64 (at' : Nat)] : Array Value).toList) := Lib.hid (by rw [hc6]; exact CIn.new c1 _ _ rfl HONE.out)
 have HNE6 : Hid (c1.heap.size ≠ u0.heap.size) := Lib.hid (by have q := (own0_1.out.lt u0.heap.size rfl).2; omega)
 have own0_6 := Lib.hid (own_stay own0_1.out hbz)
 clear hbz
 replace hc6 := Lib.hid hc6
 refine hK.out _ _ (HKS.out _ HB6.out) (fun hHeld6 => ?_)
 clear hK K hHeld2
 try simp only [ap]
 refine wpAnyH_ready (rs := [3]) (by kernel_rfl) (by simp) ?_
 refine cons_drop rfl (fun K hK => ?_) AllReadyH.nil
 refine step_append_any c6 rfl _ _ 29 105 rfl i0 _ 10 112 Tryz.underlying29 HSZ.out hi0 hz0 hz1 hz2 rfl (by decide) u0.heap.size (.slice (some ⟨u0.heap.size, 0, none⟩) 0 0) (.slice Aq L ct) 0 L [] xs rfl rfl own0_6.out (HIN.out _ HB6.out) (by simp only [maxLen]; omega) (by omega) HB6.out.size ?_
 intro v1_7 c7 hown hgr
 have HB7 : Hid (Below u0.heap.size u0 c7) := Lib.hid (below_grown HB6.out hgr (fun r hr => (own0_6.out.lt r hr).1) HB6.out.size)
 rw [Nat.zero_add, List.nil_append] at hown
 have own1_7 := Lib.hid hown
 have one_7 := Lib.hid (CIn.grown one_6.out hgr (fun e => HNE6.out (Option.some.inj e)))
 clear hown hgr
 refine hK.out _ _ (HKS.out _ HB7.out) (fun hHeld7 => ?_)
 clear hK K hHeld6
 try simp only [ap]
 refine wpAnyH_ready (rs := [14]) (by kernel_rfl) (by simp) ?_
 refine cons_drop rfl (fun K hK => ?_) AllReadyH.nil
 refine step_append_any c7 rfl _ _ 29 105 rfl i0 _ 10 112 Tryz.underlying29 HSZ.out hi0 hz0 hz1 hz2 rfl (by decide) u0.heap.size v1_7 (.slice (some ⟨c1.heap.size, 0, none⟩) 1 1) L 1 xs (#[Value.int .u64 (id : Nat), .string name, .int .i64 vk, .int .i64 vn, .float .f64 vf, .string vs, .slice A0 m0 c0, .int .i64 0, .bool false, .int .u64 (at' : Nat)] : Array Value).toList rfl rfl own1_7.out one_7.out (by simp only [maxLen]; omega) (by omega) HB7.out.size ?_
 intro vF cF hown hgr
 obtain ⟨Ar, cr, rfl, hbr⟩ := own_slice hown
 have HOF := Lib.hid hown; have HBRF := Lib.hid hbr
 have HBF : Hid (Below u0.heap.size u0 cF) := Lib.hid (below_grown HB7.out hgr (fun r hr => (own1_7.out.lt r hr).1) HB7.out.size)
 clear hown hgr hbr
 refine hK.out _ _ (HKS.out _ HBF.out) (fun hHeld8 => ?_)
 clear hK K hHeld7
 try simp only [ap]
 refine tk 15 rfl ?_
 try simp only [ap]
 obtain ⟨cx, fx⟩ := HCX.out cF HBF.out
 refine wpAnyH_ready (rs := [16]) (by kernel_rfl) (by simp) ?_
 refine cons_drop rfl (fun K hK => ?_) AllReadyH.nil
 go_simp
 refine hK.out _ _ (HKS2.out _ _ HBF.out) (fun hHeldZ => ?_)
 clear hK K hHeld8
 try simp only [ap]
 refine wpAnyH_done (by kernel_rfl) ?_ _
 refine NoPanic.normal ?_
 clear hHeldZ cx fx
 rotate_left
 go_simp
 obtain ⟨c9, hc9⟩ : ∃ u, u = c1.alloc (.cells (#[Value.int .u64 (id : Nat), .string name, .int .i64 vk, .int .i64 vn, .float .f64 vf, .string vs, .slice A0 m0 c0, .int .i64 0, .bool false, .int .u64 (at' : Nat)] : Array Value) 105) := ⟨_, rfl⟩
 rw [← hc9]
 have hbz : Below c1.heap.size c1 c9 := by rw [hc9]; exact (Below.refl _ _).alloc (Nat.le_refl _) _
 have HB9 : Hid (Below u0.heap.size u0 c9) := Lib.hid (HB1.out.trans (hbz.mono HB1.out.size))
 have one_9 : Hid (CIn c9 (.slice (some ⟨c1.heap.size, 0, none⟩) 1 1) 1 10 (#[Value.int .u64 (id : Nat), .string name, .int .i64 vk, .int .i64 vn, .float .f64 vf, .string vs, .slice A0 m0 c0, .int .i64 0, .bool false, .int .u64 (at' : Nat)] : Array Value).toList) := Lib.hid (by rw [hc9]; exact CIn.new c1 _ _ rfl HONE.out)
 have HNE9 : Hid (c1.heap.size ≠ u0.heap.size) := Lib.hid (by have q := (own0_1.out.lt u0.heap.size rfl).2; omega)
 have own0_9 := Lib.hid (own_stay own0_1.out hbz)
 clear hbz
 replace hc9 := Lib.hid hc9
 refine hK.out _ _ (HKS.out _ HB9.out) (fun hHeld9 => ?_)
 clear hK K hHeld1
 try simp only [ap]
 refine wpAnyH_ready (rs := [2]) (by kernel_rfl) (by simp) ?_
 refine cons_drop rfl (fun K hK => ?_) AllReadyH.nil
 obtain ⟨cx, -⟩ := HCX.out c9 HB9.out
 go_simp
 refine hK.out _ _ (HKS.out _ HB9.out) (fun hHeld10 => ?_)
 clear hK K hHeld9
 try simp only [ap]
 clear cx
 refine wpAnyH_ready (rs := [3]) (by kernel_rfl) (by simp) ?_
 refine cons_drop rfl (fun K hK => ?_) AllReadyH.nil
 refine step_append_any c9 rfl _ _ 29 105 rfl i0 _ 10 112 Tryz.underlying29 HSZ.out hi0 hz0 hz1 hz2 rfl (by decide) u0.heap.size (.slice (some ⟨u0.heap.size, 0, none⟩) 0 0) (.slice Aq L ct) 0 L [] xs rfl rfl own0_9.out (HIN.out _ HB9.out) (by simp only [maxLen]; omega) (by omega) HB9.out.size ?_
 intro v1_11 c11 hown hgr
 have HB11 : Hid (Below u0.heap.size u0 c11) := Lib.hid (below_grown HB9.out hgr (fun r hr => (own0_9.out.lt r hr).1) HB9.out.size)
 rw [Nat.zero_add, List.nil_append] at hown
 have own1_11 := Lib.hid hown
 have one_11 := Lib.hid (CIn.grown one_9.out hgr (fun e => HNE9.out (Option.some.inj e)))
 clear hown hgr
 refine hK.out _ _ (HKS.out _ HB11.out) (fun hHeld11 => ?_)
 clear hK K hHeld10
 try simp only [ap]
 refine wpAnyH_ready (rs := [14]) (by kernel_rfl) (by simp) ?_
 refine cons_drop rfl (fun K hK => ?_) AllReadyH.nil
 refine step_append_any c11 rfl _ _ 29 105 rfl i0 _ 10 112 Tryz.underlying29 HSZ.out hi0 hz0 hz1 hz2 rfl (by decide) u0.heap.size v1_11 (.slice (some ⟨c1.heap.size, 0, none⟩) 1 1) L 1 xs (#[Value.int .u64 (id : Nat), .string name, .int .i64 vk, .int .i64 vn, .float .f64 vf, .string vs, .slice A0 m0 c0, .int .i64 0, .bool false, .int .u64 (at' : Nat)] : Array Value).toList rfl rfl own1_11.out one_11.out (by simp only [maxLen]; omega) (by omega) HB11.out.size ?_
 intro vF cF hown hgr
 obtain ⟨Ar, cr, rfl, hbr⟩ := own_slice hown
 have HOF := Lib.hid hown; have HBRF := Lib.hid hbr
 have HBF : Hid (Below u0.heap.size u0 cF) := Lib.hid (below_grown HB11.out hgr (fun r hr => (own1_11.out.lt r hr).1) HB11.out.size)
 clear hown hgr hbr
 refine hK.out _ _ (HKS.out _ HBF.out) (fun hHeld12 => ?_)
 clear hK K hHeld11
 try simp only [ap]
 refine tk 15 rfl ?_
 try simp only [ap]
 obtain ⟨cx, fx⟩ := HCX.out cF HBF.out
 refine wpAnyH_ready (rs := [16]) (by kernel_rfl) (by simp) ?_
 refine cons_drop rfl (fun K hK => ?_) AllReadyH.nil
 go_simp
 refine hK.out _ _ (HKS2.out _ _ HBF.out) (fun hHeldZ => ?_)
 clear hK K hHeld12
 try simp only [ap]
 refine wpAnyH_done (by kernel_rfl) ?_ _
 refine NoPanic.normal ?_
 clear hHeldZ cx fx
 rotate_left
 obtain ⟨cx, -⟩ := HCX.out u0 HBu.out
 go_simp
 refine hK.out _ _ (HKS.out _ HBu.out) (fun hHeld13 => ?_)
 clear hK K hHeld
 try simp only [ap]
 clear cx
 refine wpAnyH_ready (rs := [0, 13]) (by kernel_rfl) (by simp) ?_
 refine cons_drop rfl (fun K hK => ?_) (cons_drop rfl (fun K hK => ?_) AllReadyH.nil)
 go_simp
 obtain ⟨c14, hc14⟩ : ∃ u, u = u0.alloc (.cells #[] 105) := ⟨_, rfl⟩
 rw [← hc14]
 have hbz : Below u0.heap.size u0 c14 := by rw [hc14]; exact (Below.refl _ _).alloc (Nat.le_refl _) _
 have HB14 : Hid (Below u0.heap.size u0 c14) := Lib.hid (HBu.out.trans (hbz.mono HBu.out.size))
 have own0_14 : Hid (c14.ownsRow u0.heap.size 105 10 (.slice (some ⟨u0.heap.size, 0, none⟩) 0 0) 0 []) := Lib.hid (by rw [hc14]; exact World.ownsRow_lit u0 #[] 0 HBu.out.size (Nat.zero_le _) (by simp))
 clear hbz
 replace hc14 := Lib.hid hc14
 refine hK.out _ _ (HKS.out _ HB14.out) (fun hHeld14 => ?_)
 clear hK K hHeld13
 try simp only [ap]
 refine wpAnyH_ready (rs := [3, 13]) (by kernel_rfl) (by simp) ?_
 refine cons_drop rfl (fun K hK => ?_) (cons_drop rfl (fun K hK => ?_) AllReadyH.nil)
 refine step_append_any c14 rfl _ _ 29 105 rfl i0 _ 10 112 Tryz.underlying29 HSZ.out hi0 hz0 hz1 hz2 rfl (by decide) u0.heap.size (.slice (some ⟨u0.heap.size, 0, none⟩) 0 0) (.slice Aq L ct) 0 L [] xs rfl rfl own0_14.out (HIN.out _ HB14.out) (by simp only [maxLen]; omega) (by omega) HB14.out.size ?_
 intro v1_15 c15 hown hgr
 have HB15 : Hid (Below u0.heap.size u0 c15) := Lib.hid (below_grown HB14.out hgr (fun r hr => (own0_14.out.lt r hr).1) HB14.out.size)
 rw [Nat.zero_add, List.nil_append] at hown
 have own1_15 := Lib.hid hown
 clear hown hgr
 refine hK.out _ _ (HKS.out _ HB15.out) (fun hHeld15 => ?_)
 clear hK K hHeld14
 try simp only [ap]
 refine wpAnyH_ready (rs := [13]) (by kernel_rfl) (by simp) ?_
 refine cons_drop rfl (fun K hK => ?_) AllReadyH.nil
 go_simp
 obtain ⟨c16, hc16⟩ : ∃ u, u = c15.alloc (.cells (#[Value.int .u64 (id : Nat), .string name, .int .i64 vk, .int .i64 vn, .float .f64 vf, .string vs, .slice A0 m0 c0, .int .i64 0, .bool false, .int .u64 (at' : Nat)] : Array Value) 105) := ⟨_, rfl⟩
 rw [← hc16]
 have hbz : Below c15.heap.size c15 c16 := by rw [hc16]; exact (Below.refl _ _).alloc (Nat.le_refl _) _
 have HB16 : Hid (Below u0.heap.size u0 c16) := Lib.hid (HB15.out.trans (hbz.mono HB15.out.size))
 have one_16 : Hid (CIn c16 (.slice (some ⟨c15.heap.size, 0, none⟩) 1 1) 1 10 (#[Value.int .u64 (id : Nat), .string name, .int .i64 vk, .int .i64 vn, .float .f64 vf, .string vs, .slice A0 m0 c0, .int .i64 0, .bool false, .int .u64 (at' : Nat)] : Array Value).toList) := Lib.hid (by rw [hc16]; exact CIn.new c15 _ _ rfl HONE.out)
 have own1_16 := Lib.hid (own_stay own1_15.out hbz)
 clear hbz
 replace hc16 := Lib.hid hc16
 refine hK.out _ _ (HKS.out _ HB16.out) (fun hHeld16 => ?_)
 clear hK K hHeld15
 try simp only [ap]
 refine wpAnyH_ready (rs := [14]) (by kernel_rfl) (by simp) ?_
 refine cons_drop rfl (fun K hK => ?_) AllReadyH.nil
 refine step_append_any c16 rfl _ _ 29 105 rfl i0 _ 10 112 Tryz.underlying29 HSZ.out hi0 hz0 hz1 hz2 rfl (by decide) u0.heap.size v1_15 (.slice (some ⟨c15.heap.size, 0, none⟩) 1 1) L 1 xs (#[Value.int .u64 (id : Nat), .string name, .int .i64 vk, .int .i64 vn, .float .f64 vf, .string vs, .slice A0 m0 c0, .int .i64 0, .bool false, .int .u64 (at' : Nat)] : Array Value).toList rfl rfl own1_16.out one_16.out (by simp only [maxLen]; omega) (by omega) HB16.out.size ?_
 intro vF cF hown hgr
 obtain ⟨Ar, cr, rfl, hbr⟩ := own_slice hown
 have HOF := Lib.hid hown; have HBRF := Lib.hid hbr
 have HBF : Hid (Below u0.heap.size u0 cF) := Lib.hid (below_grown HB16.out hgr (fun r hr => (own1_16.out.lt r hr).1) HB16.out.size)
 clear hown hgr hbr
 refine hK.out _ _ (HKS.out _ HBF.out) (fun hHeld17 => ?_)
 clear hK K hHeld16
 try simp only [ap]
 refine tk 15 rfl ?_
 try simp only [ap]
 obtain ⟨cx, fx⟩ := HCX.out cF HBF.out
 refine wpAnyH_ready (rs := [16]) (by kernel_rfl) (by simp) ?_
 refine cons_drop rfl (fun K hK => ?_) AllReadyH.nil
 go_simp
 refine hK.out _ _ (HKS2.out _ _ HBF.out) (fun hHeldZ => ?_)
 clear hK K hHeld17
 try simp only [ap]
 refine wpAnyH_done (by kernel_rfl) ?_ _
 refine NoPanic.normal ?_
 clear hHeldZ cx fx
 rotate_left
 go_simp
 obtain ⟨c18, hc18⟩ : ∃ u, u = c14.alloc (.cells (#[Value.int .u64 (id : Nat), .string name, .int .i64 vk, .int .i64 vn, .float .f64 vf, .string vs, .slice A0 m0 c0, .int .i64 0, .bool false, .int .u64 (at' : Nat)] : Array Value) 105) := ⟨_, rfl⟩
 rw [← hc18]
 have hbz : Below c14.heap.size c14 c18 := by rw [hc18]; exact (Below.refl _ _).alloc (Nat.le_refl _) _
 have HB18 : Hid (Below u0.heap.size u0 c18) := Lib.hid (HB14.out.trans (hbz.mono HB14.out.size))
 have one_18 : Hid (CIn c18 (.slice (some ⟨c14.heap.size, 0, none⟩) 1 1) 1 10 (#[Value.int .u64 (id : Nat), .string name, .int .i64 vk, .int .i64 vn, .float .f64 vf, .string vs, .slice A0 m0 c0, .int .i64 0, .bool false, .int .u64 (at' : Nat)] : Array Value).toList) := Lib.hid (by rw [hc18]; exact CIn.new c14 _ _ rfl HONE.out)
 have HNE18 : Hid (c14.heap.size ≠ u0.heap.size) := Lib.hid (by have q := (own0_14.out.lt u0.heap.size rfl).2; omega)
 have own0_18 := Lib.hid (own_stay own0_14.out hbz)
 clear hbz
 replace hc18 := Lib.hid hc18
 refine hK.out _ _ (HKS.out _ HB18.out) (fun hHeld18 => ?_)
 clear hK K hHeld14
 try simp only [ap]
 refine wpAnyH_ready (rs := [3]) (by kernel_rfl) (by simp) ?_
 refine cons_drop rfl (fun K hK => ?_) AllReadyH.nil
 refine step_append_any c18 rfl _ _ 29 105 rfl i0 _ 10 112 Tryz.underlying29 HSZ.out hi0 hz0 hz1 hz2 rfl (by decide) u0.heap.size (.slice (some ⟨u0.heap.size, 0, none⟩) 0 0) (.slice Aq L ct) 0 L [] xs rfl rfl own0_18.out (HIN.out _ HB18.out) (by simp only [maxLen]; omega) (by omega) HB18.out.size ?_
 intro v1_19 c19 hown hgr
 have HB19 : Hid (Below u0.heap.size u0 c19) := Lib.hid (below_grown HB18.out hgr (fun r hr => (own0_18.out.lt r hr).1) HB18.out.size)
 rw [Nat.zero_add, List.nil_append] at hown
 have own1_19 := Lib.hid hown
 have one_19 := Lib.hid (CIn.grown one_18.out hgr (fun e => HNE18.out (Option.some.inj e)))
 clear hown hgr
 refine hK.out _ _ (HKS.out _ HB19.out) (fun hHeld19 => ?_)
 clear hK K hHeld18
 try simp only [ap]
 refine wpAnyH_ready (rs := [14]) (by kernel_rfl) (by simp) ?_
 refine cons_drop rfl (fun K hK => ?_) AllReadyH.nil
 refine step_append_any c19 rfl _ _ 29 105 rfl i0 _ 10 112 Tryz.underlying29 HSZ.out hi0 hz0 hz1 hz2 rfl (by decide) u0.heap.size v1_19 (.slice (some ⟨c14.heap.size, 0, none⟩) 1 1) L 1 xs (#[Value.int .u64 (id : Nat), .string name, .int .i64 vk, .int .i64 vn, .float .f64 vf, .string vs, .slice A0 m0 c0, .int .i64 0, .bool false, .int .u64 (at' : Nat)] : Array Value).toList rfl rfl own1_19.out one_19.out (by simp only [maxLen]; omega) (by omega) HB19.out.size ?_
 intro vF cF hown hgr
 obtain ⟨Ar, cr, rfl, hbr⟩ := own_slice hown
 have HOF := Lib.hid hown; have HBRF := Lib.hid hbr
 have HBF : Hid (Below u0.heap.size u0 cF) := Lib.hid (below_grown HB19.out hgr (fun r hr => (own1_19.out.lt r hr).1) HB19.out.size)
 clear hown hgr hbr
 refine hK.out _ _ (HKS.out _ HBF.out) (fun hHeld20 => ?_)
 clear hK K hHeld19
 try simp only [ap]
 refine tk 15 rfl ?_
 try simp only [ap]
 obtain ⟨cx, fx⟩ := HCX.out cF HBF.out
 refine wpAnyH_ready (rs := [16]) (by kernel_rfl) (by simp) ?_
 refine cons_drop rfl (fun K hK => ?_) AllReadyH.nil
 go_simp
 refine hK.out _ _ (HKS2.out _ _ HBF.out) (fun hHeldZ => ?_)
 clear hK K hHeld20
 try simp only [ap]
 refine wpAnyH_done (by kernel_rfl) ?_ _
 refine NoPanic.normal ?_
 clear hHeldZ cx fx
 rotate_left
 go_simp
 obtain ⟨c21, hc21⟩ : ∃ u, u = u0.alloc (.cells (#[Value.int .u64 (id : Nat), .string name, .int .i64 vk, .int .i64 vn, .float .f64 vf, .string vs, .slice A0 m0 c0, .int .i64 0, .bool false, .int .u64 (at' : Nat)] : Array Value) 105) := ⟨_, rfl⟩
 rw [← hc21]
 have hbz : Below u0.heap.size u0 c21 := by rw [hc21]; exact (Below.refl _ _).alloc (Nat.le_refl _) _
 have HB21 : Hid (Below u0.heap.size u0 c21) := Lib.hid (HBu.out.trans (hbz.mono HBu.out.size))
 have one_21 : Hid (CIn c21 (.slice (some ⟨u0.heap.size, 0, none⟩) 1 1) 1 10 (#[Value.int .u64 (id : Nat), .string name, .int .i64 vk, .int .i64 vn, .float .f64 vf, .string vs, .slice A0 m0 c0, .int .i64 0, .bool false, .int .u64 (at' : Nat)] : Array Value).toList) := Lib.hid (by rw [hc21]; exact CIn.new u0 _ _ rfl HONE.out)
 clear hbz
 replace hc21 := Lib.hid hc21
 refine hK.out _ _ (HKS.out _ HB21.out) (fun hHeld21 => ?_)
 clear hK K hHeld13
 try simp only [ap]
 refine wpAnyH_ready (rs := [0]) (by kernel_rfl) (by simp) ?_
 refine cons_drop rfl (fun K hK => ?_) AllReadyH.nil
 go_simp
 obtain ⟨c22, hc22⟩ : ∃ u, u = c21.alloc (.cells #[] 105) := ⟨_, rfl⟩
 rw [← hc22]
 have hbz : Below c21.heap.size c21 c22 := by rw [hc22]; exact (Below.refl _ _).alloc (Nat.le_refl _) _
 have HB22 : Hid (Below u0.heap.size u0 c22) := Lib.hid (HB21.out.trans (hbz.mono HB21.out.size))
 have own0_22 : Hid (c22.ownsRow u0.heap.size 105 10 (.slice (some ⟨c21.heap.size, 0, none⟩) 0 0) 0 []) := Lib.hid (by rw [hc22]; exact World.ownsRow_lit c21 #[] 0 HB21.out.size (Nat.zero_le _) (by simp))
 have HNE22 : Hid (u0.heap.size ≠ c21.heap.size) := Lib.hid (by have q : u0.heap.size < c21.heap.size := one_21.out.lt; omega)
 have one_22 := Lib.hid (CIn.later one_21.out hbz)
 clear hbz
 replace hc22 := Lib.hid hc22
 refine hK.out _ _ (HKS.out _ HB22.out) (fun hHeld22 => ?_)
 clear hK K hHeld21
 try simp only [ap]
 refine wpAnyH_ready (rs := [3]) (by kernel_rfl) (by simp) ?_
 refine cons_drop rfl (fun K hK => ?_) AllReadyH.nil
 refine step_append_any c22 rfl _ _ 29 105 rfl i0 _ 10 112 Tryz.underlying29 HSZ.out hi0 hz0 hz1 hz2 rfl (by decide) u0.heap.size (.slice (some ⟨c21.heap.size, 0, none⟩) 0 0) (.slice Aq L ct) 0 L [] xs rfl rfl own0_22.out (HIN.out _ HB22.out) (by simp only [maxLen]; omega) (by omega) HB22.out.size ?_
 intro v1_23 c23 hown hgr
 have HB23 : Hid (Below u0.heap.size u0 c23) := Lib.hid (below_grown HB22.out hgr (fun r hr => (own0_22.out.lt r hr).1) HB22.out.size)
 rw [Nat.zero_add, List.nil_append] at hown
 have own1_23 := Lib.hid hown
 have one_23 := Lib.hid (CIn.grown one_22.out hgr (fun e => HNE22.out (Option.some.inj e)))
 clear hown hgr
 refine hK.out _ _ (HKS.out _ HB23.out) (fun hHeld23 => ?_)
 clear hK K hHeld22
 try simp only [ap]
 refine wpAnyH_ready (rs := [14]) (by kernel_rfl) (by simp) ?_
 refine cons_drop rfl (fun K hK => ?_) AllReadyH.nil
 refine step_append_any c23 rfl _ _ 29 105 rfl i0 _ 10 112 Tryz.underlying29 HSZ.out hi0 hz0 hz1 hz2 rfl (by decide) u0.heap.size v1_23 (.slice (some ⟨u0.heap.size, 0, none⟩) 1 1) L 1 xs (#[Value.int .u64 (id : Nat), .string name, .int .i64 vk, .int .i64 vn, .float .f64 vf, .string vs, .slice A0 m0 c0, .int .i64 0, .bool false, .int .u64 (at' : Nat)] : Array Value).toList rfl rfl own1_23.out one_23.out (by simp only [maxLen]; omega) (by omega) HB23.out.size ?_
 intro vF cF hown hgr
 obtain ⟨Ar, cr, rfl, hbr⟩ := own_slice hown
 have HOF := Lib.hid hown; have HBRF := Lib.hid hbr
 have HBF : Hid (Below u0.heap.size u0 cF) := Lib.hid (below_grown HB23.out hgr (fun r hr => (own1_23.out.lt r hr).1) HB23.out.size)
 clear hown hgr hbr
 refine hK.out _ _ (HKS.out _ HBF.out) (fun hHeld24 => ?_)
 clear hK K hHeld23
 try simp only [ap]
 refine tk 15 rfl ?_
 try simp only [ap]
 obtain ⟨cx, fx⟩ := HCX.out cF HBF.out
 refine wpAnyH_ready (rs := [16]) (by kernel_rfl) (by simp) ?_
 refine cons_drop rfl (fun K hK => ?_) AllReadyH.nil
 go_simp
 refine hK.out _ _ (HKS2.out _ _ HBF.out) (fun hHeldZ => ?_)
 clear hK K hHeld24
 try simp only [ap]
 refine wpAnyH_done (by kernel_rfl) ?_ _
 refine NoPanic.normal ?_
 clear hHeldZ cx fx
 rotate_left
 go_simp
 obtain ⟨c25, hc25⟩ : ∃ u, u = u0.alloc (.cells (#[Value.int .u64 (id : Nat), .string name, .int .i64 vk, .int .i64 vn, .float .f64 vf, .string vs, .slice A0 m0 c0, .int .i64 0, .bool false, .int .u64 (at' : Nat)] : Array Value) 105) := ⟨_, rfl⟩
 rw [← hc25]
 have hbz : Below u0.heap.size u0 c25 := by rw [hc25]; exact (Below.refl _ _).alloc (Nat.le_refl _) _
 have HB25 : Hid (Below u0.heap.size u0 c25) := Lib.hid (HBu.out.trans (hbz.mono HBu.out.size))
 have one_25 : Hid (CIn c25 (.slice (some ⟨u0.heap.size, 0, none⟩) 1 1) 1 10 (#[Value.int .u64 (id : Nat), .string name, .int .i64 vk, .int .i64 vn, .float .f64 vf, .string vs, .slice A0 m0 c0, .int .i64 0, .bool false, .int .u64 (at' : Nat)] : Array Value).toList) := Lib.hid (by rw [hc25]; exact CIn.new u0 _ _ rfl HONE.out)
 clear hbz
 replace hc25 := Lib.hid hc25
 refine hK.out _ _ (HKS.out _ HB25.out) (fun hHeld25 => ?_)
 clear hK K hHeld
 try simp only [ap]
 refine wpAnyH_ready (rs := [0, 2]) (by kernel_rfl) (by simp) ?_
 refine cons_drop rfl (fun K hK => ?_) (cons_drop rfl (fun K hK => ?_) AllReadyH.nil)
 go_simp
 obtain ⟨c26, hc26⟩ : ∃ u, u = c25.alloc (.cells #[] 105) := ⟨_, rfl⟩
 rw [← hc26]
 have hbz : Below c25.heap.size c25 c26 := by rw [hc26]; exact (Below.refl _ _).alloc (Nat.le_refl _) _
 have HB26 : Hid (Below u0.heap.size u0 c26) := Lib.hid (HB25.out.trans (hbz.mono HB25.out.size))
 have own0_26 : Hid (c26.ownsRow u0.heap.size 105 10 (.slice (some ⟨c25.heap.size, 0, none⟩) 0 0) 0 []) := Lib.hid (by rw [hc26]; exact World.ownsRow_lit c25 #[] 0 HB25.out.size (Nat.zero_le _) (by simp))
 have HNE26 : Hid (u0.heap.size ≠ c25.heap.size) := Lib.hid (by have q : u0.heap.size < c25.heap.size := one_25.out.lt; omega)
 have one_26 := Lib.hid (CIn.later one_25.out hbz)
 clear hbz
 replace hc26 := Lib.hid hc26
 refine hK.out _ _ (HKS.out _ HB26.out) (fun hHeld26 => ?_)
 clear hK K hHeld25
 try simp only [ap]
 refine wpAnyH_ready (rs := [2]) (by kernel_rfl) (by simp) ?_
 refine cons_drop rfl (fun K hK => ?_) AllReadyH.nil
 obtain ⟨cx, -⟩ := HCX.out c26 HB26.out
 go_simp
 refine hK.out _ _ (HKS.out _ HB26.out) (fun hHeld27 => ?_)
 clear hK K hHeld26
 try simp only [ap]
 clear cx
 refine wpAnyH_ready (rs := [3]) (by kernel_rfl) (by simp) ?_
 refine cons_drop rfl (fun K hK => ?_) AllReadyH.nil
 refine step_append_any c26 rfl _ _ 29 105 rfl i0 _ 10 112 Tryz.underlying29 HSZ.out hi0 hz0 hz1 hz2 rfl (by decide) u0.heap.size (.slice (some ⟨c25.heap.size, 0, none⟩) 0 0) (.slice Aq L ct) 0 L [] xs rfl rfl own0_26.out (HIN.out _ HB26.out) (by simp only [maxLen]; omega) (by omega) HB26.out.size ?_
 intro v1_28 c28 hown hgr
 have HB28 : Hid (Below u0.heap.size u0 c28) := Lib.hid (below_grown HB26.out hgr (fun r hr => (own0_26.out.lt r hr).1) HB26.out.size)
 rw [Nat.zero_add, List.nil_append] at hown
 have own1_28 := Lib.hid hown
 have one_28 := Lib.hid (CIn.grown one_26.out hgr (fun e => HNE26.out (Option.some.inj e)))
 clear hown hgr
 refine hK.out _ _ (HKS.out _ HB28.out) (fun hHeld28 => ?_)
 clear hK K hHeld27
 try simp only [ap]
 refine wpAnyH_ready (rs := [14]) (by kernel_rfl) (by simp) ?_
 refine cons_drop rfl (fun K hK => ?_) AllReadyH.nil
 refine step_append_any c28 rfl _ _ 29 105 rfl i0 _ 10 112 Tryz.underlying29 HSZ.out hi0 hz0 hz1 hz2 rfl (by decide) u0.heap.size v1_28 (.slice (some ⟨u0.heap.size, 0, none⟩) 1 1) L 1 xs (#[Value.int .u64 (id : Nat), .string name, .int .i64 vk, .int .i64 vn, .float .f64 vf, .string vs, .slice A0 m0 c0, .int .i64 0, .bool false, .int .u64 (at' : Nat)] : Array Value).toList rfl rfl own1_28.out one_28.out (by simp only [maxLen]; omega) (by omega) HB28.out.size ?_
 intro vF cF hown hgr
 obtain ⟨Ar, cr, rfl, hbr⟩ := own_slice hown
 have HOF := Lib.hid hown; have HBRF := Lib.hid hbr
 have HBF : Hid (Below u0.heap.size u0 cF) := Lib.hid (below_grown HB28.out hgr (fun r hr => (own1_28.out.lt r hr).1) HB28.out.size)
 clear hown hgr hbr
 refine hK.out _ _ (HKS.out _ HBF.out) (fun hHeld29 => ?_)
 clear hK K hHeld28
 try simp only [ap]
 refine tk 15 rfl ?_
 try simp only [ap]
 obtain ⟨cx, fx⟩ := HCX.out cF HBF.out
 refine wpAnyH_ready (rs := [16]) (by kernel_rfl) (by simp) ?_
 refine cons_drop rfl (fun K hK => ?_) AllReadyH.nil
 go_simp
 refine hK.out _ _ (HKS2.out _ _ HBF.out) (fun hHeldZ => ?_)
 clear hK K hHeld29
 try simp only [ap]
 refine wpAnyH_done (by kernel_rfl) ?_ _
 refine NoPanic.normal ?_
 clear hHeldZ cx fx
 rotate_left
 obtain ⟨cx, -⟩ := HCX.out c25 HB25.out
 go_simp
 refine hK.out _ _ (HKS.out _ HB25.out) (fun hHeld30 => ?_)
 clear hK K hHeld25
 try simp only [ap]
 clear cx
 refine wpAnyH_ready (rs := [0]) (by kernel_rfl) (by simp) ?_
 refine cons_drop rfl (fun K hK => ?_) AllReadyH.nil
 go_simp
 obtain ⟨c31, hc31⟩ : ∃ u, u = c25.alloc (.cells #[] 105) := ⟨_, rfl⟩
 rw [← hc31]
 have hbz : Below c25.heap.size c25 c31 := by rw [hc31]; exact (Below.refl _ _).alloc (Nat.le_refl _) _
 have HB31 : Hid (Below u0.heap.size u0 c31) := Lib.hid (HB25.out.trans (hbz.mono HB25.out.size))
 have own0_31 : Hid (c31.ownsRow u0.heap.size 105 10 (.slice (some ⟨c25.heap.size, 0, none⟩) 0 0) 0 []) := Lib.hid (by rw [hc31]; exact World.ownsRow_lit c25 #[] 0 HB25.out.size (Nat.zero_le _) (by simp))
 have HNE31 : Hid (u0.heap.size ≠ c25.heap.size) := Lib.hid (by have q : u0.heap.size < c25.heap.size := one_25.out.lt; omega)
 have one_31 := Lib.hid (CIn.later one_25.out hbz)
 clear hbz
 replace hc31 := Lib.hid hc31
 refine hK.out _ _ (HKS.out _ HB31.out) (fun hHeld31 => ?_)
 clear hK K hHeld30
 try simp only [ap]
 refine wpAnyH_ready (rs := [3]) (by kernel_rfl) (by simp) ?_
 refine cons_drop rfl (fun K hK => ?_) AllReadyH.nil
 refine step_append_any c31 rfl _ _ 29 105 rfl i0 _ 10 112 Tryz.underlying29 HSZ.out hi0 hz0 hz1 hz2 rfl (by decide) u0.heap.size (.slice (some ⟨c25.heap.size, 0, none⟩) 0 0) (.slice Aq L ct) 0 L [] xs rfl rfl own0_31.out (HIN.out _ HB31.out) (by simp only [maxLen]; omega) (by omega) HB31.out.size ?_
 intro v1_32 c32 hown hgr
 have HB32 : Hid (Below u0.heap.size u0 c32) := Lib.hid (below_grown HB31.out hgr (fun r hr => (own0_31.out.lt r hr).1) HB31.out.size)
 rw [Nat.zero_add, List.nil_append] at hown
 have own1_32 := Lib.hid hown
 have one_32 := Lib.hid (CIn.grown one_31.out hgr (fun e => HNE31.out (Option.some.inj e)))
 clear hown hgr
 refine hK.out _ _ (HKS.out _ HB32.out) (fun hHeld32 => ?_)
 clear hK K hHeld31
 try simp only [ap]
 refine wpAnyH_ready (rs := [14]) (by kernel_rfl) (by simp) ?_
 refine cons_drop rfl (fun K hK => ?_) AllReadyH.nil
 refine step_append_any c32 rfl _ _ 29 105 rfl i0 _ 10 112 Tryz.underlying29 HSZ.out hi0 hz0 hz1 hz2 rfl (by decide) u0.heap.size v1_32 (.slice (some ⟨u0.heap.size, 0, none⟩) 1 1) L 1 xs (#[Value.int .u64 (id : Nat), .string name, .int .i64 vk, .int .i64 vn, .float .f64 vf, .string vs, .slice A0 m0 c0, .int .i64 0, .bool false, .int .u64 (at' : Nat)] : Array Value).toList rfl rfl own1_32.out one_32.out (by simp only [maxLen]; omega) (by omega) HB32.out.size ?_
 intro vF cF hown hgr
 obtain ⟨Ar, cr, rfl, hbr⟩ := own_slice hown
 have HOF := Lib.hid hown; have HBRF := Lib.hid hbr
 have HBF : Hid (Below u0.heap.size u0 cF) := Lib.hid (below_grown HB32.out hgr (fun r hr => (own1_32.out.lt r hr).1) HB32.out.size)
 clear hown hgr hbr
 refine hK.out _ _ (HKS.out _ HBF.out) (fun hHeld33 => ?_)
 clear hK K hHeld32
 try simp only [ap]
 refine tk 15 rfl ?_
 try simp only [ap]
 obtain ⟨cx, fx⟩ := HCX.out cF HBF.out
 refine wpAnyH_ready (rs := [16]) (by kernel_rfl) (by simp) ?_
 refine cons_drop rfl (fun K hK => ?_) AllReadyH.nil
 go_simp
 refine hK.out _ _ (HKS2.out _ _ HBF.out) (fun hHeldZ => ?_)
 clear hK K hHeld33
 try simp only [ap]
 refine wpAnyH_done (by kernel_rfl) ?_ _
 refine NoPanic.normal ?_
 clear hHeldZ cx fx
 rotate_left
 all_goals
  obtain ⟨w6, hw6⟩ : ∃ w6, w6 = cF.setCell ⟨w.heap.size, 5, none⟩ (.slice Ar (L + 1) cr) := ⟨_, rfl⟩
  have hbF1 : Below W2.heap.size W2 cF := HBu1.out _ HBF.out
  have hx6 : RX w6 w.heap.size f (.slice Bu nu cu) s.closed (s.next + 1) (.slice Ak nk ck) (.slice Ar (L + 1) cr) (.slice Am nm cm) := by rw [hw6]; exact (HX2.out cF hbF1).1.set5
  have hq6 : RX w6 (w.heap.size + 1 + 1) ⟨#[]⟩ (.slice none 0 0) 0 0 (.slice none 0 0) (.slice none 0 0) (.slice none 0 0) := by rw [hw6]; exact (HX2.out cF hbF1).2.2.1.far (by omega)
  have hy6 : BB w6 (w.heap.size + 1) ff at' (some ⟨eb, eo, none⟩) m cap := by rw [hw6]; exact (RowKit.Below.heap_setCell _ _ _ _ (by show w.heap.size + 1 ≠ w.heap.size; omega)).trans (HX2.out cF hbF1).2.1
  have he6 : EBox w6 (w.heap.size + 3) (evCells ⟨7, id, en, ea, name, text, ev⟩ vk vn vf vs A0 m0 c0) := by rw [hw6]; exact (RowKit.Below.heap_setCell _ _ _ _ (by show w.heap.size + 3 ≠ w.heap.size; omega)).trans (HX2.out cF hbF1).2.2.2
  have HB6 : Hid (Below w.heap.size w w6) := Lib.hid (by rw [hw6]; exact (HBW2.out cF hbF1).setCell (p := ⟨w.heap.size, 5, none⟩) (Nat.le_refl _) _)
  have HW6 := Lib.hid hw6
  obtain ⟨x0, x1, x2, x3, x4, x5, x6, xf⟩ := hx6.cells
  rw [show ((s.next + 1 : Nat) : Int) = (s.next : Int) + 1 from rfl] at x3
  obtain ⟨q0, q1, q2, q3, q4, q5, q6, qf⟩ := hq6.cells
  rw [show ((0 : Nat) : Int) = 0 from rfl] at q3
  have qf0 := qf 0; have qf1 := qf 1; have qf2 := qf 2; have qf3 := qf 3; have qf4 := qf 4; have qf5 := qf 5; have qf6 := qf 6
  clear qf xf hx6 hq6 hbF1
  rw [← hw6]
  clear hw6
  clear hy6 he6
  go_wp2_with fail
  refine bodyPost_ret (v := .tuple #[.agg #[.string f, .slice Bu nu cu, .int .i64 s.closed, .int .u64 ((s.next : Int) + 1), .slice Ak nk ck, .slice Ar (L + 1) cr, .slice Am nm cm], .bool true]) (by simp [results, Tryz.results33, go_sem, q0, q1, q2, q3, q4, q5, q6]) rfl ?_
  obtain ⟨W7, hW7⟩ : ∃ W7, W7 = ((((((w6.setCell ⟨w.heap.size + 1 + 1, 0, none⟩ (.string f)).setCell ⟨w.heap.size + 1 + 1, 1, none⟩ (.slice Bu nu cu)).setCell ⟨w.heap.size + 1 + 1, 2, none⟩ (.int .i64 s.closed)).setCell ⟨w.heap.size + 1 + 1, 3, none⟩ (.int .u64 ((s.next : Int) + 1))).setCell ⟨w.heap.size + 1 + 1, 4, none⟩ (.slice Ak nk ck)).setCell ⟨w.heap.size + 1 + 1, 5, none⟩ (.slice Ar (L + 1) cr)).setCell ⟨w.heap.size + 1 + 1, 6, none⟩ (.slice Am nm cm) := ⟨_, rfl⟩
  rw [← hW7]
  exact HOUT.out _ true cF W7 Ar cr (fun _ => rfl) rfl HN.out HOF.out HBRF.out HBF.out (by rw [hW7]; exact below7 (g := w.heap.size + 1 + 1) HB6.out (Nat.le_succ_of_le (Nat.le_succ _)) _ _ _ _ _ _ _) (fun r h1 h2 => by rw [hW7, heap7 h2, HW6.out]; exact RowKit.Below.heap_setCell _ _ _ _ h1)
end Hi
end Go.Proofs.YtkajcldmolcllaaGreat
