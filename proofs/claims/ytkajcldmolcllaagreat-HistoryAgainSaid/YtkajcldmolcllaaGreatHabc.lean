/- The reference's outside: the reference's command: the end. -/
/- The reference's command. -/
/- The law's Same: a history and the reference's in the same state. -/
import Derived.Laws.Rows
import Derived.Laws.IdiomRangeMap
import Derived.Test.YtkajcldmolcllaaGreatHaaw
import Derived.Test.YtkajcldmolcllaaGreatHaba
import Derived.Test.YtkajcldmolcllaaGreatHabb
import Derived.Test.YtkajcldmolcllaaGreatHaax
import Derived.Test.YtkajcldmolcllaaGreatHaaz
set_option linter.unusedVariables false
set_option linter.unusedSimpArgs false
open Go.RowKit
namespace Go.Proofs.YtkajcldmolcllaaGreat
namespace Hi
open _root_.Go.Proofs.YtkajcldmolcllaaGreat.Nm (ret_int ret_bool)
open Vt (VT Rep below_drew Cloned put5)
open Ev (EV FieldsOk evCells vCells EBox take_drop tk ap cons_drop)
open Cm (rowOf EvsIn)
open Cn (BT BB BtsIn box_ev)
variable {X X' Y Y' : Nat → Prop} {u v w w' V V' : World} {hb bt bm bk n cap : Nat} {A : Option Addr} {h : HM}
set_option maxRecDepth 100000 in
set_option maxHeartbeats 4000000 in
theorem cmd9_any (s : ST) (f : ByteArray) (Bu : Option Addr) (nu cu : Nat) (uk ut um : Value) (b : BT) (A : Option Addr) (cap : Nat) (w : World) (h : OIn X w s uk ut um b A cap) (i : Nat) (hp : i < b.es.length) (he : EvOk (b.es[i]'hp)) (hk : 9 ≤ (b.es[i]'hp).k) :
  Calls Tryz.prog 33 #[.agg (rhC f (.slice Bu nu cu) s.closed s.next uk ut um), .agg #[.string b.flow, .int .u64 (b.at' : Nat), .slice A b.es.length cap], .int .i64 (i : Nat)] w (ROut X w f (.slice Bu nu cu) (applyM b.at' (decide (i + 1 = b.es.length)) (b.es[i]'hp) s)) := by
 obtain ⟨Ak, nk, ck, rfl⟩ : ∃ A n c, uk = .slice A n c := by obtain ⟨xs, ⟨-, -, A, c, e, -⟩, -⟩ := h.rs.keys; exact ⟨_, _, _, e⟩
 obtain ⟨Aq, nt, ct, rfl⟩ : ∃ A n c, ut = .slice A n c := by obtain ⟨xs, ⟨-, -, A, c, e, -⟩, -⟩ := h.rs.tasks; exact ⟨_, _, _, e⟩
 obtain ⟨Am, nm, cm, rfl⟩ : ∃ A n c, um = .slice A n c := by obtain ⟨xs, ⟨-, -, A, c, e, -⟩, -⟩ := h.rs.timers; exact ⟨_, _, _, e⟩
 obtain ⟨eb, eo, lo0, hi0, vk, vn, vf, vs, A0, m0, c0, rfl, heb, hff, hrep, hhi, z0, z1, z2, z3, z4, z5, z6, z7, z8, z9, z10⟩ := h.evs.get i hp
 have hrepV := hrep
 replace hrep := Rep.leads hrep (leads_veil X w)
 rw [veil_size] at heb hhi
 replace z0 := (leads_veil X w).cell z0
 replace z1 := (leads_veil X w).cell z1
 replace z2 := (leads_veil X w).cell z2
 replace z3 := (leads_veil X w).cell z3
 replace z4 := (leads_veil X w).cell z4
 replace z5 := (leads_veil X w).cell z5
 replace z6 := (leads_veil X w).cell z6
 replace z7 := (leads_veil X w).cell z7
 replace z8 := (leads_veil X w).cell z8
 replace z9 := (leads_veil X w).cell z9
 replace z10 := (leads_veil X w).cell z10
 have hle := h.evs.le
 have hcm := h.evs.cap_le
 simp only [maxLen] at hcm
 obtain ⟨m, hm⟩ : ∃ m, m = b.es.length := ⟨_, rfl⟩
 obtain ⟨ff, hf0⟩ : ∃ ff, ff = b.flow := ⟨_, rfl⟩
 obtain ⟨at', hat⟩ : ∃ at', at' = b.at' := ⟨_, rfl⟩
 obtain ⟨e, hee⟩ : ∃ e, e = b.es[i]'hp := ⟨_, rfl⟩
 have hbat := h.at'
 rw [← hat] at hbat
 rw [← hee] at hff hrep hrepV z0 z1 z2 z3 z4 z5 he hk ⊢
 have HRV := Lib.hid h.rs; have HRS := Lib.hid (h.rs.leads (leads_veil X w)); have HXB := Lib.hid h.xb; have HFI := Lib.hid h.fine; have hn1 := h.n1; have hn2 := h.n2; have hn3 := h.n3; have hn4 := h.n4
 rw [← hm] at hle ⊢
 rw [← hf0, ← hat]
 have hmp : i < m := by omega
 clear h hee hat hf0 hm hp
 obtain ⟨k, id, en, ea, name, text, ev⟩ := e
 have hid := he.f.i1
 dsimp only at hid hk hrep hrepV hff z0 z1 z2 z3 z4 z5 z6 z7 z8 z9 z10
 have hk7 : (k == 7) = false := by simp; omega
 have hk8 : (k == 8) = false := by simp; omega
 have HK := Lib.hid hk
 clear hk
 have HE := Lib.hid he
 obtain ⟨W0, hW0⟩ : ∃ W0, W0 = ((w.alloc (.cells (rhC f (.slice Bu nu cu) s.closed s.next (.slice Ak nk ck) (.slice Aq nt ct) (.slice Am nm cm)) 32)).alloc (.cells #[.string ff, .int .u64 (at' : Nat), .slice (some ⟨eb, eo, none⟩) m cap] 36)).alloc (.cells (rhC ⟨#[]⟩ (.slice none 0 0) 0 0 (.slice none 0 0) (.slice none 0 0) (.slice none 0 0)) 32) := ⟨_, rfl⟩
 obtain ⟨W1, hW1⟩ : ∃ W1, W1 = W0.alloc (.cells (evCells ⟨k, id, en, ea, name, text, ev⟩ vk vn vf vs A0 m0 c0) 53) := ⟨_, rfl⟩
 have hs0 : W0.heap.size = w.heap.size + 3 := by rw [hW0]; simp
 have hs1 : W1.heap.size = w.heap.size + 4 := by rw [hW1]; simp [hs0]
 have hb0 : Below w.heap.size w W0 := by rw [hW0]; exact (((Below.refl _ _).alloc (Nat.le_refl _) _).alloc (by simp) _).alloc (by simp; omega) _
 have hb1 : Below w.heap.size w W1 := by rw [hW1]; exact hb0.alloc (by omega) _
 have hx0 : W0.heap[w.heap.size]? = some (.cells (rhC f (.slice Bu nu cu) s.closed s.next (.slice Ak nk ck) (.slice Aq nt ct) (.slice Am nm cm)) 32 (0, 0)) := by rw [hW0]; exact (heap_alloc_old _ _ (by simp; omega)).trans ((heap_alloc_old _ _ (by simp)).trans (heap_alloc_new w _))
 have hx1 : W0.heap[w.heap.size + 1]? = some (.cells #[.string ff, .int .u64 (at' : Nat), .slice (some ⟨eb, eo, none⟩) m cap] 36 (0, 0)) := by
  rw [hW0, heap_alloc_old _ _ (by simp)]
  have e := heap_alloc_new (w.alloc (.cells (rhC f (.slice Bu nu cu) s.closed s.next (.slice Ak nk ck) (.slice Aq nt ct) (.slice Am nm cm)) 32)) (.cells #[.string ff, .int .u64 (at' : Nat), .slice (some ⟨eb, eo, none⟩) m cap] 36)
  rw [World.size_alloc] at e
  exact e
 have hx2 : W0.heap[w.heap.size + 2]? = some (.cells (rhC ⟨#[]⟩ (.slice none 0 0) 0 0 (.slice none 0 0) (.slice none 0 0) (.slice none 0 0)) 32 (0, 0)) := by
  rw [hW0]
  have e := heap_alloc_new ((w.alloc (.cells (rhC f (.slice Bu nu cu) s.closed s.next (.slice Ak nk ck) (.slice Aq nt ct) (.slice Am nm cm)) 32)).alloc (.cells #[.string ff, .int .u64 (at' : Nat), .slice (some ⟨eb, eo, none⟩) m cap] 36)) (.cells (rhC ⟨#[]⟩ (.slice none 0 0) 0 0 (.slice none 0 0) (.slice none 0 0) (.slice none 0 0)) 32)
  simp only [World.size_alloc] at e
  exact e
 have HX : Hid (∀ W, Below W1.heap.size W1 W → RX W w.heap.size f (.slice Bu nu cu) s.closed s.next (.slice Ak nk ck) (.slice Aq nt ct) (.slice Am nm cm) ∧ BB W (w.heap.size + 1) ff at' (some ⟨eb, eo, none⟩) m cap ∧ RX W (w.heap.size + 1 + 1) ⟨#[]⟩ (.slice none 0 0) 0 0 (.slice none 0 0) (.slice none 0 0) (.slice none 0 0) ∧ EBox W (w.heap.size + 3) (evCells ⟨k, id, en, ea, name, text, ev⟩ vk vn vf vs A0 m0 c0)) := Lib.hid fun W hW => by
  have o : ∀ c, c < w.heap.size + 3 → W.heap[c]? = W0.heap[c]? := fun c hc => (hW.block c (by omega)).trans (by rw [hW1]; exact heap_alloc_old _ _ (by omega))
  refine ⟨(o _ (by omega)).trans hx0, (o _ (by omega)).trans hx1, (o _ (by omega)).trans hx2, (hW.block _ (by omega)).trans ?_⟩
  rw [hW1, ← hs0]; exact heap_alloc_new ..
 have HBW : Hid (∀ W, Below W1.heap.size W1 W → Below w.heap.size w W) := Lib.hid fun W hW => hb1.trans (hW.mono hb1.size)
 have HS1 := Lib.hid hs1; have HB1 := Lib.hid hb1
 obtain ⟨y0, y1, y2, -⟩ := BB.cells (show BB W0 (w.heap.size + 1) ff at' (some ⟨eb, eo, none⟩) m cap from hx1)
 obtain ⟨x0, x1, x2, x3, x4, x5, x6, -⟩ := (HX.out W1 (Below.refl _ _)).1.cells
 have e0 := (hb0.cell (p := ⟨eb, eo + i * 11, none⟩) heb).trans z0
 have e1 := (hb0.cell (p := ⟨eb, eo + i * 11 + 1, none⟩) heb).trans z1
 have e2 := (hb0.cell (p := ⟨eb, eo + i * 11 + 2, none⟩) heb).trans z2
 have e3 := (hb0.cell (p := ⟨eb, eo + i * 11 + 3, none⟩) heb).trans z3
 have e4 := (hb0.cell (p := ⟨eb, eo + i * 11 + 4, none⟩) heb).trans z4
 have e5 := (hb0.cell (p := ⟨eb, eo + i * 11 + 5, none⟩) heb).trans z5
 have e6 := (hb0.cell (p := ⟨eb, eo + i * 11 + 6, none⟩) heb).trans z6
 have e7 := (hb0.cell (p := ⟨eb, eo + i * 11 + 7, none⟩) heb).trans z7
 have e8 := (hb0.cell (p := ⟨eb, eo + i * 11 + 8, none⟩) heb).trans z8
 have e9 := (hb0.cell (p := ⟨eb, eo + i * 11 + 9, none⟩) heb).trans z9
 have e10 := (hb0.cell (p := ⟨eb, eo + i * 11 + 10, none⟩) heb).trans z10
 have HREP := Lib.hid hrep; have HREPV := Lib.hid hrepV; have HHI := Lib.hid hhi
 unfold rhC at hW0 ⊢
 unfold evCells at hW1
 dsimp only at hW1
 rw [show ((0 : Nat) : Int) = 0 from rfl] at hW0
 have hWs := Lib.hid hs0
 clear hs0 hs1 hb0 hb1 hx0 hx1 hx2 z0 z1 z2 z3 z4 z5 z6 z7 z8 z9 z10 hrep hrepV hhi hff he heb
 replace hW0 := Lib.hid hW0
 replace hW1 := Lib.hid hW1
 obtain ⟨al, hal⟩ : ∃ al, al = decide (i + 1 = m) := ⟨_, rfl⟩
 have hm1 : ((i : Int) == (m : Int) - 1) = al := by
  rw [hal]
  by_cases q : i + 1 = m
  ·rw [decide_eq_true q, beq_iff_eq]; omega
  ·rw [decide_eq_false q, beq_eq_false_iff_ne]; omega
 rw [← hal]
 have HAL := Lib.hid hal
 clear hal
 go_enter Tryz.func33, Tryz.ntmps33
 go_upto_region 1 with fail
 rw [← hW0.out]
 go_upto_region 2 with fail
 rw [← hW1.out]
 rw [show W0.heap.size = w.heap.size + 3 from hWs.out]
 clear y0 y1 y2 e0 e1 e2 e3 e4 e5 e6 e7 e8 e9 e10
 clear x0 x1 x2 x3 x4 x5 x6
 obtain ⟨x0, x1, x2, x3, x4, x5, x6, xf⟩ := (HX.out W1 (Below.refl _ _)).1.cells
 obtain ⟨y0, y1, y2, -⟩ := (HX.out W1 (Below.refl _ _)).2.1.cells
 obtain ⟨e0, e1, e2, e3, e4, e5, e6, e7, e8, e9, e10⟩ := EBox.cells (HX.out W1 (Below.refl _ _)).2.2.2
 dsimp only at e0 e1 e2 e3 e4 e5
 obtain ⟨q0, q1, q2, q3, q4, q5, q6, qf⟩ := (HX.out W1 (Below.refl _ _)).2.2.1.cells
 rw [show ((0 : Nat) : Int) = 0 from rfl] at q3
 have qf0 := qf 0; have qf1 := qf 1; have qf2 := qf 2; have qf3 := qf 3; have qf4 := qf 4; have qf5 := qf 5; have qf6 := qf 6
 clear qf
 have xf2 := xf 2; have xf5 := xf 5; have xf6 := xf 6
 go_upto_region 16 with fail
 obtain ⟨w6, hw6⟩ : ∃ w6, w6 = ((W1.setCell ⟨w.heap.size, 2, none⟩ (.int .i64 k)).setCell ⟨w.heap.size, 5, none⟩ (.slice none 0 0)).setCell ⟨w.heap.size, 6, none⟩ (.slice none 0 0) := ⟨_, rfl⟩
 rw [← hw6]
 have ho6 : ∀ c, c ≠ w.heap.size → w6.heap[c]? = W1.heap[c]? := fun c hc => by
  rw [hw6]; repeat rw [RowKit.Below.heap_setCell _ _ _ _ hc]
 have hx6 : RX w6 w.heap.size f (.slice Bu nu cu) k s.next (.slice Ak nk ck) (.slice none 0 0) (.slice none 0 0) := by rw [hw6]; exact (HX.out W1 (Below.refl _ _)).1.set2.set5.set6
 have hq6 : RX w6 (w.heap.size + 1 + 1) ⟨#[]⟩ (.slice none 0 0) 0 0 (.slice none 0 0) (.slice none 0 0) (.slice none 0 0) := (ho6 _ (by omega)).trans (HX.out W1 (Below.refl _ _)).2.2.1
 have HB6 : Hid (Below w.heap.size w w6) := Lib.hid (by rw [hw6]; exact (((HBW.out W1 (Below.refl _ _)).setCell (p := ⟨w.heap.size, 2, none⟩) (Nat.le_refl _) _).setCell (p := ⟨w.heap.size, 5, none⟩) (Nat.le_refl _) _).setCell (p := ⟨w.heap.size, 6, none⟩) (Nat.le_refl _) _)
 have hy6 : BB w6 (w.heap.size + 1) ff at' (some ⟨eb, eo, none⟩) m cap := (ho6 _ (by omega)).trans (HX.out W1 (Below.refl _ _)).2.1
 have HQ6 := Lib.hid hq6
 clear x0 x1 x2 x3 x4 x5 x6 xf xf2 xf5 xf6 y0 y1 y2 e0 e1 e2 e3 e4 e5 e6 e7 e8 e9 e10 q0 q1 q2 q3 q4 q5 q6 qf0 qf1 qf2 qf3 qf4 qf5 qf6
 obtain ⟨x0, x1, x2, x3, x4, x5, x6, -⟩ := hx6.cells
 obtain ⟨-, -, y2, -⟩ := BB.cells hy6
 obtain ⟨w8, hw8⟩ : ∃ w8, w8 = w6.drew := ⟨_, rfl⟩
 have HS8 : Hid (∀ W : World, W.heap[w.heap.size]? = w6.heap[w.heap.size]? → W.heap[w.heap.size + 1]? = w6.heap[w.heap.size + 1]? → (fun W : World => W.cell? ⟨w.heap.size, 0, none⟩ = some (.string f) ∧ W.cell? ⟨w.heap.size, 1, none⟩ = some (.slice Bu nu cu) ∧ W.cell? ⟨w.heap.size, 2, none⟩ = some (.int .i64 k) ∧ W.cell? ⟨w.heap.size, 3, none⟩ = some (.int .u64 (s.next : Nat)) ∧ W.cell? ⟨w.heap.size, 4, none⟩ = some (.slice Ak nk ck) ∧ W.cell? ⟨w.heap.size, 5, none⟩ = some (.slice none 0 0) ∧ W.cell? ⟨w.heap.size, 6, none⟩ = some (.slice none 0 0) ∧ W.cell? ⟨w.heap.size + 1, 2, none⟩ = some (.slice (some ⟨eb, eo, none⟩) m cap)) W) := Lib.hid fun W a1 a2 => ⟨(World.cell?_of_block (a := ⟨w.heap.size, 0, none⟩) a1).trans x0, (World.cell?_of_block (a := ⟨w.heap.size, 1, none⟩) a1).trans x1, (World.cell?_of_block (a := ⟨w.heap.size, 2, none⟩) a1).trans x2, (World.cell?_of_block (a := ⟨w.heap.size, 3, none⟩) a1).trans x3, (World.cell?_of_block (a := ⟨w.heap.size, 4, none⟩) a1).trans x4, (World.cell?_of_block (a := ⟨w.heap.size, 5, none⟩) a1).trans x5, (World.cell?_of_block (a := ⟨w.heap.size, 6, none⟩) a1).trans x6, (World.cell?_of_block (a := ⟨w.heap.size + 1, 2, none⟩) a2).trans y2⟩
 have hq8 : RX w8 (w.heap.size + 1 + 1) ⟨#[]⟩ (.slice none 0 0) 0 0 (.slice none 0 0) (.slice none 0 0) (.slice none 0 0) := by rw [hw8]; exact HQ6.out
 have HB8 : Hid (Below w.heap.size w w8) := Lib.hid (by rw [hw8]; exact below_drew HB6.out)
 have HW8 := Lib.hid hw8
 obtain ⟨q0, q1, q2, q3, q4, q5, q6, qf⟩ := hq8.cells
 rw [show ((0 : Nat) : Int) = 0 from rfl] at q3
 have qf0 := qf 0; have qf1 := qf 1; have qf2 := qf 2; have qf3 := qf 3; have qf4 := qf 4; have qf5 := qf 5; have qf6 := qf 6
 clear qf hq8 hx6 hq6 hy6 ho6 hw6 x0 x1 x2 x3 x4 x5 x6 y2
 have kw := IntWalk.i64_in ((m : Int) - 1) (by omega)
 refine wp_region_noPanic ?_
 refine wp_region_held_drew (S := (fun W : World => W.cell? ⟨w.heap.size, 0, none⟩ = some (.string f) ∧ W.cell? ⟨w.heap.size, 1, none⟩ = some (.slice Bu nu cu) ∧ W.cell? ⟨w.heap.size, 2, none⟩ = some (.int .i64 k) ∧ W.cell? ⟨w.heap.size, 3, none⟩ = some (.int .u64 (s.next : Nat)) ∧ W.cell? ⟨w.heap.size, 4, none⟩ = some (.slice Ak nk ck) ∧ W.cell? ⟨w.heap.size, 5, none⟩ = some (.slice none 0 0) ∧ W.cell? ⟨w.heap.size, 6, none⟩ = some (.slice none 0 0) ∧ W.cell? ⟨w.heap.size + 1, 2, none⟩ = some (.slice (some ⟨eb, eo, none⟩) m cap))) (by kernel_rfl) ?_ (fun hHeld => ?_)
 ·exact HS8.out _ rfl rfl
 rw [← hw8] at hHeld
 rw [← hw8]
 clear hw8
 refine tk 0 rfl ?_
 try simp only [ap]
 refine tk 1 rfl ?_
 try simp only [ap]
 refine tk 2 rfl ?_
 try simp only [ap]
 refine tk 3 rfl ?_
 try simp only [ap]
 refine tk 4 rfl ?_
 try simp only [ap]
 refine tk 5 rfl ?_
 try simp only [ap]
 refine tk 6 rfl ?_
 try simp only [ap]
 refine wpAnyH_ready (rs := [7]) (by kernel_rfl) (by simp) ?_
 refine cons_drop rfl (fun K hK => ?_) AllReadyH.nil
 go_simp
 refine hK.out _ _ (HS8.out _ (by rw [heap7 (by omega), HW8.out]; rfl) (by rw [heap7 (by omega), HW8.out]; rfl)) (fun hHeldY => ?_)
 clear hK K hHeld
 try simp only [ap]
 refine tk 8 rfl ?_
 try simp only [ap]
 refine wpAnyH_done (by kernel_rfl) ?_ _
 refine NoPanic.normal ?_
 clear hHeldY kw
 go_wp2_with fail
 refine bodyPost_ret (v := .tuple #[.agg #[.string f, .slice Bu nu cu, .int .i64 k, .int .u64 (s.next : Nat), .slice Ak nk ck, .slice none 0 0, .slice none 0 0], .bool al]) (by simp [results, Tryz.results33, go_sem, q0, q1, q2, q3, q4, q5, q6]) rfl ?_
 have hb7 : Below w.heap.size w (((((((w8.setCell ⟨w.heap.size + 1 + 1, 0, none⟩ (.string f)).setCell ⟨w.heap.size + 1 + 1, 1, none⟩ (.slice Bu nu cu)).setCell ⟨w.heap.size + 1 + 1, 2, none⟩ (.int .i64 k)).setCell ⟨w.heap.size + 1 + 1, 3, none⟩ (.int .u64 (s.next : Nat))).setCell ⟨w.heap.size + 1 + 1, 4, none⟩ (.slice Ak nk ck)).setCell ⟨w.heap.size + 1 + 1, 5, none⟩ (.slice none 0 0)).setCell ⟨w.heap.size + 1 + 1, 6, none⟩ (.slice none 0 0)) := below7 (g := w.heap.size + 1 + 1) HB8.out (Nat.le_succ_of_le (Nat.le_succ _)) _ _ _ _ _ _ _
 have hk9 := HK.out
 have hap : applyM at' al ⟨k, id, en, ea, name, text, ev⟩ s = if al = true then some { s with closed := k, tasks := [], timers := [] } else none := by
  unfold applyM
  simp only
  rw [if_neg (by omega), if_neg (by omega), if_neg (by omega), if_neg (by omega), if_neg (by omega), if_neg (by omega), if_pos (by omega)]
 rw [hap]
 refine ⟨hb7, k, s.next, .slice Ak nk ck, .slice none 0 0, .slice none 0 0, ⟨_, _, _, rfl⟩, ⟨_, _, _, rfl⟩, ⟨_, _, _, rfl⟩, ?_, fun s' hs => ?_⟩
 ·cases al <;> simp [rhC]
 cases al with
 | false => simp at hs
 | true =>
  simp at hs
  subst hs
  exact ⟨rfl, rfl, ⟨(HRV.out.leads (veil_below X hb7)).keys, ⟨[], CIn.nil _ 10, TkC.nil _⟩, ⟨[], CIn.nil _ 2, rfl⟩⟩⟩
end Hi
end Go.Proofs.YtkajcldmolcllaaGreat
namespace Go.Proofs.YtkajcldmolcllaaGreat
namespace Hi
open Ev (EV)
open Cn (BT)
variable {X : Nat → Prop}

theorem command_any (s : ST) (f : ByteArray) (Bu : Option Addr) (nu cu : Nat) (uk ut um : Value) (b : BT) (A : Option Addr) (cap : Nat) (w : World) (h : OIn X w s uk ut um b A cap) (i : Nat) (hp : i < b.es.length) (he : EvOk (b.es[i]'hp)) (hk : 7 ≤ (b.es[i]'hp).k) :
  Calls Tryz.prog 33 #[.agg (rhC f (.slice Bu nu cu) s.closed s.next uk ut um), .agg #[.string b.flow, .int .u64 (b.at' : Nat), .slice A b.es.length cap], .int .i64 (i : Nat)] w (ROut X w f (.slice Bu nu cu) (applyM b.at' (decide (i + 1 = b.es.length)) (b.es[i]'hp) s)) := by
 have h1 := he.k1
 have hc : (b.es[i]'hp).k = 7 ∨ (b.es[i]'hp).k = 8 ∨ (b.es[i]'hp).k = 9 ∨ (b.es[i]'hp).k = 10 ∨ (b.es[i]'hp).k = 11 := by omega
 rcases hc with q | q | q | q | q
 ·exact cmd7_any s f Bu nu cu uk ut um b A cap w h i hp he q
 ·exact cmd8_any s f Bu nu cu uk ut um b A cap w h i hp he q
 all_goals exact cmd9_any s f Bu nu cu uk ut um b A cap w h i hp he (by omega)
end Hi
end Go.Proofs.YtkajcldmolcllaaGreat
namespace Go.Proofs.YtkajcldmolcllaaGreat
namespace Hi
open _root_.Go.Proofs.YtkajcldmolcllaaGreat.Nm (ret_int ret_bool)
open Vt (VT Rep below_drew)
open Ev (EV FieldsOk evCells vCells take_drop tk ap cons_drop)
open Cm (rowOf EvsIn)
open Cn (BT BB BtsIn)
variable {X X' Y Y' : Nat → Prop} {u v w w' V V' : World} {hb bt bm bk n cap : Nat} {A : Option Addr} {h : HM}

theorem Tryz.infoHt : (Tryz.prog.info? 82).map (fun i => (i.zero, i.size, i.bytes)) = some (some (.agg #[.int .u64 0, .int .u64 0]), 2, 16) := by kernel_rfl
theorem tmIn_own {base : Nat} {T : TypeId} {u : Value} {l : List (Nat × Nat)} (h : w.ownsRow base T 2 u l.length (l.flatMap timerL)) : ∃ A c, u = .slice A l.length c ∧ TmIn w A c l := by
 rcases h.2 with ⟨rfl, h0⟩ | ⟨r, cp, cur, rfl, q2, q3, q4, q5, q6, q7⟩
 ·exact ⟨none, 0, by rw [h0], by omega, Nat.zero_le _, fun hp => absurd hp (by omega)⟩
 ·refine ⟨_, cp, rfl, q4, q5, fun _ => ⟨r, rfl, (Array.getElem?_eq_some_iff.1 q3).1, fun i hi => ?_⟩⟩
  have e : ∀ p x, (l.flatMap timerL)[p]? = some x → w.cell? ⟨r, p, none⟩ = some x := fun p x hx => by
   have hlt := (List.getElem?_eq_some_iff.1 hx).1
   rw [h.1] at hlt
   rw [← q7, List.getElem?_take_of_lt hlt, Array.getElem?_toList] at hx
   simp [World.cell?, q3, hx]
  exact ⟨e _ _ (by have := flat_get timerL 2 timerL_len l i 0 hi (by omega); rw [Nat.add_zero] at this; rw [this]; rfl), e _ _ (by rw [flat_get timerL 2 timerL_len l i 1 hi (by omega)]; rfl)⟩
set_option maxRecDepth 100000 in
set_option maxHeartbeats 4000000 in
theorem lsame_any (H : HAt Y w hb bt bm bk n A cap h) (ub uk ut um : Value) (hr : RH w h ub uk ut um) (htot : tot h.bs ≤ 1180000000000) (hL : h.bs.length ≤ 1000000) (hS : BsOk h.bs) (hST : ∀ t ∈ h.s.tasks, t.v.Slim 900) :
  Calls Tryz.prog 18 #[.pointer (some ⟨hb, 0, none⟩), .agg (rhC h.flow ub h.s.closed h.s.next uk ut um)] w fun r w' => r = .returned (.int .i64 1) ∧ Below w.heap.size w w' := by
 obtain ⟨Bu, cu, rfl, hbu⟩ := hr.bs.open
 obtain ⟨Aq, ct, rfl, htk⟩ := hr.tasks.open
 obtain ⟨Ak, nk, ck, rfl⟩ : ∃ A n c, uk = .slice A n c := by obtain ⟨xs, ⟨-, -, A, c, e, -⟩, -⟩ := hr.keys; exact ⟨_, _, _, e⟩
 obtain ⟨xs, hcin, htm⟩ := hr.timers
 have htlen := timers_len H.fine
 have hid : ∀ t ∈ h.s.timers, t.1 < 18446744073709551616 := fun t ht => by have := H.fine.fine.belowT t ht; have := H.fine.next; omega
 obtain ⟨W0, hW0⟩ : ∃ W0, W0 = w.alloc (.cells (rhC h.flow (.slice Bu h.bs.length cu) h.s.closed h.s.next (.slice Ak nk ck) (.slice Aq h.s.tasks.length ct) um) 32) := ⟨_, rfl⟩
 have hx0 : RX W0 w.heap.size h.flow (.slice Bu h.bs.length cu) h.s.closed h.s.next (.slice Ak nk ck) (.slice Aq h.s.tasks.length ct) um := by rw [hW0]; exact RX.new ..
 have hb0 : Below w.heap.size w W0 := by rw [hW0]; exact (Below.refl _ _).alloc (Nat.le_refl _) _
 have hz0 : W0.heap.size = w.heap.size + 1 := by rw [hW0]; simp
 obtain ⟨hxl, h1, Am, cm, rfl, hle, hcm, hrd⟩ := hcin
 have HXL := Lib.hid hxl
 clear hxl
 simp only [maxLen] at hcm
 obtain ⟨i0, hi0, hz0', hz1, hz2⟩ := info_parts Tryz.infoHt
 have HSZ := Lib.hid (sz_of hi0 hz1)
 have HBW : Hid (∀ W, Below W0.heap.size W0 W → Below w.heap.size w W) := Lib.hid fun W hW => hb0.trans (hW.mono hb0.size)
 have HX : Hid (∀ W, Below W0.heap.size W0 W → RX W w.heap.size h.flow (.slice Bu h.bs.length cu) h.s.closed h.s.next (.slice Ak nk ck) (.slice Aq h.s.tasks.length ct) (.slice Am h.s.timers.length cm)) := Lib.hid fun W hW => hx0.later hW (by omega)
 have HC1 : Hid (∀ W, Below W0.heap.size W0 W → Calls Tryz.prog 22 #[.pointer (some ⟨hb, 0, none⟩)] W fun r w' => r = .returned (.string h.flow) ∧ w' = W) := Lib.hid fun W hW => hflow_any (H.later (HBW.out W hW))
 have HC2 : Hid (∀ W, Below W0.heap.size W0 W → Calls Tryz.prog 19 #[.pointer (some ⟨hb, 0, none⟩)] W fun r w' => r = .returned (.int .i64 h.s.closed) ∧ w' = W) := Lib.hid fun W hW => hclosed_any (H.later (HBW.out W hW))
 have HC3 : Hid (∀ W, Below W0.heap.size W0 W → Calls Tryz.prog 23 #[.pointer (some ⟨hb, 0, none⟩)] W fun r w' => r = .returned (.int .u64 (h.at' : Nat)) ∧ Below W.heap.size W w') := Lib.hid fun W hW => hat_any (H.later (HBW.out W hW))
 have HC4 : Hid (∀ W, Below W0.heap.size W0 W → Calls Tryz.prog 31 #[.agg (rhC h.flow (.slice Bu h.bs.length cu) h.s.closed h.s.next (.slice Ak nk ck) (.slice Aq h.s.tasks.length ct) (.slice Am h.s.timers.length cm))] W fun r w' => r = .returned (.int .u64 (h.at' : Nat)) ∧ Below W.heap.size W w') := Lib.hid fun W hW => rat_any h h.flow _ _ _ _ _ _ W (hr.later (HBW.out W hW)).bs
 have HC5 : Hid (∀ W, Below W0.heap.size W0 W → Calls Tryz.prog 24 #[.pointer (some ⟨hb, 0, none⟩)] W fun r w' => r = .returned (.int .u64 (h.s.next : Nat)) ∧ w' = W) := Lib.hid fun W hW => hnext_any (H.later (HBW.out W hW))
 have HC6 : Hid (∀ W, Below W0.heap.size W0 W → Calls Tryz.prog 26 #[.pointer (some ⟨hb, 0, none⟩)] W fun r w' => ∃ A2 cap2, r = .returned (.slice A2 h.s.timers.length cap2) ∧ Below W.heap.size W w' ∧ TmIn w' A2 cap2 h.s.timers) := Lib.hid fun W hW => timers_any (H.later (HBW.out W hW)) (by have := H.nn; omega) hid (by omega)
 have HC7 : Hid (∀ W, Below W0.heap.size W0 W → Calls Tryz.prog 21 #[.pointer (some ⟨hb, 0, none⟩)] W fun r w' => ∃ A2 cap2, r = .returned (.slice A2 h.bs.length cap2) ∧ Below W.heap.size W w' ∧ BNew w' W.heap.size A2 cap2 h.bs) := Lib.hid fun W hW => batches_any (H.later (HBW.out W hW)) hS hL
 have HC8 : Hid (∀ W, Below W0.heap.size W0 W → Calls Tryz.prog 25 #[.pointer (some ⟨hb, 0, none⟩)] W fun r w' => ∃ A2 cap2, r = .returned (.slice A2 h.s.tasks.length cap2) ∧ Below W.heap.size W w' ∧ TkIn w' A2 cap2 h.s.tasks) := Lib.hid fun W hW => tasks_any (H.later (HBW.out W hW)) (by omega) hST
 have HBU : Hid (∀ W, Below W0.heap.size W0 W → BtsIn W Bu cu h.bs) := Lib.hid fun W hW => hbu.later (HBW.out W hW)
 have HTK : Hid (∀ W, Below W0.heap.size W0 W → TkIn W Aq ct h.s.tasks) := Lib.hid fun W hW => htk.later (HBW.out W hW)
 have HRD : Hid (∀ W, Below W0.heap.size W0 W → 0 < h.s.timers.length → ∃ b off, Am = some ⟨b, off, none⟩ ∧ b < W.heap.size ∧ ∀ p x, xs[p]? = some x → W.cell? ⟨b, off + p, none⟩ = some x) := Lib.hid fun W hW hp => by
  obtain ⟨b, off, q1, q2, q3⟩ := hrd hp
  exact ⟨b, off, q1, Nat.lt_of_lt_of_le q2 (HBW.out W hW).size, fun p x hx => ((HBW.out W hW).cell (p := ⟨b, off + p, none⟩) q2).trans (q3 p x hx)⟩
 have HTM := Lib.hid htm; have HONE0 := Lib.hid h1
 have HZ0 := Lib.hid hz0
 clear H hr hbu htk htm hx0 hb0 hz0 hS hST hid hrd h1
 obtain ⟨l, hl⟩ : ∃ l, l = h.s.timers := ⟨_, rfl⟩
 obtain ⟨m, hm⟩ : ∃ m, m = l.length := ⟨_, rfl⟩
 rw [← hl] at HTM HC6 HX HRD hle HC4 hW0 htlen HXL
 rw [← hl]
 rw [← hm] at HC6 HX HRD hle HC4 hW0 htlen HXL
 rw [← hm]
 have HM := Lib.hid hm
 clear hl hm
 generalize h.s.tasks = lt at *
 generalize hnt : lt.length = nt at *
 have HNT := Lib.hid hnt
 generalize h.flow = f at *
 generalize h.s.closed = cl at *
 generalize h.s.next = nx at *
 generalize h.at' = ha at *
 generalize hLL : h.bs.length = L at *
 have HLL := Lib.hid hLL
 clear hnt hLL
 unfold rhC at hW0 HC4 ⊢
 replace hW0 := Lib.hid hW0
 obtain ⟨x0, x1, x2, x3, x4, x5, x6, -⟩ := (HX.out W0 (Below.refl _ _)).cells
 go_enter Tryz.func18, Tryz.ntmps18
 go_upto_region 1 with fail
 rw [← hW0.out]
 go_wp2_with fail
 clear x0 x1 x2 x3 x4 x5 x6
 go_loopw [5, 11] (fun v i wr => ∃ j : Nat, j ≤ m ∧ i = .int .i64 j ∧ wr.ownsRow W0.heap.size 82 2 v j (xs.take (j * 2)) ∧ Below W0.heap.size W0 wr) (fun _ i _ => m - (intOf i).toNat)
 case atStart => exact ⟨0, by omega, rfl, by rw [Nat.zero_mul, List.take_zero]; exact ⟨rfl, .inl ⟨rfl, rfl⟩⟩, Below.refl _ _⟩
 case round =>
  obtain ⟨j, hj, rfl, hown, hb⟩ := hrel
  have HB := Lib.hid hb; have HO := Lib.hid hown
  clear hb hown
  by_cases hlt : j < m
  ·obtain ⟨b, off, rfl, hblt, h3⟩ := HRD.out wr HB.out (by omega)
   have hjt : j < l.length := by have := HM.out; omega
   obtain ⟨y, hy⟩ : ∃ y, y = l[j] := ⟨_, rfl⟩
   have g0 := h3 (j * 2 + 0) (.int .u64 (y.1 : Nat)) (by rw [HTM.out, flat_get timerL 2 timerL_len _ j 0 hjt (by omega), ← hy]; rfl)
   have g1 := h3 (j * 2 + 1) (.int .u64 (y.2 : Nat)) (by rw [HTM.out, flat_get timerL 2 timerL_len _ j 1 hjt (by omega), ← hy]; rfl)
   rw [Nat.add_zero] at g0
   rw [← Nat.add_assoc] at g1
   obtain ⟨y1, y2⟩ := y
   dsimp only at g0 g1
   have HTAKE : Hid (xs.take ((j + 1) * 2) = xs.take (j * 2) ++ (#[Value.int .u64 (y1 : Nat), .int .u64 (y2 : Nat)] : Array Value).toList) := Lib.hid (by
    rw [HTM.out, fm_take, fm_take, List.take_succ_eq_append_getElem hjt, List.flatMap_append, ← hy]; rfl)
   obtain ⟨Ar, cr, rfl, -⟩ := own_slice HO.out
   obtain ⟨W1, hW1⟩ : ∃ W1, W1 = wr.alloc (.cells #[.int .u64 (y1 : Nat), .int .u64 (y2 : Nat)] 81) := ⟨_, rfl⟩
   obtain ⟨W2, hW2⟩ : ∃ W2, W2 = W1.alloc (.cells #[.int .u64 (y1 : Nat), .int .u64 (y2 : Nat)] 82) := ⟨_, rfl⟩
   have hb1 : Below W0.heap.size W0 W1 := by rw [hW1]; exact HB.out.alloc HB.out.size _
   have hb2 : Below W0.heap.size W0 W2 := by rw [hW2]; exact hb1.alloc hb1.size _
   have HB2 := Lib.hid hb2
   have hin : CIn W2 (.slice (some ⟨W1.heap.size, 0, none⟩) 1 1) 1 2 (#[Value.int .u64 (y1 : Nat), .int .u64 (y2 : Nat)] : Array Value).toList := by
    rw [hW2]; exact CIn.new W1 _ _ rfl (by intro x hx; simp at hx; rcases hx with rfl | rfl <;> rfl)
   have HI2 := Lib.hid hin
   have hbwr : Below wr.heap.size wr W2 := by rw [hW2, hW1]; exact ((Below.refl _ _).alloc (Nat.le_refl _) _).alloc (by simp) _
   have HO2 := Lib.hid (own_stay HO.out hbwr)
   have hp : W1.heap[wr.heap.size]? = some (.cells #[.int .u64 (y1 : Nat), .int .u64 (y2 : Nat)] 81 (0, 0)) := by rw [hW1]; exact heap_alloc_new wr _
   have p0 : W1.cell? ⟨wr.heap.size, 0, none⟩ = some (.int .u64 (y1 : Nat)) := by simp [World.cell?, hp]
   have p1 : W1.cell? ⟨wr.heap.size, 1, none⟩ = some (.int .u64 (y2 : Nat)) := by simp [World.cell?, hp]
   clear h3 hy hjt hb1 hb2 hin hbwr hp
   replace hW1 := Lib.hid hW1
   replace hW2 := Lib.hid hW2
   go_upto_region 5 with fail
   rw [← hW1.out]
   go_wp2_with (at_builtin; rw [← hW2.out]; refine wpList_append_any _ rfl _ _ 61 82 rfl i0 _ 2 16 Tryz.underlying61 HSZ.out hi0 hz0' hz1 hz2 rfl (by decide) W0.heap.size _ _ j 1 (xs.take (j * 2)) (#[Value.int .u64 (y1 : Nat), .int .u64 (y2 : Nat)] : Array Value).toList rfl rfl HO2.out HI2.out (by simp only [maxLen]; omega) (by omega) HB2.out.size ?_; intro v1 w1 hown2 hgrow2 hat2)
   have hB1 : Below W0.heap.size W0 w1 := below_grown HB2.out hgrow2 (fun r hr => (HO2.out.lt r hr).1) HB2.out.size
   have HB1 := Lib.hid hB1; have HO1 := Lib.hid hown2
   clear hB1 hown2 hgrow2 hat2
   go_wp2_with fail
   go_roundw
   case rel => exact ⟨j + 1, by omega, by go_num, by rw [HTAKE.out]; exact HO1.out, HB1.out⟩
   case measure => simp [intOf]; omega
  ·have hj' : j = m := by omega
   subst hj'
   clear hlt hle
   have HT5 := Lib.hid (show ∃ A c, _ = Value.slice A l.length c ∧ TmIn wr A c l from tmIn_own (base := W0.heap.size) (T := 82) (by have e := HO.out; rw [List.take_of_length_le (by have := HXL.out; omega), HM.out, HTM.out] at e; exact e))
   obtain ⟨Ar, cr, rfl, ht5⟩ := HT5.out
   clear HT5 HO
   have HT5 : Hid (∀ W, Below wr.heap.size wr W → TmIn W Ar cr l) := Lib.hid fun W hW => ht5.later hW
   clear ht5
   rw [← HM.out]
   have KS : Hid (∀ W, Below W0.heap.size W0 W → (fun W : World => W.cell? ⟨w.heap.size, 0, none⟩ = some (.string f) ∧ W.cell? ⟨w.heap.size, 1, none⟩ = some (.slice Bu L cu) ∧ W.cell? ⟨w.heap.size, 2, none⟩ = some (.int .i64 cl) ∧ W.cell? ⟨w.heap.size, 3, none⟩ = some (.int .u64 (nx : Nat)) ∧ W.cell? ⟨w.heap.size, 4, none⟩ = some (.slice Ak nk ck) ∧ W.cell? ⟨w.heap.size, 5, none⟩ = some (.slice Aq nt ct) ∧ W.cell? ⟨w.heap.size, 6, none⟩ = some (.slice Am j cm)) W) := Lib.hid fun W hW => by obtain ⟨x0, x1, x2, x3, x4, x5, x6, -⟩ := (HX.out W hW).cells; exact ⟨x0, x1, x2, x3, x4, x5, x6⟩
   go_upto_region 7 with fail
   obtain ⟨u0, hu0⟩ : ∃ u, u = wr.drew := ⟨_, rfl⟩
   have hbu : Below wr.heap.size wr u0 := by rw [hu0]; exact below_drew (Below.refl _ _)
   have HBu : Hid (Below W0.heap.size W0 u0) := Lib.hid (HB.out.trans (hbu.mono HB.out.size))
   have HBu1 := Lib.hid hbu
   clear hbu
   refine wp_region_noPanic ?_
   refine wp_region_held_drew (S := (fun W : World => W.cell? ⟨w.heap.size, 0, none⟩ = some (.string f) ∧ W.cell? ⟨w.heap.size, 1, none⟩ = some (.slice Bu L cu) ∧ W.cell? ⟨w.heap.size, 2, none⟩ = some (.int .i64 cl) ∧ W.cell? ⟨w.heap.size, 3, none⟩ = some (.int .u64 (nx : Nat)) ∧ W.cell? ⟨w.heap.size, 4, none⟩ = some (.slice Ak nk ck) ∧ W.cell? ⟨w.heap.size, 5, none⟩ = some (.slice Aq nt ct) ∧ W.cell? ⟨w.heap.size, 6, none⟩ = some (.slice Am j cm))) (by kernel_rfl) ?_ (fun hHeld => ?_)
   ·exact KS.out _ (below_drew HB.out)
   rw [← hu0] at hHeld
   rw [← hu0]
   replace hu0 := Lib.hid hu0
   refine tk 0 rfl ?_
   try simp only [ap]
   refine tk 2 rfl ?_
   try simp only [ap]
   refine tk 3 rfl ?_
   try simp only [ap]
   refine wpAnyH_ready (rs := [1]) (by kernel_rfl) (by simp) ?_
   refine cons_drop rfl (fun K hK => ?_) AllReadyH.nil
   go_simp
   (with_reducible refine (HC1.out _ HBu.out).mono ?_)
   rintro e w9 ⟨rfl, rfl⟩
   go_wp2_with fail
   refine hK.out _ _ (KS.out _ HBu.out) (fun hHeld1 => ?_)
   clear hK K hHeld
   try simp only [ap]
   refine tk 4 rfl ?_
   try simp only [ap]
   refine tk 5 rfl ?_
   try simp only [ap]
   refine tk 6 rfl ?_
   try simp only [ap]
   refine tk 8 rfl ?_
   try simp only [ap]
   refine tk 9 rfl ?_
   try simp only [ap]
   refine wpAnyH_ready (rs := [7]) (by kernel_rfl) (by simp) ?_
   refine cons_drop rfl (fun K hK => ?_) AllReadyH.nil
   go_simp
   (with_reducible refine (HC2.out _ HBu.out).mono ?_)
   rintro e w9 ⟨rfl, rfl⟩
   go_wp2_with fail
   refine hK.out _ _ (KS.out _ HBu.out) (fun hHeld2 => ?_)
   clear hK K hHeld1
   try simp only [ap]
   refine tk 10 rfl ?_
   try simp only [ap]
   refine tk 11 rfl ?_
   try simp only [ap]
   refine tk 12 rfl ?_
   try simp only [ap]
   refine tk 13 rfl ?_
   try simp only [ap]
   refine tk 15 rfl ?_
   try simp only [ap]
   refine wpAnyH_ready (rs := [14]) (by kernel_rfl) (by simp) ?_
   refine cons_drop rfl (fun K hK => ?_) AllReadyH.nil
   go_simp
   (with_reducible refine (HC3.out _ HBu.out).mono ?_)
   rintro e c3 ⟨rfl, hbz⟩
   have HB3 : Hid (Below W0.heap.size W0 c3) := Lib.hid (HBu.out.trans (hbz.mono HBu.out.size))
   have HBR3 : Hid (Below wr.heap.size wr c3) := Lib.hid (HBu1.out.trans (hbz.mono HBu1.out.size))
   clear hbz
   go_wp2_with fail
   refine hK.out _ _ (KS.out _ HB3.out) (fun hHeld3 => ?_)
   clear hK K hHeld2
   try simp only [ap]
   refine wpAnyH_ready (rs := [16]) (by kernel_rfl) (by simp) ?_
   refine cons_drop rfl (fun K hK => ?_) AllReadyH.nil
   go_simp
   (with_reducible refine (HC4.out _ HB3.out).mono ?_)
   rintro e c4 ⟨rfl, hbz⟩
   have HB4 : Hid (Below W0.heap.size W0 c4) := Lib.hid (HB3.out.trans (hbz.mono HB3.out.size))
   have HBR4 : Hid (Below wr.heap.size wr c4) := Lib.hid (HBR3.out.trans (hbz.mono HBR3.out.size))
   clear hbz
   go_wp2_with fail
   refine hK.out _ _ (KS.out _ HB4.out) (fun hHeld4 => ?_)
   clear hK K hHeld3
   try simp only [ap]
   refine tk 17 rfl ?_
   try simp only [ap]
   refine tk 18 rfl ?_
   try simp only [ap]
   refine tk 19 rfl ?_
   try simp only [ap]
   refine tk 20 rfl ?_
   try simp only [ap]
   refine tk 22 rfl ?_
   try simp only [ap]
   refine tk 23 rfl ?_
   try simp only [ap]
   refine wpAnyH_ready (rs := [21]) (by kernel_rfl) (by simp) ?_
   refine cons_drop rfl (fun K hK => ?_) AllReadyH.nil
   go_simp
   (with_reducible refine (HC5.out _ HB4.out).mono ?_)
   rintro e w9 ⟨rfl, rfl⟩
   go_wp2_with fail
   refine hK.out _ _ (KS.out _ HB4.out) (fun hHeld5 => ?_)
   clear hK K hHeld4
   try simp only [ap]
   refine tk 24 rfl ?_
   try simp only [ap]
   refine tk 25 rfl ?_
   try simp only [ap]
   refine tk 26 rfl ?_
   try simp only [ap]
   refine tk 27 rfl ?_
   try simp only [ap]
   refine tk 29 rfl ?_
   try simp only [ap]
   refine wpAnyH_ready (rs := [28]) (by kernel_rfl) (by simp) ?_
   refine cons_drop rfl (fun K hK => ?_) AllReadyH.nil
   go_simp
   (with_reducible refine (HC6.out _ HB4.out).mono ?_)
   rintro e c6 ⟨At, ctt, rfl, hbz, htt⟩
   have HTT := Lib.hid htt
   clear htt
   have HB6 : Hid (Below W0.heap.size W0 c6) := Lib.hid (HB4.out.trans (hbz.mono HB4.out.size))
   have HBR6 : Hid (Below wr.heap.size wr c6) := Lib.hid (HBR4.out.trans (hbz.mono HBR4.out.size))
   clear hbz
   go_wp2_with fail
   refine hK.out _ _ (KS.out _ HB6.out) (fun hHeld6 => ?_)
   clear hK K hHeld5
   try simp only [ap]
   refine wpAnyH_ready (rs := [30]) (by kernel_rfl) (by simp) ?_
   refine cons_drop rfl (fun K hK => ?_) AllReadyH.nil
   go_simp
   (with_reducible refine (show Calls _ _ _ _ _ from by have q := equal_timers l At Ar ctt cr c6 HTT.out (HT5.out _ HBR6.out); rw [← HM.out] at q; exact q).mono ?_)
   rintro e c7 ⟨rfl, hbz⟩
   have HB7 : Hid (Below W0.heap.size W0 c7) := Lib.hid (HB6.out.trans (hbz.mono HB6.out.size))
   have HBR7 : Hid (Below wr.heap.size wr c7) := Lib.hid (HBR6.out.trans (hbz.mono HBR6.out.size))
   clear hbz
   go_wp2_with fail
   refine hK.out _ _ (KS.out _ HB7.out) (fun hHeld7 => ?_)
   clear hK K hHeld6
   try simp only [ap]
   refine tk 31 rfl ?_
   try simp only [ap]
   refine tk 32 rfl ?_
   try simp only [ap]
   refine tk 33 rfl ?_
   try simp only [ap]
   refine tk 34 rfl ?_
   try simp only [ap]
   refine tk 36 rfl ?_
   try simp only [ap]
   refine tk 37 rfl ?_
   try simp only [ap]
   refine wpAnyH_ready (rs := [35]) (by kernel_rfl) (by simp) ?_
   refine cons_drop rfl (fun K hK => ?_) AllReadyH.nil
   go_simp
   (with_reducible refine (HC7.out _ HB7.out).mono ?_)
   rintro e c8 ⟨Ab, cb, rfl, hbz, hbn⟩
   have HBN := Lib.hid hbn.read
   clear hbn
   have HB8 : Hid (Below W0.heap.size W0 c8) := Lib.hid (HB7.out.trans (hbz.mono HB7.out.size))
   have HBR8 : Hid (Below wr.heap.size wr c8) := Lib.hid (HBR7.out.trans (hbz.mono HBR7.out.size))
   clear hbz
   go_wp2_with fail
   refine hK.out _ _ (KS.out _ HB8.out) (fun hHeld8 => ?_)
   clear hK K hHeld7
   try simp only [ap]
   refine wpAnyH_ready (rs := [38]) (by kernel_rfl) (by simp) ?_
   refine cons_drop rfl (fun K hK => ?_) AllReadyH.nil
   go_simp
   (with_reducible refine (show Calls _ _ _ _ _ from by have q := rsamebs_any h.bs Ab Bu cb cu c8 HBN.out (HBU.out _ HB8.out); rw [HLL.out] at q; exact q).mono ?_)
   rintro e c9 ⟨rfl, hbz⟩
   have HB9 : Hid (Below W0.heap.size W0 c9) := Lib.hid (HB8.out.trans (hbz.mono HB8.out.size))
   have HBR9 : Hid (Below wr.heap.size wr c9) := Lib.hid (HBR8.out.trans (hbz.mono HBR8.out.size))
   clear hbz
   go_wp2_with fail
   refine hK.out _ _ (KS.out _ HB9.out) (fun hHeld9 => ?_)
   clear hK K hHeld8
   try simp only [ap]
   refine tk 39 rfl ?_
   try simp only [ap]
   refine tk 40 rfl ?_
   try simp only [ap]
   refine wpAnyH_done (by kernel_rfl) ?_ _
   refine NoPanic.normal ?_
   clear hHeld9
   go_upto_region 9 with fail
   obtain ⟨u9, hu9⟩ : ∃ u, u = c9.drew := ⟨_, rfl⟩
   have HBv : Hid (Below W0.heap.size W0 u9) := Lib.hid (by rw [hu9]; exact below_drew HB9.out)
   refine wp_region_noPanic ?_
   refine wp_region_held_drew (S := (fun W : World => W.cell? ⟨w.heap.size, 0, none⟩ = some (.string f) ∧ W.cell? ⟨w.heap.size, 1, none⟩ = some (.slice Bu L cu) ∧ W.cell? ⟨w.heap.size, 2, none⟩ = some (.int .i64 cl) ∧ W.cell? ⟨w.heap.size, 3, none⟩ = some (.int .u64 (nx : Nat)) ∧ W.cell? ⟨w.heap.size, 4, none⟩ = some (.slice Ak nk ck) ∧ W.cell? ⟨w.heap.size, 5, none⟩ = some (.slice Aq nt ct) ∧ W.cell? ⟨w.heap.size, 6, none⟩ = some (.slice Am j cm))) (by kernel_rfl) ?_ (fun hHeld => ?_)
   ·exact KS.out _ (below_drew HB9.out)
   rw [← hu9] at hHeld
   rw [← hu9]
   replace hu9 := Lib.hid hu9
   refine tk 0 rfl ?_
   try simp only [ap]
   refine tk 2 rfl ?_
   try simp only [ap]
   refine tk 3 rfl ?_
   try simp only [ap]
   refine wpAnyH_ready (rs := [1]) (by kernel_rfl) (by simp) ?_
   refine cons_drop rfl (fun K hK => ?_) AllReadyH.nil
   go_simp
   (with_reducible refine (HC8.out _ HBv.out).mono ?_)
   rintro e c10 ⟨At2, ct2, rfl, hbz, htt⟩
   have HTT2 := Lib.hid htt
   clear htt
   have HB10 : Hid (Below W0.heap.size W0 c10) := Lib.hid (HBv.out.trans (hbz.mono HBv.out.size))
   clear hbz
   go_wp2_with fail
   refine hK.out _ _ (KS.out _ HB10.out) (fun hHeld10 => ?_)
   clear hK K hHeld
   try simp only [ap]
   refine wpAnyH_ready (rs := [4]) (by kernel_rfl) (by simp) ?_
   refine cons_drop rfl (fun K hK => ?_) AllReadyH.nil
   go_simp
   (with_reducible refine (show Calls _ _ _ _ _ from by have q := sametasks_any lt At2 Aq ct2 ct c10 HTT2.out (HTK.out _ HB10.out); rw [HNT.out] at q; exact q).mono ?_)
   rintro e c11 ⟨rfl, hbz⟩
   have HB11 : Hid (Below W0.heap.size W0 c11) := Lib.hid (HB10.out.trans (hbz.mono HB10.out.size))
   clear hbz
   go_wp2_with fail
   refine hK.out _ _ (KS.out _ HB11.out) (fun hHeld11 => ?_)
   clear hK K hHeld10
   try simp only [ap]
   refine tk 5 rfl ?_
   try simp only [ap]
   refine wpAnyH_done (by kernel_rfl) ?_ _
   refine NoPanic.normal ?_
   clear hHeld11
   go_wp2_with fail
   go_ret
   exact ⟨rfl, HBW.out _ HB11.out⟩
end Hi
end Go.Proofs.YtkajcldmolcllaaGreat
