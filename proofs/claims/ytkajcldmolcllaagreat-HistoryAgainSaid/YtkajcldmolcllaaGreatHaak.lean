/- What an event does to a state: a signal; the start. -/
/- What an event does to a state: an answer that ends an activity. -/
/- What an event does to a state: a failure that ends an activity. -/
/- What an event does to a state: a failure behind which it is tried again. -/
import Derived.Test.YtkajcldmolcllaaGreatHaah
set_option linter.unusedVariables false
set_option linter.unusedSimpArgs false
open Go.RowKit
namespace Go.Proofs.YtkajcldmolcllaaGreat
namespace Hi
open Nm (ret_int ret_bool)
open Vt (VT Rep below_drew Cloned)
open Ev (EV FieldsOk evCells vCells take_drop tk ap cons_drop)
open Cm (EvsIn)
variable {X X' Y : Nat → Prop} {u v w w' V V' : World} {b n : Nat} {ts : List TK} {l : List (Nat × Nat)} {ks : List ByteArray}

set_option maxRecDepth 100000 in
set_option maxHeartbeats 4000000 in
theorem apply1 (g bt bm bk : Nat) (s : ST) (h : SAt Y w g bt bm bk n s) (e : EV) (he : EvOk e) (hk : e.k = 1) (vk vn : Int) (vf : Nat) (vs : ByteArray) (A : Option Addr) (m c : Nat) (now : Nat) (alone : Bool) :
  Calls Tryz.prog 51 #[.pointer (some ⟨g, 0, none⟩), .agg (evCells e vk vn vf vs A m c), .int .u64 (now : Nat), .bool alone] w (AOut Y w g bt bm bk n (applyM now alone e s)) := by
 obtain ⟨k, id, en, at', name, text, ev⟩ := e
 obtain rfl : k = 1 := hk
 have hi := he.f.i1
 dsimp only at hi
 obtain ⟨yi, yn, yk, yv, yf, ys, yA, ym, yc, yN, yb, ya, okb, hl⟩ := h.maps.tasks.any id hi
 have HL : Hid (∀ W, W.heap[bt]? = w.heap[bt]? → (Instr.lookup 63 (.map (some bt)) (.int .u64 (id : Nat)) true).run Tryz.prog W = .ok (.tuple #[.agg #[.int .u64 (yi : Nat), .string yn, .int .i64 yk, .int .i64 yv, .float .f64 yf, .string ys, .slice yA ym yc, .int .i64 yN, .bool yb, .int .u64 (ya : Nat)], .bool okb]) W) := Lib.hid hl
 clear hl
 obtain ⟨W1, hW1⟩ : ∃ W1, W1 = w.alloc (.cells (evCells ⟨1, id, en, at', name, text, ev⟩ vk vn vf vs A m c) 53) := ⟨_, rfl⟩
 have hb1 : Below w.heap.size w W1 := by rw [hW1]; exact (Below.refl _ _).alloc (Nat.le_refl _) _
 have hz1 : W1.heap.size = w.heap.size + 1 := by rw [hW1]; simp
 have hx1 : Ev.EBox W1 w.heap.size (evCells ⟨1, id, en, at', name, text, ev⟩ vk vn vf vs A m c) := by rw [hW1]; exact heap_alloc_new _ _
 have hgl : g < w.heap.size := (Array.getElem?_eq_some_iff.1 h.blk).1
 have HE : Hid (∀ W, Below W1.heap.size W1 W → Ev.EBox W w.heap.size (evCells ⟨1, id, en, at', name, text, ev⟩ vk vn vf vs A m c)) := Lib.hid fun W hW => (hW.block _ (by omega)).trans hx1
 have HST : Hid (∀ W, Below W1.heap.size W1 W → SAt Y W g bt bm bk n s) := Lib.hid fun W hW => h.later (hb1.trans (hW.mono hb1.size))
 have KS : Hid (∀ W, Below W1.heap.size W1 W → (fun W => W.cell? ⟨g, 0, none⟩ = some (.map (some bt)) ∧ W.cell? ⟨w.heap.size, 1, none⟩ = some (.int .u64 (id : Nat)) ∧ (Instr.lookup 63 (.map (some bt)) (.int .u64 (id : Nat)) true).run Tryz.prog W = .ok (.tuple #[.agg #[.int .u64 (yi : Nat), .string yn, .int .i64 yk, .int .i64 yv, .float .f64 yf, .string ys, .slice yA ym yc, .int .i64 yN, .bool yb, .int .u64 (ya : Nat)], .bool okb]) W) W) := Lib.hid fun W hW => ⟨(st_cells (HST.out W hW).blk).1, (Ev.EBox.cells (HE.out W hW)).2.1, HL.out W ((hb1.trans (hW.mono hb1.size)).block _ h.maps.tasks.lt)⟩
 obtain ⟨W2, hW2⟩ : ∃ W2, W2 = (W1.alloc (.cells #[.int .u64 (yi : Nat), .string yn, .int .i64 yk, .int .i64 yv, .float .f64 yf, .string ys, .slice yA ym yc, .int .i64 yN, .bool yb, .int .u64 (ya : Nat)] 72)).drew := ⟨_, rfl⟩
 have hq2 : Below W1.heap.size W1 W2 := by rw [hW2]; exact below_drew ((Below.refl _ _).alloc (Nat.le_refl _) _)
 have hz2 : W2.heap.size = w.heap.size + 2 := by rw [hW2]; simp [hz1]
 have ht2 : W2.heap[W1.heap.size]? = some (.cells #[.int .u64 (yi : Nat), .string yn, .int .i64 yk, .int .i64 yv, .float .f64 yf, .string ys, .slice yA ym yc, .int .i64 yN, .bool yb, .int .u64 (ya : Nat)] 72 (0, 0)) := by rw [hW2]; exact heap_alloc_new _ _
 have HB2 := Lib.hid (hb1.trans (hq2.mono hb1.size)); have HQ2 := Lib.hid hq2; have HZ1 := Lib.hid hz1; have HZ2 := Lib.hid hz2; have HT2 := Lib.hid ht2; have HGL := Lib.hid hgl
 have H0 := Lib.hid h
 have HSW : Hid (∀ W, Below W1.heap.size W1 W → ∀ y, W1.heap.size ≤ y → Below W1.heap.size W1 W) := Lib.hid fun W hW _ _ => hW
 unfold evCells at hW1
 replace hW1 := Lib.hid hW1; replace hW2 := Lib.hid hW2
 clear h hb1 hx1 hq2 ht2 hgl hz1 hz2 HL
 unfold evCells
 go_enter Tryz.func51, Tryz.ntmps51
 go_upto_region 1 with fail
 rw [← hW1.out]
 refine wp_region_noPanic ?_
 refine wp_region_held_drew (S := (fun W => W.cell? ⟨g, 0, none⟩ = some (.map (some bt)) ∧ W.cell? ⟨w.heap.size, 1, none⟩ = some (.int .u64 (id : Nat)) ∧ (Instr.lookup 63 (.map (some bt)) (.int .u64 (id : Nat)) true).run Tryz.prog W = .ok (.tuple #[.agg #[.int .u64 (yi : Nat), .string yn, .int .i64 yk, .int .i64 yv, .float .f64 yf, .string ys, .slice yA ym yc, .int .i64 yN, .bool yb, .int .u64 (ya : Nat)], .bool okb]) W)) (by kernel_rfl) ?_ (fun hHeld => ?_)
 ·exact KS.out _ (below_drew (Below.refl _ _))
 refine tk 0 rfl ?_
 try simp only [ap]
 refine tk 1 rfl ?_
 try simp only [ap]
 refine tk 2 rfl ?_
 try simp only [ap]
 refine tk 3 rfl ?_
 try simp only [ap]
 refine tk 4 rfl ?_
 try simp only [ap]
 refine tk 5 rfl ?_
 try simp only [ap]
 refine tk 6 rfl ?_
 try simp only [ap]
 refine tk 7 rfl ?_
 try simp only [ap]
 refine tk 8 rfl ?_
 try simp only [ap]
 refine tk 9 rfl ?_
 try simp only [ap]
 refine wpAnyH_ready (rs := [10]) (by kernel_rfl) (by simp) ?_
 refine cons_drop rfl (fun K hK => ?_) AllReadyH.nil
 go_simp
 refine hK.out _ _ (KS.out _ ((below_drew (Below.refl _ _)).alloc (Nat.le_refl _) _)) (fun hHeld2 => ?_)
 clear hK K hHeld
 try simp only [ap]
 refine wpAnyH_ready (rs := [11]) (by kernel_rfl) (by simp) ?_
 refine cons_drop rfl (fun K hK => ?_) AllReadyH.nil
 go_simp
 refine hK.out _ _ (KS.out _ (below_drew ((Below.refl _ _).alloc (Nat.le_refl _) _))) (fun hHeld3 => ?_)
 clear hK K hHeld2
 try simp only [ap]
 refine wpAnyH_ready (rs := [12]) (by kernel_rfl) (by simp) ?_
 refine cons_drop rfl (fun K hK => ?_) AllReadyH.nil
 go_simp
 refine hK.out _ _ (KS.out _ (below_drew ((Below.refl _ _).alloc (Nat.le_refl _) _))) (fun hHeld4 => ?_)
 clear hK K hHeld3
 try simp only [ap]
 refine wpAnyH_done (by kernel_rfl) ?_ _
 refine NoPanic.normal ?_
 clear hHeld4
 rw [← hW2.out]
 have h := HST.out W2 HQ2.out
 obtain ⟨c0, c1, c2, c3, c4, f0, f1, f2, f3, f4⟩ := st_cells h.blk
 obtain ⟨e0, e1, e2, e3, e4, e5, e6, e7, e8, e9, e10⟩ := Ev.EBox.cells (HE.out W2 HQ2.out)
 dsimp only at e0 e1 e2 e3 e4 e5
 obtain ⟨t0, t1, t2, t3, t4, t5, t6, t7, t8, t9, tf⟩ := t_cells HT2.out
 go_wp2_with fail
 go_ret
 exact ⟨Chg.of_below HB2.out, by rw [show applyM now alone ⟨1, id, en, at', name, text, ev⟩ s = some s from by simp [applyM]]; exact ⟨rfl, (HST.out W2 HQ2.out).mono (Nat.le_succ _)⟩⟩

set_option maxRecDepth 100000 in
set_option maxHeartbeats 4000000 in
theorem apply6 (g bt bm bk : Nat) (s : ST) (h : SAt Y w g bt bm bk n s) (e : EV) (he : EvOk e) (hk : e.k = 6) (vk vn : Int) (vf : Nat) (vs : ByteArray) (A : Option Addr) (m c : Nat) (now : Nat) (alone : Bool) (hn : n < 17592186044416) :
  Calls Tryz.prog 51 #[.pointer (some ⟨g, 0, none⟩), .agg (evCells e vk vn vf vs A m c), .int .u64 (now : Nat), .bool alone] w (AOut Y w g bt bm bk n (applyM now alone e s)) := by
 obtain ⟨k, id, en, at', name, text, ev⟩ := e
 obtain rfl : k = 6 := hk
 have hi := he.f.i1
 dsimp only at hi
 have htx := he.f.t1
 dsimp only at htx
 obtain ⟨yi, yn, yk, yv, yf, ys, yA, ym, yc, yN, yb, ya, okb, hl⟩ := h.maps.tasks.any id hi
 have HL : Hid (∀ W, W.heap[bt]? = w.heap[bt]? → (Instr.lookup 63 (.map (some bt)) (.int .u64 (id : Nat)) true).run Tryz.prog W = .ok (.tuple #[.agg #[.int .u64 (yi : Nat), .string yn, .int .i64 yk, .int .i64 yv, .float .f64 yf, .string ys, .slice yA ym yc, .int .i64 yN, .bool yb, .int .u64 (ya : Nat)], .bool okb]) W) := Lib.hid hl
 clear hl
 obtain ⟨W1, hW1⟩ : ∃ W1, W1 = w.alloc (.cells (evCells ⟨6, id, en, at', name, text, ev⟩ vk vn vf vs A m c) 53) := ⟨_, rfl⟩
 have hb1 : Below w.heap.size w W1 := by rw [hW1]; exact (Below.refl _ _).alloc (Nat.le_refl _) _
 have hz1 : W1.heap.size = w.heap.size + 1 := by rw [hW1]; simp
 have hx1 : Ev.EBox W1 w.heap.size (evCells ⟨6, id, en, at', name, text, ev⟩ vk vn vf vs A m c) := by rw [hW1]; exact heap_alloc_new _ _
 have hgl : g < w.heap.size := (Array.getElem?_eq_some_iff.1 h.blk).1
 have HE : Hid (∀ W, Below W1.heap.size W1 W → Ev.EBox W w.heap.size (evCells ⟨6, id, en, at', name, text, ev⟩ vk vn vf vs A m c)) := Lib.hid fun W hW => (hW.block _ (by omega)).trans hx1
 have HST : Hid (∀ W, Below W1.heap.size W1 W → SAt Y W g bt bm bk n s) := Lib.hid fun W hW => h.later (hb1.trans (hW.mono hb1.size))
 have KS : Hid (∀ W, Below W1.heap.size W1 W → (fun W => W.cell? ⟨g, 0, none⟩ = some (.map (some bt)) ∧ W.cell? ⟨w.heap.size, 1, none⟩ = some (.int .u64 (id : Nat)) ∧ (Instr.lookup 63 (.map (some bt)) (.int .u64 (id : Nat)) true).run Tryz.prog W = .ok (.tuple #[.agg #[.int .u64 (yi : Nat), .string yn, .int .i64 yk, .int .i64 yv, .float .f64 yf, .string ys, .slice yA ym yc, .int .i64 yN, .bool yb, .int .u64 (ya : Nat)], .bool okb]) W) W) := Lib.hid fun W hW => ⟨(st_cells (HST.out W hW).blk).1, (Ev.EBox.cells (HE.out W hW)).2.1, HL.out W ((hb1.trans (hW.mono hb1.size)).block _ h.maps.tasks.lt)⟩
 obtain ⟨W2, hW2⟩ : ∃ W2, W2 = (W1.alloc (.cells #[.int .u64 (yi : Nat), .string yn, .int .i64 yk, .int .i64 yv, .float .f64 yf, .string ys, .slice yA ym yc, .int .i64 yN, .bool yb, .int .u64 (ya : Nat)] 72)).drew := ⟨_, rfl⟩
 have hq2 : Below W1.heap.size W1 W2 := by rw [hW2]; exact below_drew ((Below.refl _ _).alloc (Nat.le_refl _) _)
 have hz2 : W2.heap.size = w.heap.size + 2 := by rw [hW2]; simp [hz1]
 have ht2 : W2.heap[W1.heap.size]? = some (.cells #[.int .u64 (yi : Nat), .string yn, .int .i64 yk, .int .i64 yv, .float .f64 yf, .string ys, .slice yA ym yc, .int .i64 yN, .bool yb, .int .u64 (ya : Nat)] 72 (0, 0)) := by rw [hW2]; exact heap_alloc_new _ _
 have HB2 := Lib.hid (hb1.trans (hq2.mono hb1.size)); have HQ2 := Lib.hid hq2; have HZ1 := Lib.hid hz1; have HZ2 := Lib.hid hz2; have HT2 := Lib.hid ht2; have HGL := Lib.hid hgl
 have H0 := Lib.hid h
 have HSW : Hid (∀ W, Below W1.heap.size W1 W → ∀ y, W1.heap.size ≤ y → Below W1.heap.size W1 W) := Lib.hid fun W hW _ _ => hW
 unfold evCells at hW1
 replace hW1 := Lib.hid hW1; replace hW2 := Lib.hid hW2
 clear h hb1 hx1 hq2 ht2 hgl hz1 hz2 HL
 unfold evCells
 go_enter Tryz.func51, Tryz.ntmps51
 go_upto_region 1 with fail
 rw [← hW1.out]
 refine wp_region_noPanic ?_
 refine wp_region_held_drew (S := (fun W => W.cell? ⟨g, 0, none⟩ = some (.map (some bt)) ∧ W.cell? ⟨w.heap.size, 1, none⟩ = some (.int .u64 (id : Nat)) ∧ (Instr.lookup 63 (.map (some bt)) (.int .u64 (id : Nat)) true).run Tryz.prog W = .ok (.tuple #[.agg #[.int .u64 (yi : Nat), .string yn, .int .i64 yk, .int .i64 yv, .float .f64 yf, .string ys, .slice yA ym yc, .int .i64 yN, .bool yb, .int .u64 (ya : Nat)], .bool okb]) W)) (by kernel_rfl) ?_ (fun hHeld => ?_)
 ·exact KS.out _ (below_drew (Below.refl _ _))
 refine tk 0 rfl ?_
 try simp only [ap]
 refine tk 1 rfl ?_
 try simp only [ap]
 refine tk 2 rfl ?_
 try simp only [ap]
 refine tk 3 rfl ?_
 try simp only [ap]
 refine tk 4 rfl ?_
 try simp only [ap]
 refine tk 5 rfl ?_
 try simp only [ap]
 refine tk 6 rfl ?_
 try simp only [ap]
 refine tk 7 rfl ?_
 try simp only [ap]
 refine tk 8 rfl ?_
 try simp only [ap]
 refine tk 9 rfl ?_
 try simp only [ap]
 refine wpAnyH_ready (rs := [10]) (by kernel_rfl) (by simp) ?_
 refine cons_drop rfl (fun K hK => ?_) AllReadyH.nil
 go_simp
 refine hK.out _ _ (KS.out _ ((below_drew (Below.refl _ _)).alloc (Nat.le_refl _) _)) (fun hHeld2 => ?_)
 clear hK K hHeld
 try simp only [ap]
 refine wpAnyH_ready (rs := [11]) (by kernel_rfl) (by simp) ?_
 refine cons_drop rfl (fun K hK => ?_) AllReadyH.nil
 go_simp
 refine hK.out _ _ (KS.out _ (below_drew ((Below.refl _ _).alloc (Nat.le_refl _) _))) (fun hHeld3 => ?_)
 clear hK K hHeld2
 try simp only [ap]
 refine wpAnyH_ready (rs := [12]) (by kernel_rfl) (by simp) ?_
 refine cons_drop rfl (fun K hK => ?_) AllReadyH.nil
 go_simp
 refine hK.out _ _ (KS.out _ (below_drew ((Below.refl _ _).alloc (Nat.le_refl _) _))) (fun hHeld4 => ?_)
 clear hK K hHeld3
 try simp only [ap]
 refine wpAnyH_done (by kernel_rfl) ?_ _
 refine NoPanic.normal ?_
 clear hHeld4
 rw [← hW2.out]
 have h := HST.out W2 HQ2.out
 obtain ⟨c0, c1, c2, c3, c4, f0, f1, f2, f3, f4⟩ := st_cells h.blk
 obtain ⟨e0, e1, e2, e3, e4, e5, e6, e7, e8, e9, e10⟩ := Ev.EBox.cells (HE.out W2 HQ2.out)
 dsimp only at e0 e1 e2 e3 e4 e5
 obtain ⟨t0, t1, t2, t3, t4, t5, t6, t7, t8, t9, tf⟩ := t_cells HT2.out
 have q1 := (h.later (below_drew (Below.refl W2.heap.size W2))).maps.keys.look text htx
 obtain ⟨W3, hW3⟩ : ∃ W3, W3 = W2.drew := ⟨_, rfl⟩
 have hq3 : Below W2.heap.size W2 W3 := by rw [hW3]; exact below_drew (Below.refl _ _)
 have h3 := h.later hq3
 have hd2 := h3.later (below_drew (Below.refl W3.heap.size W3))
 have HB3 := Lib.hid (HB2.out.trans (hq3.mono HB2.out.size))
 have HS3 := Lib.hid h3
 have HQ3 := Lib.hid hq3
 replace hW3 := Lib.hid hW3
 clear h3 hq3
 have hE := empty_sz text
 by_cases h0 : text.size = 0
 ·have hE1 : text.toList.isEmpty = true := by rw [hE]; exact decide_eq_true h0
  have hnk : hasK s.keys text = false := by simp [hasK, h0]
  have HX : Hid (applyM now alone ⟨6, id, en, at', name, text, ev⟩ s = some { s with keys := s.keys ++ [text] }) := Lib.hid (by simp [applyM, hnk])
  rw [hnk] at q1
  clear hd2 hE hnk
  go_upto_region 27 with fail
  go_still_tail 6, (by kernel_rfl)
  go_upto_region 28 with fail
  rw [← hW3.out]
  clear h c0 c1 c2 c3 c4 f0 f1 f2 f3 f4 e0 e1 e2 e3 e4 e5 e6 e7 e8 e9 e10 t0 t1 t2 t3 t4 t5 t6 t7 t8 t9 tf
  have h := HS3.out
  obtain ⟨c0, c1, c2, c3, c4, f0, f1, f2, f3, f4⟩ := st_cells h.blk
  obtain ⟨e0, e1, e2, e3, e4, e5, e6, e7, e8, e9, e10⟩ := Ev.EBox.cells (HE.out W3 (HQ2.out.trans (HQ3.out.mono HQ2.out.size)))
  dsimp only at e0 e1 e2 e3 e4 e5
  go_wp2_with fail
  go_ret
  have h3 := HS3.out
  exact ⟨Chg.of_below HB3.out, by rw [HX.out]; exact ⟨rfl, ⟨h3.blk, ⟨h3.maps.tasks.mono (Nat.le_succ _), h3.maps.timers.mono (Nat.le_succ _), (h3.maps.keys.same text h0).mono (Nat.le_succ _)⟩, h3.n1, h3.n2, h3.n3, h3.n4, h3.n5, h3.n6⟩⟩⟩
 ·have hE1 : text.toList.isEmpty = false := by rw [hE]; exact decide_eq_false h0
  obtain ⟨wd, hput, hmd, hturn⟩ := hd2.maps.keys.put (by simp only [maxLen]; omega) text htx h0
  obtain ⟨hsd, hcd⟩ := hd2.turnK hturn hmd (Nat.le_succ _)
  have HSD := Lib.hid hsd; have HCD := Lib.hid ((Chg.of_below (HB3.out.trans ((below_drew (Below.refl _ _)).mono HB3.out.size))).trans hcd)
  have HX : Hid (applyM now alone ⟨6, id, en, at', name, text, ev⟩ s = if hasK s.keys text = true then none else some { s with keys := s.keys ++ [text] }) := Lib.hid (by simp [applyM])
  clear hd2 hE hmd hturn hsd hcd
  go_upto_region 27 with fail
  go_still_tail 6, (by kernel_rfl)
  go_upto_region 28 with fail
  rw [← hW3.out]
  clear h c0 c1 c2 c3 c4 f0 f1 f2 f3 f4 e0 e1 e2 e3 e4 e5 e6 e7 e8 e9 e10 t0 t1 t2 t3 t4 t5 t6 t7 t8 t9 tf
  have h := HS3.out
  obtain ⟨c0, c1, c2, c3, c4, f0, f1, f2, f3, f4⟩ := st_cells h.blk
  obtain ⟨e0, e1, e2, e3, e4, e5, e6, e7, e8, e9, e10⟩ := Ev.EBox.cells (HE.out W3 (HQ2.out.trans (HQ3.out.mono HQ2.out.size)))
  dsimp only at e0 e1 e2 e3 e4 e5
  go_upto_region 29 with fail
  go_still_tail 6, (by kernel_rfl)
  go_wp2_with fail
  go_ret
  refine ⟨HCD.out, ?_⟩
  rw [HX.out]
  cases hq : hasK s.keys text with
  | true => rfl
  | false => exact ⟨rfl, HSD.out⟩
end Hi
end Go.Proofs.YtkajcldmolcllaaGreat
namespace Go.Proofs.YtkajcldmolcllaaGreat
namespace Hi
open Nm (ret_int ret_bool)
open Vt (VT Rep below_drew Cloned)
open Ev (EV FieldsOk evCells vCells take_drop tk ap cons_drop)
open Cm (EvsIn)
variable {X X' Y : Nat → Prop} {u v w w' V V' : World} {b n : Nat} {ts : List TK} {l : List (Nat × Nat)} {ks : List ByteArray}

set_option maxRecDepth 100000 in
set_option maxHeartbeats 4000000 in
theorem apply3_done (g bt bm bk : Nat) (s : ST) (h : SAt Y w g bt bm bk n s) (e : EV) (he : EvOk e) (hk : e.k = 3) (vk vn : Int) (vf : Nat) (vs : ByteArray) (A : Option Addr) (m c : Nat) (now : Nat) (alone : Bool) :
  Calls Tryz.prog 51 #[.pointer (some ⟨g, 0, none⟩), .agg (evCells e vk vn vf vs A m c), .int .u64 (now : Nat), .bool alone] w (AOut Y w g bt bm bk n (applyM now alone e s)) := by
 obtain ⟨k, id, en, at', name, text, ev⟩ := e
 obtain rfl : k = 3 := hk
 have hi := he.f.i1
 dsimp only at hi
 have HA : Hid (at' = 0) := Lib.hid (he.a3 rfl)
 obtain ⟨yi, yn, yk, yv, yf, ys, yA, ym, yc, yN, yb, ya, okb, hl, hyN, hdec⟩ := h.maps.tasks.any2 id hi
 have HDEC := Lib.hid hdec
 clear hdec
 have HL : Hid (∀ W, W.heap[bt]? = w.heap[bt]? → (Instr.lookup 63 (.map (some bt)) (.int .u64 (id : Nat)) true).run Tryz.prog W = .ok (.tuple #[.agg #[.int .u64 (yi : Nat), .string yn, .int .i64 yk, .int .i64 yv, .float .f64 yf, .string ys, .slice yA ym yc, .int .i64 yN, .bool yb, .int .u64 (ya : Nat)], .bool okb]) W) := Lib.hid hl
 clear hl
 obtain ⟨W1, hW1⟩ : ∃ W1, W1 = w.alloc (.cells (evCells ⟨3, id, en, at', name, text, ev⟩ vk vn vf vs A m c) 53) := ⟨_, rfl⟩
 have hb1 : Below w.heap.size w W1 := by rw [hW1]; exact (Below.refl _ _).alloc (Nat.le_refl _) _
 have hz1 : W1.heap.size = w.heap.size + 1 := by rw [hW1]; simp
 have hx1 : Ev.EBox W1 w.heap.size (evCells ⟨3, id, en, at', name, text, ev⟩ vk vn vf vs A m c) := by rw [hW1]; exact heap_alloc_new _ _
 have hgl : g < w.heap.size := (Array.getElem?_eq_some_iff.1 h.blk).1
 have HE : Hid (∀ W, Below W1.heap.size W1 W → Ev.EBox W w.heap.size (evCells ⟨3, id, en, at', name, text, ev⟩ vk vn vf vs A m c)) := Lib.hid fun W hW => (hW.block _ (by omega)).trans hx1
 have HST : Hid (∀ W, Below W1.heap.size W1 W → SAt Y W g bt bm bk n s) := Lib.hid fun W hW => h.later (hb1.trans (hW.mono hb1.size))
 have KS : Hid (∀ W, Below W1.heap.size W1 W → (fun W => W.cell? ⟨g, 0, none⟩ = some (.map (some bt)) ∧ W.cell? ⟨w.heap.size, 1, none⟩ = some (.int .u64 (id : Nat)) ∧ (Instr.lookup 63 (.map (some bt)) (.int .u64 (id : Nat)) true).run Tryz.prog W = .ok (.tuple #[.agg #[.int .u64 (yi : Nat), .string yn, .int .i64 yk, .int .i64 yv, .float .f64 yf, .string ys, .slice yA ym yc, .int .i64 yN, .bool yb, .int .u64 (ya : Nat)], .bool okb]) W) W) := Lib.hid fun W hW => ⟨(st_cells (HST.out W hW).blk).1, (Ev.EBox.cells (HE.out W hW)).2.1, HL.out W ((hb1.trans (hW.mono hb1.size)).block _ h.maps.tasks.lt)⟩
 obtain ⟨W2, hW2⟩ : ∃ W2, W2 = (W1.alloc (.cells #[.int .u64 (yi : Nat), .string yn, .int .i64 yk, .int .i64 yv, .float .f64 yf, .string ys, .slice yA ym yc, .int .i64 yN, .bool yb, .int .u64 (ya : Nat)] 72)).drew := ⟨_, rfl⟩
 have hq2 : Below W1.heap.size W1 W2 := by rw [hW2]; exact below_drew ((Below.refl _ _).alloc (Nat.le_refl _) _)
 have hz2 : W2.heap.size = w.heap.size + 2 := by rw [hW2]; simp [hz1]
 have ht2 : W2.heap[W1.heap.size]? = some (.cells #[.int .u64 (yi : Nat), .string yn, .int .i64 yk, .int .i64 yv, .float .f64 yf, .string ys, .slice yA ym yc, .int .i64 yN, .bool yb, .int .u64 (ya : Nat)] 72 (0, 0)) := by rw [hW2]; exact heap_alloc_new _ _
 have HB2 := Lib.hid (hb1.trans (hq2.mono hb1.size)); have HQ2 := Lib.hid hq2; have HZ1 := Lib.hid hz1; have HZ2 := Lib.hid hz2; have HT2 := Lib.hid ht2; have HGL := Lib.hid hgl
 have H0 := Lib.hid h
 have HBW := Lib.hid hb1
 have HSW : Hid (∀ W, Below W1.heap.size W1 W → ∀ y, W1.heap.size ≤ y → Below W1.heap.size W1 W) := Lib.hid fun W hW _ _ => hW
 unfold evCells at hW1
 replace hW1 := Lib.hid hW1; replace hW2 := Lib.hid hW2
 clear h hb1 hx1 hq2 ht2 hgl hz1 hz2 HL
 unfold evCells
 go_enter Tryz.func51, Tryz.ntmps51
 go_upto_region 1 with fail
 rw [← hW1.out]
 refine wp_region_noPanic ?_
 refine wp_region_held_drew (S := (fun W => W.cell? ⟨g, 0, none⟩ = some (.map (some bt)) ∧ W.cell? ⟨w.heap.size, 1, none⟩ = some (.int .u64 (id : Nat)) ∧ (Instr.lookup 63 (.map (some bt)) (.int .u64 (id : Nat)) true).run Tryz.prog W = .ok (.tuple #[.agg #[.int .u64 (yi : Nat), .string yn, .int .i64 yk, .int .i64 yv, .float .f64 yf, .string ys, .slice yA ym yc, .int .i64 yN, .bool yb, .int .u64 (ya : Nat)], .bool okb]) W)) (by kernel_rfl) ?_ (fun hHeld => ?_)
 ·exact KS.out _ (below_drew (Below.refl _ _))
 refine tk 0 rfl ?_
 try simp only [ap]
 refine tk 1 rfl ?_
 try simp only [ap]
 refine tk 2 rfl ?_
 try simp only [ap]
 refine tk 3 rfl ?_
 try simp only [ap]
 refine tk 4 rfl ?_
 try simp only [ap]
 refine tk 5 rfl ?_
 try simp only [ap]
 refine tk 6 rfl ?_
 try simp only [ap]
 refine tk 7 rfl ?_
 try simp only [ap]
 refine tk 8 rfl ?_
 try simp only [ap]
 refine tk 9 rfl ?_
 try simp only [ap]
 refine wpAnyH_ready (rs := [10]) (by kernel_rfl) (by simp) ?_
 refine cons_drop rfl (fun K hK => ?_) AllReadyH.nil
 go_simp
 refine hK.out _ _ (KS.out _ ((below_drew (Below.refl _ _)).alloc (Nat.le_refl _) _)) (fun hHeld2 => ?_)
 clear hK K hHeld
 try simp only [ap]
 refine wpAnyH_ready (rs := [11]) (by kernel_rfl) (by simp) ?_
 refine cons_drop rfl (fun K hK => ?_) AllReadyH.nil
 go_simp
 refine hK.out _ _ (KS.out _ (below_drew ((Below.refl _ _).alloc (Nat.le_refl _) _))) (fun hHeld3 => ?_)
 clear hK K hHeld2
 try simp only [ap]
 refine wpAnyH_ready (rs := [12]) (by kernel_rfl) (by simp) ?_
 refine cons_drop rfl (fun K hK => ?_) AllReadyH.nil
 go_simp
 refine hK.out _ _ (KS.out _ (below_drew ((Below.refl _ _).alloc (Nat.le_refl _) _))) (fun hHeld4 => ?_)
 clear hK K hHeld3
 try simp only [ap]
 refine wpAnyH_done (by kernel_rfl) ?_ _
 refine NoPanic.normal ?_
 clear hHeld4
 rw [← hW2.out]
 have h := HST.out W2 HQ2.out
 obtain ⟨c0, c1, c2, c3, c4, f0, f1, f2, f3, f4⟩ := st_cells h.blk
 obtain ⟨e0, e1, e2, e3, e4, e5, e6, e7, e8, e9, e10⟩ := Ev.EBox.cells (HE.out W2 HQ2.out)
 dsimp only at e0 e1 e2 e3 e4 e5
 obtain ⟨t0, t1, t2, t3, t4, t5, t6, t7, t8, t9, tf⟩ := t_cells HT2.out
 obtain ⟨wd, hdel, hmd, hturn⟩ := (h.later (below_drew (Below.refl _ _))).maps.tasks.drop id hi 0
 obtain ⟨hsd, hcd⟩ := (h.later (below_drew (Below.refl _ _))).turnT hturn hmd (Nat.le_refl _)
 have hlt : W1.heap.size < W2.drew.heap.size := (Array.getElem?_eq_some_iff.1 HT2.out).1
 have hkeep : ∀ c, c < W2.heap.size → c ≠ bt → wd.heap[c]? = W2.heap[c]? := fun c hc hne => hturn.grown.block c hc (fun e => hne (by injection e))
 have hbt : bt < w.heap.size := H0.out.maps.tasks.lt
 have ht3 := (hkeep W1.heap.size hlt (by have := HZ1.out; omega)).trans HT2.out
 obtain ⟨s0, s1, s2, s3, s4, s5, s6, s7, s8, s9, sf⟩ := t_cells ht3
 have hx3 : Ev.EBox wd w.heap.size (evCells ⟨3, id, en, at', name, text, ev⟩ vk vn vf vs A m c) := (hkeep w.heap.size (by have := HZ2.out; omega) (by omega)).trans (HE.out W2 HQ2.out)
 obtain ⟨-, -, x2, -, -, -, -, -, -, -, -⟩ := Ev.EBox.cells hx3
 dsimp only at x2
 have HSD := Lib.hid hsd; have HCD := Lib.hid (((Chg.of_below HB2.out).trans (Chg.of_below (below_drew (Below.refl _ _)))).trans hcd)
 clear hsd hcd hmd hturn hkeep ht3 hx3
 clear c1 c2 c3 c4 f0 f1 f2 f3 f4 e4 e5 e6 e7 e8 e9 e10 t0 t1 t2 t4 t5 t6 t7 t9 tf s0 s1 s2 s3 s4 s5 s6 s9 sf
 cases okb with
 | false =>
  have HX : Hid (applyM now alone ⟨3, id, en, at', name, text, ev⟩ s = none) := Lib.hid (by
   rcases HDEC.out with ⟨-, hno⟩ | ⟨q, -⟩
   ·simp [applyM, HA.out, hno]
   ·cases q)
  go_upto_region 22 with fail
  go_still_tail 6, (by kernel_rfl)
  go_wp2_with fail
  go_ret
  exact ⟨HCD.out, by rw [HX.out]; rfl⟩
 | true =>
  cases yb with
  | false =>
   have HX : Hid (applyM now alone ⟨3, id, en, at', name, text, ev⟩ s = none) := Lib.hid (by
    rcases HDEC.out with ⟨q, -⟩ | ⟨-, t, h1, h2, h3, h4, h5, -⟩
    ·cases q
    ·simp [applyM, HA.out, h1, h4])
   go_upto_region 22 with fail
   go_still_tail 6, (by kernel_rfl)
   go_wp2_with fail
   go_ret
   exact ⟨HCD.out, by rw [HX.out]; rfl⟩
  | true =>
   by_cases q3 : yN = en
   ·have k3 : decide (yN = en) = true := decide_eq_true q3
    have HX : Hid (applyM now alone ⟨3, id, en, at', name, text, ev⟩ s = some { s with tasks := tdel s.tasks id }) := Lib.hid (by
     rcases HDEC.out with ⟨q, -⟩ | ⟨-, t, h1, h2, h3, h4, h5, -⟩
     ·cases q
     ·simp [applyM, HA.out, h1, h4, h3, q3])
    have HQ3 := Lib.hid q3
    clear q3
    go_upto_region 22 with fail
    go_still_tail 6, (by kernel_rfl)
    go_wp2_with fail
    go_ret
    exact ⟨HCD.out, by rw [HX.out]; exact ⟨Nm.ret_bool (by simp [HQ3.out]), HSD.out.mono (Nat.le_succ _)⟩⟩
   ·have k3 : decide (yN = en) = false := decide_eq_false q3
    have HX : Hid (applyM now alone ⟨3, id, en, at', name, text, ev⟩ s = none) := Lib.hid (by
     rcases HDEC.out with ⟨q, -⟩ | ⟨-, t, h1, h2, h3, h4, h5, -⟩
     ·cases q
     ·simp [applyM, HA.out, h1, h4, h3, q3])
    have HQ3 := Lib.hid q3
    clear q3
    go_upto_region 22 with fail
    go_still_tail 6, (by kernel_rfl)
    go_wp2_with fail
    go_ret
    exact ⟨HCD.out, by rw [HX.out]; exact Nm.ret_bool (by simp [HQ3.out])⟩

end Hi
end Go.Proofs.YtkajcldmolcllaaGreat
namespace Go.Proofs.YtkajcldmolcllaaGreat
namespace Hi
open Nm (ret_int ret_bool)
open Vt (VT Rep below_drew Cloned)
open Ev (EV FieldsOk evCells vCells take_drop tk ap cons_drop)
open Cm (EvsIn)
variable {X X' Y : Nat → Prop} {u v w w' V V' : World} {b n : Nat} {ts : List TK} {l : List (Nat × Nat)} {ks : List ByteArray}

set_option maxRecDepth 100000 in
set_option maxHeartbeats 4000000 in
theorem apply4_done (g bt bm bk : Nat) (s : ST) (h : SAt Y w g bt bm bk n s) (e : EV) (he : EvOk e) (hk : e.k = 4) (vk vn : Int) (vf : Nat) (vs : ByteArray) (A : Option Addr) (m c : Nat) (now : Nat) (alone : Bool) (ha : e.at' = 0) :
  Calls Tryz.prog 51 #[.pointer (some ⟨g, 0, none⟩), .agg (evCells e vk vn vf vs A m c), .int .u64 (now : Nat), .bool alone] w (AOut Y w g bt bm bk n (applyM now alone e s)) := by
 obtain ⟨k, id, en, at', name, text, ev⟩ := e
 obtain rfl : k = 4 := hk
 have hi := he.f.i1
 dsimp only at hi
 have HA : Hid (at' = 0) := Lib.hid ha
 have ka : decide (at' > 0) = false := decide_eq_false (by rw [HA.out]; decide)
 clear ha
 obtain ⟨yi, yn, yk, yv, yf, ys, yA, ym, yc, yN, yb, ya, okb, hl, hyN, hdec⟩ := h.maps.tasks.any2 id hi
 have HDEC := Lib.hid hdec
 clear hdec
 have HL : Hid (∀ W, W.heap[bt]? = w.heap[bt]? → (Instr.lookup 63 (.map (some bt)) (.int .u64 (id : Nat)) true).run Tryz.prog W = .ok (.tuple #[.agg #[.int .u64 (yi : Nat), .string yn, .int .i64 yk, .int .i64 yv, .float .f64 yf, .string ys, .slice yA ym yc, .int .i64 yN, .bool yb, .int .u64 (ya : Nat)], .bool okb]) W) := Lib.hid hl
 clear hl
 obtain ⟨W1, hW1⟩ : ∃ W1, W1 = w.alloc (.cells (evCells ⟨4, id, en, at', name, text, ev⟩ vk vn vf vs A m c) 53) := ⟨_, rfl⟩
 have hb1 : Below w.heap.size w W1 := by rw [hW1]; exact (Below.refl _ _).alloc (Nat.le_refl _) _
 have hz1 : W1.heap.size = w.heap.size + 1 := by rw [hW1]; simp
 have hx1 : Ev.EBox W1 w.heap.size (evCells ⟨4, id, en, at', name, text, ev⟩ vk vn vf vs A m c) := by rw [hW1]; exact heap_alloc_new _ _
 have hgl : g < w.heap.size := (Array.getElem?_eq_some_iff.1 h.blk).1
 have HE : Hid (∀ W, Below W1.heap.size W1 W → Ev.EBox W w.heap.size (evCells ⟨4, id, en, at', name, text, ev⟩ vk vn vf vs A m c)) := Lib.hid fun W hW => (hW.block _ (by omega)).trans hx1
 have HST : Hid (∀ W, Below W1.heap.size W1 W → SAt Y W g bt bm bk n s) := Lib.hid fun W hW => h.later (hb1.trans (hW.mono hb1.size))
 have KS : Hid (∀ W, Below W1.heap.size W1 W → (fun W => W.cell? ⟨g, 0, none⟩ = some (.map (some bt)) ∧ W.cell? ⟨w.heap.size, 1, none⟩ = some (.int .u64 (id : Nat)) ∧ (Instr.lookup 63 (.map (some bt)) (.int .u64 (id : Nat)) true).run Tryz.prog W = .ok (.tuple #[.agg #[.int .u64 (yi : Nat), .string yn, .int .i64 yk, .int .i64 yv, .float .f64 yf, .string ys, .slice yA ym yc, .int .i64 yN, .bool yb, .int .u64 (ya : Nat)], .bool okb]) W) W) := Lib.hid fun W hW => ⟨(st_cells (HST.out W hW).blk).1, (Ev.EBox.cells (HE.out W hW)).2.1, HL.out W ((hb1.trans (hW.mono hb1.size)).block _ h.maps.tasks.lt)⟩
 obtain ⟨W2, hW2⟩ : ∃ W2, W2 = (W1.alloc (.cells #[.int .u64 (yi : Nat), .string yn, .int .i64 yk, .int .i64 yv, .float .f64 yf, .string ys, .slice yA ym yc, .int .i64 yN, .bool yb, .int .u64 (ya : Nat)] 72)).drew := ⟨_, rfl⟩
 have hq2 : Below W1.heap.size W1 W2 := by rw [hW2]; exact below_drew ((Below.refl _ _).alloc (Nat.le_refl _) _)
 have hz2 : W2.heap.size = w.heap.size + 2 := by rw [hW2]; simp [hz1]
 have ht2 : W2.heap[W1.heap.size]? = some (.cells #[.int .u64 (yi : Nat), .string yn, .int .i64 yk, .int .i64 yv, .float .f64 yf, .string ys, .slice yA ym yc, .int .i64 yN, .bool yb, .int .u64 (ya : Nat)] 72 (0, 0)) := by rw [hW2]; exact heap_alloc_new _ _
 have HB2 := Lib.hid (hb1.trans (hq2.mono hb1.size)); have HQ2 := Lib.hid hq2; have HZ1 := Lib.hid hz1; have HZ2 := Lib.hid hz2; have HT2 := Lib.hid ht2; have HGL := Lib.hid hgl
 have H0 := Lib.hid h
 have HBW := Lib.hid hb1
 have HSW : Hid (∀ W, Below W1.heap.size W1 W → ∀ y, W1.heap.size ≤ y → Below W1.heap.size W1 W) := Lib.hid fun W hW _ _ => hW
 unfold evCells at hW1
 replace hW1 := Lib.hid hW1; replace hW2 := Lib.hid hW2
 clear h hb1 hx1 hq2 ht2 hgl hz1 hz2 HL
 unfold evCells
 go_enter Tryz.func51, Tryz.ntmps51
 go_upto_region 1 with fail
 rw [← hW1.out]
 refine wp_region_noPanic ?_
 refine wp_region_held_drew (S := (fun W => W.cell? ⟨g, 0, none⟩ = some (.map (some bt)) ∧ W.cell? ⟨w.heap.size, 1, none⟩ = some (.int .u64 (id : Nat)) ∧ (Instr.lookup 63 (.map (some bt)) (.int .u64 (id : Nat)) true).run Tryz.prog W = .ok (.tuple #[.agg #[.int .u64 (yi : Nat), .string yn, .int .i64 yk, .int .i64 yv, .float .f64 yf, .string ys, .slice yA ym yc, .int .i64 yN, .bool yb, .int .u64 (ya : Nat)], .bool okb]) W)) (by kernel_rfl) ?_ (fun hHeld => ?_)
 ·exact KS.out _ (below_drew (Below.refl _ _))
 refine tk 0 rfl ?_
 try simp only [ap]
 refine tk 1 rfl ?_
 try simp only [ap]
 refine tk 2 rfl ?_
 try simp only [ap]
 refine tk 3 rfl ?_
 try simp only [ap]
 refine tk 4 rfl ?_
 try simp only [ap]
 refine tk 5 rfl ?_
 try simp only [ap]
 refine tk 6 rfl ?_
 try simp only [ap]
 refine tk 7 rfl ?_
 try simp only [ap]
 refine tk 8 rfl ?_
 try simp only [ap]
 refine tk 9 rfl ?_
 try simp only [ap]
 refine wpAnyH_ready (rs := [10]) (by kernel_rfl) (by simp) ?_
 refine cons_drop rfl (fun K hK => ?_) AllReadyH.nil
 go_simp
 refine hK.out _ _ (KS.out _ ((below_drew (Below.refl _ _)).alloc (Nat.le_refl _) _)) (fun hHeld2 => ?_)
 clear hK K hHeld
 try simp only [ap]
 refine wpAnyH_ready (rs := [11]) (by kernel_rfl) (by simp) ?_
 refine cons_drop rfl (fun K hK => ?_) AllReadyH.nil
 go_simp
 refine hK.out _ _ (KS.out _ (below_drew ((Below.refl _ _).alloc (Nat.le_refl _) _))) (fun hHeld3 => ?_)
 clear hK K hHeld2
 try simp only [ap]
 refine wpAnyH_ready (rs := [12]) (by kernel_rfl) (by simp) ?_
 refine cons_drop rfl (fun K hK => ?_) AllReadyH.nil
 go_simp
 refine hK.out _ _ (KS.out _ (below_drew ((Below.refl _ _).alloc (Nat.le_refl _) _))) (fun hHeld4 => ?_)
 clear hK K hHeld3
 try simp only [ap]
 refine wpAnyH_done (by kernel_rfl) ?_ _
 refine NoPanic.normal ?_
 clear hHeld4
 rw [← hW2.out]
 have h := HST.out W2 HQ2.out
 obtain ⟨c0, c1, c2, c3, c4, f0, f1, f2, f3, f4⟩ := st_cells h.blk
 obtain ⟨e0, e1, e2, e3, e4, e5, e6, e7, e8, e9, e10⟩ := Ev.EBox.cells (HE.out W2 HQ2.out)
 dsimp only at e0 e1 e2 e3 e4 e5
 obtain ⟨t0, t1, t2, t3, t4, t5, t6, t7, t8, t9, tf⟩ := t_cells HT2.out
 obtain ⟨wd, hdel, hmd, hturn⟩ := (h.later (below_drew (Below.refl _ _))).maps.tasks.drop id hi 0
 obtain ⟨hsd, hcd⟩ := (h.later (below_drew (Below.refl _ _))).turnT hturn hmd (Nat.le_refl _)
 have hlt : W1.heap.size < W2.drew.heap.size := (Array.getElem?_eq_some_iff.1 HT2.out).1
 have hkeep : ∀ c, c < W2.heap.size → c ≠ bt → wd.heap[c]? = W2.heap[c]? := fun c hc hne => hturn.grown.block c hc (fun e => hne (by injection e))
 have hbt : bt < w.heap.size := H0.out.maps.tasks.lt
 have ht3 := (hkeep W1.heap.size hlt (by have := HZ1.out; omega)).trans HT2.out
 obtain ⟨s0, s1, s2, s3, s4, s5, s6, s7, s8, s9, sf⟩ := t_cells ht3
 have hx3 : Ev.EBox wd w.heap.size (evCells ⟨4, id, en, at', name, text, ev⟩ vk vn vf vs A m c) := (hkeep w.heap.size (by have := HZ2.out; omega) (by omega)).trans (HE.out W2 HQ2.out)
 obtain ⟨-, -, x2, -, -, -, -, -, -, -, -⟩ := Ev.EBox.cells hx3
 dsimp only at x2
 have HSD := Lib.hid hsd; have HCD := Lib.hid (((Chg.of_below HB2.out).trans (Chg.of_below (below_drew (Below.refl _ _)))).trans hcd)
 clear hsd hcd hmd hturn hkeep ht3 hx3
 clear c1 c2 c3 c4 f0 f1 f2 f3 f4 e4 e5 e6 e7 e8 e9 e10 t0 t1 t2 t4 t5 t6 t7 t9 tf s0 s1 s2 s3 s4 s5 s6 s9 sf
 cases okb with
 | false =>
  have HX : Hid (applyM now alone ⟨4, id, en, at', name, text, ev⟩ s = none) := Lib.hid (by
   rcases HDEC.out with ⟨-, hno⟩ | ⟨q, -⟩
   ·simp [applyM, HA.out, hno]
   ·cases q)
  go_upto_region 22 with fail
  go_still_tail 6, (by kernel_rfl)
  go_wp2_with fail
  go_ret
  exact ⟨HCD.out, by rw [HX.out]; rfl⟩
 | true =>
  cases yb with
  | false =>
   have HX : Hid (applyM now alone ⟨4, id, en, at', name, text, ev⟩ s = none) := Lib.hid (by
    rcases HDEC.out with ⟨q, -⟩ | ⟨-, t, h1, h2, h3, h4, h5, -⟩
    ·cases q
    ·simp [applyM, HA.out, h1, h4])
   go_upto_region 22 with fail
   go_still_tail 6, (by kernel_rfl)
   go_wp2_with fail
   go_ret
   exact ⟨HCD.out, by rw [HX.out]; rfl⟩
  | true =>
   by_cases q3 : yN = en
   ·have k3 : decide (yN = en) = true := decide_eq_true q3
    have HX : Hid (applyM now alone ⟨4, id, en, at', name, text, ev⟩ s = some { s with tasks := tdel s.tasks id }) := Lib.hid (by
     rcases HDEC.out with ⟨q, -⟩ | ⟨-, t, h1, h2, h3, h4, h5, -⟩
     ·cases q
     ·simp [applyM, HA.out, h1, h4, h3, q3])
    have HQ3 := Lib.hid q3
    clear q3
    go_upto_region 22 with fail
    go_still_tail 6, (by kernel_rfl)
    go_wp2_with fail
    go_ret
    exact ⟨HCD.out, by rw [HX.out]; exact ⟨Nm.ret_bool (by simp [HQ3.out]), HSD.out.mono (Nat.le_succ _)⟩⟩
   ·have k3 : decide (yN = en) = false := decide_eq_false q3
    have HX : Hid (applyM now alone ⟨4, id, en, at', name, text, ev⟩ s = none) := Lib.hid (by
     rcases HDEC.out with ⟨q, -⟩ | ⟨-, t, h1, h2, h3, h4, h5, -⟩
     ·cases q
     ·simp [applyM, HA.out, h1, h4, h3, q3])
    have HQ3 := Lib.hid q3
    clear q3
    go_upto_region 22 with fail
    go_still_tail 6, (by kernel_rfl)
    go_wp2_with fail
    go_ret
    exact ⟨HCD.out, by rw [HX.out]; exact Nm.ret_bool (by simp [HQ3.out])⟩

end Hi
end Go.Proofs.YtkajcldmolcllaaGreat
namespace Go.Proofs.YtkajcldmolcllaaGreat
namespace Hi
open Nm (ret_int ret_bool)
open Vt (VT Rep below_drew Cloned)
open Ev (EV FieldsOk evCells vCells take_drop tk ap cons_drop)
open Cm (EvsIn)
variable {X X' Y : Nat → Prop} {u v w w' V V' : World} {b n : Nat} {ts : List TK} {l : List (Nat × Nat)} {ks : List ByteArray}

set_option maxRecDepth 100000 in
set_option maxHeartbeats 8000000 in
theorem apply4_run (g bt bm bk : Nat) (s : ST) (h : SAt Y w g bt bm bk n s) (hn : n < 17592186044416) (e : EV) (he : EvOk e) (hk : e.k = 4) (ha : e.at' ≠ 0) (vk vn : Int) (vf : Nat) (vs : ByteArray) (A : Option Addr) (m c : Nat) (now : Nat) (alone : Bool) (yi : Nat) (yn : ByteArray) (yk yv : Int) (yf : Nat) (ys : ByteArray) (yA : Option Addr) (ym yc : Nat) (yN : Int) (yb : Bool) (ya : Nat) (okb : Bool) (hN0 : 0 ≤ yN) (hN1 : yN ≤ 2147483647) (hl : ∀ W : World, W.heap[bt]? = w.heap[bt]? → (Instr.lookup 63 (.map (some bt)) (.int .u64 (e.id : Nat)) true).run Tryz.prog W = .ok (.tuple #[.agg #[.int .u64 (yi : Nat), .string yn, .int .i64 yk, .int .i64 yv, .float .f64 yf, .string ys, .slice yA ym yc, .int .i64 yN, .bool yb, .int .u64 (ya : Nat)], .bool okb]) W) :
  Calls Tryz.prog 51 #[.pointer (some ⟨g, 0, none⟩), .agg (evCells e vk vn vf vs A m c), .int .u64 (now : Nat), .bool alone] w fun r w' => r = .returned (.bool (okb && yb && decide (yN = e.n) && decide (now ≤ e.at') && alone)) ∧ ∃ W3, Below w.heap.size w W3 ∧ (Instr.mapUpdate 63 (.map (some bt)) (.int .u64 (e.id : Nat)) (.agg #[.int .u64 (yi : Nat), .string yn, .int .i64 yk, .int .i64 yv, .float .f64 yf, .string ys, .slice yA ym yc, .int .i64 yN, .bool false, .int .u64 (e.at' : Nat)])).run Tryz.prog W3 = .ok () w' := by
 obtain ⟨k, id, en, at', name, text, ev⟩ := e
 obtain rfl : k = 4 := hk
 have hi := he.f.i1
 dsimp only at hi
 dsimp only at hl ha ⊢
 have ka : decide (at' > 0) = true := decide_eq_true (by omega)
 have HL : Hid (∀ W, W.heap[bt]? = w.heap[bt]? → (Instr.lookup 63 (.map (some bt)) (.int .u64 (id : Nat)) true).run Tryz.prog W = .ok (.tuple #[.agg #[.int .u64 (yi : Nat), .string yn, .int .i64 yk, .int .i64 yv, .float .f64 yf, .string ys, .slice yA ym yc, .int .i64 yN, .bool yb, .int .u64 (ya : Nat)], .bool okb]) W) := Lib.hid hl
 clear hl
 obtain ⟨W1, hW1⟩ : ∃ W1, W1 = w.alloc (.cells (evCells ⟨4, id, en, at', name, text, ev⟩ vk vn vf vs A m c) 53) := ⟨_, rfl⟩
 have hb1 : Below w.heap.size w W1 := by rw [hW1]; exact (Below.refl _ _).alloc (Nat.le_refl _) _
 have hz1 : W1.heap.size = w.heap.size + 1 := by rw [hW1]; simp
 have hx1 : Ev.EBox W1 w.heap.size (evCells ⟨4, id, en, at', name, text, ev⟩ vk vn vf vs A m c) := by rw [hW1]; exact heap_alloc_new _ _
 have hgl : g < w.heap.size := (Array.getElem?_eq_some_iff.1 h.blk).1
 have HE : Hid (∀ W, Below W1.heap.size W1 W → Ev.EBox W w.heap.size (evCells ⟨4, id, en, at', name, text, ev⟩ vk vn vf vs A m c)) := Lib.hid fun W hW => (hW.block _ (by omega)).trans hx1
 have HST : Hid (∀ W, Below W1.heap.size W1 W → SAt Y W g bt bm bk n s) := Lib.hid fun W hW => h.later (hb1.trans (hW.mono hb1.size))
 have KS : Hid (∀ W, Below W1.heap.size W1 W → (fun W => W.cell? ⟨g, 0, none⟩ = some (.map (some bt)) ∧ W.cell? ⟨w.heap.size, 1, none⟩ = some (.int .u64 (id : Nat)) ∧ (Instr.lookup 63 (.map (some bt)) (.int .u64 (id : Nat)) true).run Tryz.prog W = .ok (.tuple #[.agg #[.int .u64 (yi : Nat), .string yn, .int .i64 yk, .int .i64 yv, .float .f64 yf, .string ys, .slice yA ym yc, .int .i64 yN, .bool yb, .int .u64 (ya : Nat)], .bool okb]) W) W) := Lib.hid fun W hW => ⟨(st_cells (HST.out W hW).blk).1, (Ev.EBox.cells (HE.out W hW)).2.1, HL.out W ((hb1.trans (hW.mono hb1.size)).block _ h.maps.tasks.lt)⟩
 obtain ⟨W2, hW2⟩ : ∃ W2, W2 = (W1.alloc (.cells #[.int .u64 (yi : Nat), .string yn, .int .i64 yk, .int .i64 yv, .float .f64 yf, .string ys, .slice yA ym yc, .int .i64 yN, .bool yb, .int .u64 (ya : Nat)] 72)).drew := ⟨_, rfl⟩
 have hq2 : Below W1.heap.size W1 W2 := by rw [hW2]; exact below_drew ((Below.refl _ _).alloc (Nat.le_refl _) _)
 have hz2 : W2.heap.size = w.heap.size + 2 := by rw [hW2]; simp [hz1]
 have ht2 : W2.heap[W1.heap.size]? = some (.cells #[.int .u64 (yi : Nat), .string yn, .int .i64 yk, .int .i64 yv, .float .f64 yf, .string ys, .slice yA ym yc, .int .i64 yN, .bool yb, .int .u64 (ya : Nat)] 72 (0, 0)) := by rw [hW2]; exact heap_alloc_new _ _
 have HB2 := Lib.hid (hb1.trans (hq2.mono hb1.size)); have HQ2 := Lib.hid hq2; have HZ1 := Lib.hid hz1; have HZ2 := Lib.hid hz2; have HT2 := Lib.hid ht2; have HGL := Lib.hid hgl
 have H0 := Lib.hid h
 have HBW := Lib.hid hb1
 have HSW : Hid (∀ W, Below W1.heap.size W1 W → ∀ y, W1.heap.size ≤ y → Below W1.heap.size W1 W) := Lib.hid fun W hW _ _ => hW
 unfold evCells at hW1
 replace hW1 := Lib.hid hW1; replace hW2 := Lib.hid hW2
 clear h hb1 hx1 hq2 ht2 hgl hz1 hz2 HL
 unfold evCells
 go_enter Tryz.func51, Tryz.ntmps51
 go_upto_region 1 with fail
 rw [← hW1.out]
 refine wp_region_noPanic ?_
 refine wp_region_held_drew (S := (fun W => W.cell? ⟨g, 0, none⟩ = some (.map (some bt)) ∧ W.cell? ⟨w.heap.size, 1, none⟩ = some (.int .u64 (id : Nat)) ∧ (Instr.lookup 63 (.map (some bt)) (.int .u64 (id : Nat)) true).run Tryz.prog W = .ok (.tuple #[.agg #[.int .u64 (yi : Nat), .string yn, .int .i64 yk, .int .i64 yv, .float .f64 yf, .string ys, .slice yA ym yc, .int .i64 yN, .bool yb, .int .u64 (ya : Nat)], .bool okb]) W)) (by kernel_rfl) ?_ (fun hHeld => ?_)
 ·exact KS.out _ (below_drew (Below.refl _ _))
 refine tk 0 rfl ?_
 try simp only [ap]
 refine tk 1 rfl ?_
 try simp only [ap]
 refine tk 2 rfl ?_
 try simp only [ap]
 refine tk 3 rfl ?_
 try simp only [ap]
 refine tk 4 rfl ?_
 try simp only [ap]
 refine tk 5 rfl ?_
 try simp only [ap]
 refine tk 6 rfl ?_
 try simp only [ap]
 refine tk 7 rfl ?_
 try simp only [ap]
 refine tk 8 rfl ?_
 try simp only [ap]
 refine tk 9 rfl ?_
 try simp only [ap]
 refine wpAnyH_ready (rs := [10]) (by kernel_rfl) (by simp) ?_
 refine cons_drop rfl (fun K hK => ?_) AllReadyH.nil
 go_simp
 refine hK.out _ _ (KS.out _ ((below_drew (Below.refl _ _)).alloc (Nat.le_refl _) _)) (fun hHeld2 => ?_)
 clear hK K hHeld
 try simp only [ap]
 refine wpAnyH_ready (rs := [11]) (by kernel_rfl) (by simp) ?_
 refine cons_drop rfl (fun K hK => ?_) AllReadyH.nil
 go_simp
 refine hK.out _ _ (KS.out _ (below_drew ((Below.refl _ _).alloc (Nat.le_refl _) _))) (fun hHeld3 => ?_)
 clear hK K hHeld2
 try simp only [ap]
 refine wpAnyH_ready (rs := [12]) (by kernel_rfl) (by simp) ?_
 refine cons_drop rfl (fun K hK => ?_) AllReadyH.nil
 go_simp
 refine hK.out _ _ (KS.out _ (below_drew ((Below.refl _ _).alloc (Nat.le_refl _) _))) (fun hHeld4 => ?_)
 clear hK K hHeld3
 try simp only [ap]
 refine wpAnyH_done (by kernel_rfl) ?_ _
 refine NoPanic.normal ?_
 clear hHeld4
 rw [← hW2.out]
 have h := HST.out W2 HQ2.out
 obtain ⟨c0, c1, c2, c3, c4, f0, f1, f2, f3, f4⟩ := st_cells h.blk
 obtain ⟨e0, e1, e2, e3, e4, e5, e6, e7, e8, e9, e10⟩ := Ev.EBox.cells (HE.out W2 HQ2.out)
 dsimp only at e0 e1 e2 e3 e4 e5
 obtain ⟨t0, t1, t2, t3, t4, t5, t6, t7, t8, t9, tf⟩ := t_cells HT2.out
 have f8 := tf 8; have f9 := tf 9
 cases okb with
 | false =>
  obtain ⟨W3, hW3⟩ : ∃ W3, W3 = ((W2.setCell ⟨W1.heap.size, 9, none⟩ (.int .u64 (at' : Nat))).setCell ⟨W1.heap.size, 8, none⟩ (.bool false)) := ⟨_, rfl⟩
  have hq3 : Below W1.heap.size W1 W3 := by rw [hW3]; exact ((HQ2.out).setCell (Nat.le_refl _) _).setCell (Nat.le_refl _) _
  have ht3 : W3.heap[W1.heap.size]? = some (.cells #[.int .u64 (yi : Nat), .string yn, .int .i64 yk, .int .i64 yv, .float .f64 yf, .string ys, .slice yA ym yc, .int .i64 yN, .bool false, .int .u64 (at' : Nat)] 72 (0, 0)) := by
   have := HT2.out
   rw [hW3]; show ((W2.setCell ⟨W1.heap.size, 9, none⟩ (.int .u64 (at' : Nat))).setCell ⟨W1.heap.size, 8, none⟩ (.bool false)).heap[W1.heap.size]? = _; simp [World.setCell, Array.getElem?_modify, this]
  have h3 := HST.out W3 hq3
  have hdw : Below W1.heap.size W1 W3.drew := below_drew hq3
  obtain ⟨wd, hput, -⟩ := (HST.out W3.drew hdw).maps.tasks.raw (by simp only [maxLen]; omega) id hi (.agg #[.int .u64 (yi : Nat), .string yn, .int .i64 yk, .int .i64 yv, .float .f64 yf, .string ys, .slice yA ym yc, .int .i64 yN, .bool false, .int .u64 (at' : Nat)])
  have HH3 := Lib.hid h3; have HT3 := Lib.hid ht3; have HQ3 := Lib.hid hq3
  have HFIN : Hid (Below w.heap.size w W3.drew) := Lib.hid (HBW.out.trans (hdw.mono HBW.out.size))
  replace hW3 := Lib.hid hW3
  clear h3 ht3 hq3 hdw
  go_upto_region 20 with fail
  rw [← hW3.out]
  clear h c0 c1 c2 c3 c4 f0 f1 f2 f3 f4 e0 e1 e2 e3 e4 e5 e6 e7 e8 e9 e10 t0 t1 t2 t3 t4 t5 t6 t7 t8 t9 tf
  have h := HH3.out
  obtain ⟨c0, c1, c2, c3, c4, f0, f1, f2, f3, f4⟩ := st_cells h.blk
  obtain ⟨e0, e1, e2, e3, e4, e5, e6, e7, e8, e9, e10⟩ := Ev.EBox.cells (HE.out W3 HQ3.out)
  dsimp only at e0 e1 e2 e3 e4 e5
  obtain ⟨t0, t1, t2, t3, t4, t5, t6, t7, t8, t9, tf⟩ := t_cells HT3.out
  go_still_tail 7, (by kernel_rfl)
  go_wp2_with fail
  go_ret
  exact ⟨by simp [*], W3.drew, HFIN.out, hput⟩
 | true =>
  cases yb with
  | false =>
   obtain ⟨W3, hW3⟩ : ∃ W3, W3 = ((W2.setCell ⟨W1.heap.size, 9, none⟩ (.int .u64 (at' : Nat))).setCell ⟨W1.heap.size, 8, none⟩ (.bool false)) := ⟨_, rfl⟩
   have hq3 : Below W1.heap.size W1 W3 := by rw [hW3]; exact ((HQ2.out).setCell (Nat.le_refl _) _).setCell (Nat.le_refl _) _
   have ht3 : W3.heap[W1.heap.size]? = some (.cells #[.int .u64 (yi : Nat), .string yn, .int .i64 yk, .int .i64 yv, .float .f64 yf, .string ys, .slice yA ym yc, .int .i64 yN, .bool false, .int .u64 (at' : Nat)] 72 (0, 0)) := by
    have := HT2.out
    rw [hW3]; show ((W2.setCell ⟨W1.heap.size, 9, none⟩ (.int .u64 (at' : Nat))).setCell ⟨W1.heap.size, 8, none⟩ (.bool false)).heap[W1.heap.size]? = _; simp [World.setCell, Array.getElem?_modify, this]
   have h3 := HST.out W3 hq3
   have hdw : Below W1.heap.size W1 W3.drew := below_drew hq3
   obtain ⟨wd, hput, -⟩ := (HST.out W3.drew hdw).maps.tasks.raw (by simp only [maxLen]; omega) id hi (.agg #[.int .u64 (yi : Nat), .string yn, .int .i64 yk, .int .i64 yv, .float .f64 yf, .string ys, .slice yA ym yc, .int .i64 yN, .bool false, .int .u64 (at' : Nat)])
   have HH3 := Lib.hid h3; have HT3 := Lib.hid ht3; have HQ3 := Lib.hid hq3
   have HFIN : Hid (Below w.heap.size w W3.drew) := Lib.hid (HBW.out.trans (hdw.mono HBW.out.size))
   replace hW3 := Lib.hid hW3
   clear h3 ht3 hq3 hdw
   go_upto_region 20 with fail
   rw [← hW3.out]
   clear h c0 c1 c2 c3 c4 f0 f1 f2 f3 f4 e0 e1 e2 e3 e4 e5 e6 e7 e8 e9 e10 t0 t1 t2 t3 t4 t5 t6 t7 t8 t9 tf
   have h := HH3.out
   obtain ⟨c0, c1, c2, c3, c4, f0, f1, f2, f3, f4⟩ := st_cells h.blk
   obtain ⟨e0, e1, e2, e3, e4, e5, e6, e7, e8, e9, e10⟩ := Ev.EBox.cells (HE.out W3 HQ3.out)
   dsimp only at e0 e1 e2 e3 e4 e5
   obtain ⟨t0, t1, t2, t3, t4, t5, t6, t7, t8, t9, tf⟩ := t_cells HT3.out
   go_still_tail 7, (by kernel_rfl)
   go_wp2_with fail
   go_ret
   exact ⟨by simp [*], W3.drew, HFIN.out, hput⟩
  | true =>
   by_cases q3 : yN = en
   ·subst q3
    by_cases q5 : now ≤ at'
    ·have k5 : decide (now ≤ at') = true := decide_eq_true q5
     cases alone with
     | true =>
      obtain ⟨W3, hW3⟩ : ∃ W3, W3 = ((W2.setCell ⟨W1.heap.size, 9, none⟩ (.int .u64 (at' : Nat))).setCell ⟨W1.heap.size, 8, none⟩ (.bool false)) := ⟨_, rfl⟩
      have hq3 : Below W1.heap.size W1 W3 := by rw [hW3]; exact ((HQ2.out).setCell (Nat.le_refl _) _).setCell (Nat.le_refl _) _
      have ht3 : W3.heap[W1.heap.size]? = some (.cells #[.int .u64 (yi : Nat), .string yn, .int .i64 yk, .int .i64 yv, .float .f64 yf, .string ys, .slice yA ym yc, .int .i64 yN, .bool false, .int .u64 (at' : Nat)] 72 (0, 0)) := by
       have := HT2.out
       rw [hW3]; show ((W2.setCell ⟨W1.heap.size, 9, none⟩ (.int .u64 (at' : Nat))).setCell ⟨W1.heap.size, 8, none⟩ (.bool false)).heap[W1.heap.size]? = _; simp [World.setCell, Array.getElem?_modify, this]
      have h3 := HST.out W3 hq3
      have hdw : Below W1.heap.size W1 W3.drew := below_drew hq3
      obtain ⟨wd, hput, -⟩ := (HST.out W3.drew hdw).maps.tasks.raw (by simp only [maxLen]; omega) id hi (.agg #[.int .u64 (yi : Nat), .string yn, .int .i64 yk, .int .i64 yv, .float .f64 yf, .string ys, .slice yA ym yc, .int .i64 yN, .bool false, .int .u64 (at' : Nat)])
      have HH3 := Lib.hid h3; have HT3 := Lib.hid ht3; have HQ3 := Lib.hid hq3
      have HFIN : Hid (Below w.heap.size w W3.drew) := Lib.hid (HBW.out.trans (hdw.mono HBW.out.size))
      replace hW3 := Lib.hid hW3
      clear h3 ht3 hq3 hdw
      go_upto_region 20 with fail
      rw [← hW3.out]
      clear h c0 c1 c2 c3 c4 f0 f1 f2 f3 f4 e0 e1 e2 e3 e4 e5 e6 e7 e8 e9 e10 t0 t1 t2 t3 t4 t5 t6 t7 t8 t9 tf
      have h := HH3.out
      obtain ⟨c0, c1, c2, c3, c4, f0, f1, f2, f3, f4⟩ := st_cells h.blk
      obtain ⟨e0, e1, e2, e3, e4, e5, e6, e7, e8, e9, e10⟩ := Ev.EBox.cells (HE.out W3 HQ3.out)
      dsimp only at e0 e1 e2 e3 e4 e5
      obtain ⟨t0, t1, t2, t3, t4, t5, t6, t7, t8, t9, tf⟩ := t_cells HT3.out
      go_still_tail 7, (by kernel_rfl)
      go_wp2_with fail
      go_ret
      exact ⟨by simp [*], W3.drew, HFIN.out, hput⟩
     | false =>
      obtain ⟨W3, hW3⟩ : ∃ W3, W3 = ((W2.setCell ⟨W1.heap.size, 9, none⟩ (.int .u64 (at' : Nat))).setCell ⟨W1.heap.size, 8, none⟩ (.bool false)) := ⟨_, rfl⟩
      have hq3 : Below W1.heap.size W1 W3 := by rw [hW3]; exact ((HQ2.out).setCell (Nat.le_refl _) _).setCell (Nat.le_refl _) _
      have ht3 : W3.heap[W1.heap.size]? = some (.cells #[.int .u64 (yi : Nat), .string yn, .int .i64 yk, .int .i64 yv, .float .f64 yf, .string ys, .slice yA ym yc, .int .i64 yN, .bool false, .int .u64 (at' : Nat)] 72 (0, 0)) := by
       have := HT2.out
       rw [hW3]; show ((W2.setCell ⟨W1.heap.size, 9, none⟩ (.int .u64 (at' : Nat))).setCell ⟨W1.heap.size, 8, none⟩ (.bool false)).heap[W1.heap.size]? = _; simp [World.setCell, Array.getElem?_modify, this]
      have h3 := HST.out W3 hq3
      have hdw : Below W1.heap.size W1 W3.drew := below_drew hq3
      obtain ⟨wd, hput, -⟩ := (HST.out W3.drew hdw).maps.tasks.raw (by simp only [maxLen]; omega) id hi (.agg #[.int .u64 (yi : Nat), .string yn, .int .i64 yk, .int .i64 yv, .float .f64 yf, .string ys, .slice yA ym yc, .int .i64 yN, .bool false, .int .u64 (at' : Nat)])
      have HH3 := Lib.hid h3; have HT3 := Lib.hid ht3; have HQ3 := Lib.hid hq3
      have HFIN : Hid (Below w.heap.size w W3.drew) := Lib.hid (HBW.out.trans (hdw.mono HBW.out.size))
      replace hW3 := Lib.hid hW3
      clear h3 ht3 hq3 hdw
      go_upto_region 20 with fail
      rw [← hW3.out]
      clear h c0 c1 c2 c3 c4 f0 f1 f2 f3 f4 e0 e1 e2 e3 e4 e5 e6 e7 e8 e9 e10 t0 t1 t2 t3 t4 t5 t6 t7 t8 t9 tf
      have h := HH3.out
      obtain ⟨c0, c1, c2, c3, c4, f0, f1, f2, f3, f4⟩ := st_cells h.blk
      obtain ⟨e0, e1, e2, e3, e4, e5, e6, e7, e8, e9, e10⟩ := Ev.EBox.cells (HE.out W3 HQ3.out)
      dsimp only at e0 e1 e2 e3 e4 e5
      obtain ⟨t0, t1, t2, t3, t4, t5, t6, t7, t8, t9, tf⟩ := t_cells HT3.out
      go_still_tail 7, (by kernel_rfl)
      go_wp2_with fail
      go_ret
      exact ⟨by simp [*], W3.drew, HFIN.out, hput⟩
    ·have k5 : decide (now ≤ at') = false := decide_eq_false q5
     obtain ⟨W3, hW3⟩ : ∃ W3, W3 = ((W2.setCell ⟨W1.heap.size, 9, none⟩ (.int .u64 (at' : Nat))).setCell ⟨W1.heap.size, 8, none⟩ (.bool false)) := ⟨_, rfl⟩
     have hq3 : Below W1.heap.size W1 W3 := by rw [hW3]; exact ((HQ2.out).setCell (Nat.le_refl _) _).setCell (Nat.le_refl _) _
     have ht3 : W3.heap[W1.heap.size]? = some (.cells #[.int .u64 (yi : Nat), .string yn, .int .i64 yk, .int .i64 yv, .float .f64 yf, .string ys, .slice yA ym yc, .int .i64 yN, .bool false, .int .u64 (at' : Nat)] 72 (0, 0)) := by
      have := HT2.out
      rw [hW3]; show ((W2.setCell ⟨W1.heap.size, 9, none⟩ (.int .u64 (at' : Nat))).setCell ⟨W1.heap.size, 8, none⟩ (.bool false)).heap[W1.heap.size]? = _; simp [World.setCell, Array.getElem?_modify, this]
     have h3 := HST.out W3 hq3
     have hdw : Below W1.heap.size W1 W3.drew := below_drew hq3
     obtain ⟨wd, hput, -⟩ := (HST.out W3.drew hdw).maps.tasks.raw (by simp only [maxLen]; omega) id hi (.agg #[.int .u64 (yi : Nat), .string yn, .int .i64 yk, .int .i64 yv, .float .f64 yf, .string ys, .slice yA ym yc, .int .i64 yN, .bool false, .int .u64 (at' : Nat)])
     have HH3 := Lib.hid h3; have HT3 := Lib.hid ht3; have HQ3 := Lib.hid hq3
     have HFIN : Hid (Below w.heap.size w W3.drew) := Lib.hid (HBW.out.trans (hdw.mono HBW.out.size))
     replace hW3 := Lib.hid hW3
     clear h3 ht3 hq3 hdw
     go_upto_region 20 with fail
     rw [← hW3.out]
     clear h c0 c1 c2 c3 c4 f0 f1 f2 f3 f4 e0 e1 e2 e3 e4 e5 e6 e7 e8 e9 e10 t0 t1 t2 t3 t4 t5 t6 t7 t8 t9 tf
     have h := HH3.out
     obtain ⟨c0, c1, c2, c3, c4, f0, f1, f2, f3, f4⟩ := st_cells h.blk
     obtain ⟨e0, e1, e2, e3, e4, e5, e6, e7, e8, e9, e10⟩ := Ev.EBox.cells (HE.out W3 HQ3.out)
     dsimp only at e0 e1 e2 e3 e4 e5
     obtain ⟨t0, t1, t2, t3, t4, t5, t6, t7, t8, t9, tf⟩ := t_cells HT3.out
     go_still_tail 7, (by kernel_rfl)
     go_wp2_with fail
     go_ret
     exact ⟨by simp [*], W3.drew, HFIN.out, hput⟩
   ·have k3 : decide (yN = en) = false := decide_eq_false q3
    obtain ⟨W3, hW3⟩ : ∃ W3, W3 = ((W2.setCell ⟨W1.heap.size, 9, none⟩ (.int .u64 (at' : Nat))).setCell ⟨W1.heap.size, 8, none⟩ (.bool false)) := ⟨_, rfl⟩
    have hq3 : Below W1.heap.size W1 W3 := by rw [hW3]; exact ((HQ2.out).setCell (Nat.le_refl _) _).setCell (Nat.le_refl _) _
    have ht3 : W3.heap[W1.heap.size]? = some (.cells #[.int .u64 (yi : Nat), .string yn, .int .i64 yk, .int .i64 yv, .float .f64 yf, .string ys, .slice yA ym yc, .int .i64 yN, .bool false, .int .u64 (at' : Nat)] 72 (0, 0)) := by
     have := HT2.out
     rw [hW3]; show ((W2.setCell ⟨W1.heap.size, 9, none⟩ (.int .u64 (at' : Nat))).setCell ⟨W1.heap.size, 8, none⟩ (.bool false)).heap[W1.heap.size]? = _; simp [World.setCell, Array.getElem?_modify, this]
    have h3 := HST.out W3 hq3
    have hdw : Below W1.heap.size W1 W3.drew := below_drew hq3
    obtain ⟨wd, hput, -⟩ := (HST.out W3.drew hdw).maps.tasks.raw (by simp only [maxLen]; omega) id hi (.agg #[.int .u64 (yi : Nat), .string yn, .int .i64 yk, .int .i64 yv, .float .f64 yf, .string ys, .slice yA ym yc, .int .i64 yN, .bool false, .int .u64 (at' : Nat)])
    have HH3 := Lib.hid h3; have HT3 := Lib.hid ht3; have HQ3 := Lib.hid hq3
    have HFIN : Hid (Below w.heap.size w W3.drew) := Lib.hid (HBW.out.trans (hdw.mono HBW.out.size))
    replace hW3 := Lib.hid hW3
    clear h3 ht3 hq3 hdw
    go_upto_region 20 with fail
    rw [← hW3.out]
    clear h c0 c1 c2 c3 c4 f0 f1 f2 f3 f4 e0 e1 e2 e3 e4 e5 e6 e7 e8 e9 e10 t0 t1 t2 t3 t4 t5 t6 t7 t8 t9 tf
    have h := HH3.out
    obtain ⟨c0, c1, c2, c3, c4, f0, f1, f2, f3, f4⟩ := st_cells h.blk
    obtain ⟨e0, e1, e2, e3, e4, e5, e6, e7, e8, e9, e10⟩ := Ev.EBox.cells (HE.out W3 HQ3.out)
    dsimp only at e0 e1 e2 e3 e4 e5
    obtain ⟨t0, t1, t2, t3, t4, t5, t6, t7, t8, t9, tf⟩ := t_cells HT3.out
    go_still_tail 7, (by kernel_rfl)
    go_wp2_with fail
    go_ret
    exact ⟨by simp [*], W3.drew, HFIN.out, hput⟩
set_option maxRecDepth 100000 in
set_option maxHeartbeats 4000000 in
theorem apply4_try (g bt bm bk : Nat) (s : ST) (h : SAt Y w g bt bm bk n s) (e : EV) (he : EvOk e) (hk : e.k = 4) (vk vn : Int) (vf : Nat) (vs : ByteArray) (A : Option Addr) (m c : Nat) (now : Nat) (alone : Bool) (hn : n < 17592186044416) (ha : e.at' ≠ 0) :
  Calls Tryz.prog 51 #[.pointer (some ⟨g, 0, none⟩), .agg (evCells e vk vn vf vs A m c), .int .u64 (now : Nat), .bool alone] w (AOut Y w g bt bm bk n (applyM now alone e s)) := by
 have hi := he.f.i1
 obtain ⟨yi, yn, yk, yv, yf, ys, yA, ym, yc, yN, yb, ya, okb, hl, hyN, hdec⟩ := h.maps.tasks.any2 e.id hi
 refine (apply4_run g bt bm bk s h hn e he hk ha vk vn vf vs A m c now alone yi yn yk yv yf ys yA ym yc yN yb ya okb hyN.1 hyN.2 hl).mono ?_
 rintro r w' ⟨rfl, W3, hb, hr⟩
 refine ⟨upd_none h hn hb hi hr, ?_⟩
 rcases hdec with ⟨rfl, hno⟩ | ⟨rfl, t, h1, h0, h2, h3, h4, hrep⟩
 ·have hX : applyM now alone e s = none := by simp [applyM, hk, hno]
  rw [hX]; rfl
 ·by_cases hc : t.fl = true ∧ t.n = e.n
  ·by_cases hd : now ≤ e.at' ∧ alone = true
   ·have hX : applyM now alone e s = some { s with tasks := tput s.tasks { t with at' := e.at', fl := false } } := by simp [applyM, hk, h1, hc, ha, hd]
    rw [hX]
    obtain ⟨c1, c2⟩ := hc
    obtain ⟨c4, c5⟩ := hd
    refine ⟨Nm.ret_bool (by simp [← h2, ← h3, c1, c2, c4, c5]), ?_⟩
    have hz := hrep yN false e.at' hyN.1 hyN.2 he.f.a1
    rw [show ({ t with n := yN, fl := false, at' := e.at' } : TK) = { t with at' := e.at', fl := false } from by rw [← h2]] at hz
    exact (upd_some (t := { t with at' := e.at', fl := false }) h hn hb (h0 ▸ h1) hz (by rw [show ({ t with at' := e.at', fl := false } : TK).id = e.id from h0]; exact hr)).2
   ·have hX : applyM now alone e s = none := by simp [applyM, hk, h1, hc, ha, hd]
    rw [hX]
    refine Nm.ret_bool (Bool.eq_false_iff.2 fun q => hd ?_)
    simp only [Bool.and_eq_true, decide_eq_true_eq, Bool.true_and] at q
    exact ⟨q.1.2, q.2⟩
  ·have hX : applyM now alone e s = none := by simp [applyM, hk, h1, hc]
   rw [hX]
   refine Nm.ret_bool (Bool.eq_false_iff.2 fun q => hc ?_)
   simp only [Bool.and_eq_true, decide_eq_true_eq, Bool.true_and] at q
   exact ⟨h3.trans q.1.1.1, h2.trans q.1.1.2⟩
end Hi
end Go.Proofs.YtkajcldmolcllaaGreat
