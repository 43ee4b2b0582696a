/- What an event does to a state: attempts and answers, whatever was found. -/
/- What an event does to a state: an attempt. -/
/- What any valid event does to a state. -/
/- Lists of batches that are read; the reference's Few (events, batches), SameBatch; law13's few. -/
import Derived.Test.YtkajcldmolcllaaGreatHaah
import Derived.Test.YtkajcldmolcllaaGreatHaak
import Derived.Test.YtkajcldmolcllaaGreatHaal
import Derived.Test.YtkajcldmolcllaaGreatHaab
import Derived.StillTailTactics
set_option linter.unusedVariables false
set_option linter.unusedSimpArgs false
open Go.RowKit
namespace Go.Proofs.YtkajcldmolcllaaGreat
namespace Hi
open Nm (ret_int ret_bool)
open Vt (VT Rep below_drew Cloned)
open Ev (EV FieldsOk evCells vCells take_drop tk ap cons_drop)
open Cm (EvsIn)
variable {X X' Y : Nat → Prop} {u v w w' V V' : World} {b n : Nat} {ts : List TK} {l : List (Nat × Nat)} {ks : List ByteArray}

set_option maxRecDepth 100000 in
set_option maxHeartbeats 8000000 in
theorem apply2_run (g bt bm bk : Nat) (s : ST) (h : SAt Y w g bt bm bk n s) (hn : n < 17592186044416) (e : EV) (he : EvOk e) (hk : e.k = 2) (vk vn : Int) (vf : Nat) (vs : ByteArray) (A : Option Addr) (m c : Nat) (now : Nat) (alone : Bool) (yi : Nat) (yn : ByteArray) (yk yv : Int) (yf : Nat) (ys : ByteArray) (yA : Option Addr) (ym yc : Nat) (yN : Int) (yb : Bool) (ya : Nat) (okb : Bool) (hN0 : 0 ≤ yN) (hN1 : yN ≤ 2147483647) (hl : ∀ W : World, W.heap[bt]? = w.heap[bt]? → (Instr.lookup 63 (.map (some bt)) (.int .u64 (e.id : Nat)) true).run Tryz.prog W = .ok (.tuple #[.agg #[.int .u64 (yi : Nat), .string yn, .int .i64 yk, .int .i64 yv, .float .f64 yf, .string ys, .slice yA ym yc, .int .i64 yN, .bool yb, .int .u64 (ya : Nat)], .bool okb]) W) :
  Calls Tryz.prog 51 #[.pointer (some ⟨g, 0, none⟩), .agg (evCells e vk vn vf vs A m c), .int .u64 (now : Nat), .bool alone] w fun r w' => r = .returned (.bool (okb && !yb && decide (yN + 1 = e.n) && decide (ya ≤ now) && decide (now ≤ e.at') && alone)) ∧ ∃ W3, Below w.heap.size w W3 ∧ (Instr.mapUpdate 63 (.map (some bt)) (.int .u64 (e.id : Nat)) (.agg #[.int .u64 (yi : Nat), .string yn, .int .i64 yk, .int .i64 yv, .float .f64 yf, .string ys, .slice yA ym yc, .int .i64 e.n, .bool true, .int .u64 (e.at' : Nat)])).run Tryz.prog W3 = .ok () w' := by
 obtain ⟨k, id, en, at', name, text, ev⟩ := e
 obtain rfl : k = 2 := hk
 have hi := he.f.i1
 dsimp only at hi
 have hn1 := he.n0; have hn2 := he.n1
 dsimp only at hn1 hn2 hl ⊢
 have HL : Hid (∀ W, W.heap[bt]? = w.heap[bt]? → (Instr.lookup 63 (.map (some bt)) (.int .u64 (id : Nat)) true).run Tryz.prog W = .ok (.tuple #[.agg #[.int .u64 (yi : Nat), .string yn, .int .i64 yk, .int .i64 yv, .float .f64 yf, .string ys, .slice yA ym yc, .int .i64 yN, .bool yb, .int .u64 (ya : Nat)], .bool okb]) W) := Lib.hid hl
 clear hl
 obtain ⟨W1, hW1⟩ : ∃ W1, W1 = w.alloc (.cells (evCells ⟨2, id, en, at', name, text, ev⟩ vk vn vf vs A m c) 53) := ⟨_, rfl⟩
 have hb1 : Below w.heap.size w W1 := by rw [hW1]; exact (Below.refl _ _).alloc (Nat.le_refl _) _
 have hz1 : W1.heap.size = w.heap.size + 1 := by rw [hW1]; simp
 have hx1 : Ev.EBox W1 w.heap.size (evCells ⟨2, id, en, at', name, text, ev⟩ vk vn vf vs A m c) := by rw [hW1]; exact heap_alloc_new _ _
 have hgl : g < w.heap.size := (Array.getElem?_eq_some_iff.1 h.blk).1
 have HE : Hid (∀ W, Below W1.heap.size W1 W → Ev.EBox W w.heap.size (evCells ⟨2, id, en, at', name, text, ev⟩ vk vn vf vs A m c)) := Lib.hid fun W hW => (hW.block _ (by omega)).trans hx1
 have HST : Hid (∀ W, Below W1.heap.size W1 W → SAt Y W g bt bm bk n s) := Lib.hid fun W hW => h.later (hb1.trans (hW.mono hb1.size))
 have KS : Hid (∀ W, Below W1.heap.size W1 W → (fun W => W.cell? ⟨g, 0, none⟩ = some (.map (some bt)) ∧ W.cell? ⟨w.heap.size, 1, none⟩ = some (.int .u64 (id : Nat)) ∧ (Instr.lookup 63 (.map (some bt)) (.int .u64 (id : Nat)) true).run Tryz.prog W = .ok (.tuple #[.agg #[.int .u64 (yi : Nat), .string yn, .int .i64 yk, .int .i64 yv, .float .f64 yf, .string ys, .slice yA ym yc, .int .i64 yN, .bool yb, .int .u64 (ya : Nat)], .bool okb]) W) W) := Lib.hid fun W hW => ⟨(st_cells (HST.out W hW).blk).1, (Ev.EBox.cells (HE.out W hW)).2.1, HL.out W ((hb1.trans (hW.mono hb1.size)).block _ h.maps.tasks.lt)⟩
 obtain ⟨W2, hW2⟩ : ∃ W2, W2 = (W1.alloc (.cells #[.int .u64 (yi : Nat), .string yn, .int .i64 yk, .int .i64 yv, .float .f64 yf, .string ys, .slice yA ym yc, .int .i64 yN, .bool yb, .int .u64 (ya : Nat)] 72)).drew := ⟨_, rfl⟩
 have hq2 : Below W1.heap.size W1 W2 := by rw [hW2]; exact below_drew ((Below.refl _ _).alloc (Nat.le_refl _) _)
 have hz2 : W2.heap.size = w.heap.size + 2 := by rw [hW2]; simp [hz1]
 have ht2 : W2.heap[W1.heap.size]? = some (.cells #[.int .u64 (yi : Nat), .string yn, .int .i64 yk, .int .i64 yv, .float .f64 yf, .string ys, .slice yA ym yc, .int .i64 yN, .bool yb, .int .u64 (ya : Nat)] 72 (0, 0)) := by rw [hW2]; exact heap_alloc_new _ _
 have HB2 := Lib.hid (hb1.trans (hq2.mono hb1.size)); have HQ2 := Lib.hid hq2; have HZ1 := Lib.hid hz1; have HZ2 := Lib.hid hz2; have HT2 := Lib.hid ht2; have HGL := Lib.hid hgl
 have H0 := Lib.hid h
 have HBW := Lib.hid hb1
 have HSW : Hid (∀ W, Below W1.heap.size W1 W → ∀ y, W1.heap.size ≤ y → Below W1.heap.size W1 W) := Lib.hid fun W hW _ _ => hW
 unfold evCells at hW1
 replace hW1 := Lib.hid hW1; replace hW2 := Lib.hid hW2
 clear h hb1 hx1 hq2 ht2 hgl hz1 hz2 HL
 unfold evCells
 go_enter Tryz.func51, Tryz.ntmps51
 go_upto_region 1 with fail
 rw [← hW1.out]
 refine wp_region_noPanic ?_
 refine wp_region_held_drew (S := (fun W => W.cell? ⟨g, 0, none⟩ = some (.map (some bt)) ∧ W.cell? ⟨w.heap.size, 1, none⟩ = some (.int .u64 (id : Nat)) ∧ (Instr.lookup 63 (.map (some bt)) (.int .u64 (id : Nat)) true).run Tryz.prog W = .ok (.tuple #[.agg #[.int .u64 (yi : Nat), .string yn, .int .i64 yk, .int .i64 yv, .float .f64 yf, .string ys, .slice yA ym yc, .int .i64 yN, .bool yb, .int .u64 (ya : Nat)], .bool okb]) W)) (by kernel_rfl) ?_ (fun hHeld => ?_)
 ·exact KS.out _ (below_drew (Below.refl _ _))
 refine tk 0 rfl ?_
 try simp only [ap]
 refine tk 1 rfl ?_
 try simp only [ap]
 refine tk 2 rfl ?_
 try simp only [ap]
 refine tk 3 rfl ?_
 try simp only [ap]
 refine tk 4 rfl ?_
 try simp only [ap]
 refine tk 5 rfl ?_
 try simp only [ap]
 refine tk 6 rfl ?_
 try simp only [ap]
 refine tk 7 rfl ?_
 try simp only [ap]
 refine tk 8 rfl ?_
 try simp only [ap]
 refine tk 9 rfl ?_
 try simp only [ap]
 refine wpAnyH_ready (rs := [10]) (by kernel_rfl) (by simp) ?_
 refine cons_drop rfl (fun K hK => ?_) AllReadyH.nil
 go_simp
 refine hK.out _ _ (KS.out _ ((below_drew (Below.refl _ _)).alloc (Nat.le_refl _) _)) (fun hHeld2 => ?_)
 clear hK K hHeld
 try simp only [ap]
 refine wpAnyH_ready (rs := [11]) (by kernel_rfl) (by simp) ?_
 refine cons_drop rfl (fun K hK => ?_) AllReadyH.nil
 go_simp
 refine hK.out _ _ (KS.out _ (below_drew ((Below.refl _ _).alloc (Nat.le_refl _) _))) (fun hHeld3 => ?_)
 clear hK K hHeld2
 try simp only [ap]
 refine wpAnyH_ready (rs := [12]) (by kernel_rfl) (by simp) ?_
 refine cons_drop rfl (fun K hK => ?_) AllReadyH.nil
 go_simp
 refine hK.out _ _ (KS.out _ (below_drew ((Below.refl _ _).alloc (Nat.le_refl _) _))) (fun hHeld4 => ?_)
 clear hK K hHeld3
 try simp only [ap]
 refine wpAnyH_done (by kernel_rfl) ?_ _
 refine NoPanic.normal ?_
 clear hHeld4
 rw [← hW2.out]
 have h := HST.out W2 HQ2.out
 obtain ⟨c0, c1, c2, c3, c4, f0, f1, f2, f3, f4⟩ := st_cells h.blk
 obtain ⟨e0, e1, e2, e3, e4, e5, e6, e7, e8, e9, e10⟩ := Ev.EBox.cells (HE.out W2 HQ2.out)
 dsimp only at e0 e1 e2 e3 e4 e5
 obtain ⟨t0, t1, t2, t3, t4, t5, t6, t7, t8, t9, tf⟩ := t_cells HT2.out
 have KS14 : Hid (∀ W, Below W1.heap.size W1 W → (fun W => W.cell? ⟨w.heap.size, 2, none⟩ = some (.int .i64 en) ∧ W.cell? ⟨w.heap.size, 3, none⟩ = some (.int .u64 (at' : Nat))) W) := Lib.hid fun W hW => by
  obtain ⟨-, -, e2, e3, -⟩ := Ev.EBox.cells (HE.out W hW)
  exact ⟨e2, e3⟩
 have hwr : IntKind.i64.wrap (yN + 1) = yN + 1 := IntWalk.i64_in _ (by omega)
 cases okb with
 | false =>
  obtain ⟨W3, hW3⟩ : ∃ W3, W3 = (((W2.setCell ⟨W1.heap.size, 7, none⟩ (.int .i64 en)).setCell ⟨W1.heap.size, 9, none⟩ (.int .u64 (at' : Nat))).setCell ⟨W1.heap.size, 8, none⟩ (.bool true)).drew := ⟨_, rfl⟩
  have hq3 : Below W1.heap.size W1 W3 := by rw [hW3]; exact below_drew ((((HQ2.out).setCell (Nat.le_refl _) _).setCell (Nat.le_refl _) _).setCell (Nat.le_refl _) _)
  have ht3 : W3.heap[W1.heap.size]? = some (.cells #[.int .u64 (yi : Nat), .string yn, .int .i64 yk, .int .i64 yv, .float .f64 yf, .string ys, .slice yA ym yc, .int .i64 en, .bool true, .int .u64 (at' : Nat)] 72 (0, 0)) := by
   have := HT2.out
   rw [hW3]; show (((W2.setCell ⟨W1.heap.size, 7, none⟩ (.int .i64 en)).setCell ⟨W1.heap.size, 9, none⟩ (.int .u64 (at' : Nat))).setCell ⟨W1.heap.size, 8, none⟩ (.bool true)).heap[W1.heap.size]? = _; simp [World.setCell, Array.getElem?_modify, this]
  have h3 := HST.out W3 hq3
  have hdw : Below W1.heap.size W1 W3.drew := below_drew hq3
  obtain ⟨wd, hput, -⟩ := (HST.out W3.drew hdw).maps.tasks.raw (by simp only [maxLen]; omega) id hi (.agg #[.int .u64 (yi : Nat), .string yn, .int .i64 yk, .int .i64 yv, .float .f64 yf, .string ys, .slice yA ym yc, .int .i64 en, .bool true, .int .u64 (at' : Nat)])
  have HH3 := Lib.hid h3; have HT3 := Lib.hid ht3; have HQ3 := Lib.hid hq3
  have HFIN : Hid (Below w.heap.size w W3.drew) := Lib.hid (HBW.out.trans (hdw.mono HBW.out.size))
  replace hW3 := Lib.hid hW3
  clear h3 ht3 hq3 hdw
  go_upto_region 14 with fail
  refine wp_region_noPanic ?_
  refine wp_region_held_drew (S := (fun W => W.cell? ⟨w.heap.size, 2, none⟩ = some (.int .i64 en) ∧ W.cell? ⟨w.heap.size, 3, none⟩ = some (.int .u64 (at' : Nat)))) (by kernel_rfl) ?_ (fun hHeld => ?_)
  ·exact KS14.out _ (below_drew (HQ2.out))
  refine tk 0 rfl ?_
  try simp only [ap]
  refine tk 1 rfl ?_
  try simp only [ap]
  refine tk 2 rfl ?_
  try simp only [ap]
  refine tk 3 rfl ?_
  try simp only [ap]
  refine tk 4 rfl ?_
  try simp only [ap]
  refine wpAnyH_ready (rs := [5]) (by kernel_rfl) (by simp) ?_
  refine cons_drop rfl (fun K hK => ?_) AllReadyH.nil
  go_simp
  refine hK.out _ _ (KS14.out _ (below_drew ((HQ2.out).setCell (Nat.le_refl _) _))) (fun hHeld0 => ?_)
  clear hK K hHeld
  try simp only [ap]
  refine tk 6 rfl ?_
  try simp only [ap]
  refine wpAnyH_ready (rs := [7]) (by kernel_rfl) (by simp) ?_
  refine cons_drop rfl (fun K hK => ?_) AllReadyH.nil
  go_simp
  refine hK.out _ _ (KS14.out _ (below_drew (((HQ2.out).setCell (Nat.le_refl _) _).setCell (Nat.le_refl _) _))) (fun hHeld1 => ?_)
  clear hK K hHeld0
  try simp only [ap]
  refine tk 8 rfl ?_
  try simp only [ap]
  refine wpAnyH_ready (rs := [9]) (by kernel_rfl) (by simp) ?_
  refine cons_drop rfl (fun K hK => ?_) AllReadyH.nil
  go_simp
  refine hK.out _ _ (KS14.out _ (below_drew ((((HQ2.out).setCell (Nat.le_refl _) _).setCell (Nat.le_refl _) _).setCell (Nat.le_refl _) _))) (fun hHeld2 => ?_)
  clear hK K hHeld1
  try simp only [ap]
  refine wpAnyH_done (by kernel_rfl) ?_ _
  refine NoPanic.normal ?_
  clear hHeld2
  rw [← hW3.out]
  clear h c0 c1 c2 c3 c4 f0 f1 f2 f3 f4 e0 e1 e2 e3 e4 e5 e6 e7 e8 e9 e10 t0 t1 t2 t3 t4 t5 t6 t7 t8 t9 tf
  have h := HH3.out
  obtain ⟨c0, c1, c2, c3, c4, f0, f1, f2, f3, f4⟩ := st_cells h.blk
  obtain ⟨e0, e1, e2, e3, e4, e5, e6, e7, e8, e9, e10⟩ := Ev.EBox.cells (HE.out W3 HQ3.out)
  dsimp only at e0 e1 e2 e3 e4 e5
  obtain ⟨t0, t1, t2, t3, t4, t5, t6, t7, t8, t9, tf⟩ := t_cells HT3.out
  go_upto_region 15 with fail
  go_still_tail 7, (by kernel_rfl)
  go_wp2_with fail
  go_ret
  exact ⟨by simp [*], W3.drew, HFIN.out, hput⟩
 | true =>
  cases yb with
  | true =>
   obtain ⟨W3, hW3⟩ : ∃ W3, W3 = (((W2.setCell ⟨W1.heap.size, 7, none⟩ (.int .i64 en)).setCell ⟨W1.heap.size, 9, none⟩ (.int .u64 (at' : Nat))).setCell ⟨W1.heap.size, 8, none⟩ (.bool true)).drew := ⟨_, rfl⟩
   have hq3 : Below W1.heap.size W1 W3 := by rw [hW3]; exact below_drew ((((HQ2.out).setCell (Nat.le_refl _) _).setCell (Nat.le_refl _) _).setCell (Nat.le_refl _) _)
   have ht3 : W3.heap[W1.heap.size]? = some (.cells #[.int .u64 (yi : Nat), .string yn, .int .i64 yk, .int .i64 yv, .float .f64 yf, .string ys, .slice yA ym yc, .int .i64 en, .bool true, .int .u64 (at' : Nat)] 72 (0, 0)) := by
    have := HT2.out
    rw [hW3]; show (((W2.setCell ⟨W1.heap.size, 7, none⟩ (.int .i64 en)).setCell ⟨W1.heap.size, 9, none⟩ (.int .u64 (at' : Nat))).setCell ⟨W1.heap.size, 8, none⟩ (.bool true)).heap[W1.heap.size]? = _; simp [World.setCell, Array.getElem?_modify, this]
   have h3 := HST.out W3 hq3
   have hdw : Below W1.heap.size W1 W3.drew := below_drew hq3
   obtain ⟨wd, hput, -⟩ := (HST.out W3.drew hdw).maps.tasks.raw (by simp only [maxLen]; omega) id hi (.agg #[.int .u64 (yi : Nat), .string yn, .int .i64 yk, .int .i64 yv, .float .f64 yf, .string ys, .slice yA ym yc, .int .i64 en, .bool true, .int .u64 (at' : Nat)])
   have HH3 := Lib.hid h3; have HT3 := Lib.hid ht3; have HQ3 := Lib.hid hq3
   have HFIN : Hid (Below w.heap.size w W3.drew) := Lib.hid (HBW.out.trans (hdw.mono HBW.out.size))
   replace hW3 := Lib.hid hW3
   clear h3 ht3 hq3 hdw
   go_upto_region 14 with fail
   refine wp_region_noPanic ?_
   refine wp_region_held_drew (S := (fun W => W.cell? ⟨w.heap.size, 2, none⟩ = some (.int .i64 en) ∧ W.cell? ⟨w.heap.size, 3, none⟩ = some (.int .u64 (at' : Nat)))) (by kernel_rfl) ?_ (fun hHeld => ?_)
   ·exact KS14.out _ (below_drew (HQ2.out))
   refine tk 0 rfl ?_
   try simp only [ap]
   refine tk 1 rfl ?_
   try simp only [ap]
   refine tk 2 rfl ?_
   try simp only [ap]
   refine tk 3 rfl ?_
   try simp only [ap]
   refine tk 4 rfl ?_
   try simp only [ap]
   refine wpAnyH_ready (rs := [5]) (by kernel_rfl) (by simp) ?_
   refine cons_drop rfl (fun K hK => ?_) AllReadyH.nil
   go_simp
   refine hK.out _ _ (KS14.out _ (below_drew ((HQ2.out).setCell (Nat.le_refl _) _))) (fun hHeld0 => ?_)
   clear hK K hHeld
   try simp only [ap]
   refine tk 6 rfl ?_
   try simp only [ap]
   refine wpAnyH_ready (rs := [7]) (by kernel_rfl) (by simp) ?_
   refine cons_drop rfl (fun K hK => ?_) AllReadyH.nil
   go_simp
   refine hK.out _ _ (KS14.out _ (below_drew (((HQ2.out).setCell (Nat.le_refl _) _).setCell (Nat.le_refl _) _))) (fun hHeld1 => ?_)
   clear hK K hHeld0
   try simp only [ap]
   refine tk 8 rfl ?_
   try simp only [ap]
   refine wpAnyH_ready (rs := [9]) (by kernel_rfl) (by simp) ?_
   refine cons_drop rfl (fun K hK => ?_) AllReadyH.nil
   go_simp
   refine hK.out _ _ (KS14.out _ (below_drew ((((HQ2.out).setCell (Nat.le_refl _) _).setCell (Nat.le_refl _) _).setCell (Nat.le_refl _) _))) (fun hHeld2 => ?_)
   clear hK K hHeld1
   try simp only [ap]
   refine wpAnyH_done (by kernel_rfl) ?_ _
   refine NoPanic.normal ?_
   clear hHeld2
   rw [← hW3.out]
   clear h c0 c1 c2 c3 c4 f0 f1 f2 f3 f4 e0 e1 e2 e3 e4 e5 e6 e7 e8 e9 e10 t0 t1 t2 t3 t4 t5 t6 t7 t8 t9 tf
   have h := HH3.out
   obtain ⟨c0, c1, c2, c3, c4, f0, f1, f2, f3, f4⟩ := st_cells h.blk
   obtain ⟨e0, e1, e2, e3, e4, e5, e6, e7, e8, e9, e10⟩ := Ev.EBox.cells (HE.out W3 HQ3.out)
   dsimp only at e0 e1 e2 e3 e4 e5
   obtain ⟨t0, t1, t2, t3, t4, t5, t6, t7, t8, t9, tf⟩ := t_cells HT3.out
   go_upto_region 15 with fail
   go_still_tail 7, (by kernel_rfl)
   go_wp2_with fail
   go_ret
   exact ⟨by simp [*], W3.drew, HFIN.out, hput⟩
  | false =>
   by_cases q3 : yN + 1 = en
   ·have k3 : decide (yN + 1 = en) = true := decide_eq_true q3
    by_cases q4 : ya ≤ now
    ·have k4 : decide (ya ≤ now) = true := decide_eq_true q4
     by_cases q5 : now ≤ at'
     ·have k5 : decide (now ≤ at') = true := decide_eq_true q5
      cases alone with
      | true =>
       obtain ⟨W3, hW3⟩ : ∃ W3, W3 = (((W2.setCell ⟨W1.heap.size, 7, none⟩ (.int .i64 en)).setCell ⟨W1.heap.size, 9, none⟩ (.int .u64 (at' : Nat))).setCell ⟨W1.heap.size, 8, none⟩ (.bool true)).drew := ⟨_, rfl⟩
       have hq3 : Below W1.heap.size W1 W3 := by rw [hW3]; exact below_drew ((((HQ2.out).setCell (Nat.le_refl _) _).setCell (Nat.le_refl _) _).setCell (Nat.le_refl _) _)
       have ht3 : W3.heap[W1.heap.size]? = some (.cells #[.int .u64 (yi : Nat), .string yn, .int .i64 yk, .int .i64 yv, .float .f64 yf, .string ys, .slice yA ym yc, .int .i64 en, .bool true, .int .u64 (at' : Nat)] 72 (0, 0)) := by
        have := HT2.out
        rw [hW3]; show (((W2.setCell ⟨W1.heap.size, 7, none⟩ (.int .i64 en)).setCell ⟨W1.heap.size, 9, none⟩ (.int .u64 (at' : Nat))).setCell ⟨W1.heap.size, 8, none⟩ (.bool true)).heap[W1.heap.size]? = _; simp [World.setCell, Array.getElem?_modify, this]
       have h3 := HST.out W3 hq3
       have hdw : Below W1.heap.size W1 W3.drew := below_drew hq3
       obtain ⟨wd, hput, -⟩ := (HST.out W3.drew hdw).maps.tasks.raw (by simp only [maxLen]; omega) id hi (.agg #[.int .u64 (yi : Nat), .string yn, .int .i64 yk, .int .i64 yv, .float .f64 yf, .string ys, .slice yA ym yc, .int .i64 en, .bool true, .int .u64 (at' : Nat)])
       have HH3 := Lib.hid h3; have HT3 := Lib.hid ht3; have HQ3 := Lib.hid hq3
       have HFIN : Hid (Below w.heap.size w W3.drew) := Lib.hid (HBW.out.trans (hdw.mono HBW.out.size))
       replace hW3 := Lib.hid hW3
       clear h3 ht3 hq3 hdw
       go_upto_region 14 with fail
       refine wp_region_noPanic ?_
       refine wp_region_held_drew (S := (fun W => W.cell? ⟨w.heap.size, 2, none⟩ = some (.int .i64 en) ∧ W.cell? ⟨w.heap.size, 3, none⟩ = some (.int .u64 (at' : Nat)))) (by kernel_rfl) ?_ (fun hHeld => ?_)
       ·exact KS14.out _ (below_drew (HQ2.out))
       refine tk 0 rfl ?_
       try simp only [ap]
       refine tk 1 rfl ?_
       try simp only [ap]
       refine tk 2 rfl ?_
       try simp only [ap]
       refine tk 3 rfl ?_
       try simp only [ap]
       refine tk 4 rfl ?_
       try simp only [ap]
       refine wpAnyH_ready (rs := [5]) (by kernel_rfl) (by simp) ?_
       refine cons_drop rfl (fun K hK => ?_) AllReadyH.nil
       go_simp
       refine hK.out _ _ (KS14.out _ (below_drew ((HQ2.out).setCell (Nat.le_refl _) _))) (fun hHeld0 => ?_)
       clear hK K hHeld
       try simp only [ap]
       refine tk 6 rfl ?_
       try simp only [ap]
       refine wpAnyH_ready (rs := [7]) (by kernel_rfl) (by simp) ?_
       refine cons_drop rfl (fun K hK => ?_) AllReadyH.nil
       go_simp
       refine hK.out _ _ (KS14.out _ (below_drew (((HQ2.out).setCell (Nat.le_refl _) _).setCell (Nat.le_refl _) _))) (fun hHeld1 => ?_)
       clear hK K hHeld0
       try simp only [ap]
       refine tk 8 rfl ?_
       try simp only [ap]
       refine wpAnyH_ready (rs := [9]) (by kernel_rfl) (by simp) ?_
       refine cons_drop rfl (fun K hK => ?_) AllReadyH.nil
       go_simp
       refine hK.out _ _ (KS14.out _ (below_drew ((((HQ2.out).setCell (Nat.le_refl _) _).setCell (Nat.le_refl _) _).setCell (Nat.le_refl _) _))) (fun hHeld2 => ?_)
       clear hK K hHeld1
       try simp only [ap]
       refine wpAnyH_done (by kernel_rfl) ?_ _
       refine NoPanic.normal ?_
       clear hHeld2
       rw [← hW3.out]
       clear h c0 c1 c2 c3 c4 f0 f1 f2 f3 f4 e0 e1 e2 e3 e4 e5 e6 e7 e8 e9 e10 t0 t1 t2 t3 t4 t5 t6 t7 t8 t9 tf
       have h := HH3.out
       obtain ⟨c0, c1, c2, c3, c4, f0, f1, f2, f3, f4⟩ := st_cells h.blk
       obtain ⟨e0, e1, e2, e3, e4, e5, e6, e7, e8, e9, e10⟩ := Ev.EBox.cells (HE.out W3 HQ3.out)
       dsimp only at e0 e1 e2 e3 e4 e5
       obtain ⟨t0, t1, t2, t3, t4, t5, t6, t7, t8, t9, tf⟩ := t_cells HT3.out
       go_upto_region 15 with fail
       go_still_tail 7, (by kernel_rfl)
       go_wp2_with fail
       go_ret
       exact ⟨by simp [*], W3.drew, HFIN.out, hput⟩
      | false =>
       obtain ⟨W3, hW3⟩ : ∃ W3, W3 = (((W2.setCell ⟨W1.heap.size, 7, none⟩ (.int .i64 en)).setCell ⟨W1.heap.size, 9, none⟩ (.int .u64 (at' : Nat))).setCell ⟨W1.heap.size, 8, none⟩ (.bool true)).drew := ⟨_, rfl⟩
       have hq3 : Below W1.heap.size W1 W3 := by rw [hW3]; exact below_drew ((((HQ2.out).setCell (Nat.le_refl _) _).setCell (Nat.le_refl _) _).setCell (Nat.le_refl _) _)
       have ht3 : W3.heap[W1.heap.size]? = some (.cells #[.int .u64 (yi : Nat), .string yn, .int .i64 yk, .int .i64 yv, .float .f64 yf, .string ys, .slice yA ym yc, .int .i64 en, .bool true, .int .u64 (at' : Nat)] 72 (0, 0)) := by
        have := HT2.out
        rw [hW3]; show (((W2.setCell ⟨W1.heap.size, 7, none⟩ (.int .i64 en)).setCell ⟨W1.heap.size, 9, none⟩ (.int .u64 (at' : Nat))).setCell ⟨W1.heap.size, 8, none⟩ (.bool true)).heap[W1.heap.size]? = _; simp [World.setCell, Array.getElem?_modify, this]
       have h3 := HST.out W3 hq3
       have hdw : Below W1.heap.size W1 W3.drew := below_drew hq3
       obtain ⟨wd, hput, -⟩ := (HST.out W3.drew hdw).maps.tasks.raw (by simp only [maxLen]; omega) id hi (.agg #[.int .u64 (yi : Nat), .string yn, .int .i64 yk, .int .i64 yv, .float .f64 yf, .string ys, .slice yA ym yc, .int .i64 en, .bool true, .int .u64 (at' : Nat)])
       have HH3 := Lib.hid h3; have HT3 := Lib.hid ht3; have HQ3 := Lib.hid hq3
       have HFIN : Hid (Below w.heap.size w W3.drew) := Lib.hid (HBW.out.trans (hdw.mono HBW.out.size))
       replace hW3 := Lib.hid hW3
       clear h3 ht3 hq3 hdw
       go_upto_region 14 with fail
       refine wp_region_noPanic ?_
       refine wp_region_held_drew (S := (fun W => W.cell? ⟨w.heap.size, 2, none⟩ = some (.int .i64 en) ∧ W.cell? ⟨w.heap.size, 3, none⟩ = some (.int .u64 (at' : Nat)))) (by kernel_rfl) ?_ (fun hHeld => ?_)
       ·exact KS14.out _ (below_drew (HQ2.out))
       refine tk 0 rfl ?_
       try simp only [ap]
       refine tk 1 rfl ?_
       try simp only [ap]
       refine tk 2 rfl ?_
       try simp only [ap]
       refine tk 3 rfl ?_
       try simp only [ap]
       refine tk 4 rfl ?_
       try simp only [ap]
       refine wpAnyH_ready (rs := [5]) (by kernel_rfl) (by simp) ?_
       refine cons_drop rfl (fun K hK => ?_) AllReadyH.nil
       go_simp
       refine hK.out _ _ (KS14.out _ (below_drew ((HQ2.out).setCell (Nat.le_refl _) _))) (fun hHeld0 => ?_)
       clear hK K hHeld
       try simp only [ap]
       refine tk 6 rfl ?_
       try simp only [ap]
       refine wpAnyH_ready (rs := [7]) (by kernel_rfl) (by simp) ?_
       refine cons_drop rfl (fun K hK => ?_) AllReadyH.nil
       go_simp
       refine hK.out _ _ (KS14.out _ (below_drew (((HQ2.out).setCell (Nat.le_refl _) _).setCell (Nat.le_refl _) _))) (fun hHeld1 => ?_)
       clear hK K hHeld0
       try simp only [ap]
       refine tk 8 rfl ?_
       try simp only [ap]
       refine wpAnyH_ready (rs := [9]) (by kernel_rfl) (by simp) ?_
       refine cons_drop rfl (fun K hK => ?_) AllReadyH.nil
       go_simp
       refine hK.out _ _ (KS14.out _ (below_drew ((((HQ2.out).setCell (Nat.le_refl _) _).setCell (Nat.le_refl _) _).setCell (Nat.le_refl _) _))) (fun hHeld2 => ?_)
       clear hK K hHeld1
       try simp only [ap]
       refine wpAnyH_done (by kernel_rfl) ?_ _
       refine NoPanic.normal ?_
       clear hHeld2
       rw [← hW3.out]
       clear h c0 c1 c2 c3 c4 f0 f1 f2 f3 f4 e0 e1 e2 e3 e4 e5 e6 e7 e8 e9 e10 t0 t1 t2 t3 t4 t5 t6 t7 t8 t9 tf
       have h := HH3.out
       obtain ⟨c0, c1, c2, c3, c4, f0, f1, f2, f3, f4⟩ := st_cells h.blk
       obtain ⟨e0, e1, e2, e3, e4, e5, e6, e7, e8, e9, e10⟩ := Ev.EBox.cells (HE.out W3 HQ3.out)
       dsimp only at e0 e1 e2 e3 e4 e5
       obtain ⟨t0, t1, t2, t3, t4, t5, t6, t7, t8, t9, tf⟩ := t_cells HT3.out
       go_upto_region 15 with fail
       go_still_tail 7, (by kernel_rfl)
       go_wp2_with fail
       go_ret
       exact ⟨by simp [*], W3.drew, HFIN.out, hput⟩
     ·have k5 : decide (now ≤ at') = false := decide_eq_false q5
      obtain ⟨W3, hW3⟩ : ∃ W3, W3 = (((W2.setCell ⟨W1.heap.size, 7, none⟩ (.int .i64 en)).setCell ⟨W1.heap.size, 9, none⟩ (.int .u64 (at' : Nat))).setCell ⟨W1.heap.size, 8, none⟩ (.bool true)).drew := ⟨_, rfl⟩
      have hq3 : Below W1.heap.size W1 W3 := by rw [hW3]; exact below_drew ((((HQ2.out).setCell (Nat.le_refl _) _).setCell (Nat.le_refl _) _).setCell (Nat.le_refl _) _)
      have ht3 : W3.heap[W1.heap.size]? = some (.cells #[.int .u64 (yi : Nat), .string yn, .int .i64 yk, .int .i64 yv, .float .f64 yf, .string ys, .slice yA ym yc, .int .i64 en, .bool true, .int .u64 (at' : Nat)] 72 (0, 0)) := by
       have := HT2.out
       rw [hW3]; show (((W2.setCell ⟨W1.heap.size, 7, none⟩ (.int .i64 en)).setCell ⟨W1.heap.size, 9, none⟩ (.int .u64 (at' : Nat))).setCell ⟨W1.heap.size, 8, none⟩ (.bool true)).heap[W1.heap.size]? = _; simp [World.setCell, Array.getElem?_modify, this]
      have h3 := HST.out W3 hq3
      have hdw : Below W1.heap.size W1 W3.drew := below_drew hq3
      obtain ⟨wd, hput, -⟩ := (HST.out W3.drew hdw).maps.tasks.raw (by simp only [maxLen]; omega) id hi (.agg #[.int .u64 (yi : Nat), .string yn, .int .i64 yk, .int .i64 yv, .float .f64 yf, .string ys, .slice yA ym yc, .int .i64 en, .bool true, .int .u64 (at' : Nat)])
      have HH3 := Lib.hid h3; have HT3 := Lib.hid ht3; have HQ3 := Lib.hid hq3
      have HFIN : Hid (Below w.heap.size w W3.drew) := Lib.hid (HBW.out.trans (hdw.mono HBW.out.size))
      replace hW3 := Lib.hid hW3
      clear h3 ht3 hq3 hdw
      go_upto_region 14 with fail
      refine wp_region_noPanic ?_
      refine wp_region_held_drew (S := (fun W => W.cell? ⟨w.heap.size, 2, none⟩ = some (.int .i64 en) ∧ W.cell? ⟨w.heap.size, 3, none⟩ = some (.int .u64 (at' : Nat)))) (by kernel_rfl) ?_ (fun hHeld => ?_)
      ·exact KS14.out _ (below_drew (HQ2.out))
      refine tk 0 rfl ?_
      try simp only [ap]
      refine tk 1 rfl ?_
      try simp only [ap]
      refine tk 2 rfl ?_
      try simp only [ap]
      refine tk 3 rfl ?_
      try simp only [ap]
      refine tk 4 rfl ?_
      try simp only [ap]
      refine wpAnyH_ready (rs := [5]) (by kernel_rfl) (by simp) ?_
      refine cons_drop rfl (fun K hK => ?_) AllReadyH.nil
      go_simp
      refine hK.out _ _ (KS14.out _ (below_drew ((HQ2.out).setCell (Nat.le_refl _) _))) (fun hHeld0 => ?_)
      clear hK K hHeld
      try simp only [ap]
      refine tk 6 rfl ?_
      try simp only [ap]
      refine wpAnyH_ready (rs := [7]) (by kernel_rfl) (by simp) ?_
      refine cons_drop rfl (fun K hK => ?_) AllReadyH.nil
      go_simp
      refine hK.out _ _ (KS14.out _ (below_drew (((HQ2.out).setCell (Nat.le_refl _) _).setCell (Nat.le_refl _) _))) (fun hHeld1 => ?_)
      clear hK K hHeld0
      try simp only [ap]
      refine tk 8 rfl ?_
      try simp only [ap]
      refine wpAnyH_ready (rs := [9]) (by kernel_rfl) (by simp) ?_
      refine cons_drop rfl (fun K hK => ?_) AllReadyH.nil
      go_simp
      refine hK.out _ _ (KS14.out _ (below_drew ((((HQ2.out).setCell (Nat.le_refl _) _).setCell (Nat.le_refl _) _).setCell (Nat.le_refl _) _))) (fun hHeld2 => ?_)
      clear hK K hHeld1
      try simp only [ap]
      refine wpAnyH_done (by kernel_rfl) ?_ _
      refine NoPanic.normal ?_
      clear hHeld2
      rw [← hW3.out]
      clear h c0 c1 c2 c3 c4 f0 f1 f2 f3 f4 e0 e1 e2 e3 e4 e5 e6 e7 e8 e9 e10 t0 t1 t2 t3 t4 t5 t6 t7 t8 t9 tf
      have h := HH3.out
      obtain ⟨c0, c1, c2, c3, c4, f0, f1, f2, f3, f4⟩ := st_cells h.blk
      obtain ⟨e0, e1, e2, e3, e4, e5, e6, e7, e8, e9, e10⟩ := Ev.EBox.cells (HE.out W3 HQ3.out)
      dsimp only at e0 e1 e2 e3 e4 e5
      obtain ⟨t0, t1, t2, t3, t4, t5, t6, t7, t8, t9, tf⟩ := t_cells HT3.out
      go_upto_region 15 with fail
      go_still_tail 7, (by kernel_rfl)
      go_wp2_with fail
      go_ret
      exact ⟨by simp [*], W3.drew, HFIN.out, hput⟩
    ·have k4 : decide (ya ≤ now) = false := decide_eq_false q4
     obtain ⟨W3, hW3⟩ : ∃ W3, W3 = (((W2.setCell ⟨W1.heap.size, 7, none⟩ (.int .i64 en)).setCell ⟨W1.heap.size, 9, none⟩ (.int .u64 (at' : Nat))).setCell ⟨W1.heap.size, 8, none⟩ (.bool true)).drew := ⟨_, rfl⟩
     have hq3 : Below W1.heap.size W1 W3 := by rw [hW3]; exact below_drew ((((HQ2.out).setCell (Nat.le_refl _) _).setCell (Nat.le_refl _) _).setCell (Nat.le_refl _) _)
     have ht3 : W3.heap[W1.heap.size]? = some (.cells #[.int .u64 (yi : Nat), .string yn, .int .i64 yk, .int .i64 yv, .float .f64 yf, .string ys, .slice yA ym yc, .int .i64 en, .bool true, .int .u64 (at' : Nat)] 72 (0, 0)) := by
      have := HT2.out
      rw [hW3]; show (((W2.setCell ⟨W1.heap.size, 7, none⟩ (.int .i64 en)).setCell ⟨W1.heap.size, 9, none⟩ (.int .u64 (at' : Nat))).setCell ⟨W1.heap.size, 8, none⟩ (.bool true)).heap[W1.heap.size]? = _; simp [World.setCell, Array.getElem?_modify, this]
     have h3 := HST.out W3 hq3
     have hdw : Below W1.heap.size W1 W3.drew := below_drew hq3
     obtain ⟨wd, hput, -⟩ := (HST.out W3.drew hdw).maps.tasks.raw (by simp only [maxLen]; omega) id hi (.agg #[.int .u64 (yi : Nat), .string yn, .int .i64 yk, .int .i64 yv, .float .f64 yf, .string ys, .slice yA ym yc, .int .i64 en, .bool true, .int .u64 (at' : Nat)])
     have HH3 := Lib.hid h3; have HT3 := Lib.hid ht3; have HQ3 := Lib.hid hq3
     have HFIN : Hid (Below w.heap.size w W3.drew) := Lib.hid (HBW.out.trans (hdw.mono HBW.out.size))
     replace hW3 := Lib.hid hW3
     clear h3 ht3 hq3 hdw
     go_upto_region 14 with fail
     refine wp_region_noPanic ?_
     refine wp_region_held_drew (S := (fun W => W.cell? ⟨w.heap.size, 2, none⟩ = some (.int .i64 en) ∧ W.cell? ⟨w.heap.size, 3, none⟩ = some (.int .u64 (at' : Nat)))) (by kernel_rfl) ?_ (fun hHeld => ?_)
     ·exact KS14.out _ (below_drew (HQ2.out))
     refine tk 0 rfl ?_
     try simp only [ap]
     refine tk 1 rfl ?_
     try simp only [ap]
     refine tk 2 rfl ?_
     try simp only [ap]
     refine tk 3 rfl ?_
     try simp only [ap]
     refine tk 4 rfl ?_
     try simp only [ap]
     refine wpAnyH_ready (rs := [5]) (by kernel_rfl) (by simp) ?_
     refine cons_drop rfl (fun K hK => ?_) AllReadyH.nil
     go_simp
     refine hK.out _ _ (KS14.out _ (below_drew ((HQ2.out).setCell (Nat.le_refl _) _))) (fun hHeld0 => ?_)
     clear hK K hHeld
     try simp only [ap]
     refine tk 6 rfl ?_
     try simp only [ap]
     refine wpAnyH_ready (rs := [7]) (by kernel_rfl) (by simp) ?_
     refine cons_drop rfl (fun K hK => ?_) AllReadyH.nil
     go_simp
     refine hK.out _ _ (KS14.out _ (below_drew (((HQ2.out).setCell (Nat.le_refl _) _).setCell (Nat.le_refl _) _))) (fun hHeld1 => ?_)
     clear hK K hHeld0
     try simp only [ap]
     refine tk 8 rfl ?_
     try simp only [ap]
     refine wpAnyH_ready (rs := [9]) (by kernel_rfl) (by simp) ?_
     refine cons_drop rfl (fun K hK => ?_) AllReadyH.nil
     go_simp
     refine hK.out _ _ (KS14.out _ (below_drew ((((HQ2.out).setCell (Nat.le_refl _) _).setCell (Nat.le_refl _) _).setCell (Nat.le_refl _) _))) (fun hHeld2 => ?_)
     clear hK K hHeld1
     try simp only [ap]
     refine wpAnyH_done (by kernel_rfl) ?_ _
     refine NoPanic.normal ?_
     clear hHeld2
     rw [← hW3.out]
     clear h c0 c1 c2 c3 c4 f0 f1 f2 f3 f4 e0 e1 e2 e3 e4 e5 e6 e7 e8 e9 e10 t0 t1 t2 t3 t4 t5 t6 t7 t8 t9 tf
     have h := HH3.out
     obtain ⟨c0, c1, c2, c3, c4, f0, f1, f2, f3, f4⟩ := st_cells h.blk
     obtain ⟨e0, e1, e2, e3, e4, e5, e6, e7, e8, e9, e10⟩ := Ev.EBox.cells (HE.out W3 HQ3.out)
     dsimp only at e0 e1 e2 e3 e4 e5
     obtain ⟨t0, t1, t2, t3, t4, t5, t6, t7, t8, t9, tf⟩ := t_cells HT3.out
     go_upto_region 15 with fail
     go_still_tail 7, (by kernel_rfl)
     go_wp2_with fail
     go_ret
     exact ⟨by simp [*], W3.drew, HFIN.out, hput⟩
   ·have k3 : decide (yN + 1 = en) = false := decide_eq_false q3
    obtain ⟨W3, hW3⟩ : ∃ W3, W3 = (((W2.setCell ⟨W1.heap.size, 7, none⟩ (.int .i64 en)).setCell ⟨W1.heap.size, 9, none⟩ (.int .u64 (at' : Nat))).setCell ⟨W1.heap.size, 8, none⟩ (.bool true)).drew := ⟨_, rfl⟩
    have hq3 : Below W1.heap.size W1 W3 := by rw [hW3]; exact below_drew ((((HQ2.out).setCell (Nat.le_refl _) _).setCell (Nat.le_refl _) _).setCell (Nat.le_refl _) _)
    have ht3 : W3.heap[W1.heap.size]? = some (.cells #[.int .u64 (yi : Nat), .string yn, .int .i64 yk, .int .i64 yv, .float .f64 yf, .string ys, .slice yA ym yc, .int .i64 en, .bool true, .int .u64 (at' : Nat)] 72 (0, 0)) := by
     have := HT2.out
     rw [hW3]; show (((W2.setCell ⟨W1.heap.size, 7, none⟩ (.int .i64 en)).setCell ⟨W1.heap.size, 9, none⟩ (.int .u64 (at' : Nat))).setCell ⟨W1.heap.size, 8, none⟩ (.bool true)).heap[W1.heap.size]? = _; simp [World.setCell, Array.getElem?_modify, this]
    have h3 := HST.out W3 hq3
    have hdw : Below W1.heap.size W1 W3.drew := below_drew hq3
    obtain ⟨wd, hput, -⟩ := (HST.out W3.drew hdw).maps.tasks.raw (by simp only [maxLen]; omega) id hi (.agg #[.int .u64 (yi : Nat), .string yn, .int .i64 yk, .int .i64 yv, .float .f64 yf, .string ys, .slice yA ym yc, .int .i64 en, .bool true, .int .u64 (at' : Nat)])
    have HH3 := Lib.hid h3; have HT3 := Lib.hid ht3; have HQ3 := Lib.hid hq3
    have HFIN : Hid (Below w.heap.size w W3.drew) := Lib.hid (HBW.out.trans (hdw.mono HBW.out.size))
    replace hW3 := Lib.hid hW3
    clear h3 ht3 hq3 hdw
    go_upto_region 14 with fail
    refine wp_region_noPanic ?_
    refine wp_region_held_drew (S := (fun W => W.cell? ⟨w.heap.size, 2, none⟩ = some (.int .i64 en) ∧ W.cell? ⟨w.heap.size, 3, none⟩ = some (.int .u64 (at' : Nat)))) (by kernel_rfl) ?_ (fun hHeld => ?_)
    ·exact KS14.out _ (below_drew (HQ2.out))
    refine tk 0 rfl ?_
    try simp only [ap]
    refine tk 1 rfl ?_
    try simp only [ap]
    refine tk 2 rfl ?_
    try simp only [ap]
    refine tk 3 rfl ?_
    try simp only [ap]
    refine tk 4 rfl ?_
    try simp only [ap]
    refine wpAnyH_ready (rs := [5]) (by kernel_rfl) (by simp) ?_
    refine cons_drop rfl (fun K hK => ?_) AllReadyH.nil
    go_simp
    refine hK.out _ _ (KS14.out _ (below_drew ((HQ2.out).setCell (Nat.le_refl _) _))) (fun hHeld0 => ?_)
    clear hK K hHeld
    try simp only [ap]
    refine tk 6 rfl ?_
    try simp only [ap]
    refine wpAnyH_ready (rs := [7]) (by kernel_rfl) (by simp) ?_
    refine cons_drop rfl (fun K hK => ?_) AllReadyH.nil
    go_simp
    refine hK.out _ _ (KS14.out _ (below_drew (((HQ2.out).setCell (Nat.le_refl _) _).setCell (Nat.le_refl _) _))) (fun hHeld1 => ?_)
    clear hK K hHeld0
    try simp only [ap]
    refine tk 8 rfl ?_
    try simp only [ap]
    refine wpAnyH_ready (rs := [9]) (by kernel_rfl) (by simp) ?_
    refine cons_drop rfl (fun K hK => ?_) AllReadyH.nil
    go_simp
    refine hK.out _ _ (KS14.out _ (below_drew ((((HQ2.out).setCell (Nat.le_refl _) _).setCell (Nat.le_refl _) _).setCell (Nat.le_refl _) _))) (fun hHeld2 => ?_)
    clear hK K hHeld1
    try simp only [ap]
    refine wpAnyH_done (by kernel_rfl) ?_ _
    refine NoPanic.normal ?_
    clear hHeld2
    rw [← hW3.out]
    clear h c0 c1 c2 c3 c4 f0 f1 f2 f3 f4 e0 e1 e2 e3 e4 e5 e6 e7 e8 e9 e10 t0 t1 t2 t3 t4 t5 t6 t7 t8 t9 tf
    have h := HH3.out
    obtain ⟨c0, c1, c2, c3, c4, f0, f1, f2, f3, f4⟩ := st_cells h.blk
    obtain ⟨e0, e1, e2, e3, e4, e5, e6, e7, e8, e9, e10⟩ := Ev.EBox.cells (HE.out W3 HQ3.out)
    dsimp only at e0 e1 e2 e3 e4 e5
    obtain ⟨t0, t1, t2, t3, t4, t5, t6, t7, t8, t9, tf⟩ := t_cells HT3.out
    go_upto_region 15 with fail
    go_still_tail 7, (by kernel_rfl)
    go_wp2_with fail
    go_ret
    exact ⟨by simp [*], W3.drew, HFIN.out, hput⟩
end Hi
end Go.Proofs.YtkajcldmolcllaaGreat
namespace Go.Proofs.YtkajcldmolcllaaGreat
namespace Hi
open Nm (ret_int ret_bool)
open Vt (VT Rep below_drew Cloned)
open Ev (EV FieldsOk evCells vCells take_drop tk ap cons_drop)
open Cm (EvsIn)
variable {X X' Y : Nat → Prop} {u v w w' V V' : World} {b n : Nat} {ts : List TK} {l : List (Nat × Nat)} {ks : List ByteArray}

set_option maxRecDepth 100000 in
set_option maxHeartbeats 4000000 in
theorem apply2 (g bt bm bk : Nat) (s : ST) (h : SAt Y w g bt bm bk n s) (e : EV) (he : EvOk e) (hk : e.k = 2) (vk vn : Int) (vf : Nat) (vs : ByteArray) (A : Option Addr) (m c : Nat) (now : Nat) (alone : Bool) (hn : n < 17592186044416) :
  Calls Tryz.prog 51 #[.pointer (some ⟨g, 0, none⟩), .agg (evCells e vk vn vf vs A m c), .int .u64 (now : Nat), .bool alone] w (AOut Y w g bt bm bk n (applyM now alone e s)) := by
 have hi := he.f.i1
 obtain ⟨yi, yn, yk, yv, yf, ys, yA, ym, yc, yN, yb, ya, okb, hl, hyN, hdec⟩ := h.maps.tasks.any2 e.id hi
 refine (apply2_run g bt bm bk s h hn e he hk vk vn vf vs A m c now alone yi yn yk yv yf ys yA ym yc yN yb ya okb hyN.1 hyN.2 hl).mono ?_
 rintro r w' ⟨rfl, W3, hb, hr⟩
 refine ⟨upd_none h hn hb hi hr, ?_⟩
 rcases hdec with ⟨rfl, hno⟩ | ⟨rfl, t, h1, h0, h2, h3, h4, hrep⟩
 ·have hX : applyM now alone e s = none := by simp [applyM, hk, hno]
  rw [hX]; rfl
 ·by_cases hc : t.fl = false ∧ t.n + 1 = e.n ∧ t.at' ≤ now ∧ now ≤ e.at' ∧ alone = true
  ·have hX : applyM now alone e s = some { s with tasks := tput s.tasks { t with n := e.n, at' := e.at', fl := true } } := by simp [applyM, hk, h1, hc]
   rw [hX]
   obtain ⟨c1, c2, c3, c4, c5⟩ := hc
   refine ⟨Nm.ret_bool (by simp [← h2, ← h3, ← h4, c1, c2, c3, c4, c5]), ?_⟩
   exact (upd_some (t := { t with n := e.n, at' := e.at', fl := true }) h hn hb (h0 ▸ h1) (hrep e.n true e.at' he.n0 he.n1 he.f.a1) (by rw [show ({ t with n := e.n, at' := e.at', fl := true } : TK).id = e.id from h0]; exact hr)).2
  ·have hX : applyM now alone e s = none := by simp only [applyM, hk, h1, if_true, if_neg hc]
   rw [hX]
   refine Nm.ret_bool (Bool.eq_false_iff.2 fun q => hc ?_)
   simp only [Bool.and_eq_true, Bool.not_eq_true', decide_eq_true_eq, Bool.true_and] at q
   obtain ⟨⟨⟨⟨q1, q2⟩, q3⟩, q4⟩, q5⟩ := q
   exact ⟨h3.trans q1, by rw [h2]; exact q2, by rw [h4]; exact q3, q4, q5⟩
end Hi
end Go.Proofs.YtkajcldmolcllaaGreat
namespace Go.Proofs.YtkajcldmolcllaaGreat
namespace Hi
open Nm (ret_int ret_bool)
open Vt (VT Rep below_drew Cloned)
open Ev (EV FieldsOk evCells vCells take_drop tk ap cons_drop fieldsOf pickB goodL)
open Cm (EvsIn)
variable {X X' Y : Nat → Prop} {u v w w' V V' : World} {b n : Nat} {ts : List TK} {l : List (Nat × Nat)} {ks : List ByteArray}

theorem evOk_of {e : EV} (hf : FieldsOk e) (hv : e.valid = true) (hs : e.v.Slim 900) : EvOk e := by
 unfold Ev.EV.valid goodL at hv
 simp only [List.all_cons, List.all_nil, Bool.and_true, Bool.and_eq_true, decide_eq_true_eq] at hv
 obtain ⟨⟨h0, h1⟩, -, g1, g2, -⟩ := hv
 have hn : 0 ≤ e.n ∧ e.n ≤ 2147483647 := by
  unfold pickB at g1
  split at g1
  ·have := of_decide_eq_true g1; omega
  ·have : e.n = 0 := by simpa using g1
   omega
 refine ⟨hf, h0, h1, hn.1, hn.2, fun h3 => ?_, hs⟩
 rw [h3] at g2
 have : (fieldsOf (3 : Int).toNat).contains 2 = false := by decide
 rw [this] at g2
 unfold pickB at g2
 simpa using g2
theorem apply_any (g bt bm bk : Nat) (s : ST) (h : SAt Y w g bt bm bk n s) (hn : n < 17592186044416) (hx : s.next < 1152921504606846976) (hf : Fine s) (hY : ∀ b, Y b → b < w.heap.size) (e : EV) (he : EvOk e) (vk vn : Int) (vf : Nat) (vs : ByteArray) (A : Option Addr) (m c : Nat)
  (lo hi' : Nat) (hv : Rep w lo hi' e.v (vCells vk vn vf vs A m c)) (hhi : hi' ≤ w.heap.size) (hlow : hi' ≤ g ∧ hi' ≤ bt ∧ hi' ≤ bm ∧ hi' ≤ bk) (now : Nat) (hnow : now < 18446744073709551616) (alone : Bool) :
  Calls Tryz.prog 51 #[.pointer (some ⟨g, 0, none⟩), .agg (evCells e vk vn vf vs A m c), .int .u64 (now : Nat), .bool alone] w (AOut Y w g bt bm bk n (applyM now alone e s)) := by
 have h0 := he.k0; have h1 := he.k1
 rcases (by omega : e.k = 1 ∨ e.k = 2 ∨ e.k = 3 ∨ e.k = 4 ∨ e.k = 5 ∨ e.k = 6 ∨ e.k = 7 ∨ e.k = 8 ∨ e.k = 9 ∨ e.k = 10 ∨ e.k = 11) with k | k | k | k | k | k | k | k | k | k | k
 ·exact apply1 g bt bm bk s h e he k vk vn vf vs A m c now alone
 ·exact apply2 g bt bm bk s h e he k vk vn vf vs A m c now alone hn
 ·exact apply3_done g bt bm bk s h e he k vk vn vf vs A m c now alone
 ·by_cases ha : e.at' = 0
  ·exact apply4_done g bt bm bk s h e he k vk vn vf vs A m c now alone ha
  ·exact apply4_try g bt bm bk s h e he k vk vn vf vs A m c now alone hn ha
 ·exact apply5 g bt bm bk s h e he k vk vn vf vs A m c now alone
 ·exact apply6 g bt bm bk s h e he k vk vn vf vs A m c now alone hn
 ·exact apply7 g bt bm bk s h e he k vk vn vf vs A m c now alone hn hx hf hY lo hi' hv hhi hlow hnow
 ·exact apply8 g bt bm bk s h e he k vk vn vf vs A m c now alone hn hx hf
 ·exact apply9 g bt bm bk s h e he k vk vn vf vs A m c now alone
 ·exact apply10 g bt bm bk s h e he k vk vn vf vs A m c now alone
 ·exact apply11 g bt bm bk s h e he k vk vn vf vs A m c now alone
theorem apply_next {now : Nat} {alone : Bool} {e : EV} {s s' : ST} (h : applyM now alone e s = some s') : s'.next ≤ s.next + 1 := by
 unfold applyM at h
 repeat' split at h
 all_goals first | cases h | skip
 all_goals first | exact Nat.le_succ _ | exact Nat.le_refl _ | skip
theorem apply_keys {now : Nat} {alone : Bool} {e : EV} {s s' : ST} (h : applyM now alone e s = some s') : s'.keys.length ≤ s.keys.length + 1 := by
 unfold applyM at h
 repeat' split at h
 all_goals first | cases h | skip
 all_goals first | exact Nat.le_succ _ | (simp; done) | skip
theorem runM_cons {now : Nat} {e : EV} {r : List EV} {first : Bool} {s : ST} (hk : decide (e.k ≤ 6) = first) : runM now (e :: r) first s = (applyM now r.isEmpty e s).bind (runM now r false) := by
 rw [runM, if_pos hk]
theorem runM_not {now : Nat} {e : EV} {r : List EV} {first : Bool} {s : ST} (hk : ¬ decide (e.k ≤ 6) = first) : runM now (e :: r) first s = none := by
 rw [runM, if_neg hk]
theorem drop_isEmpty {es : List EV} {j : Nat} (h : j < es.length) : (es.drop (j + 1)).isEmpty = decide ((j : Int) = (es.length : Int) - 1) := by
 by_cases q : j + 1 = es.length
 ·rw [q, List.drop_length, decide_eq_true (by omega)]; rfl
 ·rw [decide_eq_false (by omega)]
  cases hd : es.drop (j + 1) with
  | nil => rw [List.drop_eq_nil_iff] at hd; omega
  | cons a l => rfl
end Hi
end Go.Proofs.YtkajcldmolcllaaGreat
namespace Go.Proofs.YtkajcldmolcllaaGreat
namespace Cn
open Nm (bitsW ret_int ret_bool)
open Vt (VT Rep BoxAt below_drew Cloned put5 KidsAt HeadOk)
open Ev (EV FieldsOk evCells vCells EBox ERep zeroT take_drop tk ap cons_drop)
open Cm (rowOf EvsIn EvsAt EvNew evsSame evSame rsev_any)

def efew (e : EV) : Bool := e.v.few && decide (e.name.size ≤ 1100) && decide (e.text.size ≤ 1100)

set_option maxRecDepth 100000 in
theorem efew_any (e : EV) (hf : FieldsOk e) (lo hi : Nat) (vk vn : Int) (vf : Nat) (vs : ByteArray) (A : Option Addr) (m c : Nat) (w : World) (hv : Rep w lo hi e.v (vCells vk vn vf vs A m c)) (hz : hi ≤ w.heap.size) :
  Calls Tryz.prog 27 #[.agg (evCells e vk vn vf vs A m c)] w fun r w' => r = .returned (.bool (efew e)) ∧ Below w.heap.size w w' := by
 obtain ⟨W0, hW0⟩ : ∃ W0, W0 = w.alloc (.cells (evCells e vk vn vf vs A m c) 53) := ⟨_, rfl⟩
 have hb0 : Below w.heap.size w W0 := by rw [hW0]; exact (Below.refl _ _).alloc (Nat.le_refl _) _
 have hx0 : EBox W0 w.heap.size (evCells e vk vn vf vs A m c) := by rw [hW0]; exact box_ev ..
 have HV := Lib.hid (Vt.few_any e.v W0 lo hi _ (hv.later (hb0.mono hz)) (Nat.le_trans hz hb0.size))
 obtain ⟨g0, g1, g2, g3, g4, g5, g6, g7, g8, g9, g10⟩ := EBox.cells hx0
 have HX0 := Lib.hid hx0
 have HB0 := Lib.hid hb0
 have hsn := hf.s1
 have hst := hf.t1
 simp only [maxLen] at hsn hst
 clear hv hf hx0 hb0
 unfold evCells at hW0 ⊢
 unfold vCells at HV
 replace hW0 := Lib.hid hW0
 go_enter Tryz.func27, Tryz.ntmps27
 go_upto_region 1 with fail
 rw [← hW0.out]
 generalize hfw : e.v.few = fw at *
 have HFW := Lib.hid hfw; clear hfw
 cases fw with
 | false =>
  go_wp2_with (go_at_call 45; refine HV.out.mono ?_; rintro x w1 ⟨rfl, hb1⟩; have HB1 := Lib.hid (HB0.out.trans (hb1.mono HB0.out.size)); clear hb1)
  go_ret
  exact ⟨ret_bool (by unfold efew; rw [HFW.out]; rfl), HB1.out⟩
 | true =>
  by_cases h1 : e.name.size ≤ 1100
  ·have k1 : decide ((e.name.size : Int) ≤ 1100) = true := decide_eq_true (by omega)
   by_cases h2 : e.text.size ≤ 1100
   ·have k2 : decide ((e.text.size : Int) ≤ 1100) = true := decide_eq_true (by omega)
    go_wp2_with (go_at_call 45; refine HV.out.mono ?_; rintro x w1 ⟨rfl, hb1⟩; have HB1 := Lib.hid (HB0.out.trans (hb1.mono HB0.out.size)); obtain ⟨q0, q1, q2, q3, q4, q5, q6, q7, q8, q9, q10⟩ := EBox.cells (HX0.out.later hb1 HX0.out.lt); clear hb1)
    go_ret
    exact ⟨ret_bool (by unfold efew; rw [HFW.out]; simp; omega), HB1.out⟩
   ·have k2 : decide ((e.text.size : Int) ≤ 1100) = false := decide_eq_false (by omega)
    go_wp2_with (go_at_call 45; refine HV.out.mono ?_; rintro x w1 ⟨rfl, hb1⟩; have HB1 := Lib.hid (HB0.out.trans (hb1.mono HB0.out.size)); obtain ⟨q0, q1, q2, q3, q4, q5, q6, q7, q8, q9, q10⟩ := EBox.cells (HX0.out.later hb1 HX0.out.lt); clear hb1)
    go_ret
    exact ⟨ret_bool (by unfold efew; rw [HFW.out]; simp; omega), HB1.out⟩
  ·have k1 : decide ((e.name.size : Int) ≤ 1100) = false := decide_eq_false (by omega)
   go_wp2_with (go_at_call 45; refine HV.out.mono ?_; rintro x w1 ⟨rfl, hb1⟩; have HB1 := Lib.hid (HB0.out.trans (hb1.mono HB0.out.size)); obtain ⟨q0, q1, q2, q3, q4, q5, q6, q7, q8, q9, q10⟩ := EBox.cells (HX0.out.later hb1 HX0.out.lt); clear hb1)
   go_ret
   exact ⟨ret_bool (by unfold efew; rw [HFW.out]; simp; omega), HB1.out⟩

structure BT where mk ::
 flow : ByteArray
 at' : Nat
 es : List EV

structure BtsIn (w : World) (A : Option Addr) (cap : Nat) (bl : List BT) : Prop where
 le : bl.length ≤ cap
 cap_le : cap ≤ maxLen
 at_ : 0 < bl.length → ∃ b off, A = some ⟨b, off, none⟩ ∧ b < w.heap.size ∧ ∀ i (h : i < bl.length), ∃ A' c', bl[i].flow.size ≤ maxLen ∧ bl[i].at' < 18446744073709551616 ∧ EvsIn w A' c' bl[i].es ∧
  w.cell? ⟨b, off + i * 3, none⟩ = some (.string bl[i].flow) ∧ w.cell? ⟨b, off + i * 3 + 1, none⟩ = some (.int .u64 bl[i].at') ∧ w.cell? ⟨b, off + i * 3 + 2, none⟩ = some (.slice A' bl[i].es.length c')
theorem BtsIn.later {w w' : World} {A : Option Addr} {cap : Nat} {bl : List BT} (h : BtsIn w A cap bl) (hb : Below w.heap.size w w') : BtsIn w' A cap bl := ⟨h.le, h.cap_le, fun hp => by
 obtain ⟨b, off, hA, hlt, h3⟩ := h.at_ hp
 refine ⟨b, off, hA, Nat.lt_of_lt_of_le hlt hb.size, fun i hi => ?_⟩
 obtain ⟨A', c', h4, h5, h6, c0, c1, c2⟩ := h3 i hi
 have e : ∀ o, w'.cell? ⟨b, o, none⟩ = w.cell? ⟨b, o, none⟩ := fun o => hb.cell (p := ⟨b, o, none⟩) hlt
 exact ⟨A', c', h4, h5, h6.later hb, (e _).trans c0, (e _).trans c1, (e _).trans c2⟩⟩

def wsum (bl : List BT) : Nat := (bl.map fun b => min b.es.length 100).sum
structure FewB (bl : List BT) : Prop where
 len : bl.length ≤ 60
 sum : wsum bl ≤ 150
 flow : ∀ i (h : i < bl.length), bl[i].flow.size ≤ 300
 few : ∀ i (h : i < bl.length) k (hk : k < bl[i].es.length), efew bl[i].es[k] = true

theorem wsum_take (bl : List BT) (j : Nat) (h : j < bl.length) : wsum (bl.take (j + 1)) = wsum (bl.take j) + min bl[j].es.length 100 := by
 unfold wsum
 rw [List.take_succ_eq_append_getElem h, List.map_append, List.sum_append]; simp

def Few12Res (bl : List BT) (w : World) (r : Ending) (w' : World) : Prop := ∃ b, r = .returned (.bool b) ∧ (b = true → FewB bl) ∧ Below w.heap.size w w'
set_option maxRecDepth 100000 in
set_option maxHeartbeats 2000000 in
theorem few12_any (bl : List BT) (A : Option Addr) (cap : Nat) (w : World) (h : BtsIn w A cap bl) :
  Calls Tryz.prog 9 #[.slice A bl.length cap] w (Few12Res bl w) := by
 have hl := h.le
 have hc := h.cap_le
 simp only [maxLen] at hc
 have HK := Lib.hid h; clear h
 go_enter Tryz.func9, Tryz.ntmps9
 go_wp2_with fail
 go_loopw [2, 3, 4] (fun r n i wr => ∃ (j y : Nat), j ≤ bl.length ∧ i = .int .i64 j ∧ r = .bool false ∧ n = .int .i64 y ∧ y ≤ 150 ∧ y = wsum (bl.take j) ∧ (∀ i (h : i < bl.length), i < j → bl[i].flow.size ≤ 300 ∧ ∀ k (hk : k < bl[i].es.length), efew bl[i].es[k] = true) ∧ Below w.heap.size w wr) (fun _ _ i _ => bl.length - (intOf i).toNat)
 case atStart => exact ⟨0, 0, by omega, rfl, rfl, rfl, by omega, rfl, fun i _ h => absurd h (by omega), Below.refl _ _⟩
 case round =>
  obtain ⟨j, y, hj, rfl, rfl, rfl, hy, hys, hfew, hb⟩ := hrel
  have HF := Lib.hid hfew
  have HB := Lib.hid hb
  have HYS := Lib.hid hys
  clear hfew hb hys
  by_cases hlt : j < bl.length
  ·obtain ⟨b, off, rfl, hblt, h3⟩ := (HK.out.later HB.out).at_ (by omega)
   obtain ⟨A', c', hfl, hat, hes, d0, d1, d2⟩ := h3 j hlt
   have hle := hes.le
   have hcm := hes.cap_le
   simp only [maxLen] at hcm hfl
   have HES := Lib.hid fun W (hW : Below wr.heap.size wr W) => hes.later hW
   have HD := Lib.hid fun W (hW : Below wr.heap.size wr W) => (hW.cell (p := ⟨b, off + j * 3 + 2, none⟩) hblt).trans d2
   have HWT := Lib.hid (wsum_take bl j hlt)
   clear h3 hes
   obtain ⟨es, hes⟩ : ∃ es, es = bl[j].es := ⟨_, rfl⟩
   rw [← hes] at HES HD HWT d2 hle
   have HEE := Lib.hid hes
   clear hes
   generalize hn : es.length = n at *
   have HN := Lib.hid hn; clear hn
   generalize hff : bl[j].flow = ff at *
   have HSZ : Hid (bl[j].flow.size = ff.size) := Lib.hid (by rw [hff]); clear hff
   go_upto_region 6 with fail
   obtain ⟨z, hz⟩ : ∃ z : Int, z = (y : Int) + (if (100 : Int) < (n : Int) then (100 : Int) else (n : Int)) := ⟨_, rfl⟩
   have hz0 : z = ((y + min n 100 : Nat) : Int) := by rw [hz]; split <;> omega
   rw [← hz]
   have hzz : z ≤ 250 := by omega
   have hzp : 0 ≤ z := by omega
   have HZ := Lib.hid hz0
   clear hz hz0 d1
   generalize (if (100 : Int) < (n : Int) then (100 : Int) else (n : Int)) = mm at *
   by_cases hz4 : 150 < z
   ·have hb4 : decide (150 < z) = true := by simpa using hz4
    go_wp2_with fail
    go_ret
    exact ⟨false, rfl, (fun h => by cases h), HB.out⟩
   ·have hb4 : decide (150 < z) = false := by simpa using hz4
    by_cases hs4 : 300 < ff.size
    ·have hb5 : decide ((300 : Int) < (ff.size : Int)) = true := decide_eq_true (by omega)
     go_wp2_with fail
     go_ret
     exact ⟨false, rfl, (fun h => by cases h), HB.out⟩
    ·have hb5 : decide ((300 : Int) < (ff.size : Int)) = false := decide_eq_false (by omega)
     have HSZ4 := Lib.hid hs4
     have HZ4 := Lib.hid hz4
     have HBF := Lib.hid fun W (hW : Below wr.heap.size wr W) => HB.out.trans (hW.mono HB.out.size)
     have hzj : y ≤ 150 := hy
     go_wp2_with fail
     go_loopw [2, 5] (fun r i wi => ∃ (k : Nat), k ≤ n ∧ i = .int .i64 k ∧ r = .bool false ∧ (∀ q (hq : q < es.length), q < k → efew es[q] = true) ∧ Below wr.heap.size wr wi) (fun _ i _ => n - (intOf i).toNat)
     case atStart => exact ⟨0, by omega, rfl, rfl, fun q _ h => absurd h (by omega), Below.refl _ _⟩
     case round =>
      obtain ⟨k, hk, rfl, rfl, hall, hbi⟩ := hrel
      have HALL := Lib.hid hall; have HBI := Lib.hid hbi
      have hdd := HD.out _ hbi
      clear hall hbi
      by_cases hkl : k < n
      ·have hke : k < es.length := by have := HN.out; omega
       obtain ⟨b2, off2, lo, hi, vk, vn, vf, vs, A2, m2, c2, rfl, hbl2, hf, hv, hhi, e0, e1, e2, e3, e4, e5, e6, e7, e8, e9, e10⟩ := (HES.out _ HBI.out).get k hke
       have HC := Lib.hid (efew_any es[k] hf lo hi vk vn vf vs A2 m2 c2 _ hv hhi)
       unfold evCells at HC
       clear hf hv
       go_wp2_with fail
       refine HC.out.mono ?_
       rintro x w1 ⟨rfl, hb1⟩
       have HB1 := Lib.hid (HBI.out.trans (hb1.mono HBI.out.size))
       clear hb1 e0 e1 e2 e3 e4 e5 e6 e7 e8 e9 e10 HC
       cases hp : efew es[k] with
       | true =>
        have HP := Lib.hid hp; clear hp
        go_wp2_with fail
        go_roundw
        case rel => exact ⟨k + 1, by omega, by go_num, rfl, fun q h hm => by
         rcases Nat.lt_or_ge q k with z | z
         ·exact HALL.out q h z
         ·obtain rfl : q = k := by omega
          exact HP.out, HB1.out⟩
        case measure => simp [intOf]; omega
       | false =>
        have HP := Lib.hid hp; clear hp
        go_wp2_with fail
        go_ret
        exact ⟨false, rfl, (fun h => by cases h), HBF.out _ HB1.out⟩
      ·have hk' : k = n := by omega
       subst hk'
       have HFIN : Hid (∀ i (h : i < bl.length), i < j + 1 → bl[i].flow.size ≤ 300 ∧ ∀ k (hk : k < bl[i].es.length), efew bl[i].es[k] = true) := Lib.hid fun i h hij => by
        rcases Nat.lt_or_ge i j with z | z
        ·exact HF.out i h z
        ·obtain rfl : i = j := by omega
         refine ⟨by have := HSZ.out; have := HSZ4.out; omega, fun q hq => ?_⟩
         have hE := HEE.out
         have := HALL.out q (by rw [hE]; exact hq) (by have := HN.out; rw [hE] at this; omega)
         simp only [hE] at this
         exact this
       go_wp2_with fail
       exact ⟨⟨j + 1, y + min k 100, by omega, by go_num, rfl, by rw [HZ.out], by have := HZ.out; have := HZ4.out; omega, by rw [HWT.out, ← HYS.out], HFIN.out, HBF.out _ HBI.out⟩, by simp [intOf]; omega⟩
  ·have hj' : j = bl.length := by omega
   subst hj'
   rw [List.take_length] at HYS
   go_wp2_with fail
   go_ret
   exact ⟨decide (bl.length ≤ 60), ret_bool (decide_eq_decide.2 (by omega)), fun h => ⟨by simpa using h, by have := HYS.out; omega, fun i hi => (HF.out i hi hi).1, fun i hi => (HF.out i hi hi).2⟩, HB.out⟩
end Cn
end Go.Proofs.YtkajcldmolcllaaGreat
