/- What an event does to a state: a timer is armed. -/
/- What an event does to a state: the end. -/
/- What an event does to a state: an activity is scheduled. -/
/- Contracts: event.Outside; slices.IndexFunc of events by whatever question; batch.Clone. -/
/- Contracts: batch.Valid. -/
import Derived.Test.YtkajcldmolcllaaGreatHaah
import Derived.Test.YtkajcldmolcllaaGreatHaae
import Derived.Test.YtkajcldmolcllaaGreatHaag
set_option linter.unusedVariables false
set_option linter.unusedSimpArgs false
open Go.RowKit
namespace Go.Proofs.YtkajcldmolcllaaGreat
namespace Hi
open Nm (ret_int ret_bool)
open Vt (VT Rep below_drew Cloned)
open Ev (EV FieldsOk evCells vCells take_drop tk ap cons_drop)
open Cm (EvsIn)
variable {X X' Y : Nat → Prop} {u v w w' V V' : World} {b n : Nat} {ts : List TK} {l : List (Nat × Nat)} {ks : List ByteArray}

set_option maxRecDepth 100000 in
set_option maxHeartbeats 4000000 in
theorem apply8 (g bt bm bk : Nat) (s : ST) (h : SAt Y w g bt bm bk n s) (e : EV) (he : EvOk e) (hk : e.k = 8) (vk vn : Int) (vf : Nat) (vs : ByteArray) (A : Option Addr) (m c : Nat) (now : Nat) (alone : Bool) (hn : n < 17592186044416) (hx : s.next < 1152921504606846976) (hf : Fine s) :
  Calls Tryz.prog 51 #[.pointer (some ⟨g, 0, none⟩), .agg (evCells e vk vn vf vs A m c), .int .u64 (now : Nat), .bool alone] w (AOut Y w g bt bm bk n (applyM now alone e s)) := by
 obtain ⟨k, id, en, at', name, text, ev⟩ := e
 obtain rfl : k = 8 := hk
 have hi := he.f.i1
 dsimp only at hi
 have HF := Lib.hid hf
 obtain ⟨yi, yn, yk, yv, yf, ys, yA, ym, yc, yN, yb, ya, okb, hl⟩ := h.maps.tasks.any id hi
 have HL : Hid (∀ W, W.heap[bt]? = w.heap[bt]? → (Instr.lookup 63 (.map (some bt)) (.int .u64 (id : Nat)) true).run Tryz.prog W = .ok (.tuple #[.agg #[.int .u64 (yi : Nat), .string yn, .int .i64 yk, .int .i64 yv, .float .f64 yf, .string ys, .slice yA ym yc, .int .i64 yN, .bool yb, .int .u64 (ya : Nat)], .bool okb]) W) := Lib.hid hl
 clear hl
 obtain ⟨W1, hW1⟩ : ∃ W1, W1 = w.alloc (.cells (evCells ⟨8, id, en, at', name, text, ev⟩ vk vn vf vs A m c) 53) := ⟨_, rfl⟩
 have hb1 : Below w.heap.size w W1 := by rw [hW1]; exact (Below.refl _ _).alloc (Nat.le_refl _) _
 have hz1 : W1.heap.size = w.heap.size + 1 := by rw [hW1]; simp
 have hx1 : Ev.EBox W1 w.heap.size (evCells ⟨8, id, en, at', name, text, ev⟩ vk vn vf vs A m c) := by rw [hW1]; exact heap_alloc_new _ _
 have hgl : g < w.heap.size := (Array.getElem?_eq_some_iff.1 h.blk).1
 have HE : Hid (∀ W, Below W1.heap.size W1 W → Ev.EBox W w.heap.size (evCells ⟨8, id, en, at', name, text, ev⟩ vk vn vf vs A m c)) := Lib.hid fun W hW => (hW.block _ (by omega)).trans hx1
 have HST : Hid (∀ W, Below W1.heap.size W1 W → SAt Y W g bt bm bk n s) := Lib.hid fun W hW => h.later (hb1.trans (hW.mono hb1.size))
 have KS : Hid (∀ W, Below W1.heap.size W1 W → (fun W => W.cell? ⟨g, 0, none⟩ = some (.map (some bt)) ∧ W.cell? ⟨w.heap.size, 1, none⟩ = some (.int .u64 (id : Nat)) ∧ (Instr.lookup 63 (.map (some bt)) (.int .u64 (id : Nat)) true).run Tryz.prog W = .ok (.tuple #[.agg #[.int .u64 (yi : Nat), .string yn, .int .i64 yk, .int .i64 yv, .float .f64 yf, .string ys, .slice yA ym yc, .int .i64 yN, .bool yb, .int .u64 (ya : Nat)], .bool okb]) W) W) := Lib.hid fun W hW => ⟨(st_cells (HST.out W hW).blk).1, (Ev.EBox.cells (HE.out W hW)).2.1, HL.out W ((hb1.trans (hW.mono hb1.size)).block _ h.maps.tasks.lt)⟩
 obtain ⟨W2, hW2⟩ : ∃ W2, W2 = (W1.alloc (.cells #[.int .u64 (yi : Nat), .string yn, .int .i64 yk, .int .i64 yv, .float .f64 yf, .string ys, .slice yA ym yc, .int .i64 yN, .bool yb, .int .u64 (ya : Nat)] 72)).drew := ⟨_, rfl⟩
 have hq2 : Below W1.heap.size W1 W2 := by rw [hW2]; exact below_drew ((Below.refl _ _).alloc (Nat.le_refl _) _)
 have hz2 : W2.heap.size = w.heap.size + 2 := by rw [hW2]; simp [hz1]
 have ht2 : W2.heap[W1.heap.size]? = some (.cells #[.int .u64 (yi : Nat), .string yn, .int .i64 yk, .int .i64 yv, .float .f64 yf, .string ys, .slice yA ym yc, .int .i64 yN, .bool yb, .int .u64 (ya : Nat)] 72 (0, 0)) := by rw [hW2]; exact heap_alloc_new _ _
 have HB2 := Lib.hid (hb1.trans (hq2.mono hb1.size)); have HQ2 := Lib.hid hq2; have HZ1 := Lib.hid hz1; have HZ2 := Lib.hid hz2; have HT2 := Lib.hid ht2; have HGL := Lib.hid hgl
 have H0 := Lib.hid h
 have HBW := Lib.hid hb1
 have HSW : Hid (∀ W, Below W1.heap.size W1 W → ∀ y, W1.heap.size ≤ y → Below W1.heap.size W1 W) := Lib.hid fun W hW _ _ => hW
 unfold evCells at hW1
 replace hW1 := Lib.hid hW1; replace hW2 := Lib.hid hW2
 clear h hb1 hx1 hq2 ht2 hgl hz1 hz2 HL
 unfold evCells
 go_enter Tryz.func51, Tryz.ntmps51
 go_upto_region 1 with fail
 rw [← hW1.out]
 refine wp_region_noPanic ?_
 refine wp_region_held_drew (S := (fun W => W.cell? ⟨g, 0, none⟩ = some (.map (some bt)) ∧ W.cell? ⟨w.heap.size, 1, none⟩ = some (.int .u64 (id : Nat)) ∧ (Instr.lookup 63 (.map (some bt)) (.int .u64 (id : Nat)) true).run Tryz.prog W = .ok (.tuple #[.agg #[.int .u64 (yi : Nat), .string yn, .int .i64 yk, .int .i64 yv, .float .f64 yf, .string ys, .slice yA ym yc, .int .i64 yN, .bool yb, .int .u64 (ya : Nat)], .bool okb]) W)) (by kernel_rfl) ?_ (fun hHeld => ?_)
 ·exact KS.out _ (below_drew (Below.refl _ _))
 refine tk 0 rfl ?_
 try simp only [ap]
 refine tk 1 rfl ?_
 try simp only [ap]
 refine tk 2 rfl ?_
 try simp only [ap]
 refine tk 3 rfl ?_
 try simp only [ap]
 refine tk 4 rfl ?_
 try simp only [ap]
 refine tk 5 rfl ?_
 try simp only [ap]
 refine tk 6 rfl ?_
 try simp only [ap]
 refine tk 7 rfl ?_
 try simp only [ap]
 refine tk 8 rfl ?_
 try simp only [ap]
 refine tk 9 rfl ?_
 try simp only [ap]
 refine wpAnyH_ready (rs := [10]) (by kernel_rfl) (by simp) ?_
 refine cons_drop rfl (fun K hK => ?_) AllReadyH.nil
 go_simp
 refine hK.out _ _ (KS.out _ ((below_drew (Below.refl _ _)).alloc (Nat.le_refl _) _)) (fun hHeld2 => ?_)
 clear hK K hHeld
 try simp only [ap]
 refine wpAnyH_ready (rs := [11]) (by kernel_rfl) (by simp) ?_
 refine cons_drop rfl (fun K hK => ?_) AllReadyH.nil
 go_simp
 refine hK.out _ _ (KS.out _ (below_drew ((Below.refl _ _).alloc (Nat.le_refl _) _))) (fun hHeld3 => ?_)
 clear hK K hHeld2
 try simp only [ap]
 refine wpAnyH_ready (rs := [12]) (by kernel_rfl) (by simp) ?_
 refine cons_drop rfl (fun K hK => ?_) AllReadyH.nil
 go_simp
 refine hK.out _ _ (KS.out _ (below_drew ((Below.refl _ _).alloc (Nat.le_refl _) _))) (fun hHeld4 => ?_)
 clear hK K hHeld3
 try simp only [ap]
 refine wpAnyH_done (by kernel_rfl) ?_ _
 refine NoPanic.normal ?_
 clear hHeld4
 rw [← hW2.out]
 have h := HST.out W2 HQ2.out
 obtain ⟨c0, c1, c2, c3, c4, f0, f1, f2, f3, f4⟩ := st_cells h.blk
 obtain ⟨e0, e1, e2, e3, e4, e5, e6, e7, e8, e9, e10⟩ := Ev.EBox.cells (HE.out W2 HQ2.out)
 dsimp only at e0 e1 e2 e3 e4 e5
 obtain ⟨t0, t1, t2, t3, t4, t5, t6, t7, t8, t9, tf⟩ := t_cells HT2.out
 by_cases hid2 : id = s.next
 rotate_left
 ·have kid : ((id : Int) != (s.next : Int)) = true := by simp; omega
  have HX : Hid (applyM now alone ⟨8, id, en, at', name, text, ev⟩ s = none) := Lib.hid (by simp [applyM, hid2])
  go_upto_region 31 with fail
  go_still_tail 6, (by kernel_rfl)
  go_wp2_with fail
  go_ret
  exact ⟨(Chg.of_below HB2.out).trans (Chg.of_below (below_drew (Below.refl _ _))), by rw [HX.out]; rfl⟩
 have kid : ((id : Int) != (s.next : Int)) = false := by simp; omega
 have HID := Lib.hid hid2
 obtain ⟨h3', hc3⟩ := h.cell 3 (.int .u64 ((s.next : Int) + 1)) { s with next := s.next + 1 } rfl rfl rfl rfl
 have h3 := h3'.later (below_drew (Below.refl _ _))
 obtain ⟨W3, hW3⟩ : ∃ W3, W3 = (W2.setCell ⟨g, 3, none⟩ (.int .u64 ((s.next : Int) + 1))).drew := ⟨_, rfl⟩
 replace hc3 := hc3.trans (Chg.of_below (X := XS g bt bm bk) (below_drew (Below.refl _ _)))
 clear h3'
 rw [← hW3] at h3 hc3
 have HC3 := Lib.hid ((Chg.of_below HB2.out).trans hc3)
 have hz3 : W3.heap.size = W2.heap.size := by rw [hW3]; simp [World.setCell, World.drew]
 have hx3 : Ev.EBox W3 w.heap.size (evCells ⟨8, id, en, at', name, text, ev⟩ vk vn vf vs A m c) := by
  rw [hW3]; show (W2.setCell _ _).heap[w.heap.size]? = _; exact (RowKit.Below.heap_setCell _ _ _ _ (by have := HGL.out; show w.heap.size ≠ g; omega)).trans (HE.out W2 HQ2.out)
 have HX3 := Lib.hid hx3; have H3 := Lib.hid h3; have HZ3 := Lib.hid hz3
 clear hid2 hc3 hx3 h3 hz3
 go_upto_region 31 with fail
 go_still_tail 6, (by kernel_rfl)
 go_upto_region 34 with fail
 rw [← hW3]
 replace hW3 := Lib.hid hW3
 clear h c0 c1 c2 c3 c4 f0 f1 f2 f3 f4 e0 e1 e2 e3 e4 e5 e6 e7 e8 e9 e10 t0 t1 t2 t3 t4 t5 t6 t7 t8 t9 tf
 have h := H3.out
 obtain ⟨c0, c1, c2, c3, c4, f0, f1, f2, f3, f4⟩ := st_cells h.blk
 obtain ⟨e0, e1, e2, e3, e4, e5, e6, e7, e8, e9, e10⟩ := Ev.EBox.cells HX3.out
 dsimp only at e0 e1 e2 e3 e4 e5
 obtain ⟨wd, hput, hmd, hturn⟩ := (h.later (below_drew (Below.refl _ _))).maps.timers.put (by simp only [maxLen]; omega) (id, at') hi (l' := s.timers ++ [(id, at')]) (fun q => mget_snoc (mget_none fun t ht => by have := HF.out.belowT t ht; have := HID.out; show t.1 ≠ id; omega) q)
 obtain ⟨hsd, hcd⟩ := (h.later (below_drew (Below.refl _ _))).turnM hturn hmd (Nat.le_succ _)
 have hput' : (Instr.mapUpdate 64 (.map (some bm)) (.int .u64 (id : Nat)) (.agg #[.int .u64 (id : Nat), .int .u64 (at' : Nat)])).run Tryz.prog W3.drew = .ok () wd := hput
 have hxd : Ev.EBox wd w.heap.size (evCells ⟨8, id, en, at', name, text, ev⟩ vk vn vf vs A m c) :=
  (hturn.grown.block w.heap.size (by show w.heap.size < W3.heap.size; have := HZ3.out; have := HZ2.out; omega) (fun e => by injection e with e; have := H0.out.maps.timers.lt; omega)).trans HX3.out
 obtain ⟨-, -, -, x3, -, -, -, -, -, -, -⟩ := Ev.EBox.cells hxd
 dsimp only at x3
 have HSD := Lib.hid hsd; have HCD := Lib.hid ((HC3.out.trans (Chg.of_below (below_drew (Below.refl _ _)))).trans hcd)
 clear hsd hcd hmd hturn hput hxd
 go_upto_region 35 with fail
 go_still_tail 11, (by kernel_rfl)
 by_cases hle : now ≤ at'
 ·have kle : decide (now ≤ at') = true := decide_eq_true hle
  have HX : Hid (applyM now alone ⟨8, id, en, at', name, text, ev⟩ s = some { s with timers := s.timers ++ [(id, at')], next := s.next + 1 }) := Lib.hid (by simp [applyM, HID.out, hle])
  clear hle
  go_wp2_with fail
  go_ret
  exact ⟨HCD.out, by rw [HX.out]; exact ⟨rfl, HSD.out⟩⟩
 ·have kle : decide (now ≤ at') = false := decide_eq_false hle
  have HX : Hid (applyM now alone ⟨8, id, en, at', name, text, ev⟩ s = none) := Lib.hid (by simp [applyM, hle])
  clear hle
  go_wp2_with fail
  go_ret
  exact ⟨HCD.out, by rw [HX.out]; rfl⟩
end Hi
end Go.Proofs.YtkajcldmolcllaaGreat
namespace Go.Proofs.YtkajcldmolcllaaGreat
namespace Hi
open Nm (ret_int ret_bool)
open Vt (VT Rep below_drew Cloned)
open Ev (EV FieldsOk evCells vCells take_drop tk ap cons_drop)
open Cm (EvsIn)
variable {X X' Y : Nat → Prop} {u v w w' V V' : World} {b n : Nat} {ts : List TK} {l : List (Nat × Nat)} {ks : List ByteArray}

set_option maxRecDepth 100000 in
set_option maxHeartbeats 4000000 in
theorem apply9 (g bt bm bk : Nat) (s : ST) (h : SAt Y w g bt bm bk n s) (e : EV) (he : EvOk e) (hk : e.k = 9) (vk vn : Int) (vf : Nat) (vs : ByteArray) (A : Option Addr) (m c : Nat) (now : Nat) (alone : Bool) :
  Calls Tryz.prog 51 #[.pointer (some ⟨g, 0, none⟩), .agg (evCells e vk vn vf vs A m c), .int .u64 (now : Nat), .bool alone] w (AOut Y w g bt bm bk n (applyM now alone e s)) := by
 obtain ⟨k, id, en, at', name, text, ev⟩ := e
 obtain rfl : k = 9 := hk
 have hi := he.f.i1
 dsimp only at hi
 obtain ⟨yi, yn, yk, yv, yf, ys, yA, ym, yc, yN, yb, ya, okb, hl⟩ := h.maps.tasks.any id hi
 have HL : Hid (∀ W, W.heap[bt]? = w.heap[bt]? → (Instr.lookup 63 (.map (some bt)) (.int .u64 (id : Nat)) true).run Tryz.prog W = .ok (.tuple #[.agg #[.int .u64 (yi : Nat), .string yn, .int .i64 yk, .int .i64 yv, .float .f64 yf, .string ys, .slice yA ym yc, .int .i64 yN, .bool yb, .int .u64 (ya : Nat)], .bool okb]) W) := Lib.hid hl
 clear hl
 obtain ⟨W1, hW1⟩ : ∃ W1, W1 = w.alloc (.cells (evCells ⟨9, id, en, at', name, text, ev⟩ vk vn vf vs A m c) 53) := ⟨_, rfl⟩
 have hb1 : Below w.heap.size w W1 := by rw [hW1]; exact (Below.refl _ _).alloc (Nat.le_refl _) _
 have hz1 : W1.heap.size = w.heap.size + 1 := by rw [hW1]; simp
 have hx1 : Ev.EBox W1 w.heap.size (evCells ⟨9, id, en, at', name, text, ev⟩ vk vn vf vs A m c) := by rw [hW1]; exact heap_alloc_new _ _
 have hgl : g < w.heap.size := (Array.getElem?_eq_some_iff.1 h.blk).1
 have HE : Hid (∀ W, Below W1.heap.size W1 W → Ev.EBox W w.heap.size (evCells ⟨9, id, en, at', name, text, ev⟩ vk vn vf vs A m c)) := Lib.hid fun W hW => (hW.block _ (by omega)).trans hx1
 have HST : Hid (∀ W, Below W1.heap.size W1 W → SAt Y W g bt bm bk n s) := Lib.hid fun W hW => h.later (hb1.trans (hW.mono hb1.size))
 have KS : Hid (∀ W, Below W1.heap.size W1 W → (fun W => W.cell? ⟨g, 0, none⟩ = some (.map (some bt)) ∧ W.cell? ⟨w.heap.size, 1, none⟩ = some (.int .u64 (id : Nat)) ∧ (Instr.lookup 63 (.map (some bt)) (.int .u64 (id : Nat)) true).run Tryz.prog W = .ok (.tuple #[.agg #[.int .u64 (yi : Nat), .string yn, .int .i64 yk, .int .i64 yv, .float .f64 yf, .string ys, .slice yA ym yc, .int .i64 yN, .bool yb, .int .u64 (ya : Nat)], .bool okb]) W) W) := Lib.hid fun W hW => ⟨(st_cells (HST.out W hW).blk).1, (Ev.EBox.cells (HE.out W hW)).2.1, HL.out W ((hb1.trans (hW.mono hb1.size)).block _ h.maps.tasks.lt)⟩
 obtain ⟨W2, hW2⟩ : ∃ W2, W2 = (W1.alloc (.cells #[.int .u64 (yi : Nat), .string yn, .int .i64 yk, .int .i64 yv, .float .f64 yf, .string ys, .slice yA ym yc, .int .i64 yN, .bool yb, .int .u64 (ya : Nat)] 72)).drew := ⟨_, rfl⟩
 have hq2 : Below W1.heap.size W1 W2 := by rw [hW2]; exact below_drew ((Below.refl _ _).alloc (Nat.le_refl _) _)
 have hz2 : W2.heap.size = w.heap.size + 2 := by rw [hW2]; simp [hz1]
 have ht2 : W2.heap[W1.heap.size]? = some (.cells #[.int .u64 (yi : Nat), .string yn, .int .i64 yk, .int .i64 yv, .float .f64 yf, .string ys, .slice yA ym yc, .int .i64 yN, .bool yb, .int .u64 (ya : Nat)] 72 (0, 0)) := by rw [hW2]; exact heap_alloc_new _ _
 have HB2 := Lib.hid (hb1.trans (hq2.mono hb1.size)); have HQ2 := Lib.hid hq2; have HZ1 := Lib.hid hz1; have HZ2 := Lib.hid hz2; have HT2 := Lib.hid ht2; have HGL := Lib.hid hgl
 have H0 := Lib.hid h
 have HBW := Lib.hid hb1
 have HSW : Hid (∀ W, Below W1.heap.size W1 W → ∀ y, W1.heap.size ≤ y → Below W1.heap.size W1 W) := Lib.hid fun W hW _ _ => hW
 unfold evCells at hW1
 replace hW1 := Lib.hid hW1; replace hW2 := Lib.hid hW2
 clear h hb1 hx1 hq2 ht2 hgl hz1 hz2 HL
 unfold evCells
 go_enter Tryz.func51, Tryz.ntmps51
 go_upto_region 1 with fail
 rw [← hW1.out]
 refine wp_region_noPanic ?_
 refine wp_region_held_drew (S := (fun W => W.cell? ⟨g, 0, none⟩ = some (.map (some bt)) ∧ W.cell? ⟨w.heap.size, 1, none⟩ = some (.int .u64 (id : Nat)) ∧ (Instr.lookup 63 (.map (some bt)) (.int .u64 (id : Nat)) true).run Tryz.prog W = .ok (.tuple #[.agg #[.int .u64 (yi : Nat), .string yn, .int .i64 yk, .int .i64 yv, .float .f64 yf, .string ys, .slice yA ym yc, .int .i64 yN, .bool yb, .int .u64 (ya : Nat)], .bool okb]) W)) (by kernel_rfl) ?_ (fun hHeld => ?_)
 ·exact KS.out _ (below_drew (Below.refl _ _))
 refine tk 0 rfl ?_
 try simp only [ap]
 refine tk 1 rfl ?_
 try simp only [ap]
 refine tk 2 rfl ?_
 try simp only [ap]
 refine tk 3 rfl ?_
 try simp only [ap]
 refine tk 4 rfl ?_
 try simp only [ap]
 refine tk 5 rfl ?_
 try simp only [ap]
 refine tk 6 rfl ?_
 try simp only [ap]
 refine tk 7 rfl ?_
 try simp only [ap]
 refine tk 8 rfl ?_
 try simp only [ap]
 refine tk 9 rfl ?_
 try simp only [ap]
 refine wpAnyH_ready (rs := [10]) (by kernel_rfl) (by simp) ?_
 refine cons_drop rfl (fun K hK => ?_) AllReadyH.nil
 go_simp
 refine hK.out _ _ (KS.out _ ((below_drew (Below.refl _ _)).alloc (Nat.le_refl _) _)) (fun hHeld2 => ?_)
 clear hK K hHeld
 try simp only [ap]
 refine wpAnyH_ready (rs := [11]) (by kernel_rfl) (by simp) ?_
 refine cons_drop rfl (fun K hK => ?_) AllReadyH.nil
 go_simp
 refine hK.out _ _ (KS.out _ (below_drew ((Below.refl _ _).alloc (Nat.le_refl _) _))) (fun hHeld3 => ?_)
 clear hK K hHeld2
 try simp only [ap]
 refine wpAnyH_ready (rs := [12]) (by kernel_rfl) (by simp) ?_
 refine cons_drop rfl (fun K hK => ?_) AllReadyH.nil
 go_simp
 refine hK.out _ _ (KS.out _ (below_drew ((Below.refl _ _).alloc (Nat.le_refl _) _))) (fun hHeld4 => ?_)
 clear hK K hHeld3
 try simp only [ap]
 refine wpAnyH_done (by kernel_rfl) ?_ _
 refine NoPanic.normal ?_
 clear hHeld4
 rw [← hW2.out]
 have h := HST.out W2 HQ2.out
 obtain ⟨c0, c1, c2, c3, c4, f0, f1, f2, f3, f4⟩ := st_cells h.blk
 obtain ⟨e0, e1, e2, e3, e4, e5, e6, e7, e8, e9, e10⟩ := Ev.EBox.cells (HE.out W2 HQ2.out)
 dsimp only at e0 e1 e2 e3 e4 e5
 obtain ⟨t0, t1, t2, t3, t4, t5, t6, t7, t8, t9, tf⟩ := t_cells HT2.out
 obtain ⟨h3, hc3⟩ := h.cell 4 (.int .i64 9) { s with closed := 9 } rfl rfl rfl rfl
 obtain ⟨W3, hW3⟩ : ∃ W3, W3 = W2.setCell ⟨g, 4, none⟩ (.int .i64 9) := ⟨_, rfl⟩
 rw [← hW3] at h3 hc3
 obtain ⟨w4, hclr, hm4, hturn4⟩ := h3.maps.tasks.clear 0
 obtain ⟨h4, hc4⟩ := h3.turnT hturn4 (hm4.mono (Nat.zero_le n)) (Nat.le_refl _)
 obtain ⟨w5, hclr5, hm5, hturn5⟩ := h4.maps.timers.clear 0
 obtain ⟨h5, hc5⟩ := h4.turnM hturn5 (hm5.mono (Nat.zero_le n)) (Nat.le_refl _)
 have HSD := Lib.hid h5; have HCD := Lib.hid ((((Chg.of_below HB2.out).trans hc3).trans hc4).trans hc5)
 obtain ⟨i0, i1, i2, i3, i4, -, -, -, -, -⟩ := st_cells h4.blk
 obtain ⟨j0, j1, j2, j3, j4, -, -, -, -, -⟩ := st_cells h3.blk
 clear h3 hc3 hm4 hturn4 h4 hc4 hm5 hturn5 h5 hc5
 go_upto_region 39 with fail
 rw [← hW3]
 replace hW3 := Lib.hid hW3
 clear h c0 c1 c2 c3 c4 f0 f1 f2 f3 f4 e0 e1 e2 e3 e4 e5 e6 e7 e8 e9 e10 t0 t1 t2 t3 t4 t5 t6 t7 t8 t9 tf
 go_wp2_with fail
 go_ret
 have HX : applyM now alone ⟨9, id, en, at', name, text, ev⟩ s = if alone = true then some { s with closed := 9, tasks := [], timers := [] } else none := by simp [applyM]
 refine ⟨HCD.out, ?_⟩
 rw [HX]
 cases alone with
 | true => exact ⟨rfl, HSD.out.mono (Nat.le_succ _)⟩
 | false => rfl

set_option maxRecDepth 100000 in
set_option maxHeartbeats 4000000 in
theorem apply10 (g bt bm bk : Nat) (s : ST) (h : SAt Y w g bt bm bk n s) (e : EV) (he : EvOk e) (hk : e.k = 10) (vk vn : Int) (vf : Nat) (vs : ByteArray) (A : Option Addr) (m c : Nat) (now : Nat) (alone : Bool) :
  Calls Tryz.prog 51 #[.pointer (some ⟨g, 0, none⟩), .agg (evCells e vk vn vf vs A m c), .int .u64 (now : Nat), .bool alone] w (AOut Y w g bt bm bk n (applyM now alone e s)) := by
 obtain ⟨k, id, en, at', name, text, ev⟩ := e
 obtain rfl : k = 10 := hk
 have hi := he.f.i1
 dsimp only at hi
 obtain ⟨yi, yn, yk, yv, yf, ys, yA, ym, yc, yN, yb, ya, okb, hl⟩ := h.maps.tasks.any id hi
 have HL : Hid (∀ W, W.heap[bt]? = w.heap[bt]? → (Instr.lookup 63 (.map (some bt)) (.int .u64 (id : Nat)) true).run Tryz.prog W = .ok (.tuple #[.agg #[.int .u64 (yi : Nat), .string yn, .int .i64 yk, .int .i64 yv, .float .f64 yf, .string ys, .slice yA ym yc, .int .i64 yN, .bool yb, .int .u64 (ya : Nat)], .bool okb]) W) := Lib.hid hl
 clear hl
 obtain ⟨W1, hW1⟩ : ∃ W1, W1 = w.alloc (.cells (evCells ⟨10, id, en, at', name, text, ev⟩ vk vn vf vs A m c) 53) := ⟨_, rfl⟩
 have hb1 : Below w.heap.size w W1 := by rw [hW1]; exact (Below.refl _ _).alloc (Nat.le_refl _) _
 have hz1 : W1.heap.size = w.heap.size + 1 := by rw [hW1]; simp
 have hx1 : Ev.EBox W1 w.heap.size (evCells ⟨10, id, en, at', name, text, ev⟩ vk vn vf vs A m c) := by rw [hW1]; exact heap_alloc_new _ _
 have hgl : g < w.heap.size := (Array.getElem?_eq_some_iff.1 h.blk).1
 have HE : Hid (∀ W, Below W1.heap.size W1 W → Ev.EBox W w.heap.size (evCells ⟨10, id, en, at', name, text, ev⟩ vk vn vf vs A m c)) := Lib.hid fun W hW => (hW.block _ (by omega)).trans hx1
 have HST : Hid (∀ W, Below W1.heap.size W1 W → SAt Y W g bt bm bk n s) := Lib.hid fun W hW => h.later (hb1.trans (hW.mono hb1.size))
 have KS : Hid (∀ W, Below W1.heap.size W1 W → (fun W => W.cell? ⟨g, 0, none⟩ = some (.map (some bt)) ∧ W.cell? ⟨w.heap.size, 1, none⟩ = some (.int .u64 (id : Nat)) ∧ (Instr.lookup 63 (.map (some bt)) (.int .u64 (id : Nat)) true).run Tryz.prog W = .ok (.tuple #[.agg #[.int .u64 (yi : Nat), .string yn, .int .i64 yk, .int .i64 yv, .float .f64 yf, .string ys, .slice yA ym yc, .int .i64 yN, .bool yb, .int .u64 (ya : Nat)], .bool okb]) W) W) := Lib.hid fun W hW => ⟨(st_cells (HST.out W hW).blk).1, (Ev.EBox.cells (HE.out W hW)).2.1, HL.out W ((hb1.trans (hW.mono hb1.size)).block _ h.maps.tasks.lt)⟩
 obtain ⟨W2, hW2⟩ : ∃ W2, W2 = (W1.alloc (.cells #[.int .u64 (yi : Nat), .string yn, .int .i64 yk, .int .i64 yv, .float .f64 yf, .string ys, .slice yA ym yc, .int .i64 yN, .bool yb, .int .u64 (ya : Nat)] 72)).drew := ⟨_, rfl⟩
 have hq2 : Below W1.heap.size W1 W2 := by rw [hW2]; exact below_drew ((Below.refl _ _).alloc (Nat.le_refl _) _)
 have hz2 : W2.heap.size = w.heap.size + 2 := by rw [hW2]; simp [hz1]
 have ht2 : W2.heap[W1.heap.size]? = some (.cells #[.int .u64 (yi : Nat), .string yn, .int .i64 yk, .int .i64 yv, .float .f64 yf, .string ys, .slice yA ym yc, .int .i64 yN, .bool yb, .int .u64 (ya : Nat)] 72 (0, 0)) := by rw [hW2]; exact heap_alloc_new _ _
 have HB2 := Lib.hid (hb1.trans (hq2.mono hb1.size)); have HQ2 := Lib.hid hq2; have HZ1 := Lib.hid hz1; have HZ2 := Lib.hid hz2; have HT2 := Lib.hid ht2; have HGL := Lib.hid hgl
 have H0 := Lib.hid h
 have HBW := Lib.hid hb1
 have HSW : Hid (∀ W, Below W1.heap.size W1 W → ∀ y, W1.heap.size ≤ y → Below W1.heap.size W1 W) := Lib.hid fun W hW _ _ => hW
 unfold evCells at hW1
 replace hW1 := Lib.hid hW1; replace hW2 := Lib.hid hW2
 clear h hb1 hx1 hq2 ht2 hgl hz1 hz2 HL
 unfold evCells
 go_enter Tryz.func51, Tryz.ntmps51
 go_upto_region 1 with fail
 rw [← hW1.out]
 refine wp_region_noPanic ?_
 refine wp_region_held_drew (S := (fun W => W.cell? ⟨g, 0, none⟩ = some (.map (some bt)) ∧ W.cell? ⟨w.heap.size, 1, none⟩ = some (.int .u64 (id : Nat)) ∧ (Instr.lookup 63 (.map (some bt)) (.int .u64 (id : Nat)) true).run Tryz.prog W = .ok (.tuple #[.agg #[.int .u64 (yi : Nat), .string yn, .int .i64 yk, .int .i64 yv, .float .f64 yf, .string ys, .slice yA ym yc, .int .i64 yN, .bool yb, .int .u64 (ya : Nat)], .bool okb]) W)) (by kernel_rfl) ?_ (fun hHeld => ?_)
 ·exact KS.out _ (below_drew (Below.refl _ _))
 refine tk 0 rfl ?_
 try simp only [ap]
 refine tk 1 rfl ?_
 try simp only [ap]
 refine tk 2 rfl ?_
 try simp only [ap]
 refine tk 3 rfl ?_
 try simp only [ap]
 refine tk 4 rfl ?_
 try simp only [ap]
 refine tk 5 rfl ?_
 try simp only [ap]
 refine tk 6 rfl ?_
 try simp only [ap]
 refine tk 7 rfl ?_
 try simp only [ap]
 refine tk 8 rfl ?_
 try simp only [ap]
 refine tk 9 rfl ?_
 try simp only [ap]
 refine wpAnyH_ready (rs := [10]) (by kernel_rfl) (by simp) ?_
 refine cons_drop rfl (fun K hK => ?_) AllReadyH.nil
 go_simp
 refine hK.out _ _ (KS.out _ ((below_drew (Below.refl _ _)).alloc (Nat.le_refl _) _)) (fun hHeld2 => ?_)
 clear hK K hHeld
 try simp only [ap]
 refine wpAnyH_ready (rs := [11]) (by kernel_rfl) (by simp) ?_
 refine cons_drop rfl (fun K hK => ?_) AllReadyH.nil
 go_simp
 refine hK.out _ _ (KS.out _ (below_drew ((Below.refl _ _).alloc (Nat.le_refl _) _))) (fun hHeld3 => ?_)
 clear hK K hHeld2
 try simp only [ap]
 refine wpAnyH_ready (rs := [12]) (by kernel_rfl) (by simp) ?_
 refine cons_drop rfl (fun K hK => ?_) AllReadyH.nil
 go_simp
 refine hK.out _ _ (KS.out _ (below_drew ((Below.refl _ _).alloc (Nat.le_refl _) _))) (fun hHeld4 => ?_)
 clear hK K hHeld3
 try simp only [ap]
 refine wpAnyH_done (by kernel_rfl) ?_ _
 refine NoPanic.normal ?_
 clear hHeld4
 rw [← hW2.out]
 have h := HST.out W2 HQ2.out
 obtain ⟨c0, c1, c2, c3, c4, f0, f1, f2, f3, f4⟩ := st_cells h.blk
 obtain ⟨e0, e1, e2, e3, e4, e5, e6, e7, e8, e9, e10⟩ := Ev.EBox.cells (HE.out W2 HQ2.out)
 dsimp only at e0 e1 e2 e3 e4 e5
 obtain ⟨t0, t1, t2, t3, t4, t5, t6, t7, t8, t9, tf⟩ := t_cells HT2.out
 obtain ⟨h3, hc3⟩ := h.cell 4 (.int .i64 10) { s with closed := 10 } rfl rfl rfl rfl
 obtain ⟨W3, hW3⟩ : ∃ W3, W3 = W2.setCell ⟨g, 4, none⟩ (.int .i64 10) := ⟨_, rfl⟩
 rw [← hW3] at h3 hc3
 obtain ⟨w4, hclr, hm4, hturn4⟩ := h3.maps.tasks.clear 0
 obtain ⟨h4, hc4⟩ := h3.turnT hturn4 (hm4.mono (Nat.zero_le n)) (Nat.le_refl _)
 obtain ⟨w5, hclr5, hm5, hturn5⟩ := h4.maps.timers.clear 0
 obtain ⟨h5, hc5⟩ := h4.turnM hturn5 (hm5.mono (Nat.zero_le n)) (Nat.le_refl _)
 have HSD := Lib.hid h5; have HCD := Lib.hid ((((Chg.of_below HB2.out).trans hc3).trans hc4).trans hc5)
 obtain ⟨i0, i1, i2, i3, i4, -, -, -, -, -⟩ := st_cells h4.blk
 obtain ⟨j0, j1, j2, j3, j4, -, -, -, -, -⟩ := st_cells h3.blk
 clear h3 hc3 hm4 hturn4 h4 hc4 hm5 hturn5 h5 hc5
 go_upto_region 39 with fail
 rw [← hW3]
 replace hW3 := Lib.hid hW3
 clear h c0 c1 c2 c3 c4 f0 f1 f2 f3 f4 e0 e1 e2 e3 e4 e5 e6 e7 e8 e9 e10 t0 t1 t2 t3 t4 t5 t6 t7 t8 t9 tf
 go_wp2_with fail
 go_ret
 have HX : applyM now alone ⟨10, id, en, at', name, text, ev⟩ s = if alone = true then some { s with closed := 10, tasks := [], timers := [] } else none := by simp [applyM]
 refine ⟨HCD.out, ?_⟩
 rw [HX]
 cases alone with
 | true => exact ⟨rfl, HSD.out.mono (Nat.le_succ _)⟩
 | false => rfl

set_option maxRecDepth 100000 in
set_option maxHeartbeats 4000000 in
theorem apply11 (g bt bm bk : Nat) (s : ST) (h : SAt Y w g bt bm bk n s) (e : EV) (he : EvOk e) (hk : e.k = 11) (vk vn : Int) (vf : Nat) (vs : ByteArray) (A : Option Addr) (m c : Nat) (now : Nat) (alone : Bool) :
  Calls Tryz.prog 51 #[.pointer (some ⟨g, 0, none⟩), .agg (evCells e vk vn vf vs A m c), .int .u64 (now : Nat), .bool alone] w (AOut Y w g bt bm bk n (applyM now alone e s)) := by
 obtain ⟨k, id, en, at', name, text, ev⟩ := e
 obtain rfl : k = 11 := hk
 have hi := he.f.i1
 dsimp only at hi
 obtain ⟨yi, yn, yk, yv, yf, ys, yA, ym, yc, yN, yb, ya, okb, hl⟩ := h.maps.tasks.any id hi
 have HL : Hid (∀ W, W.heap[bt]? = w.heap[bt]? → (Instr.lookup 63 (.map (some bt)) (.int .u64 (id : Nat)) true).run Tryz.prog W = .ok (.tuple #[.agg #[.int .u64 (yi : Nat), .string yn, .int .i64 yk, .int .i64 yv, .float .f64 yf, .string ys, .slice yA ym yc, .int .i64 yN, .bool yb, .int .u64 (ya : Nat)], .bool okb]) W) := Lib.hid hl
 clear hl
 obtain ⟨W1, hW1⟩ : ∃ W1, W1 = w.alloc (.cells (evCells ⟨11, id, en, at', name, text, ev⟩ vk vn vf vs A m c) 53) := ⟨_, rfl⟩
 have hb1 : Below w.heap.size w W1 := by rw [hW1]; exact (Below.refl _ _).alloc (Nat.le_refl _) _
 have hz1 : W1.heap.size = w.heap.size + 1 := by rw [hW1]; simp
 have hx1 : Ev.EBox W1 w.heap.size (evCells ⟨11, id, en, at', name, text, ev⟩ vk vn vf vs A m c) := by rw [hW1]; exact heap_alloc_new _ _
 have hgl : g < w.heap.size := (Array.getElem?_eq_some_iff.1 h.blk).1
 have HE : Hid (∀ W, Below W1.heap.size W1 W → Ev.EBox W w.heap.size (evCells ⟨11, id, en, at', name, text, ev⟩ vk vn vf vs A m c)) := Lib.hid fun W hW => (hW.block _ (by omega)).trans hx1
 have HST : Hid (∀ W, Below W1.heap.size W1 W → SAt Y W g bt bm bk n s) := Lib.hid fun W hW => h.later (hb1.trans (hW.mono hb1.size))
 have KS : Hid (∀ W, Below W1.heap.size W1 W → (fun W => W.cell? ⟨g, 0, none⟩ = some (.map (some bt)) ∧ W.cell? ⟨w.heap.size, 1, none⟩ = some (.int .u64 (id : Nat)) ∧ (Instr.lookup 63 (.map (some bt)) (.int .u64 (id : Nat)) true).run Tryz.prog W = .ok (.tuple #[.agg #[.int .u64 (yi : Nat), .string yn, .int .i64 yk, .int .i64 yv, .float .f64 yf, .string ys, .slice yA ym yc, .int .i64 yN, .bool yb, .int .u64 (ya : Nat)], .bool okb]) W) W) := Lib.hid fun W hW => ⟨(st_cells (HST.out W hW).blk).1, (Ev.EBox.cells (HE.out W hW)).2.1, HL.out W ((hb1.trans (hW.mono hb1.size)).block _ h.maps.tasks.lt)⟩
 obtain ⟨W2, hW2⟩ : ∃ W2, W2 = (W1.alloc (.cells #[.int .u64 (yi : Nat), .string yn, .int .i64 yk, .int .i64 yv, .float .f64 yf, .string ys, .slice yA ym yc, .int .i64 yN, .bool yb, .int .u64 (ya : Nat)] 72)).drew := ⟨_, rfl⟩
 have hq2 : Below W1.heap.size W1 W2 := by rw [hW2]; exact below_drew ((Below.refl _ _).alloc (Nat.le_refl _) _)
 have hz2 : W2.heap.size = w.heap.size + 2 := by rw [hW2]; simp [hz1]
 have ht2 : W2.heap[W1.heap.size]? = some (.cells #[.int .u64 (yi : Nat), .string yn, .int .i64 yk, .int .i64 yv, .float .f64 yf, .string ys, .slice yA ym yc, .int .i64 yN, .bool yb, .int .u64 (ya : Nat)] 72 (0, 0)) := by rw [hW2]; exact heap_alloc_new _ _
 have HB2 := Lib.hid (hb1.trans (hq2.mono hb1.size)); have HQ2 := Lib.hid hq2; have HZ1 := Lib.hid hz1; have HZ2 := Lib.hid hz2; have HT2 := Lib.hid ht2; have HGL := Lib.hid hgl
 have H0 := Lib.hid h
 have HBW := Lib.hid hb1
 have HSW : Hid (∀ W, Below W1.heap.size W1 W → ∀ y, W1.heap.size ≤ y → Below W1.heap.size W1 W) := Lib.hid fun W hW _ _ => hW
 unfold evCells at hW1
 replace hW1 := Lib.hid hW1; replace hW2 := Lib.hid hW2
 clear h hb1 hx1 hq2 ht2 hgl hz1 hz2 HL
 unfold evCells
 go_enter Tryz.func51, Tryz.ntmps51
 go_upto_region 1 with fail
 rw [← hW1.out]
 refine wp_region_noPanic ?_
 refine wp_region_held_drew (S := (fun W => W.cell? ⟨g, 0, none⟩ = some (.map (some bt)) ∧ W.cell? ⟨w.heap.size, 1, none⟩ = some (.int .u64 (id : Nat)) ∧ (Instr.lookup 63 (.map (some bt)) (.int .u64 (id : Nat)) true).run Tryz.prog W = .ok (.tuple #[.agg #[.int .u64 (yi : Nat), .string yn, .int .i64 yk, .int .i64 yv, .float .f64 yf, .string ys, .slice yA ym yc, .int .i64 yN, .bool yb, .int .u64 (ya : Nat)], .bool okb]) W)) (by kernel_rfl) ?_ (fun hHeld => ?_)
 ·exact KS.out _ (below_drew (Below.refl _ _))
 refine tk 0 rfl ?_
 try simp only [ap]
 refine tk 1 rfl ?_
 try simp only [ap]
 refine tk 2 rfl ?_
 try simp only [ap]
 refine tk 3 rfl ?_
 try simp only [ap]
 refine tk 4 rfl ?_
 try simp only [ap]
 refine tk 5 rfl ?_
 try simp only [ap]
 refine tk 6 rfl ?_
 try simp only [ap]
 refine tk 7 rfl ?_
 try simp only [ap]
 refine tk 8 rfl ?_
 try simp only [ap]
 refine tk 9 rfl ?_
 try simp only [ap]
 refine wpAnyH_ready (rs := [10]) (by kernel_rfl) (by simp) ?_
 refine cons_drop rfl (fun K hK => ?_) AllReadyH.nil
 go_simp
 refine hK.out _ _ (KS.out _ ((below_drew (Below.refl _ _)).alloc (Nat.le_refl _) _)) (fun hHeld2 => ?_)
 clear hK K hHeld
 try simp only [ap]
 refine wpAnyH_ready (rs := [11]) (by kernel_rfl) (by simp) ?_
 refine cons_drop rfl (fun K hK => ?_) AllReadyH.nil
 go_simp
 refine hK.out _ _ (KS.out _ (below_drew ((Below.refl _ _).alloc (Nat.le_refl _) _))) (fun hHeld3 => ?_)
 clear hK K hHeld2
 try simp only [ap]
 refine wpAnyH_ready (rs := [12]) (by kernel_rfl) (by simp) ?_
 refine cons_drop rfl (fun K hK => ?_) AllReadyH.nil
 go_simp
 refine hK.out _ _ (KS.out _ (below_drew ((Below.refl _ _).alloc (Nat.le_refl _) _))) (fun hHeld4 => ?_)
 clear hK K hHeld3
 try simp only [ap]
 refine wpAnyH_done (by kernel_rfl) ?_ _
 refine NoPanic.normal ?_
 clear hHeld4
 rw [← hW2.out]
 have h := HST.out W2 HQ2.out
 obtain ⟨c0, c1, c2, c3, c4, f0, f1, f2, f3, f4⟩ := st_cells h.blk
 obtain ⟨e0, e1, e2, e3, e4, e5, e6, e7, e8, e9, e10⟩ := Ev.EBox.cells (HE.out W2 HQ2.out)
 dsimp only at e0 e1 e2 e3 e4 e5
 obtain ⟨t0, t1, t2, t3, t4, t5, t6, t7, t8, t9, tf⟩ := t_cells HT2.out
 obtain ⟨h3, hc3⟩ := h.cell 4 (.int .i64 11) { s with closed := 11 } rfl rfl rfl rfl
 obtain ⟨W3, hW3⟩ : ∃ W3, W3 = W2.setCell ⟨g, 4, none⟩ (.int .i64 11) := ⟨_, rfl⟩
 rw [← hW3] at h3 hc3
 obtain ⟨w4, hclr, hm4, hturn4⟩ := h3.maps.tasks.clear 0
 obtain ⟨h4, hc4⟩ := h3.turnT hturn4 (hm4.mono (Nat.zero_le n)) (Nat.le_refl _)
 obtain ⟨w5, hclr5, hm5, hturn5⟩ := h4.maps.timers.clear 0
 obtain ⟨h5, hc5⟩ := h4.turnM hturn5 (hm5.mono (Nat.zero_le n)) (Nat.le_refl _)
 have HSD := Lib.hid h5; have HCD := Lib.hid ((((Chg.of_below HB2.out).trans hc3).trans hc4).trans hc5)
 obtain ⟨i0, i1, i2, i3, i4, -, -, -, -, -⟩ := st_cells h4.blk
 obtain ⟨j0, j1, j2, j3, j4, -, -, -, -, -⟩ := st_cells h3.blk
 clear h3 hc3 hm4 hturn4 h4 hc4 hm5 hturn5 h5 hc5
 go_upto_region 39 with fail
 rw [← hW3]
 replace hW3 := Lib.hid hW3
 clear h c0 c1 c2 c3 c4 f0 f1 f2 f3 f4 e0 e1 e2 e3 e4 e5 e6 e7 e8 e9 e10 t0 t1 t2 t3 t4 t5 t6 t7 t8 t9 tf
 go_wp2_with fail
 go_ret
 have HX : applyM now alone ⟨11, id, en, at', name, text, ev⟩ s = if alone = true then some { s with closed := 11, tasks := [], timers := [] } else none := by simp [applyM]
 refine ⟨HCD.out, ?_⟩
 rw [HX]
 cases alone with
 | true => exact ⟨rfl, HSD.out.mono (Nat.le_succ _)⟩
 | false => rfl

end Hi
end Go.Proofs.YtkajcldmolcllaaGreat
namespace Go.Proofs.YtkajcldmolcllaaGreat
namespace Hi
open Nm (ret_int ret_bool)
open Vt (VT Rep below_drew Cloned)
open Ev (EV FieldsOk evCells vCells take_drop tk ap cons_drop)
open Cm (EvsIn)
variable {X X' Y : Nat → Prop} {u v w w' V V' : World} {b n : Nat} {ts : List TK} {l : List (Nat × Nat)} {ks : List ByteArray}

set_option maxRecDepth 100000 in
set_option maxHeartbeats 4000000 in
theorem apply7 (g bt bm bk : Nat) (s : ST) (h : SAt Y w g bt bm bk n s) (e : EV) (he : EvOk e) (hk : e.k = 7) (vk vn : Int) (vf : Nat) (vs : ByteArray) (A : Option Addr) (m c : Nat) (now : Nat) (alone : Bool) (hn : n < 17592186044416) (hx : s.next < 1152921504606846976) (hf : Fine s) (hY : ∀ b, Y b → b < w.heap.size) (lo hi' : Nat) (hv : Rep w lo hi' e.v (vCells vk vn vf vs A m c)) (hhi : hi' ≤ w.heap.size) (hlow : hi' ≤ g ∧ hi' ≤ bt ∧ hi' ≤ bm ∧ hi' ≤ bk) (hnow : now < 18446744073709551616) :
  Calls Tryz.prog 51 #[.pointer (some ⟨g, 0, none⟩), .agg (evCells e vk vn vf vs A m c), .int .u64 (now : Nat), .bool alone] w (AOut Y w g bt bm bk n (applyM now alone e s)) := by
 obtain ⟨k, id, en, at', name, text, ev⟩ := e
 obtain rfl : k = 7 := hk
 have hi := he.f.i1
 dsimp only at hi
 have hsl := he.slim
 have hs1 := he.f.s1
 dsimp only at hsl hs1
 have HF := Lib.hid hf; have HYY := Lib.hid hY; have HV0 := Lib.hid hv; have HLW := Lib.hid hlow
 clear hY hv hlow
 obtain ⟨yi, yn, yk, yv, yf, ys, yA, ym, yc, yN, yb, ya, okb, hl⟩ := h.maps.tasks.any id hi
 have HL : Hid (∀ W, W.heap[bt]? = w.heap[bt]? → (Instr.lookup 63 (.map (some bt)) (.int .u64 (id : Nat)) true).run Tryz.prog W = .ok (.tuple #[.agg #[.int .u64 (yi : Nat), .string yn, .int .i64 yk, .int .i64 yv, .float .f64 yf, .string ys, .slice yA ym yc, .int .i64 yN, .bool yb, .int .u64 (ya : Nat)], .bool okb]) W) := Lib.hid hl
 clear hl
 obtain ⟨W1, hW1⟩ : ∃ W1, W1 = w.alloc (.cells (evCells ⟨7, id, en, at', name, text, ev⟩ vk vn vf vs A m c) 53) := ⟨_, rfl⟩
 have hb1 : Below w.heap.size w W1 := by rw [hW1]; exact (Below.refl _ _).alloc (Nat.le_refl _) _
 have hz1 : W1.heap.size = w.heap.size + 1 := by rw [hW1]; simp
 have hx1 : Ev.EBox W1 w.heap.size (evCells ⟨7, id, en, at', name, text, ev⟩ vk vn vf vs A m c) := by rw [hW1]; exact heap_alloc_new _ _
 have hgl : g < w.heap.size := (Array.getElem?_eq_some_iff.1 h.blk).1
 have HE : Hid (∀ W, Below W1.heap.size W1 W → Ev.EBox W w.heap.size (evCells ⟨7, id, en, at', name, text, ev⟩ vk vn vf vs A m c)) := Lib.hid fun W hW => (hW.block _ (by omega)).trans hx1
 have HST : Hid (∀ W, Below W1.heap.size W1 W → SAt Y W g bt bm bk n s) := Lib.hid fun W hW => h.later (hb1.trans (hW.mono hb1.size))
 have KS : Hid (∀ W, Below W1.heap.size W1 W → (fun W => W.cell? ⟨g, 0, none⟩ = some (.map (some bt)) ∧ W.cell? ⟨w.heap.size, 1, none⟩ = some (.int .u64 (id : Nat)) ∧ (Instr.lookup 63 (.map (some bt)) (.int .u64 (id : Nat)) true).run Tryz.prog W = .ok (.tuple #[.agg #[.int .u64 (yi : Nat), .string yn, .int .i64 yk, .int .i64 yv, .float .f64 yf, .string ys, .slice yA ym yc, .int .i64 yN, .bool yb, .int .u64 (ya : Nat)], .bool okb]) W) W) := Lib.hid fun W hW => ⟨(st_cells (HST.out W hW).blk).1, (Ev.EBox.cells (HE.out W hW)).2.1, HL.out W ((hb1.trans (hW.mono hb1.size)).block _ h.maps.tasks.lt)⟩
 obtain ⟨W2, hW2⟩ : ∃ W2, W2 = (W1.alloc (.cells #[.int .u64 (yi : Nat), .string yn, .int .i64 yk, .int .i64 yv, .float .f64 yf, .string ys, .slice yA ym yc, .int .i64 yN, .bool yb, .int .u64 (ya : Nat)] 72)).drew := ⟨_, rfl⟩
 have hq2 : Below W1.heap.size W1 W2 := by rw [hW2]; exact below_drew ((Below.refl _ _).alloc (Nat.le_refl _) _)
 have hz2 : W2.heap.size = w.heap.size + 2 := by rw [hW2]; simp [hz1]
 have ht2 : W2.heap[W1.heap.size]? = some (.cells #[.int .u64 (yi : Nat), .string yn, .int .i64 yk, .int .i64 yv, .float .f64 yf, .string ys, .slice yA ym yc, .int .i64 yN, .bool yb, .int .u64 (ya : Nat)] 72 (0, 0)) := by rw [hW2]; exact heap_alloc_new _ _
 have HB2 := Lib.hid (hb1.trans (hq2.mono hb1.size)); have HQ2 := Lib.hid hq2; have HZ1 := Lib.hid hz1; have HZ2 := Lib.hid hz2; have HT2 := Lib.hid ht2; have HGL := Lib.hid hgl
 have H0 := Lib.hid h
 have HBW := Lib.hid hb1
 have HSW : Hid (∀ W, Below W1.heap.size W1 W → ∀ y, W1.heap.size ≤ y → Below W1.heap.size W1 W) := Lib.hid fun W hW _ _ => hW
 unfold evCells at hW1
 replace hW1 := Lib.hid hW1; replace hW2 := Lib.hid hW2
 clear h hb1 hx1 hq2 ht2 hgl hz1 hz2 HL
 unfold evCells
 go_enter Tryz.func51, Tryz.ntmps51
 go_upto_region 1 with fail
 rw [← hW1.out]
 refine wp_region_noPanic ?_
 refine wp_region_held_drew (S := (fun W => W.cell? ⟨g, 0, none⟩ = some (.map (some bt)) ∧ W.cell? ⟨w.heap.size, 1, none⟩ = some (.int .u64 (id : Nat)) ∧ (Instr.lookup 63 (.map (some bt)) (.int .u64 (id : Nat)) true).run Tryz.prog W = .ok (.tuple #[.agg #[.int .u64 (yi : Nat), .string yn, .int .i64 yk, .int .i64 yv, .float .f64 yf, .string ys, .slice yA ym yc, .int .i64 yN, .bool yb, .int .u64 (ya : Nat)], .bool okb]) W)) (by kernel_rfl) ?_ (fun hHeld => ?_)
 ·exact KS.out _ (below_drew (Below.refl _ _))
 refine tk 0 rfl ?_
 try simp only [ap]
 refine tk 1 rfl ?_
 try simp only [ap]
 refine tk 2 rfl ?_
 try simp only [ap]
 refine tk 3 rfl ?_
 try simp only [ap]
 refine tk 4 rfl ?_
 try simp only [ap]
 refine tk 5 rfl ?_
 try simp only [ap]
 refine tk 6 rfl ?_
 try simp only [ap]
 refine tk 7 rfl ?_
 try simp only [ap]
 refine tk 8 rfl ?_
 try simp only [ap]
 refine tk 9 rfl ?_
 try simp only [ap]
 refine wpAnyH_ready (rs := [10]) (by kernel_rfl) (by simp) ?_
 refine cons_drop rfl (fun K hK => ?_) AllReadyH.nil
 go_simp
 refine hK.out _ _ (KS.out _ ((below_drew (Below.refl _ _)).alloc (Nat.le_refl _) _)) (fun hHeld2 => ?_)
 clear hK K hHeld
 try simp only [ap]
 refine wpAnyH_ready (rs := [11]) (by kernel_rfl) (by simp) ?_
 refine cons_drop rfl (fun K hK => ?_) AllReadyH.nil
 go_simp
 refine hK.out _ _ (KS.out _ (below_drew ((Below.refl _ _).alloc (Nat.le_refl _) _))) (fun hHeld3 => ?_)
 clear hK K hHeld2
 try simp only [ap]
 refine wpAnyH_ready (rs := [12]) (by kernel_rfl) (by simp) ?_
 refine cons_drop rfl (fun K hK => ?_) AllReadyH.nil
 go_simp
 refine hK.out _ _ (KS.out _ (below_drew ((Below.refl _ _).alloc (Nat.le_refl _) _))) (fun hHeld4 => ?_)
 clear hK K hHeld3
 try simp only [ap]
 refine wpAnyH_done (by kernel_rfl) ?_ _
 refine NoPanic.normal ?_
 clear hHeld4
 rw [← hW2.out]
 have h := HST.out W2 HQ2.out
 obtain ⟨c0, c1, c2, c3, c4, f0, f1, f2, f3, f4⟩ := st_cells h.blk
 obtain ⟨e0, e1, e2, e3, e4, e5, e6, e7, e8, e9, e10⟩ := Ev.EBox.cells (HE.out W2 HQ2.out)
 dsimp only at e0 e1 e2 e3 e4 e5
 obtain ⟨t0, t1, t2, t3, t4, t5, t6, t7, t8, t9, tf⟩ := t_cells HT2.out
 by_cases hid2 : id = s.next
 rotate_left
 ·have kid : ((id : Int) != (s.next : Int)) = true := by simp; omega
  have HX : Hid (applyM now alone ⟨7, id, en, at', name, text, ev⟩ s = none) := Lib.hid (by simp [applyM, hid2])
  go_upto_region 31 with fail
  go_still_tail 6, (by kernel_rfl)
  go_wp2_with fail
  go_ret
  exact ⟨(Chg.of_below HB2.out).trans (Chg.of_below (below_drew (Below.refl _ _))), by rw [HX.out]; rfl⟩
 have kid : ((id : Int) != (s.next : Int)) = false := by simp; omega
 have HID := Lib.hid hid2
 obtain ⟨h3', hc3⟩ := h.cell 3 (.int .u64 ((s.next : Int) + 1)) { s with next := s.next + 1 } rfl rfl rfl rfl
 have h3 := h3'.later (below_drew (Below.refl _ _))
 obtain ⟨W3, hW3⟩ : ∃ W3, W3 = (W2.setCell ⟨g, 3, none⟩ (.int .u64 ((s.next : Int) + 1))).drew := ⟨_, rfl⟩
 replace hc3 := hc3.trans (Chg.of_below (X := XS g bt bm bk) (below_drew (Below.refl _ _)))
 clear h3'
 rw [← hW3] at h3 hc3
 have HC3 := Lib.hid ((Chg.of_below HB2.out).trans hc3)
 have hz3 : W3.heap.size = W2.heap.size := by rw [hW3]; simp [World.setCell, World.drew]
 have hx3 : Ev.EBox W3 w.heap.size (evCells ⟨7, id, en, at', name, text, ev⟩ vk vn vf vs A m c) := by
  rw [hW3]; show (W2.setCell _ _).heap[w.heap.size]? = _; exact (RowKit.Below.heap_setCell _ _ _ _ (by have := HGL.out; show w.heap.size ≠ g; omega)).trans (HE.out W2 HQ2.out)
 have HX3 := Lib.hid hx3; have H3 := Lib.hid h3; have HZ3 := Lib.hid hz3
 clear hid2 hc3 hx3 h3 hz3
 go_upto_region 31 with fail
 go_still_tail 6, (by kernel_rfl)
 go_upto_region 34 with fail
 rw [← hW3]
 replace hW3 := Lib.hid hW3
 clear h c0 c1 c2 c3 c4 f0 f1 f2 f3 f4 e0 e1 e2 e3 e4 e5 e6 e7 e8 e9 e10 t0 t1 t2 t3 t4 t5 t6 t7 t8 t9 tf
 have h := H3.out
 obtain ⟨c0, c1, c2, c3, c4, f0, f1, f2, f3, f4⟩ := st_cells h.blk
 obtain ⟨e0, e1, e2, e3, e4, e5, e6, e7, e8, e9, e10⟩ := Ev.EBox.cells HX3.out
 dsimp only at e0 e1 e2 e3 e4 e5
 have KS5 : Hid (∀ W, Below W3.heap.size W3 W → (fun W => W.cell? ⟨g, 0, none⟩ = some (.map (some bt)) ∧ W.cell? ⟨w.heap.size, 1, none⟩ = some (.int .u64 (id : Nat)) ∧ W.cell? ⟨w.heap.size, 4, none⟩ = some (.string name) ∧ W.cell? ⟨w.heap.size, 6, none⟩ = some (.int .i64 vk) ∧ W.cell? ⟨w.heap.size, 7, none⟩ = some (.int .i64 vn) ∧ W.cell? ⟨w.heap.size, 8, none⟩ = some (.float .f64 vf) ∧ W.cell? ⟨w.heap.size, 9, none⟩ = some (.string vs) ∧ W.cell? ⟨w.heap.size, 10, none⟩ = some (.slice A m c)) W) := Lib.hid fun W hW => by
  obtain ⟨q0, -⟩ := st_cells (H3.out.later hW).blk
  obtain ⟨-, z1, -, -, z4, -, z6, z7, z8, z9, z10⟩ := Ev.EBox.cells (HX3.out.later hW (by have := HZ3.out; have := HZ2.out; omega))
  exact ⟨q0, z1, z4, z6, z7, z8, z9, z10⟩
 have hvd : Rep W3.drew lo hi' ev (vCells vk vn vf vs A m c) := Rep.keep HV0.out fun b o h1 h2 => by
  obtain ⟨l1, l2, l3, l4⟩ := HLW.out
  exact World.cell?_of_block (a := ⟨b, o, none⟩) (HC3.out.block b (by omega) (fun hx => by rcases hx with rfl | rfl | rfl | rfl <;> omega))
 have HCL := Lib.hid (Vt.clone_any ev W3.drew lo hi' _ hvd (by have := HC3.out.size; show hi' ≤ W3.heap.size; omega) hsl)
 clear hvd
 unfold vCells at HCL
 go_upto_region 37 with fail
 refine wp_region_noPanic ?_
 refine wp_region_held_drew (S := (fun W => W.cell? ⟨g, 0, none⟩ = some (.map (some bt)) ∧ W.cell? ⟨w.heap.size, 1, none⟩ = some (.int .u64 (id : Nat)) ∧ W.cell? ⟨w.heap.size, 4, none⟩ = some (.string name) ∧ W.cell? ⟨w.heap.size, 6, none⟩ = some (.int .i64 vk) ∧ W.cell? ⟨w.heap.size, 7, none⟩ = some (.int .i64 vn) ∧ W.cell? ⟨w.heap.size, 8, none⟩ = some (.float .f64 vf) ∧ W.cell? ⟨w.heap.size, 9, none⟩ = some (.string vs) ∧ W.cell? ⟨w.heap.size, 10, none⟩ = some (.slice A m c))) (by kernel_rfl) ?_ (fun hHeld => ?_)
 ·exact KS5.out _ (below_drew (Below.refl _ _))
 refine tk 0 rfl ?_
 try simp only [ap]
 refine tk 1 rfl ?_
 try simp only [ap]
 refine tk 2 rfl ?_
 try simp only [ap]
 refine tk 3 rfl ?_
 try simp only [ap]
 refine tk 4 rfl ?_
 try simp only [ap]
 refine tk 5 rfl ?_
 try simp only [ap]
 refine tk 6 rfl ?_
 try simp only [ap]
 refine tk 7 rfl ?_
 try simp only [ap]
 refine tk 8 rfl ?_
 try simp only [ap]
 refine tk 9 rfl ?_
 try simp only [ap]
 refine tk 10 rfl ?_
 try simp only [ap]
 refine tk 11 rfl ?_
 try simp only [ap]
 refine tk 13 rfl ?_
 try simp only [ap]
 refine wpAnyH_ready (rs := [12]) (by kernel_rfl) (by simp) ?_
 refine cons_drop rfl (fun K hK => ?_) AllReadyH.nil
 go_simp
 (with_reducible refine HCL.out.mono ?_)
 rintro e5 w5 ⟨kq, nq, fq, sq, lq, A2, cap2, ht, rfl, hr5, hb9, -⟩
 have hq5 : Below W3.heap.size W3 w5 := (below_drew (Below.refl _ _)).trans hb9
 have hz5 := hq5.size
 have hnone : tget s.tasks id = none := by
  unfold tget
  rw [List.find?_eq_none]
  intro t ht2
  have := HF.out.below t ht2
  have := HID.out
  simp; omega
 have htr : TRep (veil (XY Y g bt bm bk) w5) ⟨id, name, ev, 0, false, now⟩ (.agg #[.int .u64 (id : Nat), .string name, .int .i64 kq, .int .i64 nq, .float .f64 fq, .string sq, .slice A2 lq.length cap2, .int .i64 0, .bool false, .int .u64 (now : Nat)]) :=
  ⟨W3.heap.size, w5.heap.size, kq, nq, fq, sq, A2, lq.length, cap2, rfl, ⟨hi, Int.le_refl 0, (by decide : (0 : Int) ≤ 2147483647), hnow, hs1⟩, Rep.keep hr5 fun b o h1 h2 => World.cell?_of_block (a := ⟨b, o, none⟩) (veil_off fun hx => by
   have h1' : W3.heap.size ≤ b := h1
   have := HC3.out.size
   have := (Array.getElem?_eq_some_iff.1 H3.out.blk).1
   have := H3.out.maps.tasks.lt; have := H3.out.maps.timers.lt; have := H3.out.maps.keys.lt
   have hx' : XY Y g bt bm bk b := hx
   rcases hx' with hx | rfl | rfl | rfl | rfl
   ·have := HYY.out b hx; omega
   all_goals omega), by rw [veil_size]; exact Nat.le_refl _⟩
 obtain ⟨wd, hput, hmd, hturn⟩ := (H3.out.later hq5).maps.tasks.put (by simp only [maxLen]; omega) htr (ts' := s.tasks ++ [⟨id, name, ev, 0, false, now⟩]) (fun q => tget_snoc hnone q)
 obtain ⟨hsd, hcd⟩ := (H3.out.later hq5).turnT hturn hmd (Nat.le_succ _)
 have hput' : (Instr.mapUpdate 63 (.map (some bt)) (.int .u64 (id : Nat)) (.agg #[.int .u64 (id : Nat), .string name, .int .i64 kq, .int .i64 nq, .float .f64 fq, .string sq, .slice A2 lq.length cap2, .int .i64 0, .bool false, .int .u64 (now : Nat)])).run Tryz.prog w5 = .ok () wd := hput
 have KWD : Hid ((fun W => W.cell? ⟨g, 0, none⟩ = some (.map (some bt)) ∧ W.cell? ⟨w.heap.size, 1, none⟩ = some (.int .u64 (id : Nat)) ∧ W.cell? ⟨w.heap.size, 4, none⟩ = some (.string name) ∧ W.cell? ⟨w.heap.size, 6, none⟩ = some (.int .i64 vk) ∧ W.cell? ⟨w.heap.size, 7, none⟩ = some (.int .i64 vn) ∧ W.cell? ⟨w.heap.size, 8, none⟩ = some (.float .f64 vf) ∧ W.cell? ⟨w.heap.size, 9, none⟩ = some (.string vs) ∧ W.cell? ⟨w.heap.size, 10, none⟩ = some (.slice A m c)) wd) := Lib.hid (by
  obtain ⟨q0, -⟩ := st_cells hsd.blk
  obtain ⟨-, z1, -, -, z4, -, z6, z7, z8, z9, z10⟩ := Ev.EBox.cells ((hturn.grown.block w.heap.size (by have := HZ3.out; have := HZ2.out; omega) (fun e => by injection e with e; have := H0.out.maps.tasks.lt; omega)).trans (HX3.out.later hq5 (by have := HZ3.out; have := HZ2.out; omega)))
  exact ⟨q0, z1, z4, z6, z7, z8, z9, z10⟩)
 have HSD := Lib.hid hsd; have HCD := Lib.hid ((HC3.out.trans (Chg.of_below hq5)).trans hcd)
 have HX : Hid (applyM now alone ⟨7, id, en, at', name, text, ev⟩ s = some { s with tasks := s.tasks ++ [⟨id, name, ev, 0, false, now⟩], next := s.next + 1 }) := Lib.hid (by simp [applyM, HID.out])
 have HQ5 := Lib.hid hq5
 clear ht hr5 hb9 hnone htr hput hmd hturn hsd hcd hq5
 go_wp2_with fail
 refine hK.out _ _ (KS5.out _ HQ5.out) (fun hHeld2 => ?_)
 clear hK K hHeld
 try simp only [ap]
 refine tk 14 rfl ?_
 try simp only [ap]
 refine wpAnyH_ready (rs := [15]) (by kernel_rfl) (by simp) ?_
 refine cons_drop rfl (fun K hK => ?_) AllReadyH.nil
 go_simp
 refine hK.out _ _ KWD.out (fun hHeld3 => ?_)
 clear hK K hHeld2
 try simp only [ap]
 refine wpAnyH_done (by kernel_rfl) ?_ _
 refine NoPanic.normal ?_
 clear hHeld3
 clear h c0 c1 c2 c3 c4 f0 f1 f2 f3 f4 e0 e1 e2 e3 e4 e5 e6 e7 e8 e9 e10
 go_wp2_with fail
 go_ret
 exact ⟨HCD.out, by rw [HX.out]; exact ⟨rfl, HSD.out⟩⟩
end Hi
end Go.Proofs.YtkajcldmolcllaaGreat
namespace Go.Proofs.YtkajcldmolcllaaGreat
namespace Cn
open Nm (bitsW ret_int ret_bool)
open Vt (VT Rep BoxAt below_drew Cloned put5 KidsAt HeadOk)
open Ev (EV FieldsOk evCells vCells EBox ERep zeroT take_drop tk ap cons_drop)
open Cm (rowOf EvsIn EvsAt EvNew evsSame evSame)

theorem outside_any (k : Int) (w : World) : Calls Tryz.prog 50 #[.int .i64 k] w fun r w' => r = .returned (.bool (decide (1 ≤ k ∧ k ≤ 6))) ∧ w = w' := by
 by_cases h : 1 ≤ k
 ·have hb : decide (1 ≤ k) = true := by simpa using h
  go_enter Tryz.func50, Tryz.ntmps50
  go_wp2_with fail
  go_ret
  exact ⟨ret_bool (by simp [h]), rfl⟩
 ·have hb : decide (1 ≤ k) = false := by simpa using h
  go_enter Tryz.func50, Tryz.ntmps50
  go_wp2_with fail
  go_ret
  exact ⟨ret_bool (by simp [h]), rfl⟩

def Asks (g : Nat) (p : EV → Bool) (es : List EV) : Prop := ∀ (e : EV) (_ : e ∈ es) (lo hi : Nat) (vk vn : Int) (vf : Nat) (vs : ByteArray) (A : Option Addr) (m c : Nat) (w : World), FieldsOk e → Rep w lo hi e.v (vCells vk vn vf vs A m c) → hi ≤ w.heap.size →
 Calls Tryz.prog g #[.agg (evCells e vk vn vf vs A m c)] w fun r w' => r = .returned (.bool (p e)) ∧ Below w.heap.size w w'

def Found (p : EV → Bool) (es : List EV) (i : Int) : Prop := (i = -1 ∧ ∀ m (h : m < es.length), p es[m] = false) ∨ ∃ n : Nat, i = n ∧ ∃ h : n < es.length, p es[n] = true ∧ ∀ m (h : m < es.length), m < n → p es[m] = false

set_option maxRecDepth 100000 in
set_option maxHeartbeats 2000000 in
theorem ifunc_any (g : Nat) (hcall : ∀ args w, (callFunc g args).run Tryz.prog w = .ok (.enter g args) w) (p : EV → Bool) (es : List EV) (hG : Asks g p es) (A : Option Addr) (cap : Nat) (w : World) (h : EvsIn w A cap es) :
  Calls Tryz.prog 68 #[.slice A es.length cap, .func (.func g) #[] #[]] w fun r w' => ∃ i, r = .returned (.int .i64 i) ∧ Found p es i ∧ Below w.heap.size w w' := by
 have hl := h.le
 have hc := h.cap_le
 simp only [maxLen] at hc
 have HK := Lib.hid h; clear h
 have HG := Lib.hid hG; clear hG
 go_enter Tryz.func68, Tryz.ntmps68
 go_wp2_with fail
 go_loopw [4, 8] (fun o i wr => ∃ (j : Nat), j ≤ es.length ∧ i = .int .i64 j ∧ o = .int .i64 0 ∧ (∀ m (h : m < es.length), m < j → p es[m] = false) ∧ Below w.heap.size w wr) (fun _ i _ => es.length - (intOf i).toNat)
 case atStart => exact ⟨0, by omega, rfl, rfl, fun m _ h => absurd h (by omega), Below.refl _ _⟩
 case round =>
  obtain ⟨j, hj, rfl, rfl, hno, hb⟩ := hrel
  have HNO := Lib.hid hno; have HB := Lib.hid hb
  clear hno hb
  by_cases hlt : j < es.length
  ·obtain ⟨b, off, lo, hi, vk, vn, vf, vs, A', m, c, rfl, hbl, hf, hv, hhi, d0, d1, d2, d3, d4, d5, d6, d7, d8, d9, d10⟩ := (HK.out.later HB.out).get j hlt
   have HC := Lib.hid (HG.out es[j] (List.getElem_mem hlt) lo hi vk vn vf vs A' m c wr hf hv hhi)
   unfold evCells at HC
   clear hf hv
   go_wp2_with fail
   refine HC.out.mono ?_
   rintro x w1 ⟨rfl, hb1⟩
   have HB1 := Lib.hid (HB.out.trans (hb1.mono HB.out.size))
   clear hb1 d0 d1 d2 d3 d4 d5 d6 d7 d8 d9 d10 HC
   cases hp : p es[j] with
   | true =>
    have HP := Lib.hid hp; clear hp
    go_wp2_with fail
    go_ret
    exact ⟨_, rfl, .inr ⟨j, rfl, hlt, HP.out, HNO.out⟩, HB1.out⟩
   | false =>
    have HP := Lib.hid hp; clear hp
    go_wp2_with fail
    go_roundw
    case rel => exact ⟨j + 1, by omega, by go_num, rfl, fun m h hm => by
     rcases Nat.lt_or_ge m j with q | q
     ·exact HNO.out m h q
     ·obtain rfl : m = j := by omega
      exact HP.out, HB1.out⟩
    case measure => simp [intOf]; omega
  ·have hj' : j = es.length := by omega
   subst hj'
   go_wp2_with fail
   go_ret
   exact ⟨_, rfl, .inl ⟨rfl, fun m h => HNO.out m h h⟩, HB.out⟩

end Cn
end Go.Proofs.YtkajcldmolcllaaGreat
namespace Go.Proofs.YtkajcldmolcllaaGreat
namespace Cn
open Nm (bitsW ret_int ret_bool)
open Vt (VT Rep BoxAt below_drew Cloned put5 KidsAt HeadOk)
open Ev (EV FieldsOk evCells vCells EBox ERep zeroT take_drop tk ap cons_drop)
open Cm (rowOf EvsIn EvsAt EvNew evsSame evSame)

def wrongE (e : EV) : Bool := !e.valid
theorem found_any {p : EV → Bool} {es : List EV} {i : Int} (h : Found p es i) : decide (0 ≤ i) = es.any p := by
 rcases h with ⟨rfl, h⟩ | ⟨n, rfl, hn, hp, -⟩
 ·have : es.any p = false := by
   rw [List.any_eq_false]
   intro e he
   obtain ⟨m, hm, rfl⟩ := List.getElem_of_mem he
   simp [h m hm]
  rw [this]; rfl
 ·have : es.any p = true := List.any_eq_true.2 ⟨_, List.getElem_mem hn, hp⟩
  rw [this]; simp

theorem contains_any (g : Nat) (hcall : ∀ args w, (callFunc g args).run Tryz.prog w = .ok (.enter g args) w) (p : EV → Bool) (es : List EV) (hG : Asks g p es) (A : Option Addr) (cap : Nat) (w : World) (h : EvsIn w A cap es) :
  Calls Tryz.prog 46 #[.slice A es.length cap, .func (.func g) #[] #[]] w fun r w' => r = .returned (.bool (es.any p)) ∧ Below w.heap.size w w' := by
 have HI := Lib.hid (ifunc_any g hcall p es hG A cap w h)
 clear h hG
 go_enter Tryz.func46, Tryz.ntmps46
 go_wp2_with fail
 refine HI.out.mono ?_
 rintro x w1 ⟨i, rfl, hfound, hb1⟩
 have HB1 := Lib.hid hb1
 have HF := Lib.hid (found_any hfound)
 clear hb1 hfound
 go_wp2_with fail
 go_ret
 exact ⟨ret_bool (by rw [← HF.out]), HB1.out⟩

end Cn
end Go.Proofs.YtkajcldmolcllaaGreat
