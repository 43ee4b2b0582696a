/- What an event does to a state: a failure behind which it is tried again. -/
import Derived.Test.YtfmnacebgplpcaaGreatIoae
import Derived.Test.YtfmnacebgplpcaaGreatIoad
import Derived.Test.YtfmnacebgplpcaaGreatIoab
import Derived.StillTailTactics
set_option linter.unusedVariables false
set_option linter.unusedSimpArgs false
open Go.RowKit
namespace Go.Proofs.YtfmnacebgplpcaaGreat
namespace Hi
open Nm (ret_int ret_bool)
open Vt (VT Rep below_drew Cloned)
open Ev (EV FieldsOk evCells vCells take_drop tk ap rd1 rd2 cons_drop)
open Cm (EvsIn)
variable {X X' Y : Nat → Prop} {u v w w' V V' : World} {b n : Nat} {ts : List TK} {l : List (Nat × Nat)} {ks : List ByteArray}

theorem M11 {p : Prop} (h : p := by
 obtain ⟨W3, hW3⟩ : ∃ W3, W3 = ((W2.setCell ⟨W1.heap.size, 9, none⟩ (.int .u64 (at' : Nat))).setCell ⟨W1.heap.size, 8, none⟩ (.bool false)) := ⟨_, rfl⟩
 have hq3 : Below W1.heap.size W1 W3 := by rw [hW3]; exact ((HQ2.out).setCell (Nat.le_refl _) _).setCell (Nat.le_refl _) _
 have ht3 : W3.heap[W1.heap.size]? = some (.cells #[.int .u64 (yi : Nat), .string yn, .int .i64 yk, .int .i64 yv, .float .f64 yf, .string ys, .slice yA ym yc, .int .i64 yN, .bool false, .int .u64 (at' : Nat)] 132 (0, 0)) := by
  have := HT2.out
  rw [hW3]; show ((W2.setCell ⟨W1.heap.size, 9, none⟩ (.int .u64 (at' : Nat))).setCell ⟨W1.heap.size, 8, none⟩ (.bool false)).heap[W1.heap.size]? = _; simp [World.setCell, Array.getElem?_modify, this]
 have h3 := HST.out W3 hq3
 have hdw : Below W1.heap.size W1 W3.drew := below_drew hq3
 obtain ⟨wd, hput, -⟩ := (HST.out W3.drew hdw).maps.tasks.raw (by simp only [maxLen]; omega) id hi (.agg #[.int .u64 (yi : Nat), .string yn, .int .i64 yk, .int .i64 yv, .float .f64 yf, .string ys, .slice yA ym yc, .int .i64 yN, .bool false, .int .u64 (at' : Nat)])
 have HH3 := Lib.hid h3; have HT3 := Lib.hid ht3; have HQ3 := Lib.hid hq3
 have HFIN : Hid (Below w.heap.size w W3.drew) := Lib.hid (HBW.out.trans (hdw.mono HBW.out.size))
 replace hW3 := Lib.hid hW3
 clear h3 ht3 hq3 hdw
 go_upto_region 20 with fail
 rw [← hW3.out]
 clear h c0 c1 c2 c3 c4 f0 f1 f2 f3 f4 e0 e1 e2 e3 e4 e5 e6 e7 e8 e9 e10 t0 t1 t2 t3 t4 t5 t6 t7 t8 t9 tf
 have h := HH3.out
 obtain ⟨c0, c1, c2, c3, c4, f0, f1, f2, f3, f4⟩ := st_cells h.blk
 obtain ⟨e0, e1, e2, e3, e4, e5, e6, e7, e8, e9, e10⟩ := Ev.EBox.cells (HE.out W3 HQ3.out)
 dsimp only at e0 e1 e2 e3 e4 e5
 obtain ⟨t0, t1, t2, t3, t4, t5, t6, t7, t8, t9, tf⟩ := t_cells HT3.out
 go_still_tail 7, (by kernel_rfl)
 go_wp2_with fail
 go_ret
 exact ⟨by simp [*], W3.drew, HFIN.out, hput⟩) : p := h
namespace Q138
theorem Y135 {p : Prop} (h : p := by
 have f8 := tf 8; have f9 := tf 9
 cases okb with
 | false =>
  exact M11
 | true =>
  cases yb with
  | false =>
   exact M11
  | true =>
   by_cases q3 : yN = en
   ·subst q3
    by_cases q5 : now ≤ at'
    ·have k5 : decide (now ≤ at') = true := decide_eq_true q5
     cases alone with
     | true =>
      exact M11
     | false =>
      exact M11
    ·have k5 : decide (now ≤ at') = false := decide_eq_false q5
     exact M11
   ·have k3 : decide (yN = en) = false := decide_eq_false q3
    exact M11) : p := h
end Q138
namespace Q391
theorem Y389 {p : Prop} (h : p := by
 have HE : Hid (∀ W, Below W1.heap.size W1 W → Ev.EBox W w.heap.size (evCells ⟨4, id, en, at', name, text, ev⟩ vk vn vf vs A m c)) := Lib.hid fun W hW => (hW.block _ (by omega)).trans hx1
 open Q138 in exact M135) : p := h
end Q391
namespace Q209
theorem Y205 {p : Prop} (h : p := by
 open Q391 in exact M389) : p := h
end Q209
set_option maxRecDepth 100000 in
set_option maxHeartbeats 8000000 in
theorem apply4_run (g bt bm bk : Nat) (s : ST) (h : SAt Y w g bt bm bk n s) (hn : n < 17592186044416) (e : EV) (he : EvOk e) (hk : e.k = 4) (ha : e.at' ≠ 0) (vk vn : Int) (vf : Nat) (vs : ByteArray) (A : Option Addr) (m c : Nat) (now : Nat) (alone : Bool) (yi : Nat) (yn : ByteArray) (yk yv : Int) (yf : Nat) (ys : ByteArray) (yA : Option Addr) (ym yc : Nat) (yN : Int) (yb : Bool) (ya : Nat) (okb : Bool) (hN0 : 0 ≤ yN) (hN1 : yN ≤ 2147483647) (hl : ∀ W : World, W.heap[bt]? = w.heap[bt]? → (Instr.lookup 103 (.map (some bt)) (.int .u64 (e.id : Nat)) true).run Tryz.prog W = .ok (.tuple #[.agg #[.int .u64 (yi : Nat), .string yn, .int .i64 yk, .int .i64 yv, .float .f64 yf, .string ys, .slice yA ym yc, .int .i64 yN, .bool yb, .int .u64 (ya : Nat)], .bool okb]) W) :
  Calls Tryz.prog 99 #[.pointer (some ⟨g, 0, none⟩), .agg (evCells e vk vn vf vs A m c), .int .u64 (now : Nat), .bool alone] w fun r w' => r = .returned (.bool (okb && yb && decide (yN = e.n) && decide (now ≤ e.at') && alone)) ∧ ∃ W3, Below w.heap.size w W3 ∧ (Instr.mapUpdate 103 (.map (some bt)) (.int .u64 (e.id : Nat)) (.agg #[.int .u64 (yi : Nat), .string yn, .int .i64 yk, .int .i64 yv, .float .f64 yf, .string ys, .slice yA ym yc, .int .i64 yN, .bool false, .int .u64 (e.at' : Nat)])).run Tryz.prog W3 = .ok () w' := by
 obtain ⟨k, id, en, at', name, text, ev⟩ := e
 obtain rfl : k = 4 := hk
 have hi := he.f.i1
 dsimp only at hi
 dsimp only at hl ha ⊢
 have ka : decide (at' > 0) = true := decide_eq_true (by omega)
 open Q209 in exact M205
set_option maxRecDepth 100000 in
set_option maxHeartbeats 4000000 in
theorem apply4_try (g bt bm bk : Nat) (s : ST) (h : SAt Y w g bt bm bk n s) (e : EV) (he : EvOk e) (hk : e.k = 4) (vk vn : Int) (vf : Nat) (vs : ByteArray) (A : Option Addr) (m c : Nat) (now : Nat) (alone : Bool) (hn : n < 17592186044416) (ha : e.at' ≠ 0) :
  Calls Tryz.prog 99 #[.pointer (some ⟨g, 0, none⟩), .agg (evCells e vk vn vf vs A m c), .int .u64 (now : Nat), .bool alone] w (AOut Y w g bt bm bk n (applyM now alone e s)) := by
 have hi := he.f.i1
 obtain ⟨yi, yn, yk, yv, yf, ys, yA, ym, yc, yN, yb, ya, okb, hl, hyN, hdec⟩ := h.maps.tasks.any2 e.id hi
 refine (apply4_run g bt bm bk s h hn e he hk ha vk vn vf vs A m c now alone yi yn yk yv yf ys yA ym yc yN yb ya okb hyN.1 hyN.2 hl).mono ?_
 rintro r w' ⟨rfl, W3, hb, hr⟩
 refine ⟨upd_none h hn hb hi hr, ?_⟩
 rcases hdec with ⟨rfl, hno⟩ | ⟨rfl, t, h1, h0, h2, h3, h4, hrep⟩
 ·have hX : applyM now alone e s = none := by simp [applyM, hk, hno]
  rw [hX]; rfl
 ·by_cases hc : t.fl = true ∧ t.n = e.n
  ·by_cases hd : now ≤ e.at' ∧ alone = true
   ·have hX : applyM now alone e s = some { s with tasks := tput s.tasks { t with at' := e.at', fl := false } } := by simp [applyM, hk, h1, hc, ha, hd]
    rw [hX]
    obtain ⟨c1, c2⟩ := hc
    obtain ⟨c4, c5⟩ := hd
    refine ⟨Nm.ret_bool (by simp [← h2, ← h3, c1, c2, c4, c5]), ?_⟩
    have hz := hrep yN false e.at' hyN.1 hyN.2 he.f.a1
    rw [show ({ t with n := yN, fl := false, at' := e.at' } : TK) = { t with at' := e.at', fl := false } from by rw [← h2]] at hz
    exact (upd_some (t := { t with at' := e.at', fl := false }) h hn hb (h0 ▸ h1) hz (by rw [show ({ t with at' := e.at', fl := false } : TK).id = e.id from h0]; exact hr)).2
   ·have hX : applyM now alone e s = none := by simp [applyM, hk, h1, hc, ha, hd]
    rw [hX]
    refine Nm.ret_bool (Bool.eq_false_iff.2 fun q => hd ?_)
    simp only [Bool.and_eq_true, decide_eq_true_eq, Bool.true_and] at q
    exact ⟨q.1.2, q.2⟩
  ·have hX : applyM now alone e s = none := by simp [applyM, hk, h1, hc]
   rw [hX]
   refine Nm.ret_bool (Bool.eq_false_iff.2 fun q => hc ?_)
   simp only [Bool.and_eq_true, decide_eq_true_eq, Bool.true_and] at q
   exact ⟨h3.trans q.1.1.1, h2.trans q.1.1.2⟩
end Hi
end Go.Proofs.YtfmnacebgplpcaaGreat
namespace Go.Proofs.YtfmnacebgplpcaaGreat
namespace Hi
open Nm (ret_int ret_bool)
open Vt (VT Rep below_drew Cloned)
open Ev (EV FieldsOk evCells vCells take_drop tk ap rd1 rd2 cons_drop)
open Cm (EvsIn)
variable {X X' Y : Nat → Prop} {u v w w' V V' : World} {b n : Nat} {ts : List TK} {l : List (Nat × Nat)} {ks : List ByteArray}

theorem M108 {p : Prop} (h : p := by
 go_upto_region 31 with fail
 go_still_tail 6, (by kernel_rfl)
 go_wp2_with fail
 go_ret
 exact ⟨(Chg.of_below HB2.out).trans (Chg.of_below (below_drew (Below.refl _ _))), by rw [HX.out]; rfl⟩) : p := h
theorem M115 {p : Prop} (h : p := by
 rw [hW3]; show (W2.setCell _ _).heap[w.heap.size]? = _; exact (RowKit.Below.heap_setCell _ _ _ _ (by have := HGL.out; show w.heap.size ≠ g; omega)).trans (HE.out W2 HQ2.out)) : p := h
set_option maxRecDepth 100000 in
set_option maxHeartbeats 4000000 in
theorem apply8 (g bt bm bk : Nat) (s : ST) (h : SAt Y w g bt bm bk n s) (e : EV) (he : EvOk e) (hk : e.k = 8) (vk vn : Int) (vf : Nat) (vs : ByteArray) (A : Option Addr) (m c : Nat) (now : Nat) (alone : Bool) (hn : n < 17592186044416) (hx : s.next < 1152921504606846976) (hf : Fine s) :
  Calls Tryz.prog 99 #[.pointer (some ⟨g, 0, none⟩), .agg (evCells e vk vn vf vs A m c), .int .u64 (now : Nat), .bool alone] w (AOut Y w g bt bm bk n (applyM now alone e s)) := by
 obtain ⟨k, id, en, at', name, text, ev⟩ := e
 obtain rfl : k = 8 := hk
 have hi := he.f.i1
 dsimp only at hi
 have HF := Lib.hid hf
 obtain ⟨yi, yn, yk, yv, yf, ys, yA, ym, yc, yN, yb, ya, okb, hl⟩ := h.maps.tasks.any id hi
 have HL : Hid (∀ W, W.heap[bt]? = w.heap[bt]? → (Instr.lookup 103 (.map (some bt)) (.int .u64 (id : Nat)) true).run Tryz.prog W = .ok (.tuple #[.agg #[.int .u64 (yi : Nat), .string yn, .int .i64 yk, .int .i64 yv, .float .f64 yf, .string ys, .slice yA ym yc, .int .i64 yN, .bool yb, .int .u64 (ya : Nat)], .bool okb]) W) := Lib.hid hl
 clear hl
 obtain ⟨W1, hW1⟩ : ∃ W1, W1 = w.alloc (.cells (evCells ⟨8, id, en, at', name, text, ev⟩ vk vn vf vs A m c) 71) := ⟨_, rfl⟩
 have hb1 : Below w.heap.size w W1 := by rw [hW1]; exact (Below.refl _ _).alloc (Nat.le_refl _) _
 have hz1 : W1.heap.size = w.heap.size + 1 := by rw [hW1]; simp
 have hx1 : Ev.EBox W1 w.heap.size (evCells ⟨8, id, en, at', name, text, ev⟩ vk vn vf vs A m c) := by rw [hW1]; exact heap_alloc_new _ _
 have hgl : g < w.heap.size := (Array.getElem?_eq_some_iff.1 h.blk).1
 have HE : Hid (∀ W, Below W1.heap.size W1 W → Ev.EBox W w.heap.size (evCells ⟨8, id, en, at', name, text, ev⟩ vk vn vf vs A m c)) := Lib.hid fun W hW => (hW.block _ (by omega)).trans hx1
 have HST : Hid (∀ W, Below W1.heap.size W1 W → SAt Y W g bt bm bk n s) := Lib.hid fun W hW => h.later (hb1.trans (hW.mono hb1.size))
 have KS : Hid (∀ W, Below W1.heap.size W1 W → (fun W => W.cell? ⟨g, 0, none⟩ = some (.map (some bt)) ∧ W.cell? ⟨w.heap.size, 1, none⟩ = some (.int .u64 (id : Nat)) ∧ (Instr.lookup 103 (.map (some bt)) (.int .u64 (id : Nat)) true).run Tryz.prog W = .ok (.tuple #[.agg #[.int .u64 (yi : Nat), .string yn, .int .i64 yk, .int .i64 yv, .float .f64 yf, .string ys, .slice yA ym yc, .int .i64 yN, .bool yb, .int .u64 (ya : Nat)], .bool okb]) W) W) := Lib.hid fun W hW => ⟨(st_cells (HST.out W hW).blk).1, (Ev.EBox.cells (HE.out W hW)).2.1, HL.out W ((hb1.trans (hW.mono hb1.size)).block _ h.maps.tasks.lt)⟩
 obtain ⟨W2, hW2⟩ : ∃ W2, W2 = (W1.alloc (.cells #[.int .u64 (yi : Nat), .string yn, .int .i64 yk, .int .i64 yv, .float .f64 yf, .string ys, .slice yA ym yc, .int .i64 yN, .bool yb, .int .u64 (ya : Nat)] 132)).drew := ⟨_, rfl⟩
 have hq2 : Below W1.heap.size W1 W2 := by rw [hW2]; exact below_drew ((Below.refl _ _).alloc (Nat.le_refl _) _)
 have hz2 : W2.heap.size = w.heap.size + 2 := by rw [hW2]; simp [hz1]
 have ht2 : W2.heap[W1.heap.size]? = some (.cells #[.int .u64 (yi : Nat), .string yn, .int .i64 yk, .int .i64 yv, .float .f64 yf, .string ys, .slice yA ym yc, .int .i64 yN, .bool yb, .int .u64 (ya : Nat)] 132 (0, 0)) := by rw [hW2]; exact heap_alloc_new _ _
 have HB2 := Lib.hid (hb1.trans (hq2.mono hb1.size)); have HQ2 := Lib.hid hq2; have HZ1 := Lib.hid hz1; have HZ2 := Lib.hid hz2; have HT2 := Lib.hid ht2; have HGL := Lib.hid hgl
 have H0 := Lib.hid h
 have HBW := Lib.hid hb1
 have HSW : Hid (∀ W, Below W1.heap.size W1 W → ∀ y, W1.heap.size ≤ y → Below W1.heap.size W1 W) := Lib.hid fun W hW _ _ => hW
 unfold evCells at hW1
 replace hW1 := Lib.hid hW1; replace hW2 := Lib.hid hW2
 clear h hb1 hx1 hq2 ht2 hgl hz1 hz2 HL
 unfold evCells
 go_enter Tryz.func99, Tryz.ntmps99
 go_upto_region 1 with fail
 rw [← hW1.out]
 refine wp_region_noPanic ?_
 refine wp_region_held_drew (S := (fun W => W.cell? ⟨g, 0, none⟩ = some (.map (some bt)) ∧ W.cell? ⟨w.heap.size, 1, none⟩ = some (.int .u64 (id : Nat)) ∧ (Instr.lookup 103 (.map (some bt)) (.int .u64 (id : Nat)) true).run Tryz.prog W = .ok (.tuple #[.agg #[.int .u64 (yi : Nat), .string yn, .int .i64 yk, .int .i64 yv, .float .f64 yf, .string ys, .slice yA ym yc, .int .i64 yN, .bool yb, .int .u64 (ya : Nat)], .bool okb]) W)) (by kernel_rfl) ?_ (fun hHeld => ?_)
 ·exact KS.out _ (below_drew (Below.refl _ _))
 refine tk 0 rfl ?_
 try simp only [ap]
 refine tk 1 rfl ?_
 try simp only [ap]
 refine tk 2 rfl ?_
 try simp only [ap]
 refine tk 3 rfl ?_
 try simp only [ap]
 refine tk 4 rfl ?_
 try simp only [ap]
 refine tk 5 rfl ?_
 try simp only [ap]
 refine tk 6 rfl ?_
 try simp only [ap]
 refine tk 7 rfl ?_
 try simp only [ap]
 refine tk 8 rfl ?_
 try simp only [ap]
 refine tk 9 rfl ?_
 try simp only [ap]
 refine rd1 10 rfl fun K hK => ?_
 go_simp
 refine hK.out _ _ (KS.out _ ((below_drew (Below.refl _ _)).alloc (Nat.le_refl _) _)) (fun hHeld2 => ?_)
 clear hK K hHeld
 try simp only [ap]
 refine rd1 11 rfl fun K hK => ?_
 go_simp
 refine hK.out _ _ (KS.out _ (below_drew ((Below.refl _ _).alloc (Nat.le_refl _) _))) (fun hHeld3 => ?_)
 clear hK K hHeld2
 try simp only [ap]
 refine rd1 12 rfl fun K hK => ?_
 go_simp
 refine hK.out _ _ (KS.out _ (below_drew ((Below.refl _ _).alloc (Nat.le_refl _) _))) (fun hHeld4 => ?_)
 clear hK K hHeld3
 try simp only [ap]
 refine wpAnyH_done (by kernel_rfl) ?_ _
 refine NoPanic.normal ?_
 clear hHeld4
 rw [← hW2.out]
 have h := HST.out W2 HQ2.out
 obtain ⟨c0, c1, c2, c3, c4, f0, f1, f2, f3, f4⟩ := st_cells h.blk
 obtain ⟨e0, e1, e2, e3, e4, e5, e6, e7, e8, e9, e10⟩ := Ev.EBox.cells (HE.out W2 HQ2.out)
 dsimp only at e0 e1 e2 e3 e4 e5
 obtain ⟨t0, t1, t2, t3, t4, t5, t6, t7, t8, t9, tf⟩ := t_cells HT2.out
 by_cases hid2 : id = s.next
 rotate_left
 ·have kid : ((id : Int) != (s.next : Int)) = true := by simp; omega
  have HX : Hid (applyM now alone ⟨8, id, en, at', name, text, ev⟩ s = none) := Lib.hid (by simp [applyM, hid2])
  exact M108
 have kid : ((id : Int) != (s.next : Int)) = false := by simp; omega
 have HID := Lib.hid hid2
 obtain ⟨h3', hc3⟩ := h.cell 3 (.int .u64 ((s.next : Int) + 1)) { s with next := s.next + 1 } rfl rfl rfl rfl
 have h3 := h3'.later (below_drew (Below.refl _ _))
 obtain ⟨W3, hW3⟩ : ∃ W3, W3 = (W2.setCell ⟨g, 3, none⟩ (.int .u64 ((s.next : Int) + 1))).drew := ⟨_, rfl⟩
 replace hc3 := hc3.trans (Chg.of_below (X := XS g bt bm bk) (below_drew (Below.refl _ _)))
 clear h3'
 rw [← hW3] at h3 hc3
 have HC3 := Lib.hid ((Chg.of_below HB2.out).trans hc3)
 have hz3 : W3.heap.size = W2.heap.size := by rw [hW3]; simp [World.setCell, World.drew]
 have hx3 : Ev.EBox W3 w.heap.size (evCells ⟨8, id, en, at', name, text, ev⟩ vk vn vf vs A m c) := by
  exact M115
 have HX3 := Lib.hid hx3; have H3 := Lib.hid h3; have HZ3 := Lib.hid hz3
 clear hid2 hc3 hx3 h3 hz3
 go_upto_region 31 with fail
 go_still_tail 6, (by kernel_rfl)
 go_upto_region 34 with fail
 rw [← hW3]
 replace hW3 := Lib.hid hW3
 clear h c0 c1 c2 c3 c4 f0 f1 f2 f3 f4 e0 e1 e2 e3 e4 e5 e6 e7 e8 e9 e10 t0 t1 t2 t3 t4 t5 t6 t7 t8 t9 tf
 have h := H3.out
 obtain ⟨c0, c1, c2, c3, c4, f0, f1, f2, f3, f4⟩ := st_cells h.blk
 obtain ⟨e0, e1, e2, e3, e4, e5, e6, e7, e8, e9, e10⟩ := Ev.EBox.cells HX3.out
 dsimp only at e0 e1 e2 e3 e4 e5
 obtain ⟨wd, hput, hmd, hturn⟩ := (h.later (below_drew (Below.refl _ _))).maps.timers.put (by simp only [maxLen]; omega) (id, at') hi (l' := s.timers ++ [(id, at')]) (fun q => mget_snoc (mget_none fun t ht => by have := HF.out.belowT t ht; have := HID.out; show t.1 ≠ id; omega) q)
 obtain ⟨hsd, hcd⟩ := (h.later (below_drew (Below.refl _ _))).turnM hturn hmd (Nat.le_succ _)
 have hput' : (Instr.mapUpdate 104 (.map (some bm)) (.int .u64 (id : Nat)) (.agg #[.int .u64 (id : Nat), .int .u64 (at' : Nat)])).run Tryz.prog W3.drew = .ok () wd := hput
 have hxd : Ev.EBox wd w.heap.size (evCells ⟨8, id, en, at', name, text, ev⟩ vk vn vf vs A m c) :=
  (hturn.grown.block w.heap.size (by show w.heap.size < W3.heap.size; have := HZ3.out; have := HZ2.out; omega) (fun e => by injection e with e; have := H0.out.maps.timers.lt; omega)).trans HX3.out
 obtain ⟨-, -, -, x3, -, -, -, -, -, -, -⟩ := Ev.EBox.cells hxd
 dsimp only at x3
 have HSD := Lib.hid hsd; have HCD := Lib.hid ((HC3.out.trans (Chg.of_below (below_drew (Below.refl _ _)))).trans hcd)
 clear hsd hcd hmd hturn hput hxd
 go_upto_region 35 with fail
 go_still_tail 11, (by kernel_rfl)
 by_cases hle : now ≤ at'
 ·have kle : decide (now ≤ at') = true := decide_eq_true hle
  have HX : Hid (applyM now alone ⟨8, id, en, at', name, text, ev⟩ s = some { s with timers := s.timers ++ [(id, at')], next := s.next + 1 }) := Lib.hid (by simp [applyM, HID.out, hle])
  clear hle
  go_wp2_with fail
  go_ret
  exact ⟨HCD.out, by rw [HX.out]; exact ⟨rfl, HSD.out⟩⟩
 ·have kle : decide (now ≤ at') = false := decide_eq_false hle
  have HX : Hid (applyM now alone ⟨8, id, en, at', name, text, ev⟩ s = none) := Lib.hid (by simp [applyM, hle])
  clear hle
  exact M120
end Hi
end Go.Proofs.YtfmnacebgplpcaaGreat
namespace Go.Proofs.YtfmnacebgplpcaaGreat
namespace Hi
open Nm (ret_int ret_bool)
open Vt (VT Rep below_drew Cloned)
open Ev (EV FieldsOk evCells vCells take_drop tk ap rd1 rd2 cons_drop)
open Cm (EvsIn)
variable {X X' Y : Nat → Prop} {u v w w' V V' : World} {b n : Nat} {ts : List TK} {l : List (Nat × Nat)} {ks : List ByteArray}

theorem M90 {p : Prop} (h : p := by
 refine ⟨HCD.out, ?_⟩
 rw [HX]
 cases alone with
 | true => exact ⟨rfl, HSD.out.mono (Nat.le_succ _)⟩
 | false => rfl) : p := h
theorem M244 {p : Prop} (h : p := by
 rw [← hW3] at h3 hc3
 obtain ⟨w4, hclr, hm4, hturn4⟩ := h3.maps.tasks.clear 0
 obtain ⟨h4, hc4⟩ := h3.turnT hturn4 (hm4.mono (Nat.zero_le n)) (Nat.le_refl _)
 obtain ⟨w5, hclr5, hm5, hturn5⟩ := h4.maps.timers.clear 0
 obtain ⟨h5, hc5⟩ := h4.turnM hturn5 (hm5.mono (Nat.zero_le n)) (Nat.le_refl _)
 have HSD := Lib.hid h5; have HCD := Lib.hid ((((Chg.of_below HB2.out).trans hc3).trans hc4).trans hc5)
 obtain ⟨i0, i1, i2, i3, i4, -, -, -, -, -⟩ := st_cells h4.blk
 obtain ⟨j0, j1, j2, j3, j4, -, -, -, -, -⟩ := st_cells h3.blk
 clear h3 hc3 hm4 hturn4 h4 hc4 hm5 hturn5 h5 hc5
 go_upto_region 39 with fail
 rw [← hW3]
 replace hW3 := Lib.hid hW3
 clear h c0 c1 c2 c3 c4 f0 f1 f2 f3 f4 e0 e1 e2 e3 e4 e5 e6 e7 e8 e9 e10 t0 t1 t2 t3 t4 t5 t6 t7 t8 t9 tf
 go_wp2_with fail
 go_ret
 exact Y244) : p := h
namespace Q245
theorem Y244 {p : Prop} (h : p := by
 have HX : applyM now alone ⟨9, id, en, at', name, text, ev⟩ s = if alone = true then some { s with closed := 9, tasks := [], timers := [] } else none := by simp [applyM]
 exact M90) : p := h
end Q245
namespace Q140
theorem Y135 {p : Prop} (h : p := by
 obtain ⟨h3, hc3⟩ := h.cell 4 (.int .i64 9) { s with closed := 9 } rfl rfl rfl rfl
 obtain ⟨W3, hW3⟩ : ∃ W3, W3 = W2.setCell ⟨g, 4, none⟩ (.int .i64 9) := ⟨_, rfl⟩
 open Q245 in exact M244) : p := h
end Q140
namespace Q213
theorem Y205 {p : Prop} (h : p := by
 obtain ⟨W1, hW1⟩ : ∃ W1, W1 = w.alloc (.cells (evCells ⟨9, id, en, at', name, text, ev⟩ vk vn vf vs A m c) 71) := ⟨_, rfl⟩
 have hb1 : Below w.heap.size w W1 := by rw [hW1]; exact (Below.refl _ _).alloc (Nat.le_refl _) _
 have hz1 : W1.heap.size = w.heap.size + 1 := by rw [hW1]; simp
 have hx1 : Ev.EBox W1 w.heap.size (evCells ⟨9, id, en, at', name, text, ev⟩ vk vn vf vs A m c) := by rw [hW1]; exact heap_alloc_new _ _
 have hgl : g < w.heap.size := (Array.getElem?_eq_some_iff.1 h.blk).1
 have HE : Hid (∀ W, Below W1.heap.size W1 W → Ev.EBox W w.heap.size (evCells ⟨9, id, en, at', name, text, ev⟩ vk vn vf vs A m c)) := Lib.hid fun W hW => (hW.block _ (by omega)).trans hx1
 open Q140 in exact M135) : p := h
end Q213
set_option maxRecDepth 100000 in
set_option maxHeartbeats 4000000 in
theorem apply9 (g bt bm bk : Nat) (s : ST) (h : SAt Y w g bt bm bk n s) (e : EV) (he : EvOk e) (hk : e.k = 9) (vk vn : Int) (vf : Nat) (vs : ByteArray) (A : Option Addr) (m c : Nat) (now : Nat) (alone : Bool) :
  Calls Tryz.prog 99 #[.pointer (some ⟨g, 0, none⟩), .agg (evCells e vk vn vf vs A m c), .int .u64 (now : Nat), .bool alone] w (AOut Y w g bt bm bk n (applyM now alone e s)) := by
 obtain ⟨k, id, en, at', name, text, ev⟩ := e
 obtain rfl : k = 9 := hk
 have hi := he.f.i1
 dsimp only at hi
 obtain ⟨yi, yn, yk, yv, yf, ys, yA, ym, yc, yN, yb, ya, okb, hl⟩ := h.maps.tasks.any id hi
 open Q213 in exact M205

namespace Q246
theorem Y244 {p : Prop} (h : p := by
 have HX : applyM now alone ⟨10, id, en, at', name, text, ev⟩ s = if alone = true then some { s with closed := 10, tasks := [], timers := [] } else none := by simp [applyM]
 exact M90) : p := h
end Q246
namespace Q141
theorem Y135 {p : Prop} (h : p := by
 obtain ⟨h3, hc3⟩ := h.cell 4 (.int .i64 10) { s with closed := 10 } rfl rfl rfl rfl
 obtain ⟨W3, hW3⟩ : ∃ W3, W3 = W2.setCell ⟨g, 4, none⟩ (.int .i64 10) := ⟨_, rfl⟩
 open Q246 in exact M244) : p := h
end Q141
namespace Q214
theorem Y205 {p : Prop} (h : p := by
 obtain ⟨W1, hW1⟩ : ∃ W1, W1 = w.alloc (.cells (evCells ⟨10, id, en, at', name, text, ev⟩ vk vn vf vs A m c) 71) := ⟨_, rfl⟩
 have hb1 : Below w.heap.size w W1 := by rw [hW1]; exact (Below.refl _ _).alloc (Nat.le_refl _) _
 have hz1 : W1.heap.size = w.heap.size + 1 := by rw [hW1]; simp
 have hx1 : Ev.EBox W1 w.heap.size (evCells ⟨10, id, en, at', name, text, ev⟩ vk vn vf vs A m c) := by rw [hW1]; exact heap_alloc_new _ _
 have hgl : g < w.heap.size := (Array.getElem?_eq_some_iff.1 h.blk).1
 have HE : Hid (∀ W, Below W1.heap.size W1 W → Ev.EBox W w.heap.size (evCells ⟨10, id, en, at', name, text, ev⟩ vk vn vf vs A m c)) := Lib.hid fun W hW => (hW.block _ (by omega)).trans hx1
 open Q141 in exact M135) : p := h
end Q214
set_option maxRecDepth 100000 in
set_option maxHeartbeats 4000000 in
theorem apply10 (g bt bm bk : Nat) (s : ST) (h : SAt Y w g bt bm bk n s) (e : EV) (he : EvOk e) (hk : e.k = 10) (vk vn : Int) (vf : Nat) (vs : ByteArray) (A : Option Addr) (m c : Nat) (now : Nat) (alone : Bool) :
  Calls Tryz.prog 99 #[.pointer (some ⟨g, 0, none⟩), .agg (evCells e vk vn vf vs A m c), .int .u64 (now : Nat), .bool alone] w (AOut Y w g bt bm bk n (applyM now alone e s)) := by
 obtain ⟨k, id, en, at', name, text, ev⟩ := e
 obtain rfl : k = 10 := hk
 have hi := he.f.i1
 dsimp only at hi
 obtain ⟨yi, yn, yk, yv, yf, ys, yA, ym, yc, yN, yb, ya, okb, hl⟩ := h.maps.tasks.any id hi
 open Q214 in exact M205

namespace Q247
theorem Y244 {p : Prop} (h : p := by
 have HX : applyM now alone ⟨11, id, en, at', name, text, ev⟩ s = if alone = true then some { s with closed := 11, tasks := [], timers := [] } else none := by simp [applyM]
 exact M90) : p := h
end Q247
namespace Q142
theorem Y135 {p : Prop} (h : p := by
 obtain ⟨h3, hc3⟩ := h.cell 4 (.int .i64 11) { s with closed := 11 } rfl rfl rfl rfl
 obtain ⟨W3, hW3⟩ : ∃ W3, W3 = W2.setCell ⟨g, 4, none⟩ (.int .i64 11) := ⟨_, rfl⟩
 open Q247 in exact M244) : p := h
end Q142
namespace Q215
theorem Y205 {p : Prop} (h : p := by
 obtain ⟨W1, hW1⟩ : ∃ W1, W1 = w.alloc (.cells (evCells ⟨11, id, en, at', name, text, ev⟩ vk vn vf vs A m c) 71) := ⟨_, rfl⟩
 have hb1 : Below w.heap.size w W1 := by rw [hW1]; exact (Below.refl _ _).alloc (Nat.le_refl _) _
 have hz1 : W1.heap.size = w.heap.size + 1 := by rw [hW1]; simp
 have hx1 : Ev.EBox W1 w.heap.size (evCells ⟨11, id, en, at', name, text, ev⟩ vk vn vf vs A m c) := by rw [hW1]; exact heap_alloc_new _ _
 have hgl : g < w.heap.size := (Array.getElem?_eq_some_iff.1 h.blk).1
 have HE : Hid (∀ W, Below W1.heap.size W1 W → Ev.EBox W w.heap.size (evCells ⟨11, id, en, at', name, text, ev⟩ vk vn vf vs A m c)) := Lib.hid fun W hW => (hW.block _ (by omega)).trans hx1
 open Q142 in exact M135) : p := h
end Q215
set_option maxRecDepth 100000 in
set_option maxHeartbeats 4000000 in
theorem apply11 (g bt bm bk : Nat) (s : ST) (h : SAt Y w g bt bm bk n s) (e : EV) (he : EvOk e) (hk : e.k = 11) (vk vn : Int) (vf : Nat) (vs : ByteArray) (A : Option Addr) (m c : Nat) (now : Nat) (alone : Bool) :
  Calls Tryz.prog 99 #[.pointer (some ⟨g, 0, none⟩), .agg (evCells e vk vn vf vs A m c), .int .u64 (now : Nat), .bool alone] w (AOut Y w g bt bm bk n (applyM now alone e s)) := by
 obtain ⟨k, id, en, at', name, text, ev⟩ := e
 obtain rfl : k = 11 := hk
 have hi := he.f.i1
 dsimp only at hi
 obtain ⟨yi, yn, yk, yv, yf, ys, yA, ym, yc, yN, yb, ya, okb, hl⟩ := h.maps.tasks.any id hi
 open Q215 in exact M205

end Hi
end Go.Proofs.YtfmnacebgplpcaaGreat
namespace Go.Proofs.YtfmnacebgplpcaaGreat
namespace Hi
open Nm (ret_int ret_bool)
open Vt (VT Rep below_drew Cloned)
open Ev (EV FieldsOk evCells vCells take_drop tk ap rd1 rd2 cons_drop)
open Cm (EvsIn)
variable {X X' Y : Nat → Prop} {u v w w' V V' : World} {b n : Nat} {ts : List TK} {l : List (Nat × Nat)} {ks : List ByteArray}

set_option maxRecDepth 100000 in
theorem M5 {p : Prop} (h : p := by
 obtain ⟨W3, hW3⟩ : ∃ W3, W3 = (((W2.setCell ⟨W1.heap.size, 7, none⟩ (.int .i64 en)).setCell ⟨W1.heap.size, 9, none⟩ (.int .u64 (at' : Nat))).setCell ⟨W1.heap.size, 8, none⟩ (.bool true)).drew := ⟨_, rfl⟩
 have hq3 : Below W1.heap.size W1 W3 := by rw [hW3]; exact below_drew ((((HQ2.out).setCell (Nat.le_refl _) _).setCell (Nat.le_refl _) _).setCell (Nat.le_refl _) _)
 have ht3 : W3.heap[W1.heap.size]? = some (.cells #[.int .u64 (yi : Nat), .string yn, .int .i64 yk, .int .i64 yv, .float .f64 yf, .string ys, .slice yA ym yc, .int .i64 en, .bool true, .int .u64 (at' : Nat)] 132 (0, 0)) := by
  have := HT2.out
  rw [hW3]; show (((W2.setCell ⟨W1.heap.size, 7, none⟩ (.int .i64 en)).setCell ⟨W1.heap.size, 9, none⟩ (.int .u64 (at' : Nat))).setCell ⟨W1.heap.size, 8, none⟩ (.bool true)).heap[W1.heap.size]? = _; simp [World.setCell, Array.getElem?_modify, this]
 have h3 := HST.out W3 hq3
 have hdw : Below W1.heap.size W1 W3.drew := below_drew hq3
 obtain ⟨wd, hput, -⟩ := (HST.out W3.drew hdw).maps.tasks.raw (by simp only [maxLen]; omega) id hi (.agg #[.int .u64 (yi : Nat), .string yn, .int .i64 yk, .int .i64 yv, .float .f64 yf, .string ys, .slice yA ym yc, .int .i64 en, .bool true, .int .u64 (at' : Nat)])
 have HH3 := Lib.hid h3; have HT3 := Lib.hid ht3; have HQ3 := Lib.hid hq3
 have HFIN : Hid (Below w.heap.size w W3.drew) := Lib.hid (HBW.out.trans (hdw.mono HBW.out.size))
 replace hW3 := Lib.hid hW3
 clear h3 ht3 hq3 hdw
 go_upto_region 14 with fail
 refine wp_region_noPanic ?_
 refine wp_region_held_drew (S := (fun W => W.cell? ⟨w.heap.size, 2, none⟩ = some (.int .i64 en) ∧ W.cell? ⟨w.heap.size, 3, none⟩ = some (.int .u64 (at' : Nat)))) (by kernel_rfl) ?_ (fun hHeld => ?_)
 ·exact KS14.out _ (below_drew (HQ2.out))
 refine tk 0 rfl ?_
 try simp only [ap]
 refine tk 1 rfl ?_
 try simp only [ap]
 refine tk 2 rfl ?_
 try simp only [ap]
 refine tk 3 rfl ?_
 try simp only [ap]
 refine tk 4 rfl ?_
 try simp only [ap]
 refine rd1 5 rfl fun K hK => ?_
 go_simp
 refine hK.out _ _ (KS14.out _ (below_drew ((HQ2.out).setCell (Nat.le_refl _) _))) (fun hHeld0 => ?_)
 clear hK K hHeld
 try simp only [ap]
 refine tk 6 rfl ?_
 try simp only [ap]
 refine rd1 7 rfl fun K hK => ?_
 go_simp
 refine hK.out _ _ (KS14.out _ (below_drew (((HQ2.out).setCell (Nat.le_refl _) _).setCell (Nat.le_refl _) _))) (fun hHeld1 => ?_)
 clear hK K hHeld0
 try simp only [ap]
 refine tk 8 rfl ?_
 try simp only [ap]
 refine rd1 9 rfl fun K hK => ?_
 go_simp
 refine hK.out _ _ (KS14.out _ (below_drew ((((HQ2.out).setCell (Nat.le_refl _) _).setCell (Nat.le_refl _) _).setCell (Nat.le_refl _) _))) (fun hHeld2 => ?_)
 clear hK K hHeld1
 try simp only [ap]
 refine wpAnyH_done (by kernel_rfl) ?_ _
 refine NoPanic.normal ?_
 clear hHeld2
 rw [← hW3.out]
 clear h c0 c1 c2 c3 c4 f0 f1 f2 f3 f4 e0 e1 e2 e3 e4 e5 e6 e7 e8 e9 e10 t0 t1 t2 t3 t4 t5 t6 t7 t8 t9 tf
 have h := HH3.out
 obtain ⟨c0, c1, c2, c3, c4, f0, f1, f2, f3, f4⟩ := st_cells h.blk
 obtain ⟨e0, e1, e2, e3, e4, e5, e6, e7, e8, e9, e10⟩ := Ev.EBox.cells (HE.out W3 HQ3.out)
 dsimp only at e0 e1 e2 e3 e4 e5
 obtain ⟨t0, t1, t2, t3, t4, t5, t6, t7, t8, t9, tf⟩ := t_cells HT3.out
 go_upto_region 15 with fail
 go_still_tail 7, (by kernel_rfl)
 go_wp2_with fail
 go_ret
 exact ⟨by simp [*], W3.drew, HFIN.out, hput⟩) : p := h
namespace Q139
theorem Y135 {p : Prop} (h : p := by
 have KS14 : Hid (∀ W, Below W1.heap.size W1 W → (fun W => W.cell? ⟨w.heap.size, 2, none⟩ = some (.int .i64 en) ∧ W.cell? ⟨w.heap.size, 3, none⟩ = some (.int .u64 (at' : Nat))) W) := Lib.hid fun W hW => by
  obtain ⟨-, -, e2, e3, -⟩ := Ev.EBox.cells (HE.out W hW)
  exact ⟨e2, e3⟩
 have hwr : IntKind.i64.wrap (yN + 1) = yN + 1 := IntWalk.i64_in _ (by omega)
 cases okb with
 | false =>
  exact M5
 | true =>
  cases yb with
  | true =>
   exact M5
  | false =>
   by_cases q3 : yN + 1 = en
   ·have k3 : decide (yN + 1 = en) = true := decide_eq_true q3
    by_cases q4 : ya ≤ now
    ·have k4 : decide (ya ≤ now) = true := decide_eq_true q4
     by_cases q5 : now ≤ at'
     ·have k5 : decide (now ≤ at') = true := decide_eq_true q5
      cases alone with
      | true =>
       exact M5
      | false =>
       exact M5
     ·have k5 : decide (now ≤ at') = false := decide_eq_false q5
      exact M5
    ·have k4 : decide (ya ≤ now) = false := decide_eq_false q4
     exact M5
   ·have k3 : decide (yN + 1 = en) = false := decide_eq_false q3
    exact M5) : p := h
end Q139
namespace Q210
theorem Y205 {p : Prop} (h : p := by
 obtain ⟨W1, hW1⟩ : ∃ W1, W1 = w.alloc (.cells (evCells ⟨2, id, en, at', name, text, ev⟩ vk vn vf vs A m c) 71) := ⟨_, rfl⟩
 have hb1 : Below w.heap.size w W1 := by rw [hW1]; exact (Below.refl _ _).alloc (Nat.le_refl _) _
 have hz1 : W1.heap.size = w.heap.size + 1 := by rw [hW1]; simp
 have hx1 : Ev.EBox W1 w.heap.size (evCells ⟨2, id, en, at', name, text, ev⟩ vk vn vf vs A m c) := by rw [hW1]; exact heap_alloc_new _ _
 have hgl : g < w.heap.size := (Array.getElem?_eq_some_iff.1 h.blk).1
 have HE : Hid (∀ W, Below W1.heap.size W1 W → Ev.EBox W w.heap.size (evCells ⟨2, id, en, at', name, text, ev⟩ vk vn vf vs A m c)) := Lib.hid fun W hW => (hW.block _ (by omega)).trans hx1
 open Q139 in exact M135) : p := h
end Q210
set_option maxRecDepth 100000 in
set_option maxHeartbeats 8000000 in
theorem apply2_run (g bt bm bk : Nat) (s : ST) (h : SAt Y w g bt bm bk n s) (hn : n < 17592186044416) (e : EV) (he : EvOk e) (hk : e.k = 2) (vk vn : Int) (vf : Nat) (vs : ByteArray) (A : Option Addr) (m c : Nat) (now : Nat) (alone : Bool) (yi : Nat) (yn : ByteArray) (yk yv : Int) (yf : Nat) (ys : ByteArray) (yA : Option Addr) (ym yc : Nat) (yN : Int) (yb : Bool) (ya : Nat) (okb : Bool) (hN0 : 0 ≤ yN) (hN1 : yN ≤ 2147483647) (hl : ∀ W : World, W.heap[bt]? = w.heap[bt]? → (Instr.lookup 103 (.map (some bt)) (.int .u64 (e.id : Nat)) true).run Tryz.prog W = .ok (.tuple #[.agg #[.int .u64 (yi : Nat), .string yn, .int .i64 yk, .int .i64 yv, .float .f64 yf, .string ys, .slice yA ym yc, .int .i64 yN, .bool yb, .int .u64 (ya : Nat)], .bool okb]) W) :
  Calls Tryz.prog 99 #[.pointer (some ⟨g, 0, none⟩), .agg (evCells e vk vn vf vs A m c), .int .u64 (now : Nat), .bool alone] w fun r w' => r = .returned (.bool (okb && !yb && decide (yN + 1 = e.n) && decide (ya ≤ now) && decide (now ≤ e.at') && alone)) ∧ ∃ W3, Below w.heap.size w W3 ∧ (Instr.mapUpdate 103 (.map (some bt)) (.int .u64 (e.id : Nat)) (.agg #[.int .u64 (yi : Nat), .string yn, .int .i64 yk, .int .i64 yv, .float .f64 yf, .string ys, .slice yA ym yc, .int .i64 e.n, .bool true, .int .u64 (e.at' : Nat)])).run Tryz.prog W3 = .ok () w' := by
 obtain ⟨k, id, en, at', name, text, ev⟩ := e
 obtain rfl : k = 2 := hk
 have hi := he.f.i1
 dsimp only at hi
 have hn1 := he.n0; have hn2 := he.n1
 dsimp only at hn1 hn2 hl ⊢
 open Q210 in exact M205
end Hi
end Go.Proofs.YtfmnacebgplpcaaGreat
namespace Go.Proofs.YtfmnacebgplpcaaGreat
namespace Hi
open Nm (ret_int ret_bool)
open Vt (VT Rep below_drew Cloned)
open Ev (EV FieldsOk evCells vCells take_drop tk ap rd1 rd2 cons_drop)
open Cm (EvsIn)
variable {X X' Y : Nat → Prop} {u v w w' V V' : World} {b n : Nat} {ts : List TK} {l : List (Nat × Nat)} {ks : List ByteArray}

set_option maxRecDepth 100000 in
set_option maxHeartbeats 4000000 in
theorem apply2 (g bt bm bk : Nat) (s : ST) (h : SAt Y w g bt bm bk n s) (e : EV) (he : EvOk e) (hk : e.k = 2) (vk vn : Int) (vf : Nat) (vs : ByteArray) (A : Option Addr) (m c : Nat) (now : Nat) (alone : Bool) (hn : n < 17592186044416) :
  Calls Tryz.prog 99 #[.pointer (some ⟨g, 0, none⟩), .agg (evCells e vk vn vf vs A m c), .int .u64 (now : Nat), .bool alone] w (AOut Y w g bt bm bk n (applyM now alone e s)) := by
 have hi := he.f.i1
 obtain ⟨yi, yn, yk, yv, yf, ys, yA, ym, yc, yN, yb, ya, okb, hl, hyN, hdec⟩ := h.maps.tasks.any2 e.id hi
 refine (apply2_run g bt bm bk s h hn e he hk vk vn vf vs A m c now alone yi yn yk yv yf ys yA ym yc yN yb ya okb hyN.1 hyN.2 hl).mono ?_
 rintro r w' ⟨rfl, W3, hb, hr⟩
 refine ⟨upd_none h hn hb hi hr, ?_⟩
 rcases hdec with ⟨rfl, hno⟩ | ⟨rfl, t, h1, h0, h2, h3, h4, hrep⟩
 ·have hX : applyM now alone e s = none := by simp [applyM, hk, hno]
  rw [hX]; rfl
 ·by_cases hc : t.fl = false ∧ t.n + 1 = e.n ∧ t.at' ≤ now ∧ now ≤ e.at' ∧ alone = true
  ·have hX : applyM now alone e s = some { s with tasks := tput s.tasks { t with n := e.n, at' := e.at', fl := true } } := by simp [applyM, hk, h1, hc]
   rw [hX]
   obtain ⟨c1, c2, c3, c4, c5⟩ := hc
   refine ⟨Nm.ret_bool (by simp [← h2, ← h3, ← h4, c1, c2, c3, c4, c5]), ?_⟩
   exact (upd_some (t := { t with n := e.n, at' := e.at', fl := true }) h hn hb (h0 ▸ h1) (hrep e.n true e.at' he.n0 he.n1 he.f.a1) (by rw [show ({ t with n := e.n, at' := e.at', fl := true } : TK).id = e.id from h0]; exact hr)).2
  ·have hX : applyM now alone e s = none := by simp only [applyM, hk, h1, if_true, if_neg hc]
   rw [hX]
   refine Nm.ret_bool (Bool.eq_false_iff.2 fun q => hc ?_)
   simp only [Bool.and_eq_true, Bool.not_eq_true', decide_eq_true_eq, Bool.true_and] at q
   obtain ⟨⟨⟨⟨q1, q2⟩, q3⟩, q4⟩, q5⟩ := q
   exact ⟨h3.trans q1, by rw [h2]; exact q2, by rw [h4]; exact q3, q4, q5⟩
end Hi
end Go.Proofs.YtfmnacebgplpcaaGreat
namespace Go.Proofs.YtfmnacebgplpcaaGreat
namespace Hi
open Nm (ret_int ret_bool)
open Vt (VT Rep below_drew Cloned)
open Ev (EV FieldsOk evCells vCells take_drop tk ap rd1 rd2 cons_drop)
open Cm (EvsIn)
variable {X X' Y : Nat → Prop} {u v w w' V V' : World} {b n : Nat} {ts : List TK} {l : List (Nat × Nat)} {ks : List ByteArray}

set_option maxRecDepth 100000 in
set_option maxHeartbeats 4000000 in
theorem apply7 (g bt bm bk : Nat) (s : ST) (h : SAt Y w g bt bm bk n s) (e : EV) (he : EvOk e) (hk : e.k = 7) (vk vn : Int) (vf : Nat) (vs : ByteArray) (A : Option Addr) (m c : Nat) (now : Nat) (alone : Bool) (hn : n < 17592186044416) (hx : s.next < 1152921504606846976) (hf : Fine s) (hY : ∀ b, Y b → b < w.heap.size) (lo hi' : Nat) (hv : Rep w lo hi' e.v (vCells vk vn vf vs A m c)) (hhi : hi' ≤ w.heap.size) (hlow : hi' ≤ g ∧ hi' ≤ bt ∧ hi' ≤ bm ∧ hi' ≤ bk) (hnow : now < 18446744073709551616) :
  Calls Tryz.prog 99 #[.pointer (some ⟨g, 0, none⟩), .agg (evCells e vk vn vf vs A m c), .int .u64 (now : Nat), .bool alone] w (AOut Y w g bt bm bk n (applyM now alone e s)) := by
 obtain ⟨k, id, en, at', name, text, ev⟩ := e
 obtain rfl : k = 7 := hk
 have hi := he.f.i1
 dsimp only at hi
 have hsl := he.slim
 have hs1 := he.f.s1
 dsimp only at hsl hs1
 have HF := Lib.hid hf; have HYY := Lib.hid hY; have HV0 := Lib.hid hv; have HLW := Lib.hid hlow
 clear hY hv hlow
 obtain ⟨yi, yn, yk, yv, yf, ys, yA, ym, yc, yN, yb, ya, okb, hl⟩ := h.maps.tasks.any id hi
 have HL : Hid (∀ W, W.heap[bt]? = w.heap[bt]? → (Instr.lookup 103 (.map (some bt)) (.int .u64 (id : Nat)) true).run Tryz.prog W = .ok (.tuple #[.agg #[.int .u64 (yi : Nat), .string yn, .int .i64 yk, .int .i64 yv, .float .f64 yf, .string ys, .slice yA ym yc, .int .i64 yN, .bool yb, .int .u64 (ya : Nat)], .bool okb]) W) := Lib.hid hl
 clear hl
 obtain ⟨W1, hW1⟩ : ∃ W1, W1 = w.alloc (.cells (evCells ⟨7, id, en, at', name, text, ev⟩ vk vn vf vs A m c) 71) := ⟨_, rfl⟩
 have hb1 : Below w.heap.size w W1 := by rw [hW1]; exact (Below.refl _ _).alloc (Nat.le_refl _) _
 have hz1 : W1.heap.size = w.heap.size + 1 := by rw [hW1]; simp
 have hx1 : Ev.EBox W1 w.heap.size (evCells ⟨7, id, en, at', name, text, ev⟩ vk vn vf vs A m c) := by rw [hW1]; exact heap_alloc_new _ _
 have hgl : g < w.heap.size := (Array.getElem?_eq_some_iff.1 h.blk).1
 have HE : Hid (∀ W, Below W1.heap.size W1 W → Ev.EBox W w.heap.size (evCells ⟨7, id, en, at', name, text, ev⟩ vk vn vf vs A m c)) := Lib.hid fun W hW => (hW.block _ (by omega)).trans hx1
 have HST : Hid (∀ W, Below W1.heap.size W1 W → SAt Y W g bt bm bk n s) := Lib.hid fun W hW => h.later (hb1.trans (hW.mono hb1.size))
 have KS : Hid (∀ W, Below W1.heap.size W1 W → (fun W => W.cell? ⟨g, 0, none⟩ = some (.map (some bt)) ∧ W.cell? ⟨w.heap.size, 1, none⟩ = some (.int .u64 (id : Nat)) ∧ (Instr.lookup 103 (.map (some bt)) (.int .u64 (id : Nat)) true).run Tryz.prog W = .ok (.tuple #[.agg #[.int .u64 (yi : Nat), .string yn, .int .i64 yk, .int .i64 yv, .float .f64 yf, .string ys, .slice yA ym yc, .int .i64 yN, .bool yb, .int .u64 (ya : Nat)], .bool okb]) W) W) := Lib.hid fun W hW => ⟨(st_cells (HST.out W hW).blk).1, (Ev.EBox.cells (HE.out W hW)).2.1, HL.out W ((hb1.trans (hW.mono hb1.size)).block _ h.maps.tasks.lt)⟩
 obtain ⟨W2, hW2⟩ : ∃ W2, W2 = (W1.alloc (.cells #[.int .u64 (yi : Nat), .string yn, .int .i64 yk, .int .i64 yv, .float .f64 yf, .string ys, .slice yA ym yc, .int .i64 yN, .bool yb, .int .u64 (ya : Nat)] 132)).drew := ⟨_, rfl⟩
 have hq2 : Below W1.heap.size W1 W2 := by rw [hW2]; exact below_drew ((Below.refl _ _).alloc (Nat.le_refl _) _)
 have hz2 : W2.heap.size = w.heap.size + 2 := by rw [hW2]; simp [hz1]
 have ht2 : W2.heap[W1.heap.size]? = some (.cells #[.int .u64 (yi : Nat), .string yn, .int .i64 yk, .int .i64 yv, .float .f64 yf, .string ys, .slice yA ym yc, .int .i64 yN, .bool yb, .int .u64 (ya : Nat)] 132 (0, 0)) := by rw [hW2]; exact heap_alloc_new _ _
 have HB2 := Lib.hid (hb1.trans (hq2.mono hb1.size)); have HQ2 := Lib.hid hq2; have HZ1 := Lib.hid hz1; have HZ2 := Lib.hid hz2; have HT2 := Lib.hid ht2; have HGL := Lib.hid hgl
 have H0 := Lib.hid h
 have HBW := Lib.hid hb1
 have HSW : Hid (∀ W, Below W1.heap.size W1 W → ∀ y, W1.heap.size ≤ y → Below W1.heap.size W1 W) := Lib.hid fun W hW _ _ => hW
 unfold evCells at hW1
 replace hW1 := Lib.hid hW1; replace hW2 := Lib.hid hW2
 clear h hb1 hx1 hq2 ht2 hgl hz1 hz2 HL
 unfold evCells
 go_enter Tryz.func99, Tryz.ntmps99
 go_upto_region 1 with fail
 rw [← hW1.out]
 refine wp_region_noPanic ?_
 refine wp_region_held_drew (S := (fun W => W.cell? ⟨g, 0, none⟩ = some (.map (some bt)) ∧ W.cell? ⟨w.heap.size, 1, none⟩ = some (.int .u64 (id : Nat)) ∧ (Instr.lookup 103 (.map (some bt)) (.int .u64 (id : Nat)) true).run Tryz.prog W = .ok (.tuple #[.agg #[.int .u64 (yi : Nat), .string yn, .int .i64 yk, .int .i64 yv, .float .f64 yf, .string ys, .slice yA ym yc, .int .i64 yN, .bool yb, .int .u64 (ya : Nat)], .bool okb]) W)) (by kernel_rfl) ?_ (fun hHeld => ?_)
 ·exact KS.out _ (below_drew (Below.refl _ _))
 refine tk 0 rfl ?_
 try simp only [ap]
 refine tk 1 rfl ?_
 try simp only [ap]
 refine tk 2 rfl ?_
 try simp only [ap]
 refine tk 3 rfl ?_
 try simp only [ap]
 refine tk 4 rfl ?_
 try simp only [ap]
 refine tk 5 rfl ?_
 try simp only [ap]
 refine tk 6 rfl ?_
 try simp only [ap]
 refine tk 7 rfl ?_
 try simp only [ap]
 refine tk 8 rfl ?_
 try simp only [ap]
 refine tk 9 rfl ?_
 try simp only [ap]
 refine rd1 10 rfl fun K hK => ?_
 go_simp
 refine hK.out _ _ (KS.out _ ((below_drew (Below.refl _ _)).alloc (Nat.le_refl _) _)) (fun hHeld2 => ?_)
 clear hK K hHeld
 try simp only [ap]
 refine rd1 11 rfl fun K hK => ?_
 go_simp
 refine hK.out _ _ (KS.out _ (below_drew ((Below.refl _ _).alloc (Nat.le_refl _) _))) (fun hHeld3 => ?_)
 clear hK K hHeld2
 try simp only [ap]
 refine rd1 12 rfl fun K hK => ?_
 go_simp
 refine hK.out _ _ (KS.out _ (below_drew ((Below.refl _ _).alloc (Nat.le_refl _) _))) (fun hHeld4 => ?_)
 clear hK K hHeld3
 try simp only [ap]
 refine wpAnyH_done (by kernel_rfl) ?_ _
 refine NoPanic.normal ?_
 clear hHeld4
 rw [← hW2.out]
 have h := HST.out W2 HQ2.out
 obtain ⟨c0, c1, c2, c3, c4, f0, f1, f2, f3, f4⟩ := st_cells h.blk
 obtain ⟨e0, e1, e2, e3, e4, e5, e6, e7, e8, e9, e10⟩ := Ev.EBox.cells (HE.out W2 HQ2.out)
 dsimp only at e0 e1 e2 e3 e4 e5
 obtain ⟨t0, t1, t2, t3, t4, t5, t6, t7, t8, t9, tf⟩ := t_cells HT2.out
 by_cases hid2 : id = s.next
 rotate_left
 ·have kid : ((id : Int) != (s.next : Int)) = true := by simp; omega
  have HX : Hid (applyM now alone ⟨7, id, en, at', name, text, ev⟩ s = none) := Lib.hid (by simp [applyM, hid2])
  exact M108
 have kid : ((id : Int) != (s.next : Int)) = false := by simp; omega
 have HID := Lib.hid hid2
 obtain ⟨h3', hc3⟩ := h.cell 3 (.int .u64 ((s.next : Int) + 1)) { s with next := s.next + 1 } rfl rfl rfl rfl
 have h3 := h3'.later (below_drew (Below.refl _ _))
 obtain ⟨W3, hW3⟩ : ∃ W3, W3 = (W2.setCell ⟨g, 3, none⟩ (.int .u64 ((s.next : Int) + 1))).drew := ⟨_, rfl⟩
 replace hc3 := hc3.trans (Chg.of_below (X := XS g bt bm bk) (below_drew (Below.refl _ _)))
 clear h3'
 rw [← hW3] at h3 hc3
 have HC3 := Lib.hid ((Chg.of_below HB2.out).trans hc3)
 have hz3 : W3.heap.size = W2.heap.size := by rw [hW3]; simp [World.setCell, World.drew]
 have hx3 : Ev.EBox W3 w.heap.size (evCells ⟨7, id, en, at', name, text, ev⟩ vk vn vf vs A m c) := by
  exact M115
 have HX3 := Lib.hid hx3; have H3 := Lib.hid h3; have HZ3 := Lib.hid hz3
 clear hid2 hc3 hx3 h3 hz3
 go_upto_region 31 with fail
 go_still_tail 6, (by kernel_rfl)
 go_upto_region 34 with fail
 rw [← hW3]
 replace hW3 := Lib.hid hW3
 clear h c0 c1 c2 c3 c4 f0 f1 f2 f3 f4 e0 e1 e2 e3 e4 e5 e6 e7 e8 e9 e10 t0 t1 t2 t3 t4 t5 t6 t7 t8 t9 tf
 have h := H3.out
 obtain ⟨c0, c1, c2, c3, c4, f0, f1, f2, f3, f4⟩ := st_cells h.blk
 obtain ⟨e0, e1, e2, e3, e4, e5, e6, e7, e8, e9, e10⟩ := Ev.EBox.cells HX3.out
 dsimp only at e0 e1 e2 e3 e4 e5
 have KS5 : Hid (∀ W, Below W3.heap.size W3 W → (fun W => W.cell? ⟨g, 0, none⟩ = some (.map (some bt)) ∧ W.cell? ⟨w.heap.size, 1, none⟩ = some (.int .u64 (id : Nat)) ∧ W.cell? ⟨w.heap.size, 4, none⟩ = some (.string name) ∧ W.cell? ⟨w.heap.size, 6, none⟩ = some (.int .i64 vk) ∧ W.cell? ⟨w.heap.size, 7, none⟩ = some (.int .i64 vn) ∧ W.cell? ⟨w.heap.size, 8, none⟩ = some (.float .f64 vf) ∧ W.cell? ⟨w.heap.size, 9, none⟩ = some (.string vs) ∧ W.cell? ⟨w.heap.size, 10, none⟩ = some (.slice A m c)) W) := Lib.hid fun W hW => by
  obtain ⟨q0, -⟩ := st_cells (H3.out.later hW).blk
  obtain ⟨-, z1, -, -, z4, -, z6, z7, z8, z9, z10⟩ := Ev.EBox.cells (HX3.out.later hW (by have := HZ3.out; have := HZ2.out; omega))
  exact ⟨q0, z1, z4, z6, z7, z8, z9, z10⟩
 have hvd : Rep W3.drew lo hi' ev (vCells vk vn vf vs A m c) := Rep.keep HV0.out fun b o h1 h2 => by
  obtain ⟨l1, l2, l3, l4⟩ := HLW.out
  exact World.cell?_of_block (a := ⟨b, o, none⟩) (HC3.out.block b (by omega) (fun hx => by rcases hx with rfl | rfl | rfl | rfl <;> omega))
 have HCL := Lib.hid (Vt.clone_any ev W3.drew lo hi' _ hvd (by have := HC3.out.size; show hi' ≤ W3.heap.size; omega) hsl)
 clear hvd
 unfold vCells at HCL
 go_upto_region 37 with fail
 refine wp_region_noPanic ?_
 refine wp_region_held_drew (S := (fun W => W.cell? ⟨g, 0, none⟩ = some (.map (some bt)) ∧ W.cell? ⟨w.heap.size, 1, none⟩ = some (.int .u64 (id : Nat)) ∧ W.cell? ⟨w.heap.size, 4, none⟩ = some (.string name) ∧ W.cell? ⟨w.heap.size, 6, none⟩ = some (.int .i64 vk) ∧ W.cell? ⟨w.heap.size, 7, none⟩ = some (.int .i64 vn) ∧ W.cell? ⟨w.heap.size, 8, none⟩ = some (.float .f64 vf) ∧ W.cell? ⟨w.heap.size, 9, none⟩ = some (.string vs) ∧ W.cell? ⟨w.heap.size, 10, none⟩ = some (.slice A m c))) (by kernel_rfl) ?_ (fun hHeld => ?_)
 ·exact KS5.out _ (below_drew (Below.refl _ _))
 refine tk 0 rfl ?_
 try simp only [ap]
 refine tk 1 rfl ?_
 try simp only [ap]
 refine tk 2 rfl ?_
 try simp only [ap]
 refine tk 3 rfl ?_
 try simp only [ap]
 refine tk 4 rfl ?_
 try simp only [ap]
 refine tk 5 rfl ?_
 try simp only [ap]
 refine tk 6 rfl ?_
 try simp only [ap]
 refine tk 7 rfl ?_
 try simp only [ap]
 refine tk 8 rfl ?_
 try simp only [ap]
 refine tk 9 rfl ?_
 try simp only [ap]
 refine tk 10 rfl ?_
 try simp only [ap]
 refine tk 11 rfl ?_
 try simp only [ap]
 refine tk 13 rfl ?_
 try simp only [ap]
 refine rd1 12 rfl fun K hK => ?_
 go_simp
 (with_reducible refine HCL.out.mono ?_)
 rintro e5 w5 ⟨kq, nq, fq, sq, lq, A2, cap2, ht, rfl, hr5, hb9, -⟩
 have hq5 : Below W3.heap.size W3 w5 := (below_drew (Below.refl _ _)).trans hb9
 have hz5 := hq5.size
 have hnone : tget s.tasks id = none := by
  unfold tget
  rw [List.find?_eq_none]
  intro t ht2
  have := HF.out.below t ht2
  have := HID.out
  simp; omega
 have htr : TRep (veil (XY Y g bt bm bk) w5) ⟨id, name, ev, 0, false, now⟩ (.agg #[.int .u64 (id : Nat), .string name, .int .i64 kq, .int .i64 nq, .float .f64 fq, .string sq, .slice A2 lq.length cap2, .int .i64 0, .bool false, .int .u64 (now : Nat)]) :=
  ⟨W3.heap.size, w5.heap.size, kq, nq, fq, sq, A2, lq.length, cap2, rfl, ⟨hi, Int.le_refl 0, (by decide : (0 : Int) ≤ 2147483647), hnow, hs1⟩, Rep.keep hr5 fun b o h1 h2 => World.cell?_of_block (a := ⟨b, o, none⟩) (veil_off fun hx => by
   have h1' : W3.heap.size ≤ b := h1
   have := HC3.out.size
   have := (Array.getElem?_eq_some_iff.1 H3.out.blk).1
   have := H3.out.maps.tasks.lt; have := H3.out.maps.timers.lt; have := H3.out.maps.keys.lt
   have hx' : XY Y g bt bm bk b := hx
   rcases hx' with hx | rfl | rfl | rfl | rfl
   ·have := HYY.out b hx; omega
   all_goals omega), by rw [veil_size]; exact Nat.le_refl _⟩
 obtain ⟨wd, hput, hmd, hturn⟩ := (H3.out.later hq5).maps.tasks.put (by simp only [maxLen]; omega) htr (ts' := s.tasks ++ [⟨id, name, ev, 0, false, now⟩]) (fun q => tget_snoc hnone q)
 obtain ⟨hsd, hcd⟩ := (H3.out.later hq5).turnT hturn hmd (Nat.le_succ _)
 have hput' : (Instr.mapUpdate 103 (.map (some bt)) (.int .u64 (id : Nat)) (.agg #[.int .u64 (id : Nat), .string name, .int .i64 kq, .int .i64 nq, .float .f64 fq, .string sq, .slice A2 lq.length cap2, .int .i64 0, .bool false, .int .u64 (now : Nat)])).run Tryz.prog w5 = .ok () wd := hput
 have KWD : Hid ((fun W => W.cell? ⟨g, 0, none⟩ = some (.map (some bt)) ∧ W.cell? ⟨w.heap.size, 1, none⟩ = some (.int .u64 (id : Nat)) ∧ W.cell? ⟨w.heap.size, 4, none⟩ = some (.string name) ∧ W.cell? ⟨w.heap.size, 6, none⟩ = some (.int .i64 vk) ∧ W.cell? ⟨w.heap.size, 7, none⟩ = some (.int .i64 vn) ∧ W.cell? ⟨w.heap.size, 8, none⟩ = some (.float .f64 vf) ∧ W.cell? ⟨w.heap.size, 9, none⟩ = some (.string vs) ∧ W.cell? ⟨w.heap.size, 10, none⟩ = some (.slice A m c)) wd) := Lib.hid (by
  obtain ⟨q0, -⟩ := st_cells hsd.blk
  obtain ⟨-, z1, -, -, z4, -, z6, z7, z8, z9, z10⟩ := Ev.EBox.cells ((hturn.grown.block w.heap.size (by have := HZ3.out; have := HZ2.out; omega) (fun e => by injection e with e; have := H0.out.maps.tasks.lt; omega)).trans (HX3.out.later hq5 (by have := HZ3.out; have := HZ2.out; omega)))
  exact ⟨q0, z1, z4, z6, z7, z8, z9, z10⟩)
 have HSD := Lib.hid hsd; have HCD := Lib.hid ((HC3.out.trans (Chg.of_below hq5)).trans hcd)
 have HX : Hid (applyM now alone ⟨7, id, en, at', name, text, ev⟩ s = some { s with tasks := s.tasks ++ [⟨id, name, ev, 0, false, now⟩], next := s.next + 1 }) := Lib.hid (by simp [applyM, HID.out])
 have HQ5 := Lib.hid hq5
 clear ht hr5 hb9 hnone htr hput hmd hturn hsd hcd hq5
 go_wp2_with fail
 refine hK.out _ _ (KS5.out _ HQ5.out) (fun hHeld2 => ?_)
 clear hK K hHeld
 try simp only [ap]
 refine tk 14 rfl ?_
 try simp only [ap]
 refine rd1 15 rfl fun K hK => ?_
 go_simp
 refine hK.out _ _ KWD.out (fun hHeld3 => ?_)
 clear hK K hHeld2
 try simp only [ap]
 refine wpAnyH_done (by kernel_rfl) ?_ _
 refine NoPanic.normal ?_
 clear hHeld3
 clear h c0 c1 c2 c3 c4 f0 f1 f2 f3 f4 e0 e1 e2 e3 e4 e5 e6 e7 e8 e9 e10
 go_wp2_with fail
 go_ret
 exact ⟨HCD.out, by rw [HX.out]; exact ⟨rfl, HSD.out⟩⟩
end Hi
end Go.Proofs.YtfmnacebgplpcaaGreat
namespace Go.Proofs.YtfmnacebgplpcaaGreat
namespace Hi
open Nm (ret_int ret_bool)
open Vt (VT Rep below_drew Cloned)
open Ev (EV FieldsOk evCells vCells take_drop tk ap rd1 rd2 cons_drop fieldsOf pickB goodL)
open Cm (EvsIn)
variable {X X' Y : Nat → Prop} {u v w w' V V' : World} {b n : Nat} {ts : List TK} {l : List (Nat × Nat)} {ks : List ByteArray}

theorem evOk_of {e : EV} (hf : FieldsOk e) (hv : e.valid = true) (hs : e.v.Slim 900) : EvOk e := by
 unfold Ev.EV.valid goodL at hv
 simp only [List.all_cons, List.all_nil, Bool.and_true, Bool.and_eq_true, decide_eq_true_eq] at hv
 obtain ⟨⟨h0, h1⟩, -, g1, g2, -⟩ := hv
 have hn : 0 ≤ e.n ∧ e.n ≤ 2147483647 := by
  unfold pickB at g1
  split at g1
  ·have := of_decide_eq_true g1; omega
  ·have : e.n = 0 := by simpa using g1
   omega
 refine ⟨hf, h0, h1, hn.1, hn.2, fun h3 => ?_, hs⟩
 rw [h3] at g2
 have : (fieldsOf (3 : Int).toNat).contains 2 = false := by decide
 rw [this] at g2
 unfold pickB at g2
 simpa using g2
theorem apply_any (g bt bm bk : Nat) (s : ST) (h : SAt Y w g bt bm bk n s) (hn : n < 17592186044416) (hx : s.next < 1152921504606846976) (hf : Fine s) (hY : ∀ b, Y b → b < w.heap.size) (e : EV) (he : EvOk e) (vk vn : Int) (vf : Nat) (vs : ByteArray) (A : Option Addr) (m c : Nat)
  (lo hi' : Nat) (hv : Rep w lo hi' e.v (vCells vk vn vf vs A m c)) (hhi : hi' ≤ w.heap.size) (hlow : hi' ≤ g ∧ hi' ≤ bt ∧ hi' ≤ bm ∧ hi' ≤ bk) (now : Nat) (hnow : now < 18446744073709551616) (alone : Bool) :
  Calls Tryz.prog 99 #[.pointer (some ⟨g, 0, none⟩), .agg (evCells e vk vn vf vs A m c), .int .u64 (now : Nat), .bool alone] w (AOut Y w g bt bm bk n (applyM now alone e s)) := by
 have h0 := he.k0; have h1 := he.k1
 rcases (by omega : e.k = 1 ∨ e.k = 2 ∨ e.k = 3 ∨ e.k = 4 ∨ e.k = 5 ∨ e.k = 6 ∨ e.k = 7 ∨ e.k = 8 ∨ e.k = 9 ∨ e.k = 10 ∨ e.k = 11) with k | k | k | k | k | k | k | k | k | k | k
 ·exact apply1 g bt bm bk s h e he k vk vn vf vs A m c now alone
 ·exact apply2 g bt bm bk s h e he k vk vn vf vs A m c now alone hn
 ·exact apply3_done g bt bm bk s h e he k vk vn vf vs A m c now alone
 ·by_cases ha : e.at' = 0
  ·exact apply4_done g bt bm bk s h e he k vk vn vf vs A m c now alone ha
  ·exact apply4_try g bt bm bk s h e he k vk vn vf vs A m c now alone hn ha
 ·exact apply5 g bt bm bk s h e he k vk vn vf vs A m c now alone
 ·exact apply6 g bt bm bk s h e he k vk vn vf vs A m c now alone hn
 ·exact apply7 g bt bm bk s h e he k vk vn vf vs A m c now alone hn hx hf hY lo hi' hv hhi hlow hnow
 ·exact apply8 g bt bm bk s h e he k vk vn vf vs A m c now alone hn hx hf
 ·exact apply9 g bt bm bk s h e he k vk vn vf vs A m c now alone
 ·exact apply10 g bt bm bk s h e he k vk vn vf vs A m c now alone
 ·exact apply11 g bt bm bk s h e he k vk vn vf vs A m c now alone
theorem apply_next {now : Nat} {alone : Bool} {e : EV} {s s' : ST} (h : applyM now alone e s = some s') : s'.next ≤ s.next + 1 := by
 unfold applyM at h
 repeat' split at h
 all_goals first | cases h | skip
 all_goals first | exact Nat.le_succ _ | exact Nat.le_refl _ | skip
theorem apply_keys {now : Nat} {alone : Bool} {e : EV} {s s' : ST} (h : applyM now alone e s = some s') : s'.keys.length ≤ s.keys.length + 1 := by
 unfold applyM at h
 repeat' split at h
 all_goals first | cases h | skip
 all_goals first | exact Nat.le_succ _ | (simp; done) | skip
theorem runM_cons {now : Nat} {e : EV} {r : List EV} {first : Bool} {s : ST} (hk : decide (e.k ≤ 6) = first) : runM now (e :: r) first s = (applyM now r.isEmpty e s).bind (runM now r false) := by
 rw [runM, if_pos hk]
theorem runM_not {now : Nat} {e : EV} {r : List EV} {first : Bool} {s : ST} (hk : ¬ decide (e.k ≤ 6) = first) : runM now (e :: r) first s = none := by
 rw [runM, if_neg hk]
theorem drop_isEmpty {es : List EV} {j : Nat} (h : j < es.length) : (es.drop (j + 1)).isEmpty = decide ((j : Int) = (es.length : Int) - 1) := by
 by_cases q : j + 1 = es.length
 ·rw [q, List.drop_length, decide_eq_true (by omega)]; rfl
 ·rw [decide_eq_false (by omega)]
  cases hd : es.drop (j + 1) with
  | nil => rw [List.drop_eq_nil_iff] at hd; omega
  | cons a l => rfl
end Hi
end Go.Proofs.YtfmnacebgplpcaaGreat
namespace Go.Proofs.YtfmnacebgplpcaaGreat
namespace Cn
open Nm (bitsW ret_int ret_bool)
open Vt (VT Rep BoxAt below_drew Cloned put5 KidsAt HeadOk)
open Ev (EV FieldsOk evCells vCells EBox ERep zeroT take_drop tk ap rd1 rd2 cons_drop)
open Cm (rowOf EvsIn EvsAt EvNew evsSame evSame)

theorem outside_any (k : Int) (w : World) : Calls Tryz.prog 98 #[.int .i64 k] w fun r w' => r = .returned (.bool (decide (1 ≤ k ∧ k ≤ 6))) ∧ w = w' := by
 by_cases h : 1 ≤ k
 ·have hb : decide (1 ≤ k) = true := by simpa using h
  go_enter Tryz.func98, Tryz.ntmps98
  go_wp2_with fail
  go_ret
  exact ⟨ret_bool (by simp [h]), rfl⟩
 ·have hb : decide (1 ≤ k) = false := by simpa using h
  go_enter Tryz.func98, Tryz.ntmps98
  go_wp2_with fail
  go_ret
  exact ⟨ret_bool (by simp [h]), rfl⟩

def Asks (g : Nat) (p : EV → Bool) (es : List EV) : Prop := ∀ (e : EV) (_ : e ∈ es) (lo hi : Nat) (vk vn : Int) (vf : Nat) (vs : ByteArray) (A : Option Addr) (m c : Nat) (w : World), FieldsOk e → Rep w lo hi e.v (vCells vk vn vf vs A m c) → hi ≤ w.heap.size →
 Calls Tryz.prog g #[.agg (evCells e vk vn vf vs A m c)] w fun r w' => r = .returned (.bool (p e)) ∧ Below w.heap.size w w'

def Found (p : EV → Bool) (es : List EV) (i : Int) : Prop := (i = -1 ∧ ∀ m (h : m < es.length), p es[m] = false) ∨ ∃ n : Nat, i = n ∧ ∃ h : n < es.length, p es[n] = true ∧ ∀ m (h : m < es.length), m < n → p es[m] = false

set_option maxRecDepth 100000 in
set_option maxHeartbeats 2000000 in
theorem ifunc_any (g : Nat) (hcall : ∀ args w, (callFunc g args).run Tryz.prog w = .ok (.enter g args) w) (p : EV → Bool) (es : List EV) (hG : Asks g p es) (A : Option Addr) (cap : Nat) (w : World) (h : EvsIn w A cap es) :
  Calls Tryz.prog 110 #[.slice A es.length cap, .func (.func g) #[] #[]] w fun r w' => ∃ i, r = .returned (.int .i64 i) ∧ Found p es i ∧ Below w.heap.size w w' := by
 have hl := h.le
 have hc := h.cap_le
 simp only [maxLen] at hc
 have HK := Lib.hid h; clear h
 have HG := Lib.hid hG; clear hG
 go_enter Tryz.func110, Tryz.ntmps110
 go_wp2_with fail
 go_loopw [4, 8] (fun o i wr => ∃ (j : Nat), j ≤ es.length ∧ i = .int .i64 j ∧ o = .int .i64 0 ∧ (∀ m (h : m < es.length), m < j → p es[m] = false) ∧ Below w.heap.size w wr) (fun _ i _ => es.length - (intOf i).toNat)
 case atStart => exact ⟨0, by omega, rfl, rfl, fun m _ h => absurd h (by omega), Below.refl _ _⟩
 case round =>
  obtain ⟨j, hj, rfl, rfl, hno, hb⟩ := hrel
  have HNO := Lib.hid hno; have HB := Lib.hid hb
  clear hno hb
  by_cases hlt : j < es.length
  ·obtain ⟨b, off, lo, hi, vk, vn, vf, vs, A', m, c, rfl, hbl, hf, hv, hhi, d0, d1, d2, d3, d4, d5, d6, d7, d8, d9, d10⟩ := (HK.out.later HB.out).get j hlt
   have HC := Lib.hid (HG.out es[j] (List.getElem_mem hlt) lo hi vk vn vf vs A' m c wr hf hv hhi)
   unfold evCells at HC
   clear hf hv
   go_wp2_with fail
   refine HC.out.mono ?_
   rintro x w1 ⟨rfl, hb1⟩
   have HB1 := Lib.hid (HB.out.trans (hb1.mono HB.out.size))
   clear hb1 d0 d1 d2 d3 d4 d5 d6 d7 d8 d9 d10 HC
   cases hp : p es[j] with
   | true =>
    have HP := Lib.hid hp; clear hp
    go_wp2_with fail
    go_ret
    exact ⟨_, rfl, .inr ⟨j, rfl, hlt, HP.out, HNO.out⟩, HB1.out⟩
   | false =>
    have HP := Lib.hid hp; clear hp
    go_wp2_with fail
    go_roundw
    case rel => exact ⟨j + 1, by omega, by go_num, rfl, fun m h hm => by
     rcases Nat.lt_or_ge m j with q | q
     ·exact HNO.out m h q
     ·obtain rfl : m = j := by omega
      exact HP.out, HB1.out⟩
    case measure => simp [intOf]; omega
  ·have hj' : j = es.length := by omega
   subst hj'
   go_wp2_with fail
   go_ret
   exact ⟨_, rfl, .inl ⟨rfl, fun m h => HNO.out m h h⟩, HB.out⟩

end Cn
end Go.Proofs.YtfmnacebgplpcaaGreat
namespace Go.Proofs.YtfmnacebgplpcaaGreat
namespace Cn
open Nm (bitsW ret_int ret_bool)
open Vt (VT Rep BoxAt below_drew Cloned put5 KidsAt HeadOk)
open Ev (EV FieldsOk evCells vCells EBox ERep zeroT take_drop tk ap rd1 rd2 cons_drop)
open Cm (rowOf EvsIn EvsAt EvNew evsSame evSame rsev_any)

def efew (e : EV) : Bool := e.v.few && decide (e.name.size ≤ 1100) && decide (e.text.size ≤ 1100)

theorem M52 {p : Prop} (h : p := by
 go_wp2_with (go_at_call 56; refine HV.out.mono ?_; rintro x w1 ⟨rfl, hb1⟩; have HB1 := Lib.hid (HB0.out.trans (hb1.mono HB0.out.size)); obtain ⟨q0, q1, q2, q3, q4, q5, q6, q7, q8, q9, q10⟩ := EBox.cells (HX0.out.later hb1 HX0.out.lt); clear hb1)
 go_ret
 exact ⟨ret_bool (by unfold efew; rw [HFW.out]; simp; omega), HB1.out⟩) : p := h
namespace Q351
theorem Y349 {p : Prop} (h : p := by
 have HV := Lib.hid (Vt.few_any e.v W0 lo hi _ (hv.later (hb0.mono hz)) (Nat.le_trans hz hb0.size))
 obtain ⟨g0, g1, g2, g3, g4, g5, g6, g7, g8, g9, g10⟩ := EBox.cells hx0
 have HX0 := Lib.hid hx0
 have HB0 := Lib.hid hb0
 have hsn := hf.s1
 have hst := hf.t1
 simp only [maxLen] at hsn hst
 clear hv hf hx0 hb0
 unfold evCells at hW0 ⊢
 unfold vCells at HV
 replace hW0 := Lib.hid hW0
 go_enter Tryz.func28, Tryz.ntmps28
 go_upto_region 1 with fail
 rw [← hW0.out]
 generalize hfw : e.v.few = fw at *
 have HFW := Lib.hid hfw; clear hfw
 cases fw with
 | false =>
  go_wp2_with (go_at_call 56; refine HV.out.mono ?_; rintro x w1 ⟨rfl, hb1⟩; have HB1 := Lib.hid (HB0.out.trans (hb1.mono HB0.out.size)); clear hb1)
  go_ret
  exact ⟨ret_bool (by unfold efew; rw [HFW.out]; rfl), HB1.out⟩
 | true =>
  by_cases h1 : e.name.size ≤ 1100
  ·have k1 : decide ((e.name.size : Int) ≤ 1100) = true := decide_eq_true (by omega)
   by_cases h2 : e.text.size ≤ 1100
   ·have k2 : decide ((e.text.size : Int) ≤ 1100) = true := decide_eq_true (by omega)
    exact M52
   ·have k2 : decide ((e.text.size : Int) ≤ 1100) = false := decide_eq_false (by omega)
    exact M52
  ·have k1 : decide ((e.name.size : Int) ≤ 1100) = false := decide_eq_false (by omega)
   exact M52) : p := h
end Q351
theorem M349 {p : Prop} (h : p := by
 obtain ⟨W0, hW0⟩ : ∃ W0, W0 = w.alloc (.cells (evCells e vk vn vf vs A m c) 71) := ⟨_, rfl⟩
 have hb0 : Below w.heap.size w W0 := by rw [hW0]; exact (Below.refl _ _).alloc (Nat.le_refl _) _
 have hx0 : EBox W0 w.heap.size (evCells e vk vn vf vs A m c) := by rw [hW0]; exact box_ev ..
 exact Y349) : p := h
set_option maxRecDepth 100000 in
theorem efew_any (e : EV) (hf : FieldsOk e) (lo hi : Nat) (vk vn : Int) (vf : Nat) (vs : ByteArray) (A : Option Addr) (m c : Nat) (w : World) (hv : Rep w lo hi e.v (vCells vk vn vf vs A m c)) (hz : hi ≤ w.heap.size) :
  Calls Tryz.prog 28 #[.agg (evCells e vk vn vf vs A m c)] w fun r w' => r = .returned (.bool (efew e)) ∧ Below w.heap.size w w' := by
 open Q351 in exact M349

structure BT where mk ::
 flow : ByteArray
 at' : Nat
 es : List EV

structure BtsIn (w : World) (A : Option Addr) (cap : Nat) (bl : List BT) : Prop where
 le : bl.length ≤ cap
 cap_le : cap ≤ maxLen
 at_ : 0 < bl.length → ∃ b off, A = some ⟨b, off, none⟩ ∧ b < w.heap.size ∧ ∀ i (h : i < bl.length), ∃ A' c', bl[i].flow.size ≤ maxLen ∧ bl[i].at' < 18446744073709551616 ∧ EvsIn w A' c' bl[i].es ∧
  w.cell? ⟨b, off + i * 3, none⟩ = some (.string bl[i].flow) ∧ w.cell? ⟨b, off + i * 3 + 1, none⟩ = some (.int .u64 bl[i].at') ∧ w.cell? ⟨b, off + i * 3 + 2, none⟩ = some (.slice A' bl[i].es.length c')
theorem BtsIn.later {w w' : World} {A : Option Addr} {cap : Nat} {bl : List BT} (h : BtsIn w A cap bl) (hb : Below w.heap.size w w') : BtsIn w' A cap bl := ⟨h.le, h.cap_le, fun hp => by
 obtain ⟨b, off, hA, hlt, h3⟩ := h.at_ hp
 refine ⟨b, off, hA, Nat.lt_of_lt_of_le hlt hb.size, fun i hi => ?_⟩
 obtain ⟨A', c', h4, h5, h6, c0, c1, c2⟩ := h3 i hi
 have e : ∀ o, w'.cell? ⟨b, o, none⟩ = w.cell? ⟨b, o, none⟩ := fun o => hb.cell (p := ⟨b, o, none⟩) hlt
 exact ⟨A', c', h4, h5, h6.later hb, (e _).trans c0, (e _).trans c1, (e _).trans c2⟩⟩

def wsum (bl : List BT) : Nat := (bl.map fun b => min b.es.length 100).sum
structure FewB (bl : List BT) : Prop where
 len : bl.length ≤ 60
 sum : wsum bl ≤ 150
 flow : ∀ i (h : i < bl.length), bl[i].flow.size ≤ 300
 few : ∀ i (h : i < bl.length) k (hk : k < bl[i].es.length), efew bl[i].es[k] = true

theorem wsum_take (bl : List BT) (j : Nat) (h : j < bl.length) : wsum (bl.take (j + 1)) = wsum (bl.take j) + min bl[j].es.length 100 := by
 unfold wsum
 rw [List.take_succ_eq_append_getElem h, List.map_append, List.sum_append]; simp

def Few12Res (bl : List BT) (w : World) (r : Ending) (w' : World) : Prop := ∃ b, r = .returned (.bool b) ∧ (b = true → FewB bl) ∧ Below w.heap.size w w'
set_option maxRecDepth 100000 in
set_option maxHeartbeats 2000000 in
theorem few12_any (bl : List BT) (A : Option Addr) (cap : Nat) (w : World) (h : BtsIn w A cap bl) :
  Calls Tryz.prog 9 #[.slice A bl.length cap] w (Few12Res bl w) := by
 have hl := h.le
 have hc := h.cap_le
 simp only [maxLen] at hc
 have HK := Lib.hid h; clear h
 go_enter Tryz.func9, Tryz.ntmps9
 go_wp2_with fail
 go_loopw [2, 3, 4] (fun r n i wr => ∃ (j y : Nat), j ≤ bl.length ∧ i = .int .i64 j ∧ r = .bool false ∧ n = .int .i64 y ∧ y ≤ 150 ∧ y = wsum (bl.take j) ∧ (∀ i (h : i < bl.length), i < j → bl[i].flow.size ≤ 300 ∧ ∀ k (hk : k < bl[i].es.length), efew bl[i].es[k] = true) ∧ Below w.heap.size w wr) (fun _ _ i _ => bl.length - (intOf i).toNat)
 case atStart => exact ⟨0, 0, by omega, rfl, rfl, rfl, by omega, rfl, fun i _ h => absurd h (by omega), Below.refl _ _⟩
 case round =>
  obtain ⟨j, y, hj, rfl, rfl, rfl, hy, hys, hfew, hb⟩ := hrel
  have HF := Lib.hid hfew
  have HB := Lib.hid hb
  have HYS := Lib.hid hys
  clear hfew hb hys
  by_cases hlt : j < bl.length
  ·obtain ⟨b, off, rfl, hblt, h3⟩ := (HK.out.later HB.out).at_ (by omega)
   obtain ⟨A', c', hfl, hat, hes, d0, d1, d2⟩ := h3 j hlt
   have hle := hes.le
   have hcm := hes.cap_le
   simp only [maxLen] at hcm hfl
   have HES := Lib.hid fun W (hW : Below wr.heap.size wr W) => hes.later hW
   have HD := Lib.hid fun W (hW : Below wr.heap.size wr W) => (hW.cell (p := ⟨b, off + j * 3 + 2, none⟩) hblt).trans d2
   have HWT := Lib.hid (wsum_take bl j hlt)
   clear h3 hes
   obtain ⟨es, hes⟩ : ∃ es, es = bl[j].es := ⟨_, rfl⟩
   rw [← hes] at HES HD HWT d2 hle
   have HEE := Lib.hid hes
   clear hes
   generalize hn : es.length = n at *
   have HN := Lib.hid hn; clear hn
   generalize hff : bl[j].flow = ff at *
   have HSZ : Hid (bl[j].flow.size = ff.size) := Lib.hid (by rw [hff]); clear hff
   go_upto_region 6 with fail
   obtain ⟨z, hz⟩ : ∃ z : Int, z = (y : Int) + (if (100 : Int) < (n : Int) then (100 : Int) else (n : Int)) := ⟨_, rfl⟩
   have hz0 : z = ((y + min n 100 : Nat) : Int) := by rw [hz]; split <;> omega
   rw [← hz]
   have hzz : z ≤ 250 := by omega
   have hzp : 0 ≤ z := by omega
   have HZ := Lib.hid hz0
   clear hz hz0 d1
   generalize (if (100 : Int) < (n : Int) then (100 : Int) else (n : Int)) = mm at *
   by_cases hz4 : 150 < z
   ·have hb4 : decide (150 < z) = true := by simpa using hz4
    go_wp2_with fail
    go_ret
    exact ⟨false, rfl, (fun h => by cases h), HB.out⟩
   ·have hb4 : decide (150 < z) = false := by simpa using hz4
    by_cases hs4 : 300 < ff.size
    ·have hb5 : decide ((300 : Int) < (ff.size : Int)) = true := decide_eq_true (by omega)
     go_wp2_with fail
     go_ret
     exact ⟨false, rfl, (fun h => by cases h), HB.out⟩
    ·have hb5 : decide ((300 : Int) < (ff.size : Int)) = false := decide_eq_false (by omega)
     have HSZ4 := Lib.hid hs4
     have HZ4 := Lib.hid hz4
     have HBF := Lib.hid fun W (hW : Below wr.heap.size wr W) => HB.out.trans (hW.mono HB.out.size)
     have hzj : y ≤ 150 := hy
     go_wp2_with fail
     go_loopw [2, 5] (fun r i wi => ∃ (k : Nat), k ≤ n ∧ i = .int .i64 k ∧ r = .bool false ∧ (∀ q (hq : q < es.length), q < k → efew es[q] = true) ∧ Below wr.heap.size wr wi) (fun _ i _ => n - (intOf i).toNat)
     case atStart => exact ⟨0, by omega, rfl, rfl, fun q _ h => absurd h (by omega), Below.refl _ _⟩
     case round =>
      obtain ⟨k, hk, rfl, rfl, hall, hbi⟩ := hrel
      have HALL := Lib.hid hall; have HBI := Lib.hid hbi
      have hdd := HD.out _ hbi
      clear hall hbi
      by_cases hkl : k < n
      ·have hke : k < es.length := by have := HN.out; omega
       obtain ⟨b2, off2, lo, hi, vk, vn, vf, vs, A2, m2, c2, rfl, hbl2, hf, hv, hhi, e0, e1, e2, e3, e4, e5, e6, e7, e8, e9, e10⟩ := (HES.out _ HBI.out).get k hke
       have HC := Lib.hid (efew_any es[k] hf lo hi vk vn vf vs A2 m2 c2 _ hv hhi)
       unfold evCells at HC
       clear hf hv
       go_wp2_with fail
       refine HC.out.mono ?_
       rintro x w1 ⟨rfl, hb1⟩
       have HB1 := Lib.hid (HBI.out.trans (hb1.mono HBI.out.size))
       clear hb1 e0 e1 e2 e3 e4 e5 e6 e7 e8 e9 e10 HC
       cases hp : efew es[k] with
       | true =>
        have HP := Lib.hid hp; clear hp
        go_wp2_with fail
        go_roundw
        case rel => exact ⟨k + 1, by omega, by go_num, rfl, fun q h hm => by
         rcases Nat.lt_or_ge q k with z | z
         ·exact HALL.out q h z
         ·obtain rfl : q = k := by omega
          exact HP.out, HB1.out⟩
        case measure => simp [intOf]; omega
       | false =>
        have HP := Lib.hid hp; clear hp
        go_wp2_with fail
        go_ret
        exact ⟨false, rfl, (fun h => by cases h), HBF.out _ HB1.out⟩
      ·have hk' : k = n := by omega
       subst hk'
       have HFIN : Hid (∀ i (h : i < bl.length), i < j + 1 → bl[i].flow.size ≤ 300 ∧ ∀ k (hk : k < bl[i].es.length), efew bl[i].es[k] = true) := Lib.hid fun i h hij => by
        rcases Nat.lt_or_ge i j with z | z
        ·exact HF.out i h z
        ·obtain rfl : i = j := by omega
         refine ⟨by have := HSZ.out; have := HSZ4.out; omega, fun q hq => ?_⟩
         have hE := HEE.out
         have := HALL.out q (by rw [hE]; exact hq) (by have := HN.out; rw [hE] at this; omega)
         simp only [hE] at this
         exact this
       go_wp2_with fail
       exact ⟨⟨j + 1, y + min k 100, by omega, by go_num, rfl, by rw [HZ.out], by have := HZ.out; have := HZ4.out; omega, by rw [HWT.out, ← HYS.out], HFIN.out, HBF.out _ HBI.out⟩, by simp [intOf]; omega⟩
  ·have hj' : j = bl.length := by omega
   subst hj'
   rw [List.take_length] at HYS
   go_wp2_with fail
   go_ret
   exact ⟨decide (bl.length ≤ 60), ret_bool (decide_eq_decide.2 (by omega)), fun h => ⟨by simpa using h, by have := HYS.out; omega, fun i hi => (HF.out i hi hi).1, fun i hi => (HF.out i hi hi).2⟩, HB.out⟩
end Cn
end Go.Proofs.YtfmnacebgplpcaaGreat
