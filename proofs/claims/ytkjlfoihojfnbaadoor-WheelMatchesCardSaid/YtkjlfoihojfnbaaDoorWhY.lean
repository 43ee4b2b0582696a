/- WheelOnce: the walk. -/
import Derived.Test.YtkjlfoihojfnbaaDoorWhU
import Derived.Test.YtkjlfoihojfnbaaDoorWhX
import Derived.Test.YtkjlfoihojfnbaaDoorWhDb
import Derived.Test.YtkjlfoihojfnbaaDoorLoK
namespace Go.Proofs.YtkjlfoihojfnbaaDoor
open Go.RowKit
set_option linter.unusedVariables false
set_option linter.unusedSimpArgs false
namespace Wh
open Lo (IRow KB Lies LiesO below_drew bef bef_iff Deb ItemsIn items_open wo woL woL_nil woL_snoc rhas_any rwithout_any)
variable {base b bx xb nw nm t now : Nat} {w w' w0 wr w1 : World} {T TW Lf : List (Nat × Nat)} {v vl : Value} {S S' : Nat → Prop}
/-- The code of scheduling. -/
def schC (T : List (Nat × Nat)) (x : Nat × Nat) : Int := if x.2 ≤ 9223372036854775807 then (if hasId T x.1 then 7 else 0) else 2
theorem rsched3 (hT : T.length ≤ 900) (so : T.Pairwise bef) (v : Value) (x : Nat × Nat) (row : IRow 29 w base v T) (hbase : base ≤ w.heap.size) :
    Calls Tryd.prog 27 #[.agg #[.int .u64 (now : Nat), v], .int .u64 (x.1 : Nat), .int .u64 (x.2 : Nat)] w fun e w' => ∃ (v' : Value), e = .returned (.tuple #[.agg #[.int .u64 (now : Nat), v'], .int .i64 (schC T x)]) ∧ IRow 29 w' base v' (schT T x) ∧ (∀ g, v'.ownBlock = some g → v.ownBlock = some g ∨ w.heap.size ≤ g) ∧ Below w.heap.size w w' := by
  refine (rsched_any hT so v x row).mono fun e w' ⟨hp, hb⟩ => ?_
  rcases hp with ⟨q1, he⟩ | ⟨q1, q2, he⟩ | ⟨q1, q2, v', he, row'⟩
  · have e1 : schT T x = T := by unfold schT; rw [if_neg (by omega)]
    have e2 : schC T x = 2 := by unfold schC; rw [if_neg (by omega)]
    rw [e1, e2]
    exact ⟨v, he, row.later hb, fun g e => .inl e, hb⟩
  · have e1 : schT T x = T := by unfold schT; rw [if_pos q1, if_pos q2]
    have e2 : schC T x = 7 := by unfold schC; rw [if_pos q1, if_pos q2]
    rw [e1, e2]
    exact ⟨v, he, row.later hb, fun g e => .inl e, hb⟩
  · have e1 : schT T x = insT T x := by unfold schT; rw [if_pos q1, if_neg (by rw [q2]; simp)]
    have e2 : schC T x = 0 := by unfold schC; rw [if_pos q1, if_neg (by rw [q2]; simp)]
    rw [e1, e2]
    exact ⟨v', he, row'.base_le hbase, fun g e => .inr (row'.lt g e).1, hb⟩
theorem Whl.schedC (h : Whl base w b nw T S) (x : Nat × Nat) (hx : x.1 < 18446744073709551616 ∧ x.2 < 18446744073709551616) (hbase : base ≤ w.heap.size) (hT : T.length ≤ 900) :
    Calls Tryd.prog 26 #[.pointer (some ⟨b, 0, none⟩), .int .u64 (x.1 : Nat), .int .u64 (x.2 : Nat)] w fun e w' => e = .returned (.int .i64 (schC T x)) ∧ Whl base w' b nw (schT T x) (grown S w) ∧ KB w w' S := by
  by_cases ha : x.2 ≤ 9223372036854775807
  · by_cases hh : hasId T x.1 = true
    · have e1 : schT T x = T := by unfold schT; rw [if_pos ha, if_pos hh]
      have e2 : schC T x = 7 := by unfold schC; rw [if_pos ha, if_pos hh]
      rw [e1, e2]
      exact (sched_twice x.1 x.2 h hx.1 ha hh).mono fun e w' ⟨he, hb⟩ => ⟨he, (h.later hb).more (fun g e => .inl e), KB.of_below _ hb⟩
    · have hh' : hasId T x.1 = false := by simpa using hh
      have e1 : schT T x = insT T x := by unfold schT; rw [if_pos ha, if_neg hh]
      have e2 : schC T x = 0 := by unfold schC; rw [if_pos ha, if_neg hh]
      rw [e1, e2]
      exact sched_ok x h hx.1 ha hh' hbase hT
  · have e1 : schT T x = T := by unfold schT; rw [if_neg ha]
    have e2 : schC T x = 2 := by unfold schC; rw [if_neg ha]
    rw [e1, e2]
    exact (sched_out x.1 x.2 h hx.1 hx.2 (by omega)).mono fun e w' ⟨he, hw'⟩ => ⟨he, hw' ▸ h.more (fun g e => .inl e), by rw [← hw']; exact ⟨rfl, rfl, rfl, Nat.le_refl _, fun _ _ _ => rfl⟩⟩
theorem W1St.schedC (h : W1St base w0 wr b bx nw TW nm T v) (x : Nat × Nat) (hx : x.1 < 18446744073709551616 ∧ x.2 < 18446744073709551616) (hT : TW.length ≤ 900) :
    Calls Tryd.prog 26 #[.pointer (some ⟨b, 0, none⟩), .int .u64 (x.1 : Nat), .int .u64 (x.2 : Nat)] wr fun e w' => e = .returned (.int .i64 (schC TW x)) ∧ W1St base w0 w' b bx nw (schT TW x) nm T v := by
  obtain ⟨S, h1, h2⟩ := h.ex
  exact (h1.schedC x hx h.hw hT).mono fun e w' ⟨he, hw', kb⟩ => ⟨he, h.turn h2 hw' (fun g e => e) kb⟩
/-- The reference's wheel is stored, a value that was there or a new one. -/
theorem W1St.put (h : W1St base w0 wr b bx nw TW nm T v) {w1 : World} (hb : Below wr.heap.size wr w1) {nm' : Nat} {T' : List (Nat × Nat)} {v' : Value} (row : IRow 29 w1 base v' T') (hv : ∀ g, v'.ownBlock = some g → v.ownBlock = some g ∨ wr.heap.size ≤ g) :
    W1St base w0 ((w1.setCell ⟨bx, 0, none⟩ (.int .u64 (nm' : Nat))).setCell ⟨bx, 1, none⟩ v') b bx nw TW nm' T' v' := by
  have hbxl : bx < wr.heap.size := (Array.getElem?_eq_some_iff.1 h.box).1
  obtain ⟨S, h1, h2, h3, h4⟩ := h.ex
  have h1' := h1.cut
  have kb : KB w1 ((w1.setCell ⟨bx, 0, none⟩ (.int .u64 (nm' : Nat))).setCell ⟨bx, 1, none⟩ v') (fun g => g = bx) := (kb_set w1 bx 0 _).trans (kb_set _ bx 1 _) (fun j _ e => e)
  have hv2 : ∀ g, v'.ownBlock = some g → g ≠ bx := fun g hg => by
    rcases hv g hg with e | e
    · exact h.vb g e
    · omega
  have hwW : base ≤ w1.heap.size := Nat.le_trans h.hw hb.size
  refine ⟨⟨_, (h1'.later hb).keep kb (fun g hg e => h3 (e ▸ hg.1)), fun g hg e => ?_, fun e => h3 e.1, fun g e => h4 g e.1⟩, row.keepKB kb hv2, hv2, ?_, (h.bel.trans (hb.mono h.hw)).trans (kb.below hwW (fun g e => by rw [e]; exact h.hbx)), Nat.le_trans hwW kb.size, h.hw0, h.hbx, h.dg, h.deb⟩
  · rcases hv g hg with e2 | e2
    · exact h2 g e2 e.1
    · have := e.2; omega
  · exact blk_set (blk_set (boxB h.box hb) rfl) rfl
theorem W1St.wsorted' (h : W1St base w0 wr b bx nw TW nm T v) : TW.Pairwise bef := let ⟨S, h1, _⟩ := h.ex; h1.sorted
/-- A wheel beside a list. -/
structure O2 (base : Nat) (w0 wr : World) (b nw : Nat) (TW Lf : List (Nat × Nat)) (vl : Value) : Prop where
  ex : ∃ S, Whl base wr b nw TW S ∧ ∀ g, S g → base ≤ g ∧ g < wr.heap.size ∧ vl.ownBlock ≠ some g
  row : IRow 29 wr base vl Lf
  bel : Below base w0 wr
  hw : base ≤ wr.heap.size
  hw0 : base ≤ w0.heap.size
  dg : 0 < base
  deb : Deb w0
theorem O2.of (h : W1St base w0 wr b bx nw TW nm T v) : O2 base w0 wr b nw TW T v := by
  obtain ⟨S, h1, h2, h3, h4⟩ := h.ex
  exact ⟨⟨_, h1.cut, fun g e => ⟨h4 g e.1, e.2, fun e2 => h2 g e2 e.1⟩⟩, h.row, h.bel, h.hw, h.hw0, h.dg, h.deb⟩
theorem O2.debw (h : O2 base w0 wr b nw TW Lf vl) : Deb wr := deb_ge h.deb h.dg h.bel h.hw0
theorem O2.later (h : O2 base w0 wr b nw TW Lf vl) (hb : Below wr.heap.size wr w') : O2 base w0 w' b nw TW Lf vl := by
  obtain ⟨S, h1, h2⟩ := h.ex
  exact ⟨⟨S, h1.later hb, fun g e => let q := h2 g e; ⟨q.1, Nat.lt_of_lt_of_le q.2.1 hb.size, q.2.2⟩⟩, h.row.later hb, h.bel.trans (hb.mono h.hw), Nat.le_trans h.hw hb.size, h.hw0, h.dg, h.deb⟩
/-- Another list, in new memory. -/
theorem O2.list (h : O2 base w0 wr b nw TW Lf vl) (hb : Below wr.heap.size wr w') {L' : List (Nat × Nat)} {v' : Value} {n : Nat} (row : IRow 29 w' n v' L') (hn : wr.heap.size ≤ n) : O2 base w0 w' b nw TW L' v' := by
  have h' := h.later hb
  obtain ⟨S, h1, h2⟩ := h.ex
  exact ⟨⟨S, h1.later hb, fun g e => let q := h2 g e; ⟨q.1, Nat.lt_of_lt_of_le q.2.1 hb.size, fun e2 => by have := (row.lt g e2).1; have := q.2.1; omega⟩⟩, row.base_le (Nat.le_trans h.hw hn), h'.bel, h'.hw, h'.hw0, h'.dg, h'.deb⟩
theorem O2.turn (h : O2 base w0 wr b nw TW Lf vl) {S : Nat → Prop} (h1 : Whl base wr b nw TW S) (h2 : ∀ g, S g → base ≤ g ∧ g < wr.heap.size ∧ vl.ownBlock ≠ some g) {nw' : Nat} {TW' : List (Nat × Nat)} {S' : Nat → Prop} (k1 : Whl base w' b nw' TW' S') (k2 : ∀ g, S' g → grown S wr g) (kb : KB wr w' S) : O2 base w0 w' b nw' TW' Lf vl := by
  refine ⟨⟨_, k1.cut, fun g e => ?_⟩, h.row.keepKB kb (fun g hg e => (h2 g e).2.2 hg), h.bel.trans (kb.below h.hw (fun g e => (h2 g e).1)), Nat.le_trans h.hw kb.size, h.hw0, h.dg, h.deb⟩
  rcases k2 g e.1 with q | q
  · exact ⟨(h2 g q).1, e.2, (h2 g q).2.2⟩
  · exact ⟨Nat.le_trans h.hw q, e.2, fun e2 => by have := (h.row.lt g e2).2; omega⟩
theorem O2.adv (h : O2 base w0 wr b nw TW Lf vl) (hnt : nw ≤ t) (ht : t ≤ 9223372036854775807) (hT : TW.length ≤ 1000) :
    Calls Tryd.prog 28 #[.pointer (some ⟨b, 0, none⟩), .int .u64 (t : Nat)] wr fun e w' => ∃ q, e = .returned (.tuple #[q, .int .i64 0]) ∧ Lies w' q (dueT TW t) ∧ O2 base w0 w' b t (restT TW t) Lf vl := by
  obtain ⟨S, h1, h2⟩ := h.ex
  exact (adv_ok h1 hnt ht h.debw h.dg h.hw hT).mono fun e w' ⟨q, he, hli, hu, hw', kb⟩ => ⟨q, he, hli, h.turn h1 h2 hw' (fun g e => e.1) kb⟩
theorem O2.advBad (h : O2 base w0 wr b nw TW Lf vl) (ht : t < 18446744073709551616) (hb : ¬ (nw ≤ t ∧ t ≤ 9223372036854775807)) :
    Calls Tryd.prog 28 #[.pointer (some ⟨b, 0, none⟩), .int .u64 (t : Nat)] wr fun e w' => (∃ c : Int, e = .returned (.tuple #[.slice none 0 0, .int .i64 c]) ∧ (c == 0) = false ∧ ¬ (c = 0)) ∧ wr = w' := by
  obtain ⟨S, h1, h2⟩ := h.ex
  by_cases h3 : t ≤ 9223372036854775807
  · exact (adv_back h1 h3 (by omega)).mono fun e w' ⟨he, hw'⟩ => ⟨⟨12, he, by decide, by decide⟩, hw'⟩
  · exact (adv_out h1 ht (by omega)).mono fun e w' ⟨he, hw'⟩ => ⟨⟨2, he, by decide, by decide⟩, hw'⟩
theorem O2.cancel (h : O2 base w0 wr b nw TW Lf vl) (x : Nat × Nat) (hx : x ∈ TW) (hT : TW.length ≤ 1000) :
    Calls Tryd.prog 33 #[.pointer (some ⟨b, 0, none⟩), .int .u64 (x.1 : Nat)] wr fun e w' => e = .returned (.int .i64 0) ∧ O2 base w0 w' b nw (wo TW x) Lf vl := by
  obtain ⟨S, h1, h2⟩ := h.ex
  exact (cancel_ok x h1 hx h.hw hT).mono fun e w' ⟨he, hw', kb⟩ => ⟨he, h.turn h1 h2 hw' (fun g e => e) kb⟩
theorem O2.count (h : O2 base w0 wr b nw TW Lf vl) : Calls Tryd.prog 30 #[.pointer (some ⟨b, 0, none⟩)] wr fun e w' => e = .returned (.int .i64 (TW.length : Nat)) ∧ wr = w' := by
  obtain ⟨S, h1, -⟩ := h.ex
  exact wcount_any h1
theorem O2.nodup (h : O2 base w0 wr b nw TW Lf vl) : TW.Nodup := let ⟨S, h1, _⟩ := h.ex; nodup_of_ids h1.ids
theorem wo_drop (hn : T.Nodup) {j : Nat} (hj : j < T.length) : wo (T.drop j) T[j] = T.drop (j + 1) := by
  have hn2 : (T.drop j).Nodup := hn.sublist (List.drop_sublist j T)
  rw [List.drop_eq_getElem_cons hj] at hn2 ⊢
  have h1 := (List.nodup_cons.1 hn2).1
  unfold wo
  rw [List.filter_cons_of_neg (by simp)]
  exact List.filter_eq_self.2 fun y hy => decide_eq_true fun e => h1 (e ▸ hy)
theorem woL_due (T : List (Nat × Nat)) (t : Nat) : woL T (dueT T t) = restT T t := by
  unfold woL restT
  refine List.filter_congr fun y hy => ?_
  rw [decide_eq_decide, dueT_mem]
  constructor
  · intro e; exact Nat.lt_of_not_le fun e2 => e ⟨hy, e2⟩
  · intro e e2; have := e2.2; omega
theorem due_in (hn : T.Nodup) {i : Nat} (hi : i < (dueT T t).length) : (dueT T t)[i] ∈ woL T ((dueT T t).take i) ∧ (dueT T t)[i].2 ≤ t ∧ (dueT T t)[i] ∈ T := by
  have hm := dueT_mem.1 (List.getElem_mem hi)
  refine ⟨?_, hm.2, hm.1⟩
  unfold woL
  rw [List.mem_filter, decide_eq_true_iff]
  refine ⟨hm.1, fun e => ?_⟩
  have hnd : (dueT T t).Nodup := hn.sublist List.filter_sublist
  obtain ⟨k, hk, e2⟩ := List.getElem_of_mem e
  rw [List.length_take] at hk
  rw [List.getElem_take] at e2
  exact List.pairwise_iff_getElem.1 hnd k i (by omega) hi (by omega) e2
/-- Between two ticks. -/
structure OB (base : Nat) (w wr : World) (b nw : Nat) (TW : List (Nat × Nat)) (vl : Value) : Prop where
  s : O2 base w wr b nw TW TW vl
  hi : nw ≤ 9223372036854775807
  later : nw = 0 ∨ ∀ x ∈ TW, nw < x.2
  sm : ∀ x ∈ TW, x.1 < 18446744073709551616 ∧ x.2 ≤ 9223372036854775807
  len : TW.length ≤ 60
theorem wstart {w1 w2 : World} (h : Whl w.heap.size w1 b t [] (fun g => w.heap.size ≤ g)) (hb1 : Below w.heap.size w w1) (hb2 : Below w1.heap.size w1 w2) (hd : Deb w) :
    W1St w.heap.size w (w2.alloc (.cells #[.int .u64 (t : Nat), .slice none 0 0] 49)) b w2.heap.size t [] t [] (.slice none 0 0) := by
  have h1 := h.cut
  have hz1 := hb1.size
  have hz2 := hb2.size
  have hb3 : Below w1.heap.size w1 (w2.alloc (.cells #[.int .u64 (t : Nat), .slice none 0 0] 49)) := hb2.alloc hb2.size _
  exact ⟨⟨_, h1.later hb3, fun g hg => (by cases hg), fun e => by have := e.2; omega, fun g e => e.1⟩, IRow.nil _ _ _, fun g hg => (by cases hg), heap_alloc_new w2 _, hb1.trans (hb3.mono hz1), by rw [World.size_alloc]; omega, Nat.le_refl _, by omega, hd.2, hd⟩
set_option maxRecDepth 100000 in
set_option maxHeartbeats 8000000 in
theorem once_walk (A B : Option Addr) (capA capB : Nat) (items : List (Nat × Nat)) (l : List Nat) (w : World) (hia : ItemsIn w A capA items) (hib : TicksIn w B capB l) (hlen : items.length ≤ 60) (hlen2 : l.length ≤ 60) (hd : Deb w) :
    Calls Tryd.prog 6 #[.slice A items.length capA, .slice B l.length capB] w fun e w' => e = .returned (.bool true) ∧ Below w.heap.size w w' := by
  have HN := Lib.hid (wnew_any 0 0 (by omega) (by omega) w)
  have HR := Lib.hid (fun W => rnew_any 0 0 (by omega) W)
  obtain ⟨base, hbase⟩ : ∃ base, base = w.heap.size := ⟨_, rfl⟩
  have HBS := Lib.hid hbase
  have HD := Lib.hid hd
  have HIA := Lib.hid hia
  have HIB := Lib.hid hib
  have hlen' : (items.length : Int) ≤ 60 := by omega
  have hlen2' : (l.length : Int) ≤ 60 := by omega
  have hg1 : ¬ ((60 : Int) < items.length) := by omega
  have hg2 : ¬ ((60 : Int) < l.length) := by omega
  have hcapA := hia.1
  have hcapB := hib.1
  rw [← hbase] at HN ⊢
  clear hd hia hib hbase
  go_enter Tryd.func6, Tryd.ntmps6
  go_wp2_with fail
  refine HN.out.mono ?_
  rintro e w1 ⟨rfl, h1, hb1⟩
  have H1 := Lib.hid h1
  have HB1 := Lib.hid hb1
  clear h1 hb1
  go_wp2_with fail
  refine (HR.out w1).mono ?_
  rintro e w3 ⟨rfl, hb3⟩
  obtain ⟨wm, hwm⟩ : ∃ wm, wm = w3.alloc (.cells #[.int .u64 0, .slice none 0 0] 49) := ⟨_, rfl⟩
  have HA0 : Hid (W1St base w wm (base + 1) w3.heap.size 0 [] 0 [] (.slice none 0 0)) := Lib.hid (by
    have hs := HBS.out
    subst hs
    rw [hwm]
    exact wstart H1.out HB1.out hb3 HD.out)
  obtain ⟨bx, hbx⟩ : ∃ bx, bx = w3.heap.size := ⟨_, rfl⟩
  rw [← hbx] at HA0
  replace hbx := Lib.hid hbx
  replace hwm := Lib.hid hwm
  clear hb3 H1 HB1
  go_upto_region 5 with fail
  rw [← hwm.out, ← hbx.out]
  clear hbx hwm
  go_wp2_with fail
  go_loopw [43] (fun vi wr => ∃ (i : Nat) (T : List (Nat × Nat)) (v : Value), vi = .int .i64 (i : Int) ∧ i ≤ items.length ∧ T.length ≤ i ∧ W1St base w wr (base + 1) bx 0 T 0 T v) (fun vi _ => items.length + 1 - (intOf vi).toNat)
  case atStart => exact ⟨0, _, _, rfl, by omega, Nat.le_refl _, HA0.out⟩
  case round =>
    obtain ⟨i, T, v, rfl, hi, hTl, hs⟩ := hrel
    rename_i wr
    obtain ⟨A1, cap1, rfl, -, -⟩ := hs.row.opened
    by_cases hin : i < items.length
    · obtain ⟨g, o, rfl, hg1, hg2, hg3⟩ := HIA.out.2.2 i hin
      have HXS := Lib.hid (HIA.out.2.1 _ (List.getElem_mem hin))
      have hg2 := (hs.bel.cell (p := ⟨g, o + i * 2, none⟩) (by rw [HBS.out]; exact hg1)).trans hg2
      have hg3 := (hs.bel.cell (p := ⟨g, o + (i * 2 + 1), none⟩) (by rw [HBS.out]; exact hg1)).trans hg3
      rw [show o + (i * 2 + 1) = o + i * 2 + 1 by omega] at hg3
      have hin' : (i : Int) < items.length := by omega
      generalize items[i] = x at *
      obtain ⟨wb, hwb⟩ : ∃ wb, wb = wr.alloc (.cells #[.int .u64 (x.1 : Nat), .int .u64 (x.2 : Nat)] 29) := ⟨_, rfl⟩
      have hbb : Below wr.heap.size wr wb := by rw [hwb]; exact (Below.refl _ _).alloc (Nat.le_refl _) _
      have hbh : wb.heap[wr.heap.size]? = some (.cells #[.int .u64 (x.1 : Nat), .int .u64 (x.2 : Nat)] 29 (0, 0)) := by rw [hwb]; exact heap_alloc_new wr _
      have hbxl : bx < wr.heap.size := (Array.getElem?_eq_some_iff.1 hs.box).1
      have hs1 := hs.later hbb
      have HS1 := Lib.hid hs1
      have HRS := Lib.hid (rsched3 (now := 0) (by omega) hs.wsorted' (.slice A1 T.length cap1) x hs1.row hs1.hw)
      obtain ⟨b0, b1, -⟩ := cellsW hs1.box
      obtain ⟨y0, y1, -⟩ := cellsY hbh
      have HBH := Lib.hid hbh
      have HZ : Hid (wr.heap.size < wb.heap.size) := Lib.hid (Array.getElem?_eq_some_iff.1 hbh).1
      obtain ⟨xb, hxb⟩ : ∃ xb, xb = wr.heap.size := ⟨_, rfl⟩
      rw [← hxb] at y0 y1 HBH HZ hbxl
      have hne : bx ≠ xb := by omega
      have hne2 : ¬ (bx = xb) := by omega
      have hne3 : ¬ (xb = bx) := by omega
      replace hxb := Lib.hid hxb
      replace hwb := Lib.hid hwb
      clear hs hs1 hbb hg1 hbh
      go_upto_region 8 with fail
      rw [← hwb.out, ← hxb.out]
      clear hg2 hg3 hwb hxb
      go_wp2_with fail
      refine HRS.out.mono ?_
      rintro e w4 ⟨v4, rfl, row4, hv4, hb4⟩
      obtain ⟨A4, cap4, rfl, -, -⟩ := row4.opened
      obtain ⟨wy, hwy⟩ : ∃ wy, wy = w4.alloc (.cells #[.int .u64 0, .slice A4 (schT T x).length cap4] 49) := ⟨_, rfl⟩
      have hby : Below w4.heap.size w4 wy := by rw [hwy]; exact (Below.refl _ _).alloc (Nat.le_refl _) _
      have hyh : wy.heap[w4.heap.size]? = some (.cells #[.int .u64 0, .slice A4 (schT T x).length cap4] 49 (0, 0)) := by rw [hwy]; exact heap_alloc_new w4 _
      have hbb4 : Below wb.heap.size wb wy := hb4.trans (hby.mono hb4.size)
      have hs4 := HS1.out.put (nm' := 0) hbb4 (row4.later hby) hv4
      have HS4 := Lib.hid (hs4.schedC x HXS.out (by omega))
      obtain ⟨u0, u1, -⟩ := cellsY hyh
      clear b0 b1 y0 y1
      obtain ⟨b0, b1, bf⟩ := cellsW (boxB HS1.out.box hbb4)
      have bf0 := bf 0
      have bf1 := bf 1
      have hxx := boxB HBH.out hbb4
      obtain ⟨y0, y1, -⟩ := cellsY hxx
      have hne4 : ¬ (bx = w4.heap.size) := by have := HZ.out; have := hb4.size; omega
      have hsl := schT_len T x
      obtain ⟨c, hc⟩ : ∃ c, c = schC T x := ⟨_, rfl⟩
      rw [← hc] at HS4 ⊢
      replace hwy := Lib.hid hwy
      clear row4 hv4 hb4 hby hyh hbb4 hs4 hxx bf hc
      go_upto_region 9 with fail
      rw [← hwy.out]
      obtain ⟨ws, hws⟩ : ∃ ws, ws = (wy.setCell ⟨bx, 0, none⟩ (.int .u64 0)).setCell ⟨bx, 1, none⟩ (.slice A4 (schT T x).length cap4) := ⟨_, rfl⟩
      have z0 : ws.cell? ⟨xb, 0, none⟩ = some (.int .u64 (x.1 : Nat)) := by rw [hws]; rw [← y0]; simp [World.cell?, World.setCell, Array.getElem?_modify, hne2]
      have z1 : ws.cell? ⟨xb, 1, none⟩ = some (.int .u64 (x.2 : Nat)) := by rw [hws]; rw [← y1]; simp [World.cell?, World.setCell, Array.getElem?_modify, hne2]
      have HS5 := HS4.out
      rw [show ((0 : Nat) : Int) = 0 from rfl, ← hws] at HS5
      replace HS5 := Lib.hid HS5
      replace hws := Lib.hid hws
      clear hwy
      go_upto_region 10 with fail
      rw [← hws.out]
      clear b0 b1 bf0 bf1 u0 u1 y0 y1
      go_wp2_with fail
      refine HS5.out.mono ?_
      rintro e w5 ⟨rfl, hs5⟩
      have HS6 := Lib.hid hs5
      clear hs5
      go_wp2_with fail
      exact ⟨⟨i + 1, _, _, rfl, by omega, by omega, HS6.out⟩, by simp [intOf]; omega⟩
    · have hin' : ¬ ((i : Int) < items.length) := by omega
      have HO : Hid (OB base w wr (base + 1) 0 T (.slice A1 T.length cap1)) := Lib.hid ⟨O2.of hs, by omega, .inl rfl, by
        obtain ⟨S, h1, -⟩ := hs.ex
        exact h1.sm, by omega⟩
      obtain ⟨b0, b1, -⟩ := cellsW hs.box
      clear hs
      go_wp2_with fail
      clear b0 b1
      go_loopw [11, 12, 70] (fun vl vn vj wr => ∃ (j nw : Nat) (TW : List (Nat × Nat)), vn = .int .u64 (nw : Nat) ∧ vj = .int .i64 (j : Int) ∧ j ≤ l.length ∧ OB base w wr (base + 1) nw TW vl) (fun _ _ vj _ => l.length + 1 - (intOf vj).toNat)
      case atStart => exact ⟨0, 0, T, rfl, rfl, by omega, HO.out⟩
      case round =>
        clear HO
        obtain ⟨j, nw, TW, rfl, rfl, hj, hb⟩ := hrel
        obtain ⟨A2, cap2, rfl, -, -⟩ := hb.s.row.opened
        have HOB := Lib.hid hb
        have hTl2 := hb.len
        by_cases hjn : j < l.length
        · obtain ⟨g, o, rfl, hg1, hg2⟩ := HIB.out.2.2 j hjn
          have hx64 := HIB.out.2.1 _ (List.getElem_mem hjn)
          have hg2 := (hb.s.bel.cell (p := ⟨g, o + j, none⟩) (by rw [HBS.out]; exact hg1)).trans hg2
          have hjn' : (j : Int) < l.length := by omega
          generalize l[j] = t at *
          by_cases hok : nw ≤ t ∧ t ≤ 9223372036854775807
          · have HAD := Lib.hid (hb.s.adv (t := t) hok.1 hok.2 (by omega))
            have HOK := Lib.hid hok
            have HND := Lib.hid hb.s.nodup
            have HLA := Lib.hid hb.later
            have HSM := Lib.hid hb.sm
            have hdl : (dueT TW t).length ≤ TW.length := List.length_filter_le _ _
            have hrl : (restT TW t).length ≤ TW.length := List.length_filter_le _ _
            have ht0 : (0 : Int) ≤ t := by omega
            have hnw0 : (0 : Int) ≤ nw := by omega
            clear hb hok
            go_wp2_with fail
            refine HAD.out.mono ?_
            rintro e w4 ⟨q4, rfl, hl4, hs4⟩
            obtain ⟨A4, cap4, rfl, -, -⟩ := id hl4
            have HL4 := Lib.hid hl4
            have HI4 : Hid (O2 base w w4 (base + 1) t (restT TW t) (woL TW ((dueT TW t).take 0)) (.slice A2 TW.length cap2)) := Lib.hid (by rw [List.take_zero, woL_nil]; exact hs4)
            have HE4 : Hid ((woL TW ((dueT TW t).take 0)).length = TW.length) := Lib.hid (by rw [List.take_zero, woL_nil])
            clear hl4 hs4 hg1 hg2
            go_wp2_with fail
            go_loopw [11, 84] (fun vl vi wr => ∃ i : Nat, vi = .int .i64 (i : Int) ∧ i ≤ (dueT TW t).length ∧ O2 base w wr (base + 1) t (restT TW t) (woL TW ((dueT TW t).take i)) vl ∧ Below w4.heap.size w4 wr) (fun _ vi _ => (dueT TW t).length + 1 - (intOf vi).toNat)
            case atStart => exact ⟨0, rfl, by omega, HI4.out, Below.refl _ _⟩
            case round =>
              clear HI4 HE4
              obtain ⟨i2, rfl, hi2, hs5, hb5⟩ := hrel
              obtain ⟨L1, hL1⟩ : ∃ L1, L1 = woL TW ((dueT TW t).take i2) := ⟨_, rfl⟩
              have hll : L1.length ≤ TW.length := by rw [hL1]; exact List.length_filter_le _ _
              rw [← hL1] at hs5
              replace hL1 := Lib.hid hL1
              obtain ⟨A5, cap5, rfl, -, -⟩ := hs5.row.opened
              have HS5 := Lib.hid hs5
              have HB5 := Lib.hid hb5
              by_cases hi3 : i2 < (dueT TW t).length
              · have hli := HL4.out.later hb5
                obtain ⟨A', c', e', -, hce⟩ := hli
                obtain ⟨g4, e4, hg4, p2, p3⟩ := hce i2 hi3
                rw [e4] at e'
                injection e' with e' _ e3
                subst e'
                subst e3
                obtain ⟨m1, m2, m3⟩ := due_in HND.out hi3
                rw [← hL1.out] at m1
                have hi3' : (i2 : Int) < (dueT TW t).length := by omega
                have HTK := Lib.hid (List.take_succ_eq_append_getElem hi3)
                have hnl : ¬ (nw = 0) → nw < ((dueT TW t)[i2]).2 := fun h => by
                  rcases HLA.out with e | e
                  · exact absurd e h
                  · exact e _ m3
                have hdlI : ((dueT TW t).length : Int) ≤ 60 := by omega
                have HWS := Lib.hid (woL_snoc TW ((dueT TW t).take i2) (dueT TW t)[i2])
                rw [← HTK.out, ← hL1.out] at HWS
                obtain ⟨L2, hL2⟩ : ∃ L2, L2 = woL TW ((dueT TW t).take (i2 + 1)) := ⟨_, rfl⟩
                rw [← hL2] at HWS
                have HL2 := Lib.hid hL2
                clear hL2
                generalize (dueT TW t)[i2] = y at *
                obtain ⟨wb1, hwb1⟩ : ∃ wb1, wb1 = wr.alloc (.cells #[.int .u64 (y.1 : Nat), .int .u64 (y.2 : Nat)] 34) := ⟨_, rfl⟩
                obtain ⟨wb2, hwb2⟩ : ∃ wb2, wb2 = wb1.alloc (.cells #[.int .u64 (y.1 : Nat), .int .u64 (y.2 : Nat)] 29) := ⟨_, rfl⟩
                have hc1 : Below wr.heap.size wr wb1 := by rw [hwb1]; exact (Below.refl _ _).alloc (Nat.le_refl _) _
                have hc2 : Below wb1.heap.size wb1 wb2 := by rw [hwb2]; exact (Below.refl _ _).alloc (Nat.le_refl _) _
                have hh1 : wb1.heap[wr.heap.size]? = some (.cells #[.int .u64 (y.1 : Nat), .int .u64 (y.2 : Nat)] 34 (0, 0)) := by rw [hwb1]; exact heap_alloc_new wr _
                have hh2 : wb2.heap[wb1.heap.size]? = some (.cells #[.int .u64 (y.1 : Nat), .int .u64 (y.2 : Nat)] 29 (0, 0)) := by rw [hwb2]; exact heap_alloc_new wb1 _
                obtain ⟨r0, r1, -⟩ := cellsY hh1
                obtain ⟨k0, k1, -⟩ := cellsY hh2
                have HC := Lib.hid (hc1.trans (hc2.mono hc1.size))
                have HH2 := Lib.hid hh2
                have hlb := (hs5.row.later hc1).later hc2
                have HHA := Lib.hid (rhas_any _ (by omega) _ y wb2 hlb.lies)
                rw [decide_eq_true m1] at HHA
                have HM2 := Lib.hid m2
                have HNL := Lib.hid hnl
                have hm2 : ¬ ((t : Int) < y.2) := by omega
                replace hwb1 := Lib.hid hwb1
                replace hwb2 := Lib.hid hwb2
                clear hs5 hb5 hce m1 m2 m3 hnl hc1 hc2 hh1 hh2 hlb hg4
                go_upto_region 23 with fail
                rw [← hwb1.out]
                go_upto_region 24 with fail
                rw [← hwb2.out]
                go_wp2_with fail
                refine HHA.out.mono ?_
                rintro e w6 ⟨rfl, hb6⟩
                have HB6 := Lib.hid (HC.out.trans (hb6.mono HC.out.size))
                clear k0 k1 r0 r1
                obtain ⟨k0, k1, -⟩ := cellsY (boxB HH2.out hb6)
                have HRW := Lib.hid (rwithout_any _ (by omega) (.slice A5 L1.length cap5) y w6 (HS5.out.row.later HB6.out).lies)
                rw [HWS.out] at HRW
                clear hb6
                by_cases hz : nw = 0
                · have hz1 : ¬ ((0 : Int) < nw) := by omega
                  clear hz
                  by_cases hz2 : (y.2 : Int) ≤ nw
                  · go_wp2_with fail
                    refine HRW.out.mono ?_
                    rintro e w7 ⟨v7, rfl, row7, hb7⟩
                    obtain ⟨A7, cap7, rfl, -, -⟩ := row7.opened
                    have HS7 : Hid (O2 base w w7 (base + 1) t (restT TW t) (woL TW ((dueT TW t).take (i2 + 1))) (.slice A7 L2.length cap7)) := Lib.hid (by rw [← HL2.out]; exact (HS5.out.later HB6.out).list hb7 row7 (Nat.le_refl _))
                    have HB7 := Lib.hid (HB5.out.trans ((HB6.out.trans (hb7.mono HB6.out.size)).mono HB5.out.size))
                    clear row7 hb7
                    go_wp2_with fail
                    exact ⟨⟨i2 + 1, rfl, by omega, HS7.out, HB7.out⟩, by simp [intOf]; omega⟩
                  · go_wp2_with fail
                    refine HRW.out.mono ?_
                    rintro e w7 ⟨v7, rfl, row7, hb7⟩
                    obtain ⟨A7, cap7, rfl, -, -⟩ := row7.opened
                    have HS7 : Hid (O2 base w w7 (base + 1) t (restT TW t) (woL TW ((dueT TW t).take (i2 + 1))) (.slice A7 L2.length cap7)) := Lib.hid (by rw [← HL2.out]; exact (HS5.out.later HB6.out).list hb7 row7 (Nat.le_refl _))
                    have HB7 := Lib.hid (HB5.out.trans ((HB6.out.trans (hb7.mono HB6.out.size)).mono HB5.out.size))
                    clear row7 hb7
                    go_wp2_with fail
                    exact ⟨⟨i2 + 1, rfl, by omega, HS7.out, HB7.out⟩, by simp [intOf]; omega⟩
                · have hz1 : (0 : Int) < nw := by omega
                  have hz2 : ¬ ((y.2 : Int) ≤ nw) := by have := HNL.out hz; omega
                  clear hz
                  go_wp2_with fail
                  refine HRW.out.mono ?_
                  rintro e w7 ⟨v7, rfl, row7, hb7⟩
                  obtain ⟨A7, cap7, rfl, -, -⟩ := row7.opened
                  have HS7 : Hid (O2 base w w7 (base + 1) t (restT TW t) (woL TW ((dueT TW t).take (i2 + 1))) (.slice A7 L2.length cap7)) := Lib.hid (by rw [← HL2.out]; exact (HS5.out.later HB6.out).list hb7 row7 (Nat.le_refl _))
                  have HB7 := Lib.hid (HB5.out.trans ((HB6.out.trans (hb7.mono HB6.out.size)).mono HB5.out.size))
                  clear row7 hb7
                  go_wp2_with fail
                  exact ⟨⟨i2 + 1, rfl, by omega, HS7.out, HB7.out⟩, by simp [intOf]; omega⟩
              · have hi3' : ¬ ((i2 : Int) < (dueT TW t).length) := by omega
                have hie : i2 = (dueT TW t).length := by omega
                have HEQ : Hid (L1 = restT TW t) := Lib.hid (by rw [hL1.out, hie, List.take_length, woL_due])
                have HOB2 : Hid (OB base w wr (base + 1) t (restT TW t) (.slice A5 L1.length cap5)) := Lib.hid ⟨by have h := hs5; rw [HEQ.out] at h ⊢; exact h, HOK.out.2, .inr (fun x hx => (restT_mem.1 hx).2), fun x hx => HSM.out x (restT_mem.1 hx).1, by omega⟩
                clear hs5 hb5 HS5 hll hie
                go_wp2_with fail
                exact ⟨⟨j + 1, t, _, rfl, rfl, by omega, HOB2.out⟩, by simp [intOf]; omega⟩
          · have HAD := Lib.hid (hb.s.advBad hx64 hok)
            clear hb hok
            go_wp2_with fail
            refine HAD.out.mono ?_
            rintro e w4 ⟨⟨c, rfl, hc0, hc1⟩, rfl⟩
            go_wp2_with fail
            exact ⟨⟨j + 1, nw, TW, rfl, rfl, by omega, HOB.out⟩, by simp [intOf]; omega⟩
        · have hjn' : ¬ ((j : Int) < l.length) := by omega
          have HND := Lib.hid hb.s.nodup
          have HO2 := Lib.hid hb.s
          have HSM := Lib.hid hb.sm
          clear hb
          go_wp2_with fail
          go_loopw [117] (fun vi wr => ∃ i : Nat, vi = .int .i64 (i : Int) ∧ i ≤ TW.length ∧ O2 base w wr (base + 1) nw (TW.drop i) TW (.slice A2 TW.length cap2)) (fun vi _ => TW.length + 1 - (intOf vi).toNat)
          case atStart => exact ⟨0, rfl, by omega, by rw [List.drop_zero]; exact HO2.out⟩
          case round =>
            clear HO2
            obtain ⟨i, rfl, hi, hs5⟩ := hrel
            have hTl3 : (TW.length : Int) ≤ 60 := by omega
            have hdl : (TW.drop i).length ≤ 1000 := by rw [List.length_drop]; omega
            by_cases hin : i < TW.length
            · obtain ⟨A', c', e', -, hce⟩ := hs5.row.opened
              obtain ⟨g4, e4, -, hg4, p2, p3⟩ := hce i hin
              rw [e4] at e'
              injection e' with e' _ e3
              subst e'
              subst e3
              have hin' : (i : Int) < TW.length := by omega
              have HWD := Lib.hid (wo_drop HND.out hin)
              have hmem : TW[i] ∈ TW.drop i := by rw [List.drop_eq_getElem_cons hin]; exact List.mem_cons_self ..
              generalize TW[i] = y at *
              obtain ⟨wb1, hwb1⟩ : ∃ wb1, wb1 = wr.alloc (.cells #[.int .u64 (y.1 : Nat), .int .u64 (y.2 : Nat)] 29) := ⟨_, rfl⟩
              have hc1 : Below wr.heap.size wr wb1 := by rw [hwb1]; exact (Below.refl _ _).alloc (Nat.le_refl _) _
              have hh1 : wb1.heap[wr.heap.size]? = some (.cells #[.int .u64 (y.1 : Nat), .int .u64 (y.2 : Nat)] 29 (0, 0)) := by rw [hwb1]; exact heap_alloc_new wr _
              obtain ⟨r0, r1, -⟩ := cellsY hh1
              have HCN := Lib.hid ((hs5.later hc1).cancel y hmem hdl)
              rw [HWD.out] at HCN
              replace hwb1 := Lib.hid hwb1
              clear hs5 hce hc1 hh1 hmem hg4
              go_upto_region 33 with fail
              rw [← hwb1.out]
              go_wp2_with fail
              refine HCN.out.mono ?_
              rintro e w6 ⟨rfl, hs6⟩
              have HS6 := Lib.hid hs6
              clear hs6
              go_wp2_with fail
              exact ⟨⟨i + 1, rfl, by omega, HS6.out⟩, by simp [intOf]; omega⟩
            · have hin' : ¬ ((i : Int) < TW.length) := by omega
              have hie : i = TW.length := by omega
              have hs6 := hs5
              rw [hie, List.drop_length] at hs6
              have HS5 := Lib.hid hs6
              clear hs5 hs6 hie
              go_wp2_with fail
              refine (walive_any _ HS5.out.debw).mono ?_
              rintro e w6 ⟨rfl, hb6⟩
              have HCT := Lib.hid ((HS5.out.later hb6).count)
              have HB6 := Lib.hid ((HS5.out.later hb6).bel)
              clear hb6
              go_wp2_with fail
              refine HCT.out.mono ?_
              rintro e w7 ⟨rfl, rfl⟩
              go_wp2_with fail
              go_ret
              exact ⟨rfl, HB6.out⟩
set_option maxRecDepth 100000 in
set_option maxHeartbeats 8000000 in
theorem once_long (A B : Option Addr) (capA capB lenA lenB : Nat) (w : World) (hma : lenA ≤ 9223372036854775807) (hmb : lenB ≤ 9223372036854775807) (hlen : 60 < lenA ∨ 60 < lenB) (hd : Deb w) :
    Calls Tryd.prog 6 #[.slice A lenA capA, .slice B lenB capB] w fun e w' => e = .returned (.bool true) ∧ Below w.heap.size w w' := by
  have HN := Lib.hid (wnew_any 0 0 (by omega) (by omega) w)
  have HA := Lib.hid (fun W (h : Deb W) => walive_any W h)
  have HD := Lib.hid hd
  have hma' : (lenA : Int) ≤ 9223372036854775807 := by omega
  have hmb' : (lenB : Int) ≤ 9223372036854775807 := by omega
  clear hd
  by_cases hA : 60 < lenA
  · have hg : (60 : Int) < lenA := by omega
    clear hlen
    go_enter Tryd.func6, Tryd.ntmps6
    go_wp2_with fail
    refine HN.out.mono ?_
    rintro e w1 ⟨rfl, -, hb1⟩
    have HB2 := Lib.hid hb1
    clear hb1
    go_wp2_with fail
    refine (HA.out w1 (deb_ge HD.out HD.out.2 HB2.out (Nat.le_refl _))).mono ?_
    rintro e w3 ⟨rfl, hb3⟩
    have HB3 := Lib.hid (HB2.out.trans (hb3.mono HB2.out.size))
    clear hb3
    go_wp2_with fail
    go_ret
    exact ⟨rfl, HB3.out⟩
  · have hg : (60 : Int) < lenB := by omega
    have hg0 : ¬ ((60 : Int) < lenA) := by omega
    clear hlen
    go_enter Tryd.func6, Tryd.ntmps6
    go_wp2_with fail
    refine HN.out.mono ?_
    rintro e w1 ⟨rfl, -, hb1⟩
    have HB2 := Lib.hid hb1
    clear hb1
    go_wp2_with fail
    refine (HA.out w1 (deb_ge HD.out HD.out.2 HB2.out (Nat.le_refl _))).mono ?_
    rintro e w3 ⟨rfl, hb3⟩
    have HB3 := Lib.hid (HB2.out.trans (hb3.mono HB2.out.size))
    clear hb3
    go_wp2_with fail
    go_ret
    exact ⟨rfl, HB3.out⟩
set_option maxRecDepth 100000 in
open Go.ChangeShapes Go.WideShapes Go.ChangeAt Go.ChangeMaps in
theorem once_open {H : Type} {enc : TypeId × Value → H} {base b1 : Nat} {spare : Nat → Bool} {held : Bool} {d0 d1 : DataW H} {p0 p1 : List MemPlace} (v0 v1 : Value) (W : World)
    (o0 : Value.okWide Tryd.prog W .any base 26 v0) (k0 : DataW.Trod enc Tryd.prog W b1 spare held 26 v0 d0 p0)
    (o1 : Value.okWide Tryd.prog W .any base 45 v1) (k1 : DataW.Trod enc Tryd.prog W b1 spare held 45 v1 d1 p1) (hL : laidMetH Tryd.prog Rows.wheelOnceRow.laid W) :
    Calls Tryd.prog 6 #[v0, v1] W fun e w' => e = .returned (.bool true) ∧ Below W.heap.size W w' := by
  obtain ⟨items, A, cap, rfl, hia, hma⟩ := items_open v0 W o0 k0
  obtain ⟨l, B, capB, rfl, hib, hmb⟩ := ticks_open v1 W o1 k1
  have hd : Deb W := deb_of_laid (by kernel_rfl) hL
  by_cases h : items.length ≤ 60 ∧ l.length ≤ 60
  · exact once_walk A B cap capB items l W hia hib h.1 h.2 hd
  · exact once_long A B cap capB items.length l.length W hma hmb (by omega) hd
end Wh
end Go.Proofs.YtkjlfoihojfnbaaDoor
