/- Plain: a history, and what adding a batch does to it. -/
import Derived.Laws.Rows
import Derived.Laws.IdiomRangeMap
import Derived.Test.YtfmnacebgplpcaaGreatIoah
import Derived.Test.YtfmnacebgplpcaaGreatIoae
import Derived.StillTailTactics
import Derived.Test.YtfmnacebgplpcaaGreatIoad
import Derived.ChangeMaps5
import Derived.ChangeArms
import Derived.Deep.Draws
import Derived.ProofKit
import Derived.OpenShut
import Derived.Lib.SmallJoins
import Derived.SizedLaws
set_option linter.unusedVariables false
set_option linter.unusedSimpArgs false
open Go.RowKit
namespace Go.Proofs.YtfmnacebgplpcaaGreat
namespace Hi
open Vt (VT)
open Ev (EV)
open Cn (BT)

structure HM where mk ::
 flow : ByteArray
 bs : List BT
 s : ST
def HM.new (f : ByteArray) : HM := ⟨f, [], ⟨[], [], [], 1, 0⟩⟩
def HM.at' (h : HM) : Nat := match h.bs.getLast? with
 | some b => b.at'
 | none => 0
def kind1 (b : BT) : Int := match b.es with
 | e :: _ => e.k
 | [] => 0
def bOk (b : BT) : Bool := decide (b.at' ≤ 9223372036854775807) && decide (0 < b.es.length) && !b.es.any (fun e => !e.valid)
def addM (h : HM) (b : BT) : Int × HM :=
 if bOk b = false then (2, h)
 else if b.flow ≠ h.flow then (6, h)
 else if h.s.closed ≠ 0 then (8, h)
 else if b.at' < h.at' ∨ ¬ (kind1 b = 1 ↔ h.bs = []) then (12, h)
 else match runM b.at' b.es true h.s with
  | none => (12, h)
  | some s' => (0, ⟨h.flow, h.bs ++ [b], s'⟩)
theorem addM_flow (h : HM) (b : BT) : (addM h b).2.flow = h.flow := by
 unfold addM
 repeat' split
 all_goals rfl
theorem addM_bad {h : HM} {b : BT} (hc : (addM h b).1 ≠ 0) : (addM h b).2 = h := by
 unfold addM at hc ⊢
 by_cases h1 : bOk b = false
 ·rw [if_pos h1]
 ·rw [if_neg h1] at hc ⊢
  by_cases h2 : b.flow ≠ h.flow
  ·rw [if_pos h2]
  ·rw [if_neg h2] at hc ⊢
   by_cases h3 : h.s.closed ≠ 0
   ·rw [if_pos h3]
   ·rw [if_neg h3] at hc ⊢
    by_cases h4 : b.at' < h.at' ∨ ¬ (kind1 b = 1 ↔ h.bs = [])
    ·rw [if_pos h4]
    ·rw [if_neg h4] at hc ⊢
     cases hr : runM b.at' b.es true h.s with
     | none => rfl
     | some s' => rw [hr] at hc; exact absurd rfl hc
theorem addM_ok {h : HM} {b : BT} (hc : (addM h b).1 = 0) : (addM h b).2.flow = h.flow ∧ (addM h b).2.bs = h.bs ++ [b] := by
 unfold addM at hc ⊢
 by_cases h1 : bOk b = false
 ·rw [if_pos h1] at hc; exact absurd (show (2 : Int) = 0 from hc) (by decide)
 ·rw [if_neg h1] at hc ⊢
  by_cases h2 : b.flow ≠ h.flow
  ·rw [if_pos h2] at hc; exact absurd (show (6 : Int) = 0 from hc) (by decide)
  ·rw [if_neg h2] at hc ⊢
   by_cases h3 : h.s.closed ≠ 0
   ·rw [if_pos h3] at hc; exact absurd (show (8 : Int) = 0 from hc) (by decide)
   ·rw [if_neg h3] at hc ⊢
    by_cases h4 : b.at' < h.at' ∨ ¬ (kind1 b = 1 ↔ h.bs = [])
    ·rw [if_pos h4] at hc; exact absurd (show (12 : Int) = 0 from hc) (by decide)
    ·rw [if_neg h4] at hc ⊢
     cases hr : runM b.at' b.es true h.s with
     | none => rw [hr] at hc; exact absurd (show (12 : Int) = 0 from hc) (by decide)
     | some s' => exact ⟨rfl, rfl⟩
def tot (l : List BT) : Nat := (l.map fun b => b.es.length).sum
theorem tot_snoc (l : List BT) (b : BT) : tot (l ++ [b]) = tot l + b.es.length := by unfold tot; rw [List.map_append, List.sum_append]; simp
theorem tot_take (l : List BT) (j : Nat) (h : j < l.length) : tot (l.take (j + 1)) = tot (l.take j) + l[j].es.length := by rw [List.take_succ_eq_append_getElem h, tot_snoc]
theorem runM_fine {now : Nat} : ∀ (es : List EV) (first : Bool) (s s' : ST), Fine s → runM now es first s = some s' → Fine s'
 | [], _, s, s', hf, h => by cases h; exact hf
 | e :: r, first, s, s', hf, h => by
  unfold runM at h
  split at h
  ·cases ha : applyM now r.isEmpty e s with
   | none => rw [ha] at h; cases h
   | some s1 => rw [ha] at h; exact runM_fine r false s1 s' (fine_apply hf ha) h
  ·cases h
theorem runM_next {now : Nat} : ∀ (es : List EV) (first : Bool) (s s' : ST), runM now es first s = some s' → s'.next ≤ s.next + es.length ∧ s'.keys.length ≤ s.keys.length + es.length
 | [], _, s, s', h => by cases h; simp
 | e :: r, first, s, s', h => by
  unfold runM at h
  split at h
  ·cases ha : applyM now r.isEmpty e s with
   | none => rw [ha] at h; cases h
   | some s1 =>
    rw [ha] at h
    have := runM_next r false s1 s' h
    have := apply_next ha
    have := apply_keys ha
    simp; omega
  ·cases h
structure HFine (h : HM) : Prop where
 fine : Fine h.s
 next : h.s.next ≤ tot h.bs + 1
 pos : ∀ b ∈ h.bs, 0 < b.es.length
theorem hfine_new (f : ByteArray) : HFine (HM.new f) := ⟨fine_init, by simp [HM.new, tot], fun b h => by simp [HM.new] at h⟩
theorem bOk_pos {b : BT} (h : ¬ bOk b = false) : 0 < b.es.length := by
 unfold bOk at h
 rcases Nat.eq_zero_or_pos b.es.length with e | e
 ·exfalso; apply h; rw [e]; simp
 ·exact e
theorem hfine_add {h : HM} (hf : HFine h) (b : BT) : HFine (addM h b).2 := by
 unfold addM
 by_cases h1 : bOk b = false
 ·rw [if_pos h1]; exact hf
 ·rw [if_neg h1]
  split
  ·exact hf
  ·split
   ·exact hf
   ·split
    ·exact hf
    ·cases hr : runM b.at' b.es true h.s with
     | none => exact hf
     | some s' => exact ⟨runM_fine _ _ _ _ hf.fine hr, by
       have := (runM_next _ _ _ _ hr).1
       have := hf.next
       show s'.next ≤ tot (h.bs ++ [b]) + 1
       rw [tot_snoc]; omega, fun c hc => by
       rcases List.mem_append.1 (show c ∈ h.bs ++ [b] from hc) with q | q
       ·exact hf.pos c q
       ·rw [List.mem_singleton.1 q]; exact bOk_pos h1⟩
end Hi
end Go.Proofs.YtfmnacebgplpcaaGreat
namespace Go.Proofs.YtfmnacebgplpcaaGreat
namespace Hi
open Nm (ret_int ret_bool)
open Vt (VT Rep below_drew Cloned)
open Ev (EV FieldsOk evCells vCells take_drop tk ap rd1 rd2 cons_drop)
open Cm (rowOf EvsIn EvsAt EvNew)
open Cn (BT BtsIn own_keep)
variable {X X' Y Y' : Nat → Prop} {u v w w' V V' : World} {hb bt bm bk n cap : Nat} {A : Option Addr} {h : HM}

theorem BtsIn.leads {A : Option Addr} {cap : Nat} {bl : List BT} (h : BtsIn v A cap bl) (hl : Leads v w) : BtsIn w A cap bl := ⟨h.le, h.cap_le, fun hp => by
 obtain ⟨b, off, hA, hlt, h3⟩ := h.at_ hp
 refine ⟨b, off, hA, Nat.lt_of_lt_of_le hlt hl.size, fun i hi => ?_⟩
 obtain ⟨A', c', h4, h5, h6, c0, c1, c2⟩ := h3 i hi
 exact ⟨A', c', h4, h5, EvsIn.leads h6 hl, hl.cell c0, hl.cell c1, hl.cell c2⟩⟩
theorem evsAt_move {base : Nat} {A : Option Addr} {cap n : Nat} {es : List EV} (h : EvsAt w base A cap n es) (hz : w.heap.size ≤ w'.heap.size) (hb : ∀ b, base ≤ b → b < w.heap.size → w'.heap[b]? = w.heap[b]?) : EvsAt w' base A cap n es := by
 obtain ⟨h0, xs, h1, h3⟩ := h
 refine ⟨h0, xs, ⟨h1.1, ?_⟩, fun i hi => ?_⟩
 ·rcases h1.2 with h | ⟨r, cp, cur, q1, q2, q3, q4⟩
  ·exact .inl h
  ·exact .inr ⟨r, cp, cur, q1, q2, (hb r q2 (Array.getElem?_eq_some_iff.1 q3).1).trans q3, q4⟩
 ·obtain ⟨lo, hi', vk, vn, vf, vs, A, m, c, h0, h1, h2, h3, h5, hfr, h6⟩ := h3 i hi
  have hin := Cm.rep_row h2
  exact ⟨lo, hi', vk, vn, vf, vs, A, m, c, h0, h1, h2.keep fun b o z1 z2 => World.cell?_of_block (a := ⟨b, o, none⟩) (hb b (by omega) (by omega)), Nat.le_trans h3 hz, h5, fun hp b off hA o => (Cm.frozen_of_block (hb b (by have := hin hp b off hA; omega) (by have := hin hp b off hA; omega)) o).trans (hfr hp b off hA o), h6⟩
def YH (Y : Nat → Prop) (hb : Nat) (A : Option Addr) : Nat → Prop := fun b => Y b ∨ b = hb ∨ rowOf A = some b
def HZ (hb : Nat) (A : Option Addr) : Nat → Prop := fun b => b = hb ∨ rowOf A = some b
def hC (bt bm bk next : Nat) (closed : Int) (flow : ByteArray) (A : Option Addr) (m c : Nat) : Array Value := #[.map (some bt), .map (some bm), .map (some bk), .int .u64 (next : Nat), .int .i64 closed, .string flow, .slice A m c]
theorem h_cells {W : World} {g bt bm bk next : Nat} {closed : Int} {flow : ByteArray} {A : Option Addr} {m c : Nat} (h : W.heap[g]? = some (.cells (hC bt bm bk next closed flow A m c) 109 (0, 0))) :
  W.cell? ⟨g, 0, none⟩ = some (.map (some bt)) ∧ W.cell? ⟨g, 1, none⟩ = some (.map (some bm)) ∧ W.cell? ⟨g, 2, none⟩ = some (.map (some bk)) ∧ W.cell? ⟨g, 3, none⟩ = some (.int .u64 (next : Nat)) ∧ W.cell? ⟨g, 4, none⟩ = some (.int .i64 closed) ∧ W.cell? ⟨g, 5, none⟩ = some (.string flow) ∧ W.cell? ⟨g, 6, none⟩ = some (.slice A m c) ∧ ∀ o, W.frozen? ⟨g, o, none⟩ = false := by
 simp [World.cell?, World.frozen?, h, hC]
def BCell (V : World) (xs : List Value) (i : Nat) (b : BT) : Prop := ∃ A c, b.flow.size ≤ maxLen ∧ b.at' < 18446744073709551616 ∧ EvsIn V A c b.es ∧ xs[i * 3]? = some (.string b.flow) ∧ xs[i * 3 + 1]? = some (.int .u64 (b.at' : Nat)) ∧ xs[i * 3 + 2]? = some (.slice A b.es.length c)
def BRow (w V : World) (A : Option Addr) (cap : Nat) (bl : List BT) : Prop := ∃ xs, w.ownsRow 0 33 3 (.slice A bl.length cap) bl.length xs ∧ ∀ i (h : i < bl.length), BCell V xs i bl[i]
theorem BRow.nil (w V : World) : BRow w V none 0 [] := ⟨[], ⟨rfl, .inl ⟨rfl, rfl⟩⟩, fun i h => absurd h (by simp)⟩
theorem BCell.leads {xs : List Value} {i : Nat} {b : BT} (h : BCell V xs i b) (hl : Leads V V') : BCell V' xs i b := by
 obtain ⟨A, c, h1, h2, h3, h4⟩ := h
 exact ⟨A, c, h1, h2, EvsIn.leads h3 hl, h4⟩
theorem own_move {base n k cap : Nat} {T : TypeId} {A : Option Addr} {xs : List Value} (h : w.ownsRow base T k (.slice A n cap) n xs) (hb : ∀ r, rowOf A = some r → w'.heap[r]? = w.heap[r]?) : w'.ownsRow base T k (.slice A n cap) n xs := by
 refine ⟨h.1, ?_⟩
 rcases h.2 with h | ⟨r, cp, cur, q1, q2, q3, q4⟩
 ·exact .inl h
 ·injection q1 with q1 _ q1'
  subst q1; subst q1'
  exact .inr ⟨r, cap, cur, rfl, q2, (hb r rfl).trans q3, q4⟩
theorem BRow.move {bl : List BT} (h : BRow w V A cap bl) (hb : ∀ r, rowOf A = some r → w'.heap[r]? = w.heap[r]?) (hl : Leads V V') : BRow w' V' A cap bl := by
 obtain ⟨xs, h1, h2⟩ := h
 exact ⟨xs, own_move h1 hb, fun i hi => (h2 i hi).leads hl⟩
theorem BRow.row_lt {bl : List BT} (h : BRow w V A cap bl) : ∀ r, rowOf A = some r → r < w.heap.size := by
 obtain ⟨xs, h1, -⟩ := h
 exact fun r hr => (Cn.own_lt h1 r hr).1
theorem own_form {base n k cap : Nat} {T : TypeId} {A : Option Addr} {xs : List Value} (h : w.ownsRow base T k (.slice A n cap) n xs) : n ≤ cap ∧ cap ≤ maxLen := by
 rcases h.2 with ⟨h, h0⟩ | ⟨r, cp, cur, q1, q2, q3, q4, q5, -⟩
 ·injection h with _ _ h; subst h; exact ⟨by omega, Nat.zero_le _⟩
 ·injection q1 with _ _ q1'; subst q1'; exact ⟨q4, q5⟩
theorem BRow.read {bl : List BT} (h : BRow w V A cap bl) (hl : Leads V w) : BtsIn w A cap bl := by
 obtain ⟨xs, h1, h2⟩ := h
 obtain ⟨f1, f2⟩ := own_form h1
 refine ⟨f1, f2, fun hp => ?_⟩
 rcases h1.2 with ⟨-, h0⟩ | ⟨r, cp, cur, q1, q2, q3, q4, q5, q6, q7⟩
 ·omega
 ·injection q1 with q1 _ q1'
  subst q1; subst q1'
  refine ⟨r, 0, rfl, (Array.getElem?_eq_some_iff.1 q3).1, fun i hi => ?_⟩
  obtain ⟨A', c, k1, k2, k3, k4, k5, k6⟩ := h2 i hi
  have e : ∀ p x, p < bl.length * 3 → xs[p]? = some x → w.cell? ⟨r, p, none⟩ = some x := fun p x hp hx => by
   rw [← q7, List.getElem?_take_of_lt hp, Array.getElem?_toList] at hx
   simp [World.cell?, q3, hx]
  exact ⟨A', c, k1, k2, EvsIn.leads k3 hl, by rw [Nat.zero_add]; exact e _ _ (by omega) k4, by rw [Nat.zero_add]; exact e _ _ (by omega) k5, by rw [Nat.zero_add]; exact e _ _ (by omega) k6⟩

structure HAt (Y : Nat → Prop) (w : World) (hb bt bm bk n : Nat) (A : Option Addr) (cap : Nat) (h : HM) : Prop where
 blk : w.heap[hb]? = some (.cells (hC bt bm bk h.s.next h.s.closed h.flow A h.bs.length cap) 109 (0, 0))
 maps : Maps3 w (veil (YH Y hb A) w) bt bm bk n h.s
 row : BRow w (veil (YH Y hb A) w) A cap h.bs
 yb : ¬ Y hb
 y1 : ¬ YH Y hb A bt
 y2 : ¬ YH Y hb A bm
 y3 : ¬ YH Y hb A bk
 yr : ∀ r, rowOf A = some r → ¬ Y r ∧ r ≠ hb
 fine : HFine h
 nn : n ≤ tot h.bs
 fl : h.flow.size ≤ maxLen
theorem HAt.lt (H : HAt Y w hb bt bm bk n A cap h) : hb < w.heap.size := (Array.getElem?_eq_some_iff.1 H.blk).1
theorem HAt.chg (H : HAt Y w hb bt bm bk n A cap h) (hc : Chg Y w w') : HAt Y w' hb bt bm bk n A cap h := by
 have hl : Leads (veil (YH Y hb A) w) (veil (YH Y hb A) w') := leads_veils hc.size fun b hb hx => ⟨hx, hc.block b hb fun e => hx (.inl e)⟩
 exact ⟨(hc.block hb H.lt H.yb).trans H.blk, ⟨H.maps.tasks.keep (hc.block bt H.maps.tasks.lt fun e => H.y1 (.inl e)) hl, H.maps.timers.keep (hc.block bm H.maps.timers.lt fun e => H.y2 (.inl e)), H.maps.keys.keep (hc.block bk H.maps.keys.lt fun e => H.y3 (.inl e))⟩,
  H.row.move (fun r hr => hc.block r (H.row.row_lt r hr) (H.yr r hr).1) hl, H.yb, H.y1, H.y2, H.y3, H.yr, H.fine, H.nn, H.fl⟩
theorem HAt.later (H : HAt Y w hb bt bm bk n A cap h) (hb' : Below w.heap.size w w') : HAt Y w' hb bt bm bk n A cap h := H.chg (Chg.of_below hb')
theorem HAt.more (H : HAt Y w hb bt bm bk n A cap h) (hY : ∀ b, b < w.heap.size → Y' b → Y b) : HAt Y' w hb bt bm bk n A cap h := by
 have hl : Leads (veil (YH Y hb A) w) (veil (YH Y' hb A) w) := leads_veils (Nat.le_refl _) fun b hb hx => ⟨fun q => hx (by rcases q with q | q; exact .inl (hY b hb q); exact .inr q), rfl⟩
 have hk : ∀ c, c < w.heap.size → ¬ YH Y hb A c → ¬ YH Y' hb A c := fun c hc hx q => hx (by rcases q with q | q; exact .inl (hY c hc q); exact .inr q)
 exact ⟨H.blk, ⟨H.maps.tasks.keep rfl hl, H.maps.timers.keep rfl, H.maps.keys.keep rfl⟩, H.row.move (fun _ _ => rfl) hl, fun q => H.yb (hY hb H.lt q), hk bt H.maps.tasks.lt H.y1, hk bm H.maps.timers.lt H.y2, hk bk H.maps.keys.lt H.y3, fun r hr => ⟨fun q => (H.yr r hr).1 (hY r (H.row.row_lt r hr) q), (H.yr r hr).2⟩, H.fine, H.nn, H.fl⟩
theorem HAt.batches (H : HAt Y w hb bt bm bk n A cap h) : BtsIn w A cap h.bs := H.row.read (leads_veil _ _)

theorem at_last (l : List BT) (hp : 0 < l.length) (i : Nat) (hi : i = l.length - 1) (h : i < l.length) (f : ByteArray) (s : ST) : HM.at' ⟨f, l, s⟩ = l[i].at' := by
 subst hi
 unfold HM.at'
 simp only
 rw [List.getLast?_eq_getElem?, List.getElem?_eq_getElem (by omega)]
set_option maxRecDepth 100000 in
theorem hclosed_any (H : HAt Y w hb bt bm bk n A cap h) : Calls Tryz.prog 43 #[.pointer (some ⟨hb, 0, none⟩)] w fun r w' => r = .returned (.int .i64 h.s.closed) ∧ w' = w := by
 obtain ⟨c0, c1, c2, c3, c4, c5, c6, cf⟩ := h_cells H.blk
 clear H
 go_enter Tryz.func43, Tryz.ntmps43
 go_wp2_with fail
 go_ret
 exact ⟨rfl, rfl⟩
theorem hflow_any (H : HAt Y w hb bt bm bk n A cap h) : Calls Tryz.prog 42 #[.pointer (some ⟨hb, 0, none⟩)] w fun r w' => r = .returned (.string h.flow) ∧ w' = w := by
 obtain ⟨c0, c1, c2, c3, c4, c5, c6, cf⟩ := h_cells H.blk
 clear H
 go_enter Tryz.func42, Tryz.ntmps42
 go_wp2_with fail
 go_ret
 exact ⟨rfl, rfl⟩
theorem hnext_any (H : HAt Y w hb bt bm bk n A cap h) : Calls Tryz.prog 46 #[.pointer (some ⟨hb, 0, none⟩)] w fun r w' => r = .returned (.int .u64 (h.s.next : Nat)) ∧ w' = w := by
 obtain ⟨c0, c1, c2, c3, c4, c5, c6, cf⟩ := h_cells H.blk
 clear H
 go_enter Tryz.func46, Tryz.ntmps46
 go_wp2_with fail
 go_ret
 exact ⟨rfl, rfl⟩
set_option maxRecDepth 100000 in
theorem hat_any (H : HAt Y w hb bt bm bk n A cap h) : Calls Tryz.prog 44 #[.pointer (some ⟨hb, 0, none⟩)] w fun r w' => r = .returned (.int .u64 (h.at' : Nat)) ∧ Below w.heap.size w w' := by
 obtain ⟨c0, c1, c2, c3, c4, c5, c6, cf⟩ := h_cells H.blk
 have hbt := H.batches
 have hl := hbt.le
 have hcm := hbt.cap_le
 simp only [maxLen] at hcm
 clear H
 obtain ⟨f, l, s⟩ := h
 dsimp only at hbt hl c0 c1 c2 c3 c4 c5 c6 ⊢
 obtain ⟨m, hm⟩ : ∃ m, m = l.length := ⟨_, rfl⟩
 rw [← hm] at c6 hl
 by_cases hp : 0 < m
 ·obtain ⟨b, off, rfl, hlt, h3⟩ := hbt.at_ (by omega)
  obtain ⟨q, hq⟩ : ∃ q, q = m - 1 := ⟨_, rfl⟩
  obtain ⟨A', c', -, -, -, d0, d1, d2⟩ := h3 q (by omega)
  have HE := Lib.hid (at_last l (by omega) q (by omega) (by omega) f s)
  have hm0 : ((m : Int) == 0) = false := by simp; omega
  have hqm : q < m := by omega
  generalize l[q].at' = la at *
  rw [HE.out]
  subst hq
  clear hm h3 hbt d0 d2 c0 c1 c2 c3 c4 c5 HE
  go_enter Tryz.func44, Tryz.ntmps44
  go_upto_region 3 with fail
  go_region
  go_wp2_with fail
  go_ret
  exact ⟨rfl, below_drew (Below.refl _ _)⟩
 ·obtain rfl : m = 0 := by omega
  have hl0 : l = [] := List.eq_nil_of_length_eq_zero hm.symm
  subst hl0
  clear hbt hm hl hp hcm
  go_enter Tryz.func44, Tryz.ntmps44
  go_wp2_with fail
  go_ret
  exact ⟨rfl, Below.refl _ _⟩
end Hi
end Go.Proofs.YtfmnacebgplpcaaGreat
namespace Go.Proofs.YtfmnacebgplpcaaGreat
namespace Cn
open Nm (bitsW ret_int ret_bool)
open Vt (VT Rep BoxAt below_drew Cloned put5 KidsAt HeadOk)
open Ev (EV FieldsOk evCells vCells EBox ERep zeroT take_drop tk ap rd1 rd2 cons_drop)
open Cm (rowOf EvsIn EvsAt EvNew evsSame evSame)

def wrongE (e : EV) : Bool := !e.valid
theorem call_wrong (args : Array Value) (w : World) : (callFunc 72 args).run Tryz.prog w = .ok (.enter 72 args) w := by kernel_rfl
namespace Q350
theorem Y349 {p : Prop} (h : p := by
 have HV := Lib.hid (Ev.evalid_any e W0 lo hi _ ⟨hf, vk, vn, vf, vs, A, m, c, rfl, hv.later (hb0.mono hz)⟩ (Nat.le_trans hz hb0.size))
 obtain ⟨g0, g1, g2, g3, g4, g5, g6, g7, g8, g9, g10⟩ := EBox.cells hx0
 have HB0 := Lib.hid hb0
 clear hv hf hx0 hb0
 unfold evCells at HV hW0 ⊢
 replace hW0 := Lib.hid hW0
 go_enter Tryz.func72, Tryz.ntmps72
 go_upto_region 1 with fail
 rw [← hW0.out]
 go_wp2_with fail
 refine HV.out.mono ?_
 rintro x w1 ⟨rfl, hb1⟩
 have HB1 := Lib.hid (HB0.out.trans (hb1.mono HB0.out.size))
 clear hb1 g0 g1 g2 g3 g4 g5 g6 g7 g8 g9 g10
 go_wp2_with fail
 go_ret
 exact ⟨ret_bool (by simp [wrongE]), HB1.out⟩) : p := h
end Q350
theorem asks_wrong (es : List EV) : Asks 72 wrongE es := by
 intro e _ lo hi vk vn vf vs A m c w hf hv hz
 open Q350 in exact M349

theorem found_any {p : EV → Bool} {es : List EV} {i : Int} (h : Found p es i) : decide (0 ≤ i) = es.any p := by
 rcases h with ⟨rfl, h⟩ | ⟨n, rfl, hn, hp, -⟩
 ·have : es.any p = false := by
   rw [List.any_eq_false]
   intro e he
   obtain ⟨m, hm, rfl⟩ := List.getElem_of_mem he
   simp [h m hm]
  rw [this]; rfl
 ·have : es.any p = true := List.any_eq_true.2 ⟨_, List.getElem_mem hn, hp⟩
  rw [this]; simp

theorem contains_any (g : Nat) (hcall : ∀ args w, (callFunc g args).run Tryz.prog w = .ok (.enter g args) w) (p : EV → Bool) (es : List EV) (hG : Asks g p es) (A : Option Addr) (cap : Nat) (w : World) (h : EvsIn w A cap es) :
  Calls Tryz.prog 71 #[.slice A es.length cap, .func (.func g) #[] #[]] w fun r w' => r = .returned (.bool (es.any p)) ∧ Below w.heap.size w w' := by
 have HI := Lib.hid (ifunc_any g hcall p es hG A cap w h)
 clear h hG
 go_enter Tryz.func71, Tryz.ntmps71
 go_wp2_with fail
 refine HI.out.mono ?_
 rintro x w1 ⟨i, rfl, hfound, hb1⟩
 have HB1 := Lib.hid hb1
 have HF := Lib.hid (found_any hfound)
 clear hb1 hfound
 go_wp2_with fail
 go_ret
 exact ⟨ret_bool (by rw [← HF.out]), HB1.out⟩

def bvalid (f : ByteArray) (at' : Nat) (es : List EV) : Bool := !f.toList.isEmpty && decide (f.size ≤ 1000) && decide (at' ≤ 9223372036854775807) && decide (0 < es.length) && !es.any wrongE

theorem M101 {p : Prop} (h : p := by
 go_wp2_with fail
 go_ret
 exact ⟨ret_bool (by unfold bvalid; rw [decide_eq_false HN.out]; simp), HBF.out⟩) : p := h
set_option maxRecDepth 100000 in
set_option maxHeartbeats 1000000 in
theorem bvalid_any (es : List EV) (f : ByteArray) (hfs : f.size ≤ maxLen) (at' : Nat) (hat : at' < 18446744073709551616) (A : Option Addr) (cap : Nat) (w : World) (h : EvsIn w A cap es) :
  Calls Tryz.prog 39 #[.agg #[.string f, .int .u64 at', .slice A es.length cap]] w fun r w' => r = .returned (.bool (bvalid f at' es)) ∧ Below w.heap.size w w' := by
 simp only [maxLen] at hfs
 have hle := h.le
 have hc := h.cap_le
 simp only [maxLen] at hc
 obtain ⟨W0, hW0⟩ : ∃ W0, W0 = w.alloc (.cells #[.string f, .int .u64 at', .slice A es.length cap] 33) := ⟨_, rfl⟩
 have hx0 : BB W0 w.heap.size f at' A es.length cap := by rw [hW0]; exact heap_alloc_new w _
 have hb0 : Below w.heap.size w W0 := by rw [hW0]; exact (Below.refl _ _).alloc (Nat.le_refl _) _
 have hz0 : W0.heap.size = w.heap.size + 1 := by rw [hW0]; simp
 have HC := Lib.hid (contains_any 72 call_wrong wrongE es (asks_wrong es) A cap W0 (h.later hb0))
 obtain ⟨c0, c1, c2, -⟩ := hx0.cells
 have HX0 := Lib.hid hx0; have HB0 := Lib.hid hb0
 replace hW0 := Lib.hid hW0
 clear h hx0 hb0
 go_enter Tryz.func39, Tryz.ntmps39
 go_upto_region 1 with fail
 rw [← hW0.out]
 go_upto_region 2 with (go_at_call 71; refine HC.out.mono ?_; rintro x w1 ⟨rfl, hb1⟩; have HB1 := Lib.hid hb1; obtain ⟨d0, d1, d2, -⟩ := (HX0.out.later hb1 (by omega)).cells; clear hb1)
 clear c0 c1 c2
 have HBF : Hid (Below w.heap.size w w1) := Lib.hid (HB0.out.trans (HB1.out.mono HB0.out.size))
 generalize ha : es.any wrongE = any at *
 have HA := Lib.hid ha; clear ha
 cases h1 : f.toList.isEmpty with
 | true =>
  have H1 := Lib.hid h1
  go_wp2_with fail
  go_ret
  exact ⟨ret_bool (by unfold bvalid; rw [H1.out]; rfl), HBF.out⟩
 | false =>
  have H1 := Lib.hid h1
  by_cases h2 : f.size ≤ 1000
  ·have g2 : decide ((f.size : Int) ≤ 1000) = true := by simp; omega
   by_cases h3 : at' ≤ 9223372036854775807
   ·have g3 : decide ((at' : Int) ≤ 9223372036854775807) = true := decide_eq_true (by omega)
    by_cases h4 : 0 < es.length
    ·have g4 : decide ((0 : Int) < es.length) = true := decide_eq_true (by omega)
     have HN := Lib.hid (And.intro h2 (And.intro h3 h4))
     clear h2 h3
     cases any with
     | true =>
      go_wp2_with fail
      go_ret
      exact ⟨ret_bool (by unfold bvalid; rw [HA.out]; simp), HBF.out⟩
     | false =>
      go_wp2_with fail
      go_ret
      exact ⟨ret_bool (by obtain ⟨z1, z2, z3⟩ := HN.out; unfold bvalid; rw [HA.out, H1.out, decide_eq_true z1, decide_eq_true z2, decide_eq_true z3]; rfl), HBF.out⟩
    ·have g4 : decide ((0 : Int) < es.length) = false := decide_eq_false (by omega)
     have HN := Lib.hid h4
     exact M101
   ·have g3 : decide ((at' : Int) ≤ 9223372036854775807) = false := decide_eq_false (by omega)
    have HN := Lib.hid h3
    clear h3
    exact M101
  ·have g2 : decide ((f.size : Int) ≤ 1000) = false := by simp; omega
   have HN := Lib.hid h2
   exact M101
end Cn
end Go.Proofs.YtfmnacebgplpcaaGreat
namespace Go.Proofs.YtfmnacebgplpcaaGreat
namespace Hi
open Ev (EV)
open Cn (BT)

def goM (now n : Nat) : Nat → List EV → ST → Option ST
 | _, [], s => some s
 | j, e :: r, s => (applyM now (decide (j + 1 = n)) e s).bind (goM now n (j + 1) r)
theorem runM_goM {now n : Nat} : ∀ (r : List EV) (j : Nat) (s : ST), j + r.length = n → (∀ i (h : i < r.length), decide (r[i].k ≤ 6) = decide (j + i = 0)) → runM now r (decide (j = 0)) s = goM now n j r s
 | [], j, s, _, _ => rfl
 | e :: r, j, s, hn, hf => by
  have h0 := hf 0 (by simp)
  simp only [List.getElem_cons_zero, Nat.add_zero] at h0
  have he : r.isEmpty = decide (j + 1 = n) := by
   rw [List.length_cons] at hn
   cases r with
   | nil => rw [List.length_nil] at hn; exact (decide_eq_true (by omega : j + 1 = n)).symm
   | cons a r => rw [List.length_cons] at hn; exact (decide_eq_false (by omega : ¬ j + 1 = n)).symm
  unfold runM goM
  rw [if_pos h0, he]
  cases applyM now (decide (j + 1 = n)) e s with
  | none => rfl
  | some s1 =>
  show runM now r false s1 = goM now n (j + 1) r s1
  have h := runM_goM (now := now) (n := n) r (j + 1) s1 (by have h9 : (e :: r).length = r.length + 1 := List.length_cons; omega) (fun i hi => by
   have q := hf (i + 1) (by rw [List.length_cons]; omega)
   rw [List.getElem_cons_succ] at q
   rw [q, show j + 1 + i = j + (i + 1) by omega])
  rw [show decide (j + 1 = 0) = false from decide_eq_false (by omega)] at h
  exact h
theorem runM_bad {now : Nat} : ∀ (r : List EV) (j : Nat) (s : ST), (∃ i, ∃ h : i < r.length, decide (r[i].k ≤ 6) ≠ decide (j + i = 0)) → runM now r (decide (j = 0)) s = none
 | [], j, s, h => by obtain ⟨i, h, -⟩ := h; simp at h
 | e :: r, j, s, hx => by
  unfold runM
  by_cases h0 : decide (e.k ≤ 6) = decide (j = 0)
  ·rw [if_pos h0]
   obtain ⟨i, h, hi⟩ := hx
   cases ha : applyM now r.isEmpty e s with
   | none => rfl
   | some s1 =>
    cases i with
    | zero => exact absurd h0 hi
    | succ i =>
     have q := runM_bad (now := now) r (j + 1) s1 ⟨i, by simpa using h, by
      rw [List.getElem_cons_succ] at hi
      rw [show j + 1 + i = j + (i + 1) by omega]
      exact hi⟩
     rw [show decide (j + 1 = 0) = false from decide_eq_false (by omega)] at q
     exact q
  ·rw [if_neg h0]
theorem goM_at {now n : Nat} {es : List EV} {j : Nat} (h : j < es.length) (s : ST) : goM now n j (es.drop j) s = (applyM now (decide (j + 1 = n)) es[j] s).bind (goM now n (j + 1) (es.drop (j + 1))) := by
 rw [List.drop_eq_getElem_cons h]; rfl
theorem goM_end {now n : Nat} {es : List EV} {j : Nat} (h : es.length ≤ j) (s : ST) : goM now n j (es.drop j) s = some s := by
 rw [List.drop_eq_nil_of_le h]; rfl
def AtM (now : Nat) (es : List EV) (s0 : ST) (j : Nat) (o : Option ST) : Prop := goM now es.length 0 es s0 = match o with
 | some s => goM now es.length j (es.drop j) s
 | none => none
theorem atM_first {now : Nat} {es : List EV} (s0 : ST) (h : 0 < es.length) : AtM now es s0 1 (applyM now (decide (0 + 1 = es.length)) es[0] s0) := by
 unfold AtM
 have q := goM_at (now := now) (n := es.length) h s0
 rw [List.drop_zero] at q
 rw [q]
 cases applyM now (decide (0 + 1 = es.length)) es[0] s0 <;> rfl
theorem atM_next {now : Nat} {es : List EV} {s0 s : ST} {j : Nat} (hj : j < es.length) (h : AtM now es s0 j (some s)) : AtM now es s0 (j + 1) (applyM now (decide (j + 1 = es.length)) es[j] s) := by
 unfold AtM at h ⊢
 rw [h]
 simp only
 rw [goM_at hj]
 cases applyM now (decide (j + 1 = es.length)) es[j] s <;> rfl
theorem atM_end {now : Nat} {es : List EV} {s0 : ST} {o : Option ST} {j : Nat} (hj : es.length ≤ j) (h : AtM now es s0 j o) : goM now es.length 0 es s0 = o := by
 unfold AtM at h
 rw [h]
 cases o with
 | none => rfl
 | some s => exact goM_end hj s
theorem atM_none {now : Nat} {es : List EV} {s0 : ST} {j : Nat} (h : AtM now es s0 j none) : goM now es.length 0 es s0 = none := h
theorem addM_run {h : HM} {b : BT} (h1 : ¬ bOk b = false) (h2 : b.flow = h.flow) (h3 : h.s.closed = 0) (h4 : ¬ (b.at' < h.at' ∨ ¬ (kind1 b = 1 ↔ h.bs = []))) : addM h b = match runM b.at' b.es true h.s with
  | none => (12, h)
  | some s' => (0, ⟨h.flow, h.bs ++ [b], s'⟩) := by
 unfold addM
 rw [if_neg h1, if_neg (fun q => q h2), if_neg (fun q => q h3), if_neg h4] <;> cases runM b.at' b.es true h.s <;> rfl
theorem addM_2 {h : HM} {b : BT} (h1 : bOk b = false) : addM h b = (2, h) := by unfold addM; rw [if_pos h1]
theorem addM_6 {h : HM} {b : BT} (h1 : ¬ bOk b = false) (h2 : b.flow ≠ h.flow) : addM h b = (6, h) := by unfold addM; rw [if_neg h1, if_pos h2]
theorem addM_8 {h : HM} {b : BT} (h1 : ¬ bOk b = false) (h2 : b.flow = h.flow) (h3 : h.s.closed ≠ 0) : addM h b = (8, h) := by unfold addM; rw [if_neg h1, if_neg (fun q => q h2), if_pos h3]
theorem addM_12 {h : HM} {b : BT} (h1 : ¬ bOk b = false) (h2 : b.flow = h.flow) (h3 : h.s.closed = 0) (h4 : b.at' < h.at' ∨ ¬ (kind1 b = 1 ↔ h.bs = [])) : addM h b = (12, h) := by unfold addM; rw [if_neg h1, if_neg (fun q => q h2), if_neg (fun q => q h3), if_pos h4]
end Hi
end Go.Proofs.YtfmnacebgplpcaaGreat
namespace Go.Proofs.YtfmnacebgplpcaaGreat
namespace Hi
open Ev (EV)
open Cn (BT)

def rep (f : ByteArray) (l : List BT) : HM := l.foldl (fun h b => (addM h b).2) (HM.new f)
theorem rep_snoc (f : ByteArray) (l : List BT) (b : BT) : rep f (l ++ [b]) = (addM (rep f l) b).2 := by unfold rep; rw [List.foldl_append]; rfl
end Hi
end Go.Proofs.YtfmnacebgplpcaaGreat
namespace Go.Proofs.YtfmnacebgplpcaaGreat
namespace Cn
open Nm (bitsW ret_int ret_bool)
open Vt (VT Rep BoxAt below_drew Cloned put5 KidsAt HeadOk)
open Ev (EV FieldsOk evCells vCells EBox ERep zeroT take_drop tk ap rd1 rd2 cons_drop)
open Cm (rowOf EvsIn EvsAt EvNew evsSame evSame rsev_any)

theorem evs_all {es es' : List EV} (h : es.length = es'.length) : evsSame es es' = (es.zip es').all (fun p => evSame p.1 p.2) := by simp [evsSame, h]

set_option maxRecDepth 100000 in
set_option maxHeartbeats 2000000 in
theorem rsameb_len (es es' : List EV) (hll : es'.length = es.length) (f : ByteArray) (at' : Nat) (A A' : Option Addr) (cap cap' : Nat) (w : World) (h : EvsIn w A cap es) (h' : EvsIn w A' cap' es') :
  Calls Tryz.prog 79 #[.agg #[.string f, .int .u64 at', .slice A es.length cap], .agg #[.string f, .int .u64 at', .slice A' es'.length cap']] w fun r w' => r = .returned (.bool (evsSame es es')) ∧ Below w.heap.size w w' := by
 have hl := h.le
 have hc := h.cap_le
 have hl' := h'.le
 have hc' := h'.cap_le
 simp only [maxLen] at hc hc'
 obtain ⟨W0, hW0⟩ : ∃ W0, W0 = (w.alloc (.cells #[.string f, .int .u64 at', .slice A es.length cap] 33)).alloc (.cells #[.string f, .int .u64 at', .slice A' es.length cap'] 33) := ⟨_, rfl⟩
 have hx0 : BB W0 w.heap.size f at' A es.length cap := by rw [hW0]; exact (heap_alloc_old _ _ (by simp)).trans (heap_alloc_new w _)
 have hx1 : BB W0 (w.heap.size + 1) f at' A' es.length cap' := by
  rw [hW0]
  have e := heap_alloc_new (w.alloc (.cells #[.string f, .int .u64 at', .slice A es.length cap] 33)) (.cells #[.string f, .int .u64 at', .slice A' es.length cap'] 33)
  rw [World.size_alloc] at e
  exact e
 have hb0 : Below w.heap.size w W0 := by rw [hW0]; exact (((Below.refl _ _).alloc (Nat.le_refl _) _).alloc (by simp) _)
 have hz0 : w.heap.size + 1 < W0.heap.size := by rw [hW0]; simp
 have HK := Lib.hid (h.later hb0); have HK' := Lib.hid (h'.later hb0); clear h h'
 have HLL := Lib.hid hll
 have HR : Hid (evsSame es es' = (es.zip es').all (fun p => evSame p.1 p.2)) := Lib.hid (evs_all hll.symm)
 have HX0 := Lib.hid hx0; have HX1 := Lib.hid hx1; have HB0 := Lib.hid hb0
 obtain ⟨c0, c1, c2, -⟩ := hx0.cells
 obtain ⟨q0, q1, q2, -⟩ := hx1.cells
 rw [HR.out, hll]
 rw [hll] at hl'
 replace hW0 := Lib.hid hW0
 clear hll HR hx0 hx1 hb0
 go_enter Tryz.func79, Tryz.ntmps79
 go_upto_region 1 with fail
 rw [← hW0.out]
 go_wp2_with fail
 clear c0 c1 c2 q0 q1 q2
 go_loopw [4, 5] (fun r i wr => ∃ (j : Nat), j ≤ es.length ∧ i = .int .i64 j ∧ r = .bool false ∧ ((es.zip es').take j).all (fun p => evSame p.1 p.2) = true ∧ Below W0.heap.size W0 wr) (fun _ i _ => es.length - (intOf i).toNat)
 case atStart => exact ⟨0, by omega, rfl, rfl, rfl, Below.refl _ _⟩
 case round =>
  obtain ⟨j, hj, rfl, rfl, hy, hb⟩ := hrel
  have HY := Lib.hid hy; clear hy
  have HB := Lib.hid hb; clear hb
  have HBW := Lib.hid fun W (hW : Below W0.heap.size W0 W) => HB0.out.trans (hW.mono HB0.out.size)
  obtain ⟨-, -, x2, -⟩ := (HX0.out.later HB.out (by omega)).cells
  obtain ⟨-, -, y2, -⟩ := (HX1.out.later HB.out hz0).cells
  by_cases hlt : j < es.length
  ·obtain ⟨b, off, lo, hi, vk, vn, vf, vs, A1, m, c, rfl, hblt, hf, hv, hz, d0, d1, d2, d3, d4, d5, d6, d7, d8, d9, d10⟩ := (HK.out.later HB.out).get j hlt
   obtain ⟨b', off', lo', hi', vk', vn', vf', vs', A1', m', c', rfl, hblt', hf', hv', hz', g0, g1, g2, g3, g4, g5, g6, g7, g8, g9, g10⟩ := (HK'.out.later HB.out).get j (by have := HLL.out; omega)
   have HS := Lib.hid (rsev_any es[j] (es'[j]'(by have := HLL.out; omega)) wr.drew lo hi lo' hi' _ _ ⟨hf, vk, vn, vf, vs, A1, m, c, rfl, hv.drew⟩ hz ⟨hf', vk', vn', vf', vs', A1', m', c', rfl, hv'.drew⟩ hz')
   clear hf hf' hv hv'
   unfold evCells at HS
   go_wp2_with fail
   go_still_tail 10, (by kernel_rfl)
   go_wp2_with fail
   refine HS.out.mono ?_
   rintro e w1 ⟨rfl, hb1⟩
   have hb1' : Below wr.heap.size wr w1 := (below_drew (Below.refl _ _)).trans hb1
   clear hb1
   have HB1 := Lib.hid (HB.out.trans (hb1'.mono HB.out.size))
   clear hb1' HS d0 d1 d2 d3 d4 d5 d6 d7 d8 d9 d10 g0 g1 g2 g3 g4 g5 g6 g7 g8 g9 g10
   have hzl : j < (es.zip es').length := by rw [List.length_zip, HLL.out]; simpa using hlt
   have hge : evSame ((es.zip es')[j]'hzl).1 ((es.zip es')[j]'hzl).2 = evSame es[j] (es'[j]'(by have := HLL.out; omega)) := by rw [List.getElem_zip]
   have HGE := Lib.hid hge; clear hge
   cases hp : evSame es[j] (es'[j]'(by have := HLL.out; omega)) with
   | true =>
    have HP := Lib.hid hp; clear hp
    go_wp2_with fail
    go_roundw
    case rel => exact ⟨j + 1, by omega, by go_num, rfl, by rw [Vt.all_take_succ _ _ _ hzl, HY.out, HGE.out, HP.out]; rfl, HB1.out⟩
    case measure => simp [intOf]; omega
   | false =>
    have HP := Lib.hid hp; clear hp
    go_wp2_with fail
    go_ret
    exact ⟨ret_bool (by rw [Vt.all_false _ _ j hzl (by rw [HGE.out]; exact HP.out)]), HBW.out _ HB1.out⟩
  ·have hj' : j = es.length := by omega
   have HJ := Lib.hid hj'
   clear hj'
   go_wp2_with fail
   go_ret
   have hall : (es.zip es').all (fun p => evSame p.1 p.2) = true := by
    have := HY.out
    rw [HJ.out, List.take_of_length_le (by rw [List.length_zip, HLL.out]; simp)] at this
    exact this
   exact ⟨ret_bool (by rw [hall]), HBW.out _ HB.out⟩
end Cn
end Go.Proofs.YtfmnacebgplpcaaGreat
namespace Go.Proofs.YtfmnacebgplpcaaGreat
namespace Cm
open Nm (bitsW ret_int ret_bool)
open Vt (VT Rep BoxAt below_drew Cloned put5 toList_inj rowCells)
open Ev (EV FieldsOk evCells vCells EBox ERep zeroT)

def fieldsB (k : Nat) : ByteArray := match k with
 | 1 => ⟨#[115, 118]⟩
 | 2 => ⟨#[105, 110, 97]⟩
 | 3 => ⟨#[105, 110, 118]⟩
 | 4 => ⟨#[105, 110, 97, 116]⟩
 | 5 => ⟨#[105]⟩
 | 6 => ⟨#[115, 116, 118]⟩
 | 7 => ⟨#[105, 115, 118]⟩
 | 8 => ⟨#[105, 97]⟩
 | 9 => ⟨#[118]⟩
 | 10 => ⟨#[116]⟩
 | 11 => ⟨#[116]⟩
 | _ => ⟨#[]⟩

set_option maxHeartbeats 1000000 in
theorem fields_in (k : Nat) (h1 : 1 ≤ k) (h2 : k ≤ 11) (w : World) : Calls Tryz.prog 146 #[.int .i64 k] w fun r w' => r = .returned (.string (fieldsB k)) ∧ Below w.heap.size w w' := by
 rcases (by omega : k = 1 ∨ k = 2 ∨ k = 3 ∨ k = 4 ∨ k = 5 ∨ k = 6 ∨ k = 7 ∨ k = 8 ∨ k = 9 ∨ k = 10 ∨ k = 11) with rfl | rfl | rfl | rfl | rfl | rfl | rfl | rfl | rfl | rfl | rfl
 all_goals
  go_enter Tryz.func146, Tryz.ntmps146
  go_wp2_with fail
  go_ret
  exact ⟨rfl, (Below.refl _ _).alloc (Nat.le_refl _) _⟩

theorem fieldsB_size (k : Nat) : (fieldsB k).size ≤ 4 := by
 unfold fieldsB
 split <;> decide

set_option maxHeartbeats 1000000 in
theorem has_in (k : Nat) (h1 : 1 ≤ k) (h2 : k ≤ 11) (c : Nat) (hc : c < 256) (w : World) : Calls Tryz.prog 104 #[.int .i64 k, .int .u8 c] w fun r w' => r = .returned (.bool ((fieldsB k).data.toList.any (fun x => x.toNat == c))) ∧ Below w.heap.size w w' := by
 have HF := Lib.hid (fields_in k h1 h2 w)
 have hsz := fieldsB_size k
 generalize fieldsB k = f at *
 obtain ⟨R, hR⟩ : ∃ R, R = f.data.toList.any (fun x => x.toNat == c) := ⟨_, rfl⟩
 rw [← hR]
 replace hR := Lib.hid hR
 go_enter Tryz.func104, Tryz.ntmps104
 go_wp2_with fail
 refine HF.out.mono ?_
 rintro x w1 ⟨rfl, hb⟩
 have HB := Lib.hid hb
 clear hb HF
 go_wp2_with fail
 go_loop [4, 6] (fun r i => ∃ j : Nat, j ≤ f.size ∧ i = .int .i64 j ∧ r = .bool false ∧ (f.data.toList.take j).any (fun x => x.toNat == c) = false) (fun _ i => f.size - (intOf i).toNat)
 case atStart => exact ⟨0, by omega, rfl, rfl, rfl⟩
 case round =>
  obtain ⟨j, hj, rfl, rfl, hy⟩ := hrel
  have HY := Lib.hid hy; clear hy
  by_cases hlt : j < f.size
  ·have hget : ∀ h : j < f.data.toList.length, f.data.toList[j] = f[j] := fun h => rfl
   have hl : f.data.toList.length = f.size := rfl
   by_cases hcj : f[j].toNat = c
   ·have hb : ((f[j].toNat : Int) == (c : Int)) = true := by simp; omega
    have hany : (f.data.toList.any fun x => x.toNat == c) = true := by
     rw [List.any_eq_true]
     exact ⟨f.data.toList[j], List.getElem_mem (by omega), by rw [hget (by omega)]; simpa using hcj⟩
    have HA := Lib.hid (hR.out.trans hany)
    clear hany hget hl
    go_wp2_with fail
    go_ret
    exact ⟨ret_bool (by rw [HA.out]), HB.out⟩
   ·have hb : ((f[j].toNat : Int) == (c : Int)) = false := by simp; omega
    have hany : (f.data.toList.take (j + 1)).any (fun x => x.toNat == c) = false := by
     rw [List.take_succ_eq_append_getElem (by omega), List.any_append, HY.out, hget (by omega)]
     simpa using hcj
    have HA := Lib.hid hany
    clear hany hget hl
    go_wp2_with fail
    exact ⟨⟨j + 1, by omega, by go_num, rfl, HA.out⟩, by simp [intOf]; omega⟩
  ·have hj' : j = f.size := by omega
   have hany : (f.data.toList.any fun x => x.toNat == c) = false := by
    have := HY.out
    rwa [hj', List.take_of_length_le (show f.data.toList.length ≤ f.size from Nat.le_refl _)] at this
   have HA := Lib.hid (hR.out.trans hany)
   clear hany
   subst hj'
   go_wp2_with fail
   go_ret
   exact ⟨ret_bool (by rw [HA.out]), HB.out⟩

theorem has_field (k : Nat) (h1 : 1 ≤ k) (h2 : k ≤ 11) (c q : Nat) (hq : (c, q) ∈ [(105, 0), (110, 1), (97, 2), (115, 3), (116, 4), (118, 5)]) (w : World) : Calls Tryz.prog 104 #[.int .i64 k, .int .u8 c] w fun r w' => r = .returned (.bool ((Ev.fieldsOf k).contains q)) ∧ Below w.heap.size w w' := by
 have hc : c < 256 := by simp at hq; omega
 have := has_in k h1 h2 c hc w
 have he : (fieldsB k).data.toList.any (fun x => x.toNat == c) = (Ev.fieldsOf k).contains q := by
  simp at hq
  rcases (by omega : k = 1 ∨ k = 2 ∨ k = 3 ∨ k = 4 ∨ k = 5 ∨ k = 6 ∨ k = 7 ∨ k = 8 ∨ k = 9 ∨ k = 10 ∨ k = 11) with rfl | rfl | rfl | rfl | rfl | rfl | rfl | rfl | rfl | rfl | rfl
  all_goals rcases hq with ⟨rfl, rfl⟩ | ⟨rfl, rfl⟩ | ⟨rfl, rfl⟩ | ⟨rfl, rfl⟩ | ⟨rfl, rfl⟩ | ⟨rfl, rfl⟩ <;> decide
 rwa [he] at this
end Cm
end Go.Proofs.YtfmnacebgplpcaaGreat
namespace Go.Proofs.YtfmnacebgplpcaaGreat
namespace Cn
open Vt (VT Rep)
open Ev (EV FieldsOk evCells vCells)
open Cm (EvsIn)
open Go.ChangeShapes Go.WideShapes Go.ChangeAt Go.Joins Go.Deep

theorem eleven (cs : List Value) (h : cs.length = 11) : ∃ a b c d e f g i j k l, cs = [a, b, c, d, e, f, g, i, j, k, l] := by
 match cs, h with
 | [a, b, c, d, e, f, g, i, j, k, l], _ => exact ⟨a, b, c, d, e, f, g, i, j, k, l, rfl⟩
theorem three (cs : List Value) (h : cs.length = 3) : ∃ a b c, cs = [a, b, c] := by
 match cs, h with
 | [a, b, c], _ => exact ⟨a, b, c, rfl⟩

set_option maxRecDepth 100000 in
theorem open_ev {H : Type} {enc : TypeId × Value → H} {W : World} {base : Nat} {spare : Nat → Bool} {held : Bool} (fuel : Nat) (cs : List Value) (x : DataW H × List MemPlace)
  (h : DataW.trod enc Tryz.prog W base spare held fuel 71 cs = some x) : ∃ (e : EV) (vk vn : Int) (vf : Nat) (vs : ByteArray) (A' : Option Addr) (m c : Nat), FieldsOk e ∧ Rep W base W.heap.size e.v (vCells vk vn vf vs A' m c) ∧ cs = (evCells e vk vn vf vs A' m c).toList := by
 have hC : Tryz.prog.cellsOf 71 = 11 := by kernel_rfl
 obtain ⟨xs, n, hn, hx, hlen, hxl, hg⟩ := DataW.trod_struct Tryz.underlying71 h
 obtain ⟨c0, c1, c2, c3, c4, c5, c6, c7, c8, c9, c10, rfl⟩ := eleven cs (hlen.trans hC)
 have hx : ∀ j : Nat, j < 7 → ∃ y, xs[j]? = some y := fun j hj => ⟨_, List.getElem?_eq_getElem (by rw [hxl]; exact hj)⟩
 obtain ⟨y0, z0⟩ := hx 0 (by omega); obtain ⟨y1, z1⟩ := hx 1 (by omega); obtain ⟨y2, z2⟩ := hx 2 (by omega); obtain ⟨y3, z3⟩ := hx 3 (by omega); obtain ⟨y4, z4⟩ := hx 4 (by omega); obtain ⟨y5, z5⟩ := hx 5 (by omega); obtain ⟨y6, z6⟩ := hx 6 (by omega)
 have g0 := (hg 0 _ rfl).trans z0; have g1 := (hg 1 _ rfl).trans z1; have g2 := (hg 2 _ rfl).trans z2; have g3 := (hg 3 _ rfl).trans z3; have g4 := (hg 4 _ rfl).trans z4; have g5 := (hg 5 _ rfl).trans z5; have g6 := (hg 6 _ rfl).trans z6
 have k1 : Tryz.prog.cellsOf 3 = 1 := by kernel_rfl
 have k2 : Tryz.prog.cellsOf 9 = 1 := by kernel_rfl
 have k3 : Tryz.prog.cellsOf 69 = 5 := by kernel_rfl
 have k4 : Tryz.prog.cellsOf 30 = 1 := by kernel_rfl
 simp [k1, k2, k3, k4] at g0 g1 g2 g3 g4 g5 g6
 obtain ⟨k, e0, -, w0⟩ := DataW.trod_int Tryz.underlying3 g0
 obtain ⟨id, e1, -, w1⟩ := DataW.trod_int Tryz.underlying30 g1
 obtain ⟨n2, e2, -, w2⟩ := DataW.trod_int Tryz.underlying3 g2
 obtain ⟨at', e3, -, w3⟩ := DataW.trod_int Tryz.underlying30 g3
 obtain ⟨nm, e4, -, w4⟩ := DataW.trod_string Tryz.underlying9 g4
 obtain ⟨tx, e5, -, w5⟩ := DataW.trod_string Tryz.underlying9 g5
 obtain ⟨t, ht⟩ := Vt.open_vt _ _ _ g6
 obtain rfl := List.singleton_inj.1 e0
 obtain rfl := List.singleton_inj.1 e1
 obtain rfl := List.singleton_inj.1 e2
 obtain rfl := List.singleton_inj.1 e3
 obtain rfl := List.singleton_inj.1 e4
 obtain rfl := List.singleton_inj.1 e5
 simp [Lit.wf, IntKind.min, IntKind.max, IntKind.bits, IntKind.signed] at w0 w1 w2 w3
 obtain ⟨vk, vn, vf, vs, l, A', cap, -, hv, -⟩ := ht.open_
 rw [hv] at ht
 injection hv with hv
 simp at hv
 obtain ⟨rfl, rfl, rfl, rfl, rfl⟩ := hv
 obtain ⟨mid, hmid⟩ : ∃ mn : Nat, id = mn := ⟨id.toNat, by omega⟩
 obtain ⟨mat, hmat⟩ : ∃ mn : Nat, at' = mn := ⟨at'.toNat, by omega⟩
 subst hmid hmat
 exact ⟨⟨k, mid, n2, mat, nm, tx, t⟩, vk, vn, vf, vs, A', l.length, cap, ⟨by show _ ≤ k; omega, by show k ≤ _; omega, by show mid < _; omega, by show _ ≤ n2; omega, by show n2 ≤ _; omega, by show mat < _; omega, w4, w5⟩, ht, rfl⟩

set_option maxRecDepth 100000 in
theorem evs_trod {H : Type} {enc : TypeId × Value → H} {W : World} {b1 : Nat} {spare : Nat → Bool} {held : Bool} (fuel : Nat) (c0 : Value) (x : DataW H × List MemPlace)
  (hf : DataW.trod enc Tryz.prog W b1 spare held fuel 31 [c0] = some x) : ∃ es A cap, c0 = .slice A es.length cap ∧ EvsIn W A cap es ∧ ((es = [] ∧ x.1 = .nil) ∨ ∃ elems rest, x.1 = .slice elems rest ∧ elems.length = es.length) := by
 have hC : Tryz.prog.cellsOf 71 = 11 := by kernel_rfl
 rcases DataW.trod_slice Tryz.underlying31 hf with ⟨e4, rfl⟩ | ⟨a, l0, cp0, elems, rest, n', hn', e4, rfl, hb, hl, hm, hel, he, -, -⟩
 ·obtain rfl := List.singleton_inj.1 e4
  exact ⟨[], none, 0, rfl, ⟨Nat.le_refl _, Nat.zero_le _, fun h => absurd h (by simp)⟩, .inl ⟨rfl, rfl⟩⟩
 ·obtain rfl := List.singleton_inj.1 e4
  have h4 : ∀ i : Nat, ∃ tC : EV × (Int × Int × Nat × ByteArray × Option Addr × Nat × Nat), i < l0 → FieldsOk tC.1 ∧ Rep W b1 W.heap.size tC.1.v (vCells tC.2.1 tC.2.2.1 tC.2.2.2.1 tC.2.2.2.2.1 tC.2.2.2.2.2.1 tC.2.2.2.2.2.2.1 tC.2.2.2.2.2.2.2) ∧
    ∀ j, j < 11 → W.cell? (a.add (i * 11) |>.add j) = (evCells tC.1 tC.2.1 tC.2.2.1 tC.2.2.2.1 tC.2.2.2.2.1 tC.2.2.2.2.2.1 tC.2.2.2.2.2.2.1 tC.2.2.2.2.2.2.2)[j]? := fun i => by
   by_cases hi : i < l0
   ·have e := he i hi
    rw [List.getElem?_eq_getElem (by omega)] at e
    obtain ⟨cs', q1, q2⟩ := Option.bind_eq_some_iff.1 e
    obtain ⟨o, vk, vn, vf, vs, A', m, c, p1, p3, rfl⟩ := open_ev n' cs' _ q2
    rw [hC] at q1
    obtain ⟨_, ql, qc⟩ := World.cells?_some q1
    exact ⟨(o, vk, vn, vf, vs, A', m, c), fun _ => ⟨p1, p3, fun j hj => by rw [qc j hj, Array.getElem?_toList]⟩⟩
   ·exact ⟨(⟨0, 0, 0, 0, .empty, .empty, .mk 0 0 0 .empty []⟩, 0, 0, 0, .empty, none, 0, 0), fun h => absurd h hi⟩
  obtain ⟨F, hF⟩ := Classical.axiomOfChoice h4
  have hlen' : ((List.range l0).map fun i => (F i).1).length = l0 := by simp
  refine ⟨(List.range l0).map fun i => (F i).1, some a, cp0, by rw [hlen'], ⟨by rw [hlen']; exact hl, hm, fun hp => ?_⟩, .inr ⟨_, _, rfl, by rw [hlen', List.length_map]; exact hel⟩⟩
  rw [hlen'] at hp
  have h0 := (hF 0 hp).2.2 0 (by omega)
  obtain ⟨b, off, spot⟩ := a
  have hs : spot = none := by
   cases spot with
   | none => rfl
   | some q =>
    simp [Addr.add, World.cell?, evCells] at h0
    split at h0 <;> simp at h0
  subst hs
  have hlt : b < W.heap.size := by
   rcases Nat.lt_or_ge b W.heap.size with q | q
   ·exact q
   ·simp [Addr.add, World.cell?, Array.getElem?_eq_none q, evCells] at h0
  refine ⟨b, off, rfl, hlt, fun i hi => ?_⟩
  rw [hlen'] at hi
  obtain ⟨p1, p3, p4⟩ := hF i hi
  refine ⟨b1, W.heap.size, _, _, _, _, _, _, _, by simpa using p1, by simpa using p3, Nat.le_refl _, fun j hj => ?_⟩
  have := p4 j hj
  rw [Go.Deep.add_add, add_plain] at this
  rw [Nat.add_assoc, this]
  simp

end Cn
end Go.Proofs.YtfmnacebgplpcaaGreat
