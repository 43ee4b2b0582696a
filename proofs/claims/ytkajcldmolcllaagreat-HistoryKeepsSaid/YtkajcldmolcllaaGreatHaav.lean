/- History.Timers, History.Tasks. -/
/- Rows of whatever elements: what is read, what is appended; a reference's history in memory. -/
/- The reference's history: New, At, Has, task. -/
/- The reference's SameBatches of two lists that hold the same. -/
import Derived.Test.YtkajcldmolcllaaGreatHaas
import Derived.Test.YtkajcldmolcllaaGreatHaau
import Derived.Lib.AppendZeros
import Derived.Test.YtkajcldmolcllaaGreatHaan
set_option linter.unusedVariables false
set_option linter.unusedSimpArgs false
open Go.RowKit
namespace Go.Proofs.YtkajcldmolcllaaGreat
namespace Hi
open Vt (VT Rep below_drew Cloned put5)
open Ev (EV FieldsOk evCells vCells)
open Cm (rowOf)
open Cn (BT)
variable {X X' Y Y' : Nat → Prop} {u v w w' V V' : World} {hb bt bm bk n cap : Nat} {A : Option Addr} {h : HM}

def TmIn (w : World) (A : Option Addr) (cap : Nat) (l : List (Nat × Nat)) : Prop := l.length ≤ cap ∧ cap ≤ maxLen ∧ (0 < l.length → ∃ b, A = some ⟨b, 0, none⟩ ∧ b < w.heap.size ∧ ∀ i (h : i < l.length), w.cell? ⟨b, i * 2, none⟩ = some (.int .u64 (l[i].1 : Nat)) ∧ w.cell? ⟨b, i * 2 + 1, none⟩ = some (.int .u64 (l[i].2 : Nat)))
theorem TmIn.later {l : List (Nat × Nat)} (h : TmIn w A cap l) (hb : Below w.heap.size w w') : TmIn w' A cap l := ⟨h.1, h.2.1, fun hp => by
 obtain ⟨b, hA, hlt, h3⟩ := h.2.2 hp
 exact ⟨b, hA, Nat.lt_of_lt_of_le hlt hb.size, fun i hi => ⟨(hb.cell (p := ⟨b, _, none⟩) hlt).trans (h3 i hi).1, (hb.cell (p := ⟨b, _, none⟩) hlt).trans (h3 i hi).2⟩⟩⟩
theorem mget_key {l : List (Nat × Nat)} {id : Nat} {x : Nat × Nat} (h : mget l id = some x) : x ∈ l ∧ x.1 = id := by
 unfold mget at h
 exact ⟨List.mem_of_find?_eq_some h, by simpa using List.find?_some h⟩
set_option maxRecDepth 100000 in
theorem timers_any (H : HAt Y w hb bt bm bk n A cap h) (hn : n ≤ 1200000000000) (hid : ∀ t ∈ h.s.timers, t.1 < 18446744073709551616) (hl : h.s.timers.length ≤ 1200000000000) :
  Calls Tryz.prog 26 #[.pointer (some ⟨hb, 0, none⟩)] w fun r w' => ∃ A2 cap2, r = .returned (.slice A2 h.s.timers.length cap2) ∧ Below w.heap.size w w' ∧ TmIn w' A2 cap2 h.s.timers := by
 obtain ⟨c0, c1, c2, c3, c4, c5, c6, cf⟩ := h_cells H.blk
 obtain ⟨D, hown, hsay⟩ := H.maps.timers
 have hp : (h.s.timers.map (·.1)).Pairwise (· < ·) := by rw [List.pairwise_map]; exact H.fine.fine.timers
 obtain ⟨W1, hW1⟩ : ∃ W1, W1 = w.alloc (.cells #[.map (some bm)] 64) := ⟨_, rfl⟩
 have hb1 : Below w.heap.size w W1 := by rw [hW1]; exact (Below.refl _ _).alloc (Nat.le_refl _) _
 have hm1 : W1.cell? ⟨w.heap.size, 0, none⟩ = some (.map (some bm)) := by rw [hW1]; exact (box_cell (World.alloc_heap_new w _)).1
 have hown1 := owns_keep hown (hb1.block bm hown.lt)
 have HS := Lib.hid (ti_sorted w.heap.size bm n D (mget h.s.timers) hsay (fun id x hx => (mget_key hx).2) W1 (by rw [hW1]; simp) hm1 hown1 hn (h.s.timers.map (·.1)) hp (fun id => by
  constructor
  ·intro q
   obtain ⟨x, hx, rfl⟩ := List.mem_map.1 q
   refine ⟨hid x hx, ?_⟩
   unfold mget
   rw [List.find?_isSome]
   exact ⟨x, hx, by simp⟩
  ·intro ⟨_, q⟩
   obtain ⟨x, hx⟩ := Option.isSome_iff_exists.1 q
   exact List.mem_map.2 ⟨x, (mget_key hx).1, (mget_key hx).2⟩) (by rw [List.length_map]; exact hl))
 have HV := Lib.hid (ti_values (some bm) w)
 have HF := Lib.hid H.fine.fine
 have HB1 := Lib.hid hb1
 clear H hown hsay hp hb1 hm1 hown1 hid c0 c2 c3 c4 c5 c6 cf
 go_enter Tryz.func26, Tryz.ntmps26
 go_wp2_with fail
 refine HV.out.mono ?_
 rintro e wx ⟨rfl, rfl⟩
 rw [← hW1]
 replace hW1 := Lib.hid hW1
 go_wp2_with fail
 refine HS.out.mono ?_
 rintro e w2 ⟨v2, rfl, hs⟩
 have HSS := Lib.hid hs
 clear hs
 go_wp2_with fail
 go_ret
 obtain ⟨hb2, hh⟩ := HSS.out
 have hbb : Below w.heap.size w w2 := HB1.out.trans (hb2.mono HB1.out.size)
 rcases hh with ⟨h0, rfl⟩ | ⟨blk, cap2, rfl, q1, q2, q3, q4, q5⟩
 ·have hnil : h.s.timers = [] := by simpa using h0
  rw [hnil]
  exact ⟨none, 0, rfl, hbb, by simp, Nat.zero_le _, fun q => absurd q (by simp)⟩
 ·rw [List.length_map] at q1 ⊢
  refine ⟨_, cap2, rfl, hbb, q1, q2, fun _ => ⟨blk, rfl, q4, fun i hi => ?_⟩⟩
  have hget := holdsN_get (k := 2) (enc := tiEnc (mget h.s.timers)) (fun _ => rfl) q5 i (by rw [List.length_map]; exact hi)
  have g0 := (hget 0 (by omega)).1
  have g1 := (hget 1 (by omega)).1
  have hel : tiEl (mget h.s.timers) ((h.s.timers.map (·.1))[i]'(by rw [List.length_map]; exact hi)) = h.s.timers[i] := by
   unfold tiEl
   rw [List.getElem_map, mget_at HF.out.timers hi]
  unfold tiEnc at g0 g1
  rw [hel] at g0 g1
  exact ⟨g0, g1⟩

def tCells (t : TK) (k n : Int) (f : Nat) (s : ByteArray) (A : Option Addr) (m c : Nat) : Array Value :=
 #[.int .u64 (t.id : Nat), .string t.name, .int .i64 k, .int .i64 n, .float .f64 f, .string s, .slice A m c, .int .i64 t.n, .bool t.fl, .int .u64 (t.at' : Nat)]
def TkIn (w : World) (A : Option Addr) (cap : Nat) (l : List TK) : Prop := l.length ≤ cap ∧ cap ≤ maxLen ∧ (0 < l.length → ∃ b off, A = some ⟨b, off, none⟩ ∧ b < w.heap.size ∧ ∀ i (h : i < l.length), ∃ lo hi k n f s A' m c, TOk l[i] ∧ Rep w lo hi l[i].v (vCells k n f s A' m c) ∧ hi ≤ w.heap.size ∧
 ∀ q, q < 10 → w.cell? ⟨b, off + i * 10 + q, none⟩ = (tCells l[i] k n f s A' m c)[q]?)
theorem TkIn.later {l : List TK} (h : TkIn w A cap l) (hb : Below w.heap.size w w') : TkIn w' A cap l := ⟨h.1, h.2.1, fun hp => by
 obtain ⟨b, off, hA, hlt, h3⟩ := h.2.2 hp
 refine ⟨b, off, hA, Nat.lt_of_lt_of_le hlt hb.size, fun i hi => ?_⟩
 obtain ⟨lo, hi2, k, n, f, s, A', m, c, q1, q2, q3, q4⟩ := h3 i hi
 exact ⟨lo, hi2, k, n, f, s, A', m, c, q1, q2.later (hb.mono q3), Nat.le_trans q3 hb.size, fun q hq => (hb.cell (p := ⟨b, _, none⟩) hlt).trans (q4 q hq)⟩⟩
theorem TkIn.leads {l : List TK} (h : TkIn v A cap l) (hl : Leads v w) : TkIn w A cap l := ⟨h.1, h.2.1, fun hp => by
 obtain ⟨b, off, hA, hlt, h3⟩ := h.2.2 hp
 refine ⟨b, off, hA, Nat.lt_of_lt_of_le hlt hl.size, fun i hi => ?_⟩
 obtain ⟨lo, hi2, k, n, f, s, A', m, c, q1, q2, q3, q4⟩ := h3 i hi
 refine ⟨lo, hi2, k, n, f, s, A', m, c, q1, Rep.leads q2 hl, Nat.le_trans q3 hl.size, fun q hq => ?_⟩
 have e := q4 q hq
 obtain ⟨y, hy⟩ : ∃ y, (tCells l[i] k n f s A' m c)[q]? = some y := by
  refine ⟨_, Array.getElem?_eq_getElem ?_⟩
  exact hq
 rw [hy] at e ⊢
 exact hl.cell e⟩
def TRow (w : World) (b : Nat) (l : List TK) : Prop := b < w.heap.size ∧ (∀ p, p < l.length * 10 → w.frozen? ⟨b, p, none⟩ = false) ∧ ∀ i (h : i < l.length), ∃ lo hi k n f s A' m c, TOk l[i] ∧ Rep w lo hi l[i].v (vCells k n f s A' m c) ∧ hi ≤ w.heap.size ∧ (b < lo ∨ hi ≤ b) ∧
 ∀ q, q < 10 → w.cell? ⟨b, i * 10 + q, none⟩ = (tCells l[i] k n f s A' m c)[q]?
theorem TRow.later {b : Nat} {l : List TK} (h : TRow w b l) (hb : Below w.heap.size w w') : TRow w' b l := ⟨Nat.lt_of_lt_of_le h.1 hb.size, fun p hp => (hb.frozen (p := ⟨b, p, none⟩) h.1).trans (h.2.1 p hp), fun i hi => by
 obtain ⟨lo, hi2, k, n, f, s, A', m, c, q1, q2, q3, q5, q4⟩ := h.2.2 i hi
 exact ⟨lo, hi2, k, n, f, s, A', m, c, q1, q2.later (hb.mono q3), Nat.le_trans q3 hb.size, q5, fun q hq => (hb.cell (p := ⟨b, _, none⟩) h.1).trans (q4 q hq)⟩⟩
theorem put5_at (w : World) (b p : Nat) (d0 d1 d2 d3 d4 : Value) (y0 y1 y2 y3 y4 : Value) (h : w.cell? ⟨b, p, none⟩ = some y0 ∧ w.cell? ⟨b, p + 1, none⟩ = some y1 ∧ w.cell? ⟨b, p + 2, none⟩ = some y2 ∧ w.cell? ⟨b, p + 3, none⟩ = some y3 ∧ w.cell? ⟨b, p + 4, none⟩ = some y4) :
  (∀ q, q < p ∨ p + 5 ≤ q → (put5 w b p d0 d1 d2 d3 d4).cell? ⟨b, q, none⟩ = w.cell? ⟨b, q, none⟩) ∧ ∀ q, q < 5 → (put5 w b p d0 d1 d2 d3 d4).cell? ⟨b, p + q, none⟩ = (#[d0, d1, d2, d3, d4])[q]? := by
 unfold put5
 refine ⟨fun q hq => ?_, fun q hq => ?_⟩
 ·have e : ∀ (W : World) (o : Nat) (x : Value), o ≠ q → (W.setCell ⟨b, o, none⟩ x).cell? ⟨b, q, none⟩ = W.cell? ⟨b, q, none⟩ := fun W o x ho => World.cell?_setCell_other _ _ _ _ (fun e => ho (by cases e; rfl))
  rw [e _ _ _ (by omega), e _ _ _ (by omega), e _ _ _ (by omega), e _ _ _ (by omega), e _ _ _ (by omega)]
 ·obtain ⟨h0, h1, h2, h3, h4⟩ := h
  have e : ∀ (W : World) (o q : Nat) (x : Value), o ≠ q → (W.setCell ⟨b, o, none⟩ x).cell? ⟨b, q, none⟩ = W.cell? ⟨b, q, none⟩ := fun W o q x ho => World.cell?_setCell_other _ _ _ _ (fun e => ho (by cases e; rfl))
  rcases (by omega : q = 0 ∨ q = 1 ∨ q = 2 ∨ q = 3 ∨ q = 4) with rfl | rfl | rfl | rfl | rfl
  ·rw [e _ _ _ _ (by omega), e _ _ _ _ (by omega), e _ _ _ _ (by omega), e _ _ _ _ (by omega)]
   exact World.cell?_setCell_same' _ _ _ (by show (w.cell? ⟨b, p, none⟩).isSome = true; rw [h0]; try rfl)
  ·rw [e _ _ _ _ (by omega), e _ _ _ _ (by omega), e _ _ _ _ (by omega)]
   exact World.cell?_setCell_same' _ _ _ (by rw [e _ _ _ _ (by omega), h1]; try rfl)
  ·rw [e _ _ _ _ (by omega), e _ _ _ _ (by omega)]
   exact World.cell?_setCell_same' _ _ _ (by rw [e _ _ _ _ (by omega), e _ _ _ _ (by omega), h2]; try rfl)
  ·rw [e _ _ _ _ (by omega)]
   exact World.cell?_setCell_same' _ _ _ (by rw [e _ _ _ _ (by omega), e _ _ _ _ (by omega), e _ _ _ _ (by omega), h3]; try rfl)
  ·exact World.cell?_setCell_same' _ _ _ (by rw [e _ _ _ _ (by omega), e _ _ _ _ (by omega), e _ _ _ _ (by omega), e _ _ _ _ (by omega), h4]; try rfl)
theorem TRow.put {W : World} {b j : Nat} {l : List TK} (h : TRow w b l) (hj : j < l.length) (hb : Below w.heap.size w W) (hb2 : Below W.heap.size W w') {k n : Int} {f : Nat} {s : ByteArray} {A : Option Addr} {m c : Nat}
  (hr : Rep w' W.heap.size w'.heap.size l[j].v (vCells k n f s A m c)) : TRow (put5 w' b (j * 10 + 2) (.int .i64 k) (.int .i64 n) (.float .f64 f) (.string s) (.slice A m c)) b l := by
 have h1 := h.later (hb.trans (hb2.mono hb.size))
 obtain ⟨lo, hi2, k0, n0, f0, s0, A0, m0, c0, q1, q2, q3, q5, q4⟩ := h1.2.2 j hj
 obtain ⟨p1, p2⟩ := put5_at w' b (j * 10 + 2) (.int .i64 k) (.int .i64 n) (.float .f64 f) (.string s) (.slice A m c) _ _ _ _ _ ⟨q4 2 (by omega), q4 3 (by omega), q4 4 (by omega), q4 5 (by omega), q4 6 (by omega)⟩
 have hkeep : ∀ (lo hi : Nat) (t : VT) (x : Value), Rep w' lo hi t x → (b < lo ∨ hi ≤ b) → Rep (put5 w' b (j * 10 + 2) (.int .i64 k) (.int .i64 n) (.float .f64 f) (.string s) (.slice A m c)) lo hi t x := fun lo hi t x hR hne => hR.keep fun c o z1 z2 => Vt.put5_cell _ _ _ _ _ _ _ _ _ _ (by omega)
 refine ⟨by rw [Vt.put5_size]; exact h1.1, fun p hp => by unfold put5; simp only [World.frozen?_setCell]; exact h1.2.1 p hp, fun i hi => ?_⟩
 by_cases e : i = j
 ·subst e
  have hbW : b < W.heap.size := Nat.lt_of_lt_of_le h.1 hb.size
  refine ⟨W.heap.size, w'.heap.size, k, n, f, s, A, m, c, q1, hkeep _ _ _ _ hr (.inl hbW), by rw [Vt.put5_size]; exact Nat.le_refl _, .inl hbW, fun q hq => ?_⟩
  by_cases hq2 : q < 2 ∨ 7 ≤ q
  ·rw [p1 _ (by omega), q4 q hq]
   rcases (by omega : q = 0 ∨ q = 1 ∨ q = 7 ∨ q = 8 ∨ q = 9) with rfl | rfl | rfl | rfl | rfl <;> rfl
  ·have := p2 (q - 2) (by omega)
   rw [show i * 10 + 2 + (q - 2) = i * 10 + q by omega] at this
   rw [this]
   rcases (by omega : q = 2 ∨ q = 3 ∨ q = 4 ∨ q = 5 ∨ q = 6) with rfl | rfl | rfl | rfl | rfl <;> rfl
 ·obtain ⟨lo, hi2, k, n, f, s, A', m, c, q1, q2, q3, q5, q4⟩ := h1.2.2 i hi
  exact ⟨lo, hi2, k, n, f, s, A', m, c, q1, hkeep _ _ _ _ q2 q5, by rw [Vt.put5_size]; exact q3, q5, fun q hq => (p1 _ (by rcases Nat.lt_or_gt_of_ne e with z | z <;> omega)).trans (q4 q hq)⟩
theorem TRow.read {b : Nat} {l : List TK} (h : TRow w b l) (hc : l.length ≤ cap) (hm : cap ≤ maxLen) : TkIn w (some ⟨b, 0, none⟩) cap l := ⟨hc, hm, fun _ => ⟨b, 0, rfl, h.1, fun i hi => by
 obtain ⟨lo, hi2, k, n, f, s, A', m, c, q1, q2, q3, q5, q4⟩ := h.2.2 i hi
 exact ⟨lo, hi2, k, n, f, s, A', m, c, q1, q2, q3, fun q hq => by rw [Nat.zero_add]; exact q4 q hq⟩⟩⟩
def TC1 (V : World) (t : TK) (x : TC) : Prop := x.id = t.id ∧ x.nm = t.name ∧ x.N = t.n ∧ x.fl = t.fl ∧ x.at' = t.at' ∧ TOk t ∧ ∃ lo hi, Rep V lo hi t.v (vCells x.k x.n x.f x.s x.A x.m x.c) ∧ hi ≤ V.heap.size
theorem tmap_says {b n : Nat} {ts : List TK} (h : TMap w V b n ts) : ∃ (D : DataW Value) (M : Nat → Option TC), w.ownsMap Tryz.prog 27 HR b n D ∧ Says D M taskVC ∧ ∀ id, id < 18446744073709551616 → Both (TC1 V) (tget ts id) (M id) := by
 obtain ⟨D, h1, h2⟩ := h
 have h3 : ∀ id, ∃ m : Option TC, id < 18446744073709551616 → At D (keyL id) (m.map taskVC) ∧ Both (TC1 V) (tget ts id) m := fun id => by
  by_cases hid : id < 18446744073709551616
  ·obtain ⟨o, h3, h4⟩ := h2 id hid
   cases ht : tget ts id with
   | none =>
    rw [ht] at h4
    cases o with
    | none => exact ⟨none, fun _ => ⟨h3, trivial⟩⟩
    | some x => exact h4.elim
   | some t =>
    rw [ht] at h4
    cases o with
    | none => exact h4.elim
    | some x =>
     obtain ⟨lo, hi, k, n, f, s, A, m, c, rfl, hok, hrep, hhi⟩ := h4
     exact ⟨some ⟨t.id, t.name, k, n, f, s, A, m, c, t.n, t.fl, t.at'⟩, fun _ => ⟨h3, rfl, rfl, rfl, rfl, rfl, hok, lo, hi, hrep, hhi⟩⟩
  ·exact ⟨none, fun q => absurd q hid⟩
 obtain ⟨M, hM⟩ := Classical.axiomOfChoice h3
 exact ⟨D, M, h1, fun id hid => (hM id hid).1, fun id hid => (hM id hid).2⟩

theorem len_between : ∀ (l : List Nat) (a N : Nat), l.Pairwise (· < ·) → (∀ x ∈ l, a ≤ x ∧ x < N) → l.length ≤ N - a
 | [], _, _, _, _ => Nat.zero_le _
 | x :: t, a, N, hp, h => by
  obtain ⟨h1, h2⟩ := h x List.mem_cons_self
  obtain ⟨p1, p2⟩ := List.pairwise_cons.1 hp
  have := len_between t (x + 1) N p2 fun y hy => ⟨p1 y hy, (h y (List.mem_cons_of_mem _ hy)).2⟩
  rw [List.length_cons]; omega
theorem tasks_len {h : HM} (hf : HFine h) : h.s.tasks.length ≤ tot h.bs + 1 := by
 have h1 := len_between (h.s.tasks.map (·.id)) 0 h.s.next (by rw [List.pairwise_map]; exact hf.fine.tasks) fun x hx => by
  obtain ⟨t, ht, rfl⟩ := List.mem_map.1 hx
  exact ⟨Nat.zero_le _, hf.fine.below t ht⟩
 rw [List.length_map] at h1
 have := hf.next; omega
theorem timers_len {h : HM} (hf : HFine h) : h.s.timers.length ≤ tot h.bs + 1 := by
 have h1 := len_between (h.s.timers.map (·.1)) 0 h.s.next (by rw [List.pairwise_map]; exact hf.fine.timers) fun x hx => by
  obtain ⟨t, ht, rfl⟩ := List.mem_map.1 hx
  exact ⟨Nat.zero_le _, hf.fine.belowT t ht⟩
 rw [List.length_map] at h1
 have := hf.next; omega
set_option maxRecDepth 100000 in
set_option maxHeartbeats 4000000 in
theorem tasks_any (H : HAt Y w hb bt bm bk n A cap h) (htot : tot h.bs ≤ 1190000000000) (hS : ∀ t ∈ h.s.tasks, t.v.Slim 900) :
  Calls Tryz.prog 25 #[.pointer (some ⟨hb, 0, none⟩)] w fun r w' => ∃ A2 cap2, r = .returned (.slice A2 h.s.tasks.length cap2) ∧ Below w.heap.size w w' ∧ TkIn w' A2 cap2 h.s.tasks := by
 obtain ⟨c0, c1, c2, c3, c4, c5, c6, cf⟩ := h_cells H.blk
 obtain ⟨D, M, hown, hsay, hboth⟩ := tmap_says H.maps.tasks
 have hn := H.nn
 have hlen := tasks_len H.fine
 have hnx := H.fine.next
 have hp : (h.s.tasks.map (·.id)).Pairwise (· < ·) := by rw [List.pairwise_map]; exact H.fine.fine.tasks
 have hgt : ∀ i (hi : i < h.s.tasks.length), tget h.s.tasks h.s.tasks[i].id = some h.s.tasks[i] := fun i hi => get_at H.fine.fine.tasks hi
 have hlt64 : ∀ t ∈ h.s.tasks, t.id < 18446744073709551616 := fun t ht => by have := H.fine.fine.below t ht; omega
 have hent : ∀ i (hi : i < h.s.tasks.length), ∃ x, M h.s.tasks[i].id = some x ∧ TC1 (veil (YH Y hb A) w) h.s.tasks[i] x := fun i hi => by
  have := hboth _ (hlt64 _ (List.getElem_mem hi))
  rw [hgt i hi] at this
  cases hm : M h.s.tasks[i].id with
  | none => rw [hm] at this; exact this.elim
  | some x => rw [hm] at this; exact ⟨x, rfl, this⟩
 have hids : ∀ id, id ∈ h.s.tasks.map (·.id) ↔ (id < 18446744073709551616 ∧ (M id).isSome = true) := fun id => by
  constructor
  ·intro q
   obtain ⟨t, ht, rfl⟩ := List.mem_map.1 q
   obtain ⟨i, hi, rfl⟩ := List.getElem_of_mem ht
   obtain ⟨x, hx, -⟩ := hent i hi
   exact ⟨hlt64 _ ht, by rw [hx]; rfl⟩
  ·intro ⟨q1, q2⟩
   have := hboth id q1
   obtain ⟨x, hx⟩ := Option.isSome_iff_exists.1 q2
   rw [hx] at this
   cases ht : tget h.s.tasks id with
   | none => rw [ht] at this; exact this.elim
   | some t => exact List.mem_map.2 ⟨t, (tget_some ht).1, (tget_some ht).2⟩
 have hkey' : ∀ id x, (if id < 18446744073709551616 then M id else none) = some x → x.id = id := fun id x hx => by
  split at hx
  ·rename_i hid
   have := hboth id hid
   rw [hx] at this
   cases ht : tget h.s.tasks id with
   | none => rw [ht] at this; exact this.elim
   | some t => rw [ht] at this; exact this.1.trans (tget_some ht).2
  ·cases hx
 obtain ⟨M', hM'⟩ : ∃ M' : Nat → Option TC, M' = fun id => if id < 18446744073709551616 then M id else none := ⟨_, rfl⟩
 have hMM : ∀ id, id < 18446744073709551616 → M' id = M id := fun id hid => by rw [hM']; simp only [if_pos hid]
 have hkey : ∀ id x, M' id = some x → x.id = id := fun id x hx => hkey' id x (by rw [hM'] at hx; exact hx)
 have hsay' : Says D M' taskVC := fun id hid => by rw [hMM id hid]; exact hsay id hid
 have hids' : ∀ id, id ∈ h.s.tasks.map (·.id) ↔ (id < 18446744073709551616 ∧ (M' id).isSome = true) := fun id => by
  rw [hids id]
  constructor
  ·intro ⟨q1, q2⟩; exact ⟨q1, by rw [hMM id q1]; exact q2⟩
  ·intro ⟨q1, q2⟩; exact ⟨q1, by rw [hMM id q1] at q2; exact q2⟩
 obtain ⟨W1, hW1⟩ : ∃ W1, W1 = w.alloc (.cells #[.map (some bt)] 63) := ⟨_, rfl⟩
 have hb1 : Below w.heap.size w W1 := by rw [hW1]; exact (Below.refl _ _).alloc (Nat.le_refl _) _
 have hz1 : W1.heap.size = w.heap.size + 1 := by rw [hW1]; simp
 have hm1 : W1.cell? ⟨w.heap.size, 0, none⟩ = some (.map (some bt)) := by rw [hW1]; exact (box_cell (World.alloc_heap_new w _)).1
 have hown1 := owns_keep hown (hb1.block bt hown.lt)
 have HSo := Lib.hid (ta_sorted w.heap.size bt n D M' hsay' hkey W1 (by omega) hm1 hown1 (by omega) (h.s.tasks.map (·.id)) hp hids' (by rw [List.length_map]; omega))
 have HV := Lib.hid (ta_values (some bt) w)
 have HB1 := Lib.hid hb1
 have HZ1 := Lib.hid hz1
 have HSL := Lib.hid hS
 have HTR : Hid (∀ (w2 : World) (blk : Nat), Below W1.heap.size W1 w2 → W1.heap.size ≤ blk → blk < w2.heap.size → Go.Sort.HoldsK (taEnc M') 10 w2 blk 0 (h.s.tasks.map (·.id)).toArray → TRow w2 blk h.s.tasks) := Lib.hid fun w2 blk hb2 hk1 hk2 hH => by
  have hbb : Below w.heap.size w w2 := hb1.trans (hb2.mono hb1.size)
  have hget := fun i (hi : i < h.s.tasks.length) => holdsN_get (k := 10) (enc := taEnc M') (fun _ => rfl) hH i (by rw [List.length_map]; exact hi)
  refine ⟨hk2, fun p hp => ?_, fun i hi => ?_⟩
  ·have := (hget (p / 10) (by omega) (p % 10) (by omega)).2
   rwa [show p / 10 * 10 + p % 10 = p by omega] at this
  ·obtain ⟨x, hx, e1, e2, e3, e4, e5, hok, lo, hi2, hrep, hhi⟩ := hent i hi
   rw [veil_size] at hhi
   refine ⟨lo, hi2, x.k, x.n, x.f, x.s, x.A, x.m, x.c, hok, (Rep.leads hrep (leads_veil _ _)).later (hbb.mono hhi), Nat.le_trans hhi hbb.size, .inr (by omega), fun q hq => ?_⟩
   rw [(hget i hi q hq).1]
   have hel : taEl M' ((h.s.tasks.map (·.id))[i]'(by rw [List.length_map]; exact hi)) = x := by
    unfold taEl
    rw [List.getElem_map, hMM _ (hlt64 _ (List.getElem_mem hi)), hx]
   unfold taEnc
   rw [hel]
   unfold taskL taskVCC tCells
   rw [e1, e2, e3, e4, e5]
   simp
 have hlen2 : h.s.tasks.length ≤ 1190000000001 := by omega
 clear H hown hsay hsay' hboth hn hlen hnx hp hgt hlt64 hent hids hids' hkey hkey' hM' hMM hb1 hz1 hm1 hown1 c1 c2 c3 c4 c5 c6 cf hS htot
 generalize h.s.tasks = ts at *
 go_enter Tryz.func25, Tryz.ntmps25
 go_wp2_with fail
 refine HV.out.mono ?_
 rintro e wx ⟨rfl, rfl⟩
 rw [← hW1]
 replace hW1 := Lib.hid hW1
 go_wp2_with fail
 refine HSo.out.mono ?_
 rintro e w2 ⟨v2, rfl, hb2, hh⟩
 have HBB : Hid (Below w.heap.size w w2) := Lib.hid (HB1.out.trans (hb2.mono HB1.out.size))
 rcases hh with ⟨h0, rfl⟩ | ⟨blk, cap2, rfl, q1, q2, q3, q4, q5⟩
 ·have hnil : ts = [] := by simpa using h0
  subst hnil
  clear hb2 h0
  go_wp2_with fail
  go_loopw [17] (fun i wr => i = .int .i64 0 ∧ wr = w2) (fun _ _ => 0)
  case atStart => exact ⟨rfl, rfl⟩
  case round =>
   obtain ⟨rfl, rfl⟩ := hrel
   go_wp2_with fail
   go_ret
   exact ⟨none, 0, rfl, HBB.out, by simp, Nat.zero_le _, fun q => absurd q (by simp)⟩
 ·rw [List.length_map] at q1 ⊢
  have HR := Lib.hid (HTR.out w2 blk hb2 q3 q4 q5)
  have HBK : Hid (w.heap.size < blk) := Lib.hid (by have := HZ1.out; omega)
  obtain ⟨L, hL⟩ : ∃ L, L = ts.length := ⟨_, rfl⟩
  have HLL := Lib.hid hL
  have HQ := Lib.hid (And.intro q1 q2)
  rw [← hL] at hlen2
  rw [← hL]
  clear hb2 q3 q4 q5 q1 q2 hL
  go_wp2_with fail
  go_loopw [17] (fun i wr => ∃ j : Nat, j ≤ L ∧ i = .int .i64 j ∧ TRow wr blk ts ∧ Below w.heap.size w wr) (fun i _ => L - (intOf i).toNat)
  case atStart => exact ⟨0, by omega, rfl, HR.out, HBB.out⟩
  case round =>
   obtain ⟨j, hj, rfl, hr, hb⟩ := hrel
   have HRJ := Lib.hid hr; have HB := Lib.hid hb
   clear hr hb
   by_cases hlt : j < L
   ·have hjl : j < ts.length := by have := HLL.out; omega
    obtain ⟨lo, hi2, k, n0, f, s, A', m, c, hok, hv, hhi, hne, hcell⟩ := HRJ.out.2.2 j hjl
    have e0 := hcell 0 (by omega); have e1 := hcell 1 (by omega); have e2 := hcell 2 (by omega); have e3 := hcell 3 (by omega); have e4 := hcell 4 (by omega); have e5 := hcell 5 (by omega); have e6 := hcell 6 (by omega); have e7 := hcell 7 (by omega); have e8 := hcell 8 (by omega); have e9 := hcell 9 (by omega)
    simp only [tCells, List.getElem?_toArray, List.getElem?_cons_zero, List.getElem?_cons_succ, Nat.add_zero] at e0 e1 e2 e3 e4 e5 e6 e7 e8 e9
    obtain ⟨W3, hW3⟩ : ∃ W3, W3 = wr.alloc (.cells (tCells ts[j] k n0 f s A' m c) 72) := ⟨_, rfl⟩
    have hb3 : Below wr.heap.size wr W3 := by rw [hW3]; exact (Below.refl _ _).alloc (Nat.le_refl _) _
    have hx3 : W3.heap[wr.heap.size]? = some (.cells (tCells ts[j] k n0 f s A' m c) 72 (0, 0)) := by rw [hW3]; exact heap_alloc_new _ _
    obtain ⟨g0, g1, g2, g3, g4, g5, g6, g7, g8, g9, -⟩ := t_cells hx3
    have HC := Lib.hid (Vt.clone_any ts[j].v W3 lo hi2 _ (hv.later (hb3.mono hhi)) (by have := hb3.size; omega) (HSL.out _ (List.getElem_mem hjl)))
    have HB3 := Lib.hid hb3
    clear hv hb3 hx3 hcell hok
    unfold vCells at HC
    unfold tCells at hW3
    replace hW3 := Lib.hid hW3
    go_upto_region 7 with fail
    rw [← hW3.out]
    go_wp2_with fail
    refine HC.out.mono ?_
    rintro x w4 ⟨k2, n2, f2, s2, l2, A2, cp2, ht, rfl, hr, hb4, -⟩
    have hst := HRJ.out.put hjl HB3.out hb4 hr
    have hat4 := HRJ.out.later (HB3.out.trans (hb4.mono HB3.out.size))
    have hfw : ∀ q, q < 10 → w4.frozen? ⟨blk, j * 10 + q, none⟩ = false := fun q hq => hat4.2.1 _ (by omega)
    have z2 := hfw 2 (by omega); have z3 := hfw 3 (by omega); have z4 := hfw 4 (by omega); have z5 := hfw 5 (by omega); have z6 := hfw 6 (by omega)
    obtain ⟨-, -, kk, kn, kf, ks, kA, km, kc, -, -, -, -, hc4⟩ := hat4.2.2 j hjl
    have y2 := hc4 2 (by omega); have y3 := hc4 3 (by omega); have y4 := hc4 4 (by omega); have y5 := hc4 5 (by omega); have y6 := hc4 6 (by omega)
    simp only [tCells, List.getElem?_toArray, List.getElem?_cons_zero, List.getElem?_cons_succ] at y2 y3 y4 y5 y6
    have HST := Lib.hid hst; have HB4 := Lib.hid hb4
    clear hr hb4 hst hfw hc4 hat4 ht e0 e1 e2 e3 e4 e5 e6 e7 e8 e9 g0 g1 g2 g3 g4 g5 g6 g7 g8 g9
    obtain ⟨W5, hW5⟩ : ∃ W5, W5 = put5 w4 blk (j * 10 + 2) (.int .i64 k2) (.int .i64 n2) (.float .f64 f2) (.string s2) (.slice A2 l2.length cp2) := ⟨_, rfl⟩
    have HB5 : Hid (Below w.heap.size w W5) := Lib.hid (by rw [hW5]; exact Vt.put5_below ((HB.out.trans (HB3.out.mono HB.out.size)).trans (HB4.out.mono (by have := HB.out.size; have := HB3.out.size; omega))) (by have := HBK.out; omega))
    rw [← hW5] at HST
    simp only [put5] at hW5
    go_upto_region 8 with fail
    rw [← hW5]
    replace hW5 := Lib.hid hW5
    go_wp2_with fail
    go_roundw
    case rel => exact ⟨j + 1, by omega, by go_num, HST.out, HB5.out⟩
    case measure => simp [intOf]; omega
   ·have hj' : j = L := by omega
    subst hj'
    go_wp2_with fail
    go_ret
    exact ⟨_, cap2, by rw [← HLL.out]; rfl, HB.out, HRJ.out.read HQ.out.1 HQ.out.2⟩
end Hi
end Go.Proofs.YtkajcldmolcllaaGreat
namespace Go.Proofs.YtkajcldmolcllaaGreat
namespace Hi
open Vt (VT Rep below_drew Cloned put5)
open Ev (EV FieldsOk evCells vCells)
open Cm (rowOf EvsIn)
open Cn (BT BtsIn)
variable {X X' Y Y' : Nat → Prop} {u v w w' V V' : World} {hb bt bm bk n cap : Nat} {A : Option Addr} {h : HM}

def CIn (w : World) (u : Value) (n k : Nat) (xs : List Value) : Prop := xs.length = n * k ∧ (∀ x ∈ xs, x.oneCell' = true) ∧ ∃ A cap, u = .slice A n cap ∧ n ≤ cap ∧ cap ≤ maxLen ∧ (0 < n → ∃ b off, A = some ⟨b, off, none⟩ ∧ b < w.heap.size ∧ ∀ p x, xs[p]? = some x → w.cell? ⟨b, off + p, none⟩ = some x)
theorem CIn.leads {u : Value} {n k : Nat} {xs : List Value} (h : CIn v u n k xs) (hl : Leads v w) : CIn w u n k xs := by
 obtain ⟨h1, h2, A, cap, h3, h4, h5, h6⟩ := h
 exact ⟨h1, h2, A, cap, h3, h4, h5, fun hp => by
  obtain ⟨b, off, q1, q2, q3⟩ := h6 hp
  exact ⟨b, off, q1, Nat.lt_of_lt_of_le q2 hl.size, fun p x hx => hl.cell (q3 p x hx)⟩⟩
theorem CIn.later {u : Value} {n k : Nat} {xs : List Value} (h : CIn w u n k xs) (hb : Below w.heap.size w w') : CIn w' u n k xs := h.leads (Leads.of_below hb)
theorem CIn.nil (w : World) (k : Nat) : CIn w (.slice none 0 0) 0 k [] := ⟨by simp, by simp, none, 0, rfl, Nat.le_refl _, Nat.zero_le _, fun h => absurd h (by omega)⟩
theorem CIn.of_own {base : Nat} {T : TypeId} {k n : Nat} {v : Value} {xs : List Value} (h : w.ownsRow base T k v n xs) (h1 : ∀ x ∈ xs, x.oneCell' = true) : CIn w v n k xs := by
 refine ⟨h.1, h1, ?_⟩
 rcases h.2 with ⟨rfl, h0⟩ | ⟨r, cp, cur, rfl, q2, q3, q4, q5, q6, q7⟩
 ·exact ⟨none, 0, by rw [h0], by omega, Nat.zero_le _, fun hp => absurd hp (by omega)⟩
 ·refine ⟨_, cp, rfl, q4, q5, fun _ => ⟨r, 0, rfl, (Array.getElem?_eq_some_iff.1 q3).1, fun p x hx => ?_⟩⟩
  have hlt := (List.getElem?_eq_some_iff.1 hx).1
  rw [h.1] at hlt
  rw [← q7, List.getElem?_take_of_lt hlt, Array.getElem?_toList] at hx
  simp [World.cell?, q3, hx]
theorem CIn.new {k : Nat} (w : World) (T : TypeId) (cs : Array Value) (hk : cs.size = k) (h1 : ∀ x ∈ cs.toList, x.oneCell' = true) : CIn (w.alloc (.cells cs T)) (.slice (some ⟨w.heap.size, 0, none⟩) 1 1) 1 k cs.toList := by
 have h : (w.alloc (.cells cs T)).heap[w.heap.size]? = some (.cells cs T (0, 0)) := heap_alloc_new w _
 refine ⟨by simp [hk], h1, _, 1, rfl, Nat.le_refl _, by decide, fun _ => ⟨w.heap.size, 0, rfl, (Array.getElem?_eq_some_iff.1 h).1, fun p x hx => ?_⟩⟩
 rw [Array.getElem?_toList] at hx
 rw [Nat.zero_add]
 unfold World.cell?
 simp only [h]
 exact hx
theorem run_append_nothing {t e : TypeId} {k : Nat} (ht : Tryz.prog.underlying t = some (.slice e)) (hz : ∀ w, (Go.sizeOf e).run Tryz.prog w = .ok k w) (W : World) (ty : TypeId) (B : Option Addr) (n c c2 : Nat) (h : n ≤ c) : (Builtin.append_ #[t, t] ty #[.slice B n c, .slice none 0 c2]).run Tryz.prog W = .ok (.slice B n c) W := by
 cases B <;> simp [Builtin.append_, run_underlying ht, hz, Builtin.lenOf, Builtin.firstCells, h, storeCells]
theorem run_append_any (W : World) (t ty e : TypeId) (i0 : TypeInfo) (z : Value) (k by' : Nat) (ht : Tryz.prog.underlying t = some (.slice e)) (hsz : ∀ w, (Go.sizeOf e).run Tryz.prog w = .ok k w) (hi : Tryz.prog.info? e = some i0) (hz0 : i0.zero = some z) (hz1 : i0.size = k) (hz2 : i0.bytes = by') (hzs : z.cells.size = k) (hk : 0 < k)
  (base : Nat) (v u : Value) (n m : Nat) (xs ys : List Value) (hown : W.ownsRow base e k v n xs) (hin : CIn W u m k ys) (h63 : n + m ≤ maxLen) (hby : (n + m) * by' ≤ 140737488355328) (hbase : base ≤ W.heap.size) :
  ∃ v' W', (Builtin.append_ #[t, t] ty #[v, u]).run Tryz.prog W = .ok v' W' ∧ W'.ownsRow base e k v' (n + m) (xs ++ ys) ∧ W.grownBy W' v.ownBlock ∧ (v'.ownBlock = v.ownBlock ∨ v'.ownBlock = some W.heap.size) := by
 obtain ⟨h1, h2, A, cap, rfl, h4, h5, h6⟩ := hin
 rcases Nat.eq_zero_or_pos m with h0 | hp
 ·subst h0
  have hys : ys = [] := List.eq_nil_of_length_eq_zero (by rw [h1, Nat.zero_mul])
  subst hys
  cases A with
  | none =>
   have hv : ∃ B cp, v = .slice B n cp ∧ n ≤ cp := by
    rcases hown.2 with ⟨rfl, h0⟩ | ⟨r, cp, cur, rfl, q2, q3, q4, q5⟩
    ·exact ⟨none, 0, by rw [h0], by omega⟩
    ·exact ⟨_, cp, rfl, q4⟩
   obtain ⟨B, cp, rfl, hcp⟩ := hv
   exact ⟨_, W, run_append_nothing ht hsz W ty B n cp cap hcp, by rw [List.append_nil]; exact hown, ⟨rfl, rfl, rfl, Nat.le_refl _, fun _ _ _ => rfl⟩, .inl rfl⟩
  | some a =>
   obtain ⟨v', W', hr, ho, hg, -, hb⟩ := run_append_own_at (P := Tryz.prog) W base t ty e i0 z k by' ht hi hz0 hz1 hz2 hzs hk v n xs hown a 0 cap [] (by simp) (fun j u hu => by simp at hu) (by simp) h63 hby hbase
   exact ⟨v', W', hr, ho, hg, hb⟩
 ·obtain ⟨b, off, rfl, q1, q2⟩ := h6 hp
  obtain ⟨v', W', hr, ho, hg, -, hb⟩ := run_append_own_at (P := Tryz.prog) W base t ty e i0 z k by' ht hi hz0 hz1 hz2 hzs hk v n xs hown ⟨b, off, none⟩ m cap ys h1 (fun j u hu => by
   rw [show (⟨b, off, none⟩ : Addr).add j = ⟨b, off + j, none⟩ from by unfold Addr.add; split <;> simp_all]
   exact q2 j u hu) h2 h63 hby hbase
  exact ⟨v', W', hr, ho, hg, hb⟩
theorem step_append_any {ops : Array Oper} {o : Oper} {a : Act} {K : Act → World → Prop} {Q : Exit → Act → World → Prop} {E : Prop} (W : World) (hgd : o.guard = none) (s x : Operand) (t e : TypeId) (ho : o.op = .call { callee := .builtin .append, args := #[s, x], argTypes := #[t, t] })
  (i0 : TypeInfo) (z : Value) (k by' : Nat) (ht : Tryz.prog.underlying t = some (.slice e)) (hsz : ∀ w, (Go.sizeOf e).run Tryz.prog w = .ok k w) (hi : Tryz.prog.info? e = some i0) (hz0 : i0.zero = some z) (hz1 : i0.size = k) (hz2 : i0.bytes = by') (hzs : z.cells.size = k) (hk : 0 < k)
  (base : Nat) (v u : Value) (n m : Nat) (xs ys : List Value) (hv : a.eval s = v) (hx : a.eval x = u) (hown : W.ownsRow base e k v n xs) (hin : CIn W u m k ys) (h63 : n + m ≤ maxLen) (hby : (n + m) * by' ≤ 140737488355328) (hbase : base ≤ W.heap.size)
  (h : ∀ v' W', W'.ownsRow base e k v' (n + m) (xs ++ ys) → W.grownBy W' v.ownBlock → K (a.put o.dst v') W') : if Region.wanted o (yielded ops a.tmps) = true then Oper.wp Tryz.prog o a W K Q else E := by
 have hw : Region.wanted o (yielded ops a.tmps) = true := by simp [Region.wanted, hgd]
 rw [if_pos hw]
 obtain ⟨v', W', hr, q1, q2, -⟩ := run_append_any W t o.type e i0 z k by' ht hsz hi hz0 hz1 hz2 hzs hk base v u n m xs ys hown hin h63 hby hbase
 exact Lib.wp_append_run W s x _ _ ho _ _ hv hx _ W' hr (h v' W' q1 q2)
theorem wpList_append_any {ops : Array Oper} {rest : List Oper} {o : Oper} {a : Act} {Q : Exit → Act → World → Prop} (W : World) (hgd : o.guard = none) (s x : Operand) (t e : TypeId) (ho : o.op = .call { callee := .builtin .append, args := #[s, x], argTypes := #[t, t] })
  (i0 : TypeInfo) (z : Value) (k by' : Nat) (ht : Tryz.prog.underlying t = some (.slice e)) (hsz : ∀ w, (Go.sizeOf e).run Tryz.prog w = .ok k w) (hi : Tryz.prog.info? e = some i0) (hz0 : i0.zero = some z) (hz1 : i0.size = k) (hz2 : i0.bytes = by') (hzs : z.cells.size = k) (hk : 0 < k)
  (base : Nat) (v u : Value) (n m : Nat) (xs ys : List Value) (hv : a.eval s = v) (hx : a.eval x = u) (hown : W.ownsRow base e k v n xs) (hin : CIn W u m k ys) (h63 : n + m ≤ maxLen) (hby : (n + m) * by' ≤ 140737488355328) (hbase : base ≤ W.heap.size)
  (h : ∀ v' W', W'.ownsRow base e k v' (n + m) (xs ++ ys) → W.grownBy W' v.ownBlock → (v'.ownBlock = v.ownBlock ∨ v'.ownBlock = some W.heap.size) → wpList Tryz.prog ops Q rest (a.put o.dst v') W') : wpList Tryz.prog ops Q (o :: rest) a W := by
 obtain ⟨v', W', hr, q1, q2, q3⟩ := run_append_any W t o.type e i0 z k by' ht hsz hi hz0 hz1 hz2 hzs hk base v u n m xs ys hown hin h63 hby hbase
 exact Lib.wpList_append_run W hgd s x _ _ ho _ _ hv hx _ W' hr (h v' W' q1 q2 q3)

def TkC (V : World) (xs : List Value) (ts : List TK) : Prop := xs.length = ts.length * 10 ∧ ∀ i (h : i < ts.length), ∃ lo hi k n f s A m c, TOk ts[i] ∧ Rep V lo hi ts[i].v (vCells k n f s A m c) ∧ hi ≤ V.heap.size ∧ ∀ q, q < 10 → xs[i * 10 + q]? = (tCells ts[i] k n f s A m c)[q]?
theorem TkC.leads {xs : List Value} {ts : List TK} (h : TkC v xs ts) (hl : Leads v w) : TkC w xs ts := ⟨h.1, fun i hi => by
 obtain ⟨lo, hi2, k, n, f, s, A, m, c, q1, q2, q3, q4⟩ := h.2 i hi
 exact ⟨lo, hi2, k, n, f, s, A, m, c, q1, Rep.leads q2 hl, Nat.le_trans q3 hl.size, q4⟩⟩
theorem TkC.append {xs ys : List Value} {ts us : List TK} (h : TkC V xs ts) (k : TkC V ys us) : TkC V (xs ++ ys) (ts ++ us) := by
 have h1 := h.1; have k1 := k.1
 refine ⟨by simp only [List.length_append]; omega, fun i hi => ?_⟩
 rw [List.length_append] at hi
 by_cases hlt : i < ts.length
 ·rw [List.getElem_append_left hlt]
  obtain ⟨lo, hi2, k, n, f, s, A, m, c, q1, q2, q3, q4⟩ := h.2 i hlt
  exact ⟨lo, hi2, k, n, f, s, A, m, c, q1, q2, q3, fun q hq => by rw [List.getElem?_append_left (by omega)]; exact q4 q hq⟩
 ·rw [List.getElem_append_right (by omega)]
  obtain ⟨lo, hi2, k, n, f, s, A, m, c, q1, q2, q3, q4⟩ := k.2 (i - ts.length) (by omega)
  exact ⟨lo, hi2, k, n, f, s, A, m, c, q1, q2, q3, fun q hq => by rw [List.getElem?_append_right (by omega), ← q4 q hq]; congr 1; omega⟩
theorem TkC.take {xs : List Value} {ts : List TK} (h : TkC V xs ts) (j : Nat) (hj : j ≤ ts.length) : TkC V (xs.take (j * 10)) (ts.take j) := by
 have h1 := h.1
 refine ⟨by simp only [List.length_take]; omega, fun i hi => ?_⟩
 rw [List.length_take] at hi
 rw [List.getElem_take]
 obtain ⟨lo, hi2, k, n, f, s, A, m, c, q1, q2, q3, q4⟩ := h.2 i (by omega)
 exact ⟨lo, hi2, k, n, f, s, A, m, c, q1, q2, q3, fun q hq => by rw [List.getElem?_take_of_lt (by omega)]; exact q4 q hq⟩
theorem TkC.drop {xs : List Value} {ts : List TK} (h : TkC V xs ts) (j : Nat) (hj : j ≤ ts.length) : TkC V (xs.drop (j * 10)) (ts.drop j) := by
 have h1 := h.1
 refine ⟨by simp only [List.length_drop]; omega, fun i hi => ?_⟩
 rw [List.length_drop] at hi
 rw [List.getElem_drop]
 obtain ⟨lo, hi2, k, n, f, s, A, m, c, q1, q2, q3, q4⟩ := h.2 (j + i) (by omega)
 exact ⟨lo, hi2, k, n, f, s, A, m, c, q1, q2, q3, fun q hq => by rw [List.getElem?_drop, ← q4 q hq]; congr 1; omega⟩
theorem TkC.nil (V : World) : TkC V [] [] := ⟨rfl, fun i h => absurd h (by simp)⟩
theorem TkC.one {t : TK} {lo hi : Nat} {k n : Int} {f : Nat} {s : ByteArray} {A : Option Addr} {m c : Nat} (ht : TOk t) (hr : Rep V lo hi t.v (vCells k n f s A m c)) (hh : hi ≤ V.heap.size) : TkC V (tCells t k n f s A m c).toList [t] := ⟨rfl, fun i hi' => by
 obtain rfl : i = 0 := by simpa using hi'
 exact ⟨lo, hi, k, n, f, s, A, m, c, ht, hr, hh, fun q hq => by rw [Nat.zero_mul, Nat.zero_add, Array.getElem?_toList]; rfl⟩⟩
def TmC (xs : List Value) (l : List (Nat × Nat)) : Prop := xs = l.flatMap timerL
def StC (xs : List Value) (ks : List ByteArray) : Prop := xs = ks.map Value.string ∧ ∀ s ∈ ks, s.size ≤ maxLen
def BtC (V : World) (xs : List Value) (bl : List BT) : Prop := xs.length = bl.length * 3 ∧ ∀ i (h : i < bl.length), BCell V xs i bl[i]
theorem BtC.leads {xs : List Value} {bl : List BT} (h : BtC v xs bl) (hl : Leads v w) : BtC w xs bl := ⟨h.1, fun i hi => (h.2 i hi).leads hl⟩
theorem BtC.append {xs ys : List Value} {ts us : List BT} (h : BtC V xs ts) (k : BtC V ys us) : BtC V (xs ++ ys) (ts ++ us) := by
 have h1 := h.1; have k1 := k.1
 refine ⟨by simp only [List.length_append]; omega, fun i hi => ?_⟩
 rw [List.length_append] at hi
 by_cases hlt : i < ts.length
 ·rw [List.getElem_append_left hlt]
  obtain ⟨A, c, q1, q2, q3, q4, q5, q6⟩ := h.2 i hlt
  exact ⟨A, c, q1, q2, q3, by rw [List.getElem?_append_left (by omega)]; exact q4, by rw [List.getElem?_append_left (by omega)]; exact q5, by rw [List.getElem?_append_left (by omega)]; exact q6⟩
 ·rw [List.getElem_append_right (by omega)]
  obtain ⟨A, c, q1, q2, q3, q4, q5, q6⟩ := k.2 (i - ts.length) (by omega)
  exact ⟨A, c, q1, q2, q3, by rw [List.getElem?_append_right (by omega), ← q4]; congr 1; omega, by rw [List.getElem?_append_right (by omega), ← q5]; congr 1; omega, by rw [List.getElem?_append_right (by omega), ← q6]; congr 1; omega⟩
theorem BtC.one {b : BT} {A : Option Addr} {c : Nat} (h1 : b.flow.size ≤ maxLen) (h2 : b.at' < 18446744073709551616) (h3 : EvsIn V A c b.es) : BtC V [.string b.flow, .int .u64 (b.at' : Nat), .slice A b.es.length c] [b] := ⟨rfl, fun i hi => by
 obtain rfl : i = 0 := by simpa using hi
 exact ⟨A, c, h1, h2, h3, rfl, rfl, rfl⟩⟩
theorem BtC.nil (V : World) : BtC V [] [] := ⟨rfl, fun i h => absurd h (by simp)⟩

def rhC (f : ByteArray) (ub : Value) (closed : Int) (next : Nat) (uk ut um : Value) : Array Value := #[.string f, ub, .int .i64 closed, .int .u64 (next : Nat), uk, ut, um]
def RTk (w : World) (u : Value) (ts : List TK) : Prop := ∃ xs, CIn w u ts.length 10 xs ∧ TkC w xs ts
def RTm (w : World) (u : Value) (l : List (Nat × Nat)) : Prop := ∃ xs, CIn w u l.length 2 xs ∧ TmC xs l
def RSt (w : World) (u : Value) (ks : List ByteArray) : Prop := ∃ xs, CIn w u ks.length 1 xs ∧ StC xs ks
def RBt (w : World) (u : Value) (bl : List BT) : Prop := ∃ xs, CIn w u bl.length 3 xs ∧ BtC w xs bl
structure RH (w : World) (h : HM) (ub uk ut um : Value) : Prop where
 bs : RBt w ub h.bs
 keys : RSt w uk h.s.keys
 tasks : RTk w ut h.s.tasks
 timers : RTm w um h.s.timers
theorem RH.leads {hm : HM} {ub uk ut um : Value} (h : RH v hm ub uk ut um) (hl : Leads v w) : RH w hm ub uk ut um :=
 ⟨h.bs.elim fun xs k => ⟨xs, k.1.leads hl, k.2.leads hl⟩, h.keys.elim fun xs k => ⟨xs, k.1.leads hl, k.2⟩, h.tasks.elim fun xs k => ⟨xs, k.1.leads hl, k.2.leads hl⟩, h.timers.elim fun xs k => ⟨xs, k.1.leads hl, k.2⟩⟩
theorem RH.later {hm : HM} {ub uk ut um : Value} (h : RH w hm ub uk ut um) (hb : Below w.heap.size w w') : RH w' hm ub uk ut um := h.leads (Leads.of_below hb)
theorem rh_new (w : World) (f : ByteArray) : RH w (HM.new f) (.slice none 0 0) (.slice none 0 0) (.slice none 0 0) (.slice none 0 0) :=
 ⟨⟨[], CIn.nil w 3, BtC.nil w⟩, ⟨[], CIn.nil w 1, rfl, fun s h => by simp [HM.new] at h⟩, ⟨[], CIn.nil w 10, TkC.nil w⟩, ⟨[], CIn.nil w 2, rfl⟩⟩
end Hi
end Go.Proofs.YtkajcldmolcllaaGreat
namespace Go.Proofs.YtkajcldmolcllaaGreat
namespace Hi
open _root_.Go.Proofs.YtkajcldmolcllaaGreat.Nm (ret_int ret_bool)
open Vt (VT Rep below_drew Cloned put5)
open Ev (EV FieldsOk evCells vCells)
open Cm (rowOf EvsIn)
open Cn (BT BtsIn)
variable {X X' Y Y' : Nat → Prop} {u v w w' V V' : World} {hb bt bm bk n cap : Nat} {A : Option Addr} {h : HM}

def RX (w : World) (g : Nat) (f : ByteArray) (ub : Value) (cl : Int) (nx : Nat) (uk ut um : Value) : Prop := w.heap[g]? = some (.cells (rhC f ub cl nx uk ut um) 32 (0, 0))
theorem RX.new (w : World) (f : ByteArray) (ub : Value) (cl : Int) (nx : Nat) (uk ut um : Value) : RX (w.alloc (.cells (rhC f ub cl nx uk ut um) 32)) w.heap.size f ub cl nx uk ut um := heap_alloc_new w _
theorem RX.later {g B : Nat} {f : ByteArray} {ub uk ut um : Value} {cl : Int} {nx : Nat} (h : RX w g f ub cl nx uk ut um) (hb : Below B w w') (hg : g < B) : RX w' g f ub cl nx uk ut um := (hb.block g hg).trans h
theorem RX.lt {g : Nat} {f : ByteArray} {ub uk ut um : Value} {cl : Int} {nx : Nat} (h : RX w g f ub cl nx uk ut um) : g < w.heap.size := (Array.getElem?_eq_some_iff.1 h).1
theorem RX.cells {g : Nat} {f : ByteArray} {ub uk ut um : Value} {cl : Int} {nx : Nat} (h : RX w g f ub cl nx uk ut um) :
  w.cell? ⟨g, 0, none⟩ = some (.string f) ∧ w.cell? ⟨g, 1, none⟩ = some ub ∧ w.cell? ⟨g, 2, none⟩ = some (.int .i64 cl) ∧ w.cell? ⟨g, 3, none⟩ = some (.int .u64 (nx : Nat)) ∧ w.cell? ⟨g, 4, none⟩ = some uk ∧ w.cell? ⟨g, 5, none⟩ = some ut ∧ w.cell? ⟨g, 6, none⟩ = some um ∧ (∀ o, w.frozen? ⟨g, o, none⟩ = false) := by
 unfold RX rhC at h; simp [World.cell?, World.frozen?, h]

theorem below7 {B g : Nat} (h : Below B w w') (hg : B ≤ g) (a b c d e f k : Value) : Below B w (((((((w'.setCell ⟨g, 0, none⟩ a).setCell ⟨g, 1, none⟩ b).setCell ⟨g, 2, none⟩ c).setCell ⟨g, 3, none⟩ d).setCell ⟨g, 4, none⟩ e).setCell ⟨g, 5, none⟩ f).setCell ⟨g, 6, none⟩ k) :=
 ((((((h.setCell (p := ⟨g, 0, none⟩) hg _).setCell (p := ⟨g, 1, none⟩) hg _).setCell (p := ⟨g, 2, none⟩) hg _).setCell (p := ⟨g, 3, none⟩) hg _).setCell (p := ⟨g, 4, none⟩) hg _).setCell (p := ⟨g, 5, none⟩) hg _).setCell (p := ⟨g, 6, none⟩) hg _
theorem rlast {l : List BT} {f : ByteArray} {s : ST} (hp : 0 < l.length) (q : Nat) (hq : q < l.length) (e : q = l.length - 1) : HM.at' ⟨f, l, s⟩ = l[q].at' := by
 subst e
 unfold HM.at'
 rw [List.getLast?_eq_getElem?, List.getElem?_eq_getElem hq]
set_option maxRecDepth 100000 in
set_option maxHeartbeats 1000000 in
theorem rnew_any (f : ByteArray) (w : World) : Calls Tryz.prog 11 #[.string f] w fun r w' => r = .returned (.agg (rhC f (.slice none 0 0) 0 1 (.slice none 0 0) (.slice none 0 0) (.slice none 0 0))) ∧ Below w.heap.size w w' := by
 obtain ⟨W0, hW0⟩ : ∃ W0, W0 = w.alloc (.cells (rhC ⟨#[]⟩ (.slice none 0 0) 0 0 (.slice none 0 0) (.slice none 0 0) (.slice none 0 0)) 32) := ⟨_, rfl⟩
 have hx : RX W0 w.heap.size ⟨#[]⟩ (.slice none 0 0) 0 0 (.slice none 0 0) (.slice none 0 0) (.slice none 0 0) := by rw [hW0]; exact RX.new ..
 have HB := Lib.hid (show Below w.heap.size w W0 by rw [hW0]; exact (Below.refl _ _).alloc (Nat.le_refl _) _)
 obtain ⟨x0, x1, x2, x3, x4, x5, x6, xf⟩ := hx.cells
 unfold rhC at hW0 ⊢
 rw [show ((0 : Nat) : Int) = 0 from rfl] at hW0 x3
 replace hW0 := Lib.hid hW0
 clear hx
 go_enter Tryz.func11, Tryz.ntmps11
 go_upto_region 1 with fail
 rw [← hW0.out]
 have xf0 := xf 0; have xf1 := xf 1; have xf2 := xf 2; have xf3 := xf 3; have xf4 := xf 4; have xf5 := xf 5; have xf6 := xf 6
 go_wp2_with fail
 refine bodyPost_ret (v := .agg #[.string f, .slice none 0 0, .int .i64 0, .int .u64 ((1 : Nat) : Int), .slice none 0 0, .slice none 0 0, .slice none 0 0]) (by simp [results, Tryz.results11, go_sem, x0, x1, x2, x3, x4, x5, x6]) rfl ?_
 refine ⟨rfl, ?_⟩
 exact below7 HB.out (Nat.le_refl _) _ _ _ _ _ _ _
set_option maxRecDepth 100000 in
set_option maxHeartbeats 1000000 in
theorem rat_any (hm : HM) (f : ByteArray) (ub uk ut um : Value) (cl : Int) (nx : Nat) (w : World) (h : RBt w ub hm.bs) :
  Calls Tryz.prog 31 #[.agg (rhC f ub cl nx uk ut um)] w fun r w' => r = .returned (.int .u64 (hm.at' : Nat)) ∧ Below w.heap.size w w' := by
 obtain ⟨xs, ⟨hlen, h1, A, cap, rfl, hle, hcap, hrd⟩, hbt⟩ := h
 simp only [maxLen] at hcap
 obtain ⟨ff, l, s⟩ := hm
 dsimp only at hlen hle hrd hbt ⊢
 obtain ⟨W0, hW0⟩ : ∃ W0, W0 = w.alloc (.cells (rhC f (.slice A l.length cap) cl nx uk ut um) 32) := ⟨_, rfl⟩
 have hx : RX W0 w.heap.size f (.slice A l.length cap) cl nx uk ut um := by rw [hW0]; exact RX.new ..
 have hb0 : Below w.heap.size w W0 := by rw [hW0]; exact (Below.refl _ _).alloc (Nat.le_refl _) _
 obtain ⟨x0, x1, x2, x3, x4, x5, x6, xf⟩ := hx.cells
 unfold rhC at hW0 ⊢
 replace hW0 := Lib.hid hW0
 have HB := Lib.hid hb0
 obtain ⟨m, hm⟩ : ∃ m, m = l.length := ⟨_, rfl⟩
 rw [← hm] at hW0 x1 hle hrd ⊢
 by_cases hp : 0 < m
 ·obtain ⟨b, off, rfl, hlt, h3⟩ := hrd hp
  obtain ⟨q, hq⟩ : ∃ q, q = m - 1 := ⟨_, rfl⟩
  have hqm : q < m := by omega
  obtain ⟨A', c', -, hatl, -, -, d1, -⟩ := hbt.2 q (by omega)
  have hd1 := (hb0.cell (p := ⟨b, off + (q * 3 + 1), none⟩) hlt).trans (h3 _ _ d1)
  have HE := Lib.hid (rlast (l := l) (f := ff) (s := s) (by omega) q (by omega) (by omega))
  have hm0 : ((m : Int) == 0) = false := by simp; omega
  generalize hla : l[q].at' = la at *
  rw [HE.out]
  rw [← Nat.add_assoc] at hd1
  subst hq
  clear hm h3 hbt d1 hlen h1 hrd hx x0 x2 x3 x4 x5 x6 xf HE hb0 hla
  go_enter Tryz.func31, Tryz.ntmps31
  go_upto_region 1 with fail
  rw [← hW0.out]
  go_wp2_with fail
  go_ret
  exact ⟨rfl, HB.out⟩
 ·obtain rfl : m = 0 := by omega
  have hl0 : l = [] := List.eq_nil_of_length_eq_zero hm.symm
  subst hl0
  clear hm hbt hlen h1 hrd hx x0 x2 x3 x4 x5 x6 xf hb0 hp hle hcap
  go_enter Tryz.func31, Tryz.ntmps31
  go_upto_region 1 with fail
  rw [← hW0.out]
  go_wp2_with fail
  go_ret
  exact ⟨rfl, HB.out⟩

set_option maxRecDepth 100000 in
set_option maxHeartbeats 1000000 in
theorem rtask_any (ts : List TK) (id : Nat) (hid : id < 18446744073709551616) (f : ByteArray) (ub uk ut um : Value) (cl : Int) (nx : Nat) (w : World) (h : RTk w ut ts) :
  Calls Tryz.prog 54 #[.agg (rhC f ub cl nx uk ut um), .int .u64 (id : Nat)] w fun r w' => (∃ n, r = .returned (.int .i64 n) ∧ IdxIs ts id n) ∧ Below w.heap.size w w' := by
 obtain ⟨xs, ⟨hlen, h1, A, cap, rfl, hle, hcap, hrd⟩, hbt⟩ := h
 simp only [maxLen] at hcap
 obtain ⟨W0, hW0⟩ : ∃ W0, W0 = w.alloc (.cells (rhC f ub cl nx uk (.slice A ts.length cap) um) 32) := ⟨_, rfl⟩
 have hx : RX W0 w.heap.size f ub cl nx uk (.slice A ts.length cap) um := by rw [hW0]; exact RX.new ..
 have hb0 : Below w.heap.size w W0 := by rw [hW0]; exact (Below.refl _ _).alloc (Nat.le_refl _) _
 have hz0 : W0.heap.size = w.heap.size + 1 := by rw [hW0]; simp
 unfold rhC at hW0 ⊢
 replace hW0 := Lib.hid hW0
 have HB := Lib.hid hb0; have HX := Lib.hid hx; have HZ := Lib.hid hz0; have HT := Lib.hid hbt; have HR := Lib.hid hrd
 obtain ⟨m, hm⟩ : ∃ m, m = ts.length := ⟨_, rfl⟩
 have HM := Lib.hid hm
 clear hx hb0 hz0 hbt hrd hlen h1
 rw [← hm] at hW0 hle HX HR ⊢
 clear hm
 go_enter Tryz.func54, Tryz.ntmps54
 go_upto_region 1 with fail
 rw [← hW0.out]
 go_wp2_with fail
 go_loopw [4, 5] (fun r i wr => ∃ (j : Nat), j ≤ m ∧ i = .int .i64 j ∧ r = .int .i64 0 ∧ (∀ q (hq : q < ts.length), q < j → ts[q].id ≠ id) ∧ wr = W0) (fun _ i _ => m - (intOf i).toNat)
 case atStart => exact ⟨0, by omega, rfl, rfl, fun q _ hq => absurd hq (by omega), rfl⟩
 case round =>
  obtain ⟨j, hj, rfl, rfl, hno, rfl⟩ := hrel
  have HN := Lib.hid hno; clear hno
  obtain ⟨x0, x1, x2, x3, x4, x5, x6, xf⟩ := HX.out.cells
  clear x0 x1 x2 x3 x4 x6 xf
  by_cases hlt : j < m
  ·obtain ⟨b, off, rfl, hblt, h3⟩ := HR.out (by omega)
   obtain ⟨lo, hi, k, n, ff, s, A', c, c', ⟨hti, -, -⟩, -, -, hq⟩ := HT.out.2 j (by have := HM.out; omega)
   have d := h3 (j * 10 + 0) (.int .u64 ((ts[j]'(by have := HM.out; omega)).id : Nat)) (by rw [hq 0 (by omega)]; rfl)
   have hd := (HB.out.cell (p := ⟨b, off + (j * 10 + 0), none⟩) hblt).trans d
   rw [Nat.add_zero] at hd
   generalize htid : (ts[j]'(by have := HM.out; omega)).id = tid at *
   have HTI := Lib.hid htid
   clear hq h3 d htid
   by_cases he : tid = id
   ·subst he
    go_wp2_with fail
    go_ret
    exact ⟨⟨_, rfl, .inr ⟨j, by have := HM.out; omega, rfl, HTI.out⟩⟩, HB.out⟩
   ·have hne : ((tid : Int) == (id : Int)) = false := by simp; omega
    go_wp2_with fail
    go_roundw
    case rel => exact ⟨j + 1, by omega, by go_num, rfl, fun q hq hlq => by
     by_cases e : q = j
     ·subst e; rw [HTI.out]; exact he
     ·exact HN.out q hq (by omega), trivial⟩
    case measure => simp [intOf]; omega
  ·have hj' : j = m := by omega
   subst hj'
   go_wp2_with fail
   go_ret
   exact ⟨⟨_, rfl, .inl ⟨rfl, fun t ht => by
    obtain ⟨q, hq, rfl⟩ := List.getElem_of_mem ht
    exact HN.out q hq (by have := HM.out; omega)⟩⟩, HB.out⟩
set_option maxRecDepth 100000 in
set_option maxHeartbeats 1000000 in
theorem rhas_any (ks : List ByteArray) (key : ByteArray) (hks : key.size ≤ maxLen) (f : ByteArray) (ub uk ut um : Value) (cl : Int) (nx : Nat) (w : World) (h : RSt w uk ks) :
  Calls Tryz.prog 16 #[.agg (rhC f ub cl nx uk ut um), .string key] w fun r w' => r = .returned (.bool (hasK ks key)) ∧ Below w.heap.size w w' := by
 obtain ⟨xs, ⟨hlen, h1, A, cap, rfl, hle, hcap, hrd⟩, hbt⟩ := h
 simp only [maxLen] at hcap
 obtain ⟨W0, hW0⟩ : ∃ W0, W0 = w.alloc (.cells (rhC f ub cl nx (.slice A ks.length cap) ut um) 32) := ⟨_, rfl⟩
 have hx : RX W0 w.heap.size f ub cl nx (.slice A ks.length cap) ut um := by rw [hW0]; exact RX.new ..
 have hb0 : Below w.heap.size w W0 := by rw [hW0]; exact (Below.refl _ _).alloc (Nat.le_refl _) _
 unfold rhC at hW0 ⊢
 replace hW0 := Lib.hid hW0
 have HB := Lib.hid hb0; have HX := Lib.hid hx; have HT := Lib.hid hbt; have HR := Lib.hid hrd
 obtain ⟨m, hm⟩ : ∃ m, m = ks.length := ⟨_, rfl⟩
 have HM := Lib.hid hm
 clear hx hb0 hbt hrd hlen h1
 rw [← hm] at hW0 hle HX HR ⊢
 clear hm
 go_enter Tryz.func16, Tryz.ntmps16
 go_upto_region 1 with fail
 rw [← hW0.out]
 go_wp2_with fail
 go_loopw [4, 5] (fun r i wr => ∃ (j : Nat), j ≤ m ∧ i = .int .i64 j ∧ r = .bool false ∧ (∀ q (hq : q < ks.length), q < j → ks[q] ≠ key) ∧ wr = W0) (fun _ i _ => m - (intOf i).toNat)
 case atStart => exact ⟨0, by omega, rfl, rfl, fun q _ hq => absurd hq (by omega), rfl⟩
 case round =>
  obtain ⟨j, hj, rfl, rfl, hno, rfl⟩ := hrel
  have HN := Lib.hid hno; clear hno
  obtain ⟨x0, x1, x2, x3, x4, x5, x6, xf⟩ := HX.out.cells
  clear x0 x1 x2 x3 x5 x6 xf
  by_cases hlt : j < m
  ·obtain ⟨b, off, rfl, hblt, h3⟩ := HR.out (by omega)
   have hjk : j < ks.length := by have := HM.out; omega
   have d := h3 (j * 1) (.string ks[j]) (by rw [HT.out.1]; simp [hjk])
   have hd := (HB.out.cell (p := ⟨b, off + j * 1, none⟩) hblt).trans d
   have hks' := HT.out.2 ks[j] (List.getElem_mem hjk)
   generalize htid : ks[j] = tk at *
   have HTI := Lib.hid htid
   clear h3 d htid
   simp only [maxLen] at hks hks'
   rw [Nat.mul_one] at hd
   obtain ⟨bb, hbb⟩ : ∃ bb, bb = (tk.toList == key.toList) := ⟨_, rfl⟩
   have hbe : bb = decide (tk = key) := by
    rw [hbb]
    by_cases e : tk = key
    ·rw [e]; simp
    ·rw [decide_eq_false e, beq_eq_false_iff_ne]; intro q; exact e (ByteArray.ext (Array.ext' (by rw [Vt.toList_data, Vt.toList_data] at q; exact q)))
   by_cases he : tk = key
   ·obtain rfl : bb = true := by rw [hbe]; exact decide_eq_true he
    have hbb' := hbb.symm
    clear hbb hbe
    subst he
    have HMem : Hid (ks.any (fun x => decide (x = tk)) = true) := Lib.hid (List.any_eq_true.2 ⟨tk, by rw [← HTI.out]; exact List.getElem_mem hjk, by simp⟩)
    go_wp2_with fail
    go_ret
    refine ⟨ret_bool ?_, HB.out⟩
    unfold hasK
    rw [HMem.out, Bool.and_true]
    have e : (tk.toList.isEmpty = true) ↔ tk.size = 0 := by
     rw [Vt.toList_data]
     show _ ↔ tk.data.size = 0
     rw [List.isEmpty_iff, ← Array.length_toList, List.length_eq_zero_iff]
    rw [Bool.eq_iff_iff]
    simp only [Bool.not_eq_true', ne_eq, decide_eq_true_eq, decide_not]
    rw [← Bool.not_eq_true, e]
    simp
   ·obtain rfl : bb = false := by rw [hbe]; exact decide_eq_false he
    have HNE := Lib.hid he
    clear hbe he
    have hbb' := hbb.symm
    clear hbb
    go_wp2_with fail
    go_roundw
    case rel => exact ⟨j + 1, by omega, by go_num, rfl, fun q hq hlq => by
     by_cases e : q = j
     ·subst e; rw [HTI.out]; exact HNE.out
     ·exact HN.out q hq (by omega), trivial⟩
    case measure => simp [intOf]; omega
  ·have hj' : j = m := by omega
   subst hj'
   go_wp2_with fail
   go_ret
   refine ⟨ret_bool ?_, HB.out⟩
   unfold hasK
   rw [List.any_eq_false.2 (fun t ht => by
    obtain ⟨q, hq, rfl⟩ := List.getElem_of_mem ht
    simpa using HN.out q hq (by have := HM.out; omega)), Bool.and_false]
end Hi
end Go.Proofs.YtkajcldmolcllaaGreat
namespace Go.Proofs.YtkajcldmolcllaaGreat
namespace Hi
open _root_.Go.Proofs.YtkajcldmolcllaaGreat.Nm (ret_int ret_bool)
open Vt (VT Rep below_drew)
open Ev (EV FieldsOk evCells vCells)
open Cm (rowOf EvsIn evsSame evSame evsSame_refl)
open Cn (BT BtsIn rsameb_len)
variable {v w w' : World}

theorem BtC.read {xs : List Value} {bl : List BT} {A : Option Addr} {cap : Nat} (h : CIn w (.slice A bl.length cap) bl.length 3 xs) (k : BtC w xs bl) : BtsIn w A cap bl := by
 obtain ⟨h1, h2, A', c', h3, h4, h5, h6⟩ := h
 injection h3 with e1 e2 e3
 subst e1; subst e3
 refine ⟨h4, h5, fun hp => ?_⟩
 obtain ⟨b, off, q1, q2, q3⟩ := h6 hp
 refine ⟨b, off, q1, q2, fun i hi => ?_⟩
 obtain ⟨A', c, k1, k2, k3, k4, k5, k6⟩ := k.2 i hi
 exact ⟨A', c, k1, k2, k3, q3 _ _ k4, by rw [Nat.add_assoc]; exact q3 _ _ k5, by rw [Nat.add_assoc]; exact q3 _ _ k6⟩
theorem RBt.open {u : Value} {bl : List BT} (h : RBt w u bl) : ∃ A cap, u = .slice A bl.length cap ∧ BtsIn w A cap bl := by
 obtain ⟨xs, h1, h2⟩ := h
 have h1' := h1
 obtain ⟨-, -, A, cap, rfl, -, -, -⟩ := h1
 exact ⟨A, cap, rfl, BtC.read h1' h2⟩
theorem rsameb_same (es : List EV) (f : ByteArray) (at' : Nat) (A A' : Option Addr) (cap cap' : Nat) (w : World) (h : EvsIn w A cap es) (h' : EvsIn w A' cap' es) :
  Calls Tryz.prog 56 #[.agg #[.string f, .int .u64 at', .slice A es.length cap], .agg #[.string f, .int .u64 at', .slice A' es.length cap']] w fun r w' => r = .returned (.bool true) ∧ Below w.heap.size w w' :=
 (rsameb_len es es rfl f at' A A' cap cap' w h h').mono fun r w' k => ⟨by rw [k.1, evsSame_refl], k.2⟩
set_option maxRecDepth 100000 in
set_option maxHeartbeats 2000000 in
theorem rsamebs_any (bl : List BT) (A A' : Option Addr) (cap cap' : Nat) (w : World) (h : BtsIn w A cap bl) (h' : BtsIn w A' cap' bl) :
  Calls Tryz.prog 35 #[.slice A bl.length cap, .slice A' bl.length cap'] w fun r w' => r = .returned (.bool true) ∧ Below w.heap.size w w' := by
 have hl := h.le
 have hc := h.cap_le
 have hl' := h'.le
 have hc' := h'.cap_le
 simp only [maxLen] at hc hc'
 have HK := Lib.hid h; have HK' := Lib.hid h'; clear h h'
 generalize hm : bl.length = m at *
 have HM := Lib.hid hm; clear hm
 go_enter Tryz.func35, Tryz.ntmps35
 go_wp2_with fail
 go_loopw [4, 5] (fun r i wr => ∃ (j : Nat), j ≤ m ∧ i = .int .i64 j ∧ r = .bool false ∧ Below w.heap.size w wr) (fun _ i _ => m - (intOf i).toNat)
 case atStart => exact ⟨0, by omega, rfl, rfl, Below.refl _ _⟩
 case round =>
  obtain ⟨j, hj, rfl, rfl, hb⟩ := hrel
  have HB := Lib.hid hb; clear hb
  by_cases hlt : j < m
  ·obtain ⟨b, off, rfl, hblt, h3⟩ := (HK.out.later HB.out).at_ (by have := HM.out; omega)
   obtain ⟨b', off', rfl, hblt', h3'⟩ := (HK'.out.later HB.out).at_ (by have := HM.out; omega)
   obtain ⟨A1, c1, hfl, hat, hes, d0, d1, d2⟩ := h3 j (by have := HM.out; omega)
   obtain ⟨A2, c2, hfl', hat', hes', g0, g1, g2⟩ := h3' j (by have := HM.out; omega)
   have hes2 := hes.later (below_drew (Below.refl wr.heap.size wr))
   have hes2' := hes'.later (below_drew (Below.refl wr.heap.size wr))
   have HC := Lib.hid (rsameb_same _ (bl[j]'(by have := HM.out; omega)).flow (bl[j]'(by have := HM.out; omega)).at' A1 A2 c1 c2 wr.drew hes2 hes2')
   clear hes hes' h3 h3' hes2 hes2'
   generalize (bl[j]'(by have := HM.out; omega)).flow = ff at *
   generalize (bl[j]'(by have := HM.out; omega)).at' = at' at *
   generalize (bl[j]'(by have := HM.out; omega)).es.length = en at *
   go_wp2_with fail
   go_still_tail 8, (by kernel_rfl)
   go_wp2_with fail
   refine HC.out.mono ?_
   rintro e w1 ⟨rfl, hb1⟩
   have hb1' : Below wr.heap.size wr w1 := (below_drew (Below.refl _ _)).trans hb1
   have HB1 := Lib.hid (HB.out.trans (hb1'.mono HB.out.size))
   clear hb1 hb1' HC d0 d1 d2 g0 g1 g2
   go_wp2_with fail
   go_roundw
   case rel => exact ⟨j + 1, by omega, by go_num, rfl, HB1.out⟩
   case measure => simp [intOf]; omega
  ·have hj' : j = m := by omega
   subst hj'
   go_wp2_with fail
   go_ret
   exact ⟨rfl, HB.out⟩
end Hi
end Go.Proofs.YtkajcldmolcllaaGreat
