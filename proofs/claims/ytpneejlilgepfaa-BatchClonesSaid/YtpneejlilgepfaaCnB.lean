/- Rows of events of the call's own whose values lie anywhere; the reference's Commands; boxes of batches. -/
import Derived.Test.YtpneejlilgepfaaCnA
import Derived.Test.YtpneejlilgepfaaCwI
namespace Go.Proofs.Ytpneejlilgepfaa
open Go.RowKit
set_option linter.unusedVariables false
set_option linter.unusedSimpArgs false
namespace Cn
open Nm (bitsW ret_int ret_bool)
open Vt (VT Rep BoxAt below_drew Cloned put5 KidsAt HeadOk)
open Ev (EV FieldsOk evCells vCells EBox ERep zeroT take_drop cons_drop)
open Cm (rowOf EvsIn EvsAt EvNew evsSame evSame)

/-- Element i of a row of events. -/
def ECell (w : World) (ro : Option Nat) (xs : List Value) (i : Nat) (e : EV) : Prop := ∃ lo hi vk vn vf vs A m c, FieldsOk e ∧ Rep w lo hi e.v (vCells vk vn vf vs A m c) ∧ hi ≤ w.heap.size ∧ (∀ r, ro = some r → r < lo ∨ hi ≤ r) ∧
  ∀ j, j < 11 → xs[i * 11 + j]? = (evCells e vk vn vf vs A m c)[j]?
def ERow (w : World) (base : Nat) (A : Option Addr) (cap n : Nat) (es : List EV) : Prop := es.length = n ∧ ∃ xs, w.ownsRow base 35 11 (.slice A n cap) n xs ∧ ∀ i (h : i < es.length), ECell w (rowOf A) xs i es[i]

theorem erow_nil (w : World) (base : Nat) : ERow w base none 0 0 [] := ⟨rfl, [], ⟨rfl, .inl ⟨rfl, rfl⟩⟩, fun i h => absurd h (by simp)⟩
theorem EvsAt.erow {w : World} {base : Nat} {A : Option Addr} {cap n : Nat} {es : List EV} (h : EvsAt w base A cap n es) : ERow w base A cap n es := by
  obtain ⟨h0, xs, h1, h3⟩ := h
  refine ⟨h0, xs, h1, fun i hi => ?_⟩
  obtain ⟨lo, hi', vk, vn, vf, vs, A, m, c, h0, h1, h2, h3, h5, hfr, h6⟩ := h3 i hi
  exact ⟨lo, hi', vk, vn, vf, vs, A, m, c, h1, h2, h3, h5, h6⟩

theorem ECell.keep {w w' : World} {ro : Option Nat} {xs : List Value} {i : Nat} {e : EV} (h : ECell w ro xs i e) (hz : w.heap.size ≤ w'.heap.size) (ho : ∀ b, b < w.heap.size → some b ≠ ro → w'.heap[b]? = w.heap[b]?) : ECell w' ro xs i e := by
  obtain ⟨lo, hi, vk, vn, vf, vs, A, m, c, h1, h2, h3, h5, h6⟩ := h
  refine ⟨lo, hi, vk, vn, vf, vs, A, m, c, h1, h2.keep fun b o hb1 hb2 => ?_, Nat.le_trans h3 hz, h5, h6⟩
  exact World.cell?_of_block (a := ⟨b, o, none⟩) (ho b (by omega) (fun e => by have := h5 b e.symm; omega))

theorem own_keep {w w' : World} {base n : Nat} {T : TypeId} {s : Nat} {v : Value} {xs : List Value} (h : w.ownsRow base T s v n xs) (hb : Below w.heap.size w w') : w'.ownsRow base T s v n xs := by
  refine ⟨h.1, ?_⟩
  rcases h.2 with h | ⟨r, cp, cur, q1, q2, q3, q4⟩
  · exact .inl h
  · exact .inr ⟨r, cp, cur, q1, q2, (hb.block r (Array.getElem?_eq_some_iff.1 q3).1).trans q3, q4⟩
theorem own_lt {w : World} {base n cap : Nat} {T : TypeId} {s : Nat} {A : Option Addr} {xs : List Value} (h : w.ownsRow base T s (.slice A n cap) n xs) : ∀ r, rowOf A = some r → r < w.heap.size ∧ base ≤ r := fun r hr => by
  rcases h.2 with ⟨h2, -⟩ | ⟨r', cp, cur, q1, q0, q3, -⟩
  · rw [← Cm.rowOf_own A n cap, h2] at hr; cases hr
  · rw [← Cm.rowOf_own A n cap, q1] at hr
    obtain rfl : r' = r := Option.some.inj hr
    exact ⟨(Array.getElem?_eq_some_iff.1 q3).1, q0⟩

theorem ERow.later {w w' : World} {base : Nat} {A : Option Addr} {cap n : Nat} {es : List EV} (h : ERow w base A cap n es) (hb : Below w.heap.size w w') : ERow w' base A cap n es := by
  obtain ⟨h0, xs, h1, h3⟩ := h
  exact ⟨h0, xs, own_keep h1 hb, fun i hi => (h3 i hi).keep hb.size (fun b hlt _ => hb.block b hlt)⟩

theorem ERow.push {W w' : World} {base r H : Nat} {A : Option Addr} {cap cap' n : Nat} {es : List EV} {e : EV} {xs : List Value} {lo hi : Nat} {vk vn : Int} {vf : Nat} {vs : ByteArray} {A' : Option Addr} {m c : Nat}
    (hlen : es.length = n) (hlx : xs.length = n * 11) (hx : ∀ i (h : i < es.length), ECell W (rowOf A) xs i es[i]) (hf : FieldsOk e) (hv : Rep W lo hi e.v (vCells vk vn vf vs A' m c)) (hz : hi ≤ W.heap.size) (hrr : ∀ r, rowOf A = some r → r < lo ∨ hi ≤ r)
    (hown : w'.ownsRow base 35 11 (.slice (some ⟨r, 0, none⟩) (n + 1) cap') (n + 1) (xs ++ (evCells e vk vn vf vs A' m c).toList)) (hgrow : W.grownBy w' (rowOf A)) (hat : rowOf A = some r ∨ r = H) (hH : W.heap.size ≤ H) :
    ERow w' base (some ⟨r, 0, none⟩) cap' (n + 1) (es ++ [e]) := by
  have key : ∀ {lo hi : Nat}, hi ≤ W.heap.size → (∀ r, rowOf A = some r → r < lo ∨ hi ≤ r) → ∀ r2, rowOf (some ⟨r, 0, none⟩) = some r2 → r2 < lo ∨ hi ≤ r2 := by
    intro lo hi h1 h2 r2 hr2
    obtain rfl : r = r2 := Option.some.inj hr2
    rcases hat with h | h
    · exact h2 r h
    · omega
  refine ⟨by simp [hlen], _, hown, fun i hil => ?_⟩
  simp at hil
  by_cases hlt : i < es.length
  · rw [List.getElem_append_left hlt]
    obtain ⟨lo', hi', vk', vn', vf', vs', A2', m', c', q1, q2, q3, q5, q6⟩ := hx i hlt
    refine ⟨lo', hi', vk', vn', vf', vs', A2', m', c', q1, q2.keep fun b o hb1 hb2 => ?_, Nat.le_trans q3 hgrow.size, key q3 q5, fun j hj => (List.getElem?_append_left (by omega)).trans (q6 j hj)⟩
    exact World.cell?_of_block (a := ⟨b, o, none⟩) (hgrow.block b (by omega) (fun e => by have := q5 b e.symm; omega))
  · obtain rfl : i = es.length := by omega
    rw [List.getElem_append_right (Nat.le_refl _)]
    simp only [Nat.sub_self, List.getElem_cons_zero]
    refine ⟨lo, hi, vk, vn, vf, vs, A', m, c, hf, hv.keep fun b o hb1 hb2 => ?_, Nat.le_trans hz hgrow.size, key hz hrr, fun j hj => ?_⟩
    · exact World.cell?_of_block (a := ⟨b, o, none⟩) (hgrow.block b (by omega) (fun e => by have := hrr b e.symm; omega))
    · rw [List.getElem?_append_right (by omega), hlx, hlen, Nat.add_sub_cancel_left, Array.getElem?_toList]

theorem ERow.read {w : World} {base : Nat} {A : Option Addr} {cap n : Nat} {es : List EV} (h : ERow w base A cap n es) : EvsIn w A cap es := by
  obtain ⟨rfl, xs, h1, h3⟩ := h
  rcases h1.2 with ⟨hv, h0⟩ | ⟨r, cp, cur, q1, q2, q3, q4, q5, q6, q7⟩
  · injection hv with hA hn hc
    exact ⟨by omega, by rw [hc]; exact Nat.zero_le _, fun hp => absurd hp (by omega)⟩
  · injection q1 with hA hn hc
    subst hc
    refine ⟨q4, q5, fun hp => ⟨r, 0, hA, (Array.getElem?_eq_some_iff.1 q3).1, fun i hi => ?_⟩⟩
    obtain ⟨lo, hi', vk, vn, vf, vs, A', m, c, h1, h2, h5, -, h6⟩ := h3 i hi
    refine ⟨lo, hi', vk, vn, vf, vs, A', m, c, h1, h2, h5, fun q hq => ?_⟩
    rw [← h6 q hq, ← q7, List.getElem?_take_of_lt (by omega), Array.getElem?_toList]
    simp [World.cell?, q3]

/-- A batch in a box. -/
def BB (w : World) (g : Nat) (f : ByteArray) (at' : Nat) (A : Option Addr) (n c : Nat) : Prop := w.heap[g]? = some (.cells #[.string f, .int .u64 at', .slice A n c] 25 (0, 0))
theorem BB.cells {w : World} {g : Nat} {f : ByteArray} {at' : Nat} {A : Option Addr} {n c : Nat} (h : BB w g f at' A n c) :
    w.cell? ⟨g, 0, none⟩ = some (.string f) ∧ w.cell? ⟨g, 1, none⟩ = some (.int .u64 at') ∧ w.cell? ⟨g, 2, none⟩ = some (.slice A n c) ∧ ∀ o, w.frozen? ⟨g, o, none⟩ = false := by
  unfold BB at h; simp [World.cell?, World.frozen?, h]
theorem BB.later {w w' : World} {g B : Nat} {f : ByteArray} {at' : Nat} {A : Option Addr} {n c : Nat} (h : BB w g f at' A n c) (hb : Below B w w') (hg : g < B) : BB w' g f at' A n c := (hb.block g hg).trans h
theorem BB.lt {w : World} {g : Nat} {f : ByteArray} {at' : Nat} {A : Option Addr} {n c : Nat} (h : BB w g f at' A n c) : g < w.heap.size := (Array.getElem?_eq_some_iff.1 h).1
theorem BB.new (w : World) (f : ByteArray) (at' : Nat) (A : Option Addr) (n c : Nat) : BB (w.alloc (.cells #[.string f, .int .u64 at', .slice A n c] 25)) w.heap.size f at' A n c := heap_alloc_new w _
theorem BB.set {w : World} {g : Nat} {f : ByteArray} {at' : Nat} {A A2 : Option Addr} {n c n2 c2 : Nat} (h : BB w g f at' A n c) : BB (w.setCell ⟨g, 2, none⟩ (.slice A2 n2 c2)) g f at' A2 n2 c2 := by
  unfold BB at h ⊢; simp [World.setCell, Array.getElem?_modify, h]
theorem BB.far {w : World} {g b o : Nat} {f : ByteArray} {at' : Nat} {A : Option Addr} {n c : Nat} (h : BB w g f at' A n c) (hb : b ≠ g) (v : Value) : BB (w.setCell ⟨b, o, none⟩ v) g f at' A n c :=
  (Below.heap_setCell w ⟨b, o, none⟩ v g (fun e => hb e.symm)).trans h

/-- Does an event come from outside? -/
def outsideE (e : EV) : Bool := decide (1 ≤ e.k ∧ e.k ≤ 6)
def cmds (es : List EV) : List EV := es.filter (fun e => !outsideE e)
theorem cmds_le (es : List EV) : (cmds es).length ≤ es.length := List.length_filter_le ..
theorem cmds_take_yes {es : List EV} {j : Nat} (h : j < es.length) (ho : outsideE es[j] = true) : cmds (es.take (j + 1)) = cmds (es.take j) := by
  unfold cmds; rw [List.take_succ_eq_append_getElem h, List.filter_append]; simp [ho]
theorem cmds_take_no {es : List EV} {j : Nat} (h : j < es.length) (ho : outsideE es[j] = false) : cmds (es.take (j + 1)) = cmds (es.take j) ++ [es[j]] := by
  unfold cmds; rw [List.take_succ_eq_append_getElem h, List.filter_append]; simp [ho]

theorem ev_one (e : EV) (vk vn : Int) (vf : Nat) (vs : ByteArray) (A : Option Addr) (m c : Nat) : ∀ u ∈ (evCells e vk vn vf vs A m c).toList, u.oneCell' = true := Cm.ev_one e vk vn vf vs A m c

set_option maxRecDepth 100000 in
set_option maxHeartbeats 2000000 in
theorem rcmds_any (es : List EV) (hl40 : es.length ≤ 1099511627775) (f : ByteArray) (at' : Nat) (A : Option Addr) (cap : Nat) (w : World) (h : EvsIn w A cap es) :
    Calls Try.prog 11 #[.agg #[.string f, .int .u64 at', .slice A es.length cap]] w fun r w' => ∃ A2 cap2 n, r = .returned (.slice A2 n cap2) ∧ Below w.heap.size w w' ∧ ERow w' w.heap.size A2 cap2 n (cmds es) := by
  have hl := h.le
  have hc := h.cap_le
  simp only [maxLen] at hc
  obtain ⟨i0, hi0, hz0, hz1, hz2⟩ := info_parts Cm.Try.infoE
  have HK := Lib.hid h; clear h
  obtain ⟨W0, hW0⟩ : ∃ W0, W0 = w.alloc (.cells #[.string f, .int .u64 at', .slice A es.length cap] 25) := ⟨_, rfl⟩
  have HB0 : Hid (Below w.heap.size w W0) := Lib.hid (by rw [hW0]; exact (Below.refl _ _).alloc (Nat.le_refl _) _)
  have HX0 : Hid (BB W0 w.heap.size f at' A es.length cap) := Lib.hid (by rw [hW0]; exact BB.new ..)
  replace hW0 := Lib.hid hW0
  go_enter Try.func11, Try.ntmps11
  go_upto_region 1 with fail
  rw [← hW0.out]
  go_wp2_with fail
  go_loopw [3, 4] (fun out i wr => ∃ (j : Nat) (A2 : Option Addr) (cap2 n : Nat), j ≤ es.length ∧ i = .int .i64 j ∧ out = .slice A2 n cap2 ∧ n ≤ j ∧ ERow wr (w.heap.size + 1) A2 cap2 n (cmds (es.take j)) ∧ BB wr w.heap.size f at' A es.length cap ∧ Below w.heap.size w wr) (fun _ i _ => es.length - (intOf i).toNat)
  case atStart => exact ⟨0, none, 0, 0, by omega, rfl, rfl, by omega, by simpa [cmds] using erow_nil W0 _, HX0.out, HB0.out⟩
  case round =>
    obtain ⟨j, A2, cap2, n, hj, rfl, rfl, hnj, hrow, hbx, hb⟩ := hrel
    have hxl := hbx.lt
    obtain ⟨x0, x1, x2, -⟩ := hbx.cells
    have HBX := Lib.hid hbx; have HB := Lib.hid hb
    clear hbx hb
    by_cases hlt : j < es.length
    · obtain ⟨b, off, lo, hi, vk, vn, vf, vs, A', m, c, rfl, hbl, hf, hv0, hhi0, e0, e1, e2, e3, e4, e5, e6, e7, e8, e9, e10⟩ := HK.out.get j hlt
      have hcw : ∀ o, wr.cell? ⟨b, o, none⟩ = w.cell? ⟨b, o, none⟩ := fun o => HB.out.cell (p := ⟨b, o, none⟩) hbl
      have d0 := (hcw _).trans e0; have d1 := (hcw _).trans e1; have d2 := (hcw _).trans e2; have d3 := (hcw _).trans e3; have d4 := (hcw _).trans e4; have d5 := (hcw _).trans e5; have d6 := (hcw _).trans e6; have d7 := (hcw _).trans e7; have d8 := (hcw _).trans e8; have d9 := (hcw _).trans e9; have d10 := (hcw _).trans e10
      have hv := hv0.later (HB.out.mono hhi0)
      have hhi : hi ≤ wr.heap.size := Nat.le_trans hhi0 HB.out.size
      clear e0 e1 e2 e3 e4 e5 e6 e7 e8 e9 e10 hcw hv0
      have HV := Lib.hid hv; have HF := Lib.hid hf; have HROW := Lib.hid hrow
      clear hv hf hrow
      cases ho : outsideE es[j] with
      | true =>
        have HO := Lib.hid ho
        have h2 : 1 ≤ es[j].k ∧ es[j].k ≤ 6 := by simpa [outsideE] using ho
        have g1 : decide (es[j].k < 1) = false := by simp; omega
        have g2 : decide (es[j].k > 6) = false := by simp; omega
        have g3 : decide (6 < es[j].k) = false := by simp; omega
        clear ho h2
        go_wp2_with fail
        exact ⟨⟨j + 1, A2, cap2, n, by omega, by go_num, rfl, by omega, by rw [cmds_take_yes hlt HO.out]; exact HROW.out, HBX.out, HB.out⟩, by simp [intOf]; omega⟩
      | false =>
        have HO := Lib.hid ho
        have h2 : es[j].k < 1 ∨ 6 < es[j].k := by
          have : ¬ (1 ≤ es[j].k ∧ es[j].k ≤ 6) := by simpa [outsideE] using ho
          omega
        clear ho
        obtain ⟨W4, hW4⟩ : ∃ W4, W4 = wr.alloc (.cells (evCells es[j] vk vn vf vs A' m c) 35) := ⟨_, rfl⟩
        have K1 : Hid (Below wr.heap.size wr W4) := Lib.hid (by rw [hW4]; exact (Below.refl _ _).alloc (Nat.le_refl _) _)
        have K2 : Hid (∀ q u, (evCells es[j] vk vn vf vs A' m c).toList[q]? = some u → W4.cell? ((⟨wr.heap.size, 0, none⟩ : Addr).add q) = some u) := Lib.hid (World.news_of_block (t := 35) (fr := (0, 0)) (by rw [hW4]; exact heap_alloc_new wr _))
        have hz4 : W4.heap.size = wr.heap.size + 1 := by rw [hW4]; simp
        obtain ⟨hlen, xs, hxo, hxe⟩ := HROW.out
        have hlx := hxo.1
        have KO := Lib.hid (own_keep hxo K1.out)
        have HXE := Lib.hid hxe
        have HRO := Lib.hid (own_lt hxo)
        clear hxe hxo
        have HFIN : Hid (∀ r2 cap4 w5, w5.ownsRow (w.heap.size + 1) 35 11 (.slice (some ⟨r2, 0, none⟩) (n + 1) cap4) (n + 1) (xs ++ (evCells es[j] vk vn vf vs A' m c).toList) → W4.grownBy w5 (rowOf A2) → (rowOf A2 = some r2 ∨ r2 = W4.heap.size) →
            ERow w5 (w.heap.size + 1) (some ⟨r2, 0, none⟩) cap4 (n + 1) (cmds (es.take (j + 1))) ∧ BB w5 w.heap.size f at' (some ⟨b, off, none⟩) es.length cap ∧ Below w.heap.size w w5) := Lib.hid fun r2 cap4 w5 hown5 hgrow5 hat5 => by
          have hb5 : Below (w.heap.size + 1) wr w5 := (K1.out.mono (by omega)).trans ⟨hgrow5.os, hgrow5.tape, hgrow5.output, hgrow5.size, fun b hb => hgrow5.block b (by have := K1.out.size; omega) (fun e => by have := (HRO.out b e.symm).2; omega)⟩
          refine ⟨?_, HBX.out.later hb5 (Nat.lt_succ_self _), HB.out.trans (hb5.mono (Nat.le_succ _))⟩
          rw [cmds_take_no hlt HO.out]
          exact ERow.push (cap := 0) (lo := lo) (hi := hi) hlen hlx (fun i h => (HXE.out i h).keep K1.out.size (fun b hb _ => K1.out.block b hb)) HF.out (HV.out.later (K1.out.mono hhi)) (by omega) (fun r' hr' => .inr (by have := (HRO.out r' hr').2; omega)) hown5 hgrow5 hat5 (Nat.le_refl _)
        unfold evCells at hW4
        replace hW4 := Lib.hid hW4
        have hin6 : W4.heap.size = wr.heap.size + 1 := hz4
        have hb4 : w.heap.size + 1 ≤ W4.heap.size := by have := HB.out.size; omega
        rcases h2 with h2 | h2
        · have g1 : decide (es[j].k < 1) = true := by simpa using h2
          go_wp2_with (at_builtin; rw [← hW4.out]; refine wpList_append_lies _ rfl _ _ 23 rfl (w.heap.size + 1) 35 i0 _ 11 128 Try.underlying23 hi0 hz0 hz1 hz2 rfl (by decide) (.slice A2 n cap2) n xs rfl KO.out ⟨wr.heap.size, 0, none⟩ 1 1 (evCells es[j] vk vn vf vs A' m c).toList rfl rfl K2.out (ev_one _ _ _ _ _ _ _ _) (by decide) (by simp only [maxLen]; omega) (by omega) hb4 _ rfl ?_; intro r2 cap4 w5 hown5 hgrow5 hat5 hrl5)
          rw [Cm.rowOf_own] at hgrow5 hat5
          obtain ⟨z1, z2, z3⟩ := HFIN.out r2 cap4 w5 hown5 hgrow5 hat5
          clear hown5 hgrow5 hat5
          exact ⟨⟨j + 1, _, cap4, n + 1, by omega, by go_num, rfl, by omega, z1, z2, z3⟩, by simp [intOf]; omega⟩
        · have g1 : decide (es[j].k < 1) = false := by simp; omega
          have g2 : decide (6 < es[j].k) = true := by simpa using h2
          go_wp2_with (at_builtin; rw [← hW4.out]; refine wpList_append_lies _ rfl _ _ 23 rfl (w.heap.size + 1) 35 i0 _ 11 128 Try.underlying23 hi0 hz0 hz1 hz2 rfl (by decide) (.slice A2 n cap2) n xs rfl KO.out ⟨wr.heap.size, 0, none⟩ 1 1 (evCells es[j] vk vn vf vs A' m c).toList rfl rfl K2.out (ev_one _ _ _ _ _ _ _ _) (by decide) (by simp only [maxLen]; omega) (by omega) hb4 _ rfl ?_; intro r2 cap4 w5 hown5 hgrow5 hat5 hrl5)
          rw [Cm.rowOf_own] at hgrow5 hat5
          obtain ⟨z1, z2, z3⟩ := HFIN.out r2 cap4 w5 hown5 hgrow5 hat5
          clear hown5 hgrow5 hat5
          exact ⟨⟨j + 1, _, cap4, n + 1, by omega, by go_num, rfl, by omega, z1, z2, z3⟩, by simp [intOf]; omega⟩
    · have hj' : j = es.length := by omega
      subst hj'
      rw [List.take_length] at hrow
      have HROW := Lib.hid hrow
      clear hrow
      go_wp2_with fail
      go_ret
      obtain ⟨q0, xs, q1, q2⟩ := HROW.out
      refine ⟨A2, cap2, n, rfl, HB.out, q0, xs, ⟨q1.1, ?_⟩, q2⟩
      rcases q1.2 with h | ⟨r, cp, cur, z1, z2, z3⟩
      · exact .inl h
      · exact .inr ⟨r, cp, cur, z1, by omega, z3⟩
end Cn
end Go.Proofs.Ytpneejlilgepfaa
