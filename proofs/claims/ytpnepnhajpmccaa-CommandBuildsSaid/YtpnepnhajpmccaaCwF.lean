/- Contract of the builder's Events. -/
import Derived.Test.YtpnepnhajpmccaaCwE
import Derived.Test.YtpnepnhajpmccaaVtK
namespace Go.Proofs.Ytpnepnhajpmccaa
open Go.RowKit
set_option linter.unusedVariables false
namespace Cm
variable {X : Nat → Prop}
open Nm (ret_int ret_bool)
open Vt (VT Rep BoxAt below_drew Cloned put5)
open Ev (EV FieldsOk evCells vCells EBox ERep zeroT)

/-- Element i of a row of events that own their memory behind base. -/
def EvNew (w : World) (base : Nat) (ro : Option Nat) (xs : List Value) (i : Nat) (e : EV) : Prop := ∃ lo hi vk vn vf vs A m c, base ≤ lo ∧ FieldsOk e ∧ Rep w lo hi e.v (vCells vk vn vf vs A m c) ∧ hi ≤ w.heap.size ∧ (∀ r, ro = some r → r < lo ∨ hi ≤ r) ∧ (0 < e.v.l.length → ∀ b off, A = some ⟨b, off, none⟩ → ∀ o, w.frozen? ⟨b, o, none⟩ = false) ∧
  ∀ j, j < 11 → xs[i * 11 + j]? = (evCells e vk vn vf vs A m c)[j]?
def EvsAt (w : World) (base : Nat) (A : Option Addr) (cap n : Nat) (es : List EV) : Prop := es.length = n ∧ ∃ xs, w.ownsRow base 45 11 (.slice A n cap) n xs ∧ ∀ i (h : i < es.length), EvNew w base (rowOf A) xs i es[i]

theorem frozen_of_block {w w' : World} {b : Nat} (h : w'.heap[b]? = w.heap[b]?) (o : Nat) : w'.frozen? ⟨b, o, none⟩ = w.frozen? ⟨b, o, none⟩ := by simp [World.frozen?, h]

/-- Where the list of a value lies. -/
theorem rep_row {w : World} {lo hi : Nat} {t : VT} {vk vn : Int} {vf : Nat} {vs : ByteArray} {A : Option Addr} {m c : Nat} (h : Rep w lo hi t (vCells vk vn vf vs A m c)) : 0 < t.l.length → ∀ b off, A = some ⟨b, off, none⟩ → lo ≤ b ∧ b < hi := by
  intro hp b off hA
  obtain ⟨k, n, f, s, l, A', cap, rfl, hv, -, -, hk⟩ := h.open_
  injection hv with hv
  simp at hv
  obtain ⟨-, -, -, -, rfl, -, -⟩ := hv
  obtain ⟨b', off', hA', h1, h2, -⟩ := hk.at_ hp
  rw [hA] at hA'
  injection hA' with hA'
  injection hA' with hb _ _
  subst hb
  exact ⟨h1, h2⟩

theorem EvNew.keep {w w' : World} {base : Nat} {ro : Option Nat} {xs : List Value} {i : Nat} {e : EV} (h : EvNew w base ro xs i e) (hz : w.heap.size ≤ w'.heap.size) (ho : ∀ b, b < w.heap.size → some b ≠ ro → w'.heap[b]? = w.heap[b]?) : EvNew w' base ro xs i e := by
  obtain ⟨lo, hi, vk, vn, vf, vs, A, m, c, h0, h1, h2, h3, h5, hfr, h6⟩ := h
  have hin := rep_row h2
  refine ⟨lo, hi, vk, vn, vf, vs, A, m, c, h0, h1, h2.keep fun b o hb1 hb2 => ?_, Nat.le_trans h3 hz, h5, fun hp b off hA o => ?_, h6⟩
  · exact World.cell?_of_block (a := ⟨b, o, none⟩) (ho b (by omega) (fun e => by have := h5 b e.symm; omega))
  · obtain ⟨q1, q2⟩ := hin hp b off hA
    exact (frozen_of_block (ho b (by omega) (fun e => by have := h5 b e.symm; omega)) o).trans (hfr hp b off hA o)

theorem EvsAt.later {w w' : World} {base : Nat} {A : Option Addr} {cap n : Nat} {es : List EV} (h : EvsAt w base A cap n es) (hb : Below w.heap.size w w') : EvsAt w' base A cap n es := by
  obtain ⟨h0, xs, h1, h3⟩ := h
  refine ⟨h0, xs, ⟨h1.1, ?_⟩, fun i hi => (h3 i hi).keep hb.size (fun b hlt _ => hb.block b hlt)⟩
  rcases h1.2 with h | ⟨r, cp, cur, q1, q2, q3, q4⟩
  · exact .inl h
  · exact .inr ⟨r, cp, cur, q1, q2, (hb.block r (Array.getElem?_eq_some_iff.1 q3).1).trans q3, q4⟩

theorem EvsAt.push {W w' : World} {base r H : Nat} {A : Option Addr} {cap cap' n : Nat} {es : List EV} {e : EV} {xs : List Value} {lo hi : Nat} {vk vn : Int} {vf : Nat} {vs : ByteArray} {A' : Option Addr} {m c : Nat}
    (hlen : es.length = n) (hlx : xs.length = n * 11) (hx : ∀ i (h : i < es.length), EvNew W base (rowOf A) xs i es[i]) (hbl : base ≤ lo) (hf : FieldsOk e) (hv : Rep W lo hi e.v (vCells vk vn vf vs A' m c)) (hz : hi ≤ W.heap.size) (hrr : ∀ r, rowOf A = some r → r < lo ∨ hi ≤ r) (hfr : 0 < e.v.l.length → ∀ b off, A' = some ⟨b, off, none⟩ → ∀ o, W.frozen? ⟨b, o, none⟩ = false)
    (hown : w'.ownsRow base 45 11 (.slice (some ⟨r, 0, none⟩) (n + 1) cap') (n + 1) (xs ++ (evCells e vk vn vf vs A' m c).toList)) (hgrow : W.grownBy w' (rowOf A)) (hat : rowOf A = some r ∨ r = H) (hH : W.heap.size ≤ H) :
    EvsAt w' base (some ⟨r, 0, none⟩) cap' (n + 1) (es ++ [e]) := by
  have key : ∀ {lo hi : Nat}, hi ≤ W.heap.size → (∀ r, rowOf A = some r → r < lo ∨ hi ≤ r) → ∀ r2, rowOf (some ⟨r, 0, none⟩) = some r2 → r2 < lo ∨ hi ≤ r2 := by
    intro lo hi h1 h2 r2 hr2
    obtain rfl : r = r2 := Option.some.inj hr2
    rcases hat with h | h
    · exact h2 r h
    · omega
  refine ⟨by simp [hlen], _, hown, fun i hil => ?_⟩
  simp at hil
  by_cases hlt : i < es.length
  · rw [List.getElem_append_left hlt]
    obtain ⟨lo', hi', vk', vn', vf', vs', A2', m', c', q0, q1, q2, q3, q5, qf, q6⟩ := hx i hlt
    have hin := rep_row q2
    refine ⟨lo', hi', vk', vn', vf', vs', A2', m', c', q0, q1, q2.keep fun b o hb1 hb2 => ?_, Nat.le_trans q3 hgrow.size, key q3 q5, fun hp b off hA o => ?_, fun j hj => (List.getElem?_append_left (by omega)).trans (q6 j hj)⟩
    rotate_left 1
    · obtain ⟨z1, z2⟩ := hin hp b off hA
      exact (frozen_of_block (hgrow.block b (by omega) (fun e => by have := q5 b e.symm; omega)) o).trans (qf hp b off hA o)
    exact World.cell?_of_block (a := ⟨b, o, none⟩) (hgrow.block b (by omega) (fun e => by have := q5 b e.symm; omega))
  · obtain rfl : i = es.length := by omega
    rw [List.getElem_append_right (Nat.le_refl _)]
    simp only [Nat.sub_self, List.getElem_cons_zero]
    have hin := rep_row hv
    refine ⟨lo, hi, vk, vn, vf, vs, A', m, c, hbl, hf, hv.keep fun b o hb1 hb2 => ?_, Nat.le_trans hz hgrow.size, key hz hrr, fun hp b off hA o => ?_, fun j hj => ?_⟩
    · exact World.cell?_of_block (a := ⟨b, o, none⟩) (hgrow.block b (by omega) (fun e => by have := hrr b e.symm; omega))
    · obtain ⟨z1, z2⟩ := hin hp b off hA
      exact (frozen_of_block (hgrow.block b (by omega) (fun e => by have := hrr b e.symm; omega)) o).trans (hfr hp b off hA o)
    · rw [List.getElem?_append_right (by omega), hlx, hlen, Nat.add_sub_cancel_left, Array.getElem?_toList]

/-- The cells of element j of a builder's row. -/
theorem rows_cells {w : World} {base g : Nat} {A : Option Addr} {cap : Nat} {es : List EV} (h : RowsAt X w base g A cap es) (j : Nat) (hj : j < es.length) :
    ∃ r lo hi vk vn vf vs A' m c, A = some ⟨r, 0, none⟩ ∧ r < w.heap.size ∧ FieldsOk es[j] ∧ Rep w lo hi es[j].v (vCells vk vn vf vs A' m c) ∧ hi ≤ w.heap.size ∧ es.length ≤ cap ∧ cap ≤ maxLen ∧ ∀ q, q < 11 → w.cell? ⟨r, j * 11 + q, none⟩ = (evCells es[j] vk vn vf vs A' m c)[q]? := by
  obtain ⟨xs, h1, h2, h3⟩ := h
  obtain ⟨lo, hi, vk, vn, vf, vs, A', m, c, p1, p2, p3, p4, p5, p6⟩ := h3 j hj
  rcases h1.2 with ⟨-, h0⟩ | ⟨r, cp, cur, q1, q2, q3, q4, q5, q6, q7⟩
  · omega
  · injection q1 with q1 _ q1'
    subst q1'
    refine ⟨r, lo, hi, vk, vn, vf, vs, A', m, c, q1, (Array.getElem?_eq_some_iff.1 q3).1, p1, p2, p3, q4, q5, fun q hq => ?_⟩
    rw [← p6 q hq, ← q7, List.getElem?_take_of_lt (by omega), Array.getElem?_toList]
    simp [World.cell?, q3]

theorem ev_one (e : EV) (vk vn : Int) (vf : Nat) (vs : ByteArray) (A : Option Addr) (m c : Nat) : ∀ u ∈ (evCells e vk vn vf vs A m c).toList, u.oneCell' = true := by
  intro u hu
  simp [evCells] at hu
  rcases hu with rfl | rfl | rfl | rfl | rfl | rfl | rfl | rfl | rfl | rfl | rfl <;> rfl

theorem evs_nil (w : World) (base : Nat) : EvsAt w base none 0 0 [] := ⟨rfl, [], ⟨rfl, .inl ⟨rfl, rfl⟩⟩, fun i h => absurd h (by simp)⟩

theorem events_nil (w : World) : Calls Try.prog 15 #[.pointer none] w fun r w' => r = .returned (.slice none 0 0) ∧ w' = w := by
  go_enter Try.func15, Try.ntmps15
  go_wp2_with fail
  go_ret
  exact ⟨rfl, rfl⟩

set_option maxRecDepth 100000 in
set_option maxHeartbeats 400000 in
theorem events_walk (base g : Nat) (A : Option Addr) (cap : Nat) (es : List EV) (closed : Int) (next at' : Nat) (w : World) (hb : BAt X w base g A cap es closed next at') (hl : es.length ≤ 1000000) (hS : ∀ i (h : i < es.length), es[i].v.Slim 900) :
    Calls Try.prog 15 #[.pointer (some ⟨g, 0, none⟩)] w fun r w' => ∃ A2 cap2, r = .returned (.slice A2 es.length cap2) ∧ Below w.heap.size w w' ∧ EvsAt w' w.heap.size A2 cap2 es.length es := by
  obtain ⟨c0, c1, c2, c3, cf⟩ := hb.cells
  have hlt := hb.lt
  have HR := Lib.hid hb.rows
  obtain ⟨i0, hi0, hz0, hz1, hz2⟩ := info_parts Try.infoE
  have HS := Lib.hid hS
  have hl0 : 0 ≤ (es.length : Int) := by omega
  clear cf hb hS
  go_enter Try.func15, Try.ntmps15
  go_wp2_with fail
  go_loopw [3, 14] (fun out i wr => ∃ (j : Nat) (A2 : Option Addr) (cap2 : Nat), j ≤ es.length ∧ i = .int .i64 j ∧ out = .slice A2 j cap2 ∧ EvsAt wr w.heap.size A2 cap2 j (es.take j) ∧ Below w.heap.size w wr) (fun _ i _ => es.length - (intOf i).toNat)
  case atStart => exact ⟨0, none, 0, by omega, rfl, rfl, by simpa using evs_nil w w.heap.size, Below.refl _ _⟩
  case round =>
    obtain ⟨j, A2, cap2, hj, rfl, rfl, hevs, hb⟩ := hrel
    by_cases hjl : j < es.length
    · obtain ⟨r, lo, hi, vk, vn, vf, vs, A', m, c, hA, hrl, hf, hv, hhi, hcap, hcm, hcs⟩ := rows_cells (HR.out.later hb) j hjl
      subst hA
      have s0 := hcs 0 (by omega); have s1 := hcs 1 (by omega); have s2 := hcs 2 (by omega); have s3 := hcs 3 (by omega); have s4 := hcs 4 (by omega); have s5 := hcs 5 (by omega)
      have s6 := hcs 6 (by omega); have s7 := hcs 7 (by omega); have s8 := hcs 8 (by omega); have s9 := hcs 9 (by omega); have s10 := hcs 10 (by omega)
      simp [evCells] at s0 s1 s2 s3 s4 s5 s6 s7 s8 s9 s10
      have HC := Lib.hid fun W (hW : Below wr.heap.size wr W) => Vt.clone_any es[j].v W lo hi _ (hv.later (hW.mono hhi)) (Nat.le_trans hhi hW.size) (HS.out j hjl)
      have HB0 := Lib.hid fun Z => (Below.refl wr.heap.size wr).alloc (Nat.le_refl _) Z
      unfold vCells at HC
      have HB := Lib.hid hb; have HF := Lib.hid hf
      have hbs := hb.size
      obtain ⟨hlen, xs, hxo, hxe⟩ := hevs
      have hlx := hxo.1
      have HOWN : Hid (∀ W, Below wr.heap.size wr W → W.ownsRow w.heap.size 45 11 (.slice A2 j cap2) j xs) := Lib.hid fun W hW => ⟨hxo.1, by
        rcases hxo.2 with h | ⟨r, cp, cur, q1, q2, q3, q4⟩
        · exact .inl h
        · exact .inr ⟨r, cp, cur, q1, q2, (hW.block r (Array.getElem?_eq_some_iff.1 q3).1).trans q3, q4⟩⟩
      have HRO : Hid (∀ r, rowOf A2 = some r → r < wr.heap.size ∧ w.heap.size ≤ r) := Lib.hid fun r hr => by
        rcases hxo.2 with ⟨h2, -⟩ | ⟨r', cp, cur, q1, q0, q3, -⟩
        · rw [← rowOf_own A2 j cap2, h2] at hr; cases hr
        · rw [← rowOf_own A2 j cap2, q1] at hr
          obtain rfl : r' = r := Option.some.inj hr
          exact ⟨(Array.getElem?_eq_some_iff.1 q3).1, q0⟩
      have HXE := Lib.hid hxe
      have HBX : Hid (∀ W Z', Below (wr.alloc Z').heap.size (wr.alloc Z') W → Z' = .cells (evCells es[j] vk vn vf vs A' m c) 45 → Ev.EBox W wr.heap.size (evCells es[j] vk vn vf vs A' m c)) := Lib.hid fun W Z' hW hZ => by
        subst hZ
        exact Ev.EBox.later (w := (wr.alloc (.cells (evCells es[j] vk vn vf vs A' m c) 45))) (heap_alloc_new wr _) hW (by simp)
      unfold evCells at HBX
      clear hxe hxo hb hcs hv hf
      go_wp2_with fail
      refine (HC.out _ (HB0.out _)).mono ?_
      rintro x w2 ⟨k, n, f, s', l, A3, cap3, ht, rfl, hr, hb2, hfr3⟩
      have hin := rep_row (t := es[j].v) (vk := k) (vn := n) (vf := f) (vs := s') (A := A3) (m := l.length) (c := cap3) hr
      rw [show l = es[j].v.l from by rw [ht]] at hfr3
      have hbx := HBX.out w2 _ hb2 rfl
      obtain ⟨q0, q1, q2, q3, q4, q5, q6, q7, q8, q9, q10⟩ := hbx.cells
      have hfz : ∀ o, w2.frozen? ⟨wr.heap.size, o, none⟩ = false := fun o => by unfold Ev.EBox at hbx; simp [World.frozen?, hbx]
      have z6 := hfz 6; have z7 := hfz 7; have z8 := hfz 8; have z9 := hfz 9; have z10 := hfz 10
      have hlt2 := hbx.lt
      have HB2 := Lib.hid ((HB0.out _).trans (hb2.mono (HB0.out _).size))
      have K4 : ∃ W4, W4 = (put5 w2 wr.heap.size 6 (.int .i64 k) (.int .i64 n) (.float .f64 f) (.string s') (.slice A3 l.length cap3)).alloc (.cells (evCells es[j] k n f s' A3 l.length cap3) 45) ∧
          Hid (Below wr.heap.size wr W4) ∧ Hid (∀ q u, (evCells es[j] k n f s' A3 l.length cap3).toList[q]? = some u → W4.cell? ((⟨w2.heap.size, 0, none⟩ : Addr).add q) = some u) ∧
          Hid (Rep W4 (wr.heap.size + 1) w2.heap.size es[j].v (.agg #[.int .i64 k, .int .i64 n, .float .f64 f, .string s', .slice A3 l.length cap3])) ∧ Hid (0 < es[j].v.l.length → ∀ b off, A3 = some ⟨b, off, none⟩ → ∀ o, W4.frozen? ⟨b, o, none⟩ = false) ∧ W4.heap.size = w2.heap.size + 1 := by
        refine ⟨_, rfl, Lib.hid ((Vt.put5_below HB2.out (Nat.le_refl _)).alloc (by rw [Vt.put5_size]; omega) _), Lib.hid (World.news_of_block (t := 45) (fr := (0, 0)) ?_), Lib.hid ?_, Lib.hid ?_, by rw [World.size_alloc, Vt.put5_size]⟩
        · have := heap_alloc_new (put5 w2 wr.heap.size 6 (.int .i64 k) (.int .i64 n) (.float .f64 f) (.string s') (.slice A3 l.length cap3)) (.cells (evCells es[j] k n f s' A3 l.length cap3) 45)
          rwa [Vt.put5_size] at this
        · rw [World.size_alloc] at hr
          refine (hr.keep fun b o hb1 hb2 => ?_).alloc (by rw [Vt.put5_size]; exact Nat.le_refl _) _
          exact Vt.put5_cell _ _ _ _ _ _ _ _ _ _ (by omega)
        · intro hp b off hA o
          obtain ⟨z1, z2⟩ := hin hp b off hA
          rw [World.size_alloc] at z1
          refine (frozen_of_block ?_ o).trans (hfr3 hp b off hA o)
          rw [heap_alloc_old _ _ (by rw [Vt.put5_size]; exact z2)]
          exact Vt.put5_other w2 wr.heap.size 6 _ _ _ _ _ b (by omega)
      obtain ⟨W4, hW4, K1, K2, K3, K5, hz4⟩ := K4
      have KO := Lib.hid (HOWN.out _ K1.out)
      have hbs4 := Nat.le_trans hbs K1.out.size
      simp only [put5, Nat.reduceAdd] at hW4
      unfold evCells at hW4
      replace hW4 := Lib.hid hW4
      clear hbx hfz hr hb2 ht hfr3 hin
      go_wp2_with (at_builtin; rw [← hW4.out]; refine wpList_append_lies _ rfl (.tmp 22) (.tmp 24) 28 rfl w.heap.size 45 i0 _ 11 128 Try.underlying28 hi0 hz0 hz1 hz2 rfl (by decide) (.slice A2 j cap2) j xs rfl KO.out ⟨w2.heap.size, 0, none⟩ 1 1 (evCells es[j] k n f s' A3 l.length cap3).toList rfl rfl K2.out (ev_one _ _ _ _ _ _ _ _) (by decide) (by simp only [maxLen]; omega) (by omega) hbs4 _ rfl ?_; intro r2 cap4 w5 hown5 hgrow5 hat5 hrl5)
      rw [rowOf_own] at hgrow5 hat5
      have HP : Hid (EvsAt w5 w.heap.size (some ⟨r2, 0, none⟩) cap4 (j + 1) (es.take (j + 1))) := Lib.hid (by
        rw [List.take_succ_eq_append_getElem hjl]
        exact EvsAt.push (cap := 0) (H := W4.heap.size) hlen hlx (fun i h => (HXE.out i h).keep K1.out.size (fun b hb _ => K1.out.block b hb)) (by omega) HF.out K3.out (by omega) (fun r hr => .inl (by have := (HRO.out r hr).1; omega)) K5.out hown5 hgrow5 hat5 (Nat.le_refl _))
      have HB5 : Hid (Below w.heap.size w w5) := Lib.hid ((HB.out.trans (K1.out.mono hbs)).trans ⟨hgrow5.os, hgrow5.tape, hgrow5.output, hgrow5.size, fun b hb => hgrow5.block b (by omega) (fun e => by have := (HRO.out b e.symm).2; omega)⟩)
      clear hown5 hgrow5 hat5
      exact ⟨⟨j + 1, _, cap4, by omega, by go_num, rfl, HP.out, HB5.out⟩, by simp [intOf]; omega⟩
    · have hj' : j = es.length := by omega
      subst hj'
      rw [List.take_length] at hevs
      go_wp2_with fail
      go_ret
      exact ⟨A2, cap2, rfl, hb, hevs⟩
end Cm
end Go.Proofs.Ytpnepnhajpmccaa
