/- Contracts: batch.Valid. -/
/- Contracts: slices.DeleteFunc of events; batch.Commands. -/
/- Contracts: slices.DeleteFunc of events; batch.Commands: the walks. -/
/- Events, lists of events and batches that came in, opened. -/
import Derived.Test.YtpneejlilgepfaaGreatDoorMbam
import Derived.Lib.SliceRun
import Derived.Test.YtpneejlilgepfaaGreatDoorMbal
import Derived.ChangeMaps5
import Derived.ChangeArms
import Derived.Deep.Draws
import Derived.ProofKit
import Derived.OpenShut
import Derived.Lib.SmallJoins
import Derived.SizedLaws
namespace Go.Proofs.YtpneejlilgepfaaGreatDoor
open Go.RowKit
set_option linter.unusedVariables false
set_option linter.unusedSimpArgs false
namespace Cn
open Nm (bitsW ret_int ret_bool)
open Vt (VT Rep BoxAt below_drew Cloned put5 KidsAt HeadOk)
open Ev (EV FieldsOk evCells vCells EBox ERep zeroT take_drop cons_drop)
open Cm (rowOf EvsIn EvsAt EvNew evsSame evSame)

def wrongE (e : EV) : Bool := !e.valid
theorem call_wrong (args : Array Value) (w : World) : (callFunc 86 args).run Tryz.prog w = .ok (.enter 86 args) w := by kernel_rfl
theorem asks_wrong (es : List EV) : Asks 86 wrongE es := by
  intro e _ lo hi vk vn vf vs A m c w hf hv hz
  obtain ⟨W0, hW0⟩ : ∃ W0, W0 = w.alloc (.cells (evCells e vk vn vf vs A m c) 43) := ⟨_, rfl⟩
  have hb0 : Below w.heap.size w W0 := by rw [hW0]; exact (Below.refl _ _).alloc (Nat.le_refl _) _
  have hx0 : EBox W0 w.heap.size (evCells e vk vn vf vs A m c) := by rw [hW0]; exact box_ev ..
  have HV := Lib.hid (Ev.evalid_any e W0 lo hi _ ⟨hf, vk, vn, vf, vs, A, m, c, rfl, hv.later (hb0.mono hz)⟩ (Nat.le_trans hz hb0.size))
  obtain ⟨g0, g1, g2, g3, g4, g5, g6, g7, g8, g9, g10⟩ := EBox.cells hx0
  have HB0 := Lib.hid hb0
  clear hv hf hx0 hb0
  unfold evCells at HV hW0 ⊢
  replace hW0 := Lib.hid hW0
  go_enter Tryz.func86, Tryz.ntmps86
  go_upto_region 1 with fail
  rw [← hW0.out]
  go_wp2_with fail
  refine HV.out.mono ?_
  rintro x w1 ⟨rfl, hb1⟩
  have HB1 := Lib.hid (HB0.out.trans (hb1.mono HB0.out.size))
  clear hb1 g0 g1 g2 g3 g4 g5 g6 g7 g8 g9 g10
  go_wp2_with fail
  go_ret
  exact ⟨ret_bool (by simp [wrongE]), HB1.out⟩

theorem found_any {p : EV → Bool} {es : List EV} {i : Int} (h : Found p es i) : decide (0 ≤ i) = es.any p := by
  rcases h with ⟨rfl, h⟩ | ⟨n, rfl, hn, hp, -⟩
  · have : es.any p = false := by
      rw [List.any_eq_false]
      intro e he
      obtain ⟨m, hm, rfl⟩ := List.getElem_of_mem he
      simp [h m hm]
    rw [this]; rfl
  · have : es.any p = true := List.any_eq_true.2 ⟨_, List.getElem_mem hn, hp⟩
    rw [this]; simp

theorem contains_any (g : Nat) (hcall : ∀ args w, (callFunc g args).run Tryz.prog w = .ok (.enter g args) w) (p : EV → Bool) (es : List EV) (hG : Asks g p es) (A : Option Addr) (cap : Nat) (w : World) (h : EvsIn w A cap es) :
    Calls Tryz.prog 85 #[.slice A es.length cap, .func (.func g) #[] #[]] w fun r w' => r = .returned (.bool (es.any p)) ∧ Below w.heap.size w w' := by
  have HI := Lib.hid (ifunc_any g hcall p es hG A cap w h)
  clear h hG
  go_enter Tryz.func85, Tryz.ntmps85
  go_wp2_with fail
  refine HI.out.mono ?_
  rintro x w1 ⟨i, rfl, hfound, hb1⟩
  have HB1 := Lib.hid hb1
  have HF := Lib.hid (found_any hfound)
  clear hb1 hfound
  go_wp2_with fail
  go_ret
  exact ⟨ret_bool (by rw [← HF.out]), HB1.out⟩

/-- Is a batch valid? -/
def bvalid (f : ByteArray) (at' : Nat) (es : List EV) : Bool := !f.toList.isEmpty && decide (f.size ≤ 1000) && decide (at' ≤ 9223372036854775807) && decide (0 < es.length) && !es.any wrongE

set_option maxRecDepth 100000 in
set_option maxHeartbeats 1000000 in
theorem bvalid_any (es : List EV) (f : ByteArray) (hfs : f.size ≤ maxLen) (at' : Nat) (hat : at' < 18446744073709551616) (A : Option Addr) (cap : Nat) (w : World) (h : EvsIn w A cap es) :
    Calls Tryz.prog 31 #[.agg #[.string f, .int .u64 at', .slice A es.length cap]] w fun r w' => r = .returned (.bool (bvalid f at' es)) ∧ Below w.heap.size w w' := by
  simp only [maxLen] at hfs
  have hle := h.le
  have hc := h.cap_le
  simp only [maxLen] at hc
  obtain ⟨W0, hW0⟩ : ∃ W0, W0 = w.alloc (.cells #[.string f, .int .u64 at', .slice A es.length cap] 25) := ⟨_, rfl⟩
  have hx0 : BB W0 w.heap.size f at' A es.length cap := by rw [hW0]; exact heap_alloc_new w _
  have hb0 : Below w.heap.size w W0 := by rw [hW0]; exact (Below.refl _ _).alloc (Nat.le_refl _) _
  have hz0 : W0.heap.size = w.heap.size + 1 := by rw [hW0]; simp
  have HC := Lib.hid (contains_any 86 call_wrong wrongE es (asks_wrong es) A cap W0 (h.later hb0))
  obtain ⟨c0, c1, c2, -⟩ := hx0.cells
  have HX0 := Lib.hid hx0; have HB0 := Lib.hid hb0
  replace hW0 := Lib.hid hW0
  clear h hx0 hb0
  go_enter Tryz.func31, Tryz.ntmps31
  go_upto_region 1 with fail
  rw [← hW0.out]
  go_upto_region 2 with (go_at_call 85; refine HC.out.mono ?_; rintro x w1 ⟨rfl, hb1⟩; have HB1 := Lib.hid hb1; obtain ⟨d0, d1, d2, -⟩ := (HX0.out.later hb1 (by omega)).cells; clear hb1)
  clear c0 c1 c2
  have HBF : Hid (Below w.heap.size w w1) := Lib.hid (HB0.out.trans (HB1.out.mono HB0.out.size))
  generalize ha : es.any wrongE = any at *
  have HA := Lib.hid ha; clear ha
  cases h1 : f.toList.isEmpty with
  | true =>
    have H1 := Lib.hid h1
    go_wp2_with fail
    go_ret
    exact ⟨ret_bool (by unfold bvalid; rw [H1.out]; rfl), HBF.out⟩
  | false =>
    have H1 := Lib.hid h1
    by_cases h2 : f.size ≤ 1000
    · have g2 : decide ((f.size : Int) ≤ 1000) = true := by simp; omega
      by_cases h3 : at' ≤ 9223372036854775807
      · have g3 : decide ((at' : Int) ≤ 9223372036854775807) = true := decide_eq_true (by omega)
        by_cases h4 : 0 < es.length
        · have g4 : decide ((0 : Int) < es.length) = true := decide_eq_true (by omega)
          have HN := Lib.hid (And.intro h2 (And.intro h3 h4))
          clear h2 h3
          cases any with
          | true =>
            go_wp2_with fail
            go_ret
            exact ⟨ret_bool (by unfold bvalid; rw [HA.out]; simp), HBF.out⟩
          | false =>
            go_wp2_with fail
            go_ret
            exact ⟨ret_bool (by obtain ⟨z1, z2, z3⟩ := HN.out; unfold bvalid; rw [HA.out, H1.out, decide_eq_true z1, decide_eq_true z2, decide_eq_true z3]; rfl), HBF.out⟩
        · have g4 : decide ((0 : Int) < es.length) = false := decide_eq_false (by omega)
          have HN := Lib.hid h4
          go_wp2_with fail
          go_ret
          exact ⟨ret_bool (by unfold bvalid; rw [decide_eq_false HN.out]; simp), HBF.out⟩
      · have g3 : decide ((at' : Int) ≤ 9223372036854775807) = false := decide_eq_false (by omega)
        have HN := Lib.hid h3
        clear h3
        go_wp2_with fail
        go_ret
        exact ⟨ret_bool (by unfold bvalid; rw [decide_eq_false HN.out]; simp), HBF.out⟩
    · have g2 : decide ((f.size : Int) ≤ 1000) = false := by simp; omega
      have HN := Lib.hid h2
      go_wp2_with fail
      go_ret
      exact ⟨ret_bool (by unfold bvalid; rw [decide_eq_false HN.out]; simp), HBF.out⟩
end Cn
end Go.Proofs.YtpneejlilgepfaaGreatDoor
namespace Go.Proofs.YtpneejlilgepfaaGreatDoor
open Go.RowKit
set_option linter.unusedVariables false
set_option linter.unusedSimpArgs false
namespace Cn
open Nm (bitsW ret_int ret_bool)
open Vt (VT Rep BoxAt below_drew Cloned put5 KidsAt HeadOk)
open Ev (EV FieldsOk evCells vCells EBox ERep zeroT take_drop cons_drop)
open Cm (rowOf EvsIn EvsAt EvNew evsSame evSame setCells_heap)

/-- A row of events that is being thinned out in place: L at its beginning, R from place j on. -/
structure DRow (w : World) (base r cap : Nat) (L R : List EV) (j : Nat) : Prop where
  ge : base ≤ r
  le : j + R.length ≤ cap
  lj : L.length ≤ j
  cap_le : cap ≤ maxLen
  blk : ∃ cur, w.heap[r]? = some (.cells cur 43 (0, 0)) ∧ cur.size = cap * 11 ∧ (∀ i (h : i < L.length), EvNew w base (some r) cur.toList i L[i]) ∧ ∀ i (h : i < R.length), EvNew w base (some r) cur.toList (j + i) R[i]

theorem DRow.lt {w : World} {base r cap j : Nat} {L R : List EV} (h : DRow w base r cap L R j) : r < w.heap.size := by
  obtain ⟨cur, h1, -⟩ := h.blk
  exact (Array.getElem?_eq_some_iff.1 h1).1
theorem evnew_later {w w' : World} {base : Nat} {ro : Option Nat} {xs : List Value} {i : Nat} {e : EV} (h : EvNew w base ro xs i e) (hb : Below w.heap.size w w') : EvNew w' base ro xs i e := h.keep hb.size (fun b hb' _ => hb.block b hb')
theorem DRow.later {w w' : World} {base r cap j : Nat} {L R : List EV} (h : DRow w base r cap L R j) (hb : Below w.heap.size w w') : DRow w' base r cap L R j := by
  have hl := h.lt
  obtain ⟨h1, h2, h3, h4, cur, h5, h6, h7, h8⟩ := h
  exact ⟨h1, h2, h3, h4, cur, (hb.block r hl).trans h5, h6, fun i hi => evnew_later (h7 i hi) hb, fun i hi => evnew_later (h8 i hi) hb⟩

theorem DRow.start {w : World} {base r cap j : Nat} {es : List EV} (h : EvsAt w base (some ⟨r, 0, none⟩) cap es.length es) (hp : 0 < es.length) (hj : j ≤ es.length) (n : Nat) (hn : n ≤ j) : DRow w base r cap (es.take n) (es.drop j) j := by
  obtain ⟨-, xs, h1, h3⟩ := h
  rcases h1.2 with ⟨h2, -⟩ | ⟨r', cp, cur, q1, q2, q3, q4, q5, q6, q7⟩
  · cases h2
  · injection q1 with q1 _ qc
    injection q1 with q1
    injection q1 with q1
    subst q1 qc
    have hx : ∀ q, q < es.length * 11 → cur.toList[q]? = xs[q]? := fun q hq => by rw [← q7, List.getElem?_take_of_lt hq]
    have key : ∀ i (h : i < es.length), EvNew w base (some r) cur.toList i es[i] := fun i hi => by
      obtain ⟨lo, hi', vk, vn, vf, vs, A, m, c, h0, h1, h2, h3, h5, hfr, h6⟩ := h3 i hi
      exact ⟨lo, hi', vk, vn, vf, vs, A, m, c, h0, h1, h2, h3, h5, hfr, fun q hq => (hx _ (by omega)).trans (h6 q hq)⟩
    refine ⟨q2, by rw [List.length_drop]; omega, by rw [List.length_take]; omega, q5, cur, q3, q6, fun i hi => ?_, fun i hi => ?_⟩
    · rw [List.getElem_take]; exact key i (by rw [List.length_take] at hi; omega)
    · rw [List.getElem_drop]; exact key (j + i) (by rw [List.length_drop] at hi; omega)

/-- The cells of the first event of the rest. -/
theorem DRow.cells {w : World} {base r cap j : Nat} {L R : List EV} (h : DRow w base r cap L R j) (hp : 0 < R.length) : ∃ lo hi vk vn vf vs A m c, base ≤ lo ∧ FieldsOk R[0] ∧ Rep w lo hi R[0].v (vCells vk vn vf vs A m c) ∧ hi ≤ w.heap.size ∧ (r < lo ∨ hi ≤ r) ∧ (0 < R[0].v.l.length → ∀ b off, A = some ⟨b, off, none⟩ → ∀ o, w.frozen? ⟨b, o, none⟩ = false) ∧
    (∀ q, q < 11 → w.cell? ⟨r, j * 11 + q, none⟩ = (evCells R[0] vk vn vf vs A m c)[q]?) ∧ (∀ o, o < cap * 11 → ∃ u, w.cell? ⟨r, o, none⟩ = some u) ∧ ∀ o, w.frozen? ⟨r, o, none⟩ = false := by
  obtain ⟨cur, h1, h2, -, h4⟩ := h.blk
  obtain ⟨lo, hi', vk, vn, vf, vs, A, m, c, k0, k1, k2, k3, k5, kfr, k6⟩ := h4 0 hp
  refine ⟨lo, hi', vk, vn, vf, vs, A, m, c, k0, k1, k2, k3, k5 r rfl, kfr, fun q hq => ?_, fun o ho => ?_, fun o => by simp [World.frozen?, h1]⟩
  · rw [← k6 q hq, Nat.add_zero, Array.getElem?_toList]
    simp [World.cell?, h1]
  · refine ⟨cur[o]'(by omega), ?_⟩
    simp [World.cell?, h1, Array.getElem?_eq_getElem (show o < cur.size by omega)]

theorem setCells_far {r : Nat} : ∀ (vs : List Value) (o : Nat) (w : World), (w.setCells r o vs).heap.size = w.heap.size ∧ ∀ b, b ≠ r → (w.setCells r o vs).heap[b]? = w.heap[b]? := fun vs => by
  induction vs with
  | nil => intro o w; exact ⟨rfl, fun _ _ => rfl⟩
  | cons v vs ih =>
    intro o w
    obtain ⟨h1, h2⟩ := ih (o + 1) (w.setCell ⟨r, o, none⟩ v)
    refine ⟨h1.trans (by simp [World.setCell]), fun b hb => (h2 b hb).trans (Below.heap_setCell w ⟨r, o, none⟩ v b hb)⟩
theorem setCells_behind {r : Nat} {t : TypeId} : ∀ (vs : List Value) (o : Nat) (w : World) (cur : Array Value), w.heap[r]? = some (.cells cur t (0, 0)) → ∃ cur', (w.setCells r o vs).heap[r]? = some (.cells cur' t (0, 0)) ∧ ∀ q, o + vs.length ≤ q → cur'[q]? = cur[q]? := fun vs => by
  induction vs with
  | nil => intro o w cur h; exact ⟨cur, h, fun _ _ => rfl⟩
  | cons v vs ih =>
    intro o w cur h
    have h1 : (w.setCell ⟨r, o, none⟩ v).heap[r]? = some (.cells (cur.setIfInBounds o v) t (0, 0)) := by simp [World.setCell, Array.getElem?_modify, h]
    obtain ⟨cur', z1, z2⟩ := ih (o + 1) _ _ h1
    refine ⟨cur', z1, fun q hq => ?_⟩
    simp only [List.length_cons] at hq
    rw [z2 q (by omega), Array.getElem?_setIfInBounds, if_neg (by omega)]
theorem evnew_set {w : World} {base r o : Nat} {cur cur' : Array Value} {vs : List Value} {i : Nat} {e : EV} (h : EvNew w base (some r) cur.toList i e) (hc : ∀ q, q < 11 → cur'[i * 11 + q]? = cur[i * 11 + q]?) : EvNew (w.setCells r o vs) base (some r) cur'.toList i e := by
  have hkk := setCells_far (r := r) vs o w
  have h' : EvNew (w.setCells r o vs) base (some r) cur.toList i e := h.keep (by rw [hkk.1]; exact Nat.le_refl _) (fun b _ hne => hkk.2 b (fun e => hne (by rw [e])))
  obtain ⟨lo, hi', vk, vn, vf, vs', A, m, c, k0, k1, k2, k3, k5, kfr, k6⟩ := h'
  exact ⟨lo, hi', vk, vn, vf, vs', A, m, c, k0, k1, k2, k3, k5, kfr, fun q hq => by rw [← k6 q hq, Array.getElem?_toList, Array.getElem?_toList]; exact hc q hq⟩

theorem setCells_below {r : Nat} : ∀ (vs : List Value) (o : Nat) (w w' : World) (base : Nat), Below base w w' → base ≤ r → Below base w (w'.setCells r o vs)
  | [], _, _, _, _, h, _ => h
  | v :: vs, o, w, w', base, h, hr => setCells_below vs (o + 1) w (w'.setCell ⟨r, o, none⟩ v) base (h.setCell (p := ⟨r, o, none⟩) hr v) hr

/-- The first event of the rest is kept. -/
theorem DRow.keepOne {w : World} {base r cap j : Nat} {L R : List EV} (h : DRow w base r cap L R j) (hp : 0 < R.length) {lo hi' : Nat} {vk vn : Int} {vf : Nat} {vs : ByteArray} {A : Option Addr} {m c : Nat}
    (h0 : base ≤ lo) (h1 : FieldsOk R[0]) (h2 : Rep w lo hi' R[0].v (vCells vk vn vf vs A m c)) (h3 : hi' ≤ w.heap.size) (h5 : r < lo ∨ hi' ≤ r) (hfr : 0 < R[0].v.l.length → ∀ b off, A = some ⟨b, off, none⟩ → ∀ o, w.frozen? ⟨b, o, none⟩ = false) :
    DRow (w.setCells r (L.length * 11) (evCells R[0] vk vn vf vs A m c).toList) base r cap (L ++ [R[0]]) (R.drop 1) (j + 1) := by
  obtain ⟨k1, k2, k3, k4, cur, k5, k6, k7, k8⟩ := h
  obtain ⟨l, hl⟩ : ∃ l, l = (evCells R[0] vk vn vf vs A m c).toList := ⟨_, rfl⟩
  have hlen : l.length = 11 := by rw [hl]; rfl
  have hlq : ∀ q, l[q]? = (evCells R[0] vk vn vf vs A m c)[q]? := fun q => by rw [hl, Array.getElem?_toList]
  rw [← hl]
  clear hl
  obtain ⟨cur', c1, c2, c3, c4⟩ := setCells_heap l (L.length * 11) w cur k5 (by rw [hlen, k6]; omega)
  have c5 : ∀ q, L.length * 11 + 11 ≤ q → cur'[q]? = cur[q]? := by
    intro q hq
    obtain ⟨cur'', z1, z2⟩ := setCells_behind l (L.length * 11) w cur k5
    rw [c1] at z1
    injection z1 with z1
    injection z1 with z1
    subst z1
    exact z2 q (by rw [hlen]; omega)
  have hkk := setCells_far (r := r) l (L.length * 11) w
  refine ⟨k1, by rw [List.length_drop]; omega, by rw [List.length_append, List.length_singleton]; omega, k4, cur', c1, c2.trans k6, fun i hi => ?_, fun i hi => ?_⟩
  · by_cases hil : i < L.length
    · rw [List.getElem_append_left hil]
      exact evnew_set (k7 i hil) (fun q hq => c3 _ (by omega))
    · have hie : i = L.length := by rw [List.length_append, List.length_singleton] at hi; omega
      subst hie
      rw [List.getElem_append_right (Nat.le_refl _)]
      simp only [Nat.sub_self, List.getElem_cons_zero]
      have hin := Cm.rep_row h2
      refine ⟨lo, hi', vk, vn, vf, vs, A, m, c, h0, h1, h2.keep fun b o hb1 hb2 => World.cell?_of_block (a := ⟨b, o, none⟩) (hkk.2 b (by omega)), by rw [hkk.1]; exact h3, fun r' hr' => by cases hr'; exact h5, fun hp b off hA o => ?_, fun q hq => ?_⟩
      · have := hin hp b off hA
        exact (Cm.frozen_of_block (hkk.2 b (by omega)) o).trans (hfr hp b off hA o)
      · rw [Array.getElem?_toList, c4 q (by omega), ← hlq q, List.getElem?_eq_getElem]
  · rw [List.getElem_drop]
    have := k8 (1 + i) (by rw [List.length_drop] at hi; omega)
    rw [show j + (1 + i) = j + 1 + i by omega] at this
    exact evnew_set this (fun q hq => c5 _ (by omega))
/-- The first event of the rest is left out. -/
theorem DRow.dropOne {w : World} {base r cap j : Nat} {L R : List EV} (h : DRow w base r cap L R j) (hp : 0 < R.length) : DRow w base r cap L (R.drop 1) (j + 1) := by
  obtain ⟨k1, k2, k3, k4, cur, k5, k6, k7, k8⟩ := h
  refine ⟨k1, by rw [List.length_drop]; omega, by omega, k4, cur, k5, k6, k7, fun i hi => ?_⟩
  rw [List.getElem_drop]
  have := k8 (1 + i) (by rw [List.length_drop] at hi; omega)
  rwa [show j + (1 + i) = j + 1 + i by omega] at this
/-- What is behind place L is overwritten. -/
theorem DRow.cleared {w : World} {base r cap j : Nat} {L R : List EV} (h : DRow w base r cap L R j) (vs : List Value) (hv : L.length * 11 + vs.length ≤ cap * 11) : EvsAt (w.setCells r (L.length * 11) vs) base (some ⟨r, 0, none⟩) cap L.length L := by
  obtain ⟨k1, k2, k3, k4, cur, k5, k6, k7, k8⟩ := h
  obtain ⟨cur', c1, c2, c3, c4⟩ := setCells_heap vs (L.length * 11) w cur k5 (by omega)
  have e : cur'.toList.length = cap * 11 := by simpa using c2.trans k6
  refine ⟨rfl, cur'.toList.take (L.length * 11), ⟨by rw [List.length_take, e]; omega, .inr ⟨r, cap, cur', rfl, k1, c1, by omega, k4, c2.trans k6, rfl⟩⟩, fun i hi => ?_⟩
  obtain ⟨lo, hi', vk, vn, vf, vs', A, m, c, q0, q1, q2, q3, q5, qfr, q6⟩ := evnew_set (vs := vs) (o := L.length * 11) (k7 i hi) (cur' := cur') (fun q hq => c3 _ (by omega))
  exact ⟨lo, hi', vk, vn, vf, vs', A, m, c, q0, q1, q2, q3, q5, qfr, fun q hq => by rw [List.getElem?_take_of_lt (by omega)]; exact q6 q hq⟩

/-- Clearing events. -/
theorem run_clear_events (w : World) (ty : TypeId) (b o n c : Nat) (hn : 0 < n) (hc : ∀ j, j < n * 11 → ∃ u, w.cell? ⟨b, o + j, none⟩ = some u) (hf : ∀ j, w.frozen? ⟨b, j, none⟩ = false) :
    ∃ vs : List Value, vs.length = n * 11 ∧ (Builtin.clear_ #[23] ty #[.slice (some ⟨b, o, none⟩) n c]).run Tryz.prog w = .ok (.tuple #[]) (w.setCells b o vs) := by
  have t := Tryz.underlying23
  have hv := Tryz.zeroValue43
  obtain ⟨zc, hzc⟩ : ∃ zc : Array Value, zc = (Value.agg #[.int .i64 0, .int .u64 0, .int .i64 0, .int .u64 0, .string ⟨#[]⟩, .string ⟨#[]⟩, .int .i64 0, .int .i64 0, .float .f64 0, .string ⟨#[]⟩, .slice none 0 0]).cells := ⟨_, rfl⟩
  have hz11 : zc = #[.int .i64 0, .int .u64 0, .int .i64 0, .int .u64 0, .string ⟨#[]⟩, .string ⟨#[]⟩, .int .i64 0, .int .i64 0, .float .f64 0, .string ⟨#[]⟩, .slice none 0 0] := by rw [hzc]; kernel_rfl
  have hsz : (Builtin.zeroCells zc n).toList.length = n * 11 := by rw [hz11]; simp [Builtin.zeroCells]
  have hone : ∀ v ∈ (Builtin.zeroCells zc n).toList, v.oneCell' = true := by
    intro v hv'
    rw [hz11] at hv'
    simp [Builtin.zeroCells] at hv'
    obtain ⟨i, hi, rfl⟩ := hv'
    rcases (by omega : i % 11 = 0 ∨ i % 11 = 1 ∨ i % 11 = 2 ∨ i % 11 = 3 ∨ i % 11 = 4 ∨ i % 11 = 5 ∨ i % 11 = 6 ∨ i % 11 = 7 ∨ i % 11 = 8 ∨ i % 11 = 9 ∨ i % 11 = 10) with q | q | q | q | q | q | q | q | q | q | q <;> simp [q] <;> rfl
  have hst := run_storeCells_cells (P := Tryz.prog) b o (Builtin.zeroCells zc n).toList 0 w (fun j hj => by
      rw [hsz] at hj
      obtain ⟨u, hu⟩ := hc j hj
      rw [Nat.add_zero, hu]; rfl) (fun j _ => hf _) hone
  simp only [Nat.add_zero] at hst
  refine ⟨_, hsz, ?_⟩
  obtain ⟨m, rfl⟩ : ∃ m, n = m + 1 := ⟨n - 1, by omega⟩
  simp only [Builtin.clear_, Sem.run_bind, Sem.run_pure, Result.andThen_ok, List.getElem?_toArray, List.getElem?_cons_zero, run_underlying t, hv]
  rw [← hzc]
  simp [hst]
end Cn
end Go.Proofs.YtpneejlilgepfaaGreatDoor
namespace Go.Proofs.YtpneejlilgepfaaGreatDoor
open Go.RowKit
set_option linter.unusedVariables false
set_option linter.unusedSimpArgs false
namespace Cn
open Nm (bitsW ret_int ret_bool)
open Vt (VT Rep BoxAt below_drew Cloned put5 KidsAt HeadOk)
open Ev (EV FieldsOk evCells vCells EBox ERep zeroT take_drop cons_drop)
open Cm (rowOf EvsIn EvsAt EvNew evsSame evSame)

def thin (p : EV → Bool) (es : List EV) : List EV := es.filter (fun e => !p e)
theorem thin_yes {p : EV → Bool} {es : List EV} {j : Nat} (h : j < es.length) (ho : p es[j] = true) : thin p (es.take (j + 1)) = thin p (es.take j) := by
  unfold thin; rw [List.take_succ_eq_append_getElem h, List.filter_append]; simp [ho]
theorem thin_no {p : EV → Bool} {es : List EV} {j : Nat} (h : j < es.length) (ho : p es[j] = false) : thin p (es.take (j + 1)) = thin p (es.take j) ++ [es[j]] := by
  unfold thin; rw [List.take_succ_eq_append_getElem h, List.filter_append]; simp [ho]
theorem thin_all {p : EV → Bool} {es : List EV} (h : ∀ m (h : m < es.length), p es[m] = false) : thin p es = es := by
  unfold thin
  rw [List.filter_eq_self]
  intro e he
  obtain ⟨m, hm, rfl⟩ := List.getElem_of_mem he
  simp [h m hm]
theorem thin_first {p : EV → Bool} {es : List EV} {n : Nat} (hn : n < es.length) (hp : p es[n] = true) (h : ∀ m (h : m < es.length), m < n → p es[m] = false) : thin p (es.take (n + 1)) = es.take n := by
  rw [thin_yes hn hp]
  exact thin_all fun m hm => by
    rw [List.length_take] at hm
    rw [List.getElem_take]
    exact h m (by omega) (by omega)

set_option maxRecDepth 100000 in
set_option maxHeartbeats 4000000 in
theorem dfunc_any (g : Nat) (hcall : ∀ args w, (callFunc g args).run Tryz.prog w = .ok (.enter g args) w) (p : EV → Bool) (es : List EV) (hG : Asks g p es) (base : Nat) (A : Option Addr) (cap : Nat) (w : World) (h : EvsAt w base A cap es.length es) (hbase : base ≤ w.heap.size) :
    Calls Tryz.prog 37 #[.slice A es.length cap, .func (.func g) #[] #[]] w fun r w' => ∃ n, r = .returned (.slice A n cap) ∧ EvsAt w' base A cap n (thin p es) ∧ Below base w w' := by
  have HE := Lib.hid h
  have HI := Lib.hid (ifunc_any g hcall p es hG A cap w h.read)
  have hle := h.read.le
  have hc := h.read.cap_le
  simp only [maxLen] at hc
  have HG := Lib.hid hG
  clear h hG
  go_enter Tryz.func37, Tryz.ntmps37
  go_wp2_with fail
  refine HI.out.mono ?_
  rintro x w1 ⟨i, rfl, hfound, hb1⟩
  rcases hfound with ⟨rfl, hno⟩ | ⟨n, rfl, hn, hp, hno⟩
  · have HNO := Lib.hid hno
    have HB1 := Lib.hid hb1
    clear hno hb1
    go_wp2_with fail
    go_ret
    exact ⟨es.length, rfl, by rw [thin_all HNO.out]; exact HE.out.later HB1.out, HB1.out.mono hbase⟩
  · obtain ⟨r, rfl⟩ : ∃ r, A = some ⟨r, 0, none⟩ := by
      obtain ⟨-, xs, h1, -⟩ := HE.out
      rcases h1.2 with ⟨h2, h3⟩ | ⟨r', cp, cur, q1, -⟩
      · omega
      · injection q1 with q1; exact ⟨r', q1⟩
    have HD1 : Hid (DRow w1 base r cap (thin p (es.take (n + 1))) (es.drop (n + 1)) (n + 1)) := Lib.hid (by
      rw [thin_first hn hp hno]
      exact DRow.start (HE.out.later hb1) (by omega) (by omega) n (by omega))
    have hL1 : (thin p (es.take (n + 1))).length = n := by rw [thin_first hn hp hno, List.length_take]; omega
    have HB1 : Hid (Below base w w1) := Lib.hid (hb1.mono hbase)
    have hz1 := hb1.size
    have HL1 := Lib.hid hL1
    have hn1 : ((n : Int) == -1) = false := by simp
    have hes : (es.length : Int) ≤ 9223372036854775807 := by omega
    clear hno hb1 hp HI hL1
    go_wp2_with fail
    go_loopw [5, 6] (fun i o wr => ∃ (j m : Nat), j ≤ es.length ∧ n + 1 ≤ j ∧ m < j ∧ o = .int .i64 j ∧ i = .int .i64 m ∧ (thin p (es.take j)).length = m ∧ DRow wr base r cap (thin p (es.take j)) (es.drop j) j ∧ w1.heap.size ≤ wr.heap.size ∧ Below base w wr) (fun _ i _ => es.length - (intOf i).toNat)
    case atStart => exact ⟨n + 1, n, by omega, by omega, by omega, by go_num, rfl, HL1.out, HD1.out, Nat.le_refl _, HB1.out⟩
    case round =>
      obtain ⟨j, m, hj, hnj, hmj, rfl, rfl, hlen, hd, hz, hb⟩ := hrel
      by_cases hlt : j < es.length
      · have hpos : 0 < (es.drop j).length := by rw [List.length_drop]; omega
        have h0 : (es.drop j)[0] = es[j] := by rw [List.getElem_drop]; simp
        obtain ⟨lo, hi, vk, vn, vf, vs, A', m', c, k0, kf, kv, kz, kr, kfr, kc, kall, kfz⟩ := hd.cells hpos
        rw [h0] at kf kv kfr kc
        have d0 := kc 0 (by omega); have d1 := kc 1 (by omega); have d2 := kc 2 (by omega); have d3 := kc 3 (by omega); have d4 := kc 4 (by omega); have d5 := kc 5 (by omega)
        have d6 := kc 6 (by omega); have d7 := kc 7 (by omega); have d8 := kc 8 (by omega); have d9 := kc 9 (by omega); have d10 := kc 10 (by omega)
        simp only [evCells, List.getElem?_toArray, List.getElem?_cons_zero, List.getElem?_cons_succ, Nat.add_zero] at d0 d1 d2 d3 d4 d5 d6 d7 d8 d9 d10
        obtain ⟨W1, hW1⟩ : ∃ W1, W1 = wr.alloc (.cells (evCells es[j] vk vn vf vs A' m' c) 43) := ⟨_, rfl⟩
        have hb1 : Below wr.heap.size wr W1 := by rw [hW1]; exact (Below.refl _ _).alloc (Nat.le_refl _) _
        have hx1 : EBox W1 wr.heap.size (evCells es[j] vk vn vf vs A' m' c) := by rw [hW1]; exact box_ev ..
        obtain ⟨g0, g1, g2, g3, g4, g5, g6, g7, g8, g9, g10⟩ := EBox.cells hx1
        have HC := Lib.hid (HG.out es[j] (List.getElem_mem hlt) lo hi vk vn vf vs A' m' c W1 kf (kv.later (hb1.mono kz)) (Nat.le_trans kz hb1.size))
        have hdr : r < wr.heap.size := hd.lt
        have HX1 := Lib.hid hx1; have HB1' := Lib.hid hb1; have HD := Lib.hid hd; have HB := Lib.hid hb; have HLEN := Lib.hid hlen
        have KF := Lib.hid kf; have KV := Lib.hid kv; have KFR := Lib.hid kfr; have KALL := Lib.hid kall; have KFZ := Lib.hid kfz
        unfold evCells at HC hW1
        replace hW1 := Lib.hid hW1
        clear kc kf kv kfr kall kfz hx1 hb1 hd hb hlen h0
        go_upto_region 8 with fail
        rw [← hW1.out]
        clear d0 d1 d2 d3 d4 d5 d6 d7 d8 d9 d10
        go_wp2_with fail
        refine HC.out.mono ?_
        rintro x w2 ⟨rfl, hb2⟩
        have HB2 : Hid (Below wr.heap.size wr w2) := Lib.hid (HB1'.out.trans (hb2.mono HB1'.out.size))
        have hx2 := HX1.out.later hb2 (by have := HX1.out.lt; omega)
        clear g0 g1 g2 g3 g4 g5 g6 g7 g8 g9 g10
        obtain ⟨g0, g1, g2, g3, g4, g5, g6, g7, g8, g9, g10⟩ := EBox.cells hx2
        have hdrop : (es.drop j).drop 1 = es.drop (j + 1) := by rw [List.drop_drop]
        have hwr : base ≤ wr.heap.size := by have := HB.out.size; omega
        have hz2 : wr.heap.size ≤ w2.heap.size := HB2.out.size
        have HDR := Lib.hid hdrop
        clear hb2 hx2 hdrop
        cases hp : p es[j] with
        | true =>
          have HP := Lib.hid hp; clear hp
          go_wp2_with fail
          go_roundw
          case rel => exact ⟨j + 1, m, by omega, by omega, by omega, by go_num, rfl, by rw [thin_yes hlt HP.out]; exact HLEN.out, by rw [thin_yes hlt HP.out, ← HDR.out]; exact (HD.out.later HB2.out).dropOne hpos, by omega, HB.out.trans (HB2.out.mono hwr)⟩
          case measure => simp [intOf]; omega
        | false =>
          have HP := Lib.hid hp; clear hp
          obtain ⟨W3, hW3⟩ : ∃ W3, W3 = w2.setCells r (m * 11) (evCells es[j] vk vn vf vs A' m' c).toList := ⟨_, rfl⟩
          have hb3 : Below base w W3 := by rw [hW3]; exact setCells_below _ _ _ _ _ (HB.out.trans (HB2.out.mono hwr)) HD.out.ge
          have hz3 : W3.heap.size = w2.heap.size := by rw [hW3]; exact (setCells_far _ _ _).1
          have hd3 : DRow W3 base r cap (thin p (es.take j) ++ [es[j]]) (es.drop (j + 1)) (j + 1) := by
            have hd2 := HD.out.later HB2.out
            have h0 : (es.drop j)[0] = es[j] := by rw [List.getElem_drop]; simp
            have := hd2.keepOne hpos (lo := lo) (hi' := hi) (vk := vk) (vn := vn) (vf := vf) (vs := vs) (A := A') (m := m') (c := c) k0 (by rw [h0]; exact KF.out) (by rw [h0]; exact KV.out.later (HB2.out.mono kz)) (by omega) kr (by
              rw [h0]
              intro hp b off hA o
              have hin := Cm.rep_row KV.out hp b off hA
              exact (Cm.frozen_of_block (HB2.out.block b (by omega)) o).trans (KFR.out hp b off hA o))
            rw [h0, HDR.out, HLEN.out] at this
            rw [hW3]
            exact this
          have hfz2 : ∀ o, w2.frozen? ⟨r, o, none⟩ = false := fun o => (Cm.frozen_of_block (HB2.out.block r hdr) o).trans (KFZ.out o)
          have hmc : m * 11 + 11 ≤ cap * 11 := by omega
          have hall2 : ∀ q, q < 11 → ∃ u, w2.cell? ⟨r, m * 11 + q, none⟩ = some u := fun q hq => by
            obtain ⟨u, hu⟩ := KALL.out (m * 11 + q) (by omega)
            exact ⟨u, (HB2.out.cell (p := ⟨r, m * 11 + q, none⟩) hdr).trans hu⟩
          obtain ⟨u0, v0⟩ := hall2 0 (by omega); obtain ⟨u1, v1⟩ := hall2 1 (by omega); obtain ⟨u2, v2⟩ := hall2 2 (by omega); obtain ⟨u3, v3⟩ := hall2 3 (by omega); obtain ⟨u4, v4⟩ := hall2 4 (by omega); obtain ⟨u5, v5⟩ := hall2 5 (by omega)
          obtain ⟨u6, v6⟩ := hall2 6 (by omega); obtain ⟨u7, v7⟩ := hall2 7 (by omega); obtain ⟨u8, v8⟩ := hall2 8 (by omega); obtain ⟨u9, v9⟩ := hall2 9 (by omega); obtain ⟨u10, v10⟩ := hall2 10 (by omega)
          have f0 := hfz2 (m * 11); have f1 := hfz2 (m * 11 + 1); have f2 := hfz2 (m * 11 + 2); have f3 := hfz2 (m * 11 + 3); have f4 := hfz2 (m * 11 + 4); have f5 := hfz2 (m * 11 + 5)
          have f6 := hfz2 (m * 11 + 6); have f7 := hfz2 (m * 11 + 7); have f8 := hfz2 (m * 11 + 8); have f9 := hfz2 (m * 11 + 9); have f10 := hfz2 (m * 11 + 10)
          simp only [Nat.add_zero] at v0
          have HD3 := Lib.hid hd3; have HB3 := Lib.hid hb3; have HZ3 := Lib.hid hz3
          have hml : m < es.length := by omega
          simp only [evCells, World.setCells, Nat.add_assoc, Nat.reduceAdd] at hW3
          replace hW3 := Lib.hid hW3
          clear hd3 hb3 hz3 hall2 hfz2
          go_upto_region 10 with fail
          rw [← hW3.out]
          clear v0 v1 v2 v3 v4 v5 v6 v7 v8 v9 v10 f0 f1 f2 f3 f4 f5 f6 f7 f8 f9 f10 g0 g1 g2 g3 g4 g5 g6 g7 g8 g9 g10
          go_wp2_with fail
          go_roundw
          case rel => exact ⟨j + 1, m + 1, by omega, by omega, by omega, by go_num, by go_num, by rw [thin_no hlt HP.out, List.length_append, HLEN.out]; rfl, by rw [thin_no hlt HP.out]; exact HD3.out, by have := HZ3.out; omega, HB3.out⟩
          case measure => simp [intOf]; omega
      · have hj' : j = es.length := by omega
        subst hj'
        rw [List.take_length] at hlen hd
        have hml : m < es.length := hmj
        have hfz : ∀ o, wr.frozen? ⟨r, o, none⟩ = false := by
          obtain ⟨cur, q1, -⟩ := hd.blk
          intro o; simp [World.frozen?, q1]
        have hall : ∀ o, o < cap * 11 → ∃ u, wr.cell? ⟨r, o, none⟩ = some u := by
          obtain ⟨cur, q1, q2, -⟩ := hd.blk
          intro o ho
          exact ⟨cur[o]'(by omega), by simp [World.cell?, q1, Array.getElem?_eq_getElem (show o < cur.size by omega)]⟩
        have hrun : ∀ ty, ∃ vs : List Value, vs.length = (es.length - m) * 11 ∧ (Builtin.clear_ #[23] ty #[.slice (some ⟨r, m * 11, none⟩) (es.length - m) (cap - m)]).run Tryz.prog wr = .ok (.tuple #[]) (wr.setCells r (m * 11) vs) := fun ty =>
          run_clear_events wr ty r (m * 11) (es.length - m) (cap - m) (by omega) (fun q hq => hall _ (by omega)) hfz
        obtain ⟨vs, hvl, hrun⟩ := hrun 0
        have HFIN : Hid (EvsAt (wr.setCells r (m * 11) vs) base (some ⟨r, 0, none⟩) cap m (thin p es)) := Lib.hid (by
          have := hd.cleared vs (by rw [hlen, hvl]; omega)
          rwa [hlen] at this)
        have HBF : Hid (Below base w (wr.setCells r (m * 11) vs)) := Lib.hid (setCells_below _ _ _ _ _ hb hd.ge)
        have hmc : m ≤ cap := by omega
        have hmc2 : ¬ (cap = m) := by omega
        have hsub : ((es.length : Int) - m) = ((es.length - m : Nat) : Int) := by omega
        clear hd hb hlen hfz hall
        go_wp2_with fail
        go_ret
        exact ⟨m, rfl, HFIN.out, HBF.out⟩

set_option maxRecDepth 100000 in
theorem bcmds_any (es : List EV) (hl40 : es.length ≤ 1099511627775) (hS : ∀ i (h : i < es.length), es[i].v.Slim 900) (f : ByteArray) (at' : Nat) (A : Option Addr) (cap : Nat) (w : World) (h : EvsIn w A cap es) :
    Calls Tryz.prog 12 #[.agg #[.string f, .int .u64 at', .slice A es.length cap]] w fun r w' => ∃ A2 cap2 n, r = .returned (.slice A2 n cap2) ∧ Below w.heap.size w w' ∧ EvsAt w' w.heap.size A2 cap2 n (cmds es) := by
  obtain ⟨W0, hW0⟩ : ∃ W0, W0 = w.alloc (.cells #[.string f, .int .u64 at', .slice A es.length cap] 25) := ⟨_, rfl⟩
  have hx0 : BB W0 w.heap.size f at' A es.length cap := by rw [hW0]; exact heap_alloc_new w _
  have hbw : Below w.heap.size w W0 := by rw [hW0]; exact ((Below.refl _ _).alloc (Nat.le_refl _) _)
  obtain ⟨c0, c1, c2, -⟩ := hx0.cells
  have HBW := Lib.hid hbw
  have HM := Lib.hid (mapped_any es hl40 hS A cap W0 (h.later hbw))
  clear hx0 hbw h hS
  replace hW0 := Lib.hid hW0
  go_enter Tryz.func12, Tryz.ntmps12
  go_upto_region 1 with fail
  rw [← hW0.out]
  go_wp2_with fail
  refine HM.out.mono ?_
  rintro x w1 ⟨A2, cap2, rfl, hb1, hev⟩
  have HD := Lib.hid (dfunc_any 40 call_outside outsideE es (asks_outside es) W0.heap.size A2 cap2 w1 hev hb1.size)
  have HB1 := Lib.hid (HBW.out.trans (hb1.mono HBW.out.size))
  have hz := HBW.out.size
  clear hb1 hev c0 c1 c2
  go_wp2_with fail
  refine HD.out.mono ?_
  rintro x w2 ⟨n, rfl, hev, hb2⟩
  have HE := Lib.hid hev
  have HB2 := Lib.hid (HB1.out.trans (hb2.mono hz))
  clear hev hb2
  go_wp2_with fail
  go_ret
  exact ⟨A2, cap2, n, rfl, HB2.out, evs_base HE.out hz⟩
end Cn
end Go.Proofs.YtpneejlilgepfaaGreatDoor
namespace Go.Proofs.YtpneejlilgepfaaGreatDoor
open Go.RowKit
set_option linter.unusedVariables false
namespace Cn
open Vt (VT Rep)
open Ev (EV FieldsOk evCells vCells)
open Cm (EvsIn)
open Go.ChangeShapes Go.WideShapes Go.ChangeAt Go.Joins Go.Deep

theorem eleven (cs : List Value) (h : cs.length = 11) : ∃ a b c d e f g i j k l, cs = [a, b, c, d, e, f, g, i, j, k, l] := by
  match cs, h with
  | [a, b, c, d, e, f, g, i, j, k, l], _ => exact ⟨a, b, c, d, e, f, g, i, j, k, l, rfl⟩
theorem three (cs : List Value) (h : cs.length = 3) : ∃ a b c, cs = [a, b, c] := by
  match cs, h with
  | [a, b, c], _ => exact ⟨a, b, c, rfl⟩

set_option maxRecDepth 100000 in
theorem open_ev {H : Type} {enc : TypeId × Value → H} {W : World} {base : Nat} {spare : Nat → Bool} {held : Bool} (fuel : Nat) (cs : List Value) (x : DataW H × List MemPlace)
    (h : DataW.trod enc Tryz.prog W base spare held fuel 43 cs = some x) : ∃ (e : EV) (vk vn : Int) (vf : Nat) (vs : ByteArray) (A' : Option Addr) (m c : Nat), FieldsOk e ∧ Rep W base W.heap.size e.v (vCells vk vn vf vs A' m c) ∧ cs = (evCells e vk vn vf vs A' m c).toList := by
  have hC : Tryz.prog.cellsOf 43 = 11 := by kernel_rfl
  obtain ⟨xs, n, hn, hx, hlen, hxl, hg⟩ := DataW.trod_struct Tryz.underlying43 h
  obtain ⟨c0, c1, c2, c3, c4, c5, c6, c7, c8, c9, c10, rfl⟩ := eleven cs (hlen.trans hC)
  have hx : ∀ j : Nat, j < 7 → ∃ y, xs[j]? = some y := fun j hj => ⟨_, List.getElem?_eq_getElem (by rw [hxl]; exact hj)⟩
  obtain ⟨y0, z0⟩ := hx 0 (by omega); obtain ⟨y1, z1⟩ := hx 1 (by omega); obtain ⟨y2, z2⟩ := hx 2 (by omega); obtain ⟨y3, z3⟩ := hx 3 (by omega); obtain ⟨y4, z4⟩ := hx 4 (by omega); obtain ⟨y5, z5⟩ := hx 5 (by omega); obtain ⟨y6, z6⟩ := hx 6 (by omega)
  have g0 := (hg 0 _ rfl).trans z0; have g1 := (hg 1 _ rfl).trans z1; have g2 := (hg 2 _ rfl).trans z2; have g3 := (hg 3 _ rfl).trans z3; have g4 := (hg 4 _ rfl).trans z4; have g5 := (hg 5 _ rfl).trans z5; have g6 := (hg 6 _ rfl).trans z6
  have k1 : Tryz.prog.cellsOf 3 = 1 := by kernel_rfl
  have k2 : Tryz.prog.cellsOf 9 = 1 := by kernel_rfl
  have k3 : Tryz.prog.cellsOf 41 = 5 := by kernel_rfl
  have k4 : Tryz.prog.cellsOf 22 = 1 := by kernel_rfl
  simp [k1, k2, k3, k4] at g0 g1 g2 g3 g4 g5 g6
  obtain ⟨k, e0, -, w0⟩ := DataW.trod_int Tryz.underlying3 g0
  obtain ⟨id, e1, -, w1⟩ := DataW.trod_int Tryz.underlying22 g1
  obtain ⟨n2, e2, -, w2⟩ := DataW.trod_int Tryz.underlying3 g2
  obtain ⟨at', e3, -, w3⟩ := DataW.trod_int Tryz.underlying22 g3
  obtain ⟨nm, e4, -, w4⟩ := DataW.trod_string Tryz.underlying9 g4
  obtain ⟨tx, e5, -, w5⟩ := DataW.trod_string Tryz.underlying9 g5
  obtain ⟨t, ht⟩ := Vt.open_vt _ _ _ g6
  obtain rfl := List.singleton_inj.1 e0
  obtain rfl := List.singleton_inj.1 e1
  obtain rfl := List.singleton_inj.1 e2
  obtain rfl := List.singleton_inj.1 e3
  obtain rfl := List.singleton_inj.1 e4
  obtain rfl := List.singleton_inj.1 e5
  simp [Lit.wf, IntKind.min, IntKind.max, IntKind.bits, IntKind.signed] at w0 w1 w2 w3
  obtain ⟨vk, vn, vf, vs, l, A', cap, -, hv, -⟩ := ht.open_
  rw [hv] at ht
  injection hv with hv
  simp at hv
  obtain ⟨rfl, rfl, rfl, rfl, rfl⟩ := hv
  obtain ⟨mid, hmid⟩ : ∃ mn : Nat, id = mn := ⟨id.toNat, by omega⟩
  obtain ⟨mat, hmat⟩ : ∃ mn : Nat, at' = mn := ⟨at'.toNat, by omega⟩
  subst hmid hmat
  exact ⟨⟨k, mid, n2, mat, nm, tx, t⟩, vk, vn, vf, vs, A', l.length, cap, ⟨by show _ ≤ k; omega, by show k ≤ _; omega, by show mid < _; omega, by show _ ≤ n2; omega, by show n2 ≤ _; omega, by show mat < _; omega, w4, w5⟩, ht, rfl⟩

set_option maxRecDepth 100000 in
theorem evs_trod {H : Type} {enc : TypeId × Value → H} {W : World} {b1 : Nat} {spare : Nat → Bool} {held : Bool} (fuel : Nat) (c0 : Value) (x : DataW H × List MemPlace)
    (hf : DataW.trod enc Tryz.prog W b1 spare held fuel 23 [c0] = some x) : ∃ es A cap, c0 = .slice A es.length cap ∧ EvsIn W A cap es ∧ ((es = [] ∧ x.1 = .nil) ∨ ∃ elems rest, x.1 = .slice elems rest ∧ elems.length = es.length) := by
  have hC : Tryz.prog.cellsOf 43 = 11 := by kernel_rfl
  rcases DataW.trod_slice Tryz.underlying23 hf with ⟨e4, rfl⟩ | ⟨a, l0, cp0, elems, rest, n', hn', e4, rfl, hb, hl, hm, hel, he, -, -⟩
  · obtain rfl := List.singleton_inj.1 e4
    exact ⟨[], none, 0, rfl, ⟨Nat.le_refl _, Nat.zero_le _, fun h => absurd h (by simp)⟩, .inl ⟨rfl, rfl⟩⟩
  · obtain rfl := List.singleton_inj.1 e4
    have h4 : ∀ i : Nat, ∃ tC : EV × (Int × Int × Nat × ByteArray × Option Addr × Nat × Nat), i < l0 → FieldsOk tC.1 ∧ Rep W b1 W.heap.size tC.1.v (vCells tC.2.1 tC.2.2.1 tC.2.2.2.1 tC.2.2.2.2.1 tC.2.2.2.2.2.1 tC.2.2.2.2.2.2.1 tC.2.2.2.2.2.2.2) ∧
        ∀ j, j < 11 → W.cell? (a.add (i * 11) |>.add j) = (evCells tC.1 tC.2.1 tC.2.2.1 tC.2.2.2.1 tC.2.2.2.2.1 tC.2.2.2.2.2.1 tC.2.2.2.2.2.2.1 tC.2.2.2.2.2.2.2)[j]? := fun i => by
      by_cases hi : i < l0
      · have e := he i hi
        rw [List.getElem?_eq_getElem (by omega)] at e
        obtain ⟨cs', q1, q2⟩ := Option.bind_eq_some_iff.1 e
        obtain ⟨o, vk, vn, vf, vs, A', m, c, p1, p3, rfl⟩ := open_ev n' cs' _ q2
        rw [hC] at q1
        obtain ⟨_, ql, qc⟩ := World.cells?_some q1
        exact ⟨(o, vk, vn, vf, vs, A', m, c), fun _ => ⟨p1, p3, fun j hj => by rw [qc j hj, Array.getElem?_toList]⟩⟩
      · exact ⟨(⟨0, 0, 0, 0, .empty, .empty, .mk 0 0 0 .empty []⟩, 0, 0, 0, .empty, none, 0, 0), fun h => absurd h hi⟩
    obtain ⟨F, hF⟩ := Classical.axiomOfChoice h4
    have hlen' : ((List.range l0).map fun i => (F i).1).length = l0 := by simp
    refine ⟨(List.range l0).map fun i => (F i).1, some a, cp0, by rw [hlen'], ⟨by rw [hlen']; exact hl, hm, fun hp => ?_⟩, .inr ⟨_, _, rfl, by rw [hlen', List.length_map]; exact hel⟩⟩
    rw [hlen'] at hp
    have h0 := (hF 0 hp).2.2 0 (by omega)
    obtain ⟨b, off, spot⟩ := a
    have hs : spot = none := by
      cases spot with
      | none => rfl
      | some q =>
        simp [Addr.add, World.cell?, evCells] at h0
        split at h0 <;> simp at h0
    subst hs
    have hlt : b < W.heap.size := by
      rcases Nat.lt_or_ge b W.heap.size with q | q
      · exact q
      · simp [Addr.add, World.cell?, Array.getElem?_eq_none q, evCells] at h0
    refine ⟨b, off, rfl, hlt, fun i hi => ?_⟩
    rw [hlen'] at hi
    obtain ⟨p1, p3, p4⟩ := hF i hi
    refine ⟨b1, W.heap.size, _, _, _, _, _, _, _, by simpa using p1, by simpa using p3, Nat.le_refl _, fun j hj => ?_⟩
    have := p4 j hj
    rw [Go.Deep.add_add, add_plain] at this
    rw [Nat.add_assoc, this]
    simp

set_option maxRecDepth 100000 in
/-- A BATCH THAT CAME IN. 'n' bounds what it weighs. -/
theorem batch_open {H : Type} {enc : TypeId × Value → H} {base b1 : Nat} {spare : Nat → Bool} {held : Bool} {d : DataW H} {p : List MemPlace} (v : Value) (W : World)
    (o : Value.okWide Tryz.prog W .any base 25 v) (k : DataW.Trod enc Tryz.prog W b1 spare held 25 v d p) (hsz : ∀ x ∈ d.weights Tryz.prog 25, x ≤ reachBytes) :
    ∃ (f : ByteArray) (at' : Nat) (es : List EV) (A : Option Addr) (cap : Nat), v = .agg #[.string f, .int .u64 at', .slice A es.length cap] ∧ f.size ≤ maxLen ∧ at' < 18446744073709551616 ∧ EvsIn W A cap es ∧ es.length ≤ 1099511627775 ∧
      ∃ x0 x1 x2, d = .agg [x0, x1, x2] ∧ ((es = [] ∧ x2 = .nil) ∨ ∃ elems rest, x2 = .slice elems rest ∧ elems.length = es.length) := by
  have hC : Tryz.prog.cellsOf 25 = 3 := by kernel_rfl
  have hB : Tryz.prog.bytesOf 43 = 128 := by kernel_rfl
  obtain ⟨cs0, rfl, -⟩ := okWide_struct Tryz.underlying25 o
  obtain ⟨fuel, hf⟩ := k
  have hcs : (Value.agg cs0).cells.toList = cs0.toList := rfl
  rw [hcs] at hf
  obtain ⟨xs, n, hn, hx, hlen, hxl, hg⟩ := DataW.trod_struct Tryz.underlying25 hf
  obtain ⟨c0, c1, c2, e⟩ := three cs0.toList (hlen.trans hC)
  obtain ⟨x0, x1, x2, rfl⟩ : ∃ x0 x1 x2, xs = [x0, x1, x2] := by
    have : xs.length = 3 := hxl
    match xs, this with
    | [a, b, c], _ => exact ⟨a, b, c, rfl⟩
  have g0 := hg 0 _ rfl; have g1 := hg 1 _ rfl; have g2 := hg 2 _ rfl
  have k2 : Tryz.prog.cellsOf 9 = 1 := by kernel_rfl
  have k3 : Tryz.prog.cellsOf 23 = 1 := by kernel_rfl
  have k4 : Tryz.prog.cellsOf 22 = 1 := by kernel_rfl
  rw [e] at g0 g1 g2
  simp [k2, k3, k4] at g0 g1 g2
  obtain ⟨s, e0, -, w0⟩ := DataW.trod_string Tryz.underlying9 g0
  obtain ⟨m, e1, -, w1⟩ := DataW.trod_int Tryz.underlying22 g1
  obtain rfl := List.singleton_inj.1 e0
  obtain rfl := List.singleton_inj.1 e1
  simp [Lit.wf, IntKind.min, IntKind.max, IntKind.bits, IntKind.signed] at w1
  obtain ⟨es, A, cap, rfl, hes, hd⟩ := evs_trod n c2 x2 g2
  obtain ⟨mn, hmn⟩ : ∃ mn : Nat, m = mn := ⟨m.toNat, by omega⟩
  subst hmn
  have hdd : d = .agg [x0.1, x1.1, x2.1] := by injection hx
  refine ⟨s, mn, es, A, cap, ?_, w0, by omega, hes, ?_, x0.1, x1.1, x2.1, hdd, hd⟩
  · have : cs0 = #[.string s, .int .u64 mn, .slice A es.length cap] := by
      apply Array.toList_inj.1
      exact e
    rw [this]
  · rcases hd with ⟨rfl, -⟩ | ⟨elems, rest, h2, hl⟩
    · simp
    · have hw : ((elems.length + rest.length) * Tryz.prog.bytesOf 43) ∈ d.weights Tryz.prog 25 := by
        rw [hdd]
        have hu := Tryz.underlying25
        unfold DataW.weights
        rw [hu]
        refine DataW.weights_mem_each (j := 2) (t := 23) rfl (d := x2.1) rfl _ ?_
        rw [h2]
        have hu2 := Tryz.underlying23
        simp [DataW.weights, hu2]
      have h9 := hsz _ hw
      rw [hB, hl] at h9
      have := reachBytes_lt
      simp only [reachBytes] at h9
      omega
end Cn
end Go.Proofs.YtpneejlilgepfaaGreatDoor
