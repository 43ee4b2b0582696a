/- The reference's builder: Closed, Schedule. -/
import Derived.Test.YtpnepnhajpmccaaCwK
import Derived.Test.YtpnepnhajpmccaaVtD
import Derived.StillTailTactics
namespace Go.Proofs.Ytpnepnhajpmccaa
open Go.RowKit
set_option linter.unusedVariables false
namespace Cm
open Nm (bitsW ret_int ret_bool)
open Vt (VT Rep BoxAt below_drew Cloned put5 toList_inj rowCells)
open Ev (EV FieldsOk evCells vCells EBox ERep zeroT)

/-- The kind of the last event, if it closes. -/
def closedOf (es : List EV) : Int := match es.getLast? with
  | some e => if 9 ≤ e.k then e.k else 0
  | none => 0
theorem closedOf_nil : closedOf [] = 0 := rfl
theorem closedOf_push (es : List EV) (e : EV) : closedOf (es ++ [e]) = if 9 ≤ e.k then e.k else 0 := by simp [closedOf]
theorem closedOf_at (es : List EV) (j : Nat) (h : es.length = j + 1) : closedOf es = if 9 ≤ (es[j]'(by omega)).k then (es[j]'(by omega)).k else 0 := by
  have hne : es ≠ [] := by intro h'; simp [h'] at h
  have : es.getLast? = some (es[j]'(by omega)) := by
    rw [List.getLast?_eq_getElem?]
    have : es.length - 1 = j := by omega
    rw [this, List.getElem?_eq_getElem (by omega)]
  simp [closedOf, this]

set_option maxRecDepth 100000 in
theorem rclosed_any (es : List EV) (A : Option Addr) (cap : Nat) (next at' : Nat) (w : World) (h : EvsIn w A cap es) (hn : es.length ≤ 1000000) :
    Calls Try.prog 14 #[.agg #[.int .u64 next, .int .u64 at', .slice A es.length cap]] w fun r w' => r = .returned (.int .i64 (closedOf es)) ∧ Below w.heap.size w w' := by
  have HB0 := Lib.hid fun Z => (Below.refl w.heap.size w).alloc (Nat.le_refl _) Z
  rcases Nat.eq_zero_or_pos es.length with h0 | hp
  · obtain rfl := List.eq_nil_of_length_eq_zero h0
    rw [closedOf_nil]
    simp only [List.length_nil]
    go_enter Try.func14, Try.ntmps14
    go_wp2_with fail
    go_ret
    exact ⟨rfl, HB0.out _⟩
  · obtain ⟨j, hj⟩ : ∃ j, es.length = j + 1 := ⟨es.length - 1, by omega⟩
    rw [closedOf_at es j hj]
    obtain ⟨b, off, lo, hi, vk, vn, vf, vs, A1, m, c, rfl, hblt, -, -, hz, d0, -⟩ := (h.later (HB0.out (.cells #[.int .u64 next, .int .u64 at', .slice A es.length cap] 30))).get j (by omega)
    generalize hk : (es[j]'(by omega)).k = k at *
    rw [hj] at d0 hn ⊢
    clear h hk hp
    by_cases hk9 : 9 ≤ k
    · rw [if_pos hk9]
      have hkb : decide (9 ≤ k) = true := by simpa using hk9
      go_enter Try.func14, Try.ntmps14
      go_wp2_with fail
      go_ret
      exact ⟨rfl, HB0.out _⟩
    · rw [if_neg hk9]
      have hkb : decide (9 ≤ k) = false := by simpa using hk9
      go_enter Try.func14, Try.ntmps14
      go_wp2_with fail
      go_ret
      exact ⟨rfl, HB0.out _⟩

/-- What the reference's calls hand out. -/
def ROut (w w' : World) (base : Nat) (A : Option Addr) (s : BS) (v : Value) : Prop := ∃ A' cap', v = .agg #[.int .u64 s.next, .int .u64 s.at', .slice A' s.es.length cap'] ∧ Below w.heap.size w w' ∧ MAt w' base A' cap' s.es ∧ (A' = A ∨ ∀ r, rowOf A' = some r → w.heap.size ≤ r)

/-- What name and value a schedule asks for. -/
def right (name : ByteArray) (t : VT) : Bool := (!name.toList.isEmpty && decide (name.size ≤ 1000)) && t.valid 8
theorem empty_iff (s : ByteArray) : s.toList.isEmpty = decide (s.size < 1) := by
  rw [Vt.toList_data]
  have : s.data.toList.length = s.size := rfl
  cases h : s.data.toList with
  | nil => rw [h] at this; have : s.size = 0 := this.symm; simp [this]
  | cons a l => rw [h] at this; have : s.size = l.length + 1 := this.symm; simp [this]

/-- Two boxes of builders, a box of a value. -/
theorem three (w : World) (Z1 Z2 Z3 : Obj) : (((w.alloc Z1).alloc Z2).alloc Z3).heap[w.heap.size]? = some Z1 ∧ (((w.alloc Z1).alloc Z2).alloc Z3).heap[w.heap.size + 1]? = some Z2 ∧
    (((w.alloc Z1).alloc Z2).alloc Z3).heap[w.heap.size + 1 + 1]? = some Z3 ∧ Below w.heap.size w (((w.alloc Z1).alloc Z2).alloc Z3) ∧ (((w.alloc Z1).alloc Z2).alloc Z3).heap.size = w.heap.size + 1 + 1 + 1 := by
  have n1 := heap_alloc_new w Z1
  have n2 := heap_alloc_new (w.alloc Z1) Z2
  have n3 := heap_alloc_new ((w.alloc Z1).alloc Z2) Z3
  simp only [World.size_alloc] at n2 n3
  refine ⟨?_, ?_, n3, ((Below.refl w.heap.size w).alloc (Nat.le_refl _) Z1).alloc (by simp) Z2 |>.alloc (by simp; omega) Z3, by simp⟩
  · rw [heap_alloc_old _ _ (by simp only [World.size_alloc]; omega), heap_alloc_old _ _ (by simp only [World.size_alloc]; omega), n1]
  · rw [heap_alloc_old _ _ (by simp only [World.size_alloc]; omega), n2]

theorem cells3 {W : World} {g : Nat} {a b c : Value} {t : TypeId} (h : W.heap[g]? = some (.cells #[a, b, c] t (0, 0))) : W.cell? ⟨g, 0, none⟩ = some a ∧ W.cell? ⟨g, 1, none⟩ = some b ∧ W.cell? ⟨g, 2, none⟩ = some c ∧ W.frozen? ⟨g, 0, none⟩ = false ∧ W.frozen? ⟨g, 1, none⟩ = false ∧ W.frozen? ⟨g, 2, none⟩ = false := by
  simp [World.cell?, World.frozen?, h]

set_option maxRecDepth 100000 in
set_option maxHeartbeats 1000000 in
theorem rsched_bad (base : Nat) (A : Option Addr) (cap : Nat) (es : List EV) (next at' : Nat) (name : ByteArray) (t : VT) (vk vn : Int) (vf : Nat) (vs : ByteArray) (A' : Option Addr) (m c : Nat) (w : World) (h : MAt w base A cap es) (hn : es.length ≤ 1000000) (hbw : base ≤ w.heap.size)
    (hs : name.size ≤ maxLen) (hv : Rep w 0 base t (vCells vk vn vf vs A' m c)) (hbad : ¬ (closedOf es = 0 ∧ right name t = true)) :
    Calls Try.prog 27 #[.agg #[.int .u64 next, .int .u64 at', .slice A es.length cap], .string name, vCells vk vn vf vs A' m c] w fun r w' =>
      r = .returned (.tuple #[.agg #[.int .u64 next, .int .u64 at', .slice A es.length cap], .int .u64 0]) ∧ Below w.heap.size w w' := by
  have hE := h.read hbw
  obtain ⟨W0, hW0⟩ : ∃ W0, W0 = ((w.alloc (.cells #[.int .u64 next, .int .u64 at', .slice A es.length cap] 30)).alloc (.cells #[.int .i64 vk, .int .i64 vn, .float .f64 vf, .string vs, .slice A' m c] 34)).alloc (.cells #[.int .u64 0, .int .u64 0, .slice none 0 0] 30) := ⟨_, rfl⟩
  obtain ⟨g1, g2, g3, gb, gz⟩ := three w (.cells #[.int .u64 next, .int .u64 at', .slice A es.length cap] 30) (.cells #[.int .i64 vk, .int .i64 vn, .float .f64 vf, .string vs, .slice A' m c] 34) (.cells #[.int .u64 0, .int .u64 0, .slice none 0 0] 30)
  rw [← hW0] at g1 g2 g3 gb gz
  have HG : Hid (∀ W, Below W0.heap.size W0 W → W.heap[w.heap.size]? = some (.cells #[.int .u64 next, .int .u64 at', .slice A es.length cap] 30 (0, 0)) ∧ BoxAt W (w.heap.size + 1) vk vn vf vs A' m c ∧ W.heap[w.heap.size + 1 + 1]? = some (.cells #[.int .u64 0, .int .u64 0, .slice none 0 0] 30 (0, 0)) ∧ Below w.heap.size w W) :=
    Lib.hid fun W hW => ⟨(hW.block _ (by omega)).trans g1, (hW.block _ (by omega)).trans g2, (hW.block _ (by omega)).trans g3, gb.trans (hW.mono (by omega))⟩
  have HC : Hid (Calls Try.prog 14 #[.agg #[.int .u64 next, .int .u64 at', .slice A es.length cap]] W0 fun r w' => r = .returned (.int .i64 (closedOf es)) ∧ Below W0.heap.size W0 w') := Lib.hid (rclosed_any es A cap next at' W0 (hE.later gb) hn)
  have HV : Hid (∀ W, Below W0.heap.size W0 W → Calls Try.prog 24 #[.agg #[.int .i64 vk, .int .i64 vn, .float .f64 vf, .string vs, .slice A' m c]] W fun r w' => r = .returned (.bool (t.valid 8)) ∧ Below W0.heap.size W0 w') := Lib.hid fun W hW =>
    (Vt.rvalid_any t W 0 base _ (hv.later ((gb.trans (hW.mono (by omega))).mono hbw)) (by have := hW.size; omega)).mono fun r w' h => ⟨h.1, hW.trans (h.2.mono hW.size)⟩
  clear h hE hv g1 g2 g3 gb
  replace hW0 := Lib.hid hW0
  replace gz := Lib.hid gz
  unfold vCells
  obtain ⟨h1, h2, h3, -⟩ := HG.out W0 (Below.refl _ _)
  obtain ⟨a0, a1, a2, -, -, -⟩ := cells3 h1
  obtain ⟨b0, b1, b2, b3, b4⟩ := h2.cells
  clear h1 h2 h3
  simp only [maxLen] at hs
  have fin : Hid (∀ W, Below W0.heap.size W0 W → Below w.heap.size w (((W.setCell ⟨w.heap.size + 1 + 1, 0, none⟩ (.int .u64 next)).setCell ⟨w.heap.size + 1 + 1, 1, none⟩ (.int .u64 at')).setCell ⟨w.heap.size + 1 + 1, 2, none⟩ (.slice A es.length cap))) := Lib.hid fun W hW =>
    (((HG.out W hW).2.2.2.setCell (by show w.heap.size ≤ w.heap.size + 1 + 1; omega) _).setCell (by show w.heap.size ≤ w.heap.size + 1 + 1; omega) _).setCell (by show w.heap.size ≤ w.heap.size + 1 + 1; omega) _
  go_enter Try.func27, Try.ntmps27
  go_upto_region 1 with fail
  rw [← hW0.out]
  generalize closedOf es = q at *
  by_cases hq : q = 0
  · subst hq
    by_cases hs1 : name.size < 1
    · go_wp2_with fail
      refine HC.out.mono ?_
      rintro x W1 ⟨rfl, hb1⟩
      obtain ⟨h1, h2, h3, -⟩ := HG.out W1 hb1
      obtain ⟨a0', a1', a2', -, -, -⟩ := cells3 h1
      obtain ⟨b0', b1', b2', b3', b4'⟩ := h2.cells
      obtain ⟨r0, r1, r2, f0, f1, f2⟩ := cells3 h3
      have HBE := Lib.hid hb1
      clear hb1 a0 a1 a2 b0 b1 b2 b3 b4 h1 h2 h3
      go_wp2_with fail
      refine bodyPost_ret (v := .tuple #[.agg #[.int .u64 next, .int .u64 at', .slice A es.length cap], .int .u64 0]) (by simp [results, Try.results27, go_sem, r0, r1, r2]) rfl ⟨rfl, fin.out _ HBE.out⟩
    · by_cases hs2 : 1000 < name.size
      · go_wp2_with fail
        refine HC.out.mono ?_
        rintro x W1 ⟨rfl, hb1⟩
        obtain ⟨h1, h2, h3, -⟩ := HG.out W1 hb1
        obtain ⟨a0', a1', a2', -, -, -⟩ := cells3 h1
        obtain ⟨b0', b1', b2', b3', b4'⟩ := h2.cells
        obtain ⟨r0, r1, r2, f0, f1, f2⟩ := cells3 h3
        have HBE := Lib.hid hb1
        clear hb1 a0 a1 a2 b0 b1 b2 b3 b4 h1 h2 h3
        go_wp2_with fail
        refine bodyPost_ret (v := .tuple #[.agg #[.int .u64 next, .int .u64 at', .slice A es.length cap], .int .u64 0]) (by simp [results, Try.results27, go_sem, r0, r1, r2]) rfl ⟨rfl, fin.out _ HBE.out⟩
      · have hvf : t.valid 8 = false := by
          rw [Bool.eq_false_iff]
          intro hvt
          exact hbad ⟨rfl, by rw [right, empty_iff, hvt, decide_eq_false hs1, decide_eq_true (show name.size ≤ 1000 by omega)]; rfl⟩
        rw [hvf] at HV
        go_wp2_with fail
        refine HC.out.mono ?_
        rintro x W1 ⟨rfl, hb1⟩
        obtain ⟨h1, h2, h3, -⟩ := HG.out W1 hb1
        obtain ⟨a0', a1', a2', -, -, -⟩ := cells3 h1
        obtain ⟨b0', b1', b2', b3', b4'⟩ := h2.cells
        obtain ⟨r0, r1, r2, f0, f1, f2⟩ := cells3 h3
        have HBE := Lib.hid hb1
        clear hb1 a0 a1 a2 b0 b1 b2 b3 b4 h1 h2 h3
        go_wp2_with fail
        refine (HV.out _ HBE.out).mono ?_
        rintro x W2 ⟨rfl, hb2⟩
        clear HBE a0' a1' a2' b0' b1' b2' b3' b4' r0 r1 r2 f0 f1 f2
        obtain ⟨h1, h2, h3, -⟩ := HG.out W2 hb2
        obtain ⟨a0', a1', a2', -, -, -⟩ := cells3 h1
        obtain ⟨r0, r1, r2, f0, f1, f2⟩ := cells3 h3
        have HBE := Lib.hid hb2
        clear h1 h2 h3 hb2
        go_wp2_with fail
        refine bodyPost_ret (v := .tuple #[.agg #[.int .u64 next, .int .u64 at', .slice A es.length cap], .int .u64 0]) (by simp [results, Try.results27, go_sem, r0, r1, r2]) rfl ⟨rfl, fin.out _ HBE.out⟩
  · have hqb : (q != 0) = true := by simpa using hq
    go_wp2_with fail
    refine HC.out.mono ?_
    rintro x W1 ⟨rfl, hb1⟩
    obtain ⟨h1, h2, h3, -⟩ := HG.out W1 hb1
    obtain ⟨a0', a1', a2', -, -, -⟩ := cells3 h1
    obtain ⟨b0', b1', b2', b3', b4'⟩ := h2.cells
    obtain ⟨r0, r1, r2, f0, f1, f2⟩ := cells3 h3
    have HBE := Lib.hid hb1
    clear hb1 a0 a1 a2 b0 b1 b2 b3 b4 h1 h2 h3
    go_wp2_with fail
    refine bodyPost_ret (v := .tuple #[.agg #[.int .u64 next, .int .u64 at', .slice A es.length cap], .int .u64 0]) (by simp [results, Try.results27, go_sem, r0, r1, r2]) rfl ⟨rfl, fin.out _ HBE.out⟩

theorem MAt.set {w : World} {base : Nat} {A : Option Addr} {cap : Nat} {es : List EV} (h : MAt w base A cap es) {p : Addr} (hp : base ≤ p.block) (hr : ∀ r, rowOf A = some r → r ≠ p.block) (v : Value) : MAt (w.setCell p v) base A cap es :=
  h.frame ((Below.refl _ _).setCell hp v) (fun r hr' => Below.heap_setCell w p v r (hr r hr'))

set_option maxRecDepth 100000 in
set_option maxHeartbeats 1000000 in
theorem rsched_good (base : Nat) (A : Option Addr) (cap : Nat) (es : List EV) (next at' : Nat) (hnx : next + 1 < 18446744073709551616) (name : ByteArray) (t : VT) (vk vn : Int) (vf : Nat) (vs : ByteArray) (A' : Option Addr) (m c : Nat) (w : World) (h : MAt w base A cap es) (hn : es.length ≤ 1000000) (hbw : base ≤ w.heap.size)
    (hs : name.size ≤ maxLen) (hv : Rep w 0 base t (vCells vk vn vf vs A' m c)) (hq : closedOf es = 0) (hs1 : ¬ name.size < 1) (hs2 : name.size ≤ 1000) (hvt : t.valid 8 = true) :
    Calls Try.prog 27 #[.agg #[.int .u64 next, .int .u64 at', .slice A es.length cap], .string name, vCells vk vn vf vs A' m c] w fun r w' =>
      ∃ b cap', r = .returned (.tuple #[.agg #[.int .u64 (next + 1 : Nat), .int .u64 at', .slice (some ⟨b, 0, none⟩) (es.length + 1) cap'], .int .u64 next]) ∧ Below w.heap.size w w' ∧ w.heap.size ≤ b ∧ MAt w' base (some ⟨b, 0, none⟩) cap' (es ++ [withId (schedE name t) next]) := by
  have hE := h.read hbw
  obtain ⟨W0, hW0⟩ : ∃ W0, W0 = ((w.alloc (.cells #[.int .u64 next, .int .u64 at', .slice A es.length cap] 30)).alloc (.cells #[.int .i64 vk, .int .i64 vn, .float .f64 vf, .string vs, .slice A' m c] 34)).alloc (.cells #[.int .u64 0, .int .u64 0, .slice none 0 0] 30) := ⟨_, rfl⟩
  obtain ⟨g1, g2, g3, gb, gz⟩ := three w (.cells #[.int .u64 next, .int .u64 at', .slice A es.length cap] 30) (.cells #[.int .i64 vk, .int .i64 vn, .float .f64 vf, .string vs, .slice A' m c] 34) (.cells #[.int .u64 0, .int .u64 0, .slice none 0 0] 30)
  rw [← hW0] at g1 g2 g3 gb gz
  have HG : Hid (∀ W, Below W0.heap.size W0 W → W.heap[w.heap.size]? = some (.cells #[.int .u64 next, .int .u64 at', .slice A es.length cap] 30 (0, 0)) ∧ BoxAt W (w.heap.size + 1) vk vn vf vs A' m c ∧ W.heap[w.heap.size + 1 + 1]? = some (.cells #[.int .u64 0, .int .u64 0, .slice none 0 0] 30 (0, 0)) ∧ Below w.heap.size w W) :=
    Lib.hid fun W hW => ⟨(hW.block _ (by omega)).trans g1, (hW.block _ (by omega)).trans g2, (hW.block _ (by omega)).trans g3, gb.trans (hW.mono (by omega))⟩
  have HC : Hid (Calls Try.prog 14 #[.agg #[.int .u64 next, .int .u64 at', .slice A es.length cap]] W0 fun r w' => r = .returned (.int .i64 0) ∧ Below W0.heap.size W0 w') := Lib.hid (by rw [← hq]; exact rclosed_any es A cap next at' W0 (hE.later gb) hn)
  have HV : Hid (∀ W, Below W0.heap.size W0 W → Calls Try.prog 24 #[.agg #[.int .i64 vk, .int .i64 vn, .float .f64 vf, .string vs, .slice A' m c]] W fun r w' => r = .returned (.bool true) ∧ Below W0.heap.size W0 w') := Lib.hid fun W hW =>
    (Vt.rvalid_any t W 0 base _ (hv.later ((gb.trans (hW.mono (by omega))).mono hbw)) (by have := hW.size; omega)).mono fun r w' h => ⟨by rw [h.1, hvt], hW.trans (h.2.mono hW.size)⟩
  have HA : Hid (∀ W, Below W0.heap.size W0 W → Calls Try.prog 47 #[.agg #[.int .u64 next, .int .u64 at', .slice A es.length cap], .agg #[.int .i64 7, .int .u64 next, .int .i64 0, .int .u64 0, .string name, .string ⟨#[]⟩, .int .i64 vk, .int .i64 vn, .float .f64 vf, .string vs, .slice A' m c]] W fun r w' =>
      ∃ b cap', r = .returned (.agg #[.int .u64 next, .int .u64 at', .slice (some ⟨b, 0, none⟩) (es.length + 1) cap']) ∧ Below W0.heap.size W0 w' ∧ W0.heap.size ≤ b ∧ MAt w' base (some ⟨b, 0, none⟩) cap' (es ++ [withId (schedE name t) next])) := Lib.hid fun W hW => by
    have hbs := hW.size
    have hwW := gb.trans (hW.mono (by omega))
    have hfo := sched_ok name t hs
    refine (radd_any base A cap es next at' (withId (schedE name t) next) vk vn vf vs A' m c W (h.later hbw hwW) hn (by omega) ⟨hfo.k0, hfo.k1, by show next < _; omega, hfo.n0, hfo.n1, hfo.a1, hfo.s1, hfo.t1⟩ (hv.later (hwW.mono hbw))).mono ?_
    rintro r w' ⟨b, cap', rfl, h1, h2, h3⟩
    exact ⟨b, cap', rfl, hW.trans (h1.mono hbs), by omega, h3⟩
  clear h hE hv g1 g2 g3 gb
  have hz0 : w.heap.size + 1 + 1 + 1 = W0.heap.size := gz.symm
  replace hW0 := Lib.hid hW0
  replace gz := Lib.hid gz
  unfold vCells
  obtain ⟨h1, h2, h3, -⟩ := HG.out W0 (Below.refl _ _)
  obtain ⟨a0, a1, a2, -, -, -⟩ := cells3 h1
  obtain ⟨b0, b1, b2, b3, b4⟩ := h2.cells
  clear h1 h2 h3
  have hwr : IntKind.u64.wrap ((next : Int) + 1) = ((next + 1 : Nat) : Int) := by rw [IntKind.wrap_u64]; omega
  replace hz0 := Lib.hid hz0
  go_enter Try.func27, Try.ntmps27
  go_upto_region 1 with fail
  rw [← hW0.out]
  go_wp2_with fail
  refine HC.out.mono ?_
  rintro x W1 ⟨rfl, hb1⟩
  obtain ⟨h1, h2, h3, -⟩ := HG.out W1 hb1
  obtain ⟨a0', a1', a2', -, -, -⟩ := cells3 h1
  obtain ⟨b0', b1', b2', b3', b4'⟩ := h2.cells
  have HBE := Lib.hid hb1
  clear hb1 a0 a1 a2 b0 b1 b2 b3 b4 h1 h2 h3
  go_wp2_with fail
  refine (HV.out _ HBE.out).mono ?_
  rintro x W2 ⟨rfl, hb2⟩
  clear HBE a0' a1' a2' b0' b1' b2' b3' b4'
  obtain ⟨h1, h2, h3, -⟩ := HG.out W2 hb2
  obtain ⟨a0', a1', a2', -, -, -⟩ := cells3 h1
  obtain ⟨b0', b1', b2', b3', b4'⟩ := h2.cells
  have HBE := Lib.hid hb2
  clear h1 h2 h3 hb2
  go_wp2_with fail
  refine (HA.out _ HBE.out).mono ?_
  rintro x W3 ⟨b, cap', rfl, hb3, hbg, hm⟩
  clear HBE a0' a1' a2' b0' b1' b2' b3' b4'
  obtain ⟨h1, h2, h3, -⟩ := HG.out W3 hb3
  obtain ⟨a0', a1', a2', f0, f1, f2⟩ := cells3 h1
  obtain ⟨r0, r1, r2, f3, f4, f5⟩ := cells3 h3
  have HBE := Lib.hid hb3
  have HBB := Lib.hid (HG.out W3 hb3).2.2.2
  have HM := Lib.hid hm
  clear h1 h2 h3 hb3 hm
  go_wp2_with fail
  refine bodyPost_ret (v := .tuple #[.agg #[.int .u64 (next + 1 : Nat), .int .u64 at', .slice (some ⟨b, 0, none⟩) (es.length + 1) cap'], .int .u64 next]) (by simp [results, Try.results27, go_sem, r0, r1, r2]) rfl ⟨b, cap', rfl, ?_, by have := hz0.out; omega, ?_⟩
  · have := HBB.out
    repeat (first | (with_reducible exact this) | refine Below.setCell ?_ (by simp only []; omega) _)
  · have := HM.out
    have hz := hz0.out
    repeat (first | (with_reducible exact this) | refine MAt.set ?_ (by simp only []; omega) (by intro r hr; cases hr; simp only []; omega) _)
end Cm
end Go.Proofs.Ytpnepnhajpmccaa
