/- Contracts: the reference's Same of events and of lists of events. -/
import Derived.Test.YtpneejlilgepfaaCwH
import Derived.Test.YtpneejlilgepfaaVtH
import Derived.StillTailTactics
namespace Go.Proofs.Ytpneejlilgepfaa
open Go.RowKit
set_option linter.unusedVariables false
namespace Cm
open Nm (bitsW ret_int ret_bool)
open Vt (VT Rep BoxAt below_drew Cloned put5 toList_inj)
open Ev (EV FieldsOk evCells vCells EBox ERep zeroT)

/-- What Same asks of two events' own fields. -/
def HeadE (a b : EV) : Prop := a.k = b.k ∧ a.id = b.id ∧ a.n = b.n ∧ a.at' = b.at' ∧ a.name = b.name ∧ a.text = b.text
theorem evSame_head {a b : EV} (h : HeadE a b) : evSame a b = a.v.same b.v := by
  obtain ⟨h1, h2, h3, h4, h5, h6⟩ := h
  simp [evSame, h1, h2, h3, h4, h5, h6]
theorem evSame_not {a b : EV} (h : ¬ HeadE a b) : evSame a b = false := by
  rw [Bool.eq_false_iff]
  intro q
  simp [evSame] at q
  exact h ⟨q.1.1.1.1.1.1, q.1.1.1.1.1.2, q.1.1.1.1.2, q.1.1.1.2, q.1.1.2, q.1.2⟩

set_option maxRecDepth 100000 in
set_option maxHeartbeats 2000000 in
theorem rsev_any (a b : EV) (w : World) (lo hi lo' hi' : Nat) (x y : Value) (hR : ERep w lo hi a x) (hz : hi ≤ w.heap.size) (hR' : ERep w lo' hi' b y) (hz' : hi' ≤ w.heap.size) :
    Calls Try.prog 21 #[x, y] w fun r w' => r = .returned (.bool (evSame a b)) ∧ Below w.heap.size w w' := by
  obtain ⟨hf, vk, vn, vf, vs, A, m, c, rfl, hv⟩ := hR
  obtain ⟨hf', vk', vn', vf', vs', A', m', c', rfl, hv'⟩ := hR'
  have HB0 := Lib.hid fun Z Z' => ((Below.refl w.heap.size w).alloc (Nat.le_refl _) Z).alloc (by simp) Z'
  have HS := Lib.hid fun W (hW : Below w.heap.size w W) => Vt.rsame_any a.v b.v W lo hi lo' hi' _ _ (hv.later (hW.mono hz)) (Nat.le_trans hz hW.size) (hv'.later (hW.mono hz')) (Nat.le_trans hz' hW.size)
  clear hv hv' hf hf'
  obtain ⟨k, id, n, at', name, text, v⟩ := a
  obtain ⟨k', id', n', at'', name', text', v'⟩ := b
  unfold vCells at HS
  simp only at HS
  by_cases hh : HeadE ⟨k, id, n, at', name, text, v⟩ ⟨k', id', n', at'', name', text', v'⟩
  · rw [evSame_head hh]
    obtain ⟨h1, h2, h3, h4, h5, h6⟩ := hh
    simp only at h1 h2 h3 h4 h5 h6
    subst h1 h2 h3 h4 h5 h6
    unfold evCells
    go_enter Try.func21, Try.ntmps21
    go_wp2_with fail
    refine (HS.out _ (HB0.out _ _)).mono ?_
    rintro e w1 ⟨rfl, hb⟩
    have HB1 := Lib.hid ((HB0.out _ _).trans (hb.mono (HB0.out _ _).size))
    clear hb
    go_wp2_with fail
    go_ret
    exact ⟨ret_bool (by simp), HB1.out⟩
  · rw [evSame_not hh]
    have H := Lib.hid hh; clear hh
    unfold evCells
    go_enter Try.func21, Try.ntmps21
    go_wp2_with fail
    all_goals first
      | (go_ret; exact ⟨rfl, HB0.out _ _⟩)
      | (exfalso
         refine H.out ⟨?_, ?_, ?_, ?_, ?_, ?_⟩
         all_goals clear H HS HB0
         all_goals first
           | assumption
           | (exact (toList_inj _ _).1 (by assumption))
           | omega
           | (simp at *; omega))

/-- The cells of a list that is read. -/
theorem EvsIn.get {w : World} {A : Option Addr} {cap : Nat} {es : List EV} (h : EvsIn w A cap es) (i : Nat) (hi : i < es.length) :
    ∃ b off lo hi vk vn vf vs A' m c, A = some ⟨b, off, none⟩ ∧ b < w.heap.size ∧ FieldsOk es[i] ∧ Rep w lo hi es[i].v (vCells vk vn vf vs A' m c) ∧ hi ≤ w.heap.size ∧
      w.cell? ⟨b, off + i * 11, none⟩ = some (.int .i64 es[i].k) ∧ w.cell? ⟨b, off + i * 11 + 1, none⟩ = some (.int .u64 es[i].id) ∧ w.cell? ⟨b, off + i * 11 + 2, none⟩ = some (.int .i64 es[i].n) ∧ w.cell? ⟨b, off + i * 11 + 3, none⟩ = some (.int .u64 es[i].at') ∧
      w.cell? ⟨b, off + i * 11 + 4, none⟩ = some (.string es[i].name) ∧ w.cell? ⟨b, off + i * 11 + 5, none⟩ = some (.string es[i].text) ∧ w.cell? ⟨b, off + i * 11 + 6, none⟩ = some (.int .i64 vk) ∧ w.cell? ⟨b, off + i * 11 + 7, none⟩ = some (.int .i64 vn) ∧
      w.cell? ⟨b, off + i * 11 + 8, none⟩ = some (.float .f64 vf) ∧ w.cell? ⟨b, off + i * 11 + 9, none⟩ = some (.string vs) ∧ w.cell? ⟨b, off + i * 11 + 10, none⟩ = some (.slice A' m c) := by
  obtain ⟨b, off, hA, hlt, h3⟩ := h.at_ (by omega)
  obtain ⟨lo, hi', vk, vn, vf, vs, A', m, c, h4, h5, h6, h7⟩ := h3 i hi
  exact ⟨b, off, lo, hi', vk, vn, vf, vs, A', m, c, hA, hlt, h4, h5, h6, h7 0 (by omega), h7 1 (by omega), h7 2 (by omega), h7 3 (by omega), h7 4 (by omega), h7 5 (by omega), h7 6 (by omega), h7 7 (by omega), h7 8 (by omega), h7 9 (by omega), h7 10 (by omega)⟩

/-- Are two lists of events the same? -/
def evsSame (a b : List EV) : Bool := a.length == b.length && (a.zip b).all (fun p => evSame p.1 p.2)
theorem evsSame_refl (a : List EV) : evsSame a a = true := by
  simp only [evsSame, beq_self_eq_true, Bool.true_and, List.all_eq_true]
  rintro ⟨x, y⟩ h
  rw [List.zip_eq_zipWith] at h
  have : x = y := by
    rw [List.mem_iff_getElem] at h
    obtain ⟨i, hi, he⟩ := h
    simp at he
    exact he.1.symm.trans he.2
  subst this
  exact evSame_refl x

set_option maxRecDepth 100000 in
set_option maxHeartbeats 2000000 in
theorem sevs_any (es es' : List EV) (A A' : Option Addr) (cap cap' : Nat) (w : World) (h : EvsIn w A cap es) (h' : EvsIn w A' cap' es') :
    Calls Try.prog 10 #[.slice A es.length cap, .slice A' es'.length cap'] w fun r w' => r = .returned (.bool (evsSame es es')) ∧ Below w.heap.size w w' := by
  have hl := h.le
  have hc := h.cap_le
  have hl' := h'.le
  have hc' := h'.cap_le
  simp only [maxLen] at hc hc'
  have HK := Lib.hid h; have HK' := Lib.hid h'; clear h h'
  by_cases hll : es'.length = es.length
  · have HLL := Lib.hid hll
    have HR : Hid (evsSame es es' = (es.zip es').all (fun p => evSame p.1 p.2)) := Lib.hid (by simp [evsSame, hll])
    rw [HR.out, hll]
    rw [hll] at hl'
    clear hll HR
    go_enter Try.func10, Try.ntmps10
    go_wp2_with fail
    go_loopw [4, 5] (fun r i wr => ∃ (j : Nat), j ≤ es.length ∧ i = .int .i64 j ∧ r = .bool false ∧ ((es.zip es').take j).all (fun p => evSame p.1 p.2) = true ∧ Below w.heap.size w wr) (fun _ i _ => es.length - (intOf i).toNat)
    case atStart => exact ⟨0, by omega, rfl, rfl, rfl, Below.refl _ _⟩
    case round =>
      obtain ⟨j, hj, rfl, rfl, hy, hb⟩ := hrel
      have HY := Lib.hid hy; clear hy
      have HB := Lib.hid hb; clear hb
      by_cases hlt : j < es.length
      · obtain ⟨b, off, lo, hi, vk, vn, vf, vs, A1, m, c, rfl, hblt, hf, hv, hz, d0, d1, d2, d3, d4, d5, d6, d7, d8, d9, d10⟩ := (HK.out.later HB.out).get j hlt
        obtain ⟨b', off', lo', hi', vk', vn', vf', vs', A1', m', c', rfl, hblt', hf', hv', hz', g0, g1, g2, g3, g4, g5, g6, g7, g8, g9, g10⟩ := (HK'.out.later HB.out).get j (by have := HLL.out; omega)
        have HS := Lib.hid (rsev_any es[j] (es'[j]'(by have := HLL.out; omega)) wr.drew lo hi lo' hi' _ _ ⟨hf, vk, vn, vf, vs, A1, m, c, rfl, hv.drew⟩ hz ⟨hf', vk', vn', vf', vs', A1', m', c', rfl, hv'.drew⟩ hz')
        clear hf hf' hv hv'
        unfold evCells at HS
        go_wp2_with fail
        go_still_tail 8, (by kernel_rfl)
        go_wp2_with fail
        refine HS.out.mono ?_
        rintro e w1 ⟨rfl, hb1⟩
        have hb1' : Below wr.heap.size wr w1 := (below_drew (Below.refl _ _)).trans hb1
        clear hb1
        have HB1 := Lib.hid (HB.out.trans (hb1'.mono HB.out.size))
        clear hb1' HS d0 d1 d2 d3 d4 d5 d6 d7 d8 d9 d10 g0 g1 g2 g3 g4 g5 g6 g7 g8 g9 g10
        have hzl : j < (es.zip es').length := by rw [List.length_zip, HLL.out]; simpa using hlt
        have hge : evSame ((es.zip es')[j]'hzl).1 ((es.zip es')[j]'hzl).2 = evSame es[j] (es'[j]'(by have := HLL.out; omega)) := by rw [List.getElem_zip]
        have HGE := Lib.hid hge; clear hge
        cases hp : evSame es[j] (es'[j]'(by have := HLL.out; omega)) with
        | true =>
          have HP := Lib.hid hp; clear hp
          go_wp2_with fail
          go_roundw
          case rel => exact ⟨j + 1, by omega, by go_num, rfl, by rw [Vt.all_take_succ _ _ _ hzl, HY.out, HGE.out, HP.out]; rfl, HB1.out⟩
          case measure => simp [intOf]; omega
        | false =>
          have HP := Lib.hid hp; clear hp
          go_wp2_with fail
          go_ret
          exact ⟨ret_bool (by rw [Vt.all_false _ _ j hzl (by rw [HGE.out]; exact HP.out)]), HB1.out⟩
      · have hj' : j = es.length := by omega
        have HJ := Lib.hid hj'
        clear hj'
        go_wp2_with fail
        go_ret
        have hall : (es.zip es').all (fun p => evSame p.1 p.2) = true := by
          have := HY.out
          rw [HJ.out, List.take_of_length_le (by rw [List.length_zip, HLL.out]; simp)] at this
          exact this
        exact ⟨ret_bool (by rw [hall]), HB.out⟩
  · have HR : Hid (evsSame es es' = false) := Lib.hid (by rw [evsSame, Bool.and_eq_false_iff]; left; simpa using fun h => hll h.symm)
    have hne : ((es.length : Int) != (es'.length : Int)) = true := by simp; omega
    rw [HR.out]
    go_enter Try.func10, Try.ntmps10
    go_wp2_with fail
    go_ret
    exact ⟨rfl, Below.refl _ _⟩
end Cm
end Go.Proofs.Ytpneejlilgepfaa
