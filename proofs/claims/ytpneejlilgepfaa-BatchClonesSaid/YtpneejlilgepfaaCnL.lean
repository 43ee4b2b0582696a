/- Lists of batches that are read; the reference's Few (events, batches), SameBatch; law13's few. -/
import Derived.Test.YtpneejlilgepfaaCnE
import Derived.Test.YtpneejlilgepfaaVtC
import Derived.StillTailTactics
namespace Go.Proofs.Ytpneejlilgepfaa
open Go.RowKit
set_option linter.unusedVariables false
set_option linter.unusedSimpArgs false
namespace Cn
open Nm (bitsW ret_int ret_bool)
open Vt (VT Rep BoxAt below_drew Cloned put5 KidsAt HeadOk)
open Ev (EV FieldsOk evCells vCells EBox ERep zeroT take_drop cons_drop)
open Cm (rowOf EvsIn EvsAt EvNew evsSame evSame rsev_any)

/-- Is an event small? -/
def efew (e : EV) : Bool := e.v.few && decide (e.name.size ≤ 1100) && decide (e.text.size ≤ 1100)

set_option maxRecDepth 100000 in
theorem efew_any (e : EV) (hf : FieldsOk e) (lo hi : Nat) (vk vn : Int) (vf : Nat) (vs : ByteArray) (A : Option Addr) (m c : Nat) (w : World) (hv : Rep w lo hi e.v (vCells vk vn vf vs A m c)) (hz : hi ≤ w.heap.size) :
    Calls Try.prog 22 #[.agg (evCells e vk vn vf vs A m c)] w fun r w' => r = .returned (.bool (efew e)) ∧ Below w.heap.size w w' := by
  obtain ⟨W0, hW0⟩ : ∃ W0, W0 = w.alloc (.cells (evCells e vk vn vf vs A m c) 35) := ⟨_, rfl⟩
  have hb0 : Below w.heap.size w W0 := by rw [hW0]; exact (Below.refl _ _).alloc (Nat.le_refl _) _
  have hx0 : EBox W0 w.heap.size (evCells e vk vn vf vs A m c) := by rw [hW0]; exact box_ev ..
  have HV := Lib.hid (Vt.few_any e.v W0 lo hi _ (hv.later (hb0.mono hz)) (Nat.le_trans hz hb0.size))
  obtain ⟨g0, g1, g2, g3, g4, g5, g6, g7, g8, g9, g10⟩ := EBox.cells hx0
  have HX0 := Lib.hid hx0
  have HB0 := Lib.hid hb0
  have hsn := hf.s1
  have hst := hf.t1
  simp only [maxLen] at hsn hst
  clear hv hf hx0 hb0
  unfold evCells at hW0 ⊢
  unfold vCells at HV
  replace hW0 := Lib.hid hW0
  go_enter Try.func22, Try.ntmps22
  go_upto_region 1 with fail
  rw [← hW0.out]
  generalize hfw : e.v.few = fw at *
  have HFW := Lib.hid hfw; clear hfw
  cases fw with
  | false =>
    go_wp2_with (go_at_call 33; refine HV.out.mono ?_; rintro x w1 ⟨rfl, hb1⟩; have HB1 := Lib.hid (HB0.out.trans (hb1.mono HB0.out.size)); clear hb1)
    go_ret
    exact ⟨ret_bool (by unfold efew; rw [HFW.out]; rfl), HB1.out⟩
  | true =>
    by_cases h1 : e.name.size ≤ 1100
    · have k1 : decide ((e.name.size : Int) ≤ 1100) = true := decide_eq_true (by omega)
      by_cases h2 : e.text.size ≤ 1100
      · have k2 : decide ((e.text.size : Int) ≤ 1100) = true := decide_eq_true (by omega)
        go_wp2_with (go_at_call 33; refine HV.out.mono ?_; rintro x w1 ⟨rfl, hb1⟩; have HB1 := Lib.hid (HB0.out.trans (hb1.mono HB0.out.size)); obtain ⟨q0, q1, q2, q3, q4, q5, q6, q7, q8, q9, q10⟩ := EBox.cells (HX0.out.later hb1 HX0.out.lt); clear hb1)
        go_ret
        exact ⟨ret_bool (by unfold efew; rw [HFW.out]; simp; omega), HB1.out⟩
      · have k2 : decide ((e.text.size : Int) ≤ 1100) = false := decide_eq_false (by omega)
        go_wp2_with (go_at_call 33; refine HV.out.mono ?_; rintro x w1 ⟨rfl, hb1⟩; have HB1 := Lib.hid (HB0.out.trans (hb1.mono HB0.out.size)); obtain ⟨q0, q1, q2, q3, q4, q5, q6, q7, q8, q9, q10⟩ := EBox.cells (HX0.out.later hb1 HX0.out.lt); clear hb1)
        go_ret
        exact ⟨ret_bool (by unfold efew; rw [HFW.out]; simp; omega), HB1.out⟩
    · have k1 : decide ((e.name.size : Int) ≤ 1100) = false := decide_eq_false (by omega)
      go_wp2_with (go_at_call 33; refine HV.out.mono ?_; rintro x w1 ⟨rfl, hb1⟩; have HB1 := Lib.hid (HB0.out.trans (hb1.mono HB0.out.size)); obtain ⟨q0, q1, q2, q3, q4, q5, q6, q7, q8, q9, q10⟩ := EBox.cells (HX0.out.later hb1 HX0.out.lt); clear hb1)
      go_ret
      exact ⟨ret_bool (by unfold efew; rw [HFW.out]; simp; omega), HB1.out⟩

/-- A batch. -/
structure BT where mk ::
  flow : ByteArray
  at' : Nat
  es : List EV

/-- A list of batches that can be read. -/
structure BtsIn (w : World) (A : Option Addr) (cap : Nat) (bl : List BT) : Prop where
  le : bl.length ≤ cap
  cap_le : cap ≤ maxLen
  at_ : 0 < bl.length → ∃ b off, A = some ⟨b, off, none⟩ ∧ b < w.heap.size ∧ ∀ i (h : i < bl.length), ∃ A' c', bl[i].flow.size ≤ maxLen ∧ bl[i].at' < 18446744073709551616 ∧ EvsIn w A' c' bl[i].es ∧
    w.cell? ⟨b, off + i * 3, none⟩ = some (.string bl[i].flow) ∧ w.cell? ⟨b, off + i * 3 + 1, none⟩ = some (.int .u64 bl[i].at') ∧ w.cell? ⟨b, off + i * 3 + 2, none⟩ = some (.slice A' bl[i].es.length c')
theorem BtsIn.later {w w' : World} {A : Option Addr} {cap : Nat} {bl : List BT} (h : BtsIn w A cap bl) (hb : Below w.heap.size w w') : BtsIn w' A cap bl := ⟨h.le, h.cap_le, fun hp => by
  obtain ⟨b, off, hA, hlt, h3⟩ := h.at_ hp
  refine ⟨b, off, hA, Nat.lt_of_lt_of_le hlt hb.size, fun i hi => ?_⟩
  obtain ⟨A', c', h4, h5, h6, c0, c1, c2⟩ := h3 i hi
  have e : ∀ o, w'.cell? ⟨b, o, none⟩ = w.cell? ⟨b, o, none⟩ := fun o => hb.cell (p := ⟨b, o, none⟩) hlt
  exact ⟨A', c', h4, h5, h6.later hb, (e _).trans c0, (e _).trans c1, (e _).trans c2⟩⟩

/-- What 'few' tells when it says 'yes'. -/
def wsum (bl : List BT) : Nat := (bl.map fun b => min b.es.length 100).sum
structure FewB (bl : List BT) : Prop where
  len : bl.length ≤ 60
  sum : wsum bl ≤ 150
  flow : ∀ i (h : i < bl.length), bl[i].flow.size ≤ 300
  few : ∀ i (h : i < bl.length) k (hk : k < bl[i].es.length), efew bl[i].es[k] = true

theorem wsum_take (bl : List BT) (j : Nat) (h : j < bl.length) : wsum (bl.take (j + 1)) = wsum (bl.take j) + min bl[j].es.length 100 := by
  unfold wsum
  rw [List.take_succ_eq_append_getElem h, List.map_append, List.sum_append]; simp

def Few12Res (bl : List BT) (w : World) (r : Ending) (w' : World) : Prop := ∃ b, r = .returned (.bool b) ∧ (b = true → FewB bl) ∧ Below w.heap.size w w'
set_option maxRecDepth 100000 in
set_option maxHeartbeats 2000000 in
theorem few12_any (bl : List BT) (A : Option Addr) (cap : Nat) (w : World) (h : BtsIn w A cap bl) :
    Calls Try.prog 12 #[.slice A bl.length cap] w (Few12Res bl w) := by
  have hl := h.le
  have hc := h.cap_le
  simp only [maxLen] at hc
  have HK := Lib.hid h; clear h
  go_enter Try.func12, Try.ntmps12
  go_wp2_with fail
  go_loopw [2, 3, 4] (fun r n i wr => ∃ (j y : Nat), j ≤ bl.length ∧ i = .int .i64 j ∧ r = .bool false ∧ n = .int .i64 y ∧ y ≤ 150 ∧ y = wsum (bl.take j) ∧ (∀ i (h : i < bl.length), i < j → bl[i].flow.size ≤ 300 ∧ ∀ k (hk : k < bl[i].es.length), efew bl[i].es[k] = true) ∧ Below w.heap.size w wr) (fun _ _ i _ => bl.length - (intOf i).toNat)
  case atStart => exact ⟨0, 0, by omega, rfl, rfl, rfl, by omega, rfl, fun i _ h => absurd h (by omega), Below.refl _ _⟩
  case round =>
    obtain ⟨j, y, hj, rfl, rfl, rfl, hy, hys, hfew, hb⟩ := hrel
    have HF := Lib.hid hfew
    have HB := Lib.hid hb
    have HYS := Lib.hid hys
    clear hfew hb hys
    by_cases hlt : j < bl.length
    · obtain ⟨b, off, rfl, hblt, h3⟩ := (HK.out.later HB.out).at_ (by omega)
      obtain ⟨A', c', hfl, hat, hes, d0, d1, d2⟩ := h3 j hlt
      have hle := hes.le
      have hcm := hes.cap_le
      simp only [maxLen] at hcm hfl
      have HES := Lib.hid fun W (hW : Below wr.heap.size wr W) => hes.later hW
      have HD := Lib.hid fun W (hW : Below wr.heap.size wr W) => (hW.cell (p := ⟨b, off + j * 3 + 2, none⟩) hblt).trans d2
      have HWT := Lib.hid (wsum_take bl j hlt)
      clear h3 hes
      obtain ⟨es, hes⟩ : ∃ es, es = bl[j].es := ⟨_, rfl⟩
      rw [← hes] at HES HD HWT d2 hle
      have HEE := Lib.hid hes
      clear hes
      generalize hn : es.length = n at *
      have HN := Lib.hid hn; clear hn
      generalize hff : bl[j].flow = ff at *
      have HSZ : Hid (bl[j].flow.size = ff.size) := Lib.hid (by rw [hff]); clear hff
      go_upto_region 6 with fail
      obtain ⟨z, hz⟩ : ∃ z : Int, z = (y : Int) + (if (100 : Int) < (n : Int) then (100 : Int) else (n : Int)) := ⟨_, rfl⟩
      have hz0 : z = ((y + min n 100 : Nat) : Int) := by rw [hz]; split <;> omega
      rw [← hz]
      have hzz : z ≤ 250 := by omega
      have hzp : 0 ≤ z := by omega
      have HZ := Lib.hid hz0
      clear hz hz0 d1
      generalize (if (100 : Int) < (n : Int) then (100 : Int) else (n : Int)) = mm at *
      by_cases hz4 : 150 < z
      · have hb4 : decide (150 < z) = true := by simpa using hz4
        go_wp2_with fail
        go_ret
        exact ⟨false, rfl, (fun h => by cases h), HB.out⟩
      · have hb4 : decide (150 < z) = false := by simpa using hz4
        by_cases hs4 : 300 < ff.size
        · have hb5 : decide ((300 : Int) < (ff.size : Int)) = true := decide_eq_true (by omega)
          go_wp2_with fail
          go_ret
          exact ⟨false, rfl, (fun h => by cases h), HB.out⟩
        · have hb5 : decide ((300 : Int) < (ff.size : Int)) = false := decide_eq_false (by omega)
          have HSZ4 := Lib.hid hs4
          have HZ4 := Lib.hid hz4
          have HBF := Lib.hid fun W (hW : Below wr.heap.size wr W) => HB.out.trans (hW.mono HB.out.size)
          have hzj : y ≤ 150 := hy
          go_wp2_with fail
          go_loopw [2, 5] (fun r i wi => ∃ (k : Nat), k ≤ n ∧ i = .int .i64 k ∧ r = .bool false ∧ (∀ q (hq : q < es.length), q < k → efew es[q] = true) ∧ Below wr.heap.size wr wi) (fun _ i _ => n - (intOf i).toNat)
          case atStart => exact ⟨0, by omega, rfl, rfl, fun q _ h => absurd h (by omega), Below.refl _ _⟩
          case round =>
            obtain ⟨k, hk, rfl, rfl, hall, hbi⟩ := hrel
            have HALL := Lib.hid hall; have HBI := Lib.hid hbi
            have hdd := HD.out _ hbi
            clear hall hbi
            by_cases hkl : k < n
            · have hke : k < es.length := by have := HN.out; omega
              obtain ⟨b2, off2, lo, hi, vk, vn, vf, vs, A2, m2, c2, rfl, hbl2, hf, hv, hhi, e0, e1, e2, e3, e4, e5, e6, e7, e8, e9, e10⟩ := (HES.out _ HBI.out).get k hke
              have HC := Lib.hid (efew_any es[k] hf lo hi vk vn vf vs A2 m2 c2 _ hv hhi)
              unfold evCells at HC
              clear hf hv
              go_wp2_with fail
              refine HC.out.mono ?_
              rintro x w1 ⟨rfl, hb1⟩
              have HB1 := Lib.hid (HBI.out.trans (hb1.mono HBI.out.size))
              clear hb1 e0 e1 e2 e3 e4 e5 e6 e7 e8 e9 e10 HC
              cases hp : efew es[k] with
              | true =>
                have HP := Lib.hid hp; clear hp
                go_wp2_with fail
                go_roundw
                case rel => exact ⟨k + 1, by omega, by go_num, rfl, fun q h hm => by
                  rcases Nat.lt_or_ge q k with z | z
                  · exact HALL.out q h z
                  · obtain rfl : q = k := by omega
                    exact HP.out, HB1.out⟩
                case measure => simp [intOf]; omega
              | false =>
                have HP := Lib.hid hp; clear hp
                go_wp2_with fail
                go_ret
                exact ⟨false, rfl, (fun h => by cases h), HBF.out _ HB1.out⟩
            · have hk' : k = n := by omega
              subst hk'
              have HFIN : Hid (∀ i (h : i < bl.length), i < j + 1 → bl[i].flow.size ≤ 300 ∧ ∀ k (hk : k < bl[i].es.length), efew bl[i].es[k] = true) := Lib.hid fun i h hij => by
                rcases Nat.lt_or_ge i j with z | z
                · exact HF.out i h z
                · obtain rfl : i = j := by omega
                  refine ⟨by have := HSZ.out; have := HSZ4.out; omega, fun q hq => ?_⟩
                  have hE := HEE.out
                  have := HALL.out q (by rw [hE]; exact hq) (by have := HN.out; rw [hE] at this; omega)
                  simp only [hE] at this
                  exact this
              go_wp2_with fail
              exact ⟨⟨j + 1, y + min k 100, by omega, by go_num, rfl, by rw [HZ.out], by have := HZ.out; have := HZ4.out; omega, by rw [HWT.out, ← HYS.out], HFIN.out, HBF.out _ HBI.out⟩, by simp [intOf]; omega⟩
    · have hj' : j = bl.length := by omega
      subst hj'
      rw [List.take_length] at HYS
      go_wp2_with fail
      go_ret
      exact ⟨decide (bl.length ≤ 60), ret_bool (decide_eq_decide.2 (by omega)), fun h => ⟨by simpa using h, by have := HYS.out; omega, fun i hi => (HF.out i hi hi).1, fun i hi => (HF.out i hi hi).2⟩, HB.out⟩
end Cn
end Go.Proofs.Ytpneejlilgepfaa
