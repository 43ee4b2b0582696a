/- Lists of batches that are read; the reference's Few (events, batches), SameBatch; law13's few. -/
/- law13's few; the reference's SameBatch. -/
/- batch.Same and the reference's SameBatch of any two batches. -/
/- Events, lists of events and batches that came in, opened. -/
/- A batch that came in, of small bulk. -/
import Derived.Laws.Rows
import Derived.Laws.IdiomRangeMap
import Derived.Test.YtcbddebmmaflgaaGreatDoorMiai
import Derived.Test.YtcbddebmmaflgaaGreatDoorMiab
import Derived.StillTailTactics
import Derived.ChangeMaps5
import Derived.ChangeArms
import Derived.Deep.Draws
import Derived.ProofKit
import Derived.OpenShut
import Derived.Lib.SmallJoins
import Derived.SizedLaws
import Derived.Test.YtcbddebmmaflgaaGreatDoorRows
namespace Go.Proofs.YtcbddebmmaflgaaGreatDoor
open Go.RowKit
set_option linter.unusedVariables false
set_option linter.unusedSimpArgs false
namespace Cn
open Nm (bitsW ret_int ret_bool)
open Vt (VT Rep BoxAt below_drew put5 KidsAt HeadOk)
open Ev (EV FieldsOk evCells vCells EBox ERep zeroT take_drop tk cons_drop)
open Cm (rowOf EvsIn EvsAt EvNew evsSame evSame rsev_any)

/-- Is an event small? -/
def efew (e : EV) : Bool := e.v.few && decide (e.name.size ≤ 1100) && decide (e.text.size ≤ 1100)

set_option maxRecDepth 100000 in
theorem efew_any (e : EV) (hf : FieldsOk e) (lo hi : Nat) (vk vn : Int) (vf : Nat) (vs : ByteArray) (A : Option Addr) (m c : Nat) (w : World) (hv : Rep w lo hi e.v (vCells vk vn vf vs A m c)) (hz : hi ≤ w.heap.size) :
    Calls Tryz.prog 13 #[.agg (evCells e vk vn vf vs A m c)] w fun r w' => r = .returned (.bool (efew e)) ∧ Below w.heap.size w w' := by
  obtain ⟨W0, hW0⟩ : ∃ W0, W0 = w.alloc (.cells (evCells e vk vn vf vs A m c) 32) := ⟨_, rfl⟩
  have hb0 : Below w.heap.size w W0 := by rw [hW0]; exact (Below.refl _ _).alloc (Nat.le_refl _) _
  have hx0 : EBox W0 w.heap.size (evCells e vk vn vf vs A m c) := by rw [hW0]; exact box_ev ..
  have HV := Lib.hid (Vt.few_any e.v W0 lo hi _ (hv.later (hb0.mono hz)) (Nat.le_trans hz hb0.size))
  obtain ⟨g0, g1, g2, g3, g4, g5, g6, g7, g8, g9, g10⟩ := EBox.cells hx0
  have HX0 := Lib.hid hx0
  have HB0 := Lib.hid hb0
  have hsn := hf.s1
  have hst := hf.t1
  simp only [maxLen] at hsn hst
  clear hv hf hx0 hb0
  unfold evCells at hW0 ⊢
  unfold vCells at HV
  replace hW0 := Lib.hid hW0
  go_enter Tryz.func13, Tryz.ntmps13
  go_upto_region 1 with fail
  rw [← hW0.out]
  generalize hfw : e.v.few = fw at *
  have HFW := Lib.hid hfw; clear hfw
  cases fw with
  | false =>
    go_wp2_with (go_at_call 51; refine HV.out.mono ?_; rintro x w1 ⟨rfl, hb1⟩; have HB1 := Lib.hid (HB0.out.trans (hb1.mono HB0.out.size)); clear hb1)
    go_ret
    exact ⟨ret_bool (by unfold efew; rw [HFW.out]; rfl), HB1.out⟩
  | true =>
    by_cases h1 : e.name.size ≤ 1100
    · have k1 : decide ((e.name.size : Int) ≤ 1100) = true := decide_eq_true (by omega)
      by_cases h2 : e.text.size ≤ 1100
      · have k2 : decide ((e.text.size : Int) ≤ 1100) = true := decide_eq_true (by omega)
        go_wp2_with (go_at_call 51; refine HV.out.mono ?_; rintro x w1 ⟨rfl, hb1⟩; have HB1 := Lib.hid (HB0.out.trans (hb1.mono HB0.out.size)); obtain ⟨q0, q1, q2, q3, q4, q5, q6, q7, q8, q9, q10⟩ := EBox.cells (HX0.out.later hb1 HX0.out.lt); clear hb1)
        go_ret
        exact ⟨ret_bool (by unfold efew; rw [HFW.out]; simp; omega), HB1.out⟩
      · have k2 : decide ((e.text.size : Int) ≤ 1100) = false := decide_eq_false (by omega)
        go_wp2_with (go_at_call 51; refine HV.out.mono ?_; rintro x w1 ⟨rfl, hb1⟩; have HB1 := Lib.hid (HB0.out.trans (hb1.mono HB0.out.size)); obtain ⟨q0, q1, q2, q3, q4, q5, q6, q7, q8, q9, q10⟩ := EBox.cells (HX0.out.later hb1 HX0.out.lt); clear hb1)
        go_ret
        exact ⟨ret_bool (by unfold efew; rw [HFW.out]; simp; omega), HB1.out⟩
    · have k1 : decide ((e.name.size : Int) ≤ 1100) = false := decide_eq_false (by omega)
      go_wp2_with (go_at_call 51; refine HV.out.mono ?_; rintro x w1 ⟨rfl, hb1⟩; have HB1 := Lib.hid (HB0.out.trans (hb1.mono HB0.out.size)); obtain ⟨q0, q1, q2, q3, q4, q5, q6, q7, q8, q9, q10⟩ := EBox.cells (HX0.out.later hb1 HX0.out.lt); clear hb1)
      go_ret
      exact ⟨ret_bool (by unfold efew; rw [HFW.out]; simp; omega), HB1.out⟩

/-- A batch. -/
structure BT where mk ::
  flow : ByteArray
  at' : Nat
  es : List EV

/-- A list of batches that can be read. -/
structure BtsIn (w : World) (A : Option Addr) (cap : Nat) (bl : List BT) : Prop where
  le : bl.length ≤ cap
  cap_le : cap ≤ maxLen
  at_ : 0 < bl.length → ∃ b off, A = some ⟨b, off, none⟩ ∧ b < w.heap.size ∧ ∀ i (h : i < bl.length), ∃ A' c', bl[i].flow.size ≤ maxLen ∧ bl[i].at' < 18446744073709551616 ∧ EvsIn w A' c' bl[i].es ∧
    w.cell? ⟨b, off + i * 3, none⟩ = some (.string bl[i].flow) ∧ w.cell? ⟨b, off + i * 3 + 1, none⟩ = some (.int .u64 bl[i].at') ∧ w.cell? ⟨b, off + i * 3 + 2, none⟩ = some (.slice A' bl[i].es.length c')
theorem BtsIn.later {w w' : World} {A : Option Addr} {cap : Nat} {bl : List BT} (h : BtsIn w A cap bl) (hb : Below w.heap.size w w') : BtsIn w' A cap bl := ⟨h.le, h.cap_le, fun hp => by
  obtain ⟨b, off, hA, hlt, h3⟩ := h.at_ hp
  refine ⟨b, off, hA, Nat.lt_of_lt_of_le hlt hb.size, fun i hi => ?_⟩
  obtain ⟨A', c', h4, h5, h6, c0, c1, c2⟩ := h3 i hi
  have e : ∀ o, w'.cell? ⟨b, o, none⟩ = w.cell? ⟨b, o, none⟩ := fun o => hb.cell (p := ⟨b, o, none⟩) hlt
  exact ⟨A', c', h4, h5, h6.later hb, (e _).trans c0, (e _).trans c1, (e _).trans c2⟩⟩

/-- What 'few' tells when it says 'yes'. -/
def wsum (bl : List BT) : Nat := (bl.map fun b => min b.es.length 100).sum
structure FewB (bl : List BT) : Prop where
  len : bl.length ≤ 60
  sum : wsum bl ≤ 150
  flow : ∀ i (h : i < bl.length), bl[i].flow.size ≤ 300
  few : ∀ i (h : i < bl.length) k (hk : k < bl[i].es.length), efew bl[i].es[k] = true

theorem wsum_take (bl : List BT) (j : Nat) (h : j < bl.length) : wsum (bl.take (j + 1)) = wsum (bl.take j) + min bl[j].es.length 100 := by
  unfold wsum
  rw [List.take_succ_eq_append_getElem h, List.map_append, List.sum_append]; simp

def Few12Res (bl : List BT) (w : World) (r : Ending) (w' : World) : Prop := ∃ b, r = .returned (.bool b) ∧ (b = true → FewB bl) ∧ Below w.heap.size w w'
set_option maxRecDepth 100000 in
set_option maxHeartbeats 2000000 in
theorem few12_any (bl : List BT) (A : Option Addr) (cap : Nat) (w : World) (h : BtsIn w A cap bl) :
    Calls Tryz.prog 66 #[.slice A bl.length cap] w (Few12Res bl w) := by
  have hl := h.le
  have hc := h.cap_le
  simp only [maxLen] at hc
  have HK := Lib.hid h; clear h
  go_enter Tryz.func66, Tryz.ntmps66
  go_wp2_with fail
  go_loopw [2, 3, 4] (fun r n i wr => ∃ (j y : Nat), j ≤ bl.length ∧ i = .int .i64 j ∧ r = .bool false ∧ n = .int .i64 y ∧ y ≤ 150 ∧ y = wsum (bl.take j) ∧ (∀ i (h : i < bl.length), i < j → bl[i].flow.size ≤ 300 ∧ ∀ k (hk : k < bl[i].es.length), efew bl[i].es[k] = true) ∧ Below w.heap.size w wr) (fun _ _ i _ => bl.length - (intOf i).toNat)
  case atStart => exact ⟨0, 0, by omega, rfl, rfl, rfl, by omega, rfl, fun i _ h => absurd h (by omega), Below.refl _ _⟩
  case round =>
    obtain ⟨j, y, hj, rfl, rfl, rfl, hy, hys, hfew, hb⟩ := hrel
    have HF := Lib.hid hfew
    have HB := Lib.hid hb
    have HYS := Lib.hid hys
    clear hfew hb hys
    by_cases hlt : j < bl.length
    · obtain ⟨b, off, rfl, hblt, h3⟩ := (HK.out.later HB.out).at_ (by omega)
      obtain ⟨A', c', hfl, hat, hes, d0, d1, d2⟩ := h3 j hlt
      have hle := hes.le
      have hcm := hes.cap_le
      simp only [maxLen] at hcm hfl
      have HES := Lib.hid fun W (hW : Below wr.heap.size wr W) => hes.later hW
      have HD := Lib.hid fun W (hW : Below wr.heap.size wr W) => (hW.cell (p := ⟨b, off + j * 3 + 2, none⟩) hblt).trans d2
      have HWT := Lib.hid (wsum_take bl j hlt)
      clear h3 hes
      obtain ⟨es, hes⟩ : ∃ es, es = bl[j].es := ⟨_, rfl⟩
      rw [← hes] at HES HD HWT d2 hle
      have HEE := Lib.hid hes
      clear hes
      generalize hn : es.length = n at *
      have HN := Lib.hid hn; clear hn
      generalize hff : bl[j].flow = ff at *
      have HSZ : Hid (bl[j].flow.size = ff.size) := Lib.hid (by rw [hff]); clear hff
      go_upto_region 6 with fail
      obtain ⟨z, hz⟩ : ∃ z : Int, z = (y : Int) + (if (100 : Int) < (n : Int) then (100 : Int) else (n : Int)) := ⟨_, rfl⟩
      have hz0 : z = ((y + min n 100 : Nat) : Int) := by rw [hz]; split <;> omega
      rw [← hz]
      have hzz : z ≤ 250 := by omega
      have hzp : 0 ≤ z := by omega
      have HZ := Lib.hid hz0
      clear hz hz0 d1
      generalize (if (100 : Int) < (n : Int) then (100 : Int) else (n : Int)) = mm at *
      by_cases hz4 : 150 < z
      · have hb4 : decide (150 < z) = true := by simpa using hz4
        go_wp2_with fail
        go_ret
        exact ⟨false, rfl, (fun h => by cases h), HB.out⟩
      · have hb4 : decide (150 < z) = false := by simpa using hz4
        by_cases hs4 : 300 < ff.size
        · have hb5 : decide ((300 : Int) < (ff.size : Int)) = true := decide_eq_true (by omega)
          go_wp2_with fail
          go_ret
          exact ⟨false, rfl, (fun h => by cases h), HB.out⟩
        · have hb5 : decide ((300 : Int) < (ff.size : Int)) = false := decide_eq_false (by omega)
          have HSZ4 := Lib.hid hs4
          have HZ4 := Lib.hid hz4
          have HBF := Lib.hid fun W (hW : Below wr.heap.size wr W) => HB.out.trans (hW.mono HB.out.size)
          have hzj : y ≤ 150 := hy
          go_wp2_with fail
          go_loopw [2, 5] (fun r i wi => ∃ (k : Nat), k ≤ n ∧ i = .int .i64 k ∧ r = .bool false ∧ (∀ q (hq : q < es.length), q < k → efew es[q] = true) ∧ Below wr.heap.size wr wi) (fun _ i _ => n - (intOf i).toNat)
          case atStart => exact ⟨0, by omega, rfl, rfl, fun q _ h => absurd h (by omega), Below.refl _ _⟩
          case round =>
            obtain ⟨k, hk, rfl, rfl, hall, hbi⟩ := hrel
            have HALL := Lib.hid hall; have HBI := Lib.hid hbi
            have hdd := HD.out _ hbi
            clear hall hbi
            by_cases hkl : k < n
            · have hke : k < es.length := by have := HN.out; omega
              obtain ⟨b2, off2, lo, hi, vk, vn, vf, vs, A2, m2, c2, rfl, hbl2, hf, hv, hhi, e0, e1, e2, e3, e4, e5, e6, e7, e8, e9, e10⟩ := (HES.out _ HBI.out).get k hke
              have HC := Lib.hid (efew_any es[k] hf lo hi vk vn vf vs A2 m2 c2 _ hv hhi)
              unfold evCells at HC
              clear hf hv
              go_wp2_with fail
              refine HC.out.mono ?_
              rintro x w1 ⟨rfl, hb1⟩
              have HB1 := Lib.hid (HBI.out.trans (hb1.mono HBI.out.size))
              clear hb1 e0 e1 e2 e3 e4 e5 e6 e7 e8 e9 e10 HC
              cases hp : efew es[k] with
              | true =>
                have HP := Lib.hid hp; clear hp
                go_wp2_with fail
                go_roundw
                case rel => exact ⟨k + 1, by omega, by go_num, rfl, fun q h hm => by
                  rcases Nat.lt_or_ge q k with z | z
                  · exact HALL.out q h z
                  · obtain rfl : q = k := by omega
                    exact HP.out, HB1.out⟩
                case measure => simp [intOf]; omega
              | false =>
                have HP := Lib.hid hp; clear hp
                go_wp2_with fail
                go_ret
                exact ⟨false, rfl, (fun h => by cases h), HBF.out _ HB1.out⟩
            · have hk' : k = n := by omega
              subst hk'
              have HFIN : Hid (∀ i (h : i < bl.length), i < j + 1 → bl[i].flow.size ≤ 300 ∧ ∀ k (hk : k < bl[i].es.length), efew bl[i].es[k] = true) := Lib.hid fun i h hij => by
                rcases Nat.lt_or_ge i j with z | z
                · exact HF.out i h z
                · obtain rfl : i = j := by omega
                  refine ⟨by have := HSZ.out; have := HSZ4.out; omega, fun q hq => ?_⟩
                  have hE := HEE.out
                  have := HALL.out q (by rw [hE]; exact hq) (by have := HN.out; rw [hE] at this; omega)
                  simp only [hE] at this
                  exact this
              go_wp2_with fail
              exact ⟨⟨j + 1, y + min k 100, by omega, by go_num, rfl, by rw [HZ.out], by have := HZ.out; have := HZ4.out; omega, by rw [HWT.out, ← HYS.out], HFIN.out, HBF.out _ HBI.out⟩, by simp [intOf]; omega⟩
    · have hj' : j = bl.length := by omega
      subst hj'
      rw [List.take_length] at HYS
      go_wp2_with fail
      go_ret
      exact ⟨decide (bl.length ≤ 60), ret_bool (decide_eq_decide.2 (by omega)), fun h => ⟨by simpa using h, by have := HYS.out; omega, fun i hi => (HF.out i hi hi).1, fun i hi => (HF.out i hi hi).2⟩, HB.out⟩
end Cn
end Go.Proofs.YtcbddebmmaflgaaGreatDoor
namespace Go.Proofs.YtcbddebmmaflgaaGreatDoor
open Go.RowKit
set_option linter.unusedVariables false
set_option linter.unusedSimpArgs false
namespace Cn
open Nm (bitsW ret_int ret_bool)
open Vt (VT Rep BoxAt below_drew put5 KidsAt HeadOk)
open Ev (EV FieldsOk evCells vCells EBox ERep zeroT take_drop tk cons_drop)
open Cm (rowOf EvsIn EvsAt EvNew evsSame evSame rsev_any)

/-- law13's few. -/
def FewLaw (f : ByteArray) (es : List EV) (w : World) (r : Ending) (w' : World) : Prop := ∃ b, r = .returned (.bool b) ∧ (b = true → f.size ≤ 1100 ∧ ∀ k (hk : k < es.length), efew es[k] = true) ∧ Below w.heap.size w w'
set_option maxRecDepth 100000 in
set_option maxHeartbeats 1000000 in
theorem fewlaw_any (es : List EV) (f : ByteArray) (hfs : f.size ≤ maxLen) (at' : Nat) (A : Option Addr) (cap : Nat) (w : World) (h : EvsIn w A cap es) :
    Calls Tryz.prog 20 #[.agg #[.string f, .int .u64 at', .slice A es.length cap]] w (FewLaw f es w) := by
  simp only [maxLen] at hfs
  obtain ⟨W0, hW0⟩ : ∃ W0, W0 = w.alloc (.cells #[.string f, .int .u64 at', .slice A es.length cap] 49) := ⟨_, rfl⟩
  have hx0 : BB W0 w.heap.size f at' A es.length cap := by rw [hW0]; exact heap_alloc_new w _
  have hb0 : Below w.heap.size w W0 := by rw [hW0]; exact (Below.refl _ _).alloc (Nat.le_refl _) _
  have hz0 : W0.heap.size = w.heap.size + 1 := by rw [hW0]; simp
  obtain ⟨W1, hW1⟩ : ∃ W1, W1 = W0.alloc (.cells #[.string ⟨#[]⟩, .int .u64 0, .slice A es.length cap] 49) := ⟨_, rfl⟩
  have hx1 : BB W1 W0.heap.size ⟨#[]⟩ 0 A es.length cap := by rw [hW1]; exact heap_alloc_new W0 _
  have hb1 : Below W0.heap.size W0 W1 := by rw [hW1]; exact (Below.refl _ _).alloc (Nat.le_refl _) _
  have hz1 : W1.heap.size = W0.heap.size + 1 := by rw [hW1]; simp
  obtain ⟨x0, x1, x2, -⟩ := hx1.cells
  have HF := Lib.hid (few12_any [⟨⟨#[]⟩, 0, es⟩] (some ⟨W0.heap.size, 0, none⟩) 1 W1 ⟨by simp, by simp only [maxLen]; omega, fun _ => ⟨_, 0, rfl, by omega, fun i hi => by
    obtain rfl : i = 0 := by simp at hi; omega
    exact ⟨A, cap, (by decide : (⟨#[]⟩ : ByteArray).size ≤ maxLen), (by decide : (0 : Nat) < 18446744073709551616), (h.later hb0).later hb1, by simpa using x0, by simpa using x1, by simpa using x2⟩⟩⟩)
  obtain ⟨c0, c1, c2, -⟩ := hx0.cells
  have HB0 := Lib.hid hb0
  have HB1 := Lib.hid (hb0.trans (hb1.mono hb0.size))
  clear h hx0 hb0 hx1 hb1 x0 x1 x2 hz1 hz0
  replace hW0 := Lib.hid hW0
  replace hW1 := Lib.hid hW1
  simp only [List.length_cons, List.length_nil, Nat.zero_add] at HF
  go_enter Tryz.func20, Tryz.ntmps20
  go_upto_region 1 with fail
  rw [← hW0.out]
  by_cases h1 : f.size ≤ 1100
  · have k1 : decide ((f.size : Int) ≤ 1100) = true := decide_eq_true (by omega)
    have H1 := Lib.hid h1
    go_wp2_with (go_at_call 66; rw [← hW1.out]; refine HF.out.mono ?_; rintro x w1 ⟨b, rfl, hfew, hb2⟩; have HB2 := Lib.hid (HB1.out.trans (hb2.mono HB1.out.size)); have HFW := Lib.hid hfew; clear hb2 hfew)
    go_ret
    refine ⟨b, rfl, fun hb => ⟨H1.out, fun k hk => ?_⟩, HB2.out⟩
    have h9 := (HFW.out hb).few 0 (by simp) k (by simpa using hk)
    simpa using h9
  · have k1 : decide ((f.size : Int) ≤ 1100) = false := decide_eq_false (by omega)
    go_wp2_with fail
    go_ret
    exact ⟨false, rfl, (fun h => by cases h), HB0.out⟩

theorem evs_all {es es' : List EV} (h : es.length = es'.length) : evsSame es es' = (es.zip es').all (fun p => evSame p.1 p.2) := by simp [evsSame, h]

set_option maxRecDepth 100000 in
set_option maxHeartbeats 2000000 in
theorem rsameb_len (es es' : List EV) (hll : es'.length = es.length) (f : ByteArray) (at' : Nat) (A A' : Option Addr) (cap cap' : Nat) (w : World) (h : EvsIn w A cap es) (h' : EvsIn w A' cap' es') :
    Calls Tryz.prog 28 #[.agg #[.string f, .int .u64 at', .slice A es.length cap], .agg #[.string f, .int .u64 at', .slice A' es'.length cap']] w fun r w' => r = .returned (.bool (evsSame es es')) ∧ Below w.heap.size w w' := by
  have hl := h.le
  have hc := h.cap_le
  have hl' := h'.le
  have hc' := h'.cap_le
  simp only [maxLen] at hc hc'
  obtain ⟨W0, hW0⟩ : ∃ W0, W0 = (w.alloc (.cells #[.string f, .int .u64 at', .slice A es.length cap] 49)).alloc (.cells #[.string f, .int .u64 at', .slice A' es.length cap'] 49) := ⟨_, rfl⟩
  have hx0 : BB W0 w.heap.size f at' A es.length cap := by rw [hW0]; exact (heap_alloc_old _ _ (by simp)).trans (heap_alloc_new w _)
  have hx1 : BB W0 (w.heap.size + 1) f at' A' es.length cap' := by
    rw [hW0]
    have e := heap_alloc_new (w.alloc (.cells #[.string f, .int .u64 at', .slice A es.length cap] 49)) (.cells #[.string f, .int .u64 at', .slice A' es.length cap'] 49)
    rw [World.size_alloc] at e
    exact e
  have hb0 : Below w.heap.size w W0 := by rw [hW0]; exact (((Below.refl _ _).alloc (Nat.le_refl _) _).alloc (by simp) _)
  have hz0 : w.heap.size + 1 < W0.heap.size := by rw [hW0]; simp
  have HK := Lib.hid (h.later hb0); have HK' := Lib.hid (h'.later hb0); clear h h'
  have HLL := Lib.hid hll
  have HR : Hid (evsSame es es' = (es.zip es').all (fun p => evSame p.1 p.2)) := Lib.hid (evs_all hll.symm)
  have HX0 := Lib.hid hx0; have HX1 := Lib.hid hx1; have HB0 := Lib.hid hb0
  obtain ⟨c0, c1, c2, -⟩ := hx0.cells
  obtain ⟨q0, q1, q2, -⟩ := hx1.cells
  rw [HR.out, hll]
  rw [hll] at hl'
  replace hW0 := Lib.hid hW0
  clear hll HR hx0 hx1 hb0
  go_enter Tryz.func28, Tryz.ntmps28
  go_upto_region 1 with fail
  rw [← hW0.out]
  go_wp2_with fail
  clear c0 c1 c2 q0 q1 q2
  go_loopw [4, 5] (fun r i wr => ∃ (j : Nat), j ≤ es.length ∧ i = .int .i64 j ∧ r = .bool false ∧ ((es.zip es').take j).all (fun p => evSame p.1 p.2) = true ∧ Below W0.heap.size W0 wr) (fun _ i _ => es.length - (intOf i).toNat)
  case atStart => exact ⟨0, by omega, rfl, rfl, rfl, Below.refl _ _⟩
  case round =>
    obtain ⟨j, hj, rfl, rfl, hy, hb⟩ := hrel
    have HY := Lib.hid hy; clear hy
    have HB := Lib.hid hb; clear hb
    have HBW := Lib.hid fun W (hW : Below W0.heap.size W0 W) => HB0.out.trans (hW.mono HB0.out.size)
    obtain ⟨-, -, x2, -⟩ := (HX0.out.later HB.out (by omega)).cells
    obtain ⟨-, -, y2, -⟩ := (HX1.out.later HB.out hz0).cells
    by_cases hlt : j < es.length
    · obtain ⟨b, off, lo, hi, vk, vn, vf, vs, A1, m, c, rfl, hblt, hf, hv, hz, d0, d1, d2, d3, d4, d5, d6, d7, d8, d9, d10⟩ := (HK.out.later HB.out).get j hlt
      obtain ⟨b', off', lo', hi', vk', vn', vf', vs', A1', m', c', rfl, hblt', hf', hv', hz', g0, g1, g2, g3, g4, g5, g6, g7, g8, g9, g10⟩ := (HK'.out.later HB.out).get j (by have := HLL.out; omega)
      have HS := Lib.hid (rsev_any es[j] (es'[j]'(by have := HLL.out; omega)) wr.drew lo hi lo' hi' _ _ ⟨hf, vk, vn, vf, vs, A1, m, c, rfl, hv.drew⟩ hz ⟨hf', vk', vn', vf', vs', A1', m', c', rfl, hv'.drew⟩ hz')
      clear hf hf' hv hv'
      unfold evCells at HS
      go_wp2_with fail
      go_still_tail 10, (by kernel_rfl)
      go_wp2_with fail
      refine HS.out.mono ?_
      rintro e w1 ⟨rfl, hb1⟩
      have hb1' : Below wr.heap.size wr w1 := (below_drew (Below.refl _ _)).trans hb1
      clear hb1
      have HB1 := Lib.hid (HB.out.trans (hb1'.mono HB.out.size))
      clear hb1' HS d0 d1 d2 d3 d4 d5 d6 d7 d8 d9 d10 g0 g1 g2 g3 g4 g5 g6 g7 g8 g9 g10
      have hzl : j < (es.zip es').length := by rw [List.length_zip, HLL.out]; simpa using hlt
      have hge : evSame ((es.zip es')[j]'hzl).1 ((es.zip es')[j]'hzl).2 = evSame es[j] (es'[j]'(by have := HLL.out; omega)) := by rw [List.getElem_zip]
      have HGE := Lib.hid hge; clear hge
      cases hp : evSame es[j] (es'[j]'(by have := HLL.out; omega)) with
      | true =>
        have HP := Lib.hid hp; clear hp
        go_wp2_with fail
        go_roundw
        case rel => exact ⟨j + 1, by omega, by go_num, rfl, by rw [Vt.all_take_succ _ _ _ hzl, HY.out, HGE.out, HP.out]; rfl, HB1.out⟩
        case measure => simp [intOf]; omega
      | false =>
        have HP := Lib.hid hp; clear hp
        go_wp2_with fail
        go_ret
        exact ⟨ret_bool (by rw [Vt.all_false _ _ j hzl (by rw [HGE.out]; exact HP.out)]), HBW.out _ HB1.out⟩
    · have hj' : j = es.length := by omega
      have HJ := Lib.hid hj'
      clear hj'
      go_wp2_with fail
      go_ret
      have hall : (es.zip es').all (fun p => evSame p.1 p.2) = true := by
        have := HY.out
        rw [HJ.out, List.take_of_length_le (by rw [List.length_zip, HLL.out]; simp)] at this
        exact this
      exact ⟨ret_bool (by rw [hall]), HBW.out _ HB.out⟩
end Cn
end Go.Proofs.YtcbddebmmaflgaaGreatDoor
namespace Go.Proofs.YtcbddebmmaflgaaGreatDoor
open Go.RowKit
set_option linter.unusedVariables false
set_option linter.unusedSimpArgs false
namespace Bs
open _root_.Go.Proofs.YtcbddebmmaflgaaGreatDoor.Nm (bitsW ret_int ret_bool)
open Vt (VT Rep BoxAt below_drew)
open Ev (EV FieldsOk evCells vCells EBox ERep)
open Cm (EvsIn evsSame evSame)
open Cn (BB evs_all rsameb_len)

end Bs
end Go.Proofs.YtcbddebmmaflgaaGreatDoor
namespace Go.Proofs.YtcbddebmmaflgaaGreatDoor
open Go.RowKit
set_option linter.unusedVariables false
namespace Cn
open Vt (VT Rep)
open Ev (EV FieldsOk evCells vCells)
open Cm (EvsIn)
open Go.ChangeShapes Go.WideShapes Go.ChangeAt Go.Joins Go.Deep

theorem eleven (cs : List Value) (h : cs.length = 11) : ∃ a b c d e f g i j k l, cs = [a, b, c, d, e, f, g, i, j, k, l] := by
  match cs, h with
  | [a, b, c, d, e, f, g, i, j, k, l], _ => exact ⟨a, b, c, d, e, f, g, i, j, k, l, rfl⟩
theorem three (cs : List Value) (h : cs.length = 3) : ∃ a b c, cs = [a, b, c] := by
  match cs, h with
  | [a, b, c], _ => exact ⟨a, b, c, rfl⟩

set_option maxRecDepth 100000 in
theorem open_ev {H : Type} {enc : TypeId × Value → H} {W : World} {base : Nat} {spare : Nat → Bool} {held : Bool} (fuel : Nat) (cs : List Value) (x : DataW H × List MemPlace)
    (h : DataW.trod enc Tryz.prog W base spare held fuel 32 cs = some x) : ∃ (e : EV) (vk vn : Int) (vf : Nat) (vs : ByteArray) (A' : Option Addr) (m c : Nat), FieldsOk e ∧ Rep W base W.heap.size e.v (vCells vk vn vf vs A' m c) ∧ cs = (evCells e vk vn vf vs A' m c).toList := by
  have hC : Tryz.prog.cellsOf 32 = 11 := by kernel_rfl
  obtain ⟨xs, n, hn, hx, hlen, hxl, hg⟩ := DataW.trod_struct Tryz.underlying32 h
  obtain ⟨c0, c1, c2, c3, c4, c5, c6, c7, c8, c9, c10, rfl⟩ := eleven cs (hlen.trans hC)
  have hx : ∀ j : Nat, j < 7 → ∃ y, xs[j]? = some y := fun j hj => ⟨_, List.getElem?_eq_getElem (by rw [hxl]; exact hj)⟩
  obtain ⟨y0, z0⟩ := hx 0 (by omega); obtain ⟨y1, z1⟩ := hx 1 (by omega); obtain ⟨y2, z2⟩ := hx 2 (by omega); obtain ⟨y3, z3⟩ := hx 3 (by omega); obtain ⟨y4, z4⟩ := hx 4 (by omega); obtain ⟨y5, z5⟩ := hx 5 (by omega); obtain ⟨y6, z6⟩ := hx 6 (by omega)
  have g0 := (hg 0 _ rfl).trans z0; have g1 := (hg 1 _ rfl).trans z1; have g2 := (hg 2 _ rfl).trans z2; have g3 := (hg 3 _ rfl).trans z3; have g4 := (hg 4 _ rfl).trans z4; have g5 := (hg 5 _ rfl).trans z5; have g6 := (hg 6 _ rfl).trans z6
  have k1 : Tryz.prog.cellsOf 3 = 1 := by kernel_rfl
  have k2 : Tryz.prog.cellsOf 9 = 1 := by kernel_rfl
  have k3 : Tryz.prog.cellsOf 30 = 5 := by kernel_rfl
  have k4 : Tryz.prog.cellsOf 26 = 1 := by kernel_rfl
  simp [k1, k2, k3, k4] at g0 g1 g2 g3 g4 g5 g6
  obtain ⟨k, e0, -, w0⟩ := DataW.trod_int Tryz.underlying3 g0
  obtain ⟨id, e1, -, w1⟩ := DataW.trod_int Tryz.underlying26 g1
  obtain ⟨n2, e2, -, w2⟩ := DataW.trod_int Tryz.underlying3 g2
  obtain ⟨at', e3, -, w3⟩ := DataW.trod_int Tryz.underlying26 g3
  obtain ⟨nm, e4, -, w4⟩ := DataW.trod_string Tryz.underlying9 g4
  obtain ⟨tx, e5, -, w5⟩ := DataW.trod_string Tryz.underlying9 g5
  obtain ⟨t, ht⟩ := Vt.open_vt _ _ _ g6
  obtain rfl := List.singleton_inj.1 e0
  obtain rfl := List.singleton_inj.1 e1
  obtain rfl := List.singleton_inj.1 e2
  obtain rfl := List.singleton_inj.1 e3
  obtain rfl := List.singleton_inj.1 e4
  obtain rfl := List.singleton_inj.1 e5
  simp [Lit.wf, IntKind.min, IntKind.max, IntKind.bits, IntKind.signed] at w0 w1 w2 w3
  obtain ⟨vk, vn, vf, vs, l, A', cap, -, hv, -⟩ := ht.open_
  rw [hv] at ht
  injection hv with hv
  simp at hv
  obtain ⟨rfl, rfl, rfl, rfl, rfl⟩ := hv
  obtain ⟨mid, hmid⟩ : ∃ mn : Nat, id = mn := ⟨id.toNat, by omega⟩
  obtain ⟨mat, hmat⟩ : ∃ mn : Nat, at' = mn := ⟨at'.toNat, by omega⟩
  subst hmid hmat
  exact ⟨⟨k, mid, n2, mat, nm, tx, t⟩, vk, vn, vf, vs, A', l.length, cap, ⟨by show _ ≤ k; omega, by show k ≤ _; omega, by show mid < _; omega, by show _ ≤ n2; omega, by show n2 ≤ _; omega, by show mat < _; omega, w4, w5⟩, ht, rfl⟩

set_option maxRecDepth 100000 in
theorem evs_trod {H : Type} {enc : TypeId × Value → H} {W : World} {b1 : Nat} {spare : Nat → Bool} {held : Bool} (fuel : Nat) (c0 : Value) (x : DataW H × List MemPlace)
    (hf : DataW.trod enc Tryz.prog W b1 spare held fuel 47 [c0] = some x) : ∃ es A cap, c0 = .slice A es.length cap ∧ EvsIn W A cap es ∧ ((es = [] ∧ x.1 = .nil) ∨ ∃ elems rest, x.1 = .slice elems rest ∧ elems.length = es.length) := by
  have hC : Tryz.prog.cellsOf 32 = 11 := by kernel_rfl
  rcases DataW.trod_slice Tryz.underlying47 hf with ⟨e4, rfl⟩ | ⟨a, l0, cp0, elems, rest, n', hn', e4, rfl, hb, hl, hm, hel, he, -, -⟩
  · obtain rfl := List.singleton_inj.1 e4
    exact ⟨[], none, 0, rfl, ⟨Nat.le_refl _, Nat.zero_le _, fun h => absurd h (by simp)⟩, .inl ⟨rfl, rfl⟩⟩
  · obtain rfl := List.singleton_inj.1 e4
    have h4 : ∀ i : Nat, ∃ tC : EV × (Int × Int × Nat × ByteArray × Option Addr × Nat × Nat), i < l0 → FieldsOk tC.1 ∧ Rep W b1 W.heap.size tC.1.v (vCells tC.2.1 tC.2.2.1 tC.2.2.2.1 tC.2.2.2.2.1 tC.2.2.2.2.2.1 tC.2.2.2.2.2.2.1 tC.2.2.2.2.2.2.2) ∧
        ∀ j, j < 11 → W.cell? (a.add (i * 11) |>.add j) = (evCells tC.1 tC.2.1 tC.2.2.1 tC.2.2.2.1 tC.2.2.2.2.1 tC.2.2.2.2.2.1 tC.2.2.2.2.2.2.1 tC.2.2.2.2.2.2.2)[j]? := fun i => by
      by_cases hi : i < l0
      · have e := he i hi
        rw [List.getElem?_eq_getElem (by omega)] at e
        obtain ⟨cs', q1, q2⟩ := Option.bind_eq_some_iff.1 e
        obtain ⟨o, vk, vn, vf, vs, A', m, c, p1, p3, rfl⟩ := open_ev n' cs' _ q2
        rw [hC] at q1
        obtain ⟨_, ql, qc⟩ := World.cells?_some q1
        exact ⟨(o, vk, vn, vf, vs, A', m, c), fun _ => ⟨p1, p3, fun j hj => by rw [qc j hj, Array.getElem?_toList]⟩⟩
      · exact ⟨(⟨0, 0, 0, 0, .empty, .empty, .mk 0 0 0 .empty []⟩, 0, 0, 0, .empty, none, 0, 0), fun h => absurd h hi⟩
    obtain ⟨F, hF⟩ := Classical.axiomOfChoice h4
    have hlen' : ((List.range l0).map fun i => (F i).1).length = l0 := by simp
    refine ⟨(List.range l0).map fun i => (F i).1, some a, cp0, by rw [hlen'], ⟨by rw [hlen']; exact hl, hm, fun hp => ?_⟩, .inr ⟨_, _, rfl, by rw [hlen', List.length_map]; exact hel⟩⟩
    rw [hlen'] at hp
    have h0 := (hF 0 hp).2.2 0 (by omega)
    obtain ⟨b, off, spot⟩ := a
    have hs : spot = none := by
      cases spot with
      | none => rfl
      | some q =>
        simp [Addr.add, World.cell?, evCells] at h0
        split at h0 <;> simp at h0
    subst hs
    have hlt : b < W.heap.size := by
      rcases Nat.lt_or_ge b W.heap.size with q | q
      · exact q
      · simp [Addr.add, World.cell?, Array.getElem?_eq_none q, evCells] at h0
    refine ⟨b, off, rfl, hlt, fun i hi => ?_⟩
    rw [hlen'] at hi
    obtain ⟨p1, p3, p4⟩ := hF i hi
    refine ⟨b1, W.heap.size, _, _, _, _, _, _, _, by simpa using p1, by simpa using p3, Nat.le_refl _, fun j hj => ?_⟩
    have := p4 j hj
    rw [Go.Deep.add_add, add_plain] at this
    rw [Nat.add_assoc, this]
    simp

end Cn
end Go.Proofs.YtcbddebmmaflgaaGreatDoor
namespace Go.Proofs.YtcbddebmmaflgaaGreatDoor
open Go.RowKit
set_option linter.unusedVariables false
set_option linter.unusedSimpArgs false
namespace Rd
open Vt (VT Rep)
open Ev (EV FieldsOk evCells vCells)
open Cm (EvsIn)
open Cn (three evs_trod)
open Go.ChangeShapes Go.WideShapes Go.ChangeAt Go.Joins Go.Deep

theorem bulk_pos {H : Type} (d : DataW H) : 1 ≤ Rows.uptoBulk d := by
  cases d with
  | lit l => cases l <;> simp [Rows.uptoBulk]
  | _ => simp only [Rows.uptoBulk]; omega
theorem bulk_len {H : Type} (l : List (DataW H)) : l.length ≤ Rows.uptoBulkAll l := by
  induction l with
  | nil => simp
  | cons d l ih =>
    simp only [Rows.uptoBulkAll, List.length_cons]
    have := bulk_pos d
    omega
set_option maxRecDepth 100000 in
/-- A BATCH THAT CAME IN. 'n' bounds what it weighs. -/
theorem batch_shape {H : Type} {enc : TypeId × Value → H} {base b1 : Nat} {spare : Nat → Bool} {held : Bool} {d : DataW H} {p : List MemPlace} (v : Value) (W : World)
    (o : Value.okWide Tryz.prog W .any base 49 v) (k : DataW.Trod enc Tryz.prog W b1 spare held 49 v d p) :
    ∃ (f : ByteArray) (at' : Nat) (es : List EV) (A : Option Addr) (cap : Nat), v = .agg #[.string f, .int .u64 at', .slice A es.length cap] ∧ f.size ≤ maxLen ∧ at' < 18446744073709551616 ∧ EvsIn W A cap es ∧
      ∃ x0 x1 x2, d = .agg [x0, x1, x2] ∧ ((es = [] ∧ x2 = .nil) ∨ ∃ elems rest, x2 = .slice elems rest ∧ elems.length = es.length) := by
  have hC : Tryz.prog.cellsOf 49 = 3 := by kernel_rfl
  obtain ⟨cs0, rfl, -⟩ := okWide_struct Tryz.underlying49 o
  obtain ⟨fuel, hf⟩ := k
  have hcs : (Value.agg cs0).cells.toList = cs0.toList := rfl
  rw [hcs] at hf
  obtain ⟨xs, n, hn, hx, hlen, hxl, hg⟩ := DataW.trod_struct Tryz.underlying49 hf
  obtain ⟨c0, c1, c2, e⟩ := three cs0.toList (hlen.trans hC)
  obtain ⟨x0, x1, x2, rfl⟩ : ∃ x0 x1 x2, xs = [x0, x1, x2] := by
    have : xs.length = 3 := hxl
    match xs, this with
    | [a, b, c], _ => exact ⟨a, b, c, rfl⟩
  have g0 := hg 0 _ rfl; have g1 := hg 1 _ rfl; have g2 := hg 2 _ rfl
  have k2 : Tryz.prog.cellsOf 9 = 1 := by kernel_rfl
  have k3 : Tryz.prog.cellsOf 47 = 1 := by kernel_rfl
  have k4 : Tryz.prog.cellsOf 26 = 1 := by kernel_rfl
  rw [e] at g0 g1 g2
  simp [k2, k3, k4] at g0 g1 g2
  obtain ⟨s, e0, -, w0⟩ := DataW.trod_string Tryz.underlying9 g0
  obtain ⟨m, e1, -, w1⟩ := DataW.trod_int Tryz.underlying26 g1
  obtain rfl := List.singleton_inj.1 e0
  obtain rfl := List.singleton_inj.1 e1
  simp [Lit.wf, IntKind.min, IntKind.max, IntKind.bits, IntKind.signed] at w1
  obtain ⟨es, A, cap, rfl, hes, hd⟩ := evs_trod n c2 x2 g2
  obtain ⟨mn, hmn⟩ : ∃ mn : Nat, m = mn := ⟨m.toNat, by omega⟩
  subst hmn
  have hdd : d = .agg [x0.1, x1.1, x2.1] := by injection hx
  refine ⟨s, mn, es, A, cap, ?_, w0, by omega, hes, x0.1, x1.1, x2.1, hdd, hd⟩
  · have : cs0 = #[.string s, .int .u64 mn, .slice A es.length cap] := by
      apply Array.toList_inj.1
      exact e
    rw [this]

theorem small_len {H : Type} {d x0 x1 x2 : DataW H} {es : List EV} (hd : d = .agg [x0, x1, x2]) (h : (es = [] ∧ x2 = .nil) ∨ ∃ elems rest, x2 = .slice elems rest ∧ elems.length = es.length) (hb : Rows.uptoBulk d ≤ 1048576) : es.length ≤ 2097152 := by
  rcases h with ⟨rfl, -⟩ | ⟨elems, rest, rfl, hl⟩
  · simp
  · rw [hd] at hb
    simp only [Rows.uptoBulk, Rows.uptoBulkAll] at hb
    have := bulk_len elems
    omega
theorem small_all {H : Type} {l : List (DataW H)} (h : Rows.uptoSmall H l = true) : Rows.uptoBulkAll l ≤ 1048576 := of_decide_eq_true h
end Rd
end Go.Proofs.YtcbddebmmaflgaaGreatDoor
