/- Contracts: event.Outside; slices.IndexFunc of events by whatever question; batch.Clone. -/
/- Lists of batches that are read; the reference's Few (events, batches), SameBatch; law13's few. -/
/- law13's few; the reference's SameBatch. -/
/- Contracts: event.Same, command.Match. -/
/- batch.Same and the reference's SameBatch of any two batches. -/
import Derived.Test.YtpneejlilgepfaaGreatDoorMbal
import Derived.Test.YtpneejlilgepfaaGreatDoorMbac
import Derived.StillTailTactics
import Derived.Test.YtpneejlilgepfaaGreatDoorMbak
import Derived.Test.YtpneejlilgepfaaGreatDoorMbag
import Derived.Deep.CutRange
namespace Go.Proofs.YtpneejlilgepfaaGreatDoor
open Go.RowKit
set_option linter.unusedVariables false
set_option linter.unusedSimpArgs false
namespace Cn
open Nm (bitsW ret_int ret_bool)
open Vt (VT Rep BoxAt below_drew Cloned put5 KidsAt HeadOk)
open Ev (EV FieldsOk evCells vCells EBox ERep zeroT take_drop cons_drop)
open Cm (rowOf EvsIn EvsAt EvNew evsSame evSame)

theorem outside_any (k : Int) (w : World) : Calls Tryz.prog 41 #[.int .i64 k] w fun r w' => r = .returned (.bool (decide (1 ≤ k ∧ k ≤ 6))) ∧ w = w' := by
  by_cases h : 1 ≤ k
  · have hb : decide (1 ≤ k) = true := by simpa using h
    go_enter Tryz.func41, Tryz.ntmps41
    go_wp2_with fail
    go_ret
    exact ⟨ret_bool (by simp [h]), rfl⟩
  · have hb : decide (1 ≤ k) = false := by simpa using h
    go_enter Tryz.func41, Tryz.ntmps41
    go_wp2_with fail
    go_ret
    exact ⟨ret_bool (by simp [h]), rfl⟩

/-- A function that answers a question of an event. -/
def Asks (g : Nat) (p : EV → Bool) (es : List EV) : Prop := ∀ (e : EV) (_ : e ∈ es) (lo hi : Nat) (vk vn : Int) (vf : Nat) (vs : ByteArray) (A : Option Addr) (m c : Nat) (w : World), FieldsOk e → Rep w lo hi e.v (vCells vk vn vf vs A m c) → hi ≤ w.heap.size →
  Calls Tryz.prog g #[.agg (evCells e vk vn vf vs A m c)] w fun r w' => r = .returned (.bool (p e)) ∧ Below w.heap.size w w'

theorem asks_outside (es : List EV) : Asks 40 outsideE es := by
  intro e _ lo hi vk vn vf vs A m c w hf hv hz
  have HO := Lib.hid (outside_any e.k)
  have HB := Lib.hid ((Below.refl w.heap.size w).alloc (Nat.le_refl _) (.cells (evCells e vk vn vf vs A m c) 43))
  clear hv hf
  unfold evCells at HB ⊢
  go_enter Tryz.func40, Tryz.ntmps40
  go_wp2_with fail
  refine (HO.out _).mono ?_
  rintro x w1 ⟨rfl, rfl⟩
  go_wp2_with fail
  go_ret
  exact ⟨ret_bool (by simp [outsideE]), HB.out⟩

theorem call_outside (args : Array Value) (w : World) : (callFunc 40 args).run Tryz.prog w = .ok (.enter 40 args) w := by kernel_rfl

/-- The first event of which the question is answered 'yes', or none. -/
def Found (p : EV → Bool) (es : List EV) (i : Int) : Prop := (i = -1 ∧ ∀ m (h : m < es.length), p es[m] = false) ∨ ∃ n : Nat, i = n ∧ ∃ h : n < es.length, p es[n] = true ∧ ∀ m (h : m < es.length), m < n → p es[m] = false

set_option maxRecDepth 100000 in
set_option maxHeartbeats 2000000 in
theorem ifunc_any (g : Nat) (hcall : ∀ args w, (callFunc g args).run Tryz.prog w = .ok (.enter g args) w) (p : EV → Bool) (es : List EV) (hG : Asks g p es) (A : Option Addr) (cap : Nat) (w : World) (h : EvsIn w A cap es) :
    Calls Tryz.prog 87 #[.slice A es.length cap, .func (.func g) #[] #[]] w fun r w' => ∃ i, r = .returned (.int .i64 i) ∧ Found p es i ∧ Below w.heap.size w w' := by
  have hl := h.le
  have hc := h.cap_le
  simp only [maxLen] at hc
  have HK := Lib.hid h; clear h
  have HG := Lib.hid hG; clear hG
  go_enter Tryz.func87, Tryz.ntmps87
  go_wp2_with fail
  go_loopw [4, 8] (fun o i wr => ∃ (j : Nat), j ≤ es.length ∧ i = .int .i64 j ∧ o = .int .i64 0 ∧ (∀ m (h : m < es.length), m < j → p es[m] = false) ∧ Below w.heap.size w wr) (fun _ i _ => es.length - (intOf i).toNat)
  case atStart => exact ⟨0, by omega, rfl, rfl, fun m _ h => absurd h (by omega), Below.refl _ _⟩
  case round =>
    obtain ⟨j, hj, rfl, rfl, hno, hb⟩ := hrel
    have HNO := Lib.hid hno; have HB := Lib.hid hb
    clear hno hb
    by_cases hlt : j < es.length
    · obtain ⟨b, off, lo, hi, vk, vn, vf, vs, A', m, c, rfl, hbl, hf, hv, hhi, d0, d1, d2, d3, d4, d5, d6, d7, d8, d9, d10⟩ := (HK.out.later HB.out).get j hlt
      have HC := Lib.hid (HG.out es[j] (List.getElem_mem hlt) lo hi vk vn vf vs A' m c wr hf hv hhi)
      unfold evCells at HC
      clear hf hv
      go_wp2_with fail
      refine HC.out.mono ?_
      rintro x w1 ⟨rfl, hb1⟩
      have HB1 := Lib.hid (HB.out.trans (hb1.mono HB.out.size))
      clear hb1 d0 d1 d2 d3 d4 d5 d6 d7 d8 d9 d10 HC
      cases hp : p es[j] with
      | true =>
        have HP := Lib.hid hp; clear hp
        go_wp2_with fail
        go_ret
        exact ⟨_, rfl, .inr ⟨j, rfl, hlt, HP.out, HNO.out⟩, HB1.out⟩
      | false =>
        have HP := Lib.hid hp; clear hp
        go_wp2_with fail
        go_roundw
        case rel => exact ⟨j + 1, by omega, by go_num, rfl, fun m h hm => by
          rcases Nat.lt_or_ge m j with q | q
          · exact HNO.out m h q
          · obtain rfl : m = j := by omega
            exact HP.out, HB1.out⟩
        case measure => simp [intOf]; omega
    · have hj' : j = es.length := by omega
      subst hj'
      go_wp2_with fail
      go_ret
      exact ⟨_, rfl, .inl ⟨rfl, fun m h => HNO.out m h h⟩, HB.out⟩

end Cn
end Go.Proofs.YtpneejlilgepfaaGreatDoor
namespace Go.Proofs.YtpneejlilgepfaaGreatDoor
open Go.RowKit
set_option linter.unusedVariables false
set_option linter.unusedSimpArgs false
namespace Cn
open Nm (bitsW ret_int ret_bool)
open Vt (VT Rep BoxAt below_drew Cloned put5 KidsAt HeadOk)
open Ev (EV FieldsOk evCells vCells EBox ERep zeroT take_drop cons_drop)
open Cm (rowOf EvsIn EvsAt EvNew evsSame evSame rsev_any)

/-- Is an event small? -/
def efew (e : EV) : Bool := e.v.few && decide (e.name.size ≤ 1100) && decide (e.text.size ≤ 1100)

set_option maxRecDepth 100000 in
theorem efew_any (e : EV) (hf : FieldsOk e) (lo hi : Nat) (vk vn : Int) (vf : Nat) (vs : ByteArray) (A : Option Addr) (m c : Nat) (w : World) (hv : Rep w lo hi e.v (vCells vk vn vf vs A m c)) (hz : hi ≤ w.heap.size) :
    Calls Tryz.prog 24 #[.agg (evCells e vk vn vf vs A m c)] w fun r w' => r = .returned (.bool (efew e)) ∧ Below w.heap.size w w' := by
  obtain ⟨W0, hW0⟩ : ∃ W0, W0 = w.alloc (.cells (evCells e vk vn vf vs A m c) 43) := ⟨_, rfl⟩
  have hb0 : Below w.heap.size w W0 := by rw [hW0]; exact (Below.refl _ _).alloc (Nat.le_refl _) _
  have hx0 : EBox W0 w.heap.size (evCells e vk vn vf vs A m c) := by rw [hW0]; exact box_ev ..
  have HV := Lib.hid (Vt.few_any e.v W0 lo hi _ (hv.later (hb0.mono hz)) (Nat.le_trans hz hb0.size))
  obtain ⟨g0, g1, g2, g3, g4, g5, g6, g7, g8, g9, g10⟩ := EBox.cells hx0
  have HX0 := Lib.hid hx0
  have HB0 := Lib.hid hb0
  have hsn := hf.s1
  have hst := hf.t1
  simp only [maxLen] at hsn hst
  clear hv hf hx0 hb0
  unfold evCells at hW0 ⊢
  unfold vCells at HV
  replace hW0 := Lib.hid hW0
  go_enter Tryz.func24, Tryz.ntmps24
  go_upto_region 1 with fail
  rw [← hW0.out]
  generalize hfw : e.v.few = fw at *
  have HFW := Lib.hid hfw; clear hfw
  cases fw with
  | false =>
    go_wp2_with (go_at_call 73; refine HV.out.mono ?_; rintro x w1 ⟨rfl, hb1⟩; have HB1 := Lib.hid (HB0.out.trans (hb1.mono HB0.out.size)); clear hb1)
    go_ret
    exact ⟨ret_bool (by unfold efew; rw [HFW.out]; rfl), HB1.out⟩
  | true =>
    by_cases h1 : e.name.size ≤ 1100
    · have k1 : decide ((e.name.size : Int) ≤ 1100) = true := decide_eq_true (by omega)
      by_cases h2 : e.text.size ≤ 1100
      · have k2 : decide ((e.text.size : Int) ≤ 1100) = true := decide_eq_true (by omega)
        go_wp2_with (go_at_call 73; refine HV.out.mono ?_; rintro x w1 ⟨rfl, hb1⟩; have HB1 := Lib.hid (HB0.out.trans (hb1.mono HB0.out.size)); obtain ⟨q0, q1, q2, q3, q4, q5, q6, q7, q8, q9, q10⟩ := EBox.cells (HX0.out.later hb1 HX0.out.lt); clear hb1)
        go_ret
        exact ⟨ret_bool (by unfold efew; rw [HFW.out]; simp; omega), HB1.out⟩
      · have k2 : decide ((e.text.size : Int) ≤ 1100) = false := decide_eq_false (by omega)
        go_wp2_with (go_at_call 73; refine HV.out.mono ?_; rintro x w1 ⟨rfl, hb1⟩; have HB1 := Lib.hid (HB0.out.trans (hb1.mono HB0.out.size)); obtain ⟨q0, q1, q2, q3, q4, q5, q6, q7, q8, q9, q10⟩ := EBox.cells (HX0.out.later hb1 HX0.out.lt); clear hb1)
        go_ret
        exact ⟨ret_bool (by unfold efew; rw [HFW.out]; simp; omega), HB1.out⟩
    · have k1 : decide ((e.name.size : Int) ≤ 1100) = false := decide_eq_false (by omega)
      go_wp2_with (go_at_call 73; refine HV.out.mono ?_; rintro x w1 ⟨rfl, hb1⟩; have HB1 := Lib.hid (HB0.out.trans (hb1.mono HB0.out.size)); obtain ⟨q0, q1, q2, q3, q4, q5, q6, q7, q8, q9, q10⟩ := EBox.cells (HX0.out.later hb1 HX0.out.lt); clear hb1)
      go_ret
      exact ⟨ret_bool (by unfold efew; rw [HFW.out]; simp; omega), HB1.out⟩

/-- A batch. -/
structure BT where mk ::
  flow : ByteArray
  at' : Nat
  es : List EV

/-- A list of batches that can be read. -/
structure BtsIn (w : World) (A : Option Addr) (cap : Nat) (bl : List BT) : Prop where
  le : bl.length ≤ cap
  cap_le : cap ≤ maxLen
  at_ : 0 < bl.length → ∃ b off, A = some ⟨b, off, none⟩ ∧ b < w.heap.size ∧ ∀ i (h : i < bl.length), ∃ A' c', bl[i].flow.size ≤ maxLen ∧ bl[i].at' < 18446744073709551616 ∧ EvsIn w A' c' bl[i].es ∧
    w.cell? ⟨b, off + i * 3, none⟩ = some (.string bl[i].flow) ∧ w.cell? ⟨b, off + i * 3 + 1, none⟩ = some (.int .u64 bl[i].at') ∧ w.cell? ⟨b, off + i * 3 + 2, none⟩ = some (.slice A' bl[i].es.length c')
theorem BtsIn.later {w w' : World} {A : Option Addr} {cap : Nat} {bl : List BT} (h : BtsIn w A cap bl) (hb : Below w.heap.size w w') : BtsIn w' A cap bl := ⟨h.le, h.cap_le, fun hp => by
  obtain ⟨b, off, hA, hlt, h3⟩ := h.at_ hp
  refine ⟨b, off, hA, Nat.lt_of_lt_of_le hlt hb.size, fun i hi => ?_⟩
  obtain ⟨A', c', h4, h5, h6, c0, c1, c2⟩ := h3 i hi
  have e : ∀ o, w'.cell? ⟨b, o, none⟩ = w.cell? ⟨b, o, none⟩ := fun o => hb.cell (p := ⟨b, o, none⟩) hlt
  exact ⟨A', c', h4, h5, h6.later hb, (e _).trans c0, (e _).trans c1, (e _).trans c2⟩⟩

/-- What 'few' tells when it says 'yes'. -/
def wsum (bl : List BT) : Nat := (bl.map fun b => min b.es.length 100).sum
structure FewB (bl : List BT) : Prop where
  len : bl.length ≤ 60
  sum : wsum bl ≤ 150
  flow : ∀ i (h : i < bl.length), bl[i].flow.size ≤ 300
  few : ∀ i (h : i < bl.length) k (hk : k < bl[i].es.length), efew bl[i].es[k] = true

theorem wsum_take (bl : List BT) (j : Nat) (h : j < bl.length) : wsum (bl.take (j + 1)) = wsum (bl.take j) + min bl[j].es.length 100 := by
  unfold wsum
  rw [List.take_succ_eq_append_getElem h, List.map_append, List.sum_append]; simp

def Few12Res (bl : List BT) (w : World) (r : Ending) (w' : World) : Prop := ∃ b, r = .returned (.bool b) ∧ (b = true → FewB bl) ∧ Below w.heap.size w w'
set_option maxRecDepth 100000 in
set_option maxHeartbeats 2000000 in
theorem few12_any (bl : List BT) (A : Option Addr) (cap : Nat) (w : World) (h : BtsIn w A cap bl) :
    Calls Tryz.prog 34 #[.slice A bl.length cap] w (Few12Res bl w) := by
  have hl := h.le
  have hc := h.cap_le
  simp only [maxLen] at hc
  have HK := Lib.hid h; clear h
  go_enter Tryz.func34, Tryz.ntmps34
  go_wp2_with fail
  go_loopw [2, 3, 4] (fun r n i wr => ∃ (j y : Nat), j ≤ bl.length ∧ i = .int .i64 j ∧ r = .bool false ∧ n = .int .i64 y ∧ y ≤ 150 ∧ y = wsum (bl.take j) ∧ (∀ i (h : i < bl.length), i < j → bl[i].flow.size ≤ 300 ∧ ∀ k (hk : k < bl[i].es.length), efew bl[i].es[k] = true) ∧ Below w.heap.size w wr) (fun _ _ i _ => bl.length - (intOf i).toNat)
  case atStart => exact ⟨0, 0, by omega, rfl, rfl, rfl, by omega, rfl, fun i _ h => absurd h (by omega), Below.refl _ _⟩
  case round =>
    obtain ⟨j, y, hj, rfl, rfl, rfl, hy, hys, hfew, hb⟩ := hrel
    have HF := Lib.hid hfew
    have HB := Lib.hid hb
    have HYS := Lib.hid hys
    clear hfew hb hys
    by_cases hlt : j < bl.length
    · obtain ⟨b, off, rfl, hblt, h3⟩ := (HK.out.later HB.out).at_ (by omega)
      obtain ⟨A', c', hfl, hat, hes, d0, d1, d2⟩ := h3 j hlt
      have hle := hes.le
      have hcm := hes.cap_le
      simp only [maxLen] at hcm hfl
      have HES := Lib.hid fun W (hW : Below wr.heap.size wr W) => hes.later hW
      have HD := Lib.hid fun W (hW : Below wr.heap.size wr W) => (hW.cell (p := ⟨b, off + j * 3 + 2, none⟩) hblt).trans d2
      have HWT := Lib.hid (wsum_take bl j hlt)
      clear h3 hes
      obtain ⟨es, hes⟩ : ∃ es, es = bl[j].es := ⟨_, rfl⟩
      rw [← hes] at HES HD HWT d2 hle
      have HEE := Lib.hid hes
      clear hes
      generalize hn : es.length = n at *
      have HN := Lib.hid hn; clear hn
      generalize hff : bl[j].flow = ff at *
      have HSZ : Hid (bl[j].flow.size = ff.size) := Lib.hid (by rw [hff]); clear hff
      go_upto_region 6 with fail
      obtain ⟨z, hz⟩ : ∃ z : Int, z = (y : Int) + (if (100 : Int) < (n : Int) then (100 : Int) else (n : Int)) := ⟨_, rfl⟩
      have hz0 : z = ((y + min n 100 : Nat) : Int) := by rw [hz]; split <;> omega
      rw [← hz]
      have hzz : z ≤ 250 := by omega
      have hzp : 0 ≤ z := by omega
      have HZ := Lib.hid hz0
      clear hz hz0 d1
      generalize (if (100 : Int) < (n : Int) then (100 : Int) else (n : Int)) = mm at *
      by_cases hz4 : 150 < z
      · have hb4 : decide (150 < z) = true := by simpa using hz4
        go_wp2_with fail
        go_ret
        exact ⟨false, rfl, (fun h => by cases h), HB.out⟩
      · have hb4 : decide (150 < z) = false := by simpa using hz4
        by_cases hs4 : 300 < ff.size
        · have hb5 : decide ((300 : Int) < (ff.size : Int)) = true := decide_eq_true (by omega)
          go_wp2_with fail
          go_ret
          exact ⟨false, rfl, (fun h => by cases h), HB.out⟩
        · have hb5 : decide ((300 : Int) < (ff.size : Int)) = false := decide_eq_false (by omega)
          have HSZ4 := Lib.hid hs4
          have HZ4 := Lib.hid hz4
          have HBF := Lib.hid fun W (hW : Below wr.heap.size wr W) => HB.out.trans (hW.mono HB.out.size)
          have hzj : y ≤ 150 := hy
          go_wp2_with fail
          go_loopw [2, 5] (fun r i wi => ∃ (k : Nat), k ≤ n ∧ i = .int .i64 k ∧ r = .bool false ∧ (∀ q (hq : q < es.length), q < k → efew es[q] = true) ∧ Below wr.heap.size wr wi) (fun _ i _ => n - (intOf i).toNat)
          case atStart => exact ⟨0, by omega, rfl, rfl, fun q _ h => absurd h (by omega), Below.refl _ _⟩
          case round =>
            obtain ⟨k, hk, rfl, rfl, hall, hbi⟩ := hrel
            have HALL := Lib.hid hall; have HBI := Lib.hid hbi
            have hdd := HD.out _ hbi
            clear hall hbi
            by_cases hkl : k < n
            · have hke : k < es.length := by have := HN.out; omega
              obtain ⟨b2, off2, lo, hi, vk, vn, vf, vs, A2, m2, c2, rfl, hbl2, hf, hv, hhi, e0, e1, e2, e3, e4, e5, e6, e7, e8, e9, e10⟩ := (HES.out _ HBI.out).get k hke
              have HC := Lib.hid (efew_any es[k] hf lo hi vk vn vf vs A2 m2 c2 _ hv hhi)
              unfold evCells at HC
              clear hf hv
              go_wp2_with fail
              refine HC.out.mono ?_
              rintro x w1 ⟨rfl, hb1⟩
              have HB1 := Lib.hid (HBI.out.trans (hb1.mono HBI.out.size))
              clear hb1 e0 e1 e2 e3 e4 e5 e6 e7 e8 e9 e10 HC
              cases hp : efew es[k] with
              | true =>
                have HP := Lib.hid hp; clear hp
                go_wp2_with fail
                go_roundw
                case rel => exact ⟨k + 1, by omega, by go_num, rfl, fun q h hm => by
                  rcases Nat.lt_or_ge q k with z | z
                  · exact HALL.out q h z
                  · obtain rfl : q = k := by omega
                    exact HP.out, HB1.out⟩
                case measure => simp [intOf]; omega
              | false =>
                have HP := Lib.hid hp; clear hp
                go_wp2_with fail
                go_ret
                exact ⟨false, rfl, (fun h => by cases h), HBF.out _ HB1.out⟩
            · have hk' : k = n := by omega
              subst hk'
              have HFIN : Hid (∀ i (h : i < bl.length), i < j + 1 → bl[i].flow.size ≤ 300 ∧ ∀ k (hk : k < bl[i].es.length), efew bl[i].es[k] = true) := Lib.hid fun i h hij => by
                rcases Nat.lt_or_ge i j with z | z
                · exact HF.out i h z
                · obtain rfl : i = j := by omega
                  refine ⟨by have := HSZ.out; have := HSZ4.out; omega, fun q hq => ?_⟩
                  have hE := HEE.out
                  have := HALL.out q (by rw [hE]; exact hq) (by have := HN.out; rw [hE] at this; omega)
                  simp only [hE] at this
                  exact this
              go_wp2_with fail
              exact ⟨⟨j + 1, y + min k 100, by omega, by go_num, rfl, by rw [HZ.out], by have := HZ.out; have := HZ4.out; omega, by rw [HWT.out, ← HYS.out], HFIN.out, HBF.out _ HBI.out⟩, by simp [intOf]; omega⟩
    · have hj' : j = bl.length := by omega
      subst hj'
      rw [List.take_length] at HYS
      go_wp2_with fail
      go_ret
      exact ⟨decide (bl.length ≤ 60), ret_bool (decide_eq_decide.2 (by omega)), fun h => ⟨by simpa using h, by have := HYS.out; omega, fun i hi => (HF.out i hi hi).1, fun i hi => (HF.out i hi hi).2⟩, HB.out⟩
end Cn
end Go.Proofs.YtpneejlilgepfaaGreatDoor
namespace Go.Proofs.YtpneejlilgepfaaGreatDoor
open Go.RowKit
set_option linter.unusedVariables false
set_option linter.unusedSimpArgs false
namespace Cn
open Nm (bitsW ret_int ret_bool)
open Vt (VT Rep BoxAt below_drew Cloned put5 KidsAt HeadOk)
open Ev (EV FieldsOk evCells vCells EBox ERep zeroT take_drop cons_drop)
open Cm (rowOf EvsIn EvsAt EvNew evsSame evSame rsev_any)

/-- law13's few. -/
def FewLaw (f : ByteArray) (es : List EV) (w : World) (r : Ending) (w' : World) : Prop := ∃ b, r = .returned (.bool b) ∧ (b = true → f.size ≤ 1100 ∧ ∀ k (hk : k < es.length), efew es[k] = true) ∧ Below w.heap.size w w'
set_option maxRecDepth 100000 in
set_option maxHeartbeats 1000000 in
theorem fewlaw_any (es : List EV) (f : ByteArray) (hfs : f.size ≤ maxLen) (at' : Nat) (A : Option Addr) (cap : Nat) (w : World) (h : EvsIn w A cap es) :
    Calls Tryz.prog 7 #[.agg #[.string f, .int .u64 at', .slice A es.length cap]] w (FewLaw f es w) := by
  simp only [maxLen] at hfs
  obtain ⟨W0, hW0⟩ : ∃ W0, W0 = w.alloc (.cells #[.string f, .int .u64 at', .slice A es.length cap] 25) := ⟨_, rfl⟩
  have hx0 : BB W0 w.heap.size f at' A es.length cap := by rw [hW0]; exact heap_alloc_new w _
  have hb0 : Below w.heap.size w W0 := by rw [hW0]; exact (Below.refl _ _).alloc (Nat.le_refl _) _
  have hz0 : W0.heap.size = w.heap.size + 1 := by rw [hW0]; simp
  obtain ⟨W1, hW1⟩ : ∃ W1, W1 = W0.alloc (.cells #[.string ⟨#[]⟩, .int .u64 0, .slice A es.length cap] 25) := ⟨_, rfl⟩
  have hx1 : BB W1 W0.heap.size ⟨#[]⟩ 0 A es.length cap := by rw [hW1]; exact heap_alloc_new W0 _
  have hb1 : Below W0.heap.size W0 W1 := by rw [hW1]; exact (Below.refl _ _).alloc (Nat.le_refl _) _
  have hz1 : W1.heap.size = W0.heap.size + 1 := by rw [hW1]; simp
  obtain ⟨x0, x1, x2, -⟩ := hx1.cells
  have HF := Lib.hid (few12_any [⟨⟨#[]⟩, 0, es⟩] (some ⟨W0.heap.size, 0, none⟩) 1 W1 ⟨by simp, by simp only [maxLen]; omega, fun _ => ⟨_, 0, rfl, by omega, fun i hi => by
    obtain rfl : i = 0 := by simp at hi; omega
    exact ⟨A, cap, (by decide : (⟨#[]⟩ : ByteArray).size ≤ maxLen), (by decide : (0 : Nat) < 18446744073709551616), (h.later hb0).later hb1, by simpa using x0, by simpa using x1, by simpa using x2⟩⟩⟩)
  obtain ⟨c0, c1, c2, -⟩ := hx0.cells
  have HB0 := Lib.hid hb0
  have HB1 := Lib.hid (hb0.trans (hb1.mono hb0.size))
  clear h hx0 hb0 hx1 hb1 x0 x1 x2 hz1 hz0
  replace hW0 := Lib.hid hW0
  replace hW1 := Lib.hid hW1
  simp only [List.length_cons, List.length_nil, Nat.zero_add] at HF
  go_enter Tryz.func7, Tryz.ntmps7
  go_upto_region 1 with fail
  rw [← hW0.out]
  by_cases h1 : f.size ≤ 1100
  · have k1 : decide ((f.size : Int) ≤ 1100) = true := decide_eq_true (by omega)
    have H1 := Lib.hid h1
    go_wp2_with (go_at_call 34; rw [← hW1.out]; refine HF.out.mono ?_; rintro x w1 ⟨b, rfl, hfew, hb2⟩; have HB2 := Lib.hid (HB1.out.trans (hb2.mono HB1.out.size)); have HFW := Lib.hid hfew; clear hb2 hfew)
    go_ret
    refine ⟨b, rfl, fun hb => ⟨H1.out, fun k hk => ?_⟩, HB2.out⟩
    have h9 := (HFW.out hb).few 0 (by simp) k (by simpa using hk)
    simpa using h9
  · have k1 : decide ((f.size : Int) ≤ 1100) = false := decide_eq_false (by omega)
    go_wp2_with fail
    go_ret
    exact ⟨false, rfl, (fun h => by cases h), HB0.out⟩

/-- Are two batches the same? -/
def bsame (f f' : ByteArray) (a a' : Nat) (es es' : List EV) : Bool := decide (f = f') && decide (a = a') && evsSame es es'
theorem evs_all {es es' : List EV} (h : es.length = es'.length) : evsSame es es' = (es.zip es').all (fun p => evSame p.1 p.2) := by simp [evsSame, h]

set_option maxRecDepth 100000 in
set_option maxHeartbeats 2000000 in
theorem rsameb_len (es es' : List EV) (hll : es'.length = es.length) (f : ByteArray) (at' : Nat) (A A' : Option Addr) (cap cap' : Nat) (w : World) (h : EvsIn w A cap es) (h' : EvsIn w A' cap' es') :
    Calls Tryz.prog 9 #[.agg #[.string f, .int .u64 at', .slice A es.length cap], .agg #[.string f, .int .u64 at', .slice A' es'.length cap']] w fun r w' => r = .returned (.bool (evsSame es es')) ∧ Below w.heap.size w w' := by
  have hl := h.le
  have hc := h.cap_le
  have hl' := h'.le
  have hc' := h'.cap_le
  simp only [maxLen] at hc hc'
  obtain ⟨W0, hW0⟩ : ∃ W0, W0 = (w.alloc (.cells #[.string f, .int .u64 at', .slice A es.length cap] 25)).alloc (.cells #[.string f, .int .u64 at', .slice A' es.length cap'] 25) := ⟨_, rfl⟩
  have hx0 : BB W0 w.heap.size f at' A es.length cap := by rw [hW0]; exact (heap_alloc_old _ _ (by simp)).trans (heap_alloc_new w _)
  have hx1 : BB W0 (w.heap.size + 1) f at' A' es.length cap' := by
    rw [hW0]
    have e := heap_alloc_new (w.alloc (.cells #[.string f, .int .u64 at', .slice A es.length cap] 25)) (.cells #[.string f, .int .u64 at', .slice A' es.length cap'] 25)
    rw [World.size_alloc] at e
    exact e
  have hb0 : Below w.heap.size w W0 := by rw [hW0]; exact (((Below.refl _ _).alloc (Nat.le_refl _) _).alloc (by simp) _)
  have hz0 : w.heap.size + 1 < W0.heap.size := by rw [hW0]; simp
  have HK := Lib.hid (h.later hb0); have HK' := Lib.hid (h'.later hb0); clear h h'
  have HLL := Lib.hid hll
  have HR : Hid (evsSame es es' = (es.zip es').all (fun p => evSame p.1 p.2)) := Lib.hid (evs_all hll.symm)
  have HX0 := Lib.hid hx0; have HX1 := Lib.hid hx1; have HB0 := Lib.hid hb0
  obtain ⟨c0, c1, c2, -⟩ := hx0.cells
  obtain ⟨q0, q1, q2, -⟩ := hx1.cells
  rw [HR.out, hll]
  rw [hll] at hl'
  replace hW0 := Lib.hid hW0
  clear hll HR hx0 hx1 hb0
  go_enter Tryz.func9, Tryz.ntmps9
  go_upto_region 1 with fail
  rw [← hW0.out]
  go_wp2_with fail
  clear c0 c1 c2 q0 q1 q2
  go_loopw [4, 5] (fun r i wr => ∃ (j : Nat), j ≤ es.length ∧ i = .int .i64 j ∧ r = .bool false ∧ ((es.zip es').take j).all (fun p => evSame p.1 p.2) = true ∧ Below W0.heap.size W0 wr) (fun _ i _ => es.length - (intOf i).toNat)
  case atStart => exact ⟨0, by omega, rfl, rfl, rfl, Below.refl _ _⟩
  case round =>
    obtain ⟨j, hj, rfl, rfl, hy, hb⟩ := hrel
    have HY := Lib.hid hy; clear hy
    have HB := Lib.hid hb; clear hb
    have HBW := Lib.hid fun W (hW : Below W0.heap.size W0 W) => HB0.out.trans (hW.mono HB0.out.size)
    obtain ⟨-, -, x2, -⟩ := (HX0.out.later HB.out (by omega)).cells
    obtain ⟨-, -, y2, -⟩ := (HX1.out.later HB.out hz0).cells
    by_cases hlt : j < es.length
    · obtain ⟨b, off, lo, hi, vk, vn, vf, vs, A1, m, c, rfl, hblt, hf, hv, hz, d0, d1, d2, d3, d4, d5, d6, d7, d8, d9, d10⟩ := (HK.out.later HB.out).get j hlt
      obtain ⟨b', off', lo', hi', vk', vn', vf', vs', A1', m', c', rfl, hblt', hf', hv', hz', g0, g1, g2, g3, g4, g5, g6, g7, g8, g9, g10⟩ := (HK'.out.later HB.out).get j (by have := HLL.out; omega)
      have HS := Lib.hid (rsev_any es[j] (es'[j]'(by have := HLL.out; omega)) wr.drew lo hi lo' hi' _ _ ⟨hf, vk, vn, vf, vs, A1, m, c, rfl, hv.drew⟩ hz ⟨hf', vk', vn', vf', vs', A1', m', c', rfl, hv'.drew⟩ hz')
      clear hf hf' hv hv'
      unfold evCells at HS
      go_wp2_with fail
      go_still_tail 10, (by kernel_rfl)
      go_wp2_with fail
      refine HS.out.mono ?_
      rintro e w1 ⟨rfl, hb1⟩
      have hb1' : Below wr.heap.size wr w1 := (below_drew (Below.refl _ _)).trans hb1
      clear hb1
      have HB1 := Lib.hid (HB.out.trans (hb1'.mono HB.out.size))
      clear hb1' HS d0 d1 d2 d3 d4 d5 d6 d7 d8 d9 d10 g0 g1 g2 g3 g4 g5 g6 g7 g8 g9 g10
      have hzl : j < (es.zip es').length := by rw [List.length_zip, HLL.out]; simpa using hlt
      have hge : evSame ((es.zip es')[j]'hzl).1 ((es.zip es')[j]'hzl).2 = evSame es[j] (es'[j]'(by have := HLL.out; omega)) := by rw [List.getElem_zip]
      have HGE := Lib.hid hge; clear hge
      cases hp : evSame es[j] (es'[j]'(by have := HLL.out; omega)) with
      | true =>
        have HP := Lib.hid hp; clear hp
        go_wp2_with fail
        go_roundw
        case rel => exact ⟨j + 1, by omega, by go_num, rfl, by rw [Vt.all_take_succ _ _ _ hzl, HY.out, HGE.out, HP.out]; rfl, HB1.out⟩
        case measure => simp [intOf]; omega
      | false =>
        have HP := Lib.hid hp; clear hp
        go_wp2_with fail
        go_ret
        exact ⟨ret_bool (by rw [Vt.all_false _ _ j hzl (by rw [HGE.out]; exact HP.out)]), HBW.out _ HB1.out⟩
    · have hj' : j = es.length := by omega
      have HJ := Lib.hid hj'
      clear hj'
      go_wp2_with fail
      go_ret
      have hall : (es.zip es').all (fun p => evSame p.1 p.2) = true := by
        have := HY.out
        rw [HJ.out, List.take_of_length_le (by rw [List.length_zip, HLL.out]; simp)] at this
        exact this
      exact ⟨ret_bool (by rw [hall]), HBW.out _ HB.out⟩
end Cn
end Go.Proofs.YtpneejlilgepfaaGreatDoor
namespace Go.Proofs.YtpneejlilgepfaaGreatDoor
open Go.RowKit
set_option linter.unusedVariables false
namespace Cm
open Nm (bitsW ret_int ret_bool)
open Vt (VT Rep BoxAt below_drew Cloned put5 toList_inj)
open Ev (EV FieldsOk evCells vCells EBox ERep zeroT)

theorem four (w : World) (Z1 Z2 Z3 Z4 : Obj) : ((((w.alloc Z1).alloc Z2).alloc Z3).alloc Z4).drew.heap[w.heap.size]? = some Z1 ∧ ((((w.alloc Z1).alloc Z2).alloc Z3).alloc Z4).drew.heap[w.heap.size + 1]? = some Z2 ∧
    ((((w.alloc Z1).alloc Z2).alloc Z3).alloc Z4).drew.heap[w.heap.size + 1 + 1]? = some Z3 ∧ ((((w.alloc Z1).alloc Z2).alloc Z3).alloc Z4).drew.heap[w.heap.size + 1 + 1 + 1]? = some Z4 ∧ Below w.heap.size w ((((w.alloc Z1).alloc Z2).alloc Z3).alloc Z4).drew := by
  have e : ∀ W : World, W.drew.heap = W.heap := fun _ => rfl
  have n1 := heap_alloc_new w Z1
  have n2 := heap_alloc_new (w.alloc Z1) Z2
  have n3 := heap_alloc_new ((w.alloc Z1).alloc Z2) Z3
  have n4 := heap_alloc_new (((w.alloc Z1).alloc Z2).alloc Z3) Z4
  simp only [World.size_alloc] at n2 n3 n4
  refine ⟨?_, ?_, ?_, n4, below_drew ((((Below.refl w.heap.size w).alloc (Nat.le_refl _) Z1).alloc (by simp) Z2).alloc (by simp; omega) Z3 |>.alloc (by simp; omega) Z4)⟩
  · rw [e, heap_alloc_old _ _ (by simp only [World.size_alloc]; omega), heap_alloc_old _ _ (by simp only [World.size_alloc]; omega), heap_alloc_old _ _ (by simp only [World.size_alloc]; omega), n1]
  · rw [e, heap_alloc_old _ _ (by simp only [World.size_alloc]; omega), heap_alloc_old _ _ (by simp only [World.size_alloc]; omega), n2]
  · rw [e, heap_alloc_old _ _ (by simp only [World.size_alloc]; omega), n3]

set_option maxRecDepth 100000 in
set_option maxHeartbeats 400000 in
theorem evsame_cut (a b : EV) (w : World) (lo hi lo' hi' : Nat) (x y : Value) (hR : ERep w lo hi a x) (hz : hi ≤ w.heap.size) (hR' : ERep w lo' hi' b y) (hz' : hi' ≤ w.heap.size) :
    Calls Tryz.prog 36 #[x, y] w fun r w' => r = .returned (.bool (evSame a b)) ∧ Below w.heap.size w w' := by
  obtain ⟨hf, vk, vn, vf, vs, A, m, c, rfl, hv⟩ := hR
  obtain ⟨hf', vk', vn', vf', vs', A', m', c', rfl, hv'⟩ := hR'
  have HB0 := Lib.hid fun Z Z' => ((Below.refl w.heap.size w).alloc (Nat.le_refl _) Z).alloc (by simp) Z'
  have HS := Lib.hid fun W (hW : Below w.heap.size w W) => Vt.same_any a.v b.v W lo hi lo' hi' _ _ (hv.later (hW.mono hz)) (Nat.le_trans hz hW.size) (hv'.later (hW.mono hz')) (Nat.le_trans hz' hW.size)
  clear hv hv' hf hf'
  obtain ⟨R, hRR⟩ : ∃ R, R = evSame a b := ⟨_, rfl⟩
  rw [← hRR]
  replace hRR := Lib.hid hRR
  obtain ⟨k, id, n, at', name, text, v⟩ := a
  obtain ⟨k', id', n', at'', name', text', v'⟩ := b
  unfold vCells at HS
  simp only at HS
  unfold evCells
  go_enter Tryz.func36, Tryz.ntmps36
  go_upto_region 1 with fail
  go_cut [5, 6] from 7 to 10 (fun z z' wx => ∃ g g', z = .pointer (some ⟨g, 0, none⟩) ∧ z' = .pointer (some ⟨g', 0, none⟩) ∧ BoxAt wx g vk vn vf vs A m c ∧ BoxAt wx g' vk' vn' vf' vs' A' m' c' ∧
    EBox wx w.heap.size (evCells ⟨k, id, n, at', name, text, v⟩ vk vn vf vs A m c) ∧ EBox wx (w.heap.size + 1) (evCells ⟨k', id', n', at'', name', text', v'⟩ vk' vn' vf' vs' A' m' c') ∧ Below w.heap.size w wx)
  case first =>
    go_region
    all_goals go_wp2_with fail
    all_goals go_meet
    case' rel => exact ⟨_, _, rfl, rfl, (four _ _ _ _ _).2.2.1, (four _ _ _ _ _).2.2.2.1, (four _ _ _ _ _).1, (four _ _ _ _ _).2.1, (four _ _ _ _ _).2.2.2.2⟩
    all_goals exact ⟨_, _, rfl, rfl, (four _ _ _ _ _).2.2.2.1, (four _ _ _ _ _).2.2.1, (four _ _ _ _ _).1, (four _ _ _ _ _).2.1, (four _ _ _ _ _).2.2.2.2⟩
  case rest =>
    obtain ⟨g, g', rfl, rfl, hx, hx', hy, hy', hb0⟩ := hcut
    obtain ⟨c0, c1, c2, c3, c4⟩ := hx.cells
    obtain ⟨d0, d1, d2, d3, d4⟩ := hx'.cells
    obtain ⟨a0, a1, a2, a3, a4, a5, -⟩ := EBox.cells hy
    obtain ⟨b0, b1, b2, b3, b4, b5, -⟩ := EBox.cells hy'
    have HB := Lib.hid hb0
    have HS1 := Lib.hid (HS.out wc hb0)
    clear hx hx' hy hy' hb0 HS HB0
    by_cases hh : HeadE ⟨k, id, n, at', name, text, v⟩ ⟨k', id', n', at'', name', text', v'⟩
    · have HRR := Lib.hid (hRR.out.trans (evSame_head hh))
      obtain ⟨h1, h2, h3, h4, h5, h6⟩ := hh
      simp only at h1 h2 h3 h4 h5 h6
      subst h1 h2 h3 h4 h5 h6
      go_wp2_with fail
      refine HS1.out.mono ?_
      rintro e w1 ⟨rfl, hb⟩
      have HB1 := Lib.hid (HB.out.trans (hb.mono HB.out.size))
      clear hb
      go_wp2_with fail
      go_ret
      exact ⟨ret_bool (by rw [HRR.out]), HB1.out⟩
    · have HRR := Lib.hid (hRR.out.trans (evSame_not hh))
      have H := Lib.hid hh; clear hh
      go_wp2_with fail
      all_goals first
        | (go_ret; exact ⟨ret_bool (by rw [HRR.out]), HB.out⟩)
        | (exfalso
           refine H.out ⟨?_, ?_, ?_, ?_, ?_, ?_⟩
           all_goals clear H HS1 HB HRR hRR
           all_goals first
             | assumption
             | (exact (toList_inj _ _).1 (by assumption))
             | omega
             | (simp at *; omega))

end Cm
end Go.Proofs.YtpneejlilgepfaaGreatDoor
namespace Go.Proofs.YtpneejlilgepfaaGreatDoor
open Go.RowKit
set_option linter.unusedVariables false
set_option linter.unusedSimpArgs false
namespace Bs
open _root_.Go.Proofs.YtpneejlilgepfaaGreatDoor.Nm (bitsW ret_int ret_bool)
open Vt (VT Rep BoxAt below_drew)
open Ev (EV FieldsOk evCells vCells EBox ERep)
open Cm (EvsIn evsSame evSame evsame_cut)
open Cn (BB bsame evs_all rsameb_len)

set_option maxRecDepth 100000 in
set_option maxHeartbeats 2000000 in
theorem eqfev_any (es es' : List EV) (A A' : Option Addr) (cap cap' : Nat) (w : World) (h : EvsIn w A cap es) (h' : EvsIn w A' cap' es') :
    Calls Tryz.prog 35 #[.slice A es.length cap, .slice A' es'.length cap', .func (.func 36) #[] #[]] w fun r w' => r = .returned (.bool (evsSame es es')) ∧ Below w.heap.size w w' := by
  have hl := h.le
  have hc := h.cap_le
  have hl' := h'.le
  have hc' := h'.cap_le
  simp only [maxLen] at hc hc'
  have HK := Lib.hid h; have HK' := Lib.hid h'; clear h h'
  by_cases hll : es'.length = es.length
  · have HLL := Lib.hid hll
    have HR : Hid (evsSame es es' = (es.zip es').all (fun p => evSame p.1 p.2)) := Lib.hid (evs_all hll.symm)
    rw [HR.out, hll]
    rw [hll] at hl'
    clear hll HR
    go_enter Tryz.func35, Tryz.ntmps35
    go_wp2_with fail
    go_loopw [6, 17] (fun r i wr => ∃ (j : Nat), j ≤ es.length ∧ i = .int .i64 j ∧ r = .bool false ∧ ((es.zip es').take j).all (fun p => evSame p.1 p.2) = true ∧ Below w.heap.size w wr) (fun _ i _ => es.length - (intOf i).toNat)
    case atStart => exact ⟨0, by omega, rfl, rfl, rfl, Below.refl _ _⟩
    case round =>
      obtain ⟨j, hj, rfl, rfl, hy, hb⟩ := hrel
      have HY := Lib.hid hy; clear hy
      have HB := Lib.hid hb; clear hb
      by_cases hlt : j < es.length
      · obtain ⟨b, off, lo, hi, vk, vn, vf, vs, A1, m, c, rfl, hblt, hf, hv, hz, d0, d1, d2, d3, d4, d5, d6, d7, d8, d9, d10⟩ := (HK.out.later HB.out).get j hlt
        obtain ⟨b', off', lo', hi', vk', vn', vf', vs', A1', m', c', rfl, hblt', hf', hv', hz', g0, g1, g2, g3, g4, g5, g6, g7, g8, g9, g10⟩ := (HK'.out.later HB.out).get j (by have := HLL.out; omega)
        have hY : ∀ Z Z', Below wr.heap.size wr ((wr.alloc Z).alloc Z') := fun Z Z' => ((Below.refl wr.heap.size wr).alloc (Nat.le_refl _) Z).alloc (by simp) Z'
        have HYY := Lib.hid hY
        have HS := Lib.hid fun Z Z' => evsame_cut es[j] (es'[j]'(by have := HLL.out; omega)) ((wr.alloc Z).alloc Z') lo hi lo' hi' _ _ ⟨hf, vk, vn, vf, vs, A1, m, c, rfl, hv.later ((hY Z Z').mono hz)⟩ (Nat.le_trans hz (hY Z Z').size) ⟨hf', vk', vn', vf', vs', A1', m', c', rfl, hv'.later ((hY Z Z').mono hz')⟩ (Nat.le_trans hz' (hY Z Z').size)
        clear hf hf' hv hv' hY
        unfold evCells at HS
        go_wp2_with fail
        refine (HS.out _ _).mono ?_
        rintro e w1 ⟨rfl, hb1⟩
        have HB1 := Lib.hid (HB.out.trans (((HYY.out _ _).trans (hb1.mono (HYY.out _ _).size)).mono HB.out.size))
        clear hb1 HS d0 d1 d2 d3 d4 d5 d6 d7 d8 d9 d10 g0 g1 g2 g3 g4 g5 g6 g7 g8 g9 g10 HYY
        have hzl : j < (es.zip es').length := by rw [List.length_zip, HLL.out]; simpa using hlt
        have hge : evSame ((es.zip es')[j]'hzl).1 ((es.zip es')[j]'hzl).2 = evSame es[j] (es'[j]'(by have := HLL.out; omega)) := by rw [List.getElem_zip]
        have HGE := Lib.hid hge; clear hge
        cases hp : evSame es[j] (es'[j]'(by have := HLL.out; omega)) with
        | true =>
          have HP := Lib.hid hp; clear hp
          go_wp2_with fail
          go_roundw
          case rel => exact ⟨j + 1, by omega, by go_num, rfl, by rw [Vt.all_take_succ _ _ _ hzl, HY.out, HGE.out, HP.out]; rfl, HB1.out⟩
          case measure => simp [intOf]; omega
        | false =>
          have HP := Lib.hid hp; clear hp
          go_wp2_with fail
          go_ret
          exact ⟨ret_bool (by rw [Vt.all_false _ _ j hzl (by rw [HGE.out]; exact HP.out)]), HB1.out⟩
      · have hj' : j = es.length := by omega
        have HJ := Lib.hid hj'
        clear hj'
        go_wp2_with fail
        go_ret
        have hall : (es.zip es').all (fun p => evSame p.1 p.2) = true := by
          have := HY.out
          rw [HJ.out, List.take_of_length_le (by rw [List.length_zip, HLL.out]; simp)] at this
          exact this
        exact ⟨ret_bool (by rw [hall]), HB.out⟩
  · have HR : Hid (evsSame es es' = false) := Lib.hid (by rw [evsSame, Bool.and_eq_false_iff]; left; simpa using fun h => hll h.symm)
    have hne : ((es.length : Int) != (es'.length : Int)) = true := by simp; omega
    rw [HR.out]
    clear hll HR HK HK'
    generalize es.length = m at *
    generalize es'.length = m' at *
    go_enter Tryz.func35, Tryz.ntmps35
    go_wp2_with fail
    go_ret
    exact ⟨rfl, Below.refl _ _⟩

theorem str_ne {x y : ByteArray} (h : x ≠ y) : (x.toList == y.toList) = false := by
  rw [Vt.toList_data, Vt.toList_data]
  refine beq_eq_false_iff_ne.2 fun e => h ?_
  cases x with | mk x => cases y with | mk y => simp at e; rw [e]

set_option maxRecDepth 100000 in
set_option maxHeartbeats 1000000 in
theorem bsame_any (es es' : List EV) (f f' : ByteArray) (a a' : Nat) (A A' : Option Addr) (cap cap' : Nat) (w : World) (h : EvsIn w A cap es) (h' : EvsIn w A' cap' es') :
    Calls Tryz.prog 10 #[.agg #[.string f, .int .u64 a, .slice A es.length cap], .agg #[.string f', .int .u64 a', .slice A' es'.length cap']] w fun r w' => r = .returned (.bool (bsame f f' a a' es es')) ∧ Below w.heap.size w w' := by
  have HB0 := Lib.hid fun Z Z' => ((Below.refl w.heap.size w).alloc (Nat.le_refl _) Z).alloc (by simp) Z'
  have HE := Lib.hid fun W (hW : Below w.heap.size w W) => eqfev_any es es' A A' cap cap' W (h.later hW) (h'.later hW)
  clear h h'
  by_cases hf : f = f'
  · subst hf
    by_cases ha : a = a'
    · subst ha
      have HR : Hid (bsame f f a a es es' = evsSame es es') := Lib.hid (by simp [bsame])
      rw [HR.out]
      go_enter Tryz.func10, Tryz.ntmps10
      go_wp2_with fail
      refine (HE.out _ (HB0.out _ _)).mono ?_
      rintro e w1 ⟨rfl, hb1⟩
      have HB1 := Lib.hid ((HB0.out _ _).trans (hb1.mono (HB0.out _ _).size))
      clear hb1
      go_wp2_with fail
      go_ret
      exact ⟨rfl, HB1.out⟩
    · have hne : ((a : Int) == (a' : Int)) = false := by simp; omega
      have HR : Hid (bsame f f a a' es es' = false) := Lib.hid (by simp [bsame, ha])
      rw [HR.out]
      clear HR ha
      go_enter Tryz.func10, Tryz.ntmps10
      go_wp2_with fail
      go_ret
      exact ⟨rfl, HB0.out _ _⟩
  · have hne : (f.toList == f'.toList) = false := str_ne hf
    have HR : Hid (bsame f f' a a' es es' = false) := Lib.hid (by simp [bsame, hf])
    rw [HR.out]
    clear HR hf
    go_enter Tryz.func10, Tryz.ntmps10
    go_wp2_with fail
    go_ret
    exact ⟨rfl, HB0.out _ _⟩

set_option maxRecDepth 100000 in
set_option maxHeartbeats 1000000 in
theorem rsameb_any (es es' : List EV) (f f' : ByteArray) (a a' : Nat) (A A' : Option Addr) (cap cap' : Nat) (w : World) (h : EvsIn w A cap es) (h' : EvsIn w A' cap' es') :
    Calls Tryz.prog 9 #[.agg #[.string f, .int .u64 a, .slice A es.length cap], .agg #[.string f', .int .u64 a', .slice A' es'.length cap']] w fun r w' => r = .returned (.bool (bsame f f' a a' es es')) ∧ Below w.heap.size w w' := by
  have HB0 := Lib.hid fun Z Z' => ((Below.refl w.heap.size w).alloc (Nat.le_refl _) Z).alloc (by simp) Z'
  by_cases hf : f = f'
  · subst hf
    by_cases ha : a = a'
    · subst ha
      have HR : Hid (bsame f f a a es es' = evsSame es es') := Lib.hid (by simp [bsame])
      rw [HR.out]
      by_cases hll : es'.length = es.length
      · exact rsameb_len es es' hll f a A A' cap cap' w h h'
      · have HQ : Hid (evsSame es es' = false) := Lib.hid (by rw [evsSame, Bool.and_eq_false_iff]; left; simpa using fun h => hll h.symm)
        have hne : ((es.length : Int) != (es'.length : Int)) = true := by simp; omega
        rw [HQ.out]
        clear hll HR HQ h h'
        generalize es.length = m at *
        generalize es'.length = m' at *
        go_enter Tryz.func9, Tryz.ntmps9
        go_wp2_with fail
        go_ret
        exact ⟨rfl, HB0.out _ _⟩
    · have hne : ((a : Int) != (a' : Int)) = true := by simp; omega
      have HR : Hid (bsame f f a a' es es' = false) := Lib.hid (by simp [bsame, ha])
      rw [HR.out]
      clear HR ha h h'
      go_enter Tryz.func9, Tryz.ntmps9
      go_wp2_with fail
      go_ret
      exact ⟨rfl, HB0.out _ _⟩
  · have hne : (f.toList == f'.toList) = false := str_ne hf
    have hne2 : (f.toList != f'.toList) = true := by rw [bne, hne]; rfl
    have HR : Hid (bsame f f' a a' es es' = false) := Lib.hid (by simp [bsame, hf])
    rw [HR.out]
    clear HR hf h h'
    go_enter Tryz.func9, Tryz.ntmps9
    go_wp2_with fail
    go_ret
    exact ⟨rfl, HB0.out _ _⟩
end Bs
end Go.Proofs.YtpneejlilgepfaaGreatDoor
