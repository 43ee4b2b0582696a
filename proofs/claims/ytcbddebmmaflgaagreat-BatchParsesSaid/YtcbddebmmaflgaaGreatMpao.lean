/- Lists of batches that are read; the reference's Few (events, batches), SameBatch; law13's few. -/
/- law13's few; the reference's SameBatch. -/
import Derived.Test.YtcbddebmmaflgaaGreatMpal
import Derived.Test.YtcbddebmmaflgaaGreatMpac
import Derived.StillTailTactics
namespace Go.Proofs.YtcbddebmmaflgaaGreat
open Go.RowKit
set_option linter.unusedVariables false
set_option linter.unusedSimpArgs false
namespace Cn
open Nm (bitsW ret_int ret_bool)
open Vt (VT Rep BoxAt below_drew put5 KidsAt HeadOk)
open Ev (EV FieldsOk evCells vCells EBox ERep zeroT take_drop cons_drop)
open Cm (rowOf EvsIn EvsAt EvNew evsSame evSame rsev_any)

/-- A batch. -/
structure BT where mk ::
  flow : ByteArray
  at' : Nat
  es : List EV

/-- A list of batches that can be read. -/
structure BtsIn (w : World) (A : Option Addr) (cap : Nat) (bl : List BT) : Prop where
  le : bl.length ≤ cap
  cap_le : cap ≤ maxLen
  at_ : 0 < bl.length → ∃ b off, A = some ⟨b, off, none⟩ ∧ b < w.heap.size ∧ ∀ i (h : i < bl.length), ∃ A' c', bl[i].flow.size ≤ maxLen ∧ bl[i].at' < 18446744073709551616 ∧ EvsIn w A' c' bl[i].es ∧
    w.cell? ⟨b, off + i * 3, none⟩ = some (.string bl[i].flow) ∧ w.cell? ⟨b, off + i * 3 + 1, none⟩ = some (.int .u64 bl[i].at') ∧ w.cell? ⟨b, off + i * 3 + 2, none⟩ = some (.slice A' bl[i].es.length c')
theorem BtsIn.later {w w' : World} {A : Option Addr} {cap : Nat} {bl : List BT} (h : BtsIn w A cap bl) (hb : Below w.heap.size w w') : BtsIn w' A cap bl := ⟨h.le, h.cap_le, fun hp => by
  obtain ⟨b, off, hA, hlt, h3⟩ := h.at_ hp
  refine ⟨b, off, hA, Nat.lt_of_lt_of_le hlt hb.size, fun i hi => ?_⟩
  obtain ⟨A', c', h4, h5, h6, c0, c1, c2⟩ := h3 i hi
  have e : ∀ o, w'.cell? ⟨b, o, none⟩ = w.cell? ⟨b, o, none⟩ := fun o => hb.cell (p := ⟨b, o, none⟩) hlt
  exact ⟨A', c', h4, h5, h6.later hb, (e _).trans c0, (e _).trans c1, (e _).trans c2⟩⟩

end Cn
end Go.Proofs.YtcbddebmmaflgaaGreat
namespace Go.Proofs.YtcbddebmmaflgaaGreat
open Go.RowKit
set_option linter.unusedVariables false
set_option linter.unusedSimpArgs false
namespace Cn
open Nm (bitsW ret_int ret_bool)
open Vt (VT Rep BoxAt below_drew put5 KidsAt HeadOk)
open Ev (EV FieldsOk evCells vCells EBox ERep zeroT take_drop cons_drop)
open Cm (rowOf EvsIn EvsAt EvNew evsSame evSame rsev_any)

theorem evs_all {es es' : List EV} (h : es.length = es'.length) : evsSame es es' = (es.zip es').all (fun p => evSame p.1 p.2) := by simp [evsSame, h]

set_option maxRecDepth 100000 in
set_option maxHeartbeats 2000000 in
theorem rsameb_len (es es' : List EV) (hll : es'.length = es.length) (f : ByteArray) (at' : Nat) (A A' : Option Addr) (cap cap' : Nat) (w : World) (h : EvsIn w A cap es) (h' : EvsIn w A' cap' es') :
    Calls Tryz.prog 9 #[.agg #[.string f, .int .u64 at', .slice A es.length cap], .agg #[.string f, .int .u64 at', .slice A' es'.length cap']] w fun r w' => r = .returned (.bool (evsSame es es')) ∧ Below w.heap.size w w' := by
  have hl := h.le
  have hc := h.cap_le
  have hl' := h'.le
  have hc' := h'.cap_le
  simp only [maxLen] at hc hc'
  obtain ⟨W0, hW0⟩ : ∃ W0, W0 = (w.alloc (.cells #[.string f, .int .u64 at', .slice A es.length cap] 27)).alloc (.cells #[.string f, .int .u64 at', .slice A' es.length cap'] 27) := ⟨_, rfl⟩
  have hx0 : BB W0 w.heap.size f at' A es.length cap := by rw [hW0]; exact (heap_alloc_old _ _ (by simp)).trans (heap_alloc_new w _)
  have hx1 : BB W0 (w.heap.size + 1) f at' A' es.length cap' := by
    rw [hW0]
    have e := heap_alloc_new (w.alloc (.cells #[.string f, .int .u64 at', .slice A es.length cap] 27)) (.cells #[.string f, .int .u64 at', .slice A' es.length cap'] 27)
    rw [World.size_alloc] at e
    exact e
  have hb0 : Below w.heap.size w W0 := by rw [hW0]; exact (((Below.refl _ _).alloc (Nat.le_refl _) _).alloc (by simp) _)
  have hz0 : w.heap.size + 1 < W0.heap.size := by rw [hW0]; simp
  have HK := Lib.hid (h.later hb0); have HK' := Lib.hid (h'.later hb0); clear h h'
  have HLL := Lib.hid hll
  have HR : Hid (evsSame es es' = (es.zip es').all (fun p => evSame p.1 p.2)) := Lib.hid (evs_all hll.symm)
  have HX0 := Lib.hid hx0; have HX1 := Lib.hid hx1; have HB0 := Lib.hid hb0
  obtain ⟨c0, c1, c2, -⟩ := hx0.cells
  obtain ⟨q0, q1, q2, -⟩ := hx1.cells
  rw [HR.out, hll]
  rw [hll] at hl'
  replace hW0 := Lib.hid hW0
  clear hll HR hx0 hx1 hb0
  go_enter Tryz.func9, Tryz.ntmps9
  go_upto_region 1 with fail
  rw [← hW0.out]
  go_wp2_with fail
  clear c0 c1 c2 q0 q1 q2
  go_loopw [4, 5] (fun r i wr => ∃ (j : Nat), j ≤ es.length ∧ i = .int .i64 j ∧ r = .bool false ∧ ((es.zip es').take j).all (fun p => evSame p.1 p.2) = true ∧ Below W0.heap.size W0 wr) (fun _ i _ => es.length - (intOf i).toNat)
  case atStart => exact ⟨0, by omega, rfl, rfl, rfl, Below.refl _ _⟩
  case round =>
    obtain ⟨j, hj, rfl, rfl, hy, hb⟩ := hrel
    have HY := Lib.hid hy; clear hy
    have HB := Lib.hid hb; clear hb
    have HBW := Lib.hid fun W (hW : Below W0.heap.size W0 W) => HB0.out.trans (hW.mono HB0.out.size)
    obtain ⟨-, -, x2, -⟩ := (HX0.out.later HB.out (by omega)).cells
    obtain ⟨-, -, y2, -⟩ := (HX1.out.later HB.out hz0).cells
    by_cases hlt : j < es.length
    · obtain ⟨b, off, lo, hi, vk, vn, vf, vs, A1, m, c, rfl, hblt, hf, hv, hz, d0, d1, d2, d3, d4, d5, d6, d7, d8, d9, d10⟩ := (HK.out.later HB.out).get j hlt
      obtain ⟨b', off', lo', hi', vk', vn', vf', vs', A1', m', c', rfl, hblt', hf', hv', hz', g0, g1, g2, g3, g4, g5, g6, g7, g8, g9, g10⟩ := (HK'.out.later HB.out).get j (by have := HLL.out; omega)
      have HS := Lib.hid (rsev_any es[j] (es'[j]'(by have := HLL.out; omega)) wr.drew lo hi lo' hi' _ _ ⟨hf, vk, vn, vf, vs, A1, m, c, rfl, hv.drew⟩ hz ⟨hf', vk', vn', vf', vs', A1', m', c', rfl, hv'.drew⟩ hz')
      clear hf hf' hv hv'
      unfold evCells at HS
      go_wp2_with fail
      go_still_tail 10, (by kernel_rfl)
      go_wp2_with fail
      refine HS.out.mono ?_
      rintro e w1 ⟨rfl, hb1⟩
      have hb1' : Below wr.heap.size wr w1 := (below_drew (Below.refl _ _)).trans hb1
      clear hb1
      have HB1 := Lib.hid (HB.out.trans (hb1'.mono HB.out.size))
      clear hb1' HS d0 d1 d2 d3 d4 d5 d6 d7 d8 d9 d10 g0 g1 g2 g3 g4 g5 g6 g7 g8 g9 g10
      have hzl : j < (es.zip es').length := by rw [List.length_zip, HLL.out]; simpa using hlt
      have hge : evSame ((es.zip es')[j]'hzl).1 ((es.zip es')[j]'hzl).2 = evSame es[j] (es'[j]'(by have := HLL.out; omega)) := by rw [List.getElem_zip]
      have HGE := Lib.hid hge; clear hge
      cases hp : evSame es[j] (es'[j]'(by have := HLL.out; omega)) with
      | true =>
        have HP := Lib.hid hp; clear hp
        go_wp2_with fail
        go_roundw
        case rel => exact ⟨j + 1, by omega, by go_num, rfl, by rw [Vt.all_take_succ _ _ _ hzl, HY.out, HGE.out, HP.out]; rfl, HB1.out⟩
        case measure => simp [intOf]; omega
      | false =>
        have HP := Lib.hid hp; clear hp
        go_wp2_with fail
        go_ret
        exact ⟨ret_bool (by rw [Vt.all_false _ _ j hzl (by rw [HGE.out]; exact HP.out)]), HBW.out _ HB1.out⟩
    · have hj' : j = es.length := by omega
      have HJ := Lib.hid hj'
      clear hj'
      go_wp2_with fail
      go_ret
      have hall : (es.zip es').all (fun p => evSame p.1 p.2) = true := by
        have := HY.out
        rw [HJ.out, List.take_of_length_le (by rw [List.length_zip, HLL.out]; simp)] at this
        exact this
      exact ⟨ret_bool (by rw [hall]), HBW.out _ HB.out⟩
end Cn
end Go.Proofs.YtcbddebmmaflgaaGreat
