/- Small events, bytes that are equal, the form of an invalid event. -/
import Derived.Test.YtcbddebmmaflgaaGreatDoorMhas
import Derived.Test.YtcbddebmmaflgaaGreatDoorMhai
import Derived.Test.YtcbddebmmaflgaaGreatDoorMhab
import Derived.BigQuiet
import Derived.StillTailTactics
namespace Go.Proofs.YtcbddebmmaflgaaGreatDoor
open Go.RowKit
set_option linter.unusedVariables false
set_option linter.unusedSimpArgs false
namespace Vf
open _root_.Go.Proofs.YtcbddebmmaflgaaGreatDoor.Nm (bitsW ret_int ret_bool)
open Vt (VT Rep BoxAt below_drew KidsAt HeadOk)
open Ev (EV FieldsOk evCells vCells EBox ERep zeroT take_drop tk cons_drop nameOf fieldsOf of_in evalid_any)
open Cm (evSame)
open Bt (BOwn BIn PIn ubytes sb bv)

theorem box_ev (w : World) (e : EV) (vk vn : Int) (vf : Nat) (vs : ByteArray) (A : Option Addr) (m c : Nat) : EBox (w.alloc (.cells (evCells e vk vn vf vs A m c) 32)) w.heap.size (evCells e vk vn vf vs A m c) := heap_alloc_new w _
/-- Bytes that are read by their places. -/
def BRd (w : World) (v : Value) (l : List Nat) : Prop := (v = .slice none 0 0 ∧ l = []) ∨ ∃ b off cap, v = .slice (some ⟨b, off, none⟩) l.length cap ∧ l.length ≤ cap ∧ cap ≤ maxLen ∧ b < w.heap.size ∧ ∀ j (h : j < l.length), w.cell? ⟨b, off + j, none⟩ = some (.int .u8 (l[j] : Nat))
theorem below_drewN {B n : Nat} {a w : World} (h : Below B a w) : Below B a (w.drewN n) := ⟨h.os, h.tape, h.output, h.size, h.block⟩
theorem BRd.later {w w' : World} {v : Value} {l : List Nat} (h : BRd w v l) (hb : Below w.heap.size w w') : BRd w' v l := by
  rcases h with h | ⟨b, off, cap, h1, h2, h3, h4, h5⟩
  · exact .inl h
  · exact .inr ⟨b, off, cap, h1, h2, h3, Nat.lt_of_lt_of_le h4 hb.size, fun j hj => (hb.cell (p := ⟨b, off + j, none⟩) h4).trans (h5 j hj)⟩
theorem brd_own {w : World} {base : Nat} {v : Value} {l : List Nat} (h : BOwn w base v l) : BRd w v l := by
  rcases h.2 with ⟨h1, h2⟩ | ⟨g, cap, cur, q1, q2, q3, q4, q5, q6, q7⟩
  · exact .inl ⟨h1, List.eq_nil_of_length_eq_zero h2⟩
  · refine .inr ⟨g, 0, cap, q1, q4, q5, (Array.getElem?_eq_some_iff.1 q3).1, fun j hj => ?_⟩
    have e : cur[j]? = some (.int .u8 (l[j] : Nat)) := by
      have e1 : (l.map fun (b : Nat) => Value.int .u8 (b : Int))[j]? = some (.int .u8 (l[j] : Nat)) := by simp [List.getElem?_eq_getElem hj]
      rw [← e1, ← q7, List.getElem?_take_of_lt (by omega), Array.getElem?_toList]
    rw [Nat.zero_add]
    simp [World.cell?, q3, e]
theorem BRd.form {w : World} {v : Value} {l : List Nat} (h : BRd w v l) : ∃ A cap, v = .slice A l.length cap := by
  rcases h with ⟨rfl, rfl⟩ | ⟨b, off, cap, rfl, -⟩
  · exact ⟨none, 0, rfl⟩
  · exact ⟨_, cap, rfl⟩

set_option maxRecDepth 100000 in
set_option maxHeartbeats 1000000 in
theorem bequal_same (l m : List Nat) (hlm : l.length = m.length) (x y : Value) (w : World) (hx : BRd w x l) (hy : BRd w y m) :
    Calls Tryz.prog 16 #[x, y] w fun r w' => r = .returned (.bool (decide (l = m))) ∧ Below w.heap.size w w' := by
  obtain ⟨A, cap, rfl⟩ := hx.form
  obtain ⟨A', cap', rfl⟩ := hy.form
  have hll : l.length ≤ 9223372036854775807 := by
    rcases hx with ⟨-, rfl⟩ | ⟨b, off, cap, -, h1, h2, -⟩
    · simp
    · simp only [maxLen] at h2; omega
  have HX := Lib.hid fun W (hW : Below w.heap.size w W) => hx.later hW
  have HY := Lib.hid fun W (hW : Below w.heap.size w W) => hy.later hW
  have HLM := Lib.hid hlm
  rw [← hlm] at HY ⊢
  clear hx hy hlm
  generalize hn : l.length = n at *
  have HN := Lib.hid hn; clear hn
  go_enter Tryz.func16, Tryz.ntmps16
  go_wp2_with fail
  go_loopw [4, 13] (fun r i wr => ∃ (j : Nat), j ≤ n ∧ i = .int .i64 j ∧ r = .bool false ∧ l.take j = m.take j ∧ Below w.heap.size w wr) (fun _ i _ => n - (intOf i).toNat)
  case atStart => exact ⟨0, by omega, rfl, rfl, by simp, Below.refl _ _⟩
  case round =>
    obtain ⟨j, hj, rfl, rfl, hy, hb⟩ := hrel
    have HYT := Lib.hid hy; have HB := Lib.hid hb
    clear hy hb
    by_cases hlt : j < n
    · have hjl : j < l.length := by have := HN.out; omega
      have hjm : j < m.length := by have := HLM.out; have := HN.out; omega
      obtain ⟨b, off, cp, e1, h2, h3, h4, h5⟩ := (HX.out wr HB.out).resolve_left (fun h => by rw [h.2] at hjl; simp at hjl)
      obtain ⟨b', off', cp', e1', h2', h3', h4', h5'⟩ := (HY.out wr HB.out).resolve_left (fun h => by rw [h.2] at hjm; simp at hjm)
      injection e1 with e1 _ _
      injection e1' with e1' _ _
      subst e1 e1'
      have c1 := h5 j hjl
      have c2 := h5' j hjm
      obtain ⟨a, ha⟩ : ∃ a, a = l[j] := ⟨_, rfl⟩
      obtain ⟨a', ha'⟩ : ∃ a, a = m[j] := ⟨_, rfl⟩
      rw [← ha] at c1
      rw [← ha'] at c2
      have HA := Lib.hid ha; have HA' := Lib.hid ha'
      have HT : Hid (a = a' → l.take (j + 1) = m.take (j + 1)) := Lib.hid fun e => by rw [List.take_succ_eq_append_getElem hjl, List.take_succ_eq_append_getElem hjm, HYT.out, ← HA.out, ← HA'.out, e]
      have HF : Hid (a ≠ a' → decide (l = m) = false) := Lib.hid fun e => decide_eq_false (fun h => e (by rw [HA.out, HA'.out]; simp [h]))
      clear ha ha' h2 h3 h4 h5 h2' h3' h4' h5'
      by_cases haa : a = a'
      · subst haa
        go_upto_region 6 with fail
        go_quiet (fail)
        go_wp2_with fail
        go_roundw
        case rel => exact ⟨j + 1, by omega, by go_num, rfl, HT.out rfl, below_drewN HB.out⟩
        case measure => simp [intOf]; omega
      · have hne : ((a : Int) != (a' : Int)) = true := by simp; omega
        have HNE := Lib.hid haa
        go_upto_region 6 with fail
        go_quiet (fail)
        go_wp2_with fail
        go_ret
        exact ⟨ret_bool (by rw [HF.out HNE.out]), below_drewN HB.out⟩
    · have hj' : j = n := by omega
      subst hj'
      go_wp2_with fail
      go_ret
      have he : l = m := by
        have := HYT.out
        rw [List.take_of_length_le (by have := HN.out; omega), List.take_of_length_le (by have := HN.out; have := HLM.out; omega)] at this
        exact this
      exact ⟨ret_bool (by rw [decide_eq_true he]), HB.out⟩

set_option maxRecDepth 100000 in
theorem bequal_any (l m : List Nat) (x y : Value) (w : World) (hx : BRd w x l) (hy : BRd w y m) :
    Calls Tryz.prog 16 #[x, y] w fun r w' => r = .returned (.bool (decide (l = m))) ∧ Below w.heap.size w w' := by
  by_cases hlm : l.length = m.length
  · exact bequal_same l m hlm x y w hx hy
  · obtain ⟨A, cap, rfl⟩ := hx.form
    obtain ⟨A', cap', rfl⟩ := hy.form
    have hd : decide (l = m) = false := decide_eq_false (fun h => hlm (by rw [h]))
    rw [hd]
    generalize l.length = n at *
    generalize m.length = k at *
    have hne : ((n : Int) != (k : Int)) = true := by simp; omega
    clear hx hy hd
    go_enter Tryz.func16, Tryz.ntmps16
    go_wp2_with fail
    go_ret
    exact ⟨rfl, Below.refl _ _⟩

/-- Is an event small? -/
def efew (e : EV) : Bool := e.v.few && decide (e.name.size ≤ 1100) && decide (e.text.size ≤ 1100)

set_option maxRecDepth 100000 in
theorem efew_any (e : EV) (hf : FieldsOk e) (lo hi : Nat) (vk vn : Int) (vf : Nat) (vs : ByteArray) (A : Option Addr) (m c : Nat) (w : World) (hv : Rep w lo hi e.v (vCells vk vn vf vs A m c)) (hz : hi ≤ w.heap.size) :
    Calls Tryz.prog 13 #[.agg (evCells e vk vn vf vs A m c)] w fun r w' => r = .returned (.bool (efew e)) ∧ Below w.heap.size w w' := by
  obtain ⟨W0, hW0⟩ : ∃ W0, W0 = w.alloc (.cells (evCells e vk vn vf vs A m c) 32) := ⟨_, rfl⟩
  have hb0 : Below w.heap.size w W0 := by rw [hW0]; exact (Below.refl _ _).alloc (Nat.le_refl _) _
  have hx0 : EBox W0 w.heap.size (evCells e vk vn vf vs A m c) := by rw [hW0]; exact box_ev ..
  have HV := Lib.hid (Vt.few_any e.v W0 lo hi _ (hv.later (hb0.mono hz)) (Nat.le_trans hz hb0.size))
  obtain ⟨g0, g1, g2, g3, g4, g5, g6, g7, g8, g9, g10⟩ := EBox.cells hx0
  have HX0 := Lib.hid hx0
  have HB0 := Lib.hid hb0
  have hsn := hf.s1
  have hst := hf.t1
  simp only [maxLen] at hsn hst
  clear hv hf hx0 hb0
  unfold evCells at hW0 ⊢
  unfold vCells at HV
  replace hW0 := Lib.hid hW0
  go_enter Tryz.func13, Tryz.ntmps13
  go_upto_region 1 with fail
  rw [← hW0.out]
  generalize hfw : e.v.few = fw at *
  have HFW := Lib.hid hfw; clear hfw
  cases fw with
  | false =>
    go_wp2_with (go_at_call 51; refine HV.out.mono ?_; rintro x w1 ⟨rfl, hb1⟩; have HB1 := Lib.hid (HB0.out.trans (hb1.mono HB0.out.size)); clear hb1)
    go_ret
    exact ⟨ret_bool (by unfold efew; rw [HFW.out]; rfl), HB1.out⟩
  | true =>
    by_cases h1 : e.name.size ≤ 1100
    · have k1 : decide ((e.name.size : Int) ≤ 1100) = true := decide_eq_true (by omega)
      by_cases h2 : e.text.size ≤ 1100
      · have k2 : decide ((e.text.size : Int) ≤ 1100) = true := decide_eq_true (by omega)
        go_wp2_with (go_at_call 51; refine HV.out.mono ?_; rintro x w1 ⟨rfl, hb1⟩; have HB1 := Lib.hid (HB0.out.trans (hb1.mono HB0.out.size)); obtain ⟨q0, q1, q2, q3, q4, q5, q6, q7, q8, q9, q10⟩ := EBox.cells (HX0.out.later hb1 HX0.out.lt); clear hb1)
        go_ret
        exact ⟨ret_bool (by unfold efew; rw [HFW.out]; simp; omega), HB1.out⟩
      · have k2 : decide ((e.text.size : Int) ≤ 1100) = false := decide_eq_false (by omega)
        go_wp2_with (go_at_call 51; refine HV.out.mono ?_; rintro x w1 ⟨rfl, hb1⟩; have HB1 := Lib.hid (HB0.out.trans (hb1.mono HB0.out.size)); obtain ⟨q0, q1, q2, q3, q4, q5, q6, q7, q8, q9, q10⟩ := EBox.cells (HX0.out.later hb1 HX0.out.lt); clear hb1)
        go_ret
        exact ⟨ret_bool (by unfold efew; rw [HFW.out]; simp; omega), HB1.out⟩
    · have k1 : decide ((e.name.size : Int) ≤ 1100) = false := decide_eq_false (by omega)
      go_wp2_with (go_at_call 51; refine HV.out.mono ?_; rintro x w1 ⟨rfl, hb1⟩; have HB1 := Lib.hid (HB0.out.trans (hb1.mono HB0.out.size)); obtain ⟨q0, q1, q2, q3, q4, q5, q6, q7, q8, q9, q10⟩ := EBox.cells (HX0.out.later hb1 HX0.out.lt); clear hb1)
      go_ret
      exact ⟨ret_bool (by unfold efew; rw [HFW.out]; simp; omega), HB1.out⟩


set_option maxRecDepth 100000 in
theorem ebytes_no (e : EV) (hval : e.valid = false) (hf : FieldsOk e) (lo hi : Nat) (vk vn : Int) (vf : Nat) (vs : ByteArray) (A : Option Addr) (m c : Nat) (w : World) (hv : Rep w lo hi e.v (vCells vk vn vf vs A m c)) (hz : hi ≤ w.heap.size) :
    Calls Tryz.prog 14 #[.agg (evCells e vk vn vf vs A m c)] w fun r w' => r = .returned (.tuple #[.slice none 0 0, .bool false]) ∧ Below w.heap.size w w' := by
  obtain ⟨W0, hW0⟩ : ∃ W0, W0 = w.alloc (.cells (evCells e vk vn vf vs A m c) 32) := ⟨_, rfl⟩
  have hb0 : Below w.heap.size w W0 := by rw [hW0]; exact (Below.refl _ _).alloc (Nat.le_refl _) _
  have hx0 : EBox W0 w.heap.size (evCells e vk vn vf vs A m c) := by rw [hW0]; exact box_ev ..
  have HV := Lib.hid (evalid_any e W0 lo hi _ ⟨hf, vk, vn, vf, vs, A, m, c, rfl, hv.later (hb0.mono hz)⟩ (Nat.le_trans hz hb0.size))
  rw [hval] at HV
  obtain ⟨g0, g1, g2, g3, g4, g5, g6, g7, g8, g9, g10⟩ := EBox.cells hx0
  have HB0 := Lib.hid hb0
  clear hv hf hx0 hb0 hval
  unfold evCells at hW0 HV ⊢
  replace hW0 := Lib.hid hW0
  go_enter Tryz.func14, Tryz.ntmps14
  go_upto_region 1 with fail
  rw [← hW0.out]
  go_wp2_with fail
  refine HV.out.mono ?_
  rintro x w1 ⟨rfl, hb1⟩
  have HB1 := Lib.hid (HB0.out.trans (hb1.mono HB0.out.size))
  clear hb1
  go_wp2_with fail
  exact bodyPost_ret (v := .tuple #[.slice none 0 0, .bool false]) (by simp [results, Tryz.results14, go_sem]) rfl ⟨rfl, HB1.out⟩
set_option maxRecDepth 100000 in
theorem etext_no (e : EV) (hval : e.valid = false) (hf : FieldsOk e) (lo hi : Nat) (vk vn : Int) (vf : Nat) (vs : ByteArray) (A : Option Addr) (m c : Nat) (w : World) (hv : Rep w lo hi e.v (vCells vk vn vf vs A m c)) (hz : hi ≤ w.heap.size) :
    Calls Tryz.prog 17 #[.agg (evCells e vk vn vf vs A m c)] w fun r w' => r = .returned (.string ⟨#[]⟩) ∧ Below w.heap.size w w' := by
  obtain ⟨W0, hW0⟩ : ∃ W0, W0 = w.alloc (.cells (evCells e vk vn vf vs A m c) 32) := ⟨_, rfl⟩
  have hb0 : Below w.heap.size w W0 := by rw [hW0]; exact (Below.refl _ _).alloc (Nat.le_refl _) _
  have hx0 : EBox W0 w.heap.size (evCells e vk vn vf vs A m c) := by rw [hW0]; exact box_ev ..
  have HV := Lib.hid (evalid_any e W0 lo hi _ ⟨hf, vk, vn, vf, vs, A, m, c, rfl, hv.later (hb0.mono hz)⟩ (Nat.le_trans hz hb0.size))
  rw [hval] at HV
  obtain ⟨g0, g1, g2, g3, g4, g5, g6, g7, g8, g9, g10⟩ := EBox.cells hx0
  have HB0 := Lib.hid hb0
  clear hv hf hx0 hb0 hval
  unfold evCells at hW0 HV ⊢
  replace hW0 := Lib.hid hW0
  go_enter Tryz.func17, Tryz.ntmps17
  go_upto_region 1 with fail
  rw [← hW0.out]
  go_wp2_with fail
  refine HV.out.mono ?_
  rintro x w1 ⟨rfl, hb1⟩
  have HB1 := Lib.hid (HB0.out.trans (hb1.mono HB0.out.size))
  clear hb1
  go_wp2_with fail
  go_ret
  exact ⟨rfl, HB1.out⟩
end Vf
end Go.Proofs.YtcbddebmmaflgaaGreatDoor
