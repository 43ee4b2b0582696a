/- The reference's Valid of an event that is valid. -/
import Derived.Test.YtpnepnhajpmccaaCwWa
import Derived.Test.YtpnepnhajpmccaaCwWb
namespace Go.Proofs.Ytpnepnhajpmccaa
open Go.RowKit
set_option linter.unusedVariables false
namespace Cm
open Nm (bitsW ret_int ret_bool)
open Vt (VT Rep BoxAt below_drew Cloned put5 toList_inj rowCells)
open Ev (EV FieldsOk evCells vCells EBox ERep zeroT)

theorem zero_valid : zeroT.valid 8 = true := by unfold zeroT; rw [Vt.valid_mk]; simp; exact ⟨by decide, rfl⟩
theorem empty_eq (s : ByteArray) (h : s.toList.isEmpty = true) : s = ⟨#[]⟩ := by
  rw [Vt.toList_data] at h
  cases s with | mk d => simp at h; rw [h]
theorem same_zero (t : VT) (h : t.same zeroT = true) : t.valid 8 = true ∧ t.k = 0 := by
  refine ⟨by rw [Vt.same_valid t zeroT 8 h]; exact zero_valid, ?_⟩
  obtain ⟨k, n, f, s, l⟩ := t
  unfold zeroT at h
  exact ((Vt.same_iff ..).1 h).1

theorem rvalid_ev (e : EV) (hval : e.valid = true) (lo hi : Nat) (vk vn : Int) (vf : Nat) (vs : ByteArray) (A : Option Addr) (m c : Nat) (w : World) (hv : Rep w lo hi e.v (vCells vk vn vf vs A m c)) (hz : hi ≤ w.heap.size) :
    Calls Try.prog 16 #[.agg (evCells e vk vn vf vs A m c)] w fun r w' => r = .returned (.bool true) ∧ Below w.heap.size w w' := by
  obtain ⟨k, id, n, at', name, text, v⟩ := e
  have hvk : vk = v.k := by
    obtain ⟨k', n', f, s, l, A', cap, ht, hc, -⟩ := hv.open_
    simp only at ht
    subst ht
    injection hc with hc
    simp at hc
    exact hc.1
  have hv' := hv
  simp only at hv'
  clear hv
  simp only [Ev.EV.valid, Bool.and_eq_true, decide_eq_true_iff] at hval
  obtain ⟨⟨hk1, hk2⟩, hg⟩ := hval
  unfold evCells
  simp only
  obtain ⟨kn, hkn⟩ : ∃ kn : Nat, k = kn := ⟨k.toNat, by omega⟩
  subst hkn
  rcases (by omega : kn = 1 ∨ kn = 2 ∨ kn = 3 ∨ kn = 4 ∨ kn = 5 ∨ kn = 6 ∨ kn = 7 ∨ kn = 8 ∨ kn = 9 ∨ kn = 10 ∨ kn = 11) with rfl | rfl | rfl | rfl | rfl | rfl | rfl | rfl | rfl | rfl | rfl
  · simp [Ev.goodL, Ev.fieldsOf, Ev.pickB, -List.isEmpty_iff] at hg
    obtain ⟨rfl, rfl, rfl, ⟨hn1, hn2⟩, htm, hvv⟩ := hg
    obtain rfl := empty_eq text htm
    exact rval_1 name v lo hi vk vn vf vs A m c w hv' hz hvv (by simpa using hn1) hn2
  · simp [Ev.goodL, Ev.fieldsOf, Ev.pickB, -List.isEmpty_iff] at hg
    obtain ⟨hid, ⟨hn3, hn4⟩, hat, hnm, htm, hvz⟩ := hg
    obtain rfl := empty_eq name hnm
    obtain rfl := empty_eq text htm
    obtain ⟨hvv, hv0⟩ := same_zero v hvz
    exact rval_2 id n at' v lo hi vk vn vf vs A m c w hv' hz hvv hid hn3 hn4 hat (hvk.trans hv0)
  · simp [Ev.goodL, Ev.fieldsOf, Ev.pickB, -List.isEmpty_iff] at hg
    obtain ⟨hid, ⟨hn3, hn4⟩, rfl, hnm, htm, hvv⟩ := hg
    obtain rfl := empty_eq name hnm
    obtain rfl := empty_eq text htm
    exact rval_3 id n v lo hi vk vn vf vs A m c w hv' hz hvv hid hn3 hn4
  · simp [Ev.goodL, Ev.fieldsOf, Ev.pickB, -List.isEmpty_iff] at hg
    obtain ⟨hid, ⟨hn3, hn4⟩, hat, hnm, ht2, hvz⟩ := hg
    obtain rfl := empty_eq name hnm
    obtain ⟨hvv, hv0⟩ := same_zero v hvz
    exact rval_4 id n at' text v lo hi vk vn vf vs A m c w hv' hz hvv hid hn3 hn4 hat ht2 (hvk.trans hv0)
  · simp [Ev.goodL, Ev.fieldsOf, Ev.pickB, -List.isEmpty_iff] at hg
    obtain ⟨hid, rfl, rfl, hnm, htm, hvz⟩ := hg
    obtain rfl := empty_eq name hnm
    obtain rfl := empty_eq text htm
    obtain ⟨hvv, hv0⟩ := same_zero v hvz
    exact rval_5 id v lo hi vk vn vf vs A m c w hv' hz hvv hid (hvk.trans hv0)
  · simp [Ev.goodL, Ev.fieldsOf, Ev.pickB, -List.isEmpty_iff] at hg
    obtain ⟨rfl, rfl, rfl, ⟨hn1, hn2⟩, ht2, hvv⟩ := hg
    exact rval_6 name text v lo hi vk vn vf vs A m c w hv' hz hvv (by simpa using hn1) hn2 ht2
  · simp [Ev.goodL, Ev.fieldsOf, Ev.pickB, -List.isEmpty_iff] at hg
    obtain ⟨hid, rfl, rfl, ⟨hn1, hn2⟩, htm, hvv⟩ := hg
    obtain rfl := empty_eq text htm
    exact rval_7 id name v lo hi vk vn vf vs A m c w hv' hz hvv hid (by simpa using hn1) hn2
  · simp [Ev.goodL, Ev.fieldsOf, Ev.pickB, -List.isEmpty_iff] at hg
    obtain ⟨hid, rfl, hat, hnm, htm, hvz⟩ := hg
    obtain rfl := empty_eq name hnm
    obtain rfl := empty_eq text htm
    obtain ⟨hvv, hv0⟩ := same_zero v hvz
    exact rval_8 id at' v lo hi vk vn vf vs A m c w hv' hz hvv hid hat (hvk.trans hv0)
  · simp [Ev.goodL, Ev.fieldsOf, Ev.pickB, -List.isEmpty_iff] at hg
    obtain ⟨rfl, rfl, rfl, hnm, htm, hvv⟩ := hg
    obtain rfl := empty_eq name hnm
    obtain rfl := empty_eq text htm
    exact rval_9  v lo hi vk vn vf vs A m c w hv' hz hvv 
  · simp [Ev.goodL, Ev.fieldsOf, Ev.pickB, -List.isEmpty_iff] at hg
    obtain ⟨rfl, rfl, rfl, hnm, ht2, hvz⟩ := hg
    obtain rfl := empty_eq name hnm
    obtain ⟨hvv, hv0⟩ := same_zero v hvz
    exact rval_10 text v lo hi vk vn vf vs A m c w hv' hz hvv ht2 (hvk.trans hv0)
  · simp [Ev.goodL, Ev.fieldsOf, Ev.pickB, -List.isEmpty_iff] at hg
    obtain ⟨rfl, rfl, rfl, hnm, ht2, hvz⟩ := hg
    obtain rfl := empty_eq name hnm
    obtain ⟨hvv, hv0⟩ := same_zero v hvz
    exact rval_11 text v lo hi vk vn vf vs A m c w hv' hz hvv ht2 (hvk.trans hv0)
end Cm
end Go.Proofs.Ytpnepnhajpmccaa
