/- Contracts of the builder: end, short, New, Next, Closed. -/
import Derived.Test.YtpnepnhajpmccaaCwC
import Derived.Laws.EntriesVeiled
namespace Go.Proofs.Ytpnepnhajpmccaa
open Go.RowKit
set_option linter.unusedVariables false
namespace Cm
variable {X : Nat → Prop}
open Nm (ret_int ret_bool)
open Vt (VT Rep BoxAt below_drew)
open Ev (EV FieldsOk evCells vCells EBox ERep)

def shortOf (s : ByteArray) : ByteArray := if s.size ≤ 1000 then s else s.extract 0 1000

theorem short_any (s : ByteArray) (hs : s.size ≤ maxLen) (w : World) : Calls Try.prog 38 #[.string s] w fun r w' => r = .returned (.string (shortOf s)) ∧ w' = w := by
  simp only [maxLen] at hs
  by_cases h : s.size ≤ 1000
  · go_enter Try.func38, Try.ntmps38
    go_wp2_with fail
    go_ret
    exact ⟨by rw [shortOf, if_pos h]; rfl, rfl⟩
  · go_enter Try.func38, Try.ntmps38
    go_wp2_with fail
    go_ret
    exact ⟨by rw [shortOf, if_neg ‹_›]; rfl, rfl⟩

theorem new_any (next at' : Nat) (hn : next < 18446744073709551616) (ha : at' < 18446744073709551616) (w : World) : Calls Try.prog 7 #[.int .u64 next, .int .u64 at'] w fun r w' => r = .returned (.pointer (some ⟨w.heap.size, 0, none⟩)) ∧ BAt X w' w.heap.size w.heap.size none 0 [] 0 next at' ∧ Below w.heap.size w w' := by
  go_enter Try.func7, Try.ntmps7
  go_wp2_with fail
  go_ret
  refine ⟨rfl, ⟨heap_alloc_new w _, Nat.le_refl _, [], ⟨rfl, .inl ⟨rfl, rfl⟩⟩, by simp [rowOf], fun i h => absurd h (by simp)⟩, (Below.refl _ _).alloc (Nat.le_refl _) _⟩

theorem next_any (base g : Nat) (A : Option Addr) (cap : Nat) (es : List EV) (closed : Int) (next at' : Nat) (w : World) (hb : BAt X w base g A cap es closed next at') : Calls Try.prog 12 #[.pointer (some ⟨g, 0, none⟩)] w fun r w' => r = .returned (.int .u64 next) ∧ w' = w := by
  obtain ⟨c0, c1, c2, c3, cf⟩ := hb.cells
  clear cf hb
  go_enter Try.func12, Try.ntmps12
  go_wp2_with fail
  go_ret
  exact ⟨rfl, rfl⟩
theorem next_nil (w : World) : Calls Try.prog 12 #[.pointer none] w fun r w' => r = .returned (.int .u64 0) ∧ w' = w := by
  go_enter Try.func12, Try.ntmps12
  go_wp2_with fail
  go_ret
  exact ⟨rfl, rfl⟩
theorem closed_any (base g : Nat) (A : Option Addr) (cap : Nat) (es : List EV) (closed : Int) (next at' : Nat) (w : World) (hb : BAt X w base g A cap es closed next at') : Calls Try.prog 13 #[.pointer (some ⟨g, 0, none⟩)] w fun r w' => r = .returned (.int .i64 closed) ∧ w' = w := by
  obtain ⟨c0, c1, c2, c3, cf⟩ := hb.cells
  clear cf hb
  go_enter Try.func13, Try.ntmps13
  go_wp2_with fail
  go_ret
  exact ⟨rfl, rfl⟩
theorem closed_nil (w : World) : Calls Try.prog 13 #[.pointer none] w fun r w' => r = .returned (.int .i64 0) ∧ w' = w := by
  go_enter Try.func13, Try.ntmps13
  go_wp2_with fail
  go_ret
  exact ⟨rfl, rfl⟩

theorem end_nil (x : Array Value) (e : EV) (vk vn : Int) (vf : Nat) (vs : ByteArray) (A' : Option Addr) (m c : Nat) (w : World) : Calls Try.prog 37 #[.pointer none, .agg (evCells e vk vn vf vs A' m c)] w fun r w' => r = .returned (.bool false) ∧ Below w.heap.size w w' := by
  unfold evCells
  go_enter Try.func37, Try.ntmps37
  go_wp2_with fail
  go_ret
  exact ⟨rfl, (Below.refl _ _).alloc (Nat.le_refl _) _⟩

theorem end_bad (base g : Nat) (e : EV) (lo hi : Nat) (vk vn : Int) (vf : Nat) (vs : ByteArray) (A' : Option Addr) (m c : Nat) (w : World)
    (hf : FieldsOk e) (hv : Rep w lo hi e.v (vCells vk vn vf vs A' m c)) (hz : hi ≤ w.heap.size) (hbad : e.valid = false) :
    Calls Try.prog 37 #[.pointer (some ⟨g, 0, none⟩), .agg (evCells e vk vn vf vs A' m c)] w fun r w' => r = .returned (.bool false) ∧ Below w.heap.size w w' := by
  have hE := fun W hW => evalid_later e w lo hi vk vn vf vs A' m c hf hv hz W hW
  rw [hbad] at hE
  clear hbad
  unfold evCells at hE
  unfold evCells
  replace hE := Lib.hid hE
  have HB0 := Lib.hid fun Z => (Below.refl w.heap.size w).alloc (Nat.le_refl _) Z
  go_enter Try.func37, Try.ntmps37
  go_wp2_with fail
  refine (hE.out _ (HB0.out _)).mono ?_
  rintro x w2 ⟨rfl, hb2⟩
  go_wp2_with fail
  go_ret
  exact ⟨rfl, (HB0.out _).trans (hb2.mono (HB0.out _).size)⟩

theorem end_closed (base g : Nat) (A : Option Addr) (cap : Nat) (es : List EV) (closed : Int) (hc : closed ≠ 0) (next at' : Nat) (e : EV) (lo hi : Nat) (vk vn : Int) (vf : Nat) (vs : ByteArray) (A' : Option Addr) (m c : Nat) (w : World) (hb : BAt X w base g A cap es closed next at')
    (hf : FieldsOk e) (hv : Rep w lo hi e.v (vCells vk vn vf vs A' m c)) (hz : hi ≤ w.heap.size) (hgood : e.valid = true) :
    Calls Try.prog 37 #[.pointer (some ⟨g, 0, none⟩), .agg (evCells e vk vn vf vs A' m c)] w fun r w' => r = .returned (.bool false) ∧ Below w.heap.size w w' := by
  have hE := fun W hW => evalid_later e w lo hi vk vn vf vs A' m c hf hv hz W hW
  rw [hgood] at hE
  have HBX : Hid (∀ W Z', Below (w.alloc Z').heap.size (w.alloc Z') W → Z' = .cells (evCells e vk vn vf vs A' m c) 45 → Ev.EBox W w.heap.size (evCells e vk vn vf vs A' m c)) := Lib.hid fun W Z' hW hZ => by
    subst hZ
    exact Ev.EBox.later (w := (w.alloc (.cells (evCells e vk vn vf vs A' m c) 45))) (heap_alloc_new w _) hW (by simp)
  have hA : ∀ W, Below w.heap.size w W → _ := fun W hW => add_closed base g A cap es closed hc next at' e vk vn vf vs A' m c W (hb.later hW)
  clear hb hgood
  unfold evCells at hE hA HBX
  unfold evCells
  replace hE := Lib.hid hE
  replace hA := Lib.hid hA
  have HB0 := Lib.hid fun Z => (Below.refl w.heap.size w).alloc (Nat.le_refl _) Z
  go_enter Try.func37, Try.ntmps37
  go_wp2_with fail
  refine (hE.out _ (HB0.out _)).mono ?_
  rintro x w2 ⟨rfl, hb2⟩
  have hbx := HBX.out w2 _ hb2 rfl
  obtain ⟨q0, q1, q2, q3, q4, q5, q6, q7, q8, q9, q10⟩ := hbx.cells
  have hlt2 := hbx.lt
  replace hbx := Lib.hid hbx
  have HB2 := Lib.hid ((HB0.out _).trans (hb2.mono (HB0.out _).size))
  clear hb2
  go_wp2_with fail
  refine (hA.out _ HB2.out).mono ?_
  rintro x w3 ⟨rfl, hb3⟩
  go_wp2_with fail
  go_ret
  exact ⟨rfl, HB2.out.trans (hb3.mono HB2.out.size)⟩

theorem end_open (base g : Nat) (A : Option Addr) (cap : Nat) (es : List EV) (next at' : Nat) (e : EV) (lo hi : Nat) (vk vn : Int) (vf : Nat) (vs : ByteArray) (A' : Option Addr) (m c : Nat) (w : World) (hb : BAt X w base g A cap es 0 next at') (hl : es.length ≤ 1000000) (hbw : base ≤ w.heap.size)
    (hf : FieldsOk e) (hv : Rep w lo hi e.v (vCells vk vn vf vs A' m c)) (hz : hi ≤ w.heap.size) (hg : g < lo ∨ hi ≤ g) (hrr : ∀ r, rowOf A = some r ∨ X r → r < lo ∨ hi ≤ r) (hgood : e.valid = true) (hkk : 9 ≤ e.k ∧ e.k ≤ 11) :
    Calls Try.prog 37 #[.pointer (some ⟨g, 0, none⟩), .agg (evCells e vk vn vf vs A' m c)] w fun r w' => r = .returned (.bool true) ∧ Added X w w' base g A es e e.k next at' := by
  have hE := fun W hW => evalid_later e w lo hi vk vn vf vs A' m c hf hv hz W hW
  rw [hgood] at hE
  have HBX : Hid (∀ W Z', Below (w.alloc Z').heap.size (w.alloc Z') W → Z' = .cells (evCells e vk vn vf vs A' m c) 45 → Ev.EBox W w.heap.size (evCells e vk vn vf vs A' m c)) := Lib.hid fun W Z' hW hZ => by
    subst hZ
    exact Ev.EBox.later (w := (w.alloc (.cells (evCells e vk vn vf vs A' m c) 45))) (heap_alloc_new w _) hW (by simp)
  have hA : ∀ W, Below w.heap.size w W → Calls Try.prog 53 #[.pointer (some ⟨g, 0, none⟩), .agg (evCells e vk vn vf vs A' m c)] W fun r w' => r = .returned (.bool true) ∧ Added X W w' base g A es e e.k next at' := fun W hW => by
    have := add_open base g A cap es next at' e lo hi vk vn vf vs A' m c W (hb.later hW) hl (Nat.le_trans hbw hW.size) hf (hv.later (hW.mono hz)) (Nat.le_trans hz hW.size) hg hrr
    rwa [if_pos hkk] at this
  clear hb hgood
  unfold evCells at hE hA HBX
  unfold evCells
  replace hE := Lib.hid hE
  replace hA := Lib.hid hA
  have HB0 := Lib.hid fun Z => (Below.refl w.heap.size w).alloc (Nat.le_refl _) Z
  go_enter Try.func37, Try.ntmps37
  go_wp2_with fail
  refine (hE.out _ (HB0.out _)).mono ?_
  rintro x w2 ⟨rfl, hb2⟩
  have hbx := HBX.out w2 _ hb2 rfl
  obtain ⟨q0, q1, q2, q3, q4, q5, q6, q7, q8, q9, q10⟩ := hbx.cells
  have hlt2 := hbx.lt
  replace hbx := Lib.hid hbx
  have HB2 := Lib.hid ((HB0.out _).trans (hb2.mono (HB0.out _).size))
  clear hb2
  go_wp2_with fail
  refine (hA.out _ HB2.out).mono ?_
  rintro x w3 ⟨rfl, r, cap3, hb3, ho3, hr3⟩
  go_wp2_with fail
  go_ret
  exact ⟨rfl, r, cap3, hb3, (OnlyAt.of_below HB2.out).trans ho3, hr3.imp id (fun h => Nat.le_trans HB2.out.size h)⟩
end Cm
end Go.Proofs.Ytpnepnhajpmccaa
