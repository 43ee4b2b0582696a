/- Contracts: batch.Valid. -/
import Derived.Test.YtpneejlilgepfaaCnE
namespace Go.Proofs.Ytpneejlilgepfaa
open Go.RowKit
set_option linter.unusedVariables false
set_option linter.unusedSimpArgs false
namespace Cn
open Nm (bitsW ret_int ret_bool)
open Vt (VT Rep BoxAt below_drew Cloned put5 KidsAt HeadOk)
open Ev (EV FieldsOk evCells vCells EBox ERep zeroT take_drop cons_drop)
open Cm (rowOf EvsIn EvsAt EvNew evsSame evSame)

def wrongE (e : EV) : Bool := !e.valid
theorem call_wrong (args : Array Value) (w : World) : (callFunc 35 args).run Try.prog w = .ok (.enter 35 args) w := by kernel_rfl
theorem asks_wrong (es : List EV) : Asks 35 wrongE es := by
  intro e _ lo hi vk vn vf vs A m c w hf hv hz
  obtain ⟨W0, hW0⟩ : ∃ W0, W0 = w.alloc (.cells (evCells e vk vn vf vs A m c) 35) := ⟨_, rfl⟩
  have hb0 : Below w.heap.size w W0 := by rw [hW0]; exact (Below.refl _ _).alloc (Nat.le_refl _) _
  have hx0 : EBox W0 w.heap.size (evCells e vk vn vf vs A m c) := by rw [hW0]; exact box_ev ..
  have HV := Lib.hid (Ev.evalid_any e W0 lo hi _ ⟨hf, vk, vn, vf, vs, A, m, c, rfl, hv.later (hb0.mono hz)⟩ (Nat.le_trans hz hb0.size))
  obtain ⟨g0, g1, g2, g3, g4, g5, g6, g7, g8, g9, g10⟩ := EBox.cells hx0
  have HB0 := Lib.hid hb0
  clear hv hf hx0 hb0
  unfold evCells at HV hW0 ⊢
  replace hW0 := Lib.hid hW0
  go_enter Try.func35, Try.ntmps35
  go_upto_region 1 with fail
  rw [← hW0.out]
  go_wp2_with fail
  refine HV.out.mono ?_
  rintro x w1 ⟨rfl, hb1⟩
  have HB1 := Lib.hid (HB0.out.trans (hb1.mono HB0.out.size))
  clear hb1 g0 g1 g2 g3 g4 g5 g6 g7 g8 g9 g10
  go_wp2_with fail
  go_ret
  exact ⟨ret_bool (by simp [wrongE]), HB1.out⟩

theorem found_any {p : EV → Bool} {es : List EV} {i : Int} (h : Found p es i) : decide (0 ≤ i) = es.any p := by
  rcases h with ⟨rfl, h⟩ | ⟨n, rfl, hn, hp, -⟩
  · have : es.any p = false := by
      rw [List.any_eq_false]
      intro e he
      obtain ⟨m, hm, rfl⟩ := List.getElem_of_mem he
      simp [h m hm]
    rw [this]; rfl
  · have : es.any p = true := List.any_eq_true.2 ⟨_, List.getElem_mem hn, hp⟩
    rw [this]; simp

theorem contains_any (g : Nat) (hcall : ∀ args w, (callFunc g args).run Try.prog w = .ok (.enter g args) w) (p : EV → Bool) (es : List EV) (hG : Asks g p es) (A : Option Addr) (cap : Nat) (w : World) (h : EvsIn w A cap es) :
    Calls Try.prog 34 #[.slice A es.length cap, .func (.func g) #[] #[]] w fun r w' => r = .returned (.bool (es.any p)) ∧ Below w.heap.size w w' := by
  have HI := Lib.hid (ifunc_any g hcall p es hG A cap w h)
  clear h hG
  go_enter Try.func34, Try.ntmps34
  go_wp2_with fail
  refine HI.out.mono ?_
  rintro x w1 ⟨i, rfl, hfound, hb1⟩
  have HB1 := Lib.hid hb1
  have HF := Lib.hid (found_any hfound)
  clear hb1 hfound
  go_wp2_with fail
  go_ret
  exact ⟨ret_bool (by rw [← HF.out]), HB1.out⟩

/-- Is a batch valid? -/
def bvalid (f : ByteArray) (at' : Nat) (es : List EV) : Bool := !f.toList.isEmpty && decide (f.size ≤ 1000) && decide (at' ≤ 9223372036854775807) && decide (0 < es.length) && !es.any wrongE

set_option maxRecDepth 100000 in
set_option maxHeartbeats 1000000 in
theorem bvalid_any (es : List EV) (f : ByteArray) (hfs : f.size ≤ maxLen) (at' : Nat) (hat : at' < 18446744073709551616) (A : Option Addr) (cap : Nat) (w : World) (h : EvsIn w A cap es) :
    Calls Try.prog 23 #[.agg #[.string f, .int .u64 at', .slice A es.length cap]] w fun r w' => r = .returned (.bool (bvalid f at' es)) ∧ Below w.heap.size w w' := by
  simp only [maxLen] at hfs
  have hle := h.le
  have hc := h.cap_le
  simp only [maxLen] at hc
  obtain ⟨W0, hW0⟩ : ∃ W0, W0 = w.alloc (.cells #[.string f, .int .u64 at', .slice A es.length cap] 25) := ⟨_, rfl⟩
  have hx0 : BB W0 w.heap.size f at' A es.length cap := by rw [hW0]; exact heap_alloc_new w _
  have hb0 : Below w.heap.size w W0 := by rw [hW0]; exact (Below.refl _ _).alloc (Nat.le_refl _) _
  have hz0 : W0.heap.size = w.heap.size + 1 := by rw [hW0]; simp
  have HC := Lib.hid (contains_any 35 call_wrong wrongE es (asks_wrong es) A cap W0 (h.later hb0))
  obtain ⟨c0, c1, c2, -⟩ := hx0.cells
  have HX0 := Lib.hid hx0; have HB0 := Lib.hid hb0
  replace hW0 := Lib.hid hW0
  clear h hx0 hb0
  go_enter Try.func23, Try.ntmps23
  go_upto_region 1 with fail
  rw [← hW0.out]
  go_upto_region 2 with (go_at_call 34; refine HC.out.mono ?_; rintro x w1 ⟨rfl, hb1⟩; have HB1 := Lib.hid hb1; obtain ⟨d0, d1, d2, -⟩ := (HX0.out.later hb1 (by omega)).cells; clear hb1)
  clear c0 c1 c2
  have HBF : Hid (Below w.heap.size w w1) := Lib.hid (HB0.out.trans (HB1.out.mono HB0.out.size))
  generalize ha : es.any wrongE = any at *
  have HA := Lib.hid ha; clear ha
  cases h1 : f.toList.isEmpty with
  | true =>
    have H1 := Lib.hid h1
    go_wp2_with fail
    go_ret
    exact ⟨ret_bool (by unfold bvalid; rw [H1.out]; rfl), HBF.out⟩
  | false =>
    have H1 := Lib.hid h1
    by_cases h2 : f.size ≤ 1000
    · have g2 : decide ((f.size : Int) ≤ 1000) = true := by simp; omega
      by_cases h3 : at' ≤ 9223372036854775807
      · have g3 : decide ((at' : Int) ≤ 9223372036854775807) = true := decide_eq_true (by omega)
        by_cases h4 : 0 < es.length
        · have g4 : decide ((0 : Int) < es.length) = true := decide_eq_true (by omega)
          have HN := Lib.hid (And.intro h2 (And.intro h3 h4))
          clear h2 h3
          cases any with
          | true =>
            go_wp2_with fail
            go_ret
            exact ⟨ret_bool (by unfold bvalid; rw [HA.out]; simp), HBF.out⟩
          | false =>
            go_wp2_with fail
            go_ret
            exact ⟨ret_bool (by obtain ⟨z1, z2, z3⟩ := HN.out; unfold bvalid; rw [HA.out, H1.out, decide_eq_true z1, decide_eq_true z2, decide_eq_true z3]; rfl), HBF.out⟩
        · have g4 : decide ((0 : Int) < es.length) = false := decide_eq_false (by omega)
          have HN := Lib.hid h4
          go_wp2_with fail
          go_ret
          exact ⟨ret_bool (by unfold bvalid; rw [decide_eq_false HN.out]; simp), HBF.out⟩
      · have g3 : decide ((at' : Int) ≤ 9223372036854775807) = false := decide_eq_false (by omega)
        have HN := Lib.hid h3
        clear h3
        go_wp2_with fail
        go_ret
        exact ⟨ret_bool (by unfold bvalid; rw [decide_eq_false HN.out]; simp), HBF.out⟩
    · have g2 : decide ((f.size : Int) ≤ 1000) = false := by simp; omega
      have HN := Lib.hid h2
      go_wp2_with fail
      go_ret
      exact ⟨ret_bool (by unfold bvalid; rw [decide_eq_false HN.out]; simp), HBF.out⟩
end Cn
end Go.Proofs.Ytpneejlilgepfaa
