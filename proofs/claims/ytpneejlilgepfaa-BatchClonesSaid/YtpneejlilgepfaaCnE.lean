/- Contracts: event.Outside; slices.IndexFunc of events by whatever question; batch.Clone. -/
import Derived.Test.YtpneejlilgepfaaCnC
namespace Go.Proofs.Ytpneejlilgepfaa
open Go.RowKit
set_option linter.unusedVariables false
set_option linter.unusedSimpArgs false
namespace Cn
open Nm (bitsW ret_int ret_bool)
open Vt (VT Rep BoxAt below_drew Cloned put5 KidsAt HeadOk)
open Ev (EV FieldsOk evCells vCells EBox ERep zeroT take_drop cons_drop)
open Cm (rowOf EvsIn EvsAt EvNew evsSame evSame)

theorem outside_any (k : Int) (w : World) : Calls Try.prog 20 #[.int .i64 k] w fun r w' => r = .returned (.bool (decide (1 ≤ k ∧ k ≤ 6))) ∧ w = w' := by
  by_cases h : 1 ≤ k
  · have hb : decide (1 ≤ k) = true := by simpa using h
    go_enter Try.func20, Try.ntmps20
    go_wp2_with fail
    go_ret
    exact ⟨ret_bool (by simp [h]), rfl⟩
  · have hb : decide (1 ≤ k) = false := by simpa using h
    go_enter Try.func20, Try.ntmps20
    go_wp2_with fail
    go_ret
    exact ⟨ret_bool (by simp [h]), rfl⟩

/-- A function that answers a question of an event. -/
def Asks (g : Nat) (p : EV → Bool) (es : List EV) : Prop := ∀ (e : EV) (_ : e ∈ es) (lo hi : Nat) (vk vn : Int) (vf : Nat) (vs : ByteArray) (A : Option Addr) (m c : Nat) (w : World), FieldsOk e → Rep w lo hi e.v (vCells vk vn vf vs A m c) → hi ≤ w.heap.size →
  Calls Try.prog g #[.agg (evCells e vk vn vf vs A m c)] w fun r w' => r = .returned (.bool (p e)) ∧ Below w.heap.size w w'

theorem asks_outside (es : List EV) : Asks 19 outsideE es := by
  intro e _ lo hi vk vn vf vs A m c w hf hv hz
  have HO := Lib.hid (outside_any e.k)
  have HB := Lib.hid ((Below.refl w.heap.size w).alloc (Nat.le_refl _) (.cells (evCells e vk vn vf vs A m c) 35))
  clear hv hf
  unfold evCells at HB ⊢
  go_enter Try.func19, Try.ntmps19
  go_wp2_with fail
  refine (HO.out _).mono ?_
  rintro x w1 ⟨rfl, rfl⟩
  go_wp2_with fail
  go_ret
  exact ⟨ret_bool (by simp [outsideE]), HB.out⟩

theorem call_outside (args : Array Value) (w : World) : (callFunc 19 args).run Try.prog w = .ok (.enter 19 args) w := by kernel_rfl

/-- The first event of which the question is answered 'yes', or none. -/
def Found (p : EV → Bool) (es : List EV) (i : Int) : Prop := (i = -1 ∧ ∀ m (h : m < es.length), p es[m] = false) ∨ ∃ n : Nat, i = n ∧ ∃ h : n < es.length, p es[n] = true ∧ ∀ m (h : m < es.length), m < n → p es[m] = false

set_option maxRecDepth 100000 in
set_option maxHeartbeats 2000000 in
theorem ifunc_any (g : Nat) (hcall : ∀ args w, (callFunc g args).run Try.prog w = .ok (.enter g args) w) (p : EV → Bool) (es : List EV) (hG : Asks g p es) (A : Option Addr) (cap : Nat) (w : World) (h : EvsIn w A cap es) :
    Calls Try.prog 31 #[.slice A es.length cap, .func (.func g) #[] #[]] w fun r w' => ∃ i, r = .returned (.int .i64 i) ∧ Found p es i ∧ Below w.heap.size w w' := by
  have hl := h.le
  have hc := h.cap_le
  simp only [maxLen] at hc
  have HK := Lib.hid h; clear h
  have HG := Lib.hid hG; clear hG
  go_enter Try.func31, Try.ntmps31
  go_wp2_with fail
  go_loopw [4, 8] (fun o i wr => ∃ (j : Nat), j ≤ es.length ∧ i = .int .i64 j ∧ o = .int .i64 0 ∧ (∀ m (h : m < es.length), m < j → p es[m] = false) ∧ Below w.heap.size w wr) (fun _ i _ => es.length - (intOf i).toNat)
  case atStart => exact ⟨0, by omega, rfl, rfl, fun m _ h => absurd h (by omega), Below.refl _ _⟩
  case round =>
    obtain ⟨j, hj, rfl, rfl, hno, hb⟩ := hrel
    have HNO := Lib.hid hno; have HB := Lib.hid hb
    clear hno hb
    by_cases hlt : j < es.length
    · obtain ⟨b, off, lo, hi, vk, vn, vf, vs, A', m, c, rfl, hbl, hf, hv, hhi, d0, d1, d2, d3, d4, d5, d6, d7, d8, d9, d10⟩ := (HK.out.later HB.out).get j hlt
      have HC := Lib.hid (HG.out es[j] (List.getElem_mem hlt) lo hi vk vn vf vs A' m c wr hf hv hhi)
      unfold evCells at HC
      clear hf hv
      go_wp2_with fail
      refine HC.out.mono ?_
      rintro x w1 ⟨rfl, hb1⟩
      have HB1 := Lib.hid (HB.out.trans (hb1.mono HB.out.size))
      clear hb1 d0 d1 d2 d3 d4 d5 d6 d7 d8 d9 d10 HC
      cases hp : p es[j] with
      | true =>
        have HP := Lib.hid hp; clear hp
        go_wp2_with fail
        go_ret
        exact ⟨_, rfl, .inr ⟨j, rfl, hlt, HP.out, HNO.out⟩, HB1.out⟩
      | false =>
        have HP := Lib.hid hp; clear hp
        go_wp2_with fail
        go_roundw
        case rel => exact ⟨j + 1, by omega, by go_num, rfl, fun m h hm => by
          rcases Nat.lt_or_ge m j with q | q
          · exact HNO.out m h q
          · obtain rfl : m = j := by omega
            exact HP.out, HB1.out⟩
        case measure => simp [intOf]; omega
    · have hj' : j = es.length := by omega
      subst hj'
      go_wp2_with fail
      go_ret
      exact ⟨_, rfl, .inl ⟨rfl, fun m h => HNO.out m h h⟩, HB.out⟩

set_option maxRecDepth 100000 in
theorem bclone_any (es : List EV) (hl40 : es.length ≤ 1099511627775) (hS : ∀ i (h : i < es.length), es[i].v.Slim 900) (f : ByteArray) (at' : Nat) (A : Option Addr) (cap : Nat) (w : World) (h : EvsIn w A cap es) :
    Calls Try.prog 7 #[.agg #[.string f, .int .u64 at', .slice A es.length cap]] w fun r w' => ∃ A2 cap2, r = .returned (.agg #[.string f, .int .u64 at', .slice A2 es.length cap2]) ∧ Below w.heap.size w w' ∧ EvsAt w' w.heap.size A2 cap2 es.length es := by
  obtain ⟨W0, hW0⟩ : ∃ W0, W0 = (w.alloc (.cells #[.string f, .int .u64 at', .slice A es.length cap] 25)).alloc (.cells #[.string ⟨#[]⟩, .int .u64 0, .slice none 0 0] 25) := ⟨_, rfl⟩
  have hx0 : BB W0 w.heap.size f at' A es.length cap := by
    rw [hW0]; exact (heap_alloc_old _ _ (by simp)).trans (heap_alloc_new w _)
  have hx1 : BB W0 (w.heap.size + 1) ⟨#[]⟩ 0 none 0 0 := by
    rw [hW0]
    have e := heap_alloc_new (w.alloc (.cells #[.string f, .int .u64 at', .slice A es.length cap] 25)) (.cells #[.string ⟨#[]⟩, .int .u64 (0 : Nat), .slice none 0 0] 25)
    rw [World.size_alloc] at e
    exact e
  have hbw : Below w.heap.size w W0 := by rw [hW0]; exact (((Below.refl _ _).alloc (Nat.le_refl _) _).alloc (by simp) _)
  have hz0 : W0.heap.size = w.heap.size + 1 + 1 := by rw [hW0]; simp
  obtain ⟨c0, c1, c2, -⟩ := hx0.cells
  have HX0 := Lib.hid hx0; have HX1 := Lib.hid hx1; have HBW := Lib.hid hbw
  have HM := Lib.hid (mapped_any es hl40 hS A cap W0 (h.later hbw))
  clear hx0 hx1 hbw h hS
  replace hW0 := Lib.hid hW0
  go_enter Try.func7, Try.ntmps7
  go_upto_region 1 with fail
  rw [← hW0.out]
  go_wp2_with fail
  refine HM.out.mono ?_
  rintro x w1 ⟨A2, cap2, rfl, hb1, hev⟩
  obtain ⟨q0, q1, q2, qf⟩ := (HX0.out.later hb1 (by omega)).cells
  have hy := (HX1.out.later hb1 (by omega))
  obtain ⟨r0, r1, r2, rf⟩ := hy.cells
  have qf2 := qf 2
  have f0 := rf 0; have f1 := rf 1; have f2 := rf 2
  have HE := Lib.hid hev; have HB := Lib.hid (HBW.out.trans (hb1.mono (by omega)))
  clear hb1 hev qf rf hy c0 c1 c2
  go_wp2_with fail
  refine bodyPost_ret (v := .agg #[.string f, .int .u64 at', .slice A2 es.length cap2]) (by simp [results, Try.results7, go_sem, r0, r1, r2]) rfl ?_
  refine ⟨A2, cap2, rfl, (((HB.out.setCell (by simp) _).setCell (by simp) _).setCell (by simp) _).setCell (by simp) _, evs_base (evs_setCell (evs_setCell (evs_setCell (evs_setCell HE.out (by simp only []; omega) _) (by simp only []; omega) _) (by simp only []; omega) _) (by simp only []; omega) _) (by omega)⟩
end Cn
end Go.Proofs.Ytpneejlilgepfaa
