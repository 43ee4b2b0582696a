/- Contracts of do and model. -/
import Derived.Test.YtpnepnhajpmccaaCwO
namespace Go.Proofs.Ytpnepnhajpmccaa
open Go.RowKit
set_option linter.unusedVariables false
namespace Cm
variable {X : Nat → Prop}
open Nm (bitsW ret_int ret_bool)
open Vt (VT Rep BoxAt below_drew Cloned put5 toList_inj rowCells)
open Ev (EV FieldsOk evCells vCells EBox ERep zeroT)

/-- What a call's own fields meet. -/
structure OpOk (o : OpT) : Prop where
  t1 : o.text.size ≤ maxLen
  n1 : o.n < 18446744073709551616
  slim : o.v.Slim 900

theorem cells8 {W : World} {g : Nat} {a b c d e f h i : Value} {t : TypeId} (r : W.heap[g]? = some (.cells #[a, b, c, d, e, f, h, i] t (0, 0))) : W.cell? ⟨g, 0, none⟩ = some a ∧ W.cell? ⟨g, 1, none⟩ = some b ∧ W.cell? ⟨g, 2, none⟩ = some c ∧ W.cell? ⟨g, 3, none⟩ = some d ∧ W.cell? ⟨g, 4, none⟩ = some e ∧ W.cell? ⟨g, 5, none⟩ = some f ∧ W.cell? ⟨g, 6, none⟩ = some h ∧ W.cell? ⟨g, 7, none⟩ = some i := by
  simp [World.cell?, r]

set_option maxRecDepth 100000 in
set_option maxHeartbeats 1000000 in
theorem do_any (base g : Nat) (A : Option Addr) (s : BS) (b k : Nat) (hok : SOk s b k) (hk : b + k + 1 < 18446744073709551616) (o : OpT) (ho : OpOk o) (lo hi : Nat) (vk vn : Int) (vf : Nat) (vs : ByteArray) (A' : Option Addr) (m c : Nat) (w : World) (hb : BH X w base g A s) (hl : s.es.length ≤ 1000000) (hbw : base ≤ w.heap.size)
    (hX : ∀ r, X r → r < w.heap.size) (hv : Rep w lo hi o.v (vCells vk vn vf vs A' m c)) (hz : hi ≤ w.heap.size) :
    Calls Try.prog 11 #[.pointer (some ⟨g, 0, none⟩), .agg (opCells o vk vn vf vs A' m c)] w fun r w' => r = .returned (.int .u64 (doS s o).2) ∧ BStep X w w' base g A (doS s o).1 := by
  have hn1 := hok.next1
  have hat := hok.at1
  obtain ⟨W0, hW0⟩ : ∃ W0, W0 = w.alloc (.cells (opCells o vk vn vf vs A' m c) 36) := ⟨_, rfl⟩
  have hB0 : Below w.heap.size w W0 := by rw [hW0]; exact (Below.refl _ _).alloc (Nat.le_refl _) _
  have h8 : W0.heap[w.heap.size]? = some (.cells (opCells o vk vn vf vs A' m c) 36 (0, 0)) := by rw [hW0]; exact heap_alloc_new _ _
  have hbw0 := hB0.size
  have hb0 := hb.later hB0
  have hv0 := hv.later (hB0.mono hz)
  have HSc : Hid (Calls Try.prog 19 #[.pointer (some ⟨g, 0, none⟩), .string o.text, vCells vk vn vf vs A' m c] W0 fun r w' => r = .returned (.int .u64 (s.number (schedE o.text o.v)).2) ∧ BStep X w w' base g A (s.number (schedE o.text o.v)).1) :=
    Lib.hid ((schedule_any base g A s o.text o.v lo hi vk vn vf vs A' m c W0 hb0 hl (by omega) ho.t1 (by omega) hv0 (by omega) (fun r hr => by have := hX r hr; omega) ho.slim).mono fun r w' h => ⟨h.1, BStep.after hB0 h.2⟩)
  have HAr : Hid (Calls Try.prog 20 #[.pointer (some ⟨g, 0, none⟩), .int .u64 o.n] W0 fun r w' => r = .returned (.int .u64 (s.number (armE (Nm.addW s.at' o.n))).2) ∧ BStep X w w' base g A (s.number (armE (Nm.addW s.at' o.n))).1) :=
    Lib.hid ((arm_any base g A s o.n ho.n1 W0 hb0 hl (by omega) (by omega) (by omega)).mono fun r w' h => ⟨h.1, BStep.after hB0 h.2⟩)
  have HCo : Hid (Calls Try.prog 21 #[.pointer (some ⟨g, 0, none⟩), vCells vk vn vf vs A' m c] W0 fun r w' => r = .returned (.bool (s.fin (complE o.v)).2) ∧ BStep X w w' base g A (s.fin (complE o.v)).1) :=
    Lib.hid ((complete_any base g A s o.v lo hi vk vn vf vs A' m c W0 hb0 hl (by omega) hv0 (by omega) (fun r hr => by have := hX r hr; omega) ho.slim).mono fun r w' h => ⟨h.1, BStep.after hB0 h.2⟩)
  have HFa : Hid (Calls Try.prog 22 #[.pointer (some ⟨g, 0, none⟩), .string o.text] W0 fun r w' => r = .returned (.bool (s.fin (failE o.text)).2) ∧ BStep X w w' base g A (s.fin (failE o.text)).1) :=
    Lib.hid ((fail_any base g A s o.text ho.t1 W0 hb0 hl (by omega)).mono fun r w' h => ⟨h.1, BStep.after hB0 h.2⟩)
  have HPa : Hid (Calls Try.prog 23 #[.pointer (some ⟨g, 0, none⟩), .string o.text] W0 fun r w' => r = .returned (.bool (s.fin (panicE o.text)).2) ∧ BStep X w w' base g A (s.fin (panicE o.text)).1) :=
    Lib.hid ((panic_any base g A s o.text ho.t1 W0 hb0 hl (by omega)).mono fun r w' h => ⟨h.1, BStep.after hB0 h.2⟩)
  obtain ⟨kd, text, v, n⟩ := o
  unfold opCells at h8 hW0
  obtain ⟨c0, c1, c2, c3, c4, c5, c6, c7⟩ := cells8 h8
  clear hv hv0 hb hb0 h8 hok ho hX hB0
  replace hW0 := Lib.hid hW0
  unfold opCells
  simp only at HSc HAr HCo HFa HPa c0 c1 c2 c3 c4 c5 c6 c7
  unfold vCells at HSc HCo
  unfold doS finE
  simp only
  by_cases h0 : kd = 0
  · subst h0
    rw [if_pos rfl]
    generalize s.number (schedE text v) = q at *
    obtain ⟨s', n'⟩ := q
    clear HAr HCo HFa HPa
    simp only at HSc ⊢
    go_enter Try.func11, Try.ntmps11
    go_upto_region 1 with fail
    rw [← hW0.out]
    go_wp2_with fail
    refine HSc.out.mono ?_
    rintro x w3 ⟨rfl, h3⟩
    go_wp2_with fail
    go_ret
    exact ⟨rfl, h3⟩
  · rw [if_neg h0]
    have e0 : (kd == 0) = false := by simpa using h0
    by_cases h1 : kd = 1
    · subst h1
      rw [if_pos rfl]
      generalize s.number (armE (Nm.addW s.at' n)) = q at *
      obtain ⟨s', n'⟩ := q
      clear HSc HCo HFa HPa
      simp only at HAr ⊢
      go_enter Try.func11, Try.ntmps11
      go_upto_region 1 with fail
      rw [← hW0.out]
      go_wp2_with fail
      refine HAr.out.mono ?_
      rintro x w3 ⟨rfl, h3⟩
      go_wp2_with fail
      go_ret
      exact ⟨rfl, h3⟩
    · rw [if_neg h1]
      have e1 : (kd == 1) = false := by simpa using h1
      by_cases h2 : kd = 2
      · subst h2
        rw [if_pos rfl]
        generalize s.fin (complE v) = q at *
        obtain ⟨s', n'⟩ := q
        clear HSc HAr HFa HPa
        simp only at HCo ⊢
        cases n'
        all_goals
          go_enter Try.func11, Try.ntmps11
          go_upto_region 1 with fail
          rw [← hW0.out]
          go_wp2_with fail
          refine HCo.out.mono ?_
          rintro x w3 ⟨rfl, h3⟩
          go_wp2_with fail
          go_ret
          exact ⟨by simp, h3⟩
      · rw [if_neg h2]
        have e2 : (kd == 2) = false := by simpa using h2
        by_cases h3 : kd = 3
        · subst h3
          rw [if_pos rfl]
          generalize s.fin (failE text) = q at *
          obtain ⟨s', n'⟩ := q
          clear HSc HAr HCo HPa
          simp only at HFa ⊢
          cases n'
          all_goals
            go_enter Try.func11, Try.ntmps11
            go_upto_region 1 with fail
            rw [← hW0.out]
            go_wp2_with fail
            refine HFa.out.mono ?_
            rintro x w3 ⟨rfl, h3⟩
            go_wp2_with fail
            go_ret
            exact ⟨by simp, h3⟩
        · rw [if_neg h3]
          have e3 : (kd == 3) = false := by simpa using h3
          generalize s.fin (panicE text) = q at *
          obtain ⟨s', n'⟩ := q
          clear HSc HAr HCo HFa
          simp only at HPa ⊢
          cases n'
          all_goals
            go_enter Try.func11, Try.ntmps11
            go_upto_region 1 with fail
            rw [← hW0.out]
            go_wp2_with fail
            refine HPa.out.mono ?_
            rintro x w3 ⟨rfl, h3⟩
            go_wp2_with fail
            go_ret
            exact ⟨by simp, h3⟩
end Cm
end Go.Proofs.Ytpnepnhajpmccaa
