/- A wheel's Next. -/
import Derived.Test.YtkjlfoihojfnbaaDoorWhK
namespace Go.Proofs.YtkjlfoihojfnbaaDoor
open Go.RowKit Go.WideShapes Go.WideMaps Go.Maps
set_option linter.unusedVariables false
set_option linter.unusedSimpArgs false
namespace Wh
open Lv (slotOf slotOf_lt turnOf startOf W64 ret_int)
open Lo (IRow KB St Own updL Lies below_drew Deb sortI sortI_len bef bef_iff)
variable {base b now t : Nat} {w w' w1 : World} {V V' V0 : WV} {L : Nat → Nat → List (Nat × Nat)} {D F M T : List (Nat × Nat)} {P : Nat × Nat → Prop} {S S' : Nat → Prop}
theorem next_none (h : Whl base w b now [] S) :
    Calls Tryd.prog 34 #[.pointer (some ⟨b, 0, none⟩)] w fun e w' => e = .returned (.tuple #[.int .u64 0, .bool false]) ∧ w = w' := by
  have HC := Lib.hid (wcount_any h)
  clear h
  go_enter Tryd.func34, Tryd.ntmps34
  go_wp2_with fail
  refine HC.out.mono ?_
  rintro e w1 ⟨rfl, rfl⟩
  go_wp2_with fail
  go_ret2
  exact ⟨rfl, rfl⟩
theorem elemR_some {v : Value} {y : DataW Unit × List MemPlace} (h : elemR v = some y) : ∃ c : Int × Int, v = .agg #[.int .u64 c.1, .int .u64 c.2] := by
  unfold elemR at h
  split at h
  · rename_i cs
    unfold pairR at h
    split at h
    · rename_i i a e
      exact ⟨(i, a), by rw [← e, Array.toArray_toList]⟩
    · cases h
  · cases h
/-- What the least deadline so far is. -/
def LeastSt (T : List (Nat × Nat)) (left : Lit → Bool) (m : Nat) : Prop := m ≤ 9223372036854775807 ∧ (∀ x ∈ T, left (keyL x.1) = false → m ≤ x.2) ∧ (m = 9223372036854775807 ∨ ∃ x ∈ T, m = x.2)
theorem least_step {left : Lit → Bool} {m : Nat} (h : LeastSt T left m) {y : Nat × Nat} (hy : y ∈ T) (hid : (T.map Prod.fst).Nodup) (sm : ∀ x ∈ T, x.1 < 18446744073709551616 ∧ x.2 ≤ 9223372036854775807) : LeastSt T (fun z => left z && !z.sameKey (keyL y.1)) (min m y.2) := by
  refine ⟨by have := h.1; omega, fun x hx hl => ?_, ?_⟩
  · by_cases e : x.1 = y.1
    · rw [id_inj hid hx hy e]; omega
    · have h1 : left (keyL x.1) = false := by
        have h2 : (keyL x.1).sameKey (keyL y.1) = false := sameKey_ne (keyL_ne e)
        have hl' : (left (keyL x.1) && !(keyL x.1).sameKey (keyL y.1)) = false := hl
        rw [h2] at hl'
        simpa using hl'
      have := h.2.1 x hx h1; omega
  · rcases Nat.le_total m y.2 with e | e
    · rw [Nat.min_eq_left e]; exact h.2.2
    · rw [Nat.min_eq_right e]; exact .inr ⟨y, hy, rfl⟩
theorem least_end {left : Lit → Bool} {m : Nat} (h : LeastSt T left m) (hl : ∀ k, left k = false) (so : T.Pairwise bef) (sm : ∀ x ∈ T, x.1 < 18446744073709551616 ∧ x.2 ≤ 9223372036854775807) (h0 : 0 < T.length) : m = T[0].2 := by
  have h1 := h.2.1 T[0] (List.getElem_mem h0) (hl _)
  have hmin : ∀ x ∈ T, T[0].2 ≤ x.2 := fun x hx => by
    obtain ⟨i, hi, e⟩ := List.getElem_of_mem hx
    by_cases hi0 : i = 0
    · subst hi0; rw [e]; exact Nat.le_refl _
    · have := List.pairwise_iff_getElem.1 so 0 i h0 hi (by omega)
      rw [bef_iff, e] at this; omega
  rcases h.2.2 with e | ⟨x, hx, e⟩
  · have := (sm T[0] (List.getElem_mem h0)).2; omega
  · have := hmin x hx; omega
set_option maxRecDepth 100000 in
set_option maxHeartbeats 2000000 in
theorem next_some (h : Whl base w b now T S) (h0 : 0 < T.length) (hT : T.length ≤ 1000) :
    Calls Tryd.prog 34 #[.pointer (some ⟨b, 0, none⟩)] w fun e w' => e = .returned (.tuple #[.int .u64 (T[0].2 : Nat), .bool true]) ∧ Below w.heap.size w w' := by
  have HC := Lib.hid (wcount_any h)
  obtain ⟨V, L, D, F, h1, -, -⟩ := h.ex
  obtain ⟨-, c1, -⟩ := h1.cells
  obtain ⟨DM, o1, o2, o3, o4⟩ := h1.map
  have H := Lib.hid h
  have hl0 : ((T.length : Int) == 0) = false := beq_eq_false_iff_ne.2 (by omega)
  have hbm : V.bm < w.heap.size := h1.map.lt
  generalize V.bm = bm at *
  have HO3 := Lib.hid o3
  have HO4 := Lib.hid o4
  clear h h1 o3 o4
  go_enter Tryd.func34, Tryd.ntmps34
  go_wp2_with fail
  refine HC.out.mono ?_
  rintro e w1 ⟨rfl, rfl⟩
  go_wp2_with (at_range; refine wpList_range_own _ rfl _ 85 rfl 27 34 keyed Tryd.underlying85 elemR bm T.length DM rfl o1 ?_; intro w0 hrg0 hg0 hs0)
  go_frame
  have HB0 : Hid (Below w.heap.size w w0) := Lib.hid ⟨hg0.os, hg0.tape, hg0.output, hg0.size, fun j hj => hg0.block j hj (by simp)⟩
  have HRG := Lib.hid hrg0
  clear hrg0 hg0
  go_loopw [4] (fun v4 wr => ∃ (left : Lit → Bool) (cnt m : Nat), wr.ranges Tryd.prog 27 elemR bm w.heap.size T.length DM left cnt ∧ (∀ k, left k = true → Maps.has DM k = true) ∧ v4 = .int .u64 (m : Nat) ∧ Hid (LeastSt T left m) ∧ Below w.heap.size w wr) (fun _ wr => wr.rangeLeft bm w.heap.size)
  case atStart =>
    refine ⟨Maps.has DM, Maps.size DM, 9223372036854775807, HRG.out, fun k hk => hk, rfl, Lib.hid ⟨Nat.le_refl _, fun x hx hl => ?_, .inl rfl⟩, HB0.out⟩
    rw [HO3.out x.1 (H.out.sm x hx).1] at hl
    have := (hasId_iff T x.1).2 ⟨x, hx, rfl⟩
    rw [hl] at this
    cases this
  case round =>
    obtain ⟨left, cnt, m, hrg, hlh, rfl, HLS, hbr⟩ := hrel
    rename_i wr
    have HRG1 := Lib.hid hrg
    have HBR := Lib.hid hbr
    have HLH := Lib.hid hlh
    have hm63 := HLS.out.1
    clear hrg hbr hlh
    go_wp2_with (at_next; refine wpList_next_ranges _ rfl _ rfl 27 keyed elemR (fun x : Int => Value.int .u64 x) (fun c : Int × Int => Value.agg #[.int .u64 c.1, .int .u64 c.2]) (fun key kl hkey => by obtain ⟨x, rfl, _⟩ := Maps.keyOf_int_inv Tryd.underlying27 hkey; exact ⟨x, rfl⟩) (fun v y hv => elemR_some hv) bm w.heap.size T.length DM left cnt rfl HRG1.out ?_ ?_)
    · intro hc0 hl0
      have HE := Lib.hid (least_end HLS.out hl0 H.out.sorted H.out.sm h0)
      clear hc0 hl0
      go_wp2_with fail
      go_ret2
      rw [← HE.out]
      exact ⟨rfl, HBR.out⟩
    · intro x a c kl d ps wn cnt' hkey hlk hv hat hrg1 hlt hg1 hs1 hen
      obtain ⟨x', e1, rfl, hwf⟩ := Maps.keyOf_int_inv Tryd.underlying27 hkey
      injection e1 with _ e1
      subst e1
      have hwf' := hwf
      simp [Lit.wf, IntKind.min, IntKind.max, IntKind.bits, IntKind.signed] at hwf'
      obtain ⟨id, rfl⟩ := Int.eq_ofNat_of_zero_le hwf'.1
      have hhas := HLH.out _ hlk
      have hid : id < 18446744073709551616 := by omega
      have hh2 := HO3.out id hid
      rw [show (keyL id) = Lit.int .u64 (id : Int) from rfl, hhas] at hh2
      obtain ⟨y, hy, rfl⟩ := (hasId_iff T id).1 hh2.symm
      have hd : d = itemD y := (hat (itemD y)).symm.trans ((HO4.out y hy).2.2 _)
      subst hd
      have hv2 := elemR_inv hv
      unfold itemV at hv2
      have hy63 := (H.out.sm y hy).2
      obtain ⟨mm, hmm⟩ : ∃ mm, mm = min m y.2 := ⟨_, rfl⟩
      have HLS2 : Hid (LeastSt T (fun z => left z && !z.sameKey (keyL y.1)) mm) := Lib.hid (by rw [hmm]; exact least_step HLS.out hy H.out.ids H.out.sm)
      have hmn : min (m : Int) (y.2 : Int) = (mm : Nat) := by omega
      have HR1 := Lib.hid hrg1
      have HB1 : Hid (Below w.heap.size w wn) := Lib.hid (HBR.out.grown hg1 HBR.out.size (fun k hk => by cases hk; exact Nat.le_refl _))
      have HLT := Lib.hid hlt
      have HLE := Lib.hid HRG1.out.left_eq
      have HLH2 : Hid (∀ k, (left k && !k.sameKey (keyL y.1)) = true → Maps.has DM k = true) := Lib.hid fun k hk => HLH.out k (by simp at hk; exact hk.1)
      simp at hv2
      obtain ⟨ha, hc⟩ := hv2
      subst ha hc
      have hz1 : w.heap.size ≤ wn.heap.size := HB1.out.size
      clear hkey hlk hv hat hrg1 hlt hg1 hs1 hwf hwf' hhas hid hh2 hmm hy
      go_wp2_with fail
      exact ⟨⟨_, cnt', mm, HR1.out.alloc _, HLH2.out, rfl, HLS2.out, HB1.out.alloc hz1 _⟩, by rw [(HR1.out.alloc _).left_eq, HLE.out]; exact HLT.out⟩
end Wh
end Go.Proofs.YtkjlfoihojfnbaaDoor
