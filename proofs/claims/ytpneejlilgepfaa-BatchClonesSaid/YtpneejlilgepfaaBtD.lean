/- slices.Grow of nil; slices.Concat of bytes. -/
import Derived.Test.YtpneejlilgepfaaBtC
namespace Go.Proofs.Ytpneejlilgepfaa
open Go.RowKit
set_option linter.unusedVariables false
namespace Bt
open Nm (ret_int ret_bool)

set_option maxRecDepth 100000 in
theorem grow_any (n : Nat) (hn : n ≤ 35184372088832) (w : World) :
    Calls Try.prog 39 #[.slice none 0 0, .int .i64 n] w fun e w' => ∃ v, e = .returned v ∧ BOwn w' w.heap.size v [] ∧ Below w.heap.size w w' := by
  obtain ⟨i0, hi, hz0, hz1, hz2⟩ := info_parts Try.infoB
  rcases Nat.eq_zero_or_pos n with h0 | h0
  · subst h0
    go_enter Try.func39, Try.ntmps39
    go_wp2_with fail
    go_ret
    exact ⟨_, rfl, bown_nil _ _, Below.refl _ _⟩
  · have hr := Lib.run_append_nil_zeros (P := Try.prog) w 40 3 40 5 i0 (.int .u8 0) .i64 .i64 Try.underlying40 Try.underlying3 hi hz0 n h0 (by omega) (by omega) (by rw [hz2]; omega)
    have HR := Lib.hid hr
    obtain ⟨gc, hgc⟩ : ∃ gc, gc = grownCap w n 0 5 := ⟨_, rfl⟩
    have hge : n ≤ gc := by rw [hgc]; exact grownCap_ge ..
    have hle : gc ≤ maxLen := by rw [hgc]; exact grownCap_le_maxLen _ _ _ _ (by simp only [maxLen]; omega)
    rw [← hgc] at HR
    clear hr hgc
    have hle2 := hle
    simp only [maxLen] at hle2
    go_enter Try.func39, Try.ntmps39
    go_wp2_with (at_builtin; refine Lib.wpList_append_run _ rfl _ _ _ _ rfl _ _ rfl rfl _ _ HR.out ?_)
    go_ret
    refine ⟨_, rfl, ⟨rfl, .inr ⟨w.heap.size, gc, _, rfl, Nat.le_refl _, heap_alloc_new w.drew _, Nat.zero_le _, hle, ?_, rfl⟩⟩, (Below.refl _ _).drew.alloc (Nat.le_refl _) _⟩
    simp only [Array.size_append, size_zeroCells]
    show n * 1 + (gc - n) * 1 = gc * 1
    omega

/-- A list of byte slices that can be read. -/
def PIn (w : World) (A : Option Addr) (cap : Nat) (ls : List (List Nat)) : Prop := ls.length ≤ cap ∧ cap ≤ maxLen ∧ (0 < ls.length → ∃ b off, A = some ⟨b, off, none⟩ ∧ b < w.heap.size ∧ ∀ i (h : i < ls.length), ∃ v, w.cell? ⟨b, off + i, none⟩ = some v ∧ BIn w v ls[i])

theorem PIn.later {w w' : World} {A : Option Addr} {cap : Nat} {ls : List (List Nat)} (h : PIn w A cap ls) (hb : Below w.heap.size w w') : PIn w' A cap ls := ⟨h.1, h.2.1, fun hp => by
  obtain ⟨b, off, hA, hlt, h3⟩ := h.2.2 hp
  refine ⟨b, off, hA, Nat.lt_of_lt_of_le hlt hb.size, fun i hi => ?_⟩
  obtain ⟨v, h4, h5⟩ := h3 i hi
  exact ⟨v, (hb.cell (p := ⟨b, _, none⟩) hlt).trans h4, h5.later hb⟩⟩

theorem BIn.form {w : World} {v : Value} {l : List Nat} (h : BIn w v l) : ∃ A cap, v = .slice A l.length cap := by
  rcases h with ⟨rfl, rfl⟩ | ⟨ad, cap, rfl, -⟩
  · exact ⟨none, 0, rfl⟩
  · exact ⟨some ad, cap, rfl⟩

theorem flat_take (ls : List (List Nat)) (j : Nat) (h : j < ls.length) : (ls.take (j + 1)).flatten = (ls.take j).flatten ++ ls[j] := by
  rw [List.take_succ_eq_append_getElem h, List.flatten_append]; simp
theorem flat_len (ls : List (List Nat)) (j : Nat) : (ls.take j).flatten.length ≤ ls.flatten.length := by
  have : (ls.take j ++ ls.drop j).flatten.length = ls.flatten.length := by rw [List.take_append_drop]
  rw [List.flatten_append, List.length_append] at this
  omega

/-- How many bytes the first j slices have. -/
def plen (ls : List (List Nat)) (j : Nat) : Nat := (ls.take j).flatten.length

set_option maxRecDepth 100000 in
set_option maxHeartbeats 400000 in
theorem concat_any (ls : List (List Nat)) (A : Option Addr) (cap : Nat) (w : World) (h : PIn w A cap ls) (hn : ls.flatten.length ≤ 35184372088832) (hl0 : ls.length ≤ 35184372088832) :
    Calls Try.prog 27 #[.slice A ls.length cap] w fun e w' => ∃ v, e = .returned v ∧ BOwn w' w.heap.size v ls.flatten ∧ Below w.heap.size w w' := by
  have hl := h.1
  have hc := h.2.1
  simp only [maxLen] at hc
  have HK := Lib.hid h; clear h
  go_enter Try.func27, Try.ntmps27
  go_wp2_with fail
  go_loop [3, 11] (fun n i => ∃ (j : Nat), j ≤ ls.length ∧ i = .int .i64 j ∧ n = .int .i64 (plen ls j : Nat)) (fun _ i => ls.length - (intOf i).toNat)
  case atStart => exact ⟨0, by omega, rfl, rfl⟩
  case round =>
    obtain ⟨j, hj, rfl, rfl⟩ := hrel
    by_cases hlt : j < ls.length
    · obtain ⟨b, off, rfl, hbl, h3⟩ := HK.out.2.2 (by omega)
      obtain ⟨v, hv, hin⟩ := h3 j hlt
      obtain ⟨A', cap', rfl⟩ := hin.form
      have hf := flat_take ls j hlt
      have hm := flat_len ls (j + 1)
      rw [hf, List.length_append] at hm
      have HF : Hid (plen ls (j + 1) = plen ls j + ls[j].length) := Lib.hid (by unfold plen; rw [hf, List.length_append])
      have hm2 : plen ls j + ls[j].length ≤ 35184372088832 := by unfold plen; omega
      generalize plen ls j = a at *
      generalize ls[j].length = c at *
      clear h3 hin hf hm
      go_wp2_with fail
      exact ⟨⟨j + 1, by omega, by go_num, by rw [HF.out]; go_num⟩, by simp [intOf]; omega⟩
    · have hj' : j = ls.length := by omega
      subst hj'
      have hp : plen ls ls.length ≤ 35184372088832 := by unfold plen; rw [List.take_length]; exact hn
      generalize plen ls ls.length = N at *
      have HG := Lib.hid (grow_any N (by omega) w)
      go_wp2_with fail
      refine HG.out.mono ?_
      rintro e w1 ⟨v0, rfl, hown0, hb0⟩
      have HO := Lib.hid hown0
      have HB0 := Lib.hid hb0
      clear hown0 hb0 HG
      go_wp2_with fail
      go_loopw [6, 27] (fun o i wr => ∃ (j : Nat), j ≤ ls.length ∧ i = .int .i64 j ∧ BOwn wr w.heap.size o (ls.take j).flatten ∧ Below w.heap.size w wr) (fun _ i _ => ls.length - (intOf i).toNat)
      case atStart => exact ⟨0, by omega, rfl, HO.out, HB0.out⟩
      case round =>
        obtain ⟨j, hj, rfl, hown, hb⟩ := hrel
        by_cases hlt : j < ls.length
        · obtain ⟨b, off, rfl, hbl, h3⟩ := (HK.out.later hb).2.2 (by omega)
          obtain ⟨v, hv, hin⟩ := h3 j hlt
          have hf := flat_take ls j hlt
          have hm := flat_len ls (j + 1)
          rw [hf, List.length_append] at hm
          have hbs := hb.size
          have HB := Lib.hid hb
          clear h3 hb
          go_wp2_with (at_builtin; refine wpList_append_bytes _ rfl _ _ rfl w.heap.size _ v (ls.take j).flatten ls[j] rfl rfl hown hin (by omega) hbs ?_; intro v2 w2 hown2 hg2 hb2)
          rw [← hf] at hown2
          have HO2 := Lib.hid hown2
          have HB2 := Lib.hid (HB.out.trans hb2)
          clear hown2 hb2
          go_wp2_with fail
          exact ⟨⟨j + 1, by omega, by go_num, HO2.out, HB2.out⟩, by simp [intOf]; omega⟩
        · have hj' : j = ls.length := by omega
          subst hj'
          rw [List.take_length] at hown
          go_wp2_with fail
          go_ret
          exact ⟨_, rfl, hown, hb⟩
end Bt
end Go.Proofs.Ytpneejlilgepfaa
