/- The reference's text of a batch. -/
import Derived.Test.YtcbddebmmaflgaaGreatDoorMiba
import Derived.Test.YtcbddebmmaflgaaGreatDoorMiaz
import Derived.Test.YtcbddebmmaflgaaGreatDoorMibc
namespace Go.Proofs.YtcbddebmmaflgaaGreatDoor
open Go.RowKit
set_option linter.unusedVariables false
set_option linter.unusedSimpArgs false
namespace Rg
open _root_.Go.Proofs.YtcbddebmmaflgaaGreatDoor.Nm (bitsW ret_int ret_bool)
open Pf (stext)
open Vf (KT etext etextB)
open Vt (VT Rep BoxAt below_drew)
open Ev (EV FieldsOk evCells vCells take_drop tk cons_drop)
open Cm (EvsIn)
open Cn (BB bvalid)
open Bs (strB bfront btext btextB)
open Rf (valid_size all_valid)

theorem tails_le {es : List EV} (h : ∀ e ∈ es, (etext e).length ≤ 30000) : (Lib.joinTail [59, 32] (es.map etext)).length ≤ es.length * 30002 := by
  induction es with
  | nil => simp [Lib.joinTail]
  | cons x l ih =>
    have h1 := h x (List.mem_cons_self ..)
    have h2 := ih fun e he => h e (List.mem_cons_of_mem _ he)
    simp only [Lib.joinTail, List.map_cons, List.flatten_cons, List.length_append, List.length_cons, List.length_nil, Nat.succ_mul] at h2 ⊢
    omega
theorem tails_take (es : List EV) (j : Nat) (h : j < es.length) : Lib.joinTail [59, 32] ((es.take (j + 1)).map etext) = Lib.joinTail [59, 32] ((es.take j).map etext) ++ [59, 32] ++ etext es[j] := by
  have := Lib.joinTail_take_succ [59, 32] (es.map etext) j (etext es[j]) (by simp [h])
  rw [← List.map_take, ← List.map_take] at this
  exact this
theorem tails_take_le (es : List EV) (j : Nat) : (Lib.joinTail [59, 32] ((es.take j).map etext)).length ≤ (Lib.joinTail [59, 32] (es.map etext)).length := by
  have := Lib.joinTail_take_le [59, 32] (es.map etext) j
  rw [← List.map_take] at this
  exact this
set_option maxRecDepth 100000 in
theorem rqtext_any (s : ByteArray) (hs : s.size ≤ 1000) (w : World) : Calls Tryz.prog 65 #[.agg #[.int .i64 3, .int .i64 0, .float .f64 0, .string s, .slice none 0 0]] w (KT w (stext s)) := by
  have := rvtext_any (.mk 3 0 0 s []) (by rw [Vf.text_of, Vf.stext_len]; omega) (Vf.text_slim s (by omega)) 0 0 (.agg #[.int .i64 3, .int .i64 0, .float .f64 0, .string s, .slice none 0 0]) w (rep_leaf' ⟨by decide, by decide, by decide, by decide, by decide, by simp only [maxLen]; omega, by decide⟩) (Nat.zero_le _) (Vf.text_valid s)
  rw [Vf.text_of] at this
  exact this

set_option maxRecDepth 100000 in
theorem r13text_no (es : List EV) (f : ByteArray) (hfs : f.size ≤ maxLen) (at' : Nat) (hat : at' < 18446744073709551616) (A : Option Addr) (cap : Nat) (w : World) (h : EvsIn w A cap es) (hval : bvalid f at' es = false) :
    Calls Tryz.prog 26 #[.agg #[.string f, .int .u64 (at' : Nat), .slice A es.length cap]] w fun r w' => r = .returned (.string ⟨#[]⟩) ∧ Below w.heap.size w w' := by
  obtain ⟨W0, hW0⟩ : ∃ W0, W0 = w.alloc (.cells #[.string f, .int .u64 (at' : Nat), .slice A es.length cap] 49) := ⟨_, rfl⟩
  have hx0 : BB W0 w.heap.size f at' A es.length cap := by rw [hW0]; exact heap_alloc_new w _
  have hb0 : Below w.heap.size w W0 := by rw [hW0]; exact (Below.refl _ _).alloc (Nat.le_refl _) _
  have HV := Lib.hid (Rd.r13valid_any es f hfs at' hat A cap W0 (h.later hb0))
  rw [hval] at HV
  have HB0 := Lib.hid hb0
  obtain ⟨c0, c1, c2, -⟩ := hx0.cells
  clear h hx0 hb0
  replace hW0 := Lib.hid hW0
  go_enter Tryz.func26, Tryz.ntmps26
  go_upto_region 1 with fail
  rw [← hW0.out]
  go_wp2_with fail
  refine HV.out.mono ?_
  rintro x w1 ⟨rfl, hb1⟩
  have HB1 := Lib.hid (HB0.out.trans (hb1.mono HB0.out.size))
  clear hb1
  go_wp2_with fail
  go_ret
  exact ⟨rfl, HB1.out⟩

set_option maxRecDepth 100000 in
set_option maxHeartbeats 4000000 in
theorem r13text_any (es : List EV) (hl2 : es.length ≤ 2097152) (hfew : ∀ e ∈ es, e.v.few = true) (htl : ∀ e ∈ es, (etext e).length ≤ 30000) (f : ByteArray) (at' : Nat) (hat : at' < 18446744073709551616) (A : Option Addr) (cap : Nat) (w : World) (h : EvsIn w A cap es) (hval : bvalid f at' es = true) :
    Calls Tryz.prog 26 #[.agg #[.string f, .int .u64 (at' : Nat), .slice A es.length cap]] w fun r w' => r = .returned (.string (btextB f at' es)) ∧ Below w.heap.size w w' := by
  have hle := h.le
  have hc := h.cap_le
  simp only [maxLen] at hc
  have hf1 := valid_size hval
  obtain ⟨W0, hW0⟩ : ∃ W0, W0 = w.alloc (.cells #[.string f, .int .u64 (at' : Nat), .slice A es.length cap] 49) := ⟨_, rfl⟩
  have hx0 : BB W0 w.heap.size f at' A es.length cap := by rw [hW0]; exact heap_alloc_new w _
  have hb0 : Below w.heap.size w W0 := by rw [hW0]; exact (Below.refl _ _).alloc (Nat.le_refl _) _
  have hz0 : w.heap.size < W0.heap.size := by rw [hW0]; simp
  have HK := Lib.hid (h.later hb0)
  have HBX : Hid (∀ W, Below W0.heap.size W0 W → BB W w.heap.size f at' A es.length cap) := Lib.hid fun W hW => hx0.later hW hz0
  have KS : Hid (∀ W', Below W0.heap.size W0 W' → (W'.cell? ⟨w.heap.size, 0, none⟩ = some (.string f) ∧ W'.cell? ⟨w.heap.size, 1, none⟩ = some (.int .u64 (at' : Nat)))) := Lib.hid fun W hW => by
    obtain ⟨c0, c1, -⟩ := (hx0.later hW hz0).cells
    exact ⟨c0, c1⟩
  have HV := Lib.hid (Rd.r13valid_any es f (by simp only [maxLen]; omega) at' hat A cap W0 (h.later hb0))
  rw [hval] at HV
  have HAV := Lib.hid (all_valid hval)
  have HFEW := Lib.hid hfew
  have HB0 := Lib.hid hb0
  have htt := tails_le htl
  have ld := Vf.dec_len at' hat
  have lq := Vf.stext_len f
  obtain ⟨Q, hQ⟩ : ∃ Q : ByteArray, Q = bs (stext f) := ⟨_, rfl⟩
  obtain ⟨U, hU⟩ : ∃ U : ByteArray, U = bs (Lib.decDigits at') := ⟨_, rfl⟩
  have hqs : Q.size = 2 * f.size + 2 := by rw [hQ, bs_size]; exact lq
  have hus : U.size ≤ 21 := by rw [hU, bs_size]; exact ld
  have HQ : Hid (∀ W, Calls Tryz.prog 65 #[.agg #[.int .i64 3, .int .i64 0, .float .f64 0, .string f, .slice none 0 0]] W fun r w' => r = .returned (.string Q) ∧ Below W.heap.size W w') := Lib.hid fun W => by rw [hQ]; exact rqtext_any f hf1 W
  have HU : Hid (∀ W, Calls Tryz.prog 63 #[.int .u64 (at' : Nat)] W fun r w' => r = .returned (.string U) ∧ Below W.heap.size W w') := Lib.hid fun W => by rw [hU]; exact runsigned_any at' hat W
  obtain ⟨fr, hfr⟩ : ∃ fr, fr = bfront f at' := ⟨_, rfl⟩
  have HFR : Hid (Q ++ ⟨#[32]⟩ ++ U = bs fr) := Lib.hid (by
    rw [hQ, hU, hfr, show (⟨#[32]⟩ : ByteArray) = bs [32] from rfl, bs_append, bs_append]; simp [bfront])
  have hfl : fr.length ≤ 3000 := by rw [hfr]; unfold bfront; simp only [List.length_append, List.length_cons]; omega
  have HBT : Hid (btextB f at' es = bs (fr ++ Lib.joinTail [59, 32] (es.map etext))) := Lib.hid (by
    unfold btextB btext; rw [Lib.join_cons, hfr]; rfl)
  have hz1 : ¬ (9223372036854775807 < Q.size + 1) := by omega
  have hz2 : ¬ (9223372036854775807 < Q.size + 1 + U.size) := by omega
  have HTT := Lib.hid htt; have HFL := Lib.hid hfl
  obtain ⟨c0, c1, c2, -⟩ := hx0.cells
  clear h hx0 hb0 hfew htt hfl hQ hU hqs hus ld lq htl hfr
  generalize hn : es.length = n at *
  have HN := Lib.hid hn; clear hn
  replace hW0 := Lib.hid hW0
  go_enter Tryz.func26, Tryz.ntmps26
  go_upto_region 1 with fail
  rw [← hW0.out]
  go_wp2_with fail
  refine HV.out.mono ?_
  rintro x w1 ⟨rfl, hb1⟩
  have HB1 := Lib.hid hb1
  clear hb1 c0 c1 c2
  go_upto_region 3 with fail
  refine wp_region_noPanic ?_
  refine wp_region_held_drew (S := (fun W' : World => W'.cell? ⟨w.heap.size, 0, none⟩ = some (.string f) ∧ W'.cell? ⟨w.heap.size, 1, none⟩ = some (.int .u64 (at' : Nat)))) (by kernel_rfl) ?_ (fun hHeld => ?_)
  · exact KS.out _ (below_drew HB1.out)
  have HB2 : Hid (Below W0.heap.size W0 w1.drew) := Lib.hid (below_drew HB1.out)
  refine tk (i := 0) rfl ?_
  try simp only [Act.put, List.setIfInBounds_toArray, List.set_cons_zero, List.set_cons_succ]
  refine tk (i := 1) rfl ?_
  try simp only [Act.put, List.setIfInBounds_toArray, List.set_cons_zero, List.set_cons_succ]
  refine tk (i := 2) rfl ?_
  try simp only [Act.put, List.setIfInBounds_toArray, List.set_cons_zero, List.set_cons_succ]
  refine tk (i := 5) rfl ?_
  try simp only [Act.put, List.setIfInBounds_toArray, List.set_cons_zero, List.set_cons_succ]
  refine tk (i := 6) rfl ?_
  try simp only [Act.put, List.setIfInBounds_toArray, List.set_cons_zero, List.set_cons_succ]
  refine wpAnyH_ready (rs := [3]) (by kernel_rfl) (by simp) ?_
  refine cons_drop rfl (fun K hK => ?_) AllReadyH.nil
  go_simp
  refine (HQ.out _).mono ?_
  rintro x3 w3 ⟨rfl, hb3⟩
  have HB3 : Hid (Below W0.heap.size W0 w3) := Lib.hid (HB2.out.trans (hb3.mono HB2.out.size))
  clear hb3
  go_wp2_with fail
  refine hK.out _ _ (KS.out _ HB3.out) (fun hHeld1 => ?_)
  clear hK K hHeld
  try simp only [Act.put, List.setIfInBounds_toArray, List.set_cons_zero, List.set_cons_succ]
  refine tk (i := 4) rfl ?_
  try simp only [Act.put, List.setIfInBounds_toArray, List.set_cons_zero, List.set_cons_succ]
  refine wpAnyH_ready (rs := [7]) (by kernel_rfl) (by simp) ?_
  refine cons_drop rfl (fun K hK => ?_) AllReadyH.nil
  go_simp
  refine (HU.out _).mono ?_
  rintro x4 w4 ⟨rfl, hb4⟩
  have HB4 : Hid (Below W0.heap.size W0 w4) := Lib.hid (HB3.out.trans (hb4.mono HB3.out.size))
  clear hb4
  go_wp2_with fail
  refine hK.out _ _ (KS.out _ HB4.out) (fun hHeld2 => ?_)
  clear hK K hHeld1
  try simp only [Act.put, List.setIfInBounds_toArray, List.set_cons_zero, List.set_cons_succ]
  refine tk (i := 8) rfl ?_
  try simp only [Act.put, List.setIfInBounds_toArray, List.set_cons_zero, List.set_cons_succ]
  refine tk (i := 9) rfl ?_
  try simp only [Act.put, List.setIfInBounds_toArray, List.set_cons_zero, List.set_cons_succ]
  refine wpAnyH_done (by kernel_rfl) ?_ _
  refine NoPanic.normal ?_
  go_wp2_with fail
  go_loopw [3, 4] (fun o i wr => ∃ (j : Nat) (so : ByteArray), j ≤ n ∧ i = .int .i64 (j : Nat) ∧ o = .string so ∧ Hid (so = bs (fr ++ Lib.joinTail [59, 32] ((es.take j).map etext))) ∧ so.size ≤ 100000000000 ∧ Below W0.heap.size W0 wr) (fun _ i _ => n - (intOf i).toNat)
  case atStart => exact ⟨0, Q ++ ⟨#[32]⟩ ++ U, by omega, rfl, rfl, Lib.hid (by rw [HFR.out]; simp [Lib.joinTail]), by rw [HFR.out, bs_size]; have := HFL.out; omega, HB4.out⟩
  case round =>
    obtain ⟨j, so, hj, rfl, rfl, HSO, hso, hb⟩ := hrel
    have HB := Lib.hid hb
    obtain ⟨c0, c1, c2, -⟩ := (HBX.out wr hb).cells
    clear hb
    by_cases hlt : j < n
    · have hke : j < es.length := by have := HN.out; omega
      obtain ⟨b2, off2, lo, hi, vk, vn, vf, vs, A2, m2, c2', rfl, hbl2, hf, hv, hhi, e0, e1, e2, e3, e4, e5, e6, e7, e8, e9, e10⟩ := (HK.out.later HB.out).get j hke
      have hm := List.getElem_mem hke
      have HF := Lib.hid (retext_any es[j] (HAV.out _ hm) hf (HFEW.out _ hm) lo hi vk vn vf vs A2 m2 c2' wr hv hhi)
      have htk := tails_take es j hke
      have htl := tails_take_le es (j + 1)
      obtain ⟨T, hT⟩ : ∃ T : ByteArray, T = etextB es[j] := ⟨_, rfl⟩
      have hTb : T = bs (etext es[j]) := hT
      rw [← hT] at HF
      have hS1 : so ++ ⟨#[59, 32]⟩ ++ T = bs (fr ++ Lib.joinTail [59, 32] ((es.take (j + 1)).map etext)) := by
        rw [HSO.out, hTb, htk, show (⟨#[59, 32]⟩ : ByteArray) = bs [59, 32] from rfl, bs_append, bs_append]; simp [List.append_assoc]
      have hsz1 : (so ++ ⟨#[59, 32]⟩ ++ T).size = so.size + 2 + T.size := by rw [ByteArray.size_append, ByteArray.size_append]; rfl
      have hsz3 : (so ++ ⟨#[59, 32]⟩ ++ T).size ≤ 100000000000 := by rw [hS1, bs_size, List.length_append]; have := HTT.out; have := HFL.out; omega
      have hz3 : ¬ (9223372036854775807 < so.size + 2) := by omega
      have hz4 : ¬ (9223372036854775807 < so.size + 2 + T.size) := by omega
      have HS1 := Lib.hid hS1; have HZ3 := Lib.hid hsz3
      clear hS1 hsz1 hsz3 htk htl hT hTb hf hv
      unfold evCells at HF
      go_wp2_with fail
      refine HF.out.mono ?_
      rintro x w8 ⟨rfl, hb8⟩
      have HB8 := Lib.hid (HB.out.trans (hb8.mono HB.out.size))
      clear hb8 c0 c1 c2 e0 e1 e2 e3 e4 e5 e6 e7 e8 e9 e10
      go_wp2_with fail
      exact ⟨⟨j + 1, so ++ ⟨#[59, 32]⟩ ++ T, by omega, by go_num, rfl, HS1, HZ3.out, HB8.out⟩, by simp [intOf]; omega⟩
    · have hj' : j = n := by omega
      subst hj'
      have hfin : so = btextB f at' es := by rw [HSO.out, HBT.out, show es.take j = es from by rw [← HN.out, List.take_length]]
      have HFIN := Lib.hid hfin
      clear hfin
      go_wp2_with fail
      go_ret
      exact ⟨by rw [← HFIN.out]; rfl, HB0.out.trans (HB.out.mono HB0.out.size)⟩
end Rg
end Go.Proofs.YtcbddebmmaflgaaGreatDoor
