/- BatchForms of what came in. -/
import Derived.Test.YtcbddebmmaflgaaGreatDoorMibd
import Derived.Test.YtcbddebmmaflgaaGreatDoorMibg
import Derived.Test.YtcbddebmmaflgaaGreatDoorMibf
import Derived.Test.YtcbddebmmaflgaaGreatDoorMiak
import Derived.Test.YtcbddebmmaflgaaGreatDoorMiba
import Derived.Test.YtcbddebmmaflgaaGreatDoorMiat
namespace Go.Proofs.YtcbddebmmaflgaaGreatDoor
open Go.RowKit
set_option linter.unusedVariables false
set_option linter.unusedSimpArgs false
namespace Bf
open _root_.Go.Proofs.YtcbddebmmaflgaaGreatDoor.Nm (ret_int ret_bool)
open Vt (VT Rep below_drew)
open Bt (BOwn BIn)
open Ev (EV FieldsOk evCells vCells take_drop tk cons_drop)
open Cm (evSame evsSame EvsIn)
open Cn (BRd BB bvalid bform efew brd_own bequal_any EvBytes bbytes_any bbytes_no)
open Vf (TB eform etext tb_of_laid)
open Bs (btextB btextb_any EvTexts btext strB)
open Rf (r13bytes_any RBB valid_size all_valid)
open Rg (r13text_any r13text_no)
open Rd (GoodE bparse_any BParse pb pb_of pb_form Byt)

theorem evSame_symm {a b : EV} (h : evSame a b = true) : evSame b a = true := by
  obtain ⟨h1, h2, h3, h4, h5, h6, h7⟩ := Vf.evSame_parts h
  unfold evSame
  rw [h1, h2, h3, h4, h5, h6, Vt.same_symm _ _ h7]
  simp
theorem evsSame_symm {a b : List EV} (h : evsSame a b = true) : evsSame b a = true := by
  obtain ⟨h1, h2⟩ := Rd.evs_iff.1 h
  exact Rd.evs_iff.2 ⟨h1.symm, fun i hi hi' => evSame_symm (h2 i hi' hi)⟩
theorem brd_none (w : World) : BRd w (.slice none 0 0) [] := .inl ⟨rfl, rfl⟩
theorem pb_nil : pb ([], false) = none := by
  cases h : pb ([], false) with
  | none => rfl
  | some q =>
    obtain ⟨f, a, es⟩ := q
    obtain ⟨h1, -⟩ := pb_form [] f a es (fun b hb => by simp at hb) (by simp) h
    have := congrArg List.length h1
    unfold bform at this
    have h5 := Rd.ub_pos 10 a
    simp only [List.length_append, List.length_nil] at this
    omega
theorem evbytes_of {es : List EV} (hv : ∀ e ∈ es, e.valid = true) (hF : ∀ e ∈ es, e.v.few = true) : EvBytes es (es.map eform) := by
  refine ⟨by simp, fun i h h' lo hi vk vn vf vs A m c w hf hr hz => ?_⟩
  rw [List.getElem_map]
  exact Vf.ebytes_any es[i] (hv _ (List.getElem_mem h)) hf (hF _ (List.getElem_mem h)) lo hi vk vn vf vs A m c w hr hz
theorem evtexts_of {es : List EV} (hv : ∀ e ∈ es, e.valid = true) (hF : ∀ e ∈ es, e.v.few = true) : EvTexts es (es.map etext) := by
  refine ⟨by simp, fun i h h' lo hi vk vn vf vs A m c w hf hr hz ht => ?_⟩
  rw [List.getElem_map]
  exact Vf.etext_any es[i] (hv _ (List.getElem_mem h)) hf (hF _ (List.getElem_mem h)) lo hi vk vn vf vs A m c w hr hz ht
theorem btext_len {f : ByteArray} {a : Nat} {es : List EV} (hf : f.size ≤ 1000) (ha : a < 18446744073709551616) (hl : es.length ≤ 2097152) (h : ∀ e ∈ es, (etext e).length ≤ 30000) : (btext f a (es.map etext)).length ≤ 140737488355328 := by
  unfold btext
  rw [Lib.join_cons, List.length_append]
  have h1 := Rg.tails_le h
  have h2 := Vf.stext_len f
  have h3 := Vf.dec_len a ha
  unfold Bs.bfront
  simp only [List.length_append, List.length_cons]
  omega
set_option maxRecDepth 100000 in
theorem btextb_no (es : List EV) (f : ByteArray) (hfs : f.size ≤ maxLen) (at' : Nat) (hat : at' < 18446744073709551616) (A : Option Addr) (cap : Nat) (w : World) (h : EvsIn w A cap es) (hval : bvalid f at' es = false) :
    Calls Tryz.prog 25 #[.agg #[.string f, .int .u64 (at' : Nat), .slice A es.length cap]] w fun r w' => r = .returned (.string ⟨#[]⟩) ∧ Below w.heap.size w w' := by
  obtain ⟨W0, hW0⟩ : ∃ W0, W0 = w.alloc (.cells #[.string f, .int .u64 (at' : Nat), .slice A es.length cap] 49) := ⟨_, rfl⟩
  have hx0 : BB W0 w.heap.size f at' A es.length cap := by rw [hW0]; exact heap_alloc_new w _
  have hb0 : Below w.heap.size w W0 := by rw [hW0]; exact (Below.refl _ _).alloc (Nat.le_refl _) _
  have HV := Lib.hid (Cn.bvalid_any es f hfs at' hat A cap W0 (h.later hb0))
  rw [hval] at HV
  have HB0 := Lib.hid hb0
  obtain ⟨c0, c1, c2, -⟩ := hx0.cells
  clear h hx0 hb0
  replace hW0 := Lib.hid hW0
  go_enter Tryz.func25, Tryz.ntmps25
  go_upto_region 1 with fail
  rw [← hW0.out]
  go_wp2_with fail
  refine HV.out.mono ?_
  rintro x w1 ⟨rfl, hb1⟩
  have HB1 := Lib.hid (HB0.out.trans (hb1.mono HB0.out.size))
  clear hb1
  go_wp2_with fail
  go_ret
  exact ⟨rfl, HB1.out⟩

set_option maxRecDepth 100000 in
set_option maxHeartbeats 8000000 in
theorem bforms_walk (es : List EV) (hlen : es.length ≤ 2097152) (f : ByteArray) (hfs : f.size ≤ maxLen) (a : Nat) (ha : a < 18446744073709551616) (A : Option Addr) (cap : Nat) (w : World) (h : EvsIn w A cap es) (ht : TB w) :
    Calls Tryz.prog 5 #[.agg #[.string f, .int .u64 (a : Nat), .slice A es.length cap]] w fun r w' => r = .returned (.bool true) ∧ Below w.heap.size w w' := by
  obtain ⟨W0, hW0⟩ : ∃ W0, W0 = w.alloc (.cells #[.string f, .int .u64 (a : Nat), .slice A es.length cap] 49) := ⟨_, rfl⟩
  have hx0 : BB W0 w.heap.size f a A es.length cap := by rw [hW0]; exact heap_alloc_new w _
  have hb0 : Below w.heap.size w W0 := by rw [hW0]; exact (Below.refl _ _).alloc (Nat.le_refl _) _
  have hz0 : w.heap.size < W0.heap.size := by rw [hW0]; simp
  have HES := Lib.hid (h.later hb0)
  have KS : Hid (∀ W', Below W0.heap.size W0 W' → (W'.cell? ⟨w.heap.size, 0, none⟩ = some (.string f) ∧ W'.cell? ⟨w.heap.size, 1, none⟩ = some (.int .u64 (a : Nat)) ∧ W'.cell? ⟨w.heap.size, 2, none⟩ = some (.slice A es.length cap))) := Lib.hid fun W hW => by
    obtain ⟨c0, c1, c2, -⟩ := (hx0.later hW hz0).cells
    exact ⟨c0, c1, c2⟩
  have HT : Hid (∀ W, Below W0.heap.size W0 W → TB W) := Lib.hid fun W hW => (ht.later hb0).later hW
  have HFW := Lib.hid (Cn.fewlaw_any es f hfs a A cap W0 (h.later hb0))
  have HA := Lib.hid fun W => Cn.balive_any W
  have HVL := Lib.hid fun W (hW : Below W0.heap.size W0 W) => Cn.bvalid_any es f hfs a ha A cap W ((h.later hb0).later hW)
  have HRB := Lib.hid fun (hfew : ∀ e ∈ es, e.v.few = true) (hflat : bvalid f a es = true → ((es.map eform).flatten).length ≤ 17592186044416) W (hW : Below W0.heap.size W0 W) => r13bytes_any es hfew f hfs a ha hflat A cap W ((h.later hb0).later hW)
  have HBN := Lib.hid fun (hv : bvalid f a es = false) W (hW : Below W0.heap.size W0 W) => bbytes_no es f hfs a ha A cap W ((h.later hb0).later hW) hv
  have HTN := Lib.hid fun (hv : bvalid f a es = false) W (hW : Below W0.heap.size W0 W) => btextb_no es f hfs a ha A cap W ((h.later hb0).later hW) hv
  have HRN := Lib.hid fun (hv : bvalid f a es = false) W (hW : Below W0.heap.size W0 W) => r13text_no es f hfs a ha A cap W ((h.later hb0).later hW) hv
  have HGO := Lib.hid fun hv => Rd.good_of h (f := f) (a := a) hv
  have HB0 := Lib.hid hb0
  have HLN := Lib.hid hlen
  have hle := h.le
  have hcap := h.cap_le
  obtain ⟨c0, c1, c2, -⟩ := hx0.cells
  clear h hx0 hb0 ht
  replace hW0 := Lib.hid hW0
  go_enter Tryz.func5, Tryz.ntmps5
  go_upto_region 1 with fail
  rw [← hW0.out]
  go_wp2_with fail
  refine HFW.out.mono ?_
  intro x w1 hfw
  obtain ⟨b, rfl, hfew, hb1⟩ := hfw
  have HB1 := Lib.hid hb1
  clear hb1 c0 c1 c2
  cases b with
  | false =>
    go_wp2_with fail
    refine (HA.out _).mono ?_
    rintro x wz ⟨rfl, hbz⟩
    have HBZ := Lib.hid (HB1.out.trans (hbz.mono HB1.out.size))
    clear hbz
    go_wp2_with fail
    go_ret
    exact ⟨rfl, HB0.out.trans (HBZ.out.mono HB0.out.size)⟩
  | true =>
    have HFEW := Lib.hid (Rd.few_all (hfew rfl).2)
    clear hfew
    obtain ⟨c0, c1, c2⟩ := KS.out w1 HB1.out
    cases hval : bvalid f a es with
    | false =>
      have HE := Lib.hid (HBN.out hval)
      have HTX := Lib.hid (HTN.out hval)
      have HRT := Lib.hid (HRN.out hval)
      have HBR := Lib.hid (HRB.out HFEW.out (fun h => by rw [hval] at h; cases h))
      rw [hval] at HVL
      have HVF := Lib.hid hval
      have HPN : Hid (∀ W, Calls Tryz.prog 27 #[.slice none 0 0] W (BParse [] W)) := Lib.hid fun W => bparse_any (.slice none 0 0) [] (by simp) (fun b hb => by simp at hb) W (brd_none W)
      clear hval
      go_wp2_with fail
      refine (HE.out w1 HB1.out).mono ?_
      rintro x w2 ⟨rfl, hb2⟩
      have HB2 := Lib.hid (HB1.out.trans (hb2.mono HB1.out.size))
      clear hb2 c0 c1 c2
      obtain ⟨c0, c1, c2⟩ := KS.out w2 HB2.out
      go_wp2_with fail
      refine (HBR.out w2 HB2.out).mono ?_
      intro x w3 hreb
      obtain ⟨-, hno, hb3⟩ := hreb
      obtain rfl := hno HVF.out
      have HB3 := Lib.hid (HB2.out.trans (hb3.mono HB2.out.size))
      have HEQ : Hid (∀ W, Below w3.heap.size w3 W → Calls Tryz.prog 16 #[.slice none 0 0, .slice none 0 0] W fun r w' => r = .returned (.bool true) ∧ Below W.heap.size W w') := Lib.hid fun W hW => by
        have := bequal_any [] [] _ _ W (brd_none W) (brd_none W)
        rw [decide_eq_true rfl] at this
        exact this
      clear hb3 hno c0 c1 c2
      go_upto_region 5 with fail
      refine wp_region_noPanic ?_
      refine wp_region_held_drew (S := (fun W' : World => W'.cell? ⟨w.heap.size, 0, none⟩ = some (.string f) ∧ W'.cell? ⟨w.heap.size, 1, none⟩ = some (.int .u64 (a : Nat)) ∧ W'.cell? ⟨w.heap.size, 2, none⟩ = some (.slice A es.length cap))) (by kernel_rfl) ?_ (fun hHeld => ?_)
      · exact KS.out _ (below_drew HB3.out)
      have HB20 : Hid (Below W0.heap.size W0 w3.drew) := Lib.hid (below_drew HB3.out)
      have HC20 : Hid (Below w3.heap.size w3 w3.drew) := Lib.hid (below_drew (Below.refl _ _))
      refine tk (i := 0) rfl ?_
      try simp only [Act.put, List.setIfInBounds_toArray, List.set_cons_zero, List.set_cons_succ]
      refine tk (i := 2) rfl ?_
      try simp only [Act.put, List.setIfInBounds_toArray, List.set_cons_zero, List.set_cons_succ]
      refine wpAnyH_ready (rs := [1]) (by kernel_rfl) (by simp) ?_
      refine cons_drop rfl (fun K hK => ?_) AllReadyH.nil
      go_simp
      refine (HVL.out _ HB20.out).mono ?_
      rintro x21 w21 ⟨rfl, hb21⟩
      have HB21 : Hid (Below W0.heap.size W0 w21) := Lib.hid (HB20.out.trans (hb21.mono HB20.out.size))
      have HC21 : Hid (Below w3.heap.size w3 w21) := Lib.hid (HC20.out.trans (hb21.mono HC20.out.size))
      clear hb21
      go_wp2_with fail
      refine hK.out _ _ (KS.out _ HB21.out) (fun hHeld1 => ?_)
      clear hK K hHeld
      try simp only [Act.put, List.setIfInBounds_toArray, List.set_cons_zero, List.set_cons_succ]
      refine tk (i := 3) rfl ?_
      try simp only [Act.put, List.setIfInBounds_toArray, List.set_cons_zero, List.set_cons_succ]
      refine tk (i := 4) rfl ?_
      try simp only [Act.put, List.setIfInBounds_toArray, List.set_cons_zero, List.set_cons_succ]
      refine tk (i := 5) rfl ?_
      try simp only [Act.put, List.setIfInBounds_toArray, List.set_cons_zero, List.set_cons_succ]
      refine tk (i := 6) rfl ?_
      try simp only [Act.put, List.setIfInBounds_toArray, List.set_cons_zero, List.set_cons_succ]
      refine wpAnyH_ready (rs := [7]) (by kernel_rfl) (by simp) ?_
      refine cons_drop rfl (fun K hK => ?_) AllReadyH.nil
      go_simp
      refine (HEQ.out _ HC21.out).mono ?_
      rintro x22 w22 ⟨rfl, hb22⟩
      have HB22 : Hid (Below W0.heap.size W0 w22) := Lib.hid (HB21.out.trans (hb22.mono HB21.out.size))
      have HC22 : Hid (Below w3.heap.size w3 w22) := Lib.hid (HC21.out.trans (hb22.mono HC21.out.size))
      clear hb22
      go_wp2_with fail
      refine hK.out _ _ (KS.out _ HB22.out) (fun hHeld2 => ?_)
      clear hK K hHeld1
      try simp only [Act.put, List.setIfInBounds_toArray, List.set_cons_zero, List.set_cons_succ]
      refine tk (i := 8) rfl ?_
      try simp only [Act.put, List.setIfInBounds_toArray, List.set_cons_zero, List.set_cons_succ]
      refine tk (i := 9) rfl ?_
      try simp only [Act.put, List.setIfInBounds_toArray, List.set_cons_zero, List.set_cons_succ]
      refine tk (i := 10) rfl ?_
      try simp only [Act.put, List.setIfInBounds_toArray, List.set_cons_zero, List.set_cons_succ]
      refine tk (i := 11) rfl ?_
      try simp only [Act.put, List.setIfInBounds_toArray, List.set_cons_zero, List.set_cons_succ]
      refine tk (i := 12) rfl ?_
      try simp only [Act.put, List.setIfInBounds_toArray, List.set_cons_zero, List.set_cons_succ]
      refine tk (i := 13) rfl ?_
      try simp only [Act.put, List.setIfInBounds_toArray, List.set_cons_zero, List.set_cons_succ]
      refine tk (i := 14) rfl ?_
      try simp only [Act.put, List.setIfInBounds_toArray, List.set_cons_zero, List.set_cons_succ]
      refine tk (i := 15) rfl ?_
      try simp only [Act.put, List.setIfInBounds_toArray, List.set_cons_zero, List.set_cons_succ]
      refine tk (i := 16) rfl ?_
      try simp only [Act.put, List.setIfInBounds_toArray, List.set_cons_zero, List.set_cons_succ]
      refine tk (i := 18) rfl ?_
      try simp only [Act.put, List.setIfInBounds_toArray, List.set_cons_zero, List.set_cons_succ]
      refine wpAnyH_ready (rs := [17]) (by kernel_rfl) (by simp) ?_
      refine cons_drop rfl (fun K hK => ?_) AllReadyH.nil
      go_simp
      refine (HTX.out _ HB22.out).mono ?_
      rintro x23 w23 ⟨rfl, hb23⟩
      have HB23 : Hid (Below W0.heap.size W0 w23) := Lib.hid (HB22.out.trans (hb23.mono HB22.out.size))
      have HC23 : Hid (Below w3.heap.size w3 w23) := Lib.hid (HC22.out.trans (hb23.mono HC22.out.size))
      clear hb23
      go_wp2_with fail
      refine hK.out _ _ (KS.out _ HB23.out) (fun hHeld3 => ?_)
      clear hK K hHeld2
      try simp only [Act.put, List.setIfInBounds_toArray, List.set_cons_zero, List.set_cons_succ]
      refine wpAnyH_ready (rs := [19]) (by kernel_rfl) (by simp) ?_
      refine cons_drop rfl (fun K hK => ?_) AllReadyH.nil
      go_simp
      refine (HRT.out _ HB23.out).mono ?_
      rintro x24 w24 ⟨rfl, hb24⟩
      have HB24 : Hid (Below W0.heap.size W0 w24) := Lib.hid (HB23.out.trans (hb24.mono HB23.out.size))
      have HC24 : Hid (Below w3.heap.size w3 w24) := Lib.hid (HC23.out.trans (hb24.mono HC23.out.size))
      clear hb24
      go_wp2_with fail
      refine hK.out _ _ (KS.out _ HB24.out) (fun hHeld4 => ?_)
      clear hK K hHeld3
      try simp only [Act.put, List.setIfInBounds_toArray, List.set_cons_zero, List.set_cons_succ]
      refine tk (i := 20) rfl ?_
      try simp only [Act.put, List.setIfInBounds_toArray, List.set_cons_zero, List.set_cons_succ]
      refine tk (i := 21) rfl ?_
      try simp only [Act.put, List.setIfInBounds_toArray, List.set_cons_zero, List.set_cons_succ]
      refine wpAnyH_done (by kernel_rfl) ?_ _
      refine NoPanic.normal ?_
      go_wp2_with fail
      refine (HPN.out w24).mono ?_
      intro x w5 hbp
      unfold BParse at hbp
      rw [pb_nil] at hbp
      obtain ⟨rfl, hb5⟩ := hbp
      have HB5 := Lib.hid (HB24.out.trans (hb5.mono HB24.out.size))
      clear hb5
      obtain ⟨W6, hW6⟩ : ∃ W6, W6 = w5.alloc (.cells #[.string ⟨#[]⟩, .int .u64 0, .slice none 0 0] 49) := ⟨_, rfl⟩
      have HB6 : Hid (Below W0.heap.size W0 W6) := Lib.hid (by rw [hW6]; exact HB5.out.alloc HB5.out.size _)
      replace hW6 := Lib.hid hW6
      go_upto_region 8 with fail
      rw [← hW6.out]
      go_wp2_with fail
      refine (HA.out _).mono ?_
      rintro x wz ⟨rfl, hbz⟩
      have HBZ := Lib.hid (HB6.out.trans (hbz.mono HB6.out.size))
      clear hbz
      go_wp2_with fail
      go_ret
      exact ⟨rfl, HB0.out.trans (HBZ.out.mono HB0.out.size)⟩
    | true =>
      have hgood := HGO.out hval
      have hel : ∀ e ∈ es, (eform e).length ≤ 30000 := fun e he => Rd.eform_len (hgood e he).1 (hgood e he).2.1 (HFEW.out e he)
      have htl : ∀ e ∈ es, (etext e).length ≤ 30000 := fun e he => Vf.etext_len e (hgood e he).2.1 (Vf.ve_of (hgood e he).1) (hgood e he).2.2 (HFEW.out e he)
      have hfl := Rd.flat_le hel
      obtain ⟨hbl, hbp⟩ := Rd.bform_len (a := a) (valid_size hval) HLN.out hel
      have hby := Rd.bform_byt (n := es.length) (valid_size hval) ha (by have := HLN.out; omega) hgood
      obtain ⟨es', hpb, hsame⟩ := pb_of hval ha (by have := HLN.out; omega) hgood
      have HE := Lib.hid fun W (hW : Below W0.heap.size W0 W) => bbytes_any es (by have := HLN.out; omega) (es.map eform) (evbytes_of (all_valid hval) HFEW.out) (by have := HLN.out; omega) f a ha A cap W (HES.out.later hW) hval
      have HTX := Lib.hid fun W (hW : Below W0.heap.size W0 W) => btextb_any es HLN.out (es.map etext) (evtexts_of (all_valid hval) HFEW.out) f a ha (btext_len (valid_size hval) ha HLN.out htl) A cap W (HES.out.later hW) hval (HT.out W hW)
      have HRT := Lib.hid fun W (hW : Below W0.heap.size W0 W) => r13text_any es HLN.out HFEW.out htl f a ha A cap W (HES.out.later hW) hval
      have HTB : Hid (strB (btext f a (es.map etext)) = btextB f a es) := Lib.hid rfl
      rw [HTB.out] at HTX
      generalize btextB f a es = T at HTX HRT
      have HBR := Lib.hid (HRB.out HFEW.out (fun _ => by have := HLN.out; omega))
      rw [hval] at HVL
      have HVF := Lib.hid hval
      have hes' : es.length = es'.length := (Rd.evs_iff.1 hsame).1
      have HES' := Lib.hid hes'
      have HSA := Lib.hid (evsSame_symm hsame)
      have HPB := Lib.hid hpb
      have HBY := Lib.hid hby
      clear hval hgood hel htl hfl hpb hsame hby hes'
      generalize hLe : bform f a es.length (es.map eform) = L at *
      have HLE := Lib.hid hLe
      clear hLe
      go_wp2_with fail
      refine (HE.out w1 HB1.out).mono ?_
      rintro x w2 ⟨v2, rfl, ho2, hb2⟩
      have hbr2 := brd_own ho2
      obtain ⟨A2, c2', rfl⟩ := hbr2.form
      have HV2 := Lib.hid hbr2
      have HB2 := Lib.hid (HB1.out.trans (hb2.mono HB1.out.size))
      clear hb2 ho2 hbr2 c0 c1 c2
      obtain ⟨c0, c1, c2⟩ := KS.out w2 HB2.out
      go_wp2_with fail
      refine (HBR.out w2 HB2.out).mono ?_
      intro x w3 hreb
      obtain ⟨hy, -, hb3⟩ := hreb
      obtain ⟨v3, rfl, ho3⟩ := hy HVF.out
      rw [HLE.out] at ho3
      have hbr3 := brd_own ho3
      obtain ⟨A3, c3', rfl⟩ := hbr3.form
      have HV3 := Lib.hid hbr3
      have HV23 := Lib.hid (HV2.out.later hb3)
      have HB3 := Lib.hid (HB2.out.trans (hb3.mono HB2.out.size))
      have HEQ : Hid (∀ W, Below w3.heap.size w3 W → Calls Tryz.prog 16 #[.slice A2 L.length c2', .slice A3 L.length c3'] W fun r w' => r = .returned (.bool true) ∧ Below W.heap.size W w') := Lib.hid fun W hW => by
        have := bequal_any L L _ _ W (HV23.out.later hW) (HV3.out.later hW)
        rw [decide_eq_true rfl] at this
        exact this
      clear hb3 hy ho3 hbr3 c0 c1 c2
      go_upto_region 5 with fail
      refine wp_region_noPanic ?_
      refine wp_region_held_drew (S := (fun W' : World => W'.cell? ⟨w.heap.size, 0, none⟩ = some (.string f) ∧ W'.cell? ⟨w.heap.size, 1, none⟩ = some (.int .u64 (a : Nat)) ∧ W'.cell? ⟨w.heap.size, 2, none⟩ = some (.slice A es.length cap))) (by kernel_rfl) ?_ (fun hHeld => ?_)
      · exact KS.out _ (below_drew HB3.out)
      have HB20 : Hid (Below W0.heap.size W0 w3.drew) := Lib.hid (below_drew HB3.out)
      have HC20 : Hid (Below w3.heap.size w3 w3.drew) := Lib.hid (below_drew (Below.refl _ _))
      refine tk (i := 0) rfl ?_
      try simp only [Act.put, List.setIfInBounds_toArray, List.set_cons_zero, List.set_cons_succ]
      refine tk (i := 2) rfl ?_
      try simp only [Act.put, List.setIfInBounds_toArray, List.set_cons_zero, List.set_cons_succ]
      refine wpAnyH_ready (rs := [1]) (by kernel_rfl) (by simp) ?_
      refine cons_drop rfl (fun K hK => ?_) AllReadyH.nil
      go_simp
      refine (HVL.out _ HB20.out).mono ?_
      rintro x21 w21 ⟨rfl, hb21⟩
      have HB21 : Hid (Below W0.heap.size W0 w21) := Lib.hid (HB20.out.trans (hb21.mono HB20.out.size))
      have HC21 : Hid (Below w3.heap.size w3 w21) := Lib.hid (HC20.out.trans (hb21.mono HC20.out.size))
      clear hb21
      go_wp2_with fail
      refine hK.out _ _ (KS.out _ HB21.out) (fun hHeld1 => ?_)
      clear hK K hHeld
      try simp only [Act.put, List.setIfInBounds_toArray, List.set_cons_zero, List.set_cons_succ]
      refine tk (i := 3) rfl ?_
      try simp only [Act.put, List.setIfInBounds_toArray, List.set_cons_zero, List.set_cons_succ]
      refine tk (i := 4) rfl ?_
      try simp only [Act.put, List.setIfInBounds_toArray, List.set_cons_zero, List.set_cons_succ]
      refine tk (i := 5) rfl ?_
      try simp only [Act.put, List.setIfInBounds_toArray, List.set_cons_zero, List.set_cons_succ]
      refine tk (i := 6) rfl ?_
      try simp only [Act.put, List.setIfInBounds_toArray, List.set_cons_zero, List.set_cons_succ]
      refine wpAnyH_ready (rs := [7]) (by kernel_rfl) (by simp) ?_
      refine cons_drop rfl (fun K hK => ?_) AllReadyH.nil
      go_simp
      refine (HEQ.out _ HC21.out).mono ?_
      rintro x22 w22 ⟨rfl, hb22⟩
      have HB22 : Hid (Below W0.heap.size W0 w22) := Lib.hid (HB21.out.trans (hb22.mono HB21.out.size))
      have HC22 : Hid (Below w3.heap.size w3 w22) := Lib.hid (HC21.out.trans (hb22.mono HC21.out.size))
      clear hb22
      go_wp2_with fail
      refine hK.out _ _ (KS.out _ HB22.out) (fun hHeld2 => ?_)
      clear hK K hHeld1
      try simp only [Act.put, List.setIfInBounds_toArray, List.set_cons_zero, List.set_cons_succ]
      refine tk (i := 8) rfl ?_
      try simp only [Act.put, List.setIfInBounds_toArray, List.set_cons_zero, List.set_cons_succ]
      refine tk (i := 9) rfl ?_
      try simp only [Act.put, List.setIfInBounds_toArray, List.set_cons_zero, List.set_cons_succ]
      refine tk (i := 10) rfl ?_
      try simp only [Act.put, List.setIfInBounds_toArray, List.set_cons_zero, List.set_cons_succ]
      refine tk (i := 11) rfl ?_
      try simp only [Act.put, List.setIfInBounds_toArray, List.set_cons_zero, List.set_cons_succ]
      refine tk (i := 12) rfl ?_
      try simp only [Act.put, List.setIfInBounds_toArray, List.set_cons_zero, List.set_cons_succ]
      refine tk (i := 13) rfl ?_
      try simp only [Act.put, List.setIfInBounds_toArray, List.set_cons_zero, List.set_cons_succ]
      refine tk (i := 14) rfl ?_
      try simp only [Act.put, List.setIfInBounds_toArray, List.set_cons_zero, List.set_cons_succ]
      refine tk (i := 15) rfl ?_
      try simp only [Act.put, List.setIfInBounds_toArray, List.set_cons_zero, List.set_cons_succ]
      refine tk (i := 16) rfl ?_
      try simp only [Act.put, List.setIfInBounds_toArray, List.set_cons_zero, List.set_cons_succ]
      refine tk (i := 18) rfl ?_
      try simp only [Act.put, List.setIfInBounds_toArray, List.set_cons_zero, List.set_cons_succ]
      refine wpAnyH_ready (rs := [17]) (by kernel_rfl) (by simp) ?_
      refine cons_drop rfl (fun K hK => ?_) AllReadyH.nil
      go_simp
      refine (HTX.out _ HB22.out).mono ?_
      rintro x23 w23 ⟨rfl, hb23⟩
      have HB23 : Hid (Below W0.heap.size W0 w23) := Lib.hid (HB22.out.trans (hb23.mono HB22.out.size))
      have HC23 : Hid (Below w3.heap.size w3 w23) := Lib.hid (HC22.out.trans (hb23.mono HC22.out.size))
      clear hb23
      go_wp2_with fail
      refine hK.out _ _ (KS.out _ HB23.out) (fun hHeld3 => ?_)
      clear hK K hHeld2
      try simp only [Act.put, List.setIfInBounds_toArray, List.set_cons_zero, List.set_cons_succ]
      refine wpAnyH_ready (rs := [19]) (by kernel_rfl) (by simp) ?_
      refine cons_drop rfl (fun K hK => ?_) AllReadyH.nil
      go_simp
      refine (HRT.out _ HB23.out).mono ?_
      rintro x24 w24 ⟨rfl, hb24⟩
      have HB24 : Hid (Below W0.heap.size W0 w24) := Lib.hid (HB23.out.trans (hb24.mono HB23.out.size))
      have HC24 : Hid (Below w3.heap.size w3 w24) := Lib.hid (HC23.out.trans (hb24.mono HC23.out.size))
      clear hb24
      go_wp2_with fail
      refine hK.out _ _ (KS.out _ HB24.out) (fun hHeld4 => ?_)
      clear hK K hHeld3
      try simp only [Act.put, List.setIfInBounds_toArray, List.set_cons_zero, List.set_cons_succ]
      refine tk (i := 20) rfl ?_
      try simp only [Act.put, List.setIfInBounds_toArray, List.set_cons_zero, List.set_cons_succ]
      refine tk (i := 21) rfl ?_
      try simp only [Act.put, List.setIfInBounds_toArray, List.set_cons_zero, List.set_cons_succ]
      refine wpAnyH_done (by kernel_rfl) ?_ _
      refine NoPanic.normal ?_
      go_wp2_with fail
      refine (bparse_any _ L (by omega) HBY.out w24 (HV23.out.later HC24.out)).mono ?_
      intro x w5 hbq
      unfold BParse at hbq
      rw [HPB.out] at hbq
      obtain ⟨A5, cap5, rfl, he5, hb5⟩ := hbq
      have HB5 := Lib.hid (HB24.out.trans (hb5.mono HB24.out.size))
      clear hb5
      obtain ⟨b6, hb6⟩ : ∃ b6, b6 = w5.heap.size := ⟨_, rfl⟩
      obtain ⟨W6, hW6⟩ : ∃ W6, W6 = w5.alloc (.cells #[.string f, .int .u64 (a : Nat), .slice A5 es'.length cap5] 49) := ⟨_, rfl⟩
      have hb56 : Below w5.heap.size w5 W6 := by rw [hW6]; exact (Below.refl _ _).alloc (Nat.le_refl _) _
      have hx6 : BB W6 b6 f a A5 es'.length cap5 := by rw [hW6, hb6]; exact heap_alloc_new _ _
      have HB6 : Hid (Below W0.heap.size W0 W6) := Lib.hid (HB5.out.trans (hb56.mono HB5.out.size))
      have HE6 := Lib.hid (he5.later hb56)
      have HX6 := Lib.hid hx6
      have HSM : Hid (∀ W, Below W6.heap.size W6 W → Calls Tryz.prog 28 #[.agg #[.string f, .int .u64 (a : Nat), .slice A5 es'.length cap5], .agg #[.string f, .int .u64 (a : Nat), .slice A es.length cap]] W fun r w' => r = .returned (.bool true) ∧ Below W.heap.size W w') := Lib.hid fun W hW => by
        have := Cn.rsameb_len es' es HES'.out f a A5 A cap5 cap W (HE6.out.later hW) (HES.out.later (HB6.out.trans (hW.mono HB6.out.size)))
        rw [HSA.out] at this
        exact this
      clear he5 hb56 hx6
      replace hW6 := Lib.hid hW6
      have HBB6 := Lib.hid hb6
      clear hb6
      go_upto_region 8 with fail
      rw [← hW6.out, ← HBB6.out]
      go_wp2_with fail
      refine (HA.out _).mono ?_
      rintro x w8 ⟨rfl, hb8⟩
      have HB8 := Lib.hid hb8
      have HBW8 := Lib.hid (HB6.out.trans (hb8.mono HB6.out.size))
      obtain ⟨c0, c1, c2⟩ := KS.out w8 HBW8.out
      obtain ⟨d0, d1, d2, -⟩ := (HX6.out.later hb8 HX6.out.lt).cells
      clear hb8
      go_wp2_with fail
      refine (HSM.out w8 HB8.out).mono ?_
      rintro x w9 ⟨rfl, hb9⟩
      have HB9 := Lib.hid (HBW8.out.trans (hb9.mono HBW8.out.size))
      clear hb9
      go_wp2_with fail
      go_ret
      exact ⟨rfl, HB0.out.trans (HB9.out.mono HB0.out.size)⟩

set_option maxRecDepth 100000 in
open Go.ChangeShapes Go.WideShapes Go.ChangeAt Go.Joins Go.Deep in
theorem bforms_open {H : Type} {enc : TypeId × Value → H} {base b1 : Nat} {spare : Nat → Bool} {held : Bool} {d0 : DataW H} {p0 : List MemPlace} (v0 : Value) (W : World)
    (o0 : Value.okWide Tryz.prog W .any base 49 v0) (k0 : DataW.Trod enc Tryz.prog W b1 spare held 49 v0 d0 p0) (hL : laidMetH Tryz.prog Rows.batchFormsUptoRow.laid W) (hu : Rows.uptoSmall H [d0] = true) :
    Calls Tryz.prog 5 #[v0] W fun e w' => e = .returned (.bool true) ∧ Below W.heap.size W w' := by
  have ht : TB W := tb_of_laid (by kernel_rfl) (by kernel_rfl) hL
  have hb := Rd.small_all hu
  simp only [Rows.uptoBulkAll] at hb
  obtain ⟨f, a, es, A, cap, rfl, hf, ha, hes, x0, x1, x2, hd, hs⟩ := Rd.batch_shape v0 W o0 k0
  exact bforms_walk es (Rd.small_len hd hs (by omega)) f hf a ha A cap W hes ht
end Bf
end Go.Proofs.YtcbddebmmaflgaaGreatDoor
