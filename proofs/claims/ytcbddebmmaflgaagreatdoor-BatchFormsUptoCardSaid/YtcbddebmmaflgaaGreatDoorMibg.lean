/- batch.Parse of whatever bytes. -/
import Derived.Laws.Rows
import Derived.Laws.IdiomRangeMap
import Derived.Test.YtcbddebmmaflgaaGreatDoorMibf
import Derived.Test.YtcbddebmmaflgaaGreatDoorMiay
namespace Go.Proofs.YtcbddebmmaflgaaGreatDoor
open Go.RowKit
set_option linter.unusedVariables false
set_option linter.unusedSimpArgs false
namespace Rd
open _root_.Go.Proofs.YtcbddebmmaflgaaGreatDoor.Nm (ret_int ret_bool)
open Vt (VT Rep below_drew)
open Ev (EV EBox FieldsOk ERep evCells vCells)
open Cm (OnlyAt rowOf EvsIn)
open Cn (BRd BB bvalid bvalid_any)

def BParse (l : List Nat) (w : World) (r : Ending) (w' : World) : Prop := match pb (l, false) with
  | some (f, a, es) => ∃ A cap, r = .returned (.tuple #[.agg #[.string f, .int .u64 (a : Nat), .slice A es.length cap], .bool true]) ∧ EvsIn w' A cap es ∧ Below w.heap.size w w'
  | none => r = .returned (.tuple #[.agg #[.string ⟨#[]⟩, .int .u64 0, .slice none 0 0], .bool false]) ∧ Below w.heap.size w w'
theorem bparse_no {l : List Nat} {w w' : World} (h : pb (l, false) = none) (hb : Below w.heap.size w w') : BParse l w (.returned (.tuple #[.agg #[.string ⟨#[]⟩, .int .u64 0, .slice none 0 0], .bool false])) w' := by
  unfold BParse; rw [h]; exact ⟨rfl, hb⟩
theorem bparse_yes {l : List Nat} {w w' : World} {f : ByteArray} {a : Nat} {es : List EV} {A : Option Addr} {cap : Nat} (h : pb (l, false) = some (f, a, es)) (he : EvsIn w' A cap es) (hb : Below w.heap.size w w') : BParse l w (.returned (.tuple #[.agg #[.string f, .int .u64 (a : Nat), .slice A es.length cap], .bool true])) w' := by
  unfold BParse; rw [h]; exact ⟨A, cap, rfl, he, hb⟩
theorem bb_only {w w' : World} {g b : Nat} {f : ByteArray} {a : Nat} {A : Option Addr} {n c : Nat} (h : BB w b f a A n c) (ho : OnlyAt w w' g none) (hg : b ≠ g) : BB w' b f a A n c := (ho.block b h.lt hg (by simp)).trans h
theorem pe_lt {s s' : St} {e : EV} (hb : Byt s.1) (hl : s.1.length ≤ 1099511627776) (h : pe s = some (s', e)) : s'.1.length < s.1.length := by
  obtain ⟨-, -, h3, -⟩ := pe_form s s' e hb hl h
  have := eform_pos e
  rw [h3, List.length_append]; omega
/-- The loop over a batch's events. -/
def PInv (g c0 c5 : Nat) (w : World) (f : ByteArray) (a nn : Nat) (sn : St) (iv : Value) (wr : World) : Prop :=
  ∃ (j : Nat) (A : Option Addr) (cap : Nat) (sj : St) (es : List EV), iv = .int .u64 (j : Nat) ∧ j ≤ nn ∧ BB wr c0 ⟨#[]⟩ 0 none 0 0 ∧ BB wr c5 f a A j cap ∧ RS wr g sj ∧ GRow wr c5 A cap j es ∧ Below c0 w wr ∧
    rep pe nn sn = (rep pe (nn - j) sj).map (fun q => (q.1, es ++ q.2)) ∧ j + sj.1.length ≤ 1099511627776

theorem grow_fin {wr w8 : World} {c0 c5 : Nat} {A : Option Addr} {cap n : Nat} {es : List EV} (h : GRow wr c5 A cap n es) (hb : Below wr.heap.size wr w8) (hc : c0 < c5) (x y z : Value) : EvsIn (((w8.setCell ⟨c0, 0, none⟩ x).setCell ⟨c0, 1, none⟩ y).setCell ⟨c0, 2, none⟩ z) A cap es := by
  have e (w : World) (o : Nat) (v : Value) (b : Nat) (hb : c5 < b) : (w.setCell ⟨c0, o, none⟩ v).heap[b]? = w.heap[b]? := Below.heap_setCell w ⟨c0, o, none⟩ v b (by simp only []; omega)
  have := hb.size
  exact (h.only (w' := ((w8.setCell ⟨c0, 0, none⟩ x).setCell ⟨c0, 1, none⟩ y).setCell ⟨c0, 2, none⟩ z) (by simpa [World.setCell] using this) fun b h1 h2 => by rw [e _ _ _ _ h1, e _ _ _ _ h1, e _ _ _ _ h1]; exact hb.block b h2).erow.read
theorem rs_done {w : World} {g : Nat} {s : St} (h : RS w g s) : Calls Tryz.prog 19 #[.pointer (some ⟨g, 0, none⟩)] w fun r w' => r = .returned (.bool (!s.2 && s.1.isEmpty)) ∧ w = w' := by
  obtain ⟨⟨v, hr⟩, -⟩ := h
  exact done_any g v s.1 s.2 w hr
set_option maxRecDepth 100000 in
set_option maxHeartbeats 8000000 in
theorem bparse_any (v : Value) (l : List Nat) (hl : l.length ≤ 1099511627776) (hb : Byt l) (w : World) (h : BRd w v l) :
    Calls Tryz.prog 27 #[v] w (BParse l w) := by
  have hg0 := h
  obtain ⟨A0, cap0, hvf⟩ := h.form
  subst hvf
  obtain ⟨W0, hW0⟩ : ∃ W0, W0 = w.alloc (.cells #[.string ⟨#[]⟩, .int .u64 0, .slice none 0 0] 49) := ⟨_, rfl⟩
  have hx0 : BB W0 w.heap.size ⟨#[]⟩ 0 none 0 0 := by rw [hW0]; exact heap_alloc_new w _
  have hb0 : Below w.heap.size w W0 := by rw [hW0]; exact (Below.refl _ _).alloc (Nat.le_refl _) _
  have hz0 : W0.heap.size = w.heap.size + 1 := by rw [hW0]; simp
  have HN := Lib.hid (new_any _ l (by omega) W0 (h.later hb0))
  have HBY : Hid (Byt l) := Lib.hid hb
  have HPB : Hid (pb (l, false) = match rep pe (rUint (rUint (rText (l, false)).1).1).2 (rUint (rUint (rText (l, false)).1).1).1 with | none => none | some (s', es) => if s'.2 = true ∨ s'.1 ≠ [] ∨ bvalid (rText (l, false)).2 (rUint (rText (l, false)).1).2 es = false then none else some ((rText (l, false)).2, (rUint (rText (l, false)).1).2, es)) := Lib.hid rfl
  have hbf : Byt (rText (l, false)).1.1 := (rBytes_byt (s := (l, false)) hb hl).1
  have hlf : (rText (l, false)).1.1.length ≤ 1099511627776 := Nat.le_trans (rBytes_le (l, false)) hl
  have hsf := rText_size (s := (l, false)) hb hl
  have ha := rUint_val hbf
  have hba := (rUint_byt hbf hlf).1
  have hla := (rUint_byt hbf hlf).2
  have hnn := rUint_val hba
  have HLN := Lib.hid (rUint_byt hba hla).2
  have HT := Lib.hid fun (g : Nat) (W : World) (hW : RS W g (l, false)) => text_any g (l, false) W hW
  have HU1 := Lib.hid fun (g : Nat) (W : World) (hW : RS W g (rText (l, false)).1) => uint_any g (rText (l, false)).1 W hW
  have HU2 := Lib.hid fun (g : Nat) (W : World) (hW : RS W g (rUint (rText (l, false)).1).1) => uint_any g (rUint (rText (l, false)).1).1 W hW
  have HTE : Hid ((rBytes (l, false)).1 = (rText (l, false)).1 ∧ strOf (rBytes (l, false)).2 = (rText (l, false)).2) := Lib.hid ⟨rfl, rfl⟩
  rw [HTE.out.1, HTE.out.2] at HT
  generalize rText (l, false) = q1 at *
  obtain ⟨s1, f⟩ := q1
  simp only at *
  generalize rUint s1 = q2 at *
  obtain ⟨s2, a⟩ := q2
  simp only at *
  generalize rUint s2 = q3 at *
  obtain ⟨sn, nn⟩ := q3
  simp only at *
  obtain ⟨i0, hi0, hz0i, hz1, hz2⟩ := info_parts Cm.Tryz.infoE
  have I1 := Lib.hid hi0; have I2 := Lib.hid hz0i; have I3 := Lib.hid hz1; have I4 := Lib.hid hz2
  clear hi0 hz0i hz1 hz2
  obtain ⟨c0, hc0⟩ : ∃ c0, c0 = w.heap.size := ⟨_, rfl⟩
  rw [← hc0] at hx0 hb0 hz0
  have HX0 := Lib.hid hx0; have HB0 := Lib.hid hb0; have HC0 := Lib.hid hc0
  have HL := Lib.hid hl
  clear hx0 hb0 hc0 h hg0 hb hbf hlf hba hla hl
  replace hW0 := Lib.hid hW0
  go_enter Tryz.func27, Tryz.ntmps27
  go_wp2_with fail
  rw [← hW0.out, ← HC0.out]
  go_step3
  go_wp2_with fail
  refine HN.out.mono ?_
  rintro e w1 ⟨g, x, rfl, hr1, hg1, hb1⟩
  have hg0 : c0 < g := by omega
  have hz1w := hb1.size
  have HB1 := Lib.hid (HB0.out.trans (hb1.mono (by omega)))
  have HX1 := Lib.hid (HX0.out.later hb1 (by omega))
  have HR1 : Hid (RS w1 g (l, false)) := Lib.hid ⟨⟨x, hr1⟩, HBY.out, HL.out⟩
  clear hr1 hb1
  go_wp2_with fail
  refine (HT.out g w1 HR1.out).mono ?_
  rintro e w2 ⟨rfl, hr2, ho2⟩
  have hz2w := ho2.size
  have HB2 := Lib.hid (HB1.out.trans (ho2.below (show c0 ≤ g by omega) (fun r hr => by cases hr) (by omega)))
  have HX2 := Lib.hid (bb_only HX1.out ho2 (by omega))
  have HR2 := Lib.hid hr2
  clear hr2 ho2
  go_wp2_with fail
  refine (HU1.out g w2 HR2.out).mono ?_
  rintro e w3 ⟨rfl, hr3, ho3⟩
  have hz3w := ho3.size
  have HB3 := Lib.hid (HB2.out.trans (ho3.below (show c0 ≤ g by omega) (fun r hr => by cases hr) (by omega)))
  have HX3 := Lib.hid (bb_only HX2.out ho3 (by omega))
  have HR3 := Lib.hid hr3
  have hgl3 := hr3.lt
  clear hr3 ho3
  obtain ⟨c5, hc5⟩ : ∃ c5, c5 = w3.heap.size := ⟨_, rfl⟩
  obtain ⟨W4, hW4⟩ : ∃ W4, W4 = w3.alloc (.cells #[.string f, .int .u64 (a : Nat), .slice none 0 0] 49) := ⟨_, rfl⟩
  have hb4 : Below w3.heap.size w3 W4 := by rw [hW4]; exact (Below.refl _ _).alloc (Nat.le_refl _) _
  have h54 : BB W4 c5 f a none 0 0 := by rw [hW4, hc5]; exact heap_alloc_new _ _
  have hz4 : W4.heap.size = c5 + 1 := by rw [hW4, hc5]; simp
  have HB4 := Lib.hid (HB3.out.trans (hb4.mono (by omega)))
  have HX4 := Lib.hid (HX3.out.later hb4 HX3.out.lt)
  have HR4 := Lib.hid (HR3.out.later hb4)
  have H54 := Lib.hid h54
  have hgc : g < c5 := by omega
  clear hb4 h54
  replace hW4 := Lib.hid hW4
  have HC5 := Lib.hid hc5
  clear hc5
  go_upto_region 3 with fail
  rw [← hW4.out, ← HC5.out]
  go_wp2_with fail
  refine (HU2.out g W4 HR4.out).mono ?_
  rintro e w5 ⟨rfl, hr5, ho5⟩
  have hz5w := ho5.size
  have HB5 := Lib.hid (HB4.out.trans (ho5.below (show c0 ≤ g by omega) (fun r hr => by cases hr) (by omega)))
  have HX5 := Lib.hid (bb_only HX4.out ho5 (by omega))
  have H55 := Lib.hid (bb_only H54.out ho5 (by omega))
  have HR5 := Lib.hid hr5
  clear hr5 ho5
  go_wp2_with fail
  go_step3
  go_wp2_with fail
  go_loopw [7] (PInv g c0 c5 w f a nn sn) (fun iv _ => nn + 1 - (intOf iv).toNat)
  case atStart => exact ⟨0, none, 0, sn, [], rfl, Nat.zero_le _, HX5.out, H55.out, HR5.out, grow_nil _ _, HB5.out, by simp, by have := HLN.out; omega⟩
  case round =>
    obtain ⟨j, A, cap, sj, es, rfl, hj, hx, h5, hr, hrow, hbw, hrep, hlen40⟩ := hrel
    have HXr := Lib.hid hx; have H5r := Lib.hid h5; have HRr := Lib.hid hr; have HROW := Lib.hid hrow; have HBr := Lib.hid hbw; have HREP := Lib.hid hrep
    have hlt5 := h5.lt
    clear hx h5 hr hrow hbw hrep
    by_cases hlt : j < nn
    · have HE := Lib.hid (eread_any g sj wr HRr.out)
      have hcond : decide ((j : Int) < (nn : Int)) = true := decide_eq_true (by omega)
      go_wp2_with fail
      refine HE.out.mono ?_
      intro e w6 her
      unfold ERead at her
      cases hp : pe sj with
      | none =>
        rw [hp] at her
        have HN : Hid (rep pe nn sn = none) := Lib.hid (rep_stop HREP.out hlt hp)
        have HPN : Hid (pb (l, false) = none) := Lib.hid (by rw [HPB.out, HN.out])
        obtain ⟨rfl, ⟨s6, hr6⟩, ho6⟩ := her
        unfold zeroE
        have hz6 := ho6.size
        obtain ⟨Wn, hWn⟩ : ∃ Wn, Wn = (w6.setCell ⟨c5, 2, none⟩ (.slice none 0 0)).alloc (.cells #[.int .i64 0, .int .u64 0, .int .i64 0, .int .u64 0, .string ⟨#[]⟩, .string ⟨#[]⟩, .int .i64 0, .int .i64 0, .float .f64 0, .string ⟨#[]⟩, .slice none 0 0] 32) := ⟨_, rfl⟩
        have hx6 := bb_only HXr.out ho6 (by omega)
        have h56 := bb_only H5r.out ho6 (by omega)
        have hlt6 := h56.lt
        have HXn : Hid (BB Wn c0 ⟨#[]⟩ 0 none 0 0) := Lib.hid (by rw [hWn]; exact (heap_alloc_old _ _ (by simp only [World.setCell, Array.size_modify]; exact hx6.lt)).trans (hx6.far (by omega) _))
        have H5n : Hid (BB Wn c5 f a none 0 0) := Lib.hid (by rw [hWn]; exact (heap_alloc_old _ _ (by simp only [World.setCell, Array.size_modify]; exact hlt6)).trans h56.set)
        have HRn : Hid (RS Wn g s6) := Lib.hid (by rw [hWn]; exact rs_alloc (rs_set hr6 (by omega) _) _)
        have HBn : Hid (Below c0 w Wn) := Lib.hid (by rw [hWn]; exact ((HBr.out.trans (ho6.below (show c0 ≤ g by omega) (fun r hr => by cases hr) (by omega))).setCell (show c0 ≤ c5 by omega) _).alloc (by simp only [World.setCell, Array.size_modify]; omega) _)
        obtain ⟨d0, d1, d2, df⟩ := h56.cells
        have m2 := df 2
        have hltd := h56.lt
        clear df
        clear hr6 ho6 hx6 h56
        replace hWn := Lib.hid hWn
        go_upto_region 11 with fail
        rw [← hWn.out]
        clear d0 d1 d2 m2 hltd hlt6
        obtain ⟨r0, r1, r2, rf⟩ := HXn.out.cells
        have f0 := rf 0; have f1 := rf 1; have f2 := rf 2
        have hltr := HXn.out.lt
        clear rf
        have HD := Lib.hid (rs_done HRn.out)
        have HIN : Hid (EvsIn Wn none 0 []) := Lib.hid (grow_nil Wn c5).erow.read
        have HV := Lib.hid (bvalid_any [] f (by simp only [maxLen]; omega) a ha none 0 Wn HIN.out)
        have hbv : bvalid f a [] = false := by unfold bvalid; simp
        rw [hbv] at HV
        cases hd : (!s6.2 && s6.1.isEmpty) with
        | false =>
          rw [hd] at HD
          go_wp2_with fail
          refine HD.out.mono ?_
          rintro x7 w7 ⟨rfl, rfl⟩
          go_wp2_with fail
          rw [Exit.noGoto_ret]
          refine bodyPost_ret (v := .tuple #[.agg #[.string ⟨#[]⟩, .int .u64 0, .slice none 0 0], .bool false]) (by simp [results, Tryz.results27, go_sem, r0, r1, r2]) rfl ?_
          exact bparse_no HPN.out (by rw [← HC0.out]; exact below_set2 (below_set2 (below_set2 HBn.out (Nat.le_refl _) _ _) (Nat.le_refl _) _ _) (Nat.le_refl _) _ _)
        | true =>
          rw [hd] at HD
          obtain ⟨d0, d1, d2, df⟩ := H5n.out.cells
          have m2 := df 2
          have hltd := H5n.out.lt
          clear df
          go_wp2_with fail
          refine HD.out.mono ?_
          rintro x7 w7 ⟨rfl, rfl⟩
          go_wp2_with fail
          refine HV.out.mono ?_
          rintro x8 w8 ⟨rfl, hb8⟩
          have HX8 := Lib.hid (HXn.out.later hb8 HXn.out.lt)
          have HB8 := Lib.hid (HBn.out.trans (hb8.mono (by have := HXn.out.lt; omega)))
          clear hb8 r0 r1 r2 f0 f1 f2 hltr d0 d1 d2 m2 hltd
          obtain ⟨r0, r1, r2, rf⟩ := HX8.out.cells
          have f0 := rf 0; have f1 := rf 1; have f2 := rf 2
          have hltr := HX8.out.lt
          clear rf
          go_wp2_with fail
          rw [Exit.noGoto_ret]
          refine bodyPost_ret (v := .tuple #[.agg #[.string ⟨#[]⟩, .int .u64 0, .slice none 0 0], .bool false]) (by simp [results, Tryz.results27, go_sem, r0, r1, r2]) rfl ?_
          exact bparse_no HPN.out (by rw [← HC0.out]; exact below_set2 (below_set2 (below_set2 HB8.out (Nat.le_refl _) _ _) (Nat.le_refl _) _ _) (Nat.le_refl _) _ _)
      | some p =>
        rw [hp] at her
        obtain ⟨s6, e6⟩ := p
        obtain ⟨xe, rfl, ⟨hf6, vk, vn, vf, vs, A', m, c, rfl, hrep6⟩, hr6, ho6⟩ := her
        obtain ⟨k, id, n, at', nm, tx, vt⟩ := e6
        unfold evCells
        simp only at hrep6
        have hz6 := ho6.size
        have hrow6 := HROW.out.only (w' := w6) hz6 fun b h1 h2 => ho6.block b h2 (by omega) (by simp)
        have hx6 := bb_only HXr.out ho6 (by omega)
        have h56 := bb_only H5r.out ho6 (by omega)
        have hbw6 := HBr.out.trans (ho6.below (show c0 ≤ g by omega) (fun r hr => by cases hr) (by omega))
        obtain ⟨b8, hb8⟩ : ∃ b8, b8 = w6.heap.size := ⟨_, rfl⟩
        obtain ⟨Wb, hWb⟩ : ∃ Wb, Wb = w6.alloc (.cells #[.int .i64 k, .int .u64 (id : Nat), .int .i64 n, .int .u64 (at' : Nat), .string nm, .string tx, .int .i64 vk, .int .i64 vn, .float .f64 vf, .string vs, .slice A' m c] 32) := ⟨_, rfl⟩
        have hbb : Below w6.heap.size w6 Wb := by rw [hWb]; exact (Below.refl _ _).alloc (Nat.le_refl _) _
        have hzb : Wb.heap.size = b8 + 1 := by rw [hWb, World.size_alloc, hb8]
        have hE8 : EBox Wb b8 #[.int .i64 k, .int .u64 (id : Nat), .int .i64 n, .int .u64 (at' : Nat), .string nm, .string tx, .int .i64 vk, .int .i64 vn, .float .f64 vf, .string vs, .slice A' m c] := by rw [hWb, hb8]; exact heap_alloc_new _ _
        obtain ⟨W4, hW4⟩ : ∃ W4, W4 = Wb.alloc (.cells #[.int .i64 k, .int .u64 (id : Nat), .int .i64 n, .int .u64 (at' : Nat), .string nm, .string tx, .int .i64 vk, .int .i64 vn, .float .f64 vf, .string vs, .slice A' m c] 32) := ⟨_, rfl⟩
        have hb4f : Below Wb.heap.size Wb W4 := by rw [hW4]; exact (Below.refl _ _).alloc (Nat.le_refl _) _
        have hz4 : W4.heap.size = b8 + 2 := by rw [hW4, World.size_alloc, hzb]
        have hb64 : Below w6.heap.size w6 W4 := hbb.trans (hb4f.mono (by omega))
        have h5b := h56.later hbb h56.lt
        have H54 := Lib.hid (h56.later hb64 h56.lt)
        have HX4 := Lib.hid (hx6.later hb64 hx6.lt)
        have HR4 := Lib.hid (hr6.later hb64)
        have HB4 := Lib.hid (hbw6.trans (hb64.mono (by omega)))
        have hrow4 := hrow6.only (w' := W4) hb64.size fun b h1 h2 => hb64.block b h2
        have HRO := Lib.hid fun r hr => hrow4.lt r hr
        have HRB : Hid (∀ r, rowOf A = some r → r < wr.heap.size) := Lib.hid fun r hr => (HROW.out.lt r hr).1
        obtain ⟨hlen, xs, hxo, hxe⟩ := hrow4
        have hlx := hxo.1
        have KO := Lib.hid hxo; have HXE := Lib.hid hxe
        have HREP6 := Lib.hid (hrep6.later hb64)
        have HF := Lib.hid hf6
        have K2 : Hid (∀ q u, ((#[.int .i64 k, .int .u64 (id : Nat), .int .i64 n, .int .u64 (at' : Nat), .string nm, .string tx, .int .i64 vk, .int .i64 vn, .float .f64 vf, .string vs, .slice A' m c]).toList)[q]? = some u → W4.cell? ((⟨b8 + 1, 0, none⟩ : Addr).add q) = some u) := Lib.hid (World.news_of_block (t := 32) (fr := (0, 0)) (by rw [hW4, ← hzb]; exact heap_alloc_new _ _))
        have KF : Hid (∀ r2 cap4 w7, w7.ownsRow (c5 + 1) 32 11 (.slice (some ⟨r2, 0, none⟩) (j + 1) cap4) (j + 1) (xs ++ (#[.int .i64 k, .int .u64 (id : Nat), .int .i64 n, .int .u64 (at' : Nat), .string nm, .string tx, .int .i64 vk, .int .i64 vn, .float .f64 vf, .string vs, .slice A' m c]).toList) → W4.grownBy w7 (rowOf A) → (rowOf A = some r2 ∨ r2 = W4.heap.size) →
            GRow w7 c5 (some ⟨r2, 0, none⟩) cap4 (j + 1) (es ++ [⟨k, id, n, at', nm, tx, vt⟩]) ∧ Below (c5 + 1) W4 w7) := Lib.hid fun r2 cap4 w7 hown hgrow hat =>
          ⟨GRow.push (cap := cap) (e := ⟨k, id, n, at', nm, tx, vt⟩) hlen hlx (fun i h => HXE.out i h) (show c5 < wr.heap.size by omega) HF.out HREP6.out (by omega) (fun r hr => .inl (HRB.out r hr)) hown hgrow hat (Nat.le_refl _),
           ⟨hgrow.os, hgrow.tape, hgrow.output, hgrow.size, fun b hb => hgrow.block b (by omega) (fun e => by have := (HRO.out b e.symm).2; omega)⟩⟩
        have hplt := pe_lt HRr.out.2.1 HRr.out.2.2 hp
        have hj40 : j ≤ 1099511627775 := by omega
        clear hplt
        have hb8c : c5 < b8 := by omega
        have hHP := hp
        have HPP := Lib.hid hHP
        have HRS := Lib.hid HRr.out.2
        have H5B := Lib.hid h5b; have HE8 := Lib.hid hE8
        clear hrow6 hx6 h56 hbw6 hbb hb4f hb64 h5b hE8 hxo hxe hrep6 hf6 hr6 ho6 hHP hp
        replace hWb := Lib.hid hWb; replace hW4 := Lib.hid hW4; have HB8 := Lib.hid hb8
        clear hb8
        go_upto_region 10 with fail
        rw [← hWb.out, ← HB8.out]
        obtain ⟨d0, d1, d2, df⟩ := H5B.out.cells
        have m2 := df 2
        have hltd := H5B.out.lt
        clear df
        obtain ⟨x0, x1, x2, x3, x4, x5, x6, x7, x8, x9, x10⟩ := HE8.out.cells
        have hltx := HE8.out.lt
        go_wp2_with (at_builtin; rw [← hW4.out]; refine wpList_append_lies _ rfl _ _ 47 rfl (c5 + 1) 32 i0 _ 11 128 Tryz.underlying47 I1.out I2.out I3.out I4.out rfl (by decide) (.slice A j cap) j xs rfl KO.out ⟨b8 + 1, 0, none⟩ 1 1 (#[.int .i64 k, .int .u64 (id : Nat), .int .i64 n, .int .u64 (at' : Nat), .string nm, .string tx, .int .i64 vk, .int .i64 vn, .float .f64 vf, .string vs, .slice A' m c]).toList rfl rfl K2.out (by intro u hu; simp at hu; rcases hu with rfl | rfl | rfl | rfl | rfl | rfl | rfl | rfl | rfl | rfl | rfl <;> rfl) (by decide) (by simp only [maxLen]; omega) (by omega) (by omega) _ rfl ?_; intro r2 cap4 w7 hown5 hgrow5 hat5 hrl5; rw [Cm.rowOf_own] at hgrow5 hat5; obtain ⟨hP, hb7⟩ := KF.out r2 cap4 w7 hown5 hgrow5 hat5; clear hown5 hgrow5 hat5; have HP7 := Lib.hid hP; have HB7 := Lib.hid hb7; have h57 := H54.out.later hb7 (Nat.lt_succ_self _); have hlt7 := h57.lt; obtain ⟨q0, q1, q2, qf⟩ := h57.cells; have qf2 := qf 2; have H57 := Lib.hid h57; clear hP hb7 h57 qf)
        go_roundw
        case rel =>
          refine ⟨j + 1, some ⟨r2, 0, none⟩, cap4, s6, es ++ [⟨k, id, n, at', nm, tx, vt⟩], by go_num, by omega, (HX4.out.later HB7.out (by omega)).far (by omega) _, H57.out.set, rs_set (HR4.out.frame HB7.out.size fun x hx => HB7.out.block x (by omega)) (by omega) _, HP7.out.only (by simp [World.setCell]) (fun b h1 h2 => Below.heap_setCell _ ⟨c5, 2, none⟩ _ b (by simp only []; omega)), (HB4.out.trans (HB7.out.mono (by omega))).setCell (show c0 ≤ c5 by omega) _, rep_acc HREP.out hlt HPP.out, ?_⟩
          have := pe_lt HRS.out.1 HRS.out.2 HPP.out
          omega
        case measure => simp [intOf]; omega
    · have hj2 : j = nn := by omega
      subst hj2
      have hcond : decide ((j : Int) < (j : Int)) = false := decide_eq_false (by omega)
      have HE := Lib.hid (rep_end HREP.out)
      have hel := HROW.out.1
      subst hel
      have HIN : Hid (EvsIn wr A cap es) := Lib.hid HROW.out.erow.read
      have HD := Lib.hid (rs_done HRr.out)
      have HV := Lib.hid (bvalid_any es f (by simp only [maxLen]; omega) a ha A cap wr HIN.out)
      obtain ⟨r0, r1, r2, rf⟩ := HXr.out.cells
      have f0 := rf 0; have f1 := rf 1; have f2 := rf 2
      have hltr := HXr.out.lt
      clear rf
      cases hd : (!sj.2 && sj.1.isEmpty) with
      | false =>
        have HPN : Hid (pb (l, false) = none) := Lib.hid (by rw [HPB.out, HE.out]; simp only; rw [if_pos]; cases h2 : sj.2 with | true => exact .inl rfl | false => rw [h2] at hd; refine .inr (.inl fun h => ?_); rw [h] at hd; simp at hd)
        rw [hd] at HD
        go_wp2_with fail
        refine HD.out.mono ?_
        rintro x7 w7 ⟨rfl, rfl⟩
        go_wp2_with fail
        refine bodyPost_ret (v := .tuple #[.agg #[.string ⟨#[]⟩, .int .u64 0, .slice none 0 0], .bool false]) (by simp [results, Tryz.results27, go_sem, r0, r1, r2]) rfl ?_
        exact bparse_no HPN.out (by rw [← HC0.out]; exact below_set2 (below_set2 (below_set2 HBr.out (Nat.le_refl _) _ _) (Nat.le_refl _) _ _) (Nat.le_refl _) _ _)
      | true =>
        have hs2 : sj.2 = false ∧ sj.1 = [] := by
          simp at hd
          exact hd
        rw [hd] at HD
        have HS2 := Lib.hid hs2
        clear hs2
        obtain ⟨d0, d1, d2, df⟩ := H5r.out.cells
        have m2 := df 2
        have hltd := H5r.out.lt
        clear df
        go_wp2_with fail
        refine HD.out.mono ?_
        rintro x7 w7 ⟨rfl, rfl⟩
        go_wp2_with fail
        refine HV.out.mono ?_
        rintro x8 w8 ⟨rfl, hb8⟩
        have HX8 := Lib.hid (HXr.out.later hb8 HXr.out.lt)
        have HX58 := Lib.hid (H5r.out.later hb8 H5r.out.lt)
        have HB8 := Lib.hid (HBr.out.trans (hb8.mono (by have := HXr.out.lt; omega)))
        have HB8R := Lib.hid hb8
        clear hb8 r0 r1 r2 f0 f1 f2 hltr d0 d1 d2 m2 hltd
        obtain ⟨r0, r1, r2, rf⟩ := HX8.out.cells
        have f0 := rf 0; have f1 := rf 1; have f2 := rf 2
        have hltr := HX8.out.lt
        clear rf
        obtain ⟨d0, d1, d2, df⟩ := HX58.out.cells
        have m2 := df 2
        have hltd := HX58.out.lt
        clear df
        have hne1 : ¬ (c5 = c0) := by omega
        have hne2 : ¬ (c0 = c5) := by omega
        cases hbv : bvalid f a es with
        | false =>
          have HPN : Hid (pb (l, false) = none) := Lib.hid (by rw [HPB.out, HE.out]; simp only; rw [if_pos (.inr (.inr hbv))])
          go_wp2_with fail
          refine bodyPost_ret (v := .tuple #[.agg #[.string ⟨#[]⟩, .int .u64 0, .slice none 0 0], .bool false]) (by simp [results, Tryz.results27, go_sem, r0, r1, r2]) rfl ?_
          exact bparse_no HPN.out (by rw [← HC0.out]; exact below_set2 (below_set2 (below_set2 HB8.out (Nat.le_refl _) _ _) (Nat.le_refl _) _ _) (Nat.le_refl _) _ _)
        | true =>
          have HPY : Hid (pb (l, false) = some (f, a, es)) := Lib.hid (by rw [HPB.out, HE.out]; simp only; rw [if_neg (by rw [HS2.out.1, HS2.out.2, hbv]; simp)])
          go_wp2_with fail
          refine bodyPost_ret (v := .tuple #[.agg #[.string f, .int .u64 (a : Nat), .slice A es.length cap], .bool true]) (by simp [results, Tryz.results27, go_sem, r0, r1, r2]) rfl ?_
          exact bparse_yes HPY.out (grow_fin HROW.out HB8R.out (by omega) _ _ _) (by rw [← HC0.out]; exact below_set2 (below_set2 (below_set2 HB8.out (Nat.le_refl _) _ _) (Nat.le_refl _) _ _) (Nat.le_refl _) _ _)

end Rd
end Go.Proofs.YtcbddebmmaflgaaGreatDoor
