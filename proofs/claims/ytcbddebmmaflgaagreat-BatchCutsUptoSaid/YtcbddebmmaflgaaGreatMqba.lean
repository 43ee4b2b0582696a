/- The reference's ReadBytes. -/
/- The reference's read of a value: nothing there, and all kinds but lists. -/
import Derived.Test.YtcbddebmmaflgaaGreatMqaz
import Derived.Test.YtcbddebmmaflgaaGreatMqat
import Derived.Test.YtcbddebmmaflgaaGreatMqax
namespace Go.Proofs.YtcbddebmmaflgaaGreat
open Go.RowKit
set_option linter.unusedVariables false
set_option linter.unusedSimpArgs false
namespace Rd
open _root_.Go.Proofs.YtcbddebmmaflgaaGreat.Nm (ret_int ret_bool)
open Cn (BRd brd_own)
open Vt (below_drew)
open Ev (take_drop tk cons_drop)
open _root_.Go.Proofs.YtcbddebmmaflgaaGreat.Bt (ownBlock_slice)

set_option maxRecDepth 100000 in
set_option maxHeartbeats 2000000 in
theorem rrbytes_any (s : St) (x : Value) (w : World) (B : Nat) (hB : B ≤ w.heap.size) (h : RV w B s x) :
    Calls Tryz.prog 20 #[x] w fun r w' => ∃ y v2, r = .returned (.tuple #[y, v2]) ∧ RV w' B (rBytes s).1 y ∧ BRd w' v2 (rBytes s).2 ∧ Far v2 B ∧ Below w.heap.size w w' := by
  obtain ⟨⟨v, rfl, hv, hf⟩, hb, hl⟩ := h
  have HF := Lib.hid hf
  obtain ⟨l, bad⟩ := s
  simp only at *
  obtain ⟨W0, hW0, hq, hr, hb0, hz0⟩ := two_boxes w v bad
  have HV := Lib.hid hv
  have HB := Lib.hid (hv.later hb0)
  have HQ := Lib.hid hq
  have HR := Lib.hid hr
  have HB0 := Lib.hid hb0
  have HBY := Lib.hid hb
  have HL := Lib.hid hl
  have hlt1 : w.heap.size + 1 < W0.heap.size := by omega
  have hlt0 : w.heap.size < W0.heap.size := by omega
  have hst : ∀ W a m, (store a v m).run Tryz.prog W = stored Tryz.prog W a v m := fun W a m => by
    obtain ⟨A, c, rfl⟩ := hv.form
    exact run_store _ W a _ m rfl
  cases bad with
  | true =>
    obtain ⟨X, N, hXN⟩ := numV_form l
    have HN : Hid (Calls Tryz.prog 54 #[v] W0 fun r w' => r = .returned (.tuple #[.int .u64 (X : Nat), .int .i64 (N : Nat)]) ∧ W0 = w') := Lib.hid (by have := number_any v l HBY.out W0 HB.out; rw [hXN] at this; exact this)
    clear hXN
    rw [rBytes_bad]
    obtain ⟨c0, c1, f0, f1⟩ := HQ.out.cells
    obtain ⟨r0, r1, e0, e1⟩ := HR.out.cells
    clear hv hf hq hr hb0 hb hl hz0
    replace hW0 := Lib.hid hW0
    go_enter Tryz.func20, Tryz.ntmps20
    go_upto_region 1 with fail
    rw [← hW0.out]
    go_wp2_with fail
    refine HN.out.mono ?_
    rintro e w1 ⟨rfl, rfl⟩
    go_wp2_with fail
    refine bodyPost_ret (v := .tuple #[.agg #[v, .bool true], .slice none 0 0]) (by simp [results, Tryz.results20, go_sem, r0, r1]) rfl ?_
    exact ⟨_, _, rfl, rv_end (s' := (l, true)) HV.out HF.out HBY.out HL.out (below_set2 (below_set2 (below_set2 HB0.out (Nat.le_refl _) _ _) (Nat.le_succ _) _ _) (Nat.le_succ _) _ _), brd_nil _, far_nil _, (below_set2 (below_set2 (below_set2 HB0.out (Nat.le_refl _) _ _) (Nat.le_succ _) _ _) (Nat.le_succ _) _ _)⟩
  | false =>
    cases hnum : num l with
    | none =>
      have HN : Hid (Calls Tryz.prog 54 #[v] W0 fun r w' => r = .returned (.tuple #[.int .u64 (0), .int .i64 (0)]) ∧ W0 = w') := Lib.hid (by have := number_any v l HBY.out W0 HB.out; rw [hnum] at this; exact this)
      rw [rBytes_none hnum]
      clear hnum
      obtain ⟨c0, c1, f0, f1⟩ := HQ.out.cells
      obtain ⟨r0, r1, e0, e1⟩ := HR.out.cells
      clear hv hf hq hr hb0 hb hl hz0
      replace hW0 := Lib.hid hW0
      go_enter Tryz.func20, Tryz.ntmps20
      go_upto_region 1 with fail
      rw [← hW0.out]
      go_wp2_with fail
      refine HN.out.mono ?_
      rintro e w1 ⟨rfl, rfl⟩
      go_wp2_with fail
      refine bodyPost_ret (v := .tuple #[.agg #[v, .bool true], .slice none 0 0]) (by simp [results, Tryz.results20, go_sem, r0, r1]) rfl ?_
      exact ⟨_, _, rfl, rv_end (s' := (l, true)) HV.out HF.out HBY.out HL.out (below_set2 (below_set2 (below_set2 HB0.out (Nat.le_refl _) _ _) (Nat.le_succ _) _ _) (Nat.le_succ _) _ _), brd_nil _, far_nil _, (below_set2 (below_set2 (below_set2 HB0.out (Nat.le_refl _) _ _) (Nat.le_succ _) _ _) (Nat.le_succ _) _ _)⟩
    | some p =>
      obtain ⟨X, N⟩ := p
      have HN : Hid (Calls Tryz.prog 54 #[v] W0 fun r w' => r = .returned (.tuple #[.int .u64 (X : Nat), .int .i64 (N : Nat)]) ∧ W0 = w') := Lib.hid (by have := number_any v l HBY.out W0 HB.out; rw [hnum] at this; exact this)
      obtain ⟨hX64, -, -, hNl, hN0⟩ := num_some hb hnum
      have hne0 : ((N : Int) == 0) = false := beq_eq_false_iff_ne.2 (by omega)
      obtain ⟨m, hm⟩ : ∃ m, m = l.length - N := ⟨_, rfl⟩
      have hwr : IntKind.u64.wrap ((l.length : Int) - (N : Int)) = (m : Int) := by rw [IntKind.wrap_u64]; omega
      have hw64 : wrap64 ((l.length : Int) - (N : Int)) = (l.length : Int) - (N : Int) := by unfold wrap64; omega
      by_cases hx : X ≤ l.length - N
      · rw [rBytes_take hnum hx]
        have k1 : decide ((X : Int) > (m : Int)) = false := decide_eq_false (by omega)
        have k2 : decide ((m : Int) < (X : Int)) = false := decide_eq_false (by omega)
        have k3 : decide (m < X) = false := decide_eq_false (by omega)
        have hwx : IntKind.i64.wrap (X : Int) = (X : Int) := by rw [IntKind.wrap_i64]; omega
        have hbd := byt_drop hb N
        have hld : (l.drop N).length ≤ 1099511627776 := by rw [List.length_drop]; omega
        have HBD := Lib.hid hbd
        have HLD := Lib.hid hld
        clear hbd hld hnum
        rcases hv with ⟨rfl, h2⟩ | ⟨b, off, cap, rfl, h2, h3, h4, h5⟩
        · rw [h2] at hNl; simp at hNl; omega
        · simp only [maxLen] at h3
          have hi0 : (0 : Int) ≤ (N : Int) := by omega
          have hi1 : (N : Int) ≤ (cap : Int) := by omega
          have hN2 : N ≤ cap := by omega
          clear h5
          have HM := Lib.hid hm
          clear hm
          by_cases hcn : cap = N
          · have HD := Lib.hid (brd_dropC HV.out hNl hcn)
            subst hcn
            have HT := Lib.hid (rrtake_any (l.drop cap, false) X (.agg #[.slice (some ⟨b, off, none⟩) 0 0, .bool false]) W0 B (by omega) ⟨⟨_, rfl, HD.out.later HB0.out, far_slice HF.out _ _ _⟩, HBD.out, HLD.out⟩)
            generalize rTake (l.drop cap, false) X = q at *
            obtain ⟨⟨l1, bad1⟩, l2⟩ := q
            simp only at *
            obtain ⟨c0, c1, f0, f1⟩ := HQ.out.cells
            obtain ⟨r0, r1, e0, e1⟩ := HR.out.cells
            clear hf hq hr hb0 hb hl hz0
            replace hW0 := Lib.hid hW0
            go_enter Tryz.func20, Tryz.ntmps20
            go_upto_region 1 with fail
            rw [← hW0.out]
            go_wp2_with fail
            refine HN.out.mono ?_
            rintro e w1 ⟨rfl, rfl⟩
            go_wp2_with fail
            refine HT.out.mono ?_
            rintro e w2 ⟨y, v2, rfl, ⟨⟨v1, rfl, hv1, hf1⟩, hb1, hl1⟩, hv2, hf2, hbl⟩
            simp only at hv1 hf1 hb1 hl1
            clear c0 c1 f0 f1 r0 r1 e0 e1
            obtain ⟨r0, r1, e0, e1⟩ := (HR.out.later hbl hlt1).cells
            have hlt1w := Nat.lt_of_lt_of_le hlt1 hbl.size
            have hst1 : ∀ W a m, (store a v1 m).run Tryz.prog W = stored Tryz.prog W a v1 m := fun W a m => by
              obtain ⟨A, c, rfl⟩ := hv1.form
              exact run_store _ W a _ m rfl
            have HV1 := Lib.hid hv1
            have HF1 := Lib.hid hf1
            have HBY1 := Lib.hid hb1
            have HL1 := Lib.hid hl1
            have HV2 := Lib.hid hv2
            have HF2 := Lib.hid hf2
            have HB1 := Lib.hid (HB0.out.trans (hbl.mono HB0.out.size))
            clear hv1 hf1 hb1 hl1 hbl hst hv2 hf2
            go_wp2_with fail
            refine bodyPost_ret (v := .tuple #[.agg #[v1, .bool bad1], v2]) (by simp [results, Tryz.results20, go_sem, r0, r1]) rfl ?_
            exact ⟨_, _, rfl, RV.below (w := w2) ⟨⟨v1, rfl, HV1.out, HF1.out⟩, HBY1.out, HL1.out⟩ (below_set2 (below_set2 (Below.refl w.heap.size w2) (Nat.le_succ _) _ _) (Nat.le_succ _) _ _) hB, brd_keep HV2.out (by simp [World.setCell]) (fun k hk => (below_set2 (below_set2 (Below.refl w.heap.size w2) (Nat.le_succ _) _ _) (Nat.le_succ _) _ _).block k (by have := HF2.out k hk; omega)), HF2.out, below_set2 (below_set2 HB1.out (Nat.le_succ _) _ _) (Nat.le_succ _) _ _⟩
          · have HD := Lib.hid (brd_drop HV.out hNl)
            have HT := Lib.hid (rrtake_any (l.drop N, false) X (.agg #[.slice (some ⟨b, off + N, none⟩) (l.length - N) (cap - N), .bool false]) W0 B (by omega) ⟨⟨_, rfl, HD.out.later HB0.out, far_slice HF.out _ _ _⟩, HBD.out, HLD.out⟩)
            generalize rTake (l.drop N, false) X = q at *
            obtain ⟨⟨l1, bad1⟩, l2⟩ := q
            simp only at *
            obtain ⟨c0, c1, f0, f1⟩ := HQ.out.cells
            obtain ⟨r0, r1, e0, e1⟩ := HR.out.cells
            clear hf hq hr hb0 hb hl hz0
            replace hW0 := Lib.hid hW0
            go_enter Tryz.func20, Tryz.ntmps20
            go_upto_region 1 with fail
            rw [← hW0.out]
            go_wp2_with fail
            refine HN.out.mono ?_
            rintro e w1 ⟨rfl, rfl⟩
            go_wp2_with fail
            refine HT.out.mono ?_
            rintro e w2 ⟨y, v2, rfl, ⟨⟨v1, rfl, hv1, hf1⟩, hb1, hl1⟩, hv2, hf2, hbl⟩
            simp only at hv1 hf1 hb1 hl1
            clear c0 c1 f0 f1 r0 r1 e0 e1
            obtain ⟨r0, r1, e0, e1⟩ := (HR.out.later hbl hlt1).cells
            have hlt1w := Nat.lt_of_lt_of_le hlt1 hbl.size
            have hst1 : ∀ W a m, (store a v1 m).run Tryz.prog W = stored Tryz.prog W a v1 m := fun W a m => by
              obtain ⟨A, c, rfl⟩ := hv1.form
              exact run_store _ W a _ m rfl
            have HV1 := Lib.hid hv1
            have HF1 := Lib.hid hf1
            have HBY1 := Lib.hid hb1
            have HL1 := Lib.hid hl1
            have HV2 := Lib.hid hv2
            have HF2 := Lib.hid hf2
            have HB1 := Lib.hid (HB0.out.trans (hbl.mono HB0.out.size))
            clear hv1 hf1 hb1 hl1 hbl hst hv2 hf2
            go_wp2_with fail
            refine bodyPost_ret (v := .tuple #[.agg #[v1, .bool bad1], v2]) (by simp [results, Tryz.results20, go_sem, r0, r1]) rfl ?_
            exact ⟨_, _, rfl, RV.below (w := w2) ⟨⟨v1, rfl, HV1.out, HF1.out⟩, HBY1.out, HL1.out⟩ (below_set2 (below_set2 (Below.refl w.heap.size w2) (Nat.le_succ _) _ _) (Nat.le_succ _) _ _) hB, brd_keep HV2.out (by simp [World.setCell]) (fun k hk => (below_set2 (below_set2 (Below.refl w.heap.size w2) (Nat.le_succ _) _ _) (Nat.le_succ _) _ _).block k (by have := HF2.out k hk; omega)), HF2.out, below_set2 (below_set2 HB1.out (Nat.le_succ _) _ _) (Nat.le_succ _) _ _⟩
      · rw [rBytes_far hnum hx]
        have k1 : decide ((X : Int) > (m : Int)) = true := decide_eq_true (by omega)
        have k2 : decide ((m : Int) < (X : Int)) = true := decide_eq_true (by omega)
        have k3 : decide (m < X) = true := decide_eq_true (by omega)
        clear hnum
        obtain ⟨A, cap, hvf⟩ := hv.form
        have HM := Lib.hid hm
        clear hm
        subst hvf
        obtain ⟨c0, c1, f0, f1⟩ := HQ.out.cells
        obtain ⟨r0, r1, e0, e1⟩ := HR.out.cells
        clear hv hf hq hr hb0 hb hl hz0
        replace hW0 := Lib.hid hW0
        go_enter Tryz.func20, Tryz.ntmps20
        go_upto_region 1 with fail
        rw [← hW0.out]
        go_wp2_with fail
        refine HN.out.mono ?_
        rintro e w1 ⟨rfl, rfl⟩
        go_wp2_with fail
        refine bodyPost_ret (v := .tuple #[.agg #[.slice A l.length cap, .bool true], .slice none 0 0]) (by simp [results, Tryz.results20, go_sem, r0, r1]) rfl ?_
        exact ⟨_, _, rfl, rv_end (s' := (l, true)) HV.out HF.out HBY.out HL.out (below_set2 (below_set2 (below_set2 HB0.out (Nat.le_refl _) _ _) (Nat.le_succ _) _ _) (Nat.le_succ _) _ _), brd_nil _, far_nil _, (below_set2 (below_set2 (below_set2 HB0.out (Nat.le_refl _) _ _) (Nat.le_succ _) _ _) (Nat.le_succ _) _ _)⟩

end Rd
end Go.Proofs.YtcbddebmmaflgaaGreat
namespace Go.Proofs.YtcbddebmmaflgaaGreat
open Go.RowKit
set_option linter.unusedVariables false
set_option linter.unusedSimpArgs false
namespace Rd
open _root_.Go.Proofs.YtcbddebmmaflgaaGreat.Nm (ret_int ret_bool bitsW ofW okW)
open Vt (VT Rep BoxAt below_drew put5 KidsAt HeadOk)
open Cm (OnlyAt rowOf)
open Cn (BRd brd_own VsAt VNew)
open Bt (BIn)
attribute [local go_sem] Vt.run_store_float

/-- What the reference's reading of a value leaves. -/
def RRead (left : Nat) (s : St) (B : Nat) (w : World) (r : Ending) (w' : World) : Prop := ∃ (okb : Bool) (y : Value) (s' : St) (k n : Int) (f : Nat) (str : ByteArray) (A : Option Addr) (m c : Nat) (tt : VT),
    r = .returned (.tuple #[y, .agg #[.int .i64 k, .int .i64 n, .float .f64 f, .string str, .slice A m c], .bool okb]) ∧ RV w' B s' y ∧ Rep w' w.heap.size w'.heap.size tt (.agg #[.int .i64 k, .int .i64 n, .float .f64 f, .string str, .slice A m c]) ∧ Below w.heap.size w w' ∧
    (okb = true → pv left s = some (s', tt)) ∧ (okb = false → pv left s = none)
theorem rread_no {left B : Nat} {s s' : St} {w w' : World} {v : Value} (h : pv left s = none) (hv : BRd w' v s'.1 ∧ Far v B ∧ Byt s'.1 ∧ s'.1.length ≤ 1099511627776) (hb : Below w.heap.size w w') :
    RRead left s B w (.returned (.tuple #[.agg #[v, .bool s'.2], .agg #[.int .i64 0, .int .i64 0, .float .f64 0, .string ⟨#[]⟩, .slice none 0 0], .bool false])) w' :=
  ⟨false, _, s', 0, 0, 0, ⟨#[]⟩, none, 0, 0, .mk 0 0 0 ⟨#[]⟩ [], rfl, ⟨⟨v, rfl, hv.1, hv.2.1⟩, hv.2.2⟩, rep_leaf ⟨by decide, by decide, by decide, by decide, by decide, by decide, by decide⟩, hb, fun h => Bool.noConfusion h, fun _ => h⟩
theorem rread_yes {left B : Nat} {s s' : St} {w w' : World} {v : Value} {t : VT} {k n : Int} {f : Nat} {str : ByteArray} {A : Option Addr} {m c : Nat} (h : pv left s = some (s', t)) (hv : BRd w' v s'.1 ∧ Far v B ∧ Byt s'.1 ∧ s'.1.length ≤ 1099511627776)
    (hrep : Rep w' w.heap.size w'.heap.size t (.agg #[.int .i64 k, .int .i64 n, .float .f64 f, .string str, .slice A m c])) (hb : Below w.heap.size w w') :
    RRead left s B w (.returned (.tuple #[.agg #[v, .bool s'.2], .agg #[.int .i64 k, .int .i64 n, .float .f64 f, .string str, .slice A m c], .bool true])) w' :=
  ⟨true, _, s', k, n, f, str, A, m, c, t, rfl, ⟨⟨v, rfl, hv.1, hv.2.1⟩, hv.2.2⟩, hrep, hb, fun _ => h, fun h => Bool.noConfusion h⟩
/-- A reader's parts at a world, kept by what writes above B. -/
def RP (w : World) (B : Nat) (v : Value) (l : List Nat) : Prop := BRd w v l ∧ Far v B ∧ Byt l ∧ l.length ≤ 1099511627776
theorem RP.below {w w' : World} {B C : Nat} {v : Value} {l : List Nat} (h : RP w B v l) (hb : Below C w w') (hB : B ≤ C) : RP w' B v l :=
  ⟨brd_keep h.1 hb.size fun k e => hb.block k (by have := h.2.1 k e; omega), h.2⟩
theorem RP.store {w : World} {B : Nat} {v : Value} {l : List Nat} (h : RP w B v l) : ∀ W a m, (store a v m).run Tryz.prog W = stored Tryz.prog W a v m := fun W a m => by
  obtain ⟨A, c, rfl⟩ := h.1.form
  exact run_store _ W a _ m rfl
theorem qb_set {w : World} {b : Nat} {v v' : Value} {bad bad' : Bool} (h : QB w b v bad) : QB ((w.setCell ⟨b, 0, none⟩ v').setCell ⟨b, 1, none⟩ (.bool bad')) b v' bad' := by
  unfold QB at h ⊢; simp [World.setCell, Array.getElem?_modify, h]
theorem qb_far {w : World} {b g o : Nat} {v : Value} {bad : Bool} (h : QB w b v bad) (hb : b ≠ g) (x : Value) : QB (w.setCell ⟨g, o, none⟩ x) b v bad := (Below.heap_setCell w ⟨g, o, none⟩ x b (by simpa using hb)).trans h
theorem three_boxes (w : World) (v : Value) (bad : Bool) : ∃ W0, W0 = ((w.alloc (.cells #[v, .bool bad] 52)).alloc (.cells #[.slice none 0 0, .bool false] 52)).alloc (.cells #[.int .i64 0, .int .i64 0, .float .f64 0, .string ⟨#[]⟩, .slice none 0 0] 42) ∧ QB W0 w.heap.size v bad ∧ QB W0 (w.heap.size + 1) (.slice none 0 0) false ∧ BoxAt W0 (w.heap.size + 1 + 1) 0 0 0 ⟨#[]⟩ none 0 0 ∧ Below w.heap.size w W0 ∧ W0.heap.size = w.heap.size + 3 := by
  obtain ⟨W1, hW1, h1, h2, h3, h4⟩ := two_boxes w v bad
  refine ⟨_, rfl, ?_, ?_, ?_, ?_, ?_⟩
  · rw [← hW1]; exact (heap_alloc_old _ _ (by omega)).trans h1
  · rw [← hW1]; exact (heap_alloc_old _ _ (by omega)).trans h2
  · rw [← hW1, ← h4]; exact BoxAt.new ..
  · rw [← hW1]; exact h3.alloc h3.size _
  · rw [← hW1]; simp [h4]
theorem fin7 {C : Nat} {w W : World} {b : Nat} (h : Below C w W) (hb : C ≤ b) (x0 x1 d0 d1 d2 d3 d4 : Value) : Below C w (put5 ((W.setCell ⟨b, 0, none⟩ x0).setCell ⟨b, 1, none⟩ x1) (b + 1) 0 d0 d1 d2 d3 d4) :=
  Vt.put5_below (below_set2 (below_set2 h hb _ _) hb _ _) (by omega)
theorem box_set0 {w : World} {g : Nat} {k n : Int} {f : Nat} {s : ByteArray} {A : Option Addr} {m c : Nat} (h : BoxAt w g k n f s A m c) (k' : Int) : BoxAt (w.setCell ⟨g, 0, none⟩ (.int .i64 k')) g k' n f s A m c := by
  unfold BoxAt at *; simp [World.setCell, Array.getElem?_modify, h]
theorem box_set1 {w : World} {g : Nat} {k n : Int} {f : Nat} {s : ByteArray} {A : Option Addr} {m c : Nat} (h : BoxAt w g k n f s A m c) (n' : Int) : BoxAt (w.setCell ⟨g, 1, none⟩ (.int .i64 n')) g k n' f s A m c := by
  unfold BoxAt at *; simp [World.setCell, Array.getElem?_modify, h]
theorem box_set2 {w : World} {g : Nat} {k n : Int} {f : Nat} {s : ByteArray} {A : Option Addr} {m c : Nat} (h : BoxAt w g k n f s A m c) (f' : Nat) : BoxAt (w.setCell ⟨g, 2, none⟩ (.float .f64 f')) g k n f' s A m c := by
  unfold BoxAt at *; simp [World.setCell, Array.getElem?_modify, h]
theorem box_set3 {w : World} {g : Nat} {k n : Int} {f : Nat} {s : ByteArray} {A : Option Addr} {m c : Nat} (h : BoxAt w g k n f s A m c) (s' : ByteArray) : BoxAt (w.setCell ⟨g, 3, none⟩ (.string s')) g k n f s' A m c := by
  unfold BoxAt at *; simp [World.setCell, Array.getElem?_modify, h]

set_option maxRecDepth 100000 in
set_option maxHeartbeats 4000000 in
theorem rr_bad (left : Nat) (s : St) (x : Value) (w : World) (B : Nat) (hB : B ≤ w.heap.size) (h : RV w B s x) (hq : (rUint s).1.2 = true ∨ 4 < (rUint s).2) :
    Calls Tryz.prog 71 #[x, .int .i64 (left : Nat)] w (RRead (left) s B w) := by
  have HP : Hid (pv left s = none) := Lib.hid (by rw [pv_eq, if_pos hq])
  have HQQ := Lib.hid hq
  clear hq
  obtain ⟨⟨v, rfl, hv, hf⟩, hb, hl⟩ := h
  obtain ⟨l, bad⟩ := s
  simp only at *
  obtain ⟨W0, hW0, hq, hqr, hx, hb0, hz0⟩ := three_boxes w v bad
  have hp0 : RP W0 B v l := RP.below ⟨hv, hf, hb, hl⟩ hb0 hB
  have HU := Lib.hid (rruint_any (l, bad) (.agg #[v, .bool bad]) W0 B (by omega) ⟨⟨v, rfl, hp0.1, hf⟩, hb, hl⟩)
  have HBY := Lib.hid (rUint_byt (s := (l, bad)) hb hl)
  have HQ := Lib.hid hq
  have HQR := Lib.hid hqr
  have HX := Lib.hid hx
  have HB0 := Lib.hid hb0
  have HST := Lib.hid hp0.store
  clear hv hf hb hl hx hq hqr hb0 hp0
  generalize rUint (l, bad) = q at *
  obtain ⟨⟨l1, bad1⟩, k⟩ := q
  simp only at *
  obtain ⟨c0, hc0⟩ : ∃ c0, c0 = w.heap.size := ⟨_, rfl⟩
  rw [← hc0] at HQ HQR HX HB0 hz0 hB
  obtain ⟨a0, a1, af0, af1⟩ := HQ.out.cells
  replace hW0 := Lib.hid hW0
  have HC0 := Lib.hid hc0
  clear hc0
  go_enter Tryz.func71, Tryz.ntmps71
  go_upto_region 1 with fail
  rw [← hW0.out, ← HC0.out]
  go_wp2_with fail
  refine HU.out.mono ?_
  rintro e w1 ⟨y, rfl, ⟨⟨v1, rfl, hv1, hf1⟩, hb1, hl1⟩, hbl⟩
  simp only at hv1 hf1 hb1 hl1
  have hp1 : RP w1 B v1 l1 := ⟨hv1, hf1, hb1, hl1⟩
  have hst1 := hp1.store
  clear hv1 hf1 hb1 hl1 a0 a1 af0 af1
  have hzw := hbl.size
  have hq1 := HQ.out.later hbl (by omega)
  have hqr1 := HQR.out.later hbl (by omega)
  have hx1 := HX.out.later hbl (by omega)
  obtain ⟨b1, hb1⟩ : ∃ b1, b1 = w1.heap.size := ⟨_, rfl⟩
  obtain ⟨W2, hW2⟩ : ∃ W2, W2 = ((w1.setCell ⟨c0, 0, none⟩ v1).setCell ⟨c0, 1, none⟩ (.bool bad1)).alloc (.cells #[.int .i64 0, .int .i64 0, .float .f64 0, .string ⟨#[]⟩, .slice none 0 0] 42) := ⟨_, rfl⟩
  have hs2 : Below c0 w1 ((w1.setCell ⟨c0, 0, none⟩ v1).setCell ⟨c0, 1, none⟩ (.bool bad1)) := below_set2 (below_set2 (Below.refl _ _) (Nat.le_refl _) _ _) (Nat.le_refl _) _ _
  have hzs : ((w1.setCell ⟨c0, 0, none⟩ v1).setCell ⟨c0, 1, none⟩ (.bool bad1)).heap.size = b1 := by rw [hb1]; simp [World.setCell]
  have hb12 : Below c0 w1 W2 := by rw [hW2]; exact hs2.alloc (by omega) _
  have e2 : ∀ b, b < b1 → W2.heap[b]? = ((w1.setCell ⟨c0, 0, none⟩ v1).setCell ⟨c0, 1, none⟩ (.bool bad1)).heap[b]? := fun b hb => by rw [hW2]; exact heap_alloc_old _ _ (by rw [hzs]; exact hb)
  have HQ2 : Hid (QB W2 c0 v1 bad1) := Lib.hid ((e2 c0 (by omega)).trans (qb_set hq1))
  have HQR2 : Hid (QB W2 (c0 + 1) (.slice none 0 0) false) := Lib.hid ((e2 _ (by omega)).trans (qb_far (qb_far hqr1 (by omega) _) (by omega) _))
  have HX2 : Hid (BoxAt W2 (c0 + 1 + 1) 0 0 0 ⟨#[]⟩ none 0 0) := Lib.hid ((e2 _ (by omega)).trans (Vt.box_far (Vt.box_far hx1 (by omega) _) (by omega) _))
  have HV2 : Hid (BoxAt W2 b1 0 0 0 ⟨#[]⟩ none 0 0) := Lib.hid (by rw [hW2, ← hzs]; exact BoxAt.new ..)
  have hz2 : W2.heap.size = b1 + 1 := by rw [hW2, World.size_alloc, hzs]
  have HP2 := Lib.hid (hp1.below hb12 hB)
  have HB2 := Lib.hid (HB0.out.trans ((hbl.mono (by omega)).trans hb12))
  obtain ⟨a0, a1, af0, af1⟩ := hq1.cells
  have hlt3 : c0 + 1 + 1 < b1 := by omega
  clear hs2 hzs hb12 e2 hp1 hqr1 hx1 hbl hzw hq1
  replace hW2 := Lib.hid hW2
  have HB1 := Lib.hid hb1
  go_upto_region 3 with fail
  rw [← hW2.out, ← HB1.out]
  clear a0 a1 af0 af1 hst1 hb1
  have hst := HP2.out.store
  obtain ⟨a0, a1, af0, af1⟩ := HQ2.out.cells
  obtain ⟨q0, q1, qf0, qf1⟩ := HQR2.out.cells
  obtain ⟨r0, r1, r2, r3, r4⟩ := HX2.out.cells
  have f0 := Vt.box_free HX2.out 0
  have f1 := Vt.box_free HX2.out 1
  have f2 := Vt.box_free HX2.out 2
  have f3 := Vt.box_free HX2.out 3
  have f4 := Vt.box_free HX2.out 4
  obtain ⟨d0, d1, d2, d3, d4⟩ := HV2.out.cells
  have m0 := Vt.box_free HV2.out 0
  have m1 := Vt.box_free HV2.out 1
  have m2 := Vt.box_free HV2.out 2
  have m3 := Vt.box_free HV2.out 3
  have m4 := Vt.box_free HV2.out 4
  have hne1 : ¬ (b1 = c0) := by omega
  have hne2 : ¬ (b1 = c0 + 1) := by omega
  have hne3 : ¬ (b1 = c0 + 1 + 1) := by omega
  have hne4 : ¬ (c0 = b1) := by omega
  have hne5 : ¬ (c0 + 1 = b1) := by omega
  have hne6 : ¬ (c0 + 1 + 1 = b1) := by omega
  cases bad1 with
  | true =>
    go_wp2_with fail
    go_region
    go_wp2_with fail
    refine bodyPost_ret (v := .tuple #[.agg #[v1, .bool true], .agg #[.int .i64 0, .int .i64 0, .float .f64 0, .string ⟨#[]⟩, .slice none 0 0], .bool false]) (by simp [results, Tryz.results71, go_sem, q0, q1, r0, r1, r2, r3, r4]) rfl ?_
    exact rread_no (s' := (l1, true)) HP.out (HP2.out.below (C := c0) (below_drew (fin7 (Below.refl _ _) (Nat.le_succ _) _ _ _ _ _ _ _)) hB) (by rw [← HC0.out]; exact below_drew (fin7 HB2.out (Nat.le_succ _) _ _ _ _ _ _ _))
  | false =>
    have hk4 : 4 < k := HQQ.out.resolve_left (by simp)
    have k1 : decide ((k : Int) > 4) = true := decide_eq_true (by omega)
    have k2 : decide ((4 : Int) < (k : Int)) = true := decide_eq_true (by omega)
    have k3 : decide (4 < k) = true := decide_eq_true hk4
    go_wp2_with fail
    go_region
    go_wp2_with fail
    refine bodyPost_ret (v := .tuple #[.agg #[v1, .bool false], .agg #[.int .i64 0, .int .i64 0, .float .f64 0, .string ⟨#[]⟩, .slice none 0 0], .bool false]) (by simp [results, Tryz.results71, go_sem, q0, q1, r0, r1, r2, r3, r4]) rfl ?_
    exact rread_no (s' := (l1, false)) HP.out (HP2.out.below (C := c0) (below_drew (fin7 (Below.refl _ _) (Nat.le_succ _) _ _ _ _ _ _ _)) hB) (by rw [← HC0.out]; exact below_drew (fin7 HB2.out (Nat.le_succ _) _ _ _ _ _ _ _))

set_option maxRecDepth 100000 in
set_option maxHeartbeats 4000000 in
theorem rr_none (left : Nat) (s : St) (x : Value) (w : World) (B : Nat) (hB : B ≤ w.heap.size) (h : RV w B s x) (hq : (rUint s).1.2 = false ∧ (rUint s).2 = 0) :
    Calls Tryz.prog 71 #[x, .int .i64 (left : Nat)] w (RRead (left) s B w) := by
  have HP : Hid (pv (left) s = some ((rUint s).1, .mk 0 0 0 ⟨#[]⟩ [])) := Lib.hid (by rw [pv_eq, if_neg (by rw [hq.1, hq.2]; simp), if_pos hq.2] <;> rfl)
  have HQQ := Lib.hid hq
  clear hq
  obtain ⟨⟨v, rfl, hv, hf⟩, hb, hl⟩ := h
  obtain ⟨l, bad⟩ := s
  simp only at *
  obtain ⟨W0, hW0, hq, hqr, hx, hb0, hz0⟩ := three_boxes w v bad
  have hp0 : RP W0 B v l := RP.below ⟨hv, hf, hb, hl⟩ hb0 hB
  have HU := Lib.hid (rruint_any (l, bad) (.agg #[v, .bool bad]) W0 B (by omega) ⟨⟨v, rfl, hp0.1, hf⟩, hb, hl⟩)
  have HBY := Lib.hid (rUint_byt (s := (l, bad)) hb hl)
  have HQ := Lib.hid hq
  have HQR := Lib.hid hqr
  have HX := Lib.hid hx
  have HB0 := Lib.hid hb0
  have HST := Lib.hid hp0.store
  clear hv hf hb hl hx hq hqr hb0 hp0
  generalize rUint (l, bad) = q at *
  obtain ⟨⟨l1, bad1⟩, k⟩ := q
  simp only at *
  obtain ⟨c0, hc0⟩ : ∃ c0, c0 = w.heap.size := ⟨_, rfl⟩
  rw [← hc0] at HQ HQR HX HB0 hz0 hB
  obtain ⟨a0, a1, af0, af1⟩ := HQ.out.cells
  replace hW0 := Lib.hid hW0
  have HC0 := Lib.hid hc0
  clear hc0
  go_enter Tryz.func71, Tryz.ntmps71
  go_upto_region 1 with fail
  rw [← hW0.out, ← HC0.out]
  go_wp2_with fail
  refine HU.out.mono ?_
  rintro e w1 ⟨y, rfl, ⟨⟨v1, rfl, hv1, hf1⟩, hb1, hl1⟩, hbl⟩
  simp only at hv1 hf1 hb1 hl1
  have hp1 : RP w1 B v1 l1 := ⟨hv1, hf1, hb1, hl1⟩
  have hst1 := hp1.store
  clear hv1 hf1 hb1 hl1 a0 a1 af0 af1
  have hzw := hbl.size
  have hq1 := HQ.out.later hbl (by omega)
  have hqr1 := HQR.out.later hbl (by omega)
  have hx1 := HX.out.later hbl (by omega)
  obtain ⟨b1, hb1⟩ : ∃ b1, b1 = w1.heap.size := ⟨_, rfl⟩
  obtain ⟨W2, hW2⟩ : ∃ W2, W2 = ((w1.setCell ⟨c0, 0, none⟩ v1).setCell ⟨c0, 1, none⟩ (.bool bad1)).alloc (.cells #[.int .i64 0, .int .i64 0, .float .f64 0, .string ⟨#[]⟩, .slice none 0 0] 42) := ⟨_, rfl⟩
  have hs2 : Below c0 w1 ((w1.setCell ⟨c0, 0, none⟩ v1).setCell ⟨c0, 1, none⟩ (.bool bad1)) := below_set2 (below_set2 (Below.refl _ _) (Nat.le_refl _) _ _) (Nat.le_refl _) _ _
  have hzs : ((w1.setCell ⟨c0, 0, none⟩ v1).setCell ⟨c0, 1, none⟩ (.bool bad1)).heap.size = b1 := by rw [hb1]; simp [World.setCell]
  have hb12 : Below c0 w1 W2 := by rw [hW2]; exact hs2.alloc (by omega) _
  have e2 : ∀ b, b < b1 → W2.heap[b]? = ((w1.setCell ⟨c0, 0, none⟩ v1).setCell ⟨c0, 1, none⟩ (.bool bad1)).heap[b]? := fun b hb => by rw [hW2]; exact heap_alloc_old _ _ (by rw [hzs]; exact hb)
  have HQ2 : Hid (QB W2 c0 v1 bad1) := Lib.hid ((e2 c0 (by omega)).trans (qb_set hq1))
  have HQR2 : Hid (QB W2 (c0 + 1) (.slice none 0 0) false) := Lib.hid ((e2 _ (by omega)).trans (qb_far (qb_far hqr1 (by omega) _) (by omega) _))
  have HX2 : Hid (BoxAt W2 (c0 + 1 + 1) 0 0 0 ⟨#[]⟩ none 0 0) := Lib.hid ((e2 _ (by omega)).trans (Vt.box_far (Vt.box_far hx1 (by omega) _) (by omega) _))
  have HV2 : Hid (BoxAt W2 b1 0 0 0 ⟨#[]⟩ none 0 0) := Lib.hid (by rw [hW2, ← hzs]; exact BoxAt.new ..)
  have hz2 : W2.heap.size = b1 + 1 := by rw [hW2, World.size_alloc, hzs]
  have HP2 := Lib.hid (hp1.below hb12 hB)
  have HB2 := Lib.hid (HB0.out.trans ((hbl.mono (by omega)).trans hb12))
  obtain ⟨a0, a1, af0, af1⟩ := hq1.cells
  have hlt3 : c0 + 1 + 1 < b1 := by omega
  clear hs2 hzs hb12 e2 hp1 hqr1 hx1 hbl hzw hq1
  replace hW2 := Lib.hid hW2
  have HB1 := Lib.hid hb1
  go_upto_region 3 with fail
  rw [← hW2.out, ← HB1.out]
  clear a0 a1 af0 af1 hst1 hb1
  have hst := HP2.out.store
  obtain rfl : bad1 = false := HQQ.out.1
  have k1 : decide ((k : Int) > 4) = false := decide_eq_false (by have := HQQ.out.2; omega)
  have k2 : decide ((4 : Int) < (k : Int)) = false := decide_eq_false (by have := HQQ.out.2; omega)
  have k3 : decide (4 < k) = false := decide_eq_false (by have := HQQ.out.2; omega)
  have hwk : IntKind.i64.wrap (k : Int) = (k : Int) := by have := HQQ.out.2; rw [IntKind.wrap_i64]; omega
  have e1 : ((k : Int) == 1) = false := beq_eq_false_iff_ne.2 (by have := HQQ.out.2; omega)
  have e2 : ((k : Int) == 2) = false := beq_eq_false_iff_ne.2 (by have := HQQ.out.2; omega)
  have e3 : ((k : Int) == 3) = false := beq_eq_false_iff_ne.2 (by have := HQQ.out.2; omega)
  have e4 : ((k : Int) == 4) = false := beq_eq_false_iff_ne.2 (by have := HQQ.out.2; omega)
  have HK0 : Hid ((k : Int) = 0) := Lib.hid (by have := HQQ.out.2; omega)
  obtain ⟨W3, hW3⟩ : ∃ W3, W3 = W2.setCell ⟨b1, 0, none⟩ (.int .i64 (k : Int)) := ⟨_, rfl⟩
  have hs3 : Below c0 W2 W3 := by rw [hW3]; exact below_set2 (Below.refl _ _) (by omega) _ _
  have HQ3 : Hid (QB W3 c0 v1 false) := Lib.hid (by rw [hW3]; exact qb_far HQ2.out (by omega) _)
  have HQR3 : Hid (QB W3 (c0 + 1) (.slice none 0 0) false) := Lib.hid (by rw [hW3]; exact qb_far HQR2.out (by omega) _)
  have HX3 : Hid (BoxAt W3 (c0 + 1 + 1) 0 0 0 ⟨#[]⟩ none 0 0) := Lib.hid (by rw [hW3]; exact Vt.box_far HX2.out (by omega) _)
  have HV3 : Hid (BoxAt W3 b1 k 0 0 ⟨#[]⟩ none 0 0) := Lib.hid (by rw [hW3]; exact box_set0 HV2.out _)
  have hz3 : W3.heap.size = b1 + 1 := by rw [hW3]; simpa [World.setCell] using hz2
  have HP3 := Lib.hid (HP2.out.below hs3 hB)
  have HB3 := Lib.hid (HB2.out.trans hs3)
  clear hs3
  obtain ⟨a0, a1, af0, af1⟩ := HQ2.out.cells
  obtain ⟨d0, d1, d2, d3, d4⟩ := HV2.out.cells
  have m0 := Vt.box_free HV2.out 0
  have m1 := Vt.box_free HV2.out 1
  have m2 := Vt.box_free HV2.out 2
  have m3 := Vt.box_free HV2.out 3
  have m4 := Vt.box_free HV2.out 4
  have hz2x := hz2
  clear hz2x
  replace hW3 := Lib.hid hW3
  go_upto_region 6 with fail
  rw [← hW3.out]
  clear a0 a1 af0 af1 d0 d1 d2 d3 d4 m0 m1 m2 m3 m4 hst k1 k2 k3 hz2
  have hst := HP3.out.store
  obtain ⟨a0, a1, af0, af1⟩ := HQ3.out.cells
  clear a0 a1 af0 af1 hst
  obtain ⟨W4, hW4⟩ : ∃ W4, W4 = W3 := ⟨_, rfl⟩
  rw [← hW4] at HQ3 HQR3 HX3 HV3 HP3 HB3 ⊢
  have HQ4 := HQ3; have HQR4 := HQR3; have HX4 := HX3; have HV4 := HV3; have HP4 := HP3; have HB4 := HB3
  clear HQ3 HQR3 HX3 HV3 HP3 HB3 hz3
  replace hW4 := Lib.hid hW4
  obtain ⟨a0, a1, af0, af1⟩ := HQ4.out.cells
  obtain ⟨q0, q1, qf0, qf1⟩ := HQR4.out.cells
  obtain ⟨r0, r1, r2, r3, r4⟩ := HX4.out.cells
  have f0 := Vt.box_free HX4.out 0
  have f1 := Vt.box_free HX4.out 1
  have f2 := Vt.box_free HX4.out 2
  have f3 := Vt.box_free HX4.out 3
  have f4 := Vt.box_free HX4.out 4
  obtain ⟨d0, d1, d2, d3, d4⟩ := HV4.out.cells
  have m0 := Vt.box_free HV4.out 0
  have m1 := Vt.box_free HV4.out 1
  have m2 := Vt.box_free HV4.out 2
  have m3 := Vt.box_free HV4.out 3
  have m4 := Vt.box_free HV4.out 4
  have hne1 : ¬ (b1 = c0) := by omega
  have hne2 : ¬ (b1 = c0 + 1) := by omega
  have hne3 : ¬ (b1 = c0 + 1 + 1) := by omega
  have hne4 : ¬ (c0 = b1) := by omega
  have hne5 : ¬ (c0 + 1 = b1) := by omega
  have hne6 : ¬ (c0 + 1 + 1 = b1) := by omega
  have hlt4 : b1 < W4.heap.size := HV4.out.lt
  have hst4 := HP4.out.store
  have HY : pv left (l, bad) = some ((l1, false), .mk 0 0 0 ⟨#[]⟩ []) := by rw [HP.out]
  go_wp2_with fail
  go_region
  go_wp2_with fail
  refine bodyPost_ret (v := .tuple #[.agg #[v1, .bool false], .agg #[.int .i64 (k : Int), .int .i64 0, .float .f64 0, .string ⟨#[]⟩, .slice none 0 0], .bool true]) (by simp [results, Tryz.results71, go_sem, q0, q1, r0, r1, r2, r3, r4]) rfl ?_
  exact rread_yes (s' := (l1, false)) HY (HP4.out.below (C := c0) (below_drew (fin7 (Below.refl _ _) (Nat.le_succ _) _ _ _ _ _ _ _)) hB) (by rw [HK0.out]; exact rep_leaf ⟨by decide, by decide, by decide, by decide, by decide, by decide, by decide⟩) (by rw [← HC0.out]; exact below_drew (fin7 HB4.out (Nat.le_succ _) _ _ _ _ _ _ _))

set_option maxRecDepth 100000 in
set_option maxHeartbeats 4000000 in
theorem rr_int (left : Nat) (s : St) (x : Value) (w : World) (B : Nat) (hB : B ≤ w.heap.size) (h : RV w B s x) (hq : (rUint s).1.2 = false ∧ (rUint s).2 = 1) :
    Calls Tryz.prog 71 #[x, .int .i64 (left : Nat)] w (RRead (left) s B w) := by
  have HP : Hid (pv (left) s = if (rUint (rUint s).1).1.2 = true then none else some ((rUint (rUint s).1).1, .mk 1 (unzz (rUint (rUint s).1).2) 0 ⟨#[]⟩ [])) := Lib.hid (by rw [pv_eq, if_neg (by rw [hq.1, hq.2]; simp), if_neg (by rw [hq.2]; decide), if_pos hq.2] <;> rfl)
  have HQQ := Lib.hid hq
  clear hq
  obtain ⟨⟨v, rfl, hv, hf⟩, hb, hl⟩ := h
  obtain ⟨l, bad⟩ := s
  simp only at *
  obtain ⟨W0, hW0, hq, hqr, hx, hb0, hz0⟩ := three_boxes w v bad
  have hp0 : RP W0 B v l := RP.below ⟨hv, hf, hb, hl⟩ hb0 hB
  have HU := Lib.hid (rruint_any (l, bad) (.agg #[v, .bool bad]) W0 B (by omega) ⟨⟨v, rfl, hp0.1, hf⟩, hb, hl⟩)
  have HBY := Lib.hid (rUint_byt (s := (l, bad)) hb hl)
  have HQ := Lib.hid hq
  have HQR := Lib.hid hqr
  have HX := Lib.hid hx
  have HB0 := Lib.hid hb0
  have HST := Lib.hid hp0.store
  clear hv hf hb hl hx hq hqr hb0 hp0
  generalize rUint (l, bad) = q at *
  obtain ⟨⟨l1, bad1⟩, k⟩ := q
  simp only at *
  have HZ := Lib.hid (zz_unzz (rUint (l1, bad1)).2 (rUint_val HBY.out.1))
  have HI := Lib.hid fun (W : World) (x : Value) (hW : B ≤ W.heap.size) (hx : RV W B (l1, bad1) x) => rrint_any (l1, bad1) x W B hW hx
  generalize rUint (l1, bad1) = z at *
  obtain ⟨⟨l4, bad4⟩, zx⟩ := z
  simp only at *
  generalize unzz zx = vn at *
  obtain ⟨c0, hc0⟩ : ∃ c0, c0 = w.heap.size := ⟨_, rfl⟩
  rw [← hc0] at HQ HQR HX HB0 hz0 hB
  obtain ⟨a0, a1, af0, af1⟩ := HQ.out.cells
  replace hW0 := Lib.hid hW0
  have HC0 := Lib.hid hc0
  clear hc0
  go_enter Tryz.func71, Tryz.ntmps71
  go_upto_region 1 with fail
  rw [← hW0.out, ← HC0.out]
  go_wp2_with fail
  refine HU.out.mono ?_
  rintro e w1 ⟨y, rfl, ⟨⟨v1, rfl, hv1, hf1⟩, hb1, hl1⟩, hbl⟩
  simp only at hv1 hf1 hb1 hl1
  have hp1 : RP w1 B v1 l1 := ⟨hv1, hf1, hb1, hl1⟩
  have hst1 := hp1.store
  clear hv1 hf1 hb1 hl1 a0 a1 af0 af1
  have hzw := hbl.size
  have hq1 := HQ.out.later hbl (by omega)
  have hqr1 := HQR.out.later hbl (by omega)
  have hx1 := HX.out.later hbl (by omega)
  obtain ⟨b1, hb1⟩ : ∃ b1, b1 = w1.heap.size := ⟨_, rfl⟩
  obtain ⟨W2, hW2⟩ : ∃ W2, W2 = ((w1.setCell ⟨c0, 0, none⟩ v1).setCell ⟨c0, 1, none⟩ (.bool bad1)).alloc (.cells #[.int .i64 0, .int .i64 0, .float .f64 0, .string ⟨#[]⟩, .slice none 0 0] 42) := ⟨_, rfl⟩
  have hs2 : Below c0 w1 ((w1.setCell ⟨c0, 0, none⟩ v1).setCell ⟨c0, 1, none⟩ (.bool bad1)) := below_set2 (below_set2 (Below.refl _ _) (Nat.le_refl _) _ _) (Nat.le_refl _) _ _
  have hzs : ((w1.setCell ⟨c0, 0, none⟩ v1).setCell ⟨c0, 1, none⟩ (.bool bad1)).heap.size = b1 := by rw [hb1]; simp [World.setCell]
  have hb12 : Below c0 w1 W2 := by rw [hW2]; exact hs2.alloc (by omega) _
  have e2 : ∀ b, b < b1 → W2.heap[b]? = ((w1.setCell ⟨c0, 0, none⟩ v1).setCell ⟨c0, 1, none⟩ (.bool bad1)).heap[b]? := fun b hb => by rw [hW2]; exact heap_alloc_old _ _ (by rw [hzs]; exact hb)
  have HQ2 : Hid (QB W2 c0 v1 bad1) := Lib.hid ((e2 c0 (by omega)).trans (qb_set hq1))
  have HQR2 : Hid (QB W2 (c0 + 1) (.slice none 0 0) false) := Lib.hid ((e2 _ (by omega)).trans (qb_far (qb_far hqr1 (by omega) _) (by omega) _))
  have HX2 : Hid (BoxAt W2 (c0 + 1 + 1) 0 0 0 ⟨#[]⟩ none 0 0) := Lib.hid ((e2 _ (by omega)).trans (Vt.box_far (Vt.box_far hx1 (by omega) _) (by omega) _))
  have HV2 : Hid (BoxAt W2 b1 0 0 0 ⟨#[]⟩ none 0 0) := Lib.hid (by rw [hW2, ← hzs]; exact BoxAt.new ..)
  have hz2 : W2.heap.size = b1 + 1 := by rw [hW2, World.size_alloc, hzs]
  have HP2 := Lib.hid (hp1.below hb12 hB)
  have HB2 := Lib.hid (HB0.out.trans ((hbl.mono (by omega)).trans hb12))
  obtain ⟨a0, a1, af0, af1⟩ := hq1.cells
  have hlt3 : c0 + 1 + 1 < b1 := by omega
  clear hs2 hzs hb12 e2 hp1 hqr1 hx1 hbl hzw hq1
  replace hW2 := Lib.hid hW2
  have HB1 := Lib.hid hb1
  go_upto_region 3 with fail
  rw [← hW2.out, ← HB1.out]
  clear a0 a1 af0 af1 hst1 hb1
  have hst := HP2.out.store
  obtain rfl : bad1 = false := HQQ.out.1
  have k1 : decide ((k : Int) > 4) = false := decide_eq_false (by have := HQQ.out.2; omega)
  have k2 : decide ((4 : Int) < (k : Int)) = false := decide_eq_false (by have := HQQ.out.2; omega)
  have k3 : decide (4 < k) = false := decide_eq_false (by have := HQQ.out.2; omega)
  have hwk : IntKind.i64.wrap (k : Int) = (k : Int) := by have := HQQ.out.2; rw [IntKind.wrap_i64]; omega
  have e1 : ((k : Int) == 1) = true := beq_iff_eq.2 (by have := HQQ.out.2; omega)
  have e2 : ((k : Int) == 2) = false := beq_eq_false_iff_ne.2 (by have := HQQ.out.2; omega)
  have e3 : ((k : Int) == 3) = false := beq_eq_false_iff_ne.2 (by have := HQQ.out.2; omega)
  have e4 : ((k : Int) == 4) = false := beq_eq_false_iff_ne.2 (by have := HQQ.out.2; omega)
  have HK0 : Hid ((k : Int) = 1) := Lib.hid (by have := HQQ.out.2; omega)
  obtain ⟨W3, hW3⟩ : ∃ W3, W3 = W2.setCell ⟨b1, 0, none⟩ (.int .i64 (k : Int)) := ⟨_, rfl⟩
  have hs3 : Below c0 W2 W3 := by rw [hW3]; exact below_set2 (Below.refl _ _) (by omega) _ _
  have HQ3 : Hid (QB W3 c0 v1 false) := Lib.hid (by rw [hW3]; exact qb_far HQ2.out (by omega) _)
  have HQR3 : Hid (QB W3 (c0 + 1) (.slice none 0 0) false) := Lib.hid (by rw [hW3]; exact qb_far HQR2.out (by omega) _)
  have HX3 : Hid (BoxAt W3 (c0 + 1 + 1) 0 0 0 ⟨#[]⟩ none 0 0) := Lib.hid (by rw [hW3]; exact Vt.box_far HX2.out (by omega) _)
  have HV3 : Hid (BoxAt W3 b1 k 0 0 ⟨#[]⟩ none 0 0) := Lib.hid (by rw [hW3]; exact box_set0 HV2.out _)
  have hz3 : W3.heap.size = b1 + 1 := by rw [hW3]; simpa [World.setCell] using hz2
  have HP3 := Lib.hid (HP2.out.below hs3 hB)
  have HB3 := Lib.hid (HB2.out.trans hs3)
  clear hs3
  obtain ⟨a0, a1, af0, af1⟩ := HQ2.out.cells
  obtain ⟨d0, d1, d2, d3, d4⟩ := HV2.out.cells
  have m0 := Vt.box_free HV2.out 0
  have m1 := Vt.box_free HV2.out 1
  have m2 := Vt.box_free HV2.out 2
  have m3 := Vt.box_free HV2.out 3
  have m4 := Vt.box_free HV2.out 4
  have hz2x := hz2
  clear hz2x
  replace hW3 := Lib.hid hW3
  go_upto_region 6 with fail
  rw [← hW3.out]
  clear a0 a1 af0 af1 d0 d1 d2 d3 d4 m0 m1 m2 m3 m4 hst k1 k2 k3 hz2
  have hst := HP3.out.store
  obtain ⟨a0, a1, af0, af1⟩ := HQ3.out.cells
  go_wp2_with fail
  refine (HI.out W3 _ (by omega) ⟨⟨v1, rfl, HP3.out.1, HP3.out.2.1⟩, HP3.out.2.2⟩).mono ?_
  rintro e w4 ⟨y, rfl, ⟨⟨v4, rfl, hv4, hf4⟩, hb4, hl4⟩, hbl4⟩
  simp only at hv4 hf4 hb4 hl4
  have hp4 : RP w4 B v4 l4 := ⟨hv4, hf4, hb4, hl4⟩
  have hst4w := hp4.store
  have hz4w := hbl4.size
  have hq4 := HQ3.out.later hbl4 (by omega)
  have hqr4 := HQR3.out.later hbl4 (by omega)
  have hx4 := HX3.out.later hbl4 (by omega)
  have hv4b := HV3.out.later hbl4 (by omega)
  have hbw4 := HB3.out.trans (hbl4.mono (by omega))
  clear hv4 hf4 hb4 hl4 a0 a1 af0 af1 hst
  obtain ⟨a0, a1, af0, af1⟩ := hq4.cells
  obtain ⟨W4, hW4⟩ : ∃ W4, W4 = ((w4.setCell ⟨c0, 0, none⟩ v4).setCell ⟨c0, 1, none⟩ (.bool bad4)).setCell ⟨b1, 1, none⟩ (.int .i64 vn) := ⟨_, rfl⟩
  have hs4 : Below c0 w4 W4 := by rw [hW4]; exact below_set2 (below_set2 (below_set2 (Below.refl _ _) (Nat.le_refl _) _ _) (Nat.le_refl _) _ _) (by omega) _ _
  have HQ4 : Hid (QB W4 c0 v4 bad4) := Lib.hid (by rw [hW4]; exact qb_far (qb_set hq4) (by omega) _)
  have HQR4 : Hid (QB W4 (c0 + 1) (.slice none 0 0) false) := Lib.hid (by rw [hW4]; exact qb_far (qb_far (qb_far hqr4 (by omega) _) (by omega) _) (by omega) _)
  have HX4 : Hid (BoxAt W4 (c0 + 1 + 1) 0 0 0 ⟨#[]⟩ none 0 0) := Lib.hid (by rw [hW4]; exact Vt.box_far (Vt.box_far (Vt.box_far hx4 (by omega) _) (by omega) _) (by omega) _)
  have HV4 : Hid (BoxAt W4 b1 k vn 0 ⟨#[]⟩ none 0 0) := Lib.hid (by rw [hW4]; exact box_set1 (Vt.box_far (Vt.box_far hv4b (by omega) _) (by omega) _) _)
  have HP4 := Lib.hid (hp4.below hs4 hB)
  have HB4 := Lib.hid (hbw4.trans hs4)
  obtain ⟨d0, d1, d2, d3, d4⟩ := hv4b.cells
  have m0 := Vt.box_free hv4b 0
  have m1 := Vt.box_free hv4b 1
  have m2 := Vt.box_free hv4b 2
  have m3 := Vt.box_free hv4b 3
  have m4 := Vt.box_free hv4b 4
  have hltb : b1 < w4.heap.size := hv4b.lt
  have hne1 : ¬ (b1 = c0) := by omega
  have hne4 : ¬ (c0 = b1) := by omega
  clear hs4 hp4 hq4 hqr4 hx4 hv4b hbw4 hbl4
  replace hW4 := Lib.hid hW4
  go_upto_region 36 with fail
  rw [← hW4.out]
  clear a0 a1 af0 af1 d0 d1 d2 d3 d4 m0 m1 m2 m3 m4 hst4w hltb hne1 hne4
  obtain ⟨a0, a1, af0, af1⟩ := HQ4.out.cells
  obtain ⟨q0, q1, qf0, qf1⟩ := HQR4.out.cells
  obtain ⟨r0, r1, r2, r3, r4⟩ := HX4.out.cells
  have f0 := Vt.box_free HX4.out 0
  have f1 := Vt.box_free HX4.out 1
  have f2 := Vt.box_free HX4.out 2
  have f3 := Vt.box_free HX4.out 3
  have f4 := Vt.box_free HX4.out 4
  obtain ⟨d0, d1, d2, d3, d4⟩ := HV4.out.cells
  have m0 := Vt.box_free HV4.out 0
  have m1 := Vt.box_free HV4.out 1
  have m2 := Vt.box_free HV4.out 2
  have m3 := Vt.box_free HV4.out 3
  have m4 := Vt.box_free HV4.out 4
  have hne1 : ¬ (b1 = c0) := by omega
  have hne2 : ¬ (b1 = c0 + 1) := by omega
  have hne3 : ¬ (b1 = c0 + 1 + 1) := by omega
  have hne4 : ¬ (c0 = b1) := by omega
  have hne5 : ¬ (c0 + 1 = b1) := by omega
  have hne6 : ¬ (c0 + 1 + 1 = b1) := by omega
  have hlt4 : b1 < W4.heap.size := HV4.out.lt
  have hst4 := HP4.out.store
  cases bad4 with
  | true =>
    have HN : pv (left) (l, bad) = none := by rw [HP.out]; rfl
    go_wp2_with fail
    refine bodyPost_ret (v := .tuple #[.agg #[v4, .bool true], .agg #[.int .i64 0, .int .i64 0, .float .f64 0, .string ⟨#[]⟩, .slice none 0 0], .bool false]) (by simp [results, Tryz.results71, go_sem, q0, q1, r0, r1, r2, r3, r4]) rfl ?_
    exact rread_no (s' := (l4, true)) HN (HP4.out.below (C := c0) (fin7 (Below.refl _ _) (Nat.le_succ _) _ _ _ _ _ _ _) hB) (by rw [← HC0.out]; exact fin7 HB4.out (Nat.le_succ _) _ _ _ _ _ _ _)
  | false =>
    have HY : pv (left) (l, bad) = some ((l4, false), .mk 1 vn 0 ⟨#[]⟩ []) := by rw [HP.out]; rfl
    go_wp2_with fail
    go_region
    go_wp2_with fail
    refine bodyPost_ret (v := .tuple #[.agg #[v4, .bool false], .agg #[.int .i64 (k : Int), .int .i64 vn, .float .f64 0, .string ⟨#[]⟩, .slice none 0 0], .bool true]) (by simp [results, Tryz.results71, go_sem, q0, q1, r0, r1, r2, r3, r4]) rfl ?_
    exact rread_yes (s' := (l4, false)) HY (HP4.out.below (C := c0) (below_drew (fin7 (Below.refl _ _) (Nat.le_succ _) _ _ _ _ _ _ _)) hB) (by rw [HK0.out]; exact rep_leaf ⟨by decide, by decide, HZ.out.2.1, HZ.out.2.2, by decide, by decide, by decide⟩) (by rw [← HC0.out]; exact below_drew (fin7 HB4.out (Nat.le_succ _) _ _ _ _ _ _ _))

end Rd
end Go.Proofs.YtcbddebmmaflgaaGreat
