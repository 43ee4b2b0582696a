/- BatchParses of what came in. -/
import Derived.Test.YtcbddebmmaflgaaGreatMpbe
import Derived.Test.YtcbddebmmaflgaaGreatMpar
import Derived.Test.YtcbddebmmaflgaaGreatMpao
namespace Go.Proofs.YtcbddebmmaflgaaGreat
open Go.RowKit
set_option linter.unusedVariables false
set_option linter.unusedSimpArgs false
namespace Rd
open _root_.Go.Proofs.YtcbddebmmaflgaaGreat.Nm (ret_int ret_bool)
open Vt (VT Rep below_drew)
open Ev (EV EBox ERep fieldsOf FieldsOk zeroT evCells vCells take_drop cons_drop)
open Cm (OnlyAt evSame evsSame EvsIn)
open Cn (BRd BB bvalid EvBytes)
open Vf (eform)

theorem forms_mem {es : List EV} {e : EV} (h : e ∈ es) : (eform e).length ≤ ((es.map eform).flatten).length := by
  induction es with
  | nil => simp at h
  | cons x l ih =>
    simp only [List.map_cons, List.flatten_cons, List.length_append]
    rcases List.mem_cons.1 h with rfl | h
    · omega
    · have := ih h; omega
theorem eform_few {e : EV} (hv : e.valid = true) (hl : (eform e).length ≤ 900) : e.v.few = true := by
  have V := Vf.ve_of hv
  by_cases h5 : Vf.hasF e 5 = true
  · refine few_of V.v1 ?_
    unfold Vf.eform at hl
    rw [Vf.sel6, h5] at hl
    simp only [List.length_append] at hl
    simp at hl
    omega
  · have := V.v0 (by simpa using h5)
    have h1 := Pf.form_same _ _ this
    refine few_of V.v1 ?_
    rw [h1]; unfold Ev.zeroT; rw [Pf.form_mk]; decide
theorem ev_bytes {es : List EV} (g : ∀ e ∈ es, GoodE e) (hl : ((es.map eform).flatten).length ≤ 900) : EvBytes es (es.map eform) := by
  refine ⟨by simp, fun i h h' lo hi vk vn vf vs A m c w hf hv hz => ?_⟩
  have hm := List.getElem_mem h
  rw [List.getElem_map]
  exact Vf.ebytes_any es[i] (g _ hm).1 hf (eform_few (g _ hm).1 (Nat.le_trans (forms_mem hm) hl)) lo hi vk vn vf vs A m c w hv hz
theorem bform_parts (f : ByteArray) (a n : Nat) (ls : List (List Nat)) : ls.flatten.length ≤ (Cn.bform f a n ls).length ∧ f.size ≤ (Cn.bform f a n ls).length := by
  unfold Cn.bform
  simp only [List.length_append, Bt.sb_len]
  omega
theorem evs_nil (w : World) : EvsIn w none 0 [] := ⟨by simp, by simp, fun h => absurd h (by simp)⟩

set_option maxRecDepth 100000 in
theorem bparses_long (A : Option Addr) (len cap : Nat) (w : World) (h : 600 < len) :
    Calls Tryz.prog 3 #[.slice A len cap] w fun r w' => r = .returned (.bool true) ∧ Below w.heap.size w w' := by
  have HA := Lib.hid fun W => Cn.balive_any W
  have k1 : decide ((600 : Int) < (len : Int)) = true := decide_eq_true (by omega)
  have k2 : decide ((len : Int) > 600) = true := decide_eq_true (by omega)
  clear h
  go_enter Tryz.func3, Tryz.ntmps3
  go_wp2_with fail
  refine (HA.out _).mono ?_
  rintro e w2 ⟨rfl, hb⟩
  have HB := Lib.hid hb
  clear hb
  go_wp2_with fail
  go_ret
  exact ⟨rfl, HB.out⟩
theorem flat_len (es : List EV) : es.length ≤ ((es.map eform).flatten).length := by
  induction es with
  | nil => simp
  | cons x l ih =>
    simp only [List.map_cons, List.flatten_cons, List.length_append, List.length_cons]
    have := eform_pos x
    omega
set_option maxRecDepth 100000 in
set_option maxHeartbeats 8000000 in
theorem bparses_walk (v : Value) (l : List Nat) (hl : l.length ≤ 600) (hb : Byt l) (w : World) (h : BRd w v l) :
    Calls Tryz.prog 3 #[v] w fun r w' => r = .returned (.bool true) ∧ Below w.heap.size w w' := by
  obtain ⟨A, cap, hvf⟩ := h.form
  subst hvf
  have HA := Lib.hid fun W => Cn.balive_any W
  have HP1 := Lib.hid (bparse_any _ l (by omega) hb w h)
  have HV := Lib.hid h
  have HBY : Hid (Byt l) := Lib.hid hb
  have k1 : decide ((600 : Int) < (l.length : Int)) = false := decide_eq_false (by omega)
  have k2 : decide ((l.length : Int) > 600) = false := decide_eq_false (by omega)
  clear h hb
  go_enter Tryz.func3, Tryz.ntmps3
  go_wp2_with fail
  refine HP1.out.mono ?_
  intro e w1 hbp
  unfold BParse at hbp
  cases hp : pb (l, false) with
  | none =>
    rw [hp] at hbp
    obtain ⟨rfl, hb1⟩ := hbp
    have hz1 := hb1.size
    obtain ⟨b3, hb3⟩ : ∃ b3, b3 = w1.heap.size := ⟨_, rfl⟩
    obtain ⟨W3, hW3⟩ : ∃ W3, W3 = w1.alloc (.cells #[.string ⟨#[]⟩, .int .u64 0, .slice none 0 0] 27) := ⟨_, rfl⟩
    have hb13 : Below w1.heap.size w1 W3 := by rw [hW3]; exact (Below.refl _ _).alloc (Nat.le_refl _) _
    have hB3 : W3.heap[b3]? = some (.cells #[.string ⟨#[]⟩, .int .u64 0, .slice none 0 0] 27 (0, 0)) := by rw [hW3, hb3]; exact heap_alloc_new _ _
    have hz3 : W3.heap.size = b3 + 1 := by rw [hW3, hb3]; simp
    have hbw3 : Below w.heap.size w W3 := hb1.trans (hb13.mono hz1)
    have HP2 := Lib.hid (rbparse_any (.slice A l.length cap) l (by omega) HBY.out W3 (HV.out.later hbw3))
    have H3 := Lib.hid hB3; have HBW3 := Lib.hid hbw3; have HP := Lib.hid hp
    clear hb1 hb13 hB3 hbw3 hp
    replace hW3 := Lib.hid hW3
    have HB3 := Lib.hid hb3
    clear hb3
    go_upto_region 4 with fail
    rw [← hW3.out, ← HB3.out]
    go_wp2_with fail
    refine HP2.out.mono ?_
    intro e w4 hbq
    unfold BParse at hbq
    rw [HP.out] at hbq
    obtain ⟨rfl, hb4⟩ := hbq
    have hz4 := hb4.size
    obtain ⟨b5, hb5⟩ : ∃ b5, b5 = w4.heap.size := ⟨_, rfl⟩
    obtain ⟨W5, hW5⟩ : ∃ W5, W5 = w4.alloc (.cells #[.string ⟨#[]⟩, .int .u64 0, .slice none 0 0] 27) := ⟨_, rfl⟩
    have hb45 : Below w4.heap.size w4 W5 := by rw [hW5]; exact (Below.refl _ _).alloc (Nat.le_refl _) _
    have hB5 : W5.heap[b5]? = some (.cells #[.string ⟨#[]⟩, .int .u64 0, .slice none 0 0] 27 (0, 0)) := by rw [hW5, hb5]; exact heap_alloc_new _ _
    have hz5 : W5.heap.size = b5 + 1 := by rw [hW5, hb5]; simp
    have hb35 : Below W3.heap.size W3 W5 := hb4.trans (hb45.mono hz4)
    have hB35 : W5.heap[b3]? = some (.cells #[.string ⟨#[]⟩, .int .u64 0, .slice none 0 0] 27 (0, 0)) := (hb35.block b3 (by omega)).trans H3.out
    have KS : Hid (∀ W' : World, Below W5.heap.size W5 W' → (W'.cell? ⟨b3, 0, none⟩ = some (.string ⟨#[]⟩) ∧ W'.cell? ⟨b3, 1, none⟩ = some (.int .u64 0) ∧ W'.cell? ⟨b3, 2, none⟩ = some (.slice none 0 0) ∧ W'.cell? ⟨b5, 0, none⟩ = some (.string ⟨#[]⟩) ∧ W'.cell? ⟨b5, 1, none⟩ = some (.int .u64 0) ∧ W'.cell? ⟨b5, 2, none⟩ = some (.slice none 0 0))) := Lib.hid fun W' hW => by
      have e3 := (hW.block b3 (by omega)).trans hB35
      have e5 := (hW.block b5 (by omega)).trans hB5
      simp [World.cell?, e3, e5]
    have HBW5 := Lib.hid (HBW3.out.trans (hb35.mono HBW3.out.size))
    have HBB := Lib.hid (Cn.bbytes_no [] ⟨#[]⟩ (by decide) 0 (by decide) none 0 W5 (evs_nil W5) (by unfold bvalid; simp))
    have HSM : Hid (∀ W' : World, Below W5.heap.size W5 W' → Calls Tryz.prog 9 #[.agg #[.string ⟨#[]⟩, .int .u64 0, .slice none 0 0], .agg #[.string ⟨#[]⟩, .int .u64 0, .slice none 0 0]] W' fun r w' => r = .returned (.bool true) ∧ Below W'.heap.size W' w') := Lib.hid fun W' hW => by
      have := Cn.rsameb_len [] [] rfl ⟨#[]⟩ 0 none none 0 0 W' (evs_nil W') (evs_nil W')
      rw [Cm.evsSame_refl] at this
      exact this
    obtain ⟨c0, c1, c2, c3, c4, c5⟩ := KS.out W5 (Below.refl _ _)
    clear hb4 hb45 hB5 hb35 hB35
    replace hW5 := Lib.hid hW5
    have HB5 := Lib.hid hb5
    clear hb5
    go_upto_region 5 with fail
    rw [← hW5.out, ← HB5.out]
    go_wp2_with fail
    refine HBB.out.mono ?_
    rintro e w6 ⟨rfl, hb6⟩
    have HB6 : Hid (Below W5.heap.size W5 w6) := Lib.hid hb6
    clear hb6 c0 c1 c2 c3 c4 c5
    go_wp2_with fail
    refine (HA.out _).mono ?_
    rintro x8 w8 ⟨rfl, hb8⟩
    have HC8 : Hid (Below w6.heap.size w6 w8) := Lib.hid hb8
    clear hb8
    have HB8 : Hid (Below W5.heap.size W5 w8) := Lib.hid (HB6.out.trans (HC8.out.mono HB6.out.size))
    obtain ⟨c0, c1, c2, c3, c4, c5⟩ := KS.out w8 HB8.out
    go_wp2_with fail
    refine (HSM.out _ HB8.out).mono ?_
    rintro x9 w9 ⟨rfl, hb9⟩
    have HC9 : Hid (Below w6.heap.size w6 w9) := Lib.hid (HC8.out.trans (hb9.mono HC8.out.size))
    have HB9 : Hid (Below W5.heap.size W5 w9) := Lib.hid (HB6.out.trans (HC9.out.mono HB6.out.size))
    clear hb9 c0 c1 c2 c3 c4 c5
    go_wp2_with fail
    go_ret
    exact ⟨rfl, HBW5.out.trans (HB9.out.mono HBW5.out.size)⟩
  | some q =>
    obtain ⟨f, a, es⟩ := q
    rw [hp] at hbp
    obtain ⟨A1, cap1, rfl, he1, hb1⟩ := hbp
    obtain ⟨hform, hval, ha64, hn64, hgood⟩ := pb_form l f a es HBY.out (by omega) hp
    have hz1 := hb1.size
    obtain ⟨b3, hb3⟩ : ∃ b3, b3 = w1.heap.size := ⟨_, rfl⟩
    obtain ⟨W3, hW3⟩ : ∃ W3, W3 = w1.alloc (.cells #[.string f, .int .u64 (a : Nat), .slice A1 es.length cap1] 27) := ⟨_, rfl⟩
    have hb13 : Below w1.heap.size w1 W3 := by rw [hW3]; exact (Below.refl _ _).alloc (Nat.le_refl _) _
    have hB3 : W3.heap[b3]? = some (.cells #[.string f, .int .u64 (a : Nat), .slice A1 es.length cap1] 27 (0, 0)) := by rw [hW3, hb3]; exact heap_alloc_new _ _
    have hz3 : W3.heap.size = b3 + 1 := by rw [hW3, hb3]; simp
    have hbw3 : Below w.heap.size w W3 := hb1.trans (hb13.mono hz1)
    have HP2 := Lib.hid (rbparse_any (.slice A l.length cap) l (by omega) HBY.out W3 (HV.out.later hbw3))
    have HE1 := Lib.hid (he1.later hb13)
    have HFORM := Lib.hid hform; have HVAL := Lib.hid hval; have HA64 := Lib.hid ha64; have HGOOD := Lib.hid hgood
    have HPT := Lib.hid (bform_parts f a es.length (es.map eform))
    have H3 := Lib.hid hB3; have HBW3 := Lib.hid hbw3; have HP := Lib.hid hp
    clear hb1 hb13 hB3 hbw3 hp he1 hform hval ha64 hgood
    replace hW3 := Lib.hid hW3
    have HB3 := Lib.hid hb3
    clear hb3
    go_upto_region 4 with fail
    rw [← hW3.out, ← HB3.out]
    go_wp2_with fail
    refine HP2.out.mono ?_
    intro e w4 hbq
    unfold BParse at hbq
    rw [HP.out] at hbq
    obtain ⟨A2, cap2, rfl, he2, hb4⟩ := hbq
    have hz4 := hb4.size
    obtain ⟨b5, hb5⟩ : ∃ b5, b5 = w4.heap.size := ⟨_, rfl⟩
    obtain ⟨W5, hW5⟩ : ∃ W5, W5 = w4.alloc (.cells #[.string f, .int .u64 (a : Nat), .slice A2 es.length cap2] 27) := ⟨_, rfl⟩
    have hb45 : Below w4.heap.size w4 W5 := by rw [hW5]; exact (Below.refl _ _).alloc (Nat.le_refl _) _
    have hB5 : W5.heap[b5]? = some (.cells #[.string f, .int .u64 (a : Nat), .slice A2 es.length cap2] 27 (0, 0)) := by rw [hW5, hb5]; exact heap_alloc_new _ _
    have hz5 : W5.heap.size = b5 + 1 := by rw [hW5, hb5]; simp
    have hb35 : Below W3.heap.size W3 W5 := hb4.trans (hb45.mono hz4)
    have hB35 : W5.heap[b3]? = some (.cells #[.string f, .int .u64 (a : Nat), .slice A1 es.length cap1] 27 (0, 0)) := (hb35.block b3 (by omega)).trans H3.out
    have KS : Hid (∀ W' : World, Below W5.heap.size W5 W' → (W'.cell? ⟨b3, 0, none⟩ = some (.string f) ∧ W'.cell? ⟨b3, 1, none⟩ = some (.int .u64 (a : Nat)) ∧ W'.cell? ⟨b3, 2, none⟩ = some (.slice A1 es.length cap1) ∧ W'.cell? ⟨b5, 0, none⟩ = some (.string f) ∧ W'.cell? ⟨b5, 1, none⟩ = some (.int .u64 (a : Nat)) ∧ W'.cell? ⟨b5, 2, none⟩ = some (.slice A2 es.length cap2))) := Lib.hid fun W' hW => by
      have e3 := (hW.block b3 (by omega)).trans hB35
      have e5 := (hW.block b5 (by omega)).trans hB5
      simp [World.cell?, e3, e5]
    have HBW5 := Lib.hid (HBW3.out.trans (hb35.mono HBW3.out.size))
    have HE15 := Lib.hid (HE1.out.later hb35)
    have HE25 := Lib.hid (he2.later hb45)
    have HBB := Lib.hid (Cn.bbytes_any es (by have := HE1.out.le; have := HE1.out.cap_le; have := HPT.out.1; have := flat_len es; have := HFORM.out; rw [← HFORM.out] at *; omega) (es.map eform) (ev_bytes HGOOD.out (by have := HPT.out.1; rw [← HFORM.out] at this; omega)) (by have := HPT.out.1; rw [← HFORM.out] at this; omega) f a HA64.out A1 cap1 W5 HE15.out HVAL.out)
    rw [← HFORM.out] at HBB
    have HSM : Hid (∀ W' : World, Below W5.heap.size W5 W' → Calls Tryz.prog 9 #[.agg #[.string f, .int .u64 (a : Nat), .slice A1 es.length cap1], .agg #[.string f, .int .u64 (a : Nat), .slice A2 es.length cap2]] W' fun r w' => r = .returned (.bool true) ∧ Below W'.heap.size W' w') := Lib.hid fun W' hW => by
      have := Cn.rsameb_len es es rfl f a A1 A2 cap1 cap2 W' (HE15.out.later hW) (HE25.out.later hW)
      rw [Cm.evsSame_refl] at this
      exact this
    obtain ⟨c0, c1, c2, c3, c4, c5⟩ := KS.out W5 (Below.refl _ _)
    clear hb4 hb45 hB5 hb35 hB35 he2
    replace hW5 := Lib.hid hW5
    have HB5 := Lib.hid hb5
    clear hb5
    go_upto_region 5 with fail
    rw [← hW5.out, ← HB5.out]
    go_wp2_with fail
    refine HBB.out.mono ?_
    rintro e w6 ⟨v7, rfl, hown, hb6⟩
    obtain ⟨A7, n7, cap7, rfl⟩ := Cn.slice_form hown
    have HF7 := Lib.hid (Cn.brd_own hown)
    clear hown
    have HB6 : Hid (Below W5.heap.size W5 w6) := Lib.hid hb6
    have HEQ : Hid (∀ W' : World, Below w6.heap.size w6 W' → Calls Tryz.prog 10 #[.slice A7 n7 cap7, .slice A l.length cap] W' fun r w' => r = .returned (.bool true) ∧ Below W'.heap.size W' w') := Lib.hid fun W' hW => by
      have := Cn.bequal_any l l _ _ W' (HF7.out.later hW) (HV.out.later (HBW5.out.trans ((HB6.out.trans (hW.mono HB6.out.size)).mono HBW5.out.size)))
      rw [decide_eq_true rfl] at this
      exact this
    clear hb6 c0 c1 c2 c3 c4 c5
    go_wp2_with fail
    refine (HA.out _).mono ?_
    rintro x8 w8 ⟨rfl, hb8⟩
    have HC8 : Hid (Below w6.heap.size w6 w8) := Lib.hid hb8
    clear hb8
    have HB8 : Hid (Below W5.heap.size W5 w8) := Lib.hid (HB6.out.trans (HC8.out.mono HB6.out.size))
    obtain ⟨c0, c1, c2, c3, c4, c5⟩ := KS.out w8 HB8.out
    go_wp2_with fail
    refine (HSM.out _ HB8.out).mono ?_
    rintro x9 w9 ⟨rfl, hb9⟩
    have HC9 : Hid (Below w6.heap.size w6 w9) := Lib.hid (HC8.out.trans (hb9.mono HC8.out.size))
    have HB9 : Hid (Below W5.heap.size W5 w9) := Lib.hid (HB6.out.trans (HC9.out.mono HB6.out.size))
    clear hb9 c0 c1 c2 c3 c4 c5
    go_wp2_with fail
    refine (HEQ.out _ HC9.out).mono ?_
    rintro x10 w10 ⟨rfl, hb10⟩
    have HB10 : Hid (Below W5.heap.size W5 w10) := Lib.hid (HB9.out.trans (hb10.mono HB9.out.size))
    clear hb10
    go_wp2_with fail
    go_ret
    exact ⟨rfl, HBW5.out.trans (HB10.out.mono HBW5.out.size)⟩

set_option maxRecDepth 100000 in
open Go.ChangeShapes Go.WideShapes Go.ChangeAt Go.ChangeMaps in
theorem bytes_in {H : Type} {enc : TypeId × Value → H} {base b1 : Nat} {spare : Nat → Bool} {held : Bool} {d : DataW H} {p : List MemPlace} (v : Value) (W : World)
    (o : Value.okWide Tryz.prog W .any base 22 v) (k : DataW.Trod enc Tryz.prog W b1 spare held 22 v d p) :
    ∃ l A cap, v = .slice A l.length cap ∧ BRd W v l ∧ Byt l := by
  have hC : Tryz.prog.cellsOf 5 = 1 := by kernel_rfl
  have hu : Tryz.prog.underlying 22 = some (.slice 5) := Tryz.underlying22
  obtain ⟨a0, l0, cp0, rfl⟩ := okWide_slice Tryz.underlying22 o
  obtain ⟨fuel, hf⟩ := k
  have hcs : (Value.slice a0 l0 cp0).cells.toList = [.slice a0 l0 cp0] := rfl
  rw [hcs] at hf
  rcases DataW.trod_slice Tryz.underlying22 hf with ⟨e4, -⟩ | ⟨a, len, cap, elems, rest, n', hn', e4, -, hb, hl, hm, hel, he, -, -⟩
  · injection List.singleton_inj.1 e4 with q1 q2 q3
    subst q1 q2 q3
    exact ⟨[], none, 0, rfl, .inl ⟨rfl, rfl⟩, fun b hb => by simp at hb⟩
  · injection List.singleton_inj.1 e4 with q1 q2 q3
    subst q1 q2 q3
    have hsp : a.spot = none ∧ a.block < W.heap.size := by
      unfold Value.okWide at o
      rw [hu] at o
      simp only [Cell.okWide, Cell.ok, hu] at o
      obtain ⟨-, -, h2, h3, row, cells, h4, -⟩ := o
      refine ⟨h3, ?_⟩
      rcases Nat.lt_or_ge a.block W.heap.size with q | q
      · exact q
      · simp [World.shape?, Array.getElem?_eq_none q] at h4
    have h4 : ∀ i : Nat, ∃ x : Nat, i < l0 → x < 256 ∧ W.cell? (a.add i) = some (.int .u8 (x : Nat)) := fun i => by
      by_cases hi : i < l0
      · have e := he i hi
        rw [List.getElem?_eq_getElem (by omega)] at e
        obtain ⟨cs', q1, q2⟩ := Option.bind_eq_some_iff.1 e
        rw [hC] at q1
        obtain ⟨_, ql, qc⟩ := World.cells?_some q1
        obtain ⟨k, e0, -, w0⟩ := DataW.trod_int Tryz.underlying5 q2
        simp [Lit.wf, IntKind.min, IntKind.max, IntKind.bits, IntKind.signed] at w0
        have q0 := qc 0 (by omega)
        rw [e0] at q0
        refine ⟨k.toNat, fun _ => ⟨by omega, ?_⟩⟩
        rw [Nat.mul_one, Go.Deep.add_add, Nat.add_zero] at q0
        rw [q0, Int.toNat_of_nonneg w0.1]; rfl
      · exact ⟨0, fun h => absurd h hi⟩
    obtain ⟨F, hF⟩ := Classical.axiomOfChoice h4
    have hlen' : ((List.range l0).map F).length = l0 := by simp
    obtain ⟨b, off, spot⟩ := a
    obtain ⟨hs, hlt⟩ := hsp
    simp only at hs hlt
    subst hs
    refine ⟨(List.range l0).map F, some ⟨b, off, none⟩, cp0, by rw [hlen'], .inr ⟨b, off, cp0, by rw [hlen'], by rw [hlen']; exact hl, hm, hlt, fun i hi => ?_⟩, fun x hx => ?_⟩
    · rw [hlen'] at hi
      have := (hF i hi).2
      rw [show (⟨b, off, none⟩ : Addr).add i = ⟨b, off + i, none⟩ from by by_cases h : i = 0 <;> simp [Addr.add, h]] at this
      simpa using this
    · obtain ⟨i, hi, rfl⟩ := List.mem_map.1 hx
      exact (hF i (List.mem_range.1 hi)).1
set_option maxRecDepth 100000 in
open Go.ChangeShapes Go.WideShapes Go.ChangeAt Go.ChangeMaps in
theorem bparses_open {H : Type} {enc : TypeId × Value → H} {base b1 : Nat} {spare : Nat → Bool} {held : Bool} {d0 : DataW H} {p0 : List MemPlace} (v0 : Value) (W : World)
    (o0 : Value.okWide Tryz.prog W .any base 22 v0) (k0 : DataW.Trod enc Tryz.prog W b1 spare held 22 v0 d0 p0) :
    Calls Tryz.prog 3 #[v0] W fun e w' => e = .returned (.bool true) ∧ Below W.heap.size W w' := by
  obtain ⟨l, A, cap, rfl, hin, hb⟩ := bytes_in v0 W o0 k0
  by_cases h : l.length ≤ 600
  · exact bparses_walk _ l h hb W hin
  · exact bparses_long A l.length cap W (by omega)
end Rd
end Go.Proofs.YtcbddebmmaflgaaGreat
