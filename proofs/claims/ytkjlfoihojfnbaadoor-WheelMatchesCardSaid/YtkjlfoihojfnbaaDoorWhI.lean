/- A wheel's Advance: the walk. -/
import Derived.Test.YtkjlfoihojfnbaaDoorWhH
namespace Go.Proofs.YtkjlfoihojfnbaaDoor
open Go.RowKit
set_option linter.unusedVariables false
set_option linter.unusedSimpArgs false
namespace Wh
open Lv (slotOf slotOf_lt turnOf startOf startOf_lt W64 start_in slot_any)
open Ln (LV upd only_set only_refl)
open Lo (IRow KB St Own updL Lies below_drew Deb IsFirst first_any take_any sortI sortI_len)
variable {base b now t : Nat} {w w' w1 : World} {V V' V0 : WV} {L : Nat → Nat → List (Nat × Nat)} {D F M : List (Nat × Nat)} {P : Nat × Nat → Prop}
/-- What Advance leaves. -/
def AdvOut (base : Nat) (w : World) (b t : Nat) (V0 : WV) (M : List (Nat × Nat)) (e : Ending) (w' : World) : Prop :=
  ∃ v D V L F M', e = .returned (.tuple #[v, .int .i64 0]) ∧ Lies w' v (sortI D) ∧ WW base w' b t V L [] F M' ∧ Pl t L [] F (fun x => x ∈ M') ∧ Chg w w' (Any b V0) (Any b V) ∧ (∀ x, x ∈ D ↔ x ∈ M ∧ x.2 ≤ t) ∧ (∀ x, x ∈ M' ↔ x ∈ M ∧ t < x.2) ∧ D.Nodup ∧ (M'.map Prod.fst).Nodup ∧
    (∀ g, v.ownBlock = some g → ¬ Any b V g) ∧ (∀ g, v.ownBlock = some g → Any b V0 g ∨ w.heap.size ≤ g)
theorem Pl.due_iff (h : Pl t L D F P) (x : Nat × Nat) : x ∈ D ↔ P x ∧ x.2 ≤ t := by
  constructor
  · intro hx
    exact ⟨(h.mem x).2 (.inl hx), h.d x hx⟩
  · rintro ⟨hp, ht⟩
    rcases (h.mem x).1 hp with e | e | ⟨i, s, hi, hs, e⟩
    · exact e
    · have := q_lt (h.f x e); omega
    · have := q_lt (h.l i s hi hs x e).1; omega
/-- The timers that are fired are struck out. -/
def DelSt (base : Nat) (w4 wr : World) (b t : Nat) (V : WV) (L : Nat → Nat → List (Nat × Nat)) (F M O : List (Nat × Nat)) (i : Nat) : Prop :=
  ∃ M1, WW base wr b t V L [] F M1 ∧ (∀ y, y ∈ M1 ↔ y ∈ M ∧ y ∉ O.take i) ∧ (M1.map Prod.fst).Nodup ∧ Chg w4 wr (Any b V) (Any b V)
theorem noId_nodup {M : List (Nat × Nat)} (id : Nat) (h : (M.map Prod.fst).Nodup) : ((noId M id).map Prod.fst).Nodup := h.sublist (List.filter_sublist.map _)
theorem id_inj : ∀ {M : List (Nat × Nat)}, (M.map Prod.fst).Nodup → ∀ {x y : Nat × Nat}, x ∈ M → y ∈ M → x.1 = y.1 → x = y
  | [], _, x, y, hx, _, _ => by simp at hx
  | a :: M, h, x, y, hx, hy, e => by
    rw [List.map_cons, List.nodup_cons] at h
    rcases List.mem_cons.1 hx with e1 | e1
    · rcases List.mem_cons.1 hy with e2 | e2
      · rw [e1, e2]
      · exact absurd (List.mem_map.2 ⟨y, e2, by rw [← e, e1]⟩) h.1
    · rcases List.mem_cons.1 hy with e2 | e2
      · exact absurd (List.mem_map.2 ⟨x, e1, by rw [e, e2]⟩) h.1
      · exact id_inj h.2 e1 e2 e
theorem DelSt.next {w4 wr wd : World} {O : List (Nat × Nat)} {i : Nat} {M1 : List (Nat × Nat)} (h1 : WW base wr b t V L [] F M1) (h2 : ∀ y, y ∈ M1 ↔ y ∈ M ∧ y ∉ O.take i) (h3 : (M1.map Prod.fst).Nodup) (h4 : Chg w4 wr (Any b V) (Any b V)) (hM : (M.map Prod.fst).Nodup) (hi : i < O.length) (hO : O[i] ∈ M)
    {W : World} (hW : Below wr.heap.size wr W) (turn : W.mapTurned wd V.bm) (hm : MapIs wd V.bm (noId M1 O[i].1)) : DelSt base w4 wd b t V L F M O (i + 1) := by
  obtain ⟨q1, q2⟩ := (h1.later hW).setM turn hm
  refine ⟨_, q1, fun y => ?_, noId_nodup _ h3, (h4.trans (Chg.of_below _ hW)).trans q2⟩
  rw [noId_mem, h2 y, List.take_succ_eq_append_getElem hi, List.mem_append, List.mem_singleton]
  constructor
  · rintro ⟨⟨a, c⟩, d⟩
    exact ⟨a, fun e => e.elim c (fun e => d (by rw [e]))⟩
  · rintro ⟨a, c⟩
    exact ⟨⟨a, fun e => c (.inl e)⟩, fun e => c (.inr (id_inj hM a hO e))⟩
set_option maxRecDepth 100000 in
set_option maxHeartbeats 1000000 in
theorem advance_core (h : WW base w b now V0 L D F M) (hp : Pl now L D F (fun x => x ∈ M)) (hnt : now ≤ t) (ht : t ≤ 9223372036854775807) (hdeb : Deb w) (hdb : 0 < base) (hbase : base ≤ w.heap.size) (hM : M.length ≤ 1000) (hsm : ∀ x ∈ M, x.1 < 18446744073709551616 ∧ x.2 < 18446744073709551616) (hid : (M.map Prod.fst).Nodup) :
    Calls Tryd.prog 28 #[.pointer (some ⟨b, 0, none⟩), .int .u64 (t : Nat)] w (AdvOut base w b t V0 M) := by
  have HW := Lib.hid h
  have HP := Lib.hid hp
  have HD := Lib.hid hdeb
  have HSM := Lib.hid hsm
  have HID := Lib.hid hid
  obtain ⟨c0, -⟩ := h.cells
  have ht' : ¬ ((9223372036854775807 : Int) < t) := by omega
  have hnt' : ¬ ((t : Int) < now) := by omega
  clear h hp hdeb hsm hid
  go_enter Tryd.func28, Tryd.ntmps28
  go_wp2_with fail
  refine wp_scope_two 1 0 (fun n a w' => Fr b t a ∧ AgSt base w w' b t V0 M n) (fun a w' => Fr b t a ∧ EnSt base w w' b t V0 M) (by rfl) (by rfl) ?_ ?_ ?_
  · intro a1 w1 hj
    obtain ⟨hf, hj⟩ := hj
    obtain ⟨us, rfl⟩ := fr_open hf
    obtain ⟨now1, V, L1, D1, F1, j1, j2, j3⟩ := hj
    clear hf
    obtain ⟨d0, -, -, d6, -, fz⟩ := j1.cells
    have f0 := fz 0
    have f6 := fz 6
    obtain ⟨AD, capD, hvd, hcD, -⟩ := j1.due.opened
    rw [hvd] at d6
    obtain ⟨k1, k2⟩ := j1.setNow t
    obtain ⟨m1, m2, m3, m4⟩ := k1.dropD
    obtain ⟨W3, hW3⟩ : ∃ W3, W3 = (w1.setCell ⟨b, 0, none⟩ (.int .u64 (t : Nat))).setCell ⟨b, 6, none⟩ (.slice none 0 0) := ⟨_, rfl⟩
    rw [← hW3] at m1 m2 m3
    have hDl := (j2.bounds (M := M) (fun y hy => hy)).1
    have HSORT := Lib.hid (sort2_any D1 base V.vd W3 (by omega) m3)
    rw [hvd] at HSORT
    have HVD := Lib.hid hvd
    obtain ⟨V3, hV3⟩ : ∃ V3 : WV, V3 = { V with vd := .slice none 0 0 } := ⟨_, rfl⟩
    have hbm : V3.bm = V.bm := by rw [hV3]
    rw [← hV3] at m1 m2 m4
    have HJ2 := Lib.hid j2
    have HJ3 := Lib.hid j3
    have HK := Lib.hid (k2.trans m2)
    have HM1 := Lib.hid m1
    have HM4 := Lib.hid m4
    have hDl' : (D1.length : Int) ≤ 1000 := by omega
    replace hW3 := Lib.hid hW3
    clear k1 k2 m1 m2 m3 m4 j1 j2 j3 hvd hV3 hbm fz
    go_wp2_with fail
    rw [← hW3.out]
    refine HSORT.out.mono ?_
    rintro e w4 ⟨⟨r, rfl⟩, hli, kb4⟩
    have n1 := HM1.out.keep kb4 (fun g hg e => HM4.out g (by rw [HVD.out]; exact e) hg)
    have HC4 : Hid (Chg w w4 (Any b V0) (Any b V3)) := Lib.hid (HJ3.out.trans ⟨HK.out.kb.trans kb4 (fun j _ e => ⟨4, by omega, by rw [part4, HVD.out]; exact e⟩), HK.out.grow⟩)
    obtain ⟨O, hO⟩ : ∃ O, O = sortI D1 := ⟨_, rfl⟩
    rw [← hO] at hli
    have hOl : O.length = D1.length := by rw [hO]; exact sortI_len _
    have HLI := Lib.hid hli
    have HST : Hid (DelSt base w4 w4 b t V3 L1 F1 M O 0) := Lib.hid ⟨M, n1, fun y => by simp, HID.out, Chg.refl _ _⟩
    have HOM : Hid (∀ y ∈ O, y ∈ M) := Lib.hid fun y hy => (HJ2.out.mem y).2 (.inl (by rw [hO] at hy; exact sortI_mem.1 hy))
    have HO := Lib.hid hO
    have HOL := Lib.hid hOl
    clear hli kb4 n1 hO hOl HSORT
    go_wp2_with fail
    go_loopw [123] (fun vi wr => ∃ i : Nat, vi = .int .i64 (i : Int) ∧ i ≤ D1.length ∧ DelSt base w4 wr b t V3 L1 F1 M O i) (fun vi _ => D1.length + 1 - (intOf vi).toNat)
    case atStart => exact ⟨0, rfl, by omega, HST.out⟩
    case round =>
      obtain ⟨i, rfl, hi, hdel⟩ := hrel
      rename_i wr
      obtain ⟨M1, e1, e2, e3, e4⟩ := hdel
      by_cases hin : i < D1.length
      · have hin' : (i : Int) < D1.length := by omega
        have hiO : i < O.length := by rw [HOL.out]; exact hin
        obtain ⟨A2, cap2, q2, -, hce⟩ := lies_keep HLI.out (fun g hg => HM4.out g (by rw [HVD.out]; exact hg)) e4.kb
        injection q2 with q2 _ q3
        subst q2
        subst q3
        obtain ⟨g, rfl, hg1, hg2, hg3⟩ := hce i hiO
        have hy1 := (HSM.out _ (HOM.out _ (List.getElem_mem hiO))).1
        obtain ⟨-, cm, -⟩ := e1.cells
        have HNX := Lib.hid (fun (W wd : World) (hW : Below wr.heap.size wr W) (turn : W.mapTurned wd V3.bm) (hm : MapIs wd V3.bm (noId M1 O[i].1)) => DelSt.next e1 e2 e3 e4 HID.out hiO (HOM.out _ (List.getElem_mem hiO)) hW turn hm)
        have HE1 := Lib.hid e1
        have HE3 := Lib.hid e3
        generalize O[i] = y at *
        obtain ⟨wb, hwb⟩ : ∃ wb, wb = wr.alloc (.cells #[.int .u64 (y.1 : Nat), .int .u64 (y.2 : Nat)] 34) := ⟨_, rfl⟩
        have hbb : Below wr.heap.size wr wb := by rw [hwb]; exact (Below.refl _ _).alloc (Nat.le_refl _) _
        have hhb : wb.heap[wr.heap.size]? = some (.cells #[.int .u64 (y.1 : Nat), .int .u64 (y.2 : Nat)] 34 (0, 0)) := by rw [hwb]; exact heap_alloc_new wr _
        have y0 : wb.cell? ⟨wr.heap.size, 0, none⟩ = some (.int .u64 (y.1 : Nat)) := by simp [World.cell?, hhb]
        have cm' : wb.cell? ⟨b, 1, none⟩ = some (.map (some V3.bm)) := (hbb.cell (p := ⟨b, 1, none⟩) (e1.lt b ⟨6, by omega, rfl⟩)).trans cm
        obtain ⟨wd, hrun, hmd, hturn⟩ := ((e1.later (hbb.trans (below_drew (Below.refl _ _)))).map).drop e3 y.1 hy1 0
        have HS1 := Lib.hid (HNX.out _ wd (hbb.trans (below_drew (Below.refl _ _))) hturn hmd)
        replace hwb := Lib.hid hwb
        clear hbb hhb hce cm e1 e2 e3 e4 hmd hturn HNX
        go_upto_region 31 with fail
        rw [← hwb.out]
        go_region
        all_goals
          go_wp2_with fail
          exact ⟨⟨i + 1, rfl, by omega, HS1.out⟩, by simp [intOf]; omega⟩
      · have hin' : ¬ ((i : Int) < D1.length) := by omega
        have hie : O.take i = O := List.take_of_length_le (by rw [HOL.out]; omega)
        rw [hie] at e2
        have HO2 : Hid (AdvOut base w b t V0 M (.returned (.tuple #[.slice AD D1.length capD, .int .i64 0])) wr) := Lib.hid (by
          have hmem : ∀ x, x ∈ M1 ↔ x ∈ M ∧ x ∉ D1 := fun x => by rw [e2 x, HO.out, sortI_mem]
          refine ⟨_, D1, V3, L1, F1, M1, rfl, ?_, e1, (HJ2.out.takeD).iff fun x => (hmem x).symm, HC4.out.trans e4, HJ2.out.due_iff, fun x => ?_, HJ2.out.dn, e3, fun g hg => HM4.out g (by rw [HVD.out]; exact hg), fun g hg => HJ3.out.grow g ⟨4, by omega, by rw [part4, HVD.out]; exact hg⟩⟩
          · rw [← HO.out]
            exact lies_keep HLI.out (fun g hg => HM4.out g (by rw [HVD.out]; exact hg)) e4.kb
          · rw [hmem x, HJ2.out.due_iff x]
            exact ⟨fun ⟨a, c⟩ => ⟨a, by have : ¬ (x.2 ≤ t) := fun e => c ⟨a, e⟩
                                        omega⟩, fun ⟨a, c⟩ => ⟨a, fun e => by have := e.2; omega⟩⟩)
        clear e1 e2 e3 e4
        go_wp2_with fail
        go_ret2
        exact HO2.out
  · intro HL n a1 w1 hj
    have HLAST := Lib.hid HL
    clear HL
    obtain ⟨hf, hj⟩ := hj
    obtain ⟨us, rfl⟩ := fr_open hf
    obtain ⟨now1, V, L1, D1, F1, j1, j2, j3, j4, j5⟩ := hj
    clear hf
    obtain ⟨d0, -, dl, d6, d7, fz⟩ := j1.cells
    obtain ⟨arr, harr⟩ : ∃ a : Array Value, a = lvArr V := ⟨_, rfl⟩
    have HI : Hid (∀ (i : Nat) (hi : i < 4) (W : World), (Instr.index 86 (.agg arr) (.int .i64 (i : Int))).run Tryd.prog W = .ok (.pointer (some ⟨V.bl i, 0, none⟩)) W) := Lib.hid fun i hi W => by rw [harr]; exact index_lv V i hi W
    have HLD := Lib.hid (load_lv j1)
    rw [← harr] at HLD
    replace harr := Lib.hid harr
    have J1 := Lib.hid j1
    have J2 := Lib.hid j2
    have J4 := Lib.hid j4
    have J5 := Lib.hid j5
    have hbase1 : base ≤ w1.heap.size := Nat.le_trans hbase j5.kb.size
    have HD1 := Lib.hid (deb_keep HD.out j5.kb (fun g hg => HW.out.ge g hg) hdb)
    have hn64 : now1 < 18446744073709551616 := by omega
    obtain ⟨AF, capF, hvf, hcF, -⟩ := j1.far.opened
    have hFl := (j2.bounds (M := M) (fun y hy => hy)).2.1
    have HVF := Lib.hid hvf
    have DL := Lib.hid dl
    rw [hvf] at d7
    clear j1 j2 j4 j5 dl hvf d6
    go_wp2_with (refine Lo.wpList_load_run w1 rfl 86 (.tmp 32) rfl (.agg arr) (.pointer (some ⟨b, 2, none⟩)) rfl HLD.out ?_)
    go_loop [34] (fun vi => ∃ i : Nat, vi = .int .i64 (i : Int) ∧ i ≤ 4 ∧ Hid (∀ j u, j < i → u < 64 → L1 j u = [])) (fun vi => 5 - (intOf vi).toNat)
    case atStart => exact ⟨0, rfl, by omega, Lib.hid (fun j u hj => by omega)⟩
    case round =>
      obtain ⟨i, rfl, hi, HLOW⟩ := hrel
      by_cases hi4 : i < 4
      · have hi4' : (i : Int) < 4 := by omega
        have hix := HI.out i hi4
        have st := J1.out.lev i hi4
        have HSL := Lib.hid (slot_any i (by omega) (V.bl i) now1 hn64 w1 st.lv.n)
        have hsl := slotOf_lt i now1
        have HFI := Lib.hid (first_any (V.m i) st.mlt (slotOf i now1 : Nat) (by omega) (by omega) HD1.out st.lv)
        have HST := Lib.hid st
        clear st
        go_wp2_with fail
        refine HSL.out.mono ?_
        rintro e w2 ⟨rfl, rfl⟩
        go_wp2_with fail
        refine HFI.out.mono ?_
        rintro e w2 ⟨⟨r, rfl, hr⟩, rfl⟩
        have hbits := HST.out.bits
        rcases hr with ⟨rfl, hr⟩ | ⟨s, rfl, hs1, hs2, hs3, hs4⟩
        · have HLOW2 : Hid (∀ j u, j < i + 1 → u < 64 → L1 j u = []) := Lib.hid fun j u hj hu => by
            by_cases e : j = i
            · subst e
              rcases hl : L1 j u with _ | ⟨x, r⟩
              · rfl
              · have hx : x ∈ L1 j u := by rw [hl]; exact List.mem_cons_self
                have h1 := (J2.out.behind hi4 hu hx).1
                have h2 : ¬ ((V.m j).testBit u = true) := hr u (by simp; omega) hu
                rw [hbits u hu, hl] at h2
                simp at h2
            · exact HLOW.out j u (by omega) hu
          clear hr hbits
          go_wp2_with fail
          exact ⟨⟨i + 1, rfl, by omega, HLOW2⟩, by simp [intOf]; omega⟩
        · have HCUR : Hid (∀ u, u < s → L1 i u = []) := Lib.hid fun u hu => by
            rcases hl : L1 i u with _ | ⟨x, r⟩
            · rfl
            · have hx : x ∈ L1 i u := by rw [hl]; exact List.mem_cons_self
              have h1 := (J2.out.behind hi4 (by omega) hx).1
              have h2 : ¬ ((V.m i).testBit u = true) := hs4 u (by simp; omega) hu
              rw [hbits u (by omega), hl] at h2
              simp at h2
          have hne : L1 i s ≠ [] := by
            intro e
            have h3 : (V.m i).testBit s = true := hs3
            rw [hbits s hs2, e] at h3
            simp at h3
          have HNE := Lib.hid hne
          have hst1 : now1 < startOf i now1 s := by
            obtain ⟨x, hx⟩ := List.exists_mem_of_ne_nil _ hne
            have h1 := (J2.out.behind hi4 hs2 hx).2
            have h2 := (J2.out.l i s hi4 hs2 x hx).1
            rw [h1, ← q_start i now1 s hs2] at h2
            exact q_lt h2
          have HSTA := Lib.hid (fun W (hc : W.cell? ⟨V.bl i, 0, none⟩ = some (.int .i64 i)) => start_in i (by omega) (V.bl i) now1 s hs2 hn64 W hc)
          have hcl := HST.out.lv.n
          have hs0 : (0 : Int) ≤ s := by omega
          have hs64 : (s : Int) < 64 := by omega
          have hss : ¬ ((s : Int) < 0) := by omega
          have HQ1 := Lib.hid (fun hgt => J2.out.endL (t := t) hi4 hs2 HLOW.out HCUR.out j3 hgt)
          have HSO := Lib.hid (startOf_lt i now1 s (by omega) hs2 hn64)
          have HTK := Lib.hid (fun W => lvl_take (W := W) J1.out J2.out hi4 hs2 HLOW.out HCUR.out hne hM HSM.out hbase1)
          clear hbits hs1 hs3 hs4 hne
          obtain ⟨sta, hsta⟩ : ∃ x, x = startOf i now1 s := ⟨_, rfl⟩
          rw [← hsta] at hst1 HSTA HQ1 HSO HTK
          have hst1' : (now1 : Int) < sta := by omega
          have hmx : max (sta : Int) (now1 : Int) = sta := by omega
          replace hsta := Lib.hid hsta
          go_wp2_with fail
          go_quiet ((go_at_call 38; exact Calls.quiet_of (HSTA.out _ (by simpa using hcl))))
          by_cases hgt : t < sta
          · have hgt' : (t : Int) < sta := by omega
            have HEN := Lib.hid (HQ1.out hgt)
            go_wp2_with fail
            refine wp_goto ?_
            exact .inr ⟨rfl, ⟨rfl, rfl, rfl, rfl⟩, now1, V, L1, D1, F1, J1.out.later (below_drewN (Below.refl _ _) _), HEN.out, J5.out.trans (Chg.of_below _ (below_drewN (Below.refl _ _) _))⟩
          · have hgt' : ¬ ((t : Int) < sta) := by omega
            go_wp2_with fail
            refine (HTK.out _ (below_drewN (Below.refl _ _) _)).mono ?_
            rintro e w3 ⟨v3, rfl, hmv⟩
            have HMV := Lib.hid hmv
            clear hmv
            go_wp2_with fail
            refine HMV.out.mono ?_
            rintro e w4 ⟨⟨r4, rfl⟩, hpl⟩
            have HPL := Lib.hid hpl
            clear hpl
            go_wp2_with fail
            refine wp_goto ?_
            obtain ⟨V4, L4, D4, F4, r1, r2, r3⟩ := HPL.out
            have hn := J4.out
            exact .inl ⟨rfl, t - sta, by omega, ⟨rfl, rfl, rfl, rfl⟩, sta, V4, L4, D4, F4, r1, r2, by omega, rfl, J5.out.trans r3⟩
      · have hi4' : ¬ ((i : Int) < 4) := by omega
        obtain rfl : i = 4 := by omega
        rcases (by omega : F1.length = 0 ∨ 0 < F1.length) with hF0 | hF1
        · have HEN : Hid (EnSt base w w1 b t V0 M) := Lib.hid ⟨now1, V, L1, D1, F1, J1.out, J2.out.jumpF j3 HLOW.out (fun x hx => by rw [List.eq_nil_of_length_eq_zero hF0] at hx; simp at hx), J5.out⟩
          rw [hF0] at d7
          go_wp2_with fail
          refine wp_label ?_
          first
            | (rename_i K hK; exact hK _ _ (HLAST.out _ _ _ ⟨⟨rfl, rfl, rfl, rfl⟩, HEN.out⟩))
            | (rename_i K hK _; exact hK _ _ (HLAST.out _ _ _ ⟨⟨rfl, rfl, rfl, rfl⟩, HEN.out⟩))
            | (rename_i K hK _ _; exact hK _ _ (HLAST.out _ _ _ ⟨⟨rfl, rfl, rfl, rfl⟩, HEN.out⟩))
            | (rename_i K hK _ _ _; exact hK _ _ (HLAST.out _ _ _ ⟨⟨rfl, rfl, rfl, rfl⟩, HEN.out⟩))
        · have hF1' : (0 : Int) < F1.length := by omega
          have d5 := DL.out 3 (by omega)
          rw [show 2 + 3 = 5 from rfl] at d5
          have f7 := fz 7
          have HMIN := Lib.hid (min_any F1 (by omega) hF1 V.vf w1 J1.out.far.lies)
          rw [HVF.out] at HMIN
          go_wp2_with fail
          refine HMIN.out.mono ?_
          rintro e w3 ⟨m, rfl, hm1, hm2, hb3⟩
          obtain ⟨wb, hwb⟩ : ∃ wb, wb = w3.alloc (.cells #[.int .u64 (m.1 : Nat), .int .u64 (m.2 : Nat)] 34) := ⟨_, rfl⟩
          have hbb : Below w1.heap.size w1 wb := by rw [hwb]; exact hb3.alloc hb3.size _
          have hhb : wb.heap[w3.heap.size]? = some (.cells #[.int .u64 (m.1 : Nat), .int .u64 (m.2 : Nat)] 34 (0, 0)) := by rw [hwb]; exact heap_alloc_new w3 _
          have y0 : wb.cell? ⟨w3.heap.size, 0, none⟩ = some (.int .u64 (m.1 : Nat)) := by simp [World.cell?, hhb]
          have y1 : wb.cell? ⟨w3.heap.size, 1, none⟩ = some (.int .u64 (m.2 : Nat)) := by simp [World.cell?, hhb]
          have JB := J1.out.later hbb
          obtain ⟨e0, -, -, -, e7, fe⟩ := JB.cells
          have fe7 := fe 7
          rw [HVF.out] at e7
          have hcl := (JB.lev 3 (by omega)).lv.n
          have hm64 : m.2 < 18446744073709551616 := (HSM.out m ((J2.out.mem m).2 (.inr (.inl hm1)))).2
          have HSTA := Lib.hid (fun W (hc : W.cell? ⟨V.bl 3, 0, none⟩ = some (.int .i64 (3 : Nat))) => start_in 3 (by omega) (V.bl 3) m.2 0 (by omega) hm64 W hc)
          have hlat := far_later J2.out hm1
          have HEN := Lib.hid (fun hgt => J2.out.endF (t := t) HLOW.out hm2 j3 hgt)
          have HFM := Lib.hid (fun W (hW : Below w1.heap.size w1 W) => far_move J1.out J2.out HLOW.out hm1 hM HSM.out hbase1 hW)
          have HBB := Lib.hid hbb
          have HJB := Lib.hid JB
          rw [HVF.out] at HFM
          have HSO := Lib.hid (startOf_lt 3 m.2 0 (by omega) (by omega) hm64)
          clear hb3 hbb hhb JB hm1 hm2 fe
          obtain ⟨sta, hsta⟩ : ∃ x, x = startOf 3 m.2 0 := ⟨_, rfl⟩
          rw [← hsta] at hlat HSTA HEN HFM HSO
          have hlat1 : (now1 : Int) < sta := by omega
          have hmx : max (sta : Int) (now1 : Int) = sta := by omega
          replace hsta := Lib.hid hsta
          replace hwb := Lib.hid hwb
          go_upto_region 19 with fail
          rw [← hwb.out]
          go_quiet ((go_at_call 38; exact Calls.quiet_of (HSTA.out _ (by simpa using hcl))))
          by_cases hgt : t < sta
          · have hgt' : (t : Int) < sta := by omega
            have HEN2 := Lib.hid (HEN.out hgt)
            go_wp2_with fail
            refine wp_goto ?_
            exact .inr ⟨rfl, ⟨rfl, rfl, rfl, rfl⟩, now1, V, L1, D1, F1, HJB.out.later (below_drewN (Below.refl _ _) _), HEN2.out, (J5.out.trans (Chg.of_below _ HBB.out)).trans (Chg.of_below _ (below_drewN (Below.refl _ _) _))⟩
          · have hgt' : ¬ ((t : Int) < sta) := by omega
            go_wp2_with fail
            refine (HFM.out _ (below_drewN HBB.out _)).mono ?_
            rintro e w4 ⟨⟨r4, rfl⟩, hpl⟩
            have HPL := Lib.hid hpl
            clear hpl
            go_wp2_with fail
            refine wp_goto ?_
            obtain ⟨V4, L4, D4, F4, r1, r2, r3⟩ := HPL.out
            have hn := J4.out
            exact .inl ⟨rfl, t - sta, by omega, ⟨rfl, rfl, rfl, rfl⟩, sta, V4, L4, D4, F4, r1, r2, by omega, rfl, J5.out.trans r3⟩
  · intro HPS
    have HPASS := Lib.hid HPS
    clear HPS
    go_wp2_with fail
    refine wp_label ?_
    rename_i K hK
    exact hK _ _ (HPASS.out (t - now) _ _ ⟨⟨rfl, rfl, rfl, rfl⟩, now, V0, L, D, F, HW.out, HP.out, hnt, rfl, Chg.refl _ _⟩)
end Wh
end Go.Proofs.YtkjlfoihojfnbaaDoor
