/- WheelFar: the walk. -/
import Derived.Test.YtkjlfoihojfnbaaDoorWhR
namespace Go.Proofs.YtkjlfoihojfnbaaDoor
open Go.RowKit
set_option linter.unusedVariables false
set_option linter.unusedSimpArgs false
namespace Wh
open Lo (IRow KB Lies LiesO below_drew bef bef_iff Deb back_any equal_same)
variable {base b bx nw nm t : Nat} {w w' w0 wr : World} {T TW : List (Nat × Nat)} {v : Value} {S S' : Nat → Prop}
theorem W1St.start {w1 w2 : World} (h : Whl w.heap.size w1 b t [] (fun g => w.heap.size ≤ g)) (hb1 : Below w.heap.size w w1) (hb2 : Below w1.heap.size w1 w2) (hd : Deb w) :
    W1St w.heap.size w (w2.alloc (.cells #[.int .u64 (t : Nat), .slice none 0 0] 49)) b w2.heap.size t [] t [] (.slice none 0 0) := by
  have h1 : Whl w.heap.size w1 b t [] (fun g => w.heap.size ≤ g ∧ g < w1.heap.size) := by
    obtain ⟨V, L, D, F, g1, g2, g3⟩ := h.ex
    exact ⟨⟨V, L, D, F, g1, g2, fun g hg => ⟨g3 g hg, g1.lt g hg⟩⟩, h.ids, h.sm, h.nowm, h.sorted⟩
  have hz1 := hb1.size
  have hz2 := hb2.size
  have hb3 : Below w1.heap.size w1 (w2.alloc (.cells #[.int .u64 (t : Nat), .slice none 0 0] 49)) := hb2.alloc hb2.size _
  exact ⟨⟨_, h1.later hb3, fun g hg => (by cases hg), fun e => by omega, fun g e => e.1⟩, IRow.nil _ _ _, fun g hg => (by cases hg), heap_alloc_new w2 _, hb1.trans (hb3.mono hz1), by rw [World.size_alloc]; omega, Nat.le_refl _, by omega, hd.2, hd⟩
theorem W1St.parts (h : W1St base w0 wr b bx nw TW nm T v) : T.Pairwise bef ∨ True := .inr trivial
theorem W1St.wsorted (h : W1St base w0 wr b bx nw TW nm T v) : TW.Pairwise bef := let ⟨S, h1, _⟩ := h.ex; h1.sorted
/-- The timers scheduled so far. -/
structure FarA (base : Nat) (w wr : World) (b bx st i : Nat) (T : List (Nat × Nat)) (v : Value) : Prop where
  s : W1St base w wr b bx st T st T v
  ids : ∀ x ∈ T, x.1 < i ∧ st ≤ x.2 ∧ x.2 ≤ 9223372036854775807
  len : T.length ≤ i
theorem FarA.fresh {i st at' : Nat} (h : FarA base w wr b bx st i T v) : hasId T i = false := decide_eq_false (by
  rintro ⟨x, hx, e⟩
  have := (h.ids x hx).1; omega)
theorem insT_len {T : List (Nat × Nat)} {x : Nat × Nat} : (insT T x).length = T.length + 1 := by unfold insT; rw [Lo.sortI_len]; rfl
structure FarB (base : Nat) (w wr : World) (b bx st : Nat) (now : Nat) (T : List (Nat × Nat)) (v : Value) : Prop where
  s : W1St base w wr b bx now T now T v
  lo : st ≤ now
  hi : now ≤ 9223372036854775807
  ats : ∀ x ∈ T, now ≤ x.2 ∧ x.2 ≤ 9223372036854775807
  later : now = st ∨ ∀ x ∈ T, now < x.2
  len : T.length ≤ 60
/-- How many timers the box has. -/
def boxLen (w : World) (bx : Nat) : Nat := match w.cell? ⟨bx, 1, none⟩ with | some (.slice _ n _) => n | _ => 0
theorem boxLen_eq {A : Option Addr} {n cap : Nat} {c : Value} (h : w.heap[bx]? = some (.cells #[c, .slice A n cap] 49 (0, 0))) : boxLen w bx = n := by
  unfold boxLen
  simp [World.cell?, h]
theorem rest_lt (h0 : 0 < T.length) : (restT T T[0].2).length < T.length := by
  rcases T with _ | ⟨x, r⟩
  · simp at h0
  · unfold restT
    rw [List.getElem_cons_zero, List.filter_cons_of_neg (by simp)]
    have := List.length_filter_le (fun y : Nat × Nat => decide (x.2 < y.2)) r
    simp only [List.length_cons]; omega
theorem due_none (so : T.Pairwise bef) (h0 : 0 < T.length) {t1 : Nat} (h : t1 < T[0].2) : dueT T t1 = [] ∧ restT T t1 = T := by
  have hmin : ∀ x ∈ T, T[0].2 ≤ x.2 := fun x hx => by
    obtain ⟨i, hi, e⟩ := List.getElem_of_mem hx
    by_cases hi0 : i = 0
    · subst hi0; rw [e]; exact Nat.le_refl _
    · have := List.pairwise_iff_getElem.1 so 0 i h0 hi (by omega)
      rw [bef_iff, e] at this; omega
  exact ⟨List.filter_eq_nil_iff.2 fun x hx => by have := hmin x hx; simp; omega, List.filter_eq_self.2 fun x hx => decide_eq_true (by have := hmin x hx; omega)⟩
set_option maxRecDepth 100000 in
set_option maxHeartbeats 8000000 in
theorem far_walk (n0 : Nat) (hn : n0 < 18446744073709551616) (A : Option Addr) (cap : Nat) (l : List Nat) (w : World) (hin : TicksIn w A cap l) (hlen : l.length ≤ 60) (hd : Deb w) :
    Calls Tryd.prog 4 #[.int .u64 (n0 : Nat), .slice A l.length cap] w fun e w' => e = .returned (.bool true) ∧ Below w.heap.size w w' := by
  obtain ⟨st, hst⟩ : ∃ st : Nat, st = n0 % 4611686018427387904 := ⟨_, rfl⟩
  have hst62 : st < 4611686018427387904 := by omega
  have HST := Lib.hid hst62
  have hstI : (n0 : Int) % 4611686018427387904 = (st : Nat) := by omega
  have HN := Lib.hid (wnew_any st st (by omega) (by omega) w)
  have HR := Lib.hid (fun W => rnew_any st st (by omega) W)
  obtain ⟨base, hbase⟩ : ∃ base, base = w.heap.size := ⟨_, rfl⟩
  have HBS := Lib.hid hbase
  have HD := Lib.hid hd
  have HIN := Lib.hid hin
  have hlen' : (l.length : Int) ≤ 60 := by omega
  have hcap := hin.1
  have hst0 : (0 : Int) ≤ st := by omega
  have hn0 : (0 : Int) ≤ n0 := by omega
  rw [← hbase] at HN ⊢
  have HSTI := Lib.hid hstI
  clear hd hin hst hst62 hbase hn hstI
  obtain ⟨B, hB⟩ : ∃ B : Int, B = 4611686018427387904 := ⟨_, rfl⟩
  have hB0 : (B == 0) = false := beq_eq_false_iff_ne.2 (by omega)
  have hB1 : ¬ B = 0 := by omega
  have q0 : 0 ≤ (n0 : Int) % B := by rw [hB]; omega
  rw [← hB] at HSTI
  have HBB := Lib.hid hB
  clear hB
  go_enter Tryd.func4, Tryd.ntmps4
  go_upto_region 3 with fail
  trace "a"
  rw [← HBB.out]
  trace "b"
  go_wp2_with fail
  trace "c"
  rw [HSTI.out]
  trace "d"
  refine HN.out.mono ?_
  rintro e w1 ⟨rfl, h1, hb1⟩
  have H1 := Lib.hid h1
  have HB1 := Lib.hid hb1
  clear h1 hb1
  go_wp2_with fail
  refine (HR.out w1).mono ?_
  rintro e w2 ⟨rfl, hb2⟩
  obtain ⟨wm, hwm⟩ : ∃ wm, wm = w2.alloc (.cells #[.int .u64 (st : Nat), .slice none 0 0] 49) := ⟨_, rfl⟩
  have HA0 : Hid (FarA base w wm (base + 1) w2.heap.size st 0 [] (.slice none 0 0)) := Lib.hid (by
    have hs := HBS.out
    subst hs
    rw [hwm]
    exact ⟨W1St.start H1.out HB1.out hb2 HD.out, fun x hx => by simp at hx, Nat.le_refl _⟩)
  obtain ⟨bx, hbx⟩ : ∃ bx, bx = w2.heap.size := ⟨_, rfl⟩
  rw [← hbx] at HA0
  replace hbx := Lib.hid hbx
  replace hwm := Lib.hid hwm
  clear hb2
  go_upto_region 6 with fail
  rw [← hwm.out, ← hbx.out]
  clear hbx hwm
  go_wp2_with fail
  go_loopw [33] (fun vi wr => ∃ (i : Nat) (T : List (Nat × Nat)) (v : Value), vi = .int .i64 (i : Int) ∧ i ≤ l.length ∧ FarA base w wr (base + 1) bx st i T v) (fun vi _ => l.length + 1 - (intOf vi).toNat)
  case atStart => exact ⟨0, _, _, rfl, by omega, HA0.out⟩
  case round =>
    obtain ⟨i, T, v, rfl, hi, hfa⟩ := hrel
    rename_i wr
    obtain ⟨A1, cap1, rfl, -, -⟩ := hfa.s.row.opened
    have HFA := Lib.hid hfa
    by_cases hin : i < l.length
    · obtain ⟨g, o, rfl, hg1, hg2⟩ := HIN.out.2.2 i hin
      have hx64 := HIN.out.2.1 _ (List.getElem_mem hin)
      have hg2 := (hfa.s.bel.cell (p := ⟨g, o + i, none⟩) (by rw [HBS.out]; exact hg1)).trans hg2
      have hin' : (i : Int) < l.length := by omega
      generalize l[i] = x at *
      obtain ⟨xm, hxm⟩ : ∃ xm : Nat, xm = x % 4611686018427387904 := ⟨_, rfl⟩
      obtain ⟨at', hat⟩ : ∃ a : Nat, a = st + xm := ⟨_, rfl⟩
      have HXM : Hid ((st : Int) + (x : Int) % B = (at' : Nat)) := Lib.hid (by rw [HBB.out]; omega)
      have hx0 : (0 : Int) ≤ x := by omega
      have hxm0 : (0 : Int) ≤ (x : Int) % B := by rw [HBB.out]; omega
      have hat63 : at' ≤ 9223372036854775807 := by have := HST.out; omega
      have hxm1 : (st : Int) + (x : Int) % B ≤ 9223372036854775807 := by rw [HXM.out]; omega
      have HAT : Hid (st ≤ at') := Lib.hid (by omega)
      have hTl := hfa.len
      have HSC := Lib.hid (hfa.s.sched (i, at') (by show i < _; omega) hat63 (hfa.fresh (at' := 0)) (by omega))
      have hi0 : (0 : Int) ≤ i := by omega
      clear hfa hxm hat
      go_wp2_with fail
      rw [← HBB.out, HXM.out]
      refine HSC.out.mono ?_
      rintro e w3 ⟨rfl, h3⟩
      have H3 := Lib.hid h3
      obtain ⟨b0, b1, bf⟩ := cellsW h3.box
      have bf0 := bf 0
      have bf1 := bf 1
      have HRS := Lib.hid (rsched_any (now := st) (by omega) HFA.out.s.wsorted (.slice A1 T.length cap1) (i, at') h3.row)
      clear h3 bf
      go_wp2_with fail
      refine HRS.out.mono ?_
      rintro e w4 ⟨hpost, hb4⟩
      rcases hpost with ⟨q1, -⟩ | ⟨-, q1, -⟩ | ⟨-, -, v4, rfl, row4⟩
      · exact absurd q1 (by show ¬ (_ < at'); omega)
      · rw [HFA.out.fresh (at' := 0)] at q1; cases q1
      · obtain ⟨A4, cap4, rfl, -, -⟩ := row4.opened
        have HA4 : Hid (FarA base w ((w4.setCell ⟨bx, 0, none⟩ (.int .u64 (st : Nat))).setCell ⟨bx, 1, none⟩ (.slice A4 (insT T (i, at')).length cap4)) (base + 1) bx st (i + 1) (insT T (i, at')) (.slice A4 (insT T (i, at')).length cap4)) := Lib.hid
          ⟨H3.out.stored hb4 row4 (Below.refl _ _), fun y hy => by
            rcases List.mem_cons.1 (insT_mem.1 hy) with rfl | hy
            · exact ⟨Nat.lt_succ_self _, HAT.out, hat63⟩
            · have := HFA.out.ids y hy; exact ⟨by omega, this.2⟩, by rw [insT_len]; omega⟩
        have B4 := boxB H3.out.box hb4
        clear b0 b1 bf0 bf1 row4 hb4
        obtain ⟨b0, b1, bf⟩ := cellsW B4
        have bf0 := bf 0
        have bf1 := bf 1
        clear B4 bf
        go_wp2_with fail
        exact ⟨⟨i + 1, _, _, rfl, by omega, HA4.out⟩, by simp [intOf]; omega⟩
    · have hin' : ¬ ((i : Int) < l.length) := by omega
      have hTl := hfa.len
      have HB0 : Hid (FarB base w wr (base + 1) bx st st T (.slice A1 T.length cap1)) := Lib.hid ⟨hfa.s, Nat.le_refl _, by have := HST.out; omega, fun x hx => (hfa.ids x hx).2, .inl rfl, by omega⟩
      clear hfa
      go_wp2_with fail
      go_loopw [11] (fun _ wr => ∃ (now : Nat) (T : List (Nat × Nat)) (v : Value), FarB base w wr (base + 1) bx st now T v) (fun _ wr => boxLen wr bx)
      case atStart => exact ⟨st, T, _, HB0.out⟩
      case round =>
        clear HB0 HFA
        obtain ⟨now, T, v, hfb⟩ := hrel
        obtain ⟨A5, cap5, rfl, -, hcell⟩ := hfb.s.row.opened
        have HFB := Lib.hid hfb
        obtain ⟨b0, b1, bf⟩ := cellsW hfb.s.box
        have HM := Lib.hid (boxLen_eq hfb.s.box)
        have hTl := hfb.len
        have hTl' : (T.length : Int) ≤ 60 := by omega
        by_cases hT0 : 0 < T.length
        · obtain ⟨g, rfl, -, hg1, hg2, hg3⟩ := hcell 0 hT0
          rw [Nat.zero_mul] at hg2 hg3
          have hT0' : (0 : Int) < T.length := by omega
          have hats := hfb.ats T[0] (List.getElem_mem hT0)
          have hlo := hfb.lo
          have HSO := Lib.hid hfb.s.wsorted
          have HRL := Lib.hid (rest_lt hT0)
          have HLT : Hid (st < T[0].2 → now < T[0].2) := Lib.hid fun h => by
            rcases hfb.later with e | e
            · omega
            · exact e _ (List.getElem_mem hT0)
          have HDN := Lib.hid (fun (t1 : Nat) (h : t1 < T[0].2) => due_none HSO.out hT0 h)
          clear hfb hcell bf
          obtain ⟨a, ha⟩ : ∃ a, a = T[0].2 := ⟨_, rfl⟩
          rw [← ha] at hg3 hats HRL HLT HDN
          replace ha := Lib.hid ha
          have ha63 := hats.2
          have hna := hats.1
          by_cases hgt : st < a
          · have hgt' : (st : Int) < a := by omega
            obtain ⟨a1, ha1⟩ : ∃ a1 : Nat, a1 = a - 1 := ⟨_, rfl⟩
            have hsub : (a : Int) - 1 = (a1 : Nat) := by omega
            obtain ⟨t1, ht1⟩ : ∃ t1 : Nat, t1 = max a1 now := ⟨_, rfl⟩
            have hmx : max (a1 : Int) (now : Int) = (t1 : Nat) := by omega
            have hnlt := HLT.out hgt
            have ht1a : t1 < a := by omega
            have ht1n : now ≤ t1 := by omega
            have ha0 : (0 : Int) ≤ a1 := by omega
            have hat1 : (1 : Int) ≤ a := by omega
            have ha64 : (a : Int) ≤ 9223372036854775807 := by omega
            obtain ⟨hdn, hrn⟩ := HDN.out t1 ht1a
            have HA1 := Lib.hid (HFB.out.s.adv (t := t1) ht1n (by omega) (by omega))
            rw [hdn, hrn] at HA1
            clear ha1 ht1 hnlt hdn hrn
            go_wp2_with fail
            refine HA1.out.mono ?_
            rintro e w6 ⟨u6, rfl, hl6, -, h6⟩
            obtain ⟨A6, cap6, rfl, -, -⟩ := hl6
            have H6 := Lib.hid h6
            have hn6 : t1 ≤ a := by omega
            clear h6 b0 b1 hg1 hg2 hg3
            have HAD := Lib.hid (H6.out.adv (t := a) hn6 ha63 (by omega))
            go_wp2_with fail
            refine HAD.out.mono ?_
            rintro e w7 ⟨u7, rfl, hl7, hu7, h7⟩
            obtain ⟨A7, cap7, rfl, -, -⟩ := id hl7
            have H7 := Lib.hid h7
            have HL7 := Lib.hid hl7
            have HU7 := Lib.hid hu7
            obtain ⟨b0, b1, bf⟩ := cellsW h7.box
            have HRA := Lib.hid (radv_any (now := now) (t := a) (by omega) HSO.out _ h7.row)
            clear h7 hl7 hu7 bf
            go_wp2_with fail
            refine HRA.out.mono ?_
            rintro e w8 ⟨hpost, hb8⟩
            rcases hpost with ⟨q1, -⟩ | ⟨-, q1, -⟩ | ⟨-, -, u8, v8, rfl, hl8, hu8, row8⟩
            · exact absurd q1 (by omega)
            · exact absurd q1 (by omega)
            · obtain ⟨A8, cap8, rfl, -, -⟩ := row8.opened
              obtain ⟨A9, cap9, rfl, -, -⟩ := id hl8
              obtain ⟨wb, hwb⟩ : ∃ wb, wb = w8.alloc (.cells #[.int .u64 (a : Nat), .slice A8 (restT T a).length cap8] 49) := ⟨_, rfl⟩
              have hbb : Below w8.heap.size w8 wb := by rw [hwb]; exact (Below.refl _ _).alloc (Nat.le_refl _) _
              have hhb : wb.heap[w8.heap.size]? = some (.cells #[.int .u64 (a : Nat), .slice A8 (restT T a).length cap8] 49 (0, 0)) := by rw [hwb]; exact heap_alloc_new w8 _
              obtain ⟨y0, y1, -⟩ := cellsW hhb
              obtain ⟨c0, c1, cf⟩ := cellsW (boxB (boxB H7.out.box hb8) hbb)
              have cf0 := cf 0
              have cf1 := cf 1
              obtain ⟨we, hwe⟩ : ∃ we, we = (wb.setCell ⟨bx, 0, none⟩ (.int .u64 (a : Nat))).setCell ⟨bx, 1, none⟩ (.slice A8 (restT T a).length cap8) := ⟨_, rfl⟩
              have HE : Hid (W1St base w we (base + 1) bx a (restT T a) a (restT T a) (.slice A8 (restT T a).length cap8)) := Lib.hid (by rw [hwe]; exact H7.out.stored hb8 row8 hbb)
              have hkb : KB wb we (fun g => g = bx) := by rw [hwe]; exact (kb_set wb bx 0 _).trans (kb_set _ bx 1 _) (fun j _ e => e)
              have HLE := Lib.hid (lies_keep ((HL7.out.later hb8).later hbb) HU7.out hkb)
              have HLM := Lib.hid (lies_keep (hl8.later hbb) (fun g hg => H7.out.vb g (hu8 g hg)) hkb)
              have HFE : Hid (FarB base w we (base + 1) bx st a (restT T a) (.slice A8 (restT T a).length cap8)) := Lib.hid ⟨HE.out, by omega, ha63, fun x hx => ⟨Nat.le_of_lt (restT_mem.1 hx).2, (HFB.out.ats x (restT_mem.1 hx).1).2⟩, .inr (fun x hx => (restT_mem.1 hx).2), by have := HRL.out; omega⟩
              have hdl : (dueT T a).length ≤ 60 := Nat.le_trans (List.length_filter_le _ _) hTl
              have HBK := Lib.hid (back_any (dueT T a) (by omega) _ we HLE.out)
              replace hwb := Lib.hid hwb
              replace hwe := Lib.hid hwe
              clear hhb hkb hl8 hu8 row8 hbb cf
              go_upto_region 23 with fail
              rw [← hwb.out]
              go_upto_region 24 with fail
              rw [← hwe.out]
              go_wp2_with fail
              refine HBK.out.mono ?_
              rintro e w9 ⟨v9, rfl, row9, hb9⟩
              have HEQ := Lib.hid (equal_same (dueT T a) (by omega) v9 _ w9 row9.lies (HLM.out.later hb9))
              have HF9 := Lib.hid (fun W (hW : Below w9.heap.size w9 W) => HE.out.later (hb9.trans (hW.mono hb9.size)))
              clear row9 hb9
              go_wp2_with fail
              refine HEQ.out.mono ?_
              rintro e w10 ⟨rfl, hb10⟩
              have HFX : Hid (FarB base w w10 (base + 1) bx st a (restT T a) (.slice A8 (restT T a).length cap8)) := Lib.hid ⟨HF9.out w10 hb10, HFE.out.lo, HFE.out.hi, HFE.out.ats, HFE.out.later, HFE.out.len⟩
              clear hb10
              go_wp2_with fail
              exact ⟨⟨a, _, _, HFX.out⟩, by rw [boxLen_eq HFX.out.s.box, HM.out]; exact HRL.out⟩
          · have hgt' : ¬ ((st : Int) < a) := by omega
            have H6 := Lib.hid HFB.out.s
            have hn6 : now ≤ a := hna
            have HAD := Lib.hid (H6.out.adv (t := a) hn6 ha63 (by omega))
            go_wp2_with fail
            refine HAD.out.mono ?_
            rintro e w7 ⟨u7, rfl, hl7, hu7, h7⟩
            obtain ⟨A7, cap7, rfl, -, -⟩ := id hl7
            have H7 := Lib.hid h7
            have HL7 := Lib.hid hl7
            have HU7 := Lib.hid hu7
            obtain ⟨b0, b1, bf⟩ := cellsW h7.box
            have HRA := Lib.hid (radv_any (now := now) (t := a) (by omega) HSO.out _ h7.row)
            clear h7 hl7 hu7 bf
            go_wp2_with fail
            refine HRA.out.mono ?_
            rintro e w8 ⟨hpost, hb8⟩
            rcases hpost with ⟨q1, -⟩ | ⟨-, q1, -⟩ | ⟨-, -, u8, v8, rfl, hl8, hu8, row8⟩
            · exact absurd q1 (by omega)
            · exact absurd q1 (by omega)
            · obtain ⟨A8, cap8, rfl, -, -⟩ := row8.opened
              obtain ⟨A9, cap9, rfl, -, -⟩ := id hl8
              obtain ⟨wb, hwb⟩ : ∃ wb, wb = w8.alloc (.cells #[.int .u64 (a : Nat), .slice A8 (restT T a).length cap8] 49) := ⟨_, rfl⟩
              have hbb : Below w8.heap.size w8 wb := by rw [hwb]; exact (Below.refl _ _).alloc (Nat.le_refl _) _
              have hhb : wb.heap[w8.heap.size]? = some (.cells #[.int .u64 (a : Nat), .slice A8 (restT T a).length cap8] 49 (0, 0)) := by rw [hwb]; exact heap_alloc_new w8 _
              obtain ⟨y0, y1, -⟩ := cellsW hhb
              obtain ⟨c0, c1, cf⟩ := cellsW (boxB (boxB H7.out.box hb8) hbb)
              have cf0 := cf 0
              have cf1 := cf 1
              obtain ⟨we, hwe⟩ : ∃ we, we = (wb.setCell ⟨bx, 0, none⟩ (.int .u64 (a : Nat))).setCell ⟨bx, 1, none⟩ (.slice A8 (restT T a).length cap8) := ⟨_, rfl⟩
              have HE : Hid (W1St base w we (base + 1) bx a (restT T a) a (restT T a) (.slice A8 (restT T a).length cap8)) := Lib.hid (by rw [hwe]; exact H7.out.stored hb8 row8 hbb)
              have hkb : KB wb we (fun g => g = bx) := by rw [hwe]; exact (kb_set wb bx 0 _).trans (kb_set _ bx 1 _) (fun j _ e => e)
              have HLE := Lib.hid (lies_keep ((HL7.out.later hb8).later hbb) HU7.out hkb)
              have HLM := Lib.hid (lies_keep (hl8.later hbb) (fun g hg => H7.out.vb g (hu8 g hg)) hkb)
              have HFE : Hid (FarB base w we (base + 1) bx st a (restT T a) (.slice A8 (restT T a).length cap8)) := Lib.hid ⟨HE.out, by omega, ha63, fun x hx => ⟨Nat.le_of_lt (restT_mem.1 hx).2, (HFB.out.ats x (restT_mem.1 hx).1).2⟩, .inr (fun x hx => (restT_mem.1 hx).2), by have := HRL.out; omega⟩
              have hdl : (dueT T a).length ≤ 60 := Nat.le_trans (List.length_filter_le _ _) hTl
              have HBK := Lib.hid (back_any (dueT T a) (by omega) _ we HLE.out)
              replace hwb := Lib.hid hwb
              replace hwe := Lib.hid hwe
              clear hhb hkb hl8 hu8 row8 hbb cf
              go_upto_region 23 with fail
              rw [← hwb.out]
              go_upto_region 24 with fail
              rw [← hwe.out]
              go_wp2_with fail
              refine HBK.out.mono ?_
              rintro e w9 ⟨v9, rfl, row9, hb9⟩
              have HEQ := Lib.hid (equal_same (dueT T a) (by omega) v9 _ w9 row9.lies (HLM.out.later hb9))
              have HF9 := Lib.hid (fun W (hW : Below w9.heap.size w9 W) => HE.out.later (hb9.trans (hW.mono hb9.size)))
              clear row9 hb9
              go_wp2_with fail
              refine HEQ.out.mono ?_
              rintro e w10 ⟨rfl, hb10⟩
              have HFX : Hid (FarB base w w10 (base + 1) bx st a (restT T a) (.slice A8 (restT T a).length cap8)) := Lib.hid ⟨HF9.out w10 hb10, HFE.out.lo, HFE.out.hi, HFE.out.ats, HFE.out.later, HFE.out.len⟩
              clear hb10
              go_wp2_with fail
              exact ⟨⟨a, _, _, HFX.out⟩, by rw [boxLen_eq HFX.out.s.box, HM.out]; exact HRL.out⟩
        · have hT0' : ¬ ((0 : Int) < T.length) := by omega
          have hTn : T = [] := List.eq_nil_of_length_eq_zero (by omega)
          subst hTn
          have HBL := Lib.hid hfb.s.bel
          have HW := Lib.hid hfb.s.hw
          have HDB := Lib.hid hfb.s.debw
          clear hfb hcell bf
          go_wp2_with fail
          refine (walive_any _ HDB.out).mono ?_
          rintro e w6 ⟨rfl, hb6⟩
          have HCT := Lib.hid ((HFB.out.s.later hb6).count)
          have HB6 := Lib.hid (HBL.out.trans (hb6.mono HW.out))
          clear hb6
          go_wp2_with fail
          refine HCT.out.mono ?_
          rintro e w7 ⟨rfl, rfl⟩
          go_wp2_with fail
          go_ret
          exact ⟨rfl, HB6.out⟩
end Wh
end Go.Proofs.YtkjlfoihojfnbaaDoor
