/- WheelSteps: the walk. -/
import Derived.Test.YtkjlfoihojfnbaaDoorWhU
import Derived.Test.YtkjlfoihojfnbaaDoorWhDb
import Derived.Test.YtkjlfoihojfnbaaDoorLoK
namespace Go.Proofs.YtkjlfoihojfnbaaDoor
open Go.RowKit
set_option linter.unusedVariables false
set_option linter.unusedSimpArgs false
namespace Wh
open Lo (IRow KB Lies LiesO below_drew bef bef_iff Deb back_any equal_same ItemsIn items_open)
variable {base a b bx xb na nb nm t last now : Nat} {w w' w0 wr w1 : World} {T TA TB G : List (Nat × Nat)} {v u : Value} {S S' : Nat → Prop}
theorem rsched2 (hT : T.length ≤ 900) (so : T.Pairwise bef) (v : Value) (x : Nat × Nat) (row : IRow 29 w base v T) (hbase : base ≤ w.heap.size) :
    Calls Tryd.prog 27 #[.agg #[.int .u64 (now : Nat), v], .int .u64 (x.1 : Nat), .int .u64 (x.2 : Nat)] w fun e w' => ∃ (v' : Value) (c : Int), e = .returned (.tuple #[.agg #[.int .u64 (now : Nat), v'], .int .i64 c]) ∧ IRow 29 w' base v' (schT T x) ∧ (∀ g, v'.ownBlock = some g → v.ownBlock = some g ∨ w.heap.size ≤ g) ∧ Below w.heap.size w w' := by
  refine (rsched_any hT so v x row).mono fun e w' ⟨hp, hb⟩ => ?_
  rcases hp with ⟨q1, he⟩ | ⟨q1, q2, he⟩ | ⟨q1, q2, v', he, row'⟩
  · refine ⟨v, _, he, ?_, fun g e => .inl e, hb⟩
    have e : schT T x = T := by unfold schT; rw [if_neg (by omega)]
    rw [e]; exact row.later hb
  · refine ⟨v, _, he, ?_, fun g e => .inl e, hb⟩
    have e : schT T x = T := by unfold schT; rw [if_pos q1, if_pos q2]
    rw [e]; exact row.later hb
  · refine ⟨v', _, he, ?_, fun g e => .inr (row'.lt g e).1, hb⟩
    have e : schT T x = insT T x := by unfold schT; rw [if_pos q1, if_neg (by rw [q2]; simp)]
    rw [e]; exact row'.base_le hbase
theorem W2St.start {w1 w2 w3 : World} (h : Whl w.heap.size w1 a na [] (fun g => w.heap.size ≤ g)) (h2 : Whl w1.heap.size w2 b nb [] (fun g => w1.heap.size ≤ g)) (hb1 : Below w.heap.size w w1) (hb2 : Below w1.heap.size w1 w2) (hb3 : Below w2.heap.size w2 w3) (hd : Deb w) :
    W2St w.heap.size w (w3.alloc (.cells #[.int .u64 (t : Nat), .slice none 0 0] 49)) a b w3.heap.size w3.heap.size na [] nb [] t [] (.slice none 0 0) [] (.slice none 0 0) := by
  have hz1 := hb1.size
  have hz2 := hb2.size
  have hz3 := hb3.size
  have hb4 : Below w2.heap.size w2 (w3.alloc (.cells #[.int .u64 (t : Nat), .slice none 0 0] 49)) := hb3.alloc hb3.size _
  have hz4 : (w3.alloc (.cells #[.int .u64 (t : Nat), .slice none 0 0] 49)).heap.size = w3.heap.size + 1 := World.size_alloc _ _
  refine ⟨⟨_, _, (h.cut.later hb2).later hb4, (h2.base_le hz1).cut.later hb4, fun g e e2 => ?_, fun g e => ?_⟩, IRow.nil _ _ _, IRow.nil _ _ _, fun g hg => (by cases hg), fun g hg => (by cases hg), heap_alloc_new w3 _, hb1.trans ((hb2.trans (hb4.mono hz2)).mono hz1), by omega, Nat.le_refl _, by omega, by omega, hd.2, hd⟩
  · have := e.2; have := e2.1; omega
  · rcases e with e | e
    · exact ⟨e.1, by have := e.2; omega, by have := e.2; omega, by have := e.2; omega, by simp [Value.ownBlock], by simp [Value.ownBlock]⟩
    · exact ⟨by have := e.1; omega, by have := e.2; omega, by have := e.2; omega, by have := e.2; omega, by simp [Value.ownBlock], by simp [Value.ownBlock]⟩
structure StepB (base : Nat) (w wr : World) (a b bx last : Nat) (T G TA : List (Nat × Nat)) (v u : Value) : Prop where
  s : W2St base w wr a b bx bx last TA 5 T 5 T v G u
  lo : 5 ≤ last
  hi : last ≤ 9223372036854775807
  split : T = G ++ TA
  le : ∀ x ∈ G, x.2 ≤ last
  len : T.length ≤ 60
theorem StepB.lens (h : StepB base w wr a b bx last T G TA v u) : G.length + TA.length ≤ 60 := by
  have := h.len
  rw [h.split, List.length_append] at this; exact this
theorem due_len (T : List (Nat × Nat)) (t : Nat) : (dueT T t).length ≤ T.length := List.length_filter_le _ _
theorem rest_len (T : List (Nat × Nat)) (t : Nat) : (restT T t).length ≤ T.length := List.length_filter_le _ _
theorem StepB.next (h : StepB base w wr a b bx last T G TA v u) (h1 : last ≤ t) (h2 : t ≤ 9223372036854775807) {u' : Value} (hs : W2St base w w' a b bx bx t (restT TA t) 5 T 5 T v (G ++ dueT TA t) u') : StepB base w w' a b bx t T (G ++ dueT TA t) (restT TA t) v u' :=
  ⟨hs, Nat.le_trans h.lo h1, h2, by rw [List.append_assoc, due_rest t TA h.s.sortedA]; exact h.split, fun x hx => by
    rcases List.mem_append.1 hx with e | e
    · exact Nat.le_trans (h.le x e) h1
    · exact (dueT_mem.1 e).2, h.len⟩
theorem StepB.fin (h : StepB base w wr a b bx last T G TA v u) : G ++ dueT TA last = dueT T last ∧ restT TA last = restT T last := by
  have e : T = (G ++ dueT TA last) ++ restT TA last := by rw [List.append_assoc, due_rest last TA h.s.sortedA]; exact h.split
  have := due_end (t := last) (D := G ++ dueT TA last) (R := restT TA last) (fun x hx => by
    rcases List.mem_append.1 hx with e | e
    · exact h.le x e
    · exact (dueT_mem.1 e).2) (fun x hx => (restT_mem.1 hx).2)
  rw [← e] at this
  exact ⟨this.1.symm, this.2.symm⟩
set_option maxRecDepth 100000 in
set_option maxHeartbeats 8000000 in
theorem steps_walk (A B : Option Addr) (capA capB : Nat) (items : List (Nat × Nat)) (l : List Nat) (w : World) (hia : ItemsIn w A capA items) (hib : TicksIn w B capB l) (hlen : items.length ≤ 60) (hlen2 : l.length ≤ 60) (hd : Deb w) :
    Calls Tryd.prog 5 #[.slice A items.length capA, .slice B l.length capB] w fun e w' => e = .returned (.bool true) ∧ Below w.heap.size w w' := by
  have HN := Lib.hid (fun W => wnew_any 5 5 (by omega) (by omega) W)
  have HR := Lib.hid (fun W => rnew_any 5 5 (by omega) W)
  obtain ⟨base, hbase⟩ : ∃ base, base = w.heap.size := ⟨_, rfl⟩
  have HBS := Lib.hid hbase
  have HD := Lib.hid hd
  have HIA := Lib.hid hia
  have HIB := Lib.hid hib
  have hlen' : (items.length : Int) ≤ 60 := by omega
  have hlen2' : (l.length : Int) ≤ 60 := by omega
  have hg1 : ¬ ((60 : Int) < items.length) := by omega
  have hg2 : ¬ ((60 : Int) < l.length) := by omega
  have hcapA := hia.1
  have hcapB := hib.1
  have HN1 := Lib.hid (HN.out w)
  rw [← hbase] at HN1 ⊢
  clear hd hia hib hbase
  go_enter Tryd.func5, Tryd.ntmps5
  go_wp2_with fail
  refine HN1.out.mono ?_
  rintro e w1 ⟨rfl, h1, hb1⟩
  have H1 := Lib.hid h1
  have HB1 := Lib.hid hb1
  clear h1 hb1
  go_wp2_with fail
  refine (HN.out w1).mono ?_
  rintro e w2 ⟨rfl, h2, hb2⟩
  have H2 := Lib.hid h2
  have HB2 := Lib.hid hb2
  obtain ⟨b, hb⟩ : ∃ b, b = w1.heap.size + 1 := ⟨_, rfl⟩
  rw [← hb]
  rw [← hb] at H2
  replace hb := Lib.hid hb
  clear h2 hb2
  go_wp2_with fail
  refine (HR.out w2).mono ?_
  rintro e w3 ⟨rfl, hb3⟩
  obtain ⟨wm, hwm⟩ : ∃ wm, wm = w3.alloc (.cells #[.int .u64 5, .slice none 0 0] 49) := ⟨_, rfl⟩
  have HA0 : Hid (W2St base w wm (base + 1) b w3.heap.size w3.heap.size 5 [] 5 [] 5 [] (.slice none 0 0) [] (.slice none 0 0)) := Lib.hid (by
    have hs := HBS.out
    subst hs
    rw [hwm]
    exact W2St.start H1.out H2.out HB1.out HB2.out hb3 HD.out)
  obtain ⟨bx, hbx⟩ : ∃ bx, bx = w3.heap.size := ⟨_, rfl⟩
  rw [← hbx] at HA0
  replace hbx := Lib.hid hbx
  replace hwm := Lib.hid hwm
  clear hb3 H1 H2 HB1 HB2
  go_upto_region 5 with fail
  rw [← hwm.out, ← hbx.out]
  clear hbx hwm
  go_wp2_with fail
  go_loopw [53] (fun vi wr => ∃ (i : Nat) (T : List (Nat × Nat)) (v : Value), vi = .int .i64 (i : Int) ∧ i ≤ items.length ∧ T.length ≤ i ∧ W2St base w wr (base + 1) b bx bx 5 T 5 T 5 T v [] (.slice none 0 0)) (fun vi _ => items.length + 1 - (intOf vi).toNat)
  case atStart => exact ⟨0, _, _, rfl, by omega, Nat.le_refl _, HA0.out⟩
  case round =>
    obtain ⟨i, T, v, rfl, hi, hTl, hs⟩ := hrel
    rename_i wr
    obtain ⟨A1, cap1, rfl, -, -⟩ := hs.row.opened
    by_cases hin : i < items.length
    · obtain ⟨g, o, rfl, hg1, hg2, hg3⟩ := HIA.out.2.2 i hin
      have HXS := Lib.hid (HIA.out.2.1 _ (List.getElem_mem hin))
      have hg2 := (hs.bel.cell (p := ⟨g, o + i * 2, none⟩) (by rw [HBS.out]; exact hg1)).trans hg2
      have hg3 := (hs.bel.cell (p := ⟨g, o + (i * 2 + 1), none⟩) (by rw [HBS.out]; exact hg1)).trans hg3
      rw [show o + (i * 2 + 1) = o + i * 2 + 1 by omega] at hg3
      have hin' : (i : Int) < items.length := by omega
      generalize items[i] = x at *
      obtain ⟨wb, hwb⟩ : ∃ wb, wb = wr.alloc (.cells #[.int .u64 (x.1 : Nat), .int .u64 (x.2 : Nat)] 29) := ⟨_, rfl⟩
      have hbb : Below wr.heap.size wr wb := by rw [hwb]; exact (Below.refl _ _).alloc (Nat.le_refl _) _
      have HBH : Hid (wb.heap[wr.heap.size]? = some (.cells #[.int .u64 (x.1 : Nat), .int .u64 (x.2 : Nat)] 29 (0, 0))) := Lib.hid (by rw [hwb]; exact heap_alloc_new wr _)
      have HXB : Hid (∀ W : World, W.heap[wr.heap.size]? = wb.heap[wr.heap.size]? → W.cell? ⟨wr.heap.size, 0, none⟩ = some (.int .u64 (x.1 : Nat)) ∧ W.cell? ⟨wr.heap.size, 1, none⟩ = some (.int .u64 (x.2 : Nat))) := Lib.hid fun W hW => let q := cellsW (hW.trans HBH.out); ⟨q.1, q.2.1⟩
      have hs1 := hs.other hbb (x2 := wr.heap.size) (Nat.le_refl _) (by rw [hwb, World.size_alloc]; omega)
      have HS1 := Lib.hid hs1
      have HSA := Lib.hid (hs1.sched x HXS.out (by omega))
      obtain ⟨y0, y1⟩ := HXB.out wb rfl
      replace hwb := Lib.hid hwb
      clear hs hs1 hbb hg1
      go_upto_region 8 with fail
      rw [← hwb.out]
      clear hg2 hg3 hwb
      go_wp2_with fail
      refine HSA.out.mono ?_
      rintro e w4 ⟨⟨c, rfl⟩, hs4, hx4⟩
      have HS4 := Lib.hid hs4
      have HX4 := Lib.hid hx4
      have HSB := Lib.hid (hs4.swap.sched x HXS.out (by omega))
      clear y0 y1
      obtain ⟨y0, y1⟩ := HXB.out w4 hx4
      clear hs4 hx4
      go_wp2_with fail
      refine HSB.out.mono ?_
      rintro e w5 ⟨⟨c2, rfl⟩, hs5, hx5⟩
      have HS5 := Lib.hid hs5.swap
      clear y0 y1
      obtain ⟨y0, y1⟩ := HXB.out w5 (hx5.trans HX4.out)
      obtain ⟨b0, b1, bf⟩ := cellsW hs5.box
      have HRS := Lib.hid (rsched2 (now := 5) (by omega) HS1.out.sortedA (.slice A1 T.length cap1) x hs5.row hs5.hw)
      clear hs5 hx5 bf
      go_wp2_with fail
      refine HRS.out.mono ?_
      rintro e w6 ⟨v6, c3, rfl, row6, hv6, hb6⟩
      have hb6z := boxB HS5.out.box hb6
      clear y0 y1 b0 b1
      obtain ⟨b0, b1, bf⟩ := cellsW hb6z
      have bf0 := bf 0
      have bf1 := bf 1
      obtain ⟨A6, cap6, rfl, -, -⟩ := row6.opened
      have HS6 := Lib.hid (HS5.out.stored (nm' := 5) hb6 row6 hv6)
      have hsl := schT_len T x
      clear bf hb6z row6 hv6 hb6
      go_wp2_with fail
      exact ⟨⟨i + 1, _, _, rfl, by omega, by omega, HS6.out⟩, by simp [intOf]; omega⟩
    · have hin' : ¬ ((i : Int) < items.length) := by omega
      have HB0 : Hid (StepB base w wr (base + 1) b bx 5 T [] T (.slice A1 T.length cap1) (.slice none 0 0)) := Lib.hid ⟨hs, Nat.le_refl _, by omega, rfl, fun x hx => by simp at hx, by omega⟩
      clear hs
      go_wp2_with fail
      go_loopw [10, 11, 81] (fun vG vL vj wr => ∃ (j last : Nat) (G TA : List (Nat × Nat)), vL = .int .u64 (last : Nat) ∧ vj = .int .i64 (j : Int) ∧ j ≤ l.length ∧ StepB base w wr (base + 1) b bx last T G TA (.slice A1 T.length cap1) vG) (fun _ _ vj _ => l.length + 1 - (intOf vj).toNat)
      case atStart => exact ⟨0, 5, [], T, rfl, rfl, by omega, HB0.out⟩
      case round =>
        clear HB0
        obtain ⟨j, last, G, TA, rfl, rfl, hj, hb⟩ := hrel
        obtain ⟨A2, cap2, rfl, -, -⟩ := hb.s.got.opened
        have HSB := Lib.hid hb
        have hlens := hb.lens
        by_cases hjn : j < l.length
        · obtain ⟨g, o, rfl, hg1, hg2⟩ := HIB.out.2.2 j hjn
          have hx64 := HIB.out.2.1 _ (List.getElem_mem hjn)
          have hg2 := (hb.s.bel.cell (p := ⟨g, o + j, none⟩) (by rw [HBS.out]; exact hg1)).trans hg2
          have hjn' : (j : Int) < l.length := by omega
          generalize l[j] = t at *
          by_cases h1 : last ≤ t
          · have h1' : (last : Int) ≤ t := by omega
            by_cases h2 : t ≤ 9223372036854775807
            · have h2' : (t : Int) ≤ 9223372036854775807 := by omega
              have HAD := Lib.hid (hb.s.adv (t := t) h1 h2 (by omega))
              have hd1 := due_len TA t
              obtain ⟨G', hG'⟩ : ∃ G', G' = G ++ dueT TA t := ⟨_, rfl⟩
              have HG := Lib.hid hG'
              clear hb hG'
              go_wp2_with fail
              refine HAD.out.mono ?_
              rintro e w4 ⟨q4, rfl, hl4, hs4⟩
              obtain ⟨A4, cap4, rfl, -, -⟩ := id hl4
              have HL4 := Lib.hid hl4
              have HS4 := Lib.hid hs4
              clear hl4 hs4 hg1 hg2
              go_wp2_with (at_builtin; refine wpList_append_itemsL _ rfl _ _ rfl base _ _ G (dueT TA t) rfl rfl HS4.out.got HL4.out (by omega) HS4.out.hw ?_; intro v5 w5 row5 hg5 ho5; have hs5 := HSB.out.next h1 h2 (HS4.out.more row5 hg5 ho5); rw [← HG.out] at row5 hs5; obtain ⟨A5, cap5, rfl, -, -⟩ := row5.opened; have HS5 := Lib.hid hs5; clear row5 hg5 ho5 hs5)
              exact ⟨⟨j + 1, t, _, _, rfl, rfl, by omega, HS5.out⟩, by simp [intOf]; omega⟩
            · have h2' : ¬ ((t : Int) ≤ 9223372036854775807) := by omega
              clear hb
              go_wp2_with fail
              exact ⟨⟨j + 1, last, G, TA, rfl, rfl, by omega, HSB.out⟩, by simp [intOf]; omega⟩
          · have h1' : ¬ ((last : Int) ≤ t) := by omega
            clear hb
            go_wp2_with fail
            exact ⟨⟨j + 1, last, G, TA, rfl, rfl, by omega, HSB.out⟩, by simp [intOf]; omega⟩
        · have hjn' : ¬ ((j : Int) < l.length) := by omega
          obtain ⟨hfin1, hfin2⟩ := hb.fin
          have HF1 := Lib.hid hfin1
          have HF2 := Lib.hid hfin2
          have HAD := Lib.hid (hb.s.adv (t := last) (Nat.le_refl _) hb.hi (by omega))
          have hd1 := due_len TA last
          have hd2 := due_len T last
          have hlT := hb.len
          have hlo := hb.lo
          have hhi := hb.hi
          clear hb hfin1 hfin2
          go_wp2_with fail
          refine HAD.out.mono ?_
          rintro e w4 ⟨q4, rfl, hl4, hs4⟩
          obtain ⟨A4, cap4, rfl, -, -⟩ := id hl4
          have HL4 := Lib.hid hl4
          have HS4 := Lib.hid hs4
          clear hl4 hs4
          go_wp2_with (at_builtin; refine wpList_append_itemsL _ rfl _ _ rfl base _ _ G (dueT TA last) rfl rfl HS4.out.got HL4.out (by omega) HS4.out.hw ?_; intro v5 w5 row5 hg5 ho5; rw [HF1.out] at row5; obtain ⟨A5, cap5, rfl, -, -⟩ := row5.opened; have HS5 := Lib.hid (HS4.out.more row5 hg5 ho5); rw [HF2.out] at HS5; have HBD := Lib.hid (HS5.out.swap.adv (t := last) hlo hhi (by omega)); clear row5 hg5 ho5 HS4)
          refine HBD.out.mono ?_
          rintro e w6 ⟨q6, rfl, hl6, hs6⟩
          obtain ⟨A6, cap6, rfl, -, -⟩ := id hl6
          have HL6 := Lib.hid hl6
          have HS6 := Lib.hid hs6.swap
          obtain ⟨b0, b1, bf⟩ := cellsW hs6.box
          have HRA := Lib.hid (radv_any (now := 5) (t := last) (by omega) HSB.out.s.swap.sortedA _ hs6.row)
          clear hl6 hs6 bf
          go_wp2_with fail
          refine HRA.out.mono ?_
          rintro e w7 ⟨hpost, hb7⟩
          rcases hpost with ⟨q1, -⟩ | ⟨-, q1, -⟩ | ⟨-, -, u8, v8, rfl, hl8, -, row8⟩
          · exact absurd q1 (by omega)
          · exact absurd q1 (by omega)
          · obtain ⟨A8, cap8, rfl, -, -⟩ := row8.opened
            obtain ⟨A9, cap9, rfl, -, -⟩ := id hl8
            obtain ⟨wb, hwb⟩ : ∃ wb, wb = w7.alloc (.cells #[.int .u64 (last : Nat), .slice A8 (restT T last).length cap8] 49) := ⟨_, rfl⟩
            have hbb : Below w7.heap.size w7 wb := by rw [hwb]; exact (Below.refl _ _).alloc (Nat.le_refl _) _
            have HL8 := Lib.hid (hl8.later hbb)
            have HLB := Lib.hid ((HL6.out.later hb7).later hbb)
            have HS8 := Lib.hid ((HS6.out.later hb7).later hbb)
            replace hwb := Lib.hid hwb
            clear hl8 row8 hb7 hbb b0 b1
            go_upto_region 27 with fail
            rw [← hwb.out]
            clear hwb
            go_wp2_with fail
            refine (walive_any _ HS8.out.debw).mono ?_
            rintro e w10 ⟨rfl, hb10⟩
            have HS10 := Lib.hid (HS8.out.later hb10)
            have HL10 := Lib.hid (HL8.out.later hb10)
            have HLB10 := Lib.hid (HLB.out.later hb10)
            have HE1 := Lib.hid (equal_sameL (dueT T last) (by omega) _ _ w10 HS10.out.got.lies HLB10.out)
            clear hb10
            go_wp2_with fail
            refine HE1.out.mono ?_
            rintro e w11 ⟨rfl, hb11⟩
            have HS11 := Lib.hid (HS10.out.later hb11)
            have HL11 := Lib.hid (HL10.out.later hb11)
            have HBK := Lib.hid (back_any (dueT T last) (by omega) _ w11 (HLB10.out.later hb11))
            clear hb11
            go_wp2_with fail
            refine HBK.out.mono ?_
            rintro e w12 ⟨v12, rfl, row12, hb12⟩
            have HS12 := Lib.hid (HS11.out.later hb12)
            have HE2 := Lib.hid (equal_same (dueT T last) (by omega) v12 _ w12 row12.lies (HL11.out.later hb12))
            clear row12 hb12
            go_wp2_with fail
            refine HE2.out.mono ?_
            rintro e w13 ⟨rfl, hb13⟩
            have HS13 := Lib.hid (HS12.out.later hb13)
            have HNA := Lib.hid HS13.out.now
            have HNB := Lib.hid HS13.out.swap.now
            have HCA := Lib.hid HS13.out.count
            have HCB := Lib.hid HS13.out.swap.count
            have HBL := Lib.hid HS13.out.bel
            clear hb13
            go_wp2_with fail
            refine HNA.out.mono ?_
            rintro e w14 ⟨rfl, rfl⟩
            go_wp2_with fail
            refine HNB.out.mono ?_
            rintro e w14 ⟨rfl, rfl⟩
            go_wp2_with fail
            refine HCA.out.mono ?_
            rintro e w14 ⟨rfl, rfl⟩
            go_wp2_with fail
            refine HCB.out.mono ?_
            rintro e w14 ⟨rfl, rfl⟩
            go_wp2_with fail
            go_ret
            exact ⟨rfl, HBL.out⟩
set_option maxRecDepth 100000 in
set_option maxHeartbeats 8000000 in
theorem steps_long (A B : Option Addr) (capA capB lenA lenB : Nat) (w : World) (hma : lenA ≤ 9223372036854775807) (hmb : lenB ≤ 9223372036854775807) (hlen : 60 < lenA ∨ 60 < lenB) (hd : Deb w) :
    Calls Tryd.prog 5 #[.slice A lenA capA, .slice B lenB capB] w fun e w' => e = .returned (.bool true) ∧ Below w.heap.size w w' := by
  have HN := Lib.hid (fun W => wnew_any 5 5 (by omega) (by omega) W)
  have HA := Lib.hid (fun W (h : Deb W) => walive_any W h)
  have HD := Lib.hid hd
  have hma' : (lenA : Int) ≤ 9223372036854775807 := by omega
  have hmb' : (lenB : Int) ≤ 9223372036854775807 := by omega
  clear hd
  by_cases hA : 60 < lenA
  · have hg : (60 : Int) < lenA := by omega
    clear hlen
    go_enter Tryd.func5, Tryd.ntmps5
    go_wp2_with fail
    refine (HN.out w).mono ?_
    rintro e w1 ⟨rfl, -, hb1⟩
    have HB1 := Lib.hid hb1
    clear hb1
    go_wp2_with fail
    refine (HN.out w1).mono ?_
    rintro e w2 ⟨rfl, -, hb2⟩
    have HB2 := Lib.hid (HB1.out.trans (hb2.mono HB1.out.size))
    clear hb2
    go_wp2_with fail
    refine (HA.out w2 (deb_ge HD.out HD.out.2 HB2.out (Nat.le_refl _))).mono ?_
    rintro e w3 ⟨rfl, hb3⟩
    have HB3 := Lib.hid (HB2.out.trans (hb3.mono HB2.out.size))
    clear hb3
    go_wp2_with fail
    go_ret
    exact ⟨rfl, HB3.out⟩
  · have hg : (60 : Int) < lenB := by omega
    have hg0 : ¬ ((60 : Int) < lenA) := by omega
    clear hlen
    go_enter Tryd.func5, Tryd.ntmps5
    go_wp2_with fail
    refine (HN.out w).mono ?_
    rintro e w1 ⟨rfl, -, hb1⟩
    have HB1 := Lib.hid hb1
    clear hb1
    go_wp2_with fail
    refine (HN.out w1).mono ?_
    rintro e w2 ⟨rfl, -, hb2⟩
    have HB2 := Lib.hid (HB1.out.trans (hb2.mono HB1.out.size))
    clear hb2
    go_wp2_with fail
    refine (HA.out w2 (deb_ge HD.out HD.out.2 HB2.out (Nat.le_refl _))).mono ?_
    rintro e w3 ⟨rfl, hb3⟩
    have HB3 := Lib.hid (HB2.out.trans (hb3.mono HB2.out.size))
    clear hb3
    go_wp2_with fail
    go_ret
    exact ⟨rfl, HB3.out⟩
set_option maxRecDepth 100000 in
open Go.ChangeShapes Go.WideShapes Go.ChangeAt Go.ChangeMaps in
theorem steps_open {H : Type} {enc : TypeId × Value → H} {base b1 : Nat} {spare : Nat → Bool} {held : Bool} {d0 d1 : DataW H} {p0 p1 : List MemPlace} (v0 v1 : Value) (W : World)
    (o0 : Value.okWide Tryd.prog W .any base 26 v0) (k0 : DataW.Trod enc Tryd.prog W b1 spare held 26 v0 d0 p0)
    (o1 : Value.okWide Tryd.prog W .any base 45 v1) (k1 : DataW.Trod enc Tryd.prog W b1 spare held 45 v1 d1 p1) (hL : laidMetH Tryd.prog Rows.wheelStepsRow.laid W) :
    Calls Tryd.prog 5 #[v0, v1] W fun e w' => e = .returned (.bool true) ∧ Below W.heap.size W w' := by
  obtain ⟨items, A, cap, rfl, hia, hma⟩ := items_open v0 W o0 k0
  obtain ⟨l, B, capB, rfl, hib, hmb⟩ := ticks_open v1 W o1 k1
  have hd : Deb W := deb_of_laid (by kernel_rfl) hL
  by_cases h : items.length ≤ 60 ∧ l.length ≤ 60
  · exact steps_walk A B cap capB items l W hia hib h.1 h.2 hd
  · exact steps_long A B cap capB items.length l.length W hma hmb (by omega) hd
end Wh
end Go.Proofs.YtkjlfoihojfnbaaDoor
