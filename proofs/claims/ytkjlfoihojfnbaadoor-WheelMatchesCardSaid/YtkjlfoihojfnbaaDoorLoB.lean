/- Rows of items; Put. -/
import Derived.Test.YtkjlfoihojfnbaaDoorLoA
namespace Go.Proofs.YtkjlfoihojfnbaaDoor
open Go.RowKit
set_option linter.unusedVariables false
namespace Lo
open Lv (W64 slotOf slotOf_lt fresh ret_int slot_any)
open Ln (lvCells LV upd only_set only_refl only_drew)
def itc (x : Nat × Nat) : List Value := [.int .u64 x.1, .int .u64 x.2]
def itcs (l : List (Nat × Nat)) : List Value := l.flatMap itc
theorem itcs_len : ∀ l, (itcs l).length = l.length * 2
  | [] => rfl
  | x :: l => by
    have ih := itcs_len l
    simp only [itcs, List.flatMap_cons, List.length_append, List.length_cons] at ih ⊢
    rw [ih]; simp [itc]; omega
theorem itcs_get : ∀ (l : List (Nat × Nat)) (j : Nat) (h : j < l.length), (itcs l)[j * 2]? = some (.int .u64 (l[j].1 : Nat)) ∧ (itcs l)[j * 2 + 1]? = some (.int .u64 (l[j].2 : Nat))
  | x :: l, 0, _ => ⟨rfl, rfl⟩
  | x :: l, j + 1, h => by
    have ih := itcs_get l j (by simpa using h)
    have e : itcs (x :: l) = .int .u64 (x.1 : Nat) :: .int .u64 (x.2 : Nat) :: itcs l := rfl
    rw [e, show (j + 1) * 2 = j * 2 + 1 + 1 by omega]
    simpa using ih
theorem itcs_app (l : List (Nat × Nat)) (x : Nat × Nat) : itcs (l ++ [x]) = itcs l ++ [.int .u64 (x.1 : Nat), .int .u64 (x.2 : Nat)] := by simp [itcs, itc]
/-- Items in a row of the call's own. -/
def IRow (T : TypeId) (w : World) (base : Nat) (v : Value) (l : List (Nat × Nat)) : Prop := w.ownsRow base T 2 v l.length (itcs l)
theorem IRow.nil (T : TypeId) (w : World) (base : Nat) : IRow T w base (.slice none 0 0) [] := ⟨rfl, .inl ⟨rfl, rfl⟩⟩
theorem IRow.keep {T : TypeId} {w w' : World} {base : Nat} {v : Value} {l : List (Nat × Nat)} (h : IRow T w base v l) (hk : ∀ g, v.ownBlock = some g → w'.heap[g]? = w.heap[g]?) : IRow T w' base v l := by
  refine ⟨h.1, ?_⟩
  rcases h.2 with h | ⟨g, cap, cur, q1, q2, q3, q4⟩
  · exact .inl h
  · exact .inr ⟨g, cap, cur, q1, q2, (hk g (by rw [q1]; rfl)).trans q3, q4⟩
theorem IRow.lt {T : TypeId} {w : World} {base : Nat} {v : Value} {l : List (Nat × Nat)} (h : IRow T w base v l) : ∀ g, v.ownBlock = some g → base ≤ g ∧ g < w.heap.size := by
  intro g hg
  rcases h.2 with ⟨h1, -⟩ | ⟨g', cap, cur, q1, q2, q3, q4⟩
  · rw [h1] at hg; cases hg
  · rw [q1] at hg; cases hg; exact ⟨q2, (Array.getElem?_eq_some_iff.1 q3).1⟩
theorem IRow.later {T : TypeId} {w w' : World} {base : Nat} {v : Value} {l : List (Nat × Nat)} (h : IRow T w base v l) (hb : Below w.heap.size w w') : IRow T w' base v l :=
  h.keep fun g hg => hb.block g (h.lt g hg).2
theorem IRow.opened {T : TypeId} {w : World} {base : Nat} {v : Value} {l : List (Nat × Nat)} (h : IRow T w base v l) : ∃ A cap, v = .slice A l.length cap ∧ l.length ≤ cap ∧
    ∀ (j : Nat) (hj : j < l.length), ∃ g, A = some ⟨g, 0, none⟩ ∧ base ≤ g ∧ g < w.heap.size ∧ w.cell? ⟨g, j * 2, none⟩ = some (.int .u64 (l[j].1 : Nat)) ∧ w.cell? ⟨g, j * 2 + 1, none⟩ = some (.int .u64 (l[j].2 : Nat)) := by
  rcases h.2 with ⟨h1, h2⟩ | ⟨g, cap, cur, q1, q2, q3, q4, q5, q6, q7⟩
  · exact ⟨none, 0, by rw [h1, h2], by omega, fun j hj => by omega⟩
  · refine ⟨_, cap, q1, q4, fun j hj => ⟨g, rfl, q2, (Array.getElem?_eq_some_iff.1 q3).1, ?_, ?_⟩⟩
    all_goals
      simp only [World.cell?, q3]
      rw [← Array.getElem?_toList]
    · rw [← List.getElem?_take_of_lt (l := cur.toList) (j := l.length * 2) (by omega), q7]; exact (itcs_get l j hj).1
    · rw [← List.getElem?_take_of_lt (l := cur.toList) (j := l.length * 2) (by omega), q7]; exact (itcs_get l j hj).2
/-- All stands but what S names. -/
structure KB (w w' : World) (S : Nat → Prop) : Prop where
  os : w'.os = w.os
  tape : w'.tape = w.tape
  output : w'.output = w.output
  size : w.heap.size ≤ w'.heap.size
  block : ∀ j, j < w.heap.size → ¬ S j → w'.heap[j]? = w.heap[j]?
theorem KB.of_below {w w' : World} (S : Nat → Prop) (h : Below w.heap.size w w') : KB w w' S := ⟨h.os, h.tape, h.output, h.size, fun j hj _ => h.block j hj⟩
theorem KB.of_grown {w w' : World} {o : Option Nat} (S : Nat → Prop) (h : w.grownBy w' o) (hs : ∀ g, o = some g → S g) : KB w w' S :=
  ⟨h.os, h.tape, h.output, h.size, fun j hj hn => h.block j hj (fun e => hn (hs j e.symm))⟩
theorem KB.trans {w w' w2 : World} {S S' : Nat → Prop} (h : KB w w' S) (h' : KB w' w2 S') (hs : ∀ j, j < w.heap.size → S' j → S j) : KB w w2 S :=
  ⟨h'.os.trans h.os, h'.tape.trans h.tape, h'.output.trans h.output, Nat.le_trans h.size h'.size, fun j hj hn => (h'.block j (Nat.lt_of_lt_of_le hj h.size) (fun e => hn (hs j hj e))).trans (h.block j hj hn)⟩
theorem KB.below {w w' : World} {S : Nat → Prop} {B : Nat} (h : KB w w' S) (hB : B ≤ w.heap.size) (hs : ∀ j, S j → B ≤ j) : Below B w w' :=
  ⟨h.os, h.tape, h.output, h.size, fun j hj => h.block j (by omega) (fun e => by have := hs j e; omega)⟩
theorem Tryd.infoI2 : (Tryd.prog.info? 34).map (fun i => (i.zero, i.size, i.bytes)) = some (some (.agg #[.int .u64 0, .int .u64 0]), 2, 16) := by kernel_rfl
variable {w : World} {b k : Nat} {f : Nat → Value}
/-- What is there behind a Put that put. -/
def PutOut (w w' : World) (base b k : Nat) (f : Nat → Value) (m s : Nat) (l : List (Nat × Nat)) (x : Nat × Nat) : Prop :=
  ∃ v', IRow 34 w' base v' (l ++ [x]) ∧ LV w' b k (upd f s v') (marked m s (l.length + 1) : Nat) ∧ KB w w' (fun g => g = b ∨ (f s).ownBlock = some g) ∧ (∀ g, v'.ownBlock = some g → (f s).ownBlock = some g ∨ w.heap.size ≤ g)
theorem put_fin {base m s g cap' : Nat} {l : List (Nat × Nat)} {x : Nat × Nat} {wr w' w9 : World} {Z : Obj} (hb : Below w.heap.size w wr) (hgrow : (wr.drew.alloc Z).grownBy w' (f s).ownBlock)
    (hown : w'.ownsRow base 34 2 (.slice (some ⟨g, 0, none⟩) (l.length + 1) cap') (l.length + 1) (itcs l ++ [.int .u64 (x.1 : Nat), .int .u64 (x.2 : Nat)]))
    (hat : (f s).ownBlock = some g ∨ g = (wr.drew.alloc Z).heap.size) (hne : ∀ g, (f s).ownBlock = some g → g ≠ b) (hblt : b < w.heap.size)
    (hg9 : (w'.setCell ⟨b, 1 + s, none⟩ (.slice (some ⟨g, 0, none⟩) (l.length + 1) cap')).grownBy w9 (some b)) (hlv : LV w9 b k (upd f s (.slice (some ⟨g, 0, none⟩) (l.length + 1) cap')) (marked m s (l.length + 1) : Nat)) : PutOut w w9 base b k f m s l x := by
  have hz : (wr.drew.alloc Z).heap.size = wr.heap.size + 1 := by rw [World.size_alloc]; rfl
  have hs0 := hb.size
  have hgb : g ≠ b := by
    rcases hat with h | h
    · exact hne g h
    · omega
  have hz2 := hgrow.size
  have hz3 : (w'.setCell ⟨b, 1 + s, none⟩ (.slice (some ⟨g, 0, none⟩) (l.length + 1) cap')).heap.size = w'.heap.size := by simp [World.setCell]
  have row' : IRow 34 w' base (.slice (some ⟨g, 0, none⟩) (l.length + 1) cap') (l ++ [x]) := by
    unfold IRow
    rw [itcs_app, List.length_append]
    exact hown
  refine ⟨_, row'.keep fun g' hg' => ?_, hlv, ?_, fun g' hg' => ?_⟩
  · cases hg'
    have hlt : g < w'.heap.size := (row'.lt g rfl).2
    show w9.heap[g]? = w'.heap[g]?
    rw [hg9.block g (by rw [hz3]; exact hlt) (by simpa using hgb), Below.heap_setCell _ _ _ _ (by simpa using hgb)]
  · have k1 : KB w (wr.drew.alloc Z) (fun g => g = b ∨ (f s).ownBlock = some g) := KB.of_below _ ((hb.trans (Below.refl wr.heap.size wr |>.alloc (Nat.le_refl _) Z |>.mono hb.size)).trans (Below.mk rfl rfl rfl (Nat.le_refl _) (fun _ _ => rfl)))
    have k2 := k1.trans (KB.of_grown (fun g => (f s).ownBlock = some g) hgrow (fun g h => h)) (fun j _ h => .inr h)
    have k3 := k2.trans (KB.of_grown (fun g => g = b) (only_set w' w' b (1 + s) (.slice (some ⟨g, 0, none⟩) (l.length + 1) cap') (only_refl w' b)) (fun g h => (by cases h; rfl))) (fun j _ h => .inl h)
    exact k3.trans (KB.of_grown (fun g => g = b) hg9 (fun g h => (by cases h; rfl))) (fun j _ h => .inl h)
  · cases hg'
    rcases hat with h | h
    · exact .inl h
    · exact .inr (show w.heap.size ≤ g by omega)
set_option maxRecDepth 100000 in
set_option maxHeartbeats 2000000 in
theorem put_any (x : Nat × Nat) (hk : k ≤ 3) (ha : x.2 < 18446744073709551616) (base m : Nat) (l : List (Nat × Nat)) (hbase : base ≤ w.heap.size) (hl : l.length ≤ 1000) (hm : m < 18446744073709551616)
    (row : IRow 34 w base (f (slotOf k x.2)) l) (hne : ∀ g, (f (slotOf k x.2)).ownBlock = some g → g ≠ b) (r : LV w b k f m) :
    Calls Tryd.prog 12 #[.pointer (some ⟨b, 0, none⟩), .agg #[.int .u64 (x.1 : Nat), .int .u64 (x.2 : Nat)]] w fun e w' =>
      (e = .returned (.bool false) ∧ x ∈ l ∧ Below w.heap.size w w') ∨ (e = .returned (.bool true) ∧ x ∉ l ∧ PutOut w w' base b k f m (slotOf k x.2) l x) := by
  obtain ⟨i0, hi0, hz0, hz1, hz2⟩ := info_parts Tryd.infoI2
  obtain ⟨W0, hW0⟩ : ∃ W0, W0 = w.alloc (.cells #[.int .u64 (x.1 : Nat), .int .u64 (x.2 : Nat)] 34) := ⟨_, rfl⟩
  have hb0 : Below w.heap.size w W0 := by rw [hW0]; exact (Below.refl _ _).alloc (Nat.le_refl _) _
  have hx0 : W0.heap[w.heap.size]? = some (.cells #[.int .u64 (x.1 : Nat), .int .u64 (x.2 : Nat)] 34 (0, 0)) := by rw [hW0]; exact heap_alloc_new w _
  have hzw : w.heap.size < W0.heap.size := by rw [hW0]; simp
  have HXX : Hid (∀ W, Below W0.heap.size W0 W → W.cell? ⟨w.heap.size, 0, none⟩ = some (.int .u64 (x.1 : Nat)) ∧ W.cell? ⟨w.heap.size, 1, none⟩ = some (.int .u64 (x.2 : Nat))) := Lib.hid fun W hW => by
    have h := (hW.block w.heap.size hzw).trans hx0
    exact ⟨by simp [World.cell?, h], by simp [World.cell?, h]⟩
  obtain ⟨x0, x1⟩ := HXX.out W0 (Below.refl _ _)
  have r0 : LV W0 b k f m := r.later hb0 r.lt
  have hlt := r0.lt
  have hblt := r.lt
  have hs := slotOf_lt k x.2
  have HS := Lib.hid (slot_any k hk b x.2 ha W0 r0.n)
  obtain ⟨s, hse⟩ : ∃ s, s = slotOf k x.2 := ⟨_, rfl⟩
  rw [← hse] at hs HS row hne ⊢
  have row0 := row.later hb0
  obtain ⟨A, cap, hfs, hcap, hcells⟩ := row0.opened
  have hc := r0.slot s hs
  rw [hfs] at hc
  have hs0 : (0 : Int) ≤ s := by omega
  have hs1 : (s : Int) < 64 := by omega
  have R0 := Lib.hid r0
  have HW := Lib.hid hb0
  have ROW := Lib.hid row0
  have HCE := Lib.hid hcells
  have h1c : Hid (∀ u ∈ [Value.int .u64 (x.1 : Nat), .int .u64 (x.2 : Nat)], u.oneCell' = true) := Lib.hid (by intro u hu; simp at hu; rcases hu with rfl | rfl <;> rfl)
  have HM := Lib.hid fun (w : World) (f : Nat → Value) (A : Option Addr) (n cap : Nat) (hf : f s = .slice A n cap) (r : LV w b k f m) => mark_exact s hs m hm A n cap hf r
  replace hW0 := Lib.hid hW0
  replace hse := Lib.hid hse
  replace hne := Lib.hid hne
  clear r r0 hb0 hx0 row row0 hcells
  go_enter Tryd.func12, Tryd.ntmps12
  go_upto_region 3 with fail
  rw [← hW0.out]
  go_wp2_with fail
  refine HS.out.mono ?_
  rintro e w1 ⟨rfl, rfl⟩
  go_wp2_with fail
  go_loopw [21] (fun vj wr => ∃ j : Nat, vj = .int .i64 (j : Int) ∧ j ≤ l.length ∧ Hid (x ∉ l.take j) ∧ Below W0.heap.size W0 wr) (fun vj _ => l.length + 1 - (intOf vj).toNat)
  case atStart => exact ⟨0, rfl, by omega, Lib.hid (by simp), Below.refl _ _⟩
  case round =>
    obtain ⟨j, rfl, hj, HJ, hbr⟩ := hrel
    rename_i wr
    have HBR := Lib.hid hbr
    obtain ⟨x0, x1⟩ := HXX.out wr hbr
    have hzr : w.heap.size < wr.heap.size := Nat.lt_of_lt_of_le hzw hbr.size
    by_cases hjn : j < l.length
    · obtain ⟨g, rfl, hg0, hg1, hg2, hg3⟩ := HCE.out j hjn
      have hg2 := (hbr.cell (p := ⟨g, j * 2, none⟩) hg1).trans hg2
      have hg3 := (hbr.cell (p := ⟨g, j * 2 + 1, none⟩) hg1).trans hg3
      have hjn' : (j : Int) < l.length := by omega
      have HT : Hid (l.take (j + 1) = l.take j ++ [l[j]]) := Lib.hid (List.take_succ_eq_append_getElem hjn)
      clear hbr
      by_cases hxy : x = l[j]
      · have HXM : Hid (x ∈ l) := Lib.hid (by rw [hxy]; exact List.getElem_mem _)
        rw [← hxy] at hg2 hg3
        clear hxy
        go_wp2_with fail
        go_ret
        exact .inl ⟨rfl, HXM.out, HW.out.trans ((HBR.out.trans ((Below.refl _ _).alloc (Nat.le_refl _) _ |>.mono HBR.out.size)).mono HW.out.size)⟩
      · have hq : (((x.1 : Nat) : Int) == (l[j].1 : Nat)) = false ∨ ((((x.1 : Nat) : Int) == (l[j].1 : Nat)) = true ∧ (((x.2 : Nat) : Int) == (l[j].2 : Nat)) = false) := by
          by_cases h1 : x.1 = l[j].1
          · refine .inr ⟨by rw [h1]; exact beq_self_eq_true _, beq_eq_false_iff_ne.2 fun h2 => hxy (Prod.ext h1 (by omega))⟩
          · exact .inl (beq_eq_false_iff_ne.2 fun h2 => h1 (by omega))
        have HJ2 : Hid (x ∉ l.take (j + 1)) := Lib.hid (by
          rw [HT.out]
          intro h
          rcases List.mem_append.1 h with h | h
          · exact HJ.out h
          · exact hxy (List.mem_singleton.1 h))
        clear hxy
        generalize l[j] = y at *
        rcases hq with hq | ⟨hq, hq2⟩
        all_goals
          go_wp2_with fail
          exact ⟨⟨j + 1, rfl, by omega, HJ2, HBR.out.alloc HBR.out.size _⟩, by simp [intOf]; omega⟩
    · have hje : j = l.length := by omega
      have HNX : Hid (x ∉ l) := Lib.hid (by have h := HJ.out; rw [hje, List.take_length] at h; exact h)
      have hjn' : ¬ ((j : Int) < l.length) := by omega
      have HBW : Hid (Below w.heap.size w wr) := Lib.hid (HW.out.trans (hbr.mono HW.out.size))
      have RR : LV wr b k f m := R0.out.later hbr hlt
      have HLW : Hid (∀ Z, LV (wr.drew.alloc Z) b k f m) := Lib.hid fun Z => RR.keep (heap_alloc_old _ _ RR.lt)
      have RO : IRow 34 wr base (f s) l := ROW.out.later hbr
      have HRW : Hid (∀ Z, (wr.drew.alloc Z).ownsRow base 34 2 (.slice A l.length cap) l.length (itcs l)) := Lib.hid fun Z => by
        have h := IRow.keep (w' := wr.drew.alloc Z) RO (fun g hg => heap_alloc_old wr.drew Z (RO.lt g hg).2)
        rw [hfs] at h
        exact h
      have c' := RR.slot s hs
      rw [hfs] at c'
      have HNB : Hid (some b ≠ (Value.slice A l.length cap).ownBlock) := Lib.hid (by rw [← hfs]; exact fun e => hne.out b e.symm rfl)
      have hbb : base ≤ wr.heap.size := Nat.le_trans hbase HBW.out.size
      have hblr := RR.lt
      clear RR RO hbr HJ hne HCE ROW R0
      go_wp2_with fail
      go_region_law (refine step_append_lies _ rfl (.tmp 36) (.tmp 38) 39 rfl base 34 i0 _ 2 16 Tryd.underlying39 hi0 hz0 hz1 hz2 rfl (by decide) _ l.length (itcs l) (by simp [Act.eval]; try rfl) (HRW.out _) ⟨_, 0, none⟩ 1 1 [.int .u64 (x.1 : Nat), .int .u64 (x.2 : Nat)] (by simp [Act.eval]; try rfl) rfl (World.news_of_block (heap_alloc_new _ _)) h1c.out (by decide) (by simp only [maxLen]; omega) (by omega) (by simp; omega) _ rfl ?_; intro g cap' w' hown' hgrow hat hrl; have RL := Lib.hid ((HLW.out _).keep (hgrow.block b (by simp; omega) HNB.out)); have kf := RL.out.free (1 + s); have kc := (RL.out.slot s hs).trans (congrArg some hfs))
      all_goals go_wp2_with fail
      all_goals
        refine (HM.out _ _ (some ⟨g, 0, none⟩) (l.length + 1) cap' (by simp [upd]) (RL.out.setSlot s hs _)).mono ?_
        rintro e w9 ⟨⟨v9, rfl⟩, RL9, hg9⟩
        go_wp2_with fail
        go_ret
        exact .inr ⟨rfl, HNX.out, put_fin HBW.out (by rw [hfs]; exact hgrow) hown' (by rw [hfs]; exact hat) (fun g hg => by rw [hfs] at hg; exact fun e => HNB.out (by rw [hg, e])) hblt hg9 RL9⟩
end Lo
end Go.Proofs.YtkjlfoihojfnbaaDoor
