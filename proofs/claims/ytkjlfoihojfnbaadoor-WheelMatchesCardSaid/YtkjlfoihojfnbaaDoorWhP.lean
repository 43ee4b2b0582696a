/- The reference's wheel: New, Find, Schedule. -/
import Derived.Test.YtkjlfoihojfnbaaDoorWhN
import Derived.Test.YtkjlfoihojfnbaaDoorLoG
namespace Go.Proofs.YtkjlfoihojfnbaaDoor
open Go.RowKit
set_option linter.unusedVariables false
set_option linter.unusedSimpArgs false
namespace Wh
open Lo (IRow KB Lies below_drew bef bef_iff sortI sortI_eq rinsert_any eq_of_sorted)
variable {base b now t : Nat} {w w' w1 : World} {T : List (Nat × Nat)} {S S' : Nat → Prop}
/-- A reference's wheel as a value. -/
def rw16 (now : Nat) (v : Value) : Value := .agg #[.int .u64 (now : Nat), v]
set_option maxRecDepth 100000 in
theorem rnew_any (n now : Nat) (hnow : now = min n 9223372036854775807) (w : World) :
    Calls Tryd.prog 25 #[.int .u64 (n : Nat)] w fun e w' => e = .returned (.agg #[.int .u64 (now : Nat), .slice none 0 0]) ∧ Below w.heap.size w w' := by
  have hmin : min (n : Int) 9223372036854775807 = (now : Nat) := by omega
  clear hnow
  go_enter Tryd.func25, Tryd.ntmps25
  go_wp2_with fail
  exact bodyPost_ret (v := .agg #[.int .u64 (now : Nat), .slice none 0 0]) (by simp [results, Tryd.results25, go_sem]) rfl ⟨rfl, (Below.refl _ _).alloc (Nat.le_refl _) _⟩
/-- What Find finds. -/
def FindOut (T : List (Nat × Nat)) (id : Nat) (w : World) (e : Ending) (w' : World) : Prop :=
  ((hasId T id = false ∧ e = .returned (.int .i64 (-1))) ∨ ∃ (i : Nat) (hi : i < T.length), T[i].1 = id ∧ e = .returned (.int .i64 (i : Nat))) ∧ Below w.heap.size w w'
set_option maxRecDepth 100000 in
set_option maxHeartbeats 1000000 in
theorem rfind_any (hT : T.length ≤ 1000) (v : Value) (id : Nat) (lies : Lies w v T) :
    Calls Tryd.prog 48 #[.agg #[.int .u64 (now : Nat), v], .int .u64 (id : Nat)] w (FindOut T id w) := by
  obtain ⟨A, cap, rfl, hcap, hcells⟩ := lies
  obtain ⟨W0, hW0⟩ : ∃ W0, W0 = w.alloc (.cells #[.int .u64 (now : Nat), .slice A T.length cap] 49) := ⟨_, rfl⟩
  have hb0 : Below w.heap.size w W0 := by rw [hW0]; exact (Below.refl _ _).alloc (Nat.le_refl _) _
  have hx0 : W0.heap[w.heap.size]? = some (.cells #[.int .u64 (now : Nat), .slice A T.length cap] 49 (0, 0)) := by rw [hW0]; exact heap_alloc_new w _
  have hzw : w.heap.size < W0.heap.size := by rw [hW0]; simp
  have x1 : W0.cell? ⟨w.heap.size, 1, none⟩ = some (.slice A T.length cap) := by simp [World.cell?, hx0]
  have HCE := Lib.hid hcells
  have HB0 := Lib.hid hb0
  have hT' : (T.length : Int) ≤ 1000 := by omega
  replace hW0 := Lib.hid hW0
  clear hcells hb0 hx0
  go_enter Tryd.func48, Tryd.ntmps48
  go_upto_region 1 with fail
  rw [← hW0.out]
  go_wp2_with fail
  go_loop [5] (fun vi => ∃ i : Nat, vi = .int .i64 (i : Int) ∧ i ≤ T.length ∧ Hid (∀ (j : Nat) (hj : j < T.length), j < i → T[j].1 ≠ id)) (fun vi => T.length + 1 - (intOf vi).toNat)
  case atStart => exact ⟨0, rfl, by omega, Lib.hid (fun j _ h => by omega)⟩
  case round =>
    obtain ⟨i, rfl, hi, HN⟩ := hrel
    by_cases hin : i < T.length
    · obtain ⟨g, rfl, hg1, hg2, hg3⟩ := HCE.out i hin
      have hg2 := (HB0.out.cell (p := ⟨g, i * 2, none⟩) hg1).trans hg2
      have hin' : (i : Int) < T.length := by omega
      by_cases he : T[i].1 = id
      · have HE : Hid (∃ hi : i < T.length, T[i].1 = id) := Lib.hid ⟨hin, he⟩
        rw [he] at hg2
        clear he hg3
        go_wp2_with fail
        go_ret
        obtain ⟨h1, h2⟩ := HE.out
        exact ⟨.inr ⟨i, h1, h2, rfl⟩, HB0.out⟩
      · have hne : (((T[i].1 : Nat) : Int) == (id : Nat)) = false := beq_eq_false_iff_ne.2 (fun e => he (by omega))
        have HN2 : Hid (∀ (j : Nat) (hj : j < T.length), j < i + 1 → T[j].1 ≠ id) := Lib.hid fun j hj h => by
          by_cases e : j = i
          · subst e; exact he
          · exact HN.out j hj (by omega)
        clear he hg3
        generalize T[i].1 = q at *
        go_wp2_with fail
        exact ⟨⟨i + 1, rfl, by omega, HN2⟩, by simp [intOf]; omega⟩
    · have hin' : ¬ ((i : Int) < T.length) := by omega
      have HF : Hid (hasId T id = false) := Lib.hid (decide_eq_false (by
        rintro ⟨x, hx, e⟩
        obtain ⟨j, hj, rfl⟩ := List.getElem_of_mem hx
        exact HN.out j hj (by omega) e))
      go_wp2_with fail
      go_ret
      exact ⟨.inl ⟨HF.out, rfl⟩, HB0.out⟩
theorem ins_eq {T : List (Nat × Nat)} {x : Nat × Nat} (so : T.Pairwise bef) (hx : x ∉ T) (p : Nat) (hp : p ≤ T.length) (h1 : ∀ (i : Nat) (hi : i < T.length), i < p → bef T[i] x) (h2 : ∀ (hp : p < T.length), ¬ bef T[p] x) : T.take p ++ x :: T.drop p = insT T x := by
  have hi := (Lo.Inv.put (k := 0) (L := fun s => Lo.inSlot 0 s T) ⟨fun s _ => List.Perm.refl _, so⟩ x hx p hp h1 h2).sorted
  refine (sortI_eq ?_ hi).symm
  refine List.Perm.trans ?_ List.perm_middle.symm
  rw [List.take_append_drop]
theorem boxB {W W' : World} {g : Nat} {o : Obj} (h : W.heap[g]? = some o) (hb : Below W.heap.size W W') : W'.heap[g]? = some o :=
  (hb.block g (Array.getElem?_eq_some_iff.1 h).1).trans h
/-- What Schedule gives. -/
def RSched (base : Nat) (w : World) (now : Nat) (v : Value) (T : List (Nat × Nat)) (x : Nat × Nat) (e : Ending) (w' : World) : Prop :=
  ((9223372036854775807 < x.2 ∧ e = .returned (.tuple #[.agg #[.int .u64 (now : Nat), v], .int .i64 2])) ∨ (x.2 ≤ 9223372036854775807 ∧ hasId T x.1 = true ∧ e = .returned (.tuple #[.agg #[.int .u64 (now : Nat), v], .int .i64 7])) ∨
    (x.2 ≤ 9223372036854775807 ∧ hasId T x.1 = false ∧ ∃ v', e = .returned (.tuple #[.agg #[.int .u64 (now : Nat), v'], .int .i64 0]) ∧ IRow 29 w' w.heap.size v' (insT T x))) ∧ Below w.heap.size w w'
theorem cellsW {w : World} {g now : Nat} {v : Value} {t : TypeId} (h : w.heap[g]? = some (.cells #[.int .u64 (now : Nat), v] t (0, 0))) :
    w.cell? ⟨g, 0, none⟩ = some (.int .u64 (now : Nat)) ∧ w.cell? ⟨g, 1, none⟩ = some v ∧ ∀ o, w.frozen? ⟨g, o, none⟩ = false := ⟨by simp [World.cell?, h], by simp [World.cell?, h], fun o => by simp [World.frozen?, h]⟩
set_option maxRecDepth 100000 in
set_option maxHeartbeats 2000000 in
theorem rsched_any (hT : T.length ≤ 900) (so : T.Pairwise bef) (v : Value) (x : Nat × Nat) (row : IRow 29 w base v T) :
    Calls Tryd.prog 27 #[.agg #[.int .u64 (now : Nat), v], .int .u64 (x.1 : Nat), .int .u64 (x.2 : Nat)] w (RSched base w now v T x) := by
  obtain ⟨A, cap, rfl, hcap, -⟩ := row.opened
  obtain ⟨W0, hW0⟩ : ∃ W0, W0 = (w.alloc (.cells #[.int .u64 (now : Nat), .slice A T.length cap] 49)).alloc (.cells #[.int .u64 0, .slice none 0 0] 49) := ⟨_, rfl⟩
  have hb0 : Below w.heap.size w W0 := by rw [hW0]; exact ((Below.refl _ _).alloc (Nat.le_refl _) _).alloc (by simp) _
  have hx0 : W0.heap[w.heap.size]? = some (.cells #[.int .u64 (now : Nat), .slice A T.length cap] 49 (0, 0)) := by rw [hW0]; exact (heap_alloc_old _ _ (by simp)).trans (heap_alloc_new w _)
  have hr0 : W0.heap[w.heap.size + 1]? = some (.cells #[.int .u64 (0 : Nat), .slice none 0 0] 49 (0, 0)) := by
    rw [hW0]
    have e := heap_alloc_new (w.alloc (.cells #[.int .u64 (now : Nat), .slice A T.length cap] 49)) (.cells #[.int .u64 0, .slice none 0 0] 49)
    rw [World.size_alloc] at e
    exact e
  have hzw : w.heap.size + 2 = W0.heap.size := by rw [hW0]; simp
  obtain ⟨x0, x1, xf⟩ := cellsW hx0
  obtain ⟨r0, r1, rf⟩ := cellsW hr0
  have rf0 := rf 0
  have rf1 := rf 1
  have HB0 := Lib.hid hb0
  have HX0 := Lib.hid hx0
  have HR0 := Lib.hid hr0
  have ROW := Lib.hid (row.later hb0)
  have HZ := Lib.hid hzw
  have SO := Lib.hid so
  replace hW0 := Lib.hid hW0
  clear hb0 hx0 hr0 row xf rf hzw so
  by_cases ha : 9223372036854775807 < x.2
  · have ha' : (9223372036854775807 : Int) < x.2 := by omega
    go_enter Tryd.func27, Tryd.ntmps27
    go_upto_region 1 with fail
    rw [← hW0.out]
    go_wp2_with fail
    refine bodyPost_ret (v := .tuple #[.agg #[.int .u64 (now : Nat), .slice A T.length cap], .int .i64 2]) (by simp [results, Tryd.results27, go_sem, r0, r1]) rfl ⟨.inl ⟨ha, rfl⟩, ?_⟩
    exact (HB0.out.setCell (by simp) _).setCell (by simp) _
  · have ha' : ¬ ((9223372036854775807 : Int) < x.2) := by omega
    have HF := Lib.hid (rfind_any (now := now) (by omega) (.slice A T.length cap) x.1 ROW.out.lies)
    go_enter Tryd.func27, Tryd.ntmps27
    go_upto_region 1 with fail
    rw [← hW0.out]
    go_wp2_with fail
    refine HF.out.mono ?_
    rintro e w1 ⟨hpost, hb1⟩
    have X1 := Lib.hid (boxB HX0.out hb1)
    have R1 := Lib.hid (boxB HR0.out hb1)
    have HB1 := Lib.hid (HB0.out.trans (hb1.mono HB0.out.size))
    have ROW1 := Lib.hid (ROW.out.later hb1)
    have hz1 : w.heap.size + 2 ≤ w1.heap.size := by have := hb1.size; have := HZ.out; omega
    clear hb1 x0 x1 r0 r1 rf0 rf1
    obtain ⟨x0, x1, xf⟩ := cellsW X1.out
    obtain ⟨r0, r1, rf⟩ := cellsW R1.out
    have rf0 := rf 0
    have rf1 := rf 1
    have xf1 := xf 1
    clear xf rf
    rcases hpost with ⟨hno, rfl⟩ | ⟨i, hi, hid, rfl⟩
    · have HNO := Lib.hid hno
      have hnx : x ∉ T := fun h => by
        have := (hasId_iff T x.1).2 ⟨x, h, rfl⟩
        rw [HNO.out] at this; cases this
      have HINS := Lib.hid (rinsert_any T (by omega) base (.slice A T.length cap) x w1 ROW1.out)
      clear hno
      go_wp2_with fail
      refine HINS.out.mono ?_
      rintro e w2 ⟨v2, p, rfl, hp, h1, h2, row2, hb2⟩
      have he := ins_eq SO.out hnx p hp h1 h2
      rw [he] at row2
      obtain ⟨A2, cap2, rfl, hcap2, -⟩ := row2.opened
      have X2 := Lib.hid (boxB X1.out hb2)
      have R2 := Lib.hid (boxB R1.out hb2)
      have ROW2 := Lib.hid row2
      have HB2 := Lib.hid (HB1.out.trans (hb2.mono HB1.out.size))
      clear hb2 row2 h1 h2 he x0 x1 r0 r1 rf0 rf1 xf1
      obtain ⟨x0, x1, xf⟩ := cellsW X2.out
      obtain ⟨r0, r1, rf⟩ := cellsW R2.out
      have rf0 := rf 0
      have rf1 := rf 1
      have xf1 := xf 1
      clear xf rf
      go_wp2_with fail
      refine bodyPost_ret (v := .tuple #[.agg #[.int .u64 (now : Nat), .slice A2 (insT T x).length cap2], .int .i64 0]) (by simp [results, Tryd.results27, go_sem, r0, r1, x0, x1]) rfl ⟨.inr (.inr ⟨by omega, HNO.out, _, rfl, ?_⟩), ?_⟩
      · refine (ROW2.out.keep fun g hg => ?_).base_le (by omega)
        have := (ROW2.out.lt g hg).1
        rw [Below.heap_setCell _ _ _ _ (by simp; omega), Below.heap_setCell _ _ _ _ (by simp; omega), Below.heap_setCell _ _ _ _ (by simp; omega)]
      · exact ((HB2.out.setCell (by simp) _).setCell (by simp) _).setCell (by simp) _
    · have HID : Hid (hasId T x.1 = true) := Lib.hid ((hasId_iff T x.1).2 ⟨_, List.getElem_mem hi, hid⟩)
      clear hid
      have hi0 : (0 : Int) ≤ i := by omega
      go_wp2_with fail
      refine bodyPost_ret (v := .tuple #[.agg #[.int .u64 (now : Nat), .slice A T.length cap], .int .i64 7]) (by simp [results, Tryd.results27, go_sem, r0, r1]) rfl ⟨.inr (.inl ⟨by omega, HID.out, rfl⟩), ?_⟩
      exact (HB1.out.setCell (by simp) _).setCell (by simp) _
end Wh
end Go.Proofs.YtkjlfoihojfnbaaDoor
