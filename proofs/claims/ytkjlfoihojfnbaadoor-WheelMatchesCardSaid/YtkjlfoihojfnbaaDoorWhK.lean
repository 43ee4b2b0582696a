/- A wheel's Schedule and Advance. -/
import Derived.Test.YtkjlfoihojfnbaaDoorWhJ
namespace Go.Proofs.YtkjlfoihojfnbaaDoor
open Go.RowKit Go.Sort
set_option linter.unusedVariables false
set_option linter.unusedSimpArgs false
namespace Wh
open Lv (slotOf slotOf_lt turnOf startOf W64 ret_int)
open Lo (IRow KB St Own updL Lies below_drew Deb sortI sortI_len bef bef_iff bef_ne bef_asymm sortI_eq eq_of_sorted)
variable {base b now t : Nat} {w w' w1 : World} {V V' V0 : WV} {L : Nat → Nat → List (Nat × Nat)} {D F M T : List (Nat × Nat)} {P : Nat × Nat → Prop} {S S' : Nat → Prop}
theorem sched_out (id at' : Nat) (h : Whl base w b now T S) (hid : id < 18446744073709551616) (ha : at' < 18446744073709551616) (hbad : 9223372036854775807 < at') :
    Calls Tryd.prog 26 #[.pointer (some ⟨b, 0, none⟩), .int .u64 (id : Nat), .int .u64 (at' : Nat)] w fun e w' => e = .returned (.int .i64 2) ∧ w = w' := by
  have h1 : (9223372036854775807 : Int) < at' := by omega
  go_enter Tryd.func26, Tryd.ntmps26
  go_wp2_with fail
  go_ret
  exact ⟨rfl, rfl⟩
theorem sched_twice (id at' : Nat) (h : Whl base w b now T S) (hid : id < 18446744073709551616) (ha : at' ≤ 9223372036854775807) (hh : hasId T id = true) :
    Calls Tryd.prog 26 #[.pointer (some ⟨b, 0, none⟩), .int .u64 (id : Nat), .int .u64 (at' : Nat)] w fun e w' => e = .returned (.int .i64 7) ∧ Below w.heap.size w w' := by
  have h1 : ¬ ((9223372036854775807 : Int) < at') := by omega
  have HH := Lib.hid (has_any h id hid)
  rw [hh] at HH
  clear hh
  go_enter Tryd.func26, Tryd.ntmps26
  go_wp2_with fail
  refine HH.out.mono ?_
  rintro e w1 ⟨rfl, hb⟩
  have HB := Lib.hid hb
  clear hb
  go_wp2_with fail
  go_ret
  exact ⟨rfl, HB.out⟩
/-- A timer more. -/
def insT (T : List (Nat × Nat)) (x : Nat × Nat) : List (Nat × Nat) := sortI (x :: T)
theorem insT_mem {T : List (Nat × Nat)} {x y : Nat × Nat} : y ∈ insT T x ↔ y ∈ x :: T := sortI_mem
theorem insT_ids {T : List (Nat × Nat)} {x : Nat × Nat} (h : (T.map Prod.fst).Nodup) (hn : hasId T x.1 = false) : ((insT T x).map Prod.fst).Nodup := by
  have : ((x :: T).map Prod.fst).Nodup := by
    rw [List.map_cons, List.nodup_cons]
    refine ⟨fun e => ?_, h⟩
    obtain ⟨y, hy, e2⟩ := List.mem_map.1 e
    have := (hasId_iff T x.1).2 ⟨y, hy, e2⟩
    rw [hn] at this; cases this
  exact ((List.mergeSort_perm _ _).map _).nodup_iff.2 this
theorem sortI_sorted {l : List (Nat × Nat)} (h : l.Nodup) : (sortI l).Pairwise bef := by
  have hnd := sortI_nodup h
  have hle : (sortI l).Pairwise (fun x y => (!(ltOf Lo.cfI) y x) = true) := List.pairwise_mergeSort (fun a b c h1 h2 => by
    simp only [Bool.not_eq_true', Lo.ord_lt, decide_eq_false_iff_not] at *; omega) (fun a b => by
    simp only [Bool.or_eq_true, Bool.not_eq_true', Lo.ord_lt, decide_eq_false_iff_not]; omega) l
  refine (hle.and hnd).imp fun {x y} ⟨h1, h2⟩ => ?_
  rw [bef_iff]
  simp only [Bool.not_eq_true', Lo.ord_lt, decide_eq_false_iff_not] at h1
  by_cases h : x.2 = y.2
  · by_cases h3 : x.1 = y.1
    · exact absurd (Prod.ext h3 h) h2
    · omega
  · omega
set_option maxRecDepth 100000 in
set_option maxHeartbeats 2000000 in
theorem sched_ok (x : Nat × Nat) (h : Whl base w b now T S) (hid : x.1 < 18446744073709551616) (ha : x.2 ≤ 9223372036854775807) (hh : hasId T x.1 = false) (hbase : base ≤ w.heap.size) (hT : T.length ≤ 900) :
    Calls Tryd.prog 26 #[.pointer (some ⟨b, 0, none⟩), .int .u64 (x.1 : Nat), .int .u64 (x.2 : Nat)] w fun e w' => e = .returned (.int .i64 0) ∧ Whl base w' b now (insT T x) (grown S w) ∧ KB w w' S := by
  have h1 : ¬ ((9223372036854775807 : Int) < x.2) := by omega
  have HH := Lib.hid (has_any h x.1 hid)
  rw [hh] at HH
  have HHH := Lib.hid hh
  have H := Lib.hid h
  clear hh h
  go_enter Tryd.func26, Tryd.ntmps26
  go_wp2_with fail
  refine HH.out.mono ?_
  rintro e w1 ⟨rfl, hb⟩
  obtain ⟨wb, hwb⟩ : ∃ wb, wb = w1.alloc (.cells #[.int .u64 (x.1 : Nat), .int .u64 (x.2 : Nat)] 34) := ⟨_, rfl⟩
  have hbb : Below w.heap.size w wb := by rw [hwb]; exact hb.alloc hb.size _
  have hhb : wb.heap[w1.heap.size]? = some (.cells #[.int .u64 (x.1 : Nat), .int .u64 (x.2 : Nat)] 34 (0, 0)) := by rw [hwb]; exact heap_alloc_new w1 _
  have y0 : wb.cell? ⟨w1.heap.size, 0, none⟩ = some (.int .u64 (x.1 : Nat)) := by simp [World.cell?, hhb]
  have y1 : wb.cell? ⟨w1.heap.size, 1, none⟩ = some (.int .u64 (x.2 : Nat)) := by simp [World.cell?, hhb]
  obtain ⟨V, L, D, F, g1, g2, g3⟩ := H.out.ex
  have gb := g1.later hbb
  obtain ⟨-, c1, -⟩ := gb.cells
  obtain ⟨wd, hrun, hmd, hturn⟩ := ((gb.later (below_drew (Below.refl _ _))).map).store (by omega) x hid (by omega) HHH.out
  unfold itemV at hrun
  obtain ⟨k1, k2⟩ := (gb.later (w' := wb.drew) (below_drew (Below.refl _ _))).setM hturn hmd
  have hxT : ¬ (x ∈ T) := fun e => by
    have := (hasId_iff T x.1).2 ⟨x, e, rfl⟩
    rw [HHH.out] at this; cases this
  have hkb : KB wb.drew wd (fun g => g = V.bm) := KB.of_grown _ hturn.grown (fun g e => by cases e; rfl)
  have hbm : V.bm < w.heap.size := g1.lt V.bm ⟨7, by omega, rfl⟩
  have hz1 : w.heap.size ≤ w1.heap.size := hb.size
  have hd := (hkb.block w1.heap.size (by exact (Array.getElem?_eq_some_iff.1 hhb).1) (by omega)).trans hhb
  have z0 : wd.cell? ⟨w1.heap.size, 0, none⟩ = some (.int .u64 (x.1 : Nat)) := by simp [World.cell?, hd]
  have z1 : wd.cell? ⟨w1.heap.size, 1, none⟩ = some (.int .u64 (x.2 : Nat)) := by simp [World.cell?, hd]
  have hP := Lib.hid (place_any x k1 g2 hxT (by omega) (Nat.le_trans hbase (Nat.le_trans hbb.size k2.kb.size)) (N := x :: T) (fun y hy => List.mem_cons_of_mem _ hy) (by simp; omega))
  have HC : Hid (Chg w wd (Any b V) (Any b V)) := Lib.hid ((Chg.of_below _ (hbb.trans (below_drew (Below.refl _ _) |>.mono hbb.size))).trans k2)
  have HG3 := Lib.hid g3
  replace hwb := Lib.hid hwb
  clear hb hbb hhb g1 g2 g3 gb hmd hturn k1 k2 hxT hkb hd
  go_upto_region 8 with fail
  rw [← hwb.out]
  go_region
  all_goals
    go_wp2_with fail
    refine hP.out.mono ?_
    rintro e w3 ⟨⟨r3, rfl⟩, hpl⟩
    have HPL := Lib.hid hpl
    clear hpl
    go_wp2_with fail
    go_ret
    obtain ⟨V3, L3, D3, F3, r1, r2, r3⟩ := HPL.out
    have hids : ((x :: T).map Prod.fst).Nodup := ((List.mergeSort_perm _ _).map _).nodup_iff.1 (insT_ids H.out.ids HHH.out)
    refine ⟨rfl, H.out.changed ⟨V, V3, L3, D3, F3, HG3.out, r1, r2.iff (P' := fun y => y ∈ insT T x) fun y => ?_, HC.out.trans r3⟩ (fun y => insT_mem.symm) (nodup_of_ids hids) (insT_ids H.out.ids HHH.out) (fun y hy => ?_) H.out.nowm (sortI_sorted (nodup_of_ids hids))⟩
    · rw [insT_mem, List.mem_cons]
      exact ⟨fun h => h.elim .inr .inl, fun h => h.elim .inr .inl⟩
    · rcases List.mem_cons.1 (insT_mem.1 hy) with rfl | hy
      · exact ⟨hid, ha⟩
      · exact H.out.sm y hy
theorem adv_out (h : Whl base w b now T S) (ht : t < 18446744073709551616) (hbad : 9223372036854775807 < t) :
    Calls Tryd.prog 28 #[.pointer (some ⟨b, 0, none⟩), .int .u64 (t : Nat)] w fun e w' => e = .returned (.tuple #[.slice none 0 0, .int .i64 2]) ∧ w = w' := by
  have h1 : (9223372036854775807 : Int) < t := by omega
  go_enter Tryd.func28, Tryd.ntmps28
  go_wp2_with fail
  refine wp_scope_straight ?_
  go_wp2_with fail
  rw [Exit.noGoto_ret]
  go_ret2
  exact ⟨rfl, rfl⟩
theorem adv_back (h : Whl base w b now T S) (ht : t ≤ 9223372036854775807) (hbad : t < now) :
    Calls Tryd.prog 28 #[.pointer (some ⟨b, 0, none⟩), .int .u64 (t : Nat)] w fun e w' => e = .returned (.tuple #[.slice none 0 0, .int .i64 12]) ∧ w = w' := by
  have h1 : ¬ ((9223372036854775807 : Int) < t) := by omega
  have h2 : (t : Int) < now := by omega
  obtain ⟨V, L, D, F, g1, -, -⟩ := h.ex
  obtain ⟨c0, -⟩ := g1.cells
  clear g1 h
  go_enter Tryd.func28, Tryd.ntmps28
  go_wp2_with fail
  refine wp_scope_straight ?_
  go_wp2_with fail
  rw [Exit.noGoto_ret]
  go_ret2
  exact ⟨rfl, rfl⟩
/-- Those that fire, and those that stay. -/
def dueT (T : List (Nat × Nat)) (t : Nat) : List (Nat × Nat) := T.filter fun x => decide (x.2 ≤ t)
def restT (T : List (Nat × Nat)) (t : Nat) : List (Nat × Nat) := T.filter fun x => decide (t < x.2)
theorem dueT_mem {T : List (Nat × Nat)} {t : Nat} {x : Nat × Nat} : x ∈ dueT T t ↔ x ∈ T ∧ x.2 ≤ t := by unfold dueT; rw [List.mem_filter, decide_eq_true_iff]
theorem restT_mem {T : List (Nat × Nat)} {t : Nat} {x : Nat × Nat} : x ∈ restT T t ↔ x ∈ T ∧ t < x.2 := by unfold restT; rw [List.mem_filter, decide_eq_true_iff]
theorem adv_ok (h : Whl base w b now T S) (hnt : now ≤ t) (ht : t ≤ 9223372036854775807) (hdeb : Deb w) (hdb : 0 < base) (hbase : base ≤ w.heap.size) (hT : T.length ≤ 1000) :
    Calls Tryd.prog 28 #[.pointer (some ⟨b, 0, none⟩), .int .u64 (t : Nat)] w fun e w' => ∃ v, e = .returned (.tuple #[v, .int .i64 0]) ∧ Lies w' v (dueT T t) ∧ (∀ g, v.ownBlock = some g → grown S w g) ∧ Whl base w' b t (restT T t) (fun g => grown S w g ∧ v.ownBlock ≠ some g) ∧ KB w w' S := by
  obtain ⟨V, L, D, F, g1, g2, g3⟩ := h.ex
  refine (advance_core g1 g2 hnt ht hdeb hdb hbase hT (fun x hx => ⟨(h.sm x hx).1, by have := (h.sm x hx).2; omega⟩) h.ids).mono fun e w' he => ?_
  obtain ⟨v, D', V', L', F', M', e1, e2, e3, e4, e5, e6, e7, e8, e9, e10, e11⟩ := he
  have hids : ((restT T t).map Prod.fst).Nodup := h.ids.sublist (List.filter_sublist.map _)
  have hmem : ∀ x, x ∈ M' ↔ x ∈ restT T t := fun x => by rw [e7 x, restT_mem]
  have hD : sortI D' = dueT T t := sortI_eq (perm_of e8 ((nodup_of_ids h.ids).sublist List.filter_sublist) fun x => by rw [e6 x]; exact dueT_mem.symm) (h.sorted.sublist List.filter_sublist)
  rw [hD] at e2
  refine ⟨v, e1, e2, fun g hg => (e11 g hg).elim (fun e => .inl (g3 g e)) .inr, ⟨⟨V', L', [], F', e3.congrM hmem (len_eq (nodup_of_ids e9) (nodup_of_ids hids) hmem), e4.iff hmem, fun g hg => ⟨?_, fun e => e10 g e hg⟩⟩, hids, fun x hx => h.sm x (restT_mem.1 hx).1, ht, h.sorted.sublist List.filter_sublist⟩, ⟨e5.kb.os, e5.kb.tape, e5.kb.output, e5.kb.size, fun j hj hn => e5.kb.block j hj (fun e => hn (g3 j e))⟩⟩
  exact (e5.grow g hg).elim (fun e => .inl (g3 g e)) .inr
end Wh
end Go.Proofs.YtkjlfoihojfnbaaDoor
