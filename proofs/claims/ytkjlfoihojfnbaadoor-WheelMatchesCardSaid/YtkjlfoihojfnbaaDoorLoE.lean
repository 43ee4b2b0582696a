/- Back and the reference's Of, of any row of items; Equal of the same items. -/
import Derived.Test.YtkjlfoihojfnbaaDoorLoC
namespace Go.Proofs.YtkjlfoihojfnbaaDoor
open Go.RowKit
set_option linter.unusedVariables false
namespace Lo
open Lv (W64 slotOf slotOf_lt fresh ret_int ret_bool slot_any rslot_any)
open Ln (lvCells LV upd only_set only_refl only_drew)
set_option maxRecDepth 100000 in
set_option maxHeartbeats 1000000 in
theorem back_any (l : List (Nat × Nat)) (hl : l.length ≤ 1000) (v : Value) (w : World) (lies : Lies w v l) :
    Calls Tryd.prog 18 #[v] w fun e w' => ∃ v', e = .returned v' ∧ IRow 29 w' w.heap.size v' l ∧ Below w.heap.size w w' := by
  obtain ⟨A, cap, rfl, hcap, hcells⟩ := lies
  have HCE := Lib.hid hcells
  have hl' : (l.length : Int) ≤ 1000 := by omega
  clear hcells
  go_enter Tryd.func18, Tryd.ntmps18
  go_wp2_with fail
  go_loopw [3, 8] (fun vo vj wr => ∃ j : Nat, vj = .int .i64 (j : Int) ∧ j ≤ l.length ∧ IRow 29 wr w.heap.size vo (l.take j) ∧ Below w.heap.size w wr) (fun _ vj _ => l.length + 1 - (intOf vj).toNat)
  case atStart => exact ⟨0, rfl, by omega, by simpa using IRow.nil _ _ _, Below.refl _ _⟩
  case round =>
    obtain ⟨j, rfl, hj, hrow, hbr⟩ := hrel
    rename_i wr
    have HBR := Lib.hid hbr
    have HRO := Lib.hid hrow
    by_cases hjn : j < l.length
    · obtain ⟨g, rfl, hg1, hg2, hg3⟩ := HCE.out j hjn
      have hg2 := (hbr.cell (p := ⟨g, j * 2, none⟩) hg1).trans hg2
      have hg3 := (hbr.cell (p := ⟨g, j * 2 + 1, none⟩) hg1).trans hg3
      have hjn' : (j : Int) < l.length := by omega
      have HT : Hid (l.take (j + 1) = l.take j ++ [l[j]]) := Lib.hid (List.take_succ_eq_append_getElem hjn)
      have htl : (l.take j).length ≤ 1000 := by rw [List.length_take]; omega
      generalize l[j] = y at *
      obtain ⟨W1, hW1⟩ : ∃ W, W = wr.alloc (.cells #[.int .u64 (y.1 : Nat), .int .u64 (y.2 : Nat)] 34) := ⟨_, rfl⟩
      obtain ⟨W2, hW2⟩ : ∃ W, W = W1.alloc (.cells #[.int .u64 (y.1 : Nat), .int .u64 (y.2 : Nat)] 29) := ⟨_, rfl⟩
      have hz1 : W1.heap.size = wr.heap.size + 1 := by rw [hW1]; simp
      have hb2 : Below wr.heap.size wr W2 := by rw [hW2]; exact Below.alloc (by rw [hW1]; exact (Below.refl _ _).alloc (Nat.le_refl _) _) (by omega) _
      have HL2 : Hid (Lies W2 (.slice (some ⟨wr.heap.size + 1, 0, none⟩) 1 1) [y]) := Lib.hid (by rw [hW2, ← hz1]; exact lies_new W1 _ y)
      have HR2 := Lib.hid (HRO.out.later hb2)
      have HB2 := Lib.hid (HBR.out.trans (hb2.mono HBR.out.size))
      have hz2 : w.heap.size ≤ W2.heap.size := HB2.out.size
      replace hW1 := Lib.hid hW1
      replace hW2 := Lib.hid hW2
      clear hbr hrow hb2
      go_wp2_with (at_builtin; rw [← hW1.out, ← hW2.out]; refine wpList_append_items _ rfl _ _ rfl w.heap.size _ _ (l.take j) [y] rfl rfl HR2.out HL2.out (by simp; omega) hz2 ?_; intro v3 w3 hown3 hg3 hb3)
      have HO3 := Lib.hid hown3
      have HB3 := Lib.hid (HB2.out.grown hg3 hz2 (fun k hk => (HR2.out.lt k hk).1))
      clear hown3 hg3 hb3
      go_wp2_with fail
      exact ⟨⟨j + 1, rfl, by omega, by rw [HT.out]; exact HO3.out, HB3.out⟩, by simp [intOf]; omega⟩
    · have hje : j = l.length := by omega
      have hjn' : ¬ ((j : Int) < l.length) := by omega
      subst hje
      rw [List.take_length] at hrow
      have HRF := Lib.hid hrow
      clear hrow hbr
      go_wp2_with fail
      go_ret
      exact ⟨_, rfl, HRF.out, HBR.out⟩
set_option maxRecDepth 100000 in
set_option maxHeartbeats 1000000 in
theorem rof_any (k : Nat) (hk : k ≤ 3) (l : List (Nat × Nat)) (ha : ∀ x ∈ l, x.2 < 18446744073709551616) (hl : l.length ≤ 1000) (v : Value) (s : Int) (w : World) (lies : Lies w v l) :
    Calls Tryd.prog 16 #[.int .i64 k, v, .int .i64 s] w fun e w' => ∃ v', e = .returned v' ∧ IRow 29 w' w.heap.size v' (l.filter fun x => decide ((slotOf k x.2 : Int) = s)) ∧ Below w.heap.size w w' := by
  obtain ⟨A, cap, rfl, hcap, hcells⟩ := lies
  have HCE := Lib.hid hcells
  have HA := Lib.hid ha
  have hl' : (l.length : Int) ≤ 1000 := by omega
  clear hcells ha
  go_enter Tryd.func16, Tryd.ntmps16
  go_wp2_with fail
  go_loopw [7, 8] (fun vo vj wr => ∃ j : Nat, vj = .int .i64 (j : Int) ∧ j ≤ l.length ∧ IRow 29 wr w.heap.size vo ((l.take j).filter fun x => decide ((slotOf k x.2 : Int) = s)) ∧ Below w.heap.size w wr) (fun _ vj _ => l.length + 1 - (intOf vj).toNat)
  case atStart => exact ⟨0, rfl, by omega, by simpa using IRow.nil _ _ _, Below.refl _ _⟩
  case round =>
    obtain ⟨j, rfl, hj, hrow, hbr⟩ := hrel
    rename_i wr
    have HBR := Lib.hid hbr
    have HRO := Lib.hid hrow
    by_cases hjn : j < l.length
    · obtain ⟨g, rfl, hg1, hg2, hg3⟩ := HCE.out j hjn
      have hg2 := (hbr.cell (p := ⟨g, j * 2, none⟩) hg1).trans hg2
      have hg3 := (hbr.cell (p := ⟨g, j * 2 + 1, none⟩) hg1).trans hg3
      have hjn' : (j : Int) < l.length := by omega
      have HT : Hid (l.take (j + 1) = l.take j ++ [l[j]]) := Lib.hid (List.take_succ_eq_append_getElem hjn)
      have htl : ((l.take j).filter fun x => decide ((slotOf k x.2 : Int) = s)).length ≤ 1000 := Nat.le_trans (List.length_filter_le _ _) (by rw [List.length_take]; omega)
      have hy2 := HA.out _ (List.getElem_mem hjn)
      generalize l[j] = y at *
      have HSL := Lib.hid (fun W => rslot_any k hk y.2 hy2 W)
      obtain ⟨sn, hsn⟩ : ∃ n, n = slotOf k y.2 := ⟨_, rfl⟩
      rw [← hsn] at HSL
      have HSN := Lib.hid hsn
      clear hrow hbr hsn hy2
      by_cases hsl : (sn : Int) = s
      · obtain ⟨W2, hW2⟩ : ∃ W, W = wr.alloc (.cells #[.int .u64 (y.1 : Nat), .int .u64 (y.2 : Nat)] 29) := ⟨_, rfl⟩
        have hb2 : Below wr.heap.size wr W2 := by rw [hW2]; exact (Below.refl _ _).alloc (Nat.le_refl _) _
        have HL2 : Hid (Lies W2 (.slice (some ⟨wr.heap.size, 0, none⟩) 1 1) [y]) := Lib.hid (by rw [hW2]; exact lies_new wr _ y)
        have HR2 := Lib.hid (HRO.out.later hb2)
        have HB2 := Lib.hid (HBR.out.trans (hb2.mono HBR.out.size))
        have hz2 : w.heap.size ≤ W2.heap.size := HB2.out.size
        have HTF : Hid ((l.take (j + 1)).filter (fun x => decide ((slotOf k x.2 : Int) = s)) = (l.take j).filter (fun x => decide ((slotOf k x.2 : Int) = s)) ++ [y]) := Lib.hid (by
          rw [HT.out, List.filter_append]
          congr 1
          rw [List.filter_cons_of_pos (by rw [← HSN.out]; exact decide_eq_true hsl)]
          rfl)
        replace hW2 := Lib.hid hW2
        clear hb2
        subst hsl
        go_wp2_with fail
        refine (HSL.out _).mono ?_
        rintro e w1 ⟨rfl, rfl⟩
        go_wp2_with (at_builtin; rw [← hW2.out]; refine wpList_append_items _ rfl _ _ rfl w.heap.size _ _ ((l.take j).filter fun x => decide ((slotOf k x.2 : Int) = sn)) [y] rfl rfl HR2.out HL2.out (by simp only [List.length_singleton]; omega) hz2 ?_; intro v3 w3 hown3 hg3 hb3)
        have HO3 := Lib.hid hown3
        have HB3 := Lib.hid (HB2.out.grown hg3 hz2 (fun k hk => (HR2.out.lt k hk).1))
        clear hown3 hg3 hb3
        go_wp2_with fail
        exact ⟨⟨j + 1, rfl, by omega, by rw [HTF.out]; exact HO3.out, HB3.out⟩, by simp [intOf]; omega⟩
      · have HTF : Hid ((l.take (j + 1)).filter (fun x => decide ((slotOf k x.2 : Int) = s)) = (l.take j).filter (fun x => decide ((slotOf k x.2 : Int) = s))) := Lib.hid (by
          rw [HT.out, List.filter_append]
          rw [List.filter_cons_of_neg (by rw [← HSN.out]; simpa using hsl)]
          simp)
        go_wp2_with fail
        refine (HSL.out _).mono ?_
        rintro e w1 ⟨rfl, rfl⟩
        go_wp2_with fail
        exact ⟨⟨j + 1, rfl, by omega, by rw [HTF.out]; exact HRO.out, HBR.out⟩, by simp [intOf]; omega⟩
    · have hje : j = l.length := by omega
      have hjn' : ¬ ((j : Int) < l.length) := by omega
      subst hje
      rw [List.take_length] at hrow
      have HRF := Lib.hid hrow
      clear hrow hbr
      go_wp2_with fail
      go_ret
      exact ⟨_, rfl, HRF.out, HBR.out⟩
set_option maxRecDepth 100000 in
set_option maxHeartbeats 1000000 in
theorem equal_same (l : List (Nat × Nat)) (hl : l.length ≤ 10000) (v u : Value) (w : World) (lies : Lies w v l) (lies' : Lies w u l) :
    Calls Tryd.prog 17 #[v, u] w fun e w' => e = .returned (.bool true) ∧ Below w.heap.size w w' := by
  obtain ⟨A, cap, rfl, hcap, hcells⟩ := lies
  obtain ⟨A', cap', rfl, hcap', hcells'⟩ := lies'
  have HCE := Lib.hid hcells
  have HCE' := Lib.hid hcells'
  have hl' : (l.length : Int) ≤ 10000 := by omega
  clear hcells hcells'
  go_enter Tryd.func17, Tryd.ntmps17
  go_wp2_with fail
  go_loopw [13] (fun vj wr => ∃ j : Nat, vj = .int .i64 (j : Int) ∧ j ≤ l.length ∧ Below w.heap.size w wr) (fun vj _ => l.length + 1 - (intOf vj).toNat)
  case atStart => exact ⟨0, rfl, by omega, Below.refl _ _⟩
  case round =>
    obtain ⟨j, rfl, hj, hbr⟩ := hrel
    rename_i wr
    have HBR := Lib.hid hbr
    by_cases hjn : j < l.length
    · obtain ⟨g, rfl, hg1, hg2, hg3⟩ := HCE.out j hjn
      obtain ⟨g', rfl, hg1', hg2', hg3'⟩ := HCE'.out j hjn
      have hg2 := (hbr.cell (p := ⟨g, j * 2, none⟩) hg1).trans hg2
      have hg3 := (hbr.cell (p := ⟨g, j * 2 + 1, none⟩) hg1).trans hg3
      have hg2' := (hbr.cell (p := ⟨g', j * 2, none⟩) hg1').trans hg2'
      have hg3' := (hbr.cell (p := ⟨g', j * 2 + 1, none⟩) hg1').trans hg3'
      have hjn' : (j : Int) < l.length := by omega
      clear hbr
      generalize l[j] = y at *
      go_wp2_with fail
      go_region
      all_goals
        go_wp2_with fail
        exact ⟨⟨j + 1, rfl, by omega, HBR.out.drew⟩, by simp [intOf]; omega⟩
    · have hjn' : ¬ ((j : Int) < l.length) := by omega
      clear hbr
      go_wp2_with fail
      go_ret
      exact ⟨rfl, HBR.out⟩
end Lo
end Go.Proofs.YtkjlfoihojfnbaaDoor
