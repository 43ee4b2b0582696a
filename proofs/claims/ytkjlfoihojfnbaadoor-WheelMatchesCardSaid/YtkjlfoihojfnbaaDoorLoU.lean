/- The reference's Without and First. -/
import Derived.Test.YtkjlfoihojfnbaaDoorLoE
import Derived.Test.YtkjlfoihojfnbaaDoorLoF
namespace Go.Proofs.YtkjlfoihojfnbaaDoor
open Go.RowKit
set_option linter.unusedVariables false
set_option linter.unusedSimpArgs false
namespace Lo
/-- A list without an item. -/
def wo (l : List (Nat × Nat)) (x : Nat × Nat) : List (Nat × Nat) := l.filter fun y => decide (y ≠ x)
open Lv (W64 slotOf slotOf_lt fresh ret_int ret_bool slot_any rslot_any)
open Ln (lvCells LV upd only_set only_refl only_drew)
set_option maxRecDepth 100000 in
set_option maxHeartbeats 2000000 in
theorem rwithout_any (l : List (Nat × Nat)) (hl : l.length ≤ 1000) (v : Value) (x : Nat × Nat) (w : World) (lies : Lies w v l) :
    Calls Tryd.prog 15 #[v, .agg #[.int .u64 (x.1 : Nat), .int .u64 (x.2 : Nat)]] w fun e w' => ∃ v', e = .returned v' ∧ IRow 29 w' w.heap.size v' (wo l x) ∧ Below w.heap.size w w' := by
  obtain ⟨A, cap, rfl, hcap, hcells⟩ := lies
  obtain ⟨W0, hW0⟩ : ∃ W0, W0 = w.alloc (.cells #[.int .u64 (x.1 : Nat), .int .u64 (x.2 : Nat)] 29) := ⟨_, rfl⟩
  have hb0 : Below w.heap.size w W0 := by rw [hW0]; exact (Below.refl _ _).alloc (Nat.le_refl _) _
  have hx0 : W0.heap[w.heap.size]? = some (.cells #[.int .u64 (x.1 : Nat), .int .u64 (x.2 : Nat)] 29 (0, 0)) := by rw [hW0]; exact heap_alloc_new w _
  have hzw : w.heap.size < W0.heap.size := by rw [hW0]; simp
  have HXX : Hid (∀ W, Below W0.heap.size W0 W → W.cell? ⟨w.heap.size, 0, none⟩ = some (.int .u64 (x.1 : Nat)) ∧ W.cell? ⟨w.heap.size, 1, none⟩ = some (.int .u64 (x.2 : Nat))) := Lib.hid fun W hW => by
    have h := (hW.block w.heap.size hzw).trans hx0
    exact ⟨by simp [World.cell?, h], by simp [World.cell?, h]⟩
  have HCE := Lib.hid hcells
  have HW := Lib.hid hb0
  have hl' : (l.length : Int) ≤ 1000 := by omega
  replace hW0 := Lib.hid hW0
  clear hcells hb0 hx0
  go_enter Tryd.func15, Tryd.ntmps15
  go_upto_region 1 with fail
  rw [← hW0.out]
  go_wp2_with fail
  go_loopw [5, 6] (fun vo vj wr => ∃ j : Nat, vj = .int .i64 (j : Int) ∧ j ≤ l.length ∧ IRow 29 wr W0.heap.size vo (wo (l.take j) x) ∧ Below W0.heap.size W0 wr) (fun _ vj _ => l.length + 1 - (intOf vj).toNat)
  case atStart => exact ⟨0, rfl, by omega, IRow.nil _ _ _, Below.refl _ _⟩
  case round =>
    obtain ⟨j, rfl, hj, hrow, hbr⟩ := hrel
    rename_i wr
    have HBR := Lib.hid hbr
    have HRO := Lib.hid hrow
    obtain ⟨x0, x1⟩ := HXX.out wr hbr
    by_cases hjn : j < l.length
    · obtain ⟨g, rfl, hg1, hg2, hg3⟩ := HCE.out j hjn
      have hg2 := (hbr.cell (p := ⟨g, j * 2, none⟩) (Nat.lt_of_lt_of_le hg1 HW.out.size)).trans ((HW.out.cell (p := ⟨g, j * 2, none⟩) hg1).trans hg2)
      have hg3 := (hbr.cell (p := ⟨g, j * 2 + 1, none⟩) (Nat.lt_of_lt_of_le hg1 HW.out.size)).trans ((HW.out.cell (p := ⟨g, j * 2 + 1, none⟩) hg1).trans hg3)
      have hjn' : (j : Int) < l.length := by omega
      have HT : Hid (l.take (j + 1) = l.take j ++ [l[j]]) := Lib.hid (List.take_succ_eq_append_getElem hjn)
      have htl : (wo (l.take j) x).length ≤ 1000 := Nat.le_trans (List.length_filter_le _ _) (by rw [List.length_take]; omega)
      clear hrow hbr
      by_cases hxy : x = l[j]
      · have HTF : Hid (wo (l.take (j + 1)) x = wo (l.take j) x) := Lib.hid (by
          unfold wo
          rw [HT.out, List.filter_append, ← hxy, List.filter_cons_of_neg (by simp)]
          simp)
        rw [← hxy] at hg2 hg3
        clear hxy
        go_wp2_with fail
        go_region
        all_goals
          go_wp2_with fail
          exact ⟨⟨j + 1, rfl, by omega, by rw [HTF.out]; exact HRO.out.keep (fun _ _ => rfl), HBR.out.drew⟩, by simp [intOf]; omega⟩
      · have hq : (((l[j].1 : Nat) : Int) == (x.1 : Nat)) = false ∨ ((((l[j].1 : Nat) : Int) == (x.1 : Nat)) = true ∧ (((l[j].2 : Nat) : Int) == (x.2 : Nat)) = false) := by
          by_cases h1 : x.1 = l[j].1
          · refine .inr ⟨by rw [h1]; exact beq_self_eq_true _, beq_eq_false_iff_ne.2 fun h2 => hxy (Prod.ext h1 (by omega))⟩
          · exact .inl (beq_eq_false_iff_ne.2 fun h2 => h1 (by omega))
        have HTF : Hid (wo (l.take (j + 1)) x = wo (l.take j) x ++ [l[j]]) := Lib.hid (by
          unfold wo
          rw [HT.out, List.filter_append, List.filter_cons_of_pos (by simpa using fun e => hxy e.symm)]
          simp)
        clear hxy
        generalize l[j] = y at *
        obtain ⟨W2, hW2⟩ : ∃ W, W = (wr.alloc (.cells #[.int .u64 (y.1 : Nat), .int .u64 (y.2 : Nat)] 29)).drew := ⟨_, rfl⟩
        have hb2 : Below wr.heap.size wr W2 := by rw [hW2]; exact below_drew ((Below.refl _ _).alloc (Nat.le_refl _) _)
        have HL2 : Hid (Lies W2 (.slice (some ⟨wr.heap.size, 0, none⟩) 1 1) [y]) := Lib.hid (by rw [hW2]; exact (lies_new wr _ y).later (below_drew (Below.refl _ _)))
        have HR2 := Lib.hid (HRO.out.later hb2)
        have HB2 := Lib.hid (HBR.out.trans (hb2.mono HBR.out.size))
        have hz2 : W0.heap.size ≤ W2.heap.size := HB2.out.size
        replace hW2 := Lib.hid hW2
        clear hb2
        rcases hq with hq | ⟨hq, hq2⟩
        all_goals
          go_wp2_with fail
          go_region
          all_goals
            go_wp2_with (at_builtin; rw [← hW2.out]; refine wpList_append_items _ rfl _ _ rfl W0.heap.size _ _ (wo (l.take j) x) [y] rfl rfl HR2.out HL2.out (by simp only [List.length_singleton]; omega) hz2 ?_; intro v3 w3 hown3 hg3 hb3)
            have HO3 := Lib.hid hown3
            have HB3 := Lib.hid (HB2.out.grown hg3 hz2 (fun k hk => (HR2.out.lt k hk).1))
            clear hown3 hg3 hb3
            go_wp2_with fail
            exact ⟨⟨j + 1, rfl, by omega, by rw [HTF.out]; exact HO3.out, HB3.out⟩, by simp [intOf]; omega⟩
    · have hje : j = l.length := by omega
      have hjn' : ¬ ((j : Int) < l.length) := by omega
      subst hje
      rw [List.take_length] at hrow
      have HRF := Lib.hid hrow
      clear hrow hbr
      go_wp2_with fail
      go_ret
      exact ⟨_, rfl, HRF.out.base_le (Nat.le_of_lt hzw), HW.out.trans (HBR.out.mono HW.out.size)⟩
end Lo
end Go.Proofs.YtkjlfoihojfnbaaDoor
