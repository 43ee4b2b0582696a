/- The reference's Has. -/
import Derived.Test.YtkjlfoihojfnbaaDoorLoC
namespace Go.Proofs.YtkjlfoihojfnbaaDoor
open Go.RowKit
set_option linter.unusedVariables false
namespace Lo
open Lv (W64 slotOf slotOf_lt fresh ret_int ret_bool slot_any rslot_any)
open Ln (lvCells LV upd only_set only_refl only_drew)
set_option maxRecDepth 100000 in
set_option maxHeartbeats 1000000 in
theorem rhas_any (l : List (Nat × Nat)) (hl : l.length ≤ 1000) (v : Value) (x : Nat × Nat) (w : World) (lies : Lies w v l) :
    Calls Tryd.prog 11 #[v, .agg #[.int .u64 (x.1 : Nat), .int .u64 (x.2 : Nat)]] w fun e w' => e = .returned (.bool (decide (x ∈ l))) ∧ Below w.heap.size w w' := by
  obtain ⟨A, cap, rfl, hcap, hcells⟩ := lies
  obtain ⟨W0, hW0⟩ : ∃ W0, W0 = w.alloc (.cells #[.int .u64 (x.1 : Nat), .int .u64 (x.2 : Nat)] 29) := ⟨_, rfl⟩
  have hb0 : Below w.heap.size w W0 := by rw [hW0]; exact (Below.refl _ _).alloc (Nat.le_refl _) _
  have hx0 : W0.heap[w.heap.size]? = some (.cells #[.int .u64 (x.1 : Nat), .int .u64 (x.2 : Nat)] 29 (0, 0)) := by rw [hW0]; exact heap_alloc_new w _
  have hzw : w.heap.size < W0.heap.size := by rw [hW0]; simp
  have HXX : Hid (∀ W, Below W0.heap.size W0 W → W.cell? ⟨w.heap.size, 0, none⟩ = some (.int .u64 (x.1 : Nat)) ∧ W.cell? ⟨w.heap.size, 1, none⟩ = some (.int .u64 (x.2 : Nat))) := Lib.hid fun W hW => by
    have h := (hW.block w.heap.size hzw).trans hx0
    exact ⟨by simp [World.cell?, h], by simp [World.cell?, h]⟩
  have HCE := Lib.hid hcells
  have HW := Lib.hid hb0
  have hl' : (l.length : Int) ≤ 1000 := by omega
  replace hW0 := Lib.hid hW0
  clear hcells hb0 hx0
  go_enter Tryd.func11, Tryd.ntmps11
  go_upto_region 1 with fail
  rw [← hW0.out]
  go_wp2_with fail
  go_loopw [5] (fun vj wr => ∃ j : Nat, vj = .int .i64 (j : Int) ∧ j ≤ l.length ∧ Hid (x ∉ l.take j) ∧ Below W0.heap.size W0 wr) (fun vj _ => l.length + 1 - (intOf vj).toNat)
  case atStart => exact ⟨0, rfl, by omega, Lib.hid (by simp), Below.refl _ _⟩
  case round =>
    obtain ⟨j, rfl, hj, HJ, hbr⟩ := hrel
    rename_i wr
    have HBR := Lib.hid hbr
    obtain ⟨x0, x1⟩ := HXX.out wr hbr
    by_cases hjn : j < l.length
    · obtain ⟨g, rfl, hg1, hg2, hg3⟩ := HCE.out j hjn
      have hg2 := (hbr.cell (p := ⟨g, j * 2, none⟩) (Nat.lt_of_lt_of_le hg1 HW.out.size)).trans ((HW.out.cell (p := ⟨g, j * 2, none⟩) hg1).trans hg2)
      have hg3 := (hbr.cell (p := ⟨g, j * 2 + 1, none⟩) (Nat.lt_of_lt_of_le hg1 HW.out.size)).trans ((HW.out.cell (p := ⟨g, j * 2 + 1, none⟩) hg1).trans hg3)
      have hjn' : (j : Int) < l.length := by omega
      have HT : Hid (l.take (j + 1) = l.take j ++ [l[j]]) := Lib.hid (List.take_succ_eq_append_getElem hjn)
      clear hbr
      by_cases hxy : x = l[j]
      · have HXM : Hid (x ∈ l) := Lib.hid (by rw [hxy]; exact List.getElem_mem _)
        rw [← hxy] at hg2 hg3
        clear hxy
        go_wp2_with fail
        go_region
        all_goals
          go_wp2_with fail
          go_ret
          exact ⟨by rw [decide_eq_true HXM.out]; rfl, HW.out.trans (HBR.out.drew.mono HW.out.size)⟩
      · have hq : (((l[j].1 : Nat) : Int) == (x.1 : Nat)) = false ∨ ((((l[j].1 : Nat) : Int) == (x.1 : Nat)) = true ∧ (((l[j].2 : Nat) : Int) == (x.2 : Nat)) = false) := by
          by_cases h1 : x.1 = l[j].1
          · refine .inr ⟨by rw [h1]; exact beq_self_eq_true _, beq_eq_false_iff_ne.2 fun h2 => hxy (Prod.ext h1 (by omega))⟩
          · exact .inl (beq_eq_false_iff_ne.2 fun h2 => h1 (by omega))
        have HJ2 : Hid (x ∉ l.take (j + 1)) := Lib.hid (by
          rw [HT.out]
          intro h
          rcases List.mem_append.1 h with h | h
          · exact HJ.out h
          · exact hxy (List.mem_singleton.1 h))
        clear hxy
        generalize l[j] = y at *
        rcases hq with hq | ⟨hq, hq2⟩
        all_goals
          go_wp2_with fail
          go_region
          all_goals
            go_wp2_with fail
            exact ⟨⟨j + 1, rfl, by omega, HJ2, HBR.out.drew⟩, by simp [intOf]; omega⟩
    · have hje : j = l.length := by omega
      have HNX : Hid (x ∉ l) := Lib.hid (by have h := HJ.out; rw [hje, List.take_length] at h; exact h)
      have hjn' : ¬ ((j : Int) < l.length) := by omega
      go_wp2_with fail
      go_ret
      exact ⟨by rw [decide_eq_false HNX.out]; rfl, HW.out.trans (HBR.out.mono HW.out.size)⟩
end Lo
end Go.Proofs.YtkjlfoihojfnbaaDoor
