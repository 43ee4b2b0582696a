/- The reference's Insert into the empty list; Insert of any row. -/
import Derived.Test.YtkjlfoihojfnbaaDoorLoF
namespace Go.Proofs.YtkjlfoihojfnbaaDoor
open Go.RowKit
set_option linter.unusedVariables false
set_option linter.unusedSimpArgs false
namespace Lo
open Lv (W64 slotOf slotOf_lt fresh ret_int ret_bool slot_any rslot_any ordI rcompare_any)
open Ln (lvCells LV upd only_set only_refl only_drew)
set_option maxRecDepth 100000 in
set_option maxHeartbeats 4000000 in
theorem rinsert_none (x : Nat × Nat) (w : World) :
    Calls Tryd.prog 13 #[.slice none 0 0, .agg #[.int .u64 (x.1 : Nat), .int .u64 (x.2 : Nat)]] w fun e w' => ∃ v', e = .returned v' ∧ IRow 29 w' w.heap.size v' [x] ∧ Below w.heap.size w w' := by
  obtain ⟨W0, hW0⟩ : ∃ W0, W0 = w.alloc (.cells #[.int .u64 (x.1 : Nat), .int .u64 (x.2 : Nat)] 29) := ⟨_, rfl⟩
  have hb0 : Below w.heap.size w W0 := by rw [hW0]; exact (Below.refl _ _).alloc (Nat.le_refl _) _
  have hx0 : W0.heap[w.heap.size]? = some (.cells #[.int .u64 (x.1 : Nat), .int .u64 (x.2 : Nat)] 29 (0, 0)) := by rw [hW0]; exact heap_alloc_new w _
  have hzw : w.heap.size < W0.heap.size := by rw [hW0]; simp
  have HXX : Hid (∀ W, Below W0.heap.size W0 W → W.cell? ⟨w.heap.size, 0, none⟩ = some (.int .u64 (x.1 : Nat)) ∧ W.cell? ⟨w.heap.size, 1, none⟩ = some (.int .u64 (x.2 : Nat))) := Lib.hid fun W hW => by
    have h := (hW.block w.heap.size hzw).trans hx0
    exact ⟨by simp [World.cell?, h], by simp [World.cell?, h]⟩
  have HW := Lib.hid hb0
  replace hW0 := Lib.hid hW0
  clear hx0 hb0
  go_enter Tryd.func13, Tryd.ntmps13
  go_upto_region 1 with fail
  rw [← hW0.out]
  go_wp2_with fail
  go_loopw [5] (fun vj wr => vj = .int .i64 0 ∧ Below W0.heap.size W0 wr) (fun vj _ => 0)
  case atStart => exact ⟨rfl, Below.refl _ _⟩
  case round =>
    obtain ⟨rfl, hbr⟩ := hrel
    rename_i wr
    have HBR := Lib.hid hbr
    have KB : Hid (∀ W, Below wr.heap.size wr W → W.cell? ⟨w.heap.size, 0, none⟩ = some (.int .u64 (x.1 : Nat)) ∧ W.cell? ⟨w.heap.size, 1, none⟩ = some (.int .u64 (x.2 : Nat))) := Lib.hid fun W hW => HXX.out W (HBR.out.trans (hW.mono HBR.out.size))
    clear hbr
    go_upto_region 2 with fail
    have HD0 : Hid (Below wr.heap.size wr wr.drew) := Lib.hid (below_drew (Below.refl _ _))
    refine wp_region_noPanic ?_
    refine wp_region_held_drew (S := (fun w' : World => w'.cell? ⟨w.heap.size, 0, none⟩ = some (.int .u64 (x.1 : Nat)) ∧ w'.cell? ⟨w.heap.size, 1, none⟩ = some (.int .u64 (x.2 : Nat)))) (by kernel_rfl) ?_ (fun hH0 => ?_)
    · exact KB.out _ HD0.out
    first
      | (refine take_drop (i := 0) (v := ?_) rfl (by kernel_rfl) (by kernel_rfl) (by kernel_rfl) (fun _ _ _ h => h) (Or.inl ⟨by rfl, ?_⟩) (by assumption) ?_; rotate_left 1; (focus (intro w hSw; (try dsimp only at hSw); go_simp; try with_reducible rfl)); try simp only [Act.put, List.setIfInBounds_toArray, List.set_cons_zero, List.set_cons_succ])
      | (refine take_drop (i := 0) (v := undef) rfl (by kernel_rfl) (by kernel_rfl) (by kernel_rfl) (fun _ _ _ h => h) (Or.inr ⟨by rfl, rfl⟩) (by assumption) ?_; try simp only [Act.put, List.setIfInBounds_toArray, List.set_cons_zero, List.set_cons_succ])
    first
      | (refine take_drop (i := 1) (v := ?_) rfl (by kernel_rfl) (by kernel_rfl) (by kernel_rfl) (fun _ _ _ h => h) (Or.inl ⟨by rfl, ?_⟩) (by assumption) ?_; rotate_left 1; (focus (intro w hSw; (try dsimp only at hSw); go_simp; try with_reducible rfl)); try simp only [Act.put, List.setIfInBounds_toArray, List.set_cons_zero, List.set_cons_succ])
      | (refine take_drop (i := 1) (v := undef) rfl (by kernel_rfl) (by kernel_rfl) (by kernel_rfl) (fun _ _ _ h => h) (Or.inr ⟨by rfl, rfl⟩) (by assumption) ?_; try simp only [Act.put, List.setIfInBounds_toArray, List.set_cons_zero, List.set_cons_succ])
    first
      | (refine take_drop (i := 2) (v := ?_) rfl (by kernel_rfl) (by kernel_rfl) (by kernel_rfl) (fun _ _ _ h => h) (Or.inl ⟨by rfl, ?_⟩) (by assumption) ?_; rotate_left 1; (focus (intro w hSw; (try dsimp only at hSw); go_simp; try with_reducible rfl)); try simp only [Act.put, List.setIfInBounds_toArray, List.set_cons_zero, List.set_cons_succ])
      | (refine take_drop (i := 2) (v := undef) rfl (by kernel_rfl) (by kernel_rfl) (by kernel_rfl) (fun _ _ _ h => h) (Or.inr ⟨by rfl, rfl⟩) (by assumption) ?_; try simp only [Act.put, List.setIfInBounds_toArray, List.set_cons_zero, List.set_cons_succ])
    first
      | (refine take_drop (i := 3) (v := ?_) rfl (by kernel_rfl) (by kernel_rfl) (by kernel_rfl) (fun _ _ _ h => h) (Or.inl ⟨by rfl, ?_⟩) (by assumption) ?_; rotate_left 1; (focus (intro w hSw; (try dsimp only at hSw); go_simp; try with_reducible rfl)); try simp only [Act.put, List.setIfInBounds_toArray, List.set_cons_zero, List.set_cons_succ])
      | (refine take_drop (i := 3) (v := undef) rfl (by kernel_rfl) (by kernel_rfl) (by kernel_rfl) (fun _ _ _ h => h) (Or.inr ⟨by rfl, rfl⟩) (by assumption) ?_; try simp only [Act.put, List.setIfInBounds_toArray, List.set_cons_zero, List.set_cons_succ])
    first
      | (refine take_drop (i := 4) (v := ?_) rfl (by kernel_rfl) (by kernel_rfl) (by kernel_rfl) (fun _ _ _ h => h) (Or.inl ⟨by rfl, ?_⟩) (by assumption) ?_; rotate_left 1; (focus (intro w hSw; (try dsimp only at hSw); go_simp; try with_reducible rfl)); try simp only [Act.put, List.setIfInBounds_toArray, List.set_cons_zero, List.set_cons_succ])
      | (refine take_drop (i := 4) (v := undef) rfl (by kernel_rfl) (by kernel_rfl) (by kernel_rfl) (fun _ _ _ h => h) (Or.inr ⟨by rfl, rfl⟩) (by assumption) ?_; try simp only [Act.put, List.setIfInBounds_toArray, List.set_cons_zero, List.set_cons_succ])
    first
      | (refine take_drop (i := 5) (v := ?_) rfl (by kernel_rfl) (by kernel_rfl) (by kernel_rfl) (fun _ _ _ h => h) (Or.inl ⟨by rfl, ?_⟩) (by assumption) ?_; rotate_left 1; (focus (intro w hSw; (try dsimp only at hSw); go_simp; try with_reducible rfl)); try simp only [Act.put, List.setIfInBounds_toArray, List.set_cons_zero, List.set_cons_succ])
      | (refine take_drop (i := 5) (v := undef) rfl (by kernel_rfl) (by kernel_rfl) (by kernel_rfl) (fun _ _ _ h => h) (Or.inr ⟨by rfl, rfl⟩) (by assumption) ?_; try simp only [Act.put, List.setIfInBounds_toArray, List.set_cons_zero, List.set_cons_succ])
    first
      | (refine take_drop (i := 6) (v := ?_) rfl (by kernel_rfl) (by kernel_rfl) (by kernel_rfl) (fun _ _ _ h => h) (Or.inl ⟨by rfl, ?_⟩) (by assumption) ?_; rotate_left 1; (focus (intro w hSw; (try dsimp only at hSw); go_simp; try with_reducible rfl)); try simp only [Act.put, List.setIfInBounds_toArray, List.set_cons_zero, List.set_cons_succ])
      | (refine take_drop (i := 6) (v := undef) rfl (by kernel_rfl) (by kernel_rfl) (by kernel_rfl) (fun _ _ _ h => h) (Or.inr ⟨by rfl, rfl⟩) (by assumption) ?_; try simp only [Act.put, List.setIfInBounds_toArray, List.set_cons_zero, List.set_cons_succ])
    first
      | (refine take_drop (i := 7) (v := ?_) rfl (by kernel_rfl) (by kernel_rfl) (by kernel_rfl) (fun _ _ _ h => h) (Or.inl ⟨by rfl, ?_⟩) (by assumption) ?_; rotate_left 1; (focus (intro w hSw; (try dsimp only at hSw); go_simp; try with_reducible rfl)); try simp only [Act.put, List.setIfInBounds_toArray, List.set_cons_zero, List.set_cons_succ])
      | (refine take_drop (i := 7) (v := undef) rfl (by kernel_rfl) (by kernel_rfl) (by kernel_rfl) (fun _ _ _ h => h) (Or.inr ⟨by rfl, rfl⟩) (by assumption) ?_; try simp only [Act.put, List.setIfInBounds_toArray, List.set_cons_zero, List.set_cons_succ])
    first
      | (refine take_drop (i := 8) (v := ?_) rfl (by kernel_rfl) (by kernel_rfl) (by kernel_rfl) (fun _ _ _ h => h) (Or.inl ⟨by rfl, ?_⟩) (by assumption) ?_; rotate_left 1; (focus (intro w hSw; (try dsimp only at hSw); go_simp; try with_reducible rfl)); try simp only [Act.put, List.setIfInBounds_toArray, List.set_cons_zero, List.set_cons_succ])
      | (refine take_drop (i := 8) (v := undef) rfl (by kernel_rfl) (by kernel_rfl) (by kernel_rfl) (fun _ _ _ h => h) (Or.inr ⟨by rfl, rfl⟩) (by assumption) ?_; try simp only [Act.put, List.setIfInBounds_toArray, List.set_cons_zero, List.set_cons_succ])
    first
      | (refine take_drop (i := 9) (v := ?_) rfl (by kernel_rfl) (by kernel_rfl) (by kernel_rfl) (fun _ _ _ h => h) (Or.inl ⟨by rfl, ?_⟩) (by assumption) ?_; rotate_left 1; (focus (intro w hSw; (try dsimp only at hSw); go_simp; try with_reducible rfl)); try simp only [Act.put, List.setIfInBounds_toArray, List.set_cons_zero, List.set_cons_succ])
      | (refine take_drop (i := 9) (v := undef) rfl (by kernel_rfl) (by kernel_rfl) (by kernel_rfl) (fun _ _ _ h => h) (Or.inr ⟨by rfl, rfl⟩) (by assumption) ?_; try simp only [Act.put, List.setIfInBounds_toArray, List.set_cons_zero, List.set_cons_succ])
    refine wpAnyH_ready (rs := [10]) (by kernel_rfl) (by simp) ?_
    refine cons_drop rfl (fun K hK => ?_) AllReadyH.nil
    go_simp
    refine hK.out _ _ (KB.out _ HD0.out) (fun hH1 => ?_)
    clear hK K hH0
    try simp only [Act.put, List.setIfInBounds_toArray, List.set_cons_zero, List.set_cons_succ]
    first
      | (refine take_drop (i := 11) (v := ?_) rfl (by kernel_rfl) (by kernel_rfl) (by kernel_rfl) (fun _ _ _ h => h) (Or.inl ⟨by rfl, ?_⟩) (by assumption) ?_; rotate_left 1; (focus (intro w hSw; (try dsimp only at hSw); go_simp; try with_reducible rfl)); try simp only [Act.put, List.setIfInBounds_toArray, List.set_cons_zero, List.set_cons_succ])
      | (refine take_drop (i := 11) (v := undef) rfl (by kernel_rfl) (by kernel_rfl) (by kernel_rfl) (fun _ _ _ h => h) (Or.inr ⟨by rfl, rfl⟩) (by assumption) ?_; try simp only [Act.put, List.setIfInBounds_toArray, List.set_cons_zero, List.set_cons_succ])
    first
      | (refine take_drop (i := 12) (v := ?_) rfl (by kernel_rfl) (by kernel_rfl) (by kernel_rfl) (fun _ _ _ h => h) (Or.inl ⟨by rfl, ?_⟩) (by assumption) ?_; rotate_left 1; (focus (intro w hSw; (try dsimp only at hSw); go_simp; try with_reducible rfl)); try simp only [Act.put, List.setIfInBounds_toArray, List.set_cons_zero, List.set_cons_succ])
      | (refine take_drop (i := 12) (v := undef) rfl (by kernel_rfl) (by kernel_rfl) (by kernel_rfl) (fun _ _ _ h => h) (Or.inr ⟨by rfl, rfl⟩) (by assumption) ?_; try simp only [Act.put, List.setIfInBounds_toArray, List.set_cons_zero, List.set_cons_succ])
    refine wpAnyH_done (by kernel_rfl) ?_ _
    refine NoPanic.normal ?_
    obtain ⟨wz, hwz⟩ : ∃ wz, wz = wr.drew := ⟨_, rfl⟩
    have HB4 : Hid (Below W0.heap.size W0 wz) := Lib.hid (by rw [hwz]; exact below_drew HBR.out)
    go_upto_region 4 with fail
    rw [← hwz]
    replace hwz := Lib.hid hwz
    have KB4 : Hid (∀ W, Below wz.heap.size wz W → W.cell? ⟨w.heap.size, 0, none⟩ = some (.int .u64 (x.1 : Nat)) ∧ W.cell? ⟨w.heap.size, 1, none⟩ = some (.int .u64 (x.2 : Nat))) := Lib.hid fun W hW => HXX.out W (HB4.out.trans (hW.mono HB4.out.size))
    have HU : Hid (∀ W, LiesO W (.slice none 0 0) []) := Lib.hid fun W => ⟨none, 0, rfl, Nat.le_refl _, fun i hi => by simp at hi⟩
    have HD0 : Hid (Below wz.heap.size wz wz.drew) := Lib.hid (below_drew (Below.refl _ _))
    refine wp_region_noPanic ?_
    refine wp_region_held_drew (S := (fun w' : World => w'.cell? ⟨w.heap.size, 0, none⟩ = some (.int .u64 (x.1 : Nat)) ∧ w'.cell? ⟨w.heap.size, 1, none⟩ = some (.int .u64 (x.2 : Nat)))) (by kernel_rfl) ?_ (fun hH0 => ?_)
    · exact KB4.out _ HD0.out
    first
      | (refine take_drop (i := 1) (v := ?_) rfl (by kernel_rfl) (by kernel_rfl) (by kernel_rfl) (fun _ _ _ h => h) (Or.inl ⟨by rfl, ?_⟩) (by assumption) ?_; rotate_left 1; (focus (intro w hSw; (try dsimp only at hSw); go_simp; try with_reducible rfl)); try simp only [Act.put, List.setIfInBounds_toArray, List.set_cons_zero, List.set_cons_succ])
      | (refine take_drop (i := 1) (v := undef) rfl (by kernel_rfl) (by kernel_rfl) (by kernel_rfl) (fun _ _ _ h => h) (Or.inr ⟨by rfl, rfl⟩) (by assumption) ?_; try simp only [Act.put, List.setIfInBounds_toArray, List.set_cons_zero, List.set_cons_succ])
    first
      | (refine take_drop (i := 2) (v := ?_) rfl (by kernel_rfl) (by kernel_rfl) (by kernel_rfl) (fun _ _ _ h => h) (Or.inl ⟨by rfl, ?_⟩) (by assumption) ?_; rotate_left 1; (focus (intro w hSw; (try dsimp only at hSw); go_simp; try with_reducible rfl)); try simp only [Act.put, List.setIfInBounds_toArray, List.set_cons_zero, List.set_cons_succ])
      | (refine take_drop (i := 2) (v := undef) rfl (by kernel_rfl) (by kernel_rfl) (by kernel_rfl) (fun _ _ _ h => h) (Or.inr ⟨by rfl, rfl⟩) (by assumption) ?_; try simp only [Act.put, List.setIfInBounds_toArray, List.set_cons_zero, List.set_cons_succ])
    first
      | (refine take_drop (i := 3) (v := ?_) rfl (by kernel_rfl) (by kernel_rfl) (by kernel_rfl) (fun _ _ _ h => h) (Or.inl ⟨by rfl, ?_⟩) (by assumption) ?_; rotate_left 1; (focus (intro w hSw; (try dsimp only at hSw); go_simp; try with_reducible rfl)); try simp only [Act.put, List.setIfInBounds_toArray, List.set_cons_zero, List.set_cons_succ])
      | (refine take_drop (i := 3) (v := undef) rfl (by kernel_rfl) (by kernel_rfl) (by kernel_rfl) (fun _ _ _ h => h) (Or.inr ⟨by rfl, rfl⟩) (by assumption) ?_; try simp only [Act.put, List.setIfInBounds_toArray, List.set_cons_zero, List.set_cons_succ])
    first
      | (refine take_drop (i := 5) (v := ?_) rfl (by kernel_rfl) (by kernel_rfl) (by kernel_rfl) (fun _ _ _ h => h) (Or.inl ⟨by rfl, ?_⟩) (by assumption) ?_; rotate_left 1; (focus (intro w hSw; (try dsimp only at hSw); go_simp; try with_reducible rfl)); try simp only [Act.put, List.setIfInBounds_toArray, List.set_cons_zero, List.set_cons_succ])
      | (refine take_drop (i := 5) (v := undef) rfl (by kernel_rfl) (by kernel_rfl) (by kernel_rfl) (fun _ _ _ h => h) (Or.inr ⟨by rfl, rfl⟩) (by assumption) ?_; try simp only [Act.put, List.setIfInBounds_toArray, List.set_cons_zero, List.set_cons_succ])
    first
      | (refine take_drop (i := 8) (v := ?_) rfl (by kernel_rfl) (by kernel_rfl) (by kernel_rfl) (fun _ _ _ h => h) (Or.inl ⟨by rfl, ?_⟩) (by assumption) ?_; rotate_left 1; (focus (intro w hSw; (try dsimp only at hSw); go_simp; try with_reducible rfl)); try simp only [Act.put, List.setIfInBounds_toArray, List.set_cons_zero, List.set_cons_succ])
      | (refine take_drop (i := 8) (v := undef) rfl (by kernel_rfl) (by kernel_rfl) (by kernel_rfl) (fun _ _ _ h => h) (Or.inr ⟨by rfl, rfl⟩) (by assumption) ?_; try simp only [Act.put, List.setIfInBounds_toArray, List.set_cons_zero, List.set_cons_succ])
    first
      | (refine take_drop (i := 9) (v := ?_) rfl (by kernel_rfl) (by kernel_rfl) (by kernel_rfl) (fun _ _ _ h => h) (Or.inl ⟨by rfl, ?_⟩) (by assumption) ?_; rotate_left 1; (focus (intro w hSw; (try dsimp only at hSw); go_simp; try with_reducible rfl)); try simp only [Act.put, List.setIfInBounds_toArray, List.set_cons_zero, List.set_cons_succ])
      | (refine take_drop (i := 9) (v := undef) rfl (by kernel_rfl) (by kernel_rfl) (by kernel_rfl) (fun _ _ _ h => h) (Or.inr ⟨by rfl, rfl⟩) (by assumption) ?_; try simp only [Act.put, List.setIfInBounds_toArray, List.set_cons_zero, List.set_cons_succ])
    first
      | (refine take_drop (i := 10) (v := ?_) rfl (by kernel_rfl) (by kernel_rfl) (by kernel_rfl) (fun _ _ _ h => h) (Or.inl ⟨by rfl, ?_⟩) (by assumption) ?_; rotate_left 1; (focus (intro w hSw; (try dsimp only at hSw); go_simp; try with_reducible rfl)); try simp only [Act.put, List.setIfInBounds_toArray, List.set_cons_zero, List.set_cons_succ])
      | (refine take_drop (i := 10) (v := undef) rfl (by kernel_rfl) (by kernel_rfl) (by kernel_rfl) (fun _ _ _ h => h) (Or.inr ⟨by rfl, rfl⟩) (by assumption) ?_; try simp only [Act.put, List.setIfInBounds_toArray, List.set_cons_zero, List.set_cons_succ])
    refine wpAnyH_ready (rs := [0, 6]) (by kernel_rfl) (by simp) ?_
    refine cons_drop rfl (fun K hK => ?_) (cons_drop rfl (fun K hK => ?_) AllReadyH.nil)
    · go_simp
      obtain ⟨u11, hu11⟩ : ∃ u, u = (wz.alloc (.cells #[] 29)).drew := ⟨_, rfl⟩
      rw [← hu11]
      have hbz : Below wz.heap.size wz u11 := by rw [hu11]; exact below_drew ((Below.refl _ _).alloc (Nat.le_refl _) _)
      have HZ11 : Hid (u11.heap.size = wz.heap.size + 1) := Lib.hid (by rw [hu11]; simp)
      have HD11 : Hid (Below wz.heap.size wz u11) := Lib.hid hbz
      have HR11 : Hid (IRow 29 u11 wz.heap.size (.slice (some ⟨wz.heap.size, 0, none⟩) 0 0) []) := Lib.hid (by rw [hu11]; exact row_empty wz 29 _ (Nat.le_refl _))
      clear hbz
      replace hu11 := Lib.hid hu11
      refine hK.out _ _ (KB4.out _ HD11.out) (fun hH11 => ?_)
      clear hK K hH0
      try simp only [Act.put, List.setIfInBounds_toArray, List.set_cons_zero, List.set_cons_succ]
      refine wpAnyH_ready (rs := [4, 6]) (by kernel_rfl) (by simp) ?_
      refine cons_drop rfl (fun K hK => ?_) (cons_drop rfl (fun K hK => ?_) AllReadyH.nil)
      · refine step_append_items _ rfl _ _ rfl wz.heap.size _ _ [] [] rfl rfl HR11.out (HU.out _) (by simp) HD11.out.size ?_
        intro v12 u12 hrow12 hgr
        have HD12 : Hid (Below wz.heap.size wz u12) := Lib.hid (HD11.out.grown hgr HD11.out.size (fun k hk => (HR11.out.lt k hk).1))
        have HR12 := Lib.hid hrow12
        clear hrow12 hgr
        refine hK.out _ _ (KB4.out _ HD12.out) (fun hH12 => ?_)
        clear hK K hH11
        try simp only [Act.put, List.setIfInBounds_toArray, List.set_cons_zero, List.set_cons_succ]
        refine wpAnyH_ready (rs := [6]) (by kernel_rfl) (by simp) ?_
        refine cons_drop rfl (fun K hK => ?_) AllReadyH.nil
        go_simp
        obtain ⟨u13, hu13⟩ : ∃ u, u = u12.alloc (.cells #[.int .u64 (x.1 : Nat), .int .u64 (x.2 : Nat)] 29) := ⟨_, rfl⟩
        rw [← hu13]
        have hbz : Below u12.heap.size u12 u13 := by rw [hu13]; exact (Below.refl _ _).alloc (Nat.le_refl _) _
        have HZ13 : Hid (u13.heap.size = u12.heap.size + 1) := Lib.hid (by rw [hu13]; simp)
        have HD13 : Hid (Below wz.heap.size wz u13) := Lib.hid (HD12.out.trans (hbz.mono HD12.out.size))
        have HR13 := Lib.hid (HR12.out.later hbz)
        have HX13 : Hid (Lies u13 (.slice (some ⟨u12.heap.size, 0, none⟩) 1 1) [x]) := Lib.hid (by rw [hu13]; exact lies_new u12 29 x)
        clear hbz
        replace hu13 := Lib.hid hu13
        refine hK.out _ _ (KB4.out _ HD13.out) (fun hH13 => ?_)
        clear hK K hH12
        try simp only [Act.put, List.setIfInBounds_toArray, List.set_cons_zero, List.set_cons_succ]
        refine wpAnyH_ready (rs := [7]) (by kernel_rfl) (by simp) ?_
        refine cons_drop rfl (fun K hK => ?_) AllReadyH.nil
        refine step_append_items _ rfl _ _ rfl wz.heap.size _ _ ([] ++ []) [x] rfl rfl HR13.out HX13.out.toO (by simp) HD13.out.size ?_
        intro v14 u14 hrow14 hgr
        have HD14 : Hid (Below wz.heap.size wz u14) := Lib.hid (HD13.out.grown hgr HD13.out.size (fun k hk => (HR13.out.lt k hk).1))
        have HR14 := Lib.hid hrow14
        clear hrow14 hgr
        refine hK.out _ _ (KB4.out _ HD14.out) (fun hH14 => ?_)
        clear hK K hH13
        try simp only [Act.put, List.setIfInBounds_toArray, List.set_cons_zero, List.set_cons_succ]
        refine wpAnyH_ready (rs := [11]) (by kernel_rfl) (by simp) ?_
        refine cons_drop rfl (fun K hK => ?_) AllReadyH.nil
        refine step_append_items _ rfl _ _ rfl wz.heap.size _ _ (([] ++ []) ++ [x]) [] rfl rfl HR14.out (HU.out _) (by simp) HD14.out.size ?_
        intro v15 u15 hrow15 hgr
        have HD15 : Hid (Below wz.heap.size wz u15) := Lib.hid (HD14.out.grown hgr HD14.out.size (fun k hk => (HR14.out.lt k hk).1))
        have HR15 := Lib.hid hrow15
        clear hrow15 hgr
        refine hK.out _ _ (KB4.out _ HD15.out) (fun hH15 => ?_)
        clear hK K hH14
        try simp only [Act.put, List.setIfInBounds_toArray, List.set_cons_zero, List.set_cons_succ]
        first
          | (refine take_drop (i := 12) (v := ?_) rfl (by kernel_rfl) (by kernel_rfl) (by kernel_rfl) (fun _ _ _ h => h) (Or.inl ⟨by rfl, ?_⟩) (by assumption) ?_; rotate_left 1; (focus (intro w hSw; (try dsimp only at hSw); go_simp; try with_reducible rfl)); try simp only [Act.put, List.setIfInBounds_toArray, List.set_cons_zero, List.set_cons_succ])
          | (refine take_drop (i := 12) (v := undef) rfl (by kernel_rfl) (by kernel_rfl) (by kernel_rfl) (fun _ _ _ h => h) (Or.inr ⟨by rfl, rfl⟩) (by assumption) ?_; try simp only [Act.put, List.setIfInBounds_toArray, List.set_cons_zero, List.set_cons_succ])
        refine wpAnyH_done (by kernel_rfl) ?_ _
        refine NoPanic.normal ?_
        go_wp2_with fail
        all_goals
          go_ret
          exact ⟨_, rfl, by have h := HR15.out.base_le (Nat.le_trans (Nat.le_of_lt hzw) HB4.out.size); simpa using h, HW.out.trans ((HB4.out.trans (HD15.out.mono HB4.out.size)).mono HW.out.size)⟩
      · go_simp
        obtain ⟨u16, hu16⟩ : ∃ u, u = u11.alloc (.cells #[.int .u64 (x.1 : Nat), .int .u64 (x.2 : Nat)] 29) := ⟨_, rfl⟩
        rw [← hu16]
        have hbz : Below u11.heap.size u11 u16 := by rw [hu16]; exact (Below.refl _ _).alloc (Nat.le_refl _) _
        have HZ16 : Hid (u16.heap.size = u11.heap.size + 1) := Lib.hid (by rw [hu16]; simp)
        have HD16 : Hid (Below wz.heap.size wz u16) := Lib.hid (HD11.out.trans (hbz.mono HD11.out.size))
        have HR16 := Lib.hid (HR11.out.later hbz)
        have HX16 : Hid (Lies u16 (.slice (some ⟨u11.heap.size, 0, none⟩) 1 1) [x]) := Lib.hid (by rw [hu16]; exact lies_new u11 29 x)
        clear hbz
        replace hu16 := Lib.hid hu16
        refine hK.out _ _ (KB4.out _ HD16.out) (fun hH16 => ?_)
        clear hK K hH11
        try simp only [Act.put, List.setIfInBounds_toArray, List.set_cons_zero, List.set_cons_succ]
        refine wpAnyH_ready (rs := [4]) (by kernel_rfl) (by simp) ?_
        refine cons_drop rfl (fun K hK => ?_) AllReadyH.nil
        refine step_append_items _ rfl _ _ rfl wz.heap.size _ _ [] [] rfl rfl HR16.out (HU.out _) (by simp) HD16.out.size ?_
        intro v17 u17 hrow17 hgr
        have HD17 : Hid (Below wz.heap.size wz u17) := Lib.hid (HD16.out.grown hgr HD16.out.size (fun k hk => (HR16.out.lt k hk).1))
        have HR17 := Lib.hid hrow17
        have HX17 := Lib.hid (lies_keep HX16.out hgr (fun e => by have h := HZ11.out; have e2 : some u11.heap.size = some wz.heap.size := e; have e3 := Option.some.inj e2; omega))
        clear hrow17 hgr
        refine hK.out _ _ (KB4.out _ HD17.out) (fun hH17 => ?_)
        clear hK K hH16
        try simp only [Act.put, List.setIfInBounds_toArray, List.set_cons_zero, List.set_cons_succ]
        refine wpAnyH_ready (rs := [7]) (by kernel_rfl) (by simp) ?_
        refine cons_drop rfl (fun K hK => ?_) AllReadyH.nil
        refine step_append_items _ rfl _ _ rfl wz.heap.size _ _ ([] ++ []) [x] rfl rfl HR17.out HX17.out.toO (by simp) HD17.out.size ?_
        intro v18 u18 hrow18 hgr
        have HD18 : Hid (Below wz.heap.size wz u18) := Lib.hid (HD17.out.grown hgr HD17.out.size (fun k hk => (HR17.out.lt k hk).1))
        have HR18 := Lib.hid hrow18
        clear hrow18 hgr
        refine hK.out _ _ (KB4.out _ HD18.out) (fun hH18 => ?_)
        clear hK K hH17
        try simp only [Act.put, List.setIfInBounds_toArray, List.set_cons_zero, List.set_cons_succ]
        refine wpAnyH_ready (rs := [11]) (by kernel_rfl) (by simp) ?_
        refine cons_drop rfl (fun K hK => ?_) AllReadyH.nil
        refine step_append_items _ rfl _ _ rfl wz.heap.size _ _ (([] ++ []) ++ [x]) [] rfl rfl HR18.out (HU.out _) (by simp) HD18.out.size ?_
        intro v19 u19 hrow19 hgr
        have HD19 : Hid (Below wz.heap.size wz u19) := Lib.hid (HD18.out.grown hgr HD18.out.size (fun k hk => (HR18.out.lt k hk).1))
        have HR19 := Lib.hid hrow19
        clear hrow19 hgr
        refine hK.out _ _ (KB4.out _ HD19.out) (fun hH19 => ?_)
        clear hK K hH18
        try simp only [Act.put, List.setIfInBounds_toArray, List.set_cons_zero, List.set_cons_succ]
        first
          | (refine take_drop (i := 12) (v := ?_) rfl (by kernel_rfl) (by kernel_rfl) (by kernel_rfl) (fun _ _ _ h => h) (Or.inl ⟨by rfl, ?_⟩) (by assumption) ?_; rotate_left 1; (focus (intro w hSw; (try dsimp only at hSw); go_simp; try with_reducible rfl)); try simp only [Act.put, List.setIfInBounds_toArray, List.set_cons_zero, List.set_cons_succ])
          | (refine take_drop (i := 12) (v := undef) rfl (by kernel_rfl) (by kernel_rfl) (by kernel_rfl) (fun _ _ _ h => h) (Or.inr ⟨by rfl, rfl⟩) (by assumption) ?_; try simp only [Act.put, List.setIfInBounds_toArray, List.set_cons_zero, List.set_cons_succ])
        refine wpAnyH_done (by kernel_rfl) ?_ _
        refine NoPanic.normal ?_
        go_wp2_with fail
        all_goals
          go_ret
          exact ⟨_, rfl, by have h := HR19.out.base_le (Nat.le_trans (Nat.le_of_lt hzw) HB4.out.size); simpa using h, HW.out.trans ((HB4.out.trans (HD19.out.mono HB4.out.size)).mono HW.out.size)⟩
    · go_simp
      obtain ⟨u20, hu20⟩ : ∃ u, u = (wz.alloc (.cells #[.int .u64 (x.1 : Nat), .int .u64 (x.2 : Nat)] 29)).drew := ⟨_, rfl⟩
      rw [← hu20]
      have hbz : Below wz.heap.size wz u20 := by rw [hu20]; exact below_drew ((Below.refl _ _).alloc (Nat.le_refl _) _)
      have HZ20 : Hid (u20.heap.size = wz.heap.size + 1) := Lib.hid (by rw [hu20]; simp)
      have HD20 : Hid (Below wz.heap.size wz u20) := Lib.hid hbz
      have HX20 : Hid (Lies u20 (.slice (some ⟨wz.heap.size, 0, none⟩) 1 1) [x]) := Lib.hid (by rw [hu20]; exact lies_new wz 29 x)
      clear hbz
      replace hu20 := Lib.hid hu20
      refine hK.out _ _ (KB4.out _ HD20.out) (fun hH20 => ?_)
      clear hK K hH0
      try simp only [Act.put, List.setIfInBounds_toArray, List.set_cons_zero, List.set_cons_succ]
      refine wpAnyH_ready (rs := [0]) (by kernel_rfl) (by simp) ?_
      refine cons_drop rfl (fun K hK => ?_) AllReadyH.nil
      go_simp
      obtain ⟨u21, hu21⟩ : ∃ u, u = u20.alloc (.cells #[] 29) := ⟨_, rfl⟩
      rw [← hu21]
      have hbz : Below u20.heap.size u20 u21 := by rw [hu21]; exact (Below.refl _ _).alloc (Nat.le_refl _) _
      have HZ21 : Hid (u21.heap.size = u20.heap.size + 1) := Lib.hid (by rw [hu21]; simp)
      have HD21 : Hid (Below wz.heap.size wz u21) := Lib.hid (HD20.out.trans (hbz.mono HD20.out.size))
      have HX21 := Lib.hid (HX20.out.later hbz)
      have HR21 : Hid (IRow 29 u21 wz.heap.size (.slice (some ⟨u20.heap.size, 0, none⟩) 0 0) []) := Lib.hid (by rw [hu21]; exact row_empty u20 29 _ HD20.out.size)
      clear hbz
      replace hu21 := Lib.hid hu21
      refine hK.out _ _ (KB4.out _ HD21.out) (fun hH21 => ?_)
      clear hK K hH20
      try simp only [Act.put, List.setIfInBounds_toArray, List.set_cons_zero, List.set_cons_succ]
      refine wpAnyH_ready (rs := [4]) (by kernel_rfl) (by simp) ?_
      refine cons_drop rfl (fun K hK => ?_) AllReadyH.nil
      refine step_append_items _ rfl _ _ rfl wz.heap.size _ _ [] [] rfl rfl HR21.out (HU.out _) (by simp) HD21.out.size ?_
      intro v22 u22 hrow22 hgr
      have HD22 : Hid (Below wz.heap.size wz u22) := Lib.hid (HD21.out.grown hgr HD21.out.size (fun k hk => (HR21.out.lt k hk).1))
      have HR22 := Lib.hid hrow22
      have HX22 := Lib.hid (lies_keep HX21.out hgr (fun e => by have h := HZ20.out; have e2 : some wz.heap.size = some u20.heap.size := e; have e3 := Option.some.inj e2; omega))
      clear hrow22 hgr
      refine hK.out _ _ (KB4.out _ HD22.out) (fun hH22 => ?_)
      clear hK K hH21
      try simp only [Act.put, List.setIfInBounds_toArray, List.set_cons_zero, List.set_cons_succ]
      refine wpAnyH_ready (rs := [7]) (by kernel_rfl) (by simp) ?_
      refine cons_drop rfl (fun K hK => ?_) AllReadyH.nil
      refine step_append_items _ rfl _ _ rfl wz.heap.size _ _ ([] ++ []) [x] rfl rfl HR22.out HX22.out.toO (by simp) HD22.out.size ?_
      intro v23 u23 hrow23 hgr
      have HD23 : Hid (Below wz.heap.size wz u23) := Lib.hid (HD22.out.grown hgr HD22.out.size (fun k hk => (HR22.out.lt k hk).1))
      have HR23 := Lib.hid hrow23
      clear hrow23 hgr
      refine hK.out _ _ (KB4.out _ HD23.out) (fun hH23 => ?_)
      clear hK K hH22
      try simp only [Act.put, List.setIfInBounds_toArray, List.set_cons_zero, List.set_cons_succ]
      refine wpAnyH_ready (rs := [11]) (by kernel_rfl) (by simp) ?_
      refine cons_drop rfl (fun K hK => ?_) AllReadyH.nil
      refine step_append_items _ rfl _ _ rfl wz.heap.size _ _ (([] ++ []) ++ [x]) [] rfl rfl HR23.out (HU.out _) (by simp) HD23.out.size ?_
      intro v24 u24 hrow24 hgr
      have HD24 : Hid (Below wz.heap.size wz u24) := Lib.hid (HD23.out.grown hgr HD23.out.size (fun k hk => (HR23.out.lt k hk).1))
      have HR24 := Lib.hid hrow24
      clear hrow24 hgr
      refine hK.out _ _ (KB4.out _ HD24.out) (fun hH24 => ?_)
      clear hK K hH23
      try simp only [Act.put, List.setIfInBounds_toArray, List.set_cons_zero, List.set_cons_succ]
      first
        | (refine take_drop (i := 12) (v := ?_) rfl (by kernel_rfl) (by kernel_rfl) (by kernel_rfl) (fun _ _ _ h => h) (Or.inl ⟨by rfl, ?_⟩) (by assumption) ?_; rotate_left 1; (focus (intro w hSw; (try dsimp only at hSw); go_simp; try with_reducible rfl)); try simp only [Act.put, List.setIfInBounds_toArray, List.set_cons_zero, List.set_cons_succ])
        | (refine take_drop (i := 12) (v := undef) rfl (by kernel_rfl) (by kernel_rfl) (by kernel_rfl) (fun _ _ _ h => h) (Or.inr ⟨by rfl, rfl⟩) (by assumption) ?_; try simp only [Act.put, List.setIfInBounds_toArray, List.set_cons_zero, List.set_cons_succ])
      refine wpAnyH_done (by kernel_rfl) ?_ _
      refine NoPanic.normal ?_
      go_wp2_with fail
      all_goals
        go_ret
        exact ⟨_, rfl, by have h := HR24.out.base_le (Nat.le_trans (Nat.le_of_lt hzw) HB4.out.size); simpa using h, HW.out.trans ((HB4.out.trans (HD24.out.mono HB4.out.size)).mono HW.out.size)⟩
/-- Insert of any row. -/
theorem rinsert_any (l : List (Nat × Nat)) (hl : l.length ≤ 1000) (base : Nat) (v : Value) (x : Nat × Nat) (w : World) (row : IRow 29 w base v l) :
    Calls Tryd.prog 13 #[v, .agg #[.int .u64 (x.1 : Nat), .int .u64 (x.2 : Nat)]] w fun e w' => ∃ v' p, e = .returned v' ∧ p ≤ l.length ∧ (∀ (i : Nat) (hi : i < l.length), i < p → bef l[i] x) ∧ (∀ (hp : p < l.length), ¬ bef l[p] x) ∧ IRow 29 w' w.heap.size v' (l.take p ++ x :: l.drop p) ∧ Below w.heap.size w w' := by
  rcases row.2 with ⟨h1, h2⟩ | ⟨g, cap, cur, h1, q2, q3, q4, q5, q6, q7⟩
  · have hl0 : l = [] := List.eq_nil_of_length_eq_zero h2
    subst hl0
    rw [h1]
    exact (rinsert_none x w).mono fun e w' ⟨v', h, hr, hb⟩ => ⟨v', 0, h, Nat.le_refl _, fun i hi => by simp at hi, fun hp => by simp at hp, hr, hb⟩
  · rw [h1]
    have hlies := row.opened
    obtain ⟨A, cap', e1, -, hc⟩ := hlies
    refine rinsert_some l hl g cap q4 x w (Array.getElem?_eq_some_iff.1 q3).1 (fun j hj => ?_)
    obtain ⟨g', e2, -, -, c1, c2⟩ := hc j hj
    rw [e2, h1] at e1
    have e3 := (Value.slice.inj e1).1
    cases e3
    exact ⟨c1, c2⟩
end Lo
end Go.Proofs.YtkjlfoihojfnbaaDoor
