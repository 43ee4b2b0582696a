/- The least of some items. -/
import Derived.Test.YtkjlfoihojfnbaaDoorWhF
import Derived.Deep.RegionHeld3
namespace Go.Proofs.YtkjlfoihojfnbaaDoor
open Go.RowKit Go.Sort
set_option linter.unusedVariables false
set_option linter.unusedSimpArgs false
namespace Wh
open Lv (ordI cmp3 ret_int)
open Lo (Lies take_drop cons_drop below_drew)
theorem ordI_lt (i a j b : Nat) : ordI i a j b < 0 ↔ a < b ∨ (a = b ∧ i < j) := by
  unfold ordI cmp3
  by_cases h : a = b
  · rw [if_pos h]
    by_cases h1 : i < j
    · rw [if_pos h1]; omega
    · rw [if_neg h1]; split <;> omega
  · rw [if_neg h]
    by_cases h1 : a < b
    · rw [if_pos h1]; omega
    · rw [if_neg h1]; split <;> omega
theorem below_grow (w : World) (q : Nat) (os : Array Obj) : Below w.heap.size w (grow (w.drewN q) os) :=
  ⟨rfl, rfl, rfl, by simp [grow, World.drewN], fun j hj => by simp [grow, World.drewN, Array.getElem?_append_left hj]⟩
theorem compare_below (x y : Nat × Nat) (w : World) : Calls Tryd.prog 51 #[.agg #[.int .u64 (x.1 : Nat), .int .u64 (x.2 : Nat)], .agg #[.int .u64 (y.1 : Nat), .int .u64 (y.2 : Nat)]] w fun e w' => e = .returned (.int .i64 (ordI x.1 x.2 y.1 y.2)) ∧ Below w.heap.size w w' :=
  (compare_grow x.1 x.2 y.1 y.2 w).mono fun e w' ⟨he, q, os, hw⟩ => ⟨he, by rw [hw]; exact below_grow w q os⟩
theorem cells2 {w : World} {g : Nat} {t : TypeId} {x : Nat × Nat} (h : w.heap[g]? = some (.cells #[.int .u64 (x.1 : Nat), .int .u64 (x.2 : Nat)] t (0, 0))) :
    w.cell? ⟨g, 0, none⟩ = some (.int .u64 (x.1 : Nat)) ∧ w.cell? ⟨g, 1, none⟩ = some (.int .u64 (x.2 : Nat)) ∧ ∀ o, w.frozen? ⟨g, o, none⟩ = false := ⟨by simp [World.cell?, h], by simp [World.cell?, h], fun o => by simp [World.frozen?, h]⟩
def MinOut (l : List (Nat × Nat)) (w : World) (e : Ending) (w' : World) : Prop := ∃ m : Nat × Nat, e = .returned (.agg #[.int .u64 (m.1 : Nat), .int .u64 (m.2 : Nat)]) ∧ m ∈ l ∧ (∀ y ∈ l, m.2 ≤ y.2) ∧ Below w.heap.size w w'
set_option maxRecDepth 100000 in
set_option maxHeartbeats 4000000 in
theorem min_any (l : List (Nat × Nat)) (hl : l.length ≤ 1000) (hne : 0 < l.length) (v : Value) (w : World) (lies : Lies w v l) :
    Calls Tryd.prog 50 #[v, .func (.func 51) #[] #[]] w (MinOut l w) := by
  obtain ⟨A, cap, rfl, hcap, hcells⟩ := lies
  have HCE := Lib.hid hcells
  obtain ⟨g, rfl, hg1, hg2, hg3⟩ := hcells 0 hne
  have hm0 : Hid (∃ x : Nat × Nat, x = l[0]) := Lib.hid ⟨_, rfl⟩
  obtain ⟨x, hx⟩ := hm0.out
  rw [← hx] at hg2 hg3
  rw [Nat.zero_mul] at hg2 hg3
  have HX := Lib.hid hx
  have hl' : (l.length : Int) ≤ 1000 := by omega
  have hl0 : ¬ ((l.length : Int) < 1) := by omega
  have hl1 : (0 : Int) < l.length := by omega
  obtain ⟨W0, hW0⟩ : ∃ W0, W0 = (w.alloc (.cells #[.int .u64 0, .int .u64 0] 34)).alloc (.cells #[.int .u64 (x.1 : Nat), .int .u64 (x.2 : Nat)] 34) := ⟨_, rfl⟩
  have HB0 : Hid (Below w.heap.size w W0) := Lib.hid (by rw [hW0]; exact ((Below.refl _ _).alloc (Nat.le_refl _) _).alloc (by simp) _)
  have HR0 : Hid (W0.heap[w.heap.size]? = some (.cells #[.int .u64 0, .int .u64 0] 34 (0, 0))) := Lib.hid (by rw [hW0]; exact (heap_alloc_old _ _ (by simp)).trans (heap_alloc_new w _))
  have HM0 : Hid (W0.heap[w.heap.size + 1]? = some (.cells #[.int .u64 (x.1 : Nat), .int .u64 (x.2 : Nat)] 34 (0, 0))) := Lib.hid (by rw [hW0]; have e := heap_alloc_new (w.alloc (.cells #[.int .u64 0, .int .u64 0] 34)) (.cells #[.int .u64 (x.1 : Nat), .int .u64 (x.2 : Nat)] 34); rw [World.size_alloc] at e; exact e)
  have HZ0 : Hid (W0.heap.size = w.heap.size + 2) := Lib.hid (by rw [hW0]; simp)
  have hzz : w.heap.size + 2 ≤ W0.heap.size := Nat.le_of_eq HZ0.out.symm
  clear hx hcells
  replace hW0 := Lib.hid hW0
  go_enter Tryd.func50, Tryd.ntmps50
  go_wp2_with fail
  rw [← hW0.out]
  go_loopw [6] (fun vi wr => ∃ (i : Nat) (m : Nat × Nat), vi = .int .i64 (i : Int) ∧ i ≤ l.length ∧ 1 ≤ i ∧ Hid (m ∈ l) ∧ Hid (∀ (j : Nat) (hj : j < l.length), j < i → m.2 ≤ l[j].2) ∧ Below w.heap.size w wr ∧ wr.heap[w.heap.size]? = some (.cells #[.int .u64 0, .int .u64 0] 34 (0, 0)) ∧ wr.heap[w.heap.size + 1]? = some (.cells #[.int .u64 (m.1 : Nat), .int .u64 (m.2 : Nat)] 34 (0, 0))) (fun vi _ => l.length + 1 - (intOf vi).toNat)
  case atStart =>
    refine ⟨1, x, rfl, hne, Nat.le_refl _, Lib.hid (by rw [HX.out]; exact List.getElem_mem _), Lib.hid (fun j hj h1 => ?_), HB0.out, HR0.out, HM0.out⟩
    obtain rfl : j = 0 := by omega
    rw [HX.out]
    exact Nat.le_refl _
  case round =>
    obtain ⟨i, m, rfl, hi, hi1, HIN, HMI, hbr, hr0, hm0⟩ := hrel
    rename_i wr
    have HBR := Lib.hid hbr
    have HR := Lib.hid hr0
    have HM := Lib.hid hm0
    obtain ⟨m0, m1, mf⟩ := cells2 hm0
    by_cases hin : i < l.length
    · obtain ⟨g, e1, hg1, hg2, hg3⟩ := HCE.out i hin
      injection e1 with e1
      injection e1 with e1
      subst e1
      have hg2 := (hbr.cell (p := ⟨g, i * 2, none⟩) hg1).trans hg2
      have hg3 := (hbr.cell (p := ⟨g, i * 2 + 1, none⟩) hg1).trans hg3
      have hin' : (i : Int) < l.length := by omega
      have HYL : Hid (l[i] ∈ l) := Lib.hid (List.getElem_mem hin)
      have HMY : Hid (∀ k : Nat × Nat, (∀ (j : Nat) (hj : j < l.length), j < i → k.2 ≤ l[j].2) → k.2 ≤ l[i].2 → ∀ (j : Nat) (hj : j < l.length), j < i + 1 → k.2 ≤ l[j].2) := Lib.hid fun k h1 h2 j hj h3 => by
        by_cases e : j = i
        · subst e; exact h2
        · exact h1 j hj (by omega)
      clear hbr hr0 hm0
      generalize l[i] = y at *
      have HCM := Lib.hid (fun W => compare_below y m W)
      have HOL := Lib.hid (ordI_lt y.1 y.2 m.1 m.2)
      generalize ordI y.1 y.2 m.1 m.2 = o at *
      have hw2 : w.heap.size + 2 ≤ wr.heap.size := (Array.getElem?_eq_some_iff.1 HM.out).1
      by_cases ho : o < 0
      · go_wp2_with fail
        refine wp_region_noPanic ?_
        refine wp_region_held_drew (S := (fun w' : World => w'.cell? ⟨g, i * 2, none⟩ = some (.int .u64 (y.1 : Nat)) ∧ w'.cell? ⟨g, i * 2 + 1, none⟩ = some (.int .u64 (y.2 : Nat)) ∧ w'.cell? ⟨w.heap.size + 1, 0, none⟩ = some (.int .u64 (m.1 : Nat)) ∧ w'.cell? ⟨w.heap.size + 1, 1, none⟩ = some (.int .u64 (m.2 : Nat)))) (by kernel_rfl) ?_ (fun hH0 => ?_)
        · exact ⟨hg2, hg3, m0, m1⟩
        first
          | (refine take_drop (i := 0) (v := ?_) rfl (by kernel_rfl) (by kernel_rfl) (by kernel_rfl) (fun _ _ _ h => h) (Or.inl ⟨by rfl, ?_⟩) (by assumption) ?_; rotate_left 1; (focus (intro w hSw; (try dsimp only at hSw); go_simp; try with_reducible rfl)); try simp only [Act.put, List.setIfInBounds_toArray, List.set_cons_zero, List.set_cons_succ])
          | (refine take_drop (i := 0) (v := undef) rfl (by kernel_rfl) (by kernel_rfl) (by kernel_rfl) (fun _ _ _ h => h) (Or.inr ⟨by rfl, rfl⟩) (by assumption) ?_; try simp only [Act.put, List.setIfInBounds_toArray, List.set_cons_zero, List.set_cons_succ])
        first
          | (refine take_drop (i := 1) (v := ?_) rfl (by kernel_rfl) (by kernel_rfl) (by kernel_rfl) (fun _ _ _ h => h) (Or.inl ⟨by rfl, ?_⟩) (by assumption) ?_; rotate_left 1; (focus (intro w hSw; (try dsimp only at hSw); go_simp; try with_reducible rfl)); try simp only [Act.put, List.setIfInBounds_toArray, List.set_cons_zero, List.set_cons_succ])
          | (refine take_drop (i := 1) (v := undef) rfl (by kernel_rfl) (by kernel_rfl) (by kernel_rfl) (fun _ _ _ h => h) (Or.inr ⟨by rfl, rfl⟩) (by assumption) ?_; try simp only [Act.put, List.setIfInBounds_toArray, List.set_cons_zero, List.set_cons_succ])
        first
          | (refine take_drop (i := 2) (v := ?_) rfl (by kernel_rfl) (by kernel_rfl) (by kernel_rfl) (fun _ _ _ h => h) (Or.inl ⟨by rfl, ?_⟩) (by assumption) ?_; rotate_left 1; (focus (intro w hSw; (try dsimp only at hSw); go_simp; try with_reducible rfl)); try simp only [Act.put, List.setIfInBounds_toArray, List.set_cons_zero, List.set_cons_succ])
          | (refine take_drop (i := 2) (v := undef) rfl (by kernel_rfl) (by kernel_rfl) (by kernel_rfl) (fun _ _ _ h => h) (Or.inr ⟨by rfl, rfl⟩) (by assumption) ?_; try simp only [Act.put, List.setIfInBounds_toArray, List.set_cons_zero, List.set_cons_succ])
        first
          | (refine take_drop (i := 3) (v := ?_) rfl (by kernel_rfl) (by kernel_rfl) (by kernel_rfl) (fun _ _ _ h => h) (Or.inl ⟨by rfl, ?_⟩) (by assumption) ?_; rotate_left 1; (focus (intro w hSw; (try dsimp only at hSw); go_simp; try with_reducible rfl)); try simp only [Act.put, List.setIfInBounds_toArray, List.set_cons_zero, List.set_cons_succ])
          | (refine take_drop (i := 3) (v := undef) rfl (by kernel_rfl) (by kernel_rfl) (by kernel_rfl) (fun _ _ _ h => h) (Or.inr ⟨by rfl, rfl⟩) (by assumption) ?_; try simp only [Act.put, List.setIfInBounds_toArray, List.set_cons_zero, List.set_cons_succ])
        first
          | (refine take_drop (i := 4) (v := ?_) rfl (by kernel_rfl) (by kernel_rfl) (by kernel_rfl) (fun _ _ _ h => h) (Or.inl ⟨by rfl, ?_⟩) (by assumption) ?_; rotate_left 1; (focus (intro w hSw; (try dsimp only at hSw); go_simp; try with_reducible rfl)); try simp only [Act.put, List.setIfInBounds_toArray, List.set_cons_zero, List.set_cons_succ])
          | (refine take_drop (i := 4) (v := undef) rfl (by kernel_rfl) (by kernel_rfl) (by kernel_rfl) (fun _ _ _ h => h) (Or.inr ⟨by rfl, rfl⟩) (by assumption) ?_; try simp only [Act.put, List.setIfInBounds_toArray, List.set_cons_zero, List.set_cons_succ])
        first
          | (refine take_drop (i := 5) (v := ?_) rfl (by kernel_rfl) (by kernel_rfl) (by kernel_rfl) (fun _ _ _ h => h) (Or.inl ⟨by rfl, ?_⟩) (by assumption) ?_; rotate_left 1; (focus (intro w hSw; (try dsimp only at hSw); go_simp; try with_reducible rfl)); try simp only [Act.put, List.setIfInBounds_toArray, List.set_cons_zero, List.set_cons_succ])
          | (refine take_drop (i := 5) (v := undef) rfl (by kernel_rfl) (by kernel_rfl) (by kernel_rfl) (fun _ _ _ h => h) (Or.inr ⟨by rfl, rfl⟩) (by assumption) ?_; try simp only [Act.put, List.setIfInBounds_toArray, List.set_cons_zero, List.set_cons_succ])
        refine wpAnyH_ready (rs := [6]) (by kernel_rfl) (by simp) ?_
        refine cons_drop rfl (fun K hK => ?_) AllReadyH.nil
        go_simp
        refine (HCM.out _).mono ?_
        rintro e w1 ⟨rfl, hb1⟩
        have hb1 : Below wr.heap.size wr w1 := (below_drew (Below.refl _ _)).trans hb1
        have HR1 : Hid (w1.heap[w.heap.size]? = some (.cells #[.int .u64 0, .int .u64 0] 34 (0, 0))) := Lib.hid ((hb1.block _ (by omega)).trans HR.out)
        have HM1 : Hid (w1.heap[w.heap.size + 1]? = some (.cells #[.int .u64 (m.1 : Nat), .int .u64 (m.2 : Nat)] 34 (0, 0))) := Lib.hid ((hb1.block _ (by omega)).trans HM.out)
        have HB1 := Lib.hid (HBR.out.trans (hb1.mono HBR.out.size))
        have HQ1 := Lib.hid (⟨(hb1.cell (p := ⟨g, i * 2, none⟩) (Nat.lt_of_lt_of_le hg1 HBR.out.size)).trans hg2, (hb1.cell (p := ⟨g, i * 2 + 1, none⟩) (Nat.lt_of_lt_of_le hg1 HBR.out.size)).trans hg3, (cells2 HM1.out).1, (cells2 HM1.out).2.1⟩ : w1.cell? ⟨g, i * 2, none⟩ = some (.int .u64 (y.1 : Nat)) ∧ w1.cell? ⟨g, i * 2 + 1, none⟩ = some (.int .u64 (y.2 : Nat)) ∧ w1.cell? ⟨w.heap.size + 1, 0, none⟩ = some (.int .u64 (m.1 : Nat)) ∧ w1.cell? ⟨w.heap.size + 1, 1, none⟩ = some (.int .u64 (m.2 : Nat)))
        clear hb1
        go_wp2_with fail
        refine hK.out _ _ HQ1.out (fun hH1 => ?_)
        clear hK K hH0
        try simp only [Act.put, List.setIfInBounds_toArray, List.set_cons_zero, List.set_cons_succ]
        first
          | (refine take_drop (i := 7) (v := ?_) rfl (by kernel_rfl) (by kernel_rfl) (by kernel_rfl) (fun _ _ _ h => h) (Or.inl ⟨by rfl, ?_⟩) (by assumption) ?_; rotate_left 1; (focus (intro w hSw; (try dsimp only at hSw); go_simp; try with_reducible rfl)); try simp only [Act.put, List.setIfInBounds_toArray, List.set_cons_zero, List.set_cons_succ])
          | (refine take_drop (i := 7) (v := undef) rfl (by kernel_rfl) (by kernel_rfl) (by kernel_rfl) (fun _ _ _ h => h) (Or.inr ⟨by rfl, rfl⟩) (by assumption) ?_; try simp only [Act.put, List.setIfInBounds_toArray, List.set_cons_zero, List.set_cons_succ])
        refine wpAnyH_done (by kernel_rfl) ?_ _
        refine NoPanic.normal ?_
        obtain ⟨g2, g3, -, -⟩ := HQ1.out
        have mf1 := (cells2 HM1.out).2.2
        obtain ⟨mm0, mm1, -⟩ := cells2 HM1.out
        have f0 := mf1 0
        have f1 := mf1 1
        go_wp2_with fail
        refine ⟨⟨i + 1, y, rfl, by omega, by omega, HYL, Lib.hid (HMY.out y (fun j hj h => ?_) (Nat.le_refl _)), ?_, ?_, ?_⟩, by simp [intOf]; omega⟩
        · have h1 := HMI.out j hj h
          have h2 := HOL.out.1 ho
          omega
        · exact (HB1.out.setCell (by simp) _).setCell (by simp) _
        · simp [World.setCell, Array.getElem?_modify, HR1.out]
        · simp [World.setCell, Array.getElem?_modify, HM1.out]
      · go_wp2_with fail
        refine wp_region_noPanic ?_
        refine wp_region_held_drew (S := (fun w' : World => w'.cell? ⟨g, i * 2, none⟩ = some (.int .u64 (y.1 : Nat)) ∧ w'.cell? ⟨g, i * 2 + 1, none⟩ = some (.int .u64 (y.2 : Nat)) ∧ w'.cell? ⟨w.heap.size + 1, 0, none⟩ = some (.int .u64 (m.1 : Nat)) ∧ w'.cell? ⟨w.heap.size + 1, 1, none⟩ = some (.int .u64 (m.2 : Nat)))) (by kernel_rfl) ?_ (fun hH0 => ?_)
        · exact ⟨hg2, hg3, m0, m1⟩
        first
          | (refine take_drop (i := 0) (v := ?_) rfl (by kernel_rfl) (by kernel_rfl) (by kernel_rfl) (fun _ _ _ h => h) (Or.inl ⟨by rfl, ?_⟩) (by assumption) ?_; rotate_left 1; (focus (intro w hSw; (try dsimp only at hSw); go_simp; try with_reducible rfl)); try simp only [Act.put, List.setIfInBounds_toArray, List.set_cons_zero, List.set_cons_succ])
          | (refine take_drop (i := 0) (v := undef) rfl (by kernel_rfl) (by kernel_rfl) (by kernel_rfl) (fun _ _ _ h => h) (Or.inr ⟨by rfl, rfl⟩) (by assumption) ?_; try simp only [Act.put, List.setIfInBounds_toArray, List.set_cons_zero, List.set_cons_succ])
        first
          | (refine take_drop (i := 1) (v := ?_) rfl (by kernel_rfl) (by kernel_rfl) (by kernel_rfl) (fun _ _ _ h => h) (Or.inl ⟨by rfl, ?_⟩) (by assumption) ?_; rotate_left 1; (focus (intro w hSw; (try dsimp only at hSw); go_simp; try with_reducible rfl)); try simp only [Act.put, List.setIfInBounds_toArray, List.set_cons_zero, List.set_cons_succ])
          | (refine take_drop (i := 1) (v := undef) rfl (by kernel_rfl) (by kernel_rfl) (by kernel_rfl) (fun _ _ _ h => h) (Or.inr ⟨by rfl, rfl⟩) (by assumption) ?_; try simp only [Act.put, List.setIfInBounds_toArray, List.set_cons_zero, List.set_cons_succ])
        first
          | (refine take_drop (i := 2) (v := ?_) rfl (by kernel_rfl) (by kernel_rfl) (by kernel_rfl) (fun _ _ _ h => h) (Or.inl ⟨by rfl, ?_⟩) (by assumption) ?_; rotate_left 1; (focus (intro w hSw; (try dsimp only at hSw); go_simp; try with_reducible rfl)); try simp only [Act.put, List.setIfInBounds_toArray, List.set_cons_zero, List.set_cons_succ])
          | (refine take_drop (i := 2) (v := undef) rfl (by kernel_rfl) (by kernel_rfl) (by kernel_rfl) (fun _ _ _ h => h) (Or.inr ⟨by rfl, rfl⟩) (by assumption) ?_; try simp only [Act.put, List.setIfInBounds_toArray, List.set_cons_zero, List.set_cons_succ])
        first
          | (refine take_drop (i := 3) (v := ?_) rfl (by kernel_rfl) (by kernel_rfl) (by kernel_rfl) (fun _ _ _ h => h) (Or.inl ⟨by rfl, ?_⟩) (by assumption) ?_; rotate_left 1; (focus (intro w hSw; (try dsimp only at hSw); go_simp; try with_reducible rfl)); try simp only [Act.put, List.setIfInBounds_toArray, List.set_cons_zero, List.set_cons_succ])
          | (refine take_drop (i := 3) (v := undef) rfl (by kernel_rfl) (by kernel_rfl) (by kernel_rfl) (fun _ _ _ h => h) (Or.inr ⟨by rfl, rfl⟩) (by assumption) ?_; try simp only [Act.put, List.setIfInBounds_toArray, List.set_cons_zero, List.set_cons_succ])
        first
          | (refine take_drop (i := 4) (v := ?_) rfl (by kernel_rfl) (by kernel_rfl) (by kernel_rfl) (fun _ _ _ h => h) (Or.inl ⟨by rfl, ?_⟩) (by assumption) ?_; rotate_left 1; (focus (intro w hSw; (try dsimp only at hSw); go_simp; try with_reducible rfl)); try simp only [Act.put, List.setIfInBounds_toArray, List.set_cons_zero, List.set_cons_succ])
          | (refine take_drop (i := 4) (v := undef) rfl (by kernel_rfl) (by kernel_rfl) (by kernel_rfl) (fun _ _ _ h => h) (Or.inr ⟨by rfl, rfl⟩) (by assumption) ?_; try simp only [Act.put, List.setIfInBounds_toArray, List.set_cons_zero, List.set_cons_succ])
        first
          | (refine take_drop (i := 5) (v := ?_) rfl (by kernel_rfl) (by kernel_rfl) (by kernel_rfl) (fun _ _ _ h => h) (Or.inl ⟨by rfl, ?_⟩) (by assumption) ?_; rotate_left 1; (focus (intro w hSw; (try dsimp only at hSw); go_simp; try with_reducible rfl)); try simp only [Act.put, List.setIfInBounds_toArray, List.set_cons_zero, List.set_cons_succ])
          | (refine take_drop (i := 5) (v := undef) rfl (by kernel_rfl) (by kernel_rfl) (by kernel_rfl) (fun _ _ _ h => h) (Or.inr ⟨by rfl, rfl⟩) (by assumption) ?_; try simp only [Act.put, List.setIfInBounds_toArray, List.set_cons_zero, List.set_cons_succ])
        refine wpAnyH_ready (rs := [6]) (by kernel_rfl) (by simp) ?_
        refine cons_drop rfl (fun K hK => ?_) AllReadyH.nil
        go_simp
        refine (HCM.out _).mono ?_
        rintro e w1 ⟨rfl, hb1⟩
        have hb1 : Below wr.heap.size wr w1 := (below_drew (Below.refl _ _)).trans hb1
        have HR1 : Hid (w1.heap[w.heap.size]? = some (.cells #[.int .u64 0, .int .u64 0] 34 (0, 0))) := Lib.hid ((hb1.block _ (by omega)).trans HR.out)
        have HM1 : Hid (w1.heap[w.heap.size + 1]? = some (.cells #[.int .u64 (m.1 : Nat), .int .u64 (m.2 : Nat)] 34 (0, 0))) := Lib.hid ((hb1.block _ (by omega)).trans HM.out)
        have HB1 := Lib.hid (HBR.out.trans (hb1.mono HBR.out.size))
        have HQ1 := Lib.hid (⟨(hb1.cell (p := ⟨g, i * 2, none⟩) (Nat.lt_of_lt_of_le hg1 HBR.out.size)).trans hg2, (hb1.cell (p := ⟨g, i * 2 + 1, none⟩) (Nat.lt_of_lt_of_le hg1 HBR.out.size)).trans hg3, (cells2 HM1.out).1, (cells2 HM1.out).2.1⟩ : w1.cell? ⟨g, i * 2, none⟩ = some (.int .u64 (y.1 : Nat)) ∧ w1.cell? ⟨g, i * 2 + 1, none⟩ = some (.int .u64 (y.2 : Nat)) ∧ w1.cell? ⟨w.heap.size + 1, 0, none⟩ = some (.int .u64 (m.1 : Nat)) ∧ w1.cell? ⟨w.heap.size + 1, 1, none⟩ = some (.int .u64 (m.2 : Nat)))
        clear hb1
        go_wp2_with fail
        refine hK.out _ _ HQ1.out (fun hH1 => ?_)
        clear hK K hH0
        try simp only [Act.put, List.setIfInBounds_toArray, List.set_cons_zero, List.set_cons_succ]
        first
          | (refine take_drop (i := 7) (v := ?_) rfl (by kernel_rfl) (by kernel_rfl) (by kernel_rfl) (fun _ _ _ h => h) (Or.inl ⟨by rfl, ?_⟩) (by assumption) ?_; rotate_left 1; (focus (intro w hSw; (try dsimp only at hSw); go_simp; try with_reducible rfl)); try simp only [Act.put, List.setIfInBounds_toArray, List.set_cons_zero, List.set_cons_succ])
          | (refine take_drop (i := 7) (v := undef) rfl (by kernel_rfl) (by kernel_rfl) (by kernel_rfl) (fun _ _ _ h => h) (Or.inr ⟨by rfl, rfl⟩) (by assumption) ?_; try simp only [Act.put, List.setIfInBounds_toArray, List.set_cons_zero, List.set_cons_succ])
        refine wpAnyH_done (by kernel_rfl) ?_ _
        refine NoPanic.normal ?_
        go_wp2_with fail
        refine ⟨⟨i + 1, m, rfl, by omega, by omega, HIN, Lib.hid (HMY.out m HMI.out ?_), HB1.out, HR1.out, HM1.out⟩, by simp [intOf]; omega⟩
        have h2 : ¬ (y.2 < m.2 ∨ (y.2 = m.2 ∧ y.1 < m.1)) := fun h => by have := HOL.out.2 h; omega
        omega
    · have hin' : ¬ ((i : Int) < l.length) := by omega
      have HALL : Hid (∀ y ∈ l, m.2 ≤ y.2) := Lib.hid fun y hy => by
        obtain ⟨j, hj, e⟩ := List.getElem_of_mem hy
        rw [← e]
        exact HMI.out j hj (by omega)
      obtain ⟨-, -, rf⟩ := cells2 (x := (0, 0)) hr0
      obtain ⟨r0, r1, -⟩ := cells2 (x := (0, 0)) hr0
      have rf0 := rf 0
      have rf1 := rf 1
      clear hbr hr0 hm0
      go_wp2_with fail
      refine bodyPost_ret (v := .agg #[.int .u64 (m.1 : Nat), .int .u64 (m.2 : Nat)]) (by simp [results, Tryd.results50, go_sem, HR.out, World.setCell, World.cell?, Array.getElem?_modify]) rfl ⟨m, rfl, HIN.out, HALL.out, ?_⟩
      exact (HBR.out.setCell (Nat.le_refl _) _).setCell (Nat.le_refl _) _
end Wh
end Go.Proofs.YtkjlfoihojfnbaaDoor
