/- retry.Text of a valid policy: the walk. -/
import Derived.Test.YtdibokeinmhmbaaDoorFuK
namespace Go.Proofs.YtdibokeinmhmbaaDoor
open Go.RowKit
set_option linter.unusedVariables false
namespace Fu
open _root_.Go.Proofs.YtdibokeinmhmbaaDoor.Rt (pol Vld valid_yes valid_no PolAt polAt_new)
set_option maxRecDepth 100000 in
set_option maxHeartbeats 2000000 in
theorem ptext_walk (most : Int) (wt fb lim tmo : Nat) (a0 a1 a2 a3 a4 res : ByteArray) (hv : Vld most wt lim tmo) (w : World) (hres : joinT [a0, a1, a2, a3, a4] = res)
    (hlen : (Lib.join ([a0, a1, a2, a3, a4].map (·.data.toList)) [47]).length ≤ 140737488355328)
    (h0 : ∀ W, Below w.heap.size w W → Calls Tryd.prog 30 #[.int .i64 most] W fun e w' => e = .returned (.string a0) ∧ Below W.heap.size W w')
    (h1 : ∀ W, Below w.heap.size w W → Calls Tryd.prog 27 #[.int .u64 wt] W fun e w' => e = .returned (.string a1) ∧ Below W.heap.size W w')
    (h2 : ∀ W, Below w.heap.size w W → Calls Tryd.prog 20 #[.float .f64 fb] W fun e w' => e = .returned (.string a2) ∧ Below W.heap.size W w')
    (h3 : ∀ W, Below w.heap.size w W → Calls Tryd.prog 27 #[.int .u64 lim] W fun e w' => e = .returned (.string a3) ∧ Below W.heap.size W w')
    (h4 : ∀ W, Below w.heap.size w W → Calls Tryd.prog 27 #[.int .u64 tmo] W fun e w' => e = .returned (.string a4) ∧ Below W.heap.size W w') :
    Calls Tryd.prog 10 #[pol most wt fb lim tmo] w fun e w' => e = .returned (.string res) ∧ Below w.heap.size w w' := by
  obtain ⟨W0, hW0⟩ : ∃ W0, W0 = w.alloc (.cells #[.int .i64 most, .int .u64 wt, .float .f64 fb, .int .u64 lim, .int .u64 tmo] 30) := ⟨_, rfl⟩
  have HB0 : Hid (Below w.heap.size w W0) := Lib.hid (by rw [hW0]; exact (Below.refl _ _).alloc (Nat.le_refl _) _)
  have hbx : PolAt W0 w.heap.size most wt fb lim tmo := by rw [hW0]; exact polAt_new w _ most wt fb lim tmo
  have HX : Hid (∀ W, Below W0.heap.size W0 W → PolAt W w.heap.size most wt fb lim tmo) := Lib.hid fun W hW => hbx.later hW
  have HVal := Lib.hid (valid_yes most wt fb lim tmo hv W0)
  have HL : Hid (∀ W, Below W0.heap.size W0 W → Below w.heap.size w W) := Lib.hid fun W hW => HB0.out.trans (hW.mono HB0.out.size)
  have HJ0 : Hid (∀ g (W : World), W.heap[g]? = some (.cells #[.string a0, .string a1, .string a2, .string a3, .string a4] 9 (0, 0)) → Calls Tryd.prog 29 #[.slice (some ⟨g, 0, none⟩) 5 5] W fun e w' => e = .returned (.string res) ∧ Below W.heap.size W w') := Lib.hid fun g W h => by
    rw [← hres]
    exact joined_any g 5 [a0, a1, a2, a3, a4] W (fun j x hx => by
      rcases j with _ | _ | _ | _ | _ | j
      · simp at hx; simp [World.cell?, h, hx]
      · simp at hx; simp [World.cell?, h, hx]
      · simp at hx; simp [World.cell?, h, hx]
      · simp at hx; simp [World.cell?, h, hx]
      · simp at hx; simp [World.cell?, h, hx]
      · simp at hx) (Array.getElem?_eq_some_iff.1 h).1 (by simp) (by simp) (by simp) hlen
  obtain ⟨-, c0, c1, c2, c3, c4⟩ := hbx
  clear hlen hres hv
  unfold pol at HVal ⊢
  replace hW0 := Lib.hid hW0
  go_enter Tryd.func10, Tryd.ntmps10
  go_upto_region 1 with fail
  rw [← hW0.out]
  go_wp2_with fail
  refine HVal.out.mono ?_
  rintro e w2 ⟨rfl, hb2⟩
  have HBV := Lib.hid (HL.out _ hb2)
  have H0 : Hid (∀ W, Below w2.heap.size w2 W → _) := Lib.hid fun W hW => h0 W (HBV.out.trans (hW.mono HBV.out.size))
  have H1 : Hid (∀ W, Below w2.heap.size w2 W → _) := Lib.hid fun W hW => h1 W (HBV.out.trans (hW.mono HBV.out.size))
  have H2 : Hid (∀ W, Below w2.heap.size w2 W → _) := Lib.hid fun W hW => h2 W (HBV.out.trans (hW.mono HBV.out.size))
  have H3 : Hid (∀ W, Below w2.heap.size w2 W → _) := Lib.hid fun W hW => h3 W (HBV.out.trans (hW.mono HBV.out.size))
  have H4 : Hid (∀ W, Below w2.heap.size w2 W → _) := Lib.hid fun W hW => h4 W (HBV.out.trans (hW.mono HBV.out.size))
  have HJ := HJ0
  have HS : Hid (∀ W, Below w2.heap.size w2 W → W.cell? ⟨w.heap.size, 0, none⟩ = some (.int .i64 most) ∧ W.cell? ⟨w.heap.size, 1, none⟩ = some (.int .u64 wt) ∧ W.cell? ⟨w.heap.size, 2, none⟩ = some (.float .f64 fb) ∧ W.cell? ⟨w.heap.size, 3, none⟩ = some (.int .u64 lim) ∧ W.cell? ⟨w.heap.size, 4, none⟩ = some (.int .u64 tmo)) := Lib.hid fun W hW => (HX.out W (hb2.trans (hW.mono hb2.size))).2
  clear h0 h1 h2 h3 h4 hb2 c0 c1 c2 c3 c4 HVal HX HL HB0 HJ0
  go_upto_region 4 with fail
  have HB0 : Hid (Below w2.heap.size w2 w2.drew) := Lib.hid (below_drew (Below.refl _ _))
  refine wp_region_noPanic ?_
  refine wp_region_held_drew (S := (fun w' : World => w'.cell? ⟨w.heap.size, 0, none⟩ = some (.int .i64 most) ∧ w'.cell? ⟨w.heap.size, 1, none⟩ = some (.int .u64 wt) ∧ w'.cell? ⟨w.heap.size, 2, none⟩ = some (.float .f64 fb) ∧ w'.cell? ⟨w.heap.size, 3, none⟩ = some (.int .u64 lim) ∧ w'.cell? ⟨w.heap.size, 4, none⟩ = some (.int .u64 tmo))) (by kernel_rfl) ?_ (fun hH0 => ?_)
  · exact HS.out _ HB0.out
  first
    | (refine take_drop (i := 0) (v := ?_) rfl (by kernel_rfl) (by kernel_rfl) (by kernel_rfl) (fun _ _ _ h => h) (Or.inl ⟨by rfl, ?_⟩) (by assumption) ?_; rotate_left 1; (focus (intro w hSw; (try dsimp only at hSw); go_simp; try with_reducible rfl)); try simp only [Act.put, List.setIfInBounds_toArray, List.set_cons_zero, List.set_cons_succ])
    | (refine take_drop (i := 0) (v := undef) rfl (by kernel_rfl) (by kernel_rfl) (by kernel_rfl) (fun _ _ _ h => h) (Or.inr ⟨by rfl, rfl⟩) (by assumption) ?_; try simp only [Act.put, List.setIfInBounds_toArray, List.set_cons_zero, List.set_cons_succ])
  first
    | (refine take_drop (i := 1) (v := ?_) rfl (by kernel_rfl) (by kernel_rfl) (by kernel_rfl) (fun _ _ _ h => h) (Or.inl ⟨by rfl, ?_⟩) (by assumption) ?_; rotate_left 1; (focus (intro w hSw; (try dsimp only at hSw); go_simp; try with_reducible rfl)); try simp only [Act.put, List.setIfInBounds_toArray, List.set_cons_zero, List.set_cons_succ])
    | (refine take_drop (i := 1) (v := undef) rfl (by kernel_rfl) (by kernel_rfl) (by kernel_rfl) (fun _ _ _ h => h) (Or.inr ⟨by rfl, rfl⟩) (by assumption) ?_; try simp only [Act.put, List.setIfInBounds_toArray, List.set_cons_zero, List.set_cons_succ])
  first
    | (refine take_drop (i := 3) (v := ?_) rfl (by kernel_rfl) (by kernel_rfl) (by kernel_rfl) (fun _ _ _ h => h) (Or.inl ⟨by rfl, ?_⟩) (by assumption) ?_; rotate_left 1; (focus (intro w hSw; (try dsimp only at hSw); go_simp; try with_reducible rfl)); try simp only [Act.put, List.setIfInBounds_toArray, List.set_cons_zero, List.set_cons_succ])
    | (refine take_drop (i := 3) (v := undef) rfl (by kernel_rfl) (by kernel_rfl) (by kernel_rfl) (fun _ _ _ h => h) (Or.inr ⟨by rfl, rfl⟩) (by assumption) ?_; try simp only [Act.put, List.setIfInBounds_toArray, List.set_cons_zero, List.set_cons_succ])
  first
    | (refine take_drop (i := 4) (v := ?_) rfl (by kernel_rfl) (by kernel_rfl) (by kernel_rfl) (fun _ _ _ h => h) (Or.inl ⟨by rfl, ?_⟩) (by assumption) ?_; rotate_left 1; (focus (intro w hSw; (try dsimp only at hSw); go_simp; try with_reducible rfl)); try simp only [Act.put, List.setIfInBounds_toArray, List.set_cons_zero, List.set_cons_succ])
    | (refine take_drop (i := 4) (v := undef) rfl (by kernel_rfl) (by kernel_rfl) (by kernel_rfl) (fun _ _ _ h => h) (Or.inr ⟨by rfl, rfl⟩) (by assumption) ?_; try simp only [Act.put, List.setIfInBounds_toArray, List.set_cons_zero, List.set_cons_succ])
  first
    | (refine take_drop (i := 5) (v := ?_) rfl (by kernel_rfl) (by kernel_rfl) (by kernel_rfl) (fun _ _ _ h => h) (Or.inl ⟨by rfl, ?_⟩) (by assumption) ?_; rotate_left 1; (focus (intro w hSw; (try dsimp only at hSw); go_simp; try with_reducible rfl)); try simp only [Act.put, List.setIfInBounds_toArray, List.set_cons_zero, List.set_cons_succ])
    | (refine take_drop (i := 5) (v := undef) rfl (by kernel_rfl) (by kernel_rfl) (by kernel_rfl) (fun _ _ _ h => h) (Or.inr ⟨by rfl, rfl⟩) (by assumption) ?_; try simp only [Act.put, List.setIfInBounds_toArray, List.set_cons_zero, List.set_cons_succ])
  first
    | (refine take_drop (i := 7) (v := ?_) rfl (by kernel_rfl) (by kernel_rfl) (by kernel_rfl) (fun _ _ _ h => h) (Or.inl ⟨by rfl, ?_⟩) (by assumption) ?_; rotate_left 1; (focus (intro w hSw; (try dsimp only at hSw); go_simp; try with_reducible rfl)); try simp only [Act.put, List.setIfInBounds_toArray, List.set_cons_zero, List.set_cons_succ])
    | (refine take_drop (i := 7) (v := undef) rfl (by kernel_rfl) (by kernel_rfl) (by kernel_rfl) (fun _ _ _ h => h) (Or.inr ⟨by rfl, rfl⟩) (by assumption) ?_; try simp only [Act.put, List.setIfInBounds_toArray, List.set_cons_zero, List.set_cons_succ])
  first
    | (refine take_drop (i := 8) (v := ?_) rfl (by kernel_rfl) (by kernel_rfl) (by kernel_rfl) (fun _ _ _ h => h) (Or.inl ⟨by rfl, ?_⟩) (by assumption) ?_; rotate_left 1; (focus (intro w hSw; (try dsimp only at hSw); go_simp; try with_reducible rfl)); try simp only [Act.put, List.setIfInBounds_toArray, List.set_cons_zero, List.set_cons_succ])
    | (refine take_drop (i := 8) (v := undef) rfl (by kernel_rfl) (by kernel_rfl) (by kernel_rfl) (fun _ _ _ h => h) (Or.inr ⟨by rfl, rfl⟩) (by assumption) ?_; try simp only [Act.put, List.setIfInBounds_toArray, List.set_cons_zero, List.set_cons_succ])
  first
    | (refine take_drop (i := 10) (v := ?_) rfl (by kernel_rfl) (by kernel_rfl) (by kernel_rfl) (fun _ _ _ h => h) (Or.inl ⟨by rfl, ?_⟩) (by assumption) ?_; rotate_left 1; (focus (intro w hSw; (try dsimp only at hSw); go_simp; try with_reducible rfl)); try simp only [Act.put, List.setIfInBounds_toArray, List.set_cons_zero, List.set_cons_succ])
    | (refine take_drop (i := 10) (v := undef) rfl (by kernel_rfl) (by kernel_rfl) (by kernel_rfl) (fun _ _ _ h => h) (Or.inr ⟨by rfl, rfl⟩) (by assumption) ?_; try simp only [Act.put, List.setIfInBounds_toArray, List.set_cons_zero, List.set_cons_succ])
  first
    | (refine take_drop (i := 11) (v := ?_) rfl (by kernel_rfl) (by kernel_rfl) (by kernel_rfl) (fun _ _ _ h => h) (Or.inl ⟨by rfl, ?_⟩) (by assumption) ?_; rotate_left 1; (focus (intro w hSw; (try dsimp only at hSw); go_simp; try with_reducible rfl)); try simp only [Act.put, List.setIfInBounds_toArray, List.set_cons_zero, List.set_cons_succ])
    | (refine take_drop (i := 11) (v := undef) rfl (by kernel_rfl) (by kernel_rfl) (by kernel_rfl) (fun _ _ _ h => h) (Or.inr ⟨by rfl, rfl⟩) (by assumption) ?_; try simp only [Act.put, List.setIfInBounds_toArray, List.set_cons_zero, List.set_cons_succ])
  first
    | (refine take_drop (i := 12) (v := ?_) rfl (by kernel_rfl) (by kernel_rfl) (by kernel_rfl) (fun _ _ _ h => h) (Or.inl ⟨by rfl, ?_⟩) (by assumption) ?_; rotate_left 1; (focus (intro w hSw; (try dsimp only at hSw); go_simp; try with_reducible rfl)); try simp only [Act.put, List.setIfInBounds_toArray, List.set_cons_zero, List.set_cons_succ])
    | (refine take_drop (i := 12) (v := undef) rfl (by kernel_rfl) (by kernel_rfl) (by kernel_rfl) (fun _ _ _ h => h) (Or.inr ⟨by rfl, rfl⟩) (by assumption) ?_; try simp only [Act.put, List.setIfInBounds_toArray, List.set_cons_zero, List.set_cons_succ])
  first
    | (refine take_drop (i := 14) (v := ?_) rfl (by kernel_rfl) (by kernel_rfl) (by kernel_rfl) (fun _ _ _ h => h) (Or.inl ⟨by rfl, ?_⟩) (by assumption) ?_; rotate_left 1; (focus (intro w hSw; (try dsimp only at hSw); go_simp; try with_reducible rfl)); try simp only [Act.put, List.setIfInBounds_toArray, List.set_cons_zero, List.set_cons_succ])
    | (refine take_drop (i := 14) (v := undef) rfl (by kernel_rfl) (by kernel_rfl) (by kernel_rfl) (fun _ _ _ h => h) (Or.inr ⟨by rfl, rfl⟩) (by assumption) ?_; try simp only [Act.put, List.setIfInBounds_toArray, List.set_cons_zero, List.set_cons_succ])
  first
    | (refine take_drop (i := 15) (v := ?_) rfl (by kernel_rfl) (by kernel_rfl) (by kernel_rfl) (fun _ _ _ h => h) (Or.inl ⟨by rfl, ?_⟩) (by assumption) ?_; rotate_left 1; (focus (intro w hSw; (try dsimp only at hSw); go_simp; try with_reducible rfl)); try simp only [Act.put, List.setIfInBounds_toArray, List.set_cons_zero, List.set_cons_succ])
    | (refine take_drop (i := 15) (v := undef) rfl (by kernel_rfl) (by kernel_rfl) (by kernel_rfl) (fun _ _ _ h => h) (Or.inr ⟨by rfl, rfl⟩) (by assumption) ?_; try simp only [Act.put, List.setIfInBounds_toArray, List.set_cons_zero, List.set_cons_succ])
  first
    | (refine take_drop (i := 16) (v := ?_) rfl (by kernel_rfl) (by kernel_rfl) (by kernel_rfl) (fun _ _ _ h => h) (Or.inl ⟨by rfl, ?_⟩) (by assumption) ?_; rotate_left 1; (focus (intro w hSw; (try dsimp only at hSw); go_simp; try with_reducible rfl)); try simp only [Act.put, List.setIfInBounds_toArray, List.set_cons_zero, List.set_cons_succ])
    | (refine take_drop (i := 16) (v := undef) rfl (by kernel_rfl) (by kernel_rfl) (by kernel_rfl) (fun _ _ _ h => h) (Or.inr ⟨by rfl, rfl⟩) (by assumption) ?_; try simp only [Act.put, List.setIfInBounds_toArray, List.set_cons_zero, List.set_cons_succ])
  refine wpAnyH_ready (rs := [2]) (by kernel_rfl) (by simp) ?_
  refine cons_drop rfl (fun K hK => ?_) AllReadyH.nil
  go_simp
  refine (H0.out _ HB0.out).mono ?_
  rintro e u1 ⟨rfl, hb⟩
  have HB1 : Hid (Below w2.heap.size w2 u1) := Lib.hid (HB0.out.trans (hb.mono HB0.out.size))
  clear hb
  go_wp2_with fail
  refine hK.out _ _ (HS.out _ HB1.out) (fun hH1 => ?_)
  clear hK K hH0
  try simp only [Act.put, List.setIfInBounds_toArray, List.set_cons_zero, List.set_cons_succ]
  refine wpAnyH_ready (rs := [6]) (by kernel_rfl) (by simp) ?_
  refine cons_drop rfl (fun K hK => ?_) AllReadyH.nil
  go_simp
  refine (H1.out _ HB1.out).mono ?_
  rintro e u2 ⟨rfl, hb⟩
  have HB2 : Hid (Below w2.heap.size w2 u2) := Lib.hid (HB1.out.trans (hb.mono HB1.out.size))
  clear hb
  go_wp2_with fail
  refine hK.out _ _ (HS.out _ HB2.out) (fun hH2 => ?_)
  clear hK K hH1
  try simp only [Act.put, List.setIfInBounds_toArray, List.set_cons_zero, List.set_cons_succ]
  refine wpAnyH_ready (rs := [9]) (by kernel_rfl) (by simp) ?_
  refine cons_drop rfl (fun K hK => ?_) AllReadyH.nil
  go_simp
  refine (H2.out _ HB2.out).mono ?_
  rintro e u3 ⟨rfl, hb⟩
  have HB3 : Hid (Below w2.heap.size w2 u3) := Lib.hid (HB2.out.trans (hb.mono HB2.out.size))
  clear hb
  go_wp2_with fail
  refine hK.out _ _ (HS.out _ HB3.out) (fun hH3 => ?_)
  clear hK K hH2
  try simp only [Act.put, List.setIfInBounds_toArray, List.set_cons_zero, List.set_cons_succ]
  refine wpAnyH_ready (rs := [13]) (by kernel_rfl) (by simp) ?_
  refine cons_drop rfl (fun K hK => ?_) AllReadyH.nil
  go_simp
  refine (H3.out _ HB3.out).mono ?_
  rintro e u4 ⟨rfl, hb⟩
  have HB4 : Hid (Below w2.heap.size w2 u4) := Lib.hid (HB3.out.trans (hb.mono HB3.out.size))
  clear hb
  go_wp2_with fail
  refine hK.out _ _ (HS.out _ HB4.out) (fun hH4 => ?_)
  clear hK K hH3
  try simp only [Act.put, List.setIfInBounds_toArray, List.set_cons_zero, List.set_cons_succ]
  refine wpAnyH_ready (rs := [17]) (by kernel_rfl) (by simp) ?_
  refine cons_drop rfl (fun K hK => ?_) AllReadyH.nil
  go_simp
  refine (H4.out _ HB4.out).mono ?_
  rintro e u5 ⟨rfl, hb⟩
  have HB5 : Hid (Below w2.heap.size w2 u5) := Lib.hid (HB4.out.trans (hb.mono HB4.out.size))
  clear hb
  go_wp2_with fail
  refine hK.out _ _ (HS.out _ HB5.out) (fun hH5 => ?_)
  clear hK K hH4
  try simp only [Act.put, List.setIfInBounds_toArray, List.set_cons_zero, List.set_cons_succ]
  refine wpAnyH_ready (rs := [18]) (by kernel_rfl) (by simp) ?_
  refine cons_drop rfl (fun K hK => ?_) AllReadyH.nil
  go_simp
  obtain ⟨u6, hu6⟩ : ∃ u, u = u5.alloc (.cells #[.string a0, .string a1, .string a2, .string a3, .string a4] 9) := ⟨_, rfl⟩
  rw [← hu6]
  have hb6 : Below u5.heap.size u5 u6 := by rw [hu6]; exact (Below.refl _ _).alloc (Nat.le_refl _) _
  have HB6 : Hid (Below w2.heap.size w2 u6) := Lib.hid (HB5.out.trans (hb6.mono HB5.out.size))
  have HC6 := Lib.hid (HJ.out u5.heap.size u6 (by rw [hu6]; exact heap_alloc_new u5 _))
  replace hu6 := Lib.hid hu6
  clear hb6
  refine hK.out _ _ (HS.out _ HB6.out) (fun hH6 => ?_)
  clear hK K hH5
  try simp only [Act.put, List.setIfInBounds_toArray, List.set_cons_zero, List.set_cons_succ]
  refine wpAnyH_ready (rs := [19]) (by kernel_rfl) (by simp) ?_
  refine cons_drop rfl (fun K hK => ?_) AllReadyH.nil
  go_simp
  refine HC6.out.mono ?_
  rintro e u7 ⟨rfl, hb⟩
  have HB7 : Hid (Below w2.heap.size w2 u7) := Lib.hid (HB6.out.trans (hb.mono HB6.out.size))
  clear hb
  go_wp2_with fail
  refine hK.out _ _ (HS.out _ HB7.out) (fun hH7 => ?_)
  clear hK K hH6
  try simp only [Act.put, List.setIfInBounds_toArray, List.set_cons_zero, List.set_cons_succ]
  first
    | (refine take_drop (i := 20) (v := ?_) rfl (by kernel_rfl) (by kernel_rfl) (by kernel_rfl) (fun _ _ _ h => h) (Or.inl ⟨by rfl, ?_⟩) (by assumption) ?_; rotate_left 1; (focus (intro w hSw; (try dsimp only at hSw); go_simp; try with_reducible rfl)); try simp only [Act.put, List.setIfInBounds_toArray, List.set_cons_zero, List.set_cons_succ])
    | (refine take_drop (i := 20) (v := undef) rfl (by kernel_rfl) (by kernel_rfl) (by kernel_rfl) (fun _ _ _ h => h) (Or.inr ⟨by rfl, rfl⟩) (by assumption) ?_; try simp only [Act.put, List.setIfInBounds_toArray, List.set_cons_zero, List.set_cons_succ])
  refine wpAnyH_done (by kernel_rfl) ?_ _
  refine NoPanic.normal ?_
  go_wp2_with fail
  go_ret
  exact ⟨rfl, HBV.out.trans (HB7.out.mono HBV.out.size)⟩
end Fu
end Go.Proofs.YtdibokeinmhmbaaDoor
