/- RetryTexts: the walk. -/
import Derived.Test.YtdibokeinmhmbaaDoorFuO
import Derived.Test.YtdibokeinmhmbaaDoorRtLater
import Derived.Test.YtdibokeinmhmbaaDoorNmG
import Derived.Test.YtdibokeinmhmbaaDoorRows
namespace Go.Proofs.YtdibokeinmhmbaaDoor
open Go.RowKit
set_option linter.unusedVariables false
namespace Fu
open _root_.Go.Proofs.YtdibokeinmhmbaaDoor.Nm (bitsW bitsW_lt rsame_any)
open _root_.Go.Proofs.YtdibokeinmhmbaaDoor.Rt (pol Vld rvalid_yes rvalid_no PolAt polAt_new alive_any policy_open)
theorem loop_eq (s : ByteArray) : ∀ (k i : Nat) (r : List UInt8), s.size - i = k → ByteArray.toList.loop s i r = r.reverse ++ s.data.toList.drop i := by
  intro k
  induction k with
  | zero =>
    intro i r h; rw [ByteArray.toList.loop, if_neg (by omega)]
    rw [List.drop_eq_nil_of_le (by have : s.data.toList.length = s.size := rfl; omega)]; simp
  | succ k ih =>
    intro i r h; rw [ByteArray.toList.loop, if_pos (by omega), ih _ _ (by omega)]
    have hl : i < s.data.toList.length := by have : s.data.toList.length = s.size := rfl; omega
    rw [List.drop_eq_getElem_cons hl]
    have : s.get! i = s.data.toList[i] := by
      cases s with | mk d => simp only [ByteArray.get!]; rw [getElem!_pos d i (by simpa using hl)]; simp
    simp [this]
theorem toList_data (s : ByteArray) : s.toList = s.data.toList := by
  unfold ByteArray.toList; rw [loop_eq s _ 0 [] rfl]; simp
theorem toList_inj (s s' : ByteArray) : s.toList = s'.toList ↔ s = s' := by
  rw [toList_data, toList_data]
  constructor
  · intro h
    cases s with | mk a => cases s' with | mk b => simp at h; rw [h]
  · intro h; rw [h]
theorem texts_bad1 (most : Int) (wt fb lim tmo : Nat) (most' : Int) (wt' fb' lim' tmo' : Nat) (hv : ¬ Vld most wt lim tmo) (w : World) :
    Calls Tryd.prog 3 #[pol most wt fb lim tmo, pol most' wt' fb' lim' tmo'] w fun e w' => e = .returned (.bool true) ∧ Below w.heap.size w w' := by
  have V := Lib.hid (fun w => rvalid_no most wt fb lim tmo hv w)
  have A := Lib.hid alive_any
  clear hv
  unfold pol at *
  go_enter Tryd.func3, Tryd.ntmps3
  go_wp2_with fail
  refine (V.out _).mono ?_
  rintro e W1 ⟨rfl, hb1⟩
  have HB1 := Lib.hid ((((Below.refl _ w).alloc (Nat.le_refl _) _).alloc (by simp) _).trans (hb1.mono (by simp; omega)))
  clear hb1
  go_wp2_with fail
  refine (A.out _).mono ?_
  rintro e W2 ⟨rfl, hb2⟩
  have HB2 := Lib.hid (HB1.out.trans (hb2.mono HB1.out.size))
  clear hb2
  go_wp2_with fail
  go_ret
  exact ⟨rfl, HB2.out⟩
theorem texts_bad2 (most : Int) (wt fb lim tmo : Nat) (most' : Int) (wt' fb' lim' tmo' : Nat) (hv : Vld most wt lim tmo) (hv' : ¬ Vld most' wt' lim' tmo') (w : World) :
    Calls Tryd.prog 3 #[pol most wt fb lim tmo, pol most' wt' fb' lim' tmo'] w fun e w' => e = .returned (.bool true) ∧ Below w.heap.size w w' := by
  have V := Lib.hid (fun w => rvalid_yes most wt fb lim tmo hv w)
  have V' := Lib.hid (fun w => rvalid_no most' wt' fb' lim' tmo' hv' w)
  have A := Lib.hid alive_any
  clear hv hv'
  unfold pol at *
  go_enter Tryd.func3, Tryd.ntmps3
  go_wp2_with fail
  refine (V.out _).mono ?_
  rintro e W1 ⟨rfl, hb1⟩
  have hq := PolAt.later (polAt_new (w.alloc (.cells #[.int .i64 most, .int .u64 wt, .float .f64 fb, .int .u64 lim, .int .u64 tmo] 25)) 25 most' wt' fb' lim' tmo') hb1
  rw [World.size_alloc] at hq
  obtain ⟨z1, p0, p1, p2, p3, p4⟩ := hq
  have HB1 := Lib.hid ((((Below.refl _ w).alloc (Nat.le_refl _) _).alloc (by simp) _).trans (hb1.mono (by simp; omega)))
  clear hb1
  go_wp2_with fail
  refine (V'.out _).mono ?_
  rintro e W2 ⟨rfl, hb2⟩
  have HB2 := Lib.hid (HB1.out.trans (hb2.mono HB1.out.size))
  clear hb2 p0 p1 p2 p3 p4
  go_wp2_with fail
  refine (A.out _).mono ?_
  rintro e W3 ⟨rfl, hb3⟩
  have HB3 := Lib.hid (HB2.out.trans (hb3.mono HB2.out.size))
  clear hb3
  go_wp2_with fail
  go_ret
  exact ⟨rfl, HB3.out⟩
set_option maxRecDepth 100000 in
set_option maxHeartbeats 2000000 in
theorem texts_good (most : Int) (wt fb lim tmo : Nat) (most' : Int) (wt' fb' lim' tmo' : Nat) (hv : Vld most wt lim tmo) (hv' : Vld most' wt' lim' tmo') (hfb : fb < 18446744073709551616) (hfb' : fb' < 18446744073709551616) (w : World) (ht : Tabs w) :
    Calls Tryd.prog 3 #[pol most wt fb lim tmo, pol most' wt' fb' lim' tmo'] w fun e w' => e = .returned (.bool true) ∧ Below w.heap.size w w' := by
  have V := Lib.hid (fun w => rvalid_yes most wt fb lim tmo hv w)
  have V' := Lib.hid (fun w => rvalid_yes most' wt' fb' lim' tmo' hv' w)
  have A := Lib.hid alive_any
  have SM := Lib.hid (fun w => rsame_any fb fb' hfb hfb' w)
  have TA0 := Lib.hid (fun (W : World) (hW : Below w.heap.size w W) => ptext_yes most wt fb lim tmo hfb hv W (ht.later hW))
  have TB0 := Lib.hid (fun (W : World) (hW : Below w.heap.size w W) => ptext_yes most' wt' fb' lim' tmo' hfb' hv' W (ht.later hW))
  have hinj := polText_inj most most' wt wt' (bitsW fb) (bitsW fb') lim lim' tmo tmo' (by have := hv.1; omega) (by have := hv'.1; omega) (bitsW_lt fb hfb) (bitsW_lt fb' hfb')
  have hsame : most = most' → wt = wt' → bitsW fb = bitsW fb' → lim = lim' → tmo = tmo' → polText most wt (bitsW fb) lim tmo = polText most' wt' (bitsW fb') lim' tmo' := by
    intro h1 h2 h3 h4 h5; rw [h1, h2, h3, h4, h5]
  generalize polText most wt (bitsW fb) lim tmo = ta at *
  generalize polText most' wt' (bitsW fb') lim' tmo' = tb at *
  generalize bitsW fb = va at *
  generalize bitsW fb' = vb at *
  obtain ⟨sm, hsm⟩ : ∃ sm : Bool, sm = (most == most' && ((wt : Int) == wt') && ((va : Int) == vb) && ((lim : Int) == lim') && ((tmo : Int) == tmo')) := ⟨_, rfl⟩
  have HE : Hid ((ta.toList == tb.toList) = sm) := Lib.hid (by
    rw [hsm, Bool.eq_iff_iff, beq_iff_eq, toList_inj]
    simp only [Bool.and_eq_true, beq_iff_eq]
    constructor
    · intro h
      obtain ⟨h1, h2, h3, h4, h5⟩ := hinj h
      exact ⟨⟨⟨⟨h1, by omega⟩, by omega⟩, by omega⟩, by omega⟩
    · rintro ⟨⟨⟨⟨h1, h2⟩, h3⟩, h4⟩, h5⟩
      exact hsame h1 (by omega) (by omega) (by omega) (by omega))
  have CS : ((most == most') = false ∧ Hid (sm = false)) ∨ ((most == most') = true ∧ ((wt : Int) == wt') = false ∧ Hid (sm = false)) ∨ ((most == most') = true ∧ ((wt : Int) == wt') = true ∧ ((va : Int) == vb) = false ∧ Hid (sm = false)) ∨ ((most == most') = true ∧ ((wt : Int) == wt') = true ∧ ((va : Int) == vb) = true ∧ ((lim : Int) == lim') = false ∧ Hid (sm = false)) ∨ ((most == most') = true ∧ ((wt : Int) == wt') = true ∧ ((va : Int) == vb) = true ∧ ((lim : Int) == lim') = true ∧ Hid (sm = ((tmo : Int) == tmo'))) := by
    cases h1 : (most == most')
    · exact .inl ⟨rfl, Lib.hid (by rw [hsm, h1]; rfl)⟩
    · refine .inr ?_
      cases h2 : ((wt : Int) == wt')
      · exact .inl ⟨rfl, rfl, Lib.hid (by rw [hsm, h1, h2]; rfl)⟩
      · refine .inr ?_
        cases h3 : ((va : Int) == vb)
        · exact .inl ⟨rfl, rfl, rfl, Lib.hid (by rw [hsm, h1, h2, h3]; rfl)⟩
        · refine .inr ?_
          cases h4 : ((lim : Int) == lim')
          · exact .inl ⟨rfl, rfl, rfl, rfl, Lib.hid (by rw [hsm, h1, h2, h3, h4]; rfl)⟩
          · exact .inr ⟨rfl, rfl, rfl, rfl, Lib.hid (by rw [hsm, h1, h2, h3, h4]; rfl)⟩
  clear hsm
  clear hv hv' hfb hfb' ht hinj hsame
  unfold pol at *
  go_enter Tryd.func3, Tryd.ntmps3
  go_wp2_with fail
  refine (V.out _).mono ?_
  rintro e W1 ⟨rfl, hb1⟩
  have hq := PolAt.later (polAt_new (w.alloc (.cells #[.int .i64 most, .int .u64 wt, .float .f64 fb, .int .u64 lim, .int .u64 tmo] 25)) 25 most' wt' fb' lim' tmo') hb1
  rw [World.size_alloc] at hq
  have hp := PolAt.later ((polAt_new w 25 most wt fb lim tmo).later ((Below.refl _ _).alloc (Nat.le_refl _) (.cells #[.int .i64 most', .int .u64 wt', .float .f64 fb', .int .u64 lim', .int .u64 tmo'] 25))) hb1
  have HP := Lib.hid hp
  have HQ := Lib.hid hq
  obtain ⟨z1, p0, p1, p2, p3, p4⟩ := hq
  have HB1 := Lib.hid ((((Below.refl _ w).alloc (Nat.le_refl _) _).alloc (by simp) _).trans (hb1.mono (by simp; omega)))
  clear hb1 hp
  go_wp2_with fail
  refine (V'.out _).mono ?_
  rintro e W2 ⟨rfl, hb2⟩
  have HB2 : Hid (Below w.heap.size w W2) := Lib.hid (HB1.out.trans (hb2.mono HB1.out.size))
  have HP2 := Lib.hid (HP.out.later hb2)
  have HQ2 := Lib.hid (HQ.out.later hb2)
  clear hb2 p0 p1 p2 p3 p4 HP HQ HB1 z1
  generalize hba : w.heap.size = ba at *
  generalize hbbn : ba + 1 = bb at *
  obtain ⟨y1, p0, p1, p2, p3, p4⟩ := HP2.out
  obtain ⟨y2, q0, q1, q2, q3, q4⟩ := HQ2.out
  go_upto_region 3 with fail
  go_cut [5] from 15 to 47 (fun z wx => z = .bool sm ∧ wx = W2)
  case first =>
    rcases CS with ⟨h1, HF⟩ | ⟨h1, h2, HF⟩ | ⟨h1, h2, h3, HF⟩ | ⟨h1, h2, h3, h4, HF⟩ | ⟨h1, h2, h3, h4, HF⟩
    all_goals
      go_wp2_with (go_at_call 9; refine (SM.out _).mono ?_; rintro e w' ⟨rfl, rfl⟩)
      go_meet
      case rel => exact ⟨by rw [HF.out]; try simp only [h1, h2, h3, h4], rfl⟩
  case rest =>
    obtain ⟨rfl, rfl⟩ := hcut
    go_upto_region 4 with fail
    have hba2 : ba ≤ wc.heap.size := by rw [← hba]; exact HB2.out.size
    have HS : Hid (∀ W, Below wc.heap.size wc W → W.cell? ⟨ba, 0, none⟩ = some (.int .i64 most) ∧ W.cell? ⟨ba, 1, none⟩ = some (.int .u64 wt) ∧ W.cell? ⟨ba, 2, none⟩ = some (.float .f64 fb) ∧ W.cell? ⟨ba, 3, none⟩ = some (.int .u64 lim) ∧ W.cell? ⟨ba, 4, none⟩ = some (.int .u64 tmo) ∧ W.cell? ⟨bb, 0, none⟩ = some (.int .i64 most') ∧ W.cell? ⟨bb, 1, none⟩ = some (.int .u64 wt') ∧ W.cell? ⟨bb, 2, none⟩ = some (.float .f64 fb') ∧ W.cell? ⟨bb, 3, none⟩ = some (.int .u64 lim') ∧ W.cell? ⟨bb, 4, none⟩ = some (.int .u64 tmo')) := Lib.hid fun W hW => by
      obtain ⟨-, k0, k1, k2, k3, k4⟩ := HP2.out.later hW
      obtain ⟨-, l0, l1, l2, l3, l4⟩ := HQ2.out.later hW
      exact ⟨k0, k1, k2, k3, k4, l0, l1, l2, l3, l4⟩
    have HA : Hid (∀ W, Below wc.heap.size wc W → _) := Lib.hid fun W (_ : Below wc.heap.size wc W) => A.out W
    have TA : Hid (∀ W, Below wc.heap.size wc W → _) := Lib.hid fun W (hW : Below wc.heap.size wc W) => TA0.out W (HB2.out.trans (hW.mono hba2))
    have TB : Hid (∀ W, Below wc.heap.size wc W → _) := Lib.hid fun W (hW : Below wc.heap.size wc W) => TB0.out W (HB2.out.trans (hW.mono hba2))
    clear TA0 TB0 A SM V V' p0 p1 p2 p3 p4 q0 q1 q2 q3 q4
    have HD0 : Hid (Below wc.heap.size wc wc.drew) := Lib.hid (below_drew (Below.refl _ _))
    refine wp_region_noPanic ?_
    refine wp_region_held_drew (S := (fun w' : World => w'.cell? ⟨ba, 0, none⟩ = some (.int .i64 most) ∧ w'.cell? ⟨ba, 1, none⟩ = some (.int .u64 wt) ∧ w'.cell? ⟨ba, 2, none⟩ = some (.float .f64 fb) ∧ w'.cell? ⟨ba, 3, none⟩ = some (.int .u64 lim) ∧ w'.cell? ⟨ba, 4, none⟩ = some (.int .u64 tmo) ∧ w'.cell? ⟨bb, 0, none⟩ = some (.int .i64 most') ∧ w'.cell? ⟨bb, 1, none⟩ = some (.int .u64 wt') ∧ w'.cell? ⟨bb, 2, none⟩ = some (.float .f64 fb') ∧ w'.cell? ⟨bb, 3, none⟩ = some (.int .u64 lim') ∧ w'.cell? ⟨bb, 4, none⟩ = some (.int .u64 tmo'))) (by kernel_rfl) ?_ (fun hH0 => ?_)
    · exact HS.out _ HD0.out
    refine wpAnyH_ready (rs := [0]) (by kernel_rfl) (by simp) ?_
    refine cons_drop rfl (fun K hK => ?_) AllReadyH.nil
    go_simp
    refine (HA.out _ HD0.out).mono ?_
    rintro e u1 ⟨rfl, hb⟩
    have HD1 : Hid (Below wc.heap.size wc u1) := Lib.hid (HD0.out.trans (hb.mono HD0.out.size))
    clear hb
    go_wp2_with fail
    refine hK.out _ _ (HS.out _ HD1.out) (fun hH1 => ?_)
    clear hK K hH0
    try simp only [Act.put, List.setIfInBounds_toArray, List.set_cons_zero, List.set_cons_succ]
    first
      | (refine take_drop (i := 1) (v := ?_) rfl (by kernel_rfl) (by kernel_rfl) (by kernel_rfl) (fun _ _ _ h => h) (Or.inl ⟨by rfl, ?_⟩) (by assumption) ?_; rotate_left 1; (focus (intro w hSw; (try dsimp only at hSw); go_simp; try with_reducible rfl)); try simp only [Act.put, List.setIfInBounds_toArray, List.set_cons_zero, List.set_cons_succ])
      | (refine take_drop (i := 1) (v := undef) rfl (by kernel_rfl) (by kernel_rfl) (by kernel_rfl) (fun _ _ _ h => h) (Or.inr ⟨by rfl, rfl⟩) (by assumption) ?_; try simp only [Act.put, List.setIfInBounds_toArray, List.set_cons_zero, List.set_cons_succ])
    first
      | (refine take_drop (i := 2) (v := ?_) rfl (by kernel_rfl) (by kernel_rfl) (by kernel_rfl) (fun _ _ _ h => h) (Or.inl ⟨by rfl, ?_⟩) (by assumption) ?_; rotate_left 1; (focus (intro w hSw; (try dsimp only at hSw); go_simp; try with_reducible rfl)); try simp only [Act.put, List.setIfInBounds_toArray, List.set_cons_zero, List.set_cons_succ])
      | (refine take_drop (i := 2) (v := undef) rfl (by kernel_rfl) (by kernel_rfl) (by kernel_rfl) (fun _ _ _ h => h) (Or.inr ⟨by rfl, rfl⟩) (by assumption) ?_; try simp only [Act.put, List.setIfInBounds_toArray, List.set_cons_zero, List.set_cons_succ])
    first
      | (refine take_drop (i := 4) (v := ?_) rfl (by kernel_rfl) (by kernel_rfl) (by kernel_rfl) (fun _ _ _ h => h) (Or.inl ⟨by rfl, ?_⟩) (by assumption) ?_; rotate_left 1; (focus (intro w hSw; (try dsimp only at hSw); go_simp; try with_reducible rfl)); try simp only [Act.put, List.setIfInBounds_toArray, List.set_cons_zero, List.set_cons_succ])
      | (refine take_drop (i := 4) (v := undef) rfl (by kernel_rfl) (by kernel_rfl) (by kernel_rfl) (fun _ _ _ h => h) (Or.inr ⟨by rfl, rfl⟩) (by assumption) ?_; try simp only [Act.put, List.setIfInBounds_toArray, List.set_cons_zero, List.set_cons_succ])
    first
      | (refine take_drop (i := 7) (v := ?_) rfl (by kernel_rfl) (by kernel_rfl) (by kernel_rfl) (fun _ _ _ h => h) (Or.inl ⟨by rfl, ?_⟩) (by assumption) ?_; rotate_left 1; (focus (intro w hSw; (try dsimp only at hSw); go_simp; try with_reducible rfl)); try simp only [Act.put, List.setIfInBounds_toArray, List.set_cons_zero, List.set_cons_succ])
      | (refine take_drop (i := 7) (v := undef) rfl (by kernel_rfl) (by kernel_rfl) (by kernel_rfl) (fun _ _ _ h => h) (Or.inr ⟨by rfl, rfl⟩) (by assumption) ?_; try simp only [Act.put, List.setIfInBounds_toArray, List.set_cons_zero, List.set_cons_succ])
    refine wpAnyH_ready (rs := [3]) (by kernel_rfl) (by simp) ?_
    refine cons_drop rfl (fun K hK => ?_) AllReadyH.nil
    go_simp
    refine (TA.out _ HD1.out).mono ?_
    rintro e u2 ⟨rfl, hb⟩
    have HD2 : Hid (Below wc.heap.size wc u2) := Lib.hid (HD1.out.trans (hb.mono HD1.out.size))
    clear hb
    go_wp2_with fail
    refine hK.out _ _ (HS.out _ HD2.out) (fun hH2 => ?_)
    clear hK K hH1
    try simp only [Act.put, List.setIfInBounds_toArray, List.set_cons_zero, List.set_cons_succ]
    refine wpAnyH_ready (rs := [5]) (by kernel_rfl) (by simp) ?_
    refine cons_drop rfl (fun K hK => ?_) AllReadyH.nil
    go_simp
    refine (TB.out _ HD2.out).mono ?_
    rintro e u3 ⟨rfl, hb⟩
    have HD3 : Hid (Below wc.heap.size wc u3) := Lib.hid (HD2.out.trans (hb.mono HD2.out.size))
    clear hb
    go_wp2_with fail
    refine hK.out _ _ (HS.out _ HD3.out) (fun hH3 => ?_)
    clear hK K hH2
    try simp only [Act.put, List.setIfInBounds_toArray, List.set_cons_zero, List.set_cons_succ]
    first
      | (refine take_drop (i := 6) (v := ?_) rfl (by kernel_rfl) (by kernel_rfl) (by kernel_rfl) (fun _ _ _ h => h) (Or.inl ⟨by rfl, ?_⟩) (by assumption) ?_; rotate_left 1; (focus (intro w hSw; (try dsimp only at hSw); go_simp; try with_reducible rfl)); try simp only [Act.put, List.setIfInBounds_toArray, List.set_cons_zero, List.set_cons_succ])
      | (refine take_drop (i := 6) (v := undef) rfl (by kernel_rfl) (by kernel_rfl) (by kernel_rfl) (fun _ _ _ h => h) (Or.inr ⟨by rfl, rfl⟩) (by assumption) ?_; try simp only [Act.put, List.setIfInBounds_toArray, List.set_cons_zero, List.set_cons_succ])
    first
      | (refine take_drop (i := 8) (v := ?_) rfl (by kernel_rfl) (by kernel_rfl) (by kernel_rfl) (fun _ _ _ h => h) (Or.inl ⟨by rfl, ?_⟩) (by assumption) ?_; rotate_left 1; (focus (intro w hSw; (try dsimp only at hSw); go_simp; try with_reducible rfl)); try simp only [Act.put, List.setIfInBounds_toArray, List.set_cons_zero, List.set_cons_succ])
      | (refine take_drop (i := 8) (v := undef) rfl (by kernel_rfl) (by kernel_rfl) (by kernel_rfl) (fun _ _ _ h => h) (Or.inr ⟨by rfl, rfl⟩) (by assumption) ?_; try simp only [Act.put, List.setIfInBounds_toArray, List.set_cons_zero, List.set_cons_succ])
    first
      | (refine take_drop (i := 9) (v := ?_) rfl (by kernel_rfl) (by kernel_rfl) (by kernel_rfl) (fun _ _ _ h => h) (Or.inl ⟨by rfl, ?_⟩) (by assumption) ?_; rotate_left 1; (focus (intro w hSw; (try dsimp only at hSw); go_simp; try with_reducible rfl)); try simp only [Act.put, List.setIfInBounds_toArray, List.set_cons_zero, List.set_cons_succ])
      | (refine take_drop (i := 9) (v := undef) rfl (by kernel_rfl) (by kernel_rfl) (by kernel_rfl) (fun _ _ _ h => h) (Or.inr ⟨by rfl, rfl⟩) (by assumption) ?_; try simp only [Act.put, List.setIfInBounds_toArray, List.set_cons_zero, List.set_cons_succ])
    first
      | (refine take_drop (i := 10) (v := ?_) rfl (by kernel_rfl) (by kernel_rfl) (by kernel_rfl) (fun _ _ _ h => h) (Or.inl ⟨by rfl, ?_⟩) (by assumption) ?_; rotate_left 1; (focus (intro w hSw; (try dsimp only at hSw); go_simp; try with_reducible rfl)); try simp only [Act.put, List.setIfInBounds_toArray, List.set_cons_zero, List.set_cons_succ])
      | (refine take_drop (i := 10) (v := undef) rfl (by kernel_rfl) (by kernel_rfl) (by kernel_rfl) (fun _ _ _ h => h) (Or.inr ⟨by rfl, rfl⟩) (by assumption) ?_; try simp only [Act.put, List.setIfInBounds_toArray, List.set_cons_zero, List.set_cons_succ])
    refine wpAnyH_done (by kernel_rfl) ?_ _
    refine NoPanic.normal ?_
    go_wp2_with fail
    go_ret
    have he := HE.out
    exact ⟨by simp [he], by rw [hba]; exact HB2.out.trans (HD3.out.mono hba2)⟩
set_option maxRecDepth 100000 in
open Go.ChangeShapes Go.WideShapes Go.ChangeAt in
theorem texts_open {H : Type} {enc : TypeId × Value → H} {base b1 : Nat} {spare : Nat → Bool} {held : Bool} {d0 d1 : DataW H} {p0 p1 : List MemPlace} (v0 v1 : Value) (W : World)
    (o0 : Value.okWide Tryd.prog W .any base 25 v0) (k0 : DataW.Trod enc Tryd.prog W b1 spare held 25 v0 d0 p0)
    (o1 : Value.okWide Tryd.prog W .any base 25 v1) (k1 : DataW.Trod enc Tryd.prog W b1 spare held 25 v1 d1 p1) (hL : laidMetH Tryd.prog Rows.retryTextsRow.laid W) :
    Calls Tryd.prog 3 #[v0, v1] W fun e w' => e = .returned (.bool true) ∧ Below W.heap.size W w' := by
  have ht : Tabs W := tabs_of_laid (by kernel_rfl) (by kernel_rfl) hL
  obtain ⟨most, wt, fb, lim, tmo, rfl, hw, hf, hl, ht0⟩ := policy_open v0 W o0 k0
  obtain ⟨most', wt', fb', lim', tmo', rfl, hw', hf', hl', ht'⟩ := policy_open v1 W o1 k1
  by_cases hv : Vld most wt lim tmo
  · by_cases hv' : Vld most' wt' lim' tmo'
    · exact texts_good most wt fb lim tmo most' wt' fb' lim' tmo' hv hv' hf hf' W ht
    · exact texts_bad2 most wt fb lim tmo most' wt' fb' lim' tmo' hv hv' W
  · exact texts_bad1 most wt fb lim tmo most' wt' fb' lim' tmo' hv W
end Fu
end Go.Proofs.YtdibokeinmhmbaaDoor
