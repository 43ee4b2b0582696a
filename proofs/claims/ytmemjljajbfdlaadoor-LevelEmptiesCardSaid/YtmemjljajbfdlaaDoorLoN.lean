/- LevelEmpties: the walk. -/
import Derived.Test.YtmemjljajbfdlaaDoorLoO
namespace Go.Proofs.YtmemjljajbfdlaaDoor
open Go.RowKit
set_option linter.unusedVariables false
set_option linter.unusedSimpArgs false
namespace Lo
open Lv (W64 slotOf slotOf_lt fresh ret_int ret_bool new_any alive_any)
open Ln (lvCells LV upd only_set only_refl only_drew)
theorem box_cells {w : World} {g : Nat} {T : TypeId} {x : Nat × Nat} (h : w.heap[g]? = some (.cells #[.int .u64 (x.1 : Nat), .int .u64 (x.2 : Nat)] T (0, 0))) :
    w.cell? ⟨g, 0, none⟩ = some (.int .u64 (x.1 : Nat)) ∧ w.cell? ⟨g, 1, none⟩ = some (.int .u64 (x.2 : Nat)) := by simp [World.cell?, h]
theorem L1.has {base b k j : Nat} {w0 wr : World} {vW : Value} {l : List (Nat × Nat)} (h : L1 base w0 wr b k j vW l) (hj : j ≤ 100) (x : Nat × Nat) (W : World) (row : IRow 28 W base vW l) :
    Calls Tryd.prog 9 #[vW, .agg #[.int .u64 (x.1 : Nat), .int .u64 (x.2 : Nat)]] W fun e w' => e = .returned (.bool (decide (x ∈ l))) ∧ Below W.heap.size W w' :=
  rhas_any l (by have := h.len; omega) vW x W row.lies
theorem P1.insert {base b k j : Nat} {w0 wr : World} {vW : Value} {l : List (Nat × Nat)} {x : Nat × Nat} (h : P1 base w0 wr b k j vW l x) (hj : j ≤ 100) (ha : x.2 < 18446744073709551616) :
    Calls Tryd.prog 10 #[vW, .agg #[.int .u64 (x.1 : Nat), .int .u64 (x.2 : Nat)]] wr fun e w' => ∃ v' l', e = .returned v' ∧ L1 base w0 w' b k (j + 1) v' l' :=
  (rinsert_any l (by have := h.len; omega) base vW x wr h.row).mono fun e w' ⟨v', p, he, hp, h1, h2, row, hb⟩ => ⟨v', _, he, h.next ha p hp h1 h2 row hb⟩
theorem lens {k : Nat} {l : List (Nat × Nat)} (h : l.length ≤ 100) (i : Nat) (hi : i < 64) : (byS k l i).length + (inSlot k i l).length ≤ 100000 := by
  have h1 := byS_le k l i
  have h2 : (inSlot k i l).length ≤ l.length := List.length_filter_le _ _
  have h3 : l.length * i ≤ 100 * 64 := Nat.mul_le_mul h (by omega)
  omega
set_option maxRecDepth 100000 in
set_option maxHeartbeats 8000000 in
theorem empties_walk (n : Nat) (hn : n < 256) (A : Option Addr) (cap : Nat) (items : List (Nat × Nat)) (w : World) (hin : ItemsIn w A cap items) (hlen : items.length ≤ 100) :
    Calls Tryd.prog 3 #[.int .u8 n, .slice A items.length cap] w fun e w' => e = .returned (.bool true) ∧ Below w.heap.size w w' := by
  obtain ⟨k, hk⟩ : ∃ k : Nat, k = n % 4 := ⟨_, rfl⟩
  have hk3 : k ≤ 3 := by omega
  have hkI : (n : Int) % 4 = (k : Nat) := by omega
  have HKI := Lib.hid hkI
  have HN := Lib.hid (new_any k hk3 w)
  have HA := Lib.hid alive_any
  obtain ⟨W0, hW0⟩ : ∃ W0, W0 = w.alloc (.cells (fresh k) 52) := ⟨_, rfl⟩
  have HL0 : Hid (L1 w.heap.size w W0 w.heap.size k 0 (.slice none 0 0) []) := Lib.hid (by
    rw [hW0]
    exact ⟨⟨_, _, _, St.fresh w _ rfl k (Nat.le_refl _), fun g hg => (by cases hg), ⟨fun s _ => List.Perm.refl _, List.Pairwise.nil⟩⟩, IRow.nil _ _ _, Nat.le_refl _, fun x hx => (by simp at hx), (Below.refl _ _).alloc (Nat.le_refl _) _, Nat.le_refl _, by simp⟩)
  have HIN := Lib.hid hin
  have hcap := hin.1
  have hlen' : (items.length : Int) ≤ 100 := by omega
  have hn0 : (0 : Int) ≤ n := by omega
  have hn1 : (n : Int) < 256 := by omega
  rw [← hW0] at HN
  replace hW0 := Lib.hid hW0
  clear hin hk hn hkI
  go_enter Tryd.func3, Tryd.ntmps3
  go_wp2_with fail
  rw [HKI.out]
  refine HN.out.mono ?_
  rintro e w1 ⟨rfl, rfl⟩
  go_wp2_with fail
  go_loopw [7, 32] (fun vW vj wr => ∃ (j : Nat) (l : List (Nat × Nat)), vj = .int .i64 (j : Int) ∧ j ≤ items.length ∧ L1 w.heap.size w wr w.heap.size k j vW l) (fun _ vj _ => items.length + 1 - (intOf vj).toNat)
  case atStart => exact ⟨0, [], rfl, by omega, HL0.out⟩
  case round =>
    obtain ⟨j, l, rfl, hj, hl1⟩ := hrel
    rename_i wr
    have HL1 := Lib.hid hl1
    by_cases hjn : j < items.length
    · obtain ⟨g, o, rfl, hg1, hg2, hg3⟩ := HIN.out.2.2 j hjn
      have HXS := Lib.hid (HIN.out.2.1 _ (List.getElem_mem hjn))
      have hg2 := (hl1.bel.cell (p := ⟨g, o + j * 2, none⟩) hg1).trans hg2
      have hg3 := (hl1.bel.cell (p := ⟨g, o + (j * 2 + 1), none⟩) hg1).trans hg3
      rw [show o + (j * 2 + 1) = o + j * 2 + 1 by omega] at hg3
      have hjn' : (j : Int) < items.length := by omega
      generalize items[j] = x at *
      obtain ⟨wb, hwb⟩ : ∃ wb, wb = wr.alloc (.cells #[.int .u64 (x.1 : Nat), .int .u64 (x.2 : Nat)] 28) := ⟨_, rfl⟩
      have HBH : Hid (wb.heap[wr.heap.size]? = some (.cells #[.int .u64 (x.1 : Nat), .int .u64 (x.2 : Nat)] 28 (0, 0))) := Lib.hid (by rw [hwb]; exact heap_alloc_new wr _)
      have HBX : Hid (∀ W : World, W.heap = wb.heap → W.cell? ⟨wr.heap.size, 0, none⟩ = some (.int .u64 (x.1 : Nat)) ∧ W.cell? ⟨wr.heap.size, 1, none⟩ = some (.int .u64 (x.2 : Nat))) := Lib.hid fun W hW => box_cells (by rw [hW]; exact HBH.out)
      have HPUT := Lib.hid (L1.put (w := wb.drew) hl1 (by rw [hwb]; exact below_drew ((Below.refl _ _).alloc (Nat.le_refl _) _)) hk3 (by omega) x HXS.out.2)
      have HHAS := Lib.hid (L1.has hl1 (by omega) x)
      replace hwb := Lib.hid hwb
      clear hl1
      go_upto_region 9 with fail
      rw [← hwb.out]
      refine wp_region_noPanic ?_
      refine wp_region_held_drew (S := (fun w' : World => w'.cell? ⟨wr.heap.size, 0, none⟩ = some (.int .u64 (x.1 : Nat)) ∧ w'.cell? ⟨wr.heap.size, 1, none⟩ = some (.int .u64 (x.2 : Nat)))) (by kernel_rfl) ?_ (fun hH0 => ?_)
      · exact HBX.out wb.drew rfl
      first
        | (refine take_drop (i := 0) (v := ?_) rfl (by kernel_rfl) (by kernel_rfl) (by kernel_rfl) (fun _ _ _ h => h) (Or.inl ⟨by rfl, ?_⟩) (by assumption) ?_; rotate_left 1; (focus (intro w hSw; (try dsimp only at hSw); go_simp; try with_reducible rfl)); try simp only [Act.put, List.setIfInBounds_toArray, List.set_cons_zero, List.set_cons_succ])
        | (refine take_drop (i := 0) (v := undef) rfl (by kernel_rfl) (by kernel_rfl) (by kernel_rfl) (fun _ _ _ h => h) (Or.inr ⟨by rfl, rfl⟩) (by assumption) ?_; try simp only [Act.put, List.setIfInBounds_toArray, List.set_cons_zero, List.set_cons_succ])
      first
        | (refine take_drop (i := 1) (v := ?_) rfl (by kernel_rfl) (by kernel_rfl) (by kernel_rfl) (fun _ _ _ h => h) (Or.inl ⟨by rfl, ?_⟩) (by assumption) ?_; rotate_left 1; (focus (intro w hSw; (try dsimp only at hSw); go_simp; try with_reducible rfl)); try simp only [Act.put, List.setIfInBounds_toArray, List.set_cons_zero, List.set_cons_succ])
        | (refine take_drop (i := 1) (v := undef) rfl (by kernel_rfl) (by kernel_rfl) (by kernel_rfl) (fun _ _ _ h => h) (Or.inr ⟨by rfl, rfl⟩) (by assumption) ?_; try simp only [Act.put, List.setIfInBounds_toArray, List.set_cons_zero, List.set_cons_succ])
      first
        | (refine take_drop (i := 3) (v := ?_) rfl (by kernel_rfl) (by kernel_rfl) (by kernel_rfl) (fun _ _ _ h => h) (Or.inl ⟨by rfl, ?_⟩) (by assumption) ?_; rotate_left 1; (focus (intro w hSw; (try dsimp only at hSw); go_simp; try with_reducible rfl)); try simp only [Act.put, List.setIfInBounds_toArray, List.set_cons_zero, List.set_cons_succ])
        | (refine take_drop (i := 3) (v := undef) rfl (by kernel_rfl) (by kernel_rfl) (by kernel_rfl) (fun _ _ _ h => h) (Or.inr ⟨by rfl, rfl⟩) (by assumption) ?_; try simp only [Act.put, List.setIfInBounds_toArray, List.set_cons_zero, List.set_cons_succ])
      first
        | (refine take_drop (i := 4) (v := ?_) rfl (by kernel_rfl) (by kernel_rfl) (by kernel_rfl) (fun _ _ _ h => h) (Or.inl ⟨by rfl, ?_⟩) (by assumption) ?_; rotate_left 1; (focus (intro w hSw; (try dsimp only at hSw); go_simp; try with_reducible rfl)); try simp only [Act.put, List.setIfInBounds_toArray, List.set_cons_zero, List.set_cons_succ])
        | (refine take_drop (i := 4) (v := undef) rfl (by kernel_rfl) (by kernel_rfl) (by kernel_rfl) (fun _ _ _ h => h) (Or.inr ⟨by rfl, rfl⟩) (by assumption) ?_; try simp only [Act.put, List.setIfInBounds_toArray, List.set_cons_zero, List.set_cons_succ])
      refine wpAnyH_ready (rs := [2]) (by kernel_rfl) (by simp) ?_
      refine cons_drop rfl (fun K hK => ?_) AllReadyH.nil
      go_simp
      refine HPUT.out.mono ?_
      rintro e u1 hpost
      have HKB1 : Hid (u1.heap[wr.heap.size]? = some (.cells #[.int .u64 (x.1 : Nat), .int .u64 (x.2 : Nat)] 28 (0, 0))) := Lib.hid (by rcases hpost with ⟨-, -, -, kb⟩ | ⟨-, -, kb⟩; exact box_keep (w := wb.drew) HBH.out kb (Nat.le_refl _); exact box_keep (w := wb.drew) HBH.out kb (Nat.le_refl _))
      have HB1 := Lib.hid (box_cells HKB1.out)
      rcases hpost with ⟨rfl, hx, hl1, -⟩ | ⟨rfl, hp1, -⟩
      · have hd : decide (x ∈ l) = true := decide_eq_true hx
        have HS1 := Lib.hid hl1
        go_wp2_with fail
        refine hK.out _ _ HB1.out (fun hH1 => ?_)
        clear hK K hH0
        try simp only [Act.put, List.setIfInBounds_toArray, List.set_cons_zero, List.set_cons_succ]
        refine wpAnyH_ready (rs := [5]) (by kernel_rfl) (by simp) ?_
        refine cons_drop rfl (fun K hK => ?_) AllReadyH.nil
        go_simp
        refine (HHAS.out u1 HS1.out.row).mono ?_
        rintro e u2 ⟨rfl, hb2⟩
        have HB2 : Hid (u2.heap[wr.heap.size]? = some (.cells #[.int .u64 (x.1 : Nat), .int .u64 (x.2 : Nat)] 28 (0, 0))) := Lib.hid ((hb2.block _ (Array.getElem?_eq_some_iff.1 HKB1.out).1).trans HKB1.out)
        have HB2c := Lib.hid (box_cells HB2.out)
        have HS2 := Lib.hid (HS1.out.later hb2)
        clear hb2
        rw [hd]
        go_wp2_with fail
        refine hK.out _ _ HB2c.out (fun hH2 => ?_)
        clear hK K hH1
        try simp only [Act.put, List.setIfInBounds_toArray, List.set_cons_zero, List.set_cons_succ]
        first
          | (refine take_drop (i := 6) (v := ?_) rfl (by kernel_rfl) (by kernel_rfl) (by kernel_rfl) (fun _ _ _ h => h) (Or.inl ⟨by rfl, ?_⟩) (by assumption) ?_; rotate_left 1; (focus (intro w hSw; (try dsimp only at hSw); go_simp; try with_reducible rfl)); try simp only [Act.put, List.setIfInBounds_toArray, List.set_cons_zero, List.set_cons_succ])
          | (refine take_drop (i := 6) (v := undef) rfl (by kernel_rfl) (by kernel_rfl) (by kernel_rfl) (fun _ _ _ h => h) (Or.inr ⟨by rfl, rfl⟩) (by assumption) ?_; try simp only [Act.put, List.setIfInBounds_toArray, List.set_cons_zero, List.set_cons_succ])
        first
          | (refine take_drop (i := 7) (v := ?_) rfl (by kernel_rfl) (by kernel_rfl) (by kernel_rfl) (fun _ _ _ h => h) (Or.inl ⟨by rfl, ?_⟩) (by assumption) ?_; rotate_left 1; (focus (intro w hSw; (try dsimp only at hSw); go_simp; try with_reducible rfl)); try simp only [Act.put, List.setIfInBounds_toArray, List.set_cons_zero, List.set_cons_succ])
          | (refine take_drop (i := 7) (v := undef) rfl (by kernel_rfl) (by kernel_rfl) (by kernel_rfl) (fun _ _ _ h => h) (Or.inr ⟨by rfl, rfl⟩) (by assumption) ?_; try simp only [Act.put, List.setIfInBounds_toArray, List.set_cons_zero, List.set_cons_succ])
        refine wpAnyH_done (by kernel_rfl) ?_ _
        refine NoPanic.normal ?_
        obtain ⟨x0, x1⟩ := HB2c.out
        go_wp2_with fail
        refine (HHAS.out u2 HS2.out.row).mono ?_
        rintro e u3 ⟨rfl, hb3⟩
        have HB3 : Hid (u3.heap[wr.heap.size]? = some (.cells #[.int .u64 (x.1 : Nat), .int .u64 (x.2 : Nat)] 28 (0, 0))) := Lib.hid ((hb3.block _ (Array.getElem?_eq_some_iff.1 HB2.out).1).trans HB2.out)
        have HS3 := Lib.hid (HS2.out.later hb3)
        rw [hd]
        clear hb3 x0 x1
        obtain ⟨x0, x1⟩ := box_cells HB3.out
        go_wp2_with fail
        exact ⟨⟨j + 1, _, rfl, by omega, HS3.out.mono (by omega)⟩, by simp [intOf]; omega⟩
      · have hd : decide (x ∈ l) = false := decide_eq_false hp1.new
        have HS1 := Lib.hid hp1
        go_wp2_with fail
        refine hK.out _ _ HB1.out (fun hH1 => ?_)
        clear hK K hH0
        try simp only [Act.put, List.setIfInBounds_toArray, List.set_cons_zero, List.set_cons_succ]
        refine wpAnyH_ready (rs := [5]) (by kernel_rfl) (by simp) ?_
        refine cons_drop rfl (fun K hK => ?_) AllReadyH.nil
        go_simp
        refine (HHAS.out u1 HS1.out.row).mono ?_
        rintro e u2 ⟨rfl, hb2⟩
        have HB2 : Hid (u2.heap[wr.heap.size]? = some (.cells #[.int .u64 (x.1 : Nat), .int .u64 (x.2 : Nat)] 28 (0, 0))) := Lib.hid ((hb2.block _ (Array.getElem?_eq_some_iff.1 HKB1.out).1).trans HKB1.out)
        have HB2c := Lib.hid (box_cells HB2.out)
        have HS2 := Lib.hid (HS1.out.later hb2)
        clear hb2
        rw [hd]
        go_wp2_with fail
        refine hK.out _ _ HB2c.out (fun hH2 => ?_)
        clear hK K hH1
        try simp only [Act.put, List.setIfInBounds_toArray, List.set_cons_zero, List.set_cons_succ]
        first
          | (refine take_drop (i := 6) (v := ?_) rfl (by kernel_rfl) (by kernel_rfl) (by kernel_rfl) (fun _ _ _ h => h) (Or.inl ⟨by rfl, ?_⟩) (by assumption) ?_; rotate_left 1; (focus (intro w hSw; (try dsimp only at hSw); go_simp; try with_reducible rfl)); try simp only [Act.put, List.setIfInBounds_toArray, List.set_cons_zero, List.set_cons_succ])
          | (refine take_drop (i := 6) (v := undef) rfl (by kernel_rfl) (by kernel_rfl) (by kernel_rfl) (fun _ _ _ h => h) (Or.inr ⟨by rfl, rfl⟩) (by assumption) ?_; try simp only [Act.put, List.setIfInBounds_toArray, List.set_cons_zero, List.set_cons_succ])
        first
          | (refine take_drop (i := 7) (v := ?_) rfl (by kernel_rfl) (by kernel_rfl) (by kernel_rfl) (fun _ _ _ h => h) (Or.inl ⟨by rfl, ?_⟩) (by assumption) ?_; rotate_left 1; (focus (intro w hSw; (try dsimp only at hSw); go_simp; try with_reducible rfl)); try simp only [Act.put, List.setIfInBounds_toArray, List.set_cons_zero, List.set_cons_succ])
          | (refine take_drop (i := 7) (v := undef) rfl (by kernel_rfl) (by kernel_rfl) (by kernel_rfl) (fun _ _ _ h => h) (Or.inr ⟨by rfl, rfl⟩) (by assumption) ?_; try simp only [Act.put, List.setIfInBounds_toArray, List.set_cons_zero, List.set_cons_succ])
        refine wpAnyH_done (by kernel_rfl) ?_ _
        refine NoPanic.normal ?_
        obtain ⟨x0, x1⟩ := HB2c.out
        go_wp2_with fail
        refine (HHAS.out u2 HS2.out.row).mono ?_
        rintro e u3 ⟨rfl, hb3⟩
        have HB3 : Hid (u3.heap[wr.heap.size]? = some (.cells #[.int .u64 (x.1 : Nat), .int .u64 (x.2 : Nat)] 28 (0, 0))) := Lib.hid ((hb3.block _ (Array.getElem?_eq_some_iff.1 HB2.out).1).trans HB2.out)
        have HS3 := Lib.hid (HS2.out.later hb3)
        rw [hd]
        clear hb3 x0 x1
        obtain ⟨x0, x1⟩ := box_cells HB3.out
        go_wp2_with fail
        refine (HS3.out.insert (by omega) HXS.out.2).mono ?_
        rintro e u4 ⟨v4, l4, rfl, hn4⟩
        have HNX := Lib.hid hn4
        clear hn4
        go_wp2_with fail
        exact ⟨⟨j + 1, _, rfl, by omega, HNX.out⟩, by simp [intOf]; omega⟩
    · have hjn' : ¬ ((j : Int) < items.length) := by omega
      have HL2 := Lib.hid (L2.start hl1 (by omega))
      clear hl1 HL1
      go_wp2_with fail
      go_loopw [10, 11, 52] (fun vG vH vj wx => ∃ j : Nat, vj = .int .i64 (j : Int) ∧ j ≤ 64 ∧ L2 w.heap.size w wx w.heap.size k l _ vG vH j j j) (fun _ _ vj _ => 65 - (intOf vj).toNat)
      case atStart => exact ⟨0, rfl, by omega, HL2.out⟩
      case round =>
        clear HL2
        obtain ⟨i, rfl, hi, hl2⟩ := hrel
        by_cases hin : i < 64
        · have hin' : (i : Int) < 64 := by omega
          have HT := Lib.hid (hl2.take hin)
          have hlen2 := hl2.len
          clear hl2
          go_wp2_with fail
          refine HT.out.mono ?_
          rintro e x1 ⟨u1, rfl, hu1, h1⟩
          have HBK := Lib.hid (h1.back hu1)
          clear hu1 h1 HT
          go_wp2_with fail
          refine HBK.out.mono ?_
          rintro e x2 ⟨u2, rfl, hu2, h2⟩
          have H2 := Lib.hid h2
          have HU2 := Lib.hid hu2
          have hb2 := h2.hw
          clear hu2 h2 HBK
          go_wp2_with (at_builtin; refine wpList_append_items _ rfl _ _ rfl w.heap.size _ _ (byS k l i) (inSlot k i l) rfl rfl H2.out.rowG HU2.out (lens hlen2 i hin) hb2 ?_; intro v3 x3 hrow3 hg3 ho3; have H3 := Lib.hid (H2.out.appG hrow3 hg3 ho3); clear hrow3 hg3 ho3)
          have HOF := Lib.hid (H3.out.of hk3 i)
          go_wp2_with fail
          refine HOF.out.mono ?_
          rintro e x4 ⟨u4, rfl, hu4, h4⟩
          have H4 := Lib.hid h4
          have HU4 := Lib.hid hu4
          have hb4 := h4.hw
          clear hu4 h4 HOF
          go_wp2_with (at_builtin; refine wpList_append_items _ rfl _ _ rfl w.heap.size _ _ (byS k l i) (inSlot k i l) rfl rfl H4.out.rowH HU4.out (lens hlen2 i hin) hb4 ?_; intro v5 x5 hrow5 hg5 ho5; have H5 := Lib.hid (H4.out.appH hrow5 hg5 ho5); clear hrow5 hg5 ho5)
          exact ⟨⟨i + 1, rfl, by omega, H5.out⟩, by simp [intOf]; omega⟩
        · have hie : i = 64 := by omega
          subst hie
          have H0 := Lib.hid hl2
          clear hl2
          go_wp2_with fail
          refine (HA.out _).mono ?_
          rintro e x1 ⟨rfl, hb1⟩
          have H1 := Lib.hid (H0.out.later hb1)
          have HEQ := Lib.hid H1.out.equal
          clear hb1
          go_wp2_with fail
          refine HEQ.out.mono ?_
          rintro e x2 ⟨rfl, hb2⟩
          have H2 := Lib.hid (H1.out.later hb2)
          have HCT := Lib.hid H2.out.count
          have HFI := Lib.hid H2.out.first
          clear hb2 HEQ
          go_wp2_with fail
          refine HCT.out.mono ?_
          rintro e x3 ⟨rfl, rfl⟩
          go_wp2_with fail
          refine HFI.out.mono ?_
          rintro e x3 ⟨rfl, rfl⟩
          go_wp2_with fail
          go_ret
          exact ⟨rfl, H2.out.bel⟩
end Lo
end Go.Proofs.YtmemjljajbfdlaaDoor
