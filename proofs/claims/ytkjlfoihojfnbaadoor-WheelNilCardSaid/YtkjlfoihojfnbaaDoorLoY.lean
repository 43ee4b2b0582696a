/- LevelMatches: the walk. -/
import Derived.Test.YtkjlfoihojfnbaaDoorLoW
import Derived.Test.YtkjlfoihojfnbaaDoorLoX
import Derived.Test.YtkjlfoihojfnbaaDoorLoD
import Derived.Test.YtkjlfoihojfnbaaDoorLoG
namespace Go.Proofs.YtkjlfoihojfnbaaDoor
open Go.RowKit
set_option linter.unusedVariables false
set_option linter.unusedSimpArgs false
namespace Lo
open Lv (W64 slotOf slotOf_lt fresh ret_int ret_bool new_any alive_any)
open Ln (lvCells LV upd only_set only_refl only_drew)
variable {base b k j : Nat} {w0 wr w w' : World} {vW : Value} {l l' : List (Nat × Nat)}
/-- The items of a slot, none for a slot that there is not. -/
def slotI (k : Nat) (n : Int) (l : List (Nat × Nat)) : List (Nat × Nat) := l.filter fun x => decide ((slotOf k x.2 : Int) = n)
theorem slotI_le (k : Nat) (n : Int) (l : List (Nat × Nat)) : (slotI k n l).length ≤ l.length := List.length_filter_le _ _
theorem M1.mono (h : M1 base w0 w b k j vW l l') {j' : Nat} (hj : j ≤ j') : M1 base w0 w b k j' vW l l' := ⟨h.ex, h.row, Nat.le_trans h.len hj, Nat.le_trans h.len' hj, h.sm, h.bel, h.hb, h.hw⟩
theorem L1.hasAt (h : L1 base w0 w b k j vW l) (hj : j ≤ 100) (x : Nat × Nat) :
    Calls Tryd.prog 11 #[vW, .agg #[.int .u64 (x.1 : Nat), .int .u64 (x.2 : Nat)]] w fun e w' => e = .returned (.bool (decide (x ∈ l))) ∧ Below w.heap.size w w' :=
  rhas_any l (by have := h.len; omega) vW x w h.row.lies
theorem P1.insertAt {x : Nat × Nat} (h : P1 base w0 wr b k j vW l x) (hj : j ≤ 100) (ha : x.2 < 18446744073709551616) :
    Calls Tryd.prog 13 #[vW, .agg #[.int .u64 (x.1 : Nat), .int .u64 (x.2 : Nat)]] wr fun e w' => ∃ v' l', e = .returned v' ∧ L1 base w0 w' b k (j + 1) v' l' :=
  (rinsert_any l (by have := h.len; omega) base vW x wr h.row).mono fun e w' ⟨v', p, he, hp, h1, h2, row, hb⟩ => ⟨v', _, he, h.next ha p hp h1 h2 row hb⟩
theorem L1.takeAny (h : L1 base w0 wr b k j vW l) (hbw : Below wr.heap.size wr w) (hj : j ≤ 100) (n : Int) :
    Calls Tryd.prog 19 #[.pointer (some ⟨b, 0, none⟩), .int .i64 n] w fun e w' => ∃ u, e = .returned u ∧ Lies w' u (slotI k n l) ∧ M1 base w0 w' b k j vW l (woL l (slotI k n l)) ∧ KB w w' (fun g => g < wr.heap.size) := by
  by_cases hn : 0 ≤ n ∧ n < 64
  · obtain ⟨s, rfl⟩ := Int.eq_ofNat_of_zero_le hn.1
    exact h.takeIn hbw hj s (by omega)
  · have e : slotI k n l = [] := inSlot_out k n (by omega) l
    rw [e, woL_nil]
    refine (take_out b n (by omega) w).mono fun e w' ⟨he, hw⟩ => ?_
    subst hw
    exact ⟨_, he, ⟨none, 0, rfl, Nat.le_refl _, fun j hj => absurd hj (by simp)⟩, h.m1.later hbw, KB.of_below _ (Below.refl _ _)⟩
theorem L1.ofAny (h : L1 base w0 w b k j vW l) (hk : k ≤ 3) (hj : j ≤ 100) (n : Int) :
    Calls Tryd.prog 16 #[.int .i64 k, vW, .int .i64 n] w fun e w' => ∃ u, e = .returned u ∧ IRow 29 w' w.heap.size u (slotI k n l) ∧ Below w.heap.size w w' :=
  rof_any k hk l h.sm (by have := h.len; omega) vW n w h.row.lies
theorem box4 {W : World} {g : Nat} {t : TypeId} {c0 c1 c2 c3 : Value} (h : W.heap[g]? = some (.cells #[c0, c1, c2, c3] t (0, 0))) :
    W.cell? ⟨g, 0, none⟩ = some c0 ∧ W.cell? ⟨g, 1, none⟩ = some c1 ∧ W.cell? ⟨g, 2, none⟩ = some c2 ∧ W.cell? ⟨g, 3, none⟩ = some c3 := by simp [World.cell?, h]
theorem boxKB {W W' : World} {g n : Nat} {o : Obj} (h : W.heap[g]? = some o) (kb : KB W W' (fun g => g < n)) (hg : n ≤ g) : W'.heap[g]? = some o :=
  (kb.block g (Array.getElem?_eq_some_iff.1 h).1 (by omega)).trans h
theorem boxB {W W' : World} {g : Nat} {o : Obj} (h : W.heap[g]? = some o) (hb : Below W.heap.size W W') : W'.heap[g]? = some o :=
  (hb.block g (Array.getElem?_eq_some_iff.1 h).1).trans h
set_option maxRecDepth 100000 in
set_option maxHeartbeats 8000000 in
theorem matches_walk (m : Nat) (hm : m < 256) (A : Option Addr) (cap : Nat) (ops : List LOp) (w : World) (hin : LOpsIn w A cap ops) (hlen : ops.length ≤ 100) (hdeb : Deb w) :
    Calls Tryd.prog 3 #[.int .u8 m, .slice A ops.length cap] w fun e w' => e = .returned (.bool true) ∧ Below w.heap.size w w' := by
  obtain ⟨k, hk⟩ : ∃ k : Nat, k = m % 4 := ⟨_, rfl⟩
  have hk3 : k ≤ 3 := by omega
  have hkI : (m : Int) % 4 = (k : Nat) := by omega
  have HKI := Lib.hid hkI
  have HN := Lib.hid (new_any k hk3 w)
  have HA := Lib.hid alive_any
  obtain ⟨W0, hW0⟩ : ∃ W0, W0 = w.alloc (.cells (fresh k) 74) := ⟨_, rfl⟩
  have HL0 : Hid (L1 w.heap.size w W0 w.heap.size k 0 (.slice none 0 0) []) := Lib.hid (by
    rw [hW0]
    exact ⟨⟨_, _, _, St.fresh w _ rfl k (Nat.le_refl _), fun g hg => (by cases hg), ⟨fun s _ => List.Perm.refl _, List.Pairwise.nil⟩⟩, IRow.nil _ _ _, Nat.le_refl _, fun x hx => (by simp at hx), (Below.refl _ _).alloc (Nat.le_refl _) _, Nat.le_refl _, by simp⟩)
  have HIN := Lib.hid hin
  have HDEB := Lib.hid hdeb
  have hcap := hin.1
  have hlen' : (ops.length : Int) ≤ 100 := by omega
  have hn0 : (0 : Int) ≤ m := by omega
  have hn1 : (m : Int) < 256 := by omega
  rw [← hW0] at HN
  replace hW0 := Lib.hid hW0
  clear hin hk hm hkI hdeb
  go_enter Tryd.func3, Tryd.ntmps3
  go_wp2_with fail
  rw [HKI.out]
  refine HN.out.mono ?_
  rintro e w1 ⟨rfl, rfl⟩
  go_wp2_with fail
  go_loopw [7, 33] (fun vW vj wr => ∃ (j : Nat) (l : List (Nat × Nat)), vj = .int .i64 (j : Int) ∧ j ≤ ops.length ∧ L1 w.heap.size w wr w.heap.size k j vW l) (fun _ vj _ => ops.length + 1 - (intOf vj).toNat)
  case atStart => exact ⟨0, [], rfl, by omega, HL0.out⟩
  case round =>
    obtain ⟨j, l, rfl, hj, hl1⟩ := hrel
    rename_i wr
    have HL1 := Lib.hid hl1
    by_cases hjn : j < ops.length
    · obtain ⟨g, o, rfl, hg1, hg2, hg3, hg4, hg5⟩ := HIN.out.2.2 j hjn
      have HOK := HIN.out.2.1 _ (List.getElem_mem hjn)
      have hg2 := (hl1.bel.cell (p := ⟨g, o + j * 4, none⟩) hg1).trans hg2
      have hg3 := (hl1.bel.cell (p := ⟨g, o + j * 4 + 1, none⟩) hg1).trans hg3
      have hg4 := (hl1.bel.cell (p := ⟨g, o + j * 4 + 2, none⟩) hg1).trans hg4
      have hg5 := (hl1.bel.cell (p := ⟨g, o + j * 4 + 3, none⟩) hg1).trans hg5
      have hjn' : (j : Int) < ops.length := by omega
      generalize ops[j] = op at *
      obtain ⟨ok, x, n⟩ := op
      obtain ⟨hok, hx2, hn⟩ := HOK
      dsimp only at hg2 hg3 hg4 hg5 hok hx2 hn
      have hx22 := hx2.2
      obtain ⟨wb, hwb⟩ : ∃ wb, wb = wr.alloc (.cells #[.int .i64 ok, .int .u64 (x.1 : Nat), .int .u64 (x.2 : Nat), .int .i64 n] 31) := ⟨_, rfl⟩
      have HBH : Hid (wb.heap[wr.heap.size]? = some (.cells #[.int .i64 ok, .int .u64 (x.1 : Nat), .int .u64 (x.2 : Nat), .int .i64 n] 31 (0, 0))) := Lib.hid (by rw [hwb]; exact heap_alloc_new wr _)
      have hbb : Below wr.heap.size wr wb := by rw [hwb]; exact (Below.refl _ _).alloc (Nat.le_refl _) _
      have HWB := Lib.hid hbb
      have H1B := Lib.hid (hl1.later hbb)
      have HHAS := Lib.hid (H1B.out.hasAt (by omega) x)
      have HX2 := Lib.hid hx2
      have HNN := Lib.hid hn
      replace hwb := Lib.hid hwb
      obtain ⟨bb0, bb1, bb2, bb3⟩ := box4 HBH.out
      clear hl1 hbb hx2 hn
      go_upto_region 9 with fail
      rw [← hwb.out]
      go_wp2_with fail
      refine HHAS.out.mono ?_
      rintro e w2 ⟨rfl, hb2⟩
      have HB2 := Lib.hid (HWB.out.trans (hb2.mono HWB.out.size))
      have HBX2 := Lib.hid (boxB HBH.out hb2)
      have H2 := Lib.hid (H1B.out.later hb2)
      clear hb2 bb0 bb1 bb2 bb3
      obtain ⟨bb0, bb1, bb2, bb3⟩ := box4 HBX2.out
      rcases (by omega : ok = 0 ∨ ok = 1 ∨ ok = 2 ∨ (ok ≠ 0 ∧ ok ≠ 1 ∧ ok ≠ 2)) with rfl | rfl | rfl | ⟨q0, q1, q2⟩
      · by_cases hx : x ∈ l
        · have hd : decide (x ∈ l) = true := decide_eq_true hx
          rw [hd]
          go_wp2_with fail
          refine (L1.put HL1.out HB2.out hk3 (by omega) x HX2.out.2).mono ?_
          rintro e w3 hpost
          rcases hpost with ⟨rfl, -, h3, -⟩ | ⟨-, h3, -⟩
          · have H3 := Lib.hid (h3.mono (Nat.le_succ j))
            clear h3
            have HC := Lib.hid (H3.out.count (by omega))
            obtain ⟨AZ, capz, hvz, hcz, -⟩ := H3.out.row.opened
            subst hvz
            go_wp2_with fail
            refine HC.out.mono ?_
            rintro e wz ⟨rfl, rfl⟩
            go_wp2_with fail
            exact ⟨⟨j + 1, _, rfl, by omega, H3.out⟩, by simp [intOf]; omega⟩
          · exact absurd hx h3.new
        · have hd : decide (x ∈ l) = false := decide_eq_false hx
          rw [hd]
          go_wp2_with fail
          refine (L1.put HL1.out HB2.out hk3 (by omega) x HX2.out.2).mono ?_
          rintro e w3 hpost
          rcases hpost with ⟨-, h3, -, -⟩ | ⟨rfl, h3, kb3⟩
          · exact absurd h3 hx
          · have HP3 := Lib.hid h3
            have HBX3 := Lib.hid (boxKB HBX2.out kb3 (Nat.le_refl _))
            clear h3 kb3
            obtain ⟨cc0, cc1, cc2, cc3⟩ := box4 HBX3.out
            go_wp2_with fail
            refine (HP3.out.insertAt (by omega) HX2.out.2).mono ?_
            rintro e w4 ⟨v4, l4, rfl, h4⟩
            have H4 := Lib.hid h4
            clear h4
            have HC := Lib.hid (H4.out.count (by omega))
            obtain ⟨AZ, capz, hvz, hcz, -⟩ := H4.out.row.opened
            subst hvz
            go_wp2_with fail
            refine HC.out.mono ?_
            rintro e wz ⟨rfl, rfl⟩
            go_wp2_with fail
            exact ⟨⟨j + 1, _, rfl, by omega, H4.out⟩, by simp [intOf]; omega⟩
      · generalize hdx : decide (x ∈ l) = dx at *
        have HDX := Lib.hid hdx
        clear hdx
        have HREM := Lib.hid (L1.remove HL1.out HB2.out hk3 (by omega) x HX2.out.2)
        rw [HDX.out] at HREM
        go_wp2_with fail
        refine HREM.out.mono ?_
        rintro e w3 ⟨rfl, h3, kb3⟩
        have HM3 := Lib.hid h3
        have HBX3 := Lib.hid (boxKB HBX2.out kb3 (Nat.le_refl _))
        clear h3 kb3
        obtain ⟨cc0, cc1, cc2, cc3⟩ := box4 HBX3.out
        have hbne : (dx != dx) = false := by cases dx <;> rfl
        cases dx
        all_goals
          go_wp2_with fail
          refine (HM3.out.without (by omega) x).mono ?_
          rintro e w4 ⟨v4, rfl, h4, -⟩
          have H4 := Lib.hid ((h4.l1 rfl).mono (Nat.le_succ j))
          clear h4
          have HC := Lib.hid (H4.out.count (by omega))
          obtain ⟨AZ, capz, hvz, hcz, -⟩ := H4.out.row.opened
          subst hvz
          go_wp2_with fail
          refine HC.out.mono ?_
          rintro e wz ⟨rfl, rfl⟩
          go_wp2_with fail
          exact ⟨⟨j + 1, _, rfl, by omega, H4.out⟩, by simp [intOf]; omega⟩
      · have HOF := Lib.hid (H2.out.ofAny hk3 (by omega) n)
        go_wp2_with fail
        refine HOF.out.mono ?_
        rintro e w3 ⟨v3, rfl, hr3, hb3⟩
        have HB3 := Lib.hid (HB2.out.trans (hb3.mono HB2.out.size))
        have hz3 : wr.heap.size ≤ w2.heap.size := HB2.out.size
        have HR3 := Lib.hid hr3
        have HBX3 := Lib.hid (boxB HBX2.out hb3)
        clear hr3 hb3
        obtain ⟨cc0, cc1, cc2, cc3⟩ := box4 HBX3.out
        have HTK := Lib.hid (L1.takeAny HL1.out HB3.out (by omega) n)
        have hll : (slotI k n l).length ≤ 100 := Nat.le_trans (slotI_le k n l) (Nat.le_trans HL1.out.len (by omega))
        generalize slotI k n l = want at *
        go_wp2_with fail
        refine HTK.out.mono ?_
        rintro e w4 ⟨u4, rfl, hu4, h4, kb4⟩
        have HM4 := Lib.hid h4
        have HR4 := Lib.hid (HR3.out.keepKB kb4 (fun g hg e => by have := (HR3.out.lt g hg).1; omega))
        have HU4 := Lib.hid hu4
        clear hu4 h4 kb4
        go_wp2_with fail
        refine (back_any want (by omega) u4 w4 HU4.out).mono ?_
        rintro e w5 ⟨v5, rfl, hr5, hb5⟩
        have HM5 := Lib.hid (HM4.out.later hb5)
        have HR5 := Lib.hid (HR4.out.later hb5)
        have HQ5 := Lib.hid hr5
        clear hr5 hb5
        go_wp2_with fail
        refine (equal_same want (by omega) v5 v3 w5 HQ5.out.lies HR5.out.lies).mono ?_
        rintro e w6 ⟨rfl, hb6⟩
        have HM6 := Lib.hid (HM5.out.later hb6)
        have HR6 := Lib.hid (HR5.out.lies.later hb6)
        clear hb6
        obtain ⟨A3, cap3, rfl, hcap3, hcells3⟩ := HR6.out
        have HCE := Lib.hid hcells3
        clear hcells3
        have hll' : (want.length : Int) ≤ 100 := by omega
        go_wp2_with fail
        obtain ⟨wo6, hwo6⟩ : ∃ wo6 : World, wo6 = w6 := ⟨_, rfl⟩
        go_loopw [7, 96] (fun vW vi wx => ∃ i : Nat, vi = .int .i64 (i : Int) ∧ i ≤ want.length ∧ M1 w.heap.size w wx w.heap.size k j vW (woL l (want.take i)) (woL l want) ∧ Below w6.heap.size w6 wx) (fun _ vi _ => want.length + 1 - (intOf vi).toNat)
        case atStart => exact ⟨0, rfl, by omega, by rw [List.take_zero, woL_nil]; exact HM6.out, Below.refl _ _⟩
        case round =>
          obtain ⟨i, rfl, hi, hmi, hbi⟩ := hrel
          have HMI := Lib.hid hmi
          have HBI := Lib.hid hbi
          by_cases hin : i < want.length
          · obtain ⟨g7, rfl, p1, p2, p3⟩ := HCE.out i hin
            have p2 := (hbi.cell (p := ⟨g7, i * 2, none⟩) p1).trans p2
            have p3 := (hbi.cell (p := ⟨g7, i * 2 + 1, none⟩) p1).trans p3
            have hin' : (i : Int) < want.length := by omega
            have HTT : Hid (want.take (i + 1) = want.take i ++ [want[i]]) := Lib.hid (List.take_succ_eq_append_getElem hin)
            clear hmi hbi
            generalize want[i] = y at *
            obtain ⟨wy, hwy⟩ : ∃ wy, wy = wr.alloc (.cells #[.int .u64 (y.1 : Nat), .int .u64 (y.2 : Nat)] 29) := ⟨_, rfl⟩
            have hby : Below wr.heap.size wr wy := by rw [hwy]; exact (Below.refl _ _).alloc (Nat.le_refl _) _
            have hhy : wy.heap[wr.heap.size]? = some (.cells #[.int .u64 (y.1 : Nat), .int .u64 (y.2 : Nat)] 29 (0, 0)) := by rw [hwy]; exact heap_alloc_new wr _
            have y0 : wy.cell? ⟨wr.heap.size, 0, none⟩ = some (.int .u64 (y.1 : Nat)) := by simp [World.cell?, hhy]
            have y1 : wy.cell? ⟨wr.heap.size, 1, none⟩ = some (.int .u64 (y.2 : Nat)) := by simp [World.cell?, hhy]
            have HMY := Lib.hid (HMI.out.later hby)
            have HBY := Lib.hid (HBI.out.trans (hby.mono HBI.out.size))
            replace hwy := Lib.hid hwy
            clear hby hhy
            go_upto_region 29 with fail
            rw [← hwy.out]
            go_wp2_with fail
            refine (HMY.out.without (by omega) y).mono ?_
            rintro e w8 ⟨v8, rfl, h8, hb8⟩
            rw [woL_snoc, ← HTT.out] at h8
            have HM8 := Lib.hid h8
            have HB8 := Lib.hid (HBY.out.trans (hb8.mono HBY.out.size))
            clear h8 hb8
            go_wp2_with fail
            exact ⟨⟨i + 1, rfl, by omega, HM8.out, HB8.out⟩, by simp [intOf]; omega⟩
          · have hie : i = want.length := by omega
            have hin' : ¬ ((i : Int) < want.length) := by omega
            rw [hie, List.take_length] at hmi
            have H9 := Lib.hid ((hmi.l1 rfl).mono (Nat.le_succ j))
            clear hmi hbi HMI
            have HC := Lib.hid (H9.out.count (by omega))
            obtain ⟨AZ, capz, hvz, hcz, -⟩ := H9.out.row.opened
            subst hvz
            go_wp2_with fail
            refine HC.out.mono ?_
            rintro e wz ⟨rfl, rfl⟩
            go_wp2_with fail
            exact ⟨⟨j + 1, _, rfl, by omega, H9.out⟩, by simp [intOf]; omega⟩
      · have e0 : (ok == 0) = false := beq_eq_false_iff_ne.2 q0
        have e1 : (ok == 1) = false := beq_eq_false_iff_ne.2 q1
        have e2 : (ok == 2) = false := beq_eq_false_iff_ne.2 q2
        clear q0 q1 q2
        go_wp2_with fail
        have hnl := HNN.out.1
        have hnh := HNN.out.2
        have HFI := Lib.hid (fun W hW => L1.first HL1.out (w := W) hW n HNN.out.1 HNN.out.2 ((HDEB.out.later HL1.out.bel).later hW))
        have HRF := Lib.hid (fun W hW => L1.rfirst HL1.out (w := W) hW hk3 (by omega) n HNN.out.1 HNN.out.2)
        refine wp_region_noPanic ?_
        refine wp_region_held_drew (S := (fun w' : World => w'.cell? ⟨wr.heap.size, 3, none⟩ = some (.int .i64 n) ∧ Below wr.heap.size wr w')) (by kernel_rfl) ?_ (fun hH0 => ?_)
        · exact ⟨bb3, below_drew HB2.out⟩
        first
          | (refine take_drop (i := 0) (v := ?_) rfl (by kernel_rfl) (by kernel_rfl) (by kernel_rfl) (fun _ _ _ h => h) (Or.inl ⟨by rfl, ?_⟩) (by assumption) ?_; rotate_left 1; (focus (intro w hSw; (try dsimp only at hSw); go_simp; try with_reducible rfl)); try simp only [Act.put, List.setIfInBounds_toArray, List.set_cons_zero, List.set_cons_succ])
          | (refine take_drop (i := 0) (v := undef) rfl (by kernel_rfl) (by kernel_rfl) (by kernel_rfl) (fun _ _ _ h => h) (Or.inr ⟨by rfl, rfl⟩) (by assumption) ?_; try simp only [Act.put, List.setIfInBounds_toArray, List.set_cons_zero, List.set_cons_succ])
        first
          | (refine take_drop (i := 1) (v := ?_) rfl (by kernel_rfl) (by kernel_rfl) (by kernel_rfl) (fun _ _ _ h => h) (Or.inl ⟨by rfl, ?_⟩) (by assumption) ?_; rotate_left 1; (focus (intro w hSw; (try dsimp only at hSw); go_simp; try with_reducible rfl)); try simp only [Act.put, List.setIfInBounds_toArray, List.set_cons_zero, List.set_cons_succ])
          | (refine take_drop (i := 1) (v := undef) rfl (by kernel_rfl) (by kernel_rfl) (by kernel_rfl) (fun _ _ _ h => h) (Or.inr ⟨by rfl, rfl⟩) (by assumption) ?_; try simp only [Act.put, List.setIfInBounds_toArray, List.set_cons_zero, List.set_cons_succ])
        first
          | (refine take_drop (i := 2) (v := ?_) rfl (by kernel_rfl) (by kernel_rfl) (by kernel_rfl) (fun _ _ _ h => h) (Or.inl ⟨by rfl, ?_⟩) (by assumption) ?_; rotate_left 1; (focus (intro w hSw; (try dsimp only at hSw); go_simp; try with_reducible rfl)); try simp only [Act.put, List.setIfInBounds_toArray, List.set_cons_zero, List.set_cons_succ])
          | (refine take_drop (i := 2) (v := undef) rfl (by kernel_rfl) (by kernel_rfl) (by kernel_rfl) (fun _ _ _ h => h) (Or.inr ⟨by rfl, rfl⟩) (by assumption) ?_; try simp only [Act.put, List.setIfInBounds_toArray, List.set_cons_zero, List.set_cons_succ])
        first
          | (refine take_drop (i := 4) (v := ?_) rfl (by kernel_rfl) (by kernel_rfl) (by kernel_rfl) (fun _ _ _ h => h) (Or.inl ⟨by rfl, ?_⟩) (by assumption) ?_; rotate_left 1; (focus (intro w hSw; (try dsimp only at hSw); go_simp; try with_reducible rfl)); try simp only [Act.put, List.setIfInBounds_toArray, List.set_cons_zero, List.set_cons_succ])
          | (refine take_drop (i := 4) (v := undef) rfl (by kernel_rfl) (by kernel_rfl) (by kernel_rfl) (fun _ _ _ h => h) (Or.inr ⟨by rfl, rfl⟩) (by assumption) ?_; try simp only [Act.put, List.setIfInBounds_toArray, List.set_cons_zero, List.set_cons_succ])
        first
          | (refine take_drop (i := 5) (v := ?_) rfl (by kernel_rfl) (by kernel_rfl) (by kernel_rfl) (fun _ _ _ h => h) (Or.inl ⟨by rfl, ?_⟩) (by assumption) ?_; rotate_left 1; (focus (intro w hSw; (try dsimp only at hSw); go_simp; try with_reducible rfl)); try simp only [Act.put, List.setIfInBounds_toArray, List.set_cons_zero, List.set_cons_succ])
          | (refine take_drop (i := 5) (v := undef) rfl (by kernel_rfl) (by kernel_rfl) (by kernel_rfl) (fun _ _ _ h => h) (Or.inr ⟨by rfl, rfl⟩) (by assumption) ?_; try simp only [Act.put, List.setIfInBounds_toArray, List.set_cons_zero, List.set_cons_succ])
        first
          | (refine take_drop (i := 6) (v := ?_) rfl (by kernel_rfl) (by kernel_rfl) (by kernel_rfl) (fun _ _ _ h => h) (Or.inl ⟨by rfl, ?_⟩) (by assumption) ?_; rotate_left 1; (focus (intro w hSw; (try dsimp only at hSw); go_simp; try with_reducible rfl)); try simp only [Act.put, List.setIfInBounds_toArray, List.set_cons_zero, List.set_cons_succ])
          | (refine take_drop (i := 6) (v := undef) rfl (by kernel_rfl) (by kernel_rfl) (by kernel_rfl) (fun _ _ _ h => h) (Or.inr ⟨by rfl, rfl⟩) (by assumption) ?_; try simp only [Act.put, List.setIfInBounds_toArray, List.set_cons_zero, List.set_cons_succ])
        first
          | (refine take_drop (i := 7) (v := ?_) rfl (by kernel_rfl) (by kernel_rfl) (by kernel_rfl) (fun _ _ _ h => h) (Or.inl ⟨by rfl, ?_⟩) (by assumption) ?_; rotate_left 1; (focus (intro w hSw; (try dsimp only at hSw); go_simp; try with_reducible rfl)); try simp only [Act.put, List.setIfInBounds_toArray, List.set_cons_zero, List.set_cons_succ])
          | (refine take_drop (i := 7) (v := undef) rfl (by kernel_rfl) (by kernel_rfl) (by kernel_rfl) (fun _ _ _ h => h) (Or.inr ⟨by rfl, rfl⟩) (by assumption) ?_; try simp only [Act.put, List.setIfInBounds_toArray, List.set_cons_zero, List.set_cons_succ])
        refine wpAnyH_ready (rs := [3]) (by kernel_rfl) (by simp) ?_
        refine cons_drop rfl (fun K hK => ?_) AllReadyH.nil
        go_simp
        refine (HFI.out _ (below_drew HB2.out)).mono ?_
        rintro e u3 ⟨⟨r, rfl, hr⟩, rfl⟩
        have HR1 := Lib.hid hr
        clear hr
        go_wp2_with fail
        refine hK.out _ _ ⟨bb3, below_drew HB2.out⟩ (fun hH1 => ?_)
        clear hK K hH0
        try simp only [Act.put, List.setIfInBounds_toArray, List.set_cons_zero, List.set_cons_succ]
        refine wpAnyH_ready (rs := [8]) (by kernel_rfl) (by simp) ?_
        refine cons_drop rfl (fun K hK => ?_) AllReadyH.nil
        go_simp
        refine (HRF.out _ (below_drew HB2.out)).mono ?_
        rintro e u4 ⟨⟨r', rfl, hr⟩, hb4⟩
        obtain rfl : r = r' := HR1.out.same hr
        have HB4 := Lib.hid ((below_drew HB2.out).trans (hb4.mono HB2.out.size))
        have HBX4 := Lib.hid (boxB (W := w2.drew) HBX2.out hb4)
        have H4 := Lib.hid ((H2.out.later ((below_drew (Below.refl _ _)).trans hb4)).mono (Nat.le_succ j))
        clear hr hb4
        obtain ⟨cc0, cc1, cc2, cc3⟩ := box4 HBX4.out
        go_wp2_with fail
        refine hK.out _ _ ⟨cc3, HB4.out⟩ (fun hH2 => ?_)
        clear hK K hH1
        try simp only [Act.put, List.setIfInBounds_toArray, List.set_cons_zero, List.set_cons_succ]
        first
          | (refine take_drop (i := 9) (v := ?_) rfl (by kernel_rfl) (by kernel_rfl) (by kernel_rfl) (fun _ _ _ h => h) (Or.inl ⟨by rfl, ?_⟩) (by assumption) ?_; rotate_left 1; (focus (intro w hSw; (try dsimp only at hSw); go_simp; try with_reducible rfl)); try simp only [Act.put, List.setIfInBounds_toArray, List.set_cons_zero, List.set_cons_succ])
          | (refine take_drop (i := 9) (v := undef) rfl (by kernel_rfl) (by kernel_rfl) (by kernel_rfl) (fun _ _ _ h => h) (Or.inr ⟨by rfl, rfl⟩) (by assumption) ?_; try simp only [Act.put, List.setIfInBounds_toArray, List.set_cons_zero, List.set_cons_succ])
        refine wpAnyH_done (by kernel_rfl) ?_ _
        refine NoPanic.normal ?_
        have HC := Lib.hid (H4.out.count (by omega))
        obtain ⟨AZ, capz, hvz, hcz, -⟩ := H4.out.row.opened
        subst hvz
        go_wp2_with fail
        refine HC.out.mono ?_
        rintro e wz ⟨rfl, rfl⟩
        go_wp2_with fail
        exact ⟨⟨j + 1, _, rfl, by omega, H4.out⟩, by simp [intOf]; omega⟩
    · have hjn' : ¬ ((j : Int) < ops.length) := by omega
      clear hl1
      go_wp2_with fail
      refine (HA.out _).mono ?_
      rintro e w2 ⟨rfl, hb⟩
      have HB := Lib.hid (HL1.out.bel.trans (hb.mono HL1.out.hw))
      clear hb
      go_wp2_with fail
      go_ret
      exact ⟨rfl, HB.out⟩
end Lo
end Go.Proofs.YtkjlfoihojfnbaaDoor
