/- The reference's ReadInt, Take, ReadBytes. -/
/- The reference's ReadBytes. -/
/- What a reader's walk asks of memory; what value.read leaves. -/
import Derived.Test.YtcbddebmmaflgaaGreatDoorMsau
import Derived.Test.YtcbddebmmaflgaaGreatDoorMsas
import Derived.Test.YtcbddebmmaflgaaGreatDoorMsak
namespace Go.Proofs.YtcbddebmmaflgaaGreatDoor
open Go.RowKit
set_option linter.unusedVariables false
set_option linter.unusedSimpArgs false
namespace Rd
open _root_.Go.Proofs.YtcbddebmmaflgaaGreatDoor.Nm (ret_int ret_bool)
open Cn (BRd brd_own)
open Vt (below_drew)
open Ev (take_drop cons_drop)
open _root_.Go.Proofs.YtcbddebmmaflgaaGreatDoor.Bt (ownBlock_slice)

theorem rTake_bad (l : List Nat) (n : Nat) : rTake (l, true) n = ((l, true), []) := by unfold rTake; rw [if_neg (by simp)]
theorem rTake_no {l : List Nat} {n : Nat} (h : ¬ n ≤ l.length) : rTake (l, false) n = ((l, true), []) := by unfold rTake; rw [if_neg (by simp; omega)]
theorem rTake_yes {l : List Nat} {n : Nat} (h : n ≤ l.length) : rTake (l, false) n = ((l.drop n, false), l.take n) := by unfold rTake; rw [if_pos ⟨rfl, h⟩]
theorem far_nil (B : Nat) : Far (.slice none 0 0) B := fun k hk => by cases hk
theorem brd_nil (w : World) : BRd w (.slice none 0 0) [] := .inl ⟨rfl, rfl⟩
theorem rBytes_bad (l : List Nat) : rBytes (l, true) = ((l, true), []) := rBytes_no (by unfold nxt; rw [if_pos rfl])
theorem rBytes_none {l : List Nat} (h : num l = none) : rBytes (l, false) = ((l, true), []) := rBytes_no (by unfold nxt; rw [if_neg (by simp)]; exact h)
theorem rBytes_far {l : List Nat} {x n : Nat} (h : num l = some (x, n)) (hx : ¬ x ≤ l.length - n) : rBytes (l, false) = ((l, true), []) := by
  rw [rBytes_eq (s := (l, false)) (x := x) (n := n) (by unfold nxt; rw [if_neg (by simp)]; exact h), if_neg hx]
theorem rBytes_take {l : List Nat} {x n : Nat} (h : num l = some (x, n)) (hx : x ≤ l.length - n) : rBytes (l, false) = rTake (l.drop n, false) x := by
  rw [rBytes_eq (s := (l, false)) (x := x) (n := n) (by unfold nxt; rw [if_neg (by simp)]; exact h), if_pos hx, rTake_yes (by rw [List.length_drop]; exact hx), List.drop_drop]

set_option maxRecDepth 100000 in
set_option maxHeartbeats 2000000 in
theorem rrint_any (s : St) (x : Value) (w : World) (B : Nat) (hB : B ≤ w.heap.size) (h : RV w B s x) :
    Calls Tryz.prog 108 #[x] w fun r w' => ∃ y, r = .returned (.tuple #[y, .int .i64 (unzz (rUint s).2)]) ∧ RV w' B (rUint s).1 y ∧ Below w.heap.size w w' := by
  obtain ⟨⟨v, rfl, hv, hf⟩, hb, hl⟩ := h
  have HF := Lib.hid hf
  obtain ⟨l, bad⟩ := s
  simp only at *
  obtain ⟨W0, hW0, hq, hr, hb0, hz0⟩ := two_boxes w v bad
  have HV := Lib.hid hv
  have HB := Lib.hid (hv.later hb0)
  have HQ := Lib.hid hq
  have HR := Lib.hid hr
  have HB0 := Lib.hid hb0
  have HBY := Lib.hid hb
  have HL := Lib.hid hl
  have hlt1 : w.heap.size + 1 < W0.heap.size := by omega
  have hlt0 : w.heap.size < W0.heap.size := by omega
  have hst : ∀ W a m, (store a v m).run Tryz.prog W = stored Tryz.prog W a v m := fun W a m => by
    obtain ⟨A, c, rfl⟩ := hv.form
    exact run_store _ W a _ m rfl
  have HU := Lib.hid (rruint_any (l, bad) _ W0 B (by omega) (rv_end (s' := (l, bad)) hv hf hb hl hb0))
  have hXl : (rUint (l, bad)).2 < 18446744073709551616 := rUint_val hb
  generalize rUint (l, bad) = q at *
  obtain ⟨⟨l1, bad1⟩, X⟩ := q
  simp only at *
  obtain ⟨c0, c1, f0, f1⟩ := HQ.out.cells
  obtain ⟨r0, r1, e0, e1⟩ := HR.out.cells
  clear hv hf hq hr hb0 hb hl hz0
  replace hW0 := Lib.hid hW0
  go_enter Tryz.func108, Tryz.ntmps108
  go_upto_region 1 with fail
  rw [← hW0.out]
  go_wp2_with fail
  refine HU.out.mono ?_
  rintro e w1 ⟨y, rfl, ⟨⟨v1, rfl, hv1, hf1⟩, hb1, hl1⟩, hbl⟩
  simp only at hv1 hf1 hb1 hl1
  clear c0 c1 f0 f1 r0 r1 e0 e1
  obtain ⟨c0, c1, f0, f1⟩ := (HQ.out.later hbl hlt0).cells
  obtain ⟨r0, r1, e0, e1⟩ := (HR.out.later hbl hlt1).cells
  have hlt1w := Nat.lt_of_lt_of_le hlt1 hbl.size
  have hlt0w := Nat.lt_of_lt_of_le hlt0 hbl.size
  have hst1 : ∀ W a m, (store a v1 m).run Tryz.prog W = stored Tryz.prog W a v1 m := fun W a m => by
    obtain ⟨A, c, rfl⟩ := hv1.form
    exact run_store _ W a _ m rfl
  have HV1 := Lib.hid hv1
  have HF1 := Lib.hid hf1
  have HBY1 := Lib.hid hb1
  have HL1 := Lib.hid hl1
  have HB1 := Lib.hid (HB0.out.trans (hbl.mono HB0.out.size))
  clear hv1 hf1 hb1 hl1 hbl hst
  obtain ⟨Y, hY⟩ : ∃ Y : Nat, Y = X / 2 := ⟨_, rfl⟩
  have hdiv : (X : Int) / 2 = (Y : Int) := by omega
  have htd : Int.tdiv (X : Int) 2 = (Y : Int) := by rw [Int.tdiv_eq_ediv_of_nonneg (by omega)]; exact hdiv
  have hY63 : Y < 9223372036854775808 := by omega
  have hwY : IntKind.i64.wrap (Y : Int) = (Y : Int) := by rw [IntKind.wrap_i64]; omega
  rcases Nat.mod_two_eq_zero_or_one X with hm | hm
  · have hmod : (X : Int) % 2 = 0 := by omega
    have htm : Int.tmod (X : Int) 2 = 0 := by rw [Int.tmod_eq_emod_of_nonneg (by omega)]; exact hmod
    have HRES : Hid (unzz X = (Y : Int)) := Lib.hid (by unfold unzz; rw [if_pos hm, hY])
    clear hY hXl hm hdiv
    go_wp2_with fail
    refine bodyPost_ret (v := .tuple #[.agg #[v1, .bool bad1], .int .i64 (Y : Nat)]) (by simp [results, Tryz.results108, go_sem, r0, r1]) rfl ?_
    exact ⟨.agg #[v1, .bool bad1], by rw [HRES.out], RV.below (w := w1) ⟨⟨v1, rfl, HV1.out, HF1.out⟩, HBY1.out, HL1.out⟩ (below_set2 (below_set2 (below_set2 (below_set2 (Below.refl w.heap.size w1) (Nat.le_refl _) _ _) (Nat.le_refl _) _ _) (Nat.le_succ _) _ _) (Nat.le_succ _) _ _) hB, below_set2 (below_set2 (below_set2 (below_set2 HB1.out (Nat.le_refl _) _ _) (Nat.le_refl _) _ _) (Nat.le_succ _) _ _) (Nat.le_succ _) _ _⟩
  · have hmod : (X : Int) % 2 = 1 := by omega
    have htm : Int.tmod (X : Int) 2 = 1 := by rw [Int.tmod_eq_emod_of_nonneg (by omega)]; exact hmod
    have hw1 : wrap64 (-(Y : Int)) = -(Y : Int) := by unfold wrap64; omega
    have hw2 : wrap64 (-(Y : Int) - 1) = -(Y : Int) - 1 := by unfold wrap64; omega
    have HRES : Hid (unzz X = -(Y : Int) - 1) := Lib.hid (by unfold unzz; rw [if_neg (by omega), hY])
    clear hY hXl hm hdiv
    go_wp2_with fail
    refine bodyPost_ret (v := .tuple #[.agg #[v1, .bool bad1], .int .i64 (-(Y : Int) - 1)]) (by simp [results, Tryz.results108, go_sem, r0, r1]) rfl ?_
    exact ⟨.agg #[v1, .bool bad1], by rw [HRES.out], RV.below (w := w1) ⟨⟨v1, rfl, HV1.out, HF1.out⟩, HBY1.out, HL1.out⟩ (below_set2 (below_set2 (below_set2 (below_set2 (Below.refl w.heap.size w1) (Nat.le_refl _) _ _) (Nat.le_refl _) _ _) (Nat.le_succ _) _ _) (Nat.le_succ _) _ _) hB, below_set2 (below_set2 (below_set2 (below_set2 HB1.out (Nat.le_refl _) _ _) (Nat.le_refl _) _ _) (Nat.le_succ _) _ _) (Nat.le_succ _) _ _⟩

set_option maxRecDepth 100000 in
set_option maxHeartbeats 2000000 in
theorem rrtake_any (s : St) (n : Nat) (x : Value) (w : World) (B : Nat) (hB : B ≤ w.heap.size) (h : RV w B s x) :
    Calls Tryz.prog 42 #[x, .int .i64 (n : Nat)] w fun r w' => ∃ y v2, r = .returned (.tuple #[y, v2]) ∧ RV w' B (rTake s n).1 y ∧ BRd w' v2 (rTake s n).2 ∧ Far v2 B ∧ Below w.heap.size w w' := by
  obtain ⟨⟨v, rfl, hv, hf⟩, hb, hl⟩ := h
  have HF := Lib.hid hf
  obtain ⟨l, bad⟩ := s
  simp only at *
  obtain ⟨W0, hW0, hq, hr, hb0, hz0⟩ := two_boxes w v bad
  have HV := Lib.hid hv
  have HB := Lib.hid (hv.later hb0)
  have HQ := Lib.hid hq
  have HR := Lib.hid hr
  have HB0 := Lib.hid hb0
  have HBY := Lib.hid hb
  have HL := Lib.hid hl
  have hlt1 : w.heap.size + 1 < W0.heap.size := by omega
  have hlt0 : w.heap.size < W0.heap.size := by omega
  have hst : ∀ W a m, (store a v m).run Tryz.prog W = stored Tryz.prog W a v m := fun W a m => by
    obtain ⟨A, c, rfl⟩ := hv.form
    exact run_store _ W a _ m rfl
  have hn0 : (0 : Int) ≤ (n : Int) := by omega
  have k0 : decide ((n : Int) < 0) = false := decide_eq_false (by omega)
  cases bad with
  | true =>
    rw [rTake_bad]
    obtain ⟨c0, c1, f0, f1⟩ := HQ.out.cells
    obtain ⟨r0, r1, e0, e1⟩ := HR.out.cells
    clear hv hf hq hr hb0 hb hl hz0
    replace hW0 := Lib.hid hW0
    go_enter Tryz.func42, Tryz.ntmps42
    go_upto_region 1 with fail
    rw [← hW0.out]
    go_wp2_with fail
    refine bodyPost_ret (v := .tuple #[.agg #[v, .bool true], .slice none 0 0]) (by simp [results, Tryz.results42, go_sem, r0, r1]) rfl ?_
    exact ⟨_, _, rfl, rv_end (s' := (l, true)) HV.out HF.out HBY.out HL.out (below_set2 (below_set2 (below_set2 HB0.out (Nat.le_refl _) _ _) (Nat.le_succ _) _ _) (Nat.le_succ _) _ _), brd_nil _, far_nil _, (below_set2 (below_set2 (below_set2 HB0.out (Nat.le_refl _) _ _) (Nat.le_succ _) _ _) (Nat.le_succ _) _ _)⟩
  | false =>
    by_cases hnl : n ≤ l.length
    · rw [rTake_yes hnl]
      have k1 : decide ((n : Int) > (l.length : Int)) = false := decide_eq_false (by omega)
      have k2 : decide ((l.length : Int) < (n : Int)) = false := decide_eq_false (by omega)
      have hbd := byt_drop hb n
      have hld : (l.drop n).length ≤ 1099511627776 := by rw [List.length_drop]; omega
      have HBD := Lib.hid hbd
      have HLD := Lib.hid hld
      clear hbd hld
      rcases hv with ⟨rfl, h2⟩ | ⟨b, off, cap, rfl, h2, h3, h4, h5⟩
      · have hn : n = 0 := by rw [h2] at hnl; simpa using hnl
        subst hn
        have HL0 := Lib.hid h2
        have hlen : (l.length : Int) = 0 := by rw [h2]; rfl
        obtain ⟨c0, c1, f0, f1⟩ := HQ.out.cells
        obtain ⟨r0, r1, e0, e1⟩ := HR.out.cells
        clear hf hq hr hb0 hb hl hz0 h2
        replace hW0 := Lib.hid hW0
        go_enter Tryz.func42, Tryz.ntmps42
        go_upto_region 1 with fail
        rw [← hW0.out]
        go_wp2_with fail
        go_region
        go_wp2_with fail
        refine bodyPost_ret (v := .tuple #[.agg #[.slice none 0 0, .bool false], .slice none 0 0]) (by simp [results, Tryz.results42, go_sem, r0, r1]) rfl ?_
        exact ⟨_, _, rfl, rv_end (s' := (l.drop 0, false)) (by rw [HL0.out]; exact brd_nil _) (far_nil _) HBD.out HLD.out (below_set2 (below_set2 (below_drew HB0.out) (Nat.le_succ _) _ _) (Nat.le_succ _) _ _), by rw [HL0.out]; exact brd_nil _, far_nil _, (below_set2 (below_set2 (below_drew HB0.out) (Nat.le_succ _) _ _) (Nat.le_succ _) _ _)⟩
      · simp only [maxLen] at h3
        have hi1 : (n : Int) ≤ (cap : Int) := by omega
        have hN2 : n ≤ cap := by omega
        clear h5
        by_cases hcn : cap = n
        · have HD := Lib.hid (brd_dropC HV.out hnl hcn)
          have HT := Lib.hid (brd_take HV.out hnl)
          subst hcn
          obtain ⟨c0, c1, f0, f1⟩ := HQ.out.cells
          obtain ⟨r0, r1, e0, e1⟩ := HR.out.cells
          clear hf hq hr hb0 hb hl hz0
          replace hW0 := Lib.hid hW0
          go_enter Tryz.func42, Tryz.ntmps42
          go_upto_region 1 with fail
          rw [← hW0.out]
          go_wp2_with fail
          go_region
          go_wp2_with fail
          refine bodyPost_ret (v := .tuple #[.agg #[.slice (some ⟨b, off, none⟩) 0 0, .bool false], .slice (some ⟨b, off, none⟩) cap cap]) (by simp [results, Tryz.results42, go_sem, r0, r1]) rfl ?_
          exact ⟨_, _, rfl, rv_end (s' := (l.drop cap, false)) HD.out (far_slice HF.out _ _ _) HBD.out HLD.out (below_set2 (below_set2 (below_drew HB0.out) (Nat.le_succ _) _ _) (Nat.le_succ _) _ _), HT.out.later (below_set2 (below_set2 (below_drew HB0.out) (Nat.le_succ _) _ _) (Nat.le_succ _) _ _), far_slice HF.out _ _ _, (below_set2 (below_set2 (below_drew HB0.out) (Nat.le_succ _) _ _) (Nat.le_succ _) _ _)⟩
        · have HD := Lib.hid (brd_drop HV.out hnl)
          have HT := Lib.hid (brd_take HV.out hnl)
          obtain ⟨c0, c1, f0, f1⟩ := HQ.out.cells
          obtain ⟨r0, r1, e0, e1⟩ := HR.out.cells
          clear hf hq hr hb0 hb hl hz0
          replace hW0 := Lib.hid hW0
          go_enter Tryz.func42, Tryz.ntmps42
          go_upto_region 1 with fail
          rw [← hW0.out]
          go_wp2_with fail
          go_region
          go_wp2_with fail
          refine bodyPost_ret (v := .tuple #[.agg #[.slice (some ⟨b, off + n, none⟩) (l.length - n) (cap - n), .bool false], .slice (some ⟨b, off, none⟩) n cap]) (by simp [results, Tryz.results42, go_sem, r0, r1]) rfl ?_
          exact ⟨_, _, rfl, rv_end (s' := (l.drop n, false)) HD.out (far_slice HF.out _ _ _) HBD.out HLD.out (below_set2 (below_set2 (below_drew HB0.out) (Nat.le_succ _) _ _) (Nat.le_succ _) _ _), HT.out.later (below_set2 (below_set2 (below_drew HB0.out) (Nat.le_succ _) _ _) (Nat.le_succ _) _ _), far_slice HF.out _ _ _, (below_set2 (below_set2 (below_drew HB0.out) (Nat.le_succ _) _ _) (Nat.le_succ _) _ _)⟩
    · rw [rTake_no hnl]
      have k1 : decide ((n : Int) > (l.length : Int)) = true := decide_eq_true (by omega)
      have k2 : decide ((l.length : Int) < (n : Int)) = true := decide_eq_true (by omega)
      obtain ⟨A, cap, hvf⟩ := hv.form
      have HVF := Lib.hid hvf
      subst hvf
      obtain ⟨c0, c1, f0, f1⟩ := HQ.out.cells
      obtain ⟨r0, r1, e0, e1⟩ := HR.out.cells
      clear hv hf hq hr hb0 hb hl hz0
      replace hW0 := Lib.hid hW0
      go_enter Tryz.func42, Tryz.ntmps42
      go_upto_region 1 with fail
      rw [← hW0.out]
      go_wp2_with fail
      refine bodyPost_ret (v := .tuple #[.agg #[.slice A l.length cap, .bool true], .slice none 0 0]) (by simp [results, Tryz.results42, go_sem, r0, r1]) rfl ?_
      exact ⟨_, _, rfl, rv_end (s' := (l, true)) HV.out HF.out HBY.out HL.out (below_set2 (below_set2 (below_set2 HB0.out (Nat.le_refl _) _ _) (Nat.le_succ _) _ _) (Nat.le_succ _) _ _), brd_nil _, far_nil _, (below_set2 (below_set2 (below_set2 HB0.out (Nat.le_refl _) _ _) (Nat.le_succ _) _ _) (Nat.le_succ _) _ _)⟩

end Rd
end Go.Proofs.YtcbddebmmaflgaaGreatDoor
namespace Go.Proofs.YtcbddebmmaflgaaGreatDoor
open Go.RowKit
set_option linter.unusedVariables false
set_option linter.unusedSimpArgs false
namespace Rd
open _root_.Go.Proofs.YtcbddebmmaflgaaGreatDoor.Nm (ret_int ret_bool)
open Cn (BRd brd_own)
open Vt (below_drew)
open Ev (take_drop cons_drop)
open _root_.Go.Proofs.YtcbddebmmaflgaaGreatDoor.Bt (ownBlock_slice)

set_option maxRecDepth 100000 in
set_option maxHeartbeats 2000000 in
theorem rrbytes_any (s : St) (x : Value) (w : World) (B : Nat) (hB : B ≤ w.heap.size) (h : RV w B s x) :
    Calls Tryz.prog 45 #[x] w fun r w' => ∃ y v2, r = .returned (.tuple #[y, v2]) ∧ RV w' B (rBytes s).1 y ∧ BRd w' v2 (rBytes s).2 ∧ Far v2 B ∧ Below w.heap.size w w' := by
  obtain ⟨⟨v, rfl, hv, hf⟩, hb, hl⟩ := h
  have HF := Lib.hid hf
  obtain ⟨l, bad⟩ := s
  simp only at *
  obtain ⟨W0, hW0, hq, hr, hb0, hz0⟩ := two_boxes w v bad
  have HV := Lib.hid hv
  have HB := Lib.hid (hv.later hb0)
  have HQ := Lib.hid hq
  have HR := Lib.hid hr
  have HB0 := Lib.hid hb0
  have HBY := Lib.hid hb
  have HL := Lib.hid hl
  have hlt1 : w.heap.size + 1 < W0.heap.size := by omega
  have hlt0 : w.heap.size < W0.heap.size := by omega
  have hst : ∀ W a m, (store a v m).run Tryz.prog W = stored Tryz.prog W a v m := fun W a m => by
    obtain ⟨A, c, rfl⟩ := hv.form
    exact run_store _ W a _ m rfl
  cases bad with
  | true =>
    obtain ⟨X, N, hXN⟩ := numV_form l
    have HN : Hid (Calls Tryz.prog 81 #[v] W0 fun r w' => r = .returned (.tuple #[.int .u64 (X : Nat), .int .i64 (N : Nat)]) ∧ W0 = w') := Lib.hid (by have := number_any v l HBY.out W0 HB.out; rw [hXN] at this; exact this)
    clear hXN
    rw [rBytes_bad]
    obtain ⟨c0, c1, f0, f1⟩ := HQ.out.cells
    obtain ⟨r0, r1, e0, e1⟩ := HR.out.cells
    clear hv hf hq hr hb0 hb hl hz0
    replace hW0 := Lib.hid hW0
    go_enter Tryz.func45, Tryz.ntmps45
    go_upto_region 1 with fail
    rw [← hW0.out]
    go_wp2_with fail
    refine HN.out.mono ?_
    rintro e w1 ⟨rfl, rfl⟩
    go_wp2_with fail
    refine bodyPost_ret (v := .tuple #[.agg #[v, .bool true], .slice none 0 0]) (by simp [results, Tryz.results45, go_sem, r0, r1]) rfl ?_
    exact ⟨_, _, rfl, rv_end (s' := (l, true)) HV.out HF.out HBY.out HL.out (below_set2 (below_set2 (below_set2 HB0.out (Nat.le_refl _) _ _) (Nat.le_succ _) _ _) (Nat.le_succ _) _ _), brd_nil _, far_nil _, (below_set2 (below_set2 (below_set2 HB0.out (Nat.le_refl _) _ _) (Nat.le_succ _) _ _) (Nat.le_succ _) _ _)⟩
  | false =>
    cases hnum : num l with
    | none =>
      have HN : Hid (Calls Tryz.prog 81 #[v] W0 fun r w' => r = .returned (.tuple #[.int .u64 (0), .int .i64 (0)]) ∧ W0 = w') := Lib.hid (by have := number_any v l HBY.out W0 HB.out; rw [hnum] at this; exact this)
      rw [rBytes_none hnum]
      clear hnum
      obtain ⟨c0, c1, f0, f1⟩ := HQ.out.cells
      obtain ⟨r0, r1, e0, e1⟩ := HR.out.cells
      clear hv hf hq hr hb0 hb hl hz0
      replace hW0 := Lib.hid hW0
      go_enter Tryz.func45, Tryz.ntmps45
      go_upto_region 1 with fail
      rw [← hW0.out]
      go_wp2_with fail
      refine HN.out.mono ?_
      rintro e w1 ⟨rfl, rfl⟩
      go_wp2_with fail
      refine bodyPost_ret (v := .tuple #[.agg #[v, .bool true], .slice none 0 0]) (by simp [results, Tryz.results45, go_sem, r0, r1]) rfl ?_
      exact ⟨_, _, rfl, rv_end (s' := (l, true)) HV.out HF.out HBY.out HL.out (below_set2 (below_set2 (below_set2 HB0.out (Nat.le_refl _) _ _) (Nat.le_succ _) _ _) (Nat.le_succ _) _ _), brd_nil _, far_nil _, (below_set2 (below_set2 (below_set2 HB0.out (Nat.le_refl _) _ _) (Nat.le_succ _) _ _) (Nat.le_succ _) _ _)⟩
    | some p =>
      obtain ⟨X, N⟩ := p
      have HN : Hid (Calls Tryz.prog 81 #[v] W0 fun r w' => r = .returned (.tuple #[.int .u64 (X : Nat), .int .i64 (N : Nat)]) ∧ W0 = w') := Lib.hid (by have := number_any v l HBY.out W0 HB.out; rw [hnum] at this; exact this)
      obtain ⟨hX64, -, -, hNl, hN0⟩ := num_some hb hnum
      have hne0 : ((N : Int) == 0) = false := beq_eq_false_iff_ne.2 (by omega)
      obtain ⟨m, hm⟩ : ∃ m, m = l.length - N := ⟨_, rfl⟩
      have hwr : IntKind.u64.wrap ((l.length : Int) - (N : Int)) = (m : Int) := by rw [IntKind.wrap_u64]; omega
      have hw64 : wrap64 ((l.length : Int) - (N : Int)) = (l.length : Int) - (N : Int) := by unfold wrap64; omega
      by_cases hx : X ≤ l.length - N
      · rw [rBytes_take hnum hx]
        have k1 : decide ((X : Int) > (m : Int)) = false := decide_eq_false (by omega)
        have k2 : decide ((m : Int) < (X : Int)) = false := decide_eq_false (by omega)
        have k3 : decide (m < X) = false := decide_eq_false (by omega)
        have hwx : IntKind.i64.wrap (X : Int) = (X : Int) := by rw [IntKind.wrap_i64]; omega
        have hbd := byt_drop hb N
        have hld : (l.drop N).length ≤ 1099511627776 := by rw [List.length_drop]; omega
        have HBD := Lib.hid hbd
        have HLD := Lib.hid hld
        clear hbd hld hnum
        rcases hv with ⟨rfl, h2⟩ | ⟨b, off, cap, rfl, h2, h3, h4, h5⟩
        · rw [h2] at hNl; simp at hNl; omega
        · simp only [maxLen] at h3
          have hi0 : (0 : Int) ≤ (N : Int) := by omega
          have hi1 : (N : Int) ≤ (cap : Int) := by omega
          have hN2 : N ≤ cap := by omega
          clear h5
          have HM := Lib.hid hm
          clear hm
          by_cases hcn : cap = N
          · have HD := Lib.hid (brd_dropC HV.out hNl hcn)
            subst hcn
            have HT := Lib.hid (rrtake_any (l.drop cap, false) X (.agg #[.slice (some ⟨b, off, none⟩) 0 0, .bool false]) W0 B (by omega) ⟨⟨_, rfl, HD.out.later HB0.out, far_slice HF.out _ _ _⟩, HBD.out, HLD.out⟩)
            generalize rTake (l.drop cap, false) X = q at *
            obtain ⟨⟨l1, bad1⟩, l2⟩ := q
            simp only at *
            obtain ⟨c0, c1, f0, f1⟩ := HQ.out.cells
            obtain ⟨r0, r1, e0, e1⟩ := HR.out.cells
            clear hf hq hr hb0 hb hl hz0
            replace hW0 := Lib.hid hW0
            go_enter Tryz.func45, Tryz.ntmps45
            go_upto_region 1 with fail
            rw [← hW0.out]
            go_wp2_with fail
            refine HN.out.mono ?_
            rintro e w1 ⟨rfl, rfl⟩
            go_wp2_with fail
            refine HT.out.mono ?_
            rintro e w2 ⟨y, v2, rfl, ⟨⟨v1, rfl, hv1, hf1⟩, hb1, hl1⟩, hv2, hf2, hbl⟩
            simp only at hv1 hf1 hb1 hl1
            clear c0 c1 f0 f1 r0 r1 e0 e1
            obtain ⟨r0, r1, e0, e1⟩ := (HR.out.later hbl hlt1).cells
            have hlt1w := Nat.lt_of_lt_of_le hlt1 hbl.size
            have hst1 : ∀ W a m, (store a v1 m).run Tryz.prog W = stored Tryz.prog W a v1 m := fun W a m => by
              obtain ⟨A, c, rfl⟩ := hv1.form
              exact run_store _ W a _ m rfl
            have HV1 := Lib.hid hv1
            have HF1 := Lib.hid hf1
            have HBY1 := Lib.hid hb1
            have HL1 := Lib.hid hl1
            have HV2 := Lib.hid hv2
            have HF2 := Lib.hid hf2
            have HB1 := Lib.hid (HB0.out.trans (hbl.mono HB0.out.size))
            clear hv1 hf1 hb1 hl1 hbl hst hv2 hf2
            go_wp2_with fail
            refine bodyPost_ret (v := .tuple #[.agg #[v1, .bool bad1], v2]) (by simp [results, Tryz.results45, go_sem, r0, r1]) rfl ?_
            exact ⟨_, _, rfl, RV.below (w := w2) ⟨⟨v1, rfl, HV1.out, HF1.out⟩, HBY1.out, HL1.out⟩ (below_set2 (below_set2 (Below.refl w.heap.size w2) (Nat.le_succ _) _ _) (Nat.le_succ _) _ _) hB, brd_keep HV2.out (by simp [World.setCell]) (fun k hk => (below_set2 (below_set2 (Below.refl w.heap.size w2) (Nat.le_succ _) _ _) (Nat.le_succ _) _ _).block k (by have := HF2.out k hk; omega)), HF2.out, below_set2 (below_set2 HB1.out (Nat.le_succ _) _ _) (Nat.le_succ _) _ _⟩
          · have HD := Lib.hid (brd_drop HV.out hNl)
            have HT := Lib.hid (rrtake_any (l.drop N, false) X (.agg #[.slice (some ⟨b, off + N, none⟩) (l.length - N) (cap - N), .bool false]) W0 B (by omega) ⟨⟨_, rfl, HD.out.later HB0.out, far_slice HF.out _ _ _⟩, HBD.out, HLD.out⟩)
            generalize rTake (l.drop N, false) X = q at *
            obtain ⟨⟨l1, bad1⟩, l2⟩ := q
            simp only at *
            obtain ⟨c0, c1, f0, f1⟩ := HQ.out.cells
            obtain ⟨r0, r1, e0, e1⟩ := HR.out.cells
            clear hf hq hr hb0 hb hl hz0
            replace hW0 := Lib.hid hW0
            go_enter Tryz.func45, Tryz.ntmps45
            go_upto_region 1 with fail
            rw [← hW0.out]
            go_wp2_with fail
            refine HN.out.mono ?_
            rintro e w1 ⟨rfl, rfl⟩
            go_wp2_with fail
            refine HT.out.mono ?_
            rintro e w2 ⟨y, v2, rfl, ⟨⟨v1, rfl, hv1, hf1⟩, hb1, hl1⟩, hv2, hf2, hbl⟩
            simp only at hv1 hf1 hb1 hl1
            clear c0 c1 f0 f1 r0 r1 e0 e1
            obtain ⟨r0, r1, e0, e1⟩ := (HR.out.later hbl hlt1).cells
            have hlt1w := Nat.lt_of_lt_of_le hlt1 hbl.size
            have hst1 : ∀ W a m, (store a v1 m).run Tryz.prog W = stored Tryz.prog W a v1 m := fun W a m => by
              obtain ⟨A, c, rfl⟩ := hv1.form
              exact run_store _ W a _ m rfl
            have HV1 := Lib.hid hv1
            have HF1 := Lib.hid hf1
            have HBY1 := Lib.hid hb1
            have HL1 := Lib.hid hl1
            have HV2 := Lib.hid hv2
            have HF2 := Lib.hid hf2
            have HB1 := Lib.hid (HB0.out.trans (hbl.mono HB0.out.size))
            clear hv1 hf1 hb1 hl1 hbl hst hv2 hf2
            go_wp2_with fail
            refine bodyPost_ret (v := .tuple #[.agg #[v1, .bool bad1], v2]) (by simp [results, Tryz.results45, go_sem, r0, r1]) rfl ?_
            exact ⟨_, _, rfl, RV.below (w := w2) ⟨⟨v1, rfl, HV1.out, HF1.out⟩, HBY1.out, HL1.out⟩ (below_set2 (below_set2 (Below.refl w.heap.size w2) (Nat.le_succ _) _ _) (Nat.le_succ _) _ _) hB, brd_keep HV2.out (by simp [World.setCell]) (fun k hk => (below_set2 (below_set2 (Below.refl w.heap.size w2) (Nat.le_succ _) _ _) (Nat.le_succ _) _ _).block k (by have := HF2.out k hk; omega)), HF2.out, below_set2 (below_set2 HB1.out (Nat.le_succ _) _ _) (Nat.le_succ _) _ _⟩
      · rw [rBytes_far hnum hx]
        have k1 : decide ((X : Int) > (m : Int)) = true := decide_eq_true (by omega)
        have k2 : decide ((m : Int) < (X : Int)) = true := decide_eq_true (by omega)
        have k3 : decide (m < X) = true := decide_eq_true (by omega)
        clear hnum
        obtain ⟨A, cap, hvf⟩ := hv.form
        have HM := Lib.hid hm
        clear hm
        subst hvf
        obtain ⟨c0, c1, f0, f1⟩ := HQ.out.cells
        obtain ⟨r0, r1, e0, e1⟩ := HR.out.cells
        clear hv hf hq hr hb0 hb hl hz0
        replace hW0 := Lib.hid hW0
        go_enter Tryz.func45, Tryz.ntmps45
        go_upto_region 1 with fail
        rw [← hW0.out]
        go_wp2_with fail
        refine HN.out.mono ?_
        rintro e w1 ⟨rfl, rfl⟩
        go_wp2_with fail
        refine bodyPost_ret (v := .tuple #[.agg #[.slice A l.length cap, .bool true], .slice none 0 0]) (by simp [results, Tryz.results45, go_sem, r0, r1]) rfl ?_
        exact ⟨_, _, rfl, rv_end (s' := (l, true)) HV.out HF.out HBY.out HL.out (below_set2 (below_set2 (below_set2 HB0.out (Nat.le_refl _) _ _) (Nat.le_succ _) _ _) (Nat.le_succ _) _ _), brd_nil _, far_nil _, (below_set2 (below_set2 (below_set2 HB0.out (Nat.le_refl _) _ _) (Nat.le_succ _) _ _) (Nat.le_succ _) _ _)⟩

end Rd
end Go.Proofs.YtcbddebmmaflgaaGreatDoor
namespace Go.Proofs.YtcbddebmmaflgaaGreatDoor
open Go.RowKit
set_option linter.unusedVariables false
set_option linter.unusedSimpArgs false
namespace Rd
open Vt (VT Rep BoxAt below_drew put5 KidsAt HeadOk)
open Cn (VsAt VNew)
open Cm (OnlyAt rowOf)

theorem box_only {w w' : World} {g b : Nat} {k n : Int} {f : Nat} {s : ByteArray} {A : Option Addr} {m c : Nat} (h : BoxAt w b k n f s A m c) (ho : OnlyAt w w' g none) (hg : b ≠ g) : BoxAt w' b k n f s A m c :=
  (ho.block b h.lt hg (by simp)).trans h
theorem only_set {w W : World} {g b o : Nat} (h : OnlyAt w W g none) (hb : w.heap.size ≤ b) (v : Value) : OnlyAt w (W.setCell ⟨b, o, none⟩ v) g none :=
  ⟨h.os, h.tape, h.output, by simpa [World.setCell] using h.size, fun x hx h1 h2 => (Below.heap_setCell W ⟨b, o, none⟩ v x (by simp only []; omega)).trans (h.block x hx h1 h2)⟩
theorem only_alloc {w W : World} {g : Nat} (h : OnlyAt w W g none) (o : Obj) : OnlyAt w (W.alloc o) g none :=
  ⟨h.os, h.tape, h.output, by rw [World.size_alloc]; have := h.size; omega, fun x hx h1 h2 => (heap_alloc_old W o (Nat.lt_of_lt_of_le hx h.size)).trans (h.block x hx h1 h2)⟩
theorem only_put5 {w W : World} {g b o : Nat} (h : OnlyAt w W g none) (hb : w.heap.size ≤ b) (d0 d1 d2 d3 d4 : Value) : OnlyAt w (put5 W b o d0 d1 d2 d3 d4) g none := by
  unfold put5
  exact only_set (only_set (only_set (only_set (only_set h hb _) hb _) hb _) hb _) hb _
theorem rs_set {W : World} {g b o : Nat} {s : St} (h : RS W g s) (hb : g < b) (v : Value) : RS (W.setCell ⟨b, o, none⟩ v) g s :=
  h.frame (by simp [World.setCell]) fun x hx => Below.heap_setCell W ⟨b, o, none⟩ v x (by simp only []; omega)
theorem rs_put5 {W : World} {g b o : Nat} {s : St} (h : RS W g s) (hb : g < b) (d0 d1 d2 d3 d4 : Value) : RS (put5 W b o d0 d1 d2 d3 d4) g s := by
  unfold put5
  exact rs_set (rs_set (rs_set (rs_set (rs_set h hb _) hb _) hb _) hb _) hb _
theorem rs_alloc {W : World} {g : Nat} {s : St} (h : RS W g s) (o : Obj) : RS (W.alloc o) g s := h.later ((Below.refl _ _).alloc (Nat.le_refl _) _)
theorem vs_only {W W' : World} {base g : Nat} {A : Option Addr} {cap n : Nat} {ts : List VT} (h : VsAt W base A cap n ts) (ho : OnlyAt W W' g none) (hg : g < base) : VsAt W' base A cap n ts := by
  obtain ⟨h0, xs, h1, h3⟩ := h
  refine ⟨h0, xs, ⟨h1.1, ?_⟩, fun i hi => ?_⟩
  · rcases h1.2 with h | ⟨r, cp, cur, q1, q2, q3, q4⟩
    · exact .inl h
    · exact .inr ⟨r, cp, cur, q1, q2, (ho.block r (Array.getElem?_eq_some_iff.1 q3).1 (by omega) (by simp)).trans q3, q4⟩
  · obtain ⟨lo, hi', k, n, f, s, A, m, c, k0, k1, k2, k3, k4⟩ := h3 i hi
    refine ⟨lo, hi', k, n, f, s, A, m, c, k0, Nat.le_trans k1 ho.size, k2.keep fun b o hb1 hb2 => ?_, k3, k4⟩
    exact World.cell?_of_block (a := ⟨b, o, none⟩) (ho.block b (by omega) (by omega) (by simp))

/-- The zero value, and a value's five cells. -/
def zeroC : Value := .agg #[.int .i64 0, .int .i64 0, .float .f64 0, .string ⟨#[]⟩, .slice none 0 0]
def fiveC (k n : Int) (f : Nat) (s : ByteArray) (A : Option Addr) (m c : Nat) : Value := .agg #[.int .i64 k, .int .i64 n, .float .f64 f, .string s, .slice A m c]
/-- What reading a value leaves. -/
def VRead (left : Nat) (s : St) (w : World) (g : Nat) (r : Ending) (w' : World) : Prop := match pv left s with
  | some (s', t) => ∃ k n f str A m c, r = .returned (.tuple #[fiveC k n f str A m c, .bool true]) ∧ Rep w' w.heap.size w'.heap.size t (fiveC k n f str A m c) ∧ RS w' g s' ∧ OnlyAt w w' g none
  | none => r = .returned (.tuple #[zeroC, .bool false]) ∧ (∃ s', RS w' g s') ∧ OnlyAt w w' g none
theorem vread_no {left : Nat} {s s' : St} {w w' : World} {g : Nat} (h : pv left s = none) (hr : RS w' g s') (ho : OnlyAt w w' g none) : VRead left s w g (.returned (.tuple #[.agg #[.int .i64 0, .int .i64 0, .float .f64 0, .string ⟨#[]⟩, .slice none 0 0], .bool false])) w' := by
  unfold VRead; rw [h]; exact ⟨rfl, ⟨s', hr⟩, ho⟩
theorem vread_yes {left : Nat} {s s' : St} {w w' : World} {g : Nat} {t : VT} {k n : Int} {f : Nat} {str : ByteArray} {A : Option Addr} {m c : Nat} (h : pv left s = some (s', t)) (hrep : Rep w' w.heap.size w'.heap.size t (.agg #[.int .i64 k, .int .i64 n, .float .f64 f, .string str, .slice A m c])) (hr : RS w' g s') (ho : OnlyAt w w' g none) :
    VRead left s w g (.returned (.tuple #[.agg #[.int .i64 k, .int .i64 n, .float .f64 f, .string str, .slice A m c], .bool true])) w' := by
  unfold VRead; rw [h]; exact ⟨k, n, f, str, A, m, c, rfl, hrep, hr, ho⟩
theorem rep_leaf {w : World} {lo hi : Nat} {k n : Int} {f : Nat} {s : ByteArray} (h : HeadOk k n f s 0) : Rep w lo hi (.mk k n f s []) (.agg #[.int .i64 k, .int .i64 n, .float .f64 f, .string s, .slice none 0 0]) :=
  Rep.close (A := none) (cap := 0) h (Nat.le_refl _) ⟨fun hp => absurd hp (by simp)⟩
end Rd
end Go.Proofs.YtcbddebmmaflgaaGreatDoor
