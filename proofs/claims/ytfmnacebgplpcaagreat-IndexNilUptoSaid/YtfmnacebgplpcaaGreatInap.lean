/- The reference's outside: a timer fired. -/
import Derived.Laws.Rows
import Derived.Laws.IdiomRangeMap
import Derived.Test.YtfmnacebgplpcaaGreatInan
import Derived.Test.YtfmnacebgplpcaaGreatInao
import Derived.Test.YtfmnacebgplpcaaGreatInam
set_option maxRecDepth 100000
set_option maxHeartbeats 4000000
variable {p : Prop}
set_option linter.unusedVariables false
set_option linter.unusedSimpArgs false
open Go.RowKit
namespace Go.Proofs.YtfmnacebgplpcaaGreat
namespace Hi
open _root_.Go.Proofs.YtfmnacebgplpcaaGreat.Nm (Ds Df)
open Vt (VT Rep Da Fc Fb)
open Ev (EV Dk Dc Dn EBox Dy tk ap rd1 rd2 Dj)
open Cm (Dl EvsIn)
open Cn (BT BB BtsIn Gg)
variable {X X' Y Y' : Nat → Prop} {u v w w' V V' : World} {hb bt bm bk n cap : Nat} {A : Option Addr} {h : HM}
theorem Sj : ∀ (l : List (Nat × Nat)) (j : Nat), (l.flatMap DS).take (j * 2) = (l.take j).flatMap DS
 | [], j => by simp
 | x :: l, 0 => by simp
 | x :: l, j + 1 => by
  rw [List.flatMap_cons, List.take_succ_cons, List.flatMap_cons, ← Sj l j, Nat.succ_mul, List.take_append, Ff, List.take_of_length_le (by rw [Ff]; omega), Nat.add_sub_cancel]
theorem JX : ∀ (l : List (Nat × Nat)) (j : Nat), (l.flatMap DS).drop (j * 2) = (l.drop j).flatMap DS
 | [], j => by simp
 | x :: l, 0 => by simp
 | x :: l, j + 1 => by
  rw [List.flatMap_cons, List.drop_succ_cons, ← JX l j, Nat.succ_mul, List.drop_append, Ff, List.drop_of_length_le (by rw [Ff]; omega), Nat.add_sub_cancel, List.nil_append]
theorem Q560.Y559 (h : p := by
 clear hHeldZ cx fx
 exact Y434) : p := h
theorem M434 (h : p := by
 obtain ⟨Ar, cr, rfl, hbr⟩ := Fj hown
 have HOF := Lib.hid hown; have HBRF := Lib.hid hbr
 have HBF : Hid (Below u0.heap.size u0 cF) := Lib.hid (DD HB0A.out hgr (fun r hr => (own1_0A.out.lt r hr).1) HB0A.out.size)
 clear hown hgr hbr
 refine hK.out _ _ (HKS.out _ HBF.out) (fun hH01ABL => ?_)
 clear hK K hH01AL
 try simp only [ap]
 refine tk 12 rfl ?_
 obtain ⟨cx, fx⟩ := HCX.out cF HBF.out
 refine rd1 13 rfl fun K hK => ?_
 open Q560 in exact M559) : p := h
theorem M546 (h : p := by
 have hq6 : RX w6 (w.heap.size + 1 + 1) ⟨#[]⟩ (.slice none 0 0) 0 0 (.slice none 0 0) (.slice none 0 0) (.slice none 0 0) := by rw [hw6]; exact (HX.out cF hbF1).2.2.1.far (by omega)
 have HB6 : Hid (Below w.heap.size w w6) := Lib.hid (by rw [hw6]; exact (HBW.out cF hbF1).setCell (p := ⟨w.heap.size, 6, none⟩) (Nat.le_refl _) _)
 have HW6 := Lib.hid hw6
 obtain ⟨x0, x1, x2, x3, x4, x5, x6, xf⟩ := hx6.cells
 exact Y546) : p := h
theorem Q258.Y251 (h : p := by
 clear qf xf hx6 hq6 hbF1
 rw [← hw6]
 clear hw6
 go_wp2_with fail
 refine bodyPost_ret (v := .tuple #[.agg #[.string f, .slice Bu nu cu, .int .i64 s.closed, .int .u64 (s.next : Nat), .slice Ak nk ck, .slice Aq nt ct, .slice Ar (j + (N - (j + 1))) cr], .bool true]) (by simp [results, Tryz.results66, go_sem, q0, q1, q2, q3, q4, q5, q6]) rfl ?_
 obtain ⟨W7, hW7⟩ : ∃ W7, W7 = ((((((w6.setCell ⟨w.heap.size + 1 + 1, 0, none⟩ (.string f)).setCell ⟨w.heap.size + 1 + 1, 1, none⟩ (.slice Bu nu cu)).setCell ⟨w.heap.size + 1 + 1, 2, none⟩ (.int .i64 s.closed)).setCell ⟨w.heap.size + 1 + 1, 3, none⟩ (.int .u64 (s.next : Nat))).setCell ⟨w.heap.size + 1 + 1, 4, none⟩ (.slice Ak nk ck)).setCell ⟨w.heap.size + 1 + 1, 5, none⟩ (.slice Aq nt ct)).setCell ⟨w.heap.size + 1 + 1, 6, none⟩ (.slice Ar (j + (N - (j + 1))) cr) := ⟨_, rfl⟩
 rw [← hW7]
 exact HOUT.out cF w6 W7 Ar cr (j + (N - (j + 1))) (by omega) HOF.out HBRF.out HBF.out HW6.out HB6.out hW7) : p := h
theorem Q548.Y546 (h : p := by
 obtain ⟨q0, q1, q2, q3, q4, q5, q6, qf⟩ := hq6.cells
 open Q258 in exact Ow) : p := h
theorem Q436.Y434 (h : p := by
 obtain ⟨w6, hw6⟩ : ∃ w6, w6 = cF.setCell ⟨w.heap.size, 6, none⟩ (.slice Ar (j + (N - (j + 1))) cr) := ⟨_, rfl⟩
 have hbF1 : Below W1.heap.size W1 cF := HBu1.out _ HBF.out
 have hx6 : RX w6 w.heap.size f (.slice Bu nu cu) s.closed s.next (.slice Ak nk ck) (.slice Aq nt ct) (.slice Ar (j + (N - (j + 1))) cr) := by rw [hw6]; exact (HX.out cF hbF1).1.set6
 open Q548 in exact M546) : p := h
theorem M3 (h : p := by
 refine rd1 11 rfl fun K hK => ?_
 refine Dr zw0A rfl _ _ 50 89 rfl i0 _ 2 16 Tryz.underlying50 HSZ.out hi0 hz0 hz1 hz2 rfl (by decide) u0.heap.size v1 (.slice (some ⟨mb, mo + (j + 1) * 2, none⟩) (N - (j + 1)) (cm - (j + 1))) j (N - (j + 1)) (xs.take (j * 2)) (xs.drop ((j + 1) * 2)) rfl rfl own1_0A.out (HIN2.out _ HB0A.out) (by simp only [maxLen]; omega) (by omega) HB0A.out.size ?_
 intro vF cF hown hgr
 open Q436 in exact M434) : p := h
theorem Q256.Y251 (h : p := by
 clear qf xf hx6 hq6 hbF1
 rw [← hw6]
 clear hw6
 go_wp2_with fail
 refine bodyPost_ret (v := .tuple #[.agg #[.string f, .slice Bu nu cu, .int .i64 s.closed, .int .u64 (s.next : Nat), .slice Ak nk ck, .slice Aq nt ct, .slice Ar j cr], .bool true]) (by simp [results, Tryz.results66, go_sem, q0, q1, q2, q3, q4, q5, q6]) rfl ?_
 obtain ⟨W7, hW7⟩ : ∃ W7, W7 = ((((((w6.setCell ⟨w.heap.size + 1 + 1, 0, none⟩ (.string f)).setCell ⟨w.heap.size + 1 + 1, 1, none⟩ (.slice Bu nu cu)).setCell ⟨w.heap.size + 1 + 1, 2, none⟩ (.int .i64 s.closed)).setCell ⟨w.heap.size + 1 + 1, 3, none⟩ (.int .u64 (s.next : Nat))).setCell ⟨w.heap.size + 1 + 1, 4, none⟩ (.slice Ak nk ck)).setCell ⟨w.heap.size + 1 + 1, 5, none⟩ (.slice Aq nt ct)).setCell ⟨w.heap.size + 1 + 1, 6, none⟩ (.slice Ar j cr) := ⟨_, rfl⟩
 rw [← hW7]
 exact HOUT.out cF w6 W7 Ar cr j (by omega) HOF.out HBRF.out HBF.out HW6.out HB6.out hW7) : p := h
theorem Q547.Y546 (h : p := by
 obtain ⟨q0, q1, q2, q3, q4, q5, q6, qf⟩ := hq6.cells
 open Q256 in exact Ow) : p := h
theorem Q435.Y434 (h : p := by
 obtain ⟨w6, hw6⟩ : ∃ w6, w6 = cF.setCell ⟨w.heap.size, 6, none⟩ (.slice Ar j cr) := ⟨_, rfl⟩
 have hbF1 : Below W1.heap.size W1 cF := HBu1.out _ HBF.out
 have hx6 : RX w6 w.heap.size f (.slice Bu nu cu) s.closed s.next (.slice Ak nk ck) (.slice Aq nt ct) (.slice Ar j cr) := by rw [hw6]; exact (HX.out cF hbF1).1.set6
 open Q547 in exact M546) : p := h
theorem M8 (h : p := by
 refine rd1 11 rfl fun K hK => ?_
 refine Dr zw0A rfl _ _ 50 89 rfl i0 _ 2 16 Tryz.underlying50 HSZ.out hi0 hz0 hz1 hz2 rfl (by decide) u0.heap.size v1 (.slice (some ⟨mb, mo, none⟩) 0 0) j 0 (xs.take (j * 2)) (xs.drop ((j + 1) * 2)) rfl rfl own1_0A.out (HIN2.out _ HB0A.out) (by simp only [maxLen]; omega) (by omega) HB0A.out.size ?_
 intro vF cF hown hgr
 rw [Nat.add_zero] at hown
 open Q435 in exact M434) : p := h
theorem Q478.Y477 (h : p := by
 refine hK.out _ _ (HKS.out _ HB0A.out) (fun hH01AL => ?_)
 clear hK K hH01L
 try simp only [ap]
 exact M8) : p := h
theorem M21 (h : p := by
 refine rd1 5 rfl fun K hK => ?_
 refine Dr zw0 rfl _ _ 50 89 rfl i0 _ 2 16 Tryz.underlying50 HSZ.out hi0 hz0 hz1 hz2 rfl (by decide) u0.heap.size (.slice (some ⟨ia, 0, none⟩) 0 0) (.slice (some ⟨mb, mo, none⟩) j (j + 1)) 0 j [] (xs.take (j * 2)) rfl rfl own0_0.out (HIN.out _ HB0.out) (by simp only [maxLen]; omega) (by omega) HB0.out.size ?_
 open Q478 in exact M477) : p := h
theorem Q479.Y477 (h : p := by
 refine hK.out _ _ (HKS.out _ HB0A.out) (fun hH01AL => ?_)
 clear hK K hH01L
 try simp only [ap]
 exact M3) : p := h
theorem M25 (h : p := by
 refine rd1 5 rfl fun K hK => ?_
 refine Dr zw0 rfl _ _ 50 89 rfl i0 _ 2 16 Tryz.underlying50 HSZ.out hi0 hz0 hz1 hz2 rfl (by decide) u0.heap.size (.slice (some ⟨ia, 0, none⟩) 0 0) (.slice (some ⟨mb, mo, none⟩) j cm) 0 j [] (xs.take (j * 2)) rfl rfl own0_0.out (HIN.out _ HB0.out) (by simp only [maxLen]; omega) (by omega) HB0.out.size ?_
 open Q479 in exact M477) : p := h
theorem Q326.Y324 (h : p := by
 refine rd1 7 rfl fun K hK => ?_
 obtain ⟨cx, -⟩ := HCX.out zw0A HB0A.out
 go_simp
 refine hK.out _ _ (HKS.out _ HB0A.out) (fun hH01AL => ?_)
 clear hK K hH0AL
 try simp only [ap]
 clear cx
 refine tk 10 rfl ?_
 exact M8) : p := h
theorem M41 (h : p := by
 refine rd2 5 7 rfl rfl (fun K hK => ?_) fun K hK => ?_
 ·refine Dr zw0 rfl _ _ 50 89 rfl i0 _ 2 16 Tryz.underlying50 HSZ.out hi0 hz0 hz1 hz2 rfl (by decide) u0.heap.size (.slice (some ⟨ia, 0, none⟩) 0 0) (.slice (some ⟨mb, mo, none⟩) j (j + 1)) 0 j [] (xs.take (j * 2)) rfl rfl own0_0.out (HIN.out _ HB0.out) (by simp only [maxLen]; omega) (by omega) HB0.out.size ?_
  open Q326 in exact LR
 ·obtain ⟨cx, -⟩ := HCX.out zw0 HB0.out
  go_simp
  refine hK.out _ _ (HKS.out _ HB0.out) (fun hH01L => ?_)
  clear hK K hH0L
  try simp only [ap]
  clear cx
  refine tk 10 rfl ?_
  exact M21) : p := h
theorem Q327.Y324 (h : p := by
 refine rd1 7 rfl fun K hK => ?_
 obtain ⟨cx, -⟩ := HCX.out zw0A HB0A.out
 go_simp
 refine hK.out _ _ (HKS.out _ HB0A.out) (fun hH01AL => ?_)
 clear hK K hH0AL
 try simp only [ap]
 clear cx
 refine tk 10 rfl ?_
 exact M3) : p := h
theorem M65 (h : p := by
 refine rd2 5 7 rfl rfl (fun K hK => ?_) fun K hK => ?_
 ·refine Dr zw0 rfl _ _ 50 89 rfl i0 _ 2 16 Tryz.underlying50 HSZ.out hi0 hz0 hz1 hz2 rfl (by decide) u0.heap.size (.slice (some ⟨ia, 0, none⟩) 0 0) (.slice (some ⟨mb, mo, none⟩) j cm) 0 j [] (xs.take (j * 2)) rfl rfl own0_0.out (HIN.out _ HB0.out) (by simp only [maxLen]; omega) (by omega) HB0.out.size ?_
  open Q327 in exact LR
 ·obtain ⟨cx, -⟩ := HCX.out zw0 HB0.out
  go_simp
  refine hK.out _ _ (HKS.out _ HB0.out) (fun hH01L => ?_)
  clear hK K hH0L
  try simp only [ap]
  clear cx
  refine tk 10 rfl ?_
  exact M25) : p := h
theorem Q314.Y311 (h : p := by
 have own0_0 : Hid (zw0.ownsRow u0.heap.size 89 2 (.slice (some ⟨ia, 0, none⟩) 0 0) 0 []) := Lib.hid (by rw [hc0, hia]; exact World.ownsRow_lit u0 #[] 0 HBu.out.size (Nat.zero_le _) (by simp))
 clear hbz
 replace hc0 := Lib.hid hc0
 replace hia := Lib.hid hia
 exact Y216) : p := h
theorem Uw (h : p := by
 go_simp
 obtain ⟨zw0, hc0⟩ : ∃ u, u = u0.alloc (.cells #[] 89) := ⟨_, rfl⟩
 open Q314 in exact JH) : p := h
theorem Q217.Y216 (h : p := by
 refine hK.out _ _ (HKS.out _ HB0.out) (fun hH01L => ?_)
 clear hK K hH1L
 try simp only [ap]
 exact M25) : p := h
theorem M73 (h : p := by
 refine rd1 0 rfl fun K hK => ?_
 open Q217 in exact Uw) : p := h
theorem Q218.Y216 (h : p := by
 refine hK.out _ _ (HKS.out _ HB0.out) (fun hH01L => ?_)
 clear hK K hH1L
 try simp only [ap]
 exact M21) : p := h
theorem M80 (h : p := by
 refine rd1 0 rfl fun K hK => ?_
 open Q218 in exact Uw) : p := h
theorem M96 (h : p := by
 go_upto_region 27 with fail
 go_quiet (fail)
 generalize hw2 : wr.drewN nq = w2 at *
 have HQ2 : Hid (Below W1.heap.size W1 w2) := Lib.hid (by rw [← hw2]; exact below_drewN HB.out nq)
 clear hw2
 go_wp2_with fail
 go_roundw
 case rel => exact ⟨j + 1, by omega, by go_num, HROUND.out, HQ2.out⟩
 case measure => simp [intOf]; omega) : p := h
theorem M114 (h : p := by
 refine rd1 2 rfl fun K hK => ?_
 obtain ⟨cx, -⟩ := HCX.out zw0 HB0.out
 go_simp
 refine hK.out _ _ (HKS.out _ HB0.out) (fun hH01L => ?_)
 clear hK K hH01
 try simp only [ap]
 clear cx
 refine tk 4 rfl ?_
 exact M25) : p := h
theorem M121 (h : p := by
 refine rd1 2 rfl fun K hK => ?_
 obtain ⟨cx, -⟩ := HCX.out zw0 HB0.out
 go_simp
 refine hK.out _ _ (HKS.out _ HB0.out) (fun hH01L => ?_)
 clear hK K hH01
 try simp only [ap]
 clear cx
 refine tk 4 rfl ?_
 exact M21) : p := h
theorem Q551.Y549 (h : p := by
 clear cx
 refine tk 4 rfl ?_
 exact M41) : p := h
theorem Q219.Y216 (h : p := by
 refine hK.out _ _ (HKS.out _ HB0.out) (fun hH0 => ?_)
 clear hK K hHeld
 try simp only [ap]
 refine rd2 2 7 rfl rfl (fun K hK => ?_) fun K hK => ?_
 ·open Q551 in exact LO
 ·obtain ⟨cx, -⟩ := HCX.out zw0 HB0.out
  go_simp
  refine hK.out _ _ (HKS.out _ HB0.out) (fun hH01 => ?_)
  clear hK K hH0
  try simp only [ap]
  clear cx
  refine tk 10 rfl ?_
  exact M121) : p := h
theorem Q220.Y216 (h : p := by
 refine hK.out _ _ (HKS.out _ HB0.out) (fun hH0L => ?_)
 clear hK K hHL
 try simp only [ap]
 exact M41) : p := h
theorem Q523.Y521 (h : p := by
 refine tk 4 rfl ?_
 refine rd2 0 7 rfl rfl (fun K hK => ?_) fun K hK => ?_
 ·open Q220 in exact Uw
 ·obtain ⟨cx, -⟩ := HCX.out u0 HBu.out
  go_simp
  refine hK.out _ _ (HKS.out _ HBu.out) (fun hH1L => ?_)
  clear hK K hHL
  try simp only [ap]
  clear cx
  refine tk 10 rfl ?_
  exact M80) : p := h
theorem Q221.Y216 (h : p := by
 refine hK.out _ _ (HKS.out _ HB0.out) (fun hH01 => ?_)
 clear hK K hH1
 try simp only [ap]
 exact M121) : p := h
theorem Q571.Y569 (h : p := by
 refine tk 3 rfl ?_
 refine tk 6 rfl ?_
 refine tk 8 rfl ?_
 refine tk 9 rfl ?_
 refine wpAnyH_ready (rs := [0, 2, 7]) (by kernel_rfl) (by simp) ?_
 refine Dj rfl (fun K hK => ?_) (Dj rfl (fun K hK => ?_) (Dj rfl (fun K hK => ?_) AllReadyH.nil))
 ·open Q219 in exact Uw
 ·open Q523 in exact LP
 ·obtain ⟨cx, -⟩ := HCX.out u0 HBu.out
  go_simp
  refine hK.out _ _ (HKS.out _ HBu.out) (fun hH1 => ?_)
  clear hK K hHeld
  try simp only [ap]
  clear cx
  refine tk 10 rfl ?_
  refine rd2 0 2 rfl rfl (fun K hK => ?_) fun K hK => ?_
  ·open Q221 in exact Uw
  ·obtain ⟨cx, -⟩ := HCX.out u0 HBu.out
   go_simp
   refine hK.out _ _ (HKS.out _ HBu.out) (fun hH1L => ?_)
   clear hK K hH1
   try simp only [ap]
   clear cx
   refine tk 4 rfl ?_
   exact M80) : p := h
theorem Q552.Y549 (h : p := by
 clear cx
 refine tk 4 rfl ?_
 exact M65) : p := h
theorem Q222.Y216 (h : p := by
 refine hK.out _ _ (HKS.out _ HB0.out) (fun hH0 => ?_)
 clear hK K hHeld
 try simp only [ap]
 refine rd2 2 7 rfl rfl (fun K hK => ?_) fun K hK => ?_
 ·open Q552 in exact LO
 ·obtain ⟨cx, -⟩ := HCX.out zw0 HB0.out
  go_simp
  refine hK.out _ _ (HKS.out _ HB0.out) (fun hH01 => ?_)
  clear hK K hH0
  try simp only [ap]
  clear cx
  refine tk 10 rfl ?_
  exact M114) : p := h
theorem Q223.Y216 (h : p := by
 refine hK.out _ _ (HKS.out _ HB0.out) (fun hH0L => ?_)
 clear hK K hHL
 try simp only [ap]
 exact M65) : p := h
theorem Q524.Y521 (h : p := by
 refine tk 4 rfl ?_
 refine rd2 0 7 rfl rfl (fun K hK => ?_) fun K hK => ?_
 ·open Q223 in exact Uw
 ·obtain ⟨cx, -⟩ := HCX.out u0 HBu.out
  go_simp
  refine hK.out _ _ (HKS.out _ HBu.out) (fun hH1L => ?_)
  clear hK K hHL
  try simp only [ap]
  clear cx
  refine tk 10 rfl ?_
  exact M73) : p := h
theorem Q224.Y216 (h : p := by
 refine hK.out _ _ (HKS.out _ HB0.out) (fun hH01 => ?_)
 clear hK K hH1
 try simp only [ap]
 exact M114) : p := h
theorem Q572.Y569 (h : p := by
 refine tk 3 rfl ?_
 refine tk 6 rfl ?_
 refine tk 8 rfl ?_
 refine tk 9 rfl ?_
 refine wpAnyH_ready (rs := [0, 2, 7]) (by kernel_rfl) (by simp) ?_
 refine Dj rfl (fun K hK => ?_) (Dj rfl (fun K hK => ?_) (Dj rfl (fun K hK => ?_) AllReadyH.nil))
 ·open Q222 in exact Uw
 ·open Q524 in exact LP
 ·obtain ⟨cx, -⟩ := HCX.out u0 HBu.out
  go_simp
  refine hK.out _ _ (HKS.out _ HBu.out) (fun hH1 => ?_)
  clear hK K hHeld
  try simp only [ap]
  clear cx
  refine tk 10 rfl ?_
  refine rd2 0 2 rfl rfl (fun K hK => ?_) fun K hK => ?_
  ·open Q224 in exact Uw
  ·obtain ⟨cx, -⟩ := HCX.out u0 HBu.out
   go_simp
   refine hK.out _ _ (HKS.out _ HBu.out) (fun hH1L => ?_)
   clear hK K hH1
   try simp only [ap]
   clear cx
   refine tk 4 rfl ?_
   exact M73) : p := h
theorem Q501.Y499 (h : p := by
 have HKS2 : Hid (∀ W v, Below u0.heap.size u0 W → (fun W : World => W.cell? ⟨w.heap.size + 3, 5, none⟩ = some (.string text)) (W.setCell ⟨w.heap.size, 6, none⟩ v)) := Lib.hid fun W v hW => (World.cell?_of_block (a := ⟨w.heap.size + 3, 5, none⟩) (RowKit.Below.heap_setCell _ _ _ _ (by show w.heap.size + 3 ≠ w.heap.size; omega))).trans (HKS.out W hW)
 have HCX : Hid (∀ W, Below u0.heap.size u0 W → W.cell? ⟨w.heap.size, 6, none⟩ = some (.slice (some ⟨mb, mo, none⟩) N cm) ∧ W.frozen? ⟨w.heap.size, 6, none⟩ = false) := Lib.hid fun W hW => ⟨(HX.out W (HBu1.out W hW)).1.cells.2.2.2.2.2.2.1, (HX.out W (HBu1.out W hW)).1.cells.2.2.2.2.2.2.2 6⟩
 have HL2 : Hid (xs.length = N * 2) := Lib.hid (by rw [HNN.out]; exact HLEN.out)
 have HC : Hid (∀ W, Below u0.heap.size u0 W → ∀ p x, xs[p]? = some x → W.cell? ⟨mb, mo + p, none⟩ = some x) := Lib.hid fun W hW p x hx => ((HBW.out W (HBu1.out W hW)).cell (p := ⟨mb, mo + p, none⟩) hmb).trans (h39 p x hx)
 have HMB : Hid (∀ W, Below u0.heap.size u0 W → mb < W.heap.size) := Lib.hid fun W hW => Nat.lt_of_lt_of_le hmb (HBW.out W (HBu1.out W hW)).size
 have HIN : Hid (∀ W, Below u0.heap.size u0 W → CIn W (.slice (some ⟨mb, mo, none⟩) j cm) j 2 (xs.take (j * 2))) := Lib.hid fun W hW => CIn.take HL2.out HCI.out.2.1 hle9 hcp9 (HMB.out W hW) (HC.out W hW) (by omega)
 have HIN2a : Hid (∀ W, Below u0.heap.size u0 W → CIn W (.slice (some ⟨mb, mo + (j + 1) * 2, none⟩) (N - (j + 1)) (cm - (j + 1))) (N - (j + 1)) 2 (xs.drop ((j + 1) * 2))) := Lib.hid fun W hW => CIn.drop HL2.out HCI.out.2.1 hle9 hcp9 (HMB.out W hW) (HC.out W hW) (by omega)
 have HIN2b : Hid (cm = j + 1 → ∀ W, Below u0.heap.size u0 W → CIn W (.slice (some ⟨mb, mo, none⟩) (N - (j + 1)) 0) (N - (j + 1)) 2 (xs.drop ((j + 1) * 2))) := Lib.hid fun e W hW => by
  have := HL2.out
  rw [List.drop_of_length_le (by omega), show N - (j + 1) = 0 by omega]
  exact M162
 have HOUT : Hid (∀ (cF w6 W7 : World) (Ar : Option Addr) (cr NR : Nat), NR = j + (N - (j + 1)) → cF.ownsRow u0.heap.size 89 2 (.slice Ar NR cr) NR (xs.take (j * 2) ++ xs.drop ((j + 1) * 2)) → (∀ r, Dl Ar = some r → u0.heap.size ≤ r) → Below u0.heap.size u0 cF → w6 = cF.setCell ⟨w.heap.size, 6, none⟩ (.slice Ar NR cr) → Below w.heap.size w w6 →
   W7 = ((((((w6.setCell ⟨w.heap.size + 1 + 1, 0, none⟩ (.string f)).setCell ⟨w.heap.size + 1 + 1, 1, none⟩ (.slice Bu nu cu)).setCell ⟨w.heap.size + 1 + 1, 2, none⟩ (.int .i64 s.closed)).setCell ⟨w.heap.size + 1 + 1, 3, none⟩ (.int .u64 (s.next : Nat))).setCell ⟨w.heap.size + 1 + 1, 4, none⟩ (.slice Ak nk ck)).setCell ⟨w.heap.size + 1 + 1, 5, none⟩ (.slice Aq nt ct)).setCell ⟨w.heap.size + 1 + 1, 6, none⟩ (.slice Ar NR cr) →
   Pq X w f (.slice Bu nu cu) (De at' al ⟨5, id, en, ea, name, text, ev⟩ s) (.returned (.tuple #[.agg #[.string f, .slice Bu nu cu, .int .i64 s.closed, .int .u64 (s.next : Nat), .slice Ak nk ck, .slice Aq nt ct, .slice Ar NR cr], .bool true])) W7) := Lib.hid fun cF w6 W7 Ar cr NR hNR ho hbr hbF hw6 hb6 hW7 => by
  have hb7 : Below w.heap.size w W7 := by rw [hW7]; exact Fn (g := w.heap.size + 1 + 1) hb6 (Nat.le_succ_of_le (Nat.le_succ _)) _ _ _ _ _ _ _
  have hs := HS1.out
  have hu := HBu0.out
  have ho7 := DO (w' := W7) ho (fun r hr => by
   have := hbr r hr
   rw [hW7, Gx (by omega), hw6]
   exact RowKit.Below.heap_setCell _ _ _ _ (by show r ≠ w.heap.size; omega))
  refine ⟨hb7, s.closed, s.next, .slice Ak nk ck, .slice Aq nt ct, .slice Ar NR cr, ⟨_, _, _, rfl⟩, ⟨_, _, _, rfl⟩, ⟨_, _, _, rfl⟩, by rw [HN.out]; rfl, fun s' hs => ?_⟩
  rw [HN.out] at hs
  cases hs
  have hp := Lh HFI.out.timers HJT.out
  rw [← HTT.out] at hp
  dsimp only at hp
  rw [H1.out] at hp
  refine ⟨rfl, rfl, ⟨(HRV.out.leads (Dw X hb7)).keys, (HRV.out.leads (Dw X hb7)).tasks, ⟨xs.take (j * 2) ++ xs.drop ((j + 1) * 2), ?_, ?_⟩⟩⟩
  ·have e : (Og s.timers id).length = NR := by
    have := HNN.out
    rw [← hp, List.length_append, List.length_take, List.length_drop]; omega
   dsimp only
   rw [e]
   refine CIn.of_veil ho7 ?_ (by intro c hc; have := HXB.out c hc; have := HBu0.out; have := HS1.out; omega)
   intro x hx
   rcases List.mem_append.1 hx with q | q
   ·exact HCI.out.2.1 x (List.mem_of_mem_take q)
   ·exact HCI.out.2.1 x (List.mem_of_mem_drop q)
  ·dsimp only
   unfold TmC
   rw [← hp, List.flatMap_append, ← Sj, ← JX, HTMC.out]
 have f1 : j ≤ cm := by omega
 have f2 : (j : Int) ≤ (j : Int) + 1 := by omega
 have f3 : (0 : Int) ≤ (j : Int) + 1 := by omega
 have f4 : (j : Int) + 1 ≤ (N : Int) := by omega
 have f5 : ((j : Int) + 1).toNat = j + 1 := by omega
 have ka := IntWalk.i64_in ((j : Int) + 1) (by omega)
 by_cases hcj : cm = j + 1
 ·subst hcj
  obtain rfl : N = j + 1 := by omega
  have HIN2 : Hid (∀ W, Below u0.heap.size u0 W → CIn W (.slice (some ⟨mb, mo, none⟩) 0 0) 0 2 (xs.drop ((j + 1) * 2))) := Lib.hid (fun W hW => by have := HIN2b.out rfl W hW; rw [Nat.sub_self] at this; exact this)
  open Q571 in exact M569
 ·have HIN2 := HIN2a
  open Q572 in exact M569) : p := h
theorem Q264.Y251 (h : p := by
 clear qf
 go_wp2_with fail
 refine bodyPost_ret (v := .tuple #[.agg #[.string f, .slice Bu nu cu, .int .i64 s.closed, .int .u64 (s.next : Nat), .slice Ak nk ck, .slice Aq nt ct, .slice Am j cm], .bool false]) (by simp [results, Tryz.results66, go_sem, q0, q1, q2, q3, q4, q5, q6]) rfl ?_
 exact ⟨Fn (HBW.out wr HB.out) (Nat.le_succ_of_le (Nat.le_succ _)) _ _ _ _ _ _ _, s.closed, s.next, .slice Ak nk ck, .slice Aq nt ct, .slice Am j cm, ⟨_, _, _, rfl⟩, ⟨_, _, _, rfl⟩, ⟨_, _, _, rfl⟩, by rw [HN.out]; rfl, fun s' hs => by rw [HN.out] at hs; cases hs⟩) : p := h
theorem Q207.Y202 (h : p := by
 go_upto_region 24 with (go_at_call 106; refine HTK.out.mono ?_; rintro x w1 ⟨⟨ti, rfl, hti⟩, hq1⟩; have HTI := Lib.hid (Si HFI.out.tasks hti); have HQ1 := Lib.hid hq1; clear hti hq1 x0 x1 x2 x3 x4 x5 x6 e0 e1 e2 e3 e4 e5 e6 e7 e8 e9 e10; obtain ⟨x0, x1, x2, x3, x4, x5, x6, -⟩ := (HX.out w1 HQ1.out).1.cells; obtain ⟨y0, y1, y2, -⟩ := (HX.out w1 HQ1.out).2.1.cells; obtain ⟨e0, e1, e2, e3, e4, e5, e6, e7, e8, e9, e10⟩ := EBox.cells (HX.out w1 HQ1.out).2.2.2; dsimp only at e0 e1 e2 e3 e4 e5)
 obtain ⟨xs, hcinV, htm⟩ := HRV.out.timers
 have hcin := hcinV.leads (Dg X w)
 clear hcinV
 have HCI := Lib.hid hcin; have HTMC := Lib.hid htm
 obtain ⟨hlen, -, A9, cap9, heq9, hle9, hcp9, hrd9⟩ := hcin
 obtain ⟨rfl, rfl, rfl⟩ : Am = A9 ∧ nm = s.timers.length ∧ cm = cap9 := by injection heq9 with a1 a2 a3; exact ⟨a1, a2, a3⟩
 have HRD := Lib.hid hrd9; have HLEN := Lib.hid hlen
 simp only [maxLen] at hcp9
 obtain ⟨N, hN⟩ : ∃ N, N = s.timers.length := ⟨_, rfl⟩
 rw [← hN] at hle9 hn2 HX x6
 have HNN := Lib.hid hN
 obtain ⟨i0, hi0, hz0, hz1, hz2⟩ := info_parts Tryz.infoRm
 have HSZ := Lib.hid (Oy hi0 hz1)
 clear hN hrd9 hlen heq9 htm HTI
 go_wp2_with fail
 clear x0 x1 x2 x3 x4 x5 x6 y0 y1 y2 e0 e1 e2 e3 e4 e5 e6 e7 e8 e9 e10
 go_loopw [11] (fun i wr => ∃ (j : Nat), j ≤ N ∧ i = .int .i64 j ∧ (∀ q (hq : q < s.timers.length), q < j → ¬ ((s.timers[q]).1 = id ∧ (s.timers[q]).2 ≤ at')) ∧ Below W1.heap.size W1 wr) (fun i _ => N - (intOf i).toNat)
 case atStart => exact ⟨0, by omega, rfl, fun q _ h => absurd h (by omega), HQ1.out⟩
 case round =>
  obtain ⟨j, hj, rfl, hno, hb⟩ := hrel
  have HNO := Lib.hid hno; have HB := Lib.hid hb
  clear hno hb
  obtain ⟨x0, x1, x2, x3, x4, x5, x6, xf⟩ := (HX.out wr HB.out).1.cells
  obtain ⟨y0, y1, y2, -⟩ := (HX.out wr HB.out).2.1.cells
  obtain ⟨e0, e1, e2, e3, e4, e5, e6, e7, e8, e9, e10⟩ := EBox.cells (HX.out wr HB.out).2.2.2
  dsimp only at e0 e1 e2 e3 e4 e5
  by_cases hlt : j < N
  ·obtain ⟨mb, mo, rfl, hmb, h39⟩ := HRD.out (by have := HNN.out; omega)
   have hjt : j < s.timers.length := by have := HNN.out; omega
   obtain ⟨tm, htm⟩ : ∃ tm, tm = s.timers[j] := ⟨_, rfl⟩
   have HTT := Lib.hid htm
   obtain ⟨tid, tat⟩ := tm
   have g0 := h39 (j * 2 + 0) (.int .u64 (tid : Nat)) (by rw [HTMC.out, Ge DS 2 Ff _ j 0 hjt (by omega), ← HTT.out]; rfl)
   have g1 := h39 (j * 2 + 1) (.int .u64 (tat : Nat)) (by rw [HTMC.out, Ge DS 2 Ff _ j 1 hjt (by omega), ← HTT.out]; rfl)
   have t0 := ((HBW.out wr HB.out).cell (p := ⟨mb, mo + (j * 2 + 0), none⟩) hmb).trans g0
   have t1 := ((HBW.out wr HB.out).cell (p := ⟨mb, mo + (j * 2 + 1), none⟩) hmb).trans g1
   rw [Nat.add_zero] at t0
   rw [← Nat.add_assoc] at t1
   have HJT := Lib.hid hjt
   clear g0 g1 htm
   by_cases h1 : tid = id
   ·by_cases h2 : tat ≤ at'
    ·have HN : Hid (De at' al ⟨5, id, en, ea, name, text, ev⟩ s = some { s with timers := Og s.timers id }) := Lib.hid (by
      have hg := JU HFI.out.timers HJT.out
      rw [← HTT.out] at hg
      dsimp only at hg
      rw [h1] at hg
      simp [De, hg, h2])
     have k1 : ((tid : Int) == (id : Int)) = true := by simp; omega
     have k2 : decide ((tat : Int) ≤ (at' : Int)) = true := decide_eq_true (by omega)
     have H1 := Lib.hid h1
     clear h1
     go_upto_region 27 with fail
     go_quiet (fail)
     generalize hw2 : wr.drewN nq = w2 at *
     have HQ2 : Hid (Below W1.heap.size W1 w2) := Lib.hid (by rw [← hw2]; exact below_drewN HB.out nq)
     clear hw2
     go_upto_region 28 with fail
     clear x0 x1 x2 x3 x4 x5 x6 y0 y1 y2 e0 e1 e2 e3 e4 e5 e6 e7 e8 e9 e10 t0 t1
     obtain ⟨u0, hu0⟩ : ∃ u, u = w2.drew := ⟨_, rfl⟩
     open Q501 in exact M499
    ·have k1 : ((tid : Int) == (id : Int)) = true := by simp; omega
     have k2 : decide ((tat : Int) ≤ (at' : Int)) = false := decide_eq_false (by omega)
     have h2n : at' < tat := by omega
     have HROUND : Hid (∀ q (hq : q < s.timers.length), q < j + 1 → ¬ ((s.timers[q]).1 = id ∧ (s.timers[q]).2 ≤ at')) := Lib.hid fun q hq hlq => by
      by_cases e : q = j
      ·subst e; rw [← HTT.out]; exact fun h => h2 h.2
      ·exact HNO.out q hq (by omega)
     have H1 := Lib.hid h1
     clear h1
     exact M96
   ·have k1 : ((tid : Int) == (id : Int)) = false := by simp; omega
    have HROUND : Hid (∀ q (hq : q < s.timers.length), q < j + 1 → ¬ ((s.timers[q]).1 = id ∧ (s.timers[q]).2 ≤ at')) := Lib.hid fun q hq hlq => by
     by_cases e : q = j
     ·subst e; rw [← HTT.out]; exact fun h => h1 h.1
     ·exact HNO.out q hq (by omega)
    exact M96
  ·have hj' : j = N := by omega
   have HN : Hid (De at' al ⟨5, id, en, ea, name, text, ev⟩ s = none) := Lib.hid (by
    have hnn := HNN.out
    cases hg : FU s.timers id with
    | none => simp [De, hg]
    | some x =>
     have h1 := List.mem_of_find?_eq_some hg
     have h2 := List.find?_some hg
     obtain ⟨q, hq, rfl⟩ := List.getElem_of_mem h1
     have h3 := HNO.out q hq (by omega)
     have h4 : ¬ (s.timers[q]).2 ≤ at' := fun h => h3 ⟨by simpa using h2, h⟩
     simp [De, hg, h4])
   subst hj'
   clear x0 x1 x2 x3 x4 x5 x6 y0 y1 y2 e0 e1 e2 e3 e4 e5 e6 e7 e8 e9 e10
   obtain ⟨x0, x1, x2, x3, x4, x5, x6, xf⟩ := (HX.out wr HB.out).1.cells
   obtain ⟨y0, y1, y2, -⟩ := (HX.out wr HB.out).2.1.cells
   obtain ⟨e0, e1, e2, e3, e4, e5, e6, e7, e8, e9, e10⟩ := EBox.cells (HX.out wr HB.out).2.2.2
   dsimp only at e0 e1 e2 e3 e4 e5
   obtain ⟨q0, q1, q2, q3, q4, q5, q6, qf⟩ := (HX.out wr HB.out).2.2.1.cells
   open Q264 in exact Ow) : p := h
theorem Q215.Y208 (h : p := by
 have HX : Hid (∀ W, Below W1.heap.size W1 W → RX W w.heap.size f (.slice Bu nu cu) s.closed s.next (.slice Ak nk ck) (.slice Aq nt ct) (.slice Am nm cm) ∧ BB W (w.heap.size + 1) ff at' (some ⟨eb, eo, none⟩) m cap ∧ RX W (w.heap.size + 1 + 1) ⟨#[]⟩ (.slice none 0 0) 0 0 (.slice none 0 0) (.slice none 0 0) (.slice none 0 0) ∧ EBox W (w.heap.size + 3) (Dc ⟨5, id, en, ea, name, text, ev⟩ vk vn vf vs A0 m0 c0)) := Lib.hid fun W hW => by
  exact M48
 open Q207 in exact M202) : p := h
theorem Q282.Y275 (h : p := by
 obtain ⟨W1, hW1⟩ : ∃ W1, W1 = W0.alloc (.cells (Dc ⟨5, id, en, ea, name, text, ev⟩ vk vn vf vs A0 m0 c0) 71) := ⟨_, rfl⟩
 open Q215 in exact JJ) : p := h
theorem Q197.Y191 (h : p := by
 obtain rfl : k = 5 := hk
 open Q282 in exact JI) : p := h
theorem out5_any (s : ST) (f : ByteArray) (Bu : Option Addr) (nu cu : Nat) (uk ut um : Value) (b : BT) (A : Option Addr) (cap : Nat) (w : World) (h : OIn X w s uk ut um b A cap) (hp : 0 < b.es.length) (he : FV (b.es[0]'hp)) (hk : b.es[0].k = 5) :
  Calls Tryz.prog 66 #[.agg (rhC f (.slice Bu nu cu) s.closed s.next uk ut um), .agg #[.string b.flow, .int .u64 (b.at' : Nat), .slice A b.es.length cap]] w (Pq X w f (.slice Bu nu cu) (De b.at' (decide (b.es.length = 1)) (b.es[0]'hp) s)) := by
 open Q197 in exact LT
variable {X : Nat → Prop}
theorem OF (s : ST) (f : ByteArray) (Bu : Option Addr) (nu cu : Nat) (uk ut um : Value) (b : BT) (A : Option Addr) (cap : Nat) (w : World) (h : OIn X w s uk ut um b A cap) (hp : 0 < b.es.length) (he : FV (b.es[0]'hp)) (hk : (b.es[0]'hp).k ≤ 6) :
  Calls Tryz.prog 66 #[.agg (rhC f (.slice Bu nu cu) s.closed s.next uk ut um), .agg #[.string b.flow, .int .u64 (b.at' : Nat), .slice A b.es.length cap]] w (Pq X w f (.slice Bu nu cu) (De b.at' (decide (b.es.length = 1)) (b.es[0]'hp) s)) := by
 have h1 := he.k0
 have hc : (b.es[0]'hp).k = 1 ∨ (b.es[0]'hp).k = 2 ∨ (b.es[0]'hp).k = 3 ∨ (b.es[0]'hp).k = 4 ∨ (b.es[0]'hp).k = 5 ∨ (b.es[0]'hp).k = 6 := by omega
 rcases hc with q | q | q | q | q | q
 ·exact out1_any s f Bu nu cu uk ut um b A cap w h hp he q
 ·exact out2_any s f Bu nu cu uk ut um b A cap w h hp he q
 ·exact out3_any s f Bu nu cu uk ut um b A cap w h hp he q
 ·exact out4_any s f Bu nu cu uk ut um b A cap w h hp he q
 ·exact out5_any s f Bu nu cu uk ut um b A cap w h hp he q
 ·exact out6_any s f Bu nu cu uk ut um b A cap w h hp he q
variable {X X' Y Y' : Nat → Prop} {u v w w' V V' : World} {hb bt bm bk n cap : Nat} {A : Option Addr} {h : HM}
theorem Tryz.infoHt : (Tryz.prog.info? 90).map (fun i => (i.zero, i.size, i.bytes)) = some (some (.agg #[.int .u64 0, .int .u64 0]), 2, 16) := by kernel_rfl
theorem tmIn_own {base : Nat} {T : TypeId} {u : Value} {l : List (Nat × Nat)} (h : w.ownsRow base T 2 u l.length (l.flatMap DS)) : ∃ A c, u = .slice A l.length c ∧ TmIn w A c l := by
 rcases h.2 with ⟨rfl, h0⟩ | ⟨r, cp, cur, rfl, q2, q3, q4, q5, q6, q7⟩
 ·exact M130
 ·refine ⟨_, cp, rfl, q4, q5, fun _ => ⟨r, rfl, (Array.getElem?_eq_some_iff.1 q3).1, fun i hi => ?_⟩⟩
  have e : ∀ p x, (l.flatMap DS)[p]? = some x → w.cell? ⟨r, p, none⟩ = some x := fun p x hx => by
   exact M137
  exact ⟨e _ _ (by have := Ge DS 2 Ff l i 0 hi (by omega); rw [Nat.add_zero] at this; rw [this]; rfl), e _ _ (by rw [Ge DS 2 Ff l i 1 hi (by omega)]; rfl)⟩
theorem Q438.Y437 (h : p := by
 obtain ⟨hxl, h1, Am, cm, rfl, hle, hcm, hrd⟩ := hcin
 have HXL := Lib.hid hxl
 clear hxl
 simp only [maxLen] at hcm
 obtain ⟨i0, hi0, hz0', hz1, hz2⟩ := info_parts Tryz.infoHt
 have HSZ := Lib.hid (Oy hi0 hz1)
 have HBW : Hid (∀ W, Below W0.heap.size W0 W → Below w.heap.size w W) := Lib.hid fun W hW => hb0.trans (hW.mono hb0.size)
 have HX : Hid (∀ W, Below W0.heap.size W0 W → RX W w.heap.size h.flow (.slice Bu h.bs.length cu) h.s.closed h.s.next (.slice Ak nk ck) (.slice Aq h.s.tasks.length ct) (.slice Am h.s.timers.length cm)) := Lib.hid fun W hW => hx0.later hW (by omega)
 have HC1 : Hid (∀ W, Below W0.heap.size W0 W → Calls Tryz.prog 42 #[.pointer (some ⟨hb, 0, none⟩)] W fun r w' => r = .returned (.string h.flow) ∧ w' = W) := Lib.hid fun W hW => UL (H.later (HBW.out W hW))
 have HC2 : Hid (∀ W, Below W0.heap.size W0 W → Calls Tryz.prog 43 #[.pointer (some ⟨hb, 0, none⟩)] W fun r w' => r = .returned (.int .i64 h.s.closed) ∧ w' = W) := Lib.hid fun W hW => XN (H.later (HBW.out W hW))
 have HC3 : Hid (∀ W, Below W0.heap.size W0 W → Calls Tryz.prog 44 #[.pointer (some ⟨hb, 0, none⟩)] W fun r w' => r = .returned (.int .u64 (h.at' : Nat)) ∧ Below W.heap.size W w') := Lib.hid fun W hW => JW (H.later (HBW.out W hW))
 have HC4 : Hid (∀ W, Below W0.heap.size W0 W → Calls Tryz.prog 45 #[.agg (rhC h.flow (.slice Bu h.bs.length cu) h.s.closed h.s.next (.slice Ak nk ck) (.slice Aq h.s.tasks.length ct) (.slice Am h.s.timers.length cm))] W fun r w' => r = .returned (.int .u64 (h.at' : Nat)) ∧ Below W.heap.size W w') := Lib.hid fun W hW => JQ h h.flow _ _ _ _ _ _ W (hr.later (HBW.out W hW)).bs
 have HC5 : Hid (∀ W, Below W0.heap.size W0 W → Calls Tryz.prog 46 #[.pointer (some ⟨hb, 0, none⟩)] W fun r w' => r = .returned (.int .u64 (h.s.next : Nat)) ∧ w' = W) := Lib.hid fun W hW => Lo (H.later (HBW.out W hW))
 have HC6 : Hid (∀ W, Below W0.heap.size W0 W → Calls Tryz.prog 48 #[.pointer (some ⟨hb, 0, none⟩)] W fun r w' => ∃ A2 cap2, r = .returned (.slice A2 h.s.timers.length cap2) ∧ Below W.heap.size W w' ∧ TmIn w' A2 cap2 h.s.timers) := Lib.hid fun W hW => YC (H.later (HBW.out W hW)) (by have := H.nn; omega) hid (by omega)
 have HC7 : Hid (∀ W, Below W0.heap.size W0 W → Calls Tryz.prog 50 #[.pointer (some ⟨hb, 0, none⟩)] W fun r w' => ∃ A2 cap2, r = .returned (.slice A2 h.bs.length cap2) ∧ Below W.heap.size W w' ∧ BNew w' W.heap.size A2 cap2 h.bs) := Lib.hid fun W hW => Yl (H.later (HBW.out W hW)) hS hL
 have HC8 : Hid (∀ W, Below W0.heap.size W0 W → Calls Tryz.prog 52 #[.pointer (some ⟨hb, 0, none⟩)] W fun r w' => ∃ A2 cap2, r = .returned (.slice A2 h.s.tasks.length cap2) ∧ Below W.heap.size W w' ∧ TkIn w' A2 cap2 h.s.tasks) := Lib.hid fun W hW => Kx (H.later (HBW.out W hW)) (by omega) hST
 have HBU : Hid (∀ W, Below W0.heap.size W0 W → BtsIn W Bu cu h.bs) := Lib.hid fun W hW => hbu.later (HBW.out W hW)
 have HTK : Hid (∀ W, Below W0.heap.size W0 W → TkIn W Aq ct h.s.tasks) := Lib.hid fun W hW => htk.later (HBW.out W hW)
 have HRD : Hid (∀ W, Below W0.heap.size W0 W → 0 < h.s.timers.length → ∃ b off, Am = some ⟨b, off, none⟩ ∧ b < W.heap.size ∧ ∀ p x, xs[p]? = some x → W.cell? ⟨b, off + p, none⟩ = some x) := Lib.hid fun W hW hp => by
  obtain ⟨b, off, q1, q2, q3⟩ := hrd hp
  exact ⟨b, off, q1, Nat.lt_of_lt_of_le q2 (HBW.out W hW).size, fun p x hx => ((HBW.out W hW).cell (p := ⟨b, off + p, none⟩) q2).trans (q3 p x hx)⟩
 have HTM := Lib.hid htm; have HONE0 := Lib.hid h1
 have HZ0 := Lib.hid hz0
 clear H hr hbu htk htm hx0 hb0 hz0 hS hST hid hrd h1
 obtain ⟨l, hl⟩ : ∃ l, l = h.s.timers := ⟨_, rfl⟩
 obtain ⟨m, hm⟩ : ∃ m, m = l.length := ⟨_, rfl⟩
 rw [← hl] at HTM HC6 HX HRD hle HC4 hW0 htlen HXL
 rw [← hl]
 rw [← hm] at HC6 HX HRD hle HC4 hW0 htlen HXL
 rw [← hm]
 have HM := Lib.hid hm
 clear hl hm
 generalize h.s.tasks = lt at *
 generalize hnt : lt.length = nt at *
 have HNT := Lib.hid hnt
 generalize h.flow = f at *
 generalize h.s.closed = cl at *
 generalize h.s.next = nx at *
 generalize h.at' = ha at *
 generalize hLL : h.bs.length = L at *
 have HLL := Lib.hid hLL
 clear hnt hLL
 unfold rhC at hW0 HC4 ⊢
 replace hW0 := Lib.hid hW0
 obtain ⟨x0, x1, x2, x3, x4, x5, x6, -⟩ := (HX.out W0 (Below.refl _ _)).cells
 go_enter Tryz.func22, Tryz.ntmps22
 go_upto_region 1 with fail
 rw [← hW0.out]
 go_wp2_with fail
 clear x0 x1 x2 x3 x4 x5 x6
 go_loopw [5, 11] (fun v i wr => ∃ j : Nat, j ≤ m ∧ i = .int .i64 j ∧ wr.ownsRow W0.heap.size 90 2 v j (xs.take (j * 2)) ∧ Below W0.heap.size W0 wr) (fun _ i _ => m - (intOf i).toNat)
 case atStart => exact ⟨0, by omega, rfl, by rw [Nat.zero_mul, List.take_zero]; exact ⟨rfl, .inl ⟨rfl, rfl⟩⟩, Below.refl _ _⟩
 case round =>
  obtain ⟨j, hj, rfl, hown, hb⟩ := hrel
  have HB := Lib.hid hb; have HO := Lib.hid hown
  clear hb hown
  by_cases hlt : j < m
  ·obtain ⟨b, off, rfl, hblt, h3⟩ := HRD.out wr HB.out (by omega)
   have hjt : j < l.length := by have := HM.out; omega
   obtain ⟨y, hy⟩ : ∃ y, y = l[j] := ⟨_, rfl⟩
   have g0 := h3 (j * 2 + 0) (.int .u64 (y.1 : Nat)) (by rw [HTM.out, Ge DS 2 Ff _ j 0 hjt (by omega), ← hy]; rfl)
   have g1 := h3 (j * 2 + 1) (.int .u64 (y.2 : Nat)) (by rw [HTM.out, Ge DS 2 Ff _ j 1 hjt (by omega), ← hy]; rfl)
   rw [Nat.add_zero] at g0
   rw [← Nat.add_assoc] at g1
   obtain ⟨y1, y2⟩ := y
   dsimp only at g0 g1
   have HTAKE : Hid (xs.take ((j + 1) * 2) = xs.take (j * 2) ++ (#[Value.int .u64 (y1 : Nat), .int .u64 (y2 : Nat)] : Array Value).toList) := Lib.hid (by
    rw [HTM.out, Sj, Sj, List.take_succ_eq_append_getElem hjt, List.flatMap_append, ← hy]; rfl)
   obtain ⟨Ar, cr, rfl, -⟩ := Fj HO.out
   obtain ⟨W1, hW1⟩ : ∃ W1, W1 = wr.alloc (.cells #[.int .u64 (y1 : Nat), .int .u64 (y2 : Nat)] 89) := ⟨_, rfl⟩
   obtain ⟨W2, hW2⟩ : ∃ W2, W2 = W1.alloc (.cells #[.int .u64 (y1 : Nat), .int .u64 (y2 : Nat)] 90) := ⟨_, rfl⟩
   have hb1 : Below W0.heap.size W0 W1 := by rw [hW1]; exact HB.out.alloc HB.out.size _
   have hb2 : Below W0.heap.size W0 W2 := by rw [hW2]; exact hb1.alloc hb1.size _
   have HB2 := Lib.hid hb2
   have hin : CIn W2 (.slice (some ⟨W1.heap.size, 0, none⟩) 1 1) 1 2 (#[Value.int .u64 (y1 : Nat), .int .u64 (y2 : Nat)] : Array Value).toList := by
    rw [hW2]; exact CIn.new W1 _ _ rfl (by intro x hx; simp at hx; rcases hx with rfl | rfl <;> rfl)
   have HI2 := Lib.hid hin
   have hbwr : Below wr.heap.size wr W2 := by rw [hW2, hW1]; exact ((Below.refl _ _).alloc (Nat.le_refl _) _).alloc (by simp) _
   have HO2 := Lib.hid (Fv HO.out hbwr)
   have hp : W1.heap[wr.heap.size]? = some (.cells #[.int .u64 (y1 : Nat), .int .u64 (y2 : Nat)] 89 (0, 0)) := by rw [hW1]; exact heap_alloc_new wr _
   have p0 : W1.cell? ⟨wr.heap.size, 0, none⟩ = some (.int .u64 (y1 : Nat)) := by simp [World.cell?, hp]
   have p1 : W1.cell? ⟨wr.heap.size, 1, none⟩ = some (.int .u64 (y2 : Nat)) := by simp [World.cell?, hp]
   clear h3 hy hjt hb1 hb2 hin hbwr hp
   replace hW1 := Lib.hid hW1
   replace hW2 := Lib.hid hW2
   go_upto_region 5 with fail
   rw [← hW1.out]
   go_wp2_with (at_builtin; rw [← hW2.out]; refine DA _ rfl _ _ 87 90 rfl i0 _ 2 16 Tryz.underlying87 HSZ.out hi0 hz0' hz1 hz2 rfl (by decide) W0.heap.size _ _ j 1 (xs.take (j * 2)) (#[Value.int .u64 (y1 : Nat), .int .u64 (y2 : Nat)] : Array Value).toList rfl rfl HO2.out HI2.out (by simp only [maxLen]; omega) (by omega) HB2.out.size ?_; intro v1 w1 hown2 hgrow2 hat2)
   have hB1 : Below W0.heap.size W0 w1 := DD HB2.out hgrow2 (fun r hr => (HO2.out.lt r hr).1) HB2.out.size
   have HB1 := Lib.hid hB1; have HO1 := Lib.hid hown2
   clear hB1 hown2 hgrow2 hat2
   go_wp2_with fail
   go_roundw
   case rel => exact ⟨j + 1, by omega, by go_num, by rw [HTAKE.out]; exact HO1.out, HB1.out⟩
   case measure => simp [intOf]; omega
  ·have hj' : j = m := by omega
   subst hj'
   clear hlt hle
   have HT5 := Lib.hid (show ∃ A c, _ = Value.slice A l.length c ∧ TmIn wr A c l from tmIn_own (base := W0.heap.size) (T := 90) (by have e := HO.out; rw [List.take_of_length_le (by have := HXL.out; omega), HM.out, HTM.out] at e; exact e))
   obtain ⟨Ar, cr, rfl, ht5⟩ := HT5.out
   clear HT5 HO
   have HT5 : Hid (∀ W, Below wr.heap.size wr W → TmIn W Ar cr l) := Lib.hid fun W hW => ht5.later hW
   clear ht5
   rw [← HM.out]
   have KS : Hid (∀ W, Below W0.heap.size W0 W → (fun W : World => W.cell? ⟨w.heap.size, 0, none⟩ = some (.string f) ∧ W.cell? ⟨w.heap.size, 1, none⟩ = some (.slice Bu L cu) ∧ W.cell? ⟨w.heap.size, 2, none⟩ = some (.int .i64 cl) ∧ W.cell? ⟨w.heap.size, 3, none⟩ = some (.int .u64 (nx : Nat)) ∧ W.cell? ⟨w.heap.size, 4, none⟩ = some (.slice Ak nk ck) ∧ W.cell? ⟨w.heap.size, 5, none⟩ = some (.slice Aq nt ct) ∧ W.cell? ⟨w.heap.size, 6, none⟩ = some (.slice Am j cm)) W) := Lib.hid fun W hW => by obtain ⟨x0, x1, x2, x3, x4, x5, x6, -⟩ := (HX.out W hW).cells; exact ⟨x0, x1, x2, x3, x4, x5, x6⟩
   go_upto_region 7 with fail
   obtain ⟨u0, hu0⟩ : ∃ u, u = wr.drew := ⟨_, rfl⟩
   have hbu : Below wr.heap.size wr u0 := by rw [hu0]; exact Da (Below.refl _ _)
   have HBu : Hid (Below W0.heap.size W0 u0) := Lib.hid (HB.out.trans (hbu.mono HB.out.size))
   have HBu1 := Lib.hid hbu
   clear hbu
   refine wp_region_noPanic ?_
   refine wp_region_held_drew (S := (fun W : World => W.cell? ⟨w.heap.size, 0, none⟩ = some (.string f) ∧ W.cell? ⟨w.heap.size, 1, none⟩ = some (.slice Bu L cu) ∧ W.cell? ⟨w.heap.size, 2, none⟩ = some (.int .i64 cl) ∧ W.cell? ⟨w.heap.size, 3, none⟩ = some (.int .u64 (nx : Nat)) ∧ W.cell? ⟨w.heap.size, 4, none⟩ = some (.slice Ak nk ck) ∧ W.cell? ⟨w.heap.size, 5, none⟩ = some (.slice Aq nt ct) ∧ W.cell? ⟨w.heap.size, 6, none⟩ = some (.slice Am j cm))) (by kernel_rfl) ?_ (fun hHeld => ?_)
   ·exact KS.out _ (Da HB.out)
   rw [← hu0] at hHeld
   rw [← hu0]
   replace hu0 := Lib.hid hu0
   refine tk 0 rfl ?_
   refine tk 2 rfl ?_
   refine tk 3 rfl ?_
   refine rd1 1 rfl fun K hK => ?_
   go_simp
   (with_reducible refine (HC1.out _ HBu.out).mono ?_)
   rintro e w9 ⟨rfl, rfl⟩
   go_wp2_with fail
   refine hK.out _ _ (KS.out _ HBu.out) (fun hHeld1 => ?_)
   clear hK K hHeld
   try simp only [ap]
   refine tk 4 rfl ?_
   refine tk 5 rfl ?_
   refine tk 6 rfl ?_
   refine tk 8 rfl ?_
   refine tk 9 rfl ?_
   refine rd1 7 rfl fun K hK => ?_
   go_simp
   (with_reducible refine (HC2.out _ HBu.out).mono ?_)
   rintro e w9 ⟨rfl, rfl⟩
   go_wp2_with fail
   refine hK.out _ _ (KS.out _ HBu.out) (fun hHeld2 => ?_)
   clear hK K hHeld1
   try simp only [ap]
   refine tk 10 rfl ?_
   refine tk 11 rfl ?_
   refine tk 12 rfl ?_
   refine tk 13 rfl ?_
   refine tk 15 rfl ?_
   refine rd1 14 rfl fun K hK => ?_
   go_simp
   (with_reducible refine (HC3.out _ HBu.out).mono ?_)
   rintro e c3 ⟨rfl, hbz⟩
   have HB3 : Hid (Below W0.heap.size W0 c3) := Lib.hid (HBu.out.trans (hbz.mono HBu.out.size))
   have HBR3 : Hid (Below wr.heap.size wr c3) := Lib.hid (HBu1.out.trans (hbz.mono HBu1.out.size))
   clear hbz
   go_wp2_with fail
   refine hK.out _ _ (KS.out _ HB3.out) (fun hHeld3 => ?_)
   clear hK K hHeld2
   try simp only [ap]
   refine rd1 16 rfl fun K hK => ?_
   go_simp
   (with_reducible refine (HC4.out _ HB3.out).mono ?_)
   rintro e c4 ⟨rfl, hbz⟩
   have HB4 : Hid (Below W0.heap.size W0 c4) := Lib.hid (HB3.out.trans (hbz.mono HB3.out.size))
   have HBR4 : Hid (Below wr.heap.size wr c4) := Lib.hid (HBR3.out.trans (hbz.mono HBR3.out.size))
   clear hbz
   go_wp2_with fail
   refine hK.out _ _ (KS.out _ HB4.out) (fun hHeld4 => ?_)
   clear hK K hHeld3
   try simp only [ap]
   refine tk 17 rfl ?_
   refine tk 18 rfl ?_
   refine tk 19 rfl ?_
   refine tk 20 rfl ?_
   refine tk 22 rfl ?_
   refine tk 23 rfl ?_
   refine rd1 21 rfl fun K hK => ?_
   go_simp
   (with_reducible refine (HC5.out _ HB4.out).mono ?_)
   rintro e w9 ⟨rfl, rfl⟩
   go_wp2_with fail
   refine hK.out _ _ (KS.out _ HB4.out) (fun hHeld5 => ?_)
   clear hK K hHeld4
   try simp only [ap]
   refine tk 24 rfl ?_
   refine tk 25 rfl ?_
   refine tk 26 rfl ?_
   refine tk 27 rfl ?_
   refine tk 29 rfl ?_
   refine rd1 28 rfl fun K hK => ?_
   go_simp
   (with_reducible refine (HC6.out _ HB4.out).mono ?_)
   rintro e c6 ⟨At, ctt, rfl, hbz, htt⟩
   have HTT := Lib.hid htt
   clear htt
   have HB6 : Hid (Below W0.heap.size W0 c6) := Lib.hid (HB4.out.trans (hbz.mono HB4.out.size))
   have HBR6 : Hid (Below wr.heap.size wr c6) := Lib.hid (HBR4.out.trans (hbz.mono HBR4.out.size))
   clear hbz
   go_wp2_with fail
   refine hK.out _ _ (KS.out _ HB6.out) (fun hHeld6 => ?_)
   clear hK K hHeld5
   try simp only [ap]
   refine rd1 30 rfl fun K hK => ?_
   go_simp
   (with_reducible refine (show Calls _ _ _ _ _ from by have q := Vy l At Ar ctt cr c6 HTT.out (HT5.out _ HBR6.out); rw [← HM.out] at q; exact q).mono ?_)
   rintro e c7 ⟨rfl, hbz⟩
   have HB7 : Hid (Below W0.heap.size W0 c7) := Lib.hid (HB6.out.trans (hbz.mono HB6.out.size))
   have HBR7 : Hid (Below wr.heap.size wr c7) := Lib.hid (HBR6.out.trans (hbz.mono HBR6.out.size))
   clear hbz
   go_wp2_with fail
   refine hK.out _ _ (KS.out _ HB7.out) (fun hHeld7 => ?_)
   clear hK K hHeld6
   try simp only [ap]
   refine tk 31 rfl ?_
   refine tk 32 rfl ?_
   refine tk 33 rfl ?_
   refine tk 34 rfl ?_
   refine tk 36 rfl ?_
   refine tk 37 rfl ?_
   refine rd1 35 rfl fun K hK => ?_
   go_simp
   (with_reducible refine (HC7.out _ HB7.out).mono ?_)
   rintro e c8 ⟨Ab, cb, rfl, hbz, hbn⟩
   have HBN := Lib.hid hbn.read
   clear hbn
   have HB8 : Hid (Below W0.heap.size W0 c8) := Lib.hid (HB7.out.trans (hbz.mono HB7.out.size))
   have HBR8 : Hid (Below wr.heap.size wr c8) := Lib.hid (HBR7.out.trans (hbz.mono HBR7.out.size))
   clear hbz
   go_wp2_with fail
   refine hK.out _ _ (KS.out _ HB8.out) (fun hHeld8 => ?_)
   clear hK K hHeld7
   try simp only [ap]
   refine rd1 38 rfl fun K hK => ?_
   go_simp
   (with_reducible refine (show Calls _ _ _ _ _ from by have q := Xo h.bs Ab Bu cb cu c8 HBN.out (HBU.out _ HB8.out); rw [HLL.out] at q; exact q).mono ?_)
   rintro e c9 ⟨rfl, hbz⟩
   have HB9 : Hid (Below W0.heap.size W0 c9) := Lib.hid (HB8.out.trans (hbz.mono HB8.out.size))
   have HBR9 : Hid (Below wr.heap.size wr c9) := Lib.hid (HBR8.out.trans (hbz.mono HBR8.out.size))
   clear hbz
   go_wp2_with fail
   refine hK.out _ _ (KS.out _ HB9.out) (fun hHeld9 => ?_)
   clear hK K hHeld8
   try simp only [ap]
   refine tk 39 rfl ?_
   refine tk 40 rfl ?_
   refine wpAnyH_done (by kernel_rfl) ?_ _
   refine NoPanic.normal ?_
   clear hHeld9
   go_upto_region 9 with fail
   obtain ⟨u9, hu9⟩ : ∃ u, u = c9.drew := ⟨_, rfl⟩
   have HBv : Hid (Below W0.heap.size W0 u9) := Lib.hid (by rw [hu9]; exact Da HB9.out)
   refine wp_region_noPanic ?_
   refine wp_region_held_drew (S := (fun W : World => W.cell? ⟨w.heap.size, 0, none⟩ = some (.string f) ∧ W.cell? ⟨w.heap.size, 1, none⟩ = some (.slice Bu L cu) ∧ W.cell? ⟨w.heap.size, 2, none⟩ = some (.int .i64 cl) ∧ W.cell? ⟨w.heap.size, 3, none⟩ = some (.int .u64 (nx : Nat)) ∧ W.cell? ⟨w.heap.size, 4, none⟩ = some (.slice Ak nk ck) ∧ W.cell? ⟨w.heap.size, 5, none⟩ = some (.slice Aq nt ct) ∧ W.cell? ⟨w.heap.size, 6, none⟩ = some (.slice Am j cm))) (by kernel_rfl) ?_ (fun hHeld => ?_)
   ·exact KS.out _ (Da HB9.out)
   rw [← hu9] at hHeld
   rw [← hu9]
   replace hu9 := Lib.hid hu9
   refine tk 0 rfl ?_
   refine tk 2 rfl ?_
   refine tk 3 rfl ?_
   refine rd1 1 rfl fun K hK => ?_
   go_simp
   (with_reducible refine (HC8.out _ HBv.out).mono ?_)
   rintro e c10 ⟨At2, ct2, rfl, hbz, htt⟩
   have HTT2 := Lib.hid htt
   clear htt
   have HB10 : Hid (Below W0.heap.size W0 c10) := Lib.hid (HBv.out.trans (hbz.mono HBv.out.size))
   clear hbz
   go_wp2_with fail
   refine hK.out _ _ (KS.out _ HB10.out) (fun hHeld10 => ?_)
   clear hK K hHeld
   try simp only [ap]
   refine rd1 4 rfl fun K hK => ?_
   go_simp
   (with_reducible refine (show Calls _ _ _ _ _ from by have q := Uo lt At2 Aq ct2 ct c10 HTT2.out (HTK.out _ HB10.out); rw [HNT.out] at q; exact q).mono ?_)
   rintro e c11 ⟨rfl, hbz⟩
   have HB11 : Hid (Below W0.heap.size W0 c11) := Lib.hid (HB10.out.trans (hbz.mono HB10.out.size))
   clear hbz
   go_wp2_with fail
   refine hK.out _ _ (KS.out _ HB11.out) (fun hHeld11 => ?_)
   clear hK K hHeld10
   try simp only [ap]
   refine tk 5 rfl ?_
   refine wpAnyH_done (by kernel_rfl) ?_ _
   refine NoPanic.normal ?_
   clear hHeld11
   go_wp2_with fail
   go_ret
   exact ⟨rfl, HBW.out _ HB11.out⟩) : p := h
theorem Li (H : HAt Y w hb bt bm bk n A cap h) (ub uk ut um : Value) (hr : RH w h ub uk ut um) (htot : tot h.bs ≤ 1180000000000) (hL : h.bs.length ≤ 1000000) (hS : BsOk h.bs) (hST : ∀ t ∈ h.s.tasks, t.v.Slim 900) :
  Calls Tryz.prog 22 #[.pointer (some ⟨hb, 0, none⟩), .agg (rhC h.flow ub h.s.closed h.s.next uk ut um)] w fun r w' => r = .returned (.int .i64 1) ∧ Below w.heap.size w w' := by
 obtain ⟨Bu, cu, rfl, hbu⟩ := hr.bs.open
 obtain ⟨Aq, ct, rfl, htk⟩ := hr.tasks.open
 obtain ⟨Ak, nk, ck, rfl⟩ : ∃ A n c, uk = .slice A n c := by obtain ⟨xs, ⟨-, -, A, c, e, -⟩, -⟩ := hr.keys; exact ⟨_, _, _, e⟩
 obtain ⟨xs, hcin, htm⟩ := hr.timers
 have htlen := YB H.fine
 have hid : ∀ t ∈ h.s.timers, t.1 < 18446744073709551616 := fun t ht => by have := H.fine.fine.belowT t ht; have := H.fine.next; omega
 obtain ⟨W0, hW0⟩ : ∃ W0, W0 = w.alloc (.cells (rhC h.flow (.slice Bu h.bs.length cu) h.s.closed h.s.next (.slice Ak nk ck) (.slice Aq h.s.tasks.length ct) um) 52) := ⟨_, rfl⟩
 have hx0 : RX W0 w.heap.size h.flow (.slice Bu h.bs.length cu) h.s.closed h.s.next (.slice Ak nk ck) (.slice Aq h.s.tasks.length ct) um := by rw [hW0]; exact RX.new ..
 open Q438 in exact M437
open Vt (FY Gj)
open Cm (Ft DX Gi)
open Cn (Ph)
variable {v w w' : World}
def BSame (b b' : BT) : Prop := b.flow = b'.flow ∧ b.at' = b'.at' ∧ Ft b.es b'.es = true
def TSame (t t' : TK) : Prop := t.id = t'.id ∧ t.name = t'.name ∧ t.n = t'.n ∧ t.fl = t'.fl ∧ t.at' = t'.at' ∧ t.v.same t'.v = true
structure HSame (h h' : HM) : Prop where
 flow : h.flow = h'.flow
 closed : h.s.closed = h'.s.closed
 next : h.s.next = h'.s.next
 keys : h.s.keys = h'.s.keys
 timers : h.s.timers = h'.s.timers
 blen : h'.bs.length = h.bs.length
 bs : ∀ i (h1 : i < h.bs.length) (h2 : i < h'.bs.length), BSame h.bs[i] h'.bs[i]
 tlen : h'.s.tasks.length = h.s.tasks.length
 tasks : ∀ i (h1 : i < h.s.tasks.length) (h2 : i < h'.s.tasks.length), TSame h.s.tasks[i] h'.s.tasks[i]
variable {X X' Y Y' : Nat → Prop} {u v w w' V V' : World} {hb bt bm bk n cap : Nat} {A : Option Addr} {h : HM}
theorem HSame.at {h h' : HM} (k : HSame h h') : h.at' = h'.at' := by
 unfold HM.at'
 rw [List.getLast?_eq_getElem?, List.getLast?_eq_getElem?, k.blen]
 by_cases hp : h.bs.length - 1 < h.bs.length
 ·rw [List.getElem?_eq_getElem hp, List.getElem?_eq_getElem (by rw [k.blen]; exact hp)]
  exact (k.bs _ hp (by rw [k.blen]; exact hp)).2.1
 ·rw [List.getElem?_eq_none (by omega), List.getElem?_eq_none (by rw [k.blen]; omega)]
end Hi
end Go.Proofs.YtfmnacebgplpcaaGreat
