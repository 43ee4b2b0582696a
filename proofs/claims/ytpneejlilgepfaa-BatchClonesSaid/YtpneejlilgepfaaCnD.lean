/- Contract: the reference's Clone of a batch. -/
import Derived.Test.YtpneejlilgepfaaCnC
namespace Go.Proofs.Ytpneejlilgepfaa
open Go.RowKit
set_option linter.unusedVariables false
set_option linter.unusedSimpArgs false
namespace Cn
open Nm (bitsW ret_int ret_bool)
open Vt (VT Rep BoxAt below_drew Cloned put5 KidsAt HeadOk)
open Ev (EV FieldsOk evCells vCells EBox ERep zeroT take_drop cons_drop)
open Cm (rowOf EvsIn EvsAt EvNew evsSame evSame)

set_option maxRecDepth 100000 in
set_option maxHeartbeats 2000000 in
theorem r13clone_any (es : List EV) (hl40 : es.length ≤ 1099511627775) (hS : ∀ i (h : i < es.length), es[i].v.Slim 900) (f : ByteArray) (at' : Nat) (A : Option Addr) (cap : Nat) (w : World) (h : EvsIn w A cap es) :
    Calls Try.prog 6 #[.agg #[.string f, .int .u64 at', .slice A es.length cap]] w fun r w' => ∃ A2 cap2, r = .returned (.agg #[.string f, .int .u64 at', .slice A2 es.length cap2]) ∧ Below w.heap.size w w' ∧ EvsAt w' w.heap.size A2 cap2 es.length es := by
  have hl := h.le
  have hc := h.cap_le
  simp only [maxLen] at hc
  obtain ⟨i0, hi0, hz0, hz1, hz2⟩ := info_parts Cm.Try.infoE
  have HK := Lib.hid h; clear h
  have HS := Lib.hid hS; clear hS
  obtain ⟨W0, hW0⟩ : ∃ W0, W0 = ((w.alloc (.cells #[.string f, .int .u64 at', .slice A es.length cap] 25)).alloc (.cells #[.string ⟨#[]⟩, .int .u64 0, .slice none 0 0] 25)).alloc (.cells #[.string f, .int .u64 at', .slice none 0 0] 25) := ⟨_, rfl⟩
  have hx0 : BB W0 w.heap.size f at' A es.length cap := by
    rw [hW0]; exact (heap_alloc_old _ _ (by simp; omega)).trans ((heap_alloc_old _ _ (by simp)).trans (heap_alloc_new w _))
  have hx1 : BB W0 (w.heap.size + 1) ⟨#[]⟩ 0 none 0 0 := by
    rw [hW0]
    refine (heap_alloc_old _ _ (by simp)).trans ?_
    have e := heap_alloc_new (w.alloc (.cells #[.string f, .int .u64 at', .slice A es.length cap] 25)) (.cells #[.string ⟨#[]⟩, .int .u64 (0 : Nat), .slice none 0 0] 25)
    rw [World.size_alloc] at e
    exact e
  have hx2 : BB W0 (w.heap.size + 1 + 1) f at' none 0 0 := by
    rw [hW0]
    have e := heap_alloc_new ((w.alloc (.cells #[.string f, .int .u64 at', .slice A es.length cap] 25)).alloc (.cells #[.string ⟨#[]⟩, .int .u64 0, .slice none 0 0] 25)) (.cells #[.string f, .int .u64 at', .slice none 0 0] 25)
    rw [World.size_alloc, World.size_alloc] at e
    exact e
  have hbw : Below w.heap.size w W0 := by rw [hW0]; exact ((((Below.refl _ _).alloc (Nat.le_refl _) _).alloc (by simp) _).alloc (by simp; omega) _)
  have HX0 := Lib.hid hx0; have HX1 := Lib.hid hx1; have HX2 := Lib.hid hx2; have HBW := Lib.hid hbw
  clear hx0 hx1 hx2 hbw
  replace hW0 := Lib.hid hW0
  go_enter Try.func6, Try.ntmps6
  go_upto_region 2 with fail
  rw [← hW0.out]
  go_wp2_with fail
  go_loopw [4] (fun i wr => ∃ (j : Nat) (A2 : Option Addr) (cap2 : Nat), j ≤ es.length ∧ i = .int .i64 j ∧ BB wr w.heap.size f at' A es.length cap ∧ BB wr (w.heap.size + 1) ⟨#[]⟩ 0 none 0 0 ∧ BB wr (w.heap.size + 1 + 1) f at' A2 j cap2 ∧ EvsAt wr (w.heap.size + 3) A2 cap2 j (es.take j) ∧ Below w.heap.size w wr) (fun i _ => es.length - (intOf i).toNat)
  case atStart => exact ⟨0, none, 0, by omega, rfl, HX0.out, HX1.out, HX2.out, by simpa using Cm.evs_nil W0 _, HBW.out⟩
  case round =>
    clear HX0 HX1 HX2 HBW
    obtain ⟨j, A2, cap2, hj, rfl, hx0, hx1, hx2, hevs, hbw⟩ := hrel
    have hlt2 := hx2.lt
    obtain ⟨c0, c1, c2, -⟩ := hx0.cells
    by_cases hlt : j < es.length
    · obtain ⟨b, off, lo, hi, vk, vn, vf, vs, A', m, c, rfl, hbl, hf, hv0, hhi0, e0, e1, e2, e3, e4, e5, e6, e7, e8, e9, e10⟩ := HK.out.get j hlt
      have HB := Lib.hid hbw
      have hbs := hbw.size
      have hcw : ∀ o, wr.cell? ⟨b, o, none⟩ = w.cell? ⟨b, o, none⟩ := fun o => HB.out.cell (p := ⟨b, o, none⟩) hbl
      have d0 := (hcw _).trans e0; have d1 := (hcw _).trans e1; have d2 := (hcw _).trans e2; have d3 := (hcw _).trans e3; have d4 := (hcw _).trans e4; have d5 := (hcw _).trans e5; have d6 := (hcw _).trans e6; have d7 := (hcw _).trans e7; have d8 := (hcw _).trans e8; have d9 := (hcw _).trans e9; have d10 := (hcw _).trans e10
      have hv := hv0.later (HB.out.mono hhi0)
      have hhi : hi ≤ wr.heap.size := Nat.le_trans hhi0 hbs
      clear e0 e1 e2 e3 e4 e5 e6 e7 e8 e9 e10 hcw hv0 hbw
      have HX0 := Lib.hid hx0; have HX1 := Lib.hid hx1; have HX2 := Lib.hid hx2
      obtain ⟨W1, hW1⟩ : ∃ W1, W1 = wr.alloc (.cells (evCells es[j] vk vn vf vs A' m c) 35) := ⟨_, rfl⟩
      have hb1 : Below wr.heap.size wr W1 := by rw [hW1]; exact (Below.refl _ _).alloc (Nat.le_refl _) _
      have hx3 : EBox W1 wr.heap.size (evCells es[j] vk vn vf vs A' m c) := by rw [hW1]; exact box_ev ..
      have hz1' : W1.heap.size = wr.heap.size + 1 := by rw [hW1]; simp
      obtain ⟨-, -, -, -, -, -, g6, g7, g8, g9, g10⟩ := EBox.cells hx3
      have HC := Lib.hid (rclone_any es[j].v W1 lo hi _ (hv.later (hb1.mono hhi)) (Nat.le_trans hhi hb1.size) (HS.out j hlt))
      have HX3 := Lib.hid hx3
      have HF := Lib.hid hf; have HB1 := Lib.hid hb1
      obtain ⟨hlen, xs, hxo, hxe⟩ := hevs
      have hlx := hxo.1
      have HOWN : Hid (∀ W, Below wr.heap.size wr W → W.ownsRow (w.heap.size + 3) 35 11 (.slice A2 j cap2) j xs) := Lib.hid fun W hW => own_keep hxo hW
      have HRO := Lib.hid (own_lt hxo)
      have HXE := Lib.hid hxe
      unfold vCells at HC
      unfold evCells at hW1
      replace hW1 := Lib.hid hW1
      clear hxe hxo hf hv hx3 hb1 hx0 hx1 hx2
      go_upto_region 6 with fail
      rw [← hW1.out]
      clear c0 c1 c2 d0 d1 d2 d3 d4 d5 d6 d7 d8 d9 d10
      go_wp2_with fail
      refine HC.out.mono ?_
      rintro x w2 ⟨k, n, f3, s', l3, A3, cap3, ht, rfl, hr, hb2, hfr⟩
      have hin := Cm.rep_row (t := es[j].v) (vk := k) (vn := n) (vf := f3) (vs := s') (A := A3) (m := l3.length) (c := cap3) hr
      rw [show l3 = es[j].v.l from by rw [ht]] at hfr
      have hx4 := HX3.out.later hb2 (by omega)
      have hfx := ebox_free hx4
      have z6 := hfx 6; have z7 := hfx 7; have z8 := hfx 8; have z9 := hfx 9; have z10 := hfx 10
      obtain ⟨d0, d1, d2, d3, d4, d5, d6, d7, d8, d9, d10⟩ := EBox.cells hx4
      obtain ⟨W3, hW3⟩ : ∃ W3, W3 = put5 w2 wr.heap.size 6 (.int .i64 k) (.int .i64 n) (.float .f64 f3) (.string s') (.slice A3 l3.length cap3) := ⟨_, rfl⟩
      have hx5 := ebox_put (k := k) (n := n) (f := f3) (s := s') (A2 := A3) (m2 := l3.length) (c2 := cap3) hx4
      rw [← hW3] at hx5
      have hb3 : Below wr.heap.size wr W3 := by rw [hW3]; exact Vt.put5_below (HB1.out.trans (hb2.mono (by omega))) (Nat.le_refl _)
      have hz3 : W3.heap.size = w2.heap.size := by rw [hW3, Vt.put5_size]
      have hr3 : Rep W3 (wr.heap.size + 1) w2.heap.size es[j].v (vCells k n f3 s' A3 l3.length cap3) := by
        rw [hW3, ← hz1']
        exact hr.keep fun b o hb1 hb2 => Vt.put5_cell _ _ _ _ _ _ _ _ _ _ (by omega)
      have hfr3 : 0 < es[j].v.l.length → ∀ b off, A3 = some ⟨b, off, none⟩ → ∀ o, W3.frozen? ⟨b, o, none⟩ = false := fun hp b off hA o => by
        obtain ⟨z1, z2⟩ := hin hp b off hA
        rw [hW3]
        exact (Cm.frozen_of_block (Vt.put5_other w2 wr.heap.size 6 _ _ _ _ _ b (by omega)) o).trans (hfr hp b off hA o)
      have HB3 := Lib.hid hb3
      obtain ⟨y0, y1, y2, y3, y4, y5, y6, y7, y8, y9, y10⟩ := EBox.cells hx5
      obtain ⟨o0, o1, o2, of⟩ := (HX2.out.later hb3 hlt2).cells
      obtain ⟨W4, hW4⟩ : ∃ W4, W4 = W3.alloc (.cells (evCells es[j] k n f3 s' A3 l3.length cap3) 35) := ⟨_, rfl⟩
      have K1 : Hid (Below wr.heap.size wr W4) := Lib.hid (by rw [hW4]; exact HB3.out.alloc HB3.out.size _)
      have K2 : Hid (∀ q u, (evCells es[j] k n f3 s' A3 l3.length cap3).toList[q]? = some u → W4.cell? ((⟨W3.heap.size, 0, none⟩ : Addr).add q) = some u) := Lib.hid (World.news_of_block (t := 35) (fr := (0, 0)) (by rw [hW4]; exact heap_alloc_new W3 _))
      have K3 : Hid (Rep W4 (wr.heap.size + 1) w2.heap.size es[j].v (vCells k n f3 s' A3 l3.length cap3)) := Lib.hid (by rw [hW4]; exact hr3.alloc (by omega) _)
      have K5 : Hid (0 < es[j].v.l.length → ∀ b off, A3 = some ⟨b, off, none⟩ → ∀ o, W4.frozen? ⟨b, o, none⟩ = false) := Lib.hid fun hp b off hA o => by
        obtain ⟨z1, z2⟩ := hin hp b off hA
        rw [hW4]
        exact (Cm.frozen_of_block (heap_alloc_old _ _ (by omega)) o).trans (hfr3 hp b off hA o)
      have hz4 : W4.heap.size = w2.heap.size + 1 := by rw [hW4]; simp [hz3]
      have KO := Lib.hid (HOWN.out _ K1.out)
      have hb4 : w.heap.size + 3 ≤ W4.heap.size := by have := K1.out.size; omega
      have hb2s : wr.heap.size + 1 ≤ w2.heap.size := by have := hb2.size; omega
      simp only [put5, Nat.reduceAdd] at hW3
      unfold evCells at hW4
      replace hW3 := Lib.hid hW3
      replace hW4 := Lib.hid hW4
      clear hr hb2 hfr ht hr3 hfr3 hb3 hin hx4 hx5 hfx g6 g7 g8 g9 g10 hz3
      go_upto_region 7 with fail
      rw [← hW3.out]
      clear d0 d1 d2 d3 d4 d5 d6 d7 d8 d9 d10 z6 z7 z8 z9 z10
      have KF : Hid (∀ r2 cap4 w5, w5.ownsRow (w.heap.size + 3) 35 11 (.slice (some ⟨r2, 0, none⟩) (j + 1) cap4) (j + 1) (xs ++ (evCells es[j] k n f3 s' A3 l3.length cap3).toList) → W4.grownBy w5 (rowOf A2) → (rowOf A2 = some r2 ∨ r2 = W4.heap.size) →
          EvsAt w5 (w.heap.size + 3) (some ⟨r2, 0, none⟩) cap4 (j + 1) (es.take (j + 1)) ∧ Below (w.heap.size + 3) wr w5) := Lib.hid fun r2 cap4 w5 hown5 hgrow5 hat5 => by
        refine ⟨?_, (K1.out.mono (by omega)).trans ⟨hgrow5.os, hgrow5.tape, hgrow5.output, hgrow5.size, fun b hb => hgrow5.block b (by omega) (fun e => by have := (HRO.out b e.symm).2; omega)⟩⟩
        rw [List.take_succ_eq_append_getElem hlt]
        exact EvsAt.push (cap := 0) (H := W4.heap.size) hlen hlx (fun i h => (HXE.out i h).keep K1.out.size (fun b hb _ => K1.out.block b hb)) (by omega) HF.out K3.out (by omega) (fun r hr => .inl (by have := (HRO.out r hr).1; omega)) K5.out hown5 hgrow5 hat5 (Nat.le_refl _)
      have of2 := of 2
      clear of o0 o1
      go_wp2_with (at_builtin; rw [← hW4.out]; refine wpList_append_lies _ rfl _ _ 23 rfl (w.heap.size + 3) 35 i0 _ 11 128 Try.underlying23 hi0 hz0 hz1 hz2 rfl (by decide) (.slice A2 j cap2) j xs rfl KO.out ⟨W3.heap.size, 0, none⟩ 1 1 (evCells es[j] k n f3 s' A3 l3.length cap3).toList rfl rfl K2.out (ev_one _ _ _ _ _ _ _ _) (by decide) (by simp only [maxLen]; omega) (by omega) hb4 _ rfl ?_; intro r2 cap4 w5 hown5 hgrow5 hat5 hrl5; rw [Cm.rowOf_own] at hgrow5 hat5; obtain ⟨hP, hB5⟩ := KF.out r2 cap4 w5 hown5 hgrow5 hat5; clear hown5 hgrow5 hat5; have HP := Lib.hid hP; have HB5 := Lib.hid hB5; clear hP hB5; obtain ⟨q0, q1, q2, qf⟩ := (HX2.out.later HB5.out (by omega)).cells; have qf2 := qf 2; clear qf)
      refine ⟨⟨j + 1, some ⟨r2, 0, none⟩, cap4, by omega, by go_num, ?_, ?_, ?_, ?_, ?_⟩, by simp [intOf]; omega⟩
      · exact (HX0.out.later (HB5.out.mono (by omega)) (Nat.lt_succ_self _)).far (by omega) _
      · exact (HX1.out.later (HB5.out.mono (by omega)) (Nat.lt_succ_self _)).far (by omega) _
      · exact (HX2.out.later HB5.out (by omega)).set
      · exact evs_setCell HP.out (by simp only []; omega) _
      · exact (HB.out.trans (HB5.out.mono (by omega))).setCell (by simp only []; omega) _
    · have hj' : j = es.length := by omega
      subst hj'
      rw [List.take_length] at hevs
      obtain ⟨d0, d1, d2, -⟩ := hx2.cells
      obtain ⟨r0, r1, r2, rf⟩ := hx1.cells
      have f0 := rf 0; have f1 := rf 1; have f2 := rf 2
      have HE := Lib.hid hevs; have HB := Lib.hid hbw
      clear hevs hbw hx0 hx1 hx2 rf
      go_wp2_with fail
      refine bodyPost_ret (v := .agg #[.string f, .int .u64 at', .slice A2 es.length cap2]) (by simp [results, Try.results6, go_sem, r0, r1, r2]) rfl ?_
      refine ⟨A2, cap2, rfl, ((HB.out.setCell (by simp) _).setCell (by simp) _).setCell (by simp) _, evs_base (evs_setCell (evs_setCell (evs_setCell HE.out (by simp) _) (by simp) _) (by simp) _) (by omega)⟩
end Cn
end Go.Proofs.Ytpneejlilgepfaa
