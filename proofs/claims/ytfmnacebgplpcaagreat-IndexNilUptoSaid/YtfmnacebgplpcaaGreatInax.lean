/- The reference's index: Add. -/
import Derived.Laws.Rows
import Derived.Laws.IdiomRangeMap
import Derived.Test.YtfmnacebgplpcaaGreatInan
import Derived.Test.YtfmnacebgplpcaaGreatInav
import Derived.Test.YtfmnacebgplpcaaGreatInaw
import Derived.Test.YtfmnacebgplpcaaGreatInau
import Derived.Test.YtfmnacebgplpcaaGreatInas
import Derived.Test.YtfmnacebgplpcaaGreatInap
set_option maxRecDepth 100000
set_option maxHeartbeats 4000000
variable {p : Prop}
set_option linter.unusedVariables false
set_option linter.unusedSimpArgs false
open Go.RowKit
namespace Go.Proofs.YtfmnacebgplpcaaGreat
namespace Hi
open _root_.Go.Proofs.YtfmnacebgplpcaaGreat.Nm (Ds Df)
open _root_.Go.Proofs.YtfmnacebgplpcaaGreat.Rd (GY)
open Vt (VT Rep Da)
open Ev (EV Dk Dc Dn Dy tk ap rd1 rd2 Dj)
open Cm (Dl EvsIn)
open Cn (BT BB BtsIn Dt)
variable {X X' Y Y' : Nat → Prop} {u v w w' V V' : World} {cap : Nat} {A : Option Addr} {x : XM} {b : BT}
theorem Tryz.infoRh : (Tryz.prog.info? 52).map (fun i => (i.zero, i.size, i.bytes)) = some (some (.agg #[.string ⟨#[]⟩, .slice none 0 0, .int .i64 0, .int .u64 0, .slice none 0 0, .slice none 0 0, .slice none 0 0]), 7, 128) := by kernel_rfl
theorem addX_2 (h : Dt b.flow b.at' b.es = false) : (DC x b).1 = 2 := by unfold DC; rw [if_pos h]
theorem addX_12 (h : Dt b.flow b.at' b.es = true) (h2 : b.at' < x.clock) : (DC x b).1 = 12 := by unfold DC; rw [if_neg (by rw [h]; decide), if_pos h2]
theorem addX_m (h : Dt b.flow b.at' b.es = true) (h2 : ¬ b.at' < x.clock) (h3 : (Dv (DF x b.flow) b).1 ≠ 0) : (DC x b).1 = (Dv (DF x b.flow) b).1 := by unfold DC; rw [if_neg (by rw [h]; decide), if_neg h2, if_pos h3]
theorem addX_0 (h : Dt b.flow b.at' b.es = true) (h2 : ¬ b.at' < x.clock) (h3 : (Dv (DF x b.flow) b).1 = 0) : (DC x b).1 = 0 ∧ (DC x b).2.all = x.all ++ [b] ∧ (DC x b).2.flows = (match Dx x.flows b.flow with | some k => x.flows.set k (Dv (DF x b.flow) b).2 | none => x.flows ++ [(Dv (DF x b.flow) b).2]) := by
 unfold DC
 rw [if_neg (by rw [h]; decide), if_neg h2, if_neg (fun q => q h3)]
 cases Dx x.flows b.flow <;> exact ⟨rfl, rfl, rfl⟩
def Yq (X : Nat → Prop) (x : XM) (b : BT) (w : World) (r : Ending) (w' : World) : Prop := Below w.heap.size w w' ∧ ∃ uA uF, r = .returned (.tuple #[.agg #[uA, uF], .int .i64 (DC x b).1]) ∧ RIx (Du X w') (DC x b).2 uA uF
theorem Oe {base k n cap g j : Nat} {T : TypeId} {xs : List Value} (h : w.ownsRow base T k (.slice (some ⟨g, 0, none⟩) n cap) n xs) (v : Value) : (w.setCell ⟨g, j, none⟩ v).ownsRow base T k (.slice (some ⟨g, 0, none⟩) n cap) n (xs.set j v) := by
 rcases h.2 with ⟨h1, h2⟩ | ⟨g', cap', cur, e, q2, q3, q4, q5, q6, q7⟩
 ·cases h1
 ·cases e
  refine ⟨by rw [List.length_set]; exact h.1, .inr ⟨g, cap, cur.setIfInBounds j v, rfl, q2, ?_, q4, q5, by simpa using q6, ?_⟩⟩
  ·simp [World.setCell, Array.getElem?_modify, q3]
  ·rw [← q7]; simp [List.take_set]
theorem Xz {base k n cap g j : Nat} {T : TypeId} {xs : List Value} (h : w.ownsRow base T k (.slice (some ⟨g, 0, none⟩) n cap) n xs) : w.frozen? ⟨g, j, none⟩ = false ∧ base ≤ g := by
 rcases h.2 with ⟨h1, h2⟩ | ⟨g', cap', cur, e, q2, q3, q4, q5, q6, q7⟩
 ·cases h1
 ·cases e
  exact ⟨by simp [World.frozen?, q3], q2⟩
theorem XA {base k n cap g p : Nat} {T : TypeId} {xs : List Value} {y : Value} (h : w.ownsRow base T k (.slice (some ⟨g, 0, none⟩) n cap) n xs) (hy : xs[p]? = some y) : w.cell? ⟨g, p, none⟩ = some y := by
 rcases h.2 with ⟨h1, h2⟩ | ⟨g', cap', cur, e, q2, q3, q4, q5, q6, q7⟩
 ·cases h1
 ·cases e
  have hlt := (List.getElem?_eq_some_iff.1 hy).1
  rw [h.1] at hlt
  rw [← q7, List.getElem?_take_of_lt hlt, Array.getElem?_toList] at hy
  simp [World.cell?, q3, hy]
theorem Ot {P : Value → Prop} {l : List Value} {i : Nat} {y : Value} (h : ∀ z ∈ l, P z) (hy : P y) : ∀ z ∈ l.set i y, P z := fun z hz => (List.mem_or_eq_of_mem_set hz).elim (h z) fun e => e ▸ hy
theorem rhsC_set {xs : List Value} {fl : List HM} (h : RHsC V xs fl) (i : Nat) (hi : i < fl.length) (g : HM) (hg : g.flow.size ≤ maxLen) {ub uk ut um : Value} (hr : RH V g ub uk ut um) :
  RHsC V (((((((xs.set (i * 7) (.string g.flow)).set (i * 7 + 1) ub).set (i * 7 + 2) (.int .i64 g.s.closed)).set (i * 7 + 3) (.int .u64 (g.s.next : Nat))).set (i * 7 + 4) uk).set (i * 7 + 5) ut).set (i * 7 + 6) um) (fl.set i g) := by
 have h1 := h.1
 refine ⟨by simp only [List.length_set]; exact h1, fun j hj => ?_⟩
 rw [List.length_set] at hj
 by_cases e : j = i
 ·subst e
  simp only [List.getElem_set_self]
  refine ⟨hg, ub, uk, ut, um, hr, fun q hq => ?_⟩
  have hlt : j * 7 + 6 < xs.length := by omega
  rcases (show q = 0 ∨ q = 1 ∨ q = 2 ∨ q = 3 ∨ q = 4 ∨ q = 5 ∨ q = 6 by omega) with rfl | rfl | rfl | rfl | rfl | rfl | rfl <;> (simp only [Nat.add_zero, List.getElem?_set, List.length_set]; simp [rhC]; omega)
 ·rw [List.getElem_set_ne (fun q => e q.symm)]
  obtain ⟨q0, ub', uk', ut', um', q1, q2⟩ := h.2 j hj
  refine ⟨q0, ub', uk', ut', um', q1, fun q hq => ?_⟩
  rw [← q2 q hq]
  repeat rw [List.getElem?_set_ne (by omega)]
theorem Q359.Y355 (h : p := by
 refine tk 8 rfl ?_
 obtain ⟨cx, fx, tx, fy, ty⟩ := HCX.out cF HBF.out
 refine rd1 9 rfl fun K hK => ?_
 go_simp
 refine hK.out _ _ (HKS2.out _ _ _ HBF.out) (fun hHeldZ => ?_)
 clear hK K hH01ABL
 try simp only [ap]
 refine tk 10 rfl ?_
 refine wpAnyH_done (by kernel_rfl) ?_ _
 refine NoPanic.normal ?_
 clear hHeldZ cx fx fy
 go_wp2_with fail
 refine bodyPost_ret (v := .tuple #[.agg #[.slice Ar (nA + 1) cr, .slice R N9 cR], .int .i64 0]) (by simp [results, Tryz.results12, go_sem, tx, ty]) rfl ?_
 exact HOUT.out cF Ar cr HOF.out HBRF.out HBF.out) : p := h
theorem M31 (h : p := by
 try simp only [ap]
 refine rd1 6 rfl fun K hK => ?_
 refine Dr zw01A rfl _ _ 22 33 rfl i0 _ 3 48 Tryz.underlying22 HSZ.out hi0 hz0 hz1 hz2 rfl (by decide) u0.heap.size v1 (.slice (some ⟨ib, 0, none⟩) 1 1) nA 1 xsA (#[Value.string ff, .int .u64 (at' : Nat), .slice A m cap] : Array Value).toList rfl rfl own1_01A.out one_01A.out (by simp only [maxLen]; omega) (by omega) HB01A.out.size ?_
 open Q359 in exact M355) : p := h
theorem Q354.Y350 (h : p := by
 clear hK K hH01L
 exact M31) : p := h
theorem M7 (h : p := by
 refine rd1 3 rfl fun K hK => ?_
 refine Dr zw01 rfl _ _ 22 33 rfl i0 _ 3 48 Tryz.underlying22 HSZ.out hi0 hz0 hz1 hz2 rfl (by decide) u0.heap.size (.slice (some ⟨ia, 0, none⟩) 0 0) (.slice AA nA cA) 0 nA [] xsA rfl rfl own0_01.out (HIN.out _ HB01.out) (by simp only [maxLen]; omega) (by omega) HB01.out.size ?_
 open Q354 in exact M350) : p := h
theorem Q539.Y535 (h : p := by
 clear hK K hH0AL
 exact M31) : p := h
theorem Q387.Y383 (h : p := by
 have one_01A : Hid (CIn zw01A (.slice (some ⟨ib, 0, none⟩) 1 1) 1 3 (#[Value.string ff, .int .u64 (at' : Nat), .slice A m cap] : Array Value).toList) := Lib.hid (by rw [hc01A, hib]; exact CIn.new zw0A _ _ rfl HONE.out)
 open Q539 in exact M535) : p := h
theorem Q330.Y324 (h : p := by
 refine rd1 5 rfl fun K hK => ?_
 go_simp
 obtain ⟨zw01A, hc01A⟩ : ∃ u, u = zw0A.alloc (.cells (#[Value.string ff, .int .u64 (at' : Nat), .slice A m cap] : Array Value) 33) := ⟨_, rfl⟩
 open Q387 in exact M383) : p := h
theorem Q402.Y395 (h : p := by
 refine hK.out _ _ (HKS.out _ HB01.out) (fun hH01L => ?_)
 clear hK K hH0L
 try simp only [ap]
 exact M7) : p := h
theorem Q293.Y286 (h : p := by
 have one_01 : Hid (CIn zw01 (.slice (some ⟨ib, 0, none⟩) 1 1) 1 3 (#[Value.string ff, .int .u64 (at' : Nat), .slice A m cap] : Array Value).toList) := Lib.hid (by rw [hc01, hib]; exact CIn.new zw0 _ _ rfl HONE.out)
 open Q402 in exact Yr) : p := h
theorem M13 (h : p := by
 refine rd2 3 5 rfl rfl (fun K hK => ?_) fun K hK => ?_
 ·refine Dr zw0 rfl _ _ 22 33 rfl i0 _ 3 48 Tryz.underlying22 HSZ.out hi0 hz0 hz1 hz2 rfl (by decide) u0.heap.size (.slice (some ⟨ia, 0, none⟩) 0 0) (.slice AA nA cA) 0 nA [] xsA rfl rfl own0_0.out (HIN.out _ HB0.out) (by simp only [maxLen]; omega) (by omega) HB0.out.size ?_
  open Q330 in exact LR
 ·go_simp
  obtain ⟨zw01, hc01⟩ : ∃ u, u = zw0.alloc (.cells (#[Value.string ff, .int .u64 (at' : Nat), .slice A m cap] : Array Value) 33) := ⟨_, rfl⟩
  open Q293 in exact Yt) : p := h
theorem Q272.Y270 (h : p := by
 refine hK.out _ _ (HKS.out _ HB01.out) (fun hH01L => ?_)
 clear hK K hH1L
 try simp only [ap]
 exact M7) : p := h
theorem M37 (h : p := by
 refine rd1 0 rfl fun K hK => ?_
 open Q272 in exact M270) : p := h
theorem Q517.Y513 (h : p := by
 clear cx
 exact M7) : p := h
theorem M113 (h : p := by
 open Q517 in exact M513) : p := h
theorem Q274.Y270 (h : p := by
 refine hK.out _ _ (HKS.out _ HB01.out) (fun hH01 => ?_)
 clear hK K hH1
 exact M113) : p := h
theorem Q403.Y395 (h : p := by
 refine hK.out _ _ (HKS.out _ HB01.out) (fun hH01 => ?_)
 clear hK K hH0
 exact M113) : p := h
theorem Q294.Y286 (h : p := by
 have one_01 : Hid (CIn zw01 (.slice (some ⟨ib, 0, none⟩) 1 1) 1 3 (#[Value.string ff, .int .u64 (at' : Nat), .slice A m cap] : Array Value).toList) := Lib.hid (by rw [hc01, hib]; exact CIn.new zw0 _ _ rfl HONE.out)
 open Q403 in exact Yr) : p := h
theorem Q649.Y645 (h : p := by
 try simp only [ap]
 exact M37) : p := h
theorem Q309.Y302 (h : p := by
 have one_1 : Hid (CIn zw1 (.slice (some ⟨ib, 0, none⟩) 1 1) 1 3 (#[Value.string ff, .int .u64 (at' : Nat), .slice A m cap] : Array Value).toList) := Lib.hid (by rw [hc1, hib]; exact CIn.new u0 _ _ rfl HONE.out)
 open Q649 in exact M645) : p := h
theorem Q593.Y589 (h : p := by
 clear cx
 exact M37) : p := h
theorem Q607.Y603 (h : p := by
 refine rd2 0 2 rfl rfl (fun K hK => ?_) fun K hK => ?_
 ·open Q274 in exact M270
 ·open Q593 in exact M589) : p := h
theorem Q310.Y302 (h : p := by
 have one_1 : Hid (CIn zw1 (.slice (some ⟨ib, 0, none⟩) 1 1) 1 3 (#[Value.string ff, .int .u64 (at' : Nat), .slice A m cap] : Array Value).toList) := Lib.hid (by rw [hc1, hib]; exact CIn.new u0 _ _ rfl HONE.out)
 open Q607 in exact M603) : p := h
theorem Q555.Y549 (h : p := by
 clear cx
 exact M13) : p := h
theorem Q426.Y423 (h : p := by
 refine hK.out _ _ (HKS.out _ HB0.out) (fun hH0 => ?_)
 clear hK K hHeld
 try simp only [ap]
 refine rd2 2 5 rfl rfl (fun K hK => ?_) fun K hK => ?_
 ·open Q555 in exact LO
 ·go_simp
  obtain ⟨zw01, hc01⟩ : ∃ u, u = zw0.alloc (.cells (#[Value.string ff, .int .u64 (at' : Nat), .slice A m cap] : Array Value) 33) := ⟨_, rfl⟩
  open Q294 in exact Yt) : p := h
theorem Q317.Y311 (h : p := by
 open Q426 in exact M423) : p := h
theorem Q427.Y423 (h : p := by
 refine hK.out _ _ (HKS.out _ HB0.out) (fun hH0L => ?_)
 clear hK K hHL
 try simp only [ap]
 exact M13) : p := h
theorem Q318.Y311 (h : p := by
 open Q427 in exact M423) : p := h
theorem Q527.Y521 (h : p := by
 refine rd2 0 5 rfl rfl (fun K hK => ?_) fun K hK => ?_
 ·go_simp
  obtain ⟨zw0, hc0⟩ : ∃ u, u = u0.alloc (.cells #[] 33) := ⟨_, rfl⟩
  open Q318 in exact JH
 ·go_simp
  obtain ⟨zw1, hc1⟩ : ∃ u, u = u0.alloc (.cells (#[Value.string ff, .int .u64 (at' : Nat), .slice A m cap] : Array Value) 33) := ⟨_, rfl⟩
  open Q309 in exact Ys) : p := h
theorem Q408.Y407 (h : p := by
 clear k5 k5n KS HCK
 have HCF : Hid (Calls Tryz.prog 23 #[.agg #[.slice AA nA cA, .slice AF nF cF], .string ff] w5 fun r w' => r = .returned (.int .i64 (OJ x.flows ff)) ∧ Below w5.heap.size w5 w') := Lib.hid (KT x _ _ ff w5 (HH.out w5 HB5.out))
 obtain ⟨fi, hfi⟩ : ∃ fi, fi = OJ x.flows ff := ⟨_, rfl⟩
 rw [← hfi] at HCF
 have HFI := Lib.hid hfi
 clear hfi
 obtain ⟨x0, x1, -⟩ := (HX.out w5 HB5.out).1.cells
 obtain ⟨y0, y1, y2, -⟩ := (HX.out w5 HB5.out).2.1.cells
 go_wp2_with fail
 refine HCF.out.mono ?_
 rintro r w6 ⟨rfl, hb6⟩
 have HB6 : Hid (Below W0.heap.size W0 w6) := Lib.hid (HB5.out.trans (hb6.mono HB5.out.size))
 clear hb6 HCF
 clear x0 x1
 clear y0 y1 y2
 obtain ⟨y0, y1, y2, -⟩ := (HX.out w6 HB6.out).2.1.cells
 go_wp2_with fail
 refine (rnew_any ff w6).mono ?_
 rintro r w7 ⟨rfl, hb7⟩
 have hb07 : Below W0.heap.size W0 w7 := HB6.out.trans (hb7.mono HB6.out.size)
 clear y0 y1 y2
 obtain ⟨g3, hg3⟩ : ∃ g, g = w7.heap.size := ⟨_, rfl⟩
 obtain ⟨W8, hW8⟩ : ∃ W8, W8 = w7.alloc (.cells #[.string ff, .slice none 0 0, .int .i64 0, .int .u64 1, .slice none 0 0, .slice none 0 0, .slice none 0 0] 52) := ⟨_, rfl⟩
 have HB8 : Hid (Below W0.heap.size W0 W8) := Lib.hid (by rw [hW8]; exact hb07.alloc hb07.size _)
 have HR8 : Hid (RX W8 g3 ff (.slice none 0 0) 0 1 (.slice none 0 0) (.slice none 0 0) (.slice none 0 0)) := Lib.hid (by rw [hW8, hg3]; exact heap_alloc_new w7 _)
 have HG3 : Hid (W0.heap.size ≤ g3) := Lib.hid (by rw [hg3]; exact hb07.size)
 clear hb7 hb07
 have HGG3 := Lib.hid hg3; have HW8 := Lib.hid hW8
 clear hg3 hW8
 unfold rhC
 go_upto_if 28 with fail
 rw [← HW8.out, ← HGG3.out]
 clear HW8 HGG3
 have HXL : Hid (∀ W, Below W0.heap.size W0 W → Leads (Du X w) (Du (fun c => X c ∨ c = w.heap.size + 1 + 1 ∨ c = g3) W)) := Lib.hid fun W hW => Dq (HBW.out W hW).size fun c hc hx => ⟨fun q => by
  rcases q with q | q | q
  ·exact hx q
  ·omega
  ·have := HG3.out; have := HS0.out; omega, (HBW.out W hW).block c hc⟩
 obtain ⟨hx, hhx⟩ : ∃ hx, hx = DF x b.flow := ⟨_, rfl⟩
 rw [← hhx] at HGH HHF
 have HHX := Lib.hid hhx
 clear hhx
 go_cut [] from 10 (fun wx => Below W0.heap.size W0 wx ∧ ∃ ub uk ut um, RX wx g3 ff ub hx.s.closed hx.s.next uk ut um ∧ RH (Du (fun c => X c ∨ c = w.heap.size + 1 + 1 ∨ c = g3) wx) hx ub uk ut um)
 case first =>
  cases hfx : Dx x.flows ff with
  | none =>
   have hfi : fi = -1 := by rw [HFI.out]; unfold OJ; rw [hfx]
   have HOUT : Hid (Below W0.heap.size W0 W8 ∧ ∃ ub uk ut um, RX W8 g3 ff ub hx.s.closed hx.s.next uk ut um ∧ RH (Du (fun c => X c ∨ c = w.heap.size + 1 + 1 ∨ c = g3) W8) hx ub uk ut um) := Lib.hid (by
    have e : hx = HM.new ff := by rw [HHX.out, ← HFF.out]; exact Pl hfx
    rw [e]
    exact ⟨HB8.out, _, _, _, _, HR8.out, rh_new _ ff⟩)
   clear hfx
   subst hfi
   have k1 : decide ((0 : Int) ≤ (-1 : Int)) = false := rfl
   go_wp2_with fail
   go_meet
   exact HOUT.out
  | some i =>
   have hfi : fi = (i : Nat) := by rw [HFI.out]; unfold OJ; rw [hfx]
   obtain ⟨hil, hif, -⟩ := Fa hfx
   have he : hx = x.flows[i] := by
    have e := Pk (x := x) (f := b.flow) (by rw [← HFF.out]; exact hfx) (List.getElem?_eq_getElem hil)
    rw [HHX.out]; exact e
   obtain ⟨xsV, hcinV, hcV⟩ := HV0.out.flows
   obtain ⟨-, ub, uk, ut, um, hrhV, hq⟩ := hcV.2 i hil
   obtain ⟨-, -, A9, c9, e9, -, -, hrd⟩ := hcinV
   rw [← HNF.out] at e9
   obtain ⟨rfl, rfl⟩ : AF = A9 ∧ cF = c9 := by injection e9 with a1 a2 a3; exact ⟨a1, a3⟩
   obtain ⟨rb, off, rfl, hblV, hr⟩ := hrd (by omega)
   have hbl : rb < w.heap.size := by rw [← DQ X w]; exact hblV
   rw [← he] at hrhV hq
   obtain ⟨⟨Bu, nu, cu, rfl⟩, ⟨Ak, nk, ck, rfl⟩, ⟨Aq, nt, ct, rfl⟩, ⟨Am, nm, cm, rfl⟩⟩ := hrhV.slices
   have d : ∀ q (hq7 : q < 7) v, (rhC hx.flow (.slice Bu nu cu) hx.s.closed hx.s.next (.slice Ak nk ck) (.slice Aq nt ct) (.slice Am nm cm))[q]? = some v → W8.cell? ⟨rb, off + i * 7 + q, none⟩ = some v := fun q hq7 v hv => by
    have := hr (i * 7 + q) v (by rw [hq q hq7]; exact hv)
    rw [← Nat.add_assoc] at this
    exact ((HBW.out W8 HB8.out).cell (p := ⟨rb, off + i * 7 + q, none⟩) hbl).trans ((Dg X w).cell this)
   have hflx : hx.flow = ff := by rw [HHF.out, HFF.out]
   have d0 := d 0 (by omega) (.string hx.flow) rfl; have d1 := d 1 (by omega) (.slice Bu nu cu) rfl; have d2 := d 2 (by omega) (.int .i64 hx.s.closed) rfl; have d3 := d 3 (by omega) (.int .u64 (hx.s.next : Nat)) rfl; have d4 := d 4 (by omega) (.slice Ak nk ck) rfl; have d5 := d 5 (by omega) (.slice Aq nt ct) rfl; have d6 := d 6 (by omega) (.slice Am nm cm) rfl
   rw [Nat.add_zero, hflx] at d0
   obtain ⟨W9, hW9⟩ : ∃ W9, W9 = ((((((W8.setCell ⟨g3, 0, none⟩ (.string ff)).setCell ⟨g3, 1, none⟩ (.slice Bu nu cu)).setCell ⟨g3, 2, none⟩ (.int .i64 hx.s.closed)).setCell ⟨g3, 3, none⟩ (.int .u64 (hx.s.next : Nat))).setCell ⟨g3, 4, none⟩ (.slice Ak nk ck)).setCell ⟨g3, 5, none⟩ (.slice Aq nt ct)).setCell ⟨g3, 6, none⟩ (.slice Am nm cm) := ⟨_, rfl⟩
   have HOUT : Hid (Below W0.heap.size W0 W9 ∧ ∃ ub uk ut um, RX W9 g3 ff ub hx.s.closed hx.s.next uk ut um ∧ RH (Du (fun c => X c ∨ c = w.heap.size + 1 + 1 ∨ c = g3) W9) hx ub uk ut um) := Lib.hid (by
    have hb9 : Below W0.heap.size W0 W9 := by rw [hW9]; exact Fn (g := g3) HB8.out HG3.out _ _ _ _ _ _ _
    refine ⟨hb9, _, _, _, _, ?_, hrhV.leads (HXL.out W9 hb9)⟩
    rw [hW9]; exact HR8.out.seven)
   have HW9 := Lib.hid hW9
   have hni : i < nF := by have := HNF.out; omega
   obtain ⟨x0, x1, -⟩ := (HX.out W8 HB8.out).1.cells
   obtain ⟨z0, z1, z2, z3, z4, z5, z6, zf⟩ := HR8.out.cells
   have zf0 := zf 0; have zf1 := zf 1; have zf2 := zf 2; have zf3 := zf 3; have zf4 := zf 4; have zf5 := zf 5; have zf6 := zf 6
   clear d hr hq hrd e9 hblV hcV hrhV hif he hfx hW9 zf
   generalize hx.s.closed = cl at *
   generalize hx.s.next = nx at *
   subst hfi
   have k1 : decide ((0 : Int) ≤ (i : Int)) = true := decide_eq_true (by omega)
   go_wp2_with fail
   rw [← HW9.out]
   go_meet
   exact HOUT.out
 case rest =>
  obtain ⟨hbx, ub, uk, ut, um, hrx, hrh⟩ := hcut
  clear HR8 HB8 W8 HB6 w6 w7
  obtain ⟨⟨Bu, nu, cu, rfl⟩, ⟨Ak, nk, ck, rfl⟩, ⟨Aq, nt, ct, rfl⟩, ⟨Am, nm, cm, rfl⟩⟩ := hrh.slices
  have hflx : hx.flow = ff := by rw [HHF.out, HFF.out]
  have HCR : Hid (Calls Tryz.prog 35 #[.agg (rhC ff (.slice Bu nu cu) hx.s.closed hx.s.next (.slice Ak nk ck) (.slice Aq nt ct) (.slice Am nm cm)), .agg #[.string ff, .int .u64 (at' : Nat), .slice A m cap]] wc (LM (fun c => X c ∨ c = w.heap.size + 1 + 1 ∨ c = g3) hx b wc)) := Lib.hid (by
   have hbw := HBW.out wc hbx
   have q := radd_any hx _ _ _ _ b A cap wc (fun c k => by
    rcases k with k | k | k
    ·exact Nat.lt_of_lt_of_le (HXB.out c k) hbw.size
    ·have := hbx.size; have := HS0.out; omega
    ·rw [k]; exact hrx.lt) hrh HGH.out.fine HGH.out.keys (by have := HGH.out.tot; have := HT.out; have := HMM.out; omega) (by have := HGH.out.len; omega) (EvsIn.leads HEVV.out (HXL.out wc hbx)) HBIN.out.slim HFL.out (by rw [← HAT.out]; exact hbat)
   rw [hflx, ← HFF.out, ← HAT.out, ← HMM.out] at q
   exact q)
  have HBX := Lib.hid hbx; have HRX := Lib.hid hrx; have HFLX := Lib.hid hflx
  obtain ⟨z0, z1, z2, z3, z4, z5, z6, zf⟩ := hrx.cells
  have zf0 := zf 0; have zf1 := zf 1; have zf2 := zf 2; have zf3 := zf 3; have zf4 := zf 4; have zf5 := zf 5; have zf6 := zf 6
  clear hrh hrx hbx hflx zf
  obtain ⟨y0, y1, y2, -⟩ := (HX.out wc HBX.out).2.1.cells
  obtain ⟨cl, hcl⟩ : ∃ cl, cl = hx.s.closed := ⟨_, rfl⟩
  obtain ⟨nx, hnx⟩ : ∃ nx, nx = hx.s.next := ⟨_, rfl⟩
  rw [← hcl, ← hnx] at HCR HRX
  rw [← hcl] at z2
  rw [← hnx] at z3
  unfold rhC at HCR
  clear hcl hnx
  go_wp2_with fail
  refine HCR.out.mono ?_
  rintro r w9 ⟨hb9, ub1, uk1, ut1, um1, rfl, hr9⟩
  obtain ⟨⟨Bu1, nu1, cu1, rfl⟩, ⟨Ak1, nk1, ck1, rfl⟩, ⟨Aq1, nt1, ct1, rfl⟩, ⟨Am1, nm1, cm1, rfl⟩⟩ := hr9.slices
  rw [HFLX.out]
  unfold rhC
  obtain ⟨h1, hh1⟩ : ∃ h', h' = (Dv hx b).2 := ⟨_, rfl⟩
  obtain ⟨cd, hcd⟩ : ∃ c, c = (Dv hx b).1 := ⟨_, rfl⟩
  have hfw1 : h1.flow = ff := by rw [hh1, Gm, HFLX.out]
  rw [← hh1] at hr9 ⊢
  rw [← hcd]
  have HH1 := Lib.hid hh1; have HCD := Lib.hid hcd; have HFW1 := Lib.hid hfw1
  have HB9 : Hid (Below W0.heap.size W0 w9) := Lib.hid (HBX.out.trans (hb9.mono HBX.out.size))
  have HG3L : Hid (g3 < w9.heap.size) := Lib.hid (Nat.lt_of_lt_of_le HRX.out.lt hb9.size)
  have hrx9 := HRX.out.later hb9 HRX.out.lt
  obtain ⟨W10, hW10⟩ : ∃ W10, W10 = ((((((w9.setCell ⟨g3, 0, none⟩ (.string ff)).setCell ⟨g3, 1, none⟩ (.slice Bu1 nu1 cu1)).setCell ⟨g3, 2, none⟩ (.int .i64 h1.s.closed)).setCell ⟨g3, 3, none⟩ (.int .u64 (h1.s.next : Nat))).setCell ⟨g3, 4, none⟩ (.slice Ak1 nk1 ck1)).setCell ⟨g3, 5, none⟩ (.slice Aq1 nt1 ct1)).setCell ⟨g3, 6, none⟩ (.slice Am1 nm1 cm1) := ⟨_, rfl⟩
  have HB10 : Hid (Below W0.heap.size W0 W10) := Lib.hid (by rw [hW10]; exact Fn (g := g3) HB9.out HG3.out _ _ _ _ _ _ _)
  have HR10 : Hid (RX W10 g3 ff (.slice Bu1 nu1 cu1) h1.s.closed h1.s.next (.slice Ak1 nk1 ck1) (.slice Aq1 nt1 ct1) (.slice Am1 nm1 cm1)) := Lib.hid (by rw [hW10]; exact hrx9.seven)
  have HRH10 : Hid (RH (Du (fun c => X c ∨ c = w.heap.size + 1 + 1 ∨ c = g3) W10) h1 (.slice Bu1 nu1 cu1) (.slice Ak1 nk1 ck1) (.slice Aq1 nt1 ct1) (.slice Am1 nm1 cm1)) := Lib.hid (hr9.leads (Dq (by rw [hW10]; simp [World.setCell]) fun c hc hxc => ⟨hxc, by rw [hW10]; exact Gx (fun e => hxc (.inr (.inr e))) ..⟩))
  clear z0 z1 z2 z3 z4 z5 z6 zf0 zf1 zf2 zf3 zf4 zf5 zf6
  obtain ⟨cl1, hcl1⟩ : ∃ c, c = h1.s.closed := ⟨_, rfl⟩
  obtain ⟨nx1, hnx1⟩ : ∃ c, c = h1.s.next := ⟨_, rfl⟩
  have HW10 := Lib.hid hW10
  obtain ⟨z0, z1, z2, z3, z4, z5, z6, zf⟩ := hrx9.cells
  have zf0 := zf 0; have zf1 := zf 1; have zf2 := zf 2; have zf3 := zf 3; have zf4 := zf 4; have zf5 := zf 5; have zf6 := zf 6
  rw [← hcl1, ← hnx1] at HR10 HW10 ⊢
  have HCL1 := Lib.hid hcl1; have HNX1 := Lib.hid hnx1
  clear zf hrx9 hr9 hb9 hW10 hh1 hcd hfw1 HCR HRX hcl1 hnx1
  clear y0 y1 y2
  go_upto_region 10 with fail
  rw [← HW10.out]
  clear z0 z1 z2 z3 z4 z5 z6 zf0 zf1 zf2 zf3 zf4 zf5 zf6
  by_cases hc : cd = 0
  rotate_left
  ·have kc : (cd != 0) = true := by simpa using hc
   have kc2 : (cd == 0) = false := by simpa using hc
   have HNE2 := Lib.hid hc
   have HA2 : Hid ((DC x b).1 = cd) := Lib.hid (by rw [addX_m HVT.out HN2.out (by rw [← HHX.out, ← HCD.out]; exact hc), ← HHX.out, ← HCD.out])
   clear hc
   obtain ⟨x0, x1, -⟩ := (HX.out W10 HB10.out).1.cells
   obtain ⟨q0, q1, qf⟩ := (HX.out W10 HB10.out).2.2.cells
   have qf0 := qf 0; have qf1 := qf 1
   clear qf
   go_wp2_with fail
   refine bodyPost_ret (v := .tuple #[.agg #[.slice AA nA cA, .slice AF nF cF], .int .i64 cd]) (by simp [results, Tryz.results12, go_sem, q0, q1]) rfl ?_
   exact HBAD.out cd HA2.out HNE2.out W10 HB10.out _ _
  subst hc
  have HADD := Lib.hid (addX_0 HVT.out HN2.out (by rw [← HHX.out, ← HCD.out]))
  go_upto_region 12 with fail
  obtain ⟨xsV, hcinV, hcV⟩ := HV0.out.flows
  rw [← HNF.out] at hcinV
  have HCV' := Lib.hid hcV; have HCIV := Lib.hid hcinV
  have HIN : Hid (∀ W, Below W0.heap.size W0 W → CIn W (.slice AF nF cF) nF 7 xsV) := Lib.hid fun W hW => (HCIV.out.leads (Dg X w)).later (HBW.out W hW)
  obtain ⟨i0, hi0, hz0, hz1, hz2⟩ := info_parts Tryz.infoRh
  have HSZ := Lib.hid (Oy hi0 hz1)
  obtain ⟨W11, hW11⟩ : ∃ W11, W11 = W10.alloc (.cells #[] 52) := ⟨_, rfl⟩
  have HB11 : Hid (Below W0.heap.size W0 W11) := Lib.hid (by rw [hW11]; exact HB10.out.alloc HB10.out.size _)
  have HO11 : Hid (W11.ownsRow W0.heap.size 52 7 (.slice (some ⟨W10.heap.size, 0, none⟩) 0 0) 0 []) := Lib.hid (by rw [hW11]; exact World.ownsRow_lit W10 #[] 0 HB10.out.size (Nat.zero_le _) (by simp))
  have hbx11 : Below W10.heap.size W10 W11 := by rw [hW11]; exact (Below.refl _ _).alloc (Nat.le_refl _) _
  have HBX11 := Lib.hid hbx11; have HW11 := Lib.hid hW11
  have hg0 : w.heap.size < W10.heap.size := by have := HB10.out.size; have := HS0.out; omega
  clear hcV hcinV hbx11 hW11
  obtain ⟨x0, x1, -⟩ := (HX.out W10 HB10.out).1.cells
  go_upto_if 49 with (at_builtin; rw [← HW11.out]; refine DA _ rfl _ _ 27 52 rfl i0 _ 7 128 Tryz.underlying27 HSZ.out hi0 hz0 hz1 hz2 rfl (by decide) W0.heap.size _ _ 0 nF [] xsV rfl rfl HO11.out (HIN.out _ HB11.out) (by simp only [maxLen]; omega) (by omega) HB11.out.size ?_; intro v12 w12 hown hgrow hat12)
  rw [Nat.zero_add, List.nil_append] at hown
  have HB12 : Hid (Below W0.heap.size W0 w12) := Lib.hid (DD HB11.out hgrow (fun r hr => (HO11.out.lt r hr).1) HB11.out.size)
  have hbx12 : Below W10.heap.size W10 w12 := DD HBX11.out hgrow (fun r hr => by have e : W10.heap.size = r := Option.some.inj hr; omega) HBX11.out.size
  have HR12 : Hid (RX w12 g3 ff (.slice Bu1 nu1 cu1) cl1 nx1 (.slice Ak1 nk1 ck1) (.slice Aq1 nt1 ct1) (.slice Am1 nm1 cm1)) := Lib.hid (HR10.out.later hbx12 HR10.out.lt)
  have HRH12 : Hid (RH (Du (fun c => X c ∨ c = w.heap.size + 1 + 1 ∨ c = g3) w12) h1 (.slice Bu1 nu1 cu1) (.slice Ak1 nk1 ck1) (.slice Aq1 nt1 ct1) (.slice Am1 nm1 cm1)) := Lib.hid (HRH10.out.leads (Dw _ hbx12))
  have HO12 := Lib.hid hown
  have HONE : Hid (∀ x ∈ (#[.string ff, .slice Bu1 nu1 cu1, .int .i64 cl1, .int .u64 (nx1 : Nat), .slice Ak1 nk1 ck1, .slice Aq1 nt1 ct1, .slice Am1 nm1 cm1] : Array Value).toList, x.oneCell' = true) := Lib.hid (by intro x hx; simp at hx; rcases hx with rfl | rfl | rfl | rfl | rfl | rfl | rfl <;> rfl)
  have HZ2 : Hid (∀ W, Below W0.heap.size W0 W → Leads (Du X w) (Du (fun c => X c ∨ c = w.heap.size + 1 + 1) W)) := Lib.hid fun W hW => Dq (HBW.out W hW).size fun c hc hx => ⟨fun q => by
   rcases q with q | q
   ·exact hx q
   ·omega, (HBW.out W hW).block c hc⟩
  have HZB : Hid (∀ c, (fun c => X c ∨ c = w.heap.size + 1 + 1) c → c < W0.heap.size) := Lib.hid fun c k => by
   rcases k with k | k
   ·have := HXB.out c k; have := HS0.out; omega
   ·have := HS0.out; omega
  have HFL1 : Hid (h1.flow.size ≤ maxLen) := Lib.hid (by rw [HFW1.out, HFF.out]; exact HFL.out)
  have HRHX : Hid (∀ W, Below W10.heap.size W10 W → RH (Du (fun c => X c ∨ c = w.heap.size + 1 + 1) W) h1 (.slice Bu1 nu1 cu1) (.slice Ak1 nk1 ck1) (.slice Aq1 nt1 ct1) (.slice Am1 nm1 cm1)) := Lib.hid fun W hW => HRH10.out.leads (Dq hW.size fun c hc hx => ⟨fun q => hx (by
   rcases q with q | q
   ·exact .inl q
   ·exact .inr (.inl q)), hW.block c hc⟩)
  have HA12 : Hid (∀ r, v12.ownBlock = some r → W10.heap.size ≤ r) := Lib.hid fun r hr => by
   have := HBX11.out.size
   rcases hat12 with e | e
   ·have e2 : W10.heap.size = r := Option.some.inj (e.symm.trans hr); omega
   ·have e2 : W11.heap.size = r := Option.some.inj (e.symm.trans hr); omega
  have HBX12 := Lib.hid hbx12
  clear hown hgrow hat12 hbx12 x0 x1
  go_cut [9] from 10 (fun v9 wx => ∃ R N9 cR, v9 = .slice R N9 cR ∧ Below W0.heap.size W0 wx ∧ RHs (Du (fun c => X c ∨ c = w.heap.size + 1 + 1) wx) (.slice R N9 cR) (DC x b).2.flows)
  case first =>
   obtain ⟨z0, z1, z2, z3, z4, z5, z6, -⟩ := HR12.out.cells
   cases hfx : Dx x.flows ff with
   | none =>
    have hfi : fi = -1 := by rw [HFI.out]; unfold OJ; rw [hfx]
    have HFX : Hid ((DC x b).2.flows = x.flows ++ [h1]) := Lib.hid (by rw [HADD.out.2.2, ← HFF.out, hfx, HH1.out, HHX.out, HFF.out])
    clear hfx
    subst hfi
    obtain ⟨W13, hW13⟩ : ∃ W13, W13 = w12.alloc (.cells #[.string ff, .slice Bu1 nu1 cu1, .int .i64 cl1, .int .u64 (nx1 : Nat), .slice Ak1 nk1 ck1, .slice Aq1 nt1 ct1, .slice Am1 nm1 cm1] 52) := ⟨_, rfl⟩
    have HB13 : Hid (Below W0.heap.size W0 W13) := Lib.hid (by rw [hW13]; exact HB12.out.alloc HB12.out.size _)
    have HO13 : Hid (W13.ownsRow W0.heap.size 52 7 v12 nF xsV) := Lib.hid (by rw [hW13]; exact HO12.out.alloc _)
    have HI13 : Hid (CIn W13 (.slice (some ⟨w12.heap.size, 0, none⟩) 1 1) 1 7 (#[.string ff, .slice Bu1 nu1 cu1, .int .i64 cl1, .int .u64 (nx1 : Nat), .slice Ak1 nk1 ck1, .slice Aq1 nt1 ct1, .slice Am1 nm1 cm1] : Array Value).toList) := Lib.hid (by rw [hW13]; exact CIn.new w12 _ _ rfl HONE.out)
    have HBX13 : Hid (Below w12.heap.size w12 W13) := Lib.hid (by rw [hW13]; exact (Below.refl _ _).alloc (Nat.le_refl _) _)
    have HW13 := Lib.hid hW13
    clear hW13
    obtain ⟨A12, c12, rfl, hbr12⟩ := Fj HO12.out
    have HBR12 := Lib.hid hbr12
    clear hbr12
    go_wp2_with (at_builtin; rw [← HW13.out]; refine DA _ rfl _ _ 27 52 rfl i0 _ 7 128 Tryz.underlying27 HSZ.out hi0 hz0 hz1 hz2 rfl (by decide) W0.heap.size _ _ nF 1 xsV (#[.string ff, .slice Bu1 nu1 cu1, .int .i64 cl1, .int .u64 (nx1 : Nat), .slice Ak1 nk1 ck1, .slice Aq1 nt1 ct1, .slice Am1 nm1 cm1] : Array Value).toList rfl rfl HO13.out HI13.out (by simp only [maxLen]; omega) (by omega) HB13.out.size ?_; intro v14 w14 hown hgrow hat14)
    have HB14 : Hid (Below W0.heap.size W0 w14) := Lib.hid (DD HB13.out hgrow (fun r hr => (HO13.out.lt r hr).1) HB13.out.size)
    have HOUT : Hid (∃ R N9 cR, v14 = .slice R N9 cR ∧ Below W0.heap.size W0 w14 ∧ RHs (Du (fun c => X c ∨ c = w.heap.size + 1 + 1) w14) (.slice R N9 cR) (DC x b).2.flows) := Lib.hid (by
     obtain ⟨R, cR, rfl, -⟩ := Fj hown
     have HRH14 := HRHX.out w14 (DD (HBX12.out.trans (HBX13.out.mono HBX12.out.size)) hgrow HA12.out (Nat.le_trans HBX12.out.size HBX13.out.size))
     refine ⟨R, nF + 1, cR, rfl, HB14.out, ?_⟩
     rw [HFX.out]
     have e : (x.flows ++ [h1]).length = nF + 1 := by rw [List.length_append, ← HNF.out]; rfl
     refine ⟨xsV ++ (#[.string ff, .slice Bu1 nu1 cu1, .int .i64 cl1, .int .u64 (nx1 : Nat), .slice Ak1 nk1 ck1, .slice Aq1 nt1 ct1, .slice Am1 nm1 cm1] : Array Value).toList, ?_, ?_⟩
     ·rw [e]
      refine CIn.of_veil hown ?_ HZB.out
      intro y hy
      rcases List.mem_append.1 hy with q | q
      ·exact HCIV.out.2.1 y q
      ·exact HONE.out y q
     ·have hone := RHsC.one (V := Du (fun c => X c ∨ c = w.heap.size + 1 + 1) w14) HFL1.out HRH14
      rw [HFW1.out, ← HCL1.out, ← HNX1.out] at hone
      exact (HCV'.out.leads (HZ2.out w14 HB14.out)).append hone)
    clear hown hgrow hat14
    go_meet
    exact HOUT.out
   | some i =>
    have hfi : fi = (i : Nat) := by rw [HFI.out]; unfold OJ; rw [hfx]
    have HFX : Hid ((DC x b).2.flows = x.flows.set i h1) := Lib.hid (by rw [HADD.out.2.2, ← HFF.out, hfx, HH1.out, HHX.out, HFF.out])
    obtain ⟨hil, -, -⟩ := Fa hfx
    have hni : i < nF := by have := HNF.out; omega
    obtain ⟨r12, c12, rfl⟩ : ∃ r c, v12 = .slice (some ⟨r, 0, none⟩) nF c := by
     rcases HO12.out.2 with ⟨-, h0⟩ | ⟨r, cp, cur, e, -⟩
     ·omega
     ·exact ⟨r, cp, e⟩
    obtain ⟨-, ub0, uk0, ut0, um0, -, hq⟩ := HCV'.out.2 i hil
    have d : ∀ q (hq7 : q < 7) v, (rhC x.flows[i].flow ub0 x.flows[i].s.closed x.flows[i].s.next uk0 ut0 um0)[q]? = some v → w12.cell? ⟨r12, i * 7 + q, none⟩ = some v := fun q hq7 v hv => XA HO12.out (by rw [hq q hq7]; exact hv)
    have d0 := d 0 (by omega) _ rfl; have d1 := d 1 (by omega) _ rfl; have d2 := d 2 (by omega) _ rfl; have d3 := d 3 (by omega) _ rfl; have d4 := d 4 (by omega) _ rfl; have d5 := d 5 (by omega) _ rfl; have d6 := d 6 (by omega) _ rfl
    rw [Nat.add_zero] at d0
    have hfree : ∀ q, w12.frozen? ⟨r12, q, none⟩ = false := fun q => (Xz HO12.out).1
    have f0 := hfree (i * 7); have f1 := hfree (i * 7 + 1); have f2 := hfree (i * 7 + 2); have f3 := hfree (i * 7 + 3); have f4 := hfree (i * 7 + 4); have f5 := hfree (i * 7 + 5); have f6 := hfree (i * 7 + 6)
    obtain ⟨W15, hW15⟩ : ∃ W15, W15 = ((((((w12.setCell ⟨r12, i * 7, none⟩ (.string ff)).setCell ⟨r12, i * 7 + 1, none⟩ (.slice Bu1 nu1 cu1)).setCell ⟨r12, i * 7 + 2, none⟩ (.int .i64 cl1)).setCell ⟨r12, i * 7 + 3, none⟩ (.int .u64 (nx1 : Nat))).setCell ⟨r12, i * 7 + 4, none⟩ (.slice Ak1 nk1 ck1)).setCell ⟨r12, i * 7 + 5, none⟩ (.slice Aq1 nt1 ct1)).setCell ⟨r12, i * 7 + 6, none⟩ (.slice Am1 nm1 cm1) := ⟨_, rfl⟩
    have HOUT : Hid (∃ R N9 cR, (Value.slice (some ⟨r12, 0, none⟩) nF c12) = .slice R N9 cR ∧ Below W0.heap.size W0 W15 ∧ RHs (Du (fun c => X c ∨ c = w.heap.size + 1 + 1) W15) (.slice R N9 cR) (DC x b).2.flows) := Lib.hid (by
     have hge := (Xz (j := 0) HO12.out).2
     have hge10 : W10.heap.size ≤ r12 := HA12.out r12 rfl
     have hb15 : ∀ B W, B ≤ r12 → Below B W w12 → Below B W W15 := fun B W hB hw => by
      rw [hW15]
      exact ((((((hw.setCell (p := ⟨r12, i * 7, none⟩) hB _).setCell (p := ⟨r12, i * 7 + 1, none⟩) hB _).setCell (p := ⟨r12, i * 7 + 2, none⟩) hB _).setCell (p := ⟨r12, i * 7 + 3, none⟩) hB _).setCell (p := ⟨r12, i * 7 + 4, none⟩) hB _).setCell (p := ⟨r12, i * 7 + 5, none⟩) hB _).setCell (p := ⟨r12, i * 7 + 6, none⟩) hB _
     have HB15 := hb15 W0.heap.size W0 hge HB12.out
     have HRH15 := HRHX.out W15 (hb15 _ _ hge10 HBX12.out)
     have hown15 : W15.ownsRow W0.heap.size 52 7 (.slice (some ⟨r12, 0, none⟩) nF c12) nF (((((((xsV.set (i * 7) (.string ff)).set (i * 7 + 1) (.slice Bu1 nu1 cu1)).set (i * 7 + 2) (.int .i64 cl1)).set (i * 7 + 3) (.int .u64 (nx1 : Nat))).set (i * 7 + 4) (.slice Ak1 nk1 ck1)).set (i * 7 + 5) (.slice Aq1 nt1 ct1)).set (i * 7 + 6) (.slice Am1 nm1 cm1)) := by
      rw [hW15]
      exact Oe (Oe (Oe (Oe (Oe (Oe (Oe HO12.out _) _) _) _) _) _) _
     refine ⟨_, nF, c12, rfl, HB15, ?_⟩
     rw [HFX.out]
     have e : (x.flows.set i h1).length = nF := by rw [List.length_set, ← HNF.out]
     refine ⟨((((((xsV.set (i * 7) (.string ff)).set (i * 7 + 1) (.slice Bu1 nu1 cu1)).set (i * 7 + 2) (.int .i64 cl1)).set (i * 7 + 3) (.int .u64 (nx1 : Nat))).set (i * 7 + 4) (.slice Ak1 nk1 ck1)).set (i * 7 + 5) (.slice Aq1 nt1 ct1)).set (i * 7 + 6) (.slice Am1 nm1 cm1), ?_, ?_⟩
     rotate_left
     ·have hset := rhsC_set (HCV'.out.leads (HZ2.out W15 HB15)) i hil h1 HFL1.out HRH15
      rw [HFW1.out, ← HCL1.out, ← HNX1.out] at hset
      exact hset
     ·rw [e]
      exact CIn.of_veil hown15 (Ot (Ot (Ot (Ot (Ot (Ot (Ot HCIV.out.2.1 rfl) rfl) rfl) rfl) rfl) rfl) rfl) HZB.out)
    have HW15 := Lib.hid hW15
    clear d hq hfree hfx hW15
    generalize x.flows[i].flow = ffi at *
    generalize x.flows[i].s.closed = cli at *
    generalize x.flows[i].s.next = nxi at *
    subst hfi
    have k1 : decide ((i : Int) < (0 : Int)) = false := decide_eq_false (by omega)
    go_wp2_with fail
    rw [← HW15.out]
    go_meet
    exact HOUT.out
  case rest =>
   obtain ⟨R, N9, cR, rfl, hbc, hrhs⟩ := hcut
   have HBC := Lib.hid hbc; have HRHS := Lib.hid hrhs
   obtain ⟨i1, hi1, hy0, hy1, hy2⟩ := info_parts Tryz.infoBt
   have HSZ := Lib.hid (Oy hi1 hy1)
   obtain ⟨xsA, hcinA, hbtA⟩ := HV0.out.all
   rw [← HNA.out] at hcinA
   have HCIA := Lib.hid hcinA; have HBTA := Lib.hid hbtA
   clear hcinA hbtA hbc hrhs hi0 hz0 hz1 hz2
   obtain ⟨i0, hi0, hz0, hz1, hz2⟩ : ∃ i0 : TypeInfo, Tryz.prog.info? 33 = some i0 ∧ i0.zero = _ ∧ i0.size = _ ∧ i0.bytes = _ := ⟨i1, hi1, hy0, hy1, hy2⟩
   have HONE : Hid (∀ x ∈ (#[Value.string ff, .int .u64 (at' : Nat), .slice A m cap] : Array Value).toList, x.oneCell' = true) := Lib.hid (by intro x hx; simp at hx; rcases hx with rfl | rfl | rfl <;> rfl)
   obtain ⟨u0, hu0⟩ : ∃ u, u = wc.drew := ⟨_, rfl⟩
   have HBU : Hid (Below wc.heap.size wc u0) := Lib.hid (by rw [hu0]; exact Da (Below.refl _ _))
   have HBu1 : Hid (∀ W, Below u0.heap.size u0 W → Below W0.heap.size W0 W) := Lib.hid fun W hW => HBC.out.trans ((HBU.out.trans (hW.mono HBU.out.size)).mono HBC.out.size)
   have HBu0 : Hid (W0.heap.size ≤ u0.heap.size) := Lib.hid (Nat.le_trans HBC.out.size HBU.out.size)
   have HBu : Hid (Below u0.heap.size u0 u0) := Lib.hid (Below.refl _ _)
   have HKS : Hid (∀ W, Below u0.heap.size u0 W → (fun W : World => W.cell? ⟨w.heap.size + 1, 0, none⟩ = some (.string ff) ∧ W.cell? ⟨w.heap.size + 1, 1, none⟩ = some (.int .u64 (at' : Nat)) ∧ W.cell? ⟨w.heap.size + 1, 2, none⟩ = some (.slice A m cap)) W) := Lib.hid fun W hW => by
    exact M174
   have HKS2 : Hid (∀ W v v', Below u0.heap.size u0 W → (fun W : World => W.cell? ⟨w.heap.size + 1, 0, none⟩ = some (.string ff) ∧ W.cell? ⟨w.heap.size + 1, 1, none⟩ = some (.int .u64 (at' : Nat)) ∧ W.cell? ⟨w.heap.size + 1, 2, none⟩ = some (.slice A m cap)) ((W.setCell ⟨w.heap.size + 1 + 1, 0, none⟩ v).setCell ⟨w.heap.size + 1 + 1, 1, none⟩ v')) := Lib.hid fun W v v' hW => by
    have d2 : BB ((W.setCell ⟨w.heap.size + 1 + 1, 0, none⟩ v).setCell ⟨w.heap.size + 1 + 1, 1, none⟩ v') (w.heap.size + 1) ff at' A m cap := (RowKit.Below.heap_setCell _ _ _ _ (by show w.heap.size + 1 ≠ w.heap.size + 1 + 1; omega)).trans ((RowKit.Below.heap_setCell _ _ _ _ (by show w.heap.size + 1 ≠ w.heap.size + 1 + 1; omega)).trans (HX.out W (HBu1.out W hW)).2.1)
    obtain ⟨a0, a1, a2, -⟩ := BB.cells d2
    exact ⟨a0, a1, a2⟩
   have HCX : Hid (∀ W, Below u0.heap.size u0 W → W.cell? ⟨w.heap.size, 0, none⟩ = some (.slice AA nA cA) ∧ W.frozen? ⟨w.heap.size + 1 + 1, 0, none⟩ = false ∧ W.cell? ⟨w.heap.size + 1 + 1, 0, none⟩ = some (.slice none 0 0) ∧ W.frozen? ⟨w.heap.size + 1 + 1, 1, none⟩ = false ∧ W.cell? ⟨w.heap.size + 1 + 1, 1, none⟩ = some (.slice none 0 0)) := Lib.hid fun W hW => ⟨(HX.out W (HBu1.out W hW)).1.cells.1, (HX.out W (HBu1.out W hW)).2.2.cells.2.2 0, (HX.out W (HBu1.out W hW)).2.2.cells.1, (HX.out W (HBu1.out W hW)).2.2.cells.2.2 1, (HX.out W (HBu1.out W hW)).2.2.cells.2.1⟩
   have HIN : Hid (∀ W, Below u0.heap.size u0 W → CIn W (.slice AA nA cA) nA 3 xsA) := Lib.hid fun W hW => (HCIA.out.leads (Dg X w)).later (HBW.out W (HBu1.out W hW))
   have HOUT : Hid (∀ (cF : World) (Ar : Option Addr) (cr : Nat), cF.ownsRow u0.heap.size 33 3 (.slice Ar (nA + 1) cr) (nA + 1) (xsA ++ (#[Value.string ff, .int .u64 (at' : Nat), .slice A m cap] : Array Value).toList) → (∀ r, Dl Ar = some r → u0.heap.size ≤ r) → Below u0.heap.size u0 cF →
     Yq X x b w (.returned (.tuple #[.agg #[.slice Ar (nA + 1) cr, .slice R N9 cR], .int .i64 0])) ((cF.setCell ⟨w.heap.size + 1 + 1, 0, none⟩ (.slice Ar (nA + 1) cr)).setCell ⟨w.heap.size + 1 + 1, 1, none⟩ (.slice R N9 cR))) := Lib.hid fun cF Ar cr ho hbr hbF => by
    have hs := HS0.out; have hu := HBu0.out
    obtain ⟨W7, hW7⟩ : ∃ W, W = (cF.setCell ⟨w.heap.size + 1 + 1, 0, none⟩ (.slice Ar (nA + 1) cr)).setCell ⟨w.heap.size + 1 + 1, 1, none⟩ (.slice R N9 cR) := ⟨_, rfl⟩
    rw [← hW7]
    have hoff : ∀ c, c ≠ w.heap.size + 1 + 1 → W7.heap[c]? = cF.heap[c]? := fun c hc => by rw [hW7]; exact (RowKit.Below.heap_setCell _ _ _ _ hc).trans (RowKit.Below.heap_setCell _ _ _ _ hc)
    have hz7 : W7.heap.size = cF.heap.size := by rw [hW7]; simp [World.setCell]
    have hb7 : Below w.heap.size w W7 := by rw [hW7]; exact ((HBW.out cF (HBu1.out cF hbF)).setCell (p := ⟨w.heap.size + 1 + 1, 0, none⟩) (Nat.le_succ_of_le (Nat.le_succ _)) _).setCell (p := ⟨w.heap.size + 1 + 1, 1, none⟩) (Nat.le_succ_of_le (Nat.le_succ _)) _
    have ho7 := DO (w' := W7) ho (fun r hr => hoff r (by have := hbr r hr; omega))
    refine ⟨hb7, _, _, by rw [HADD.out.1], ?_, ?_⟩
    ·rw [HADD.out.2.1]
     have e : (x.all ++ [b]).length = nA + 1 := by rw [List.length_append, ← HNA.out]; rfl
     refine ⟨xsA ++ (#[Value.string ff, .int .u64 (at' : Nat), .slice A m cap] : Array Value).toList, ?_, ?_⟩
     ·rw [e]
      refine CIn.of_veil ho7 ?_ (by intro c hc; have := HXB.out c hc; omega)
      intro y hy
      rcases List.mem_append.1 hy with q | q
      ·exact HCIA.out.2.1 y q
      ·exact HONE.out y q
     ·have hone := BtC.one (V := Du X W7) HFL.out (by rw [← HAT.out]; exact hbat) (EvsIn.leads HEVV.out (Dw X hb7))
      rw [← HAT.out, ← HFF.out, ← HMM.out] at hone
      exact (HBTA.out.leads (Dw X hb7)).append hone
    ·exact HRHS.out.leads (Dq (by rw [hz7]; exact Nat.le_trans HBU.out.size hbF.size) fun c hc hx => ⟨fun q => hx (.inl q), (hoff c fun q => hx (.inr q)).trans ((hbF.block c (Nat.lt_of_lt_of_le hc HBU.out.size)).trans (HBU.out.block c hc))⟩)
   clear HBU
   go_upto_region 16 with fail
   refine wp_region_noPanic ?_
   refine wp_region_held_drew (S := (fun W : World => W.cell? ⟨w.heap.size + 1, 0, none⟩ = some (.string ff) ∧ W.cell? ⟨w.heap.size + 1, 1, none⟩ = some (.int .u64 (at' : Nat)) ∧ W.cell? ⟨w.heap.size + 1, 2, none⟩ = some (.slice A m cap))) (by kernel_rfl) ?_ (fun hHeld => ?_)
   ·exact M104
   rw [← hu0] at hHeld
   rw [← hu0]
   replace hu0 := Lib.hid hu0
   refine tk 1 rfl ?_
   refine tk 4 rfl ?_
   refine tk 7 rfl ?_
   refine wpAnyH_ready (rs := [0, 2, 5]) (by kernel_rfl) (by simp) ?_
   refine Dj rfl (fun K hK => ?_) (Dj rfl (fun K hK => ?_) (Dj rfl (fun K hK => ?_) AllReadyH.nil))
   ·go_simp
    obtain ⟨zw0, hc0⟩ : ∃ u, u = u0.alloc (.cells #[] 33) := ⟨_, rfl⟩
    open Q317 in exact JH
   ·open Q527 in exact LP
   ·go_simp
    obtain ⟨zw1, hc1⟩ : ∃ u, u = u0.alloc (.cells (#[Value.string ff, .int .u64 (at' : Nat), .slice A m cap] : Array Value) 33) := ⟨_, rfl⟩
    open Q310 in exact Ys) : p := h
theorem Q409.Y407 (h : p := by
 obtain ⟨x0, x1, -⟩ := (HX.out w5 HB5.out).1.cells
 obtain ⟨y0, y1, y2, -⟩ := (HX.out w5 HB5.out).2.1.cells
 obtain ⟨q0, q1, qf⟩ := (HX.out w5 HB5.out).2.2.cells
 have qf0 := qf 0; have qf1 := qf 1
 clear qf
 go_wp2_with fail
 refine bodyPost_ret (v := .tuple #[.agg #[.slice AA nA cA, .slice AF nF cF], .int .i64 12]) (by simp [results, Tryz.results12, go_sem, q0, q1]) rfl ?_
 exact HBAD.out 12 HA2.out HNE2.out w5 HB5.out _ _) : p := h
theorem M407 (h : p := by
 refine wp_region_noPanic ?_
 refine wp_region_held_drew (S := (fun W : World => W.cell? ⟨w.heap.size, 0, none⟩ = some (.slice AA nA cA) ∧ W.cell? ⟨w.heap.size, 1, none⟩ = some (.slice AF nF cF) ∧ W.cell? ⟨w.heap.size + 1, 1, none⟩ = some (.int .u64 (at' : Nat)))) (by kernel_rfl) ?_ (fun hHeld => ?_)
 ·exact M49
 refine tk 0 rfl ?_
 refine tk 1 rfl ?_
 refine tk 2 rfl ?_
 refine rd1 3 rfl fun K hK => ?_
 go_simp
 (with_reducible refine HCK.out.mono ?_)
 rintro e5 w5 ⟨rfl, hb9⟩
 have hq5 : Below w1.heap.size w1 w5 := (Da (Below.refl _ _)).trans hb9
 have HQ5 := Lib.hid hq5
 clear hb9 hq5
 go_wp2_with fail
 refine hK.out _ _ (KS.out _ HQ5.out) (fun hHeld2 => ?_)
 clear hK K hHeld
 try simp only [ap]
 refine tk 4 rfl ?_
 refine wpAnyH_done (by kernel_rfl) ?_ _
 refine NoPanic.normal ?_
 clear hHeld2
 have HB5 : Hid (Below W0.heap.size W0 w5) := Lib.hid (HB1.out.trans (HQ5.out.mono HB1.out.size))
 exact Y407) : p := h
theorem KL (x : XM) (uA uF : Value) (b : BT) (A : Option Addr) (cap : Nat) (w : World) (hXB : ∀ c, X c → c < w.heap.size) (h : RIx (Du X w) x uA uF) {T N : Nat} (hg : XGood x T N) (hT : T + b.es.length ≤ 1100000000000) (hN : N ≤ 1000000) (hbin : BIn b) (hev : EvsIn (Du X w) A cap b.es) (hfl : b.flow.size ≤ maxLen) (hbat : b.at' < 18446744073709551616) :
  Calls Tryz.prog 12 #[.agg #[uA, uF], .agg #[.string b.flow, .int .u64 (b.at' : Nat), .slice A b.es.length cap]] w (Yq X x b w) := by
 obtain ⟨⟨AA, cA, rfl, hA1, hA2⟩, AF, cF, rfl, hF1, hF2⟩ := h.slices
 have hle := hev.le
 have hcm := hev.cap_le
 simp only [maxLen] at hcm hA2 hF2
 have hgh := (Oh hg b.flow).1
 have hhf := Pm x b.flow
 have hnA := hg.alen
 have hnF := hg.len
 obtain ⟨m, hm'⟩ : ∃ m, m = b.es.length := ⟨_, rfl⟩
 obtain ⟨ff, hff⟩ : ∃ ff, ff = b.flow := ⟨_, rfl⟩
 obtain ⟨at', hat⟩ : ∃ at', at' = b.at' := ⟨_, rfl⟩
 obtain ⟨nA, hnnA⟩ : ∃ x', x' = x.all.length := ⟨_, rfl⟩
 obtain ⟨nF, hnnF⟩ : ∃ x', x' = x.flows.length := ⟨_, rfl⟩
 have HV0 := Lib.hid h
 have HEVV := Lib.hid hev
 replace hev := EvsIn.leads hev (Dg X w)
 have H0 := Lib.hid (h.leads (Dg X w))
 have HXB := Lib.hid hXB
 rw [← hnnA] at H0 HV0 hA1 hnA
 rw [← hnnF] at H0 HV0 hF1 hnF
 rw [← hm'] at hle hT
 rw [← hat] at hbat
 rw [← hm', ← hff, ← hat, ← hnnA, ← hnnF]
 have HEV0 := Lib.hid hev; have HT := Lib.hid hT; have HGH := Lib.hid hgh; have HHF := Lib.hid hhf; have HFL := Lib.hid hfl; have HBAT := Lib.hid hbat; have HBIN := Lib.hid hbin
 have HMM := Lib.hid hm'; have HFF := Lib.hid hff; have HAT := Lib.hid hat; have HNA := Lib.hid hnnA; have HNF := Lib.hid hnnF
 clear h hev hXB hT hgh hhf hfl hbin hm' hff hat hnnA hnnF hg
 obtain ⟨W0, hW0⟩ : ∃ W0, W0 = ((w.alloc (.cells #[.slice AA nA cA, .slice AF nF cF] 29)).alloc (.cells #[.string ff, .int .u64 (at' : Nat), .slice A m cap] 33)).alloc (.cells #[.slice none 0 0, .slice none 0 0] 29) := ⟨_, rfl⟩
 have hs0 : W0.heap.size = w.heap.size + 3 := by rw [hW0]; simp
 have hb0 : Below w.heap.size w W0 := by rw [hW0]; exact (((Below.refl _ _).alloc (Nat.le_refl _) _).alloc (by simp) _).alloc (by simp; omega) _
 have hx0 : IBox W0 w.heap.size (.slice AA nA cA) (.slice AF nF cF) := by rw [hW0]; exact (heap_alloc_old _ _ (by simp; omega)).trans ((heap_alloc_old _ _ (by simp)).trans (heap_alloc_new w _))
 have hx1 : W0.heap[w.heap.size + 1]? = some (.cells #[.string ff, .int .u64 (at' : Nat), .slice A m cap] 33 (0, 0)) := by
  rw [hW0, heap_alloc_old _ _ (by simp)]
  have e := heap_alloc_new (w.alloc (.cells #[.slice AA nA cA, .slice AF nF cF] 29)) (.cells #[.string ff, .int .u64 (at' : Nat), .slice A m cap] 33)
  exact M97
 have hx2 : IBox W0 (w.heap.size + 2) (.slice none 0 0) (.slice none 0 0) := by
  rw [hW0]
  have e := heap_alloc_new ((w.alloc (.cells #[.slice AA nA cA, .slice AF nF cF] 29)).alloc (.cells #[.string ff, .int .u64 (at' : Nat), .slice A m cap] 33)) (.cells #[.slice none 0 0, .slice none 0 0] 29)
  simp only [World.size_alloc] at e
  exact e
 have HX : Hid (∀ W, Below W0.heap.size W0 W → IBox W w.heap.size (.slice AA nA cA) (.slice AF nF cF) ∧ BB W (w.heap.size + 1) ff at' A m cap ∧ IBox W (w.heap.size + 1 + 1) (.slice none 0 0) (.slice none 0 0)) := Lib.hid fun W hW =>
  ⟨(hW.block _ (by omega)).trans hx0, (hW.block _ (by omega)).trans hx1, (hW.block _ (by omega)).trans hx2⟩
 have HBW : Hid (∀ W, Below W0.heap.size W0 W → Below w.heap.size w W) := Lib.hid fun W hW => hb0.trans (hW.mono hb0.size)
 have HEV : Hid (∀ W, Below W0.heap.size W0 W → EvsIn W A cap b.es) := Lib.hid fun W hW => HEV0.out.later (HBW.out W hW)
 have HH : Hid (∀ W, Below W0.heap.size W0 W → RIx W x (.slice AA nA cA) (.slice AF nF cF)) := Lib.hid fun W hW => H0.out.later (HBW.out W hW)
 have HS0 := Lib.hid hs0
 clear hs0 hb0 hx0 hx1 hx2
 replace hW0 := Lib.hid hW0
 have HBAD : Hid (∀ c : Int, (DC x b).1 = c → c ≠ 0 → ∀ W, Below W0.heap.size W0 W → ∀ a0 a1, Yq X x b w (.returned (.tuple #[.agg #[.slice AA nA cA, .slice AF nF cF], .int .i64 c])) ((W.setCell ⟨w.heap.size + 1 + 1, 0, none⟩ a0).setCell ⟨w.heap.size + 1 + 1, 1, none⟩ a1)) :=
  Lib.hid fun c hc hne W hW a0 a1 => by
   have hb7 : Below w.heap.size w ((W.setCell ⟨w.heap.size + 1 + 1, 0, none⟩ a0).setCell ⟨w.heap.size + 1 + 1, 1, none⟩ a1) := ((HBW.out W hW).setCell (p := ⟨w.heap.size + 1 + 1, 0, none⟩) (Nat.le_succ_of_le (Nat.le_succ _)) _).setCell (p := ⟨w.heap.size + 1 + 1, 1, none⟩) (Nat.le_succ_of_le (Nat.le_succ _)) _
   have e2 : (DC x b).2 = x := Gs (by rw [hc]; exact hne)
   unfold Yq
   rw [e2, hc]
   exact ⟨hb7, _, _, rfl, HV0.out.leads (Dw X hb7)⟩
 have HCV : Hid (Calls Tryz.prog 32 #[.agg #[.string ff, .int .u64 (at' : Nat), .slice A m cap]] W0 fun r w' => r = .returned (.bool (Dt ff at' b.es)) ∧ Below W0.heap.size W0 w') := Lib.hid (by
  have q := GY b.es b.flow HFL.out b.at' (by rw [← HAT.out]; exact hbat) A cap W0 (HEV.out W0 (Below.refl _ _))
  rw [← HMM.out, ← HFF.out, ← HAT.out] at q
  exact q)
 obtain ⟨bv, hbv⟩ : ∃ bv, bv = Dt ff at' b.es := ⟨_, rfl⟩
 rw [← hbv] at HCV
 have HBV : Hid (Dt b.flow b.at' b.es = bv) := Lib.hid (by rw [hbv, HFF.out, HAT.out])
 obtain ⟨clk, hclk⟩ : ∃ clk, clk = x.clock := ⟨_, rfl⟩
 have HCLK := Lib.hid hclk
 clear hbv hclk
 obtain ⟨x0, x1, -⟩ := (HX.out W0 (Below.refl _ _)).1.cells
 obtain ⟨y0, y1, y2, -⟩ := (HX.out W0 (Below.refl _ _)).2.1.cells
 obtain ⟨q0, q1, qf⟩ := (HX.out W0 (Below.refl _ _)).2.2.cells
 have qf0 := qf 0; have qf1 := qf 1
 clear qf
 go_enter Tryz.func12, Tryz.ntmps12
 go_upto_region 1 with fail
 rw [← hW0.out]
 go_wp2_with fail
 refine HCV.out.mono ?_
 rintro r w1 ⟨rfl, hb1⟩
 have HB1 := Lib.hid hb1
 clear hb1 HCV
 clear x0 x1
 clear y0 y1 y2
 clear q0 q1 qf0 qf1
 cases hbb : bv with
 | false =>
  have HA2 : Hid ((DC x b).1 = 2) := Lib.hid (addX_2 (by rw [HBV.out]; exact hbb))
  clear hbb
  have HNE2 : Hid ((2 : Int) ≠ 0) := Lib.hid (by decide)
  obtain ⟨x0, x1, -⟩ := (HX.out w1 HB1.out).1.cells
  obtain ⟨y0, y1, y2, -⟩ := (HX.out w1 HB1.out).2.1.cells
  obtain ⟨q0, q1, qf⟩ := (HX.out w1 HB1.out).2.2.cells
  have qf0 := qf 0; have qf1 := qf 1
  clear qf
  go_wp2_with fail
  refine bodyPost_ret (v := .tuple #[.agg #[.slice AA nA cA, .slice AF nF cF], .int .i64 2]) (by simp [results, Tryz.results12, go_sem, q0, q1]) rfl ?_
  exact HBAD.out 2 HA2.out HNE2.out w1 HB1.out _ _
 | true =>
  have HVT : Hid (Dt b.flow b.at' b.es = true) := Lib.hid (by rw [HBV.out]; exact hbb)
  clear hbb
  go_upto_region 3 with fail
  have KS : Hid (∀ W, Below w1.heap.size w1 W → (fun W : World => W.cell? ⟨w.heap.size, 0, none⟩ = some (.slice AA nA cA) ∧ W.cell? ⟨w.heap.size, 1, none⟩ = some (.slice AF nF cF) ∧ W.cell? ⟨w.heap.size + 1, 1, none⟩ = some (.int .u64 (at' : Nat))) W) := Lib.hid fun W hW => by
   have hWW := HB1.out.trans (hW.mono HB1.out.size)
   obtain ⟨a0, a1, -⟩ := (HX.out W hWW).1.cells
   obtain ⟨-, d1, -, -⟩ := (HX.out W hWW).2.1.cells
   exact ⟨a0, a1, d1⟩
  have HCK : Hid (Calls Tryz.prog 33 #[.agg #[.slice AA nA cA, .slice AF nF cF]] w1.drew fun r w' => r = .returned (.int .u64 (clk : Nat)) ∧ Below w1.drew.heap.size w1.drew w') := Lib.hid (by
   have q := YZ x (.slice AA nA cA) (.slice AF nF cF) w1.drew ((HH.out w1 HB1.out).later (Da (Below.refl _ _)))
   rw [← HCLK.out] at q
   exact q)
  by_cases h2 : at' < clk
  ·have HA2 : Hid ((DC x b).1 = 12) := Lib.hid (addX_12 HVT.out (by rw [← HAT.out, ← HCLK.out]; exact h2))
   have k5 : decide ((at' : Int) < (clk : Int)) = true := decide_eq_true (by omega)
   have k5n : decide (at' < clk) = true := decide_eq_true h2
   clear h2
   have HNE2 : Hid ((12 : Int) ≠ 0) := Lib.hid (by decide)
   open Q409 in exact M407
  have HN2 : Hid (¬ b.at' < x.clock) := Lib.hid (by rw [← HAT.out, ← HCLK.out]; exact h2)
  have k5 : decide ((at' : Int) < (clk : Int)) = false := decide_eq_false (by omega)
  have k5n : decide (at' < clk) = false := decide_eq_false h2
  clear h2
  open Q408 in exact M407
attribute [local go_sem] Oper.semAt_some
variable {E : Nat → Prop} {w w' : World} {xb mb nm cN cR clk : Nat} {N R : Option Addr} {ps : List HB} {fl : List HM} {rl : List (List Nat)}
theorem Ke (p : Option Addr) (w : World) : Calls Tryz.prog 41 #[.pointer p] w fun e w' => e = .returned (.func (.func 74) #[] #[.pointer (some ⟨w.heap.size, 0, none⟩)]) ∧ w.alloc (.cells #[.pointer p] 23) = w' := by
 go_enter Tryz.func41, Tryz.ntmps41
 exact M60
theorem Jm (h : Fe fl) (i : Nat) (hi : i < fl.length) : Dx fl fl[i].flow = some i := by
 unfold Dx
 rw [List.findIdx?_eq_some_iff_getElem]
 refine ⟨hi, by simp, fun j hj => ?_⟩
 have := List.pairwise_iff_getElem.1 h j i (by omega) hi hj
 simpa using this
theorem Q623.Y622 (h : p := by
 gi_loopw [12] (fun z W => ∃ i : Nat, i ≤ m ∧ z = .int .i64 i ∧ J i W ∧ L W) (fun z _ => m - (intOf z).toNat)
 case atStart => exact ⟨0, by omega, rfl, h0, hl0⟩
 case round =>
  obtain ⟨i, hi, rfl, hj, hl⟩ := hrel
  by_cases hlt : i < m
  ·obtain ⟨hb, b1⟩ := HJ.out i _ hj
   have HW := HX.out.later hb
   have hil : i < fl.length := by have := HM0.out; omega
   obtain ⟨d0, d1, -, -, -⟩ := DL HW.blk
   obtain ⟨-, -, A, cap, hu, -, -, hrd⟩ := CIn.of_own HW.names (by intro x hx; obtain ⟨s, -, rfl⟩ := List.mem_map.1 hx; rfl)
   have hmn : (fl.map (·.flow)).length = m := by simp [HM0.out]
   rw [hmn] at hrd d1
   obtain ⟨rN, off, rfl, hrl, hrc⟩ := hrd (by omega)
   have hN : N = some ⟨rN, off, none⟩ := by injection hu
   subst hN
   have n1 : wr.cell? ⟨rN, off + i, none⟩ = some (.string fl[i].flow) := hrc i _ (by simp [hil])
   have hlk := HW.map.look1 fl[i].flow (HFL.out _ (List.getElem_mem hil)) wr rfl
   have hps : i < ps.length := by rw [HW.hs.len]; exact hil
   have hpx : OD fl ps fl[i].flow = some (.pointer (some ⟨ps[i].hb, 0, none⟩)) := by
    unfold OD
    rw [Jm HAP.out i hil]
    simp only [Option.bind_some]
    rw [List.getElem?_eq_getElem hps]
    rfl
   rw [hpx] at hlk
   simp only [Option.getD_some] at hlk
   obtain ⟨fn, tmps, assign, body, hy, hR⟩ := hY i ps[i] wr (List.getElem?_eq_getElem hps) hj hl
   generalize ps[i].hb = qb at *
   generalize fl[i].flow = ff at *
   clear hrc hpx hrl hj hl HW c0 c1 b0 hb
   gi_wp2
   refine ⟨fun _ => by omega, hR.mono ?_⟩
   rintro e W3 (⟨rfl, ha, hl3⟩ | ⟨rfl, c, hb, hl3⟩)
   ·clear hR hy
    gi_wp2_with fail
    go_roundw
    case rel => exact ⟨i + 1, by omega, by go_num, ha, hl3⟩
    case measure => simp [intOf]; omega
   ·gi_wp2
    refine bodyPost_ret (results_none rfl _ _ _) rfl ?_
    exact ⟨⟨_, rfl⟩, .inr ⟨c, hb, hl3⟩⟩
  ·have hie : i = m := by omega
   subst hie
   clear c0 c1 b0
   gi_wp2
   go_end0
   exact ⟨⟨_, rfl⟩, .inl ⟨hj, hl⟩⟩) : p := h
theorem M622 (h : p := by
 refine callsIn_of_wp Tryz.func74 rfl trivial ?_ rfl
 simp only [Tryz.ntmps74, List.size_toArray, List.length_cons, List.length_nil, Nat.reduceAdd, Nat.reduceSub, Array.replicate_succ, Array.replicate_zero, List.push_toArray, List.append_toArray, List.nil_append, List.cons_append]
 gi_wp2
 exact Y622) : p := h
theorem all_in (n : Nat) (hn : 3 ≤ n) (l bx : Nat) (H : XP E w xb mb nm N cN R cR ps fl (fl.map (·.flow)) clk rl) (hap : Fe fl) (hfl : ∀ h ∈ fl, h.flow.size ≤ maxLen) (hlen : fl.length ≤ 1000000)
  (J : Nat → World → Prop) (B : Code → World → Prop) (L : World → Prop) (L' : Code → World → Prop)
  (hJ : ∀ i W, J i W → Below w.heap.size w W ∧ W.cell? ⟨bx, 0, none⟩ = some (.pointer (some ⟨xb, 0, none⟩)))
  (hY : ∀ (i : Nat) (p : HB) W, ps[i]? = some p → J i W → L W → YieldAt Fence.wide (n - 1) Tryz.prog l #[.pointer (some ⟨p.hb, 0, none⟩)] W fun e W' => (e = .returned (.bool true) ∧ J (i + 1) W' ∧ L W') ∨ (e = .returned (.bool false) ∧ ∃ c, B c W' ∧ L' c W'))
  (W0 : World) (h0 : J 0 W0) (hl0 : L W0) :
  CallsIn Fence.wide n Tryz.prog 74 #[.func (.yield l) #[] #[], .pointer (some ⟨bx, 0, none⟩)] W0 fun e W' => (∃ v, e = .returned v) ∧ ((J fl.length W' ∧ L W') ∨ ∃ c, B c W' ∧ L' c W') := by
 obtain ⟨m, hm⟩ : ∃ m, m = fl.length := ⟨_, rfl⟩
 have hmn : (fl.map (·.flow)).length = m := by simp [hm]
 obtain ⟨hb0, b0⟩ := hJ 0 W0 h0
 obtain ⟨c0, c1, c2, c3, -⟩ := DL (H.later hb0).blk
 rw [hmn] at c1
 rw [← hm] at hlen
 rw [← hm]
 have HX := Lib.hid H; have HAP := Lib.hid hap; have HFL := Lib.hid hfl; have HM0 := Lib.hid hm; have HJ := Lib.hid hJ
 clear H hap hfl hb0 hmn hm hJ c2 c3
 open Q623 in exact M622
open _root_.Go.Proofs.YtfmnacebgplpcaaGreat.Rt (Gk)
open Bt (FZ FK)
attribute [local go_sem] Oper.semAt_some
theorem Tryz.infoXt : (Tryz.prog.info? 9).map (fun i => (i.zero, i.size, i.bytes)) = some (some (.string ⟨#[]⟩), 1, 16) := by kernel_rfl
theorem Pt {F : Fence} {n : Nat} {P : Program} (w : World) {ops : Array Oper} {o : Oper} {a : Act} {K : Act → World → Prop} {Q : Exit → Act → World → Prop}
  (hg : o.guard = none) (s x : Operand) (t : TypeId) (hop : o.op = Op.call { callee := Callee.builtin Builtin.append, args := #[s, x], argTypes := #[t, t] })
  (base : Nat) (e : TypeId) (i : TypeInfo) (z : Value) (size bytes : Nat) (h1 : P.underlying t = some (.slice e)) (h2 : P.info? e = some i) (h3 : i.zero = some z) (h4 : i.size = size) (h5 : i.bytes = bytes) (h6 : z.cells.size = size) (h7 : 0 < size)
  (v : Value) (k : Nat) (xs : List Value) (hs : a.eval s = v) (hown : w.ownsRow base e size v k xs) (ad : Addr) (m c : Nat) (news : List Value) (hx : a.eval x = .slice (some ad) m c) (hn : news.length = m * size)
  (hc : ∀ j u, news[j]? = some u → w.cell? (ad.add j) = some u) (h1c : ∀ u ∈ news, u.oneCell' = true) (b1 : k + m ≤ maxLen) (b2 : (k + m) * bytes ≤ 140737488355328) (b3 : base ≤ w.heap.size)
  (hK : ∀ v' w', w'.ownsRow base e size v' (k + m) (xs ++ news) → w.grownBy w' v.ownBlock → K (a.put o.dst v') w') :
  if Region.wanted o (yielded ops a.tmps) = true then Oper.wpIn F n P o a w K Q else (∀ f, o.about P w a.eval = some f → F.fn f) ∧ K (a.put o.dst undef) w := by
 have hw : Region.wanted o (yielded ops a.tmps) = true := by simp [Region.wanted, hg]
 rw [if_pos hw]
 obtain ⟨v', w', hrun, r1, r2, r3⟩ := run_append_own (P := P) w base t o.type e i z size bytes h1 h2 h3 h4 h5 h6 h7 v k xs hown ad m c news hn hc h1c b1 b2 b3
 unfold Oper.wpIn
 refine ⟨?_, ?_⟩
 ·simp [Oper.about, hop, resolve, Target.leads, Sem.run_pure]
 ·rw [Oper.semAt_plain F _ _ (by rw [hop]; intro c hc'; cases hc')]
  simp [execOp, hop, resolve, invoke, builtin, hs, hx, hrun, Result.andThen]
  exact hK v' w' r1 r2
def NS (w : World) (m g bx xb : Nat) (fs : List ByteArray) (W : World) : Prop :=
 (∃ v, Boxed W g 45 v ∧ W.ownsRow w.heap.size 9 1 v fs.length (fs.map .string)) ∧ Boxed W bx 23 (.pointer (some ⟨xb, 0, none⟩)) ∧ Below w.heap.size w W ∧ m ≤ W.heap.size
theorem NS.put {m g bx : Nat} {fs : List ByteArray} {W : World} {k : Nat} {o : Obj} (o' : Obj) (h : NS w m g bx xb fs W) (hm : w.heap.size ≤ m) (hl : m ≤ k) (hk : W.heap[k]? = some o) (ho : o.isCells = false) : NS w m g bx xb fs (W.putObj k o') := by
 obtain ⟨⟨v, h1, h2⟩, h3, h4, h5⟩ := h
 exact ⟨⟨v, FZ h1 o' hk ho, ownsRow_putObj h2 o' hk ho⟩, FZ h3 o' hk ho, FK o' h4 (by omega) (by omega), by rw [World.putObj_size]; exact h5⟩
theorem NS.alloc {m g bx : Nat} {fs : List ByteArray} {W : World} (h : NS w m g bx xb fs W) (hm : w.heap.size ≤ m) (o : Obj) : NS w m g bx xb fs (W.alloc o) := by
 obtain ⟨⟨v, h1, h2⟩, h3, h4, h5⟩ := h
 exact ⟨⟨v, h1.alloc o, h2.alloc o⟩, h3.alloc o, h4.alloc (by omega) o, by simp; omega⟩
theorem Jh {W W' : World} (h : KeepsOthers W.drew W') : KeepsOthers W W' := ⟨h.1, h.2⟩
theorem NS.more {m bx : Nat} {fs : List ByteArray} {W : World} (h : NS w m w.heap.size bx xb fs W) (hm : w.heap.size ≤ m) (hg : w.heap.size ≠ bx) {v v' : Value} {W1 w1 : World} {f : ByteArray} (hv : Boxed W w.heap.size 45 v) (hrow : W.ownsRow w.heap.size 9 1 v fs.length (fs.map .string)) (hW1 : W1 = (W.drew).alloc (.cells #[.string f] 9))
  (hr : w1.ownsRow w.heap.size 9 1 v' (fs.length + 1) (fs.map .string ++ [.string f])) (hgr : W1.grownBy w1 v.ownBlock) : KeepsOthers W (w1.setCell ⟨w.heap.size, 0, none⟩ v') ∧ NS w m w.heap.size bx xb (fs ++ [f]) (w1.setCell ⟨w.heap.size, 0, none⟩ v') ∧ w1.cell? ⟨w.heap.size, 0, none⟩ = some v ∧ w1.frozen? ⟨w.heap.size, 0, none⟩ = false := by
 obtain ⟨-, hnum, hB, hz⟩ := h
 subst hW1
 obtain ⟨hv1, hv2, hr2, hk2, hb2⟩ := (show Boxed W.drew w.heap.size 45 v from hv).appended (by decide) (show W.drew.ownsRow w.heap.size 9 1 v fs.length (fs.map .string) from hrow) hB.size (Nat.le_refl _) hr hgr
 have hn2 : Boxed w1 bx 23 (.pointer (some ⟨xb, 0, none⟩)) := ((show Boxed W.drew bx _ _ from hnum).alloc _).kept hgr (hnum.not_row (by decide) hrow)
 have hn3 := hn2.kept (grownBy_setCell' w1 w.heap.size v') (fun e => hg (Option.some.inj e).symm)
 have hz' : W.drew.heap.size = W.heap.size := rfl
 refine ⟨Jh hk2, ⟨⟨_, hv2, ?_⟩, hn3, hB.trans ((Da (Below.refl _ _)).trans hb2), by have := hk2.size; omega⟩, hv1.cell, hv1.frozen⟩
 rw [List.length_append, List.length_singleton, List.map_append]
 exact hr2
theorem M14 (h : p := by
 refine hK _ _ ?_
 clear hK K
 try simp only [Act.put, List.setIfInBounds_toArray, List.set_cons_zero, List.set_cons_succ]
 refine wpAnyIn_ready (rs := [4]) (by kernel_rfl) (by simp) ?_
 refine AllReadyIn.cons rfl (fun K hK => ?_) AllReadyIn.nil
 refine Pt W1 rfl _ _ 45 rfl w.heap.size 9 i0 (.string ⟨#[]⟩) 1 16 Tryz.underlying45 hi hz0 hz1 hz2 rfl (by decide) v fs.length (fs.map .string) rfl (by rw [HW1.out]; exact HROW.out.alloc _) ⟨W.heap.size, 0, none⟩ 1 1 [.string ff] rfl rfl (by rw [HW1.out]; exact cell_one_new W.drew _ _) (by simp [Value.oneCell']) (by simp only [maxLen]; omega) (by omega) HS1.out ?_
 intro v' w1 hown' hgrow
 obtain ⟨k1, k2, k3, k4⟩ := NS.more HNS.out (by have := HZ2.out; omega) (by omega) HV.out HROW.out HW1.out hown' hgrow
 obtain ⟨g', cap', rfl⟩ := ownsRow_succ hown'
 have HK12 := Lib.hid (And.intro k1 k2)
 clear k1 k2 hown' hgrow hc1
 refine hK _ _ ?_
 clear hK K
 try simp only [Act.put, List.setIfInBounds_toArray, List.set_cons_zero, List.set_cons_succ]
 refine wpAnyIn_ready (rs := [5]) (by kernel_rfl) (by simp) ?_
 refine AllReadyIn.cons rfl (fun K hK => ?_) AllReadyIn.nil
 go_simp
 refine hK _ _ ?_
 clear hK K
 try simp only [Act.put, List.setIfInBounds_toArray, List.set_cons_zero, List.set_cons_succ]
 refine wpAnyIn_done (by kernel_rfl) ?_ _
 exact HK12.out) : p := h
theorem M543 (h : p := by
 go_simp
 obtain ⟨W1, hW1⟩ : ∃ W1, W1 = (W.alloc (.cells #[.string ff] 9)).drew := ⟨_, rfl⟩
 rw [← hW1]
 replace hW1 : W1 = W.drew.alloc (.cells #[.string ff] 9) := hW1
 have hc1 : W1.cell? ⟨w.heap.size, 0, none⟩ = some v := by rw [hW1]; exact ((show Boxed W.drew w.heap.size _ v from HV.out).alloc _).cell
 have HW1 := Lib.hid hW1
 have HS1 : Hid (w.heap.size ≤ W1.heap.size) := Lib.hid (by rw [hW1]; simp; omega)
 exact Y543) : p := h
theorem Q544.Y543 (h : p := by
 clear hW1
 exact M14) : p := h
theorem M34 (h : p := by
 try simp only [Act.put, List.setIfInBounds_toArray, List.set_cons_zero, List.set_cons_succ]
 refine wpAnyIn_ready (rs := [3]) (by kernel_rfl) (by simp) ?_
 refine AllReadyIn.cons rfl (fun K hK => ?_) AllReadyIn.nil
 open Q544 in exact M543) : p := h
theorem M54 (h : p := by
 go_simp
 refine hK _ _ ?_
 clear hK K
 try simp only [Act.put, List.setIfInBounds_toArray, List.set_cons_zero, List.set_cons_succ]
 refine wpAnyIn_ready (rs := [2]) (by kernel_rfl) (by simp) ?_
 refine AllReadyIn.cons rfl (fun K hK => ?_) AllReadyIn.nil
 go_simp
 refine ⟨trivial, (CallsIn.inRound l (callsIn_wide.2 HFC.out)).mono ?_⟩
 rintro e w3 ⟨rfl, rfl⟩
 gi_wp2_with fail
 try (refine hK _ _ ?_; clear hK K)
 exact M34) : p := h
theorem Q545.Y543 (h : p := by
 clear hW1
 refine hK _ _ ?_
 clear hK K
 try simp only [Act.put, List.setIfInBounds_toArray, List.set_cons_zero, List.set_cons_succ]
 refine wpAnyIn_ready (rs := [0]) (by kernel_rfl) (by simp) ?_
 refine AllReadyIn.cons rfl (fun K hK => ?_) AllReadyIn.nil
 go_simp
 exact M14) : p := h
theorem Q598.Y597 (h : p := by
 refine ⟨trivial, (callsIn_wide.2 (Ke _ _)).mono ?_⟩
 rintro e W2 ⟨rfl, hW2⟩
 gi_wp2_with fail
 have hz2w : W2.heap.size = w.heap.size + 1 + 1 := by rw [← hW2]; simp
 have u0 : NS w W2.heap.size w.heap.size (w.heap.size + 1) xb [] W2 := by
  rw [← hW2]
  have b0 := (Boxed.new w 45 (.slice none 0 0)).alloc (.cells #[.pointer (some ⟨xb, 0, none⟩)] 23)
  have b1 := Boxed.new (w.alloc (.cells #[.slice none 0 0] 45)) 23 (.pointer (some ⟨xb, 0, none⟩))
  rw [World.size_alloc] at b1
  exact ⟨⟨_, b0, rfl, .inl ⟨rfl, rfl⟩⟩, b1, ((Below.refl _ w).alloc (Nat.le_refl _) _).alloc (by simp) _, Nat.le_refl _⟩
 have HZ2 := Lib.hid hz2w
 clear hW2
 refine Gk (σ := Nat × HB) rfl (by omega) (gf := 74) (lb := #[.pointer (some ⟨w.heap.size + 1, 0, none⟩)]) rfl trivial (enters_of Tryz.func74 (by kernel_rfl) rfl)
  (fun s => #[.pointer (some ⟨s.2.hb, 0, none⟩)]) (fun _ => rfl)
  (fun s W => ps[s.1]? = some s.2 ∧ NS w W2.heap.size w.heap.size (w.heap.size + 1) xb ((fl.take s.1).map HM.flow) W)
  (fun s W => NS w W2.heap.size w.heap.size (w.heap.size + 1) xb ((fl.take (s.1 + 1)).map HM.flow) W)
  (fun _ _ => False)
  (fun W => NS w W2.heap.size w.heap.size (w.heap.size + 1) xb (fl.map HM.flow) W)
  (fun s W l o o' h hl ho hc => ⟨h.1, h.2.put o' (by omega) hl ho hc⟩)
  (fun s W l o o' h hl ho hc => h.put o' (by omega) hl ho hc)
  (fun c W l o o' h hl ho hc => h)
  (fun W l o o' h hl ho hc => h.put o' (by omega) hl ho hc)
  (fun s => { tmps := #[.pointer (some ⟨xb, 0, none⟩), undef, .slice none 0 0, .pointer (some ⟨w.heap.size, 0, none⟩), .pointer (some ⟨s.2.hb, 0, none⟩), .pointer (some ⟨xb, 0, none⟩), .func (.func 74) #[] #[.pointer (some ⟨w.heap.size + 1, 0, none⟩)], .pointer (some ⟨s.2.hb, 0, none⟩), undef, undef, undef, undef, undef, undef], defers := [] })
  ?assign ?body ?iter ?done ?stop
 case assign =>
  intro l s W K hK
  gi_wp2
  exact hK
 case body =>
  rintro l ⟨i, p⟩ W ⟨hpi, hns⟩
  obtain ⟨h, hfh, hat⟩ := HX.out.hs.own hpi
  have hil := (List.getElem?_eq_some_iff.1 hfh).1
  have hst : (fl.take (i + 1)).map (·.flow) = (fl.take i).map (·.flow) ++ [h.flow] := by
   rw [List.take_succ_eq_append_getElem hil, List.map_append]
   rw [List.getElem?_eq_getElem hil] at hfh
   rw [Option.some.inj hfh]; rfl
  rw [hst]
  clear hst
  obtain ⟨⟨v, hv, hrow⟩, hnum, hB, hm⟩ := hns
  have hlk : ((fl.take i).map (·.flow)).length ≤ 1000000 := by rw [List.length_map, List.length_take]; have := HLN.out; omega
  generalize (fl.take i).map (·.flow) = fs at *
  have HNS : Hid (NS w W2.heap.size w.heap.size (w.heap.size + 1) xb fs W) := Lib.hid ⟨⟨v, hv, hrow⟩, hnum, hB, hm⟩
  have hc := hv.cell
  have hgl : w.heap.size < W.heap.size := by omega
  have hfc : ∀ W', W' = W.drew → Calls Tryz.prog 42 #[.pointer (some ⟨p.hb, 0, none⟩)] W' fun r w' => r = .returned (.string h.flow) ∧ w' = W' := fun W' e => UL (HAt.later (HAt.later hat hB) (by rw [e]; exact Da (Below.refl _ _)))
  have HFC := Lib.hid (hfc _ rfl)
  have HV := Lib.hid hv; have HROW := Lib.hid hrow; have HB := Lib.hid hB
  clear hfc hat hpi hfh hnum hm hv hrow hB
  dsimp only
  generalize p.hb = qb at *
  generalize h.flow = ff at *
  gi_wp2_with fail
  refine wpIn_region_any (by kernel_rfl) ?_
  change wpAnyIn _ _ _ _ _ _ _ _ _ (World.drew _)
  refine wpAnyIn_ready (rs := [0, 1]) (by kernel_rfl) (by simp) ?_
  refine AllReadyIn.cons rfl (fun K hK => ?_) (AllReadyIn.cons rfl (fun K hK => ?_) AllReadyIn.nil)
  ·go_simp
   refine hK _ _ ?_
   clear hK K
   try simp only [Act.put, List.setIfInBounds_toArray, List.set_cons_zero, List.set_cons_succ]
   refine wpAnyIn_ready (rs := [1]) (by kernel_rfl) (by simp) ?_
   refine AllReadyIn.cons rfl (fun K hK => ?_) AllReadyIn.nil
   exact M54
  ·go_simp
   refine hK _ _ ?_
   clear hK K
   try simp only [Act.put, List.setIfInBounds_toArray, List.set_cons_zero, List.set_cons_succ]
   refine wpAnyIn_ready (rs := [0, 2]) (by kernel_rfl) (by simp) ?_
   refine AllReadyIn.cons rfl (fun K hK => ?_) (AllReadyIn.cons rfl (fun K hK => ?_) AllReadyIn.nil)
   ·exact M54
   ·go_simp
    refine ⟨trivial, (CallsIn.inRound l (callsIn_wide.2 HFC.out)).mono ?_⟩
    rintro e w3 ⟨rfl, rfl⟩
    gi_wp2_with fail
    try (refine hK _ _ ?_; clear hK K)
    try simp only [Act.put, List.setIfInBounds_toArray, List.set_cons_zero, List.set_cons_succ]
    refine wpAnyIn_ready (rs := [0, 3]) (by kernel_rfl) (by simp) ?_
    refine AllReadyIn.cons rfl (fun K hK => ?_) (AllReadyIn.cons rfl (fun K hK => ?_) AllReadyIn.nil)
    ·go_simp
     refine hK _ _ ?_
     clear hK K
     exact M34
    ·open Q545 in exact M543
 case iter =>
  intro l o o' L L' ho ho' hLs hLd hY hl0
  refine (all_in 8 (by omega) l (w.heap.size + 1) HX.out HAP.out HFL.out HLN.out
   (fun i W => NS w W2.heap.size w.heap.size (w.heap.size + 1) xb ((fl.take i).map HM.flow) W)
   (fun _ _ => False) L L'
   (fun i W h => ⟨h.2.2.1, h.2.1.cell⟩) (fun i p W hp h hl => hY (i, p) W ⟨hp, h⟩ hl) _ ((u0.alloc (by omega) _).alloc (by omega) _) hl0).mono ?_
  rintro e W' ⟨hv, ⟨h, hl⟩ | ⟨c, hc, -⟩⟩
  ·rw [List.take_length] at h
   exact ⟨hv, .inl ⟨h, hl⟩⟩
  ·exact hc.elim
 case done =>
  rintro D W hD ⟨⟨v, hv, hrow⟩, hnum, hB, hm⟩ hK
  have hc := hv.cell
  gi_wp2
  refine ⟨by simp, .inl ⟨_, _, rfl, run_takeDeferred hK, ?_⟩⟩
  refine ⟨_, results_tmp rfl _ _ _, v, rfl, ?_, FK _ hB (by omega) (by omega)⟩
  have e : (fl.map (·.flow)).map Value.string = fl.map (fun h => .string h.flow) := by rw [List.map_map]; rfl
  rw [e, List.length_map] at hrow
  exact ownsRow_putObj hrow _ hK rfl
 case stop =>
  rintro D c W hD h hK
  exact h.elim) : p := h
theorem M597 (h : p := by
 refine (callsIn_wide (n := 9)).1 ?_
 refine callsIn_of_wp_marks Tryz.func18 rfl trivial ?_ rfl
 simp only [Tryz.ntmps18, List.size_toArray, List.length_cons, List.length_nil, Nat.reduceAdd, Nat.reduceSub, Array.replicate_succ, Array.replicate_zero, List.push_toArray, List.append_toArray, List.nil_append, List.cons_append]
 gi_wp2_with fail
 exact Y597) : p := h
theorem names_xp (H : XP E w xb mb nm N cN R cR ps fl (fl.map (·.flow)) clk rl) (hap : Fe fl) (hfl : ∀ h ∈ fl, h.flow.size ≤ maxLen) (hlen : fl.length ≤ 1000000) :
  Calls Tryz.prog 18 #[.pointer (some ⟨xb, 0, none⟩)] w fun e w' => ∃ v, e = .returned v ∧ w'.ownsRow w.heap.size 9 1 v fl.length (fl.map fun h => .string h.flow) ∧ Below w.heap.size w w' := by
 obtain ⟨i0, hi, hz0, hz1, hz2⟩ := info_parts Tryz.infoXt
 have HX := Lib.hid H; have HAP := Lib.hid hap; have HFL := Lib.hid hfl; have HLN := Lib.hid hlen
 clear H hap hfl hlen
 open Q598 in exact M597
attribute [local go_sem] Oper.semAt_some
variable {E Z : Nat → Prop} {u v w w' V V' : World} {xb : Nat} {x : XM}
theorem HSame.refl (h : HM) : HSame h h := ⟨rfl, rfl, rfl, rfl, rfl, rfl, fun i _ _ => ⟨rfl, rfl, Cm.Gi _⟩, rfl, fun i _ _ => ⟨rfl, rfl, rfl, rfl, rfl, Vt.Gj _⟩⟩
structure XSame (x y : XM) : Prop where
 len : y.flows.length = x.flows.length
 flows : ∀ i (h : i < x.flows.length) (h' : i < y.flows.length), HSame x.flows[i] y.flows[i]
 clock : x.clock = y.clock
theorem XSame.refl (x : XM) : XSame x x := ⟨rfl, fun i _ _ => HSame.refl _, rfl⟩
theorem XSame.names {x y : XM} (h : XSame x y) : x.flows.map (·.flow) = y.flows.map (·.flow) := by
 refine List.ext_getElem (by simp [h.len]) fun i h1 h2 => ?_
 rw [List.getElem_map, List.getElem_map]
 exact (h.flows i (by simpa using h1) (by simpa using h2)).flow
theorem Vu {base n k : Nat} {T : TypeId} {v : Value} {xs : List Value} (h : w.ownsRow base T k v n xs) (hb : ∀ r, v.ownBlock = some r → w'.heap[r]? = w.heap[r]?) : w'.ownsRow base T k v n xs := by
 refine ⟨h.1, ?_⟩
 rcases h.2 with q | ⟨r, cp, cur, rfl, q2, q3, q4, q5, q6, q7⟩
 ·exact .inl q
 ·exact .inr ⟨r, cp, cur, rfl, q2, (hb r rfl).trans q3, q4, q5, q6, q7⟩
def SRows (base : Nat) (W : World) (v5 v6 : Value) (ns os : List ByteArray) : Prop := W.ownsRow base 9 1 v5 ns.length (ns.map .string) ∧ W.ownsRow base 9 1 v6 os.length (os.map .string) ∧ ∀ r, v5.ownBlock = some r → v6.ownBlock ≠ some r
theorem SRows.later {base : Nat} {v5 v6 : Value} {ns os : List ByteArray} (h : SRows base w v5 v6 ns os) (hb : Below w.heap.size w w') : SRows base w' v5 v6 ns os := ⟨Fv h.1 hb, Fv h.2.1 hb, h.2.2⟩
theorem SRows.name {base : Nat} {v5 v6 v' : Value} {ns os : List ByteArray} {f : ByteArray} (h : SRows base w v5 v6 ns os) (ho : w'.ownsRow base 9 1 v' (ns.length + 1) (ns.map .string ++ [.string f])) (hg : w.grownBy w' v5.ownBlock) (hat : v'.ownBlock = v5.ownBlock ∨ v'.ownBlock = some w.heap.size) : SRows base w' v' v6 (ns ++ [f]) os := by
 refine ⟨by rw [List.length_append, List.map_append]; exact ho, Vu h.2.1 fun r hr => hg.block r (h.2.1.lt r hr).2 fun e => h.2.2 r e.symm hr, fun r hr e => ?_⟩
 rcases hat with q | q
 ·exact h.2.2 r (q.symm.trans hr) e
 ·have e2 : w.heap.size = r := Option.some.inj (q.symm.trans hr)
  have := (h.2.1.lt r e).2
  omega
theorem SRows.open_ {base : Nat} {v5 v6 v' : Value} {ns os : List ByteArray} {f : ByteArray} (h : SRows base w v5 v6 ns os) (ho : w'.ownsRow base 9 1 v' (os.length + 1) (os.map .string ++ [.string f])) (hg : w.grownBy w' v6.ownBlock) (hat : v'.ownBlock = v6.ownBlock ∨ v'.ownBlock = some w.heap.size) : SRows base w' v5 v' ns (os ++ [f]) := by
 refine ⟨Vu h.1 fun r hr => hg.block r (h.1.lt r hr).2 fun e => h.2.2 r hr e.symm, by rw [List.length_append, List.map_append]; exact ho, fun r hr e => ?_⟩
 rcases hat with q | q
 ·exact h.2.2 r hr (q.symm.trans e)
 ·have e2 : w.heap.size = r := Option.some.inj (q.symm.trans e)
  have := (h.1.lt r hr).2
  omega
theorem one_strs (l : List ByteArray) : ∀ y ∈ l.map Value.string, y.oneCell' = true := by
 intro y hy
 obtain ⟨s, -, rfl⟩ := List.mem_map.1 hy
 rfl
theorem Yx (H : XAt E w xb Z x) (hap : Fe x.flows) (hfl : ∀ h ∈ x.flows, h.flow.size ≤ maxLen) (hlen : x.flows.length ≤ 1000000) :
  Calls Tryz.prog 18 #[.pointer (some ⟨xb, 0, none⟩)] w fun e w' => ∃ A c, e = .returned (.slice A x.flows.length c) ∧ CIn w' (.slice A x.flows.length c) x.flows.length 1 ((x.flows.map (·.flow)).map .string) ∧ Below w.heap.size w w' := by
 obtain ⟨mb, nm, N, cN, R, cR, ps, -, H⟩ := H
 refine (names_xp H hap hfl hlen).mono fun e w' => ?_
 rintro ⟨v, rfl, hown, hb⟩
 obtain ⟨A, c, rfl, -⟩ := Fj hown
 refine ⟨A, c, rfl, CIn.of_own (by rw [List.map_map]; exact hown) (one_strs _), hb⟩
open Ev (zeroT)
open Cn (Ov GO VD)
open Vf (DM UA)
theorem few_v2 {e : EV} (h : GO e = true) : e.v.few = true := by
 unfold GO at h
 simp only [Bool.and_eq_true] at h
 exact h.1.1
theorem Jr {e : EV} (hv : e.valid = true) (hfew : e.v.few = true) : (DM e).length ≤ 30000 := by
 have V := UA hv
 have h1 := V.s1; have h2 := V.t1
 have h3 := Vf.FT hfew
 unfold DM
 rw [Vf.sel6]
 have hs : ∀ s : ByteArray, s.size ≤ 1000 → (Pf.Dp s).length ≤ 1011 := fun s h => by unfold Pf.Dp; rw [List.length_append, Bt.Fi]; have := Bt.Dh 10 s.size; omega
 have hi : ∀ (b : Bool) (l : List Nat) (n : Nat), l.length ≤ n → (if b = true then l else []).length ≤ n := fun b l n h => by split <;> simp [h]
 have a0 := hi (Vf.FC e 0) _ _ (Bt.Dh 10 e.id); have a1 := hi (Vf.FC e 1) _ _ (Bt.Dh 10 e.n.toNat); have a2 := hi (Vf.FC e 2) _ _ (Bt.Dh 10 e.at')
 have a3 := hi (Vf.FC e 3) _ _ (hs _ h1); have a4 := hi (Vf.FC e 4) _ _ (hs _ h2); have a5 := hi (Vf.FC e 5) _ _ h3
 have a6 := Bt.Dh 10 e.k.toNat
 simp only [List.length_append, List.length_singleton]
 omega
theorem flat_le2 {es : List EV} {M : Nat} (h : ∀ e ∈ es, (DM e).length ≤ M) : ((es.map DM).flatten).length ≤ es.length * M := by
 induction es with
 | nil => simp
 | cons x l ih =>
  have h1 := h x (List.mem_cons_self ..)
  have h2 := ih fun e he => h e (List.mem_cons_of_mem _ he)
  simp only [List.map_cons, List.flatten_cons, List.length_append, List.length_cons, Nat.succ_mul]
  omega
theorem SY {b : BT} (hl : b.es.length ≤ 2097152) (hF : ∀ k (hk : k < b.es.length), GO b.es[k] = true) (hv : Dt b.flow b.at' b.es = true) : Ov b.es (b.es.map DM) ∧ (b.es.map DM).flatten.length ≤ 17592186044416 ∧ b.es.length ≤ 1099511627775 := by
 have hall : ∀ e ∈ b.es, e.valid = true := by
  unfold Dt at hv
  simp only [Bool.and_eq_true, Bool.not_eq_true', List.any_eq_false] at hv
  intro e he
  have := hv.2 e he
  unfold Cn.DI at this
  simpa using this
 have hfew : ∀ e ∈ b.es, e.v.few = true := fun e he => by
  obtain ⟨i, hi, rfl⟩ := List.getElem_of_mem he
  exact few_v2 (hF i hi)
 refine ⟨⟨by simp, fun i h h' lo hi vk vn vf vs A m c w hf hr hz => ?_⟩, ?_, by omega⟩
 ·rw [List.getElem_map]
  exact Vf.Js b.es[i] (hall _ (List.getElem_mem h)) hf (hfew _ (List.getElem_mem h)) lo hi vk vn vf vs A m c w hr hz
 ·have := flat_le2 (es := b.es) (M := 30000) fun e he => Jr (hall e he) (hfew e he)
  omega
def bI : BT := ⟨⟨#[119]⟩, 0, [eA]⟩
theorem bI_valid : Dt bI.flow bI.at' bI.es = true := by
 unfold Dt
 simp [bI, Cn.DI, XW]
 try decide
theorem bI_addM : Dv (HM.new ⟨#[119]⟩) bI = (0, ⟨⟨#[119]⟩, [bI], ⟨[], [], [], 1, 0⟩⟩) := by
 rw [Uf (by unfold bOk; simp [bI, XW]) rfl rfl (by simp [bI, HM.at', HM.new, OH, eA])]
 rfl
theorem bI_add : DC XM.new bI = (0, ⟨[⟨⟨#[119]⟩, [bI], ⟨[], [], [], 1, 0⟩⟩], [bI]⟩) := by
 unfold DC
 rw [if_neg (by rw [bI_valid]; decide), if_neg (by simp [XM.clock, XM.new, FI])]
 have e : DF XM.new bI.flow = HM.new ⟨#[119]⟩ := rfl
 rw [e, bI_addM]
 rfl
theorem bI_few : ∀ k (hk : k < bI.es.length), GO bI.es[k] = true := fun k hk => by
 obtain rfl : k = 0 := by have : bI.es.length = 1 := rfl; omega
 show GO eA = true
 unfold GO eA
 simp only [VT.few, zeroT, Vt.FL, Vt.Pv, Vt.DB]
 decide
def Jj : Array Value := #[.int .i64 1, .int .u64 0, .int .i64 0, .int .u64 0, .string ⟨#[112]⟩, .string ⟨#[]⟩, .int .i64 0, .int .i64 0, .float .f64 0, .string ⟨#[]⟩, .slice none 0 0]
theorem ia_in (w : World) (g : Nat) (h : w.heap[g]? = some (.cells Jj 71 (0, 0))) : EvsIn w (some ⟨g, 0, none⟩) 1 [eA] :=
 ⟨by simp, by simp only [maxLen]; omega, fun _ => ⟨g, 0, rfl, (Array.getElem?_eq_some_iff.1 h).1, fun i hi => by
  have hr : Rep w 0 0 zeroT (Dn 0 0 0 ⟨#[]⟩ none 0 0) := Rep.leaf ⟨by omega, by omega, by omega, by omega, by omega, by decide, by decide⟩
  obtain rfl : i = 0 := by simp at hi; omega
  refine ⟨0, 0, 0, 0, 0, ⟨#[]⟩, none, 0, 0, LB, hr, Nat.zero_le _, fun q hq => ?_⟩
  rcases (by omega : q = 0 ∨ q = 1 ∨ q = 2 ∨ q = 3 ∨ q = 4 ∨ q = 5 ∨ q = 6 ∨ q = 7 ∨ q = 8 ∨ q = 9 ∨ q = 10) with rfl | rfl | rfl | rfl | rfl | rfl | rfl | rfl | rfl | rfl | rfl <;> (simp only [World.cell?, h]; rfl)⟩⟩
theorem bI_bin : BIn bI := ⟨by decide, fun i hi => by
 obtain rfl : i = 0 := by have : bI.es.length = 1 := rfl; omega
 exact Ux⟩
theorem Yy (w : World) : Calls Tryz.prog 10 #[] w fun r w' => r = .returned (.bool true) ∧ Below w.heap.size w w' := by
 go_enter Tryz.func10, Tryz.ntmps10
 go_wp2_with fail
 refine (VJ w (fun _ => False) (fun _ h => h.elim)).mono ?_
 rintro r w1 ⟨xb, Z, rfl, hb1, H, hZ⟩
 obtain ⟨W2, hW2⟩ : ∃ W2, W2 = w1.alloc (.cells Jj 71) := ⟨_, rfl⟩
 have hz2 : W2.heap.size = w1.heap.size + 1 := by rw [hW2]; simp
 have hb12 : Below w1.heap.size w1 W2 := by rw [hW2]; exact (Below.refl _ _).alloc (Nat.le_refl _) _
 have hev : EvsIn (Du Z W2) (some ⟨w1.heap.size, 0, none⟩) 1 bI.es := ia_in _ _ (by
  rw [FQ (fun q => by have := H.zlt q; omega), hW2]
  exact heap_alloc_new w1 _)
 have HC := Lib.hid (VK (H.later hb12) Uy bI _ 1 hev bI_bin (by decide) (by decide) (by decide) (by decide) (by decide) (fun hv => SY (by decide) bI_few hv))
 rw [show bI.es.length = 1 from rfl, show bI.flow = ⟨#[119]⟩ from rfl, show bI.at' = 0 from rfl] at HC
 have HB1 := Lib.hid hb1; have HB12 := Lib.hid hb12; have HZ := Lib.hid hZ
 unfold Jj at hW2
 clear hev hb12 hz2 hb1 H hZ
 replace hW2 := Lib.hid hW2
 go_wp2_with fail
 rw [← hW2.out]
 refine HC.out.mono ?_
 rintro r w3 ⟨rfl, hchg, -, Z3, H3, hZ3⟩
 rw [bI_add] at H3
 rw [bI_add]
 have HB3 : Hid (Below w.heap.size w w3) := Lib.hid (by
  have hb2 := HB1.out.trans (HB12.out.mono HB1.out.size)
  refine hb2.trans (hchg.below hb2.size fun c hc => ?_)
  rcases HZ.out c hc with e | e
  ·exact e.elim
  ·exact e)
 have HN := Lib.hid (Yx H3 (List.pairwise_singleton ..) (fun h hh => by simp at hh; rw [hh]; decide) (by decide))
 have H3' := Lib.hid H3
 clear H3 hchg hZ3 HC
 go_wp2_with fail
 refine HN.out.mono ?_
 rintro r w4 ⟨A, c, rfl, hcn, hb4⟩
 obtain ⟨A', c', e1, hle, hcm, hrd⟩ := CIn.strs (l := [⟨#[119]⟩]) hcn
 obtain ⟨rfl, rfl⟩ : A = A' ∧ c = c' := by injection e1 with a1 a2 a3; exact ⟨a1, a3⟩
 obtain ⟨b, off, rfl, hbl, hq⟩ := hrd (by decide)
 have c0 : w4.cell? ⟨b, off, none⟩ = some (.string ⟨#[119]⟩) := hq 0 (by decide)
 have HF := Lib.hid (Kl (H3'.out.later hb4) ⟨#[119]⟩ (by decide))
 have HB4 : Hid (Below w.heap.size w w4) := Lib.hid (HB3.out.trans (hb4.mono HB3.out.size))
 clear hcn hb4 hrd hq e1 HN
 go_wp2_with fail
 refine HF.out.mono ?_
 rintro r w5 ⟨hw5, hcase⟩
 rw [hw5]
 clear hw5 w5
 obtain ⟨qb, rfl⟩ : ∃ qb, r = .returned (.pointer (some ⟨qb, 0, none⟩)) := by
  rcases hcase with ⟨hn, -⟩ | ⟨i', h', p, Y, hf, hh, e, hat, -⟩
  ·exact absurd hn (by decide)
  ·exact ⟨_, e⟩
 clear hcase HF
 go_wp2_with fail
 go_ret
 exact ⟨rfl, HB4.out⟩
open Cn (OV)
variable {E E' Z : Nat → Prop} {u v w w' w0 V V' : World} {xb : Nat} {x : XM}
def Forms (bl : List BT) : Prop := ∀ i (h : i < bl.length), Dt bl[i].flow bl[i].at' bl[i].es = true → Cn.Ov bl[i].es (bl[i].es.map Vf.DM) ∧ (bl[i].es.map Vf.DM).flatten.length ≤ 17592186044416 ∧ bl[i].es.length ≤ 1099511627775
theorem Lt {bl : List BT} (hf : VD bl) (hl : ∀ b ∈ bl, b.es.length ≤ 2097152) : Forms bl := fun i hi hv => SY (hl _ (List.getElem_mem hi)) (fun k hk => hf.few i hi k hk) hv
theorem XAt.step (H : XAt E w xb Z x) (hb : Below w.heap.size w w') (h1 : ∀ c, E' c → E c ∨ w.heap.size ≤ c) (h2 : ∀ c, E' c → c < w'.heap.size) : ∃ Z', XAt E' w' xb Z' x ∧ ∀ c, Z' c → Z c ∨ w.heap.size ≤ c := by
 obtain ⟨mb, nm, N, cN, R, cR, ps, rfl, H⟩ := H
 refine ⟨_, ⟨mb, nm, N, cN, R, cR, ps, rfl, H.step (Chg.of_below hb) h1 h2⟩, fun c q => ?_⟩
 refine ON (B := XB E xb mb N R) (fun c q => ?_) q
 rcases q with q | q
 ·exact (h1 c q).imp .inl id
 ·exact .inl (.inr q)
structure LX (w0 : World) (g : Nat) (w : World) (xb : Nat) (x : XM) : Prop where
 ex : ∃ Z uA uF, XAt (fun c => c = g) w xb Z x ∧ (∀ c, Z c → w0.heap.size ≤ c) ∧ Below w0.heap.size w0 w ∧ IBox w g uA uF ∧ RIx (Du Z w) x uA uF
theorem LX.later {g : Nat} (k : LX w0 g w xb x) (hw : Below w.heap.size w w') : LX w0 g w' xb x := by
 obtain ⟨Z, uA, uF, h1, h2, h3, h4, h5⟩ := k.ex
 exact ⟨Z, uA, uF, h1.later hw, h2, h3.trans (hw.mono h3.size), h4.later hw h4.lt, h5.leads (Dw _ hw)⟩
theorem lx_new (H : XAt (fun _ => False) w xb Z XM.new) (hZ : ∀ c, Z c → w0.heap.size ≤ c) (hb : Below w0.heap.size w0 w) {g : Nat} (hg : g = w.heap.size) : LX w0 g (w.alloc (.cells #[.slice none 0 0, .slice none 0 0] 29)) xb XM.new := by
 have hb1 : Below w.heap.size w (w.alloc (.cells #[.slice none 0 0, .slice none 0 0] 29)) := (Below.refl _ _).alloc (Nat.le_refl _) _
 obtain ⟨Z', H', h'⟩ := H.step (E' := fun c => c = g) hb1 (fun c q => .inr (by have q : c = g := q; omega)) (fun c q => by have q : c = g := q; rw [q, hg]; simp)
 refine ⟨Z', _, _, H', fun c q => ?_, hb.trans (hb1.mono hb.size), ?_, rix_new _⟩
 ·rcases h' c q with e | e
  ·exact hZ c e
  ·exact Nat.le_trans hb.size e
 ·rw [hg]; exact heap_alloc_new w _
theorem clkX_lt {bl : List BT} (hat : ∀ i (h : i < bl.length), bl[i].at' < 18446744073709551616) (j : Nat) (hj : j ≤ bl.length) : (DT (bl.take j)).clock < 18446744073709551616 := by
 induction j with
 | zero => rw [List.take_zero]; decide
 | succ n ih =>
  rw [PO bl n (by omega)]
  by_cases hc : (DC (DT (bl.take n)) bl[n]).1 = 0
  ·rw [Yf hc]; exact hat n (by omega)
  ·rw [Gs hc]; exact ih (by omega)
theorem LX.fits {g : Nat} (H : XAt (fun c => c = g) w xb Z x) {bl : List BT} (hl : LIn bl) {j : Nat} (hj : j < bl.length) (hx : x = DT (bl.take j)) {b : BT} (hbj : b = bl[j]'hj) (A2 : Option Addr) (c2 : Nat) (hev : EvsIn (Du Z w) A2 c2 b.es) (hfl : b.flow.size ≤ maxLen) (hat : b.at' < 18446744073709551616) (hclk : x.clock < 18446744073709551616) :
  Calls Tryz.prog 16 #[.pointer (some ⟨xb, 0, none⟩), .agg #[.string b.flow, .int .u64 (b.at' : Nat), .slice A2 b.es.length c2]] w fun r w' => r = .returned (.int .i64 (DC x b).1) ∧ Below w.heap.size w w' := by
 subst hbj
 exact Uz H (T := tot (bl.take j)) (NN := j) (by rw [hx]; exact GC hl j (by omega)) bl[j] A2 c2 hev (hl.bin j hj) (by have := hl.take j hj; omega) hfl hat hclk
theorem LX.add {g : Nat} (H : XAt (fun c => c = g) w xb Z x) {bl : List BT} (hl : LIn bl) (hfo : Forms bl) {j : Nat} (hj : j < bl.length) (hx : x = DT (bl.take j)) {b : BT} (hbj : b = bl[j]'hj) (A2 : Option Addr) (c2 : Nat) (hev : EvsIn (Du Z w) A2 c2 b.es) (hfl : b.flow.size ≤ maxLen) (hat : b.at' < 18446744073709551616) (hclk : x.clock < 18446744073709551616) :
  Calls Tryz.prog 11 #[.pointer (some ⟨xb, 0, none⟩), .agg #[.string b.flow, .int .u64 (b.at' : Nat), .slice A2 b.es.length c2]] w (XAdd (fun c => c = g) w xb Z x b) := by
 subst hbj
 exact VK H (T := tot (bl.take j)) (NN := j) (by rw [hx]; exact GC hl j (by omega)) bl[j] A2 c2 hev (hl.bin j hj) (by have := hl.take j hj; omega) (by have := hl.len; omega) hfl hat hclk (hfo j hj)
theorem lx_bts {B : Option Addr} {bc : Nat} {bl : List BT} (hB : BtsIn w0 B bc bl) (hb : Below w0.heap.size w0 w) (hZ : ∀ c, Z c → w0.heap.size ≤ c) : BtsIn (Du Z w) B bc bl := BtsIn.leads hB (Jg hb hZ)
theorem bts_lt {B : Option Addr} {bc : Nat} {bl : List BT} (hB : BtsIn w B bc bl) : ∀ i (h : i < bl.length), bl[i].at' < 18446744073709551616 := fun i h => by
 obtain ⟨b, off, -, -, h3⟩ := hB.at_ (by omega)
 obtain ⟨A2, c2, -, hat, -⟩ := h3 i h
 exact hat
theorem set2_chg {g : Nat} (a b : Value) : Chg (fun c => c = g) w ((w.setCell ⟨g, 0, none⟩ a).setCell ⟨g, 1, none⟩ b) := (Chg.setCell (X := fun c => c = g) (p := ⟨g, 0, none⟩) rfl a).trans (Chg.setCell (X := fun c => c = g) (p := ⟨g, 1, none⟩) rfl b)
theorem IBox.set2 {g : Nat} {a b a' b' : Value} (h : IBox w g a b) : IBox ((w.setCell ⟨g, 0, none⟩ a').setCell ⟨g, 1, none⟩ b') g a' b' := by
 unfold IBox at *; simp [World.setCell, Array.getElem?_modify, h]
attribute [local go_sem] Oper.semAt_some
variable {w w' : World}
theorem nil_flow (s : ByteArray) (w : World) : Calls Tryz.prog 17 #[.pointer none, .string s] w fun r w' => r = .returned (.pointer none) ∧ Below w.heap.size w w' := by
 go_enter Tryz.func17, Tryz.ntmps17
 exact M84
theorem KZ (w : World) : Calls Tryz.prog 20 #[.pointer none] w fun r w' => r = .returned (.int .u64 0) ∧ Below w.heap.size w w' := by
 go_enter Tryz.func20, Tryz.ntmps20
 exact M84
theorem XG (w : World) : Calls Tryz.prog 13 #[.pointer none] w fun r w' => r = .returned (.slice none 0 0) ∧ Below w.heap.size w w' := by
 go_enter Tryz.func13, Tryz.ntmps13
 exact M84
theorem XH (w : World) : Calls Tryz.prog 16 #[.pointer none, .agg #[.string ⟨#[]⟩, .int .u64 0, .slice none 0 0]] w fun r w' => r = .returned (.int .i64 1) ∧ Below w.heap.size w w' := by
 go_enter Tryz.func16, Tryz.ntmps16
 go_wp2_with fail
 go_ret
 exact ⟨rfl, (Below.refl _ _).alloc (Nat.le_refl _) _⟩
theorem nil_add (w : World) : Calls Tryz.prog 11 #[.pointer none, .agg #[.string ⟨#[]⟩, .int .u64 0, .slice none 0 0]] w fun r w' => r = .returned (.int .i64 1) ∧ Below w.heap.size w w' := by
 obtain ⟨W0, hW0⟩ : ∃ W0, W0 = w.alloc (.cells #[.string ⟨#[]⟩, .int .u64 0, .slice none 0 0] 33) := ⟨_, rfl⟩
 have hx0 : Cn.BB W0 w.heap.size ⟨#[]⟩ 0 none 0 0 := by rw [hW0]; exact heap_alloc_new w _
 have HB0 := Lib.hid (show Below w.heap.size w W0 by rw [hW0]; exact (Below.refl _ _).alloc (Nat.le_refl _) _)
 obtain ⟨y0, y1, y2, -⟩ := hx0.cells
 rw [show ((0 : Nat) : Int) = 0 from rfl] at y1
 have HC := Lib.hid (XH W0)
 clear hx0
 replace hW0 := Lib.hid hW0
 go_enter Tryz.func11, Tryz.ntmps11
 go_upto_region 1 with fail
 rw [← hW0.out]
 go_wp2_with fail
 refine HC.out.mono ?_
 rintro r w1 ⟨rfl, hb1⟩
 have HB1 := Lib.hid (HB0.out.trans (hb1.mono HB0.out.size))
 clear hb1 HC y0 y1 y2
 go_wp2_with fail
 go_ret
 exact ⟨rfl, HB1.out⟩
theorem nil_all (p : Option Addr) (w : World) : Calls Tryz.prog 41 #[.pointer p] w fun e w' => e = .returned (.func (.func 74) #[] #[.pointer (some ⟨w.heap.size, 0, none⟩)]) ∧ w.alloc (.cells #[.pointer p] 23) = w' := Ke p w
theorem Q624.Y622 (h : p := by
 refine bodyPost_ret (results_none rfl _ _ _) rfl ?_
 exact ⟨⟨_, rfl⟩, rfl⟩) : p := h
theorem all_nil (n : Nat) (hn : 3 ≤ n) (l bx : Nat) (W0 : World) (hc : W0.cell? ⟨bx, 0, none⟩ = some (.pointer none)) :
  CallsIn Fence.wide n Tryz.prog 74 #[.func (.yield l) #[] #[], .pointer (some ⟨bx, 0, none⟩)] W0 fun e W' => (∃ v, e = .returned v) ∧ W' = W0 := by
 open Q624 in exact M622
def N0 (w : World) (m g bx : Nat) (W : World) : Prop := Boxed W g 45 (.slice none 0 0) ∧ Boxed W bx 23 (.pointer none) ∧ Below w.heap.size w W ∧ m ≤ W.heap.size
theorem N0.put {m g bx : Nat} {W : World} {k : Nat} {o : Obj} (o' : Obj) (h : N0 w m g bx W) (hm : w.heap.size ≤ m) (hl : m ≤ k) (hk : W.heap[k]? = some o) (ho : o.isCells = false) : N0 w m g bx (W.putObj k o') := by
 obtain ⟨h1, h3, h4, h5⟩ := h
 exact ⟨FZ h1 o' hk ho, FZ h3 o' hk ho, FK o' h4 (by omega) (by omega), by rw [World.putObj_size]; exact h5⟩
theorem N0.alloc {m g bx : Nat} {W : World} (h : N0 w m g bx W) (hm : w.heap.size ≤ m) (o : Obj) : N0 w m g bx (W.alloc o) := by
 obtain ⟨h1, h3, h4, h5⟩ := h
 exact ⟨h1.alloc o, h3.alloc o, h4.alloc (by omega) o, by simp; omega⟩
theorem M78 (h : p := by
 rw [← hW2]
 have b0 := (Boxed.new w 45 (.slice none 0 0)).alloc (.cells #[.pointer none] 23)
 have b1 := Boxed.new (w.alloc (.cells #[.slice none 0 0] 45)) 23 (.pointer none)
 rw [World.size_alloc] at b1
 exact ⟨b0, b1, ((Below.refl _ w).alloc (Nat.le_refl _) _).alloc (by simp) _, Nat.le_refl _⟩) : p := h
theorem M98 (h : p := by
 intro l o o' L L' ho ho' hLs hLd hY hl0
 have u1 := (u0.alloc (by omega) o).alloc (by omega) o'
 refine (all_nil 8 (by omega) l (w.heap.size + 1) _ u1.2.1.cell).mono ?_
 rintro e W' ⟨hv, rfl⟩
 exact ⟨hv, .inl ⟨u1, hl0⟩⟩) : p := h
theorem M106 (h : p := by
 rintro D W hD ⟨hv, hnum, hB, hm⟩ hK
 have hc := hv.cell
 gi_wp2
 refine ⟨by simp, .inl ⟨_, _, rfl, run_takeDeferred hK, ?_⟩⟩
 refine ⟨_, results_tmp rfl _ _ _, rfl, FK _ hB (by omega) (by omega)⟩) : p := h
theorem M619 (h : p := by
 refine ⟨trivial, (callsIn_wide.2 (nil_all _ _)).mono ?_⟩
 rintro e W2 ⟨rfl, hW2⟩
 gi_wp2_with fail
 have hz2w : W2.heap.size = w.heap.size + 1 + 1 := by rw [← hW2]; simp
 have u0 : N0 w W2.heap.size w.heap.size (w.heap.size + 1) W2 := by
  exact M78
 have HZ2 := Lib.hid hz2w
 clear hW2
 exact Y619) : p := h
theorem Q621.Y619 (h : p := by
 refine Gk (σ := Nat) rfl (by omega) (gf := 74) (lb := #[.pointer (some ⟨w.heap.size + 1, 0, none⟩)]) rfl trivial (enters_of Tryz.func74 (by kernel_rfl) rfl)
  (fun s => #[.pointer (some ⟨s, 0, none⟩)]) (fun _ => rfl)
  (fun _ _ => False) (fun _ _ => False) (fun _ _ => False)
  (fun W => N0 w W2.heap.size w.heap.size (w.heap.size + 1) W)
  (fun s W l o o' h hl ho hc => h)
  (fun s W l o o' h hl ho hc => h)
  (fun c W l o o' h hl ho hc => h)
  (fun W l o o' h hl ho hc => h.put o' (by omega) hl ho hc)
  (fun s => { tmps := #[.pointer none, undef, .slice none 0 0, .pointer (some ⟨w.heap.size, 0, none⟩), .pointer (some ⟨s, 0, none⟩), .pointer none, .func (.func 74) #[] #[.pointer (some ⟨w.heap.size + 1, 0, none⟩)], .pointer (some ⟨s, 0, none⟩), undef, undef, undef, undef, undef, undef], defers := [] })
  ?assign ?body ?iter ?done ?stop
 case assign =>
  intro l s W K hK
  gi_wp2
  exact hK
 case body =>
  intro l s W h
  exact h.elim
 case iter =>
  exact M98
 case done =>
  exact M106
 case stop =>
  rintro D c W hD h hK
  exact h.elim) : p := h
theorem Q599.Y597 (h : p := by
 open Q621 in exact M619) : p := h
theorem KY (w : World) : Calls Tryz.prog 18 #[.pointer none] w fun e w' => e = .returned (.slice none 0 0) ∧ Below w.heap.size w w' := by
 open Q599 in exact M597
theorem Q620.Y619 (h : p := by
 refine Gk (σ := Nat) rfl (by omega) (gf := 74) (lb := #[.pointer (some ⟨w.heap.size + 1, 0, none⟩)]) rfl trivial (enters_of Tryz.func74 (by kernel_rfl) rfl)
  (fun s => #[.pointer (some ⟨s, 0, none⟩)]) (fun _ => rfl)
  (fun _ _ => False) (fun _ _ => False) (fun _ _ => False)
  (fun W => N0 w W2.heap.size w.heap.size (w.heap.size + 1) W)
  (fun s W l o o' h hl ho hc => h)
  (fun s W l o o' h hl ho hc => h)
  (fun c W l o o' h hl ho hc => h)
  (fun W l o o' h hl ho hc => h.put o' (by omega) hl ho hc)
  (fun s => { tmps := #[.pointer none, undef, .slice none 0 0, .pointer (some ⟨w.heap.size, 0, none⟩), .pointer (some ⟨s, 0, none⟩), .pointer none, .func (.func 74) #[] #[.pointer (some ⟨w.heap.size + 1, 0, none⟩)], .pointer (some ⟨s, 0, none⟩), undef, undef, undef, undef, undef, undef, undef, undef, undef], defers := [] })
  ?assign ?body ?iter ?done ?stop
 case assign =>
  intro l s W K hK
  gi_wp2
  exact hK
 case body =>
  intro l s W h
  exact h.elim
 case iter =>
  exact M98
 case done =>
  exact M106
 case stop =>
  rintro D c W hD h hK
  exact h.elim) : p := h
theorem nil_open (w : World) : Calls Tryz.prog 19 #[.pointer none] w fun e w' => e = .returned (.slice none 0 0) ∧ Below w.heap.size w w' := by
 refine (callsIn_wide (n := 9)).1 ?_
 refine callsIn_of_wp_marks Tryz.func19 rfl trivial ?_ rfl
 simp only [Tryz.ntmps19, List.size_toArray, List.length_cons, List.length_nil, Nat.reduceAdd, Nat.reduceSub, Array.replicate_succ, Array.replicate_zero, List.push_toArray, List.append_toArray, List.nil_append, List.cons_append]
 gi_wp2_with fail
 open Q620 in exact M619
end Hi
end Go.Proofs.YtfmnacebgplpcaaGreat
