/- The reference's index: Add. -/
import Derived.Laws.Rows
import Derived.Laws.IdiomRangeMap
import Derived.Test.YtaahfiopdoinkaaGreatTfan
import Derived.Test.YtaahfiopdoinkaaGreatTfav
import Derived.Test.YtaahfiopdoinkaaGreatTfaw
import Derived.Test.YtaahfiopdoinkaaGreatTfau
import Derived.Test.YtaahfiopdoinkaaGreatTfas
import Derived.Test.YtaahfiopdoinkaaGreatTfap
import Derived.Test.YtaahfiopdoinkaaGreatTfai
import Derived.Test.YtaahfiopdoinkaaGreatTfah
import Derived.Test.YtaahfiopdoinkaaGreatRows
set_option maxRecDepth 100000
set_option maxHeartbeats 4000000
variable {p : Prop}
set_option linter.unusedVariables false
set_option linter.unusedSimpArgs false
open Go.RowKit
namespace Go.Proofs.YtaahfiopdoinkaaGreat
namespace Hi
open _root_.Go.Proofs.YtaahfiopdoinkaaGreat.Nm (Dn Dd)
open _root_.Go.Proofs.YtaahfiopdoinkaaGreat.Rd (Pj)
open Vt (VT Rep Da)
open Ev (EV Dk Db Di take_drop tk ap rd1 rd2 Dg)
open Cm (rowOf EvsIn)
open Cn (BT BB BtsIn Dw)
variable {X X' Y Y' : Nat → Prop} {u v w w' V V' : World} {cap : Nat} {A : Option Addr} {x : XM} {b : BT}
theorem Tryz.infoRh : (Tryz.prog.info? 84).map (fun i => (i.zero, i.size, i.bytes)) = some (some (.agg #[.string ⟨#[]⟩, .slice none 0 0, .int .i64 0, .int .u64 0, .slice none 0 0, .slice none 0 0, .slice none 0 0]), 7, 128) := by kernel_rfl
theorem addX_2 (h : Dw b.flow b.at' b.es = false) : (DF x b).1 = 2 := by unfold DF; rw [if_pos h]
theorem addX_12 (h : Dw b.flow b.at' b.es = true) (h2 : b.at' < x.clock) : (DF x b).1 = 12 := by unfold DF; rw [if_neg (by rw [h]; decide), if_pos h2]
theorem addX_m (h : Dw b.flow b.at' b.es = true) (h2 : ¬ b.at' < x.clock) (h3 : (Du (DL x b.flow) b).1 ≠ 0) : (DF x b).1 = (Du (DL x b.flow) b).1 := by unfold DF; rw [if_neg (by rw [h]; decide), if_neg h2, if_pos h3]
theorem addX_0 (h : Dw b.flow b.at' b.es = true) (h2 : ¬ b.at' < x.clock) (h3 : (Du (DL x b.flow) b).1 = 0) : (DF x b).1 = 0 ∧ (DF x b).2.all = x.all ++ [b] ∧ (DF x b).2.flows = (match Dt x.flows b.flow with | some k => x.flows.set k (Du (DL x b.flow) b).2 | none => x.flows ++ [(Du (DL x b.flow) b).2]) := by
 unfold DF
 rw [if_neg (by rw [h]; decide), if_neg h2, if_neg (fun q => q h3)]
 cases Dt x.flows b.flow <;> exact ⟨rfl, rfl, rfl⟩
def YX (X : Nat → Prop) (x : XM) (b : BT) (w : World) (r : Ending) (w' : World) : Prop := Below w.heap.size w w' ∧ ∃ uA uF, r = .returned (.tuple #[.agg #[uA, uF], .int .i64 (DF x b).1]) ∧ RIx (Dp X w') (DF x b).2 uA uF
theorem GS {base k n cap g j : Nat} {T : TypeId} {xs : List Value} (h : w.ownsRow base T k (.slice (some ⟨g, 0, none⟩) n cap) n xs) (v : Value) : (w.setCell ⟨g, j, none⟩ v).ownsRow base T k (.slice (some ⟨g, 0, none⟩) n cap) n (xs.set j v) := by
 rcases h.2 with ⟨h1, h2⟩ | ⟨g', cap', cur, e, q2, q3, q4, q5, q6, q7⟩
 ·cases h1
 ·cases e
  refine ⟨by rw [List.length_set]; exact h.1, .inr ⟨g, cap, cur.setIfInBounds j v, rfl, q2, ?_, q4, q5, by simpa using q6, ?_⟩⟩
  ·simp [World.setCell, Array.getElem?_modify, q3]
  ·rw [← q7]; simp [List.take_set]
theorem Vy {base k n cap g j : Nat} {T : TypeId} {xs : List Value} (h : w.ownsRow base T k (.slice (some ⟨g, 0, none⟩) n cap) n xs) : w.frozen? ⟨g, j, none⟩ = false ∧ base ≤ g := by
 rcases h.2 with ⟨h1, h2⟩ | ⟨g', cap', cur, e, q2, q3, q4, q5, q6, q7⟩
 ·cases h1
 ·cases e
  exact ⟨by simp [World.frozen?, q3], q2⟩
theorem own_cell {base k n cap g p : Nat} {T : TypeId} {xs : List Value} {y : Value} (h : w.ownsRow base T k (.slice (some ⟨g, 0, none⟩) n cap) n xs) (hy : xs[p]? = some y) : w.cell? ⟨g, p, none⟩ = some y := by
 rcases h.2 with ⟨h1, h2⟩ | ⟨g', cap', cur, e, q2, q3, q4, q5, q6, q7⟩
 ·cases h1
 ·cases e
  have hlt := (List.getElem?_eq_some_iff.1 hy).1
  rw [h.1] at hlt
  rw [← q7, List.getElem?_take_of_lt hlt, Array.getElem?_toList] at hy
  simp [World.cell?, q3, hy]
theorem Oe {P : Value → Prop} {l : List Value} {i : Nat} {y : Value} (h : ∀ z ∈ l, P z) (hy : P y) : ∀ z ∈ l.set i y, P z := fun z hz => (List.mem_or_eq_of_mem_set hz).elim (h z) fun e => e ▸ hy
theorem rhsC_set {xs : List Value} {fl : List HM} (h : RHsC V xs fl) (i : Nat) (hi : i < fl.length) (g : HM) (hg : g.flow.size ≤ maxLen) {ub uk ut um : Value} (hr : RH V g ub uk ut um) :
  RHsC V (((((((xs.set (i * 7) (.string g.flow)).set (i * 7 + 1) ub).set (i * 7 + 2) (.int .i64 g.s.closed)).set (i * 7 + 3) (.int .u64 (g.s.next : Nat))).set (i * 7 + 4) uk).set (i * 7 + 5) ut).set (i * 7 + 6) um) (fl.set i g) := by
 have h1 := h.1
 refine ⟨by simp only [List.length_set]; exact h1, fun j hj => ?_⟩
 rw [List.length_set] at hj
 by_cases e : j = i
 ·subst e
  simp only [List.getElem_set_self]
  refine ⟨hg, ub, uk, ut, um, hr, fun q hq => ?_⟩
  have hlt : j * 7 + 6 < xs.length := by omega
  rcases (show q = 0 ∨ q = 1 ∨ q = 2 ∨ q = 3 ∨ q = 4 ∨ q = 5 ∨ q = 6 by omega) with rfl | rfl | rfl | rfl | rfl | rfl | rfl <;> (simp only [Nat.add_zero, List.getElem?_set, List.length_set]; simp [rhC]; omega)
 ·rw [List.getElem_set_ne (fun q => e q.symm)]
  obtain ⟨q0, ub', uk', ut', um', q1, q2⟩ := h.2 j hj
  refine ⟨q0, ub', uk', ut', um', q1, fun q hq => ?_⟩
  rw [← q2 q hq]
  repeat rw [List.getElem?_set_ne (by omega)]
theorem Q337.Y333 (h : p := by
 refine tk 8 rfl ?_
 obtain ⟨cx, fx, tx, fy, ty⟩ := HCX.out cF HBF.out
 refine rd1 9 rfl fun K hK => ?_
 go_simp
 refine hK.out _ _ (HKS2.out _ _ _ HBF.out) (fun hHeldZ => ?_)
 clear hK K hH01ABL
 try simp only [ap]
 refine tk 10 rfl ?_
 refine wpAnyH_done (by kernel_rfl) ?_ _
 refine NoPanic.normal ?_
 clear hHeldZ cx fx fy
 go_wp2_with fail
 refine bodyPost_ret (v := .tuple #[.agg #[.slice Ar (nA + 1) cr, .slice R N9 cR], .int .i64 0]) (by simp [results, Tryz.results28, go_sem, tx, ty]) rfl ?_
 exact HOUT.out cF Ar cr HOF.out HBRF.out HBF.out) : p := h
theorem M31 (h : p := by
 try simp only [ap]
 refine rd1 6 rfl fun K hK => ?_
 refine Dm zw01A rfl _ _ 22 64 rfl i0 _ 3 48 Tryz.underlying22 HSZ.out hi0 hz0 hz1 hz2 rfl (by decide) u0.heap.size v1 (.slice (some ⟨ib, 0, none⟩) 1 1) nA 1 xsA (#[Value.string ff, .int .u64 (at' : Nat), .slice A m cap] : Array Value).toList rfl rfl own1_01A.out one_01A.out (by simp only [maxLen]; omega) (by omega) HB01A.out.size ?_
 open Q337 in exact M333) : p := h
theorem Q332.Y328 (h : p := by
 clear hK K hH01L
 exact M31) : p := h
theorem M7 (h : p := by
 refine rd1 3 rfl fun K hK => ?_
 refine Dm zw01 rfl _ _ 22 64 rfl i0 _ 3 48 Tryz.underlying22 HSZ.out hi0 hz0 hz1 hz2 rfl (by decide) u0.heap.size (.slice (some ⟨ia, 0, none⟩) 0 0) (.slice AA nA cA) 0 nA [] xsA rfl rfl own0_01.out (HIN.out _ HB01.out) (by simp only [maxLen]; omega) (by omega) HB01.out.size ?_
 open Q332 in exact M328) : p := h
theorem Q490.Y486 (h : p := by
 clear hK K hH0AL
 exact M31) : p := h
theorem Q358.Y354 (h : p := by
 have one_01A : Hid (CIn zw01A (.slice (some ⟨ib, 0, none⟩) 1 1) 1 3 (#[Value.string ff, .int .u64 (at' : Nat), .slice A m cap] : Array Value).toList) := U (by rw [hc01A, hib]; exact CIn.new zw0A _ _ rfl HONE.out)
 open Q490 in exact M486) : p := h
theorem Q305.Y299 (h : p := by
 refine rd1 5 rfl fun K hK => ?_
 go_simp
 obtain ⟨zw01A, hc01A⟩ : ∃ u, u = zw0A.alloc (.cells (#[Value.string ff, .int .u64 (at' : Nat), .slice A m cap] : Array Value) 64) := ⟨_, rfl⟩
 open Q358 in exact M354) : p := h
theorem Q373.Y366 (h : p := by
 refine hK.out _ _ (HKS.out _ HB01.out) (fun hH01L => ?_)
 clear hK K hH0L
 try simp only [ap]
 exact M7) : p := h
theorem Q273.Y266 (h : p := by
 have one_01 : Hid (CIn zw01 (.slice (some ⟨ib, 0, none⟩) 1 1) 1 3 (#[Value.string ff, .int .u64 (at' : Nat), .slice A m cap] : Array Value).toList) := U (by rw [hc01, hib]; exact CIn.new zw0 _ _ rfl HONE.out)
 open Q373 in exact Xc) : p := h
theorem M13 (h : p := by
 refine rd2 3 5 rfl rfl (fun K hK => ?_) fun K hK => ?_
 ·refine Dm zw0 rfl _ _ 22 64 rfl i0 _ 3 48 Tryz.underlying22 HSZ.out hi0 hz0 hz1 hz2 rfl (by decide) u0.heap.size (.slice (some ⟨ia, 0, none⟩) 0 0) (.slice AA nA cA) 0 nA [] xsA rfl rfl own0_0.out (HIN.out _ HB0.out) (by simp only [maxLen]; omega) (by omega) HB0.out.size ?_
  open Q305 in exact Kq
 ·go_simp
  obtain ⟨zw01, hc01⟩ : ∃ u, u = zw0.alloc (.cells (#[Value.string ff, .int .u64 (at' : Nat), .slice A m cap] : Array Value) 64) := ⟨_, rfl⟩
  open Q273 in exact Xe) : p := h
theorem Q252.Y250 (h : p := by
 refine hK.out _ _ (HKS.out _ HB01.out) (fun hH01L => ?_)
 clear hK K hH1L
 try simp only [ap]
 exact M7) : p := h
theorem M37 (h : p := by
 refine rd1 0 rfl fun K hK => ?_
 open Q252 in exact M250) : p := h
theorem Q468.Y464 (h : p := by
 clear cx
 exact M7) : p := h
theorem M92 (h : p := by
 open Q468 in exact M464) : p := h
theorem Q254.Y250 (h : p := by
 refine hK.out _ _ (HKS.out _ HB01.out) (fun hH01 => ?_)
 clear hK K hH1
 exact M92) : p := h
theorem Q374.Y366 (h : p := by
 refine hK.out _ _ (HKS.out _ HB01.out) (fun hH01 => ?_)
 clear hK K hH0
 exact M92) : p := h
theorem Q274.Y266 (h : p := by
 have one_01 : Hid (CIn zw01 (.slice (some ⟨ib, 0, none⟩) 1 1) 1 3 (#[Value.string ff, .int .u64 (at' : Nat), .slice A m cap] : Array Value).toList) := U (by rw [hc01, hib]; exact CIn.new zw0 _ _ rfl HONE.out)
 open Q374 in exact Xc) : p := h
theorem Q583.Y579 (h : p := by
 try simp only [ap]
 exact M37) : p := h
theorem Q289.Y282 (h : p := by
 have one_1 : Hid (CIn zw1 (.slice (some ⟨ib, 0, none⟩) 1 1) 1 3 (#[Value.string ff, .int .u64 (at' : Nat), .slice A m cap] : Array Value).toList) := U (by rw [hc1, hib]; exact CIn.new u0 _ _ rfl HONE.out)
 open Q583 in exact M579) : p := h
theorem Q539.Y535 (h : p := by
 clear cx
 exact M37) : p := h
theorem Q550.Y546 (h : p := by
 refine rd2 0 2 rfl rfl (fun K hK => ?_) fun K hK => ?_
 ·open Q254 in exact M250
 ·open Q539 in exact M535) : p := h
theorem Q290.Y282 (h : p := by
 have one_1 : Hid (CIn zw1 (.slice (some ⟨ib, 0, none⟩) 1 1) 1 3 (#[Value.string ff, .int .u64 (at' : Nat), .slice A m cap] : Array Value).toList) := U (by rw [hc1, hib]; exact CIn.new u0 _ _ rfl HONE.out)
 open Q550 in exact M546) : p := h
theorem Q506.Y500 (h : p := by
 clear cx
 exact M13) : p := h
theorem Q397.Y394 (h : p := by
 refine hK.out _ _ (HKS.out _ HB0.out) (fun hH0 => ?_)
 clear hK K hHeld
 try simp only [ap]
 refine rd2 2 5 rfl rfl (fun K hK => ?_) fun K hK => ?_
 ·open Q506 in exact Ko
 ·go_simp
  obtain ⟨zw01, hc01⟩ : ∃ u, u = zw0.alloc (.cells (#[Value.string ff, .int .u64 (at' : Nat), .slice A m cap] : Array Value) 64) := ⟨_, rfl⟩
  open Q274 in exact Xe) : p := h
theorem Q297.Y291 (h : p := by
 open Q397 in exact M394) : p := h
theorem Q398.Y394 (h : p := by
 refine hK.out _ _ (HKS.out _ HB0.out) (fun hH0L => ?_)
 clear hK K hHL
 try simp only [ap]
 exact M13) : p := h
theorem Q298.Y291 (h : p := by
 open Q398 in exact M394) : p := h
theorem Q478.Y472 (h : p := by
 refine rd2 0 5 rfl rfl (fun K hK => ?_) fun K hK => ?_
 ·go_simp
  obtain ⟨zw0, hc0⟩ : ∃ u, u = u0.alloc (.cells #[] 64) := ⟨_, rfl⟩
  open Q298 in exact Yw
 ·go_simp
  obtain ⟨zw1, hc1⟩ : ∃ u, u = u0.alloc (.cells (#[Value.string ff, .int .u64 (at' : Nat), .slice A m cap] : Array Value) 64) := ⟨_, rfl⟩
  open Q289 in exact Xd) : p := h
theorem Q379.Y378 (h : p := by
 clear k5 k5n KS HCK
 have HCF : Hid (Calls Tryz.prog 31 #[.agg #[.slice AA nA cA, .slice AF nF cF], .string ff] w5 fun r w' => r = .returned (.int .i64 (FO x.flows ff)) ∧ Below w5.heap.size w5 w') := U (PC x _ _ ff w5 (HH.out w5 HB5.out))
 obtain ⟨fi, hfi⟩ := Kt (FO x.flows ff)
 rw [← hfi] at HCF
 have HFI := U hfi
 clear hfi
 obtain ⟨x0, x1, -⟩ := (HX.out w5 HB5.out).1.cells
 obtain ⟨y0, y1, y2, -⟩ := (HX.out w5 HB5.out).2.1.cells
 go_wp2_with fail
 refine HCF.out.mono ?_
 rintro r w6 ⟨rfl, hb6⟩
 have HB6 : Hid (Below W0.heap.size W0 w6) := U (HB5.out.trans (hb6.mono HB5.out.size))
 clear hb6 HCF
 clear x0 x1
 clear y0 y1 y2
 obtain ⟨y0, y1, y2, -⟩ := (HX.out w6 HB6.out).2.1.cells
 go_wp2_with fail
 refine (rnew_any ff w6).mono ?_
 rintro r w7 ⟨rfl, hb7⟩
 have hb07 : Below W0.heap.size W0 w7 := HB6.out.trans (hb7.mono HB6.out.size)
 clear y0 y1 y2
 obtain ⟨g3, hg3⟩ : ∃ g, g = w7.heap.size := ⟨_, rfl⟩
 obtain ⟨W8, hW8⟩ := Kt (w7.alloc (.cells #[.string ff, .slice none 0 0, .int .i64 0, .int .u64 1, .slice none 0 0, .slice none 0 0, .slice none 0 0] 84))
 have HB8 : Hid (Below W0.heap.size W0 W8) := U (by rw [hW8]; exact hb07.alloc hb07.size _)
 have HR8 : Hid (RX W8 g3 ff (.slice none 0 0) 0 1 (.slice none 0 0) (.slice none 0 0) (.slice none 0 0)) := U (by rw [hW8, hg3]; exact heap_alloc_new w7 _)
 have HG3 : Hid (W0.heap.size ≤ g3) := U (by rw [hg3]; exact hb07.size)
 clear hb7 hb07
 have HGG3 := U hg3; have HW8 := U hW8
 clear hg3 hW8
 unfold rhC
 go_upto_if 28 with fail
 rw [← HW8.out, ← HGG3.out]
 clear HW8 HGG3
 have HXL : Hid (∀ W, Below W0.heap.size W0 W → Leads (Dp X w) (Dp (fun c => X c ∨ c = w.heap.size + 1 + 1 ∨ c = g3) W)) := U fun W hW => Dl (HBW.out W hW).size fun c hc hx => ⟨fun q => by
  rcases q with q | q | q
  ·exact hx q
  ·omega
  ·have := HG3.out; have := HS0.out; omega, (HBW.out W hW).block c hc⟩
 obtain ⟨hx, hhx⟩ := Kt (DL x b.flow)
 rw [← hhx] at HGH HHF
 have HHX := U hhx
 clear hhx
 go_cut [] from 10 (fun wx => Below W0.heap.size W0 wx ∧ ∃ ub uk ut um, RX wx g3 ff ub hx.s.closed hx.s.next uk ut um ∧ RH (Dp (fun c => X c ∨ c = w.heap.size + 1 + 1 ∨ c = g3) wx) hx ub uk ut um)
 case first =>
  cases hfx : Dt x.flows ff with
  | none =>
   have hfi : fi = -1 := by rw [HFI.out]; unfold FO; rw [hfx]
   have HOUT : Hid (Below W0.heap.size W0 W8 ∧ ∃ ub uk ut um, RX W8 g3 ff ub hx.s.closed hx.s.next uk ut um ∧ RH (Dp (fun c => X c ∨ c = w.heap.size + 1 + 1 ∨ c = g3) W8) hx ub uk ut um) := U (by
    have e : hx = HM.new ff := by rw [HHX.out, ← HFF.out]; exact OU hfx
    rw [e]
    exact ⟨HB8.out, _, _, _, _, HR8.out, rh_new _ ff⟩)
   clear hfx
   subst hfi
   have k1 : decide ((0 : Int) ≤ (-1 : Int)) = false := rfl
   go_wp2_with fail
   go_meet
   exact HOUT.out
  | some i =>
   have hfi : fi = (i : Nat) := by rw [HFI.out]; unfold FO; rw [hfx]
   obtain ⟨hil, hif, -⟩ := DJ hfx
   have he : hx = x.flows[i] := by
    have e := OT (x := x) (f := b.flow) (by rw [← HFF.out]; exact hfx) (List.getElem?_eq_getElem hil)
    rw [HHX.out]; exact e
   obtain ⟨xsV, hcinV, hcV⟩ := HV0.out.flows
   obtain ⟨-, ub, uk, ut, um, hrhV, hq⟩ := hcV.2 i hil
   obtain ⟨-, -, A9, c9, e9, -, -, hrd⟩ := hcinV
   rw [← HNF.out] at e9
   obtain ⟨rfl, rfl⟩ : AF = A9 ∧ cF = c9 := by injection e9 with a1 a2 a3; exact ⟨a1, a3⟩
   obtain ⟨rb, off, rfl, hblV, hr⟩ := hrd (by omega)
   have hbl : rb < w.heap.size := by rw [← DK X w]; exact hblV
   rw [← he] at hrhV hq
   obtain ⟨⟨Bu, nu, cu, rfl⟩, ⟨Ak, nk, ck, rfl⟩, ⟨Aq, nt, ct, rfl⟩, ⟨Am, nm, cm, rfl⟩⟩ := hrhV.slices
   have d : ∀ q (hq7 : q < 7) v, (rhC hx.flow (.slice Bu nu cu) hx.s.closed hx.s.next (.slice Ak nk ck) (.slice Aq nt ct) (.slice Am nm cm))[q]? = some v → W8.cell? ⟨rb, off + i * 7 + q, none⟩ = some v := fun q hq7 v hv => by
    have := hr (i * 7 + q) v (by rw [hq q hq7]; exact hv)
    rw [← Nat.add_assoc] at this
    exact ((HBW.out W8 HB8.out).cell (p := ⟨rb, off + i * 7 + q, none⟩) hbl).trans ((De X w).cell this)
   have hflx : hx.flow = ff := by rw [HHF.out, HFF.out]
   have d0 := d 0 (by omega) (.string hx.flow) rfl; have d1 := d 1 (by omega) (.slice Bu nu cu) rfl; have d2 := d 2 (by omega) (.int .i64 hx.s.closed) rfl; have d3 := d 3 (by omega) (.int .u64 (hx.s.next : Nat)) rfl; have d4 := d 4 (by omega) (.slice Ak nk ck) rfl; have d5 := d 5 (by omega) (.slice Aq nt ct) rfl; have d6 := d 6 (by omega) (.slice Am nm cm) rfl
   rw [Nat.add_zero, hflx] at d0
   obtain ⟨W9, hW9⟩ := Kt (((((((W8.setCell ⟨g3, 0, none⟩ (.string ff)).setCell ⟨g3, 1, none⟩ (.slice Bu nu cu)).setCell ⟨g3, 2, none⟩ (.int .i64 hx.s.closed)).setCell ⟨g3, 3, none⟩ (.int .u64 (hx.s.next : Nat))).setCell ⟨g3, 4, none⟩ (.slice Ak nk ck)).setCell ⟨g3, 5, none⟩ (.slice Aq nt ct)).setCell ⟨g3, 6, none⟩ (.slice Am nm cm))
   have HOUT : Hid (Below W0.heap.size W0 W9 ∧ ∃ ub uk ut um, RX W9 g3 ff ub hx.s.closed hx.s.next uk ut um ∧ RH (Dp (fun c => X c ∨ c = w.heap.size + 1 + 1 ∨ c = g3) W9) hx ub uk ut um) := U (by
    have hb9 : Below W0.heap.size W0 W9 := by rw [hW9]; exact DY (g := g3) HB8.out HG3.out _ _ _ _ _ _ _
    refine ⟨hb9, _, _, _, _, ?_, hrhV.leads (HXL.out W9 hb9)⟩
    rw [hW9]; exact HR8.out.seven)
   have HW9 := U hW9
   have hni : i < nF := by have := HNF.out; omega
   obtain ⟨x0, x1, -⟩ := (HX.out W8 HB8.out).1.cells
   obtain ⟨z0, z1, z2, z3, z4, z5, z6, zf⟩ := HR8.out.cells
   have zf0 := zf 0; have zf1 := zf 1; have zf2 := zf 2; have zf3 := zf 3; have zf4 := zf 4; have zf5 := zf 5; have zf6 := zf 6
   clear d hr hq hrd e9 hblV hcV hrhV hif he hfx hW9 zf
   generalize hx.s.closed = cl at *
   generalize hx.s.next = nx at *
   subst hfi
   have k1 : decide ((0 : Int) ≤ (i : Int)) = true := decide_eq_true (by omega)
   go_wp2_with fail
   rw [← HW9.out]
   go_meet
   exact HOUT.out
 case rest =>
  obtain ⟨hbx, ub, uk, ut, um, hrx, hrh⟩ := hcut
  clear HR8 HB8 W8 HB6 w6 w7
  obtain ⟨⟨Bu, nu, cu, rfl⟩, ⟨Ak, nk, ck, rfl⟩, ⟨Aq, nt, ct, rfl⟩, ⟨Am, nm, cm, rfl⟩⟩ := hrh.slices
  have hflx : hx.flow = ff := by rw [HHF.out, HFF.out]
  have HCR : Hid (Calls Tryz.prog 50 #[.agg (rhC ff (.slice Bu nu cu) hx.s.closed hx.s.next (.slice Ak nk ck) (.slice Aq nt ct) (.slice Am nm cm)), .agg #[.string ff, .int .u64 (at' : Nat), .slice A m cap]] wc (Km (fun c => X c ∨ c = w.heap.size + 1 + 1 ∨ c = g3) hx b wc)) := U (by
   have hbw := HBW.out wc hbx
   have q := radd_any hx _ _ _ _ b A cap wc (fun c k => by
    rcases k with k | k | k
    ·exact Nat.lt_of_lt_of_le (HXB.out c k) hbw.size
    ·have := hbx.size; have := HS0.out; omega
    ·rw [k]; exact hrx.lt) hrh HGH.out.fine HGH.out.keys (by have := HGH.out.tot; have := HT.out; have := HMM.out; omega) (by have := HGH.out.len; omega) (EvsIn.leads HEVV.out (HXL.out wc hbx)) HBIN.out.slim HFL.out (by rw [← HAT.out]; exact hbat)
   rw [hflx, ← HFF.out, ← HAT.out, ← HMM.out] at q
   exact q)
  have HBX := U hbx; have HRX := U hrx; have HFLX := U hflx
  obtain ⟨z0, z1, z2, z3, z4, z5, z6, zf⟩ := hrx.cells
  have zf0 := zf 0; have zf1 := zf 1; have zf2 := zf 2; have zf3 := zf 3; have zf4 := zf 4; have zf5 := zf 5; have zf6 := zf 6
  clear hrh hrx hbx hflx zf
  obtain ⟨y0, y1, y2, -⟩ := (HX.out wc HBX.out).2.1.cells
  obtain ⟨cl, hcl⟩ := Kt (hx.s.closed)
  obtain ⟨nx, hnx⟩ := Kt (hx.s.next)
  rw [← hcl, ← hnx] at HCR HRX
  rw [← hcl] at z2
  rw [← hnx] at z3
  unfold rhC at HCR
  clear hcl hnx
  go_wp2_with fail
  refine HCR.out.mono ?_
  rintro r w9 ⟨hb9, ub1, uk1, ut1, um1, rfl, hr9⟩
  obtain ⟨⟨Bu1, nu1, cu1, rfl⟩, ⟨Ak1, nk1, ck1, rfl⟩, ⟨Aq1, nt1, ct1, rfl⟩, ⟨Am1, nm1, cm1, rfl⟩⟩ := hr9.slices
  rw [HFLX.out]
  unfold rhC
  obtain ⟨h1, hh1⟩ : ∃ h', h' = (Du hx b).2 := ⟨_, rfl⟩
  obtain ⟨cd, hcd⟩ : ∃ c, c = (Du hx b).1 := ⟨_, rfl⟩
  have hfw1 : h1.flow = ff := by rw [hh1, OH, HFLX.out]
  rw [← hh1] at hr9 ⊢
  rw [← hcd]
  have HH1 := U hh1; have HCD := U hcd; have HFW1 := U hfw1
  have HB9 : Hid (Below W0.heap.size W0 w9) := U (HBX.out.trans (hb9.mono HBX.out.size))
  have HG3L : Hid (g3 < w9.heap.size) := U (Nat.lt_of_lt_of_le HRX.out.lt hb9.size)
  have hrx9 := HRX.out.later hb9 HRX.out.lt
  obtain ⟨W10, hW10⟩ := Kt (((((((w9.setCell ⟨g3, 0, none⟩ (.string ff)).setCell ⟨g3, 1, none⟩ (.slice Bu1 nu1 cu1)).setCell ⟨g3, 2, none⟩ (.int .i64 h1.s.closed)).setCell ⟨g3, 3, none⟩ (.int .u64 (h1.s.next : Nat))).setCell ⟨g3, 4, none⟩ (.slice Ak1 nk1 ck1)).setCell ⟨g3, 5, none⟩ (.slice Aq1 nt1 ct1)).setCell ⟨g3, 6, none⟩ (.slice Am1 nm1 cm1))
  have HB10 : Hid (Below W0.heap.size W0 W10) := U (by rw [hW10]; exact DY (g := g3) HB9.out HG3.out _ _ _ _ _ _ _)
  have HR10 : Hid (RX W10 g3 ff (.slice Bu1 nu1 cu1) h1.s.closed h1.s.next (.slice Ak1 nk1 ck1) (.slice Aq1 nt1 ct1) (.slice Am1 nm1 cm1)) := U (by rw [hW10]; exact hrx9.seven)
  have HRH10 : Hid (RH (Dp (fun c => X c ∨ c = w.heap.size + 1 + 1 ∨ c = g3) W10) h1 (.slice Bu1 nu1 cu1) (.slice Ak1 nk1 ck1) (.slice Aq1 nt1 ct1) (.slice Am1 nm1 cm1)) := U (hr9.leads (Dl (by rw [hW10]; simp [World.setCell]) fun c hc hxc => ⟨hxc, by rw [hW10]; exact Gj (fun e => hxc (.inr (.inr e))) ..⟩))
  clear z0 z1 z2 z3 z4 z5 z6 zf0 zf1 zf2 zf3 zf4 zf5 zf6
  obtain ⟨cl1, hcl1⟩ : ∃ c, c = h1.s.closed := ⟨_, rfl⟩
  obtain ⟨nx1, hnx1⟩ : ∃ c, c = h1.s.next := ⟨_, rfl⟩
  have HW10 := U hW10
  obtain ⟨z0, z1, z2, z3, z4, z5, z6, zf⟩ := hrx9.cells
  have zf0 := zf 0; have zf1 := zf 1; have zf2 := zf 2; have zf3 := zf 3; have zf4 := zf 4; have zf5 := zf 5; have zf6 := zf 6
  rw [← hcl1, ← hnx1] at HR10 HW10 ⊢
  have HCL1 := U hcl1; have HNX1 := U hnx1
  clear zf hrx9 hr9 hb9 hW10 hh1 hcd hfw1 HCR HRX hcl1 hnx1
  clear y0 y1 y2
  go_upto_region 10 with fail
  rw [← HW10.out]
  clear z0 z1 z2 z3 z4 z5 z6 zf0 zf1 zf2 zf3 zf4 zf5 zf6
  by_cases hc : cd = 0
  rotate_left
  ·have kc : (cd != 0) = true := by simpa using hc
   have kc2 : (cd == 0) = false := by simpa using hc
   have HNE2 := U hc
   have HA2 : Hid ((DF x b).1 = cd) := U (by rw [addX_m HVT.out HN2.out (by rw [← HHX.out, ← HCD.out]; exact hc), ← HHX.out, ← HCD.out])
   clear hc
   obtain ⟨x0, x1, -⟩ := (HX.out W10 HB10.out).1.cells
   obtain ⟨q0, q1, qf⟩ := (HX.out W10 HB10.out).2.2.cells
   have qf0 := qf 0; have qf1 := qf 1
   clear qf
   go_wp2_with fail
   refine bodyPost_ret (v := .tuple #[.agg #[.slice AA nA cA, .slice AF nF cF], .int .i64 cd]) (by simp [results, Tryz.results28, go_sem, q0, q1]) rfl ?_
   exact HBAD.out cd HA2.out HNE2.out W10 HB10.out _ _
  subst hc
  have HADD := U (addX_0 HVT.out HN2.out (by rw [← HHX.out, ← HCD.out]))
  go_upto_region 12 with fail
  obtain ⟨xsV, hcinV, hcV⟩ := HV0.out.flows
  rw [← HNF.out] at hcinV
  have HCV' := U hcV; have HCIV := U hcinV
  have HIN : Hid (∀ W, Below W0.heap.size W0 W → CIn W (.slice AF nF cF) nF 7 xsV) := U fun W hW => (HCIV.out.leads (De X w)).later (HBW.out W hW)
  obtain ⟨i0, hi0, hz0, hz1, hz2⟩ := info_parts Tryz.infoRh
  have HSZ := U (OI hi0 hz1)
  obtain ⟨W11, hW11⟩ := Kt (W10.alloc (.cells #[] 84))
  have HB11 : Hid (Below W0.heap.size W0 W11) := U (by rw [hW11]; exact HB10.out.alloc HB10.out.size _)
  have HO11 : Hid (W11.ownsRow W0.heap.size 84 7 (.slice (some ⟨W10.heap.size, 0, none⟩) 0 0) 0 []) := U (by rw [hW11]; exact World.ownsRow_lit W10 #[] 0 HB10.out.size (Nat.zero_le _) (by simp))
  have hbx11 : Below W10.heap.size W10 W11 := by rw [hW11]; exact Ks
  have HBX11 := U hbx11; have HW11 := U hW11
  have hg0 : w.heap.size < W10.heap.size := by have := HB10.out.size; have := HS0.out; omega
  clear hcV hcinV hbx11 hW11
  obtain ⟨x0, x1, -⟩ := (HX.out W10 HB10.out).1.cells
  go_upto_if 49 with (at_builtin; rw [← HW11.out]; refine Dz _ rfl _ _ 25 84 rfl i0 _ 7 128 Tryz.underlying25 HSZ.out hi0 hz0 hz1 hz2 rfl (by decide) W0.heap.size _ _ 0 nF [] xsV rfl rfl HO11.out (HIN.out _ HB11.out) (by simp only [maxLen]; omega) (by omega) HB11.out.size ?_; intro v12 w12 hown hgrow hat12)
  rw [Nat.zero_add, List.nil_append] at hown
  have HB12 : Hid (Below W0.heap.size W0 w12) := U (DD HB11.out hgrow (fun r hr => (HO11.out.lt r hr).1) HB11.out.size)
  have hbx12 : Below W10.heap.size W10 w12 := DD HBX11.out hgrow (fun r hr => by have e : W10.heap.size = r := Option.some.inj hr; omega) HBX11.out.size
  have HR12 : Hid (RX w12 g3 ff (.slice Bu1 nu1 cu1) cl1 nx1 (.slice Ak1 nk1 ck1) (.slice Aq1 nt1 ct1) (.slice Am1 nm1 cm1)) := U (HR10.out.later hbx12 HR10.out.lt)
  have HRH12 : Hid (RH (Dp (fun c => X c ∨ c = w.heap.size + 1 + 1 ∨ c = g3) w12) h1 (.slice Bu1 nu1 cu1) (.slice Ak1 nk1 ck1) (.slice Aq1 nt1 ct1) (.slice Am1 nm1 cm1)) := U (HRH10.out.leads (Dr _ hbx12))
  have HO12 := U hown
  have HONE : Hid (∀ x ∈ (#[.string ff, .slice Bu1 nu1 cu1, .int .i64 cl1, .int .u64 (nx1 : Nat), .slice Ak1 nk1 ck1, .slice Aq1 nt1 ct1, .slice Am1 nm1 cm1] : Array Value).toList, x.oneCell' = true) := U (by intro x hx; simp at hx; rcases hx with rfl | rfl | rfl | rfl | rfl | rfl | rfl <;> rfl)
  have HZ2 : Hid (∀ W, Below W0.heap.size W0 W → Leads (Dp X w) (Dp (fun c => X c ∨ c = w.heap.size + 1 + 1) W)) := U fun W hW => Dl (HBW.out W hW).size fun c hc hx => ⟨fun q => by
   rcases q with q | q
   ·exact hx q
   ·omega, (HBW.out W hW).block c hc⟩
  have HZB : Hid (∀ c, (fun c => X c ∨ c = w.heap.size + 1 + 1) c → c < W0.heap.size) := U fun c k => by
   rcases k with k | k
   ·have := HXB.out c k; have := HS0.out; omega
   ·have := HS0.out; omega
  have HFL1 : Hid (h1.flow.size ≤ maxLen) := U (by rw [HFW1.out, HFF.out]; exact HFL.out)
  have HRHX : Hid (∀ W, Below W10.heap.size W10 W → RH (Dp (fun c => X c ∨ c = w.heap.size + 1 + 1) W) h1 (.slice Bu1 nu1 cu1) (.slice Ak1 nk1 ck1) (.slice Aq1 nt1 ct1) (.slice Am1 nm1 cm1)) := U fun W hW => HRH10.out.leads (Dl hW.size fun c hc hx => ⟨fun q => hx (by
   rcases q with q | q
   ·exact .inl q
   ·exact .inr (.inl q)), hW.block c hc⟩)
  have HA12 : Hid (∀ r, v12.ownBlock = some r → W10.heap.size ≤ r) := U fun r hr => by
   have := HBX11.out.size
   rcases hat12 with e | e
   ·have e2 : W10.heap.size = r := Option.some.inj (e.symm.trans hr); omega
   ·have e2 : W11.heap.size = r := Option.some.inj (e.symm.trans hr); omega
  have HBX12 := U hbx12
  clear hown hgrow hat12 hbx12 x0 x1
  go_cut [9] from 10 (fun v9 wx => ∃ R N9 cR, v9 = .slice R N9 cR ∧ Below W0.heap.size W0 wx ∧ RHs (Dp (fun c => X c ∨ c = w.heap.size + 1 + 1) wx) (.slice R N9 cR) (DF x b).2.flows)
  case first =>
   obtain ⟨z0, z1, z2, z3, z4, z5, z6, -⟩ := HR12.out.cells
   cases hfx : Dt x.flows ff with
   | none =>
    have hfi : fi = -1 := by rw [HFI.out]; unfold FO; rw [hfx]
    have HFX : Hid ((DF x b).2.flows = x.flows ++ [h1]) := U (by rw [HADD.out.2.2, ← HFF.out, hfx, HH1.out, HHX.out, HFF.out])
    clear hfx
    subst hfi
    obtain ⟨W13, hW13⟩ := Kt (w12.alloc (.cells #[.string ff, .slice Bu1 nu1 cu1, .int .i64 cl1, .int .u64 (nx1 : Nat), .slice Ak1 nk1 ck1, .slice Aq1 nt1 ct1, .slice Am1 nm1 cm1] 84))
    have HB13 : Hid (Below W0.heap.size W0 W13) := U (by rw [hW13]; exact HB12.out.alloc HB12.out.size _)
    have HO13 : Hid (W13.ownsRow W0.heap.size 84 7 v12 nF xsV) := U (by rw [hW13]; exact HO12.out.alloc _)
    have HI13 : Hid (CIn W13 (.slice (some ⟨w12.heap.size, 0, none⟩) 1 1) 1 7 (#[.string ff, .slice Bu1 nu1 cu1, .int .i64 cl1, .int .u64 (nx1 : Nat), .slice Ak1 nk1 ck1, .slice Aq1 nt1 ct1, .slice Am1 nm1 cm1] : Array Value).toList) := U (by rw [hW13]; exact CIn.new w12 _ _ rfl HONE.out)
    have HBX13 : Hid (Below w12.heap.size w12 W13) := U (by rw [hW13]; exact Ks)
    have HW13 := U hW13
    clear hW13
    obtain ⟨A12, c12, rfl, hbr12⟩ := FE HO12.out
    have HBR12 := U hbr12
    clear hbr12
    go_wp2_with (at_builtin; rw [← HW13.out]; refine Dz _ rfl _ _ 25 84 rfl i0 _ 7 128 Tryz.underlying25 HSZ.out hi0 hz0 hz1 hz2 rfl (by decide) W0.heap.size _ _ nF 1 xsV (#[.string ff, .slice Bu1 nu1 cu1, .int .i64 cl1, .int .u64 (nx1 : Nat), .slice Ak1 nk1 ck1, .slice Aq1 nt1 ct1, .slice Am1 nm1 cm1] : Array Value).toList rfl rfl HO13.out HI13.out (by simp only [maxLen]; omega) (by omega) HB13.out.size ?_; intro v14 w14 hown hgrow hat14)
    have HB14 : Hid (Below W0.heap.size W0 w14) := U (DD HB13.out hgrow (fun r hr => (HO13.out.lt r hr).1) HB13.out.size)
    have HOUT : Hid (∃ R N9 cR, v14 = .slice R N9 cR ∧ Below W0.heap.size W0 w14 ∧ RHs (Dp (fun c => X c ∨ c = w.heap.size + 1 + 1) w14) (.slice R N9 cR) (DF x b).2.flows) := U (by
     obtain ⟨R, cR, rfl, -⟩ := FE hown
     have HRH14 := HRHX.out w14 (DD (HBX12.out.trans (HBX13.out.mono HBX12.out.size)) hgrow HA12.out (Nat.le_trans HBX12.out.size HBX13.out.size))
     refine ⟨R, nF + 1, cR, rfl, HB14.out, ?_⟩
     rw [HFX.out]
     have e : (x.flows ++ [h1]).length = nF + 1 := by rw [List.length_append, ← HNF.out]; rfl
     refine ⟨xsV ++ (#[.string ff, .slice Bu1 nu1 cu1, .int .i64 cl1, .int .u64 (nx1 : Nat), .slice Ak1 nk1 ck1, .slice Aq1 nt1 ct1, .slice Am1 nm1 cm1] : Array Value).toList, ?_, ?_⟩
     ·rw [e]
      refine CIn.of_veil hown ?_ HZB.out
      intro y hy
      rcases List.mem_append.1 hy with q | q
      ·exact HCIV.out.2.1 y q
      ·exact HONE.out y q
     ·have hone := RHsC.one (V := Dp (fun c => X c ∨ c = w.heap.size + 1 + 1) w14) HFL1.out HRH14
      rw [HFW1.out, ← HCL1.out, ← HNX1.out] at hone
      exact (HCV'.out.leads (HZ2.out w14 HB14.out)).append hone)
    clear hown hgrow hat14
    go_meet
    exact HOUT.out
   | some i =>
    have hfi : fi = (i : Nat) := by rw [HFI.out]; unfold FO; rw [hfx]
    have HFX : Hid ((DF x b).2.flows = x.flows.set i h1) := U (by rw [HADD.out.2.2, ← HFF.out, hfx, HH1.out, HHX.out, HFF.out])
    obtain ⟨hil, -, -⟩ := DJ hfx
    have hni : i < nF := by have := HNF.out; omega
    obtain ⟨r12, c12, rfl⟩ : ∃ r c, v12 = .slice (some ⟨r, 0, none⟩) nF c := by
     rcases HO12.out.2 with ⟨-, h0⟩ | ⟨r, cp, cur, e, -⟩
     ·omega
     ·exact ⟨r, cp, e⟩
    obtain ⟨-, ub0, uk0, ut0, um0, -, hq⟩ := HCV'.out.2 i hil
    have d : ∀ q (hq7 : q < 7) v, (rhC x.flows[i].flow ub0 x.flows[i].s.closed x.flows[i].s.next uk0 ut0 um0)[q]? = some v → w12.cell? ⟨r12, i * 7 + q, none⟩ = some v := fun q hq7 v hv => own_cell HO12.out (by rw [hq q hq7]; exact hv)
    have d0 := d 0 (by omega) _ rfl; have d1 := d 1 (by omega) _ rfl; have d2 := d 2 (by omega) _ rfl; have d3 := d 3 (by omega) _ rfl; have d4 := d 4 (by omega) _ rfl; have d5 := d 5 (by omega) _ rfl; have d6 := d 6 (by omega) _ rfl
    rw [Nat.add_zero] at d0
    have hfree : ∀ q, w12.frozen? ⟨r12, q, none⟩ = false := fun q => (Vy HO12.out).1
    have f0 := hfree (i * 7); have f1 := hfree (i * 7 + 1); have f2 := hfree (i * 7 + 2); have f3 := hfree (i * 7 + 3); have f4 := hfree (i * 7 + 4); have f5 := hfree (i * 7 + 5); have f6 := hfree (i * 7 + 6)
    obtain ⟨W15, hW15⟩ := Kt (((((((w12.setCell ⟨r12, i * 7, none⟩ (.string ff)).setCell ⟨r12, i * 7 + 1, none⟩ (.slice Bu1 nu1 cu1)).setCell ⟨r12, i * 7 + 2, none⟩ (.int .i64 cl1)).setCell ⟨r12, i * 7 + 3, none⟩ (.int .u64 (nx1 : Nat))).setCell ⟨r12, i * 7 + 4, none⟩ (.slice Ak1 nk1 ck1)).setCell ⟨r12, i * 7 + 5, none⟩ (.slice Aq1 nt1 ct1)).setCell ⟨r12, i * 7 + 6, none⟩ (.slice Am1 nm1 cm1))
    have HOUT : Hid (∃ R N9 cR, (Value.slice (some ⟨r12, 0, none⟩) nF c12) = .slice R N9 cR ∧ Below W0.heap.size W0 W15 ∧ RHs (Dp (fun c => X c ∨ c = w.heap.size + 1 + 1) W15) (.slice R N9 cR) (DF x b).2.flows) := U (by
     have hge := (Vy (j := 0) HO12.out).2
     have hge10 : W10.heap.size ≤ r12 := HA12.out r12 rfl
     have hb15 : ∀ B W, B ≤ r12 → Below B W w12 → Below B W W15 := fun B W hB hw => by
      rw [hW15]
      exact ((((((hw.setCell (p := ⟨r12, i * 7, none⟩) hB _).setCell (p := ⟨r12, i * 7 + 1, none⟩) hB _).setCell (p := ⟨r12, i * 7 + 2, none⟩) hB _).setCell (p := ⟨r12, i * 7 + 3, none⟩) hB _).setCell (p := ⟨r12, i * 7 + 4, none⟩) hB _).setCell (p := ⟨r12, i * 7 + 5, none⟩) hB _).setCell (p := ⟨r12, i * 7 + 6, none⟩) hB _
     have HB15 := hb15 W0.heap.size W0 hge HB12.out
     have HRH15 := HRHX.out W15 (hb15 _ _ hge10 HBX12.out)
     have hown15 : W15.ownsRow W0.heap.size 84 7 (.slice (some ⟨r12, 0, none⟩) nF c12) nF (((((((xsV.set (i * 7) (.string ff)).set (i * 7 + 1) (.slice Bu1 nu1 cu1)).set (i * 7 + 2) (.int .i64 cl1)).set (i * 7 + 3) (.int .u64 (nx1 : Nat))).set (i * 7 + 4) (.slice Ak1 nk1 ck1)).set (i * 7 + 5) (.slice Aq1 nt1 ct1)).set (i * 7 + 6) (.slice Am1 nm1 cm1)) := by
      rw [hW15]
      exact GS (GS (GS (GS (GS (GS (GS HO12.out _) _) _) _) _) _) _
     refine ⟨_, nF, c12, rfl, HB15, ?_⟩
     rw [HFX.out]
     have e : (x.flows.set i h1).length = nF := by rw [List.length_set, ← HNF.out]
     refine ⟨((((((xsV.set (i * 7) (.string ff)).set (i * 7 + 1) (.slice Bu1 nu1 cu1)).set (i * 7 + 2) (.int .i64 cl1)).set (i * 7 + 3) (.int .u64 (nx1 : Nat))).set (i * 7 + 4) (.slice Ak1 nk1 ck1)).set (i * 7 + 5) (.slice Aq1 nt1 ct1)).set (i * 7 + 6) (.slice Am1 nm1 cm1), ?_, ?_⟩
     rotate_left
     ·have hset := rhsC_set (HCV'.out.leads (HZ2.out W15 HB15)) i hil h1 HFL1.out HRH15
      rw [HFW1.out, ← HCL1.out, ← HNX1.out] at hset
      exact hset
     ·rw [e]
      exact CIn.of_veil hown15 (Oe (Oe (Oe (Oe (Oe (Oe (Oe HCIV.out.2.1 rfl) rfl) rfl) rfl) rfl) rfl) rfl) HZB.out)
    have HW15 := U hW15
    clear d hq hfree hfx hW15
    generalize x.flows[i].flow = ffi at *
    generalize x.flows[i].s.closed = cli at *
    generalize x.flows[i].s.next = nxi at *
    subst hfi
    have k1 : decide ((i : Int) < (0 : Int)) = false := decide_eq_false (by omega)
    go_wp2_with fail
    rw [← HW15.out]
    go_meet
    exact HOUT.out
  case rest =>
   obtain ⟨R, N9, cR, rfl, hbc, hrhs⟩ := hcut
   have HBC := U hbc; have HRHS := U hrhs
   obtain ⟨i1, hi1, hy0, hy1, hy2⟩ := info_parts Tryz.infoBt
   have HSZ := U (OI hi1 hy1)
   obtain ⟨xsA, hcinA, hbtA⟩ := HV0.out.all
   rw [← HNA.out] at hcinA
   have HCIA := U hcinA; have HBTA := U hbtA
   clear hcinA hbtA hbc hrhs hi0 hz0 hz1 hz2
   obtain ⟨i0, hi0, hz0, hz1, hz2⟩ : ∃ i0 : TypeInfo, Tryz.prog.info? 64 = some i0 ∧ i0.zero = _ ∧ i0.size = _ ∧ i0.bytes = _ := ⟨i1, hi1, hy0, hy1, hy2⟩
   have HONE : Hid (∀ x ∈ (#[Value.string ff, .int .u64 (at' : Nat), .slice A m cap] : Array Value).toList, x.oneCell' = true) := U (by intro x hx; simp at hx; rcases hx with rfl | rfl | rfl <;> rfl)
   obtain ⟨u0, hu0⟩ : ∃ u, u = wc.drew := ⟨_, rfl⟩
   have HBU : Hid (Below wc.heap.size wc u0) := U (by rw [hu0]; exact Da (Below.refl _ _))
   have HBu1 : Hid (∀ W, Below u0.heap.size u0 W → Below W0.heap.size W0 W) := U fun W hW => HBC.out.trans ((HBU.out.trans (hW.mono HBU.out.size)).mono HBC.out.size)
   have HBu0 : Hid (W0.heap.size ≤ u0.heap.size) := U (Nat.le_trans HBC.out.size HBU.out.size)
   have HBu : Hid (Below u0.heap.size u0 u0) := U (Below.refl _ _)
   have HKS : Hid (∀ W, Below u0.heap.size u0 W → (fun W : World => W.cell? ⟨w.heap.size + 1, 0, none⟩ = some (.string ff) ∧ W.cell? ⟨w.heap.size + 1, 1, none⟩ = some (.int .u64 (at' : Nat)) ∧ W.cell? ⟨w.heap.size + 1, 2, none⟩ = some (.slice A m cap)) W) := U fun W hW => by
    exact M155
   have HKS2 : Hid (∀ W v v', Below u0.heap.size u0 W → (fun W : World => W.cell? ⟨w.heap.size + 1, 0, none⟩ = some (.string ff) ∧ W.cell? ⟨w.heap.size + 1, 1, none⟩ = some (.int .u64 (at' : Nat)) ∧ W.cell? ⟨w.heap.size + 1, 2, none⟩ = some (.slice A m cap)) ((W.setCell ⟨w.heap.size + 1 + 1, 0, none⟩ v).setCell ⟨w.heap.size + 1 + 1, 1, none⟩ v')) := U fun W v v' hW => by
    have d2 : BB ((W.setCell ⟨w.heap.size + 1 + 1, 0, none⟩ v).setCell ⟨w.heap.size + 1 + 1, 1, none⟩ v') (w.heap.size + 1) ff at' A m cap := (RowKit.Below.heap_setCell _ _ _ _ (by show w.heap.size + 1 ≠ w.heap.size + 1 + 1; omega)).trans ((RowKit.Below.heap_setCell _ _ _ _ (by show w.heap.size + 1 ≠ w.heap.size + 1 + 1; omega)).trans (HX.out W (HBu1.out W hW)).2.1)
    obtain ⟨a0, a1, a2, -⟩ := BB.cells d2
    exact ⟨a0, a1, a2⟩
   have HCX : Hid (∀ W, Below u0.heap.size u0 W → W.cell? ⟨w.heap.size, 0, none⟩ = some (.slice AA nA cA) ∧ W.frozen? ⟨w.heap.size + 1 + 1, 0, none⟩ = false ∧ W.cell? ⟨w.heap.size + 1 + 1, 0, none⟩ = some (.slice none 0 0) ∧ W.frozen? ⟨w.heap.size + 1 + 1, 1, none⟩ = false ∧ W.cell? ⟨w.heap.size + 1 + 1, 1, none⟩ = some (.slice none 0 0)) := U fun W hW => ⟨(HX.out W (HBu1.out W hW)).1.cells.1, (HX.out W (HBu1.out W hW)).2.2.cells.2.2 0, (HX.out W (HBu1.out W hW)).2.2.cells.1, (HX.out W (HBu1.out W hW)).2.2.cells.2.2 1, (HX.out W (HBu1.out W hW)).2.2.cells.2.1⟩
   have HIN : Hid (∀ W, Below u0.heap.size u0 W → CIn W (.slice AA nA cA) nA 3 xsA) := U fun W hW => (HCIA.out.leads (De X w)).later (HBW.out W (HBu1.out W hW))
   have HOUT : Hid (∀ (cF : World) (Ar : Option Addr) (cr : Nat), cF.ownsRow u0.heap.size 64 3 (.slice Ar (nA + 1) cr) (nA + 1) (xsA ++ (#[Value.string ff, .int .u64 (at' : Nat), .slice A m cap] : Array Value).toList) → (∀ r, rowOf Ar = some r → u0.heap.size ≤ r) → Below u0.heap.size u0 cF →
     YX X x b w (.returned (.tuple #[.agg #[.slice Ar (nA + 1) cr, .slice R N9 cR], .int .i64 0])) ((cF.setCell ⟨w.heap.size + 1 + 1, 0, none⟩ (.slice Ar (nA + 1) cr)).setCell ⟨w.heap.size + 1 + 1, 1, none⟩ (.slice R N9 cR))) := U fun cF Ar cr ho hbr hbF => by
    have hs := HS0.out; have hu := HBu0.out
    obtain ⟨W7, hW7⟩ : ∃ W, W = (cF.setCell ⟨w.heap.size + 1 + 1, 0, none⟩ (.slice Ar (nA + 1) cr)).setCell ⟨w.heap.size + 1 + 1, 1, none⟩ (.slice R N9 cR) := ⟨_, rfl⟩
    rw [← hW7]
    have hoff : ∀ c, c ≠ w.heap.size + 1 + 1 → W7.heap[c]? = cF.heap[c]? := fun c hc => by rw [hW7]; exact (RowKit.Below.heap_setCell _ _ _ _ hc).trans (RowKit.Below.heap_setCell _ _ _ _ hc)
    have hz7 : W7.heap.size = cF.heap.size := by rw [hW7]; simp [World.setCell]
    have hb7 : Below w.heap.size w W7 := by rw [hW7]; exact ((HBW.out cF (HBu1.out cF hbF)).setCell (p := ⟨w.heap.size + 1 + 1, 0, none⟩) (Nat.le_succ_of_le (Nat.le_succ _)) _).setCell (p := ⟨w.heap.size + 1 + 1, 1, none⟩) (Nat.le_succ_of_le (Nat.le_succ _)) _
    have ho7 := DC (w' := W7) ho (fun r hr => hoff r (by have := hbr r hr; omega))
    refine ⟨hb7, _, _, by rw [HADD.out.1], ?_, ?_⟩
    ·rw [HADD.out.2.1]
     have e : (x.all ++ [b]).length = nA + 1 := by rw [List.length_append, ← HNA.out]; rfl
     refine ⟨xsA ++ (#[Value.string ff, .int .u64 (at' : Nat), .slice A m cap] : Array Value).toList, ?_, ?_⟩
     ·rw [e]
      refine CIn.of_veil ho7 ?_ (by intro c hc; have := HXB.out c hc; omega)
      intro y hy
      rcases List.mem_append.1 hy with q | q
      ·exact HCIA.out.2.1 y q
      ·exact HONE.out y q
     ·have hone := BtC.one (V := Dp X W7) HFL.out (by rw [← HAT.out]; exact hbat) (EvsIn.leads HEVV.out (Dr X hb7))
      rw [← HAT.out, ← HFF.out, ← HMM.out] at hone
      exact (HBTA.out.leads (Dr X hb7)).append hone
    ·exact HRHS.out.leads (Dl (by rw [hz7]; exact Nat.le_trans HBU.out.size hbF.size) fun c hc hx => ⟨fun q => hx (.inl q), (hoff c fun q => hx (.inr q)).trans ((hbF.block c (Nat.lt_of_lt_of_le hc HBU.out.size)).trans (HBU.out.block c hc))⟩)
   clear HBU
   go_upto_region 16 with fail
   refine wp_region_noPanic ?_
   refine wp_region_held_drew (S := (fun W : World => W.cell? ⟨w.heap.size + 1, 0, none⟩ = some (.string ff) ∧ W.cell? ⟨w.heap.size + 1, 1, none⟩ = some (.int .u64 (at' : Nat)) ∧ W.cell? ⟨w.heap.size + 1, 2, none⟩ = some (.slice A m cap))) (by kernel_rfl) ?_ (fun hHeld => ?_)
   ·exact M104
   rw [← hu0] at hHeld
   rw [← hu0]
   replace hu0 := U hu0
   refine tk 1 rfl ?_
   refine tk 4 rfl ?_
   refine tk 7 rfl ?_
   refine wpAnyH_ready (rs := [0, 2, 5]) (by kernel_rfl) (by simp) ?_
   refine Dg rfl (fun K hK => ?_) (Dg rfl (fun K hK => ?_) (Dg rfl (fun K hK => ?_) AllReadyH.nil))
   ·go_simp
    obtain ⟨zw0, hc0⟩ : ∃ u, u = u0.alloc (.cells #[] 64) := ⟨_, rfl⟩
    open Q297 in exact Yw
   ·open Q478 in exact Kp
   ·go_simp
    obtain ⟨zw1, hc1⟩ : ∃ u, u = u0.alloc (.cells (#[Value.string ff, .int .u64 (at' : Nat), .slice A m cap] : Array Value) 64) := ⟨_, rfl⟩
    open Q290 in exact Xd) : p := h
theorem Q380.Y378 (h : p := by
 obtain ⟨x0, x1, -⟩ := (HX.out w5 HB5.out).1.cells
 obtain ⟨y0, y1, y2, -⟩ := (HX.out w5 HB5.out).2.1.cells
 obtain ⟨q0, q1, qf⟩ := (HX.out w5 HB5.out).2.2.cells
 have qf0 := qf 0; have qf1 := qf 1
 clear qf
 go_wp2_with fail
 refine bodyPost_ret (v := .tuple #[.agg #[.slice AA nA cA, .slice AF nF cF], .int .i64 12]) (by simp [results, Tryz.results28, go_sem, q0, q1]) rfl ?_
 exact HBAD.out 12 HA2.out HNE2.out w5 HB5.out _ _) : p := h
theorem M378 (h : p := by
 refine wp_region_noPanic ?_
 refine wp_region_held_drew (S := (fun W : World => W.cell? ⟨w.heap.size, 0, none⟩ = some (.slice AA nA cA) ∧ W.cell? ⟨w.heap.size, 1, none⟩ = some (.slice AF nF cF) ∧ W.cell? ⟨w.heap.size + 1, 1, none⟩ = some (.int .u64 (at' : Nat)))) (by kernel_rfl) ?_ (fun hHeld => ?_)
 ·exact M51
 refine tk 0 rfl ?_
 refine tk 1 rfl ?_
 refine tk 2 rfl ?_
 refine rd1 3 rfl fun K hK => ?_
 go_simp
 (with_reducible refine HCK.out.mono ?_)
 rintro e5 w5 ⟨rfl, hb9⟩
 have hq5 : Below w1.heap.size w1 w5 := (Da (Below.refl _ _)).trans hb9
 have HQ5 := U hq5
 clear hb9 hq5
 go_wp2_with fail
 refine hK.out _ _ (KS.out _ HQ5.out) (fun hHeld2 => ?_)
 clear hK K hHeld
 try simp only [ap]
 refine tk 4 rfl ?_
 refine wpAnyH_done (by kernel_rfl) ?_ _
 refine NoPanic.normal ?_
 clear hHeld2
 have HB5 : Hid (Below W0.heap.size W0 w5) := U (HB1.out.trans (HQ5.out.mono HB1.out.size))
 exact Y378) : p := h
theorem Jt (x : XM) (uA uF : Value) (b : BT) (A : Option Addr) (cap : Nat) (w : World) (hXB : ∀ c, X c → c < w.heap.size) (h : RIx (Dp X w) x uA uF) {T N : Nat} (hg : XGood x T N) (hT : T + b.es.length ≤ 1100000000000) (hN : N ≤ 1000000) (hbin : BIn b) (hev : EvsIn (Dp X w) A cap b.es) (hfl : b.flow.size ≤ maxLen) (hbat : b.at' < 18446744073709551616) :
  Calls Tryz.prog 28 #[.agg #[uA, uF], .agg #[.string b.flow, .int .u64 (b.at' : Nat), .slice A b.es.length cap]] w (YX X x b w) := by
 obtain ⟨⟨AA, cA, rfl, hA1, hA2⟩, AF, cF, rfl, hF1, hF2⟩ := h.slices
 have hle := hev.le
 have hcm := hev.cap_le
 simp only [maxLen] at hcm hA2 hF2
 have hgh := (Ga hg b.flow).1
 have hhf := XT x b.flow
 have hnA := hg.alen
 have hnF := hg.len
 obtain ⟨m, hm'⟩ := Kt (b.es.length)
 obtain ⟨ff, hff⟩ := Kt (b.flow)
 obtain ⟨at', hat⟩ : ∃ at', at' = b.at' := ⟨_, rfl⟩
 obtain ⟨nA, hnnA⟩ : ∃ x', x' = x.all.length := ⟨_, rfl⟩
 obtain ⟨nF, hnnF⟩ : ∃ x', x' = x.flows.length := ⟨_, rfl⟩
 have HV0 := U h
 have HEVV := U hev
 replace hev := EvsIn.leads hev (De X w)
 have H0 := U (h.leads (De X w))
 have HXB := U hXB
 rw [← hnnA] at H0 HV0 hA1 hnA
 rw [← hnnF] at H0 HV0 hF1 hnF
 rw [← hm'] at hle hT
 rw [← hat] at hbat
 rw [← hm', ← hff, ← hat, ← hnnA, ← hnnF]
 have HEV0 := U hev; have HT := U hT; have HGH := U hgh; have HHF := U hhf; have HFL := U hfl; have HBAT := U hbat; have HBIN := U hbin
 have HMM := U hm'; have HFF := U hff; have HAT := U hat; have HNA := U hnnA; have HNF := U hnnF
 clear h hev hXB hT hgh hhf hfl hbin hm' hff hat hnnA hnnF hg
 obtain ⟨W0, hW0⟩ := Kt (((w.alloc (.cells #[.slice AA nA cA, .slice AF nF cF] 27)).alloc (.cells #[.string ff, .int .u64 (at' : Nat), .slice A m cap] 64)).alloc (.cells #[.slice none 0 0, .slice none 0 0] 27))
 have hs0 : W0.heap.size = w.heap.size + 3 := by rw [hW0]; simp
 have hb0 : Below w.heap.size w W0 := by rw [hW0]; exact (Ks.alloc (by simp) _).alloc (by simp; omega) _
 have hx0 : IBox W0 w.heap.size (.slice AA nA cA) (.slice AF nF cF) := by rw [hW0]; exact (heap_alloc_old _ _ (by simp; omega)).trans ((heap_alloc_old _ _ (by simp)).trans (heap_alloc_new w _))
 have hx1 : W0.heap[w.heap.size + 1]? = some (.cells #[.string ff, .int .u64 (at' : Nat), .slice A m cap] 64 (0, 0)) := by
  rw [hW0, heap_alloc_old _ _ (by simp)]
  have e := heap_alloc_new (w.alloc (.cells #[.slice AA nA cA, .slice AF nF cF] 27)) (.cells #[.string ff, .int .u64 (at' : Nat), .slice A m cap] 64)
  exact M113
 have hx2 : IBox W0 (w.heap.size + 2) (.slice none 0 0) (.slice none 0 0) := by
  rw [hW0]
  have e := heap_alloc_new ((w.alloc (.cells #[.slice AA nA cA, .slice AF nF cF] 27)).alloc (.cells #[.string ff, .int .u64 (at' : Nat), .slice A m cap] 64)) (.cells #[.slice none 0 0, .slice none 0 0] 27)
  simp only [World.size_alloc] at e
  exact e
 have HX : Hid (∀ W, Below W0.heap.size W0 W → IBox W w.heap.size (.slice AA nA cA) (.slice AF nF cF) ∧ BB W (w.heap.size + 1) ff at' A m cap ∧ IBox W (w.heap.size + 1 + 1) (.slice none 0 0) (.slice none 0 0)) := U fun W hW =>
  ⟨(hW.block _ (by omega)).trans hx0, (hW.block _ (by omega)).trans hx1, (hW.block _ (by omega)).trans hx2⟩
 have HBW : Hid (∀ W, Below W0.heap.size W0 W → Below w.heap.size w W) := U fun W hW => hb0.trans (hW.mono hb0.size)
 have HEV : Hid (∀ W, Below W0.heap.size W0 W → EvsIn W A cap b.es) := U fun W hW => HEV0.out.later (HBW.out W hW)
 have HH : Hid (∀ W, Below W0.heap.size W0 W → RIx W x (.slice AA nA cA) (.slice AF nF cF)) := U fun W hW => H0.out.later (HBW.out W hW)
 have HS0 := U hs0
 clear hs0 hb0 hx0 hx1 hx2
 replace hW0 := U hW0
 have HBAD : Hid (∀ c : Int, (DF x b).1 = c → c ≠ 0 → ∀ W, Below W0.heap.size W0 W → ∀ a0 a1, YX X x b w (.returned (.tuple #[.agg #[.slice AA nA cA, .slice AF nF cF], .int .i64 c])) ((W.setCell ⟨w.heap.size + 1 + 1, 0, none⟩ a0).setCell ⟨w.heap.size + 1 + 1, 1, none⟩ a1)) :=
  U fun c hc hne W hW a0 a1 => by
   have hb7 : Below w.heap.size w ((W.setCell ⟨w.heap.size + 1 + 1, 0, none⟩ a0).setCell ⟨w.heap.size + 1 + 1, 1, none⟩ a1) := ((HBW.out W hW).setCell (p := ⟨w.heap.size + 1 + 1, 0, none⟩) (Nat.le_succ_of_le (Nat.le_succ _)) _).setCell (p := ⟨w.heap.size + 1 + 1, 1, none⟩) (Nat.le_succ_of_le (Nat.le_succ _)) _
   have e2 : (DF x b).2 = x := Ow (by rw [hc]; exact hne)
   unfold YX
   rw [e2, hc]
   exact ⟨hb7, _, _, rfl, HV0.out.leads (Dr X hb7)⟩
 have HCV : Hid (Calls Tryz.prog 48 #[.agg #[.string ff, .int .u64 (at' : Nat), .slice A m cap]] W0 fun r w' => r = .returned (.bool (Dw ff at' b.es)) ∧ Below W0.heap.size W0 w') := U (by
  have q := Pj b.es b.flow HFL.out b.at' (by rw [← HAT.out]; exact hbat) A cap W0 (HEV.out W0 (Below.refl _ _))
  rw [← HMM.out, ← HFF.out, ← HAT.out] at q
  exact q)
 obtain ⟨bv, hbv⟩ := Kt (Dw ff at' b.es)
 rw [← hbv] at HCV
 have HBV : Hid (Dw b.flow b.at' b.es = bv) := U (by rw [hbv, HFF.out, HAT.out])
 obtain ⟨clk, hclk⟩ := Kt (x.clock)
 have HCLK := U hclk
 clear hbv hclk
 obtain ⟨x0, x1, -⟩ := (HX.out W0 (Below.refl _ _)).1.cells
 obtain ⟨y0, y1, y2, -⟩ := (HX.out W0 (Below.refl _ _)).2.1.cells
 obtain ⟨q0, q1, qf⟩ := (HX.out W0 (Below.refl _ _)).2.2.cells
 have qf0 := qf 0; have qf1 := qf 1
 clear qf
 go_enter Tryz.func28, Tryz.ntmps28
 go_upto_region 1 with fail
 rw [← hW0.out]
 go_wp2_with fail
 refine HCV.out.mono ?_
 rintro r w1 ⟨rfl, hb1⟩
 have HB1 := U hb1
 clear hb1 HCV
 clear x0 x1
 clear y0 y1 y2
 clear q0 q1 qf0 qf1
 cases hbb : bv with
 | false =>
  have HA2 : Hid ((DF x b).1 = 2) := U (addX_2 (by rw [HBV.out]; exact hbb))
  clear hbb
  have HNE2 : Hid ((2 : Int) ≠ 0) := U (by decide)
  obtain ⟨x0, x1, -⟩ := (HX.out w1 HB1.out).1.cells
  obtain ⟨y0, y1, y2, -⟩ := (HX.out w1 HB1.out).2.1.cells
  obtain ⟨q0, q1, qf⟩ := (HX.out w1 HB1.out).2.2.cells
  have qf0 := qf 0; have qf1 := qf 1
  clear qf
  go_wp2_with fail
  refine bodyPost_ret (v := .tuple #[.agg #[.slice AA nA cA, .slice AF nF cF], .int .i64 2]) (by simp [results, Tryz.results28, go_sem, q0, q1]) rfl ?_
  exact HBAD.out 2 HA2.out HNE2.out w1 HB1.out _ _
 | true =>
  have HVT : Hid (Dw b.flow b.at' b.es = true) := U (by rw [HBV.out]; exact hbb)
  clear hbb
  go_upto_region 3 with fail
  have KS : Hid (∀ W, Below w1.heap.size w1 W → (fun W : World => W.cell? ⟨w.heap.size, 0, none⟩ = some (.slice AA nA cA) ∧ W.cell? ⟨w.heap.size, 1, none⟩ = some (.slice AF nF cF) ∧ W.cell? ⟨w.heap.size + 1, 1, none⟩ = some (.int .u64 (at' : Nat))) W) := U fun W hW => by
   have hWW := HB1.out.trans (hW.mono HB1.out.size)
   obtain ⟨a0, a1, -⟩ := (HX.out W hWW).1.cells
   obtain ⟨-, d1, -, -⟩ := (HX.out W hWW).2.1.cells
   exact ⟨a0, a1, d1⟩
  have HCK : Hid (Calls Tryz.prog 13 #[.agg #[.slice AA nA cA, .slice AF nF cF]] w1.drew fun r w' => r = .returned (.int .u64 (clk : Nat)) ∧ Below w1.drew.heap.size w1.drew w') := U (by
   have q := XE x (.slice AA nA cA) (.slice AF nF cF) w1.drew ((HH.out w1 HB1.out).later (Da (Below.refl _ _)))
   rw [← HCLK.out] at q
   exact q)
  by_cases h2 : at' < clk
  ·have HA2 : Hid ((DF x b).1 = 12) := U (addX_12 HVT.out (by rw [← HAT.out, ← HCLK.out]; exact h2))
   have k5 : decide ((at' : Int) < (clk : Int)) = true := decide_eq_true (by omega)
   have k5n : decide (at' < clk) = true := decide_eq_true h2
   clear h2
   have HNE2 : Hid ((12 : Int) ≠ 0) := U (by decide)
   open Q380 in exact M378
  have HN2 : Hid (¬ b.at' < x.clock) := U (by rw [← HAT.out, ← HCLK.out]; exact h2)
  have k5 : decide ((at' : Int) < (clk : Int)) = false := decide_eq_false (by omega)
  have k5n : decide (at' < clk) = false := decide_eq_false h2
  clear h2
  open Q379 in exact M378
attribute [local go_sem] Oper.semAt_some
variable {E : Nat → Prop} {w w' : World} {xb mb nm cN cR clk : Nat} {N R : Option Addr} {ps : List HB} {fl : List HM} {rl : List (List Nat)}
theorem all_new (p : Option Addr) (w : World) : Calls Tryz.prog 89 #[.pointer p] w fun e w' => e = .returned (.func (.func 120) #[] #[.pointer (some ⟨w.heap.size, 0, none⟩)]) ∧ w.alloc (.cells #[.pointer p] 24) = w' := by
 go_enter Tryz.func89, Tryz.ntmps89
 go_wp2_with fail
 go_ret
 exact ⟨rfl, rfl⟩
theorem XZ (h : Fa fl) (i : Nat) (hi : i < fl.length) : Dt fl fl[i].flow = some i := by
 unfold Dt
 rw [List.findIdx?_eq_some_iff_getElem]
 refine ⟨hi, by simp, fun j hj => ?_⟩
 have := List.pairwise_iff_getElem.1 h j i (by omega) hi hj
 simpa using this
theorem all_in (n : Nat) (hn : 3 ≤ n) (l bx : Nat) (H : XP E w xb mb nm N cN R cR ps fl (fl.map (·.flow)) clk rl) (hap : Fa fl) (hfl : ∀ h ∈ fl, h.flow.size ≤ maxLen) (hlen : fl.length ≤ 1000000)
  (J : Nat → World → Prop) (B : Code → World → Prop) (L : World → Prop) (L' : Code → World → Prop)
  (hJ : ∀ i W, J i W → Below w.heap.size w W ∧ W.cell? ⟨bx, 0, none⟩ = some (.pointer (some ⟨xb, 0, none⟩)))
  (hY : ∀ (i : Nat) (p : HB) W, ps[i]? = some p → J i W → L W → YieldAt Fence.wide (n - 1) Tryz.prog l #[.pointer (some ⟨p.hb, 0, none⟩)] W fun e W' => (e = .returned (.bool true) ∧ J (i + 1) W' ∧ L W') ∨ (e = .returned (.bool false) ∧ ∃ c, B c W' ∧ L' c W'))
  (W0 : World) (h0 : J 0 W0) (hl0 : L W0) :
  CallsIn Fence.wide n Tryz.prog 120 #[.func (.yield l) #[] #[], .pointer (some ⟨bx, 0, none⟩)] W0 fun e W' => (∃ v, e = .returned v) ∧ ((J fl.length W' ∧ L W') ∨ ∃ c, B c W' ∧ L' c W') := by
 obtain ⟨m, hm⟩ := Kt (fl.length)
 have hmn : (fl.map (·.flow)).length = m := by simp [hm]
 obtain ⟨hb0, b0⟩ := hJ 0 W0 h0
 obtain ⟨c0, c1, c2, c3, -⟩ := DI (H.later hb0).blk
 rw [hmn] at c1
 rw [← hm] at hlen
 rw [← hm]
 have HX := U H; have HAP := U hap; have HFL := U hfl; have HM0 := U hm; have HJ := U hJ
 clear H hap hfl hb0 hmn hm hJ c2 c3
 refine callsIn_of_wp Tryz.func120 rfl trivial ?_ rfl
 simp only [Tryz.ntmps120, List.size_toArray, List.length_cons, List.length_nil, Nat.reduceAdd, Nat.reduceSub, Array.replicate_succ, Array.replicate_zero, List.push_toArray, List.append_toArray, List.nil_append, List.cons_append]
 gi_wp2
 gi_loopw [12] (fun z W => ∃ i : Nat, i ≤ m ∧ z = .int .i64 i ∧ J i W ∧ L W) (fun z _ => m - (intOf z).toNat)
 case atStart => exact ⟨0, by omega, rfl, h0, hl0⟩
 case round =>
  obtain ⟨i, hi, rfl, hj, hl⟩ := hrel
  by_cases hlt : i < m
  ·obtain ⟨hb, b1⟩ := HJ.out i _ hj
   have HW := HX.out.later hb
   have hil : i < fl.length := by have := HM0.out; omega
   obtain ⟨d0, d1, -, -, -⟩ := DI HW.blk
   obtain ⟨-, -, A, cap, hu, -, -, hrd⟩ := CIn.of_own HW.names (by intro x hx; obtain ⟨s, -, rfl⟩ := List.mem_map.1 hx; rfl)
   have hmn : (fl.map (·.flow)).length = m := by simp [HM0.out]
   rw [hmn] at hrd d1
   obtain ⟨rN, off, rfl, hrl, hrc⟩ := hrd (by omega)
   have hN : N = some ⟨rN, off, none⟩ := by injection hu
   subst hN
   have n1 : wr.cell? ⟨rN, off + i, none⟩ = some (.string fl[i].flow) := hrc i _ (by simp [hil])
   have hlk := HW.map.look1 fl[i].flow (HFL.out _ (List.getElem_mem hil)) wr rfl
   have hps : i < ps.length := by rw [HW.hs.len]; exact hil
   have hpx : Om fl ps fl[i].flow = some (.pointer (some ⟨ps[i].hb, 0, none⟩)) := by
    unfold Om
    rw [XZ HAP.out i hil]
    simp only [Option.bind_some]
    rw [List.getElem?_eq_getElem hps]
    rfl
   rw [hpx] at hlk
   simp only [Option.getD_some] at hlk
   obtain ⟨fn, tmps, assign, body, hy, hR⟩ := hY i ps[i] wr (List.getElem?_eq_getElem hps) hj hl
   generalize ps[i].hb = qb at *
   generalize fl[i].flow = ff at *
   clear hrc hpx hrl hj hl HW c0 c1 b0 hb
   gi_wp2
   refine ⟨fun _ => by omega, hR.mono ?_⟩
   rintro e W3 (⟨rfl, ha, hl3⟩ | ⟨rfl, c, hb, hl3⟩)
   ·clear hR hy
    gi_wp2_with fail
    go_roundw
    case rel => exact ⟨i + 1, by omega, by go_num, ha, hl3⟩
    case measure => simp [intOf]; omega
   ·gi_wp2
    refine bodyPost_ret (results_none rfl _ _ _) rfl ?_
    exact ⟨⟨_, rfl⟩, .inr ⟨c, hb, hl3⟩⟩
  ·have hie : i = m := by omega
   subst hie
   clear c0 c1 b0
   gi_wp2
   go_end0
   exact ⟨⟨_, rfl⟩, .inl ⟨hj, hl⟩⟩
open _root_.Go.Proofs.YtaahfiopdoinkaaGreat.Rt (Gy)
open Bt (FW FG)
attribute [local go_sem] Oper.semAt_some
theorem Tryz.infoXt : (Tryz.prog.info? 9).map (fun i => (i.zero, i.size, i.bytes)) = some (some (.string ⟨#[]⟩), 1, 16) := by kernel_rfl
theorem Pc {F : Fence} {n : Nat} {P : Program} (w : World) {ops : Array Oper} {o : Oper} {a : Act} {K : Act → World → Prop} {Q : Exit → Act → World → Prop}
  (hg : o.guard = none) (s x : Operand) (t : TypeId) (hop : o.op = Op.call { callee := Callee.builtin Builtin.append, args := #[s, x], argTypes := #[t, t] })
  (base : Nat) (e : TypeId) (i : TypeInfo) (z : Value) (size bytes : Nat) (h1 : P.underlying t = some (.slice e)) (h2 : P.info? e = some i) (h3 : i.zero = some z) (h4 : i.size = size) (h5 : i.bytes = bytes) (h6 : z.cells.size = size) (h7 : 0 < size)
  (v : Value) (k : Nat) (xs : List Value) (hs : a.eval s = v) (hown : w.ownsRow base e size v k xs) (ad : Addr) (m c : Nat) (news : List Value) (hx : a.eval x = .slice (some ad) m c) (hn : news.length = m * size)
  (hc : ∀ j u, news[j]? = some u → w.cell? (ad.add j) = some u) (h1c : ∀ u ∈ news, u.oneCell' = true) (b1 : k + m ≤ maxLen) (b2 : (k + m) * bytes ≤ 140737488355328) (b3 : base ≤ w.heap.size)
  (hK : ∀ v' w', w'.ownsRow base e size v' (k + m) (xs ++ news) → w.grownBy w' v.ownBlock → K (a.put o.dst v') w') :
  if Region.wanted o (yielded ops a.tmps) = true then Oper.wpIn F n P o a w K Q else (∀ f, o.about P w a.eval = some f → F.fn f) ∧ K (a.put o.dst undef) w := by
 have hw : Region.wanted o (yielded ops a.tmps) = true := by simp [Region.wanted, hg]
 rw [if_pos hw]
 obtain ⟨v', w', hrun, r1, r2, r3⟩ := run_append_own (P := P) w base t o.type e i z size bytes h1 h2 h3 h4 h5 h6 h7 v k xs hown ad m c news hn hc h1c b1 b2 b3
 unfold Oper.wpIn
 refine ⟨?_, ?_⟩
 ·simp [Oper.about, hop, resolve, Target.leads, Sem.run_pure]
 ·rw [Oper.semAt_plain F _ _ (by rw [hop]; intro c hc'; cases hc')]
  simp [execOp, hop, resolve, invoke, builtin, hs, hx, hrun, Result.andThen]
  exact hK v' w' r1 r2
def NS (w : World) (m g bx xb : Nat) (fs : List ByteArray) (W : World) : Prop :=
 (∃ v, Boxed W g 81 v ∧ W.ownsRow w.heap.size 9 1 v fs.length (fs.map .string)) ∧ Boxed W bx 24 (.pointer (some ⟨xb, 0, none⟩)) ∧ Below w.heap.size w W ∧ m ≤ W.heap.size
theorem NS.put {m g bx : Nat} {fs : List ByteArray} {W : World} {k : Nat} {o : Obj} (o' : Obj) (h : NS w m g bx xb fs W) (hm : w.heap.size ≤ m) (hl : m ≤ k) (hk : W.heap[k]? = some o) (ho : o.isCells = false) : NS w m g bx xb fs (W.putObj k o') := by
 obtain ⟨⟨v, h1, h2⟩, h3, h4, h5⟩ := h
 exact ⟨⟨v, FW h1 o' hk ho, ownsRow_putObj h2 o' hk ho⟩, FW h3 o' hk ho, FG o' h4 (by omega) (by omega), by rw [World.putObj_size]; exact h5⟩
theorem NS.alloc {m g bx : Nat} {fs : List ByteArray} {W : World} (h : NS w m g bx xb fs W) (hm : w.heap.size ≤ m) (o : Obj) : NS w m g bx xb fs (W.alloc o) := by
 obtain ⟨⟨v, h1, h2⟩, h3, h4, h5⟩ := h
 exact ⟨⟨v, h1.alloc o, h2.alloc o⟩, h3.alloc o, h4.alloc (by omega) o, by simp; omega⟩
theorem XN {W W' : World} (h : KeepsOthers W.drew W') : KeepsOthers W W' := ⟨h.1, h.2⟩
theorem NS.more {m bx : Nat} {fs : List ByteArray} {W : World} (h : NS w m w.heap.size bx xb fs W) (hm : w.heap.size ≤ m) (hg : w.heap.size ≠ bx) {v v' : Value} {W1 w1 : World} {f : ByteArray} (hv : Boxed W w.heap.size 81 v) (hrow : W.ownsRow w.heap.size 9 1 v fs.length (fs.map .string)) (hW1 : W1 = (W.drew).alloc (.cells #[.string f] 9))
  (hr : w1.ownsRow w.heap.size 9 1 v' (fs.length + 1) (fs.map .string ++ [.string f])) (hgr : W1.grownBy w1 v.ownBlock) : KeepsOthers W (w1.setCell ⟨w.heap.size, 0, none⟩ v') ∧ NS w m w.heap.size bx xb (fs ++ [f]) (w1.setCell ⟨w.heap.size, 0, none⟩ v') ∧ w1.cell? ⟨w.heap.size, 0, none⟩ = some v ∧ w1.frozen? ⟨w.heap.size, 0, none⟩ = false := by
 obtain ⟨-, hnum, hB, hz⟩ := h
 subst hW1
 obtain ⟨hv1, hv2, hr2, hk2, hb2⟩ := (show Boxed W.drew w.heap.size 81 v from hv).appended (by decide) (show W.drew.ownsRow w.heap.size 9 1 v fs.length (fs.map .string) from hrow) hB.size (Nat.le_refl _) hr hgr
 have hn2 : Boxed w1 bx 24 (.pointer (some ⟨xb, 0, none⟩)) := ((show Boxed W.drew bx _ _ from hnum).alloc _).kept hgr (hnum.not_row (by decide) hrow)
 have hn3 := hn2.kept (grownBy_setCell' w1 w.heap.size v') (fun e => hg (Option.some.inj e).symm)
 have hz' : W.drew.heap.size = W.heap.size := rfl
 refine ⟨XN hk2, ⟨⟨_, hv2, ?_⟩, hn3, hB.trans ((Da (Below.refl _ _)).trans hb2), by have := hk2.size; omega⟩, hv1.cell, hv1.frozen⟩
 rw [List.length_append, List.length_singleton, List.map_append]
 exact hr2
theorem M14 (h : p := by
 refine hK _ _ ?_
 clear hK K
 try simp only [Act.put, List.setIfInBounds_toArray, List.set_cons_zero, List.set_cons_succ]
 refine wpAnyIn_ready (rs := [4]) (by kernel_rfl) (by simp) ?_
 refine AllReadyIn.cons rfl (fun K hK => ?_) AllReadyIn.nil
 refine Pc W1 rfl _ _ 81 rfl w.heap.size 9 i0 (.string ⟨#[]⟩) 1 16 Tryz.underlying81 hi hz0 hz1 hz2 rfl (by decide) v fs.length (fs.map .string) rfl (by rw [HW1.out]; exact HROW.out.alloc _) ⟨W.heap.size, 0, none⟩ 1 1 [.string ff] rfl rfl (by rw [HW1.out]; exact cell_one_new W.drew _ _) (by simp [Value.oneCell']) (by simp only [maxLen]; omega) (by omega) HS1.out ?_
 intro v' w1 hown' hgrow
 obtain ⟨k1, k2, k3, k4⟩ := NS.more HNS.out (by have := HZ2.out; omega) (by omega) HV.out HROW.out HW1.out hown' hgrow
 obtain ⟨g', cap', rfl⟩ := ownsRow_succ hown'
 have HK12 := U (And.intro k1 k2)
 clear k1 k2 hown' hgrow hc1
 refine hK _ _ ?_
 clear hK K
 try simp only [Act.put, List.setIfInBounds_toArray, List.set_cons_zero, List.set_cons_succ]
 refine wpAnyIn_ready (rs := [5]) (by kernel_rfl) (by simp) ?_
 refine AllReadyIn.cons rfl (fun K hK => ?_) AllReadyIn.nil
 go_simp
 refine hK _ _ ?_
 clear hK K
 try simp only [Act.put, List.setIfInBounds_toArray, List.set_cons_zero, List.set_cons_succ]
 refine wpAnyIn_done (by kernel_rfl) ?_ _
 exact HK12.out) : p := h
theorem M494 (h : p := by
 go_simp
 obtain ⟨W1, hW1⟩ := Kt ((W.alloc (.cells #[.string ff] 9)).drew)
 rw [← hW1]
 replace hW1 : W1 = W.drew.alloc (.cells #[.string ff] 9) := hW1
 have hc1 : W1.cell? ⟨w.heap.size, 0, none⟩ = some v := by rw [hW1]; exact ((show Boxed W.drew w.heap.size _ v from HV.out).alloc _).cell
 have HW1 := U hW1
 have HS1 : Hid (w.heap.size ≤ W1.heap.size) := U (by rw [hW1]; simp; omega)
 exact Y494) : p := h
theorem Q495.Y494 (h : p := by
 clear hW1
 exact M14) : p := h
theorem M34 (h : p := by
 try simp only [Act.put, List.setIfInBounds_toArray, List.set_cons_zero, List.set_cons_succ]
 refine wpAnyIn_ready (rs := [3]) (by kernel_rfl) (by simp) ?_
 refine AllReadyIn.cons rfl (fun K hK => ?_) AllReadyIn.nil
 open Q495 in exact M494) : p := h
theorem M53 (h : p := by
 go_simp
 refine hK _ _ ?_
 clear hK K
 try simp only [Act.put, List.setIfInBounds_toArray, List.set_cons_zero, List.set_cons_succ]
 refine wpAnyIn_ready (rs := [2]) (by kernel_rfl) (by simp) ?_
 refine AllReadyIn.cons rfl (fun K hK => ?_) AllReadyIn.nil
 go_simp
 refine ⟨trivial, (CallsIn.inRound l (callsIn_wide.2 HFC.out)).mono ?_⟩
 rintro e w3 ⟨rfl, rfl⟩
 gi_wp2_with fail
 try (refine hK _ _ ?_; clear hK K)
 exact M34) : p := h
theorem Q496.Y494 (h : p := by
 clear hW1
 refine hK _ _ ?_
 clear hK K
 try simp only [Act.put, List.setIfInBounds_toArray, List.set_cons_zero, List.set_cons_succ]
 refine wpAnyIn_ready (rs := [0]) (by kernel_rfl) (by simp) ?_
 refine AllReadyIn.cons rfl (fun K hK => ?_) AllReadyIn.nil
 go_simp
 exact M14) : p := h
theorem VC (H : XP E w xb mb nm N cN R cR ps fl (fl.map (·.flow)) clk rl) (hap : Fa fl) (hfl : ∀ h ∈ fl, h.flow.size ≤ maxLen) (hlen : fl.length ≤ 1000000) :
  Calls Tryz.prog 59 #[.pointer (some ⟨xb, 0, none⟩)] w fun e w' => ∃ v, e = .returned v ∧ w'.ownsRow w.heap.size 9 1 v fl.length (fl.map fun h => .string h.flow) ∧ Below w.heap.size w w' := by
 obtain ⟨i0, hi, hz0, hz1, hz2⟩ := info_parts Tryz.infoXt
 have HX := U H; have HAP := U hap; have HFL := U hfl; have HLN := U hlen
 clear H hap hfl hlen
 refine (callsIn_wide (n := 9)).1 ?_
 refine callsIn_of_wp_marks Tryz.func59 rfl trivial ?_ rfl
 simp only [Tryz.ntmps59, List.size_toArray, List.length_cons, List.length_nil, Nat.reduceAdd, Nat.reduceSub, Array.replicate_succ, Array.replicate_zero, List.push_toArray, List.append_toArray, List.nil_append, List.cons_append]
 gi_wp2_with fail
 refine ⟨trivial, (callsIn_wide.2 (all_new _ _)).mono ?_⟩
 rintro e W2 ⟨rfl, hW2⟩
 gi_wp2_with fail
 have hz2w : W2.heap.size = w.heap.size + 1 + 1 := by rw [← hW2]; simp
 have u0 : NS w W2.heap.size w.heap.size (w.heap.size + 1) xb [] W2 := by
  rw [← hW2]
  have b0 := (Boxed.new w 81 (.slice none 0 0)).alloc (.cells #[.pointer (some ⟨xb, 0, none⟩)] 24)
  have b1 := Boxed.new (w.alloc (.cells #[.slice none 0 0] 81)) 24 (.pointer (some ⟨xb, 0, none⟩))
  rw [World.size_alloc] at b1
  exact ⟨⟨_, b0, rfl, .inl ⟨rfl, rfl⟩⟩, b1, ((Below.refl _ w).alloc (Nat.le_refl _) _).alloc (by simp) _, Nat.le_refl _⟩
 have HZ2 := U hz2w
 clear hW2
 refine Gy (σ := Nat × HB) rfl (by omega) (gf := 120) (lb := #[.pointer (some ⟨w.heap.size + 1, 0, none⟩)]) rfl trivial (enters_of Tryz.func120 (by kernel_rfl) rfl)
  (fun s => #[.pointer (some ⟨s.2.hb, 0, none⟩)]) (fun _ => rfl)
  (fun s W => ps[s.1]? = some s.2 ∧ NS w W2.heap.size w.heap.size (w.heap.size + 1) xb ((fl.take s.1).map HM.flow) W)
  (fun s W => NS w W2.heap.size w.heap.size (w.heap.size + 1) xb ((fl.take (s.1 + 1)).map HM.flow) W)
  (fun _ _ => False)
  (fun W => NS w W2.heap.size w.heap.size (w.heap.size + 1) xb (fl.map HM.flow) W)
  (fun s W l o o' h hl ho hc => ⟨h.1, h.2.put o' (by omega) hl ho hc⟩)
  (fun s W l o o' h hl ho hc => h.put o' (by omega) hl ho hc)
  (fun c W l o o' h hl ho hc => h)
  (fun W l o o' h hl ho hc => h.put o' (by omega) hl ho hc)
  (fun s => { tmps := #[.pointer (some ⟨xb, 0, none⟩), undef, .slice none 0 0, .pointer (some ⟨w.heap.size, 0, none⟩), .pointer (some ⟨s.2.hb, 0, none⟩), .pointer (some ⟨xb, 0, none⟩), .func (.func 120) #[] #[.pointer (some ⟨w.heap.size + 1, 0, none⟩)], .pointer (some ⟨s.2.hb, 0, none⟩), undef, undef, undef, undef, undef, undef], defers := [] })
  ?assign ?body ?iter ?done ?stop
 case assign =>
  intro l s W K hK
  gi_wp2
  exact hK
 case body =>
  rintro l ⟨i, p⟩ W ⟨hpi, hns⟩
  obtain ⟨h, hfh, hat⟩ := HX.out.hs.own hpi
  have hil := (List.getElem?_eq_some_iff.1 hfh).1
  have hst : (fl.take (i + 1)).map (·.flow) = (fl.take i).map (·.flow) ++ [h.flow] := by
   rw [List.take_succ_eq_append_getElem hil, List.map_append]
   rw [List.getElem?_eq_getElem hil] at hfh
   rw [Option.some.inj hfh]; rfl
  rw [hst]
  clear hst
  obtain ⟨⟨v, hv, hrow⟩, hnum, hB, hm⟩ := hns
  have hlk : ((fl.take i).map (·.flow)).length ≤ 1000000 := by rw [List.length_map, List.length_take]; have := HLN.out; omega
  generalize (fl.take i).map (·.flow) = fs at *
  have HNS : Hid (NS w W2.heap.size w.heap.size (w.heap.size + 1) xb fs W) := U ⟨⟨v, hv, hrow⟩, hnum, hB, hm⟩
  have hc := hv.cell
  have hgl : w.heap.size < W.heap.size := by omega
  have hfc : ∀ W', W' = W.drew → Calls Tryz.prog 90 #[.pointer (some ⟨p.hb, 0, none⟩)] W' fun r w' => r = .returned (.string h.flow) ∧ w' = W' := fun W' e => JQ (HAt.later (HAt.later hat hB) (by rw [e]; exact Da (Below.refl _ _)))
  have HFC := U (hfc _ rfl)
  have HV := U hv; have HROW := U hrow; have HB := U hB
  clear hfc hat hpi hfh hnum hm hv hrow hB
  dsimp only
  generalize p.hb = qb at *
  generalize h.flow = ff at *
  gi_wp2_with fail
  refine wpIn_region_any (by kernel_rfl) ?_
  change wpAnyIn _ _ _ _ _ _ _ _ _ (World.drew _)
  refine wpAnyIn_ready (rs := [0, 1]) (by kernel_rfl) (by simp) ?_
  refine AllReadyIn.cons rfl (fun K hK => ?_) (AllReadyIn.cons rfl (fun K hK => ?_) AllReadyIn.nil)
  ·go_simp
   refine hK _ _ ?_
   clear hK K
   try simp only [Act.put, List.setIfInBounds_toArray, List.set_cons_zero, List.set_cons_succ]
   refine wpAnyIn_ready (rs := [1]) (by kernel_rfl) (by simp) ?_
   refine AllReadyIn.cons rfl (fun K hK => ?_) AllReadyIn.nil
   exact M53
  ·go_simp
   refine hK _ _ ?_
   clear hK K
   try simp only [Act.put, List.setIfInBounds_toArray, List.set_cons_zero, List.set_cons_succ]
   refine wpAnyIn_ready (rs := [0, 2]) (by kernel_rfl) (by simp) ?_
   refine AllReadyIn.cons rfl (fun K hK => ?_) (AllReadyIn.cons rfl (fun K hK => ?_) AllReadyIn.nil)
   ·exact M53
   ·go_simp
    refine ⟨trivial, (CallsIn.inRound l (callsIn_wide.2 HFC.out)).mono ?_⟩
    rintro e w3 ⟨rfl, rfl⟩
    gi_wp2_with fail
    try (refine hK _ _ ?_; clear hK K)
    try simp only [Act.put, List.setIfInBounds_toArray, List.set_cons_zero, List.set_cons_succ]
    refine wpAnyIn_ready (rs := [0, 3]) (by kernel_rfl) (by simp) ?_
    refine AllReadyIn.cons rfl (fun K hK => ?_) (AllReadyIn.cons rfl (fun K hK => ?_) AllReadyIn.nil)
    ·go_simp
     refine hK _ _ ?_
     clear hK K
     exact M34
    ·open Q496 in exact M494
 case iter =>
  intro l o o' L L' ho ho' hLs hLd hY hl0
  refine (all_in 8 (by omega) l (w.heap.size + 1) HX.out HAP.out HFL.out HLN.out
   (fun i W => NS w W2.heap.size w.heap.size (w.heap.size + 1) xb ((fl.take i).map HM.flow) W)
   (fun _ _ => False) L L'
   (fun i W h => ⟨h.2.2.1, h.2.1.cell⟩) (fun i p W hp h hl => hY (i, p) W ⟨hp, h⟩ hl) _ ((u0.alloc (by omega) _).alloc (by omega) _) hl0).mono ?_
  rintro e W' ⟨hv, ⟨h, hl⟩ | ⟨c, hc, -⟩⟩
  ·rw [List.take_length] at h
   exact ⟨hv, .inl ⟨h, hl⟩⟩
  ·exact hc.elim
 case done =>
  rintro D W hD ⟨⟨v, hv, hrow⟩, hnum, hB, hm⟩ hK
  have hc := hv.cell
  gi_wp2
  refine ⟨by simp, .inl ⟨_, _, rfl, run_takeDeferred hK, ?_⟩⟩
  refine ⟨_, results_tmp rfl _ _ _, v, rfl, ?_, FG _ hB (by omega) (by omega)⟩
  have e : (fl.map (·.flow)).map Value.string = fl.map (fun h => .string h.flow) := by rw [List.map_map]; rfl
  rw [e, List.length_map] at hrow
  exact ownsRow_putObj hrow _ hK rfl
 case stop =>
  rintro D c W hD h hK
  exact h.elim
attribute [local go_sem] Oper.semAt_some
variable {E Z : Nat → Prop} {u v w w' V V' : World} {xb : Nat} {x : XM}
theorem HSame.refl (h : HM) : HSame h h := ⟨rfl, rfl, rfl, rfl, rfl, rfl, fun i _ _ => ⟨rfl, rfl, Cm.GX _⟩, rfl, fun i _ _ => ⟨rfl, rfl, rfl, rfl, rfl, Vt.FB _⟩⟩
structure XSame (x y : XM) : Prop where
 len : y.flows.length = x.flows.length
 flows : ∀ i (h : i < x.flows.length) (h' : i < y.flows.length), HSame x.flows[i] y.flows[i]
 clock : x.clock = y.clock
theorem XSame.refl (x : XM) : XSame x x := ⟨rfl, fun i _ _ => HSame.refl _, rfl⟩
theorem XSame.names {x y : XM} (h : XSame x y) : x.flows.map (·.flow) = y.flows.map (·.flow) := by
 refine List.ext_getElem (by simp [h.len]) fun i h1 h2 => ?_
 rw [List.getElem_map, List.getElem_map]
 exact (h.flows i (by simpa using h1) (by simpa using h2)).flow
theorem YF {base n k : Nat} {T : TypeId} {v : Value} {xs : List Value} (h : w.ownsRow base T k v n xs) (hb : ∀ r, v.ownBlock = some r → w'.heap[r]? = w.heap[r]?) : w'.ownsRow base T k v n xs := by
 refine ⟨h.1, ?_⟩
 rcases h.2 with q | ⟨r, cp, cur, rfl, q2, q3, q4, q5, q6, q7⟩
 ·exact .inl q
 ·exact .inr ⟨r, cp, cur, rfl, q2, (hb r rfl).trans q3, q4, q5, q6, q7⟩
def SRows (base : Nat) (W : World) (v5 v6 : Value) (ns os : List ByteArray) : Prop := W.ownsRow base 9 1 v5 ns.length (ns.map .string) ∧ W.ownsRow base 9 1 v6 os.length (os.map .string) ∧ ∀ r, v5.ownBlock = some r → v6.ownBlock ≠ some r
theorem SRows.later {base : Nat} {v5 v6 : Value} {ns os : List ByteArray} (h : SRows base w v5 v6 ns os) (hb : Below w.heap.size w w') : SRows base w' v5 v6 ns os := ⟨Gz h.1 hb, Gz h.2.1 hb, h.2.2⟩
theorem SRows.name {base : Nat} {v5 v6 v' : Value} {ns os : List ByteArray} {f : ByteArray} (h : SRows base w v5 v6 ns os) (ho : w'.ownsRow base 9 1 v' (ns.length + 1) (ns.map .string ++ [.string f])) (hg : w.grownBy w' v5.ownBlock) (hat : v'.ownBlock = v5.ownBlock ∨ v'.ownBlock = some w.heap.size) : SRows base w' v' v6 (ns ++ [f]) os := by
 refine ⟨by rw [List.length_append, List.map_append]; exact ho, YF h.2.1 fun r hr => hg.block r (h.2.1.lt r hr).2 fun e => h.2.2 r e.symm hr, fun r hr e => ?_⟩
 rcases hat with q | q
 ·exact h.2.2 r (q.symm.trans hr) e
 ·have e2 : w.heap.size = r := Option.some.inj (q.symm.trans hr)
  have := (h.2.1.lt r e).2
  omega
theorem SRows.open_ {base : Nat} {v5 v6 v' : Value} {ns os : List ByteArray} {f : ByteArray} (h : SRows base w v5 v6 ns os) (ho : w'.ownsRow base 9 1 v' (os.length + 1) (os.map .string ++ [.string f])) (hg : w.grownBy w' v6.ownBlock) (hat : v'.ownBlock = v6.ownBlock ∨ v'.ownBlock = some w.heap.size) : SRows base w' v5 v' ns (os ++ [f]) := by
 refine ⟨YF h.1 fun r hr => hg.block r (h.1.lt r hr).2 fun e => h.2.2 r hr e.symm, by rw [List.length_append, List.map_append]; exact ho, fun r hr e => ?_⟩
 rcases hat with q | q
 ·exact h.2.2 r hr (q.symm.trans e)
 ·have e2 : w.heap.size = r := Option.some.inj (q.symm.trans e)
  have := (h.1.lt r hr).2
  omega
open Ev (zeroT)
open Cn (Gl GH UP)
open Vf (FP ve_of)
theorem few_v2 {e : EV} (h : GH e = true) : e.v.few = true := by
 unfold GH at h
 simp only [Bool.and_eq_true] at h
 exact h.1.1
theorem Ye {e : EV} (hv : e.valid = true) (hfew : e.v.few = true) : (FP e).length ≤ 30000 := by
 have V := ve_of hv
 have h1 := V.s1; have h2 := V.t1
 have h3 := Vf.GV hfew
 unfold FP
 rw [Vf.sel6]
 have hs : ∀ s : ByteArray, s.size ≤ 1000 → (Pf.Gh s).length ≤ 1011 := fun s h => by unfold Pf.Gh; rw [List.length_append, Bt.GM]; have := Bt.Ds 10 s.size; omega
 have hi : ∀ (b : Bool) (l : List Nat) (n : Nat), l.length ≤ n → (if b = true then l else []).length ≤ n := fun b l n h => by split <;> simp [h]
 have a0 := hi (Vf.Fk e 0) _ _ (Bt.Ds 10 e.id); have a1 := hi (Vf.Fk e 1) _ _ (Bt.Ds 10 e.n.toNat); have a2 := hi (Vf.Fk e 2) _ _ (Bt.Ds 10 e.at')
 have a3 := hi (Vf.Fk e 3) _ _ (hs _ h1); have a4 := hi (Vf.Fk e 4) _ _ (hs _ h2); have a5 := hi (Vf.Fk e 5) _ _ h3
 have a6 := Bt.Ds 10 e.k.toNat
 simp only [List.length_append, List.length_singleton]
 omega
theorem flat_le2 {es : List EV} {M : Nat} (h : ∀ e ∈ es, (FP e).length ≤ M) : ((es.map FP).flatten).length ≤ es.length * M := by
 induction es with
 | nil => simp
 | cons x l ih =>
  have h1 := h x (List.mem_cons_self ..)
  have h2 := ih fun e he => h e (List.mem_cons_of_mem _ he)
  simp only [List.map_cons, List.flatten_cons, List.length_append, List.length_cons, Nat.succ_mul]
  omega
theorem Sx {b : BT} (hl : b.es.length ≤ 2097152) (hF : ∀ k (hk : k < b.es.length), GH b.es[k] = true) (hv : Dw b.flow b.at' b.es = true) : Gl b.es (b.es.map FP) ∧ (b.es.map FP).flatten.length ≤ 17592186044416 ∧ b.es.length ≤ 1099511627775 := by
 have hall : ∀ e ∈ b.es, e.valid = true := by
  unfold Dw at hv
  simp only [Bool.and_eq_true, Bool.not_eq_true', List.any_eq_false] at hv
  intro e he
  have := hv.2 e he
  unfold Cn.DG at this
  simpa using this
 have hfew : ∀ e ∈ b.es, e.v.few = true := fun e he => by
  obtain ⟨i, hi, rfl⟩ := List.getElem_of_mem he
  exact few_v2 (hF i hi)
 refine ⟨⟨by simp, fun i h h' lo hi vk vn vf vs A m c w hf hr hz => ?_⟩, ?_, by omega⟩
 ·rw [List.getElem_map]
  exact Vf.Yf b.es[i] (hall _ (List.getElem_mem h)) hf (hfew _ (List.getElem_mem h)) lo hi vk vn vf vs A m c w hr hz
 ·have := flat_le2 (es := b.es) (M := 30000) fun e he => Ye (hall e he) (hfew e he)
  omega
open Cn (PF)
variable {E E' Z : Nat → Prop} {u v w w' w0 V V' : World} {xb : Nat} {x : XM}
def Forms (bl : List BT) : Prop := ∀ i (h : i < bl.length), Dw bl[i].flow bl[i].at' bl[i].es = true → Cn.Gl bl[i].es (bl[i].es.map Vf.FP) ∧ (bl[i].es.map Vf.FP).flatten.length ≤ 17592186044416 ∧ bl[i].es.length ≤ 1099511627775
theorem JS {bl : List BT} (hf : UP bl) (hl : ∀ b ∈ bl, b.es.length ≤ 2097152) : Forms bl := fun i hi hv => Sx (hl _ (List.getElem_mem hi)) (fun k hk => hf.few i hi k hk) hv
theorem XAt.step (H : XAt E w xb Z x) (hb : Below w.heap.size w w') (h1 : ∀ c, E' c → E c ∨ w.heap.size ≤ c) (h2 : ∀ c, E' c → c < w'.heap.size) : ∃ Z', XAt E' w' xb Z' x ∧ ∀ c, Z' c → Z c ∨ w.heap.size ≤ c := by
 obtain ⟨mb, nm, N, cN, R, cR, ps, rfl, H⟩ := H
 refine ⟨_, ⟨mb, nm, N, cN, R, cR, ps, rfl, H.step (Chg.of_below hb) h1 h2⟩, fun c q => ?_⟩
 refine Oy (B := XB E xb mb N R) (fun c q => ?_) q
 rcases q with q | q
 ·exact (h1 c q).imp .inl id
 ·exact .inl (.inr q)
structure LX (w0 : World) (g : Nat) (w : World) (xb : Nat) (x : XM) : Prop where
 ex : ∃ Z uA uF, XAt (fun c => c = g) w xb Z x ∧ (∀ c, Z c → w0.heap.size ≤ c) ∧ Below w0.heap.size w0 w ∧ IBox w g uA uF ∧ RIx (Dp Z w) x uA uF
theorem LX.later {g : Nat} (k : LX w0 g w xb x) (hw : Below w.heap.size w w') : LX w0 g w' xb x := by
 obtain ⟨Z, uA, uF, h1, h2, h3, h4, h5⟩ := k.ex
 exact ⟨Z, uA, uF, h1.later hw, h2, h3.trans (hw.mono h3.size), h4.later hw h4.lt, h5.leads (Dr _ hw)⟩
theorem clkX_lt {bl : List BT} (hat : ∀ i (h : i < bl.length), bl[i].at' < 18446744073709551616) (j : Nat) (hj : j ≤ bl.length) : (Gp (bl.take j)).clock < 18446744073709551616 := by
 induction j with
 | zero => rw [List.take_zero]; decide
 | succ n ih =>
  rw [PD bl n (by omega)]
  by_cases hc : (DF (Gp (bl.take n)) bl[n]).1 = 0
  ·rw [VU hc]; exact hat n (by omega)
  ·rw [Ow hc]; exact ih (by omega)
theorem LX.add {g : Nat} (H : XAt (fun c => c = g) w xb Z x) {bl : List BT} (hl : LIn bl) (hfo : Forms bl) {j : Nat} (hj : j < bl.length) (hx : x = Gp (bl.take j)) {b : BT} (hbj : b = bl[j]'hj) (A2 : Option Addr) (c2 : Nat) (hev : EvsIn (Dp Z w) A2 c2 b.es) (hfl : b.flow.size ≤ maxLen) (hat : b.at' < 18446744073709551616) (hclk : x.clock < 18446744073709551616) :
  Calls Tryz.prog 20 #[.pointer (some ⟨xb, 0, none⟩), .agg #[.string b.flow, .int .u64 (b.at' : Nat), .slice A2 b.es.length c2]] w (XAdd (fun c => c = g) w xb Z x b) := by
 subst hbj
 exact Pa H (T := tot (bl.take j)) (NN := j) (by rw [hx]; exact Gs hl j (by omega)) bl[j] A2 c2 hev (hl.bin j hj) (by have := hl.take j hj; omega) (by have := hl.len; omega) hfl hat hclk (hfo j hj)
theorem lx_bts {B : Option Addr} {bc : Nat} {bl : List BT} (hB : BtsIn w0 B bc bl) (hb : Below w0.heap.size w0 w) (hZ : ∀ c, Z c → w0.heap.size ≤ c) : BtsIn (Dp Z w) B bc bl := BtsIn.leads hB (XL hb hZ)
theorem bts_lt {B : Option Addr} {bc : Nat} {bl : List BT} (hB : BtsIn w B bc bl) : ∀ i (h : i < bl.length), bl[i].at' < 18446744073709551616 := fun i h => by
 obtain ⟨b, off, -, -, h3⟩ := hB.at_ (by omega)
 obtain ⟨A2, c2, -, hat, -⟩ := h3 i h
 exact hat
theorem Sp {g : Nat} (a b : Value) : Chg (fun c => c = g) w ((w.setCell ⟨g, 0, none⟩ a).setCell ⟨g, 1, none⟩ b) := (Chg.setCell (X := fun c => c = g) (p := ⟨g, 0, none⟩) rfl a).trans (Chg.setCell (X := fun c => c = g) (p := ⟨g, 1, none⟩) rfl b)
theorem IBox.set2 {g : Nat} {a b a' b' : Value} (h : IBox w g a b) : IBox ((w.setCell ⟨g, 0, none⟩ a').setCell ⟨g, 1, none⟩ b') g a' b' := by
 unfold IBox at *; simp [World.setCell, Array.getElem?_modify, h]
variable {w w' w0 : World} {xb : Nat} {x : XM}
open Cn (three VM)
open Go.ChangeShapes Go.WideShapes Go.ChangeAt Go.Joins Go.Deep
theorem bulk_pos {H : Type} (d : DataW H) : 1 ≤ Rows.uptoBulk d := by
 cases d with
 | lit l => cases l <;> simp [Rows.uptoBulk]
 | _ => simp only [Rows.uptoBulk]; omega
theorem bulk_len {H : Type} (l : List (DataW H)) : l.length ≤ Rows.uptoBulkAll l := by
 induction l with
 | nil => simp
 | cons d l ih =>
  simp only [Rows.uptoBulkAll, List.length_cons]
  have := bulk_pos d
  omega
theorem SD {H : Type} : ∀ {l : List (DataW H)} {i : Nat} {d : DataW H}, l[i]? = some d → Rows.uptoBulk d ≤ Rows.uptoBulkAll l
 | [], i, d, h => by simp at h
 | d0 :: r, 0, d, h => by
  have h : d0 = d := by simpa using h
  subst h
  simp only [Rows.uptoBulkAll]; omega
 | d0 :: r, i + 1, d, h => by
  have := SD (l := r) (i := i) (d := d) (by simpa using h)
  simp only [Rows.uptoBulkAll]; omega
theorem Jo {H : Type} {d : DataW H} {l : List (DataW H)} {i : Nat} (h : Rows.uptoSmall H l = true) (hi : l[i]? = some d) : Rows.uptoBulk d ≤ 1048576 := Nat.le_trans (SD hi) (of_decide_eq_true h)
theorem open_bts {H : Type} {enc : TypeId × Value → H} {W : World} {base : Nat} {spare : Nat → Bool} {held : Bool} (fuel : Nat) (cs : List Value) (x : DataW H × List MemPlace)
  (h : DataW.trod enc Tryz.prog W base spare held fuel 64 cs = some x) :
  ∃ (b : BT) (A' : Option Addr) (c : Nat), b.flow.size ≤ maxLen ∧ b.at' < 18446744073709551616 ∧ EvsIn W A' c b.es ∧ (Rows.uptoBulk x.1 ≤ 1048576 → b.es.length ≤ 2097152) ∧ cs = [.string b.flow, .int .u64 b.at', .slice A' b.es.length c] := by
 have hC : Tryz.prog.cellsOf 64 = 3 := by kernel_rfl
 obtain ⟨xs, n, hn, hx, hlen, hxl, hg⟩ := DataW.trod_struct Tryz.underlying64 h
 obtain ⟨c0, c1, c2, rfl⟩ := three cs (hlen.trans hC)
 obtain ⟨x0, x1, x2, rfl⟩ : ∃ x0 x1 x2, xs = [x0, x1, x2] := by
  have : xs.length = 3 := hxl
  match xs, this with
  | [a, b, c], _ => exact ⟨a, b, c, rfl⟩
 have g0 := hg 0 _ rfl; have g1 := hg 1 _ rfl; have g2 := hg 2 _ rfl
 have k2 : Tryz.prog.cellsOf 9 = 1 := by kernel_rfl
 have k3 : Tryz.prog.cellsOf 62 = 1 := by kernel_rfl
 have k4 : Tryz.prog.cellsOf 23 = 1 := by kernel_rfl
 simp [k2, k3, k4] at g0 g1 g2
 obtain ⟨s, e0, -, w0⟩ := DataW.trod_string Tryz.underlying9 g0
 obtain ⟨m, e1, -, w1⟩ := DataW.trod_int Tryz.underlying23 g1
 obtain rfl := List.singleton_inj.1 e0
 obtain rfl := List.singleton_inj.1 e1
 simp [Lit.wf, IntKind.min, IntKind.max, IntKind.bits, IntKind.signed] at w1
 obtain ⟨es, A, cap, rfl, hes, hd⟩ := VM n c2 x2 g2
 obtain ⟨mn, hmn⟩ : ∃ mn : Nat, m = mn := ⟨m.toNat, by omega⟩
 subst hmn
 have hdd : x.1 = .agg [x0.1, x1.1, x2.1] := by rw [hx]; rfl
 refine ⟨⟨s, mn, es⟩, A, cap, w0, by show mn < _; omega, hes, ?_, rfl⟩
 intro hb
 rcases hd with ⟨rfl, -⟩ | ⟨elems, rest, h2, hl⟩
 ·simp
 ·rw [hdd, h2] at hb
  simp only [Rows.uptoBulk, Rows.uptoBulkAll] at hb
  have := bulk_len elems
  show es.length ≤ _
  omega
theorem Ke {H : Type} {enc : TypeId × Value → H} {base b1 : Nat} {spare : Nat → Bool} {held : Bool} {d : DataW H} {p : List MemPlace} (v : Value) (W : World)
  (o : Value.okWide Tryz.prog W .any base 22 v) (k : DataW.Trod enc Tryz.prog W b1 spare held 22 v d p) :
  ∃ (bl : List BT) (A : Option Addr) (cap : Nat), v = .slice A bl.length cap ∧ BtsIn W A cap bl ∧ (Rows.uptoBulk d ≤ 1048576 → ∀ b ∈ bl, b.es.length ≤ 2097152) := by
 have hC : Tryz.prog.cellsOf 64 = 3 := by kernel_rfl
 obtain ⟨fuel, hf⟩ := k
 have hcs : ∃ A n c, v = .slice A n c := by
  obtain ⟨A, n, c, rfl⟩ := okWide_slice Tryz.underlying22 o
  exact ⟨_, _, _, rfl⟩
 obtain ⟨A0, n0, cp, rfl⟩ := hcs
 have hcs : (Value.slice A0 n0 cp).cells.toList = [.slice A0 n0 cp] := rfl
 rw [hcs] at hf
 rcases DataW.trod_slice Tryz.underlying22 hf with ⟨e4, hx⟩ | ⟨a, l0, cp0, elems, rest, n', hn', e4, hx, hb, hl, hm, hel, he, -, -⟩
 ·obtain e4 := List.singleton_inj.1 e4
  refine ⟨[], none, 0, e4, ⟨Nat.le_refl _, Nat.zero_le _, fun h => absurd h (by simp)⟩, fun _ b hb => absurd hb (by simp)⟩
 ·obtain e4 := List.singleton_inj.1 e4
  have hd : d = .slice (elems.map (·.1)) (rest.map (·.1)) := by
   have := congrArg Prod.fst hx
   exact this
  have h4 : ∀ i : Nat, ∃ tC : BT × (Option Addr × Nat), i < l0 → tC.1.flow.size ≤ maxLen ∧ tC.1.at' < 18446744073709551616 ∧ EvsIn W tC.2.1 tC.2.2 tC.1.es ∧ (Rows.uptoBulk d ≤ 1048576 → tC.1.es.length ≤ 2097152) ∧
    ∀ j, j < 3 → W.cell? (a.add (i * 3) |>.add j) = ([Value.string tC.1.flow, .int .u64 tC.1.at', .slice tC.2.1 tC.1.es.length tC.2.2] : List Value)[j]? := fun i => by
   by_cases hi : i < l0
   ·have e := he i hi
    rw [List.getElem?_eq_getElem (by omega)] at e
    obtain ⟨cs', q1, q2⟩ := Option.bind_eq_some_iff.1 e
    obtain ⟨b, A', c, p1, p2, p3, p4, rfl⟩ := open_bts n' cs' _ q2
    rw [hC] at q1
    obtain ⟨_, ql, qc⟩ := World.cells?_some q1
    exact ⟨(b, A', c), fun _ => ⟨p1, p2, p3, fun hb => p4 (by
     refine Nat.le_trans (SD (l := elems.map (·.1)) (i := i) (by rw [List.getElem?_map, List.getElem?_eq_getElem (by omega)]; rfl)) ?_
     rw [hd] at hb
     simp only [Rows.uptoBulk] at hb
     omega), fun j hj => by rw [qc j hj]⟩⟩
   ·exact ⟨(⟨.empty, 0, []⟩, none, 0), fun h => absurd h hi⟩
  obtain ⟨F, hF⟩ := Classical.axiomOfChoice h4
  have hlen' : ((List.range l0).map fun i => (F i).1).length = l0 := by simp
  refine ⟨(List.range l0).map fun i => (F i).1, some a, cp0, by rw [hlen']; exact e4, ⟨by rw [hlen']; exact hl, hm, fun hp => ?_⟩, fun hbu b hb => ?_⟩
  rotate_left
  ·obtain ⟨i, hi, rfl⟩ := List.mem_map.1 hb
   exact (hF i (List.mem_range.1 hi)).2.2.2.1 hbu
  rw [hlen'] at hp
  have h0 := (hF 0 hp).2.2.2.2 0 (by omega)
  obtain ⟨b, off, spot⟩ := a
  have hs : spot = none := by
   cases spot with
   | none => rfl
   | some q =>
    simp [Addr.add, World.cell?] at h0
    split at h0 <;> simp at h0
  subst hs
  have hlt : b < W.heap.size := by
   rcases Nat.lt_or_ge b W.heap.size with q | q
   ·exact q
   ·simp [Addr.add, World.cell?, Array.getElem?_eq_none q] at h0
  refine ⟨b, off, rfl, hlt, fun i hi => ?_⟩
  rw [hlen'] at hi
  obtain ⟨p1, p2, p3, -, p5⟩ := hF i hi
  have ad : ∀ j, (Addr.add ⟨b, off, none⟩ (i * 3)).add j = ⟨b, off + i * 3 + j, none⟩ := fun j => by rw [Go.Deep.add_add, add_plain, Nat.add_assoc]
  refine ⟨(F i).2.1, (F i).2.2, by simpa using p1, by simpa using p2, by simpa using p3, ?_, ?_, ?_⟩
  ·have := p5 0 (by omega); rw [ad] at this; simpa using this
  ·have := p5 1 (by omega); rw [ad] at this; simpa using this
  ·have := p5 2 (by omega); rw [ad] at this; simpa using this
end Hi
open Go.RowKit Go.ChangeShapes Go.WideShapes Go.WideMaps Go.Maps Go.ChangeMaps Go.MapKept
namespace Ta
open Hi (TK HM XM Dt DJ FF OX Fc FA Gf CIn Chg PX HR At)
open Cm (rowOf)
variable {w w' : World} {b n : Nat} {l : List HM}
def rfL (r : RF) : List Value := [.string r.flow, .int .u64 (r.id : Nat), .int .i64 r.n, .int .u64 (r.at' : Nat)]
theorem YD (r : RF) : ∀ v ∈ rfL r, v.oneCell' = true := by
 intro v hv
 simp only [rfL, List.mem_cons, List.not_mem_nil, or_false] at hv
 rcases hv with rfl | rfl | rfl | rfl <;> rfl
theorem rfs_one (l : List RF) : ∀ v ∈ l.flatMap rfL, v.oneCell' = true := fun v hv => by
 obtain ⟨r, -, h⟩ := List.mem_flatMap.1 hv
 exact YD r v h
def PMap (w : World) (b n : Nat) (l : List HM) : Prop := ∃ D : DataW Value, w.ownsMap Tryz.prog 9 HR b n D ∧ ∀ s : ByteArray, s.size ≤ maxLen → At D (.string s.data.toList) ((Dt l s).map fun i => .int .i64 (i : Nat))
theorem PMap.keep (h : PMap w b n l) (hk : w'.heap[b]? = w.heap[b]?) : PMap w' b n l := by
 obtain ⟨D, h1, h2⟩ := h
 exact ⟨D, Fc h1 hk, h2⟩
theorem PMap.lt (h : PMap w b n l) : b < w.heap.size := let ⟨_, h1, _⟩ := h; h1.lt
theorem PMap.made (w : World) : PMap (w.alloc (.map #[] 0)) w.heap.size 0 [] := ⟨.map [], World.ownsMap_made _ _ _ _, fun s _ => At.empty _⟩
theorem PMap.put (h : PMap w b n l) (hn : n < maxLen) (g : HM) (hs : g.flow.size ≤ maxLen) (hx : Dt l g.flow = none) :
  ∃ w', (Instr.mapUpdate 109 (.map (some b)) (.string g.flow) (.int .i64 (l.length : Nat))).run Tryz.prog w = .ok () w' ∧ PMap w' b (n + 1) (l ++ [g]) ∧ w.mapTurned w' b := by
 obtain ⟨D, h1, h2⟩ := h
 obtain ⟨w', hr, own, turn⟩ := h1.store FA Tryz.underlying109 hn (Gf g.flow hs) (d := .held (.int .i64 (l.length : Nat))) (ps := []) rfl
 refine ⟨w', hr, ⟨_, own, fun s hs' => ?_⟩, turn⟩
 rw [OX hx]
 by_cases e : s = g.flow
 ·subst e
  rw [if_pos rfl]
  exact At.put h1.isMap (show WideAt.IsKeyLit (Lit.string g.flow.data.toList) from trivial) _
 ·rw [if_neg e]
  have k := At.put_other (h2 s hs') (PX e) (.int .i64 (l.length : Nat))
  cases hf : Dt l s with
  | none => rw [hf] at k; exact k
  | some i => rw [hf] at k; exact k
end Ta
end Go.Proofs.YtaahfiopdoinkaaGreat
namespace Go.Proofs.YtaahfiopdoinkaaGreat
namespace Hi
open _root_.Go.Proofs.YtaahfiopdoinkaaGreat.Nm (Dn Dd)
open _root_.Go.Proofs.YtaahfiopdoinkaaGreat.Rt (Gy)
open Bt (FW FG)
open Vt (VT Rep Da)
open Cm (rowOf EvsIn)
attribute [local go_sem] Oper.semAt_some
variable {w w' : World}
def N0 (w : World) (m g bx : Nat) (W : World) : Prop := Boxed W g 81 (.slice none 0 0) ∧ Boxed W bx 24 (.pointer none) ∧ Below w.heap.size w W ∧ m ≤ W.heap.size
theorem N0.alloc {m g bx : Nat} {W : World} (h : N0 w m g bx W) (hm : w.heap.size ≤ m) (o : Obj) : N0 w m g bx (W.alloc o) := by
 obtain ⟨h1, h3, h4, h5⟩ := h
 exact ⟨h1.alloc o, h3.alloc o, h4.alloc (by omega) o, by simp; omega⟩
end Hi
end Go.Proofs.YtaahfiopdoinkaaGreat
