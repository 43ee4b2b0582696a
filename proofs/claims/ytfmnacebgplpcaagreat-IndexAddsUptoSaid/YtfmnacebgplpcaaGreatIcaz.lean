/- The law's Same: an index that has the state of the reference. -/
import Derived.Test.YtfmnacebgplpcaaGreatIcay
import Derived.Test.YtfmnacebgplpcaaGreatIcap
import Derived.Test.YtfmnacebgplpcaaGreatIcar
import Derived.Test.YtfmnacebgplpcaaGreatIcax
import Derived.Test.YtfmnacebgplpcaaGreatIcaw
import Derived.Test.YtfmnacebgplpcaaGreatIcae
import Derived.Test.YtfmnacebgplpcaaGreatRows
set_option linter.unusedVariables false
set_option linter.unusedSimpArgs false
open Go.RowKit
namespace Go.Proofs.YtfmnacebgplpcaaGreat
namespace Hi
open _root_.Go.Proofs.YtfmnacebgplpcaaGreat.Nm (ret_int ret_bool)
open Vt (VT Rep below_drew)
open Ev (EV FieldsOk evCells vCells take_drop tk ap rd1 rd2 cons_drop)
open Cm (rowOf EvsIn)
open Cn (BT BB BtsIn bvalid)
variable {E Z : Nat → Prop} {u v w w' V V' : World} {xb : Nat} {x : XM}

theorem HSame.refl (h : HM) : HSame h h := ⟨rfl, rfl, rfl, rfl, rfl, rfl, fun i _ _ => ⟨rfl, rfl, Cm.evsSame_refl _⟩, rfl, fun i _ _ => ⟨rfl, rfl, rfl, rfl, rfl, Vt.same_refl _⟩⟩
structure XSame (x y : XM) : Prop where
 len : y.flows.length = x.flows.length
 flows : ∀ i (h : i < x.flows.length) (h' : i < y.flows.length), HSame x.flows[i] y.flows[i]
 clock : x.clock = y.clock
theorem XSame.refl (x : XM) : XSame x x := ⟨rfl, fun i _ _ => HSame.refl _, rfl⟩
theorem XSame.names {x y : XM} (h : XSame x y) : x.flows.map (·.flow) = y.flows.map (·.flow) := by
 refine List.ext_getElem (by simp [h.len]) fun i h1 h2 => ?_
 rw [List.getElem_map, List.getElem_map]
 exact (h.flows i (by simpa using h1) (by simpa using h2)).flow
theorem opF_same {l l' : List HM} (hl : l'.length = l.length) (h : ∀ i (h : i < l.length) (h' : i < l'.length), HSame l[i] l'[i]) : opF l = opF l' := by
 have key : ∀ n, n ≤ l.length → opF (l.take n) = opF (l'.take n) := by
  intro n
  induction n with
  | zero => intro _; rfl
  | succ n ih =>
   intro hn
   have hs := h n (by omega) (by omega)
   rw [List.take_succ_eq_append_getElem (by omega), List.take_succ_eq_append_getElem (by omega), opF_snoc, opF_snoc, ih (by omega), hs.closed, hs.flow]
 have := key l.length (Nat.le_refl _)
 rwa [List.take_length, ← hl, List.take_length] at this
theorem own_off {base n k : Nat} {T : TypeId} {v : Value} {xs : List Value} (h : w.ownsRow base T k v n xs) (hb : ∀ r, v.ownBlock = some r → w'.heap[r]? = w.heap[r]?) : w'.ownsRow base T k v n xs := by
 refine ⟨h.1, ?_⟩
 rcases h.2 with q | ⟨r, cp, cur, rfl, q2, q3, q4, q5, q6, q7⟩
 ·exact .inl q
 ·exact .inr ⟨r, cp, cur, rfl, q2, (hb r rfl).trans q3, q4, q5, q6, q7⟩
def SRows (base : Nat) (W : World) (v5 v6 : Value) (ns os : List ByteArray) : Prop := W.ownsRow base 9 1 v5 ns.length (ns.map .string) ∧ W.ownsRow base 9 1 v6 os.length (os.map .string) ∧ ∀ r, v5.ownBlock = some r → v6.ownBlock ≠ some r
theorem SRows.later {base : Nat} {v5 v6 : Value} {ns os : List ByteArray} (h : SRows base w v5 v6 ns os) (hb : Below w.heap.size w w') : SRows base w' v5 v6 ns os := ⟨own_stay h.1 hb, own_stay h.2.1 hb, h.2.2⟩
theorem SRows.name {base : Nat} {v5 v6 v' : Value} {ns os : List ByteArray} {f : ByteArray} (h : SRows base w v5 v6 ns os) (ho : w'.ownsRow base 9 1 v' (ns.length + 1) (ns.map .string ++ [.string f])) (hg : w.grownBy w' v5.ownBlock) (hat : v'.ownBlock = v5.ownBlock ∨ v'.ownBlock = some w.heap.size) : SRows base w' v' v6 (ns ++ [f]) os := by
 refine ⟨by rw [List.length_append, List.map_append]; exact ho, own_off h.2.1 fun r hr => hg.block r (h.2.1.lt r hr).2 fun e => h.2.2 r e.symm hr, fun r hr e => ?_⟩
 rcases hat with q | q
 ·exact h.2.2 r (q.symm.trans hr) e
 ·have e2 : w.heap.size = r := Option.some.inj (q.symm.trans hr)
  have := (h.2.1.lt r e).2
  omega
theorem SRows.open_ {base : Nat} {v5 v6 v' : Value} {ns os : List ByteArray} {f : ByteArray} (h : SRows base w v5 v6 ns os) (ho : w'.ownsRow base 9 1 v' (os.length + 1) (os.map .string ++ [.string f])) (hg : w.grownBy w' v6.ownBlock) (hat : v'.ownBlock = v6.ownBlock ∨ v'.ownBlock = some w.heap.size) : SRows base w' v5 v' ns (os ++ [f]) := by
 refine ⟨own_off h.1 fun r hr => hg.block r (h.1.lt r hr).2 fun e => h.2.2 r hr e.symm, by rw [List.length_append, List.map_append]; exact ho, fun r hr e => ?_⟩
 rcases hat with q | q
 ·exact h.2.2 r hr (q.symm.trans e)
 ·have e2 : w.heap.size = r := Option.some.inj (q.symm.trans e)
  have := (h.1.lt r hr).2
  omega
theorem one_strs (l : List ByteArray) : ∀ y ∈ l.map Value.string, y.oneCell' = true := by
 intro y hy
 obtain ⟨s, -, rfl⟩ := List.mem_map.1 hy
 rfl
theorem xnames_any (H : XAt E w xb Z x) (hap : Apart x.flows) (hfl : ∀ h ∈ x.flows, h.flow.size ≤ maxLen) (hlen : x.flows.length ≤ 1000000) :
  Calls Tryz.prog 18 #[.pointer (some ⟨xb, 0, none⟩)] w fun e w' => ∃ A c, e = .returned (.slice A x.flows.length c) ∧ CIn w' (.slice A x.flows.length c) x.flows.length 1 ((x.flows.map (·.flow)).map .string) ∧ Below w.heap.size w w' := by
 obtain ⟨mb, nm, N, cN, R, cR, ps, -, H⟩ := H
 refine (names_xp H hap hfl hlen).mono fun e w' => ?_
 rintro ⟨v, rfl, hown, hb⟩
 obtain ⟨A, c, rfl, -⟩ := own_slice hown
 refine ⟨A, c, rfl, CIn.of_own (by rw [List.map_map]; exact hown) (one_strs _), hb⟩
theorem xopen_any (H : XAt E w xb Z x) (hap : Apart x.flows) (hfl : ∀ h ∈ x.flows, h.flow.size ≤ maxLen) (hlen : x.flows.length ≤ 1000000) :
  Calls Tryz.prog 19 #[.pointer (some ⟨xb, 0, none⟩)] w fun e w' => ∃ A c, e = .returned (.slice A (opF x.flows).length c) ∧ CIn w' (.slice A (opF x.flows).length c) (opF x.flows).length 1 ((opF x.flows).map .string) ∧ Below w.heap.size w w' := by
 obtain ⟨mb, nm, N, cN, R, cR, ps, -, H⟩ := H
 refine (open_xp H hap hfl hlen).mono fun e w' => ?_
 rintro ⟨v, rfl, hown, hb⟩
 obtain ⟨A, c, rfl, -⟩ := own_slice hown
 exact ⟨A, c, rfl, CIn.of_own hown (one_strs _), hb⟩
theorem M98 {p : Prop} (h : p := by
 rcases hcase with ⟨hn, -⟩ | ⟨i', h', p, Y, hf, hh, e, hat, -⟩
 ·rw [HFX.out] at hn; cases hn
 ·rw [HFX.out] at hf
  obtain rfl := Option.some.inj hf
  rw [HXJ.out] at hh
  obtain rfl := Option.some.inj hh
  exact ⟨p, Y, e, hat⟩) : p := h
set_option maxRecDepth 100000 in
set_option maxHeartbeats 4000000 in
theorem xsame_any (H : XAt E w xb Z x) {T N : Nat} (hg : XGood x T N) (hT : T ≤ 1100000000000) (hN : N ≤ 1000000) (y : XM) (hss : XSame x y) (uA uF : Value) (hr : RIx w y uA uF) :
  Calls Tryz.prog 24 #[.pointer (some ⟨xb, 0, none⟩), .agg #[uA, uF]] w fun r w' => r = .returned (.int .i64 1) ∧ Below w.heap.size w w' := by
 obtain ⟨⟨AA, cA, rfl, hA1, hA2⟩, AF, cF, rfl, hF1, hF2⟩ := hr.slices
 simp only [maxLen] at hA2 hF2
 obtain ⟨W0, hW0⟩ : ∃ W0, W0 = w.alloc (.cells #[.slice AA y.all.length cA, .slice AF y.flows.length cF] 29) := ⟨_, rfl⟩
 have hb0 : Below w.heap.size w W0 := by rw [hW0]; exact (Below.refl _ _).alloc (Nat.le_refl _) _
 have hx0 : IBox W0 w.heap.size (.slice AA y.all.length cA) (.slice AF y.flows.length cF) := by rw [hW0]; exact IBox.new ..
 have HX : Hid (∀ W, Below W0.heap.size W0 W → IBox W w.heap.size (.slice AA y.all.length cA) (.slice AF y.flows.length cF)) := Lib.hid fun W hW => hx0.later hW hx0.lt
 have HBW : Hid (∀ W, Below W0.heap.size W0 W → Below w.heap.size w W) := Lib.hid fun W hW => hb0.trans (hW.mono hb0.size)
 have HXA : Hid (∀ W, Below W0.heap.size W0 W → XAt E W xb Z x) := Lib.hid fun W hW => H.later (HBW.out W hW)
 have HRI : Hid (∀ W, Below W0.heap.size W0 W → RIx W y (.slice AA y.all.length cA) (.slice AF y.flows.length cF)) := Lib.hid fun W hW => hr.later (HBW.out W hW)
 have HFS : Hid (∀ h ∈ y.flows, h.flow.size ≤ maxLen) := Lib.hid fun h hh => by
  obtain ⟨i, hi, rfl⟩ := List.getElem_of_mem hh
  obtain ⟨xs, -, hc⟩ := hr.flows
  exact (hc.2 i hi).1
 have HSS := Lib.hid hss; have HG := Lib.hid hg
 have hz0 : W0.heap.size = w.heap.size + 1 := by rw [hW0]; simp
 have HZ0 := Lib.hid hz0
 obtain ⟨nA, hnA⟩ : ∃ n, n = y.all.length := ⟨_, rfl⟩
 obtain ⟨m, hm⟩ : ∃ n, n = y.flows.length := ⟨_, rfl⟩
 rw [← hnA, ← hm] at HX HRI hx0 hW0
 rw [← hm] at hF1
 rw [← hnA, ← hm]
 have HMM := Lib.hid hm
 have hmN : m ≤ 1000000 := by have := hg.len; have := hss.len; omega
 have HSN : Hid (∀ W, Below W0.heap.size W0 W → ∃ mb nm N cN R cR ps, Z = HZs (XB E xb mb N R) ps ∧ XP E W xb mb nm N cN R cR ps x.flows (x.flows.map (·.flow)) x.clock (x.all.map frm)) := Lib.hid fun W hW => HXA.out W hW
 obtain ⟨xs, ⟨-, -, A9, c9, e9, -, -, hrd⟩, hc⟩ := hr.flows
 rw [← hm] at hrd
 obtain ⟨rfl, rfl⟩ : AF = A9 ∧ cF = c9 := by injection e9 with a1 a2 a3; exact ⟨a1, a3⟩
 have HRD := Lib.hid hrd; have HRC := Lib.hid hc
 clear H hr hg hss hb0 hnA hm hz0 hrd hc e9
 replace hW0 := Lib.hid hW0
 obtain ⟨i0, hi0, hz0, hz1, hz2⟩ := info_parts Tryz.infoXt
 have HSZ := Lib.hid (sz_of hi0 hz1)
 obtain ⟨x0, x1, -⟩ := hx0.cells
 clear hx0
 go_enter Tryz.func24, Tryz.ntmps24
 go_upto_region 1 with fail
 rw [← hW0.out]
 go_wp2_with fail
 go_loopw [5, 6, 13] (fun v5 v6 i wr => ∃ j : Nat, j ≤ m ∧ i = .int .i64 j ∧ SRows W0.heap.size wr v5 v6 ((y.flows.take j).map (·.flow)) (opF (y.flows.take j)) ∧ Below W0.heap.size W0 wr) (fun _ _ i _ => m - (intOf i).toNat)
 case atStart => exact ⟨0, by omega, rfl, ⟨⟨rfl, .inl ⟨rfl, rfl⟩⟩, ⟨rfl, .inl ⟨rfl, rfl⟩⟩, fun r h => by cases h⟩, Below.refl _ _⟩
 case round =>
  obtain ⟨j, hj, rfl, hsr, hb⟩ := hrel
  have HB := Lib.hid hb; have HSR := Lib.hid hsr
  clear hb hsr
  by_cases hlt : j < m
  ·have hjy : j < y.flows.length := by have := HMM.out; omega
   have hjx : j < x.flows.length := by have := HSS.out.len; omega
   obtain ⟨b, off, rfl, hbl, hrr⟩ := HRD.out (by omega)
   obtain ⟨hfs, ub, uk, ut, um, hrh, hq⟩ := HRC.out.2 j hjy
   obtain ⟨⟨Bu, nu, cu, rfl⟩, ⟨Ak, nk, ck, rfl⟩, ⟨Aq, nt, ct, rfl⟩, ⟨Am, nm, cm, rfl⟩⟩ := hrh.slices
   have hns : (y.flows.take (j + 1)).map (·.flow) = (y.flows.take j).map (·.flow) ++ [y.flows[j].flow] := by rw [List.take_succ_eq_append_getElem hjy, List.map_append]; rfl
   have hos : opF (y.flows.take (j + 1)) = if y.flows[j].s.closed = 0 then opF (y.flows.take j) ++ [y.flows[j].flow] else opF (y.flows.take j) := by rw [List.take_succ_eq_append_getElem hjy, opF_snoc]
   have hsame := HSS.out.flows j hjx hjy
   have hgx := HG.out.good _ (List.getElem_mem hjx)
   have hfx : findX x.flows y.flows[j].flow = some j := by rw [← hsame.flow]; exact findX_self HG.out.apart j hjx
   have hxj : x.flows[j]? = some x.flows[j] := List.getElem?_eq_getElem hjx
   have hnl : ((y.flows.take j).map (·.flow)).length = j := by rw [List.length_map, List.length_take]; omega
   have hol : (opF (y.flows.take j)).length ≤ j := by have := opF_len (y.flows.take j); rw [List.length_take] at this; omega
   have d : ∀ q (hq7 : q < 7) v, (rhC y.flows[j].flow (.slice Bu nu cu) y.flows[j].s.closed y.flows[j].s.next (.slice Ak nk ck) (.slice Aq nt ct) (.slice Am nm cm))[q]? = some v → wr.cell? ⟨b, off + j * 7 + q, none⟩ = some v := fun q hq7 v hv => by
    have := hrr (j * 7 + q) v (by rw [hq q hq7]; exact hv)
    rw [← Nat.add_assoc] at this
    exact ((HBW.out wr HB.out).cell (p := ⟨b, off + j * 7 + q, none⟩) hbl).trans this
   have d0 := d 0 (by omega) (.string y.flows[j].flow) rfl; have d1 := d 1 (by omega) (.slice Bu nu cu) rfl; have d2 := d 2 (by omega) (.int .i64 y.flows[j].s.closed) rfl; have d3 := d 3 (by omega) (.int .u64 (y.flows[j].s.next : Nat)) rfl; have d4 := d 4 (by omega) (.slice Ak nk ck) rfl; have d5 := d 5 (by omega) (.slice Aq nt ct) rfl; have d6 := d 6 (by omega) (.slice Am nm cm) rfl
   rw [Nat.add_zero] at d0
   have HNS := Lib.hid hns; have HOS := Lib.hid hos; have HSM := Lib.hid hsame; have HGX := Lib.hid hgx; have HFX := Lib.hid hfx; have HXJ := Lib.hid hxj; have HNL := Lib.hid hnl; have HRH := Lib.hid hrh; have HFSJ := Lib.hid hfs
   generalize (y.flows.take j).map (·.flow) = ns at *
   generalize opF (y.flows.take j) = os at *
   generalize x.flows[j] = hx at *
   generalize y.flows[j] = hy at *
   obtain ⟨cl, hcl⟩ : ∃ cl, cl = hy.s.closed := ⟨_, rfl⟩
   obtain ⟨nx, hnx⟩ : ∃ nx, nx = hy.s.next := ⟨_, rfl⟩
   obtain ⟨ff, hff⟩ : ∃ ff, ff = hy.flow := ⟨_, rfl⟩
   rw [← hcl] at d2 HOS
   rw [← hnx] at d3
   rw [← hff] at d0 HOS HNS HFX HFSJ
   obtain ⟨W1, hW1⟩ : ∃ W1, W1 = wr.alloc (.cells #[.string ff, .slice Bu nu cu, .int .i64 cl, .int .u64 (nx : Nat), .slice Ak nk ck, .slice Aq nt ct, .slice Am nm cm] 52) := ⟨_, rfl⟩
   obtain ⟨g8, hg8⟩ : ∃ g, g = wr.heap.size := ⟨_, rfl⟩
   have hb1 : Below wr.heap.size wr W1 := by rw [hW1]; exact (Below.refl _ _).alloc (Nat.le_refl _) _
   have hrx : RX W1 g8 ff (.slice Bu nu cu) cl nx (.slice Ak nk ck) (.slice Aq nt ct) (.slice Am nm cm) := by rw [hW1, hg8]; exact heap_alloc_new wr _
   have hsr1 := HSR.out.later hb1
   obtain ⟨W2, hW2⟩ : ∃ W2, W2 = W1.alloc (.cells #[.string ff] 9) := ⟨_, rfl⟩
   have hb2 : Below W1.heap.size W1 W2 := by rw [hW2]; exact (Below.refl _ _).alloc (Nat.le_refl _) _
   have HIN2 : Hid (CIn W2 (.slice (some ⟨W1.heap.size, 0, none⟩) 1 1) 1 1 [.string ff]) := Lib.hid (by rw [hW2]; exact CIn.new W1 _ _ rfl (by intro y hy; simp at hy; rw [hy]; rfl))
   have HSR2 := Lib.hid (hsr1.later hb2)
   have HB12 := Lib.hid (hb1.trans (hb2.mono hb1.size))
   have HB02 := Lib.hid (HB.out.trans (HB12.out.mono HB.out.size))
   have HRX2 := Lib.hid (hrx.later hb2 hrx.lt)
   have HW1 := Lib.hid hW1; have HW2 := Lib.hid hW2; have HG8 := Lib.hid hg8
   have HG8L : Hid (W0.heap.size ≤ g8) := Lib.hid (by rw [hg8]; exact HB.out.size)
   have HG81 : Hid (g8 < W1.heap.size) := Lib.hid hrx.lt
   have HCL := Lib.hid hcl; have HNX := Lib.hid hnx; have HFF := Lib.hid hff
   obtain ⟨x0, x1, -⟩ := (HX.out wr HB.out).cells
   obtain ⟨z0, z1, z2, z3, z4, z5, z6, -⟩ := hrx.cells
   clear hns hos hsame hgx hfx hxj hrh d hq hrr hbl hb1 hb2 hrx hsr1 hW1 hW2 hg8 hcl hnx hff hfs hjy hjx
   go_upto_region 5 with fail
   rw [← HW1.out, ← HG8.out]
   clear d0 d1 d2 d3 d4 d5 d6
   go_upto_region 6 with (at_builtin; rw [← HW2.out]; refine wpList_append_any _ rfl _ _ 45 9 rfl i0 _ 1 16 Tryz.underlying45 HSZ.out hi0 hz0 hz1 hz2 rfl (by decide) W0.heap.size _ _ ns.length 1 (ns.map .string) [.string ff] rfl rfl HSR2.out.1 HIN2.out (by simp only [maxLen]; omega) (by omega) HB02.out.size ?_; intro v5' w3 hown hgrow hat)
   have HSR3 := Lib.hid (HSR2.out.name hown hgrow hat)
   have HBG3 : Hid (Below W0.heap.size W0 w3) := Lib.hid (below_grown HB02.out hgrow (fun r hr => (HSR2.out.1.lt r hr).1) HB02.out.size)
   have HRX3 : Hid (RX w3 g8 ff (.slice Bu nu cu) cl nx (.slice Ak nk ck) (.slice Aq nt ct) (.slice Am nm cm)) := Lib.hid ((hgrow.block g8 HRX2.out.lt fun e => by have := (HSR.out.1.lt g8 e.symm).2; have := HG8.out; omega).trans HRX2.out)
   obtain ⟨z0, z1, z2, z3, z4, z5, z6, -⟩ := HRX3.out.cells
   clear hown hgrow hat
   by_cases hc0 : cl = 0
   rotate_left
   ·have kz : (cl == 0) = false := by simpa using hc0
    rw [if_neg hc0] at HOS
    clear hc0
    go_upto_region 8 with fail
    have HFL := Lib.hid (xflow_any (HXA.out w3 HBG3.out) ff HFSJ.out)
    go_wp2_with fail
    refine HFL.out.mono ?_
    rintro r w6 ⟨hw6, hcase⟩
    rw [hw6]
    clear hw6 w6 HFL
    obtain ⟨p, Y, rfl, hat⟩ : ∃ (p : Hi.HB) (Y : Nat → Prop), r = .returned (.pointer (some ⟨p.hb, 0, none⟩)) ∧ p.at_ Y w3 hx := by
     exact M98
    have HC : Hid (Calls Tryz.prog 22 #[.pointer (some ⟨p.hb, 0, none⟩), .agg (rhC ff (.slice Bu nu cu) cl nx (.slice Ak nk ck) (.slice Aq nt ct) (.slice Am nm cm))] w3 fun r w' => r = .returned (.int .i64 1) ∧ Below w3.heap.size w3 w') := Lib.hid (by
     have hrh := HRH.out.later (HBW.out w3 HBG3.out)
     have q := lsame_same hat hy HSM.out _ _ _ _ hrh (by have := HGX.out.tot; omega) (by have := HGX.out.len; omega) HGX.out.bs HGX.out.slim
     rw [← HFF.out, ← HCL.out, ← HNX.out] at q
     exact q)
    unfold rhC at HC
    generalize p.hb = qb at *
    clear hcase hat
    go_wp2_with fail
    refine HC.out.mono ?_
    rintro r w7 ⟨rfl, hb7⟩
    have HB7 : Hid (Below W0.heap.size W0 w7) := Lib.hid (HBG3.out.trans (hb7.mono HBG3.out.size))
    have HSR7 := Lib.hid (HSR3.out.later hb7)
    clear hb7 HC z0 z1 z2 z3 z4 z5 z6
    go_wp2_with fail
    go_roundw
    case rel => exact ⟨j + 1, by omega, by go_num, by rw [HNS.out, HOS.out]; exact HSR7.out, HB7.out⟩
    case measure => simp [intOf]; omega
   rw [if_pos hc0] at HOS
   have kz : (cl == 0) = true := by simpa using hc0
   clear hc0
   obtain ⟨W4, hW4⟩ : ∃ W4, W4 = w3.alloc (.cells #[.string ff] 9) := ⟨_, rfl⟩
   have hb4 : Below w3.heap.size w3 W4 := by rw [hW4]; exact (Below.refl _ _).alloc (Nat.le_refl _) _
   have HIN4 : Hid (CIn W4 (.slice (some ⟨w3.heap.size, 0, none⟩) 1 1) 1 1 [.string ff]) := Lib.hid (by rw [hW4]; exact CIn.new w3 _ _ rfl (by intro y hy; simp at hy; rw [hy]; rfl))
   have HSR4 := Lib.hid (HSR3.out.later hb4)
   have HB04 := Lib.hid (HBG3.out.trans (hb4.mono HBG3.out.size))
   have HRX4 := Lib.hid (HRX3.out.later hb4 HRX3.out.lt)
   have HW4 := Lib.hid hW4
   clear hb4 hW4
   go_upto_region 8 with (at_builtin; rw [← HW4.out]; refine wpList_append_any _ rfl _ _ 45 9 rfl i0 _ 1 16 Tryz.underlying45 HSZ.out hi0 hz0 hz1 hz2 rfl (by decide) W0.heap.size _ _ os.length 1 (os.map .string) [.string ff] rfl rfl HSR4.out.2.1 HIN4.out (by simp only [maxLen]; omega) (by omega) HB04.out.size ?_; intro v6' w5 hown hgrow hat)
   have HSR5 := Lib.hid (HSR4.out.open_ hown hgrow hat)
   have HBG5 : Hid (Below W0.heap.size W0 w5) := Lib.hid (below_grown HB04.out hgrow (fun r hr => (HSR4.out.2.1.lt r hr).1) HB04.out.size)
   have HRX5 : Hid (RX w5 g8 ff (.slice Bu nu cu) cl nx (.slice Ak nk ck) (.slice Aq nt ct) (.slice Am nm cm)) := Lib.hid ((hgrow.block g8 HRX4.out.lt fun e => by have := (HSR.out.2.1.lt g8 e.symm).2; have := HG8.out; omega).trans HRX4.out)
   clear hown hgrow hat z0 z1 z2 z3 z4 z5 z6
   obtain ⟨z0, z1, z2, z3, z4, z5, z6, -⟩ := HRX5.out.cells
   have HFL := Lib.hid (xflow_any (HXA.out w5 HBG5.out) ff HFSJ.out)
   go_wp2_with fail
   refine HFL.out.mono ?_
   rintro r w6 ⟨hw6, hcase⟩
   rw [hw6]
   clear hw6 w6 HFL
   obtain ⟨p, Y, rfl, hat⟩ : ∃ (p : Hi.HB) (Y : Nat → Prop), r = .returned (.pointer (some ⟨p.hb, 0, none⟩)) ∧ p.at_ Y w5 hx := by
    exact M98
   have HC : Hid (Calls Tryz.prog 22 #[.pointer (some ⟨p.hb, 0, none⟩), .agg (rhC ff (.slice Bu nu cu) cl nx (.slice Ak nk ck) (.slice Aq nt ct) (.slice Am nm cm))] w5 fun r w' => r = .returned (.int .i64 1) ∧ Below w5.heap.size w5 w') := Lib.hid (by
    have hrh := HRH.out.later (HBW.out w5 HBG5.out)
    have q := lsame_same hat hy HSM.out _ _ _ _ hrh (by have := HGX.out.tot; omega) (by have := HGX.out.len; omega) HGX.out.bs HGX.out.slim
    rw [← HFF.out, ← HCL.out, ← HNX.out] at q
    exact q)
   unfold rhC at HC
   generalize p.hb = qb at *
   clear hcase hat
   go_wp2_with fail
   refine HC.out.mono ?_
   rintro r w7 ⟨rfl, hb7⟩
   have HB7 : Hid (Below W0.heap.size W0 w7) := Lib.hid (HBG5.out.trans (hb7.mono HBG5.out.size))
   have HSR7 := Lib.hid (HSR5.out.later hb7)
   clear hb7 HC z0 z1 z2 z3 z4 z5 z6
   go_wp2_with fail
   go_roundw
   case rel => exact ⟨j + 1, by omega, by go_num, by rw [HNS.out, HOS.out]; exact HSR7.out, HB7.out⟩
   case measure => simp [intOf]; omega
  ·have hjm : j = m := by omega
   subst hjm
   have hyl : y.flows.take j = y.flows := by rw [HMM.out]; exact List.take_length
   rw [hyl] at HSR
   have HNX2 := Lib.hid HSS.out.names
   have HOX2 := Lib.hid (opF_same HSS.out.len HSS.out.flows)
   have HSX : Hid (∀ h ∈ x.flows, h.flow.size ≤ maxLen) := Lib.hid fun h hh => by
    obtain ⟨i, hi, rfl⟩ := List.getElem_of_mem hh
    have hi' : i < y.flows.length := by have := HSS.out.len; omega
    rw [(HSS.out.flows i hi hi').flow]
    exact HFS.out _ (List.getElem_mem hi')
   have HLX : Hid (x.flows.length ≤ 1000000) := Lib.hid (by have := HSS.out.len; have := HMM.out; omega)
   obtain ⟨nl, hnl⟩ : ∃ nl, nl = y.flows.map (·.flow) := ⟨_, rfl⟩
   obtain ⟨ol, hol⟩ : ∃ ol, ol = opF y.flows := ⟨_, rfl⟩
   rw [← hnl, ← hol] at HSR
   obtain ⟨nn, hnn⟩ : ∃ n, n = nl.length := ⟨_, rfl⟩
   obtain ⟨no, hno⟩ : ∃ n, n = ol.length := ⟨_, rfl⟩
   have HNM : Hid (∀ W, Below W0.heap.size W0 W → Calls Tryz.prog 18 #[.pointer (some ⟨xb, 0, none⟩)] W fun e w' => ∃ A c, e = .returned (.slice A nn c) ∧ CIn w' (.slice A nn c) nl.length 1 (nl.map .string) ∧ Below W.heap.size W w') := Lib.hid fun W hW => by
    have q := xnames_any (HXA.out W hW) HG.out.apart HSX.out HLX.out
    have e : x.flows.length = nl.length := by rw [hnl, List.length_map]; exact HSS.out.len.symm
    rw [HNX2.out, ← hnl, e] at q
    rw [hnn]; exact q
   have HOM : Hid (∀ W, Below W0.heap.size W0 W → Calls Tryz.prog 19 #[.pointer (some ⟨xb, 0, none⟩)] W fun e w' => ∃ A c, e = .returned (.slice A no c) ∧ CIn w' (.slice A no c) ol.length 1 (ol.map .string) ∧ Below W.heap.size W w') := Lib.hid fun W hW => by
    have q := xopen_any (HXA.out W hW) HG.out.apart HSX.out HLX.out
    rw [HOX2.out, ← hol] at q
    rw [hno]; exact q
   obtain ⟨clk, hclk⟩ : ∃ clk, clk = y.clock := ⟨_, rfl⟩
   have HCK : Hid (∀ W, Below W0.heap.size W0 W → Calls Tryz.prog 20 #[.pointer (some ⟨xb, 0, none⟩)] W fun r w' => r = .returned (.int .u64 (clk : Nat)) ∧ w' = W) := Lib.hid fun W hW => by
    have q := xclock_any (HXA.out W hW)
    rw [HSS.out.clock, ← hclk] at q
    exact q
   have HRK : Hid (∀ W, Below W0.heap.size W0 W → Calls Tryz.prog 33 #[.agg #[.slice AA nA cA, .slice AF j cF]] W fun r w' => r = .returned (.int .u64 (clk : Nat)) ∧ Below W.heap.size W w') := Lib.hid fun W hW => by
    have q := rclock_any y _ _ W (HRI.out W hW)
    rw [← hclk] at q
    exact q
   have KS : Hid (∀ W, Below W0.heap.size W0 W → (fun W : World => W.cell? ⟨w.heap.size, 0, none⟩ = some (.slice AA nA cA) ∧ W.cell? ⟨w.heap.size, 1, none⟩ = some (.slice AF j cF)) W) := Lib.hid fun W hW => by
    obtain ⟨a0, a1, -⟩ := (HX.out W hW).cells
    exact ⟨a0, a1⟩
   obtain ⟨A5, c5, rfl, -⟩ := own_slice HSR.out.1
   obtain ⟨A6, c6, rfl, -⟩ := own_slice HSR.out.2.1
   have HC5 : Hid (∀ W, Below wr.heap.size wr W → CIn W (.slice A5 nn c5) nl.length 1 (nl.map .string)) := Lib.hid fun W hW => by rw [hnn]; exact (CIn.of_own HSR.out.1 (one_strs _)).later hW
   have HC6 : Hid (∀ W, Below wr.heap.size wr W → CIn W (.slice A6 no c6) ol.length 1 (ol.map .string)) := Lib.hid fun W hW => by rw [hno]; exact (CIn.of_own HSR.out.2.1 (one_strs _)).later hW
   rw [← hnn]
   rw [← hno]
   have HNNL := Lib.hid hnn; have HNOL := Lib.hid hno
   have kck : ((clk : Int) != (clk : Int)) = false := by rw [bne, beq_self_eq_true]; rfl
   clear hyl hnl hol hnn hno hclk hlt
   go_upto_region 12 with fail
   obtain ⟨w1, hw1⟩ : ∃ u, u = wr.drew := ⟨_, rfl⟩
   have HB1 : Hid (Below wr.heap.size wr w1) := Lib.hid (by rw [hw1]; exact below_drew (Below.refl _ _))
   have HW1 : Hid (Below W0.heap.size W0 w1) := Lib.hid (HB.out.trans (HB1.out.mono HB.out.size))
   refine wp_region_noPanic ?_
   refine wp_region_held_drew (S := (fun W : World => W.cell? ⟨w.heap.size, 0, none⟩ = some (.slice AA nA cA) ∧ W.cell? ⟨w.heap.size, 1, none⟩ = some (.slice AF j cF))) (by kernel_rfl) ?_ (fun hHeld1 => ?_)
   ·rw [← hw1]; exact KS.out _ HW1.out
   rw [← hw1] at hHeld1
   rw [← hw1]
   clear hw1
   refine tk 0 rfl ?_
   try simp only [ap]
   refine tk 2 rfl ?_
   try simp only [ap]
   refine rd1 1 rfl fun K hK => ?_
   go_simp
   (with_reducible refine (HNM.out _ HW1.out).mono ?_)
   rintro r w2 ⟨An, cn, rfl, hcn, hb2⟩
   have HB2 : Hid (Below wr.heap.size wr w2) := Lib.hid (HB1.out.trans (hb2.mono HB1.out.size))
   have HW2 : Hid (Below W0.heap.size W0 w2) := Lib.hid (HB.out.trans (HB2.out.mono HB.out.size))
   have HCN := Lib.hid hcn
   clear hcn hb2
   go_wp2_with fail
   refine hK.out _ _ (KS.out _ HW2.out) (fun hHeld2 => ?_)
   clear hK K hHeld1
   try simp only [ap]
   refine rd1 3 rfl fun K hK => ?_
   go_simp
   (with_reducible refine (sequal_any nl _ _ w2 HCN.out (HC5.out _ HB2.out)).mono ?_)
   rintro r w3 ⟨rfl, hb3⟩
   have HB3 : Hid (Below wr.heap.size wr w3) := Lib.hid (HB2.out.trans (hb3.mono HB2.out.size))
   have HW3 : Hid (Below W0.heap.size W0 w3) := Lib.hid (HB.out.trans (HB3.out.mono HB.out.size))
   clear hb3
   go_wp2_with fail
   refine hK.out _ _ (KS.out _ HW3.out) (fun hHeld3 => ?_)
   clear hK K hHeld2
   try simp only [ap]
   refine tk 4 rfl ?_
   try simp only [ap]
   refine tk 5 rfl ?_
   try simp only [ap]
   refine tk 6 rfl ?_
   try simp only [ap]
   refine tk 8 rfl ?_
   try simp only [ap]
   refine rd1 7 rfl fun K hK => ?_
   go_simp
   (with_reducible refine (HOM.out _ HW3.out).mono ?_)
   rintro r w4 ⟨Ao, co, rfl, hco, hb4⟩
   have HB4 : Hid (Below wr.heap.size wr w4) := Lib.hid (HB3.out.trans (hb4.mono HB3.out.size))
   have HW4 : Hid (Below W0.heap.size W0 w4) := Lib.hid (HB.out.trans (HB4.out.mono HB.out.size))
   have HCO := Lib.hid hco
   clear hco hb4
   go_wp2_with fail
   refine hK.out _ _ (KS.out _ HW4.out) (fun hHeld4 => ?_)
   clear hK K hHeld3
   try simp only [ap]
   refine rd1 9 rfl fun K hK => ?_
   go_simp
   (with_reducible refine (sequal_any ol _ _ w4 HCO.out (HC6.out _ HB4.out)).mono ?_)
   rintro r w5 ⟨rfl, hb5⟩
   have HB5 : Hid (Below wr.heap.size wr w5) := Lib.hid (HB4.out.trans (hb5.mono HB4.out.size))
   have HW5 : Hid (Below W0.heap.size W0 w5) := Lib.hid (HB.out.trans (HB5.out.mono HB.out.size))
   clear hb5
   go_wp2_with fail
   refine hK.out _ _ (KS.out _ HW5.out) (fun hHeld5 => ?_)
   clear hK K hHeld4
   try simp only [ap]
   refine tk 10 rfl ?_
   try simp only [ap]
   refine tk 11 rfl ?_
   try simp only [ap]
   refine tk 12 rfl ?_
   try simp only [ap]
   refine tk 13 rfl ?_
   try simp only [ap]
   refine tk 15 rfl ?_
   try simp only [ap]
   refine rd1 14 rfl fun K hK => ?_
   go_simp
   (with_reducible refine (HCK.out _ HW5.out).mono ?_)
   rintro r w6 ⟨rfl, hw6⟩
   rw [hw6]
   clear hw6 w6
   go_wp2_with fail
   refine hK.out _ _ (KS.out _ HW5.out) (fun hHeld6 => ?_)
   clear hK K hHeld5
   try simp only [ap]
   refine rd1 16 rfl fun K hK => ?_
   go_simp
   (with_reducible refine (HRK.out _ HW5.out).mono ?_)
   rintro r w7 ⟨rfl, hb7⟩
   have HB7 : Hid (Below wr.heap.size wr w7) := Lib.hid (HB5.out.trans (hb7.mono HB5.out.size))
   have HW7 : Hid (Below W0.heap.size W0 w7) := Lib.hid (HB.out.trans (HB7.out.mono HB.out.size))
   clear hb7
   go_wp2_with fail
   refine hK.out _ _ (KS.out _ HW7.out) (fun hHeld7 => ?_)
   clear hK K hHeld6
   try simp only [ap]
   refine tk 17 rfl ?_
   try simp only [ap]
   refine tk 18 rfl ?_
   try simp only [ap]
   refine wpAnyH_done (by kernel_rfl) ?_ _
   refine NoPanic.normal ?_
   clear hHeld7
   go_wp2_with fail
   go_ret
   exact ⟨rfl, HBW.out _ HW7.out⟩
end Hi
end Go.Proofs.YtfmnacebgplpcaaGreat
namespace Go.Proofs.YtfmnacebgplpcaaGreat
namespace Hi
open _root_.Go.Proofs.YtfmnacebgplpcaaGreat.Nm (ret_int ret_bool)
open Vt (VT Rep below_drew)
open Ev (EV FieldsOk evCells vCells zeroT)
open Cm (rowOf EvsIn)
open Cn (BT BB BtsIn bvalid EvBytes efew FewB)
open Vf (eform ve_of)
variable {E Z : Nat → Prop} {u v w w' V V' : World} {xb : Nat} {x : XM}

theorem few_v2 {e : EV} (h : efew e = true) : e.v.few = true := by
 unfold efew at h
 simp only [Bool.and_eq_true] at h
 exact h.1.1
theorem eform_len2 {e : EV} (hv : e.valid = true) (hfew : e.v.few = true) : (eform e).length ≤ 30000 := by
 have V := ve_of hv
 have h1 := V.s1; have h2 := V.t1
 have h3 := Vf.form_len_few hfew
 unfold eform
 rw [Vf.sel6]
 have hs : ∀ s : ByteArray, s.size ≤ 1000 → (Pf.sform s).length ≤ 1011 := fun s h => by unfold Pf.sform; rw [List.length_append, Bt.sb_len]; have := Bt.ubytes_len 10 s.size; omega
 have hi : ∀ (b : Bool) (l : List Nat) (n : Nat), l.length ≤ n → (if b = true then l else []).length ≤ n := fun b l n h => by split <;> simp [h]
 have a0 := hi (Vf.hasF e 0) _ _ (Bt.ubytes_len 10 e.id); have a1 := hi (Vf.hasF e 1) _ _ (Bt.ubytes_len 10 e.n.toNat); have a2 := hi (Vf.hasF e 2) _ _ (Bt.ubytes_len 10 e.at')
 have a3 := hi (Vf.hasF e 3) _ _ (hs _ h1); have a4 := hi (Vf.hasF e 4) _ _ (hs _ h2); have a5 := hi (Vf.hasF e 5) _ _ h3
 have a6 := Bt.ubytes_len 10 e.k.toNat
 simp only [List.length_append, List.length_singleton]
 omega
theorem flat_le2 {es : List EV} {M : Nat} (h : ∀ e ∈ es, (eform e).length ≤ M) : ((es.map eform).flatten).length ≤ es.length * M := by
 induction es with
 | nil => simp
 | cons x l ih =>
  have h1 := h x (List.mem_cons_self ..)
  have h2 := ih fun e he => h e (List.mem_cons_of_mem _ he)
  simp only [List.map_cons, List.flatten_cons, List.length_append, List.length_cons, Nat.succ_mul]
  omega
theorem forms_of {b : BT} (hl : b.es.length ≤ 2097152) (hF : ∀ k (hk : k < b.es.length), efew b.es[k] = true) (hv : bvalid b.flow b.at' b.es = true) : EvBytes b.es (b.es.map eform) ∧ (b.es.map eform).flatten.length ≤ 17592186044416 ∧ b.es.length ≤ 1099511627775 := by
 have hall : ∀ e ∈ b.es, e.valid = true := by
  unfold bvalid at hv
  simp only [Bool.and_eq_true, Bool.not_eq_true', List.any_eq_false] at hv
  intro e he
  have := hv.2 e he
  unfold Cn.wrongE at this
  simpa using this
 have hfew : ∀ e ∈ b.es, e.v.few = true := fun e he => by
  obtain ⟨i, hi, rfl⟩ := List.getElem_of_mem he
  exact few_v2 (hF i hi)
 refine ⟨⟨by simp, fun i h h' lo hi vk vn vf vs A m c w hf hr hz => ?_⟩, ?_, by omega⟩
 ·rw [List.getElem_map]
  exact Vf.ebytes_any b.es[i] (hall _ (List.getElem_mem h)) hf (hfew _ (List.getElem_mem h)) lo hi vk vn vf vs A m c w hr hz
 ·have := flat_le2 (es := b.es) (M := 30000) fun e he => eform_len2 (hall e he) (hfew e he)
  omega

def bI : BT := ⟨⟨#[119]⟩, 0, [eA]⟩
theorem bI_valid : bvalid bI.flow bI.at' bI.es = true := by
 unfold bvalid
 simp [bI, Cn.wrongE, eA_valid]
 try decide
theorem bI_addM : addM (HM.new ⟨#[119]⟩) bI = (0, ⟨⟨#[119]⟩, [bI], ⟨[], [], [], 1, 0⟩⟩) := by
 rw [addM_run (by unfold bOk; simp [bI, eA_valid]) rfl rfl (by simp [bI, HM.at', HM.new, kind1, eA])]
 rfl
theorem bI_add : addX XM.new bI = (0, ⟨[⟨⟨#[119]⟩, [bI], ⟨[], [], [], 1, 0⟩⟩], [bI]⟩) := by
 unfold addX
 rw [if_neg (by rw [bI_valid]; decide), if_neg (by simp [XM.clock, XM.new, clockL])]
 have e : histX XM.new bI.flow = HM.new ⟨#[119]⟩ := rfl
 rw [e, bI_addM]
 rfl
theorem bI_few : ∀ k (hk : k < bI.es.length), efew bI.es[k] = true := fun k hk => by
 obtain rfl : k = 0 := by have : bI.es.length = 1 := rfl; omega
 show efew eA = true
 unfold efew eA
 simp only [VT.few, zeroT, Vt.weight_mk, Vt.small_mk, Vt.weightL]
 decide
def iCells : Array Value := #[.int .i64 1, .int .u64 0, .int .i64 0, .int .u64 0, .string ⟨#[112]⟩, .string ⟨#[]⟩, .int .i64 0, .int .i64 0, .float .f64 0, .string ⟨#[]⟩, .slice none 0 0]
theorem ia_in (w : World) (g : Nat) (h : w.heap[g]? = some (.cells iCells 71 (0, 0))) : EvsIn w (some ⟨g, 0, none⟩) 1 [eA] :=
 ⟨by simp, by simp only [maxLen]; omega, fun _ => ⟨g, 0, rfl, (Array.getElem?_eq_some_iff.1 h).1, fun i hi => by
  have hr : Rep w 0 0 zeroT (vCells 0 0 0 ⟨#[]⟩ none 0 0) := Rep.leaf ⟨by omega, by omega, by omega, by omega, by omega, by decide, by decide⟩
  obtain rfl : i = 0 := by simp at hi; omega
  refine ⟨0, 0, 0, 0, 0, ⟨#[]⟩, none, 0, 0, eA_fields, hr, Nat.zero_le _, fun q hq => ?_⟩
  rcases (by omega : q = 0 ∨ q = 1 ∨ q = 2 ∨ q = 3 ∨ q = 4 ∨ q = 5 ∨ q = 6 ∨ q = 7 ∨ q = 8 ∨ q = 9 ∨ q = 10) with rfl | rfl | rfl | rfl | rfl | rfl | rfl | rfl | rfl | rfl | rfl <;> (simp only [World.cell?, h]; rfl)⟩⟩
theorem bI_bin : BIn bI := ⟨by decide, fun i hi => by
 obtain rfl : i = 0 := by have : bI.es.length = 1 := rfl; omega
 exact zero_slim⟩
set_option maxRecDepth 100000 in
set_option maxHeartbeats 2000000 in
theorem xalive_any (w : World) : Calls Tryz.prog 10 #[] w fun r w' => r = .returned (.bool true) ∧ Below w.heap.size w w' := by
 go_enter Tryz.func10, Tryz.ntmps10
 go_wp2_with fail
 refine (xnew_any w (fun _ => False) (fun _ h => h.elim)).mono ?_
 rintro r w1 ⟨xb, Z, rfl, hb1, H, hZ⟩
 obtain ⟨W2, hW2⟩ : ∃ W2, W2 = w1.alloc (.cells iCells 71) := ⟨_, rfl⟩
 have hz2 : W2.heap.size = w1.heap.size + 1 := by rw [hW2]; simp
 have hb12 : Below w1.heap.size w1 W2 := by rw [hW2]; exact (Below.refl _ _).alloc (Nat.le_refl _) _
 have hev : EvsIn (veil Z W2) (some ⟨w1.heap.size, 0, none⟩) 1 bI.es := ia_in _ _ (by
  rw [veil_off (fun q => by have := H.zlt q; omega), hW2]
  exact heap_alloc_new w1 _)
 have HC := Lib.hid (xadd_any (H.later hb12) xgood_new bI _ 1 hev bI_bin (by decide) (by decide) (by decide) (by decide) (by decide) (fun hv => forms_of (by decide) bI_few hv))
 rw [show bI.es.length = 1 from rfl, show bI.flow = ⟨#[119]⟩ from rfl, show bI.at' = 0 from rfl] at HC
 have HB1 := Lib.hid hb1; have HB12 := Lib.hid hb12; have HZ := Lib.hid hZ
 unfold iCells at hW2
 clear hev hb12 hz2 hb1 H hZ
 replace hW2 := Lib.hid hW2
 go_wp2_with fail
 rw [← hW2.out]
 refine HC.out.mono ?_
 rintro r w3 ⟨rfl, hchg, -, Z3, H3, hZ3⟩
 rw [bI_add] at H3
 rw [bI_add]
 have HB3 : Hid (Below w.heap.size w w3) := Lib.hid (by
  have hb2 := HB1.out.trans (HB12.out.mono HB1.out.size)
  refine hb2.trans (hchg.below hb2.size fun c hc => ?_)
  rcases HZ.out c hc with e | e
  ·exact e.elim
  ·exact e)
 have HN := Lib.hid (xnames_any H3 (List.pairwise_singleton ..) (fun h hh => by simp at hh; rw [hh]; decide) (by decide))
 have H3' := Lib.hid H3
 clear H3 hchg hZ3 HC
 go_wp2_with fail
 refine HN.out.mono ?_
 rintro r w4 ⟨A, c, rfl, hcn, hb4⟩
 obtain ⟨A', c', e1, hle, hcm, hrd⟩ := CIn.strs (l := [⟨#[119]⟩]) hcn
 obtain ⟨rfl, rfl⟩ : A = A' ∧ c = c' := by injection e1 with a1 a2 a3; exact ⟨a1, a3⟩
 obtain ⟨b, off, rfl, hbl, hq⟩ := hrd (by decide)
 have c0 : w4.cell? ⟨b, off, none⟩ = some (.string ⟨#[119]⟩) := hq 0 (by decide)
 have HF := Lib.hid (xflow_any (H3'.out.later hb4) ⟨#[119]⟩ (by decide))
 have HB4 : Hid (Below w.heap.size w w4) := Lib.hid (HB3.out.trans (hb4.mono HB3.out.size))
 clear hcn hb4 hrd hq e1 HN
 go_wp2_with fail
 refine HF.out.mono ?_
 rintro r w5 ⟨hw5, hcase⟩
 rw [hw5]
 clear hw5 w5
 obtain ⟨qb, rfl⟩ : ∃ qb, r = .returned (.pointer (some ⟨qb, 0, none⟩)) := by
  rcases hcase with ⟨hn, -⟩ | ⟨i', h', p, Y, hf, hh, e, hat, -⟩
  ·exact absurd hn (by decide)
  ·exact ⟨_, e⟩
 clear hcase HF
 go_wp2_with fail
 go_ret
 exact ⟨rfl, HB4.out⟩
end Hi
end Go.Proofs.YtfmnacebgplpcaaGreat

namespace Go.Proofs.YtfmnacebgplpcaaGreat
namespace Hi
open _root_.Go.Proofs.YtfmnacebgplpcaaGreat.Nm (ret_int ret_bool)
open Vt (VT Rep below_drew)
open Ev (EV FieldsOk evCells vCells take_drop tk ap rd1 rd2 cons_drop)
open Cm (rowOf EvsIn)
open Cn (BT BB BtsIn bvalid few12_any efew FewB)
variable {E E' Z : Nat → Prop} {u v w w' w0 V V' : World} {xb : Nat} {x : XM}

def Forms (bl : List BT) : Prop := ∀ i (h : i < bl.length), bvalid bl[i].flow bl[i].at' bl[i].es = true → Cn.EvBytes bl[i].es (bl[i].es.map Vf.eform) ∧ (bl[i].es.map Vf.eform).flatten.length ≤ 17592186044416 ∧ bl[i].es.length ≤ 1099511627775
theorem forms_few {bl : List BT} (hf : FewB bl) (hl : ∀ b ∈ bl, b.es.length ≤ 2097152) : Forms bl := fun i hi hv => forms_of (hl _ (List.getElem_mem hi)) (fun k hk => hf.few i hi k hk) hv
theorem XAt.step (H : XAt E w xb Z x) (hb : Below w.heap.size w w') (h1 : ∀ c, E' c → E c ∨ w.heap.size ≤ c) (h2 : ∀ c, E' c → c < w'.heap.size) : ∃ Z', XAt E' w' xb Z' x ∧ ∀ c, Z' c → Z c ∨ w.heap.size ≤ c := by
 obtain ⟨mb, nm, N, cN, R, cR, ps, rfl, H⟩ := H
 refine ⟨_, ⟨mb, nm, N, cN, R, cR, ps, rfl, H.step (Chg.of_below hb) h1 h2⟩, fun c q => ?_⟩
 refine zs_step (B := XB E xb mb N R) (fun c q => ?_) q
 rcases q with q | q
 ·exact (h1 c q).imp .inl id
 ·exact .inl (.inr q)
structure LX (w0 : World) (g : Nat) (w : World) (xb : Nat) (x : XM) : Prop where
 ex : ∃ Z uA uF, XAt (fun c => c = g) w xb Z x ∧ (∀ c, Z c → w0.heap.size ≤ c) ∧ Below w0.heap.size w0 w ∧ IBox w g uA uF ∧ RIx (veil Z w) x uA uF
theorem LX.later {g : Nat} (k : LX w0 g w xb x) (hw : Below w.heap.size w w') : LX w0 g w' xb x := by
 obtain ⟨Z, uA, uF, h1, h2, h3, h4, h5⟩ := k.ex
 exact ⟨Z, uA, uF, h1.later hw, h2, h3.trans (hw.mono h3.size), h4.later hw h4.lt, h5.leads (veil_below _ hw)⟩
theorem lx_new (H : XAt (fun _ => False) w xb Z XM.new) (hZ : ∀ c, Z c → w0.heap.size ≤ c) (hb : Below w0.heap.size w0 w) {g : Nat} (hg : g = w.heap.size) : LX w0 g (w.alloc (.cells #[.slice none 0 0, .slice none 0 0] 29)) xb XM.new := by
 have hb1 : Below w.heap.size w (w.alloc (.cells #[.slice none 0 0, .slice none 0 0] 29)) := (Below.refl _ _).alloc (Nat.le_refl _) _
 obtain ⟨Z', H', h'⟩ := H.step (E' := fun c => c = g) hb1 (fun c q => .inr (by have q : c = g := q; omega)) (fun c q => by have q : c = g := q; rw [q, hg]; simp)
 refine ⟨Z', _, _, H', fun c q => ?_, hb.trans (hb1.mono hb.size), ?_, rix_new _⟩
 ·rcases h' c q with e | e
  ·exact hZ c e
  ·exact Nat.le_trans hb.size e
 ·rw [hg]; exact heap_alloc_new w _
theorem LX.radd {g : Nat} {uA uF : Value} (H : XAt (fun c => c = g) w xb Z x) (hr : RIx (veil Z w) x uA uF) {bl : List BT} (hl : LIn bl) {j : Nat} (hj : j < bl.length) (hx : x = repX (bl.take j)) {b : BT} (hbj : b = bl[j]'hj) (A2 : Option Addr) (c2 : Nat) (hev : EvsIn (veil Z w) A2 c2 b.es) (hfl : b.flow.size ≤ maxLen) (hat : b.at' < 18446744073709551616) :
  Calls Tryz.prog 12 #[.agg #[uA, uF], .agg #[.string b.flow, .int .u64 (b.at' : Nat), .slice A2 b.es.length c2]] w (RXAdd Z x b w) := by
 subst hbj
 exact rxadd_any x uA uF bl[j] A2 c2 w (fun c q => H.zlt q) hr (T := tot (bl.take j)) (N := j) (by rw [hx]; exact xgood_rep hl j (by omega)) (by have := hl.take j hj; omega) (by have := hl.len; omega) (hl.bin j hj) hev hfl hat
theorem clkX_lt {bl : List BT} (hat : ∀ i (h : i < bl.length), bl[i].at' < 18446744073709551616) (j : Nat) (hj : j ≤ bl.length) : (repX (bl.take j)).clock < 18446744073709551616 := by
 induction j with
 | zero => rw [List.take_zero]; decide
 | succ n ih =>
  rw [repX_take bl n (by omega)]
  by_cases hc : (addX (repX (bl.take n)) bl[n]).1 = 0
  ·rw [clock_of hc]; exact hat n (by omega)
  ·rw [addX_bad hc]; exact ih (by omega)
theorem LX.fits {g : Nat} (H : XAt (fun c => c = g) w xb Z x) {bl : List BT} (hl : LIn bl) {j : Nat} (hj : j < bl.length) (hx : x = repX (bl.take j)) {b : BT} (hbj : b = bl[j]'hj) (A2 : Option Addr) (c2 : Nat) (hev : EvsIn (veil Z w) A2 c2 b.es) (hfl : b.flow.size ≤ maxLen) (hat : b.at' < 18446744073709551616) (hclk : x.clock < 18446744073709551616) :
  Calls Tryz.prog 16 #[.pointer (some ⟨xb, 0, none⟩), .agg #[.string b.flow, .int .u64 (b.at' : Nat), .slice A2 b.es.length c2]] w fun r w' => r = .returned (.int .i64 (addX x b).1) ∧ Below w.heap.size w w' := by
 subst hbj
 exact xfits_any H (T := tot (bl.take j)) (NN := j) (by rw [hx]; exact xgood_rep hl j (by omega)) bl[j] A2 c2 hev (hl.bin j hj) (by have := hl.take j hj; omega) hfl hat hclk
theorem LX.add {g : Nat} (H : XAt (fun c => c = g) w xb Z x) {bl : List BT} (hl : LIn bl) (hfo : Forms bl) {j : Nat} (hj : j < bl.length) (hx : x = repX (bl.take j)) {b : BT} (hbj : b = bl[j]'hj) (A2 : Option Addr) (c2 : Nat) (hev : EvsIn (veil Z w) A2 c2 b.es) (hfl : b.flow.size ≤ maxLen) (hat : b.at' < 18446744073709551616) (hclk : x.clock < 18446744073709551616) :
  Calls Tryz.prog 11 #[.pointer (some ⟨xb, 0, none⟩), .agg #[.string b.flow, .int .u64 (b.at' : Nat), .slice A2 b.es.length c2]] w (XAdd (fun c => c = g) w xb Z x b) := by
 subst hbj
 exact xadd_any H (T := tot (bl.take j)) (NN := j) (by rw [hx]; exact xgood_rep hl j (by omega)) bl[j] A2 c2 hev (hl.bin j hj) (by have := hl.take j hj; omega) (by have := hl.len; omega) hfl hat hclk (hfo j hj)
theorem lx_bts {B : Option Addr} {bc : Nat} {bl : List BT} (hB : BtsIn w0 B bc bl) (hb : Below w0.heap.size w0 w) (hZ : ∀ c, Z c → w0.heap.size ≤ c) : BtsIn (veil Z w) B bc bl := BtsIn.leads hB (leads_from hb hZ)
theorem bts_lt {B : Option Addr} {bc : Nat} {bl : List BT} (hB : BtsIn w B bc bl) : ∀ i (h : i < bl.length), bl[i].at' < 18446744073709551616 := fun i h => by
 obtain ⟨b, off, -, -, h3⟩ := hB.at_ (by omega)
 obtain ⟨A2, c2, -, hat, -⟩ := h3 i h
 exact hat
theorem set2_chg {g : Nat} (a b : Value) : Chg (fun c => c = g) w ((w.setCell ⟨g, 0, none⟩ a).setCell ⟨g, 1, none⟩ b) := (Chg.setCell (X := fun c => c = g) (p := ⟨g, 0, none⟩) rfl a).trans (Chg.setCell (X := fun c => c = g) (p := ⟨g, 1, none⟩) rfl b)
theorem IBox.set2 {g : Nat} {a b a' b' : Value} (h : IBox w g a b) : IBox ((w.setCell ⟨g, 0, none⟩ a').setCell ⟨g, 1, none⟩ b') g a' b' := by
 unfold IBox at *; simp [World.setCell, Array.getElem?_modify, h]
end Hi
end Go.Proofs.YtfmnacebgplpcaaGreat
namespace Go.Proofs.YtfmnacebgplpcaaGreat
namespace Hi
open _root_.Go.Proofs.YtfmnacebgplpcaaGreat.Nm (ret_int ret_bool)
open Vt (VT Rep below_drew)
open Ev (EV FieldsOk evCells vCells take_drop tk ap rd1 rd2 cons_drop)
open Cm (rowOf EvsIn)
open Cn (BT BB BtsIn bvalid few12_any efew FewB)
variable {w w' w0 : World} {xb : Nat} {x : XM}

theorem M39 {p : Prop} (h : p := by
 refine rd1 15 rfl fun K hK => ?_
 go_simp
 (with_reducible refine HFI7.out.mono ?_)
 rintro r w8 ⟨rfl, hb8⟩
 have HK8 : Hid (w8.heap[g8]? = u0.heap[g8]? ∧ w8.heap[g4]? = u0.heap[g4]?) := Lib.hid ⟨(hb8.block g8 (by have q := (show BB w6 g8 ff at' A2 en c2 from HK6.out.1.trans HB86.out).lt; exact q)).trans HK6.out.1, (hb8.block g4 HBX7.out.lt).trans HK6.out.2⟩
 have HREL : Hid (LX w0 g4 w8 xb (repX (bl.take (j + 1)))) := Lib.hid (by
  rw [HNEXT.out]
  exact LX.later ⟨Z7, _, _, HX7'.out, HZ7.out, HBW7.out, HBX7.out, HRI7.out⟩ hb8)
 clear hb8
 go_wp2_with fail
 refine hK.out _ _ (KS.out _ HK8.out.1 HK8.out.2) (fun hHeld4 => ?_)
 clear hK K hHeld3
 try simp only [ap]
 refine tk 16 rfl ?_
 try simp only [ap]
 refine tk 17 rfl ?_
 try simp only [ap]
 refine tk 18 rfl ?_
 try simp only [ap]
 refine wpAnyH_done (by kernel_rfl) ?_ _
 refine NoPanic.normal ?_
 clear hHeld4
 go_wp2_with fail
 go_roundw
 case rel => exact ⟨j + 1, by omega, by go_num, HREL.out⟩
 case measure => simp [intOf]; omega) : p := h
set_option maxRecDepth 100000 in
set_option maxHeartbeats 4000000 in
theorem iadds_walk (bl : List BT) (B : Option Addr) (bc : Nat) (w0 : World) (hB : BtsIn w0 B bc bl) (hlen : ∀ b ∈ bl, b.es.length ≤ 2097152) :
  Calls Tryz.prog 5 #[.slice B bl.length bc] w0 fun r w' => r = .returned (.bool true) ∧ Below w0.heap.size w0 w' := by
 have hle := hB.le; have hbc := hB.cap_le
 simp only [maxLen] at hbc
 have HBT := Lib.hid hB; have HLEN := Lib.hid hlen
 clear hB hlen
 obtain ⟨m, hm⟩ : ∃ m, m = bl.length := ⟨_, rfl⟩
 rw [← hm] at hle ⊢
 have HMM := Lib.hid hm; clear hm
 have HAL := Lib.hid fun W => xalive_any W
 go_enter Tryz.func5, Tryz.ntmps5
 go_wp2_with fail
 refine (xnew_any w0 (fun _ => False) (fun _ h => h.elim)).mono ?_
 rintro r w1 ⟨xb, Z0, rfl, hb1, H1, hZ1⟩
 have HB1 := Lib.hid hb1; have HH1 := Lib.hid H1; have HZ1 : Hid (∀ c, Z0 c → w0.heap.size ≤ c) := Lib.hid fun c q => (hZ1 c q).elim (fun e => e.elim) id
 have HFC := Lib.hid (show Calls _ _ _ _ _ from by have q := few12_any bl B bc w1 (HBT.out.later HB1.out); rw [← HMM.out] at q; exact q)
 clear hb1 H1 hZ1
 go_wp2_with fail
 refine HFC.out.mono ?_
 rintro r w2 ⟨bb, rfl, hfew, hb2⟩
 have HB2 := Lib.hid (HB1.out.trans (hb2.mono HB1.out.size)); have HFEW := Lib.hid hfew
 have HH2 := Lib.hid (HH1.out.later hb2)
 clear hb2 hfew HFC HH1
 cases bb with
 | false =>
  go_wp2_with fail
  refine (HAL.out _).mono ?_
  rintro r w3 ⟨rfl, hb3⟩
  have HB3 := Lib.hid (HB2.out.trans (hb3.mono HB2.out.size))
  clear hb3
  go_wp2_with fail
  go_ret
  exact ⟨rfl, HB3.out⟩
 | true =>
 have HLI := Lib.hid (lin_of (HFEW.out rfl) fun b hb => by have := HLEN.out b hb; omega)
 have HFO := Lib.hid (forms_few (HFEW.out rfl) HLEN.out)
 obtain ⟨W3, hW3⟩ : ∃ W3, W3 = w2.alloc (.cells #[.slice none 0 0, .slice none 0 0] 29) := ⟨_, rfl⟩
 obtain ⟨g4, hg4⟩ : ∃ g, g = w2.heap.size := ⟨_, rfl⟩
 have HL0 : Hid (LX w0 g4 W3 xb (repX (bl.take 0))) := Lib.hid (by rw [List.take_zero, hW3]; exact lx_new HH2.out HZ1.out HB2.out hg4)
 have HG4 := Lib.hid hg4
 clear hg4 HH2
 replace hW3 := Lib.hid hW3
 go_wp2_with fail
 rw [← hW3.out, ← HG4.out]
 clear HG4 hW3 HB2 HFEW HB1
 go_loopw [26] (fun i wz => ∃ j : Nat, j ≤ m ∧ i = .int .i64 j ∧ LX w0 g4 wz xb (repX (bl.take j))) (fun i _ => m - (intOf i).toNat)
 case atStart => exact ⟨0, by omega, rfl, HL0.out⟩
 case round =>
  obtain ⟨j, hj, rfl, hlx⟩ := hrel
  clear HL0
  by_cases hjm : j < m
  rotate_left
  ·have hj' : j = m := by omega
   subst hj'
   rw [show bl.take j = bl by rw [HMM.out]; exact List.take_length] at hlx
   go_wp2_with fail
   refine (HAL.out _).mono ?_
   rintro r w5 ⟨rfl, hb5⟩
   obtain ⟨Z, uA, uF, HX5, hZ5, hbw5, hbox5, hri5⟩ := (hlx.later hb5).ex
   obtain ⟨⟨AA, cA, rfl, -, -⟩, AF, cF, rfl, -, -⟩ := hri5.slices
   have hgood := xgood_rep HLI.out bl.length (Nat.le_refl _)
   rw [List.take_length] at hgood
   have HC := Lib.hid (xsame_any HX5 hgood (by have := HLI.out.tot; omega) (by have := HLI.out.len; omega) _ (XSame.refl _) _ _ (hri5.leads (leads_veil _ _)))
   obtain ⟨x0, x1, -⟩ := hbox5.cells
   have HB5 := Lib.hid hbw5
   clear hb5 hlx HX5 hZ5 hbw5 hbox5 hri5 hgood
   go_wp2_with fail
   refine HC.out.mono ?_
   rintro r w6 ⟨rfl, hb6⟩
   have HB6 := Lib.hid (HB5.out.trans (hb6.mono HB5.out.size))
   clear hb6 HC x0 x1
   go_wp2_with fail
   go_ret
   exact ⟨rfl, HB6.out⟩
  have hjl : j < bl.length := by have := HMM.out; omega
  obtain ⟨Z, uA, uF, HX0, hZ, hbw, hbox, hri⟩ := hlx.ex
  have hbts := lx_bts HBT.out hbw hZ
  obtain ⟨⟨AA, cA, rfl, -, -⟩, AF, cF, rfl, -, -⟩ := hri.slices
  obtain ⟨b0, off, rfl, hblt, h3⟩ := hbts.at_ (by omega)
  obtain ⟨A2, c2, hfl, hat, hes, d0, d1, d2⟩ := h3 j hjl
  replace d0 := (leads_veil _ _).cell d0; replace d1 := (leads_veil _ _).cell d1; replace d2 := (leads_veil _ _).cell d2
  have HNEXT : Hid (repX (bl.take (j + 1)) = (addX (repX (bl.take j)) bl[j]).2) := Lib.hid (repX_take bl j hjl)
  obtain ⟨b, hbj⟩ : ∃ b, b = bl[j] := ⟨_, rfl⟩
  rw [← hbj] at hfl hat hes d0 d1 d2 HNEXT
  obtain ⟨x, hx⟩ : ∃ x, x = repX (bl.take j) := ⟨_, rfl⟩
  rw [← hx] at HNEXT
  rw [← hx] at HX0 hri hbox
  have hclk : x.clock < 18446744073709551616 := by rw [hx]; exact clkX_lt (bts_lt HBT.out) j (by omega)
  obtain ⟨W1, hW1⟩ : ∃ W1, W1 = wr.alloc (.cells #[.string b.flow, .int .u64 (b.at' : Nat), .slice A2 b.es.length c2] 33) := ⟨_, rfl⟩
  have hb01 : Below wr.heap.size wr W1 := by rw [hW1]; exact (Below.refl _ _).alloc (Nat.le_refl _) _
  obtain ⟨g8, hg8⟩ : ∃ g, g = wr.heap.size := ⟨_, rfl⟩
  have hz1 : W1.heap.size = wr.heap.size + 1 := by rw [hW1]; simp
  have hb8 : BB W1 g8 b.flow b.at' A2 b.es.length c2 := by rw [hW1, hg8]; exact heap_alloc_new wr _
  have HX1 := HX0.later hb01
  have hri1 := hri.leads (veil_below _ hb01)
  have hes1 := EvsIn.leads hes (veil_below _ hb01)
  have hbox1 := hbox.later hb01 hbox.lt
  have HC1 := Lib.hid (LX.radd HX1 hri1 HLI.out hjl hx hbj A2 c2 hes1 hfl hat)
  have HXA := Lib.hid HX1; have HES := Lib.hid hes1; have HX := Lib.hid hx; have HFL := Lib.hid hfl; have HATB := Lib.hid hat; have HCLK := Lib.hid hclk; have HZ := Lib.hid hZ; have HJL := Lib.hid hjl; have HBJ := Lib.hid hbj
  have HBOX1 := Lib.hid hbox1; have HB8 := Lib.hid hb8
  have HBW1 : Hid (Below w0.heap.size w0 W1) := Lib.hid (hbw.trans (hb01.mono hbw.size))
  have HG8 : Hid (g8 < W1.heap.size ∧ ¬ Z g8 ∧ g8 ≠ g4) := Lib.hid ⟨by omega, fun q => by have := HX0.zlt q; omega, fun q => by have := hbox.lt; omega⟩
  have HW1 := Lib.hid hW1; have HGG8 := Lib.hid hg8
  obtain ⟨x0, x1, -⟩ := hbox1.cells
  obtain ⟨y0, y1, y2, -⟩ := hb8.cells
  clear hbj hbts h3 hes hes1 hfl hat hclk hx hlx hri hri1 hbox hbox1 hb8 hb01 hz1 hW1 hg8 HX0 HX1 hZ hbw hblt
  generalize hff : b.flow = ff at *
  generalize hatt : b.at' = at' at *
  generalize hen : b.es.length = en at *
  generalize hnA : x.all.length = nA at *
  generalize hnF : x.flows.length = nF at *
  have HFF := Lib.hid hff; have HATT := Lib.hid hatt; have HEN := Lib.hid hen
  clear hff hatt hen hnA hnF
  go_upto_region 8 with fail
  rw [← HW1.out, ← HGG8.out]
  go_wp2_with fail
  refine HC1.out.mono ?_
  rintro r w2 ⟨hb2, uA1, uF1, rfl, hr2⟩
  obtain ⟨⟨AA1, cA1, rfl, -, -⟩, AF1, cF1, rfl, -, -⟩ := hr2.slices
  obtain ⟨y, hy⟩ : ∃ y, y = (addX x b).2 := ⟨_, rfl⟩
  obtain ⟨cd, hcd⟩ : ∃ c, c = (addX x b).1 := ⟨_, rfl⟩
  rw [← hy] at hr2 HNEXT ⊢
  rw [← hcd]
  have HY := Lib.hid hy; have HCD := Lib.hid hcd
  clear d0 d1 d2
  obtain ⟨W3, hW3⟩ : ∃ W3, W3 = w2.alloc (.cells #[.slice AA1 y.all.length cA1, .slice AF1 y.flows.length cF1] 29) := ⟨_, rfl⟩
  obtain ⟨g9, hg9⟩ : ∃ g, g = w2.heap.size := ⟨_, rfl⟩
  have hb23 : Below w2.heap.size w2 W3 := by rw [hW3]; exact (Below.refl _ _).alloc (Nat.le_refl _) _
  have hb13 : Below W1.heap.size W1 W3 := hb2.trans (hb23.mono hb2.size)
  have hbox3 := HBOX1.out.later hb13 HBOX1.out.lt
  have hbox9 : IBox W3 g9 (.slice AA1 y.all.length cA1) (.slice AF1 y.flows.length cF1) := by rw [hW3, hg9]; exact heap_alloc_new w2 _
  have hb83 := HB8.out.later hb13 HG8.out.1
  generalize hnA1 : y.all.length = nA1 at *
  generalize hnF1 : y.flows.length = nF1 at *
  have HNA1 := Lib.hid hnA1; have HNF1 := Lib.hid hnF1
  obtain ⟨W4, hW4⟩ : ∃ W4, W4 = (W3.setCell ⟨g4, 0, none⟩ (.slice AA1 nA1 cA1)).setCell ⟨g4, 1, none⟩ (.slice AF1 nF1 cF1) := ⟨_, rfl⟩
  have hc4 : Chg (fun c => c = g4) W3 W4 := by rw [hW4]; exact set2_chg _ _
  have hbx4 : IBox W4 g4 (.slice AA1 nA1 cA1) (.slice AF1 nF1 cF1) := by rw [hW4]; exact hbox3.set2
  have HX4 := (HXA.out.later hb13).chg hc4
  have hz4 : Chg Z W3 W4 := hc4.mono fun c q => by have q : c = g4 := q; exact HX4.ez q
  have hri4 : RIx (veil Z W4) y (.slice AA1 nA1 cA1) (.slice AF1 nF1 cF1) := (hr2.leads (veil_below _ hb23)).leads hz4.leads
  have hes4 := EvsIn.leads (EvsIn.leads HES.out (veil_below _ hb13)) hz4.leads
  have hb84 : BB W4 g8 ff at' A2 en c2 := (hc4.block g8 (Nat.lt_of_lt_of_le HG8.out.1 hb13.size) HG8.out.2.2).trans hb83
  have HBW4 : Hid (Below w0.heap.size w0 W4) := Lib.hid (by
   have h := HBW1.out.trans (hb13.mono HBW1.out.size)
   exact h.trans (hz4.below h.size HZ.out))
  have HC2 := Lib.hid (LX.fits HX4 HLI.out HJL.out HX.out HBJ.out A2 c2 (by rw [HEN.out] at *; exact hes4) (by rw [HFF.out]; exact HFL.out) (by rw [HATT.out]; exact HATB.out) HCLK.out)
  rw [HFF.out, HATT.out, HEN.out, ← HCD.out] at HC2
  have HX4' := Lib.hid HX4; have HRI4 := Lib.hid hri4; have HES4 := Lib.hid hes4; have HBX4 := Lib.hid hbx4; have HB84 := Lib.hid hb84
  have HW3 := Lib.hid hW3; have HG9 := Lib.hid hg9; have HW4 := Lib.hid hW4
  have HS14 : Hid (W1.heap.size ≤ W4.heap.size) := Lib.hid (Nat.le_trans hb13.size hc4.size)
  obtain ⟨q0, q1, qf⟩ := hbox3.cells
  have qf0 := qf 0; have qf1 := qf 1
  obtain ⟨z0, z1, -⟩ := hbox9.cells
  clear x0 x1 y0 y1 y2 qf
  clear hb2 hb23 hb13 hr2 hbox3 hbox9 hb83 hW3 hg9 hW4 hc4 hbx4 HX4 hz4 hri4 hes4 hb84 hnA1 hnF1 hy hcd HC1
  go_upto_region 9 with fail
  rw [← HW3.out, ← HG9.out]
  go_upto_region 10 with fail
  rw [← HW4.out]
  clear q0 q1 qf0 qf1 z0 z1
  obtain ⟨y0, y1, y2, -⟩ := HB84.out.cells
  go_wp2_with fail
  refine HC2.out.mono ?_
  rintro r w5 ⟨rfl, hb5⟩
  have HX5 := Lib.hid (HX4'.out.later hb5); have HRI5 := Lib.hid (HRI4.out.leads (veil_below _ hb5)); have HBX5 := Lib.hid (HBX4.out.later hb5 HBX4.out.lt); have HB85 := Lib.hid (HB84.out.later hb5 HB84.out.lt)
  have HBW5 := Lib.hid (HBW4.out.trans (hb5.mono HBW4.out.size))
  have hes5 := EvsIn.leads HES4.out (veil_below _ hb5)
  have HS15 : Hid (W1.heap.size ≤ w5.heap.size) := Lib.hid (Nat.le_trans HS14.out hb5.size)
  clear hb5 HC2 HX4' HRI4 HBX4 HB84 HES4 HS14 y0 y1 y2
  obtain ⟨u0, hu0⟩ : ∃ u, u = w5.drew := ⟨_, rfl⟩
  have hbu : Below w5.heap.size w5 u0 := by rw [hu0]; exact below_drew (Below.refl _ _)
  have HX6 := Lib.hid (HX5.out.later hbu); have HRI6 := Lib.hid (HRI5.out.leads (veil_below _ hbu)); have HBX6 := Lib.hid (HBX5.out.later hbu HBX5.out.lt); have HB86 := Lib.hid (HB85.out.later hbu HB85.out.lt)
  have HBW6 := Lib.hid (HBW5.out.trans (hbu.mono HBW5.out.size))
  have HC3 := Lib.hid (LX.add HX6.out HLI.out HFO.out HJL.out HX.out HBJ.out A2 c2 (by rw [HEN.out] at *; exact EvsIn.leads hes5 (veil_below _ hbu)) (by rw [HFF.out]; exact HFL.out) (by rw [HATT.out]; exact HATB.out) HCLK.out)
  rw [HFF.out, HATT.out, HEN.out] at HC3
  have kcd : (cd != cd) = false := by rw [bne, beq_self_eq_true]; rfl
  clear hes5 hbu HX5 HRI5 HBX5 HB85
  have KS : Hid (∀ W : World, W.heap[g8]? = u0.heap[g8]? → W.heap[g4]? = u0.heap[g4]? → (fun W : World => W.cell? ⟨g8, 0, none⟩ = some (.string ff) ∧ W.cell? ⟨g8, 1, none⟩ = some (.int .u64 (at' : Nat)) ∧ W.cell? ⟨g8, 2, none⟩ = some (.slice A2 en c2) ∧ W.cell? ⟨g4, 0, none⟩ = some (.slice AA1 nA1 cA1) ∧ W.cell? ⟨g4, 1, none⟩ = some (.slice AF1 nF1 cF1)) W) := Lib.hid fun W h8 h4 => by
   obtain ⟨a0, a1, a2, -⟩ := (show BB W g8 ff at' A2 en c2 from h8.trans HB86.out).cells
   obtain ⟨b0, b1, -⟩ := (show IBox W g4 (.slice AA1 nA1 cA1) (.slice AF1 nF1 cF1) from h4.trans HBX6.out).cells
   exact ⟨a0, a1, a2, b0, b1⟩
  go_upto_region 11 with fail
  refine wp_region_noPanic ?_
  refine wp_region_held_drew (S := (fun W : World => W.cell? ⟨g8, 0, none⟩ = some (.string ff) ∧ W.cell? ⟨g8, 1, none⟩ = some (.int .u64 (at' : Nat)) ∧ W.cell? ⟨g8, 2, none⟩ = some (.slice A2 en c2) ∧ W.cell? ⟨g4, 0, none⟩ = some (.slice AA1 nA1 cA1) ∧ W.cell? ⟨g4, 1, none⟩ = some (.slice AF1 nF1 cF1))) (by kernel_rfl) ?_ (fun hHeld1 => ?_)
  ·rw [← hu0]; exact KS.out _ rfl rfl
  rw [← hu0] at hHeld1
  rw [← hu0]
  clear hu0
  refine tk 0 rfl ?_
  try simp only [ap]
  refine tk 1 rfl ?_
  try simp only [ap]
  refine tk 2 rfl ?_
  try simp only [ap]
  refine tk 3 rfl ?_
  try simp only [ap]
  refine tk 4 rfl ?_
  try simp only [ap]
  refine tk 5 rfl ?_
  try simp only [ap]
  refine tk 7 rfl ?_
  try simp only [ap]
  refine rd1 6 rfl fun K hK => ?_
  go_simp
  (with_reducible refine HC3.out.mono ?_)
  rintro r w6 ⟨rfl, hchg, hke, Z7, HX7, hz7⟩
  have h8 : w6.heap[g8]? = u0.heap[g8]? := hchg.block g8 HB86.out.lt HG8.out.2.1
  have h4 : w6.heap[g4]? = u0.heap[g4]? := hke g4 rfl
  have HK6 := Lib.hid (And.intro h8 h4)
  rw [← HCD.out]
  have hri7 : RIx (veil Z7 w6) y (.slice AA1 nA1 cA1) (.slice AF1 nF1 cF1) := HRI6.out.leads (zone_leads hchg hz7)
  rw [← HY.out] at HX7
  have HBW7 : Hid (Below w0.heap.size w0 w6) := Lib.hid (HBW6.out.trans (hchg.below HBW6.out.size HZ.out))
  have HZ7 : Hid (∀ c, Z7 c → w0.heap.size ≤ c) := Lib.hid fun c q => (hz7 c q).elim (HZ.out c) (fun e => Nat.le_trans HBW6.out.size e)
  have HFL7 := Lib.hid (xflow_any HX7 ⟨#[110, 111, 110, 101, 32, 111, 102, 32, 116, 104, 101, 109]⟩ (by decide))
  have HFI7 := Lib.hid (rfind_any y _ _ ⟨#[110, 111, 110, 101, 32, 111, 102, 32, 116, 104, 101, 109]⟩ w6 (hri7.leads (leads_veil _ _)))
  have HX7' := Lib.hid HX7; have HRI7 := Lib.hid hri7; have HBX7 := Lib.hid (show IBox w6 g4 (.slice AA1 nA1 cA1) (.slice AF1 nF1 cF1) from h4.trans HBX6.out)
  clear HX7 hri7 hchg hke hz7 h8 h4 HC3
  go_wp2_with fail
  refine hK.out _ _ (KS.out _ HK6.out.1 HK6.out.2) (fun hHeld2 => ?_)
  clear hK K hHeld1
  try simp only [ap]
  refine tk 8 rfl ?_
  try simp only [ap]
  refine tk 9 rfl ?_
  try simp only [ap]
  refine tk 10 rfl ?_
  try simp only [ap]
  refine tk 11 rfl ?_
  try simp only [ap]
  refine tk 14 rfl ?_
  try simp only [ap]
  refine rd1 12 rfl fun K hK => ?_
  go_simp
  (with_reducible refine HFL7.out.mono ?_)
  rintro r w7 ⟨hw7, hcase⟩
  rw [hw7]
  clear hw7 w7
  obtain ⟨fi, hfi⟩ : ∃ fi, fi = findI y.flows ⟨#[110, 111, 110, 101, 32, 111, 102, 32, 116, 104, 101, 109]⟩ := ⟨_, rfl⟩
  rw [← hfi] at HFI7
  obtain ⟨pv, rfl, hpv⟩ : ∃ pv, r = .returned pv ∧ ((pv = .pointer none ∧ fi = -1) ∨ ∃ (qb i : Nat), pv = .pointer (some ⟨qb, 0, none⟩) ∧ fi = (i : Nat)) := by
   rcases hcase with ⟨hn, e⟩ | ⟨i', h', p, Y, hf, hh, e, -, -⟩
   ·exact ⟨_, e, .inl ⟨rfl, by rw [hfi]; unfold findI; rw [hn]⟩⟩
   ·exact ⟨_, e, .inr ⟨p.hb, i', rfl, by rw [hfi]; unfold findI; rw [hf]⟩⟩
  clear hcase hfi HFL7
  have HPV := Lib.hid hpv
  clear hpv
  go_wp2_with fail
  refine hK.out _ _ (KS.out _ HK6.out.1 HK6.out.2) (fun hHeld3 => ?_)
  clear hK K hHeld2
  try simp only [ap]
  rcases HPV.out with ⟨rfl, rfl⟩ | ⟨qb, i, rfl, rfl⟩
  ·first
    | (refine take_drop (i := 13) (v := ?_) rfl (by kernel_rfl) (by kernel_rfl) (by kernel_rfl) (fun _ _ _ h => h) (Or.inl ⟨by rfl, ?_⟩) (by assumption) ?_; rotate_left 1; (focus (intro w hSw; (try dsimp only at hSw); go_simp; try with_reducible rfl)); try simp only [ap])
    | (refine take_drop (i := 13) (v := undef) rfl (by kernel_rfl) (by kernel_rfl) (by kernel_rfl) (fun _ _ _ h => h) (Or.inr ⟨by rfl, rfl⟩) (by assumption) ?_; try simp only [ap])
   exact M39
  ·have k1 : decide ((0 : Int) ≤ (i : Int)) = true := decide_eq_true (by omega)
   refine tk 13 rfl ?_
   try simp only [ap]
   exact M39
end Hi
end Go.Proofs.YtfmnacebgplpcaaGreat
namespace Go.Proofs.YtfmnacebgplpcaaGreat
namespace Hi
open Vt (VT Rep)
open Ev (EV FieldsOk evCells vCells)
open Cm (EvsIn)
open Cn (BT BtsIn three evs_trod)
open Go.ChangeShapes Go.WideShapes Go.ChangeAt Go.Joins Go.Deep

theorem bulk_pos {H : Type} (d : DataW H) : 1 ≤ Rows.uptoBulk d := by
 cases d with
 | lit l => cases l <;> simp [Rows.uptoBulk]
 | _ => simp only [Rows.uptoBulk]; omega
theorem bulk_len {H : Type} (l : List (DataW H)) : l.length ≤ Rows.uptoBulkAll l := by
 induction l with
 | nil => simp
 | cons d l ih =>
  simp only [Rows.uptoBulkAll, List.length_cons]
  have := bulk_pos d
  omega
theorem bulk_mem {H : Type} : ∀ {l : List (DataW H)} {i : Nat} {d : DataW H}, l[i]? = some d → Rows.uptoBulk d ≤ Rows.uptoBulkAll l
 | [], i, d, h => by simp at h
 | d0 :: r, 0, d, h => by
  have h : d0 = d := by simpa using h
  subst h
  simp only [Rows.uptoBulkAll]; omega
 | d0 :: r, i + 1, d, h => by
  have := bulk_mem (l := r) (i := i) (d := d) (by simpa using h)
  simp only [Rows.uptoBulkAll]; omega
theorem small_one {H : Type} {d : DataW H} {l : List (DataW H)} {i : Nat} (h : Rows.uptoSmall H l = true) (hi : l[i]? = some d) : Rows.uptoBulk d ≤ 1048576 := Nat.le_trans (bulk_mem hi) (of_decide_eq_true h)
set_option maxRecDepth 100000 in
theorem open_bts {H : Type} {enc : TypeId × Value → H} {W : World} {base : Nat} {spare : Nat → Bool} {held : Bool} (fuel : Nat) (cs : List Value) (x : DataW H × List MemPlace)
  (h : DataW.trod enc Tryz.prog W base spare held fuel 33 cs = some x) :
  ∃ (b : BT) (A' : Option Addr) (c : Nat), b.flow.size ≤ maxLen ∧ b.at' < 18446744073709551616 ∧ EvsIn W A' c b.es ∧ (Rows.uptoBulk x.1 ≤ 1048576 → b.es.length ≤ 2097152) ∧ cs = [.string b.flow, .int .u64 b.at', .slice A' b.es.length c] := by
 have hC : Tryz.prog.cellsOf 33 = 3 := by kernel_rfl
 obtain ⟨xs, n, hn, hx, hlen, hxl, hg⟩ := DataW.trod_struct Tryz.underlying33 h
 obtain ⟨c0, c1, c2, rfl⟩ := three cs (hlen.trans hC)
 obtain ⟨x0, x1, x2, rfl⟩ : ∃ x0 x1 x2, xs = [x0, x1, x2] := by
  have : xs.length = 3 := hxl
  match xs, this with
  | [a, b, c], _ => exact ⟨a, b, c, rfl⟩
 have g0 := hg 0 _ rfl; have g1 := hg 1 _ rfl; have g2 := hg 2 _ rfl
 have k2 : Tryz.prog.cellsOf 9 = 1 := by kernel_rfl
 have k3 : Tryz.prog.cellsOf 31 = 1 := by kernel_rfl
 have k4 : Tryz.prog.cellsOf 30 = 1 := by kernel_rfl
 simp [k2, k3, k4] at g0 g1 g2
 obtain ⟨s, e0, -, w0⟩ := DataW.trod_string Tryz.underlying9 g0
 obtain ⟨m, e1, -, w1⟩ := DataW.trod_int Tryz.underlying30 g1
 obtain rfl := List.singleton_inj.1 e0
 obtain rfl := List.singleton_inj.1 e1
 simp [Lit.wf, IntKind.min, IntKind.max, IntKind.bits, IntKind.signed] at w1
 obtain ⟨es, A, cap, rfl, hes, hd⟩ := evs_trod n c2 x2 g2
 obtain ⟨mn, hmn⟩ : ∃ mn : Nat, m = mn := ⟨m.toNat, by omega⟩
 subst hmn
 have hdd : x.1 = .agg [x0.1, x1.1, x2.1] := by rw [hx]; rfl
 refine ⟨⟨s, mn, es⟩, A, cap, w0, by show mn < _; omega, hes, ?_, rfl⟩
 intro hb
 rcases hd with ⟨rfl, -⟩ | ⟨elems, rest, h2, hl⟩
 ·simp
 ·rw [hdd, h2] at hb
  simp only [Rows.uptoBulk, Rows.uptoBulkAll] at hb
  have := bulk_len elems
  show es.length ≤ _
  omega
set_option maxRecDepth 100000 in
theorem bts_small {H : Type} {enc : TypeId × Value → H} {base b1 : Nat} {spare : Nat → Bool} {held : Bool} {d : DataW H} {p : List MemPlace} (v : Value) (W : World)
  (o : Value.okWide Tryz.prog W .any base 22 v) (k : DataW.Trod enc Tryz.prog W b1 spare held 22 v d p) :
  ∃ (bl : List BT) (A : Option Addr) (cap : Nat), v = .slice A bl.length cap ∧ BtsIn W A cap bl ∧ (Rows.uptoBulk d ≤ 1048576 → ∀ b ∈ bl, b.es.length ≤ 2097152) := by
 have hC : Tryz.prog.cellsOf 33 = 3 := by kernel_rfl
 obtain ⟨fuel, hf⟩ := k
 have hcs : ∃ A n c, v = .slice A n c := by
  obtain ⟨A, n, c, rfl⟩ := okWide_slice Tryz.underlying22 o
  exact ⟨_, _, _, rfl⟩
 obtain ⟨A0, n0, cp, rfl⟩ := hcs
 have hcs : (Value.slice A0 n0 cp).cells.toList = [.slice A0 n0 cp] := rfl
 rw [hcs] at hf
 rcases DataW.trod_slice Tryz.underlying22 hf with ⟨e4, hx⟩ | ⟨a, l0, cp0, elems, rest, n', hn', e4, hx, hb, hl, hm, hel, he, -, -⟩
 ·obtain e4 := List.singleton_inj.1 e4
  refine ⟨[], none, 0, e4, ⟨Nat.le_refl _, Nat.zero_le _, fun h => absurd h (by simp)⟩, fun _ b hb => absurd hb (by simp)⟩
 ·obtain e4 := List.singleton_inj.1 e4
  have hd : d = .slice (elems.map (·.1)) (rest.map (·.1)) := by
   have := congrArg Prod.fst hx
   exact this
  have h4 : ∀ i : Nat, ∃ tC : BT × (Option Addr × Nat), i < l0 → tC.1.flow.size ≤ maxLen ∧ tC.1.at' < 18446744073709551616 ∧ EvsIn W tC.2.1 tC.2.2 tC.1.es ∧ (Rows.uptoBulk d ≤ 1048576 → tC.1.es.length ≤ 2097152) ∧
    ∀ j, j < 3 → W.cell? (a.add (i * 3) |>.add j) = ([Value.string tC.1.flow, .int .u64 tC.1.at', .slice tC.2.1 tC.1.es.length tC.2.2] : List Value)[j]? := fun i => by
   by_cases hi : i < l0
   ·have e := he i hi
    rw [List.getElem?_eq_getElem (by omega)] at e
    obtain ⟨cs', q1, q2⟩ := Option.bind_eq_some_iff.1 e
    obtain ⟨b, A', c, p1, p2, p3, p4, rfl⟩ := open_bts n' cs' _ q2
    rw [hC] at q1
    obtain ⟨_, ql, qc⟩ := World.cells?_some q1
    exact ⟨(b, A', c), fun _ => ⟨p1, p2, p3, fun hb => p4 (by
     refine Nat.le_trans (bulk_mem (l := elems.map (·.1)) (i := i) (by rw [List.getElem?_map, List.getElem?_eq_getElem (by omega)]; rfl)) ?_
     rw [hd] at hb
     simp only [Rows.uptoBulk] at hb
     omega), fun j hj => by rw [qc j hj]⟩⟩
   ·exact ⟨(⟨.empty, 0, []⟩, none, 0), fun h => absurd h hi⟩
  obtain ⟨F, hF⟩ := Classical.axiomOfChoice h4
  have hlen' : ((List.range l0).map fun i => (F i).1).length = l0 := by simp
  refine ⟨(List.range l0).map fun i => (F i).1, some a, cp0, by rw [hlen']; exact e4, ⟨by rw [hlen']; exact hl, hm, fun hp => ?_⟩, fun hbu b hb => ?_⟩
  rotate_left
  ·obtain ⟨i, hi, rfl⟩ := List.mem_map.1 hb
   exact (hF i (List.mem_range.1 hi)).2.2.2.1 hbu
  rw [hlen'] at hp
  have h0 := (hF 0 hp).2.2.2.2 0 (by omega)
  obtain ⟨b, off, spot⟩ := a
  have hs : spot = none := by
   cases spot with
   | none => rfl
   | some q =>
    simp [Addr.add, World.cell?] at h0
    split at h0 <;> simp at h0
  subst hs
  have hlt : b < W.heap.size := by
   rcases Nat.lt_or_ge b W.heap.size with q | q
   ·exact q
   ·simp [Addr.add, World.cell?, Array.getElem?_eq_none q] at h0
  refine ⟨b, off, rfl, hlt, fun i hi => ?_⟩
  rw [hlen'] at hi
  obtain ⟨p1, p2, p3, -, p5⟩ := hF i hi
  have ad : ∀ j, (Addr.add ⟨b, off, none⟩ (i * 3)).add j = ⟨b, off + i * 3 + j, none⟩ := fun j => by rw [Go.Deep.add_add, add_plain, Nat.add_assoc]
  refine ⟨(F i).2.1, (F i).2.2, by simpa using p1, by simpa using p2, by simpa using p3, ?_, ?_, ?_⟩
  ·have := p5 0 (by omega); rw [ad] at this; simpa using this
  ·have := p5 1 (by omega); rw [ad] at this; simpa using this
  ·have := p5 2 (by omega); rw [ad] at this; simpa using this
set_option maxRecDepth 100000 in
theorem iadds_open {H : Type} {enc : TypeId × Value → H} {base b1 : Nat} {spare : Nat → Bool} {held : Bool} {d0 : DataW H} {p0 : List MemPlace} (v0 : Value) (W : World)
  (o0 : Value.okWide Tryz.prog W .any base 22 v0) (k0 : DataW.Trod enc Tryz.prog W b1 spare held 22 v0 d0 p0) (hu : Rows.uptoSmall H [d0] = true) :
  Calls Tryz.prog 5 #[v0] W fun r w' => r = .returned (.bool true) ∧ Below W.heap.size W w' := by
 obtain ⟨bl, A, cap, rfl, hB, hl⟩ := bts_small v0 W o0 k0
 exact iadds_walk bl A cap W hB (hl (small_one (i := 0) hu rfl))
end Hi
end Go.Proofs.YtfmnacebgplpcaaGreat
