/- Records of an index, and the reference's. -/
import Derived.Test.YtfmnacebgplpcaaGreatInax
import Derived.Test.YtfmnacebgplpcaaGreatInau
import Derived.Test.YtfmnacebgplpcaaGreatInai
import Derived.Test.YtfmnacebgplpcaaGreatInah
import Derived.Test.YtfmnacebgplpcaaGreatRows
set_option maxRecDepth 100000
variable {p : Prop}
set_option linter.unusedVariables false
set_option linter.unusedSimpArgs false
open Go.RowKit
namespace Go.Proofs.YtfmnacebgplpcaaGreat
namespace Hi
open _root_.Go.Proofs.YtfmnacebgplpcaaGreat.Nm (Ds Df)
open Vt (VT Rep Da)
open Ev (EV Dk Dc Dn)
open Cm (Dl EvsIn)
open Cn (BT BB BtsIn Dt GO VD)
open Bt (BOwn)
variable {E Z : Nat → Prop} {u v w w' w0 V V' : World} {xb : Nat} {x : XM}
theorem Tryz.infoRr : (Tryz.prog.info? 40).map (fun i => (i.zero, i.size, i.bytes)) = some (some (.slice none 0 0), 1, 24) := by kernel_rfl
def RecV (w : World) (base : Nat) (u : Value) (n : Nat) (ls : List (List Nat)) : Prop := ls.length = n ∧ ∃ xs, w.ownsRow base 40 1 u n xs ∧ ∀ i (h : i < ls.length), ∃ v, xs[i]? = some v ∧ BOwn w base v ls[i] ∧ ∀ k, v.ownBlock = some k → u.ownBlock ≠ some k
theorem RecV.nil (w : World) (base : Nat) : RecV w base (.slice none 0 0) 0 [] := ⟨rfl, [], ⟨rfl, .inl ⟨rfl, rfl⟩⟩, fun i h => absurd h (by simp)⟩
theorem RecV.later {base n : Nat} {u : Value} {ls : List (List Nat)} (h : RecV w base u n ls) (hb : Below w.heap.size w w') : RecV w' base u n ls := by
 obtain ⟨h1, xs, h2, h3⟩ := h
 exact ⟨h1, xs, Fv h2 hb, fun i hi => by
  obtain ⟨v, k1, k2, k3⟩ := h3 i hi
  exact ⟨v, k1, Fv k2 hb, k3⟩⟩
theorem RecV.push {base n : Nat} {u u' v : Value} {ls : List (List Nat)} {l : List Nat} {xs : List Value} (hlen : ls.length = n) (hx : xs.length = n) (hall : ∀ i (h : i < ls.length), ∃ v, xs[i]? = some v ∧ BOwn w base v ls[i] ∧ ∀ k, v.ownBlock = some k → u.ownBlock ≠ some k)
  (hv : BOwn w base v l) (hne : ∀ k, v.ownBlock = some k → u.ownBlock ≠ some k) (ho : w'.ownsRow base 40 1 u' (n + 1) (xs ++ [v])) (hg : w.grownBy w' u.ownBlock) (hat : u'.ownBlock = u.ownBlock ∨ u'.ownBlock = some w.heap.size) : RecV w' base u' (n + 1) (ls ++ [l]) := by
 have key : ∀ (v : Value) (l : List Nat), BOwn w base v l → (∀ k, v.ownBlock = some k → u.ownBlock ≠ some k) → BOwn w' base v l ∧ ∀ k, v.ownBlock = some k → u'.ownBlock ≠ some k := fun v l h1 h2 =>
  ⟨Vu h1 fun r hr => hg.block r (h1.lt r hr).2 fun e => h2 r hr e.symm, fun k hk e => by
   rcases hat with q | q
   ·exact h2 k hk (q.symm.trans e)
   ·have e2 : w.heap.size = k := Option.some.inj (q.symm.trans e)
    have := (h1.lt k hk).2
    omega⟩
 refine ⟨by simp [hlen], _, ho, fun i hi => ?_⟩
 simp at hi
 by_cases hlt : i < ls.length
 ·rw [List.getElem_append_left hlt]
  obtain ⟨y, k1, k2, k3⟩ := hall i hlt
  obtain ⟨z1, z2⟩ := key y _ k2 k3
  exact ⟨y, (List.getElem?_append_left (by omega)).trans k1, z1, z2⟩
 ·obtain rfl : i = ls.length := by omega
  rw [List.getElem_append_right (Nat.le_refl _)]
  simp only [Nat.sub_self, List.getElem_cons_zero]
  obtain ⟨z1, z2⟩ := key v _ hv hne
  exact ⟨v, by rw [List.getElem?_append_right (by omega), hx, hlen, Nat.sub_self]; rfl, z1, z2⟩
theorem UY {base : Nat} {v : Value} {l : List Nat} (h : BOwn w base v l) : ∃ A c, v = .slice A l.length c := by
 obtain ⟨A, c, e, -⟩ := Fj h
 exact ⟨A, c, e⟩
theorem M142 (h : p := by
 clear hown5 hgrow5 hat5
 go_roundw
 case rel => exact ⟨j + 1, by omega, by go_num, HR5.out, HB5.out⟩
 case measure => simp [intOf]; omega) : p := h
theorem M154 (h : p := by
 obtain ⟨-, xs3, hown3, -⟩ := hrec
 obtain ⟨A, c, e, -⟩ := Fj hown3
 exact ⟨A, c, e, trivial⟩) : p := h
theorem M180 (h : p := by
 obtain ⟨z, q1, q2, q3⟩ := HALL.out i h
 exact ⟨z, q1, Fv q2 HB4.out, q3⟩) : p := h
theorem Q462.Y460 (h : p := by
 have HB04 : Hid (Below w.heap.size w W4) := Lib.hid (HB.out.trans (HB4.out.mono HB.out.size))
 subst hv2
 have HW4 := Lib.hid hW4
 clear hb2 hb4 hbo hW4 HCL d0
 go_wp2_with (at_builtin; rw [← HW4.out]; refine DA _ rfl _ _ 38 40 rfl i0 _ 1 24 Tryz.underlying38 HSZ.out hi0 hz0 hz1 hz2 rfl (by decide) w.heap.size _ _ j 1 xs3 [.slice A2 fb.length c2] rfl rfl HO4.out HIN.out (by simp only [maxLen]; omega) (by omega) HB04.out.size ?_; intro u5 w5 hown5 hgrow5 hat5)
 have HR5 : Hid (RecV w5 w.heap.size u5 (j + 1) (rl.take (j + 1))) := Lib.hid (by
  rw [HST.out]
  refine RecV.push (w := W4) HLN.out hx3 (fun i h => ?_) (HBO.out.base HB.out.size) (fun k hk e => ?_) hown5 hgrow5 hat5
  ·exact M180
  ·have h1 := (HBO.out.lt k hk).1
   have h2 := (HOWN.out.lt k e).2
   omega)
 have HB5 : Hid (Below w.heap.size w w5) := Lib.hid (DD HB04.out hgrow5 (fun r hr => (HO4.out.lt r hr).1) HB04.out.size)
 exact M142) : p := h
theorem M460 (h : p := by
 obtain ⟨W4, hW4⟩ : ∃ W4, W4 = w2.alloc (.cells #[v2] 40) := ⟨_, rfl⟩
 have hb4 : Below w2.heap.size w2 W4 := by rw [hW4]; exact (Below.refl _ _).alloc (Nat.le_refl _) _
 have HB4 : Hid (Below wr.heap.size wr W4) := Lib.hid (hb2.trans (hb4.mono hb2.size))
 have HIN : Hid (CIn W4 (.slice (some ⟨w2.heap.size, 0, none⟩) 1 1) 1 1 [v2]) := Lib.hid (by rw [hW4]; exact CIn.new w2 _ _ rfl (by intro z hz; simp at hz; rw [hz, hv2]; rfl))
 have HBO : Hid (BOwn W4 wr.heap.size v2 fb) := Lib.hid (Fv hbo hb4)
 have HO4 := Lib.hid (Fv HOWN.out HB4.out)
 exact Y460) : p := h
set_option maxHeartbeats 2000000 in
theorem Vd (H : XAt E w xb Z x) (hlen : x.all.length ≤ 1000000) (hfr : ∀ b ∈ x.all, (frm b).length ≤ 35184372088832 ∧ frm b ≠ []) :
  Calls Tryz.prog 13 #[.pointer (some ⟨xb, 0, none⟩)] w fun r w' => ∃ A c, r = .returned (.slice A x.all.length c) ∧ RecV w' w.heap.size (.slice A x.all.length c) x.all.length (x.all.map frm) ∧ Below w.heap.size w w' := by
 obtain ⟨mb, nm, N, cN, R, cR, ps, -, H⟩ := H
 obtain ⟨xs, hown, hcells⟩ := H.recs
 have hrl : (x.all.map frm).length = x.all.length := by simp
 obtain ⟨c0, c1, c2, c3, cf⟩ := DL H.blk
 rw [hrl] at c3 hown
 have h1c : ∀ y ∈ xs, y.oneCell' = true := fun y hy => by
  obtain ⟨i, hi, rfl⟩ := List.getElem_of_mem hy
  have hl := hown.1
  obtain ⟨v, k1, k2⟩ := hcells i (by rw [hrl]; omega)
  rw [List.getElem?_eq_getElem hi] at k1
  rw [Option.some.inj k1]
  exact Cn.PK k2
 have HCI := Lib.hid (CIn.of_own hown h1c)
 have HV : Hid (∀ i (h : i < (x.all.map frm).length), ∃ v, xs[i]? = some v ∧ Bt.BIn w v (x.all.map frm)[i]) := Lib.hid fun i hi => by
  obtain ⟨v, k1, k2⟩ := hcells i hi
  exact ⟨v, k1, BIn.leads k2 (Dg _ _)⟩
 have HFR : Hid (∀ l ∈ x.all.map frm, l.length ≤ 35184372088832 ∧ l ≠ []) := Lib.hid fun l hl => by
  obtain ⟨b, hb, rfl⟩ := List.mem_map.1 hl
  exact hfr b hb
 have HXL := Lib.hid H.lt
 generalize x.clock = clk at *
 obtain ⟨rl, hrl2⟩ : ∃ rl, rl = x.all.map frm := ⟨_, rfl⟩
 obtain ⟨m, hm⟩ : ∃ m, m = x.all.length := ⟨_, rfl⟩
 rw [← hrl2] at hrl HV HFR ⊢
 rw [← hm] at hrl c3 HCI hlen ⊢
 have HRL := Lib.hid hrl
 have HB0 : Hid (∀ W, Below w.heap.size w W → W.cell? ⟨xb, 3, none⟩ = some (.slice R m cR)) := Lib.hid fun W hW => (hW.cell (p := ⟨xb, 3, none⟩) HXL.out).trans c3
 clear H hown hcells h1c hfr hrl hrl2 hm c0 c1 c2 cf
 obtain ⟨i0, hi0, hz0, hz1, hz2⟩ := info_parts Tryz.infoRr
 have HSZ := Lib.hid (Oy hi0 hz1)
 go_enter Tryz.func13, Tryz.ntmps13
 go_wp2_with fail
 go_loopw [3, 13] (fun u3 i wr => ∃ j : Nat, j ≤ m ∧ i = .int .i64 j ∧ RecV wr w.heap.size u3 j (rl.take j) ∧ Below w.heap.size w wr) (fun _ i _ => m - (intOf i).toNat)
 case atStart => exact ⟨0, by omega, rfl, by rw [List.take_zero]; exact RecV.nil _ _, Below.refl _ _⟩
 case round =>
  obtain ⟨j, hj, rfl, hrec, hb⟩ := hrel
  have HB := Lib.hid hb
  by_cases hlt : j < m
  ·have hjl : j < rl.length := by have := HRL.out; omega
   obtain ⟨-, -, A9, c9, e9, -, -, hrd⟩ := HCI.out.later hb
   obtain ⟨rfl, rfl⟩ : R = A9 ∧ cR = c9 := by injection e9 with a1 a2 a3; exact ⟨a1, a3⟩
   obtain ⟨rb, off, rfl, hbl, hq⟩ := hrd (by omega)
   obtain ⟨y, k1, k2⟩ := HV.out j hjl
   have d0 := hq j y k1
   obtain ⟨hl1, hl2⟩ := HFR.out _ (List.getElem_mem hjl)
   have hst : rl.take (j + 1) = rl.take j ++ [rl[j]] := List.take_succ_eq_append_getElem hjl
   have k2' := k2.later hb
   have HCL := Lib.hid (Rf.Jy y rl[j] hl1 wr k2' hl2)
   obtain ⟨ay, cy, rfl⟩ : ∃ A c, y = .slice A rl[j].length c := by
    rcases k2 with ⟨-, q⟩ | ⟨ad, cap, q, -⟩
    ·exact absurd q hl2
    ·exact ⟨_, _, q⟩
   obtain ⟨hln, xs3, hown3, hall3⟩ := hrec
   have hx3 : xs3.length = j := by have := hown3.1; omega
   have HST := Lib.hid hst; have HALL := Lib.hid hall3; have HOWN := Lib.hid hown3; have HLN := Lib.hid hln
   clear hb hrd hq k1 k2 k2' hl1 hl2 hst hall3 hown3 hln e9 hbl
   generalize rl[j] = fb at *
   go_wp2_with fail
   refine HCL.out.mono ?_
   rintro r w2 ⟨v2, rfl, hbo, hb2⟩
   obtain ⟨A2, c2, hv2⟩ := UY hbo
   open Q462 in exact M460
  ·have hjm : j = m := by omega
   subst hjm
   rw [show rl.take j = rl by rw [← HRL.out]; exact List.take_length] at hrec
   obtain ⟨A, c, rfl, -⟩ : ∃ A c, u3 = .slice A j c ∧ True := by
    exact M154
   have HREC := Lib.hid hrec
   clear hrec hb
   go_wp2_with fail
   go_ret
   exact ⟨A, c, rfl, HREC.out, HB.out⟩
open Ev (Dy tk ap rd1 rd2 Dj)
open Cn (OV)
variable {w w' w0 : World} {xb : Nat} {x : XM}
open Cn (three XR)
open Go.ChangeShapes Go.WideShapes Go.ChangeAt Go.Joins Go.Deep
theorem bulk_pos {H : Type} (d : DataW H) : 1 ≤ Rows.uptoBulk d := by
 cases d with
 | lit l => cases l <;> simp [Rows.uptoBulk]
 | _ => simp only [Rows.uptoBulk]; omega
theorem bulk_len {H : Type} (l : List (DataW H)) : l.length ≤ Rows.uptoBulkAll l := by
 induction l with
 | nil => simp
 | cons d l ih =>
  simp only [Rows.uptoBulkAll, List.length_cons]
  have := bulk_pos d
  omega
theorem Ub {H : Type} : ∀ {l : List (DataW H)} {i : Nat} {d : DataW H}, l[i]? = some d → Rows.uptoBulk d ≤ Rows.uptoBulkAll l
 | [], i, d, h => by simp at h
 | d0 :: r, 0, d, h => by
  have h : d0 = d := by simpa using h
  subst h
  simp only [Rows.uptoBulkAll]; omega
 | d0 :: r, i + 1, d, h => by
  have := Ub (l := r) (i := i) (d := d) (by simpa using h)
  simp only [Rows.uptoBulkAll]; omega
theorem KF {H : Type} {d : DataW H} {l : List (DataW H)} {i : Nat} (h : Rows.uptoSmall H l = true) (hi : l[i]? = some d) : Rows.uptoBulk d ≤ 1048576 := Nat.le_trans (Ub hi) (of_decide_eq_true h)
theorem open_bts {H : Type} {enc : TypeId × Value → H} {W : World} {base : Nat} {spare : Nat → Bool} {held : Bool} (fuel : Nat) (cs : List Value) (x : DataW H × List MemPlace)
  (h : DataW.trod enc Tryz.prog W base spare held fuel 33 cs = some x) :
  ∃ (b : BT) (A' : Option Addr) (c : Nat), b.flow.size ≤ maxLen ∧ b.at' < 18446744073709551616 ∧ EvsIn W A' c b.es ∧ (Rows.uptoBulk x.1 ≤ 1048576 → b.es.length ≤ 2097152) ∧ cs = [.string b.flow, .int .u64 b.at', .slice A' b.es.length c] := by
 have hC : Tryz.prog.cellsOf 33 = 3 := by kernel_rfl
 obtain ⟨xs, n, hn, hx, hlen, hxl, hg⟩ := DataW.trod_struct Tryz.underlying33 h
 obtain ⟨c0, c1, c2, rfl⟩ := three cs (hlen.trans hC)
 obtain ⟨x0, x1, x2, rfl⟩ : ∃ x0 x1 x2, xs = [x0, x1, x2] := by
  have : xs.length = 3 := hxl
  match xs, this with
  | [a, b, c], _ => exact ⟨a, b, c, rfl⟩
 have g0 := hg 0 _ rfl; have g1 := hg 1 _ rfl; have g2 := hg 2 _ rfl
 have k2 : Tryz.prog.cellsOf 9 = 1 := by kernel_rfl
 have k3 : Tryz.prog.cellsOf 31 = 1 := by kernel_rfl
 have k4 : Tryz.prog.cellsOf 30 = 1 := by kernel_rfl
 simp [k2, k3, k4] at g0 g1 g2
 obtain ⟨s, e0, -, w0⟩ := DataW.trod_string Tryz.underlying9 g0
 obtain ⟨m, e1, -, w1⟩ := DataW.trod_int Tryz.underlying30 g1
 obtain rfl := List.singleton_inj.1 e0
 obtain rfl := List.singleton_inj.1 e1
 simp [Lit.wf, IntKind.min, IntKind.max, IntKind.bits, IntKind.signed] at w1
 obtain ⟨es, A, cap, rfl, hes, hd⟩ := XR n c2 x2 g2
 obtain ⟨mn, hmn⟩ : ∃ mn : Nat, m = mn := ⟨m.toNat, by omega⟩
 subst hmn
 have hdd : x.1 = .agg [x0.1, x1.1, x2.1] := by rw [hx]; rfl
 refine ⟨⟨s, mn, es⟩, A, cap, w0, by show mn < _; omega, hes, ?_, rfl⟩
 intro hb
 rcases hd with ⟨rfl, -⟩ | ⟨elems, rest, h2, hl⟩
 ·simp
 ·rw [hdd, h2] at hb
  simp only [Rows.uptoBulk, Rows.uptoBulkAll] at hb
  have := bulk_len elems
  show es.length ≤ _
  omega
theorem LD {H : Type} {enc : TypeId × Value → H} {base b1 : Nat} {spare : Nat → Bool} {held : Bool} {d : DataW H} {p : List MemPlace} (v : Value) (W : World)
  (o : Value.okWide Tryz.prog W .any base 22 v) (k : DataW.Trod enc Tryz.prog W b1 spare held 22 v d p) :
  ∃ (bl : List BT) (A : Option Addr) (cap : Nat), v = .slice A bl.length cap ∧ BtsIn W A cap bl ∧ (Rows.uptoBulk d ≤ 1048576 → ∀ b ∈ bl, b.es.length ≤ 2097152) := by
 have hC : Tryz.prog.cellsOf 33 = 3 := by kernel_rfl
 obtain ⟨fuel, hf⟩ := k
 have hcs : ∃ A n c, v = .slice A n c := by
  obtain ⟨A, n, c, rfl⟩ := okWide_slice Tryz.underlying22 o
  exact ⟨_, _, _, rfl⟩
 obtain ⟨A0, n0, cp, rfl⟩ := hcs
 have hcs : (Value.slice A0 n0 cp).cells.toList = [.slice A0 n0 cp] := rfl
 rw [hcs] at hf
 rcases DataW.trod_slice Tryz.underlying22 hf with ⟨e4, hx⟩ | ⟨a, l0, cp0, elems, rest, n', hn', e4, hx, hb, hl, hm, hel, he, -, -⟩
 ·obtain e4 := List.singleton_inj.1 e4
  refine ⟨[], none, 0, e4, ⟨Nat.le_refl _, Nat.zero_le _, fun h => absurd h (by simp)⟩, fun _ b hb => absurd hb (by simp)⟩
 ·obtain e4 := List.singleton_inj.1 e4
  have hd : d = .slice (elems.map (·.1)) (rest.map (·.1)) := by
   have := congrArg Prod.fst hx
   exact this
  have h4 : ∀ i : Nat, ∃ tC : BT × (Option Addr × Nat), i < l0 → tC.1.flow.size ≤ maxLen ∧ tC.1.at' < 18446744073709551616 ∧ EvsIn W tC.2.1 tC.2.2 tC.1.es ∧ (Rows.uptoBulk d ≤ 1048576 → tC.1.es.length ≤ 2097152) ∧
    ∀ j, j < 3 → W.cell? (a.add (i * 3) |>.add j) = ([Value.string tC.1.flow, .int .u64 tC.1.at', .slice tC.2.1 tC.1.es.length tC.2.2] : List Value)[j]? := fun i => by
   by_cases hi : i < l0
   ·have e := he i hi
    rw [List.getElem?_eq_getElem (by omega)] at e
    obtain ⟨cs', q1, q2⟩ := Option.bind_eq_some_iff.1 e
    obtain ⟨b, A', c, p1, p2, p3, p4, rfl⟩ := open_bts n' cs' _ q2
    rw [hC] at q1
    obtain ⟨_, ql, qc⟩ := World.cells?_some q1
    exact ⟨(b, A', c), fun _ => ⟨p1, p2, p3, fun hb => p4 (by
     refine Nat.le_trans (Ub (l := elems.map (·.1)) (i := i) (by rw [List.getElem?_map, List.getElem?_eq_getElem (by omega)]; rfl)) ?_
     rw [hd] at hb
     simp only [Rows.uptoBulk] at hb
     omega), fun j hj => by rw [qc j hj]⟩⟩
   ·exact ⟨(⟨.empty, 0, []⟩, none, 0), fun h => absurd h hi⟩
  obtain ⟨F, hF⟩ := Classical.axiomOfChoice h4
  have hlen' : ((List.range l0).map fun i => (F i).1).length = l0 := by simp
  refine ⟨(List.range l0).map fun i => (F i).1, some a, cp0, by rw [hlen']; exact e4, ⟨by rw [hlen']; exact hl, hm, fun hp => ?_⟩, fun hbu b hb => ?_⟩
  rotate_left
  ·obtain ⟨i, hi, rfl⟩ := List.mem_map.1 hb
   exact (hF i (List.mem_range.1 hi)).2.2.2.1 hbu
  rw [hlen'] at hp
  have h0 := (hF 0 hp).2.2.2.2 0 (by omega)
  obtain ⟨b, off, spot⟩ := a
  have hs : spot = none := by
   cases spot with
   | none => rfl
   | some q =>
    simp [Addr.add, World.cell?] at h0
    split at h0 <;> simp at h0
  subst hs
  have hlt : b < W.heap.size := by
   rcases Nat.lt_or_ge b W.heap.size with q | q
   ·exact q
   ·simp [Addr.add, World.cell?, Array.getElem?_eq_none q] at h0
  refine ⟨b, off, rfl, hlt, fun i hi => ?_⟩
  rw [hlen'] at hi
  obtain ⟨p1, p2, p3, -, p5⟩ := hF i hi
  have ad : ∀ j, (Addr.add ⟨b, off, none⟩ (i * 3)).add j = ⟨b, off + i * 3 + j, none⟩ := fun j => by rw [Go.Deep.add_add, add_plain, Nat.add_assoc]
  refine ⟨(F i).2.1, (F i).2.2, by simpa using p1, by simpa using p2, by simpa using p3, ?_, ?_, ?_⟩
  ·have := p5 0 (by omega); rw [ad] at this; simpa using this
  ·have := p5 1 (by omega); rw [ad] at this; simpa using this
  ·have := p5 2 (by omega); rw [ad] at this; simpa using this
end Hi
end Go.Proofs.YtfmnacebgplpcaaGreat
