/- Events, lists of events and batches that came in, opened. -/
/- A list of batches that came in, opened. -/
/- A string that came in, opened. -/
import Derived.Test.YtkajcldmolcllaaGreatHaag
import Derived.ChangeMaps5
import Derived.ChangeArms
import Derived.Deep.Draws
import Derived.ProofKit
import Derived.OpenShut
import Derived.Lib.SmallJoins
import Derived.SizedLaws
import Derived.Test.YtkajcldmolcllaaGreatHaam
set_option linter.unusedVariables false
open Go.RowKit
namespace Go.Proofs.YtkajcldmolcllaaGreat
namespace Cn
open Vt (VT Rep)
open Ev (EV FieldsOk evCells vCells)
open Cm (EvsIn)
open Go.ChangeShapes Go.WideShapes Go.ChangeAt Go.Joins Go.Deep

theorem eleven (cs : List Value) (h : cs.length = 11) : ∃ a b c d e f g i j k l, cs = [a, b, c, d, e, f, g, i, j, k, l] := by
 match cs, h with
 | [a, b, c, d, e, f, g, i, j, k, l], _ => exact ⟨a, b, c, d, e, f, g, i, j, k, l, rfl⟩
theorem three (cs : List Value) (h : cs.length = 3) : ∃ a b c, cs = [a, b, c] := by
 match cs, h with
 | [a, b, c], _ => exact ⟨a, b, c, rfl⟩

set_option maxRecDepth 100000 in
theorem open_ev {H : Type} {enc : TypeId × Value → H} {W : World} {base : Nat} {spare : Nat → Bool} {held : Bool} (fuel : Nat) (cs : List Value) (x : DataW H × List MemPlace)
  (h : DataW.trod enc Tryz.prog W base spare held fuel 53 cs = some x) : ∃ (e : EV) (vk vn : Int) (vf : Nat) (vs : ByteArray) (A' : Option Addr) (m c : Nat), FieldsOk e ∧ Rep W base W.heap.size e.v (vCells vk vn vf vs A' m c) ∧ cs = (evCells e vk vn vf vs A' m c).toList := by
 have hC : Tryz.prog.cellsOf 53 = 11 := by kernel_rfl
 obtain ⟨xs, n, hn, hx, hlen, hxl, hg⟩ := DataW.trod_struct Tryz.underlying53 h
 obtain ⟨c0, c1, c2, c3, c4, c5, c6, c7, c8, c9, c10, rfl⟩ := eleven cs (hlen.trans hC)
 have hx : ∀ j : Nat, j < 7 → ∃ y, xs[j]? = some y := fun j hj => ⟨_, List.getElem?_eq_getElem (by rw [hxl]; exact hj)⟩
 obtain ⟨y0, z0⟩ := hx 0 (by omega); obtain ⟨y1, z1⟩ := hx 1 (by omega); obtain ⟨y2, z2⟩ := hx 2 (by omega); obtain ⟨y3, z3⟩ := hx 3 (by omega); obtain ⟨y4, z4⟩ := hx 4 (by omega); obtain ⟨y5, z5⟩ := hx 5 (by omega); obtain ⟨y6, z6⟩ := hx 6 (by omega)
 have g0 := (hg 0 _ rfl).trans z0; have g1 := (hg 1 _ rfl).trans z1; have g2 := (hg 2 _ rfl).trans z2; have g3 := (hg 3 _ rfl).trans z3; have g4 := (hg 4 _ rfl).trans z4; have g5 := (hg 5 _ rfl).trans z5; have g6 := (hg 6 _ rfl).trans z6
 have k1 : Tryz.prog.cellsOf 3 = 1 := by kernel_rfl
 have k2 : Tryz.prog.cellsOf 9 = 1 := by kernel_rfl
 have k3 : Tryz.prog.cellsOf 51 = 5 := by kernel_rfl
 have k4 : Tryz.prog.cellsOf 27 = 1 := by kernel_rfl
 simp [k1, k2, k3, k4] at g0 g1 g2 g3 g4 g5 g6
 obtain ⟨k, e0, -, w0⟩ := DataW.trod_int Tryz.underlying3 g0
 obtain ⟨id, e1, -, w1⟩ := DataW.trod_int Tryz.underlying27 g1
 obtain ⟨n2, e2, -, w2⟩ := DataW.trod_int Tryz.underlying3 g2
 obtain ⟨at', e3, -, w3⟩ := DataW.trod_int Tryz.underlying27 g3
 obtain ⟨nm, e4, -, w4⟩ := DataW.trod_string Tryz.underlying9 g4
 obtain ⟨tx, e5, -, w5⟩ := DataW.trod_string Tryz.underlying9 g5
 obtain ⟨t, ht⟩ := Vt.open_vt _ _ _ g6
 obtain rfl := List.singleton_inj.1 e0
 obtain rfl := List.singleton_inj.1 e1
 obtain rfl := List.singleton_inj.1 e2
 obtain rfl := List.singleton_inj.1 e3
 obtain rfl := List.singleton_inj.1 e4
 obtain rfl := List.singleton_inj.1 e5
 simp [Lit.wf, IntKind.min, IntKind.max, IntKind.bits, IntKind.signed] at w0 w1 w2 w3
 obtain ⟨vk, vn, vf, vs, l, A', cap, -, hv, -⟩ := ht.open_
 rw [hv] at ht
 injection hv with hv
 simp at hv
 obtain ⟨rfl, rfl, rfl, rfl, rfl⟩ := hv
 obtain ⟨mid, hmid⟩ : ∃ mn : Nat, id = mn := ⟨id.toNat, by omega⟩
 obtain ⟨mat, hmat⟩ : ∃ mn : Nat, at' = mn := ⟨at'.toNat, by omega⟩
 subst hmid hmat
 exact ⟨⟨k, mid, n2, mat, nm, tx, t⟩, vk, vn, vf, vs, A', l.length, cap, ⟨by show _ ≤ k; omega, by show k ≤ _; omega, by show mid < _; omega, by show _ ≤ n2; omega, by show n2 ≤ _; omega, by show mat < _; omega, w4, w5⟩, ht, rfl⟩

set_option maxRecDepth 100000 in
theorem evs_trod {H : Type} {enc : TypeId × Value → H} {W : World} {b1 : Nat} {spare : Nat → Bool} {held : Bool} (fuel : Nat) (c0 : Value) (x : DataW H × List MemPlace)
  (hf : DataW.trod enc Tryz.prog W b1 spare held fuel 34 [c0] = some x) : ∃ es A cap, c0 = .slice A es.length cap ∧ EvsIn W A cap es ∧ ((es = [] ∧ x.1 = .nil) ∨ ∃ elems rest, x.1 = .slice elems rest ∧ elems.length = es.length) := by
 have hC : Tryz.prog.cellsOf 53 = 11 := by kernel_rfl
 rcases DataW.trod_slice Tryz.underlying34 hf with ⟨e4, rfl⟩ | ⟨a, l0, cp0, elems, rest, n', hn', e4, rfl, hb, hl, hm, hel, he, -, -⟩
 ·obtain rfl := List.singleton_inj.1 e4
  exact ⟨[], none, 0, rfl, ⟨Nat.le_refl _, Nat.zero_le _, fun h => absurd h (by simp)⟩, .inl ⟨rfl, rfl⟩⟩
 ·obtain rfl := List.singleton_inj.1 e4
  have h4 : ∀ i : Nat, ∃ tC : EV × (Int × Int × Nat × ByteArray × Option Addr × Nat × Nat), i < l0 → FieldsOk tC.1 ∧ Rep W b1 W.heap.size tC.1.v (vCells tC.2.1 tC.2.2.1 tC.2.2.2.1 tC.2.2.2.2.1 tC.2.2.2.2.2.1 tC.2.2.2.2.2.2.1 tC.2.2.2.2.2.2.2) ∧
    ∀ j, j < 11 → W.cell? (a.add (i * 11) |>.add j) = (evCells tC.1 tC.2.1 tC.2.2.1 tC.2.2.2.1 tC.2.2.2.2.1 tC.2.2.2.2.2.1 tC.2.2.2.2.2.2.1 tC.2.2.2.2.2.2.2)[j]? := fun i => by
   by_cases hi : i < l0
   ·have e := he i hi
    rw [List.getElem?_eq_getElem (by omega)] at e
    obtain ⟨cs', q1, q2⟩ := Option.bind_eq_some_iff.1 e
    obtain ⟨o, vk, vn, vf, vs, A', m, c, p1, p3, rfl⟩ := open_ev n' cs' _ q2
    rw [hC] at q1
    obtain ⟨_, ql, qc⟩ := World.cells?_some q1
    exact ⟨(o, vk, vn, vf, vs, A', m, c), fun _ => ⟨p1, p3, fun j hj => by rw [qc j hj, Array.getElem?_toList]⟩⟩
   ·exact ⟨(⟨0, 0, 0, 0, .empty, .empty, .mk 0 0 0 .empty []⟩, 0, 0, 0, .empty, none, 0, 0), fun h => absurd h hi⟩
  obtain ⟨F, hF⟩ := Classical.axiomOfChoice h4
  have hlen' : ((List.range l0).map fun i => (F i).1).length = l0 := by simp
  refine ⟨(List.range l0).map fun i => (F i).1, some a, cp0, by rw [hlen'], ⟨by rw [hlen']; exact hl, hm, fun hp => ?_⟩, .inr ⟨_, _, rfl, by rw [hlen', List.length_map]; exact hel⟩⟩
  rw [hlen'] at hp
  have h0 := (hF 0 hp).2.2 0 (by omega)
  obtain ⟨b, off, spot⟩ := a
  have hs : spot = none := by
   cases spot with
   | none => rfl
   | some q =>
    simp [Addr.add, World.cell?, evCells] at h0
    split at h0 <;> simp at h0
  subst hs
  have hlt : b < W.heap.size := by
   rcases Nat.lt_or_ge b W.heap.size with q | q
   ·exact q
   ·simp [Addr.add, World.cell?, Array.getElem?_eq_none q, evCells] at h0
  refine ⟨b, off, rfl, hlt, fun i hi => ?_⟩
  rw [hlen'] at hi
  obtain ⟨p1, p3, p4⟩ := hF i hi
  refine ⟨b1, W.heap.size, _, _, _, _, _, _, _, by simpa using p1, by simpa using p3, Nat.le_refl _, fun j hj => ?_⟩
  have := p4 j hj
  rw [Go.Deep.add_add, add_plain] at this
  rw [Nat.add_assoc, this]
  simp

end Cn
end Go.Proofs.YtkajcldmolcllaaGreat
namespace Go.Proofs.YtkajcldmolcllaaGreat
namespace Hi
open Vt (VT Rep)
open Ev (EV FieldsOk evCells vCells)
open Cm (EvsIn)
open Cn (BT BtsIn three evs_trod)
open Go.ChangeShapes Go.WideShapes Go.ChangeAt Go.Joins Go.Deep

theorem weightsAll_mem {H : Type} (P : Program) (e : TypeId) : ∀ (l : List (DataW H)) (i : Nat) (d : DataW H), l[i]? = some d → ∀ x ∈ d.weights P e, x ∈ DataW.weightsAll P e l
 | [], i, d, h, _, _ => by simp at h
 | d0 :: r, 0, d, h, x, hx => by
  have h : d0 = d := by simpa using h
  subst h
  unfold DataW.weightsAll
  exact List.mem_append_left _ hx
 | d0 :: r, i + 1, d, h, x, hx => by
  unfold DataW.weightsAll
  exact List.mem_append_right _ (weightsAll_mem P e r i d (by simpa using h) x hx)
set_option maxRecDepth 100000 in
theorem open_bt {H : Type} {enc : TypeId × Value → H} {W : World} {base : Nat} {spare : Nat → Bool} {held : Bool} (fuel : Nat) (cs : List Value) (x : DataW H × List MemPlace)
  (h : DataW.trod enc Tryz.prog W base spare held fuel 36 cs = some x) (hsz : ∀ y ∈ x.1.weights Tryz.prog 36, y ≤ reachBytes) :
  ∃ (b : BT) (A' : Option Addr) (c : Nat), b.flow.size ≤ maxLen ∧ b.at' < 18446744073709551616 ∧ EvsIn W A' c b.es ∧ b.es.length ≤ 1099511627775 ∧ cs = [.string b.flow, .int .u64 b.at', .slice A' b.es.length c] := by
 have hC : Tryz.prog.cellsOf 36 = 3 := by kernel_rfl
 have hB : Tryz.prog.bytesOf 53 = 128 := by kernel_rfl
 obtain ⟨xs, n, hn, hx, hlen, hxl, hg⟩ := DataW.trod_struct Tryz.underlying36 h
 obtain ⟨c0, c1, c2, rfl⟩ := three cs (hlen.trans hC)
 obtain ⟨x0, x1, x2, rfl⟩ : ∃ x0 x1 x2, xs = [x0, x1, x2] := by
  have : xs.length = 3 := hxl
  match xs, this with
  | [a, b, c], _ => exact ⟨a, b, c, rfl⟩
 have g0 := hg 0 _ rfl; have g1 := hg 1 _ rfl; have g2 := hg 2 _ rfl
 have k2 : Tryz.prog.cellsOf 9 = 1 := by kernel_rfl
 have k3 : Tryz.prog.cellsOf 34 = 1 := by kernel_rfl
 have k4 : Tryz.prog.cellsOf 27 = 1 := by kernel_rfl
 simp [k2, k3, k4] at g0 g1 g2
 obtain ⟨s, e0, -, w0⟩ := DataW.trod_string Tryz.underlying9 g0
 obtain ⟨m, e1, -, w1⟩ := DataW.trod_int Tryz.underlying27 g1
 obtain rfl := List.singleton_inj.1 e0
 obtain rfl := List.singleton_inj.1 e1
 simp [Lit.wf, IntKind.min, IntKind.max, IntKind.bits, IntKind.signed] at w1
 obtain ⟨es, A, cap, rfl, hes, hd⟩ := evs_trod n c2 x2 g2
 obtain ⟨mn, hmn⟩ : ∃ mn : Nat, m = mn := ⟨m.toNat, by omega⟩
 subst hmn
 have hdd : x.1 = .agg [x0.1, x1.1, x2.1] := by rw [hx]; rfl
 refine ⟨⟨s, mn, es⟩, A, cap, w0, by show mn < _; omega, hes, ?_, rfl⟩
 rcases hd with ⟨rfl, -⟩ | ⟨elems, rest, h2, hl⟩
 ·simp
 ·have hw : ((elems.length + rest.length) * Tryz.prog.bytesOf 53) ∈ x.1.weights Tryz.prog 36 := by
   rw [hdd]
   have hu := Tryz.underlying36
   unfold DataW.weights
   rw [hu]
   refine DataW.weights_mem_each (j := 2) (t := 34) rfl (d := x2.1) rfl _ ?_
   rw [h2]
   have hu2 := Tryz.underlying34
   simp [DataW.weights, hu2]
  have h9 := hsz _ hw
  rw [hB, hl] at h9
  simp only [reachBytes] at h9
  show es.length ≤ _
  omega
set_option maxRecDepth 100000 in
theorem bts_open {H : Type} {enc : TypeId × Value → H} {base b1 : Nat} {spare : Nat → Bool} {held : Bool} {d : DataW H} {p : List MemPlace} (v : Value) (W : World)
  (o : Value.okWide Tryz.prog W .any base 22 v) (k : DataW.Trod enc Tryz.prog W b1 spare held 22 v d p) (hsz : ∀ x ∈ d.weights Tryz.prog 22, x ≤ reachBytes) :
  ∃ (bl : List BT) (A : Option Addr) (cap : Nat), v = .slice A bl.length cap ∧ BtsIn W A cap bl ∧ ∀ b ∈ bl, b.es.length ≤ 1099511627775 := by
 have hC : Tryz.prog.cellsOf 36 = 3 := by kernel_rfl
 obtain ⟨fuel, hf⟩ := k
 have hcs : ∃ A n c, v = .slice A n c := by
  obtain ⟨A, n, c, rfl⟩ := okWide_slice Tryz.underlying22 o
  exact ⟨_, _, _, rfl⟩
 obtain ⟨A0, n0, cp, rfl⟩ := hcs
 have hcs : (Value.slice A0 n0 cp).cells.toList = [.slice A0 n0 cp] := rfl
 rw [hcs] at hf
 rcases DataW.trod_slice Tryz.underlying22 hf with ⟨e4, hx⟩ | ⟨a, l0, cp0, elems, rest, n', hn', e4, hx, hb, hl, hm, hel, he, -, -⟩
 ·obtain e4 := List.singleton_inj.1 e4
  refine ⟨[], none, 0, e4, ⟨Nat.le_refl _, Nat.zero_le _, fun h => absurd h (by simp)⟩, fun b hb => absurd hb (by simp)⟩
 ·obtain e4 := List.singleton_inj.1 e4
  have hd : d = .slice (elems.map (·.1)) (rest.map (·.1)) := by
   have := congrArg Prod.fst hx
   exact this
  have h4 : ∀ i : Nat, ∃ tC : BT × (Option Addr × Nat), i < l0 → tC.1.flow.size ≤ maxLen ∧ tC.1.at' < 18446744073709551616 ∧ EvsIn W tC.2.1 tC.2.2 tC.1.es ∧ tC.1.es.length ≤ 1099511627775 ∧
    ∀ j, j < 3 → W.cell? (a.add (i * 3) |>.add j) = ([Value.string tC.1.flow, .int .u64 tC.1.at', .slice tC.2.1 tC.1.es.length tC.2.2] : List Value)[j]? := fun i => by
   by_cases hi : i < l0
   ·have e := he i hi
    rw [List.getElem?_eq_getElem (by omega)] at e
    obtain ⟨cs', q1, q2⟩ := Option.bind_eq_some_iff.1 e
    obtain ⟨b, A', c, p1, p2, p3, p4, rfl⟩ := open_bt n' cs' _ q2 (fun y hy => hsz y (by
     rw [hd]
     have hu := Tryz.underlying22
     unfold DataW.weights
     rw [hu]
     refine List.mem_cons_of_mem _ (List.mem_append_left _ (weightsAll_mem _ _ _ i _ ?_ y hy))
     rw [List.getElem?_map, List.getElem?_eq_getElem (by omega)]; rfl))
    rw [hC] at q1
    obtain ⟨_, ql, qc⟩ := World.cells?_some q1
    exact ⟨(b, A', c), fun _ => ⟨p1, p2, p3, p4, fun j hj => by rw [qc j hj]⟩⟩
   ·exact ⟨(⟨.empty, 0, []⟩, none, 0), fun h => absurd h hi⟩
  obtain ⟨F, hF⟩ := Classical.axiomOfChoice h4
  have hlen' : ((List.range l0).map fun i => (F i).1).length = l0 := by simp
  refine ⟨(List.range l0).map fun i => (F i).1, some a, cp0, by rw [hlen']; exact e4, ⟨by rw [hlen']; exact hl, hm, fun hp => ?_⟩, fun b hb => ?_⟩
  rotate_left
  ·obtain ⟨i, hi, rfl⟩ := List.mem_map.1 hb
   exact (hF i (List.mem_range.1 hi)).2.2.2.1
  rw [hlen'] at hp
  have h0 := (hF 0 hp).2.2.2.2 0 (by omega)
  obtain ⟨b, off, spot⟩ := a
  have hs : spot = none := by
   cases spot with
   | none => rfl
   | some q =>
    simp [Addr.add, World.cell?] at h0
    split at h0 <;> simp at h0
  subst hs
  have hlt : b < W.heap.size := by
   rcases Nat.lt_or_ge b W.heap.size with q | q
   ·exact q
   ·simp [Addr.add, World.cell?, Array.getElem?_eq_none q] at h0
  refine ⟨b, off, rfl, hlt, fun i hi => ?_⟩
  rw [hlen'] at hi
  obtain ⟨p1, p2, p3, -, p5⟩ := hF i hi
  have ad : ∀ j, (Addr.add ⟨b, off, none⟩ (i * 3)).add j = ⟨b, off + i * 3 + j, none⟩ := fun j => by rw [Go.Deep.add_add, add_plain, Nat.add_assoc]
  refine ⟨(F i).2.1, (F i).2.2, by simpa using p1, by simpa using p2, by simpa using p3, ?_, ?_, ?_⟩
  ·have := p5 0 (by omega); rw [ad] at this; simpa using this
  ·have := p5 1 (by omega); rw [ad] at this; simpa using this
  ·have := p5 2 (by omega); rw [ad] at this; simpa using this
end Hi
end Go.Proofs.YtkajcldmolcllaaGreat
namespace Go.Proofs.YtkajcldmolcllaaGreat
namespace Hi
open Go.ChangeShapes Go.WideShapes Go.ChangeAt Go.Joins Go.Deep

set_option maxRecDepth 100000 in
theorem str_open {H : Type} {enc : TypeId × Value → H} {base b1 : Nat} {spare : Nat → Bool} {held : Bool} {d : DataW H} {p : List MemPlace} (v : Value) (W : World)
  (o : Value.okWide Tryz.prog W .any base 9 v) (k : DataW.Trod enc Tryz.prog W b1 spare held 9 v d p) : ∃ s, v = .string s ∧ s.size ≤ maxLen := by
 obtain ⟨s, rfl⟩ := okWide_string Tryz.underlying9 o
 obtain ⟨fuel, hf⟩ := k
 have hcs : (Value.string s).cells.toList = [.string s] := rfl
 rw [hcs] at hf
 obtain ⟨s', e, -, w⟩ := DataW.trod_string Tryz.underlying9 hf
 obtain e := List.singleton_inj.1 e
 injection e with e
 subst e
 exact ⟨_, rfl, w⟩
end Hi
end Go.Proofs.YtkajcldmolcllaaGreat
