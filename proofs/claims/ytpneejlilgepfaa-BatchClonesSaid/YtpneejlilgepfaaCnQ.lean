/- Events, lists of events and batches that came in, opened. -/
import Derived.Test.YtpneejlilgepfaaCnO
import Derived.ChangeMaps5
import Derived.ChangeArms
import Derived.Deep.Draws
import Derived.ProofKit
import Derived.OpenShut
import Derived.Lib.SmallJoins
import Derived.SizedLaws
namespace Go.Proofs.Ytpneejlilgepfaa
open Go.RowKit
set_option linter.unusedVariables false
namespace Cn
open Vt (VT Rep)
open Ev (EV FieldsOk evCells vCells)
open Cm (EvsIn)
open Go.ChangeShapes Go.WideShapes Go.ChangeAt Go.Joins Go.Deep

theorem eleven (cs : List Value) (h : cs.length = 11) : ∃ a b c d e f g i j k l, cs = [a, b, c, d, e, f, g, i, j, k, l] := by
  match cs, h with
  | [a, b, c, d, e, f, g, i, j, k, l], _ => exact ⟨a, b, c, d, e, f, g, i, j, k, l, rfl⟩
theorem three (cs : List Value) (h : cs.length = 3) : ∃ a b c, cs = [a, b, c] := by
  match cs, h with
  | [a, b, c], _ => exact ⟨a, b, c, rfl⟩

set_option maxRecDepth 100000 in
theorem open_ev {H : Type} {enc : TypeId × Value → H} {W : World} {base : Nat} {spare : Nat → Bool} {held : Bool} (fuel : Nat) (cs : List Value) (x : DataW H × List MemPlace)
    (h : DataW.trod enc Try.prog W base spare held fuel 35 cs = some x) : ∃ (e : EV) (vk vn : Int) (vf : Nat) (vs : ByteArray) (A' : Option Addr) (m c : Nat), FieldsOk e ∧ Rep W base W.heap.size e.v (vCells vk vn vf vs A' m c) ∧ cs = (evCells e vk vn vf vs A' m c).toList := by
  have hC : Try.prog.cellsOf 35 = 11 := by kernel_rfl
  obtain ⟨xs, n, hn, hx, hlen, hxl, hg⟩ := DataW.trod_struct Try.underlying35 h
  obtain ⟨c0, c1, c2, c3, c4, c5, c6, c7, c8, c9, c10, rfl⟩ := eleven cs (hlen.trans hC)
  have hx : ∀ j : Nat, j < 7 → ∃ y, xs[j]? = some y := fun j hj => ⟨_, List.getElem?_eq_getElem (by rw [hxl]; exact hj)⟩
  obtain ⟨y0, z0⟩ := hx 0 (by omega); obtain ⟨y1, z1⟩ := hx 1 (by omega); obtain ⟨y2, z2⟩ := hx 2 (by omega); obtain ⟨y3, z3⟩ := hx 3 (by omega); obtain ⟨y4, z4⟩ := hx 4 (by omega); obtain ⟨y5, z5⟩ := hx 5 (by omega); obtain ⟨y6, z6⟩ := hx 6 (by omega)
  have g0 := (hg 0 _ rfl).trans z0; have g1 := (hg 1 _ rfl).trans z1; have g2 := (hg 2 _ rfl).trans z2; have g3 := (hg 3 _ rfl).trans z3; have g4 := (hg 4 _ rfl).trans z4; have g5 := (hg 5 _ rfl).trans z5; have g6 := (hg 6 _ rfl).trans z6
  have k1 : Try.prog.cellsOf 3 = 1 := by kernel_rfl
  have k2 : Try.prog.cellsOf 9 = 1 := by kernel_rfl
  have k3 : Try.prog.cellsOf 33 = 5 := by kernel_rfl
  have k4 : Try.prog.cellsOf 22 = 1 := by kernel_rfl
  simp [k1, k2, k3, k4] at g0 g1 g2 g3 g4 g5 g6
  obtain ⟨k, e0, -, w0⟩ := DataW.trod_int Try.underlying3 g0
  obtain ⟨id, e1, -, w1⟩ := DataW.trod_int Try.underlying22 g1
  obtain ⟨n2, e2, -, w2⟩ := DataW.trod_int Try.underlying3 g2
  obtain ⟨at', e3, -, w3⟩ := DataW.trod_int Try.underlying22 g3
  obtain ⟨nm, e4, -, w4⟩ := DataW.trod_string Try.underlying9 g4
  obtain ⟨tx, e5, -, w5⟩ := DataW.trod_string Try.underlying9 g5
  obtain ⟨t, ht⟩ := Vt.open_vt _ _ _ g6
  obtain rfl := List.singleton_inj.1 e0
  obtain rfl := List.singleton_inj.1 e1
  obtain rfl := List.singleton_inj.1 e2
  obtain rfl := List.singleton_inj.1 e3
  obtain rfl := List.singleton_inj.1 e4
  obtain rfl := List.singleton_inj.1 e5
  simp [Lit.wf, IntKind.min, IntKind.max, IntKind.bits, IntKind.signed] at w0 w1 w2 w3
  obtain ⟨vk, vn, vf, vs, l, A', cap, -, hv, -⟩ := ht.open_
  rw [hv] at ht
  injection hv with hv
  simp at hv
  obtain ⟨rfl, rfl, rfl, rfl, rfl⟩ := hv
  obtain ⟨mid, hmid⟩ : ∃ mn : Nat, id = mn := ⟨id.toNat, by omega⟩
  obtain ⟨mat, hmat⟩ : ∃ mn : Nat, at' = mn := ⟨at'.toNat, by omega⟩
  subst hmid hmat
  exact ⟨⟨k, mid, n2, mat, nm, tx, t⟩, vk, vn, vf, vs, A', l.length, cap, ⟨by show _ ≤ k; omega, by show k ≤ _; omega, by show mid < _; omega, by show _ ≤ n2; omega, by show n2 ≤ _; omega, by show mat < _; omega, w4, w5⟩, ht, rfl⟩

set_option maxRecDepth 100000 in
theorem evs_trod {H : Type} {enc : TypeId × Value → H} {W : World} {b1 : Nat} {spare : Nat → Bool} {held : Bool} (fuel : Nat) (c0 : Value) (x : DataW H × List MemPlace)
    (hf : DataW.trod enc Try.prog W b1 spare held fuel 23 [c0] = some x) : ∃ es A cap, c0 = .slice A es.length cap ∧ EvsIn W A cap es ∧ ((es = [] ∧ x.1 = .nil) ∨ ∃ elems rest, x.1 = .slice elems rest ∧ elems.length = es.length) := by
  have hC : Try.prog.cellsOf 35 = 11 := by kernel_rfl
  rcases DataW.trod_slice Try.underlying23 hf with ⟨e4, rfl⟩ | ⟨a, l0, cp0, elems, rest, n', hn', e4, rfl, hb, hl, hm, hel, he, -, -⟩
  · obtain rfl := List.singleton_inj.1 e4
    exact ⟨[], none, 0, rfl, ⟨Nat.le_refl _, Nat.zero_le _, fun h => absurd h (by simp)⟩, .inl ⟨rfl, rfl⟩⟩
  · obtain rfl := List.singleton_inj.1 e4
    have h4 : ∀ i : Nat, ∃ tC : EV × (Int × Int × Nat × ByteArray × Option Addr × Nat × Nat), i < l0 → FieldsOk tC.1 ∧ Rep W b1 W.heap.size tC.1.v (vCells tC.2.1 tC.2.2.1 tC.2.2.2.1 tC.2.2.2.2.1 tC.2.2.2.2.2.1 tC.2.2.2.2.2.2.1 tC.2.2.2.2.2.2.2) ∧
        ∀ j, j < 11 → W.cell? (a.add (i * 11) |>.add j) = (evCells tC.1 tC.2.1 tC.2.2.1 tC.2.2.2.1 tC.2.2.2.2.1 tC.2.2.2.2.2.1 tC.2.2.2.2.2.2.1 tC.2.2.2.2.2.2.2)[j]? := fun i => by
      by_cases hi : i < l0
      · have e := he i hi
        rw [List.getElem?_eq_getElem (by omega)] at e
        obtain ⟨cs', q1, q2⟩ := Option.bind_eq_some_iff.1 e
        obtain ⟨o, vk, vn, vf, vs, A', m, c, p1, p3, rfl⟩ := open_ev n' cs' _ q2
        rw [hC] at q1
        obtain ⟨_, ql, qc⟩ := World.cells?_some q1
        exact ⟨(o, vk, vn, vf, vs, A', m, c), fun _ => ⟨p1, p3, fun j hj => by rw [qc j hj, Array.getElem?_toList]⟩⟩
      · exact ⟨(⟨0, 0, 0, 0, .empty, .empty, .mk 0 0 0 .empty []⟩, 0, 0, 0, .empty, none, 0, 0), fun h => absurd h hi⟩
    obtain ⟨F, hF⟩ := Classical.axiomOfChoice h4
    have hlen' : ((List.range l0).map fun i => (F i).1).length = l0 := by simp
    refine ⟨(List.range l0).map fun i => (F i).1, some a, cp0, by rw [hlen'], ⟨by rw [hlen']; exact hl, hm, fun hp => ?_⟩, .inr ⟨_, _, rfl, by rw [hlen', List.length_map]; exact hel⟩⟩
    rw [hlen'] at hp
    have h0 := (hF 0 hp).2.2 0 (by omega)
    obtain ⟨b, off, spot⟩ := a
    have hs : spot = none := by
      cases spot with
      | none => rfl
      | some q =>
        simp [Addr.add, World.cell?, evCells] at h0
        split at h0 <;> simp at h0
    subst hs
    have hlt : b < W.heap.size := by
      rcases Nat.lt_or_ge b W.heap.size with q | q
      · exact q
      · simp [Addr.add, World.cell?, Array.getElem?_eq_none q, evCells] at h0
    refine ⟨b, off, rfl, hlt, fun i hi => ?_⟩
    rw [hlen'] at hi
    obtain ⟨p1, p3, p4⟩ := hF i hi
    refine ⟨b1, W.heap.size, _, _, _, _, _, _, _, by simpa using p1, by simpa using p3, Nat.le_refl _, fun j hj => ?_⟩
    have := p4 j hj
    rw [Go.Deep.add_add, add_plain] at this
    rw [Nat.add_assoc, this]
    simp

set_option maxRecDepth 100000 in
/-- A BATCH THAT CAME IN. 'n' bounds what it weighs. -/
theorem batch_open {H : Type} {enc : TypeId × Value → H} {base b1 : Nat} {spare : Nat → Bool} {held : Bool} {d : DataW H} {p : List MemPlace} (v : Value) (W : World)
    (o : Value.okWide Try.prog W .any base 25 v) (k : DataW.Trod enc Try.prog W b1 spare held 25 v d p) (hsz : ∀ x ∈ d.weights Try.prog 25, x ≤ reachBytes) :
    ∃ (f : ByteArray) (at' : Nat) (es : List EV) (A : Option Addr) (cap : Nat), v = .agg #[.string f, .int .u64 at', .slice A es.length cap] ∧ f.size ≤ maxLen ∧ at' < 18446744073709551616 ∧ EvsIn W A cap es ∧ es.length ≤ 1099511627775 ∧
      ∃ x0 x1 x2, d = .agg [x0, x1, x2] ∧ ((es = [] ∧ x2 = .nil) ∨ ∃ elems rest, x2 = .slice elems rest ∧ elems.length = es.length) := by
  have hC : Try.prog.cellsOf 25 = 3 := by kernel_rfl
  have hB : Try.prog.bytesOf 35 = 128 := by kernel_rfl
  obtain ⟨cs0, rfl, -⟩ := okWide_struct Try.underlying25 o
  obtain ⟨fuel, hf⟩ := k
  have hcs : (Value.agg cs0).cells.toList = cs0.toList := rfl
  rw [hcs] at hf
  obtain ⟨xs, n, hn, hx, hlen, hxl, hg⟩ := DataW.trod_struct Try.underlying25 hf
  obtain ⟨c0, c1, c2, e⟩ := three cs0.toList (hlen.trans hC)
  obtain ⟨x0, x1, x2, rfl⟩ : ∃ x0 x1 x2, xs = [x0, x1, x2] := by
    have : xs.length = 3 := hxl
    match xs, this with
    | [a, b, c], _ => exact ⟨a, b, c, rfl⟩
  have g0 := hg 0 _ rfl; have g1 := hg 1 _ rfl; have g2 := hg 2 _ rfl
  have k2 : Try.prog.cellsOf 9 = 1 := by kernel_rfl
  have k3 : Try.prog.cellsOf 23 = 1 := by kernel_rfl
  have k4 : Try.prog.cellsOf 22 = 1 := by kernel_rfl
  rw [e] at g0 g1 g2
  simp [k2, k3, k4] at g0 g1 g2
  obtain ⟨s, e0, -, w0⟩ := DataW.trod_string Try.underlying9 g0
  obtain ⟨m, e1, -, w1⟩ := DataW.trod_int Try.underlying22 g1
  obtain rfl := List.singleton_inj.1 e0
  obtain rfl := List.singleton_inj.1 e1
  simp [Lit.wf, IntKind.min, IntKind.max, IntKind.bits, IntKind.signed] at w1
  obtain ⟨es, A, cap, rfl, hes, hd⟩ := evs_trod n c2 x2 g2
  obtain ⟨mn, hmn⟩ : ∃ mn : Nat, m = mn := ⟨m.toNat, by omega⟩
  subst hmn
  have hdd : d = .agg [x0.1, x1.1, x2.1] := by injection hx
  refine ⟨s, mn, es, A, cap, ?_, w0, by omega, hes, ?_, x0.1, x1.1, x2.1, hdd, hd⟩
  · have : cs0 = #[.string s, .int .u64 mn, .slice A es.length cap] := by
      apply Array.toList_inj.1
      exact e
    rw [this]
  · rcases hd with ⟨rfl, -⟩ | ⟨elems, rest, h2, hl⟩
    · simp
    · have hw : ((elems.length + rest.length) * Try.prog.bytesOf 35) ∈ d.weights Try.prog 25 := by
        rw [hdd]
        have hu := Try.underlying25
        unfold DataW.weights
        rw [hu]
        refine DataW.weights_mem_each (j := 2) (t := 23) rfl (d := x2.1) rfl _ ?_
        rw [h2]
        have hu2 := Try.underlying23
        simp [DataW.weights, hu2]
      have h9 := hsz _ hw
      rw [hB, hl] at h9
      have := reachBytes_lt
      simp only [reachBytes] at h9
      omega
set_option maxRecDepth 100000 in
theorem clones_open {H : Type} {enc : TypeId × Value → H} {base b1 : Nat} {spare : Nat → Bool} {held : Bool} {d0 : DataW H} {p0 : List MemPlace} (v0 : Value) (W : World)
    (o0 : Value.okWide Try.prog W .any base 25 v0) (k0 : DataW.Trod enc Try.prog W b1 spare held 25 v0 d0 p0) (hs0 : ∀ x ∈ d0.weights Try.prog 25, x ≤ reachBytes) :
    Calls Try.prog 3 #[v0] W fun e w' => e = .returned (.bool true) ∧ Below W.heap.size W w' := by
  obtain ⟨f, at', es, A, cap, rfl, hf, hat, hes, hl, -⟩ := batch_open v0 W o0 k0 hs0
  exact clones_walk es hl f hf at' hat A cap W hes
end Cn
end Go.Proofs.Ytpneejlilgepfaa
