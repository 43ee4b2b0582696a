/- A list of calls that came in, opened. -/
import Derived.Test.YtpnepnhajpmccaaCwR
import Derived.ChangeMaps5
import Derived.ChangeArms
import Derived.Deep.Draws
import Derived.ProofKit
import Derived.OpenShut
import Derived.Lib.SmallJoins
namespace Go.Proofs.Ytpnepnhajpmccaa
open Go.RowKit
set_option linter.unusedVariables false
namespace Cm
open Vt (VT Rep)
open Ev (vCells)
open Go.ChangeShapes Go.WideShapes Go.ChangeAt Go.Joins Go.Deep

theorem eight (cs : List Value) (h : cs.length = 8) : ∃ a b c d e f g i, cs = [a, b, c, d, e, f, g, i] := by
  match cs, h with
  | [a, b, c, d, e, f, g, i], _ => exact ⟨a, b, c, d, e, f, g, i, rfl⟩

set_option maxRecDepth 100000 in
theorem open_op {H : Type} {enc : TypeId × Value → H} {W : World} {base : Nat} {spare : Nat → Bool} {held : Bool} (fuel : Nat) (cs : List Value) (x : DataW H × List MemPlace)
    (h : DataW.trod enc Try.prog W base spare held fuel 36 cs = some x) : ∃ (o : OpT) (vk vn : Int) (vf : Nat) (vs : ByteArray) (A' : Option Addr) (m c : Nat), o.text.size ≤ maxLen ∧ o.n < 18446744073709551616 ∧ Rep W base W.heap.size o.v (vCells vk vn vf vs A' m c) ∧ cs = (opCells o vk vn vf vs A' m c).toList := by
  have hC : Try.prog.cellsOf 36 = 8 := by kernel_rfl
  obtain ⟨xs, n, hn, hx, hlen, hxl, hg⟩ := DataW.trod_struct Try.underlying36 h
  obtain ⟨c0, c1, c2, c3, c4, c5, c6, c7, rfl⟩ := eight cs (hlen.trans hC)
  have hx : ∀ j : Nat, j < 4 → ∃ y, xs[j]? = some y := fun j hj => ⟨_, List.getElem?_eq_getElem (by rw [hxl]; exact hj)⟩
  obtain ⟨y0, z0⟩ := hx 0 (by omega); obtain ⟨y1, z1⟩ := hx 1 (by omega); obtain ⟨y2, z2⟩ := hx 2 (by omega); obtain ⟨y3, z3⟩ := hx 3 (by omega)
  have g0 := (hg 0 _ rfl).trans z0; have g1 := (hg 1 _ rfl).trans z1; have g2 := (hg 2 _ rfl).trans z2; have g3 := (hg 3 _ rfl).trans z3
  have k1 : Try.prog.cellsOf 3 = 1 := by kernel_rfl
  have k2 : Try.prog.cellsOf 9 = 1 := by kernel_rfl
  have k3 : Try.prog.cellsOf 34 = 5 := by kernel_rfl
  have k4 : Try.prog.cellsOf 22 = 1 := by kernel_rfl
  simp [k1, k2, k3, k4] at g0 g1 g2 g3
  obtain ⟨k, e0, -, w0⟩ := DataW.trod_int Try.underlying3 g0
  obtain ⟨s, e1, -, w1⟩ := DataW.trod_string Try.underlying9 g1
  obtain ⟨t, ht⟩ := Vt.open_vt _ _ _ g2
  obtain ⟨m, e3, -, w3⟩ := DataW.trod_int Try.underlying22 g3
  obtain rfl := List.singleton_inj.1 e0
  obtain rfl := List.singleton_inj.1 e1
  obtain rfl := List.singleton_inj.1 e3
  simp [Lit.wf, IntKind.min, IntKind.max, IntKind.bits, IntKind.signed] at w0 w3
  obtain ⟨vk, vn, vf, vs, l, A', cap, -, hv, -⟩ := ht.open_
  rw [hv] at ht
  injection hv with hv
  simp at hv
  obtain ⟨rfl, rfl, rfl, rfl, rfl⟩ := hv
  obtain ⟨mn, hmn⟩ : ∃ mn : Nat, m = mn := ⟨m.toNat, by omega⟩
  subst hmn
  exact ⟨⟨k, s, t, mn⟩, vk, vn, vf, vs, A', l.length, cap, w1, by show mn < _; omega, ht, rfl⟩

set_option maxRecDepth 100000 in
theorem ops_open {H : Type} {enc : TypeId × Value → H} {base b1 : Nat} {spare : Nat → Bool} {held : Bool} {d : DataW H} {p : List MemPlace} (v : Value) (W : World)
    (o : Value.okWide Try.prog W .any base 23 v) (k : DataW.Trod enc Try.prog W b1 spare held 23 v d p) :
    ∃ ops A cap, v = .slice A ops.length cap ∧ OpsIn W 0 W.heap.size A cap ops := by
  have hC : Try.prog.cellsOf 36 = 8 := by kernel_rfl
  obtain ⟨a0, l0, cp0, rfl⟩ := okWide_slice Try.underlying23 o
  obtain ⟨fuel, hf⟩ := k
  have hcs : (Value.slice a0 l0 cp0).cells.toList = [.slice a0 l0 cp0] := rfl
  rw [hcs] at hf
  rcases DataW.trod_slice Try.underlying23 hf with ⟨e4, -⟩ | ⟨a, len, cap, elems, rest, n', hn', e4, -, hb, hl, hm, hel, he, -, -⟩
  · injection List.singleton_inj.1 e4 with q1 q2 q3
    subst q1 q2 q3
    exact ⟨[], none, 0, rfl, ⟨Nat.le_refl _, Nat.zero_le _, Nat.le_refl _, fun h => absurd h (by simp)⟩⟩
  · injection List.singleton_inj.1 e4 with q1 q2 q3
    subst q1 q2 q3
    have h4 : ∀ i : Nat, ∃ tC : OpT × (Int × Int × Nat × ByteArray × Option Addr × Nat × Nat), i < l0 → tC.1.text.size ≤ maxLen ∧ tC.1.n < 18446744073709551616 ∧ Rep W b1 W.heap.size tC.1.v (vCells tC.2.1 tC.2.2.1 tC.2.2.2.1 tC.2.2.2.2.1 tC.2.2.2.2.2.1 tC.2.2.2.2.2.2.1 tC.2.2.2.2.2.2.2) ∧
        ∀ j, j < 8 → W.cell? (a.add (i * 8) |>.add j) = (opCells tC.1 tC.2.1 tC.2.2.1 tC.2.2.2.1 tC.2.2.2.2.1 tC.2.2.2.2.2.1 tC.2.2.2.2.2.2.1 tC.2.2.2.2.2.2.2)[j]? := fun i => by
      by_cases hi : i < l0
      · have e := he i hi
        rw [List.getElem?_eq_getElem (by omega)] at e
        obtain ⟨cs', q1, q2⟩ := Option.bind_eq_some_iff.1 e
        obtain ⟨o, vk, vn, vf, vs, A', m, c, p1, p2, p3, rfl⟩ := open_op n' cs' _ q2
        rw [hC] at q1
        obtain ⟨_, ql, qc⟩ := World.cells?_some q1
        exact ⟨(o, vk, vn, vf, vs, A', m, c), fun _ => ⟨p1, p2, p3, fun j hj => by rw [qc j hj, Array.getElem?_toList]⟩⟩
      · exact ⟨(⟨0, .empty, .mk 0 0 0 .empty [], 0⟩, 0, 0, 0, .empty, none, 0, 0), fun h => absurd h hi⟩
    obtain ⟨F, hF⟩ := Classical.axiomOfChoice h4
    have hlen' : ((List.range l0).map fun i => (F i).1).length = l0 := by simp
    refine ⟨(List.range l0).map fun i => (F i).1, some a, cp0, by rw [hlen'], ⟨by rw [hlen']; exact hl, hm, Nat.le_refl _, fun hp => ?_⟩⟩
    rw [hlen'] at hp
    have h0 := (hF 0 hp).2.2.2 0 (by omega)
    obtain ⟨b, off, spot⟩ := a
    have hs : spot = none := by
      cases spot with
      | none => rfl
      | some q =>
        simp [Addr.add, World.cell?, opCells] at h0
        split at h0 <;> simp at h0
    subst hs
    have hlt : b < W.heap.size := by
      rcases Nat.lt_or_ge b W.heap.size with q | q
      · exact q
      · simp [Addr.add, World.cell?, Array.getElem?_eq_none q, opCells] at h0
    refine ⟨b, off, rfl, hlt, fun i hi => ?_⟩
    rw [hlen'] at hi
    obtain ⟨p1, p2, p3, p4⟩ := hF i hi
    refine ⟨_, _, _, _, _, _, _, by simpa using p1, by simpa using p2, by simpa using p3.more (Nat.zero_le _) (Nat.le_refl _), fun j hj => ?_⟩
    have := p4 j hj
    rw [Go.Deep.add_add, add_plain] at this
    rw [Nat.add_assoc, this]
    simp
end Cm
end Go.Proofs.Ytpnepnhajpmccaa
