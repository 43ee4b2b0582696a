/- LevelMatches' operations that came in, opened. -/
import Derived.Test.YtkjlfoihojfnbaaDoorLoK
namespace Go.Proofs.YtkjlfoihojfnbaaDoor
open Go.RowKit
set_option linter.unusedVariables false
namespace Lo
open Go.ChangeShapes Go.WideShapes Go.ChangeAt Go.Joins Go.Deep
structure LOp where
  k : Int
  x : Nat × Nat
  n : Int
def LOp.ok (o : LOp) : Prop := (-9223372036854775808 ≤ o.k ∧ o.k ≤ 9223372036854775807) ∧ (o.x.1 < 18446744073709551616 ∧ o.x.2 < 18446744073709551616) ∧ (-9223372036854775808 ≤ o.n ∧ o.n ≤ 9223372036854775807)
def opc (o : LOp) : List Value := [.int .i64 o.k, .int .u64 (o.x.1 : Nat), .int .u64 (o.x.2 : Nat), .int .i64 o.n]
/-- Operations that came in. -/
def LOpsIn (w : World) (A : Option Addr) (cap : Nat) (l : List LOp) : Prop := l.length ≤ cap ∧ (∀ o ∈ l, o.ok) ∧
  ∀ (j : Nat) (hj : j < l.length), ∃ g o, A = some ⟨g, o, none⟩ ∧ g < w.heap.size ∧ w.cell? ⟨g, o + j * 4, none⟩ = some (.int .i64 l[j].k) ∧ w.cell? ⟨g, o + j * 4 + 1, none⟩ = some (.int .u64 (l[j].x.1 : Nat)) ∧
    w.cell? ⟨g, o + j * 4 + 2, none⟩ = some (.int .u64 (l[j].x.2 : Nat)) ∧ w.cell? ⟨g, o + j * 4 + 3, none⟩ = some (.int .i64 l[j].n)
set_option maxRecDepth 100000 in
theorem open_lop {H : Type} {enc : TypeId × Value → H} {W : World} {base : Nat} {spare : Nat → Bool} {held : Bool} (fuel : Nat) (cs : List Value) (x : DataW H × List MemPlace)
    (h : DataW.trod enc Tryd.prog W base spare held fuel 31 cs = some x) : ∃ o : LOp, o.ok ∧ cs = opc o := by
  have hC : Tryd.prog.cellsOf 31 = 4 := by kernel_rfl
  obtain ⟨xs, n, hn, hx, hlen, hxl, hg⟩ := DataW.trod_struct Tryd.underlying31 h
  obtain ⟨c0, c1, c2, c3, rfl⟩ : ∃ a b c d, cs = [a, b, c, d] := by
    match cs, hlen.trans hC with
    | [a, b, c, d], _ => exact ⟨a, b, c, d, rfl⟩
  have hx : ∀ j : Nat, j < 3 → ∃ y, xs[j]? = some y := fun j hj => ⟨_, List.getElem?_eq_getElem (by rw [hxl]; exact hj)⟩
  obtain ⟨y0, z0⟩ := hx 0 (by omega); obtain ⟨y1, z1⟩ := hx 1 (by omega); obtain ⟨y2, z2⟩ := hx 2 (by omega)
  have g0 := (hg 0 _ rfl).trans z0; have g1 := (hg 1 _ rfl).trans z1; have g2 := (hg 2 _ rfl).trans z2
  have k1 : Tryd.prog.cellsOf 3 = 1 := by kernel_rfl
  have k2 : Tryd.prog.cellsOf 29 = 2 := by kernel_rfl
  simp [k1, k2] at g0 g1 g2
  obtain ⟨k, e0, -, w0⟩ := DataW.trod_int Tryd.underlying3 g0
  obtain ⟨a, b, ha, hb, e1⟩ := open_item _ _ _ g1
  obtain ⟨m, e2, -, w2⟩ := DataW.trod_int Tryd.underlying3 g2
  obtain rfl := List.singleton_inj.1 e0
  obtain rfl := List.singleton_inj.1 e2
  injection e1 with e1 e3
  injection e3 with e3 e4
  subst e1 e3
  simp [Lit.wf, IntKind.min, IntKind.max, IntKind.bits, IntKind.signed] at w0 w2
  exact ⟨⟨k, (a, b), m⟩, ⟨by omega, ⟨ha, hb⟩, by omega⟩, rfl⟩
set_option maxRecDepth 100000 in
theorem lops_open {H : Type} {enc : TypeId × Value → H} {base b1 : Nat} {spare : Nat → Bool} {held : Bool} {d : DataW H} {p : List MemPlace} (v : Value) (W : World)
    (o : Value.okWide Tryd.prog W .any base 22 v) (k : DataW.Trod enc Tryd.prog W b1 spare held 22 v d p) :
    ∃ l A cap, v = .slice A l.length cap ∧ LOpsIn W A cap l ∧ l.length ≤ 9223372036854775807 := by
  have hC : Tryd.prog.cellsOf 31 = 4 := by kernel_rfl
  obtain ⟨a0, l0, cp0, rfl⟩ := okWide_slice Tryd.underlying22 o
  obtain ⟨fuel, hf⟩ := k
  have hcs : (Value.slice a0 l0 cp0).cells.toList = [.slice a0 l0 cp0] := rfl
  rw [hcs] at hf
  rcases DataW.trod_slice Tryd.underlying22 hf with ⟨e4, -⟩ | ⟨a, len, cap, elems, rest, n', hn', e4, -, hb, hl, hm, hel, he, -, -⟩
  · injection List.singleton_inj.1 e4 with q1 q2 q3
    subst q1 q2 q3
    exact ⟨[], none, 0, rfl, ⟨Nat.le_refl _, fun x hx => by simp at hx, fun j hj => by simp at hj⟩, by simp⟩
  · injection List.singleton_inj.1 e4 with q1 q2 q3
    subst q1 q2 q3
    have h4 : ∀ i : Nat, ∃ x : LOp, i < l0 → x.ok ∧ ∀ j, j < 4 → W.cell? (a.add (i * 4) |>.add j) = (opc x)[j]? := fun i => by
      by_cases hi : i < l0
      · have e := he i hi
        rw [List.getElem?_eq_getElem (by omega)] at e
        obtain ⟨cs', q1, q2⟩ := Option.bind_eq_some_iff.1 e
        obtain ⟨x, p1, rfl⟩ := open_lop n' cs' _ q2
        rw [hC] at q1
        obtain ⟨_, ql, qc⟩ := World.cells?_some q1
        exact ⟨x, fun _ => ⟨p1, fun j hj => qc j hj⟩⟩
      · exact ⟨⟨0, (0, 0), 0⟩, fun h => absurd h hi⟩
    obtain ⟨F, hF⟩ := Classical.axiomOfChoice h4
    have hlen' : ((List.range l0).map F).length = l0 := by simp
    refine ⟨(List.range l0).map F, some a, cp0, by rw [hlen'], ⟨by rw [hlen']; exact hl, fun x hx => ?_, fun i hi => ?_⟩, by rw [hlen']; simp only [maxLen] at hm; omega⟩
    · obtain ⟨i, hi, rfl⟩ := List.mem_map.1 hx
      exact (hF i (List.mem_range.1 hi)).1
    · rw [hlen'] at hi
      have h0 := (hF 0 (by omega)).2 0 (by omega)
      obtain ⟨b, off, spot⟩ := a
      have hs : spot = none := by
        cases spot with
        | none => rfl
        | some q =>
          simp [Addr.add, World.cell?, opc] at h0
          split at h0 <;> simp at h0
      subst hs
      have hlt : b < W.heap.size := by
        rcases Nat.lt_or_ge b W.heap.size with q | q
        · exact q
        · simp [Addr.add, World.cell?, Array.getElem?_eq_none q, opc] at h0
      have c0 := (hF i hi).2 0 (by omega)
      have c1 := (hF i hi).2 1 (by omega)
      have c2 := (hF i hi).2 2 (by omega)
      have c3 := (hF i hi).2 3 (by omega)
      rw [Go.Deep.add_add, add_plain] at c0 c1 c2 c3
      simp only [← Nat.add_assoc, Nat.add_zero] at c0 c1 c2 c3
      refine ⟨b, off, rfl, hlt, ?_, ?_, ?_, ?_⟩
      · simpa [opc] using c0
      · simpa [opc] using c1
      · simpa [opc] using c2
      · simpa [opc] using c3
end Lo
end Go.Proofs.YtkjlfoihojfnbaaDoor
