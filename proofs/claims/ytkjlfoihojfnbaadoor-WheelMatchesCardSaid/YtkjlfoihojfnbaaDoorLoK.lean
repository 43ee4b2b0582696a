/- Items that came in, opened. -/
import Derived.Test.YtkjlfoihojfnbaaDoorLoC
import Derived.ChangeMaps5
import Derived.ChangeArms
import Derived.Deep.Draws
import Derived.ProofKit
import Derived.OpenShut
import Derived.Laws.Cover2
import Derived.Lib.SmallJoins
namespace Go.Proofs.YtkjlfoihojfnbaaDoor
open Go.RowKit
set_option linter.unusedVariables false
namespace Lo
open Go.ChangeShapes Go.WideShapes Go.ChangeAt Go.Joins Go.Deep
/-- Items that came in. -/
def ItemsIn (w : World) (A : Option Addr) (cap : Nat) (l : List (Nat × Nat)) : Prop := l.length ≤ cap ∧ (∀ x ∈ l, x.1 < 18446744073709551616 ∧ x.2 < 18446744073709551616) ∧
  ∀ (j : Nat) (hj : j < l.length), ∃ g o, A = some ⟨g, o, none⟩ ∧ g < w.heap.size ∧ w.cell? ⟨g, o + j * 2, none⟩ = some (.int .u64 (l[j].1 : Nat)) ∧ w.cell? ⟨g, o + (j * 2 + 1), none⟩ = some (.int .u64 (l[j].2 : Nat))
set_option maxRecDepth 100000 in
theorem open_item {H : Type} {enc : TypeId × Value → H} {W : World} {base : Nat} {spare : Nat → Bool} {held : Bool} (fuel : Nat) (cs : List Value) (x : DataW H × List MemPlace)
    (h : DataW.trod enc Tryd.prog W base spare held fuel 29 cs = some x) : ∃ (a b : Nat), a < 18446744073709551616 ∧ b < 18446744073709551616 ∧ cs = [.int .u64 (a : Nat), .int .u64 (b : Nat)] := by
  have hC : Tryd.prog.cellsOf 29 = 2 := by kernel_rfl
  obtain ⟨xs, n, hn, hx, hlen, hxl, hg⟩ := DataW.trod_struct Tryd.underlying29 h
  obtain ⟨c0, c1, rfl⟩ : ∃ a b, cs = [a, b] := by
    match cs, hlen.trans hC with
    | [a, b], _ => exact ⟨a, b, rfl⟩
  have hx : ∀ j : Nat, j < 2 → ∃ y, xs[j]? = some y := fun j hj => ⟨_, List.getElem?_eq_getElem (by rw [hxl]; exact hj)⟩
  obtain ⟨y0, z0⟩ := hx 0 (by omega); obtain ⟨y1, z1⟩ := hx 1 (by omega)
  have g0 := (hg 0 _ rfl).trans z0; have g1 := (hg 1 _ rfl).trans z1
  have k4 : Tryd.prog.cellsOf 27 = 1 := by kernel_rfl
  simp [k4] at g0 g1
  obtain ⟨k, e0, -, w0⟩ := DataW.trod_int Tryd.underlying27 g0
  obtain ⟨m, e1, -, w1⟩ := DataW.trod_int Tryd.underlying27 g1
  obtain rfl := List.singleton_inj.1 e0
  obtain rfl := List.singleton_inj.1 e1
  simp [Lit.wf, IntKind.min, IntKind.max, IntKind.bits, IntKind.signed] at w0 w1
  exact ⟨k.toNat, m.toNat, by omega, by omega, by rw [Int.toNat_of_nonneg w0.1, Int.toNat_of_nonneg w1.1]⟩
set_option maxRecDepth 100000 in
theorem items_open {H : Type} {enc : TypeId × Value → H} {base b1 : Nat} {spare : Nat → Bool} {held : Bool} {d : DataW H} {p : List MemPlace} (v : Value) (W : World)
    (o : Value.okWide Tryd.prog W .any base 26 v) (k : DataW.Trod enc Tryd.prog W b1 spare held 26 v d p) :
    ∃ l A cap, v = .slice A l.length cap ∧ ItemsIn W A cap l ∧ l.length ≤ 9223372036854775807 := by
  have hC : Tryd.prog.cellsOf 29 = 2 := by kernel_rfl
  obtain ⟨a0, l0, cp0, rfl⟩ := okWide_slice Tryd.underlying26 o
  obtain ⟨fuel, hf⟩ := k
  have hcs : (Value.slice a0 l0 cp0).cells.toList = [.slice a0 l0 cp0] := rfl
  rw [hcs] at hf
  rcases DataW.trod_slice Tryd.underlying26 hf with ⟨e4, -⟩ | ⟨a, len, cap, elems, rest, n', hn', e4, -, hb, hl, hm, hel, he, -, -⟩
  · injection List.singleton_inj.1 e4 with q1 q2 q3
    subst q1 q2 q3
    exact ⟨[], none, 0, rfl, ⟨Nat.le_refl _, fun x hx => by simp at hx, fun j hj => by simp at hj⟩, by simp⟩
  · injection List.singleton_inj.1 e4 with q1 q2 q3
    subst q1 q2 q3
    have h4 : ∀ i : Nat, ∃ x : Nat × Nat, i < l0 → (x.1 < 18446744073709551616 ∧ x.2 < 18446744073709551616) ∧ ∀ j, j < 2 → W.cell? (a.add (i * 2) |>.add j) = ([.int .u64 (x.1 : Nat), .int .u64 (x.2 : Nat)] : List Value)[j]? := fun i => by
      by_cases hi : i < l0
      · have e := he i hi
        rw [List.getElem?_eq_getElem (by omega)] at e
        obtain ⟨cs', q1, q2⟩ := Option.bind_eq_some_iff.1 e
        obtain ⟨x1, x2, p1, p2, rfl⟩ := open_item n' cs' _ q2
        rw [hC] at q1
        obtain ⟨_, ql, qc⟩ := World.cells?_some q1
        exact ⟨(x1, x2), fun _ => ⟨⟨p1, p2⟩, fun j hj => qc j hj⟩⟩
      · exact ⟨(0, 0), fun h => absurd h hi⟩
    obtain ⟨F, hF⟩ := Classical.axiomOfChoice h4
    have hlen' : ((List.range l0).map F).length = l0 := by simp
    refine ⟨(List.range l0).map F, some a, cp0, by rw [hlen'], ⟨by rw [hlen']; exact hl, fun x hx => ?_, fun i hi => ?_⟩, by rw [hlen']; simp only [maxLen] at hm; omega⟩
    · obtain ⟨i, hi, rfl⟩ := List.mem_map.1 hx
      exact (hF i (List.mem_range.1 hi)).1
    · rw [hlen'] at hi
      have h0 := (hF 0 (by omega)).2 0 (by omega)
      obtain ⟨b, off, spot⟩ := a
      have hs : spot = none := by
        cases spot with
        | none => rfl
        | some q =>
          simp [Addr.add, World.cell?] at h0
          split at h0 <;> simp at h0
      subst hs
      have hlt : b < W.heap.size := by
        rcases Nat.lt_or_ge b W.heap.size with q | q
        · exact q
        · simp [Addr.add, World.cell?, Array.getElem?_eq_none q] at h0
      have c0 := (hF i hi).2 0 (by omega)
      have c1 := (hF i hi).2 1 (by omega)
      rw [Go.Deep.add_add, add_plain] at c0 c1
      exact ⟨b, off, rfl, hlt, by simpa using c0, by simpa using c1⟩
end Lo
end Go.Proofs.YtkjlfoihojfnbaaDoor
