/- RetryLater: the walk, and the opening of a policy. -/
import Derived.Test.YtdibokeinmhmbaaDoorRtF
import Derived.Laws.Cover2
import Derived.Lib.SmallJoins
namespace Go.Proofs.YtdibokeinmhmbaaDoor
open Go.RowKit
namespace Rt
open Nm (ret_int ret_bool scaleW addW)

theorem addW_gt (now d : Nat) (h : now < 9223372036854775807) : now < addW now (max d 1) := by
  unfold addW; split <;> omega

attribute [local go_sem] run_store_float
open Go.ChangeShapes Go.WideShapes Go.ChangeAt Go.Joins Go.Deep in
theorem float_cell {H : Type} {enc : TypeId × Value → H} {P : Program} {W : World} {base : Nat} {spare : Nat → Bool} {held : Bool} {t : TypeId} {k : FloatKind} {v : Value} {y : DataW H × List MemPlace} {n : Nat}
    (ht : P.underlying t = some (.float k)) (h : DataW.trod enc P W base spare held n t [v] = some y) : ∃ b, v = .float k b ∧ (Lit.float k b).wf = true := by
  cases n with
  | zero => simp [DataW.trod] at h
  | succ n =>
    cases v <;> simp [DataW.trod, ht] at h
    all_goals first | exact ⟨_, by rw [← h.1.1], by simpa [h.1.1] using h.1⟩ | (rename_i k' b; by_cases hk : k' = k <;> simp_all)

set_option maxRecDepth 100000 in
open Go.ChangeShapes Go.WideShapes Go.ChangeAt Go.Joins Go.Deep in
theorem policy_open {H : Type} {enc : TypeId × Value → H} {base b1 : Nat} {spare : Nat → Bool} {held : Bool} {d : DataW H} {p : List MemPlace} (v : Value) (W : World)
    (o : Value.okWide Tryd.prog W .any base 25 v) (k : DataW.Trod enc Tryd.prog W b1 spare held 25 v d p) :
    ∃ (most : Int) (wt fb lim tmo : Nat), v = pol most wt fb lim tmo ∧ wt < 18446744073709551616 ∧ fb < 18446744073709551616 ∧ lim < 18446744073709551616 ∧ tmo < 18446744073709551616 := by
  obtain ⟨cs, rfl, hsz⟩ := okWide_struct Tryd.underlying25 o
  have hC : Tryd.prog.cellsOf 25 = 5 := by kernel_rfl
  rw [hC] at hsz
  obtain ⟨fuel, hf⟩ := k
  obtain ⟨xs, n, _, _, _, hlen, hg⟩ := DataW.trod_struct Tryd.underlying25 hf
  obtain ⟨l⟩ := cs
  match l, hsz with
  | [c0, c1, c2, c3, c4], _ =>
    have one : ∀ (i : Nat) (hi : i < 5) (y : DataW H × List MemPlace), xs[i]? = some y → True := fun _ _ _ _ => trivial
    have g0 := hg 0 _ rfl
    have g1 := hg 1 _ rfl
    have g2 := hg 2 _ rfl
    have g3 := hg 3 _ rfl
    have g4 := hg 4 _ rfl
    have c1' : Tryd.prog.cellsOf 3 = 1 := by kernel_rfl
    have c2' : Tryd.prog.cellsOf 22 = 1 := by kernel_rfl
    have c3' : Tryd.prog.cellsOf 23 = 1 := by kernel_rfl
    match xs, hlen with
    | [y0, y1, y2, y3, y4], _ =>
      simp [Value.cells, c1', c2', c3'] at g0 g1 g2 g3 g4
      obtain ⟨a0, e0, _, w0⟩ := DataW.trod_int Tryd.underlying3 g0
      obtain ⟨a1, e1, _, w1⟩ := DataW.trod_int Tryd.underlying22 g1
      obtain ⟨a2, e2, w2⟩ := float_cell Tryd.underlying23 g2
      obtain ⟨a3, e3, _, w3⟩ := DataW.trod_int Tryd.underlying22 g3
      obtain ⟨a4, e4, _, w4⟩ := DataW.trod_int Tryd.underlying22 g4
      simp at e0 e1 e3 e4
      subst e0 e1 e2 e3 e4
      simp [Lit.wf, IntKind.min, IntKind.max, IntKind.bits, IntKind.signed] at w1 w3 w4
      simp [Lit.wf] at w2
      refine ⟨a0, a1.toNat, a2, a3.toNat, a4.toNat, ?_, by omega, ?_, by omega, by omega⟩
      · unfold pol
        rw [Int.toNat_of_nonneg w1.1, Int.toNat_of_nonneg w3.1, Int.toNat_of_nonneg w4.1]
      · exact w2

end Rt
end Go.Proofs.YtdibokeinmhmbaaDoor
