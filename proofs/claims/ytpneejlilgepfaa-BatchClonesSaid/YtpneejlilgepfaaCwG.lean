/- The package of statements: alive; what is valid. -/
import Derived.Test.YtpneejlilgepfaaCwF
import Derived.Test.YtpneejlilgepfaaVtD
import Derived.Test.YtpneejlilgepfaaVtC
namespace Go.Proofs.Ytpneejlilgepfaa
open Go.RowKit
set_option linter.unusedVariables false
namespace Cm
variable {X : Nat → Prop}
open Nm (ret_int ret_bool)
open Vt (VT Rep BoxAt below_drew Cloned put5)
open Ev (EV FieldsOk evCells vCells EBox ERep zeroT)

theorem sched_valid (name : ByteArray) (t : VT) (n : Nat) (hn : 0 < n) : (withId (schedE name t) n).valid = ((!name.toList.isEmpty && decide (name.size ≤ 1000)) && t.valid 8) := by
  simp [Ev.EV.valid, schedE, withId, Ev.goodL, Ev.fieldsOf, Ev.pickB, hn]
  rfl
theorem compl_valid (t : VT) : (complE t).valid = t.valid 8 := by
  simp [Ev.EV.valid, complE, Ev.goodL, Ev.fieldsOf, Ev.pickB]
theorem zero_same : VT.same zeroT zeroT = true := by
  unfold zeroT
  rw [Vt.same_mk]
  simp
theorem arm_valid (n k : Nat) (hk : 0 < k) (hn : n ≤ 9223372036854775807) : (withId (armE n) k).valid = true := by
  simp [Ev.EV.valid, armE, withId, Ev.goodL, Ev.fieldsOf, Ev.pickB, hk, hn, zero_same]
theorem shortOf_le (s : ByteArray) : (shortOf s).size ≤ 1000 := by
  unfold shortOf
  split
  · assumption
  · rw [ByteArray.size_extract]; omega
theorem fail_valid (s : ByteArray) : (failE s).valid = true := by
  simp [Ev.EV.valid, failE, Ev.goodL, Ev.fieldsOf, Ev.pickB, shortOf_le, zero_same]
theorem panic_valid (s : ByteArray) : (panicE s).valid = true := by
  simp [Ev.EV.valid, panicE, Ev.goodL, Ev.fieldsOf, Ev.pickB, shortOf_le, zero_same]

/-- The cells of element j of a list of events. -/
theorem evs_cells {w : World} {base : Nat} {A : Option Addr} {cap n : Nat} {es : List EV} (h : EvsAt w base A cap n es) (j : Nat) (hj : j < es.length) :
    ∃ r lo hi vk vn vf vs A' m c, A = some ⟨r, 0, none⟩ ∧ r < w.heap.size ∧ base ≤ r ∧ base ≤ lo ∧ (r < lo ∨ hi ≤ r) ∧ (0 < es[j].v.l.length → ∀ b off, A' = some ⟨b, off, none⟩ → ∀ o, w.frozen? ⟨b, o, none⟩ = false) ∧ FieldsOk es[j] ∧ Rep w lo hi es[j].v (vCells vk vn vf vs A' m c) ∧ hi ≤ w.heap.size ∧ n ≤ cap ∧ cap ≤ maxLen ∧ ∀ q, q < 11 → w.cell? ⟨r, j * 11 + q, none⟩ = (evCells es[j] vk vn vf vs A' m c)[q]? := by
  obtain ⟨h0, xs, h1, h3⟩ := h
  obtain ⟨lo, hi, vk, vn, vf, vs, A', m, c, p0, p1, p2, p3, p5, pf, p6⟩ := h3 j hj
  rcases h1.2 with ⟨-, h0'⟩ | ⟨r, cp, cur, q1, q2, q3, q4, q5, q6, q7⟩
  · omega
  · injection q1 with q1 _ q1'
    subst q1'
    refine ⟨r, lo, hi, vk, vn, vf, vs, A', m, c, q1, (Array.getElem?_eq_some_iff.1 q3).1, q2, p0, p5 r (by rw [q1]; rfl), pf, p1, p2, p3, q4, q5, fun q hq => ?_⟩
    rw [← p6 q hq, ← q7, List.getElem?_take_of_lt (by omega), Array.getElem?_toList]
    simp [World.cell?, q3]

theorem zero_slim : VT.Slim 900 zeroT := by
  unfold zeroT
  rw [Vt.slim_mk]
  exact ⟨Nat.zero_le _, Nat.zero_le _, fun i h => absurd h (by simp)⟩

theorem bs_arm : (BS.number ⟨[], 0, 4, 10⟩ (armE (Nm.addW 10 5))) = (⟨[withId (armE 15) 4], 0, 5, 10⟩, 4) := by
  have h : Nm.addW 10 5 = 15 := by decide
  rw [h, BS.number, if_pos ⟨arm_valid 15 4 (by omega) (by omega), rfl⟩]
  rfl

end Cm
end Go.Proofs.Ytpneejlilgepfaa
