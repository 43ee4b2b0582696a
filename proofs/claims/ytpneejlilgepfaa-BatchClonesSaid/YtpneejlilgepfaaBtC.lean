/- Bytes that are read; appends of bytes; bin.Text; slices.Grow of nil. -/
import Derived.Test.YtpneejlilgepfaaBtB
import Derived.Lib.AppendStr
import Derived.Lib.AppendZeros
import Derived.Laws.AppendOwnNone
import Derived.ChangeArms
import Derived.Deep.Draws
namespace Go.Proofs.Ytpneejlilgepfaa
open Go.RowKit
set_option linter.unusedVariables false
namespace Bt
open Nm (ret_int ret_bool)

def bv (b : Nat) : Value := .int .u8 (b : Int)

/-- A byte slice that can be read. -/
def BIn (w : World) (v : Value) (l : List Nat) : Prop := (v = .slice none 0 0 ∧ l = []) ∨ ∃ ad cap, v = .slice (some ad) l.length cap ∧ l.length ≤ cap ∧ cap ≤ maxLen ∧ ad.block < w.heap.size ∧ ∀ j u, (l.map bv)[j]? = some u → w.cell? (ad.add j) = some u

theorem block_add (a : Addr) (n : Nat) : (a.add n).block = a.block := by unfold Addr.add; split <;> rfl
theorem BIn.later {w w' : World} {v : Value} {l : List Nat} (h : BIn w v l) (hb : Below w.heap.size w w') : BIn w' v l := by
  rcases h with h | ⟨ad, cap, h1, h2, h3, h4, h5⟩
  · exact .inl h
  · exact .inr ⟨ad, cap, h1, h2, h3, Nat.lt_of_lt_of_le h4 hb.size, fun j u hu => (hb.cell (by rw [block_add]; exact h4)).trans (h5 j u hu)⟩
theorem BOwn.read {w : World} {base : Nat} {v : Value} {l : List Nat} (h : BOwn w base v l) : BIn w v l := by
  rcases h.2 with ⟨h1, h2⟩ | ⟨g, cap, cur, q1, q2, q3, q4, q5, q6, q7⟩
  · exact .inl ⟨h1, List.eq_nil_of_length_eq_zero h2⟩
  · refine .inr ⟨_, cap, q1, q4, q5, (Array.getElem?_eq_some_iff.1 q3).1, fun j u hu => ?_⟩
    have hj : j < l.length := by have := (List.getElem?_eq_some_iff.1 hu).1; simpa using this
    have : cur[j]? = some u := by
      rw [← hu]
      have e : (l.map bv) = l.map (fun (b : Nat) => Value.int .u8 (b : Int)) := rfl
      rw [e, ← q7, List.getElem?_take_of_lt (by omega), Array.getElem?_toList]
    rw [show (⟨g, 0, none⟩ : Addr).add j = ⟨g, 0 + j, none⟩ from Go.WideShapes.add_plain .., Nat.zero_add]
    simp [World.cell?, q3, this]
theorem BOwn.later {w w' : World} {base : Nat} {v : Value} {l : List Nat} (h : BOwn w base v l) (hb : Below w.heap.size w w') : BOwn w' base v l := by
  refine ⟨h.1, ?_⟩
  rcases h.2 with h | ⟨g, cap, cur, q1, q2, q3, q4⟩
  · exact .inl h
  · exact .inr ⟨g, cap, cur, q1, q2, (hb.block g (Array.getElem?_eq_some_iff.1 q3).1).trans q3, q4⟩
theorem BOwn.base {w : World} {base base' : Nat} {v : Value} {l : List Nat} (h : BOwn w base v l) (hb : base' ≤ base) : BOwn w base' v l := by
  refine ⟨h.1, ?_⟩
  rcases h.2 with h | ⟨g, cap, cur, q1, q2, q3, q4⟩
  · exact .inl h
  · exact .inr ⟨g, cap, cur, q1, by omega, q3, q4⟩
theorem BOwn.row_ge {w : World} {base : Nat} {v : Value} {l : List Nat} (h : BOwn w base v l) : ∀ k, v.ownBlock = some k → base ≤ k := by
  intro k hk
  rcases h.2 with ⟨rfl, -⟩ | ⟨g, cap, cur, rfl, q2, -⟩
  · cases hk
  · cases hk; exact q2

theorem bv_one (l : List Nat) : ∀ u ∈ l.map bv, u.oneCell' = true := by
  intro u hu
  rw [List.mem_map] at hu
  obtain ⟨b, -, rfl⟩ := hu
  rfl

/-- Bytes onto a row of the call's own. -/
theorem run_append_bytes {W : World} {base : Nat} (ty : TypeId) {v src : Value} {l m : List Nat} (hown : BOwn W base v l) (hs : BIn W src m) (hlen : l.length + m.length ≤ 35184372088832) (hbase : base ≤ W.heap.size) :
    ∃ v' W', (Builtin.append_ #[40, 40] ty #[v, src]).run Try.prog W = .ok v' W' ∧ BOwn W' base v' (l ++ m) ∧ W.grownBy W' v.ownBlock := by
  obtain ⟨i0, hi, hz0, hz1, hz2⟩ := info_parts Try.infoB
  rcases hs with ⟨rfl, rfl⟩ | ⟨ad, cap, rfl, h1, h2, h3, h4⟩
  · refine ⟨v, W, run_append_owned_none (P := Try.prog) (w := W) base 40 ty 5 i0 1 Try.underlying40 hi v l.length _ hown, by simpa using hown, ⟨rfl, rfl, rfl, Nat.le_refl _, fun _ _ _ => rfl⟩⟩
  · obtain ⟨v', W', hr, ho, hg, -, -⟩ := run_append_own_at (P := Try.prog) W base 40 ty 5 i0 (.int .u8 0) 1 1 Try.underlying40 hi hz0 hz1 hz2 rfl (by decide) v l.length _ hown ad m.length cap (m.map bv) (by simp) h4 (bv_one m) (by simp only [maxLen]; omega) (by omega) hbase
    refine ⟨v', W', hr, ?_, hg⟩
    unfold BOwn
    rw [List.length_append, List.map_append]
    exact ho

theorem wpList_append_bytes {ops : Array Oper} {rest : List Oper} {o : Oper} {a : Act} {Q : Exit → Act → World → Prop} (W : World) (hgd : o.guard = none) (s x : Operand)
    (ho : o.op = .call { callee := .builtin .append, args := #[s, x], argTypes := #[40, 40] }) (base : Nat) (v src : Value) (l m : List Nat) (hv : a.eval s = v) (hx : a.eval x = src) (hown : BOwn W base v l) (hs : BIn W src m) (hlen : l.length + m.length ≤ 35184372088832) (hbase : base ≤ W.heap.size)
    (h : ∀ v' W', BOwn W' base v' (l ++ m) → W.grownBy W' v.ownBlock → Below base W W' → wpList Try.prog ops Q rest (a.put o.dst v') W') : wpList Try.prog ops Q (o :: rest) a W := by
  obtain ⟨v', W', hr, h1, h2⟩ := run_append_bytes o.type hown hs hlen hbase
  exact Lib.wpList_append_run W hgd s x _ _ ho v src hv hx v' W' hr (h v' W' h1 h2 ((Below.refl base W).grown h2 hbase hown.row_ge))

/-- A string's bytes. -/
def sb (s : ByteArray) : List Nat := s.data.toList.map (·.toNat)
theorem sb_len (s : ByteArray) : (sb s).length = s.size := by simp [sb]
theorem sb_cells (s : ByteArray) : Lib.strCells s = (sb s).map fun (b : Nat) => Value.int .u8 (b : Int) := by simp [sb, Lib.strCells]

set_option maxRecDepth 100000 in
theorem btext_any (s : ByteArray) (hs : s.size ≤ 100000) (w : World) :
    Calls Try.prog 28 #[.string s] w fun e w' => ∃ v, e = .returned v ∧ BOwn w' w.heap.size v (ubytes 10 s.size ++ sb s) ∧ Below w.heap.size w w' := by
  obtain ⟨i0, hi, hz0, hz1, hz2⟩ := info_parts Try.infoB
  have HU := Lib.hid (uint_any s.size (by omega) w)
  have hl := ubytes_len 10 s.size
  go_enter Try.func28, Try.ntmps28
  go_wp2_with fail
  refine HU.out.mono ?_
  rintro e w1 ⟨v, rfl, hown, hb⟩
  have HB := Lib.hid hb
  have hbs := hb.size
  clear hb HU
  go_wp2_with (at_builtin; refine Lib.wpList_append_own_string _ rfl _ _ 40 9 rfl w.heap.size 5 i0 Try.underlying40 Try.underlying9 hi hz0 hz1 hz2 v _ _ rfl hown s rfl (by simp only [maxLen]; omega) (by omega) hbs ?_; intro v2 w2 hown2 hg2 _)
  have HB2 := HB.out.grown hg2 hbs (fun k hk => hown.row_ge k hk)
  go_ret
  refine ⟨v2, rfl, ?_, HB2⟩
  unfold BOwn
  rw [List.length_append, sb_len, List.map_append, ← sb_cells]
  exact hown2
end Bt
end Go.Proofs.Ytpneejlilgepfaa
