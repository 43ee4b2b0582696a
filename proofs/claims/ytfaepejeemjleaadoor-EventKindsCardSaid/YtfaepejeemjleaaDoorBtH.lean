/- event.Text of a valid event whose parts' texts are known. -/
import Derived.Test.YtfaepejeemjleaaDoorBtG
import Derived.Shelf.Strings.OnBuilder
namespace Go.Proofs.YtfaepejeemjleaaDoor
open Go.RowKit Go.Shelf
set_option linter.unusedVariables false

def Tryd.laysJoin_ren : Go.Shelf.Ren := ⟨fun | 156 => 43 | 165 => 14 | 166 => 15 | 169 => 17 | 240 => 26 | 241 => 27 | 276 => 44 | 277 => 45 | n => n, fun | 31 => 60 | 9 => 9 | 3 => 3 | 4 => 4 | 0 => 0 | 20 => 20 | 72 => 42 | 76 => 46 | 70 => 39 | 37 => 40 | 75 => 45 | 127 => 66 | 164 => 87 | 5 => 5 | 80 => 49 | n => n, fun | n => n⟩
theorem Tryd.laysJoin : Go.Proofs.Lays.n156 Tryd.prog Tryd.laysJoin_ren := {
  mixed := by kernel_rfl
  f156 := Tryd.func43.trans (congrArg some (by kernel_rfl))
  f165 := Tryd.func14.trans (congrArg some (by kernel_rfl))
  f166 := Tryd.func15.trans (congrArg some (by kernel_rfl))
  f169 := Tryd.func17.trans (congrArg some (by kernel_rfl))
  f240 := Tryd.func26.trans (congrArg some (by kernel_rfl))
  f241 := Tryd.func27.trans (congrArg some (by kernel_rfl))
  f276 := Tryd.func44.trans (congrArg some (by kernel_rfl))
  f277 := Tryd.func45.trans (congrArg some (by kernel_rfl))
  t0 := Tryd.underlying0
  a0 := Tryd.isAgg0
  z0 := Tryd.sizeOf0
  v0 := Tryd.zeroValue0
  t3 := Tryd.underlying3
  a3 := Tryd.isAgg3
  z3 := Tryd.sizeOf3
  v3 := Tryd.zeroValue3
  t4 := Tryd.underlying4
  a4 := Tryd.isAgg4
  z4 := Tryd.sizeOf4
  v4 := Tryd.zeroValue4
  t9 := Tryd.underlying9
  a9 := Tryd.isAgg9
  z9 := Tryd.sizeOf9
  v9 := Tryd.zeroValue9
  t20 := Tryd.underlying20
  a20 := Tryd.isAgg20
  z20 := Tryd.sizeOf20
  v20 := Tryd.zeroValue20
  t31 := Tryd.underlying60
  a31 := Tryd.isAgg60
  z31 := Tryd.sizeOf60
  v31 := Tryd.zeroValue60
  t37 := Tryd.underlying40
  a37 := Tryd.isAgg40
  z37 := Tryd.sizeOf40
  v37 := Tryd.zeroValue40
  t70 := Tryd.underlying39
  a70 := Tryd.isAgg39
  z70 := Tryd.sizeOf39
  v70 := Tryd.zeroValue39
  t72 := Tryd.underlying42
  a72 := Tryd.isAgg42
  z72 := Tryd.sizeOf42
  v72 := Tryd.zeroValue42
  t75 := Tryd.underlying45
  a75 := Tryd.isAgg45
  z75 := Tryd.sizeOf45
  v75 := Tryd.zeroValue45
  t76 := Tryd.underlying46
  a76 := Tryd.isAgg46
  z76 := Tryd.sizeOf46
  v76 := Tryd.zeroValue46
  t127 := Tryd.underlying66
  a127 := Tryd.isAgg66
  z127 := Tryd.sizeOf66
  v127 := Tryd.zeroValue66
  t164 := Tryd.underlying87
  a164 := Tryd.isAgg87
  z164 := Tryd.sizeOf87
  v164 := Tryd.zeroValue87 }

theorem Tryd.extraJoin : Builder.Extra Tryd.prog Tryd.laysJoin_ren := {
  sizeBuilder := by kernel_rfl
  liesBuilder := by kernel_rfl
  t5 := by kernel_rfl
  a5 := by first | exact Tryd.isAgg5 | (intro w; rfl)
  z5 := by first | exact Tryd.sizeOf5 | (intro w; rfl)
  v5 := by first | exact Tryd.zeroValue5 | (intro w; rfl)
  infoByte := by kernel_rfl
  cellsByte := by kernel_rfl
  sizeByte := by kernel_rfl
  neB5 := by decide }

namespace Bt
open Vt (VT Rep BoxAt below_drew)
open Ev (take_drop cons_drop EBox six_cells six_row RowAt ix0 ix1 ix2 ix3 ix4 ix5)

/-- A slice of strings in a row of the call's own. -/
def SOwn (w : World) (base : Nat) (v : Value) (l : List ByteArray) : Prop := w.ownsRow base 9 1 v l.length (l.map Value.string)
theorem Tryd.infoS : (Tryd.prog.info? 9).map (fun i => (i.zero, i.size, i.bytes)) = some (some (.string ⟨#[]⟩), 1, 16) := by kernel_rfl
theorem SOwn.later {w w' : World} {base : Nat} {v : Value} {l : List ByteArray} (h : SOwn w base v l) (hb : Below w.heap.size w w') : SOwn w' base v l := by
  refine ⟨h.1, ?_⟩
  rcases h.2 with h | ⟨g, cap, cur, q1, q2, q3, q4⟩
  · exact .inl h
  · exact .inr ⟨g, cap, cur, q1, q2, (hb.block g (Array.getElem?_eq_some_iff.1 q3).1).trans q3, q4⟩
theorem SOwn.row_ge {w : World} {base : Nat} {v : Value} {l : List ByteArray} (h : SOwn w base v l) : ∀ k, v.ownBlock = some k → base ≤ k := by
  intro k hk
  rcases h.2 with ⟨rfl, -⟩ | ⟨g, cap, cur, rfl, q2, -⟩
  · cases hk
  · cases hk; exact q2
/-- One string onto a row. -/
theorem run_append_str {W : World} {base : Nat} (ty : TypeId) {v : Value} {l : List ByteArray} {x : ByteArray} (g c : Nat) (hx : W.cell? ⟨g, 0, none⟩ = some (.string x)) (hown : SOwn W base v l) (hlen : l.length ≤ 1000000) (hbase : base ≤ W.heap.size) :
    ∃ v' W', (Builtin.append_ #[60, 60] ty #[v, .slice (some ⟨g, 0, none⟩) 1 c]).run Tryd.prog W = .ok v' W' ∧ SOwn W' base v' (l ++ [x]) ∧ W.grownBy W' v.ownBlock := by
  obtain ⟨i0, hi, hz0, hz1, hz2⟩ := info_parts Tryd.infoS
  obtain ⟨v', W', hr, ho, hg, -, -⟩ := run_append_own_at (P := Tryd.prog) W base 60 ty 9 i0 (.string ⟨#[]⟩) 1 16 Tryd.underlying60 hi hz0 hz1 hz2 rfl (by decide) v l.length _ hown ⟨g, 0, none⟩ 1 c [.string x] (by simp) (fun j u hu => by
    rcases j with _ | j
    · have : Value.string x = u := by simpa using hu
      rw [← this]; exact hx
    · simp at hu) (by intro u hu; rw [List.mem_singleton] at hu; subst hu; rfl) (by simp only [maxLen]; omega) (by omega) hbase
  refine ⟨v', W', hr, ?_, hg⟩
  unfold SOwn
  rw [List.length_append, List.map_append]
  exact ho
theorem wpList_append_str {ops : Array Oper} {rest : List Oper} {o : Oper} {a : Act} {Q : Exit → Act → World → Prop} (W : World) (hgd : o.guard = none) (s y : Operand)
    (ho : o.op = .call { callee := .builtin .append, args := #[s, y], argTypes := #[60, 60] }) (base : Nat) (v : Value) (g c : Nat) (l : List ByteArray) (x : ByteArray) (hv : a.eval s = v) (hy : a.eval y = .slice (some ⟨g, 0, none⟩) 1 c) (hx : W.cell? ⟨g, 0, none⟩ = some (.string x)) (hown : SOwn W base v l) (hlen : l.length ≤ 1000000) (hbase : base ≤ W.heap.size)
    (h : ∀ v' W', SOwn W' base v' (l ++ [x]) → W.grownBy W' v.ownBlock → Below base W W' → wpList Tryd.prog ops Q rest (a.put o.dst v') W') : wpList Tryd.prog ops Q (o :: rest) a W := by
  obtain ⟨v', W', hr, h1, h2⟩ := run_append_str o.type g c hx hown hlen hbase
  exact Lib.wpList_append_run W hgd s y _ _ ho v _ hv hy v' W' hr (h v' W' h1 h2 ((Below.refl base W).grown h2 hbase hown.row_ge))

/-- Those texts that a kind has, of the first j. -/
def selS (bs : List Bool) (ps : List ByteArray) (j : Nat) : List ByteArray := (((bs.zip ps).take j).map (fun p => if p.1 then [p.2] else [])).flatten
theorem selS_len : ∀ (bs : List Bool) (ps : List ByteArray) (j : Nat), (selS bs ps j).length ≤ ps.length
  | [], _, _ => by simp [selS]
  | _ :: _, [], _ => by simp [selS]
  | _ :: _, _ :: _, 0 => by simp [selS]
  | b :: bs, p :: ps, j + 1 => by have := selS_len bs ps j; simp only [selS] at this ⊢; simp only [List.zip_cons_cons, List.take_succ_cons, List.map_cons, List.flatten_cons, List.length_append, List.length_cons]; cases b <;> simp only [Bool.false_eq_true, if_true, if_false, List.length_nil, List.length_singleton] <;> omega

/-- Strings joined by a blank. -/
theorem join_any (l : List ByteArray) (v : Value) (base : Nat) (w : World) (hown : SOwn w base v l) (h0 : l ≠ []) (hn : l.length ≤ 1000000) (hlen : (Lib.join (l.map (·.data.toList)) [32]).length ≤ 140737488355328) :
    Calls Tryd.prog 43 #[v, .string ⟨#[32]⟩] w fun e w' => e = .returned (.string ⟨(Lib.join (l.map (·.data.toList)) [32]).toArray⟩) ∧ Below w.heap.size w w' := by
  rcases hown.2 with ⟨h1, h2⟩ | ⟨g, cap, cur, rfl, q2, q3, q4, q5, q6, q7⟩
  · exact absurd (List.eq_nil_of_length_eq_zero h2) h0
  · refine Any.strings_Join Tryd.laysJoin Tryd.extraJoin g 0 cap l ⟨#[32]⟩ w (fun j x hj => ?_) (Array.getElem?_eq_some_iff.1 q3).1 (by omega) q4 hlen
    have hlt := (List.getElem?_eq_some_iff.1 hj).1
    have hc : cur[j]? = some (.string x) := by
      have h3 : (l.map Value.string)[j]? = some (.string x) := by rw [List.getElem?_map, hj]; rfl
      rw [← q7, List.getElem?_take_of_lt (by omega)] at h3
      rw [← Array.getElem?_toList]; exact h3
    simp [World.cell?, q3, hc]

end Bt
end Go.Proofs.YtfaepejeemjleaaDoor
