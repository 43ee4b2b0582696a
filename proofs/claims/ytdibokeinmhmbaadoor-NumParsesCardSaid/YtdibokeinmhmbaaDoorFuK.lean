/- Texts of policies: strings joined by a slash. -/
import Derived.Test.YtdibokeinmhmbaaDoorFuJ
import Derived.Test.YtdibokeinmhmbaaDoorRtF
import Derived.Shelf.Strings.OnBuilder
import Derived.Deep.RegionHeld3
import Derived.WalkLawsBesides
namespace Go.Proofs.YtdibokeinmhmbaaDoor
open Go.RowKit Go.Shelf
set_option linter.unusedVariables false

def Tryd.laysJoin_ren : Go.Shelf.Ren := ⟨fun | 156 => 49 | 165 => 58 | 166 => 59 | 169 => 61 | 240 => 75 | 241 => 76 | 276 => 90 | 277 => 91 | n => n, fun | 31 => 74 | 9 => 9 | 3 => 3 | 4 => 4 | 0 => 0 | 20 => 20 | 72 => 84 | 76 => 86 | 70 => 81 | 37 => 82 | 75 => 67 | 127 => 103 | 164 => 115 | 5 => 5 | 80 => 89 | n => n, fun | n => n⟩
theorem Tryd.laysJoin : Go.Proofs.Lays.n156 Tryd.prog Tryd.laysJoin_ren := {
  mixed := by kernel_rfl
  f156 := Tryd.func49.trans (congrArg some (by kernel_rfl))
  f165 := Tryd.func58.trans (congrArg some (by kernel_rfl))
  f166 := Tryd.func59.trans (congrArg some (by kernel_rfl))
  f169 := Tryd.func61.trans (congrArg some (by kernel_rfl))
  f240 := Tryd.func75.trans (congrArg some (by kernel_rfl))
  f241 := Tryd.func76.trans (congrArg some (by kernel_rfl))
  f276 := Tryd.func90.trans (congrArg some (by kernel_rfl))
  f277 := Tryd.func91.trans (congrArg some (by kernel_rfl))
  t0 := Tryd.underlying0
  a0 := Tryd.isAgg0
  z0 := Tryd.sizeOf0
  v0 := Tryd.zeroValue0
  t3 := Tryd.underlying3
  a3 := Tryd.isAgg3
  z3 := Tryd.sizeOf3
  v3 := Tryd.zeroValue3
  t4 := Tryd.underlying4
  a4 := Tryd.isAgg4
  z4 := Tryd.sizeOf4
  v4 := Tryd.zeroValue4
  t9 := Tryd.underlying9
  a9 := Tryd.isAgg9
  z9 := Tryd.sizeOf9
  v9 := Tryd.zeroValue9
  t20 := Tryd.underlying20
  a20 := Tryd.isAgg20
  z20 := Tryd.sizeOf20
  v20 := Tryd.zeroValue20
  t31 := Tryd.underlying74
  a31 := Tryd.isAgg74
  z31 := Tryd.sizeOf74
  v31 := Tryd.zeroValue74
  t37 := Tryd.underlying82
  a37 := Tryd.isAgg82
  z37 := Tryd.sizeOf82
  v37 := Tryd.zeroValue82
  t70 := Tryd.underlying81
  a70 := Tryd.isAgg81
  z70 := Tryd.sizeOf81
  v70 := Tryd.zeroValue81
  t72 := Tryd.underlying84
  a72 := Tryd.isAgg84
  z72 := Tryd.sizeOf84
  v72 := Tryd.zeroValue84
  t75 := Tryd.underlying67
  a75 := Tryd.isAgg67
  z75 := Tryd.sizeOf67
  v75 := Tryd.zeroValue67
  t76 := Tryd.underlying86
  a76 := Tryd.isAgg86
  z76 := Tryd.sizeOf86
  v76 := Tryd.zeroValue86
  t127 := Tryd.underlying103
  a127 := Tryd.isAgg103
  z127 := Tryd.sizeOf103
  v127 := Tryd.zeroValue103
  t164 := Tryd.underlying115
  a164 := Tryd.isAgg115
  z164 := Tryd.sizeOf115
  v164 := Tryd.zeroValue115 }

theorem Tryd.extraJoin : Builder.Extra Tryd.prog Tryd.laysJoin_ren := {
  sizeBuilder := by kernel_rfl
  liesBuilder := by kernel_rfl
  t5 := by kernel_rfl
  a5 := by first | exact Tryd.isAgg5 | (intro w; rfl)
  z5 := by first | exact Tryd.sizeOf5 | (intro w; rfl)
  v5 := by first | exact Tryd.zeroValue5 | (intro w; rfl)
  infoByte := by kernel_rfl
  cellsByte := by kernel_rfl
  sizeByte := by kernel_rfl
  neB5 := by decide }

namespace Fu
section
variable {P : Program} {md : Region.Mode} {ops : Array Oper} {Q : Exit → Act → World → Prop} {S : World → Prop}
theorem drop_get {i : Nat} {o : Oper} {rest : List Oper} (h : ops.toList.drop i = o :: rest) : ops[i]? = some o := by
  have e : (ops.toList.drop i)[0]? = some o := by rw [h]; rfl
  rw [List.getElem?_drop] at e
  simpa using e
theorem take_drop {i : Nat} {oi : Oper} {rest : List Oper} {v : Value} {fuel : Nat} {listed : Array Bool} {a : Act} {w : World} (hi : ops.toList.drop i = oi :: rest)
    (hs : Region.noSelect ops = true) (hf : Region.free md ops listed i = true) (hr : (Region.ready md ops listed).contains i = true)
    (hQ : ∀ c a w, Q (.panic c) (a.put oi.dst v) w → Q (.panic c) a w) (hy : YieldsIf P ops S oi v a) (hS : S w)
    (h : wpAnyH P md ops Q S fuel (listed.setIfInBounds i true) (a.put oi.dst v) w) : wpAnyH P md ops Q S (fuel + 1) listed a w :=
  wpAnyH_take (drop_get hi) hs hf hr hQ hy hS h
theorem cons_drop {fuel : Nat} {listed : Array Bool} {a : Act} {w : World} {i : Nat} {o : Oper} {rest : List Oper} {rs : List Nat} (ho : ops.toList.drop i = o :: rest)
    (h : ∀ K' : Act → World → Prop, Shut (∀ a w, S w → (S w → wpAnyH P md ops Q S fuel (listed.setIfInBounds i true) a w) → K' a w) → if Region.wanted o (yielded ops a.tmps) = true then Oper.wp P o a w K' Q else K' (a.put o.dst undef) w)
    (hs : AllReadyH P md ops Q S fuel listed a w rs) : AllReadyH P md ops Q S fuel listed a w (i :: rs) := AllReadyH.cons (drop_get ho) h hs
end
theorem below_drew {m : Nat} {w W : World} (h : Below m w W) : Below m w W.drew := ⟨h.os, h.tape, h.output, h.size, h.block⟩
/-- Texts between slashes. -/
def joinT (l : List ByteArray) : ByteArray := ⟨(Lib.join (l.map (·.data.toList)) [47]).toArray⟩
theorem joined_any (g c : Nat) (l : List ByteArray) (w : World) (hcells : ∀ (j : Nat) x, l[j]? = some x → w.cell? ⟨g, 0 + j, none⟩ = some (.string x)) (hg : g < w.heap.size) (h2 : 2 ≤ l.length) (hN : l.length ≤ 1000) (hc : l.length ≤ c)
    (hlen : (Lib.join (l.map (·.data.toList)) [47]).length ≤ 140737488355328) :
    Calls Tryd.prog 29 #[.slice (some ⟨g, 0, none⟩) l.length c] w fun e w' => e = .returned (.string (joinT l)) ∧ Below w.heap.size w w' := by
  have HJ : Hid (Calls Tryd.prog 49 #[.slice (some ⟨g, 0, none⟩) l.length c, .string ⟨#[47]⟩] w fun e w' => e = .returned (.string (joinT l)) ∧ Below w.heap.size w w') :=
    Lib.hid (Any.strings_Join_many Tryd.laysJoin Tryd.extraJoin g 0 c l ⟨#[47]⟩ w hcells hg h2 (by omega) hc hlen)
  generalize joinT l = r at *
  clear hcells hlen
  go_enter Tryd.func29, Tryd.ntmps29
  go_wp2_with fail
  refine HJ.out.mono ?_
  rintro e w1 ⟨rfl, hb⟩
  go_wp2_with fail
  go_ret
  exact ⟨rfl, hb⟩
end Fu
end Go.Proofs.YtdibokeinmhmbaaDoor
