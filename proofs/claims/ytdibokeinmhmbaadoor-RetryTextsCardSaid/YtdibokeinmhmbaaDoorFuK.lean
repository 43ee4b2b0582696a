/- Texts of policies: strings joined by a slash. -/
import Derived.Test.YtdibokeinmhmbaaDoorFuJ
import Derived.Test.YtdibokeinmhmbaaDoorRtF
import Derived.Shelf.Strings.OnBuilder
import Derived.Deep.RegionHeld3
import Derived.WalkLawsBesides
namespace Go.Proofs.YtdibokeinmhmbaaDoor
open Go.RowKit Go.Shelf
set_option linter.unusedVariables false

shelf_lay Lays.n156 Nm 156 at Tryd as Tryd.laysJoin

theorem Tryd.extraJoin : Builder.Extra Tryd.prog Tryd.laysJoin_ren where
  sizeBuilder := by kernel_rfl
  liesBuilder := by kernel_rfl
  t5 := by kernel_rfl
  a5 := by first | exact Tryd.isAgg5 | (intro w; rfl)
  z5 := by first | exact Tryd.sizeOf5 | (intro w; rfl)
  v5 := by first | exact Tryd.zeroValue5 | (intro w; rfl)
  infoByte := by kernel_rfl
  cellsByte := by kernel_rfl
  sizeByte := by kernel_rfl
  neB5 := by decide

namespace Fu
section
variable {P : Program} {md : Region.Mode} {ops : Array Oper} {Q : Exit → Act → World → Prop} {S : World → Prop}
theorem drop_get {i : Nat} {o : Oper} {rest : List Oper} (h : ops.toList.drop i = o :: rest) : ops[i]? = some o := by
  have e : (ops.toList.drop i)[0]? = some o := by rw [h]; rfl
  rw [List.getElem?_drop] at e
  simpa using e
theorem take_drop {i : Nat} {oi : Oper} {rest : List Oper} {v : Value} {fuel : Nat} {listed : Array Bool} {a : Act} {w : World} (hi : ops.toList.drop i = oi :: rest)
    (hs : Region.noSelect ops = true) (hf : Region.free md ops listed i = true) (hr : (Region.ready md ops listed).contains i = true)
    (hQ : ∀ c a w, Q (.panic c) (a.put oi.dst v) w → Q (.panic c) a w) (hy : YieldsIf P ops S oi v a) (hS : S w)
    (h : wpAnyH P md ops Q S fuel (listed.setIfInBounds i true) (a.put oi.dst v) w) : wpAnyH P md ops Q S (fuel + 1) listed a w :=
  wpAnyH_take (drop_get hi) hs hf hr hQ hy hS h
theorem cons_drop {fuel : Nat} {listed : Array Bool} {a : Act} {w : World} {i : Nat} {o : Oper} {rest : List Oper} {rs : List Nat} (ho : ops.toList.drop i = o :: rest)
    (h : ∀ K' : Act → World → Prop, Shut (∀ a w, S w → (S w → wpAnyH P md ops Q S fuel (listed.setIfInBounds i true) a w) → K' a w) → if Region.wanted o (yielded ops a.tmps) = true then Oper.wp P o a w K' Q else K' (a.put o.dst undef) w)
    (hs : AllReadyH P md ops Q S fuel listed a w rs) : AllReadyH P md ops Q S fuel listed a w (i :: rs) := AllReadyH.cons (drop_get ho) h hs
end
theorem below_drew {m : Nat} {w W : World} (h : Below m w W) : Below m w W.drew := ⟨h.os, h.tape, h.output, h.size, h.block⟩
/-- Texts between slashes. -/
def joinT (l : List ByteArray) : ByteArray := ⟨(Lib.join (l.map (·.data.toList)) [47]).toArray⟩
theorem joined_any (g c : Nat) (l : List ByteArray) (w : World) (hcells : ∀ (j : Nat) x, l[j]? = some x → w.cell? ⟨g, 0 + j, none⟩ = some (.string x)) (hg : g < w.heap.size) (h2 : 2 ≤ l.length) (hN : l.length ≤ 1000) (hc : l.length ≤ c)
    (hlen : (Lib.join (l.map (·.data.toList)) [47]).length ≤ 140737488355328) :
    Calls Tryd.prog 29 #[.slice (some ⟨g, 0, none⟩) l.length c] w fun e w' => e = .returned (.string (joinT l)) ∧ Below w.heap.size w w' := by
  have HJ : Hid (Calls Tryd.prog 49 #[.slice (some ⟨g, 0, none⟩) l.length c, .string ⟨#[47]⟩] w fun e w' => e = .returned (.string (joinT l)) ∧ Below w.heap.size w w') :=
    Lib.hid (Any.strings_Join_many Tryd.laysJoin Tryd.extraJoin g 0 c l ⟨#[47]⟩ w hcells hg h2 (by omega) hc hlen)
  generalize joinT l = r at *
  clear hcells hlen
  go_enter Tryd.func29, Tryd.ntmps29
  go_wp2_with fail
  refine HJ.out.mono ?_
  rintro e w1 ⟨rfl, hb⟩
  go_wp2_with fail
  go_ret
  exact ⟨rfl, hb⟩
end Fu
end Go.Proofs.YtdibokeinmhmbaaDoor
