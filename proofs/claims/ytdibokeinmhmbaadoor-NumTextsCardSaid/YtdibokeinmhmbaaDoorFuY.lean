/- NumTexts and NumParses: what the rows' condition gives; the openers. -/
import Derived.Test.YtdibokeinmhmbaaDoorFuX
import Derived.Test.YtdibokeinmhmbaaDoorRows
import Derived.ChangeMaps5
namespace Go.Proofs.YtdibokeinmhmbaaDoor
open Go.RowKit
set_option linter.unusedVariables false
namespace Fu
theorem star : "*" ++ "errors.errorString" = "*errors.errorString" := by decide
theorem rowErr (u : TypeId) (h : Tryd.prog.typeName? 3 u = some "*errors.errorString") : u = 125 :=
  typeName_ptr_named (nm := "errors.errorString") (by rw [star]; kernel_rfl) (by kernel_rfl) (by decide) u (by rw [star]; exact h)
theorem sentinel {l : List (String × DataW Unit)} {W : World} {n : String} {text : List UInt8} {g : Nat}
    (h1 : ((l.filter fun x => x.2.handleName?.isNone).filter fun x => x.1 == n) = [(n, .iface "*errors.errorString" (.ptr (.agg [.lit (.string text)])))])
    (hg : Tryd.prog.globalNamed n = some g) (ht : (Tryd.prog.globals[g]?).map (·.type) = some 67) (h : laidMetH Tryd.prog l W) : (∃ t p, W.cell? ⟨g, 0, none⟩ = some (.iface t p)) ∧ g < W.heap.size := by
  obtain ⟨hm, -⟩ := laidMetH_iff.1 h
  have k1 := hm.filter (fun x => x.1 == n)
  rw [h1] at k1
  obtain ⟨a1, s1, hv1, -, -, -⟩ := laid_sentinel k1 hg ht Tryd.underlying67 rowErr Tryd.underlying125 Tryd.underlying127 rfl rfl Tryd.underlying9 (by kernel_rfl) (by kernel_rfl)
  have hc : W.cell? ⟨g, 0, none⟩ = some (.iface 125 (.pointer (some a1))) := by simpa using World.var?_cell hg hv1 0
  refine ⟨⟨_, _, hc⟩, ?_⟩
  rcases Nat.lt_or_ge g W.heap.size with h' | h'
  · exact h'
  · simp [World.cell?, Array.getElem?_eq_none h'] at hc
theorem errs_of_laid {l : List (String × DataW Unit)} {W : World}
    (h1 : ((l.filter fun x => x.2.handleName?.isNone).filter fun x => x.1 == "strconv.ErrSyntax") = [("strconv.ErrSyntax", .iface "*errors.errorString" (.ptr (.agg [.lit (.string [105, 110, 118, 97, 108, 105, 100, 32, 115, 121, 110, 116, 97, 120])])))])
    (h2 : ((l.filter fun x => x.2.handleName?.isNone).filter fun x => x.1 == "strconv.ErrRange") = [("strconv.ErrRange", .iface "*errors.errorString" (.ptr (.agg [.lit (.string [118, 97, 108, 117, 101, 32, 111, 117, 116, 32, 111, 102, 32, 114, 97, 110, 103, 101])])))])
    (h : laidMetH Tryd.prog l W) : Errs W := by
  obtain ⟨a, a2⟩ := sentinel (g := 2) h1 (by kernel_rfl) (by kernel_rfl) h
  obtain ⟨b, b2⟩ := sentinel (g := 3) h2 (by kernel_rfl) (by kernel_rfl) h
  exact ⟨a, b, a2, b2⟩
set_option maxRecDepth 100000 in
open Go.ChangeShapes Go.WideShapes Go.ChangeAt Go.ChangeMaps in
theorem numtexts_open {H : Type} {enc : TypeId × Value → H} {base b1 : Nat} {spare : Nat → Bool} {held : Bool} {d0 : DataW H} {p0 : List MemPlace} (v0 : Value) (W : World)
    (o0 : Value.okWide Tryd.prog W .any base 22 v0) (k0 : DataW.Trod enc Tryd.prog W b1 spare held 22 v0 d0 p0) (hL : laidMetH Tryd.prog Rows.numTextsRow.laid W) :
    Calls Tryd.prog 5 #[v0] W fun e w' => e = .returned (.bool true) ∧ Below W.heap.size W w' := by
  have ht : Tabs W := tabs_of_laid (by kernel_rfl) (by kernel_rfl) hL
  have he : Errs W := errs_of_laid (by kernel_rfl) (by kernel_rfl) hL
  obtain ⟨a2, rfl, rfl, rfl, w2⟩ := open_int Tryd.underlying22 o0 k0
  simp [Lit.wf, IntKind.min, IntKind.max, IntKind.bits, IntKind.signed] at w2
  have h := numtexts_any a2.toNat (by omega) W ht he
  rw [Int.toNat_of_nonneg w2.1] at h
  exact h
set_option maxRecDepth 100000 in
open Go.ChangeShapes Go.WideShapes Go.ChangeAt Go.ChangeMaps in
theorem numparses_open {H : Type} {enc : TypeId × Value → H} {base b1 : Nat} {spare : Nat → Bool} {held : Bool} {d0 : DataW H} {p0 : List MemPlace} (v0 : Value) (W : World)
    (o0 : Value.okWide Tryd.prog W .any base 9 v0) (k0 : DataW.Trod enc Tryd.prog W b1 spare held 9 v0 d0 p0) (hL : laidMetH Tryd.prog Rows.numParsesRow.laid W) :
    Calls Tryd.prog 6 #[v0] W fun e w' => e = .returned (.bool true) ∧ Below W.heap.size W w' := by
  have ht : Tabs W := tabs_of_laid (by kernel_rfl) (by kernel_rfl) hL
  have he : Errs W := errs_of_laid (by kernel_rfl) (by kernel_rfl) hL
  obtain ⟨s, rfl, -, -, hs⟩ := open_string Tryd.underlying9 o0 k0
  by_cases h : s.size ≤ 100
  · exact numparses_short s h W ht he
  · exact numparses_long s (by omega) W
end Fu
end Go.Proofs.YtdibokeinmhmbaaDoor
