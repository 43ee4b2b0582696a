/-
  NARROWER THAN 'FOR EVERY INPUT', by the rows' own cells (each row's printed sentence says how): HistoryKeys: loops · HistoryAdds: loops · HistoryAgain: loops · HistoryOnce: loops · HistoryKeeps: loops.
  DERIVED. THE GIVEN ROWS OF THIS SEAT. 5 by the template 'for every input the law returns true; each argument reads behind the call as it read before'; 0 by the template 'total and deterministic' (their statements: YtkajcldmolcllaaGreatTotals.lean).
  GIVEN WITH THE SEED: the statements are not yours to turn. If you find one false, say at which input.
  Laid BY PROGRAM, IN A SANDBOX (cutbox-rows.mjs): the forced cells as the released guide's own fill.sh prints them over the translation 323cb349fd67a32b… (all of the seat's roots in one cut). By AI agents, Wed Nov 11 2026. No macro, syntax, notation, axiom, sorry.
-/
import Derived.Test.YtkajcldmolcllaaGreatChecked
import GoSem.Claim
import GoSem.ClaimJoined
import GoSem.ClaimMapViews
import Derived.JoinedTies
import Derived.KernelRfl
namespace Go.Proofs.YtkajcldmolcllaaGreat
/- THE CELL 'sum', in the pinned program and in every row, IS THE sha256 OF THE DUMP (.gsa) THAT YtkajcldmolcllaaGreatProg.lean LOADS. Nothing in Lean hashes anything: it is a label: what it is worth is what the hold of that sum in a sandbox is worth. -/
noncomputable def Tryz.pinned : Pinned := { name := "ytkajcldmolcllaagreat", sum := "323cb349fd67a32be5f90407b8840d4a2dea401b2f228f45b6cab72aa4070e01", checked := Tryz.checked }
namespace Rows
def none {H : Type} : Left H := { results := [], args := [] }

/-- 'clockworklaw12.HistoryKeys': WHATEVER THE INPUT: true; the input reads as it did. -/
def historyKeysSpec : ChangeSpec := { name := "historyKeys", fn := fun _ => fun
  | [d1, d2] => { results := [.lit (.bool true)], args := [d1, d2] }
  | _ => none }
def historyKeysRow : OpenClaim := { program := "ytkajcldmolcllaagreat", sum := "323cb349fd67a32be5f90407b8840d4a2dea401b2f228f45b6cab72aa4070e01", func := "clockwork/clockworklaw12.HistoryKeys", spec := "historyKeys", inPlace := ["math.Float64bits", "math.Float64frombits", "maps.clone"], unfollowed := true, recurses := true, loops := true, apart := false }
def HistoryKeysSaid : Prop := historyKeysRow.holds Tryz.pinned (OpenSpec.ofChange historyKeysSpec)

/-- ITS FALSE NEIGHBOUR: 'it returns false'. Refute it at one input. -/
def historyKeysWrong : ChangeSpec := { name := "historyKeys", fn := fun _ => fun
  | [d1, d2] => { results := [.lit (.bool false)], args := [d1, d2] }
  | _ => none }
def HistoryKeysWrongFalsely : Prop := historyKeysRow.holds Tryz.pinned (OpenSpec.ofChange historyKeysWrong)

/-- 'clockworklaw12.HistoryAdds': WHATEVER THE INPUT: true; the input reads as it did. -/
def historyAddsSpec : ChangeSpec := { name := "historyAdds", fn := fun _ => fun
  | [d1, d2] => { results := [.lit (.bool true)], args := [d1, d2] }
  | _ => none }
def historyAddsRow : OpenClaim := { program := "ytkajcldmolcllaagreat", sum := "323cb349fd67a32be5f90407b8840d4a2dea401b2f228f45b6cab72aa4070e01", func := "clockwork/clockworklaw12.HistoryAdds", spec := "historyAdds", inPlace := ["math.Float64bits", "math.Float64frombits", "maps.clone"], unfollowed := true, recurses := true, loops := true, apart := false }
def HistoryAddsSaid : Prop := historyAddsRow.holds Tryz.pinned (OpenSpec.ofChange historyAddsSpec)

/-- ITS FALSE NEIGHBOUR: 'it returns false'. Refute it at one input. -/
def historyAddsWrong : ChangeSpec := { name := "historyAdds", fn := fun _ => fun
  | [d1, d2] => { results := [.lit (.bool false)], args := [d1, d2] }
  | _ => none }
def HistoryAddsWrongFalsely : Prop := historyAddsRow.holds Tryz.pinned (OpenSpec.ofChange historyAddsWrong)

/-- 'clockworklaw12.HistoryAgain': WHATEVER THE INPUT: true; the input reads as it did. -/
def historyAgainSpec : ChangeSpec := { name := "historyAgain", fn := fun _ => fun
  | [d1, d2] => { results := [.lit (.bool true)], args := [d1, d2] }
  | _ => none }
def historyAgainRow : OpenClaim := { program := "ytkajcldmolcllaagreat", sum := "323cb349fd67a32be5f90407b8840d4a2dea401b2f228f45b6cab72aa4070e01", func := "clockwork/clockworklaw12.HistoryAgain", spec := "historyAgain", inPlace := ["math.Float64bits", "math.Float64frombits", "maps.clone"], unfollowed := true, recurses := true, loops := true, apart := false }
def HistoryAgainSaid : Prop := historyAgainRow.holds Tryz.pinned (OpenSpec.ofChange historyAgainSpec)

/-- ITS FALSE NEIGHBOUR: 'it returns false'. Refute it at one input. -/
def historyAgainWrong : ChangeSpec := { name := "historyAgain", fn := fun _ => fun
  | [d1, d2] => { results := [.lit (.bool false)], args := [d1, d2] }
  | _ => none }
def HistoryAgainWrongFalsely : Prop := historyAgainRow.holds Tryz.pinned (OpenSpec.ofChange historyAgainWrong)

/-- 'clockworklaw12.HistoryOnce': WHATEVER THE INPUT: true; the input reads as it did. -/
def historyOnceSpec : ChangeSpec := { name := "historyOnce", fn := fun _ => fun
  | [d] => { results := [.lit (.bool true)], args := [d] }
  | _ => none }
def historyOnceRow : OpenClaim := { program := "ytkajcldmolcllaagreat", sum := "323cb349fd67a32be5f90407b8840d4a2dea401b2f228f45b6cab72aa4070e01", func := "clockwork/clockworklaw12.HistoryOnce", spec := "historyOnce", inPlace := ["math.Float64bits", "math.Float64frombits", "maps.clone"], unfollowed := true, recurses := true, loops := true, apart := false }
def HistoryOnceSaid : Prop := historyOnceRow.holds Tryz.pinned (OpenSpec.ofChange historyOnceSpec)

/-- ITS FALSE NEIGHBOUR: 'it returns false'. Refute it at one input. -/
def historyOnceWrong : ChangeSpec := { name := "historyOnce", fn := fun _ => fun
  | [d] => { results := [.lit (.bool false)], args := [d] }
  | _ => none }
def HistoryOnceWrongFalsely : Prop := historyOnceRow.holds Tryz.pinned (OpenSpec.ofChange historyOnceWrong)

/-- 'clockworklaw12.HistoryKeeps': WHATEVER THE INPUT: true; the input reads as it did. -/
def historyKeepsSpec : ChangeSpec := { name := "historyKeeps", fn := fun _ => fun
  | [d] => { results := [.lit (.bool true)], args := [d] }
  | _ => none }
def historyKeepsRow : OpenClaim := { program := "ytkajcldmolcllaagreat", sum := "323cb349fd67a32be5f90407b8840d4a2dea401b2f228f45b6cab72aa4070e01", func := "clockwork/clockworklaw12.HistoryKeeps", spec := "historyKeeps", inPlace := ["math.Float64bits", "math.Float64frombits", "maps.clone"], unfollowed := true, recurses := true, loops := true, apart := false }
def HistoryKeepsSaid : Prop := historyKeepsRow.holds Tryz.pinned (OpenSpec.ofChange historyKeepsSpec)

/-- ITS FALSE NEIGHBOUR: 'it returns false'. Refute it at one input. -/
def historyKeepsWrong : ChangeSpec := { name := "historyKeeps", fn := fun _ => fun
  | [d] => { results := [.lit (.bool false)], args := [d] }
  | _ => none }
def HistoryKeepsWrongFalsely : Prop := historyKeepsRow.holds Tryz.pinned (OpenSpec.ofChange historyKeepsWrong)

/- THE SECOND FORM. 'bulk': how many values and letters a reading holds, each counted each time it is reached (what is shared counts as often as it is met; a slice's spare places count too). A statement '..UptoSaid' is the law's where the arguments, and the package variables that the reading takes, are together of bulk at most 1048576: NARROWER than '..Said'. Prove '..Said' where nothing that the law and all that it calls make is longer than what came in: it says more and counts as full. Else prove '..UptoSaid'. A law counts once. -/
mutual
def uptoBulk {H : Type} : DataW H → Nat
  | .lit (.string bytes) => bytes.length + 1
  | .lit _ => 1
  | .nil => 1
  | .ptr d => uptoBulk d + 1
  | .slice elems spare => uptoBulkAll elems + uptoBulkAll spare + 1
  | .agg parts => uptoBulkAll parts + 1
  | .iface _ d => uptoBulk d + 1
  | .map entries => uptoBulkEntries entries + 1
  | .held _ => 1
def uptoBulkAll {H : Type} : List (DataW H) → Nat
  | [] => 0
  | d :: r => uptoBulk d + uptoBulkAll r
def uptoBulkEntries {H : Type} : List (Lit × DataW H) → Nat
  | [] => 0
  | x :: r => uptoBulkEntry x + uptoBulkEntries r
def uptoBulkEntry {H : Type} : Lit × DataW H → Nat
  | (.string bytes, d) => bytes.length + uptoBulk d + 1
  | (_, d) => uptoBulk d + 1
 end
def uptoSmall : (H : Type) → List (DataW H) → Bool := fun _ ds => decide (uptoBulkAll ds ≤ 1048576)
def OpenSpec.upto (s : _root_.Go.ChangeSpec) : _root_.Go.OpenSpec := { _root_.Go.OpenSpec.ofChange s with cond := some uptoSmall }

/-- 'clockworklaw12.HistoryKeys', WHERE WHAT IT READS IS OF BULK AT MOST 1048576: true; the input reads as it did. -/
def historyKeysUptoRow : OpenClaim := { program := "ytkajcldmolcllaagreat", sum := "323cb349fd67a32be5f90407b8840d4a2dea401b2f228f45b6cab72aa4070e01", func := "clockwork/clockworklaw12.HistoryKeys", spec := "historyKeys", inPlace := ["math.Float64bits", "math.Float64frombits", "maps.clone"], unfollowed := true, recurses := true, loops := true, apart := false, narrowed := true }
def HistoryKeysUptoSaid : Prop := historyKeysUptoRow.holds Tryz.pinned (OpenSpec.upto historyKeysSpec)

/-- 'clockworklaw12.HistoryAdds', WHERE WHAT IT READS IS OF BULK AT MOST 1048576: true; the input reads as it did. -/
def historyAddsUptoRow : OpenClaim := { program := "ytkajcldmolcllaagreat", sum := "323cb349fd67a32be5f90407b8840d4a2dea401b2f228f45b6cab72aa4070e01", func := "clockwork/clockworklaw12.HistoryAdds", spec := "historyAdds", inPlace := ["math.Float64bits", "math.Float64frombits", "maps.clone"], unfollowed := true, recurses := true, loops := true, apart := false, narrowed := true }
def HistoryAddsUptoSaid : Prop := historyAddsUptoRow.holds Tryz.pinned (OpenSpec.upto historyAddsSpec)

/-- 'clockworklaw12.HistoryAgain', WHERE WHAT IT READS IS OF BULK AT MOST 1048576: true; the input reads as it did. -/
def historyAgainUptoRow : OpenClaim := { program := "ytkajcldmolcllaagreat", sum := "323cb349fd67a32be5f90407b8840d4a2dea401b2f228f45b6cab72aa4070e01", func := "clockwork/clockworklaw12.HistoryAgain", spec := "historyAgain", inPlace := ["math.Float64bits", "math.Float64frombits", "maps.clone"], unfollowed := true, recurses := true, loops := true, apart := false, narrowed := true }
def HistoryAgainUptoSaid : Prop := historyAgainUptoRow.holds Tryz.pinned (OpenSpec.upto historyAgainSpec)

/-- 'clockworklaw12.HistoryOnce', WHERE WHAT IT READS IS OF BULK AT MOST 1048576: true; the input reads as it did. -/
def historyOnceUptoRow : OpenClaim := { program := "ytkajcldmolcllaagreat", sum := "323cb349fd67a32be5f90407b8840d4a2dea401b2f228f45b6cab72aa4070e01", func := "clockwork/clockworklaw12.HistoryOnce", spec := "historyOnce", inPlace := ["math.Float64bits", "math.Float64frombits", "maps.clone"], unfollowed := true, recurses := true, loops := true, apart := false, narrowed := true }
def HistoryOnceUptoSaid : Prop := historyOnceUptoRow.holds Tryz.pinned (OpenSpec.upto historyOnceSpec)

/-- 'clockworklaw12.HistoryKeeps', WHERE WHAT IT READS IS OF BULK AT MOST 1048576: true; the input reads as it did. -/
def historyKeepsUptoRow : OpenClaim := { program := "ytkajcldmolcllaagreat", sum := "323cb349fd67a32be5f90407b8840d4a2dea401b2f228f45b6cab72aa4070e01", func := "clockwork/clockworklaw12.HistoryKeeps", spec := "historyKeeps", inPlace := ["math.Float64bits", "math.Float64frombits", "maps.clone"], unfollowed := true, recurses := true, loops := true, apart := false, narrowed := true }
def HistoryKeepsUptoSaid : Prop := historyKeepsUptoRow.holds Tryz.pinned (OpenSpec.upto historyKeepsSpec)

end Rows
end Go.Proofs.YtkajcldmolcllaaGreat
