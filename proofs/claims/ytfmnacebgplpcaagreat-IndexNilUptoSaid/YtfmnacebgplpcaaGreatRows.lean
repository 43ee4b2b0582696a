/-
  NARROWER THAN 'FOR EVERY INPUT', by the rows' own cells (each row's printed sentence says how): IndexNil: loops · IndexOrders: loops · IndexAdds: loops · IndexAgain: loops.
  DERIVED. THE GIVEN ROWS OF THIS SEAT. 5 by the template 'for every input the law returns true; each argument reads behind the call as it read before'; 0 by the template 'total and deterministic' (their statements: YtfmnacebgplpcaaGreatTotals.lean).
  GIVEN WITH THE SEED: the statements are not yours to turn. If you find one false, say at which input.
  Laid BY PROGRAM, IN A SANDBOX (cutbox-rows.mjs): the forced cells as the released guide's own fill.sh prints them over the translation e75d76bb63e5227d… (all of the seat's roots in one cut). By AI agents, Wed Nov 11 2026. No macro, syntax, notation, axiom, sorry.
-/
import Derived.Test.YtfmnacebgplpcaaGreatChecked
import GoSem.Claim
import GoSem.ClaimJoined
import GoSem.ClaimMapViews
import Derived.JoinedTies
import Derived.KernelRfl
namespace Go.Proofs.YtfmnacebgplpcaaGreat
/- THE CELL 'sum', in the pinned program and in every row, IS THE sha256 OF THE DUMP (.gsa) THAT YtfmnacebgplpcaaGreatProg.lean LOADS. Nothing in Lean hashes anything: it is a label: what it is worth is what the hold of that sum in a sandbox is worth. -/
noncomputable def Tryz.pinned : Pinned := { name := "ytfmnacebgplpcaagreat", sum := "e75d76bb63e5227d3c784ad4ed11f23679ca1ba037d8bcf0761a6c00230d45af", checked := Tryz.checked }
namespace Rows
def none {H : Type} : Left H := { results := [], args := [] }

/-- 'clockworklaw14.IndexNil': WHATEVER THE INPUT: true; the input reads as it did. -/
def indexNilSpec : ChangeSpec := { name := "indexNil", fn := fun _ => fun
  | [d] => { results := [.lit (.bool true)], args := [d] }
  | _ => none }
def indexNilRow : OpenClaim := { program := "ytfmnacebgplpcaagreat", sum := "e75d76bb63e5227d3c784ad4ed11f23679ca1ba037d8bcf0761a6c00230d45af", func := "clockwork/clockworklaw14.IndexNil", spec := "indexNil", inPlace := ["math.Float64bits", "math.Float64frombits", "maps.clone"], unfollowed := true, recurses := true, loops := true, apart := false }
def IndexNilSaid : Prop := indexNilRow.holds Tryz.pinned (OpenSpec.ofChange indexNilSpec)

/-- ITS FALSE NEIGHBOUR: 'it returns false'. Refute it at one input. -/
def indexNilWrong : ChangeSpec := { name := "indexNil", fn := fun _ => fun
  | [d] => { results := [.lit (.bool false)], args := [d] }
  | _ => none }
def IndexNilWrongFalsely : Prop := indexNilRow.holds Tryz.pinned (OpenSpec.ofChange indexNilWrong)

/-- 'clockworklaw14.IndexOrders': WHATEVER THE INPUT: true; the input reads as it did. -/
def indexOrdersSpec : ChangeSpec := { name := "indexOrders", fn := fun _ => fun
  | [d1, d2] => { results := [.lit (.bool true)], args := [d1, d2] }
  | _ => none }
def indexOrdersRow : OpenClaim := { program := "ytfmnacebgplpcaagreat", sum := "e75d76bb63e5227d3c784ad4ed11f23679ca1ba037d8bcf0761a6c00230d45af", func := "clockwork/clockworklaw14.IndexOrders", spec := "indexOrders", inPlace := ["math.Float64bits", "math.Float64frombits", "maps.clone"], unfollowed := true, recurses := true, loops := true, apart := false }
def IndexOrdersSaid : Prop := indexOrdersRow.holds Tryz.pinned (OpenSpec.ofChange indexOrdersSpec)

/-- ITS FALSE NEIGHBOUR: 'it returns false'. Refute it at one input. -/
def indexOrdersWrong : ChangeSpec := { name := "indexOrders", fn := fun _ => fun
  | [d1, d2] => { results := [.lit (.bool false)], args := [d1, d2] }
  | _ => none }
def IndexOrdersWrongFalsely : Prop := indexOrdersRow.holds Tryz.pinned (OpenSpec.ofChange indexOrdersWrong)

/-- 'clockworklaw14.IndexAdds': WHATEVER THE INPUT: true; the input reads as it did. -/
def indexAddsSpec : ChangeSpec := { name := "indexAdds", fn := fun _ => fun
  | [d] => { results := [.lit (.bool true)], args := [d] }
  | _ => none }
def indexAddsRow : OpenClaim := { program := "ytfmnacebgplpcaagreat", sum := "e75d76bb63e5227d3c784ad4ed11f23679ca1ba037d8bcf0761a6c00230d45af", func := "clockwork/clockworklaw14.IndexAdds", spec := "indexAdds", inPlace := ["math.Float64bits", "math.Float64frombits", "maps.clone"], unfollowed := true, recurses := true, loops := true, apart := false }
def IndexAddsSaid : Prop := indexAddsRow.holds Tryz.pinned (OpenSpec.ofChange indexAddsSpec)

/-- ITS FALSE NEIGHBOUR: 'it returns false'. Refute it at one input. -/
def indexAddsWrong : ChangeSpec := { name := "indexAdds", fn := fun _ => fun
  | [d] => { results := [.lit (.bool false)], args := [d] }
  | _ => none }
def IndexAddsWrongFalsely : Prop := indexAddsRow.holds Tryz.pinned (OpenSpec.ofChange indexAddsWrong)

/-- 'clockworklaw14.IndexBuilds': WHATEVER THE INPUT: true; the input reads as it did. -/
def indexBuildsSpec : ChangeSpec := { name := "indexBuilds", fn := fun _ => fun
  | [d] => { results := [.lit (.bool true)], args := [d] }
  | _ => none }
def indexBuildsRow : OpenClaim := { program := "ytfmnacebgplpcaagreat", sum := "e75d76bb63e5227d3c784ad4ed11f23679ca1ba037d8bcf0761a6c00230d45af", func := "clockwork/clockworklaw14.IndexBuilds", spec := "indexBuilds", inPlace := ["math.Float64bits", "math.Float64frombits", "maps.clone"], unfollowed := true, recurses := true, apart := false }
def IndexBuildsSaid : Prop := indexBuildsRow.holds Tryz.pinned (OpenSpec.ofChange indexBuildsSpec)

/-- ITS FALSE NEIGHBOUR: 'it returns false'. Refute it at one input. -/
def indexBuildsWrong : ChangeSpec := { name := "indexBuilds", fn := fun _ => fun
  | [d] => { results := [.lit (.bool false)], args := [d] }
  | _ => none }
def IndexBuildsWrongFalsely : Prop := indexBuildsRow.holds Tryz.pinned (OpenSpec.ofChange indexBuildsWrong)

/-- 'clockworklaw14.IndexAgain': WHATEVER THE INPUT: true; the input reads as it did. -/
def indexAgainSpec : ChangeSpec := { name := "indexAgain", fn := fun _ => fun
  | [d] => { results := [.lit (.bool true)], args := [d] }
  | _ => none }
def indexAgainRow : OpenClaim := { program := "ytfmnacebgplpcaagreat", sum := "e75d76bb63e5227d3c784ad4ed11f23679ca1ba037d8bcf0761a6c00230d45af", func := "clockwork/clockworklaw14.IndexAgain", spec := "indexAgain", inPlace := ["math.Float64bits", "math.Float64frombits", "maps.clone"], unfollowed := true, recurses := true, loops := true, apart := false }
def IndexAgainSaid : Prop := indexAgainRow.holds Tryz.pinned (OpenSpec.ofChange indexAgainSpec)

/-- ITS FALSE NEIGHBOUR: 'it returns false'. Refute it at one input. -/
def indexAgainWrong : ChangeSpec := { name := "indexAgain", fn := fun _ => fun
  | [d] => { results := [.lit (.bool false)], args := [d] }
  | _ => none }
def IndexAgainWrongFalsely : Prop := indexAgainRow.holds Tryz.pinned (OpenSpec.ofChange indexAgainWrong)

/- THE SECOND FORM. 'bulk': how many values and letters a reading holds, each counted each time it is reached (what is shared counts as often as it is met; a slice's spare places count too). A statement '..UptoSaid' is the law's where the arguments, and the package variables that the reading takes, are together of bulk at most 1048576: NARROWER than '..Said'. Prove '..Said' where nothing that the law and all that it calls make is longer than what came in: it says more and counts as full. Else prove '..UptoSaid'. A law counts once. -/
mutual
def uptoBulk {H : Type} : DataW H → Nat
  | .lit (.string bytes) => bytes.length + 1
  | .lit _ => 1
  | .nil => 1
  | .ptr d => uptoBulk d + 1
  | .slice elems spare => uptoBulkAll elems + uptoBulkAll spare + 1
  | .agg parts => uptoBulkAll parts + 1
  | .iface _ d => uptoBulk d + 1
  | .map entries => uptoBulkEntries entries + 1
  | .held _ => 1
def uptoBulkAll {H : Type} : List (DataW H) → Nat
  | [] => 0
  | d :: r => uptoBulk d + uptoBulkAll r
def uptoBulkEntries {H : Type} : List (Lit × DataW H) → Nat
  | [] => 0
  | x :: r => uptoBulkEntry x + uptoBulkEntries r
def uptoBulkEntry {H : Type} : Lit × DataW H → Nat
  | (.string bytes, d) => bytes.length + uptoBulk d + 1
  | (_, d) => uptoBulk d + 1
 end
def uptoSmall : (H : Type) → List (DataW H) → Bool := fun _ ds => decide (uptoBulkAll ds ≤ 1048576)
def OpenSpec.upto (s : _root_.Go.ChangeSpec) : _root_.Go.OpenSpec := { _root_.Go.OpenSpec.ofChange s with cond := some uptoSmall }

/-- 'clockworklaw14.IndexNil', WHERE WHAT IT READS IS OF BULK AT MOST 1048576: true; the input reads as it did. -/
def indexNilUptoRow : OpenClaim := { program := "ytfmnacebgplpcaagreat", sum := "e75d76bb63e5227d3c784ad4ed11f23679ca1ba037d8bcf0761a6c00230d45af", func := "clockwork/clockworklaw14.IndexNil", spec := "indexNil", inPlace := ["math.Float64bits", "math.Float64frombits", "maps.clone"], unfollowed := true, recurses := true, loops := true, apart := false, narrowed := true }
def IndexNilUptoSaid : Prop := indexNilUptoRow.holds Tryz.pinned (OpenSpec.upto indexNilSpec)

/-- 'clockworklaw14.IndexOrders', WHERE WHAT IT READS IS OF BULK AT MOST 1048576: true; the input reads as it did. -/
def indexOrdersUptoRow : OpenClaim := { program := "ytfmnacebgplpcaagreat", sum := "e75d76bb63e5227d3c784ad4ed11f23679ca1ba037d8bcf0761a6c00230d45af", func := "clockwork/clockworklaw14.IndexOrders", spec := "indexOrders", inPlace := ["math.Float64bits", "math.Float64frombits", "maps.clone"], unfollowed := true, recurses := true, loops := true, apart := false, narrowed := true }
def IndexOrdersUptoSaid : Prop := indexOrdersUptoRow.holds Tryz.pinned (OpenSpec.upto indexOrdersSpec)

/-- 'clockworklaw14.IndexAdds', WHERE WHAT IT READS IS OF BULK AT MOST 1048576: true; the input reads as it did. -/
def indexAddsUptoRow : OpenClaim := { program := "ytfmnacebgplpcaagreat", sum := "e75d76bb63e5227d3c784ad4ed11f23679ca1ba037d8bcf0761a6c00230d45af", func := "clockwork/clockworklaw14.IndexAdds", spec := "indexAdds", inPlace := ["math.Float64bits", "math.Float64frombits", "maps.clone"], unfollowed := true, recurses := true, loops := true, apart := false, narrowed := true }
def IndexAddsUptoSaid : Prop := indexAddsUptoRow.holds Tryz.pinned (OpenSpec.upto indexAddsSpec)

/-- 'clockworklaw14.IndexBuilds', WHERE WHAT IT READS IS OF BULK AT MOST 1048576: true; the input reads as it did. -/
def indexBuildsUptoRow : OpenClaim := { program := "ytfmnacebgplpcaagreat", sum := "e75d76bb63e5227d3c784ad4ed11f23679ca1ba037d8bcf0761a6c00230d45af", func := "clockwork/clockworklaw14.IndexBuilds", spec := "indexBuilds", inPlace := ["math.Float64bits", "math.Float64frombits", "maps.clone"], unfollowed := true, recurses := true, apart := false, narrowed := true }
def IndexBuildsUptoSaid : Prop := indexBuildsUptoRow.holds Tryz.pinned (OpenSpec.upto indexBuildsSpec)

/-- 'clockworklaw14.IndexAgain', WHERE WHAT IT READS IS OF BULK AT MOST 1048576: true; the input reads as it did. -/
def indexAgainUptoRow : OpenClaim := { program := "ytfmnacebgplpcaagreat", sum := "e75d76bb63e5227d3c784ad4ed11f23679ca1ba037d8bcf0761a6c00230d45af", func := "clockwork/clockworklaw14.IndexAgain", spec := "indexAgain", inPlace := ["math.Float64bits", "math.Float64frombits", "maps.clone"], unfollowed := true, recurses := true, loops := true, apart := false, narrowed := true }
def IndexAgainUptoSaid : Prop := indexAgainUptoRow.holds Tryz.pinned (OpenSpec.upto indexAgainSpec)

end Rows
end Go.Proofs.YtfmnacebgplpcaaGreat
