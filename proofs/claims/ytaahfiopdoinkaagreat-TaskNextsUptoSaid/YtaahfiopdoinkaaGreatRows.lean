/-
  NARROWER THAN 'FOR EVERY INPUT', by the rows' own cells (each row's printed sentence says how): TaskFinds: loops · TaskFits: loops · TaskLists: loops · TaskNexts: loops.
  DERIVED. THE GIVEN ROWS OF THIS SEAT. 5 by the template 'for every input the law returns true; each argument reads behind the call as it read before'; 0 by the template 'total and deterministic' (their statements: YtaahfiopdoinkaaGreatTotals.lean).
  GIVEN WITH THE SEED: the statements are not yours to turn. If you find one false, say at which input.
  Laid BY PROGRAM, IN A SANDBOX (cutbox-rows.mjs): the forced cells as the released guide's own fill.sh prints them over the translation e52c79b21ce3a1a5… (all of the seat's roots in one cut). By AI agents, Wed Nov 11 2026. No macro, syntax, notation, axiom, sorry.
-/
import Derived.Test.YtaahfiopdoinkaaGreatChecked
import GoSem.Claim
import GoSem.ClaimJoined
import GoSem.ClaimMapViews
import Derived.JoinedTies
import Derived.KernelRfl
namespace Go.Proofs.YtaahfiopdoinkaaGreat
/- THE CELL 'sum', in the pinned program and in every row, IS THE sha256 OF THE DUMP (.gsa) THAT YtaahfiopdoinkaaGreatProg.lean LOADS. Nothing in Lean hashes anything: it is a label: what it is worth is what the hold of that sum in a sandbox is worth. -/
noncomputable def Tryz.pinned : Pinned := { name := "ytaahfiopdoinkaagreat", sum := "e52c79b21ce3a1a5567741ab73cdcd4b2e83d58e1db1921ce25f052a8370d0ed", checked := Tryz.checked }
namespace Rows
def none {H : Type} : Left H := { results := [], args := [] }

/-- 'clockworklaw24.TaskFinds': WHATEVER THE INPUT: true; the input reads as it did. -/
def taskFindsSpec : ChangeSpec := { name := "taskFinds", fn := fun _ => fun
  | [d1, d2, d3] => { results := [.lit (.bool true)], args := [d1, d2, d3] }
  | _ => none }
def taskFindsRow : OpenClaim := { program := "ytaahfiopdoinkaagreat", sum := "e52c79b21ce3a1a5567741ab73cdcd4b2e83d58e1db1921ce25f052a8370d0ed", func := "clockwork/clockworklaw24.TaskFinds", spec := "taskFinds", inPlace := ["math.Float64bits", "math.Float64frombits", "maps.clone"], unfollowed := true, recurses := true, loops := true, apart := false }
def TaskFindsSaid : Prop := taskFindsRow.holds Tryz.pinned (OpenSpec.ofChange taskFindsSpec)

/-- ITS FALSE NEIGHBOUR: 'it returns false'. Refute it at one input. -/
def taskFindsWrong : ChangeSpec := { name := "taskFinds", fn := fun _ => fun
  | [d1, d2, d3] => { results := [.lit (.bool false)], args := [d1, d2, d3] }
  | _ => none }
def TaskFindsWrongFalsely : Prop := taskFindsRow.holds Tryz.pinned (OpenSpec.ofChange taskFindsWrong)

/-- 'clockworklaw24.TaskFits': WHATEVER THE INPUT: true; the input reads as it did. -/
def taskFitsSpec : ChangeSpec := { name := "taskFits", fn := fun _ => fun
  | [d1, d2] => { results := [.lit (.bool true)], args := [d1, d2] }
  | _ => none }
def taskFitsRow : OpenClaim := { program := "ytaahfiopdoinkaagreat", sum := "e52c79b21ce3a1a5567741ab73cdcd4b2e83d58e1db1921ce25f052a8370d0ed", func := "clockwork/clockworklaw24.TaskFits", spec := "taskFits", inPlace := ["math.Float64bits", "math.Float64frombits", "maps.clone"], unfollowed := true, recurses := true, loops := true, apart := false }
def TaskFitsSaid : Prop := taskFitsRow.holds Tryz.pinned (OpenSpec.ofChange taskFitsSpec)

/-- ITS FALSE NEIGHBOUR: 'it returns false'. Refute it at one input. -/
def taskFitsWrong : ChangeSpec := { name := "taskFits", fn := fun _ => fun
  | [d1, d2] => { results := [.lit (.bool false)], args := [d1, d2] }
  | _ => none }
def TaskFitsWrongFalsely : Prop := taskFitsRow.holds Tryz.pinned (OpenSpec.ofChange taskFitsWrong)

/-- 'clockworklaw24.TaskLists': WHATEVER THE INPUT: true; the input reads as it did. -/
def taskListsSpec : ChangeSpec := { name := "taskLists", fn := fun _ => fun
  | [d1, d2] => { results := [.lit (.bool true)], args := [d1, d2] }
  | _ => none }
def taskListsRow : OpenClaim := { program := "ytaahfiopdoinkaagreat", sum := "e52c79b21ce3a1a5567741ab73cdcd4b2e83d58e1db1921ce25f052a8370d0ed", func := "clockwork/clockworklaw24.TaskLists", spec := "taskLists", inPlace := ["math.Float64bits", "math.Float64frombits", "maps.clone"], unfollowed := true, recurses := true, loops := true, apart := false }
def TaskListsSaid : Prop := taskListsRow.holds Tryz.pinned (OpenSpec.ofChange taskListsSpec)

/-- ITS FALSE NEIGHBOUR: 'it returns false'. Refute it at one input. -/
def taskListsWrong : ChangeSpec := { name := "taskLists", fn := fun _ => fun
  | [d1, d2] => { results := [.lit (.bool false)], args := [d1, d2] }
  | _ => none }
def TaskListsWrongFalsely : Prop := taskListsRow.holds Tryz.pinned (OpenSpec.ofChange taskListsWrong)

/-- 'clockworklaw24.TaskNil': WHATEVER THE INPUT: true; the input reads as it did. -/
def taskNilSpec : ChangeSpec := { name := "taskNil", fn := fun _ => fun
  | [d1, d2] => { results := [.lit (.bool true)], args := [d1, d2] }
  | _ => none }
def taskNilRow : OpenClaim := { program := "ytaahfiopdoinkaagreat", sum := "e52c79b21ce3a1a5567741ab73cdcd4b2e83d58e1db1921ce25f052a8370d0ed", func := "clockwork/clockworklaw24.TaskNil", spec := "taskNil", inPlace := ["math.Float64bits", "math.Float64frombits", "maps.clone"], unfollowed := true, recurses := true, apart := false }
def TaskNilSaid : Prop := taskNilRow.holds Tryz.pinned (OpenSpec.ofChange taskNilSpec)

/-- ITS FALSE NEIGHBOUR: 'it returns false'. Refute it at one input. -/
def taskNilWrong : ChangeSpec := { name := "taskNil", fn := fun _ => fun
  | [d1, d2] => { results := [.lit (.bool false)], args := [d1, d2] }
  | _ => none }
def TaskNilWrongFalsely : Prop := taskNilRow.holds Tryz.pinned (OpenSpec.ofChange taskNilWrong)

/-- 'clockworklaw24.TaskNexts': WHATEVER THE INPUT: true; the input reads as it did. -/
def taskNextsSpec : ChangeSpec := { name := "taskNexts", fn := fun _ => fun
  | [d1, d2] => { results := [.lit (.bool true)], args := [d1, d2] }
  | _ => none }
def taskNextsRow : OpenClaim := { program := "ytaahfiopdoinkaagreat", sum := "e52c79b21ce3a1a5567741ab73cdcd4b2e83d58e1db1921ce25f052a8370d0ed", func := "clockwork/clockworklaw24.TaskNexts", spec := "taskNexts", inPlace := ["math.Float64bits", "math.Float64frombits", "maps.clone"], unfollowed := true, recurses := true, loops := true, apart := false }
def TaskNextsSaid : Prop := taskNextsRow.holds Tryz.pinned (OpenSpec.ofChange taskNextsSpec)

/-- ITS FALSE NEIGHBOUR: 'it returns false'. Refute it at one input. -/
def taskNextsWrong : ChangeSpec := { name := "taskNexts", fn := fun _ => fun
  | [d1, d2] => { results := [.lit (.bool false)], args := [d1, d2] }
  | _ => none }
def TaskNextsWrongFalsely : Prop := taskNextsRow.holds Tryz.pinned (OpenSpec.ofChange taskNextsWrong)

/- THE SECOND FORM. 'bulk': how many values and letters a reading holds, each counted each time it is reached (what is shared counts as often as it is met; a slice's spare places count too). A statement '..UptoSaid' is the law's where the arguments, and the package variables that the reading takes, are together of bulk at most 1048576: NARROWER than '..Said'. Prove '..Said' where nothing that the law and all that it calls make is longer than what came in: it says more and counts as full. Else prove '..UptoSaid'. A law counts once. -/
mutual
def uptoBulk {H : Type} : DataW H → Nat
  | .lit (.string bytes) => bytes.length + 1
  | .lit _ => 1
  | .nil => 1
  | .ptr d => uptoBulk d + 1
  | .slice elems spare => uptoBulkAll elems + uptoBulkAll spare + 1
  | .agg parts => uptoBulkAll parts + 1
  | .iface _ d => uptoBulk d + 1
  | .map entries => uptoBulkEntries entries + 1
  | .held _ => 1
def uptoBulkAll {H : Type} : List (DataW H) → Nat
  | [] => 0
  | d :: r => uptoBulk d + uptoBulkAll r
def uptoBulkEntries {H : Type} : List (Lit × DataW H) → Nat
  | [] => 0
  | x :: r => uptoBulkEntry x + uptoBulkEntries r
def uptoBulkEntry {H : Type} : Lit × DataW H → Nat
  | (.string bytes, d) => bytes.length + uptoBulk d + 1
  | (_, d) => uptoBulk d + 1
 end
def uptoSmall : (H : Type) → List (DataW H) → Bool := fun _ ds => decide (uptoBulkAll ds ≤ 1048576)
def OpenSpec.upto (s : _root_.Go.ChangeSpec) : _root_.Go.OpenSpec := { _root_.Go.OpenSpec.ofChange s with cond := some uptoSmall }

/-- 'clockworklaw24.TaskFinds', WHERE WHAT IT READS IS OF BULK AT MOST 1048576: true; the input reads as it did. -/
def taskFindsUptoRow : OpenClaim := { program := "ytaahfiopdoinkaagreat", sum := "e52c79b21ce3a1a5567741ab73cdcd4b2e83d58e1db1921ce25f052a8370d0ed", func := "clockwork/clockworklaw24.TaskFinds", spec := "taskFinds", inPlace := ["math.Float64bits", "math.Float64frombits", "maps.clone"], unfollowed := true, recurses := true, loops := true, apart := false, narrowed := true }
def TaskFindsUptoSaid : Prop := taskFindsUptoRow.holds Tryz.pinned (OpenSpec.upto taskFindsSpec)

/-- 'clockworklaw24.TaskFits', WHERE WHAT IT READS IS OF BULK AT MOST 1048576: true; the input reads as it did. -/
def taskFitsUptoRow : OpenClaim := { program := "ytaahfiopdoinkaagreat", sum := "e52c79b21ce3a1a5567741ab73cdcd4b2e83d58e1db1921ce25f052a8370d0ed", func := "clockwork/clockworklaw24.TaskFits", spec := "taskFits", inPlace := ["math.Float64bits", "math.Float64frombits", "maps.clone"], unfollowed := true, recurses := true, loops := true, apart := false, narrowed := true }
def TaskFitsUptoSaid : Prop := taskFitsUptoRow.holds Tryz.pinned (OpenSpec.upto taskFitsSpec)

/-- 'clockworklaw24.TaskLists', WHERE WHAT IT READS IS OF BULK AT MOST 1048576: true; the input reads as it did. -/
def taskListsUptoRow : OpenClaim := { program := "ytaahfiopdoinkaagreat", sum := "e52c79b21ce3a1a5567741ab73cdcd4b2e83d58e1db1921ce25f052a8370d0ed", func := "clockwork/clockworklaw24.TaskLists", spec := "taskLists", inPlace := ["math.Float64bits", "math.Float64frombits", "maps.clone"], unfollowed := true, recurses := true, loops := true, apart := false, narrowed := true }
def TaskListsUptoSaid : Prop := taskListsUptoRow.holds Tryz.pinned (OpenSpec.upto taskListsSpec)

/-- 'clockworklaw24.TaskNil', WHERE WHAT IT READS IS OF BULK AT MOST 1048576: true; the input reads as it did. -/
def taskNilUptoRow : OpenClaim := { program := "ytaahfiopdoinkaagreat", sum := "e52c79b21ce3a1a5567741ab73cdcd4b2e83d58e1db1921ce25f052a8370d0ed", func := "clockwork/clockworklaw24.TaskNil", spec := "taskNil", inPlace := ["math.Float64bits", "math.Float64frombits", "maps.clone"], unfollowed := true, recurses := true, apart := false, narrowed := true }
def TaskNilUptoSaid : Prop := taskNilUptoRow.holds Tryz.pinned (OpenSpec.upto taskNilSpec)

/-- 'clockworklaw24.TaskNexts', WHERE WHAT IT READS IS OF BULK AT MOST 1048576: true; the input reads as it did. -/
def taskNextsUptoRow : OpenClaim := { program := "ytaahfiopdoinkaagreat", sum := "e52c79b21ce3a1a5567741ab73cdcd4b2e83d58e1db1921ce25f052a8370d0ed", func := "clockwork/clockworklaw24.TaskNexts", spec := "taskNexts", inPlace := ["math.Float64bits", "math.Float64frombits", "maps.clone"], unfollowed := true, recurses := true, loops := true, apart := false, narrowed := true }
def TaskNextsUptoSaid : Prop := taskNextsUptoRow.holds Tryz.pinned (OpenSpec.upto taskNextsSpec)

end Rows
end Go.Proofs.YtaahfiopdoinkaaGreat
