/-
  NARROWER THAN 'FOR EVERY INPUT', by the rows' own cells (each row's printed sentence says how): CommandBuilds: loops · CommandNil: loops · CommandTwins: loops.
  DERIVED. THE GIVEN ROWS OF THIS SEAT. 4 by the template 'for every input the law returns true; each argument reads behind the call as it read before'; 0 by the template 'total and deterministic' (their statements: YtpnepnhajpmccaaTotals.lean).
  GIVEN WITH THE SEED: the statements are not yours to turn. If you find one false, say at which input.
  Laid BY PROGRAM, IN A SANDBOX (cutbox-rows.mjs): the forced cells as the released guide's own fill.sh prints them over the translation c417feac628841f4… (all of the seat's roots in one cut). By AI agents, Wed Nov 11 2026. No macro, syntax, notation, axiom, sorry.
-/
import Derived.Test.YtpnepnhajpmccaaChecked
import GoSem.Claim
import GoSem.ClaimJoined
import GoSem.ClaimMapViews
import Derived.JoinedTies
import Derived.KernelRfl
namespace Go.Proofs.Ytpnepnhajpmccaa
/- THE CELL 'sum', in the pinned program and in every row, IS THE sha256 OF THE DUMP (.gsa) THAT YtpnepnhajpmccaaProg.lean LOADS. Nothing in Lean hashes anything: it is a label: what it is worth is what the hold of that sum in a sandbox is worth. -/
noncomputable def Try.pinned : Pinned := { name := "ytpnepnhajpmccaa", sum := "c417feac628841f4af417fb96aacb7c788047cba5ec857f5281803ebfed68f1b", checked := Try.checked }
namespace Rows
def none {H : Type} : Left H := { results := [], args := [] }

/-- 'clockworklaw21.CommandBuilds': WHATEVER THE INPUT: true; the input reads as it did. -/
def commandBuildsSpec : ChangeSpec := { name := "commandBuilds", fn := fun _ => fun
  | [d1, d2, d3] => { results := [.lit (.bool true)], args := [d1, d2, d3] }
  | _ => none }
def commandBuildsRow : OpenClaim := { program := "ytpnepnhajpmccaa", sum := "c417feac628841f4af417fb96aacb7c788047cba5ec857f5281803ebfed68f1b", func := "clockwork/clockworklaw21.CommandBuilds", spec := "commandBuilds", inPlace := ["math.Float64bits", "math.Float64frombits"], unfollowed := true, recurses := true, loops := true, apart := false }
def CommandBuildsSaid : Prop := commandBuildsRow.holds Try.pinned (OpenSpec.ofChange commandBuildsSpec)

/-- ITS FALSE NEIGHBOUR: 'it returns false'. Refute it at one input. -/
def commandBuildsWrong : ChangeSpec := { name := "commandBuilds", fn := fun _ => fun
  | [d1, d2, d3] => { results := [.lit (.bool false)], args := [d1, d2, d3] }
  | _ => none }
def CommandBuildsWrongFalsely : Prop := commandBuildsRow.holds Try.pinned (OpenSpec.ofChange commandBuildsWrong)

/-- 'clockworklaw21.CommandNil': WHATEVER THE INPUT: true; the input reads as it did. -/
def commandNilSpec : ChangeSpec := { name := "commandNil", fn := fun _ => fun
  | [d1, d2] => { results := [.lit (.bool true)], args := [d1, d2] }
  | _ => none }
def commandNilRow : OpenClaim := { program := "ytpnepnhajpmccaa", sum := "c417feac628841f4af417fb96aacb7c788047cba5ec857f5281803ebfed68f1b", func := "clockwork/clockworklaw21.CommandNil", spec := "commandNil", inPlace := ["math.Float64bits", "math.Float64frombits"], unfollowed := true, recurses := true, loops := true, apart := false }
def CommandNilSaid : Prop := commandNilRow.holds Try.pinned (OpenSpec.ofChange commandNilSpec)

/-- ITS FALSE NEIGHBOUR: 'it returns false'. Refute it at one input. -/
def commandNilWrong : ChangeSpec := { name := "commandNil", fn := fun _ => fun
  | [d1, d2] => { results := [.lit (.bool false)], args := [d1, d2] }
  | _ => none }
def CommandNilWrongFalsely : Prop := commandNilRow.holds Try.pinned (OpenSpec.ofChange commandNilWrong)

/-- 'clockworklaw21.CommandTwins': WHATEVER THE INPUT: true; the input reads as it did. -/
def commandTwinsSpec : ChangeSpec := { name := "commandTwins", fn := fun _ => fun
  | [d] => { results := [.lit (.bool true)], args := [d] }
  | _ => none }
def commandTwinsRow : OpenClaim := { program := "ytpnepnhajpmccaa", sum := "c417feac628841f4af417fb96aacb7c788047cba5ec857f5281803ebfed68f1b", func := "clockwork/clockworklaw21.CommandTwins", spec := "commandTwins", inPlace := ["math.Float64bits", "math.Float64frombits"], unfollowed := true, recurses := true, loops := true, apart := false }
def CommandTwinsSaid : Prop := commandTwinsRow.holds Try.pinned (OpenSpec.ofChange commandTwinsSpec)

/-- ITS FALSE NEIGHBOUR: 'it returns false'. Refute it at one input. -/
def commandTwinsWrong : ChangeSpec := { name := "commandTwins", fn := fun _ => fun
  | [d] => { results := [.lit (.bool false)], args := [d] }
  | _ => none }
def CommandTwinsWrongFalsely : Prop := commandTwinsRow.holds Try.pinned (OpenSpec.ofChange commandTwinsWrong)

/-- 'clockworklaw21.CommandTexts': WHATEVER THE INPUT: true; the input reads as it did. -/
def commandTextsSpec : ChangeSpec := { name := "commandTexts", fn := fun _ => fun
  | [d1, d2] => { results := [.lit (.bool true)], args := [d1, d2] }
  | _ => none }
def commandTextsRow : OpenClaim := { program := "ytpnepnhajpmccaa", sum := "c417feac628841f4af417fb96aacb7c788047cba5ec857f5281803ebfed68f1b", func := "clockwork/clockworklaw21.CommandTexts", spec := "commandTexts", inPlace := ["internal/abi.NoEscape", "internal/bytealg.MakeNoZero", "math.Float64bits", "math.Float64frombits"], unfollowed := true, recurses := true, apart := false }
def CommandTextsSaid : Prop := commandTextsRow.holds Try.pinned (OpenSpec.ofChange commandTextsSpec)

/-- ITS FALSE NEIGHBOUR: 'it returns false'. Refute it at one input. -/
def commandTextsWrong : ChangeSpec := { name := "commandTexts", fn := fun _ => fun
  | [d1, d2] => { results := [.lit (.bool false)], args := [d1, d2] }
  | _ => none }
def CommandTextsWrongFalsely : Prop := commandTextsRow.holds Try.pinned (OpenSpec.ofChange commandTextsWrong)

/- THE SECOND FORM. 'bulk': how many values and letters a reading holds, each counted each time it is reached (what is shared counts as often as it is met; a slice's spare places count too). A statement '..UptoSaid' is the law's where the arguments, and the package variables that the reading takes, are together of bulk at most 1048576: NARROWER than '..Said'. Prove '..Said' where nothing that the law and all that it calls make is longer than what came in: it says more and counts as full. Else prove '..UptoSaid'. A law counts once. -/
mutual
def uptoBulk {H : Type} : DataW H → Nat
  | .lit (.string bytes) => bytes.length + 1
  | .lit _ => 1
  | .nil => 1
  | .ptr d => uptoBulk d + 1
  | .slice elems spare => uptoBulkAll elems + uptoBulkAll spare + 1
  | .agg parts => uptoBulkAll parts + 1
  | .iface _ d => uptoBulk d + 1
  | .map entries => uptoBulkEntries entries + 1
  | .held _ => 1
def uptoBulkAll {H : Type} : List (DataW H) → Nat
  | [] => 0
  | d :: r => uptoBulk d + uptoBulkAll r
def uptoBulkEntries {H : Type} : List (Lit × DataW H) → Nat
  | [] => 0
  | x :: r => uptoBulkEntry x + uptoBulkEntries r
def uptoBulkEntry {H : Type} : Lit × DataW H → Nat
  | (.string bytes, d) => bytes.length + uptoBulk d + 1
  | (_, d) => uptoBulk d + 1
 end
def uptoSmall : (H : Type) → List (DataW H) → Bool := fun _ ds => decide (uptoBulkAll ds ≤ 1048576)
def OpenSpec.upto (s : _root_.Go.ChangeSpec) : _root_.Go.OpenSpec := { _root_.Go.OpenSpec.ofChange s with cond := some uptoSmall }

/-- 'clockworklaw21.CommandBuilds', WHERE WHAT IT READS IS OF BULK AT MOST 1048576: true; the input reads as it did. -/
def commandBuildsUptoRow : OpenClaim := { program := "ytpnepnhajpmccaa", sum := "c417feac628841f4af417fb96aacb7c788047cba5ec857f5281803ebfed68f1b", func := "clockwork/clockworklaw21.CommandBuilds", spec := "commandBuilds", inPlace := ["math.Float64bits", "math.Float64frombits"], unfollowed := true, recurses := true, loops := true, apart := false, narrowed := true }
def CommandBuildsUptoSaid : Prop := commandBuildsUptoRow.holds Try.pinned (OpenSpec.upto commandBuildsSpec)

/-- 'clockworklaw21.CommandNil', WHERE WHAT IT READS IS OF BULK AT MOST 1048576: true; the input reads as it did. -/
def commandNilUptoRow : OpenClaim := { program := "ytpnepnhajpmccaa", sum := "c417feac628841f4af417fb96aacb7c788047cba5ec857f5281803ebfed68f1b", func := "clockwork/clockworklaw21.CommandNil", spec := "commandNil", inPlace := ["math.Float64bits", "math.Float64frombits"], unfollowed := true, recurses := true, loops := true, apart := false, narrowed := true }
def CommandNilUptoSaid : Prop := commandNilUptoRow.holds Try.pinned (OpenSpec.upto commandNilSpec)

/-- 'clockworklaw21.CommandTwins', WHERE WHAT IT READS IS OF BULK AT MOST 1048576: true; the input reads as it did. -/
def commandTwinsUptoRow : OpenClaim := { program := "ytpnepnhajpmccaa", sum := "c417feac628841f4af417fb96aacb7c788047cba5ec857f5281803ebfed68f1b", func := "clockwork/clockworklaw21.CommandTwins", spec := "commandTwins", inPlace := ["math.Float64bits", "math.Float64frombits"], unfollowed := true, recurses := true, loops := true, apart := false, narrowed := true }
def CommandTwinsUptoSaid : Prop := commandTwinsUptoRow.holds Try.pinned (OpenSpec.upto commandTwinsSpec)

/-- 'clockworklaw21.CommandTexts', WHERE WHAT IT READS IS OF BULK AT MOST 1048576: true; the input reads as it did. -/
def commandTextsUptoRow : OpenClaim := { program := "ytpnepnhajpmccaa", sum := "c417feac628841f4af417fb96aacb7c788047cba5ec857f5281803ebfed68f1b", func := "clockwork/clockworklaw21.CommandTexts", spec := "commandTexts", inPlace := ["internal/abi.NoEscape", "internal/bytealg.MakeNoZero", "math.Float64bits", "math.Float64frombits"], unfollowed := true, recurses := true, apart := false, narrowed := true }
def CommandTextsUptoSaid : Prop := commandTextsUptoRow.holds Try.pinned (OpenSpec.upto commandTextsSpec)

end Rows
end Go.Proofs.Ytpnepnhajpmccaa
