/-
  DERIVED. GIVEN WITH THE SEED: THE CARDS: each row of YtkjlfoihojfnbaaDoorRows.lean that lists a variable, with what it lists TIED to the program's text (the seventh form; the later family's looks); each row that meets fmt, with fmt's text TOLD by the authors' own Lean function (tested against real Go, not proved from fmt's source: count such statements apart). THE CARD IS WHAT COUNTS. Prove the row's statement (the work); the ties are given (YtkjlfoihojfnbaaDoorTie.lean); close each card by the builder's one call (the guide's Derived/Test/ToyasCard.lean, 'card_holds'). Laid BY PROGRAM, IN A SANDBOX (cutbox-door.mjs). By AI agents, Wed Nov 11 2026. No macro, syntax, notation, axiom, sorry.
-/
import Derived.Test.YtkjlfoihojfnbaaDoorRows
import GoSem.ClaimSeven
namespace Go.Proofs.YtkjlfoihojfnbaaDoor
namespace Rows

/-- THE TIED CARD OF 'clockworklaw15.LevelMatches'. -/
def levelMatchesCard : Claim7 := { stood := { row := levelMatchesRow, standIns := [], harness := (true, "8b5ee9ec5b12929d2680c1c4a0e9b3396ee823c08ac9167ab394f1dc7b3d2260"), looks := false }, kinds := [], alts := [], laidByText := true, laidKinds := [.data], laidTests := true, laidLooks := .later }
def LevelMatchesCardSaid : Prop := Claim7.holds Tryd.pinned (.plain (OpenSpec.ofChange levelMatchesSpec)) levelMatchesCard

/-- THE TIED CARD OF 'clockworklaw16.WheelFar'. -/
def wheelFarCard : Claim7 := { stood := { row := wheelFarRow, standIns := [], harness := (true, "8b5ee9ec5b12929d2680c1c4a0e9b3396ee823c08ac9167ab394f1dc7b3d2260"), looks := false }, kinds := [], alts := [], laidByText := true, laidKinds := [.data], laidTests := true, laidLooks := .later }
def WheelFarCardSaid : Prop := Claim7.holds Tryd.pinned (.plain (OpenSpec.ofChange wheelFarSpec)) wheelFarCard

/-- THE TIED CARD OF 'clockworklaw16.WheelSteps'. -/
def wheelStepsCard : Claim7 := { stood := { row := wheelStepsRow, standIns := [], harness := (true, "8b5ee9ec5b12929d2680c1c4a0e9b3396ee823c08ac9167ab394f1dc7b3d2260"), looks := false }, kinds := [], alts := [], laidByText := true, laidKinds := [.data], laidTests := true, laidLooks := .later }
def WheelStepsCardSaid : Prop := Claim7.holds Tryd.pinned (.plain (OpenSpec.ofChange wheelStepsSpec)) wheelStepsCard

/-- THE TIED CARD OF 'clockworklaw16.WheelOnce'. -/
def wheelOnceCard : Claim7 := { stood := { row := wheelOnceRow, standIns := [], harness := (true, "8b5ee9ec5b12929d2680c1c4a0e9b3396ee823c08ac9167ab394f1dc7b3d2260"), looks := false }, kinds := [], alts := [], laidByText := true, laidKinds := [.data], laidTests := true, laidLooks := .later }
def WheelOnceCardSaid : Prop := Claim7.holds Tryd.pinned (.plain (OpenSpec.ofChange wheelOnceSpec)) wheelOnceCard

/-- THE TIED CARD OF 'clockworklaw16.WheelNil'. -/
def wheelNilCard : Claim7 := { stood := { row := wheelNilRow, standIns := [], harness := (true, "8b5ee9ec5b12929d2680c1c4a0e9b3396ee823c08ac9167ab394f1dc7b3d2260"), looks := false }, kinds := [], alts := [], laidByText := true, laidKinds := [.data], laidTests := true, laidLooks := .later }
def WheelNilCardSaid : Prop := Claim7.holds Tryd.pinned (.plain (OpenSpec.ofChange wheelNilSpec)) wheelNilCard

/-- THE TIED CARD OF 'clockworklaw16.WheelMatches'. -/
def wheelMatchesCard : Claim7 := { stood := { row := wheelMatchesRow, standIns := [], harness := (true, "8b5ee9ec5b12929d2680c1c4a0e9b3396ee823c08ac9167ab394f1dc7b3d2260"), looks := false }, kinds := [], alts := [], laidByText := true, laidKinds := [.data], laidTests := true, laidLooks := .later }
def WheelMatchesCardSaid : Prop := Claim7.holds Tryd.pinned (.plain (OpenSpec.ofChange wheelMatchesSpec)) wheelMatchesCard

/-- THE SECOND FORM's CARD OF 'clockworklaw15.LevelMatches'. -/
def levelMatchesUptoCard : Claim7 := { stood := { row := levelMatchesUptoRow, standIns := [], harness := (true, "8b5ee9ec5b12929d2680c1c4a0e9b3396ee823c08ac9167ab394f1dc7b3d2260"), looks := false }, kinds := [], alts := [], laidByText := true, laidKinds := [.data], laidTests := true, laidLooks := .later }
def LevelMatchesUptoCardSaid : Prop := Claim7.holds Tryd.pinned (.plain (OpenSpec.upto levelMatchesSpec)) levelMatchesUptoCard

/-- THE SECOND FORM's CARD OF 'clockworklaw16.WheelFar'. -/
def wheelFarUptoCard : Claim7 := { stood := { row := wheelFarUptoRow, standIns := [], harness := (true, "8b5ee9ec5b12929d2680c1c4a0e9b3396ee823c08ac9167ab394f1dc7b3d2260"), looks := false }, kinds := [], alts := [], laidByText := true, laidKinds := [.data], laidTests := true, laidLooks := .later }
def WheelFarUptoCardSaid : Prop := Claim7.holds Tryd.pinned (.plain (OpenSpec.upto wheelFarSpec)) wheelFarUptoCard

/-- THE SECOND FORM's CARD OF 'clockworklaw16.WheelSteps'. -/
def wheelStepsUptoCard : Claim7 := { stood := { row := wheelStepsUptoRow, standIns := [], harness := (true, "8b5ee9ec5b12929d2680c1c4a0e9b3396ee823c08ac9167ab394f1dc7b3d2260"), looks := false }, kinds := [], alts := [], laidByText := true, laidKinds := [.data], laidTests := true, laidLooks := .later }
def WheelStepsUptoCardSaid : Prop := Claim7.holds Tryd.pinned (.plain (OpenSpec.upto wheelStepsSpec)) wheelStepsUptoCard

/-- THE SECOND FORM's CARD OF 'clockworklaw16.WheelOnce'. -/
def wheelOnceUptoCard : Claim7 := { stood := { row := wheelOnceUptoRow, standIns := [], harness := (true, "8b5ee9ec5b12929d2680c1c4a0e9b3396ee823c08ac9167ab394f1dc7b3d2260"), looks := false }, kinds := [], alts := [], laidByText := true, laidKinds := [.data], laidTests := true, laidLooks := .later }
def WheelOnceUptoCardSaid : Prop := Claim7.holds Tryd.pinned (.plain (OpenSpec.upto wheelOnceSpec)) wheelOnceUptoCard

/-- THE SECOND FORM's CARD OF 'clockworklaw16.WheelNil'. -/
def wheelNilUptoCard : Claim7 := { stood := { row := wheelNilUptoRow, standIns := [], harness := (true, "8b5ee9ec5b12929d2680c1c4a0e9b3396ee823c08ac9167ab394f1dc7b3d2260"), looks := false }, kinds := [], alts := [], laidByText := true, laidKinds := [.data], laidTests := true, laidLooks := .later }
def WheelNilUptoCardSaid : Prop := Claim7.holds Tryd.pinned (.plain (OpenSpec.upto wheelNilSpec)) wheelNilUptoCard

/-- THE SECOND FORM's CARD OF 'clockworklaw16.WheelMatches'. -/
def wheelMatchesUptoCard : Claim7 := { stood := { row := wheelMatchesUptoRow, standIns := [], harness := (true, "8b5ee9ec5b12929d2680c1c4a0e9b3396ee823c08ac9167ab394f1dc7b3d2260"), looks := false }, kinds := [], alts := [], laidByText := true, laidKinds := [.data], laidTests := true, laidLooks := .later }
def WheelMatchesUptoCardSaid : Prop := Claim7.holds Tryd.pinned (.plain (OpenSpec.upto wheelMatchesSpec)) wheelMatchesUptoCard
end Rows
end Go.Proofs.YtkjlfoihojfnbaaDoor
