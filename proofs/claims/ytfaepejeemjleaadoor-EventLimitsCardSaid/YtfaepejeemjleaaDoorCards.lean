/-
  DERIVED. GIVEN WITH THE SEED: THE CARDS: each row of YtfaepejeemjleaaDoorRows.lean that lists a variable, with what it lists TIED to the program's text (the seventh form; the later family's looks); each row that meets fmt, with fmt's text TOLD by the authors' own Lean function (tested against real Go, not proved from fmt's source: count such statements apart). THE CARD IS WHAT COUNTS. Prove the row's statement (the work); the ties are given (YtfaepejeemjleaaDoorTie.lean); close each card by the builder's one call (the guide's Derived/Test/ToyasCard.lean, 'card_holds'). Laid BY PROGRAM, IN A SANDBOX (cutbox-door.mjs). By AI agents, Wed Nov 11 2026. No macro, syntax, notation, axiom, sorry.
-/
import Derived.Test.YtfaepejeemjleaaDoorRows
import GoSem.ClaimSeven
namespace Go.Proofs.YtfaepejeemjleaaDoor
namespace Rows

/-- THE TIED CARD OF 'clockworklaw11.EventLimits'. -/
def eventLimitsCard : Claim7 := { stood := { row := eventLimitsRow, standIns := [], harness := (true, "23f0968dd6590d9eb3fde8727c6abb52d30b5e1e9b650a62c686f7500a19675d"), looks := true }, kinds := [], alts := [], laidByText := true, laidKinds := [.data, .data, .data], laidTests := true, laidLooks := .later }
def EventLimitsCardSaid : Prop := Claim7.holds Tryd.pinned (.plain (OpenSpec.ofChange eventLimitsSpec)) eventLimitsCard

/-- THE TIED CARD OF 'clockworklaw11.EventKinds'. -/
def eventKindsCard : Claim7 := { stood := { row := eventKindsRow, standIns := [], harness := (true, "23f0968dd6590d9eb3fde8727c6abb52d30b5e1e9b650a62c686f7500a19675d"), looks := true }, kinds := [], alts := [], laidByText := true, laidKinds := [.data, .data, .data], laidTests := true, laidLooks := .later }
def EventKindsCardSaid : Prop := Claim7.holds Tryd.pinned (.plain (OpenSpec.ofChange eventKindsSpec)) eventKindsCard

/-- THE SECOND FORM's CARD OF 'clockworklaw11.EventLimits'. -/
def eventLimitsUptoCard : Claim7 := { stood := { row := eventLimitsUptoRow, standIns := [], harness := (true, "23f0968dd6590d9eb3fde8727c6abb52d30b5e1e9b650a62c686f7500a19675d"), looks := true }, kinds := [], alts := [], laidByText := true, laidKinds := [.data, .data, .data], laidTests := true, laidLooks := .later }
def EventLimitsUptoCardSaid : Prop := Claim7.holds Tryd.pinned (.plain (OpenSpec.upto eventLimitsSpec)) eventLimitsUptoCard

/-- THE SECOND FORM's CARD OF 'clockworklaw11.EventKinds'. -/
def eventKindsUptoCard : Claim7 := { stood := { row := eventKindsUptoRow, standIns := [], harness := (true, "23f0968dd6590d9eb3fde8727c6abb52d30b5e1e9b650a62c686f7500a19675d"), looks := true }, kinds := [], alts := [], laidByText := true, laidKinds := [.data, .data, .data], laidTests := true, laidLooks := .later }
def EventKindsUptoCardSaid : Prop := Claim7.holds Tryd.pinned (.plain (OpenSpec.upto eventKindsSpec)) eventKindsUptoCard
end Rows
end Go.Proofs.YtfaepejeemjleaaDoor
