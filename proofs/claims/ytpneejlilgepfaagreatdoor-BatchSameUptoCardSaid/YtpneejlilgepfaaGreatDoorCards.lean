/-
  DERIVED. GIVEN WITH THE SEED: THE CARDS: each row of YtpneejlilgepfaaGreatDoorRows.lean that lists a variable, with what it lists TIED to the program's text (the seventh form; the later family's looks); each row that meets fmt, with fmt's text TOLD by the authors' own Lean function (tested against real Go, not proved from fmt's source: count such statements apart). THE CARD IS WHAT COUNTS. Prove the row's statement (the work); the ties are given (YtpneejlilgepfaaGreatDoorTie.lean); close each card by the builder's one call (the guide's Derived/Test/ToyasCard.lean, 'card_holds'). Laid BY PROGRAM, IN A SANDBOX (cutbox-door.mjs). By AI agents, Wed Nov 11 2026. No macro, syntax, notation, axiom, sorry.
-/
import Derived.Test.YtpneejlilgepfaaGreatDoorRows
import GoSem.ClaimSeven
namespace Go.Proofs.YtpneejlilgepfaaGreatDoor
namespace Rows

/-- THE TIED CARD OF 'clockworklaw13.BatchSame'. -/
def batchSameCard : Claim7 := { stood := { row := batchSameRow, standIns := [], harness := (true, "aff3b73eb762d321f933e1709f865530b5b801e4fbe25c51cefeb4de04f478d1"), looks := true }, kinds := [], alts := [], laidByText := true, laidKinds := [.data, .data, .data], laidTests := true, laidLooks := .later }
def BatchSameCardSaid : Prop := Claim7.holds Tryz.pinned (.plain (OpenSpec.ofChange batchSameSpec)) batchSameCard

/-- THE TIED CARD OF 'clockworklaw11.EventReads'. -/
def eventReadsCard : Claim7 := { stood := { row := eventReadsRow, standIns := [], harness := (true, "aff3b73eb762d321f933e1709f865530b5b801e4fbe25c51cefeb4de04f478d1"), looks := true }, kinds := [], alts := [], laidByText := true, laidKinds := [.data, .data, .data], laidTests := true, laidLooks := .later }
def EventReadsCardSaid : Prop := Claim7.holds Tryz.pinned (.plain (OpenSpec.ofChange eventReadsSpec)) eventReadsCard

/-- THE TIED CARD OF 'clockworklaw11.EventForms'. -/
def eventFormsCard : Claim7 := { stood := { row := eventFormsRow, standIns := [], harness := (true, "aff3b73eb762d321f933e1709f865530b5b801e4fbe25c51cefeb4de04f478d1"), looks := true }, kinds := [], alts := [], laidByText := true, laidKinds := [.data, .data, .data], laidTests := true, laidLooks := .later }
def EventFormsCardSaid : Prop := Claim7.holds Tryz.pinned (.plain (OpenSpec.ofChange eventFormsSpec)) eventFormsCard

/-- THE TIED CARD OF 'clockworklaw13.BatchForms'. -/
def batchFormsCard : Claim7 := { stood := { row := batchFormsRow, standIns := [], harness := (true, "aff3b73eb762d321f933e1709f865530b5b801e4fbe25c51cefeb4de04f478d1"), looks := true }, kinds := [], alts := [], laidByText := true, laidKinds := [.data, .data, .data], laidTests := true, laidLooks := .later }
def BatchFormsCardSaid : Prop := Claim7.holds Tryz.pinned (.plain (OpenSpec.ofChange batchFormsSpec)) batchFormsCard

/-- THE SECOND FORM's CARD OF 'clockworklaw13.BatchSame'. -/
def batchSameUptoCard : Claim7 := { stood := { row := batchSameUptoRow, standIns := [], harness := (true, "aff3b73eb762d321f933e1709f865530b5b801e4fbe25c51cefeb4de04f478d1"), looks := true }, kinds := [], alts := [], laidByText := true, laidKinds := [.data, .data, .data], laidTests := true, laidLooks := .later }
def BatchSameUptoCardSaid : Prop := Claim7.holds Tryz.pinned (.plain (OpenSpec.upto batchSameSpec)) batchSameUptoCard

/-- THE SECOND FORM's CARD OF 'clockworklaw11.EventReads'. -/
def eventReadsUptoCard : Claim7 := { stood := { row := eventReadsUptoRow, standIns := [], harness := (true, "aff3b73eb762d321f933e1709f865530b5b801e4fbe25c51cefeb4de04f478d1"), looks := true }, kinds := [], alts := [], laidByText := true, laidKinds := [.data, .data, .data], laidTests := true, laidLooks := .later }
def EventReadsUptoCardSaid : Prop := Claim7.holds Tryz.pinned (.plain (OpenSpec.upto eventReadsSpec)) eventReadsUptoCard

/-- THE SECOND FORM's CARD OF 'clockworklaw11.EventForms'. -/
def eventFormsUptoCard : Claim7 := { stood := { row := eventFormsUptoRow, standIns := [], harness := (true, "aff3b73eb762d321f933e1709f865530b5b801e4fbe25c51cefeb4de04f478d1"), looks := true }, kinds := [], alts := [], laidByText := true, laidKinds := [.data, .data, .data], laidTests := true, laidLooks := .later }
def EventFormsUptoCardSaid : Prop := Claim7.holds Tryz.pinned (.plain (OpenSpec.upto eventFormsSpec)) eventFormsUptoCard

/-- THE SECOND FORM's CARD OF 'clockworklaw13.BatchForms'. -/
def batchFormsUptoCard : Claim7 := { stood := { row := batchFormsUptoRow, standIns := [], harness := (true, "aff3b73eb762d321f933e1709f865530b5b801e4fbe25c51cefeb4de04f478d1"), looks := true }, kinds := [], alts := [], laidByText := true, laidKinds := [.data, .data, .data], laidTests := true, laidLooks := .later }
def BatchFormsUptoCardSaid : Prop := Claim7.holds Tryz.pinned (.plain (OpenSpec.upto batchFormsSpec)) batchFormsUptoCard
end Rows
end Go.Proofs.YtpneejlilgepfaaGreatDoor
