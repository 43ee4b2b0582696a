/-
  DERIVED. GIVEN WITH THE SEED: THE CARDS: each row of YtpneejlilgepfaaDoorRows.lean that lists a variable, with what it lists TIED to the program's text (the seventh form; the later family's looks); each row that meets fmt, with fmt's text TOLD by the authors' own Lean function (tested against real Go, not proved from fmt's source: count such statements apart). THE CARD IS WHAT COUNTS. Prove the row's statement (the work); the ties are given (YtpneejlilgepfaaDoorTie.lean); close each card by the builder's one call (the guide's Derived/Test/ToyasCard.lean, 'card_holds'). Laid BY PROGRAM, IN A SANDBOX (cutbox-door.mjs). By AI agents, Wed Nov 11 2026. No macro, syntax, notation, axiom, sorry.
-/
import Derived.Test.YtpneejlilgepfaaDoorRows
import GoSem.ClaimSeven
namespace Go.Proofs.YtpneejlilgepfaaDoor
namespace Rows

/-- THE TIED CARD OF 'clockworklaw11.EventSame'. -/
def eventSameCard : Claim7 := { stood := { row := eventSameRow, standIns := [], harness := (true, "ce7ea1d1f901a2964dab2bf82cf486b8074649bae5242ab08e4218be0c553272"), looks := true }, kinds := [], alts := [], laidByText := true, laidKinds := [.data, .data, .data], laidTests := true, laidLooks := .later }
def EventSameCardSaid : Prop := Claim7.holds Tryd.pinned (.plain (OpenSpec.ofChange eventSameSpec)) eventSameCard

/-- THE SECOND FORM's CARD OF 'clockworklaw11.EventSame'. -/
def eventSameUptoCard : Claim7 := { stood := { row := eventSameUptoRow, standIns := [], harness := (true, "ce7ea1d1f901a2964dab2bf82cf486b8074649bae5242ab08e4218be0c553272"), looks := true }, kinds := [], alts := [], laidByText := true, laidKinds := [.data, .data, .data], laidTests := true, laidLooks := .later }
def EventSameUptoCardSaid : Prop := Claim7.holds Tryd.pinned (.plain (OpenSpec.upto eventSameSpec)) eventSameUptoCard
end Rows
end Go.Proofs.YtpneejlilgepfaaDoor
