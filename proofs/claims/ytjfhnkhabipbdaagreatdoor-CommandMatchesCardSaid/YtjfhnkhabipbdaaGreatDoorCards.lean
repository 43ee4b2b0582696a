/-
  DERIVED. GIVEN WITH THE SEED: THE CARDS: each row of YtjfhnkhabipbdaaGreatDoorRows.lean that lists a variable, with what it lists TIED to the program's text (the seventh form; the later family's looks); each row that meets fmt, with fmt's text TOLD by the authors' own Lean function (tested against real Go, not proved from fmt's source: count such statements apart). THE CARD IS WHAT COUNTS. Prove the row's statement (the work); the ties are given (YtjfhnkhabipbdaaGreatDoorTie.lean); close each card by the builder's one call (the guide's Derived/Test/ToyasCard.lean, 'card_holds'). Laid BY PROGRAM, IN A SANDBOX (cutbox-door.mjs). By AI agents, Wed Nov 11 2026. No macro, syntax, notation, axiom, sorry.
-/
import Derived.Test.YtjfhnkhabipbdaaGreatDoorRows
import GoSem.ClaimSeven
namespace Go.Proofs.YtjfhnkhabipbdaaGreatDoor
namespace Rows

/-- THE TIED CARD OF 'clockworklaw21.CommandMatches'. -/
def commandMatchesCard : Claim7 := { stood := { row := commandMatchesRow, standIns := [], harness := (true, "29c069904d18e7b33fe6f6056c5cae5a08fed8ce1fe9ea60d414985230e7d92e"), looks := true }, kinds := [], alts := [], laidByText := true, laidKinds := [.data, .data, .data], laidTests := true, laidLooks := .later }
def CommandMatchesCardSaid : Prop := Claim7.holds Tryz.pinned (.plain (OpenSpec.ofChange commandMatchesSpec)) commandMatchesCard

/-- THE SECOND FORM's CARD OF 'clockworklaw21.CommandMatches'. -/
def commandMatchesUptoCard : Claim7 := { stood := { row := commandMatchesUptoRow, standIns := [], harness := (true, "29c069904d18e7b33fe6f6056c5cae5a08fed8ce1fe9ea60d414985230e7d92e"), looks := true }, kinds := [], alts := [], laidByText := true, laidKinds := [.data, .data, .data], laidTests := true, laidLooks := .later }
def CommandMatchesUptoCardSaid : Prop := Claim7.holds Tryz.pinned (.plain (OpenSpec.upto commandMatchesSpec)) commandMatchesUptoCard
end Rows
end Go.Proofs.YtjfhnkhabipbdaaGreatDoor
