/-
  DERIVED. GIVEN WITH THE SEED: THE CARDS: each row of YtmemjljajbfdlaaDoorRows.lean that lists a variable, with what it lists TIED to the program's text (the seventh form; the later family's looks); each row that meets fmt, with fmt's text TOLD by the authors' own Lean function (tested against real Go, not proved from fmt's source: count such statements apart). THE CARD IS WHAT COUNTS. Prove the row's statement (the work); the ties are given (YtmemjljajbfdlaaDoorTie.lean); close each card by the builder's one call (the guide's Derived/Test/ToyasCard.lean, 'card_holds'). Laid BY PROGRAM, IN A SANDBOX (cutbox-door.mjs). By AI agents, Wed Nov 11 2026. No macro, syntax, notation, axiom, sorry.
-/
import Derived.Test.YtmemjljajbfdlaaDoorRows
import GoSem.ClaimSeven
namespace Go.Proofs.YtmemjljajbfdlaaDoor
namespace Rows

/-- THE TIED CARD OF 'clockworklaw15.LevelEmpties'. -/
def levelEmptiesCard : Claim7 := { stood := { row := levelEmptiesRow, standIns := [], harness := (true, "16cf0bf5f019114cc41cb47170b5df119d6ee8e0f60f08e7cec5a36e536e50b4"), looks := false }, kinds := [], alts := [], laidByText := true, laidKinds := [.data], laidTests := true, laidLooks := .later }
def LevelEmptiesCardSaid : Prop := Claim7.holds Tryd.pinned (.plain (OpenSpec.ofChange levelEmptiesSpec)) levelEmptiesCard

/-- THE TIED CARD OF 'clockworklaw15.LevelMatches'. -/
def levelMatchesCard : Claim7 := { stood := { row := levelMatchesRow, standIns := [], harness := (true, "16cf0bf5f019114cc41cb47170b5df119d6ee8e0f60f08e7cec5a36e536e50b4"), looks := false }, kinds := [], alts := [], laidByText := true, laidKinds := [.data], laidTests := true, laidLooks := .later }
def LevelMatchesCardSaid : Prop := Claim7.holds Tryd.pinned (.plain (OpenSpec.ofChange levelMatchesSpec)) levelMatchesCard

/-- THE TIED CARD OF 'clockworklaw15.LevelNil'. -/
def levelNilCard : Claim7 := { stood := { row := levelNilRow, standIns := [], harness := (true, "16cf0bf5f019114cc41cb47170b5df119d6ee8e0f60f08e7cec5a36e536e50b4"), looks := false }, kinds := [], alts := [], laidByText := true, laidKinds := [.data], laidTests := true, laidLooks := .later }
def LevelNilCardSaid : Prop := Claim7.holds Tryd.pinned (.plain (OpenSpec.ofChange levelNilSpec)) levelNilCard

/-- THE SECOND FORM's CARD OF 'clockworklaw15.LevelEmpties'. -/
def levelEmptiesUptoCard : Claim7 := { stood := { row := levelEmptiesUptoRow, standIns := [], harness := (true, "16cf0bf5f019114cc41cb47170b5df119d6ee8e0f60f08e7cec5a36e536e50b4"), looks := false }, kinds := [], alts := [], laidByText := true, laidKinds := [.data], laidTests := true, laidLooks := .later }
def LevelEmptiesUptoCardSaid : Prop := Claim7.holds Tryd.pinned (.plain (OpenSpec.upto levelEmptiesSpec)) levelEmptiesUptoCard

/-- THE SECOND FORM's CARD OF 'clockworklaw15.LevelMatches'. -/
def levelMatchesUptoCard : Claim7 := { stood := { row := levelMatchesUptoRow, standIns := [], harness := (true, "16cf0bf5f019114cc41cb47170b5df119d6ee8e0f60f08e7cec5a36e536e50b4"), looks := false }, kinds := [], alts := [], laidByText := true, laidKinds := [.data], laidTests := true, laidLooks := .later }
def LevelMatchesUptoCardSaid : Prop := Claim7.holds Tryd.pinned (.plain (OpenSpec.upto levelMatchesSpec)) levelMatchesUptoCard

/-- THE SECOND FORM's CARD OF 'clockworklaw15.LevelNil'. -/
def levelNilUptoCard : Claim7 := { stood := { row := levelNilUptoRow, standIns := [], harness := (true, "16cf0bf5f019114cc41cb47170b5df119d6ee8e0f60f08e7cec5a36e536e50b4"), looks := false }, kinds := [], alts := [], laidByText := true, laidKinds := [.data], laidTests := true, laidLooks := .later }
def LevelNilUptoCardSaid : Prop := Claim7.holds Tryd.pinned (.plain (OpenSpec.upto levelNilSpec)) levelNilUptoCard
end Rows
end Go.Proofs.YtmemjljajbfdlaaDoor
