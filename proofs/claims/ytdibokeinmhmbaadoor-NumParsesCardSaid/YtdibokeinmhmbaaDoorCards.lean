/-
  DERIVED. GIVEN WITH THE SEED: THE CARDS: each row of YtdibokeinmhmbaaDoorRows.lean that lists a variable, with what it lists TIED to the program's text (the seventh form; the later family's looks); each row that meets fmt, with fmt's text TOLD by the authors' own Lean function (tested against real Go, not proved from fmt's source: count such statements apart). THE CARD IS WHAT COUNTS. Prove the row's statement (the work); the ties are given (YtdibokeinmhmbaaDoorTie.lean); close each card by the builder's one call (the guide's Derived/Test/ToyasCard.lean, 'card_holds'). Laid BY PROGRAM, IN A SANDBOX (cutbox-door.mjs). By AI agents, Wed Nov 11 2026. No macro, syntax, notation, axiom, sorry.
-/
import Derived.Test.YtdibokeinmhmbaaDoorRows
import GoSem.ClaimSeven
namespace Go.Proofs.YtdibokeinmhmbaaDoor
namespace Rows

/-- THE TIED CARD OF 'clockworklaw19.RetryTexts'. -/
def retryTextsCard : Claim7 := { stood := { row := retryTextsRow, standIns := [], harness := (true, "333facd82fda840d9a1d9ea2f290f24272201db1083cf21000134f6ba7c783b3"), looks := true }, kinds := [], alts := [], laidByText := true, laidKinds := [.data, .data, .data], laidTests := true, laidLooks := .later }
def RetryTextsCardSaid : Prop := Claim7.holds Tryd.pinned (.plain (OpenSpec.ofChange retryTextsSpec)) retryTextsCard

/-- THE TIED CARD OF 'clockworklaw19.RetryMatches'. -/
def retryMatchesCard : Claim7 := { stood := { row := retryMatchesRow, standIns := [], harness := (true, "333facd82fda840d9a1d9ea2f290f24272201db1083cf21000134f6ba7c783b3"), looks := true }, kinds := [], alts := [], laidByText := true, laidKinds := [.data, .data, .data], laidTests := true, laidLooks := .later }
def RetryMatchesCardSaid : Prop := Claim7.holds Tryd.pinned (.plain (OpenSpec.ofChange retryMatchesSpec)) retryMatchesCard

/-- THE TIED CARD OF 'clockworklaw03.NumTexts'. -/
def numTextsCard : Claim7 := { stood := { row := numTextsRow, standIns := [], harness := (true, "333facd82fda840d9a1d9ea2f290f24272201db1083cf21000134f6ba7c783b3"), looks := true }, kinds := [], alts := [], laidByText := true, laidKinds := [.data, .data, .data, .sentinel, .sentinel], laidTests := true, laidLooks := .later }
def NumTextsCardSaid : Prop := Claim7.holds Tryd.pinned (.plain (OpenSpec.ofChange numTextsSpec)) numTextsCard

/-- THE TIED CARD OF 'clockworklaw03.NumParses'. -/
def numParsesCard : Claim7 := { stood := { row := numParsesRow, standIns := [], harness := (true, "333facd82fda840d9a1d9ea2f290f24272201db1083cf21000134f6ba7c783b3"), looks := true }, kinds := [], alts := [], laidByText := true, laidKinds := [.data, .data, .data, .sentinel, .sentinel], laidTests := true, laidLooks := .later }
def NumParsesCardSaid : Prop := Claim7.holds Tryd.pinned (.plain (OpenSpec.ofChange numParsesSpec)) numParsesCard

/-- THE SECOND FORM's CARD OF 'clockworklaw19.RetryTexts'. -/
def retryTextsUptoCard : Claim7 := { stood := { row := retryTextsUptoRow, standIns := [], harness := (true, "333facd82fda840d9a1d9ea2f290f24272201db1083cf21000134f6ba7c783b3"), looks := true }, kinds := [], alts := [], laidByText := true, laidKinds := [.data, .data, .data], laidTests := true, laidLooks := .later }
def RetryTextsUptoCardSaid : Prop := Claim7.holds Tryd.pinned (.plain (OpenSpec.upto retryTextsSpec)) retryTextsUptoCard

/-- THE SECOND FORM's CARD OF 'clockworklaw19.RetryMatches'. -/
def retryMatchesUptoCard : Claim7 := { stood := { row := retryMatchesUptoRow, standIns := [], harness := (true, "333facd82fda840d9a1d9ea2f290f24272201db1083cf21000134f6ba7c783b3"), looks := true }, kinds := [], alts := [], laidByText := true, laidKinds := [.data, .data, .data], laidTests := true, laidLooks := .later }
def RetryMatchesUptoCardSaid : Prop := Claim7.holds Tryd.pinned (.plain (OpenSpec.upto retryMatchesSpec)) retryMatchesUptoCard

/-- THE SECOND FORM's CARD OF 'clockworklaw03.NumTexts'. -/
def numTextsUptoCard : Claim7 := { stood := { row := numTextsUptoRow, standIns := [], harness := (true, "333facd82fda840d9a1d9ea2f290f24272201db1083cf21000134f6ba7c783b3"), looks := true }, kinds := [], alts := [], laidByText := true, laidKinds := [.data, .data, .data, .sentinel, .sentinel], laidTests := true, laidLooks := .later }
def NumTextsUptoCardSaid : Prop := Claim7.holds Tryd.pinned (.plain (OpenSpec.upto numTextsSpec)) numTextsUptoCard

/-- THE SECOND FORM's CARD OF 'clockworklaw03.NumParses'. -/
def numParsesUptoCard : Claim7 := { stood := { row := numParsesUptoRow, standIns := [], harness := (true, "333facd82fda840d9a1d9ea2f290f24272201db1083cf21000134f6ba7c783b3"), looks := true }, kinds := [], alts := [], laidByText := true, laidKinds := [.data, .data, .data, .sentinel, .sentinel], laidTests := true, laidLooks := .later }
def NumParsesUptoCardSaid : Prop := Claim7.holds Tryd.pinned (.plain (OpenSpec.upto numParsesSpec)) numParsesUptoCard
end Rows
end Go.Proofs.YtdibokeinmhmbaaDoor
