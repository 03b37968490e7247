/-
  DERIVED. GIVEN WITH THE SEED: THE CARDS: each row of YtgibagnllbbeiaaDoorRows.lean that lists a variable, with what it lists TIED to the program's text (the seventh form; the later family's looks); each row that meets fmt, with fmt's text TOLD by the authors' own Lean function (tested against real Go, not proved from fmt's source: count such statements apart). THE CARD IS WHAT COUNTS. Prove the row's statement (the work); the ties are given (YtgibagnllbbeiaaDoorTie.lean); close each card by the builder's one call (the guide's Derived/Test/ToyasCard.lean, 'card_holds'). Laid BY PROGRAM, IN A SANDBOX (cutbox-door.mjs). By AI agents, Wed Nov 11 2026. No macro, syntax, notation, axiom, sorry.
-/
import Derived.Test.YtgibagnllbbeiaaDoorRows
import GoSem.ClaimSeven
namespace Go.Proofs.YtgibagnllbbeiaaDoor
namespace Rows

/-- THE TIED CARD OF 'rastrumlaw04.CodeRight'. -/
def codeRightCard : Claim7 := { stood := { row := codeRightRow, standIns := [], harness := (true, "3c0fec66c0e277296e5ba2aadee783a02f3d2d3453b47d52f9d9dca766561338"), looks := false }, kinds := [], alts := [], laidByText := true, laidKinds := [.data, .data], laidTests := true, laidLooks := .later }
def CodeRightCardSaid : Prop := Claim7.holds Tryd.pinned (.plain (OpenSpec.ofChange codeRightSpec)) codeRightCard

/-- THE TIED CARD OF 'rastrumlaw04.CodeGets'. -/
def codeGetsCard : Claim7 := { stood := { row := codeGetsRow, standIns := [], harness := (true, "3c0fec66c0e277296e5ba2aadee783a02f3d2d3453b47d52f9d9dca766561338"), looks := false }, kinds := [], alts := [], laidByText := true, laidKinds := [.data, .data], laidTests := true, laidLooks := .later }
def CodeGetsCardSaid : Prop := Claim7.holds Tryd.pinned (.plain (OpenSpec.ofChange codeGetsSpec)) codeGetsCard

/-- THE TIED CARD OF 'rastrumlaw04.CodeParts'. -/
def codePartsCard : Claim7 := { stood := { row := codePartsRow, standIns := [], harness := (true, "3c0fec66c0e277296e5ba2aadee783a02f3d2d3453b47d52f9d9dca766561338"), looks := false }, kinds := [], alts := [], laidByText := true, laidKinds := [.data, .data], laidTests := true, laidLooks := .later }
def CodePartsCardSaid : Prop := Claim7.holds Tryd.pinned (.plain (OpenSpec.ofChange codePartsSpec)) codePartsCard

/-- THE TIED CARD OF 'rastrumlaw04.CodeMany'. -/
def codeManyCard : Claim7 := { stood := { row := codeManyRow, standIns := [], harness := (true, "3c0fec66c0e277296e5ba2aadee783a02f3d2d3453b47d52f9d9dca766561338"), looks := false }, kinds := [], alts := [], laidByText := true, laidKinds := [.data, .data], laidTests := true, laidLooks := .later }
def CodeManyCardSaid : Prop := Claim7.holds Tryd.pinned (.plain (OpenSpec.ofChange codeManySpec)) codeManyCard

/-- THE TIED CARD OF 'rastrumlaw04.CodeTells'. -/
def codeTellsCard : Claim7 := { stood := { row := codeTellsRow, standIns := [], harness := (true, "3c0fec66c0e277296e5ba2aadee783a02f3d2d3453b47d52f9d9dca766561338"), looks := false }, kinds := [], alts := [], laidByText := true, laidKinds := [.data, .data], laidTests := true, laidLooks := .later }
def CodeTellsCardSaid : Prop := Claim7.holds Tryd.pinned (.plain (OpenSpec.ofChange codeTellsSpec)) codeTellsCard

/-- THE TIED CARD OF 'rastrumlaw04.CodePuts'. -/
def codePutsCard : Claim7 := { stood := { row := codePutsRow, standIns := [], harness := (true, "3c0fec66c0e277296e5ba2aadee783a02f3d2d3453b47d52f9d9dca766561338"), looks := false }, kinds := [], alts := [], laidByText := true, laidKinds := [.data, .data], laidTests := true, laidLooks := .later }
def CodePutsCardSaid : Prop := Claim7.holds Tryd.pinned (.plain (OpenSpec.ofChange codePutsSpec)) codePutsCard

/-- THE TIED CARD OF 'rastrumlaw04.CodeBack'. -/
def codeBackCard : Claim7 := { stood := { row := codeBackRow, standIns := [], harness := (true, "3c0fec66c0e277296e5ba2aadee783a02f3d2d3453b47d52f9d9dca766561338"), looks := false }, kinds := [], alts := [], laidByText := true, laidKinds := [.data, .data], laidTests := true, laidLooks := .later }
def CodeBackCardSaid : Prop := Claim7.holds Tryd.pinned (.plain (OpenSpec.ofChange codeBackSpec)) codeBackCard

/-- THE SECOND FORM's CARD OF 'rastrumlaw04.CodeRight'. -/
def codeRightUptoCard : Claim7 := { stood := { row := codeRightUptoRow, standIns := [], harness := (true, "3c0fec66c0e277296e5ba2aadee783a02f3d2d3453b47d52f9d9dca766561338"), looks := false }, kinds := [], alts := [], laidByText := true, laidKinds := [.data, .data], laidTests := true, laidLooks := .later }
def CodeRightUptoCardSaid : Prop := Claim7.holds Tryd.pinned (.plain (OpenSpec.upto codeRightSpec)) codeRightUptoCard

/-- THE SECOND FORM's CARD OF 'rastrumlaw04.CodeGets'. -/
def codeGetsUptoCard : Claim7 := { stood := { row := codeGetsUptoRow, standIns := [], harness := (true, "3c0fec66c0e277296e5ba2aadee783a02f3d2d3453b47d52f9d9dca766561338"), looks := false }, kinds := [], alts := [], laidByText := true, laidKinds := [.data, .data], laidTests := true, laidLooks := .later }
def CodeGetsUptoCardSaid : Prop := Claim7.holds Tryd.pinned (.plain (OpenSpec.upto codeGetsSpec)) codeGetsUptoCard

/-- THE SECOND FORM's CARD OF 'rastrumlaw04.CodeParts'. -/
def codePartsUptoCard : Claim7 := { stood := { row := codePartsUptoRow, standIns := [], harness := (true, "3c0fec66c0e277296e5ba2aadee783a02f3d2d3453b47d52f9d9dca766561338"), looks := false }, kinds := [], alts := [], laidByText := true, laidKinds := [.data, .data], laidTests := true, laidLooks := .later }
def CodePartsUptoCardSaid : Prop := Claim7.holds Tryd.pinned (.plain (OpenSpec.upto codePartsSpec)) codePartsUptoCard

/-- THE SECOND FORM's CARD OF 'rastrumlaw04.CodeMany'. -/
def codeManyUptoCard : Claim7 := { stood := { row := codeManyUptoRow, standIns := [], harness := (true, "3c0fec66c0e277296e5ba2aadee783a02f3d2d3453b47d52f9d9dca766561338"), looks := false }, kinds := [], alts := [], laidByText := true, laidKinds := [.data, .data], laidTests := true, laidLooks := .later }
def CodeManyUptoCardSaid : Prop := Claim7.holds Tryd.pinned (.plain (OpenSpec.upto codeManySpec)) codeManyUptoCard

/-- THE SECOND FORM's CARD OF 'rastrumlaw04.CodeTells'. -/
def codeTellsUptoCard : Claim7 := { stood := { row := codeTellsUptoRow, standIns := [], harness := (true, "3c0fec66c0e277296e5ba2aadee783a02f3d2d3453b47d52f9d9dca766561338"), looks := false }, kinds := [], alts := [], laidByText := true, laidKinds := [.data, .data], laidTests := true, laidLooks := .later }
def CodeTellsUptoCardSaid : Prop := Claim7.holds Tryd.pinned (.plain (OpenSpec.upto codeTellsSpec)) codeTellsUptoCard

/-- THE SECOND FORM's CARD OF 'rastrumlaw04.CodePuts'. -/
def codePutsUptoCard : Claim7 := { stood := { row := codePutsUptoRow, standIns := [], harness := (true, "3c0fec66c0e277296e5ba2aadee783a02f3d2d3453b47d52f9d9dca766561338"), looks := false }, kinds := [], alts := [], laidByText := true, laidKinds := [.data, .data], laidTests := true, laidLooks := .later }
def CodePutsUptoCardSaid : Prop := Claim7.holds Tryd.pinned (.plain (OpenSpec.upto codePutsSpec)) codePutsUptoCard

/-- THE SECOND FORM's CARD OF 'rastrumlaw04.CodeBack'. -/
def codeBackUptoCard : Claim7 := { stood := { row := codeBackUptoRow, standIns := [], harness := (true, "3c0fec66c0e277296e5ba2aadee783a02f3d2d3453b47d52f9d9dca766561338"), looks := false }, kinds := [], alts := [], laidByText := true, laidKinds := [.data, .data], laidTests := true, laidLooks := .later }
def CodeBackUptoCardSaid : Prop := Claim7.holds Tryd.pinned (.plain (OpenSpec.upto codeBackSpec)) codeBackUptoCard
end Rows
end Go.Proofs.YtgibagnllbbeiaaDoor
