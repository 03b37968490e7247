/-
  DERIVED. GIVEN WITH THE SEED: THE CARDS: each row of YtplljnfjkkloeaaGreatDoorRows.lean that lists a variable, with what it lists TIED to the program's text (the seventh form; the later family's looks); each row that meets fmt, with fmt's text TOLD by the authors' own Lean function (tested against real Go, not proved from fmt's source: count such statements apart). THE CARD IS WHAT COUNTS. Prove the row's statement (the work); the ties are given (YtplljnfjkkloeaaGreatDoorTie.lean); close each card by the builder's one call (the guide's Derived/Test/ToyasCard.lean, 'card_holds'). Laid BY PROGRAM, IN A SANDBOX (cutbox-door.mjs). By AI agents, Wed Nov 11 2026. No macro, syntax, notation, axiom, sorry.
-/
import Derived.Test.YtplljnfjkkloeaaGreatDoorRows
import GoSem.ClaimSeven
namespace Go.Proofs.YtplljnfjkkloeaaGreatDoor
namespace Rows

/-- THE TIED CARD OF 'rastrumtop.WholePieces'. -/
def wholePiecesCard : Claim7 := { stood := { row := wholePiecesRow, standIns := [], harness := (true, "fbbe067b17e19b0cdea9796fa0a81e0286574e4c45cac3cef236e0a0b3be283a"), looks := true }, kinds := [], alts := [], laidByText := true, laidKinds := [.data, .data, .data, .data, .data, .sentinel, .sentinel], laidTests := true, laidLooks := .later }
def WholePiecesCardSaid : Prop := Claim7.holds Tryz.pinned (.plain (OpenSpec.ofChange wholePiecesSpec)) wholePiecesCard

/-- THE TIED CARD OF 'rastrumtop.WholeMoves'. -/
def wholeMovesCard : Claim7 := { stood := { row := wholeMovesRow, standIns := [], harness := (true, "fbbe067b17e19b0cdea9796fa0a81e0286574e4c45cac3cef236e0a0b3be283a"), looks := true }, kinds := [], alts := [], laidByText := true, laidKinds := [.data, .data, .data, .data, .data, .sentinel, .sentinel], laidTests := true, laidLooks := .later }
def WholeMovesCardSaid : Prop := Claim7.holds Tryz.pinned (.plain (OpenSpec.ofChange wholeMovesSpec)) wholeMovesCard

/-- THE TIED CARD OF 'rastrumtop.WholeStrip'. -/
def wholeStripCard : Claim7 := { stood := { row := wholeStripRow, standIns := [], harness := (true, "fbbe067b17e19b0cdea9796fa0a81e0286574e4c45cac3cef236e0a0b3be283a"), looks := true }, kinds := [], alts := [], laidByText := true, laidKinds := [.data, .data, .data, .data, .data, .sentinel, .sentinel], laidTests := true, laidLooks := .later }
def WholeStripCardSaid : Prop := Claim7.holds Tryz.pinned (.plain (OpenSpec.ofChange wholeStripSpec)) wholeStripCard

/-- THE TIED CARD OF 'rastrumtop.WholeSplit'. -/
def wholeSplitCard : Claim7 := { stood := { row := wholeSplitRow, standIns := [], harness := (true, "fbbe067b17e19b0cdea9796fa0a81e0286574e4c45cac3cef236e0a0b3be283a"), looks := true }, kinds := [], alts := [], laidByText := true, laidKinds := [.data, .data, .data, .data, .data, .sentinel, .sentinel], laidTests := true, laidLooks := .later }
def WholeSplitCardSaid : Prop := Claim7.holds Tryz.pinned (.plain (OpenSpec.ofChange wholeSplitSpec)) wholeSplitCard

/-- THE TIED CARD OF 'rastrumtop.WholeOnce'. -/
def wholeOnceCard : Claim7 := { stood := { row := wholeOnceRow, standIns := [], harness := (true, "fbbe067b17e19b0cdea9796fa0a81e0286574e4c45cac3cef236e0a0b3be283a"), looks := true }, kinds := [], alts := [], laidByText := true, laidKinds := [.data, .data, .data, .data, .data, .sentinel, .sentinel], laidTests := true, laidLooks := .later }
def WholeOnceCardSaid : Prop := Claim7.holds Tryz.pinned (.plain (OpenSpec.ofChange wholeOnceSpec)) wholeOnceCard

/-- THE TIED CARD OF 'rastrumtop.WholeDashes'. -/
def wholeDashesCard : Claim7 := { stood := { row := wholeDashesRow, standIns := [], harness := (true, "fbbe067b17e19b0cdea9796fa0a81e0286574e4c45cac3cef236e0a0b3be283a"), looks := true }, kinds := [], alts := [], laidByText := true, laidKinds := [.data, .data, .data, .data, .data, .sentinel, .sentinel], laidTests := true, laidLooks := .later }
def WholeDashesCardSaid : Prop := Claim7.holds Tryz.pinned (.plain (OpenSpec.ofChange wholeDashesSpec)) wholeDashesCard

/-- THE SECOND FORM's CARD OF 'rastrumtop.WholePieces'. -/
def wholePiecesUptoCard : Claim7 := { stood := { row := wholePiecesUptoRow, standIns := [], harness := (true, "fbbe067b17e19b0cdea9796fa0a81e0286574e4c45cac3cef236e0a0b3be283a"), looks := true }, kinds := [], alts := [], laidByText := true, laidKinds := [.data, .data, .data, .data, .data, .sentinel, .sentinel], laidTests := true, laidLooks := .later }
def WholePiecesUptoCardSaid : Prop := Claim7.holds Tryz.pinned (.plain (OpenSpec.upto wholePiecesSpec)) wholePiecesUptoCard

/-- THE SECOND FORM's CARD OF 'rastrumtop.WholeMoves'. -/
def wholeMovesUptoCard : Claim7 := { stood := { row := wholeMovesUptoRow, standIns := [], harness := (true, "fbbe067b17e19b0cdea9796fa0a81e0286574e4c45cac3cef236e0a0b3be283a"), looks := true }, kinds := [], alts := [], laidByText := true, laidKinds := [.data, .data, .data, .data, .data, .sentinel, .sentinel], laidTests := true, laidLooks := .later }
def WholeMovesUptoCardSaid : Prop := Claim7.holds Tryz.pinned (.plain (OpenSpec.upto wholeMovesSpec)) wholeMovesUptoCard

/-- THE SECOND FORM's CARD OF 'rastrumtop.WholeStrip'. -/
def wholeStripUptoCard : Claim7 := { stood := { row := wholeStripUptoRow, standIns := [], harness := (true, "fbbe067b17e19b0cdea9796fa0a81e0286574e4c45cac3cef236e0a0b3be283a"), looks := true }, kinds := [], alts := [], laidByText := true, laidKinds := [.data, .data, .data, .data, .data, .sentinel, .sentinel], laidTests := true, laidLooks := .later }
def WholeStripUptoCardSaid : Prop := Claim7.holds Tryz.pinned (.plain (OpenSpec.upto wholeStripSpec)) wholeStripUptoCard

/-- THE SECOND FORM's CARD OF 'rastrumtop.WholeSplit'. -/
def wholeSplitUptoCard : Claim7 := { stood := { row := wholeSplitUptoRow, standIns := [], harness := (true, "fbbe067b17e19b0cdea9796fa0a81e0286574e4c45cac3cef236e0a0b3be283a"), looks := true }, kinds := [], alts := [], laidByText := true, laidKinds := [.data, .data, .data, .data, .data, .sentinel, .sentinel], laidTests := true, laidLooks := .later }
def WholeSplitUptoCardSaid : Prop := Claim7.holds Tryz.pinned (.plain (OpenSpec.upto wholeSplitSpec)) wholeSplitUptoCard

/-- THE SECOND FORM's CARD OF 'rastrumtop.WholeOnce'. -/
def wholeOnceUptoCard : Claim7 := { stood := { row := wholeOnceUptoRow, standIns := [], harness := (true, "fbbe067b17e19b0cdea9796fa0a81e0286574e4c45cac3cef236e0a0b3be283a"), looks := true }, kinds := [], alts := [], laidByText := true, laidKinds := [.data, .data, .data, .data, .data, .sentinel, .sentinel], laidTests := true, laidLooks := .later }
def WholeOnceUptoCardSaid : Prop := Claim7.holds Tryz.pinned (.plain (OpenSpec.upto wholeOnceSpec)) wholeOnceUptoCard

/-- THE SECOND FORM's CARD OF 'rastrumtop.WholeDashes'. -/
def wholeDashesUptoCard : Claim7 := { stood := { row := wholeDashesUptoRow, standIns := [], harness := (true, "fbbe067b17e19b0cdea9796fa0a81e0286574e4c45cac3cef236e0a0b3be283a"), looks := true }, kinds := [], alts := [], laidByText := true, laidKinds := [.data, .data, .data, .data, .data, .sentinel, .sentinel], laidTests := true, laidLooks := .later }
def WholeDashesUptoCardSaid : Prop := Claim7.holds Tryz.pinned (.plain (OpenSpec.upto wholeDashesSpec)) wholeDashesUptoCard
end Rows
end Go.Proofs.YtplljnfjkkloeaaGreatDoor
