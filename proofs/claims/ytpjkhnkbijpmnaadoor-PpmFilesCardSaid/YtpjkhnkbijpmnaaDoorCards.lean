/-
  DERIVED. GIVEN WITH THE SEED: THE CARDS: each row of YtpjkhnkbijpmnaaDoorRows.lean that lists a variable, with what it lists TIED to the program's text (the seventh form; the later family's looks); each row that meets fmt, with fmt's text TOLD by the authors' own Lean function (tested against real Go, not proved from fmt's source: count such statements apart). THE CARD IS WHAT COUNTS. Prove the row's statement (the work); the ties are given (YtpjkhnkbijpmnaaDoorTie.lean); close each card by the builder's one call (the guide's Derived/Test/ToyasCard.lean, 'card_holds'). Laid BY PROGRAM, IN A SANDBOX (cutbox-door.mjs). By AI agents, Wed Nov 11 2026. No macro, syntax, notation, axiom, sorry.
-/
import Derived.Test.YtpjkhnkbijpmnaaDoorRows
import GoSem.ClaimSeven
namespace Go.Proofs.YtpjkhnkbijpmnaaDoor
namespace Rows

/-- THE TIED CARD OF 'rastrumlaw28.PpmEncodes'. -/
def ppmEncodesCard : Claim7 := { stood := { row := ppmEncodesRow, standIns := [], harness := (true, "7317a006f81ce6fe84617b200071e43417d6ee9e47739ca874edf67e3595dabd"), looks := false }, kinds := [], alts := [], laidByText := true, laidKinds := [.data, .data, .data], laidTests := true, laidLooks := .later }
def PpmEncodesCardSaid : Prop := Claim7.holds Tryd.pinned (.plain (OpenSpec.ofChange ppmEncodesSpec)) ppmEncodesCard

/-- THE TIED CARD OF 'rastrumlaw28.PpmDecodes'. -/
def ppmDecodesCard : Claim7 := { stood := { row := ppmDecodesRow, standIns := [], harness := (true, "7317a006f81ce6fe84617b200071e43417d6ee9e47739ca874edf67e3595dabd"), looks := false }, kinds := [], alts := [], laidByText := true, laidKinds := [.data, .data, .data], laidTests := true, laidLooks := .later }
def PpmDecodesCardSaid : Prop := Claim7.holds Tryd.pinned (.plain (OpenSpec.ofChange ppmDecodesSpec)) ppmDecodesCard

/-- THE TIED CARD OF 'rastrumlaw28.PpmBack'. -/
def ppmBackCard : Claim7 := { stood := { row := ppmBackRow, standIns := [], harness := (true, "7317a006f81ce6fe84617b200071e43417d6ee9e47739ca874edf67e3595dabd"), looks := false }, kinds := [], alts := [], laidByText := true, laidKinds := [.data, .data, .data], laidTests := true, laidLooks := .later }
def PpmBackCardSaid : Prop := Claim7.holds Tryd.pinned (.plain (OpenSpec.ofChange ppmBackSpec)) ppmBackCard

/-- THE TIED CARD OF 'rastrumlaw28.PpmFiles'. -/
def ppmFilesCard : Claim7 := { stood := { row := ppmFilesRow, standIns := [], harness := (true, "7317a006f81ce6fe84617b200071e43417d6ee9e47739ca874edf67e3595dabd"), looks := false }, kinds := [], alts := [], laidByText := true, laidKinds := [.data, .data, .data], laidTests := true, laidLooks := .later }
def PpmFilesCardSaid : Prop := Claim7.holds Tryd.pinned (.plain (OpenSpec.ofChange ppmFilesSpec)) ppmFilesCard

/-- THE SECOND FORM's CARD OF 'rastrumlaw28.PpmEncodes'. -/
def ppmEncodesUptoCard : Claim7 := { stood := { row := ppmEncodesUptoRow, standIns := [], harness := (true, "7317a006f81ce6fe84617b200071e43417d6ee9e47739ca874edf67e3595dabd"), looks := false }, kinds := [], alts := [], laidByText := true, laidKinds := [.data, .data, .data], laidTests := true, laidLooks := .later }
def PpmEncodesUptoCardSaid : Prop := Claim7.holds Tryd.pinned (.plain (OpenSpec.upto ppmEncodesSpec)) ppmEncodesUptoCard

/-- THE SECOND FORM's CARD OF 'rastrumlaw28.PpmDecodes'. -/
def ppmDecodesUptoCard : Claim7 := { stood := { row := ppmDecodesUptoRow, standIns := [], harness := (true, "7317a006f81ce6fe84617b200071e43417d6ee9e47739ca874edf67e3595dabd"), looks := false }, kinds := [], alts := [], laidByText := true, laidKinds := [.data, .data, .data], laidTests := true, laidLooks := .later }
def PpmDecodesUptoCardSaid : Prop := Claim7.holds Tryd.pinned (.plain (OpenSpec.upto ppmDecodesSpec)) ppmDecodesUptoCard

/-- THE SECOND FORM's CARD OF 'rastrumlaw28.PpmBack'. -/
def ppmBackUptoCard : Claim7 := { stood := { row := ppmBackUptoRow, standIns := [], harness := (true, "7317a006f81ce6fe84617b200071e43417d6ee9e47739ca874edf67e3595dabd"), looks := false }, kinds := [], alts := [], laidByText := true, laidKinds := [.data, .data, .data], laidTests := true, laidLooks := .later }
def PpmBackUptoCardSaid : Prop := Claim7.holds Tryd.pinned (.plain (OpenSpec.upto ppmBackSpec)) ppmBackUptoCard

/-- THE SECOND FORM's CARD OF 'rastrumlaw28.PpmFiles'. -/
def ppmFilesUptoCard : Claim7 := { stood := { row := ppmFilesUptoRow, standIns := [], harness := (true, "7317a006f81ce6fe84617b200071e43417d6ee9e47739ca874edf67e3595dabd"), looks := false }, kinds := [], alts := [], laidByText := true, laidKinds := [.data, .data, .data], laidTests := true, laidLooks := .later }
def PpmFilesUptoCardSaid : Prop := Claim7.holds Tryd.pinned (.plain (OpenSpec.upto ppmFilesSpec)) ppmFilesUptoCard
end Rows
end Go.Proofs.YtpjkhnkbijpmnaaDoor
