/-
  DERIVED. GIVEN WITH THE SEED: THE CARDS: each row of YtolpcfhfcdkokaaGreatDoorRows.lean that lists a variable, with what it lists TIED to the program's text (the seventh form; the later family's looks); each row that meets fmt, with fmt's text TOLD by the authors' own Lean function (tested against real Go, not proved from fmt's source: count such statements apart). THE CARD IS WHAT COUNTS. Prove the row's statement (the work); the ties are given (YtolpcfhfcdkokaaGreatDoorTie.lean); close each card by the builder's one call (the guide's Derived/Test/ToyasCard.lean, 'card_holds'). Laid BY PROGRAM, IN A SANDBOX (cutbox-door.mjs). By AI agents, Wed Nov 11 2026. No macro, syntax, notation, axiom, sorry.
-/
import Derived.Test.YtolpcfhfcdkokaaGreatDoorRows
import GoSem.ClaimSeven
namespace Go.Proofs.YtolpcfhfcdkokaaGreatDoor
namespace Rows

/-- THE TIED CARD OF 'breakwaterlaw17.DumpTells'. -/
def dumpTellsCard : Claim7 := { stood := { row := dumpTellsRow, standIns := [], harness := (true, "c7f4ead7aca3eb29fb909c1aca81a588321f0f69229ba171f8cbecbed66268dd"), looks := true }, kinds := [], alts := [], laidByText := true, laidKinds := [.data, .pinned], laidTests := true, laidLooks := .later }
def DumpTellsCardSaid : Prop := Claim7.holds Tryz.pinned (.plain (OpenSpec.ofChange dumpTellsSpec)) dumpTellsCard

/-- THE TIED CARD OF 'breakwaterlaw17.DumpFills'. -/
def dumpFillsCard : Claim7 := { stood := { row := dumpFillsRow, standIns := [], harness := (true, "c7f4ead7aca3eb29fb909c1aca81a588321f0f69229ba171f8cbecbed66268dd"), looks := true }, kinds := [], alts := [], laidByText := true, laidKinds := [.data, .pinned], laidTests := true, laidLooks := .later }
def DumpFillsCardSaid : Prop := Claim7.holds Tryz.pinned (.plain (OpenSpec.ofChange dumpFillsSpec)) dumpFillsCard

/-- THE TIED CARD OF 'breakwaterlaw17.DumpBad'. -/
def dumpBadCard : Claim7 := { stood := { row := dumpBadRow, standIns := [], harness := (true, "c7f4ead7aca3eb29fb909c1aca81a588321f0f69229ba171f8cbecbed66268dd"), looks := true }, kinds := [], alts := [], laidByText := true, laidKinds := [.data, .pinned], laidTests := true, laidLooks := .later }
def DumpBadCardSaid : Prop := Claim7.holds Tryz.pinned (.plain (OpenSpec.ofChange dumpBadSpec)) dumpBadCard

/-- THE TIED CARD OF 'breakwaterlaw17.DumpAgain'. -/
def dumpAgainCard : Claim7 := { stood := { row := dumpAgainRow, standIns := [], harness := (true, "c7f4ead7aca3eb29fb909c1aca81a588321f0f69229ba171f8cbecbed66268dd"), looks := true }, kinds := [], alts := [], laidByText := true, laidKinds := [.data, .pinned], laidTests := true, laidLooks := .later }
def DumpAgainCardSaid : Prop := Claim7.holds Tryz.pinned (.plain (OpenSpec.ofChange dumpAgainSpec)) dumpAgainCard

/-- THE SECOND FORM's CARD OF 'breakwaterlaw17.DumpTells'. -/
def dumpTellsUptoCard : Claim7 := { stood := { row := dumpTellsUptoRow, standIns := [], harness := (true, "c7f4ead7aca3eb29fb909c1aca81a588321f0f69229ba171f8cbecbed66268dd"), looks := true }, kinds := [], alts := [], laidByText := true, laidKinds := [.data, .pinned], laidTests := true, laidLooks := .later }
def DumpTellsUptoCardSaid : Prop := Claim7.holds Tryz.pinned (.plain (OpenSpec.upto dumpTellsSpec)) dumpTellsUptoCard

/-- THE SECOND FORM's CARD OF 'breakwaterlaw17.DumpFills'. -/
def dumpFillsUptoCard : Claim7 := { stood := { row := dumpFillsUptoRow, standIns := [], harness := (true, "c7f4ead7aca3eb29fb909c1aca81a588321f0f69229ba171f8cbecbed66268dd"), looks := true }, kinds := [], alts := [], laidByText := true, laidKinds := [.data, .pinned], laidTests := true, laidLooks := .later }
def DumpFillsUptoCardSaid : Prop := Claim7.holds Tryz.pinned (.plain (OpenSpec.upto dumpFillsSpec)) dumpFillsUptoCard

/-- THE SECOND FORM's CARD OF 'breakwaterlaw17.DumpBad'. -/
def dumpBadUptoCard : Claim7 := { stood := { row := dumpBadUptoRow, standIns := [], harness := (true, "c7f4ead7aca3eb29fb909c1aca81a588321f0f69229ba171f8cbecbed66268dd"), looks := true }, kinds := [], alts := [], laidByText := true, laidKinds := [.data, .pinned], laidTests := true, laidLooks := .later }
def DumpBadUptoCardSaid : Prop := Claim7.holds Tryz.pinned (.plain (OpenSpec.upto dumpBadSpec)) dumpBadUptoCard

/-- THE SECOND FORM's CARD OF 'breakwaterlaw17.DumpAgain'. -/
def dumpAgainUptoCard : Claim7 := { stood := { row := dumpAgainUptoRow, standIns := [], harness := (true, "c7f4ead7aca3eb29fb909c1aca81a588321f0f69229ba171f8cbecbed66268dd"), looks := true }, kinds := [], alts := [], laidByText := true, laidKinds := [.data, .pinned], laidTests := true, laidLooks := .later }
def DumpAgainUptoCardSaid : Prop := Claim7.holds Tryz.pinned (.plain (OpenSpec.upto dumpAgainSpec)) dumpAgainUptoCard
end Rows
end Go.Proofs.YtolpcfhfcdkokaaGreatDoor
