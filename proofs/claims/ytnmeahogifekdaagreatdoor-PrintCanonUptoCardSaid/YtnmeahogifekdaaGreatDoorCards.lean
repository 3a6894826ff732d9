/-
  DERIVED. GIVEN WITH THE SEED: THE CARDS: each row of YtnmeahogifekdaaGreatDoorRows.lean that lists a variable, with what it lists TIED to the program's text (the seventh form; the later family's looks); each row that meets fmt, with fmt's text TOLD by the authors' own Lean function (tested against real Go, not proved from fmt's source: count such statements apart). THE CARD IS WHAT COUNTS. Prove the row's statement (the work); the ties are given (YtnmeahogifekdaaGreatDoorTie.lean); close each card by the builder's one call (the guide's Derived/Test/ToyasCard.lean, 'card_holds'). Laid BY PROGRAM, IN A SANDBOX (cutbox-door.mjs). By AI agents, Wed Nov 11 2026. No macro, syntax, notation, axiom, sorry.
-/
import Derived.Test.YtnmeahogifekdaaGreatDoorRows
import GoSem.ClaimSeven
namespace Go.Proofs.YtnmeahogifekdaaGreatDoor
namespace Rows

/-- THE TIED CARD OF 'faultlinelaw24.PrintBack'. -/
def printBackCard : Claim7 := { stood := { row := printBackRow, standIns := [], harness := (true, "98743337813ffc5444659ad0f8698367a780e478417606b8ea677da4fce356c5"), looks := true }, kinds := [], alts := [], laidByText := true, laidKinds := [.data, .data, .data, .data, .pinned], laidTests := true, laidLooks := .later }
def PrintBackCardSaid : Prop := Claim7.holds Tryz.pinned (.plain (OpenSpec.ofChange printBackSpec)) printBackCard

/-- THE TIED CARD OF 'faultlinelaw24.PrintRead'. -/
def printReadCard : Claim7 := { stood := { row := printReadRow, standIns := [], harness := (true, "98743337813ffc5444659ad0f8698367a780e478417606b8ea677da4fce356c5"), looks := true }, kinds := [], alts := [], laidByText := true, laidKinds := [.data, .data, .data, .data, .pinned], laidTests := true, laidLooks := .later }
def PrintReadCardSaid : Prop := Claim7.holds Tryz.pinned (.plain (OpenSpec.ofChange printReadSpec)) printReadCard

/-- THE TIED CARD OF 'faultlinelaw24.PrintCanon'. -/
def printCanonCard : Claim7 := { stood := { row := printCanonRow, standIns := [], harness := (true, "98743337813ffc5444659ad0f8698367a780e478417606b8ea677da4fce356c5"), looks := true }, kinds := [], alts := [], laidByText := true, laidKinds := [.data, .data, .data, .data, .pinned], laidTests := true, laidLooks := .later }
def PrintCanonCardSaid : Prop := Claim7.holds Tryz.pinned (.plain (OpenSpec.ofChange printCanonSpec)) printCanonCard

/-- THE TIED CARD OF 'faultlinelaw24.PrintSorted'. -/
def printSortedCard : Claim7 := { stood := { row := printSortedRow, standIns := [], harness := (true, "98743337813ffc5444659ad0f8698367a780e478417606b8ea677da4fce356c5"), looks := true }, kinds := [], alts := [], laidByText := true, laidKinds := [.data, .data, .data, .data, .pinned], laidTests := true, laidLooks := .later }
def PrintSortedCardSaid : Prop := Claim7.holds Tryz.pinned (.plain (OpenSpec.ofChange printSortedSpec)) printSortedCard

/-- THE SECOND FORM's CARD OF 'faultlinelaw24.PrintBack'. -/
def printBackUptoCard : Claim7 := { stood := { row := printBackUptoRow, standIns := [], harness := (true, "98743337813ffc5444659ad0f8698367a780e478417606b8ea677da4fce356c5"), looks := true }, kinds := [], alts := [], laidByText := true, laidKinds := [.data, .data, .data, .data, .pinned], laidTests := true, laidLooks := .later }
def PrintBackUptoCardSaid : Prop := Claim7.holds Tryz.pinned (.plain (OpenSpec.upto printBackSpec)) printBackUptoCard

/-- THE SECOND FORM's CARD OF 'faultlinelaw24.PrintRead'. -/
def printReadUptoCard : Claim7 := { stood := { row := printReadUptoRow, standIns := [], harness := (true, "98743337813ffc5444659ad0f8698367a780e478417606b8ea677da4fce356c5"), looks := true }, kinds := [], alts := [], laidByText := true, laidKinds := [.data, .data, .data, .data, .pinned], laidTests := true, laidLooks := .later }
def PrintReadUptoCardSaid : Prop := Claim7.holds Tryz.pinned (.plain (OpenSpec.upto printReadSpec)) printReadUptoCard

/-- THE SECOND FORM's CARD OF 'faultlinelaw24.PrintCanon'. -/
def printCanonUptoCard : Claim7 := { stood := { row := printCanonUptoRow, standIns := [], harness := (true, "98743337813ffc5444659ad0f8698367a780e478417606b8ea677da4fce356c5"), looks := true }, kinds := [], alts := [], laidByText := true, laidKinds := [.data, .data, .data, .data, .pinned], laidTests := true, laidLooks := .later }
def PrintCanonUptoCardSaid : Prop := Claim7.holds Tryz.pinned (.plain (OpenSpec.upto printCanonSpec)) printCanonUptoCard

/-- THE SECOND FORM's CARD OF 'faultlinelaw24.PrintSorted'. -/
def printSortedUptoCard : Claim7 := { stood := { row := printSortedUptoRow, standIns := [], harness := (true, "98743337813ffc5444659ad0f8698367a780e478417606b8ea677da4fce356c5"), looks := true }, kinds := [], alts := [], laidByText := true, laidKinds := [.data, .data, .data, .data, .pinned], laidTests := true, laidLooks := .later }
def PrintSortedUptoCardSaid : Prop := Claim7.holds Tryz.pinned (.plain (OpenSpec.upto printSortedSpec)) printSortedUptoCard
end Rows
end Go.Proofs.YtnmeahogifekdaaGreatDoor
