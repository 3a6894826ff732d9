/-
  DERIVED. GIVEN WITH THE SEED: THE CARDS: each row of YtngjgahldnnapaaGreatDoorRows.lean that lists a variable, with what it lists TIED to the program's text (the seventh form; the later family's looks); each row that meets fmt, with fmt's text TOLD by the authors' own Lean function (tested against real Go, not proved from fmt's source: count such statements apart). THE CARD IS WHAT COUNTS. Prove the row's statement (the work); the ties are given (YtngjgahldnnapaaGreatDoorTie.lean); close each card by the builder's one call (the guide's Derived/Test/ToyasCard.lean, 'card_holds'). Laid BY PROGRAM, IN A SANDBOX (cutbox-door.mjs). By AI agents, Wed Nov 11 2026. No macro, syntax, notation, axiom, sorry.
-/
import Derived.Test.YtngjgahldnnapaaGreatDoorRows
import GoSem.ClaimSeven
namespace Go.Proofs.YtngjgahldnnapaaGreatDoor
namespace Rows

/-- THE TIED CARD OF 'faultlinelaw58.ContentsTexts'. -/
def contentsTextsCard : Claim7 := { stood := { row := contentsTextsRow, standIns := [], harness := (true, "4a79ef24050a8cfcb89cf01f6612e1af7302ee739142ef858aa6ca75b48021b6"), looks := true }, kinds := [], alts := [], laidByText := true, laidKinds := [.data, .data, .data, .data, .pinned], laidTests := true, laidLooks := .later }
def ContentsTextsCardSaid : Prop := Claim7.holds Tryz.pinned (.plain (OpenSpec.ofChange contentsTextsSpec)) contentsTextsCard

/-- THE TIED CARD OF 'faultlinelaw58.ContentsPlays'. -/
def contentsPlaysCard : Claim7 := { stood := { row := contentsPlaysRow, standIns := [], harness := (true, "4a79ef24050a8cfcb89cf01f6612e1af7302ee739142ef858aa6ca75b48021b6"), looks := true }, kinds := [], alts := [], laidByText := true, laidKinds := [.data, .data, .data, .data, .pinned], laidTests := true, laidLooks := .later }
def ContentsPlaysCardSaid : Prop := Claim7.holds Tryz.pinned (.plain (OpenSpec.ofChange contentsPlaysSpec)) contentsPlaysCard

/-- THE TIED CARD OF 'faultlinelaw24.PrintTexts'. -/
def printTextsCard : Claim7 := { stood := { row := printTextsRow, standIns := [], harness := (true, "4a79ef24050a8cfcb89cf01f6612e1af7302ee739142ef858aa6ca75b48021b6"), looks := true }, kinds := [], alts := [], laidByText := true, laidKinds := [.data, .data, .data, .data, .pinned], laidTests := true, laidLooks := .later }
def PrintTextsCardSaid : Prop := Claim7.holds Tryz.pinned (.plain (OpenSpec.ofChange printTextsSpec)) printTextsCard

/-- THE TIED CARD OF 'faultlinelaw24.PrintNorms'. -/
def printNormsCard : Claim7 := { stood := { row := printNormsRow, standIns := [], harness := (true, "4a79ef24050a8cfcb89cf01f6612e1af7302ee739142ef858aa6ca75b48021b6"), looks := true }, kinds := [], alts := [], laidByText := true, laidKinds := [.data, .data, .data, .data, .pinned], laidTests := true, laidLooks := .later }
def PrintNormsCardSaid : Prop := Claim7.holds Tryz.pinned (.plain (OpenSpec.ofChange printNormsSpec)) printNormsCard

/-- THE SECOND FORM's CARD OF 'faultlinelaw58.ContentsTexts'. -/
def contentsTextsUptoCard : Claim7 := { stood := { row := contentsTextsUptoRow, standIns := [], harness := (true, "4a79ef24050a8cfcb89cf01f6612e1af7302ee739142ef858aa6ca75b48021b6"), looks := true }, kinds := [], alts := [], laidByText := true, laidKinds := [.data, .data, .data, .data, .pinned], laidTests := true, laidLooks := .later }
def ContentsTextsUptoCardSaid : Prop := Claim7.holds Tryz.pinned (.plain (OpenSpec.upto contentsTextsSpec)) contentsTextsUptoCard

/-- THE SECOND FORM's CARD OF 'faultlinelaw58.ContentsPlays'. -/
def contentsPlaysUptoCard : Claim7 := { stood := { row := contentsPlaysUptoRow, standIns := [], harness := (true, "4a79ef24050a8cfcb89cf01f6612e1af7302ee739142ef858aa6ca75b48021b6"), looks := true }, kinds := [], alts := [], laidByText := true, laidKinds := [.data, .data, .data, .data, .pinned], laidTests := true, laidLooks := .later }
def ContentsPlaysUptoCardSaid : Prop := Claim7.holds Tryz.pinned (.plain (OpenSpec.upto contentsPlaysSpec)) contentsPlaysUptoCard

/-- THE SECOND FORM's CARD OF 'faultlinelaw24.PrintTexts'. -/
def printTextsUptoCard : Claim7 := { stood := { row := printTextsUptoRow, standIns := [], harness := (true, "4a79ef24050a8cfcb89cf01f6612e1af7302ee739142ef858aa6ca75b48021b6"), looks := true }, kinds := [], alts := [], laidByText := true, laidKinds := [.data, .data, .data, .data, .pinned], laidTests := true, laidLooks := .later }
def PrintTextsUptoCardSaid : Prop := Claim7.holds Tryz.pinned (.plain (OpenSpec.upto printTextsSpec)) printTextsUptoCard

/-- THE SECOND FORM's CARD OF 'faultlinelaw24.PrintNorms'. -/
def printNormsUptoCard : Claim7 := { stood := { row := printNormsUptoRow, standIns := [], harness := (true, "4a79ef24050a8cfcb89cf01f6612e1af7302ee739142ef858aa6ca75b48021b6"), looks := true }, kinds := [], alts := [], laidByText := true, laidKinds := [.data, .data, .data, .data, .pinned], laidTests := true, laidLooks := .later }
def PrintNormsUptoCardSaid : Prop := Claim7.holds Tryz.pinned (.plain (OpenSpec.upto printNormsSpec)) printNormsUptoCard
end Rows
end Go.Proofs.YtngjgahldnnapaaGreatDoor
