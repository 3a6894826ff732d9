/-
  DERIVED. GIVEN WITH THE SEED: THE CARDS: each row of YtjegkdadeghpjaaGreatDoorRows.lean that lists a variable, with what it lists TIED to the program's text (the seventh form; the later family's looks); each row that meets fmt, with fmt's text TOLD by the authors' own Lean function (tested against real Go, not proved from fmt's source: count such statements apart). THE CARD IS WHAT COUNTS. Prove the row's statement (the work); the ties are given (YtjegkdadeghpjaaGreatDoorTie.lean); close each card by the builder's one call (the guide's Derived/Test/ToyasCard.lean, 'card_holds'). Laid BY PROGRAM, IN A SANDBOX (cutbox-door.mjs). By AI agents, Wed Nov 11 2026. No macro, syntax, notation, axiom, sorry.
-/
import Derived.Test.YtjegkdadeghpjaaGreatDoorRows
import GoSem.ClaimSeven
namespace Go.Proofs.YtjegkdadeghpjaaGreatDoor
namespace Rows

/-- THE TIED CARD OF 'faultlinelaw58.ContentsPlays'. -/
def contentsPlaysCard : Claim7 := { stood := { row := contentsPlaysRow, standIns := [], harness := (true, "ebf8d60dcf0695c8d888cf1c0ddadf8dee212783afa84874aaefb44f3dedce01"), looks := true }, kinds := [], alts := [], laidByText := true, laidKinds := [.data, .data, .data, .data, .pinned], laidTests := true, laidLooks := .later }
def ContentsPlaysCardSaid : Prop := Claim7.holds Tryz.pinned (.plain (OpenSpec.ofChange contentsPlaysSpec)) contentsPlaysCard

/-- THE TIED CARD OF 'faultlinelaw24.PrintNorms'. -/
def printNormsCard : Claim7 := { stood := { row := printNormsRow, standIns := [], harness := (true, "ebf8d60dcf0695c8d888cf1c0ddadf8dee212783afa84874aaefb44f3dedce01"), looks := true }, kinds := [], alts := [], laidByText := true, laidKinds := [.data, .data, .data, .data, .pinned], laidTests := true, laidLooks := .later }
def PrintNormsCardSaid : Prop := Claim7.holds Tryz.pinned (.plain (OpenSpec.ofChange printNormsSpec)) printNormsCard

/-- THE SECOND FORM's CARD OF 'faultlinelaw58.ContentsPlays'. -/
def contentsPlaysUptoCard : Claim7 := { stood := { row := contentsPlaysUptoRow, standIns := [], harness := (true, "ebf8d60dcf0695c8d888cf1c0ddadf8dee212783afa84874aaefb44f3dedce01"), looks := true }, kinds := [], alts := [], laidByText := true, laidKinds := [.data, .data, .data, .data, .pinned], laidTests := true, laidLooks := .later }
def ContentsPlaysUptoCardSaid : Prop := Claim7.holds Tryz.pinned (.plain (OpenSpec.upto contentsPlaysSpec)) contentsPlaysUptoCard

/-- THE SECOND FORM's CARD OF 'faultlinelaw24.PrintNorms'. -/
def printNormsUptoCard : Claim7 := { stood := { row := printNormsUptoRow, standIns := [], harness := (true, "ebf8d60dcf0695c8d888cf1c0ddadf8dee212783afa84874aaefb44f3dedce01"), looks := true }, kinds := [], alts := [], laidByText := true, laidKinds := [.data, .data, .data, .data, .pinned], laidTests := true, laidLooks := .later }
def PrintNormsUptoCardSaid : Prop := Claim7.holds Tryz.pinned (.plain (OpenSpec.upto printNormsSpec)) printNormsUptoCard
end Rows
end Go.Proofs.YtjegkdadeghpjaaGreatDoor
