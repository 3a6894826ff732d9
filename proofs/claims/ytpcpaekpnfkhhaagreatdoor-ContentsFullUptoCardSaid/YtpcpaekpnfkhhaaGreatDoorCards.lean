/-
  DERIVED. GIVEN WITH THE SEED: THE CARDS: each row of YtpcpaekpnfkhhaaGreatDoorRows.lean that lists a variable, with what it lists TIED to the program's text (the seventh form; the later family's looks); each row that meets fmt, with fmt's text TOLD by the authors' own Lean function (tested against real Go, not proved from fmt's source: count such statements apart). THE CARD IS WHAT COUNTS. Prove the row's statement (the work); the ties are given (YtpcpaekpnfkhhaaGreatDoorTie.lean); close each card by the builder's one call (the guide's Derived/Test/ToyasCard.lean, 'card_holds'). Laid BY PROGRAM, IN A SANDBOX (cutbox-door.mjs). By AI agents, Wed Nov 11 2026. No macro, syntax, notation, axiom, sorry.
-/
import Derived.Test.YtpcpaekpnfkhhaaGreatDoorRows
import GoSem.ClaimSeven
namespace Go.Proofs.YtpcpaekpnfkhhaaGreatDoor
namespace Rows

/-- THE TIED CARD OF 'faultlinelaw58.ContentsTexts'. -/
def contentsTextsCard : Claim7 := { stood := { row := contentsTextsRow, standIns := [], harness := (true, "f4a35a5fecd3b5f1b8f638259fd1b875ae591e1834778daebdf9913ca1875fa4"), looks := true }, kinds := [], alts := [], laidByText := true, laidKinds := [.data, .data, .data, .data, .pinned], laidTests := true, laidLooks := .later }
def ContentsTextsCardSaid : Prop := Claim7.holds Tryz.pinned (.plain (OpenSpec.ofChange contentsTextsSpec)) contentsTextsCard

/-- THE TIED CARD OF 'faultlinelaw58.ContentsSame'. -/
def contentsSameCard : Claim7 := { stood := { row := contentsSameRow, standIns := [], harness := (true, "f4a35a5fecd3b5f1b8f638259fd1b875ae591e1834778daebdf9913ca1875fa4"), looks := true }, kinds := [], alts := [], laidByText := true, laidKinds := [.data, .data, .data, .data, .pinned], laidTests := true, laidLooks := .later }
def ContentsSameCardSaid : Prop := Claim7.holds Tryz.pinned (.plain (OpenSpec.ofChange contentsSameSpec)) contentsSameCard

/-- THE TIED CARD OF 'faultlinelaw58.ContentsKeeps'. -/
def contentsKeepsCard : Claim7 := { stood := { row := contentsKeepsRow, standIns := [], harness := (true, "f4a35a5fecd3b5f1b8f638259fd1b875ae591e1834778daebdf9913ca1875fa4"), looks := true }, kinds := [], alts := [], laidByText := true, laidKinds := [.data, .data, .data, .data, .pinned], laidTests := true, laidLooks := .later }
def ContentsKeepsCardSaid : Prop := Claim7.holds Tryz.pinned (.plain (OpenSpec.ofChange contentsKeepsSpec)) contentsKeepsCard

/-- THE TIED CARD OF 'faultlinelaw58.ContentsPlays'. -/
def contentsPlaysCard : Claim7 := { stood := { row := contentsPlaysRow, standIns := [], harness := (true, "f4a35a5fecd3b5f1b8f638259fd1b875ae591e1834778daebdf9913ca1875fa4"), looks := true }, kinds := [], alts := [], laidByText := true, laidKinds := [.data, .data, .data, .data, .pinned], laidTests := true, laidLooks := .later }
def ContentsPlaysCardSaid : Prop := Claim7.holds Tryz.pinned (.plain (OpenSpec.ofChange contentsPlaysSpec)) contentsPlaysCard

/-- THE TIED CARD OF 'faultlinelaw58.ContentsFull'. -/
def contentsFullCard : Claim7 := { stood := { row := contentsFullRow, standIns := [], harness := (true, "f4a35a5fecd3b5f1b8f638259fd1b875ae591e1834778daebdf9913ca1875fa4"), looks := true }, kinds := [], alts := [], laidByText := true, laidKinds := [.data, .data, .data, .data, .pinned], laidTests := true, laidLooks := .later }
def ContentsFullCardSaid : Prop := Claim7.holds Tryz.pinned (.plain (OpenSpec.ofChange contentsFullSpec)) contentsFullCard

/-- THE SECOND FORM's CARD OF 'faultlinelaw58.ContentsTexts'. -/
def contentsTextsUptoCard : Claim7 := { stood := { row := contentsTextsUptoRow, standIns := [], harness := (true, "f4a35a5fecd3b5f1b8f638259fd1b875ae591e1834778daebdf9913ca1875fa4"), looks := true }, kinds := [], alts := [], laidByText := true, laidKinds := [.data, .data, .data, .data, .pinned], laidTests := true, laidLooks := .later }
def ContentsTextsUptoCardSaid : Prop := Claim7.holds Tryz.pinned (.plain (OpenSpec.upto contentsTextsSpec)) contentsTextsUptoCard

/-- THE SECOND FORM's CARD OF 'faultlinelaw58.ContentsSame'. -/
def contentsSameUptoCard : Claim7 := { stood := { row := contentsSameUptoRow, standIns := [], harness := (true, "f4a35a5fecd3b5f1b8f638259fd1b875ae591e1834778daebdf9913ca1875fa4"), looks := true }, kinds := [], alts := [], laidByText := true, laidKinds := [.data, .data, .data, .data, .pinned], laidTests := true, laidLooks := .later }
def ContentsSameUptoCardSaid : Prop := Claim7.holds Tryz.pinned (.plain (OpenSpec.upto contentsSameSpec)) contentsSameUptoCard

/-- THE SECOND FORM's CARD OF 'faultlinelaw58.ContentsKeeps'. -/
def contentsKeepsUptoCard : Claim7 := { stood := { row := contentsKeepsUptoRow, standIns := [], harness := (true, "f4a35a5fecd3b5f1b8f638259fd1b875ae591e1834778daebdf9913ca1875fa4"), looks := true }, kinds := [], alts := [], laidByText := true, laidKinds := [.data, .data, .data, .data, .pinned], laidTests := true, laidLooks := .later }
def ContentsKeepsUptoCardSaid : Prop := Claim7.holds Tryz.pinned (.plain (OpenSpec.upto contentsKeepsSpec)) contentsKeepsUptoCard

/-- THE SECOND FORM's CARD OF 'faultlinelaw58.ContentsPlays'. -/
def contentsPlaysUptoCard : Claim7 := { stood := { row := contentsPlaysUptoRow, standIns := [], harness := (true, "f4a35a5fecd3b5f1b8f638259fd1b875ae591e1834778daebdf9913ca1875fa4"), looks := true }, kinds := [], alts := [], laidByText := true, laidKinds := [.data, .data, .data, .data, .pinned], laidTests := true, laidLooks := .later }
def ContentsPlaysUptoCardSaid : Prop := Claim7.holds Tryz.pinned (.plain (OpenSpec.upto contentsPlaysSpec)) contentsPlaysUptoCard

/-- THE SECOND FORM's CARD OF 'faultlinelaw58.ContentsFull'. -/
def contentsFullUptoCard : Claim7 := { stood := { row := contentsFullUptoRow, standIns := [], harness := (true, "f4a35a5fecd3b5f1b8f638259fd1b875ae591e1834778daebdf9913ca1875fa4"), looks := true }, kinds := [], alts := [], laidByText := true, laidKinds := [.data, .data, .data, .data, .pinned], laidTests := true, laidLooks := .later }
def ContentsFullUptoCardSaid : Prop := Claim7.holds Tryz.pinned (.plain (OpenSpec.upto contentsFullSpec)) contentsFullUptoCard
end Rows
end Go.Proofs.YtpcpaekpnfkhhaaGreatDoor
