/-
  DERIVED. GIVEN WITH THE SEED: THE CARDS: each row of YtcoflhkcpnoaaaaGreatDoorRows.lean that lists a variable, with what it lists TIED to the program's text (the seventh form; the later family's looks); each row that meets fmt, with fmt's text TOLD by the authors' own Lean function (tested against real Go, not proved from fmt's source: count such statements apart). THE CARD IS WHAT COUNTS. Prove the row's statement (the work); the ties are given (YtcoflhkcpnoaaaaGreatDoorTie.lean); close each card by the builder's one call (the guide's Derived/Test/ToyasCard.lean, 'card_holds'). Laid BY PROGRAM, IN A SANDBOX (cutbox-door.mjs). By AI agents, Wed Nov 11 2026. No macro, syntax, notation, axiom, sorry.
-/
import Derived.Test.YtcoflhkcpnoaaaaGreatDoorRows
import GoSem.ClaimSeven
namespace Go.Proofs.YtcoflhkcpnoaaaaGreatDoor
namespace Rows

/-- THE TIED CARD OF 'faultlinelaw44.UncertainVertices'. -/
def uncertainVerticesCard : Claim7 := { stood := { row := uncertainVerticesRow, standIns := [], harness := (true, "220c0868c8b23490d28fc00af50c1e2ab47c3c672ef316924fc13b09aa7f96dc"), looks := true }, kinds := [], alts := [], laidByText := true, laidKinds := [.data, .pinned], laidTests := true, laidLooks := .later }
def UncertainVerticesCardSaid : Prop := Claim7.holds Tryz.pinned (.plain (OpenSpec.ofChange uncertainVerticesSpec)) uncertainVerticesCard

/-- THE TIED CARD OF 'faultlinelaw44.UncertainContains'. -/
def uncertainContainsCard : Claim7 := { stood := { row := uncertainContainsRow, standIns := [], harness := (true, "220c0868c8b23490d28fc00af50c1e2ab47c3c672ef316924fc13b09aa7f96dc"), looks := true }, kinds := [], alts := [], laidByText := true, laidKinds := [.data, .pinned], laidTests := true, laidLooks := .later }
def UncertainContainsCardSaid : Prop := Claim7.holds Tryz.pinned (.plain (OpenSpec.ofChange uncertainContainsSpec)) uncertainContainsCard

/-- THE TIED CARD OF 'faultlinelaw44.UncertainAttained'. -/
def uncertainAttainedCard : Claim7 := { stood := { row := uncertainAttainedRow, standIns := [], harness := (true, "220c0868c8b23490d28fc00af50c1e2ab47c3c672ef316924fc13b09aa7f96dc"), looks := true }, kinds := [], alts := [], laidByText := true, laidKinds := [.data, .pinned], laidTests := true, laidLooks := .later }
def UncertainAttainedCardSaid : Prop := Claim7.holds Tryz.pinned (.plain (OpenSpec.ofChange uncertainAttainedSpec)) uncertainAttainedCard

/-- THE TIED CARD OF 'faultlinelaw44.UncertainInside'. -/
def uncertainInsideCard : Claim7 := { stood := { row := uncertainInsideRow, standIns := [], harness := (true, "220c0868c8b23490d28fc00af50c1e2ab47c3c672ef316924fc13b09aa7f96dc"), looks := true }, kinds := [], alts := [], laidByText := true, laidKinds := [.data, .pinned], laidTests := true, laidLooks := .later }
def UncertainInsideCardSaid : Prop := Claim7.holds Tryz.pinned (.plain (OpenSpec.ofChange uncertainInsideSpec)) uncertainInsideCard

/-- THE SECOND FORM's CARD OF 'faultlinelaw44.UncertainVertices'. -/
def uncertainVerticesUptoCard : Claim7 := { stood := { row := uncertainVerticesUptoRow, standIns := [], harness := (true, "220c0868c8b23490d28fc00af50c1e2ab47c3c672ef316924fc13b09aa7f96dc"), looks := true }, kinds := [], alts := [], laidByText := true, laidKinds := [.data, .pinned], laidTests := true, laidLooks := .later }
def UncertainVerticesUptoCardSaid : Prop := Claim7.holds Tryz.pinned (.plain (OpenSpec.upto uncertainVerticesSpec)) uncertainVerticesUptoCard

/-- THE SECOND FORM's CARD OF 'faultlinelaw44.UncertainContains'. -/
def uncertainContainsUptoCard : Claim7 := { stood := { row := uncertainContainsUptoRow, standIns := [], harness := (true, "220c0868c8b23490d28fc00af50c1e2ab47c3c672ef316924fc13b09aa7f96dc"), looks := true }, kinds := [], alts := [], laidByText := true, laidKinds := [.data, .pinned], laidTests := true, laidLooks := .later }
def UncertainContainsUptoCardSaid : Prop := Claim7.holds Tryz.pinned (.plain (OpenSpec.upto uncertainContainsSpec)) uncertainContainsUptoCard

/-- THE SECOND FORM's CARD OF 'faultlinelaw44.UncertainAttained'. -/
def uncertainAttainedUptoCard : Claim7 := { stood := { row := uncertainAttainedUptoRow, standIns := [], harness := (true, "220c0868c8b23490d28fc00af50c1e2ab47c3c672ef316924fc13b09aa7f96dc"), looks := true }, kinds := [], alts := [], laidByText := true, laidKinds := [.data, .pinned], laidTests := true, laidLooks := .later }
def UncertainAttainedUptoCardSaid : Prop := Claim7.holds Tryz.pinned (.plain (OpenSpec.upto uncertainAttainedSpec)) uncertainAttainedUptoCard

/-- THE SECOND FORM's CARD OF 'faultlinelaw44.UncertainInside'. -/
def uncertainInsideUptoCard : Claim7 := { stood := { row := uncertainInsideUptoRow, standIns := [], harness := (true, "220c0868c8b23490d28fc00af50c1e2ab47c3c672ef316924fc13b09aa7f96dc"), looks := true }, kinds := [], alts := [], laidByText := true, laidKinds := [.data, .pinned], laidTests := true, laidLooks := .later }
def UncertainInsideUptoCardSaid : Prop := Claim7.holds Tryz.pinned (.plain (OpenSpec.upto uncertainInsideSpec)) uncertainInsideUptoCard
end Rows
end Go.Proofs.YtcoflhkcpnoaaaaGreatDoor
