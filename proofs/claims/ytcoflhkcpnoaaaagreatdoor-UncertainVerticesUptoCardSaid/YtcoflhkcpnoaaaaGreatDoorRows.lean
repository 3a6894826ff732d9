/-
  NARROWER THAN 'FOR EVERY INPUT', by the rows' own cells (each row's printed sentence says how): UncertainVertices: laid · UncertainContains: laid · UncertainAttained: laid · UncertainInside: laid.
  DERIVED. THE GIVEN ROWS OF THIS SEAT. 4 by the template 'for every input the law returns true; each argument reads behind the call as it read before'; 0 by the template 'total and deterministic' (their statements: YtcoflhkcpnoaaaaGreatDoorTotals.lean).
  GIVEN WITH THE SEED: the statements are not yours to turn. If you find one false, say at which input.
  Laid BY PROGRAM, IN A SANDBOX (cutbox-rows.mjs): the forced cells as the released guide's own fill.sh prints them over the translation 59097bd546c3844c… (all of the seat's roots in one cut). By AI agents, Wed Nov 11 2026. No macro, syntax, notation, axiom, sorry.
-/
import Derived.Test.YtcoflhkcpnoaaaaGreatDoorChecked
import GoSem.PinnedTables
import GoSem.Claim
import GoSem.ClaimJoined
import GoSem.ClaimMapViews
import Derived.JoinedTies
import Derived.KernelRfl
namespace Go.Proofs.YtcoflhkcpnoaaaaGreatDoor
/- THE CELL 'sum', in the pinned program and in every row, IS THE sha256 OF THE DUMP (.gsa) THAT YtcoflhkcpnoaaaaGreatDoorProg.lean LOADS. Nothing in Lean hashes anything: it is a label: what it is worth is what the hold of that sum in a sandbox is worth. -/
noncomputable def Tryz.pinned : Pinned := { name := "ytcoflhkcpnoaaaagreatdoor", sum := "59097bd546c3844c567f507b5821b598e24807f0ffd6e2e733161311c39c7e0c", checked := Tryz.checked }
namespace Rows
def none {H : Type} : Left H := { results := [], args := [] }

/- WHAT THE LISTED PACKAGE-LEVEL VARIABLES READ AS WHEN THE CALL BEGINS. Each datum BY PROGRAM (the guide's laid-datum.mjs) off the statement by which the dump's own 'gosem.cut.vars' lays the variable. In a bare row this is a premise. The card (YtcoflhkcpnoaaaaGreatDoorCards.lean) ties it to the program's text. -/
def laid_unicode_utf8_acceptRanges {H : Type} : DataW H := .agg [.agg [.lit (.int .u8 128), .lit (.int .u8 191)], .agg [.lit (.int .u8 160), .lit (.int .u8 191)], .agg [.lit (.int .u8 128), .lit (.int .u8 159)], .agg [.lit (.int .u8 144), .lit (.int .u8 191)], .agg [.lit (.int .u8 128), .lit (.int .u8 143)], .agg [.lit (.int .u8 0), .lit (.int .u8 0)], .agg [.lit (.int .u8 0), .lit (.int .u8 0)], .agg [.lit (.int .u8 0), .lit (.int .u8 0)], .agg [.lit (.int .u8 0), .lit (.int .u8 0)], .agg [.lit (.int .u8 0), .lit (.int .u8 0)], .agg [.lit (.int .u8 0), .lit (.int .u8 0)], .agg [.lit (.int .u8 0), .lit (.int .u8 0)], .agg [.lit (.int .u8 0), .lit (.int .u8 0)], .agg [.lit (.int .u8 0), .lit (.int .u8 0)], .agg [.lit (.int .u8 0), .lit (.int .u8 0)], .agg [.lit (.int .u8 0), .lit (.int .u8 0)]]
/-- One of Go's own tables, pinned by name: the form's constant. -/
def laid_unicode_utf8_first : DataW Unit := Go.Pinned.utf8First

/-- 'faultlinelaw44.UncertainVertices': WHATEVER THE INPUT: true; the input reads as it did. -/
def uncertainVerticesSpec : ChangeSpec := { name := "uncertainVertices", fn := fun _ => fun
  | [d1, d2] => { results := [.lit (.bool true)], args := [d1, d2] }
  | _ => none }
def uncertainVerticesRow : OpenClaim := { program := "ytcoflhkcpnoaaaagreatdoor", sum := "59097bd546c3844c567f507b5821b598e24807f0ffd6e2e733161311c39c7e0c", func := "faultline/faultlinelaw44.UncertainVertices", spec := "uncertainVertices", inPlace := ["internal/abi.NoEscape", "internal/bytealg.IndexByteString", "internal/bytealg.IndexString"], unfollowed := true, recurses := true, named := ["unicode/utf8.first", "unicode/utf8.acceptRanges", "internal/bytealg.MaxLen"], plainKeys := false, apart := false, laid := [("unicode/utf8.acceptRanges", laid_unicode_utf8_acceptRanges), ("unicode/utf8.first", laid_unicode_utf8_first)] }
def UncertainVerticesSaid : Prop := uncertainVerticesRow.holds Tryz.pinned (OpenSpec.ofChange uncertainVerticesSpec)

/-- ITS FALSE NEIGHBOUR: 'it returns false'. Refute it at one input. -/
def uncertainVerticesWrong : ChangeSpec := { name := "uncertainVertices", fn := fun _ => fun
  | [d1, d2] => { results := [.lit (.bool false)], args := [d1, d2] }
  | _ => none }
def UncertainVerticesWrongFalsely : Prop := uncertainVerticesRow.holds Tryz.pinned (OpenSpec.ofChange uncertainVerticesWrong)

/-- 'faultlinelaw44.UncertainContains': WHATEVER THE INPUT: true; the input reads as it did. -/
def uncertainContainsSpec : ChangeSpec := { name := "uncertainContains", fn := fun _ => fun
  | [d1, d2, d3] => { results := [.lit (.bool true)], args := [d1, d2, d3] }
  | _ => none }
def uncertainContainsRow : OpenClaim := { program := "ytcoflhkcpnoaaaagreatdoor", sum := "59097bd546c3844c567f507b5821b598e24807f0ffd6e2e733161311c39c7e0c", func := "faultline/faultlinelaw44.UncertainContains", spec := "uncertainContains", inPlace := ["internal/abi.NoEscape", "internal/bytealg.IndexByteString", "internal/bytealg.IndexString"], unfollowed := true, recurses := true, named := ["unicode/utf8.first", "unicode/utf8.acceptRanges", "internal/bytealg.MaxLen"], plainKeys := false, apart := false, laid := [("unicode/utf8.acceptRanges", laid_unicode_utf8_acceptRanges), ("unicode/utf8.first", laid_unicode_utf8_first)] }
def UncertainContainsSaid : Prop := uncertainContainsRow.holds Tryz.pinned (OpenSpec.ofChange uncertainContainsSpec)

/-- ITS FALSE NEIGHBOUR: 'it returns false'. Refute it at one input. -/
def uncertainContainsWrong : ChangeSpec := { name := "uncertainContains", fn := fun _ => fun
  | [d1, d2, d3] => { results := [.lit (.bool false)], args := [d1, d2, d3] }
  | _ => none }
def UncertainContainsWrongFalsely : Prop := uncertainContainsRow.holds Tryz.pinned (OpenSpec.ofChange uncertainContainsWrong)

/-- 'faultlinelaw44.UncertainAttained': WHATEVER THE INPUT: true; the input reads as it did. -/
def uncertainAttainedSpec : ChangeSpec := { name := "uncertainAttained", fn := fun _ => fun
  | [d1, d2] => { results := [.lit (.bool true)], args := [d1, d2] }
  | _ => none }
def uncertainAttainedRow : OpenClaim := { program := "ytcoflhkcpnoaaaagreatdoor", sum := "59097bd546c3844c567f507b5821b598e24807f0ffd6e2e733161311c39c7e0c", func := "faultline/faultlinelaw44.UncertainAttained", spec := "uncertainAttained", inPlace := ["internal/abi.NoEscape", "internal/bytealg.IndexByteString", "internal/bytealg.IndexString"], unfollowed := true, recurses := true, named := ["unicode/utf8.first", "unicode/utf8.acceptRanges", "internal/bytealg.MaxLen"], plainKeys := false, apart := false, laid := [("unicode/utf8.acceptRanges", laid_unicode_utf8_acceptRanges), ("unicode/utf8.first", laid_unicode_utf8_first)] }
def UncertainAttainedSaid : Prop := uncertainAttainedRow.holds Tryz.pinned (OpenSpec.ofChange uncertainAttainedSpec)

/-- ITS FALSE NEIGHBOUR: 'it returns false'. Refute it at one input. -/
def uncertainAttainedWrong : ChangeSpec := { name := "uncertainAttained", fn := fun _ => fun
  | [d1, d2] => { results := [.lit (.bool false)], args := [d1, d2] }
  | _ => none }
def UncertainAttainedWrongFalsely : Prop := uncertainAttainedRow.holds Tryz.pinned (OpenSpec.ofChange uncertainAttainedWrong)

/-- 'faultlinelaw44.UncertainInside': WHATEVER THE INPUT: true; the input reads as it did. -/
def uncertainInsideSpec : ChangeSpec := { name := "uncertainInside", fn := fun _ => fun
  | [d1, d2, d3] => { results := [.lit (.bool true)], args := [d1, d2, d3] }
  | _ => none }
def uncertainInsideRow : OpenClaim := { program := "ytcoflhkcpnoaaaagreatdoor", sum := "59097bd546c3844c567f507b5821b598e24807f0ffd6e2e733161311c39c7e0c", func := "faultline/faultlinelaw44.UncertainInside", spec := "uncertainInside", inPlace := ["internal/abi.NoEscape", "internal/bytealg.IndexByteString", "internal/bytealg.IndexString"], unfollowed := true, recurses := true, named := ["unicode/utf8.first", "unicode/utf8.acceptRanges", "internal/bytealg.MaxLen"], plainKeys := false, apart := false, laid := [("unicode/utf8.acceptRanges", laid_unicode_utf8_acceptRanges), ("unicode/utf8.first", laid_unicode_utf8_first)] }
def UncertainInsideSaid : Prop := uncertainInsideRow.holds Tryz.pinned (OpenSpec.ofChange uncertainInsideSpec)

/-- ITS FALSE NEIGHBOUR: 'it returns false'. Refute it at one input. -/
def uncertainInsideWrong : ChangeSpec := { name := "uncertainInside", fn := fun _ => fun
  | [d1, d2, d3] => { results := [.lit (.bool false)], args := [d1, d2, d3] }
  | _ => none }
def UncertainInsideWrongFalsely : Prop := uncertainInsideRow.holds Tryz.pinned (OpenSpec.ofChange uncertainInsideWrong)

/- THE SECOND FORM. 'bulk': how many values and letters a reading holds, each counted each time it is reached (what is shared counts as often as it is met; a slice's spare places count too). A statement '..UptoSaid' is the law's where the arguments, and the package variables that the reading takes, are together of bulk at most 1048576: NARROWER than '..Said'. Prove '..Said' where nothing that the law and all that it calls make is longer than what came in: it says more and counts as full. Else prove '..UptoSaid'. A law counts once. -/
mutual
def uptoBulk {H : Type} : DataW H → Nat
  | .lit (.string bytes) => bytes.length + 1
  | .lit _ => 1
  | .nil => 1
  | .ptr d => uptoBulk d + 1
  | .slice elems spare => uptoBulkAll elems + uptoBulkAll spare + 1
  | .agg parts => uptoBulkAll parts + 1
  | .iface _ d => uptoBulk d + 1
  | .map entries => uptoBulkEntries entries + 1
  | .held _ => 1
def uptoBulkAll {H : Type} : List (DataW H) → Nat
  | [] => 0
  | d :: r => uptoBulk d + uptoBulkAll r
def uptoBulkEntries {H : Type} : List (Lit × DataW H) → Nat
  | [] => 0
  | x :: r => uptoBulkEntry x + uptoBulkEntries r
def uptoBulkEntry {H : Type} : Lit × DataW H → Nat
  | (.string bytes, d) => bytes.length + uptoBulk d + 1
  | (_, d) => uptoBulk d + 1
 end
def uptoSmall : (H : Type) → List (DataW H) → Bool := fun _ ds => decide (uptoBulkAll ds ≤ 1048576)
def OpenSpec.upto (s : _root_.Go.ChangeSpec) : _root_.Go.OpenSpec := { _root_.Go.OpenSpec.ofChange s with cond := some uptoSmall }

/-- 'faultlinelaw44.UncertainVertices', WHERE WHAT IT READS IS OF BULK AT MOST 1048576: true; the input reads as it did. -/
def uncertainVerticesUptoRow : OpenClaim := { program := "ytcoflhkcpnoaaaagreatdoor", sum := "59097bd546c3844c567f507b5821b598e24807f0ffd6e2e733161311c39c7e0c", func := "faultline/faultlinelaw44.UncertainVertices", spec := "uncertainVertices", inPlace := ["internal/abi.NoEscape", "internal/bytealg.IndexByteString", "internal/bytealg.IndexString"], unfollowed := true, recurses := true, named := ["unicode/utf8.first", "unicode/utf8.acceptRanges", "internal/bytealg.MaxLen"], plainKeys := false, apart := false, laid := [("unicode/utf8.acceptRanges", laid_unicode_utf8_acceptRanges), ("unicode/utf8.first", laid_unicode_utf8_first)], narrowed := true }
def UncertainVerticesUptoSaid : Prop := uncertainVerticesUptoRow.holds Tryz.pinned (OpenSpec.upto uncertainVerticesSpec)

/-- 'faultlinelaw44.UncertainContains', WHERE WHAT IT READS IS OF BULK AT MOST 1048576: true; the input reads as it did. -/
def uncertainContainsUptoRow : OpenClaim := { program := "ytcoflhkcpnoaaaagreatdoor", sum := "59097bd546c3844c567f507b5821b598e24807f0ffd6e2e733161311c39c7e0c", func := "faultline/faultlinelaw44.UncertainContains", spec := "uncertainContains", inPlace := ["internal/abi.NoEscape", "internal/bytealg.IndexByteString", "internal/bytealg.IndexString"], unfollowed := true, recurses := true, named := ["unicode/utf8.first", "unicode/utf8.acceptRanges", "internal/bytealg.MaxLen"], plainKeys := false, apart := false, laid := [("unicode/utf8.acceptRanges", laid_unicode_utf8_acceptRanges), ("unicode/utf8.first", laid_unicode_utf8_first)], narrowed := true }
def UncertainContainsUptoSaid : Prop := uncertainContainsUptoRow.holds Tryz.pinned (OpenSpec.upto uncertainContainsSpec)

/-- 'faultlinelaw44.UncertainAttained', WHERE WHAT IT READS IS OF BULK AT MOST 1048576: true; the input reads as it did. -/
def uncertainAttainedUptoRow : OpenClaim := { program := "ytcoflhkcpnoaaaagreatdoor", sum := "59097bd546c3844c567f507b5821b598e24807f0ffd6e2e733161311c39c7e0c", func := "faultline/faultlinelaw44.UncertainAttained", spec := "uncertainAttained", inPlace := ["internal/abi.NoEscape", "internal/bytealg.IndexByteString", "internal/bytealg.IndexString"], unfollowed := true, recurses := true, named := ["unicode/utf8.first", "unicode/utf8.acceptRanges", "internal/bytealg.MaxLen"], plainKeys := false, apart := false, laid := [("unicode/utf8.acceptRanges", laid_unicode_utf8_acceptRanges), ("unicode/utf8.first", laid_unicode_utf8_first)], narrowed := true }
def UncertainAttainedUptoSaid : Prop := uncertainAttainedUptoRow.holds Tryz.pinned (OpenSpec.upto uncertainAttainedSpec)

/-- 'faultlinelaw44.UncertainInside', WHERE WHAT IT READS IS OF BULK AT MOST 1048576: true; the input reads as it did. -/
def uncertainInsideUptoRow : OpenClaim := { program := "ytcoflhkcpnoaaaagreatdoor", sum := "59097bd546c3844c567f507b5821b598e24807f0ffd6e2e733161311c39c7e0c", func := "faultline/faultlinelaw44.UncertainInside", spec := "uncertainInside", inPlace := ["internal/abi.NoEscape", "internal/bytealg.IndexByteString", "internal/bytealg.IndexString"], unfollowed := true, recurses := true, named := ["unicode/utf8.first", "unicode/utf8.acceptRanges", "internal/bytealg.MaxLen"], plainKeys := false, apart := false, laid := [("unicode/utf8.acceptRanges", laid_unicode_utf8_acceptRanges), ("unicode/utf8.first", laid_unicode_utf8_first)], narrowed := true }
def UncertainInsideUptoSaid : Prop := uncertainInsideUptoRow.holds Tryz.pinned (OpenSpec.upto uncertainInsideSpec)

end Rows
end Go.Proofs.YtcoflhkcpnoaaaaGreatDoor
