/-
  NARROWER THAN 'FOR EVERY INPUT', by the rows' own cells (each row's printed sentence says how): UncertainMonotone: laid · UncertainParts: laid · UncertainWorst: laid · UncertainVertices: laid · UncertainContains: laid · UncertainAttained: laid · UncertainInside: laid.
  DERIVED. THE GIVEN ROWS OF THIS SEAT. 7 by the template 'for every input the law returns true; each argument reads behind the call as it read before'; 0 by the template 'total and deterministic' (their statements: YtmfmnmkipjpjhaaGreatDoorTotals.lean).
  GIVEN WITH THE SEED: the statements are not yours to turn. If you find one false, say at which input.
  Laid BY PROGRAM, IN A SANDBOX (cutbox-rows.mjs): the forced cells as the released guide's own fill.sh prints them over the translation a4286ce43b6e1da8… (all of the seat's roots in one cut). By AI agents, Wed Nov 11 2026. No macro, syntax, notation, axiom, sorry.
-/
import Derived.Test.YtmfmnmkipjpjhaaGreatDoorChecked
import GoSem.PinnedTables
import GoSem.Claim
import GoSem.ClaimJoined
import GoSem.ClaimMapViews
import Derived.JoinedTies
import Derived.KernelRfl
namespace Go.Proofs.YtmfmnmkipjpjhaaGreatDoor
/- THE CELL 'sum', in the pinned program and in every row, IS THE sha256 OF THE DUMP (.gsa) THAT YtmfmnmkipjpjhaaGreatDoorProg.lean LOADS. Nothing in Lean hashes anything: it is a label: what it is worth is what the hold of that sum in a sandbox is worth. -/
noncomputable def Tryz.pinned : Pinned := { name := "ytmfmnmkipjpjhaagreatdoor", sum := "a4286ce43b6e1da8a94db4a30d9cf6fd97b7c4d4e6ab939a7c2a4a85fa75ce17", checked := Tryz.checked }
namespace Rows
def none {H : Type} : Left H := { results := [], args := [] }

/- WHAT THE LISTED PACKAGE-LEVEL VARIABLES READ AS WHEN THE CALL BEGINS. Each datum BY PROGRAM (the guide's laid-datum.mjs) off the statement by which the dump's own 'gosem.cut.vars' lays the variable. In a bare row this is a premise. The card (YtmfmnmkipjpjhaaGreatDoorCards.lean) ties it to the program's text. -/
def laid_unicode_utf8_acceptRanges {H : Type} : DataW H := .agg [.agg [.lit (.int .u8 128), .lit (.int .u8 191)], .agg [.lit (.int .u8 160), .lit (.int .u8 191)], .agg [.lit (.int .u8 128), .lit (.int .u8 159)], .agg [.lit (.int .u8 144), .lit (.int .u8 191)], .agg [.lit (.int .u8 128), .lit (.int .u8 143)], .agg [.lit (.int .u8 0), .lit (.int .u8 0)], .agg [.lit (.int .u8 0), .lit (.int .u8 0)], .agg [.lit (.int .u8 0), .lit (.int .u8 0)], .agg [.lit (.int .u8 0), .lit (.int .u8 0)], .agg [.lit (.int .u8 0), .lit (.int .u8 0)], .agg [.lit (.int .u8 0), .lit (.int .u8 0)], .agg [.lit (.int .u8 0), .lit (.int .u8 0)], .agg [.lit (.int .u8 0), .lit (.int .u8 0)], .agg [.lit (.int .u8 0), .lit (.int .u8 0)], .agg [.lit (.int .u8 0), .lit (.int .u8 0)], .agg [.lit (.int .u8 0), .lit (.int .u8 0)]]
/-- One of Go's own tables, pinned by name: the form's constant. -/
def laid_unicode_utf8_first : DataW Unit := Go.Pinned.utf8First

/-- 'faultlinelaw44.UncertainMonotone': WHATEVER THE INPUT: true; the input reads as it did. -/
def uncertainMonotoneSpec : ChangeSpec := { name := "uncertainMonotone", fn := fun _ => fun
  | [d1, d2] => { results := [.lit (.bool true)], args := [d1, d2] }
  | _ => none }
def uncertainMonotoneRow : OpenClaim := { program := "ytmfmnmkipjpjhaagreatdoor", sum := "a4286ce43b6e1da8a94db4a30d9cf6fd97b7c4d4e6ab939a7c2a4a85fa75ce17", func := "faultline/faultlinelaw44.UncertainMonotone", spec := "uncertainMonotone", inPlace := ["internal/abi.NoEscape", "internal/bytealg.IndexByteString", "internal/bytealg.IndexString"], unfollowed := true, recurses := true, named := ["unicode/utf8.first", "unicode/utf8.acceptRanges", "internal/bytealg.MaxLen"], plainKeys := false, apart := false, laid := [("unicode/utf8.acceptRanges", laid_unicode_utf8_acceptRanges), ("unicode/utf8.first", laid_unicode_utf8_first)] }
def UncertainMonotoneSaid : Prop := uncertainMonotoneRow.holds Tryz.pinned (OpenSpec.ofChange uncertainMonotoneSpec)

/-- ITS FALSE NEIGHBOUR: 'it returns false'. Refute it at one input. -/
def uncertainMonotoneWrong : ChangeSpec := { name := "uncertainMonotone", fn := fun _ => fun
  | [d1, d2] => { results := [.lit (.bool false)], args := [d1, d2] }
  | _ => none }
def UncertainMonotoneWrongFalsely : Prop := uncertainMonotoneRow.holds Tryz.pinned (OpenSpec.ofChange uncertainMonotoneWrong)

/-- 'faultlinelaw44.UncertainParts': WHATEVER THE INPUT: true; the input reads as it did. -/
def uncertainPartsSpec : ChangeSpec := { name := "uncertainParts", fn := fun _ => fun
  | [d1, d2, d3] => { results := [.lit (.bool true)], args := [d1, d2, d3] }
  | _ => none }
def uncertainPartsRow : OpenClaim := { program := "ytmfmnmkipjpjhaagreatdoor", sum := "a4286ce43b6e1da8a94db4a30d9cf6fd97b7c4d4e6ab939a7c2a4a85fa75ce17", func := "faultline/faultlinelaw44.UncertainParts", spec := "uncertainParts", inPlace := ["internal/abi.NoEscape", "internal/bytealg.IndexByteString", "internal/bytealg.IndexString"], unfollowed := true, recurses := true, named := ["unicode/utf8.first", "unicode/utf8.acceptRanges", "internal/bytealg.MaxLen"], plainKeys := false, apart := false, laid := [("unicode/utf8.acceptRanges", laid_unicode_utf8_acceptRanges), ("unicode/utf8.first", laid_unicode_utf8_first)] }
def UncertainPartsSaid : Prop := uncertainPartsRow.holds Tryz.pinned (OpenSpec.ofChange uncertainPartsSpec)

/-- ITS FALSE NEIGHBOUR: 'it returns false'. Refute it at one input. -/
def uncertainPartsWrong : ChangeSpec := { name := "uncertainParts", fn := fun _ => fun
  | [d1, d2, d3] => { results := [.lit (.bool false)], args := [d1, d2, d3] }
  | _ => none }
def UncertainPartsWrongFalsely : Prop := uncertainPartsRow.holds Tryz.pinned (OpenSpec.ofChange uncertainPartsWrong)

/-- 'faultlinelaw44.UncertainWorst': WHATEVER THE INPUT: true; the input reads as it did. -/
def uncertainWorstSpec : ChangeSpec := { name := "uncertainWorst", fn := fun _ => fun
  | [d1, d2] => { results := [.lit (.bool true)], args := [d1, d2] }
  | _ => none }
def uncertainWorstRow : OpenClaim := { program := "ytmfmnmkipjpjhaagreatdoor", sum := "a4286ce43b6e1da8a94db4a30d9cf6fd97b7c4d4e6ab939a7c2a4a85fa75ce17", func := "faultline/faultlinelaw44.UncertainWorst", spec := "uncertainWorst", inPlace := ["internal/abi.NoEscape", "internal/bytealg.IndexByteString", "internal/bytealg.IndexString"], unfollowed := true, recurses := true, named := ["unicode/utf8.first", "unicode/utf8.acceptRanges", "internal/bytealg.MaxLen"], plainKeys := false, apart := false, laid := [("unicode/utf8.acceptRanges", laid_unicode_utf8_acceptRanges), ("unicode/utf8.first", laid_unicode_utf8_first)] }
def UncertainWorstSaid : Prop := uncertainWorstRow.holds Tryz.pinned (OpenSpec.ofChange uncertainWorstSpec)

/-- ITS FALSE NEIGHBOUR: 'it returns false'. Refute it at one input. -/
def uncertainWorstWrong : ChangeSpec := { name := "uncertainWorst", fn := fun _ => fun
  | [d1, d2] => { results := [.lit (.bool false)], args := [d1, d2] }
  | _ => none }
def UncertainWorstWrongFalsely : Prop := uncertainWorstRow.holds Tryz.pinned (OpenSpec.ofChange uncertainWorstWrong)

/-- 'faultlinelaw44.UncertainVertices': WHATEVER THE INPUT: true; the input reads as it did. -/
def uncertainVerticesSpec : ChangeSpec := { name := "uncertainVertices", fn := fun _ => fun
  | [d1, d2] => { results := [.lit (.bool true)], args := [d1, d2] }
  | _ => none }
def uncertainVerticesRow : OpenClaim := { program := "ytmfmnmkipjpjhaagreatdoor", sum := "a4286ce43b6e1da8a94db4a30d9cf6fd97b7c4d4e6ab939a7c2a4a85fa75ce17", func := "faultline/faultlinelaw44.UncertainVertices", spec := "uncertainVertices", inPlace := ["internal/abi.NoEscape", "internal/bytealg.IndexByteString", "internal/bytealg.IndexString"], unfollowed := true, recurses := true, named := ["unicode/utf8.first", "unicode/utf8.acceptRanges", "internal/bytealg.MaxLen"], plainKeys := false, apart := false, laid := [("unicode/utf8.acceptRanges", laid_unicode_utf8_acceptRanges), ("unicode/utf8.first", laid_unicode_utf8_first)] }
def UncertainVerticesSaid : Prop := uncertainVerticesRow.holds Tryz.pinned (OpenSpec.ofChange uncertainVerticesSpec)

/-- ITS FALSE NEIGHBOUR: 'it returns false'. Refute it at one input. -/
def uncertainVerticesWrong : ChangeSpec := { name := "uncertainVertices", fn := fun _ => fun
  | [d1, d2] => { results := [.lit (.bool false)], args := [d1, d2] }
  | _ => none }
def UncertainVerticesWrongFalsely : Prop := uncertainVerticesRow.holds Tryz.pinned (OpenSpec.ofChange uncertainVerticesWrong)

/-- 'faultlinelaw44.UncertainContains': WHATEVER THE INPUT: true; the input reads as it did. -/
def uncertainContainsSpec : ChangeSpec := { name := "uncertainContains", fn := fun _ => fun
  | [d1, d2, d3] => { results := [.lit (.bool true)], args := [d1, d2, d3] }
  | _ => none }
def uncertainContainsRow : OpenClaim := { program := "ytmfmnmkipjpjhaagreatdoor", sum := "a4286ce43b6e1da8a94db4a30d9cf6fd97b7c4d4e6ab939a7c2a4a85fa75ce17", func := "faultline/faultlinelaw44.UncertainContains", spec := "uncertainContains", inPlace := ["internal/abi.NoEscape", "internal/bytealg.IndexByteString", "internal/bytealg.IndexString"], unfollowed := true, recurses := true, named := ["unicode/utf8.first", "unicode/utf8.acceptRanges", "internal/bytealg.MaxLen"], plainKeys := false, apart := false, laid := [("unicode/utf8.acceptRanges", laid_unicode_utf8_acceptRanges), ("unicode/utf8.first", laid_unicode_utf8_first)] }
def UncertainContainsSaid : Prop := uncertainContainsRow.holds Tryz.pinned (OpenSpec.ofChange uncertainContainsSpec)

/-- ITS FALSE NEIGHBOUR: 'it returns false'. Refute it at one input. -/
def uncertainContainsWrong : ChangeSpec := { name := "uncertainContains", fn := fun _ => fun
  | [d1, d2, d3] => { results := [.lit (.bool false)], args := [d1, d2, d3] }
  | _ => none }
def UncertainContainsWrongFalsely : Prop := uncertainContainsRow.holds Tryz.pinned (OpenSpec.ofChange uncertainContainsWrong)

/-- 'faultlinelaw44.UncertainAttained': WHATEVER THE INPUT: true; the input reads as it did. -/
def uncertainAttainedSpec : ChangeSpec := { name := "uncertainAttained", fn := fun _ => fun
  | [d1, d2] => { results := [.lit (.bool true)], args := [d1, d2] }
  | _ => none }
def uncertainAttainedRow : OpenClaim := { program := "ytmfmnmkipjpjhaagreatdoor", sum := "a4286ce43b6e1da8a94db4a30d9cf6fd97b7c4d4e6ab939a7c2a4a85fa75ce17", func := "faultline/faultlinelaw44.UncertainAttained", spec := "uncertainAttained", inPlace := ["internal/abi.NoEscape", "internal/bytealg.IndexByteString", "internal/bytealg.IndexString"], unfollowed := true, recurses := true, named := ["unicode/utf8.first", "unicode/utf8.acceptRanges", "internal/bytealg.MaxLen"], plainKeys := false, apart := false, laid := [("unicode/utf8.acceptRanges", laid_unicode_utf8_acceptRanges), ("unicode/utf8.first", laid_unicode_utf8_first)] }
def UncertainAttainedSaid : Prop := uncertainAttainedRow.holds Tryz.pinned (OpenSpec.ofChange uncertainAttainedSpec)

/-- ITS FALSE NEIGHBOUR: 'it returns false'. Refute it at one input. -/
def uncertainAttainedWrong : ChangeSpec := { name := "uncertainAttained", fn := fun _ => fun
  | [d1, d2] => { results := [.lit (.bool false)], args := [d1, d2] }
  | _ => none }
def UncertainAttainedWrongFalsely : Prop := uncertainAttainedRow.holds Tryz.pinned (OpenSpec.ofChange uncertainAttainedWrong)

/-- 'faultlinelaw44.UncertainInside': WHATEVER THE INPUT: true; the input reads as it did. -/
def uncertainInsideSpec : ChangeSpec := { name := "uncertainInside", fn := fun _ => fun
  | [d1, d2, d3] => { results := [.lit (.bool true)], args := [d1, d2, d3] }
  | _ => none }
def uncertainInsideRow : OpenClaim := { program := "ytmfmnmkipjpjhaagreatdoor", sum := "a4286ce43b6e1da8a94db4a30d9cf6fd97b7c4d4e6ab939a7c2a4a85fa75ce17", func := "faultline/faultlinelaw44.UncertainInside", spec := "uncertainInside", inPlace := ["internal/abi.NoEscape", "internal/bytealg.IndexByteString", "internal/bytealg.IndexString"], unfollowed := true, recurses := true, named := ["unicode/utf8.first", "unicode/utf8.acceptRanges", "internal/bytealg.MaxLen"], plainKeys := false, apart := false, laid := [("unicode/utf8.acceptRanges", laid_unicode_utf8_acceptRanges), ("unicode/utf8.first", laid_unicode_utf8_first)] }
def UncertainInsideSaid : Prop := uncertainInsideRow.holds Tryz.pinned (OpenSpec.ofChange uncertainInsideSpec)

/-- ITS FALSE NEIGHBOUR: 'it returns false'. Refute it at one input. -/
def uncertainInsideWrong : ChangeSpec := { name := "uncertainInside", fn := fun _ => fun
  | [d1, d2, d3] => { results := [.lit (.bool false)], args := [d1, d2, d3] }
  | _ => none }
def UncertainInsideWrongFalsely : Prop := uncertainInsideRow.holds Tryz.pinned (OpenSpec.ofChange uncertainInsideWrong)

/- THE SECOND FORM. 'bulk': how many values and letters a reading holds, each counted each time it is reached (what is shared counts as often as it is met; a slice's spare places count too). A statement '..UptoSaid' is the law's where the arguments, and the package variables that the reading takes, are together of bulk at most 1048576: NARROWER than '..Said'. Prove '..Said' where nothing that the law and all that it calls make is longer than what came in: it says more and counts as full. Else prove '..UptoSaid'. A law counts once. -/
mutual
def uptoBulk {H : Type} : DataW H → Nat
  | .lit (.string bytes) => bytes.length + 1
  | .lit _ => 1
  | .nil => 1
  | .ptr d => uptoBulk d + 1
  | .slice elems spare => uptoBulkAll elems + uptoBulkAll spare + 1
  | .agg parts => uptoBulkAll parts + 1
  | .iface _ d => uptoBulk d + 1
  | .map entries => uptoBulkEntries entries + 1
  | .held _ => 1
def uptoBulkAll {H : Type} : List (DataW H) → Nat
  | [] => 0
  | d :: r => uptoBulk d + uptoBulkAll r
def uptoBulkEntries {H : Type} : List (Lit × DataW H) → Nat
  | [] => 0
  | x :: r => uptoBulkEntry x + uptoBulkEntries r
def uptoBulkEntry {H : Type} : Lit × DataW H → Nat
  | (.string bytes, d) => bytes.length + uptoBulk d + 1
  | (_, d) => uptoBulk d + 1
 end
def uptoSmall : (H : Type) → List (DataW H) → Bool := fun _ ds => decide (uptoBulkAll ds ≤ 1048576)
def OpenSpec.upto (s : _root_.Go.ChangeSpec) : _root_.Go.OpenSpec := { _root_.Go.OpenSpec.ofChange s with cond := some uptoSmall }

/-- 'faultlinelaw44.UncertainMonotone', WHERE WHAT IT READS IS OF BULK AT MOST 1048576: true; the input reads as it did. -/
def uncertainMonotoneUptoRow : OpenClaim := { program := "ytmfmnmkipjpjhaagreatdoor", sum := "a4286ce43b6e1da8a94db4a30d9cf6fd97b7c4d4e6ab939a7c2a4a85fa75ce17", func := "faultline/faultlinelaw44.UncertainMonotone", spec := "uncertainMonotone", inPlace := ["internal/abi.NoEscape", "internal/bytealg.IndexByteString", "internal/bytealg.IndexString"], unfollowed := true, recurses := true, named := ["unicode/utf8.first", "unicode/utf8.acceptRanges", "internal/bytealg.MaxLen"], plainKeys := false, apart := false, laid := [("unicode/utf8.acceptRanges", laid_unicode_utf8_acceptRanges), ("unicode/utf8.first", laid_unicode_utf8_first)], narrowed := true }
def UncertainMonotoneUptoSaid : Prop := uncertainMonotoneUptoRow.holds Tryz.pinned (OpenSpec.upto uncertainMonotoneSpec)

/-- 'faultlinelaw44.UncertainParts', WHERE WHAT IT READS IS OF BULK AT MOST 1048576: true; the input reads as it did. -/
def uncertainPartsUptoRow : OpenClaim := { program := "ytmfmnmkipjpjhaagreatdoor", sum := "a4286ce43b6e1da8a94db4a30d9cf6fd97b7c4d4e6ab939a7c2a4a85fa75ce17", func := "faultline/faultlinelaw44.UncertainParts", spec := "uncertainParts", inPlace := ["internal/abi.NoEscape", "internal/bytealg.IndexByteString", "internal/bytealg.IndexString"], unfollowed := true, recurses := true, named := ["unicode/utf8.first", "unicode/utf8.acceptRanges", "internal/bytealg.MaxLen"], plainKeys := false, apart := false, laid := [("unicode/utf8.acceptRanges", laid_unicode_utf8_acceptRanges), ("unicode/utf8.first", laid_unicode_utf8_first)], narrowed := true }
def UncertainPartsUptoSaid : Prop := uncertainPartsUptoRow.holds Tryz.pinned (OpenSpec.upto uncertainPartsSpec)

/-- 'faultlinelaw44.UncertainWorst', WHERE WHAT IT READS IS OF BULK AT MOST 1048576: true; the input reads as it did. -/
def uncertainWorstUptoRow : OpenClaim := { program := "ytmfmnmkipjpjhaagreatdoor", sum := "a4286ce43b6e1da8a94db4a30d9cf6fd97b7c4d4e6ab939a7c2a4a85fa75ce17", func := "faultline/faultlinelaw44.UncertainWorst", spec := "uncertainWorst", inPlace := ["internal/abi.NoEscape", "internal/bytealg.IndexByteString", "internal/bytealg.IndexString"], unfollowed := true, recurses := true, named := ["unicode/utf8.first", "unicode/utf8.acceptRanges", "internal/bytealg.MaxLen"], plainKeys := false, apart := false, laid := [("unicode/utf8.acceptRanges", laid_unicode_utf8_acceptRanges), ("unicode/utf8.first", laid_unicode_utf8_first)], narrowed := true }
def UncertainWorstUptoSaid : Prop := uncertainWorstUptoRow.holds Tryz.pinned (OpenSpec.upto uncertainWorstSpec)

/-- 'faultlinelaw44.UncertainVertices', WHERE WHAT IT READS IS OF BULK AT MOST 1048576: true; the input reads as it did. -/
def uncertainVerticesUptoRow : OpenClaim := { program := "ytmfmnmkipjpjhaagreatdoor", sum := "a4286ce43b6e1da8a94db4a30d9cf6fd97b7c4d4e6ab939a7c2a4a85fa75ce17", func := "faultline/faultlinelaw44.UncertainVertices", spec := "uncertainVertices", inPlace := ["internal/abi.NoEscape", "internal/bytealg.IndexByteString", "internal/bytealg.IndexString"], unfollowed := true, recurses := true, named := ["unicode/utf8.first", "unicode/utf8.acceptRanges", "internal/bytealg.MaxLen"], plainKeys := false, apart := false, laid := [("unicode/utf8.acceptRanges", laid_unicode_utf8_acceptRanges), ("unicode/utf8.first", laid_unicode_utf8_first)], narrowed := true }
def UncertainVerticesUptoSaid : Prop := uncertainVerticesUptoRow.holds Tryz.pinned (OpenSpec.upto uncertainVerticesSpec)

/-- 'faultlinelaw44.UncertainContains', WHERE WHAT IT READS IS OF BULK AT MOST 1048576: true; the input reads as it did. -/
def uncertainContainsUptoRow : OpenClaim := { program := "ytmfmnmkipjpjhaagreatdoor", sum := "a4286ce43b6e1da8a94db4a30d9cf6fd97b7c4d4e6ab939a7c2a4a85fa75ce17", func := "faultline/faultlinelaw44.UncertainContains", spec := "uncertainContains", inPlace := ["internal/abi.NoEscape", "internal/bytealg.IndexByteString", "internal/bytealg.IndexString"], unfollowed := true, recurses := true, named := ["unicode/utf8.first", "unicode/utf8.acceptRanges", "internal/bytealg.MaxLen"], plainKeys := false, apart := false, laid := [("unicode/utf8.acceptRanges", laid_unicode_utf8_acceptRanges), ("unicode/utf8.first", laid_unicode_utf8_first)], narrowed := true }
def UncertainContainsUptoSaid : Prop := uncertainContainsUptoRow.holds Tryz.pinned (OpenSpec.upto uncertainContainsSpec)

/-- 'faultlinelaw44.UncertainAttained', WHERE WHAT IT READS IS OF BULK AT MOST 1048576: true; the input reads as it did. -/
def uncertainAttainedUptoRow : OpenClaim := { program := "ytmfmnmkipjpjhaagreatdoor", sum := "a4286ce43b6e1da8a94db4a30d9cf6fd97b7c4d4e6ab939a7c2a4a85fa75ce17", func := "faultline/faultlinelaw44.UncertainAttained", spec := "uncertainAttained", inPlace := ["internal/abi.NoEscape", "internal/bytealg.IndexByteString", "internal/bytealg.IndexString"], unfollowed := true, recurses := true, named := ["unicode/utf8.first", "unicode/utf8.acceptRanges", "internal/bytealg.MaxLen"], plainKeys := false, apart := false, laid := [("unicode/utf8.acceptRanges", laid_unicode_utf8_acceptRanges), ("unicode/utf8.first", laid_unicode_utf8_first)], narrowed := true }
def UncertainAttainedUptoSaid : Prop := uncertainAttainedUptoRow.holds Tryz.pinned (OpenSpec.upto uncertainAttainedSpec)

/-- 'faultlinelaw44.UncertainInside', WHERE WHAT IT READS IS OF BULK AT MOST 1048576: true; the input reads as it did. -/
def uncertainInsideUptoRow : OpenClaim := { program := "ytmfmnmkipjpjhaagreatdoor", sum := "a4286ce43b6e1da8a94db4a30d9cf6fd97b7c4d4e6ab939a7c2a4a85fa75ce17", func := "faultline/faultlinelaw44.UncertainInside", spec := "uncertainInside", inPlace := ["internal/abi.NoEscape", "internal/bytealg.IndexByteString", "internal/bytealg.IndexString"], unfollowed := true, recurses := true, named := ["unicode/utf8.first", "unicode/utf8.acceptRanges", "internal/bytealg.MaxLen"], plainKeys := false, apart := false, laid := [("unicode/utf8.acceptRanges", laid_unicode_utf8_acceptRanges), ("unicode/utf8.first", laid_unicode_utf8_first)], narrowed := true }
def UncertainInsideUptoSaid : Prop := uncertainInsideUptoRow.holds Tryz.pinned (OpenSpec.upto uncertainInsideSpec)

end Rows
end Go.Proofs.YtmfmnmkipjpjhaaGreatDoor
