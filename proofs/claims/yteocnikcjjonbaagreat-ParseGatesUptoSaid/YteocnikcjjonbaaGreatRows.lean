/-
  No cell of these rows narrows 'for every input' (looked for: loops, veiled, ifaces, maps, wideKeys, modest, calm, conditions, laid).
  DERIVED. THE GIVEN ROWS OF THIS SEAT. 6 by the template 'for every input the law returns true; each argument reads behind the call as it read before'; 0 by the template 'total and deterministic' (their statements: YteocnikcjjonbaaGreatTotals.lean).
  GIVEN WITH THE SEED: the statements are not yours to turn. If you find one false, say at which input.
  Laid BY PROGRAM, IN A SANDBOX (cutbox-rows.mjs): the forced cells as the released guide's own fill.sh prints them over the translation 6e34b59c8c7faf6b… (all of the seat's roots in one cut). By AI agents, Wed Nov 11 2026. No macro, syntax, notation, axiom, sorry.
-/
import Derived.Test.YteocnikcjjonbaaGreatChecked
import GoSem.Claim
import GoSem.ClaimJoined
import GoSem.ClaimMapViews
import Derived.JoinedTies
import Derived.KernelRfl
namespace Go.Proofs.YteocnikcjjonbaaGreat
/- THE CELL 'sum', in the pinned program and in every row, IS THE sha256 OF THE DUMP (.gsa) THAT YteocnikcjjonbaaGreatProg.lean LOADS. Nothing in Lean hashes anything: it is a label: what it is worth is what the hold of that sum in a sandbox is worth. -/
noncomputable def Tryz.pinned : Pinned := { name := "yteocnikcjjonbaagreat", sum := "6e34b59c8c7faf6bdfc24d786835aec04be56ad8a2208091fb46ca934a79c36f", checked := Tryz.checked }
namespace Rows
def none {H : Type} : Left H := { results := [], args := [] }

/-- 'faultlinelaw23.ParseModels': WHATEVER THE INPUT: true; the input reads as it did. -/
def parseModelsSpec : ChangeSpec := { name := "parseModels", fn := fun _ => fun
  | [d] => { results := [.lit (.bool true)], args := [d] }
  | _ => none }
def parseModelsRow : OpenClaim := { program := "yteocnikcjjonbaagreat", sum := "6e34b59c8c7faf6bdfc24d786835aec04be56ad8a2208091fb46ca934a79c36f", func := "faultline/faultlinelaw23.ParseModels", spec := "parseModels", inPlace := ["internal/bytealg.IndexByteString", "internal/bytealg.IndexString"], unfollowed := true, recurses := true, named := ["internal/bytealg.MaxLen"], plainKeys := false, apart := false }
def ParseModelsSaid : Prop := parseModelsRow.holds Tryz.pinned (OpenSpec.ofChange parseModelsSpec)

/-- ITS FALSE NEIGHBOUR: 'it returns false'. Refute it at one input. -/
def parseModelsWrong : ChangeSpec := { name := "parseModels", fn := fun _ => fun
  | [d] => { results := [.lit (.bool false)], args := [d] }
  | _ => none }
def ParseModelsWrongFalsely : Prop := parseModelsRow.holds Tryz.pinned (OpenSpec.ofChange parseModelsWrong)

/-- 'faultlinelaw23.ParseAccepts': WHATEVER THE INPUT: true; the input reads as it did. -/
def parseAcceptsSpec : ChangeSpec := { name := "parseAccepts", fn := fun _ => fun
  | [d] => { results := [.lit (.bool true)], args := [d] }
  | _ => none }
def parseAcceptsRow : OpenClaim := { program := "yteocnikcjjonbaagreat", sum := "6e34b59c8c7faf6bdfc24d786835aec04be56ad8a2208091fb46ca934a79c36f", func := "faultline/faultlinelaw23.ParseAccepts", spec := "parseAccepts", inPlace := ["internal/bytealg.IndexByteString", "internal/bytealg.IndexString"], unfollowed := true, recurses := true, named := ["internal/bytealg.MaxLen"], plainKeys := false, apart := false }
def ParseAcceptsSaid : Prop := parseAcceptsRow.holds Tryz.pinned (OpenSpec.ofChange parseAcceptsSpec)

/-- ITS FALSE NEIGHBOUR: 'it returns false'. Refute it at one input. -/
def parseAcceptsWrong : ChangeSpec := { name := "parseAccepts", fn := fun _ => fun
  | [d] => { results := [.lit (.bool false)], args := [d] }
  | _ => none }
def ParseAcceptsWrongFalsely : Prop := parseAcceptsRow.holds Tryz.pinned (OpenSpec.ofChange parseAcceptsWrong)

/-- 'faultlinelaw23.ParseSpaces': WHATEVER THE INPUT: true; the input reads as it did. -/
def parseSpacesSpec : ChangeSpec := { name := "parseSpaces", fn := fun _ => fun
  | [d] => { results := [.lit (.bool true)], args := [d] }
  | _ => none }
def parseSpacesRow : OpenClaim := { program := "yteocnikcjjonbaagreat", sum := "6e34b59c8c7faf6bdfc24d786835aec04be56ad8a2208091fb46ca934a79c36f", func := "faultline/faultlinelaw23.ParseSpaces", spec := "parseSpaces", inPlace := ["internal/bytealg.IndexByteString", "internal/bytealg.IndexString"], unfollowed := true, recurses := true, named := ["internal/bytealg.MaxLen"], plainKeys := false, apart := false }
def ParseSpacesSaid : Prop := parseSpacesRow.holds Tryz.pinned (OpenSpec.ofChange parseSpacesSpec)

/-- ITS FALSE NEIGHBOUR: 'it returns false'. Refute it at one input. -/
def parseSpacesWrong : ChangeSpec := { name := "parseSpaces", fn := fun _ => fun
  | [d] => { results := [.lit (.bool false)], args := [d] }
  | _ => none }
def ParseSpacesWrongFalsely : Prop := parseSpacesRow.holds Tryz.pinned (OpenSpec.ofChange parseSpacesWrong)

/-- 'faultlinelaw23.ParseCut': WHATEVER THE INPUT: true; the input reads as it did. -/
def parseCutSpec : ChangeSpec := { name := "parseCut", fn := fun _ => fun
  | [d1, d2, d3] => { results := [.lit (.bool true)], args := [d1, d2, d3] }
  | _ => none }
def parseCutRow : OpenClaim := { program := "yteocnikcjjonbaagreat", sum := "6e34b59c8c7faf6bdfc24d786835aec04be56ad8a2208091fb46ca934a79c36f", func := "faultline/faultlinelaw23.ParseCut", spec := "parseCut", inPlace := ["internal/bytealg.IndexByteString", "internal/bytealg.IndexString"], unfollowed := true, recurses := true, named := ["internal/bytealg.MaxLen"], plainKeys := false, apart := false }
def ParseCutSaid : Prop := parseCutRow.holds Tryz.pinned (OpenSpec.ofChange parseCutSpec)

/-- ITS FALSE NEIGHBOUR: 'it returns false'. Refute it at one input. -/
def parseCutWrong : ChangeSpec := { name := "parseCut", fn := fun _ => fun
  | [d1, d2, d3] => { results := [.lit (.bool false)], args := [d1, d2, d3] }
  | _ => none }
def ParseCutWrongFalsely : Prop := parseCutRow.holds Tryz.pinned (OpenSpec.ofChange parseCutWrong)

/-- 'faultlinelaw23.ParseOrder': WHATEVER THE INPUT: true; the input reads as it did. -/
def parseOrderSpec : ChangeSpec := { name := "parseOrder", fn := fun _ => fun
  | [d1, d2] => { results := [.lit (.bool true)], args := [d1, d2] }
  | _ => none }
def parseOrderRow : OpenClaim := { program := "yteocnikcjjonbaagreat", sum := "6e34b59c8c7faf6bdfc24d786835aec04be56ad8a2208091fb46ca934a79c36f", func := "faultline/faultlinelaw23.ParseOrder", spec := "parseOrder", inPlace := ["internal/bytealg.IndexByteString", "internal/bytealg.IndexString"], unfollowed := true, recurses := true, named := ["internal/bytealg.MaxLen"], plainKeys := false, apart := false }
def ParseOrderSaid : Prop := parseOrderRow.holds Tryz.pinned (OpenSpec.ofChange parseOrderSpec)

/-- ITS FALSE NEIGHBOUR: 'it returns false'. Refute it at one input. -/
def parseOrderWrong : ChangeSpec := { name := "parseOrder", fn := fun _ => fun
  | [d1, d2] => { results := [.lit (.bool false)], args := [d1, d2] }
  | _ => none }
def ParseOrderWrongFalsely : Prop := parseOrderRow.holds Tryz.pinned (OpenSpec.ofChange parseOrderWrong)

/-- 'faultlinelaw23.ParseGates': WHATEVER THE INPUT: true; the input reads as it did. -/
def parseGatesSpec : ChangeSpec := { name := "parseGates", fn := fun _ => fun
  | [d] => { results := [.lit (.bool true)], args := [d] }
  | _ => none }
def parseGatesRow : OpenClaim := { program := "yteocnikcjjonbaagreat", sum := "6e34b59c8c7faf6bdfc24d786835aec04be56ad8a2208091fb46ca934a79c36f", func := "faultline/faultlinelaw23.ParseGates", spec := "parseGates", inPlace := ["internal/bytealg.IndexByteString", "internal/bytealg.IndexString"], unfollowed := true, recurses := true, named := ["internal/bytealg.MaxLen"], plainKeys := false, apart := false }
def ParseGatesSaid : Prop := parseGatesRow.holds Tryz.pinned (OpenSpec.ofChange parseGatesSpec)

/-- ITS FALSE NEIGHBOUR: 'it returns false'. Refute it at one input. -/
def parseGatesWrong : ChangeSpec := { name := "parseGates", fn := fun _ => fun
  | [d] => { results := [.lit (.bool false)], args := [d] }
  | _ => none }
def ParseGatesWrongFalsely : Prop := parseGatesRow.holds Tryz.pinned (OpenSpec.ofChange parseGatesWrong)

/- THE SECOND FORM. 'bulk': how many values and letters a reading holds, each counted each time it is reached (what is shared counts as often as it is met; a slice's spare places count too). A statement '..UptoSaid' is the law's where the arguments, and the package variables that the reading takes, are together of bulk at most 1048576: NARROWER than '..Said'. Prove '..Said' where nothing that the law and all that it calls make is longer than what came in: it says more and counts as full. Else prove '..UptoSaid'. A law counts once. -/
mutual
def uptoBulk {H : Type} : DataW H → Nat
  | .lit (.string bytes) => bytes.length + 1
  | .lit _ => 1
  | .nil => 1
  | .ptr d => uptoBulk d + 1
  | .slice elems spare => uptoBulkAll elems + uptoBulkAll spare + 1
  | .agg parts => uptoBulkAll parts + 1
  | .iface _ d => uptoBulk d + 1
  | .map entries => uptoBulkEntries entries + 1
  | .held _ => 1
def uptoBulkAll {H : Type} : List (DataW H) → Nat
  | [] => 0
  | d :: r => uptoBulk d + uptoBulkAll r
def uptoBulkEntries {H : Type} : List (Lit × DataW H) → Nat
  | [] => 0
  | x :: r => uptoBulkEntry x + uptoBulkEntries r
def uptoBulkEntry {H : Type} : Lit × DataW H → Nat
  | (.string bytes, d) => bytes.length + uptoBulk d + 1
  | (_, d) => uptoBulk d + 1
 end
def uptoSmall : (H : Type) → List (DataW H) → Bool := fun _ ds => decide (uptoBulkAll ds ≤ 1048576)
def OpenSpec.upto (s : _root_.Go.ChangeSpec) : _root_.Go.OpenSpec := { _root_.Go.OpenSpec.ofChange s with cond := some uptoSmall }

/-- 'faultlinelaw23.ParseModels', WHERE WHAT IT READS IS OF BULK AT MOST 1048576: true; the input reads as it did. -/
def parseModelsUptoRow : OpenClaim := { program := "yteocnikcjjonbaagreat", sum := "6e34b59c8c7faf6bdfc24d786835aec04be56ad8a2208091fb46ca934a79c36f", func := "faultline/faultlinelaw23.ParseModels", spec := "parseModels", inPlace := ["internal/bytealg.IndexByteString", "internal/bytealg.IndexString"], unfollowed := true, recurses := true, named := ["internal/bytealg.MaxLen"], plainKeys := false, apart := false, narrowed := true }
def ParseModelsUptoSaid : Prop := parseModelsUptoRow.holds Tryz.pinned (OpenSpec.upto parseModelsSpec)

/-- 'faultlinelaw23.ParseAccepts', WHERE WHAT IT READS IS OF BULK AT MOST 1048576: true; the input reads as it did. -/
def parseAcceptsUptoRow : OpenClaim := { program := "yteocnikcjjonbaagreat", sum := "6e34b59c8c7faf6bdfc24d786835aec04be56ad8a2208091fb46ca934a79c36f", func := "faultline/faultlinelaw23.ParseAccepts", spec := "parseAccepts", inPlace := ["internal/bytealg.IndexByteString", "internal/bytealg.IndexString"], unfollowed := true, recurses := true, named := ["internal/bytealg.MaxLen"], plainKeys := false, apart := false, narrowed := true }
def ParseAcceptsUptoSaid : Prop := parseAcceptsUptoRow.holds Tryz.pinned (OpenSpec.upto parseAcceptsSpec)

/-- 'faultlinelaw23.ParseSpaces', WHERE WHAT IT READS IS OF BULK AT MOST 1048576: true; the input reads as it did. -/
def parseSpacesUptoRow : OpenClaim := { program := "yteocnikcjjonbaagreat", sum := "6e34b59c8c7faf6bdfc24d786835aec04be56ad8a2208091fb46ca934a79c36f", func := "faultline/faultlinelaw23.ParseSpaces", spec := "parseSpaces", inPlace := ["internal/bytealg.IndexByteString", "internal/bytealg.IndexString"], unfollowed := true, recurses := true, named := ["internal/bytealg.MaxLen"], plainKeys := false, apart := false, narrowed := true }
def ParseSpacesUptoSaid : Prop := parseSpacesUptoRow.holds Tryz.pinned (OpenSpec.upto parseSpacesSpec)

/-- 'faultlinelaw23.ParseCut', WHERE WHAT IT READS IS OF BULK AT MOST 1048576: true; the input reads as it did. -/
def parseCutUptoRow : OpenClaim := { program := "yteocnikcjjonbaagreat", sum := "6e34b59c8c7faf6bdfc24d786835aec04be56ad8a2208091fb46ca934a79c36f", func := "faultline/faultlinelaw23.ParseCut", spec := "parseCut", inPlace := ["internal/bytealg.IndexByteString", "internal/bytealg.IndexString"], unfollowed := true, recurses := true, named := ["internal/bytealg.MaxLen"], plainKeys := false, apart := false, narrowed := true }
def ParseCutUptoSaid : Prop := parseCutUptoRow.holds Tryz.pinned (OpenSpec.upto parseCutSpec)

/-- 'faultlinelaw23.ParseOrder', WHERE WHAT IT READS IS OF BULK AT MOST 1048576: true; the input reads as it did. -/
def parseOrderUptoRow : OpenClaim := { program := "yteocnikcjjonbaagreat", sum := "6e34b59c8c7faf6bdfc24d786835aec04be56ad8a2208091fb46ca934a79c36f", func := "faultline/faultlinelaw23.ParseOrder", spec := "parseOrder", inPlace := ["internal/bytealg.IndexByteString", "internal/bytealg.IndexString"], unfollowed := true, recurses := true, named := ["internal/bytealg.MaxLen"], plainKeys := false, apart := false, narrowed := true }
def ParseOrderUptoSaid : Prop := parseOrderUptoRow.holds Tryz.pinned (OpenSpec.upto parseOrderSpec)

/-- 'faultlinelaw23.ParseGates', WHERE WHAT IT READS IS OF BULK AT MOST 1048576: true; the input reads as it did. -/
def parseGatesUptoRow : OpenClaim := { program := "yteocnikcjjonbaagreat", sum := "6e34b59c8c7faf6bdfc24d786835aec04be56ad8a2208091fb46ca934a79c36f", func := "faultline/faultlinelaw23.ParseGates", spec := "parseGates", inPlace := ["internal/bytealg.IndexByteString", "internal/bytealg.IndexString"], unfollowed := true, recurses := true, named := ["internal/bytealg.MaxLen"], plainKeys := false, apart := false, narrowed := true }
def ParseGatesUptoSaid : Prop := parseGatesUptoRow.holds Tryz.pinned (OpenSpec.upto parseGatesSpec)

end Rows
end Go.Proofs.YteocnikcjjonbaaGreat
