/-
  No cell of these rows narrows 'for every input' (looked for: loops, veiled, ifaces, maps, wideKeys, modest, calm, conditions, laid).
  DERIVED. THE GIVEN ROWS OF THIS SEAT. 7 by the template 'for every input the law returns true; each argument reads behind the call as it read before'; 0 by the template 'total and deterministic' (their statements: YtfcnbgmclfkfcaaGreatTotals.lean).
  GIVEN WITH THE SEED: the statements are not yours to turn. If you find one false, say at which input.
  Laid BY PROGRAM, IN A SANDBOX (cutbox-rows.mjs): the forced cells as the released guide's own fill.sh prints them over the translation 21db7d272f75233b… (all of the seat's roots in one cut). By AI agents, Wed Nov 11 2026. No macro, syntax, notation, axiom, sorry.
-/
import Derived.Test.YtfcnbgmclfkfcaaGreatChecked
import GoSem.Claim
import GoSem.ClaimJoined
import GoSem.ClaimMapViews
import Derived.JoinedTies
import Derived.KernelRfl
namespace Go.Proofs.YtfcnbgmclfkfcaaGreat
/- THE CELL 'sum', in the pinned program and in every row, IS THE sha256 OF THE DUMP (.gsa) THAT YtfcnbgmclfkfcaaGreatProg.lean LOADS. Nothing in Lean hashes anything: it is a label: what it is worth is what the hold of that sum in a sandbox is worth. -/
noncomputable def Tryz.pinned : Pinned := { name := "ytfcnbgmclfkfcaagreat", sum := "21db7d272f75233b225ec1639c9f14fea243e96f67e39fee5678d54456cc9b7c", checked := Tryz.checked }
namespace Rows
def none {H : Type} : Left H := { results := [], args := [] }

/-- 'faultlinelaw43.WorthReduces': WHATEVER THE INPUT: true; the input reads as it did. -/
def worthReducesSpec : ChangeSpec := { name := "worthReduces", fn := fun _ => fun
  | [d1, d2, d3] => { results := [.lit (.bool true)], args := [d1, d2, d3] }
  | _ => none }
def worthReducesRow : OpenClaim := { program := "ytfcnbgmclfkfcaagreat", sum := "21db7d272f75233b225ec1639c9f14fea243e96f67e39fee5678d54456cc9b7c", func := "faultline/faultlinelaw43.WorthReduces", spec := "worthReduces", unfollowed := true, recurses := true, plainKeys := false, apart := false }
def WorthReducesSaid : Prop := worthReducesRow.holds Tryz.pinned (OpenSpec.ofChange worthReducesSpec)

/-- ITS FALSE NEIGHBOUR: 'it returns false'. Refute it at one input. -/
def worthReducesWrong : ChangeSpec := { name := "worthReduces", fn := fun _ => fun
  | [d1, d2, d3] => { results := [.lit (.bool false)], args := [d1, d2, d3] }
  | _ => none }
def WorthReducesWrongFalsely : Prop := worthReducesRow.holds Tryz.pinned (OpenSpec.ofChange worthReducesWrong)

/-- 'faultlinelaw43.WorthComputes': WHATEVER THE INPUT: true; the input reads as it did. -/
def worthComputesSpec : ChangeSpec := { name := "worthComputes", fn := fun _ => fun
  | [d1, d2] => { results := [.lit (.bool true)], args := [d1, d2] }
  | _ => none }
def worthComputesRow : OpenClaim := { program := "ytfcnbgmclfkfcaagreat", sum := "21db7d272f75233b225ec1639c9f14fea243e96f67e39fee5678d54456cc9b7c", func := "faultline/faultlinelaw43.WorthComputes", spec := "worthComputes", unfollowed := true, recurses := true, plainKeys := false, apart := false }
def WorthComputesSaid : Prop := worthComputesRow.holds Tryz.pinned (OpenSpec.ofChange worthComputesSpec)

/-- ITS FALSE NEIGHBOUR: 'it returns false'. Refute it at one input. -/
def worthComputesWrong : ChangeSpec := { name := "worthComputes", fn := fun _ => fun
  | [d1, d2] => { results := [.lit (.bool false)], args := [d1, d2] }
  | _ => none }
def WorthComputesWrongFalsely : Prop := worthComputesRow.holds Tryz.pinned (OpenSpec.ofChange worthComputesWrong)

/-- 'faultlinelaw43.WorthOrders': WHATEVER THE INPUT: true; the input reads as it did. -/
def worthOrdersSpec : ChangeSpec := { name := "worthOrders", fn := fun _ => fun
  | [d1, d2] => { results := [.lit (.bool true)], args := [d1, d2] }
  | _ => none }
def worthOrdersRow : OpenClaim := { program := "ytfcnbgmclfkfcaagreat", sum := "21db7d272f75233b225ec1639c9f14fea243e96f67e39fee5678d54456cc9b7c", func := "faultline/faultlinelaw43.WorthOrders", spec := "worthOrders", unfollowed := true, recurses := true, plainKeys := false, apart := false }
def WorthOrdersSaid : Prop := worthOrdersRow.holds Tryz.pinned (OpenSpec.ofChange worthOrdersSpec)

/-- ITS FALSE NEIGHBOUR: 'it returns false'. Refute it at one input. -/
def worthOrdersWrong : ChangeSpec := { name := "worthOrders", fn := fun _ => fun
  | [d1, d2] => { results := [.lit (.bool false)], args := [d1, d2] }
  | _ => none }
def WorthOrdersWrongFalsely : Prop := worthOrdersRow.holds Tryz.pinned (OpenSpec.ofChange worthOrdersWrong)

/-- 'faultlinelaw43.WorthIdentities': WHATEVER THE INPUT: true; the input reads as it did. -/
def worthIdentitiesSpec : ChangeSpec := { name := "worthIdentities", fn := fun _ => fun
  | [d1, d2, d3] => { results := [.lit (.bool true)], args := [d1, d2, d3] }
  | _ => none }
def worthIdentitiesRow : OpenClaim := { program := "ytfcnbgmclfkfcaagreat", sum := "21db7d272f75233b225ec1639c9f14fea243e96f67e39fee5678d54456cc9b7c", func := "faultline/faultlinelaw43.WorthIdentities", spec := "worthIdentities", unfollowed := true, recurses := true, plainKeys := false, apart := false }
def WorthIdentitiesSaid : Prop := worthIdentitiesRow.holds Tryz.pinned (OpenSpec.ofChange worthIdentitiesSpec)

/-- ITS FALSE NEIGHBOUR: 'it returns false'. Refute it at one input. -/
def worthIdentitiesWrong : ChangeSpec := { name := "worthIdentities", fn := fun _ => fun
  | [d1, d2, d3] => { results := [.lit (.bool false)], args := [d1, d2, d3] }
  | _ => none }
def WorthIdentitiesWrongFalsely : Prop := worthIdentitiesRow.holds Tryz.pinned (OpenSpec.ofChange worthIdentitiesWrong)

/-- 'faultlinelaw43.WorthIrrelevant': WHATEVER THE INPUT: true; the input reads as it did. -/
def worthIrrelevantSpec : ChangeSpec := { name := "worthIrrelevant", fn := fun _ => fun
  | [d1, d2, d3] => { results := [.lit (.bool true)], args := [d1, d2, d3] }
  | _ => none }
def worthIrrelevantRow : OpenClaim := { program := "ytfcnbgmclfkfcaagreat", sum := "21db7d272f75233b225ec1639c9f14fea243e96f67e39fee5678d54456cc9b7c", func := "faultline/faultlinelaw43.WorthIrrelevant", spec := "worthIrrelevant", unfollowed := true, recurses := true, plainKeys := false, apart := false }
def WorthIrrelevantSaid : Prop := worthIrrelevantRow.holds Tryz.pinned (OpenSpec.ofChange worthIrrelevantSpec)

/-- ITS FALSE NEIGHBOUR: 'it returns false'. Refute it at one input. -/
def worthIrrelevantWrong : ChangeSpec := { name := "worthIrrelevant", fn := fun _ => fun
  | [d1, d2, d3] => { results := [.lit (.bool false)], args := [d1, d2, d3] }
  | _ => none }
def WorthIrrelevantWrongFalsely : Prop := worthIrrelevantRow.holds Tryz.pinned (OpenSpec.ofChange worthIrrelevantWrong)

/-- 'faultlinelaw43.WorthRanks': WHATEVER THE INPUT: true; the input reads as it did. -/
def worthRanksSpec : ChangeSpec := { name := "worthRanks", fn := fun _ => fun
  | [d] => { results := [.lit (.bool true)], args := [d] }
  | _ => none }
def worthRanksRow : OpenClaim := { program := "ytfcnbgmclfkfcaagreat", sum := "21db7d272f75233b225ec1639c9f14fea243e96f67e39fee5678d54456cc9b7c", func := "faultline/faultlinelaw43.WorthRanks", spec := "worthRanks", unfollowed := true, recurses := true, plainKeys := false, apart := false }
def WorthRanksSaid : Prop := worthRanksRow.holds Tryz.pinned (OpenSpec.ofChange worthRanksSpec)

/-- ITS FALSE NEIGHBOUR: 'it returns false'. Refute it at one input. -/
def worthRanksWrong : ChangeSpec := { name := "worthRanks", fn := fun _ => fun
  | [d] => { results := [.lit (.bool false)], args := [d] }
  | _ => none }
def WorthRanksWrongFalsely : Prop := worthRanksRow.holds Tryz.pinned (OpenSpec.ofChange worthRanksWrong)

/-- 'faultlinelaw43.WorthSorts': WHATEVER THE INPUT: true; the input reads as it did. -/
def worthSortsSpec : ChangeSpec := { name := "worthSorts", fn := fun _ => fun
  | [d] => { results := [.lit (.bool true)], args := [d] }
  | _ => none }
def worthSortsRow : OpenClaim := { program := "ytfcnbgmclfkfcaagreat", sum := "21db7d272f75233b225ec1639c9f14fea243e96f67e39fee5678d54456cc9b7c", func := "faultline/faultlinelaw43.WorthSorts", spec := "worthSorts", unfollowed := true, recurses := true, plainKeys := false, apart := false }
def WorthSortsSaid : Prop := worthSortsRow.holds Tryz.pinned (OpenSpec.ofChange worthSortsSpec)

/-- ITS FALSE NEIGHBOUR: 'it returns false'. Refute it at one input. -/
def worthSortsWrong : ChangeSpec := { name := "worthSorts", fn := fun _ => fun
  | [d] => { results := [.lit (.bool false)], args := [d] }
  | _ => none }
def WorthSortsWrongFalsely : Prop := worthSortsRow.holds Tryz.pinned (OpenSpec.ofChange worthSortsWrong)

/- THE SECOND FORM. 'bulk': how many values and letters a reading holds, each counted each time it is reached (what is shared counts as often as it is met; a slice's spare places count too). A statement '..UptoSaid' is the law's where the arguments, and the package variables that the reading takes, are together of bulk at most 1048576: NARROWER than '..Said'. Prove '..Said' where nothing that the law and all that it calls make is longer than what came in: it says more and counts as full. Else prove '..UptoSaid'. A law counts once. -/
mutual
def uptoBulk {H : Type} : DataW H → Nat
  | .lit (.string bytes) => bytes.length + 1
  | .lit _ => 1
  | .nil => 1
  | .ptr d => uptoBulk d + 1
  | .slice elems spare => uptoBulkAll elems + uptoBulkAll spare + 1
  | .agg parts => uptoBulkAll parts + 1
  | .iface _ d => uptoBulk d + 1
  | .map entries => uptoBulkEntries entries + 1
  | .held _ => 1
def uptoBulkAll {H : Type} : List (DataW H) → Nat
  | [] => 0
  | d :: r => uptoBulk d + uptoBulkAll r
def uptoBulkEntries {H : Type} : List (Lit × DataW H) → Nat
  | [] => 0
  | x :: r => uptoBulkEntry x + uptoBulkEntries r
def uptoBulkEntry {H : Type} : Lit × DataW H → Nat
  | (.string bytes, d) => bytes.length + uptoBulk d + 1
  | (_, d) => uptoBulk d + 1
 end
def uptoSmall : (H : Type) → List (DataW H) → Bool := fun _ ds => decide (uptoBulkAll ds ≤ 1048576)
def OpenSpec.upto (s : _root_.Go.ChangeSpec) : _root_.Go.OpenSpec := { _root_.Go.OpenSpec.ofChange s with cond := some uptoSmall }

/-- 'faultlinelaw43.WorthReduces', WHERE WHAT IT READS IS OF BULK AT MOST 1048576: true; the input reads as it did. -/
def worthReducesUptoRow : OpenClaim := { program := "ytfcnbgmclfkfcaagreat", sum := "21db7d272f75233b225ec1639c9f14fea243e96f67e39fee5678d54456cc9b7c", func := "faultline/faultlinelaw43.WorthReduces", spec := "worthReduces", unfollowed := true, recurses := true, plainKeys := false, apart := false, narrowed := true }
def WorthReducesUptoSaid : Prop := worthReducesUptoRow.holds Tryz.pinned (OpenSpec.upto worthReducesSpec)

/-- 'faultlinelaw43.WorthComputes', WHERE WHAT IT READS IS OF BULK AT MOST 1048576: true; the input reads as it did. -/
def worthComputesUptoRow : OpenClaim := { program := "ytfcnbgmclfkfcaagreat", sum := "21db7d272f75233b225ec1639c9f14fea243e96f67e39fee5678d54456cc9b7c", func := "faultline/faultlinelaw43.WorthComputes", spec := "worthComputes", unfollowed := true, recurses := true, plainKeys := false, apart := false, narrowed := true }
def WorthComputesUptoSaid : Prop := worthComputesUptoRow.holds Tryz.pinned (OpenSpec.upto worthComputesSpec)

/-- 'faultlinelaw43.WorthOrders', WHERE WHAT IT READS IS OF BULK AT MOST 1048576: true; the input reads as it did. -/
def worthOrdersUptoRow : OpenClaim := { program := "ytfcnbgmclfkfcaagreat", sum := "21db7d272f75233b225ec1639c9f14fea243e96f67e39fee5678d54456cc9b7c", func := "faultline/faultlinelaw43.WorthOrders", spec := "worthOrders", unfollowed := true, recurses := true, plainKeys := false, apart := false, narrowed := true }
def WorthOrdersUptoSaid : Prop := worthOrdersUptoRow.holds Tryz.pinned (OpenSpec.upto worthOrdersSpec)

/-- 'faultlinelaw43.WorthIdentities', WHERE WHAT IT READS IS OF BULK AT MOST 1048576: true; the input reads as it did. -/
def worthIdentitiesUptoRow : OpenClaim := { program := "ytfcnbgmclfkfcaagreat", sum := "21db7d272f75233b225ec1639c9f14fea243e96f67e39fee5678d54456cc9b7c", func := "faultline/faultlinelaw43.WorthIdentities", spec := "worthIdentities", unfollowed := true, recurses := true, plainKeys := false, apart := false, narrowed := true }
def WorthIdentitiesUptoSaid : Prop := worthIdentitiesUptoRow.holds Tryz.pinned (OpenSpec.upto worthIdentitiesSpec)

/-- 'faultlinelaw43.WorthIrrelevant', WHERE WHAT IT READS IS OF BULK AT MOST 1048576: true; the input reads as it did. -/
def worthIrrelevantUptoRow : OpenClaim := { program := "ytfcnbgmclfkfcaagreat", sum := "21db7d272f75233b225ec1639c9f14fea243e96f67e39fee5678d54456cc9b7c", func := "faultline/faultlinelaw43.WorthIrrelevant", spec := "worthIrrelevant", unfollowed := true, recurses := true, plainKeys := false, apart := false, narrowed := true }
def WorthIrrelevantUptoSaid : Prop := worthIrrelevantUptoRow.holds Tryz.pinned (OpenSpec.upto worthIrrelevantSpec)

/-- 'faultlinelaw43.WorthRanks', WHERE WHAT IT READS IS OF BULK AT MOST 1048576: true; the input reads as it did. -/
def worthRanksUptoRow : OpenClaim := { program := "ytfcnbgmclfkfcaagreat", sum := "21db7d272f75233b225ec1639c9f14fea243e96f67e39fee5678d54456cc9b7c", func := "faultline/faultlinelaw43.WorthRanks", spec := "worthRanks", unfollowed := true, recurses := true, plainKeys := false, apart := false, narrowed := true }
def WorthRanksUptoSaid : Prop := worthRanksUptoRow.holds Tryz.pinned (OpenSpec.upto worthRanksSpec)

/-- 'faultlinelaw43.WorthSorts', WHERE WHAT IT READS IS OF BULK AT MOST 1048576: true; the input reads as it did. -/
def worthSortsUptoRow : OpenClaim := { program := "ytfcnbgmclfkfcaagreat", sum := "21db7d272f75233b225ec1639c9f14fea243e96f67e39fee5678d54456cc9b7c", func := "faultline/faultlinelaw43.WorthSorts", spec := "worthSorts", unfollowed := true, recurses := true, plainKeys := false, apart := false, narrowed := true }
def WorthSortsUptoSaid : Prop := worthSortsUptoRow.holds Tryz.pinned (OpenSpec.upto worthSortsSpec)

end Rows
end Go.Proofs.YtfcnbgmclfkfcaaGreat
