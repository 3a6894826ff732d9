/-
  No cell of these rows narrows 'for every input' (looked for: loops, veiled, ifaces, maps, wideKeys, modest, calm, conditions, laid).
  DERIVED. THE GIVEN ROWS OF THIS SEAT. 11 by the template 'for every input the law returns true; each argument reads behind the call as it read before'; 0 by the template 'total and deterministic' (their statements: YtlpejaefobdajaaGreatTotals.lean).
  GIVEN WITH THE SEED: the statements are not yours to turn. If you find one false, say at which input.
  Laid BY PROGRAM, IN A SANDBOX (cutbox-rows.mjs): the forced cells as the released guide's own fill.sh prints them over the translation 42690376cdd66903… (all of the seat's roots in one cut). By AI agents, Wed Nov 11 2026. No macro, syntax, notation, axiom, sorry.
-/
import Derived.Test.YtlpejaefobdajaaGreatChecked
import GoSem.Claim
import GoSem.ClaimJoined
import GoSem.ClaimMapViews
import Derived.JoinedTies
import Derived.KernelRfl
namespace Go.Proofs.YtlpejaefobdajaaGreat
/- THE CELL 'sum', in the pinned program and in every row, IS THE sha256 OF THE DUMP (.gsa) THAT YtlpejaefobdajaaGreatProg.lean LOADS. Nothing in Lean hashes anything: it is a label: what it is worth is what the hold of that sum in a sandbox is worth. -/
noncomputable def Tryz.pinned : Pinned := { name := "ytlpejaefobdajaagreat", sum := "42690376cdd66903c9cb7e07df1f93cf11454db6dcd7e756cd69371bb8c0c133", checked := Tryz.checked }
namespace Rows
def none {H : Type} : Left H := { results := [], args := [] }

/-- 'faultlinelaw42.BirnbaumJoint': WHATEVER THE INPUT: true; the input reads as it did. -/
def birnbaumJointSpec : ChangeSpec := { name := "birnbaumJoint", fn := fun _ => fun
  | [d1, d2, d3] => { results := [.lit (.bool true)], args := [d1, d2, d3] }
  | _ => none }
def birnbaumJointRow : OpenClaim := { program := "ytlpejaefobdajaagreat", sum := "42690376cdd66903c9cb7e07df1f93cf11454db6dcd7e756cd69371bb8c0c133", func := "faultline/faultlinelaw42.BirnbaumJoint", spec := "birnbaumJoint", unfollowed := true, recurses := true, plainKeys := false, apart := false }
def BirnbaumJointSaid : Prop := birnbaumJointRow.holds Tryz.pinned (OpenSpec.ofChange birnbaumJointSpec)

/-- ITS FALSE NEIGHBOUR: 'it returns false'. Refute it at one input. -/
def birnbaumJointWrong : ChangeSpec := { name := "birnbaumJoint", fn := fun _ => fun
  | [d1, d2, d3] => { results := [.lit (.bool false)], args := [d1, d2, d3] }
  | _ => none }
def BirnbaumJointWrongFalsely : Prop := birnbaumJointRow.holds Tryz.pinned (OpenSpec.ofChange birnbaumJointWrong)

/-- 'faultlinelaw42.BirnbaumOwn': WHATEVER THE INPUT: true; the input reads as it did. -/
def birnbaumOwnSpec : ChangeSpec := { name := "birnbaumOwn", fn := fun _ => fun
  | [d1, d2, d3] => { results := [.lit (.bool true)], args := [d1, d2, d3] }
  | _ => none }
def birnbaumOwnRow : OpenClaim := { program := "ytlpejaefobdajaagreat", sum := "42690376cdd66903c9cb7e07df1f93cf11454db6dcd7e756cd69371bb8c0c133", func := "faultline/faultlinelaw42.BirnbaumOwn", spec := "birnbaumOwn", unfollowed := true, recurses := true, plainKeys := false, apart := false }
def BirnbaumOwnSaid : Prop := birnbaumOwnRow.holds Tryz.pinned (OpenSpec.ofChange birnbaumOwnSpec)

/-- ITS FALSE NEIGHBOUR: 'it returns false'. Refute it at one input. -/
def birnbaumOwnWrong : ChangeSpec := { name := "birnbaumOwn", fn := fun _ => fun
  | [d1, d2, d3] => { results := [.lit (.bool false)], args := [d1, d2, d3] }
  | _ => none }
def BirnbaumOwnWrongFalsely : Prop := birnbaumOwnRow.holds Tryz.pinned (OpenSpec.ofChange birnbaumOwnWrong)

/-- 'faultlinelaw42.BirnbaumDerives': WHATEVER THE INPUT: true; the input reads as it did. -/
def birnbaumDerivesSpec : ChangeSpec := { name := "birnbaumDerives", fn := fun _ => fun
  | [d1, d2, d3] => { results := [.lit (.bool true)], args := [d1, d2, d3] }
  | _ => none }
def birnbaumDerivesRow : OpenClaim := { program := "ytlpejaefobdajaagreat", sum := "42690376cdd66903c9cb7e07df1f93cf11454db6dcd7e756cd69371bb8c0c133", func := "faultline/faultlinelaw42.BirnbaumDerives", spec := "birnbaumDerives", unfollowed := true, recurses := true, plainKeys := false, apart := false }
def BirnbaumDerivesSaid : Prop := birnbaumDerivesRow.holds Tryz.pinned (OpenSpec.ofChange birnbaumDerivesSpec)

/-- ITS FALSE NEIGHBOUR: 'it returns false'. Refute it at one input. -/
def birnbaumDerivesWrong : ChangeSpec := { name := "birnbaumDerives", fn := fun _ => fun
  | [d1, d2, d3] => { results := [.lit (.bool false)], args := [d1, d2, d3] }
  | _ => none }
def BirnbaumDerivesWrongFalsely : Prop := birnbaumDerivesRow.holds Tryz.pinned (OpenSpec.ofChange birnbaumDerivesWrong)

/-- 'faultlinelaw42.BirnbaumChanges': WHATEVER THE INPUT: true; the input reads as it did. -/
def birnbaumChangesSpec : ChangeSpec := { name := "birnbaumChanges", fn := fun _ => fun
  | [d1, d2, d3] => { results := [.lit (.bool true)], args := [d1, d2, d3] }
  | _ => none }
def birnbaumChangesRow : OpenClaim := { program := "ytlpejaefobdajaagreat", sum := "42690376cdd66903c9cb7e07df1f93cf11454db6dcd7e756cd69371bb8c0c133", func := "faultline/faultlinelaw42.BirnbaumChanges", spec := "birnbaumChanges", unfollowed := true, recurses := true, plainKeys := false, apart := false }
def BirnbaumChangesSaid : Prop := birnbaumChangesRow.holds Tryz.pinned (OpenSpec.ofChange birnbaumChangesSpec)

/-- ITS FALSE NEIGHBOUR: 'it returns false'. Refute it at one input. -/
def birnbaumChangesWrong : ChangeSpec := { name := "birnbaumChanges", fn := fun _ => fun
  | [d1, d2, d3] => { results := [.lit (.bool false)], args := [d1, d2, d3] }
  | _ => none }
def BirnbaumChangesWrongFalsely : Prop := birnbaumChangesRow.holds Tryz.pinned (OpenSpec.ofChange birnbaumChangesWrong)

/-- 'faultlinelaw37.ShannonAdds': WHATEVER THE INPUT: true; the input reads as it did. -/
def shannonAddsSpec : ChangeSpec := { name := "shannonAdds", fn := fun _ => fun
  | [d1, d2, d3] => { results := [.lit (.bool true)], args := [d1, d2, d3] }
  | _ => none }
def shannonAddsRow : OpenClaim := { program := "ytlpejaefobdajaagreat", sum := "42690376cdd66903c9cb7e07df1f93cf11454db6dcd7e756cd69371bb8c0c133", func := "faultline/faultlinelaw37.ShannonAdds", spec := "shannonAdds", unfollowed := true, recurses := true, plainKeys := false, apart := false }
def ShannonAddsSaid : Prop := shannonAddsRow.holds Tryz.pinned (OpenSpec.ofChange shannonAddsSpec)

/-- ITS FALSE NEIGHBOUR: 'it returns false'. Refute it at one input. -/
def shannonAddsWrong : ChangeSpec := { name := "shannonAdds", fn := fun _ => fun
  | [d1, d2, d3] => { results := [.lit (.bool false)], args := [d1, d2, d3] }
  | _ => none }
def ShannonAddsWrongFalsely : Prop := shannonAddsRow.holds Tryz.pinned (OpenSpec.ofChange shannonAddsWrong)

/-- 'faultlinelaw42.BirnbaumComputes': WHATEVER THE INPUT: true; the input reads as it did. -/
def birnbaumComputesSpec : ChangeSpec := { name := "birnbaumComputes", fn := fun _ => fun
  | [d1, d2] => { results := [.lit (.bool true)], args := [d1, d2] }
  | _ => none }
def birnbaumComputesRow : OpenClaim := { program := "ytlpejaefobdajaagreat", sum := "42690376cdd66903c9cb7e07df1f93cf11454db6dcd7e756cd69371bb8c0c133", func := "faultline/faultlinelaw42.BirnbaumComputes", spec := "birnbaumComputes", unfollowed := true, recurses := true, plainKeys := false, apart := false }
def BirnbaumComputesSaid : Prop := birnbaumComputesRow.holds Tryz.pinned (OpenSpec.ofChange birnbaumComputesSpec)

/-- ITS FALSE NEIGHBOUR: 'it returns false'. Refute it at one input. -/
def birnbaumComputesWrong : ChangeSpec := { name := "birnbaumComputes", fn := fun _ => fun
  | [d1, d2] => { results := [.lit (.bool false)], args := [d1, d2] }
  | _ => none }
def BirnbaumComputesWrongFalsely : Prop := birnbaumComputesRow.holds Tryz.pinned (OpenSpec.ofChange birnbaumComputesWrong)

/-- 'faultlinelaw37.ShannonOrders': WHATEVER THE INPUT: true; the input reads as it did. -/
def shannonOrdersSpec : ChangeSpec := { name := "shannonOrders", fn := fun _ => fun
  | [d1, d2, d3] => { results := [.lit (.bool true)], args := [d1, d2, d3] }
  | _ => none }
def shannonOrdersRow : OpenClaim := { program := "ytlpejaefobdajaagreat", sum := "42690376cdd66903c9cb7e07df1f93cf11454db6dcd7e756cd69371bb8c0c133", func := "faultline/faultlinelaw37.ShannonOrders", spec := "shannonOrders", unfollowed := true, recurses := true, plainKeys := false, apart := false }
def ShannonOrdersSaid : Prop := shannonOrdersRow.holds Tryz.pinned (OpenSpec.ofChange shannonOrdersSpec)

/-- ITS FALSE NEIGHBOUR: 'it returns false'. Refute it at one input. -/
def shannonOrdersWrong : ChangeSpec := { name := "shannonOrders", fn := fun _ => fun
  | [d1, d2, d3] => { results := [.lit (.bool false)], args := [d1, d2, d3] }
  | _ => none }
def ShannonOrdersWrongFalsely : Prop := shannonOrdersRow.holds Tryz.pinned (OpenSpec.ofChange shannonOrdersWrong)

/-- 'faultlinelaw42.BirnbaumCounts': WHATEVER THE INPUT: true; the input reads as it did. -/
def birnbaumCountsSpec : ChangeSpec := { name := "birnbaumCounts", fn := fun _ => fun
  | [d1, d2] => { results := [.lit (.bool true)], args := [d1, d2] }
  | _ => none }
def birnbaumCountsRow : OpenClaim := { program := "ytlpejaefobdajaagreat", sum := "42690376cdd66903c9cb7e07df1f93cf11454db6dcd7e756cd69371bb8c0c133", func := "faultline/faultlinelaw42.BirnbaumCounts", spec := "birnbaumCounts", unfollowed := true, recurses := true, plainKeys := false, apart := false }
def BirnbaumCountsSaid : Prop := birnbaumCountsRow.holds Tryz.pinned (OpenSpec.ofChange birnbaumCountsSpec)

/-- ITS FALSE NEIGHBOUR: 'it returns false'. Refute it at one input. -/
def birnbaumCountsWrong : ChangeSpec := { name := "birnbaumCounts", fn := fun _ => fun
  | [d1, d2] => { results := [.lit (.bool false)], args := [d1, d2] }
  | _ => none }
def BirnbaumCountsWrongFalsely : Prop := birnbaumCountsRow.holds Tryz.pinned (OpenSpec.ofChange birnbaumCountsWrong)

/-- 'faultlinelaw42.BirnbaumSigns': WHATEVER THE INPUT: true; the input reads as it did. -/
def birnbaumSignsSpec : ChangeSpec := { name := "birnbaumSigns", fn := fun _ => fun
  | [d1, d2] => { results := [.lit (.bool true)], args := [d1, d2] }
  | _ => none }
def birnbaumSignsRow : OpenClaim := { program := "ytlpejaefobdajaagreat", sum := "42690376cdd66903c9cb7e07df1f93cf11454db6dcd7e756cd69371bb8c0c133", func := "faultline/faultlinelaw42.BirnbaumSigns", spec := "birnbaumSigns", unfollowed := true, recurses := true, plainKeys := false, apart := false }
def BirnbaumSignsSaid : Prop := birnbaumSignsRow.holds Tryz.pinned (OpenSpec.ofChange birnbaumSignsSpec)

/-- ITS FALSE NEIGHBOUR: 'it returns false'. Refute it at one input. -/
def birnbaumSignsWrong : ChangeSpec := { name := "birnbaumSigns", fn := fun _ => fun
  | [d1, d2] => { results := [.lit (.bool false)], args := [d1, d2] }
  | _ => none }
def BirnbaumSignsWrongFalsely : Prop := birnbaumSignsRow.holds Tryz.pinned (OpenSpec.ofChange birnbaumSignsWrong)

/-- 'faultlinelaw37.ShannonTop': WHATEVER THE INPUT: true; the input reads as it did. -/
def shannonTopSpec : ChangeSpec := { name := "shannonTop", fn := fun _ => fun
  | [d1, d2] => { results := [.lit (.bool true)], args := [d1, d2] }
  | _ => none }
def shannonTopRow : OpenClaim := { program := "ytlpejaefobdajaagreat", sum := "42690376cdd66903c9cb7e07df1f93cf11454db6dcd7e756cd69371bb8c0c133", func := "faultline/faultlinelaw37.ShannonTop", spec := "shannonTop", unfollowed := true, recurses := true, plainKeys := false, apart := false }
def ShannonTopSaid : Prop := shannonTopRow.holds Tryz.pinned (OpenSpec.ofChange shannonTopSpec)

/-- ITS FALSE NEIGHBOUR: 'it returns false'. Refute it at one input. -/
def shannonTopWrong : ChangeSpec := { name := "shannonTop", fn := fun _ => fun
  | [d1, d2] => { results := [.lit (.bool false)], args := [d1, d2] }
  | _ => none }
def ShannonTopWrongFalsely : Prop := shannonTopRow.holds Tryz.pinned (OpenSpec.ofChange shannonTopWrong)

/-- 'faultlinelaw37.ShannonRises': WHATEVER THE INPUT: true; the input reads as it did. -/
def shannonRisesSpec : ChangeSpec := { name := "shannonRises", fn := fun _ => fun
  | [d1, d2, d3] => { results := [.lit (.bool true)], args := [d1, d2, d3] }
  | _ => none }
def shannonRisesRow : OpenClaim := { program := "ytlpejaefobdajaagreat", sum := "42690376cdd66903c9cb7e07df1f93cf11454db6dcd7e756cd69371bb8c0c133", func := "faultline/faultlinelaw37.ShannonRises", spec := "shannonRises", unfollowed := true, recurses := true, plainKeys := false, apart := false }
def ShannonRisesSaid : Prop := shannonRisesRow.holds Tryz.pinned (OpenSpec.ofChange shannonRisesSpec)

/-- ITS FALSE NEIGHBOUR: 'it returns false'. Refute it at one input. -/
def shannonRisesWrong : ChangeSpec := { name := "shannonRises", fn := fun _ => fun
  | [d1, d2, d3] => { results := [.lit (.bool false)], args := [d1, d2, d3] }
  | _ => none }
def ShannonRisesWrongFalsely : Prop := shannonRisesRow.holds Tryz.pinned (OpenSpec.ofChange shannonRisesWrong)

/- THE SECOND FORM. 'bulk': how many values and letters a reading holds, each counted each time it is reached (what is shared counts as often as it is met; a slice's spare places count too). A statement '..UptoSaid' is the law's where the arguments, and the package variables that the reading takes, are together of bulk at most 1048576: NARROWER than '..Said'. Prove '..Said' where nothing that the law and all that it calls make is longer than what came in: it says more and counts as full. Else prove '..UptoSaid'. A law counts once. -/
mutual
def uptoBulk {H : Type} : DataW H → Nat
  | .lit (.string bytes) => bytes.length + 1
  | .lit _ => 1
  | .nil => 1
  | .ptr d => uptoBulk d + 1
  | .slice elems spare => uptoBulkAll elems + uptoBulkAll spare + 1
  | .agg parts => uptoBulkAll parts + 1
  | .iface _ d => uptoBulk d + 1
  | .map entries => uptoBulkEntries entries + 1
  | .held _ => 1
def uptoBulkAll {H : Type} : List (DataW H) → Nat
  | [] => 0
  | d :: r => uptoBulk d + uptoBulkAll r
def uptoBulkEntries {H : Type} : List (Lit × DataW H) → Nat
  | [] => 0
  | x :: r => uptoBulkEntry x + uptoBulkEntries r
def uptoBulkEntry {H : Type} : Lit × DataW H → Nat
  | (.string bytes, d) => bytes.length + uptoBulk d + 1
  | (_, d) => uptoBulk d + 1
 end
def uptoSmall : (H : Type) → List (DataW H) → Bool := fun _ ds => decide (uptoBulkAll ds ≤ 1048576)
def OpenSpec.upto (s : _root_.Go.ChangeSpec) : _root_.Go.OpenSpec := { _root_.Go.OpenSpec.ofChange s with cond := some uptoSmall }

/-- 'faultlinelaw42.BirnbaumJoint', WHERE WHAT IT READS IS OF BULK AT MOST 1048576: true; the input reads as it did. -/
def birnbaumJointUptoRow : OpenClaim := { program := "ytlpejaefobdajaagreat", sum := "42690376cdd66903c9cb7e07df1f93cf11454db6dcd7e756cd69371bb8c0c133", func := "faultline/faultlinelaw42.BirnbaumJoint", spec := "birnbaumJoint", unfollowed := true, recurses := true, plainKeys := false, apart := false, narrowed := true }
def BirnbaumJointUptoSaid : Prop := birnbaumJointUptoRow.holds Tryz.pinned (OpenSpec.upto birnbaumJointSpec)

/-- 'faultlinelaw42.BirnbaumOwn', WHERE WHAT IT READS IS OF BULK AT MOST 1048576: true; the input reads as it did. -/
def birnbaumOwnUptoRow : OpenClaim := { program := "ytlpejaefobdajaagreat", sum := "42690376cdd66903c9cb7e07df1f93cf11454db6dcd7e756cd69371bb8c0c133", func := "faultline/faultlinelaw42.BirnbaumOwn", spec := "birnbaumOwn", unfollowed := true, recurses := true, plainKeys := false, apart := false, narrowed := true }
def BirnbaumOwnUptoSaid : Prop := birnbaumOwnUptoRow.holds Tryz.pinned (OpenSpec.upto birnbaumOwnSpec)

/-- 'faultlinelaw42.BirnbaumDerives', WHERE WHAT IT READS IS OF BULK AT MOST 1048576: true; the input reads as it did. -/
def birnbaumDerivesUptoRow : OpenClaim := { program := "ytlpejaefobdajaagreat", sum := "42690376cdd66903c9cb7e07df1f93cf11454db6dcd7e756cd69371bb8c0c133", func := "faultline/faultlinelaw42.BirnbaumDerives", spec := "birnbaumDerives", unfollowed := true, recurses := true, plainKeys := false, apart := false, narrowed := true }
def BirnbaumDerivesUptoSaid : Prop := birnbaumDerivesUptoRow.holds Tryz.pinned (OpenSpec.upto birnbaumDerivesSpec)

/-- 'faultlinelaw42.BirnbaumChanges', WHERE WHAT IT READS IS OF BULK AT MOST 1048576: true; the input reads as it did. -/
def birnbaumChangesUptoRow : OpenClaim := { program := "ytlpejaefobdajaagreat", sum := "42690376cdd66903c9cb7e07df1f93cf11454db6dcd7e756cd69371bb8c0c133", func := "faultline/faultlinelaw42.BirnbaumChanges", spec := "birnbaumChanges", unfollowed := true, recurses := true, plainKeys := false, apart := false, narrowed := true }
def BirnbaumChangesUptoSaid : Prop := birnbaumChangesUptoRow.holds Tryz.pinned (OpenSpec.upto birnbaumChangesSpec)

/-- 'faultlinelaw37.ShannonAdds', WHERE WHAT IT READS IS OF BULK AT MOST 1048576: true; the input reads as it did. -/
def shannonAddsUptoRow : OpenClaim := { program := "ytlpejaefobdajaagreat", sum := "42690376cdd66903c9cb7e07df1f93cf11454db6dcd7e756cd69371bb8c0c133", func := "faultline/faultlinelaw37.ShannonAdds", spec := "shannonAdds", unfollowed := true, recurses := true, plainKeys := false, apart := false, narrowed := true }
def ShannonAddsUptoSaid : Prop := shannonAddsUptoRow.holds Tryz.pinned (OpenSpec.upto shannonAddsSpec)

/-- 'faultlinelaw42.BirnbaumComputes', WHERE WHAT IT READS IS OF BULK AT MOST 1048576: true; the input reads as it did. -/
def birnbaumComputesUptoRow : OpenClaim := { program := "ytlpejaefobdajaagreat", sum := "42690376cdd66903c9cb7e07df1f93cf11454db6dcd7e756cd69371bb8c0c133", func := "faultline/faultlinelaw42.BirnbaumComputes", spec := "birnbaumComputes", unfollowed := true, recurses := true, plainKeys := false, apart := false, narrowed := true }
def BirnbaumComputesUptoSaid : Prop := birnbaumComputesUptoRow.holds Tryz.pinned (OpenSpec.upto birnbaumComputesSpec)

/-- 'faultlinelaw37.ShannonOrders', WHERE WHAT IT READS IS OF BULK AT MOST 1048576: true; the input reads as it did. -/
def shannonOrdersUptoRow : OpenClaim := { program := "ytlpejaefobdajaagreat", sum := "42690376cdd66903c9cb7e07df1f93cf11454db6dcd7e756cd69371bb8c0c133", func := "faultline/faultlinelaw37.ShannonOrders", spec := "shannonOrders", unfollowed := true, recurses := true, plainKeys := false, apart := false, narrowed := true }
def ShannonOrdersUptoSaid : Prop := shannonOrdersUptoRow.holds Tryz.pinned (OpenSpec.upto shannonOrdersSpec)

/-- 'faultlinelaw42.BirnbaumCounts', WHERE WHAT IT READS IS OF BULK AT MOST 1048576: true; the input reads as it did. -/
def birnbaumCountsUptoRow : OpenClaim := { program := "ytlpejaefobdajaagreat", sum := "42690376cdd66903c9cb7e07df1f93cf11454db6dcd7e756cd69371bb8c0c133", func := "faultline/faultlinelaw42.BirnbaumCounts", spec := "birnbaumCounts", unfollowed := true, recurses := true, plainKeys := false, apart := false, narrowed := true }
def BirnbaumCountsUptoSaid : Prop := birnbaumCountsUptoRow.holds Tryz.pinned (OpenSpec.upto birnbaumCountsSpec)

/-- 'faultlinelaw42.BirnbaumSigns', WHERE WHAT IT READS IS OF BULK AT MOST 1048576: true; the input reads as it did. -/
def birnbaumSignsUptoRow : OpenClaim := { program := "ytlpejaefobdajaagreat", sum := "42690376cdd66903c9cb7e07df1f93cf11454db6dcd7e756cd69371bb8c0c133", func := "faultline/faultlinelaw42.BirnbaumSigns", spec := "birnbaumSigns", unfollowed := true, recurses := true, plainKeys := false, apart := false, narrowed := true }
def BirnbaumSignsUptoSaid : Prop := birnbaumSignsUptoRow.holds Tryz.pinned (OpenSpec.upto birnbaumSignsSpec)

/-- 'faultlinelaw37.ShannonTop', WHERE WHAT IT READS IS OF BULK AT MOST 1048576: true; the input reads as it did. -/
def shannonTopUptoRow : OpenClaim := { program := "ytlpejaefobdajaagreat", sum := "42690376cdd66903c9cb7e07df1f93cf11454db6dcd7e756cd69371bb8c0c133", func := "faultline/faultlinelaw37.ShannonTop", spec := "shannonTop", unfollowed := true, recurses := true, plainKeys := false, apart := false, narrowed := true }
def ShannonTopUptoSaid : Prop := shannonTopUptoRow.holds Tryz.pinned (OpenSpec.upto shannonTopSpec)

/-- 'faultlinelaw37.ShannonRises', WHERE WHAT IT READS IS OF BULK AT MOST 1048576: true; the input reads as it did. -/
def shannonRisesUptoRow : OpenClaim := { program := "ytlpejaefobdajaagreat", sum := "42690376cdd66903c9cb7e07df1f93cf11454db6dcd7e756cd69371bb8c0c133", func := "faultline/faultlinelaw37.ShannonRises", spec := "shannonRises", unfollowed := true, recurses := true, plainKeys := false, apart := false, narrowed := true }
def ShannonRisesUptoSaid : Prop := shannonRisesUptoRow.holds Tryz.pinned (OpenSpec.upto shannonRisesSpec)

end Rows
end Go.Proofs.YtlpejaefobdajaaGreat
