/-
  No cell of these rows narrows 'for every input' (looked for: loops, veiled, ifaces, maps, wideKeys, modest, calm, conditions, laid).
  DERIVED. THE GIVEN ROWS OF THIS SEAT. 7 by the template 'for every input the law returns true; each argument reads behind the call as it read before'; 0 by the template 'total and deterministic' (their statements: YtcoflhkcpnoaaaaGreatTotals.lean).
  GIVEN WITH THE SEED: the statements are not yours to turn. If you find one false, say at which input.
  Laid BY PROGRAM, IN A SANDBOX (cutbox-rows.mjs): the forced cells as the released guide's own fill.sh prints them over the translation 227c5af630ca52b7… (all of the seat's roots in one cut). By AI agents, Wed Nov 11 2026. No macro, syntax, notation, axiom, sorry.
-/
import Derived.Test.YtcoflhkcpnoaaaaGreatChecked
import GoSem.Claim
import GoSem.ClaimJoined
import GoSem.ClaimMapViews
import Derived.JoinedTies
import Derived.KernelRfl
namespace Go.Proofs.YtcoflhkcpnoaaaaGreat
/- THE CELL 'sum', in the pinned program and in every row, IS THE sha256 OF THE DUMP (.gsa) THAT YtcoflhkcpnoaaaaGreatProg.lean LOADS. Nothing in Lean hashes anything: it is a label: what it is worth is what the hold of that sum in a sandbox is worth. -/
noncomputable def Tryz.pinned : Pinned := { name := "ytcoflhkcpnoaaaagreat", sum := "227c5af630ca52b78d685b5b73152e38521638cff16c2b5b4cb055d486480431", checked := Tryz.checked }
namespace Rows
def none {H : Type} : Left H := { results := [], args := [] }

/-- 'faultlinelaw33.CutsSolves': WHATEVER THE INPUT: true; the input reads as it did. -/
def cutsSolvesSpec : ChangeSpec := { name := "cutsSolves", fn := fun _ => fun
  | [d] => { results := [.lit (.bool true)], args := [d] }
  | _ => none }
def cutsSolvesRow : OpenClaim := { program := "ytcoflhkcpnoaaaagreat", sum := "227c5af630ca52b78d685b5b73152e38521638cff16c2b5b4cb055d486480431", func := "faultline/faultlinelaw33.CutsSolves", spec := "cutsSolves", unfollowed := true, recurses := true, plainKeys := false, apart := false }
def CutsSolvesSaid : Prop := cutsSolvesRow.holds Tryz.pinned (OpenSpec.ofChange cutsSolvesSpec)

/-- ITS FALSE NEIGHBOUR: 'it returns false'. Refute it at one input. -/
def cutsSolvesWrong : ChangeSpec := { name := "cutsSolves", fn := fun _ => fun
  | [d] => { results := [.lit (.bool false)], args := [d] }
  | _ => none }
def CutsSolvesWrongFalsely : Prop := cutsSolvesRow.holds Tryz.pinned (OpenSpec.ofChange cutsSolvesWrong)

/-- 'faultlinelaw33.CutsOrders': WHATEVER THE INPUT: true; the input reads as it did. -/
def cutsOrdersSpec : ChangeSpec := { name := "cutsOrders", fn := fun _ => fun
  | [d1, d2, d3] => { results := [.lit (.bool true)], args := [d1, d2, d3] }
  | _ => none }
def cutsOrdersRow : OpenClaim := { program := "ytcoflhkcpnoaaaagreat", sum := "227c5af630ca52b78d685b5b73152e38521638cff16c2b5b4cb055d486480431", func := "faultline/faultlinelaw33.CutsOrders", spec := "cutsOrders", unfollowed := true, recurses := true, plainKeys := false, apart := false }
def CutsOrdersSaid : Prop := cutsOrdersRow.holds Tryz.pinned (OpenSpec.ofChange cutsOrdersSpec)

/-- ITS FALSE NEIGHBOUR: 'it returns false'. Refute it at one input. -/
def cutsOrdersWrong : ChangeSpec := { name := "cutsOrders", fn := fun _ => fun
  | [d1, d2, d3] => { results := [.lit (.bool false)], args := [d1, d2, d3] }
  | _ => none }
def CutsOrdersWrongFalsely : Prop := cutsOrdersRow.holds Tryz.pinned (OpenSpec.ofChange cutsOrdersWrong)

/-- 'faultlinelaw33.CutsFails': WHATEVER THE INPUT: true; the input reads as it did. -/
def cutsFailsSpec : ChangeSpec := { name := "cutsFails", fn := fun _ => fun
  | [d1, d2] => { results := [.lit (.bool true)], args := [d1, d2] }
  | _ => none }
def cutsFailsRow : OpenClaim := { program := "ytcoflhkcpnoaaaagreat", sum := "227c5af630ca52b78d685b5b73152e38521638cff16c2b5b4cb055d486480431", func := "faultline/faultlinelaw33.CutsFails", spec := "cutsFails", unfollowed := true, recurses := true, plainKeys := false, apart := false }
def CutsFailsSaid : Prop := cutsFailsRow.holds Tryz.pinned (OpenSpec.ofChange cutsFailsSpec)

/-- ITS FALSE NEIGHBOUR: 'it returns false'. Refute it at one input. -/
def cutsFailsWrong : ChangeSpec := { name := "cutsFails", fn := fun _ => fun
  | [d1, d2] => { results := [.lit (.bool false)], args := [d1, d2] }
  | _ => none }
def CutsFailsWrongFalsely : Prop := cutsFailsRow.holds Tryz.pinned (OpenSpec.ofChange cutsFailsWrong)

/-- 'faultlinelaw33.CutsLists': WHATEVER THE INPUT: true; the input reads as it did. -/
def cutsListsSpec : ChangeSpec := { name := "cutsLists", fn := fun _ => fun
  | [d1, d2, d3] => { results := [.lit (.bool true)], args := [d1, d2, d3] }
  | _ => none }
def cutsListsRow : OpenClaim := { program := "ytcoflhkcpnoaaaagreat", sum := "227c5af630ca52b78d685b5b73152e38521638cff16c2b5b4cb055d486480431", func := "faultline/faultlinelaw33.CutsLists", spec := "cutsLists", unfollowed := true, recurses := true, plainKeys := false, apart := false }
def CutsListsSaid : Prop := cutsListsRow.holds Tryz.pinned (OpenSpec.ofChange cutsListsSpec)

/-- ITS FALSE NEIGHBOUR: 'it returns false'. Refute it at one input. -/
def cutsListsWrong : ChangeSpec := { name := "cutsLists", fn := fun _ => fun
  | [d1, d2, d3] => { results := [.lit (.bool false)], args := [d1, d2, d3] }
  | _ => none }
def CutsListsWrongFalsely : Prop := cutsListsRow.holds Tryz.pinned (OpenSpec.ofChange cutsListsWrong)

/-- 'faultlinelaw33.CutsProfiles': WHATEVER THE INPUT: true; the input reads as it did. -/
def cutsProfilesSpec : ChangeSpec := { name := "cutsProfiles", fn := fun _ => fun
  | [d1, d2, d3] => { results := [.lit (.bool true)], args := [d1, d2, d3] }
  | _ => none }
def cutsProfilesRow : OpenClaim := { program := "ytcoflhkcpnoaaaagreat", sum := "227c5af630ca52b78d685b5b73152e38521638cff16c2b5b4cb055d486480431", func := "faultline/faultlinelaw33.CutsProfiles", spec := "cutsProfiles", unfollowed := true, recurses := true, plainKeys := false, apart := false }
def CutsProfilesSaid : Prop := cutsProfilesRow.holds Tryz.pinned (OpenSpec.ofChange cutsProfilesSpec)

/-- ITS FALSE NEIGHBOUR: 'it returns false'. Refute it at one input. -/
def cutsProfilesWrong : ChangeSpec := { name := "cutsProfiles", fn := fun _ => fun
  | [d1, d2, d3] => { results := [.lit (.bool false)], args := [d1, d2, d3] }
  | _ => none }
def CutsProfilesWrongFalsely : Prop := cutsProfilesRow.holds Tryz.pinned (OpenSpec.ofChange cutsProfilesWrong)

/-- 'faultlinelaw33.CutsMinimal': WHATEVER THE INPUT: true; the input reads as it did. -/
def cutsMinimalSpec : ChangeSpec := { name := "cutsMinimal", fn := fun _ => fun
  | [d1, d2] => { results := [.lit (.bool true)], args := [d1, d2] }
  | _ => none }
def cutsMinimalRow : OpenClaim := { program := "ytcoflhkcpnoaaaagreat", sum := "227c5af630ca52b78d685b5b73152e38521638cff16c2b5b4cb055d486480431", func := "faultline/faultlinelaw33.CutsMinimal", spec := "cutsMinimal", unfollowed := true, recurses := true, plainKeys := false, apart := false }
def CutsMinimalSaid : Prop := cutsMinimalRow.holds Tryz.pinned (OpenSpec.ofChange cutsMinimalSpec)

/-- ITS FALSE NEIGHBOUR: 'it returns false'. Refute it at one input. -/
def cutsMinimalWrong : ChangeSpec := { name := "cutsMinimal", fn := fun _ => fun
  | [d1, d2] => { results := [.lit (.bool false)], args := [d1, d2] }
  | _ => none }
def CutsMinimalWrongFalsely : Prop := cutsMinimalRow.holds Tryz.pinned (OpenSpec.ofChange cutsMinimalWrong)

/-- 'faultlinelaw33.CutsTop': WHATEVER THE INPUT: true; the input reads as it did. -/
def cutsTopSpec : ChangeSpec := { name := "cutsTop", fn := fun _ => fun
  | [d1, d2, d3] => { results := [.lit (.bool true)], args := [d1, d2, d3] }
  | _ => none }
def cutsTopRow : OpenClaim := { program := "ytcoflhkcpnoaaaagreat", sum := "227c5af630ca52b78d685b5b73152e38521638cff16c2b5b4cb055d486480431", func := "faultline/faultlinelaw33.CutsTop", spec := "cutsTop", unfollowed := true, recurses := true, plainKeys := false, apart := false }
def CutsTopSaid : Prop := cutsTopRow.holds Tryz.pinned (OpenSpec.ofChange cutsTopSpec)

/-- ITS FALSE NEIGHBOUR: 'it returns false'. Refute it at one input. -/
def cutsTopWrong : ChangeSpec := { name := "cutsTop", fn := fun _ => fun
  | [d1, d2, d3] => { results := [.lit (.bool false)], args := [d1, d2, d3] }
  | _ => none }
def CutsTopWrongFalsely : Prop := cutsTopRow.holds Tryz.pinned (OpenSpec.ofChange cutsTopWrong)

/- THE SECOND FORM. 'bulk': how many values and letters a reading holds, each counted each time it is reached (what is shared counts as often as it is met; a slice's spare places count too). A statement '..UptoSaid' is the law's where the arguments, and the package variables that the reading takes, are together of bulk at most 1048576: NARROWER than '..Said'. Prove '..Said' where nothing that the law and all that it calls make is longer than what came in: it says more and counts as full. Else prove '..UptoSaid'. A law counts once. -/
mutual
def uptoBulk {H : Type} : DataW H → Nat
  | .lit (.string bytes) => bytes.length + 1
  | .lit _ => 1
  | .nil => 1
  | .ptr d => uptoBulk d + 1
  | .slice elems spare => uptoBulkAll elems + uptoBulkAll spare + 1
  | .agg parts => uptoBulkAll parts + 1
  | .iface _ d => uptoBulk d + 1
  | .map entries => uptoBulkEntries entries + 1
  | .held _ => 1
def uptoBulkAll {H : Type} : List (DataW H) → Nat
  | [] => 0
  | d :: r => uptoBulk d + uptoBulkAll r
def uptoBulkEntries {H : Type} : List (Lit × DataW H) → Nat
  | [] => 0
  | x :: r => uptoBulkEntry x + uptoBulkEntries r
def uptoBulkEntry {H : Type} : Lit × DataW H → Nat
  | (.string bytes, d) => bytes.length + uptoBulk d + 1
  | (_, d) => uptoBulk d + 1
 end
def uptoSmall : (H : Type) → List (DataW H) → Bool := fun _ ds => decide (uptoBulkAll ds ≤ 1048576)
def OpenSpec.upto (s : _root_.Go.ChangeSpec) : _root_.Go.OpenSpec := { _root_.Go.OpenSpec.ofChange s with cond := some uptoSmall }

/-- 'faultlinelaw33.CutsSolves', WHERE WHAT IT READS IS OF BULK AT MOST 1048576: true; the input reads as it did. -/
def cutsSolvesUptoRow : OpenClaim := { program := "ytcoflhkcpnoaaaagreat", sum := "227c5af630ca52b78d685b5b73152e38521638cff16c2b5b4cb055d486480431", func := "faultline/faultlinelaw33.CutsSolves", spec := "cutsSolves", unfollowed := true, recurses := true, plainKeys := false, apart := false, narrowed := true }
def CutsSolvesUptoSaid : Prop := cutsSolvesUptoRow.holds Tryz.pinned (OpenSpec.upto cutsSolvesSpec)

/-- 'faultlinelaw33.CutsOrders', WHERE WHAT IT READS IS OF BULK AT MOST 1048576: true; the input reads as it did. -/
def cutsOrdersUptoRow : OpenClaim := { program := "ytcoflhkcpnoaaaagreat", sum := "227c5af630ca52b78d685b5b73152e38521638cff16c2b5b4cb055d486480431", func := "faultline/faultlinelaw33.CutsOrders", spec := "cutsOrders", unfollowed := true, recurses := true, plainKeys := false, apart := false, narrowed := true }
def CutsOrdersUptoSaid : Prop := cutsOrdersUptoRow.holds Tryz.pinned (OpenSpec.upto cutsOrdersSpec)

/-- 'faultlinelaw33.CutsFails', WHERE WHAT IT READS IS OF BULK AT MOST 1048576: true; the input reads as it did. -/
def cutsFailsUptoRow : OpenClaim := { program := "ytcoflhkcpnoaaaagreat", sum := "227c5af630ca52b78d685b5b73152e38521638cff16c2b5b4cb055d486480431", func := "faultline/faultlinelaw33.CutsFails", spec := "cutsFails", unfollowed := true, recurses := true, plainKeys := false, apart := false, narrowed := true }
def CutsFailsUptoSaid : Prop := cutsFailsUptoRow.holds Tryz.pinned (OpenSpec.upto cutsFailsSpec)

/-- 'faultlinelaw33.CutsLists', WHERE WHAT IT READS IS OF BULK AT MOST 1048576: true; the input reads as it did. -/
def cutsListsUptoRow : OpenClaim := { program := "ytcoflhkcpnoaaaagreat", sum := "227c5af630ca52b78d685b5b73152e38521638cff16c2b5b4cb055d486480431", func := "faultline/faultlinelaw33.CutsLists", spec := "cutsLists", unfollowed := true, recurses := true, plainKeys := false, apart := false, narrowed := true }
def CutsListsUptoSaid : Prop := cutsListsUptoRow.holds Tryz.pinned (OpenSpec.upto cutsListsSpec)

/-- 'faultlinelaw33.CutsProfiles', WHERE WHAT IT READS IS OF BULK AT MOST 1048576: true; the input reads as it did. -/
def cutsProfilesUptoRow : OpenClaim := { program := "ytcoflhkcpnoaaaagreat", sum := "227c5af630ca52b78d685b5b73152e38521638cff16c2b5b4cb055d486480431", func := "faultline/faultlinelaw33.CutsProfiles", spec := "cutsProfiles", unfollowed := true, recurses := true, plainKeys := false, apart := false, narrowed := true }
def CutsProfilesUptoSaid : Prop := cutsProfilesUptoRow.holds Tryz.pinned (OpenSpec.upto cutsProfilesSpec)

/-- 'faultlinelaw33.CutsMinimal', WHERE WHAT IT READS IS OF BULK AT MOST 1048576: true; the input reads as it did. -/
def cutsMinimalUptoRow : OpenClaim := { program := "ytcoflhkcpnoaaaagreat", sum := "227c5af630ca52b78d685b5b73152e38521638cff16c2b5b4cb055d486480431", func := "faultline/faultlinelaw33.CutsMinimal", spec := "cutsMinimal", unfollowed := true, recurses := true, plainKeys := false, apart := false, narrowed := true }
def CutsMinimalUptoSaid : Prop := cutsMinimalUptoRow.holds Tryz.pinned (OpenSpec.upto cutsMinimalSpec)

/-- 'faultlinelaw33.CutsTop', WHERE WHAT IT READS IS OF BULK AT MOST 1048576: true; the input reads as it did. -/
def cutsTopUptoRow : OpenClaim := { program := "ytcoflhkcpnoaaaagreat", sum := "227c5af630ca52b78d685b5b73152e38521638cff16c2b5b4cb055d486480431", func := "faultline/faultlinelaw33.CutsTop", spec := "cutsTop", unfollowed := true, recurses := true, plainKeys := false, apart := false, narrowed := true }
def CutsTopUptoSaid : Prop := cutsTopUptoRow.holds Tryz.pinned (OpenSpec.upto cutsTopSpec)

end Rows
end Go.Proofs.YtcoflhkcpnoaaaaGreat
