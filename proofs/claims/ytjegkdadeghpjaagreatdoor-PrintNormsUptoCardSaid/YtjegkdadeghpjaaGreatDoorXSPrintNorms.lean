/- Parts of one proof, laid by a program. -/
import Derived.Test.YtjegkdadeghpjaaGreatDoorW00
import Derived.Test.YtjegkdadeghpjaaGreatDoorW11
set_option linter.unusedSimpArgs false
set_option linter.unusedVariables false
set_option maxRecDepth 100000
set_option maxHeartbeats 12800000
namespace Go.Proofs.YtjegkdadeghpjaaGreatDoor.printNorms
open Go.AI Go.PN Go.ChangeShapes Go.WideShapes Go.ChangeAt Go.RowKit
theorem proved:Rows.PrintNormsUptoCardSaid:=
 Claim7.holds_tied_plain_at .later [] _ _ _ _ QxG (fun _ h=>by cases h) (by as_aux_lemma=>kernel_rfl) (fun _ h=>by cases h) printNormsUpto_row_tie rfl ⟨rfl,rfl⟩ (by as_aux_lemma=>kernel_rfl) rfl Qwm (by as_aux_lemma=>kernel_rfl)
end Go.Proofs.YtjegkdadeghpjaaGreatDoor.printNorms
