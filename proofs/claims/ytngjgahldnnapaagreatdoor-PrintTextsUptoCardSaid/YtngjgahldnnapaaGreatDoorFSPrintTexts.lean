/- Parts of one proof, laid by a program. -/
import Derived.Test.YtngjgahldnnapaaGreatDoorM00
import Derived.Test.YtngjgahldnnapaaGreatDoorM12
set_option linter.unusedSimpArgs false
set_option linter.unusedVariables false
set_option maxRecDepth 100000
set_option maxHeartbeats 12800000
namespace Go.Proofs.YtngjgahldnnapaaGreatDoor.printTexts
open Go.AI Go.PN Go.ChangeShapes Go.WideShapes Go.ChangeAt Go.RowKit
theorem proved:Rows.PrintTextsUptoCardSaid:=
 Claim7.holds_tied_plain_at .later [] _ _ _ _ over (fun _ h=>by cases h) (by as_aux_lemma=>kernel_rfl) (fun _ h=>by cases h) printTextsUpto_row_tie rfl ⟨rfl,rfl⟩ (by as_aux_lemma=>kernel_rfl) rfl plain (by as_aux_lemma=>kernel_rfl)
end Go.Proofs.YtngjgahldnnapaaGreatDoor.printTexts
