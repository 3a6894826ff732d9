/- Parts of one proof, laid by a program. -/
import Derived.Test.YtfcnbgmclfkfcaaGreatM00
import Derived.Test.YtfcnbgmclfkfcaaGreatM32
set_option linter.unusedSimpArgs false
set_option linter.unusedVariables false
namespace Go.PN
open Go.AI Go.Proofs.YtfcnbgmclfkfcaaGreat
theorem sg_eq {x:Rat} (h:x=0):signQ x=0:=by subst h;rfl
end Go.PN

