/- Parts of one proof, laid by a program. -/
import Derived.Test.YtfcnbgmclfkfcaaGreatM00
import Derived.Test.YtfcnbgmclfkfcaaGreatM32
set_option linter.unusedSimpArgs false
set_option linter.unusedVariables false
namespace Go.PN
open Go.AI Go.Proofs.YtfcnbgmclfkfcaaGreat
theorem sgp {x:Rat} (h:0<x):signQ x=1:=by
 unfold signQ
 rw [if_neg (by grind),if_neg (by grind)]
end Go.PN

