/- Blocks of one proof, laid one behind the other by a program (merge2.py). -/
import Derived.Test.YtcoflhkcpnoaaaaGreatDoorM28
set_option linter.unusedSimpArgs false
set_option linter.unusedVariables false
namespace Go.Proofs.YtcoflhkcpnoaaaaGreatDoor
open Go.AI Go.PN
attribute [local irreducible] aw Fa Fh DrK
theorem contains_v {f : FM} {s : List SD} {x : Rat} (h1 : vloQ f s ≤ x) (h2 : x ≤ vhiQ f s) : containsS ⟨rd (vloQ f s), rd (vhiQ f s)⟩ x = true := by
  unfold containsS
  rw [rd_nlo (vlo_le f s), rd_nhi (vlo_le f s), signQ_le, signQ_le, decide_eq_true (by grind), decide_eq_true (by grind)]; rfl
end Go.Proofs.YtcoflhkcpnoaaaaGreatDoor
