/- Parts of one proof, laid by a program. -/
import Derived.Test.YteocnikcjjonbaaGreatM00
import Derived.Test.YteocnikcjjonbaaGreatM13
set_option linter.unusedSimpArgs false
set_option linter.unusedVariables false
set_option maxRecDepth 100000
set_option maxHeartbeats 12800000
namespace Go.PN
open Go.AI
theorem modelP_ck {ck:MdD→Int} {l:BS} (h:(modelP ck l).2=0):(splitS l).1=0∧(readS ⟨(splitS l).2,0⟩).2.e=0∧ck (readS ⟨(splitS l).2,0⟩).1=0∧(modelP ck l).1=(readS ⟨(splitS l).2,0⟩).1:=by
 unfold modelP at h⊢
 dsimp only at h⊢
 split at h
 ·rename_i e;exact absurd h e
 rename_i e1
 rw [if_neg e1]
 split at h
 ·rename_i e;exact absurd h e
 rename_i e2
 rw [if_neg e2]
 split at h
 ·rename_i e;exact absurd h e
 rename_i e3
 rw [if_neg e3]
 exact⟨Decidable.not_not.1 e1,Decidable.not_not.1 e2,Decidable.not_not.1 e3,rfl⟩
end Go.PN

