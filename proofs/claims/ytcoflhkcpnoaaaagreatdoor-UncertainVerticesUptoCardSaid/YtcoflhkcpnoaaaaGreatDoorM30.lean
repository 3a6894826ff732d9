/- Blocks of one proof, laid one behind the other by a program (merge2.py). -/
import Derived.Test.YtcoflhkcpnoaaaaGreatDoorM25
import Derived.Test.YtcoflhkcpnoaaaaGreatDoorM27
set_option linter.unusedSimpArgs false
set_option linter.unusedVariables false
namespace Go.Proofs.YtcoflhkcpnoaaaaGreatDoor
open Go.AI Go.PN
attribute [local irreducible] aw Fa Fh DrK
set_option maxHeartbeats 1600000 in
theorem point03_fa (x : RD) (hw : x.wf 100000) : Fa Tryz.prog 25 [.agg (rdc x)] (.agg (spc (ptS x.q))) := by
  have ha := sadd_fa x ⟨false, [], []⟩ (wf_mono hw (by omega)) ⟨by simp, by simp, by simp, by simp⟩
  rw [show (⟨false, [], []⟩ : RD).q = 0 from rd0_q, Rat.add_zero] at ha
  refine fa_of_body Tryz.func25 rfl rfl (by simp [Tryz.ntmps25]) fun C hC => ?_
  simp only [initS, Nat.reduceAdd]
  refine xG ?_
  refine xB fun g1 hn_g1=>?_
  refine yA hn_g1 fun g2 hn_g2=>?_
  refine yG (oj hn_g1 hn_g2) ?_
  refine aw_callq ha rfl rfl rfl (by refine yS (oj hn_g1 hn_g2) ?_; exact ⟨.agg (lel_refl _), .agg ⟨.refl _, .nils, .nils, trivial⟩⟩) ?_
  refine yS (oj hn_g1 hn_g2) ?_
  generalize x.q = X at *
  refine yG (oj hn_g1 hn_g2) ?_
  refine yW (oj hn_g1 hn_g2) ?_
  refine yS (oj hn_g1 hn_g2) ?_
  refine yG (oj hn_g1 hn_g2) ?_
  refine yW (oj hn_g1 hn_g2) ?_
  refine yS (oj hn_g1 hn_g2) ?_
  refine yG (oj hn_g1 hn_g2) ?_
  refine yT hC (oj hn_g1 hn_g2) ?_
  show LeRA _ (.agg (spc (ptS X))) _
  exact ler_sp rfl
end Go.Proofs.YtcoflhkcpnoaaaaGreatDoor
