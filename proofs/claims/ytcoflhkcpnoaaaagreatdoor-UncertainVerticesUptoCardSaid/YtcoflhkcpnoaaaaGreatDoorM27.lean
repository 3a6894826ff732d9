/- Blocks of one proof, laid one behind the other by a program (merge2.py). -/
import Derived.Test.YtcoflhkcpnoaaaaGreatDoorM13
set_option linter.unusedSimpArgs false
set_option linter.unusedVariables false
namespace Go.Proofs.YtcoflhkcpnoaaaaGreatDoor
open Go.AI Go.PN
attribute [local irreducible] aw Fa Fh DrK
set_option maxHeartbeats 1600000 in
theorem smul_fa (a b : RD) (ha : a.wf 1073741824) (hb : b.wf 1073741824) : Fa Tryz.prog 46 [.agg (rdc a), .agg (rdc b)] (.agg (rdc (rd (a.q * b.q)))) := by
  obtain ⟨l1, l2⟩ := RD.p_len ha (by omega)
  obtain ⟨l3, l4⟩ := RD.p_len hb (by omega)
  have d1 := RD.pd_ne ha
  have d2 := RD.pd_ne hb
  have dd : a.pd * b.pd ≠ 0 := Nat.mul_ne_zero d1 d2
  have m1 := words_mul_len a.pn b.pn
  have m3 := words_mul_len a.pd b.pd
  refine fa_of_body Tryz.func46 rfl rfl (by simp [Tryz.ntmps46]) fun C hC => ?_
  simp only [initS, Nat.reduceAdd]
  refine xG ?_
  refine xB fun g2 hn_g2=>?_
  refine yB hn_g2 fun g3 hn_g3=>?_
  refine yA (oj hn_g2 hn_g3) fun g4 hn_g4=>?_
  refine yG (oj hn_g2 (oj hn_g3 hn_g4)) ?_
  refine yC (oj hn_g2 (oj hn_g3 hn_g4)) (sparts_fa a ha) ?_
  refine yG (oj hn_g2 (oj hn_g3 hn_g4)) ?_
  refine yC (oj hn_g2 (oj hn_g3 hn_g4)) (sparts_fa b hb) ?_
  refine yG (oj hn_g2 (oj hn_g3 hn_g4)) ?_
  refine yC (oj hn_g2 (oj hn_g3 hn_g4)) (qmulW _ _ ?_ ?_) ?_
  · omega
  · omega
  refine yG (oj hn_g2 (oj hn_g3 hn_g4)) ?_
  refine yC (oj hn_g2 (oj hn_g3 hn_g4)) (qmulW _ _ ?_ ?_) ?_
  · omega
  · omega
  refine yG (oj hn_g2 (oj hn_g3 hn_g4)) ?_
  refine yC (oj hn_g2 (oj hn_g3 hn_g4)) (sfromW _ _ _ ?_ ?_ dd) ?_
  · omega
  · omega
  refine yG (oj hn_g2 (oj hn_g3 hn_g4)) ?_
  refine yA (oj hn_g2 (oj hn_g3 hn_g4)) fun g11 hn_g11=>?_
  refine yG (oj hn_g2 (oj hn_g3 (oj hn_g4 hn_g11))) ?_
  refine yW (oj hn_g2 (oj hn_g3 (oj hn_g4 hn_g11))) ?_
  refine yS (oj hn_g2 (oj hn_g3 (oj hn_g4 hn_g11))) ?_
  refine yG (oj hn_g2 (oj hn_g3 (oj hn_g4 hn_g11))) ?_
  refine yW (oj hn_g2 (oj hn_g3 (oj hn_g4 hn_g11))) ?_
  refine yS (oj hn_g2 (oj hn_g3 (oj hn_g4 hn_g11))) ?_
  refine yG (oj hn_g2 (oj hn_g3 (oj hn_g4 hn_g11))) ?_
  refine yT hC (oj hn_g2 (oj hn_g3 (oj hn_g4 hn_g11))) ?_
  exact ler_rd (by rw [sq_mul]; rfl)
end Go.Proofs.YtcoflhkcpnoaaaaGreatDoor
