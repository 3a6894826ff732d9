/- Blocks of one proof, laid one behind the other by a program (merge2.py). -/
import Derived.Test.YtcoflhkcpnoaaaaGreatDoorM32
set_option linter.unusedSimpArgs false
set_option linter.unusedVariables false
namespace Go.Proofs.YtcoflhkcpnoaaaaGreatDoor
open Go.AI Go.PN
attribute [local irreducible] aw Fa Fh DrK
theorem uvS_wf {f : FM} {s : List SD} (h : ucode f s = 0 → UOk f s) : (uvS f s).lo.wf 14000 ∧ (uvS f s).hi.wf 14000 := by
  unfold uvS
  split
  · rename_i hc
    exact ⟨rd_wf (vlo_fits (h hc)), rd_wf (vhi_fits (h hc))⟩
  · exact ⟨rd_wf (fits_mono fits_zero (by omega)), rd_wf (fits_mono fits_zero (by omega))⟩
set_option maxRecDepth 100000 in
set_option maxHeartbeats 3200000 in
theorem lawVert_fa (f : FM) (s : List SD) (hw : SWordsOk s) (hlw : SLensOk s) (hl : s.length ≤ 1099511627776) (hn : f.nodes.length ≤ 1099511627776) (ha : ArgsOk f) (ht0 : -9223372036854775808 ≤ f.top) (ht : f.top ≤ 9223372036854775807) :
    Fa Tryz.prog 3 [.agg (fmc false f), .c (sps false s)] (.c (.bool true)) := by
  have haw := awake44_fa
  refine fa_of_body Tryz.func3 rfl rfl (by simp [Tryz.ntmps3]) fun C hC => ?_
  simp only [initS, Nat.reduceAdd]
  refine xG ?_
  refine xB fun g2 hn_g2=>?_
  refine yG hn_g2 ?_
  refine yC hn_g2 (haw) ?_
  refine yG hn_g2 ?_
  refine yC hn_g2 (heavy_fa f s hn ha hl hlw) ?_
  refine yG hn_g2 ?_
  refine yF hn_g2 (fun hv=>?_) fun hv=>?_
  · refine yG hn_g2 ?_
    refine yC hn_g2 (haw) ?_
    refine yG hn_g2 ?_
    refine yT hC hn_g2 ?_
    exact .one (.c (.bool _))
  obtain ⟨hw4', hv6⟩ := light hw hv
  have hw4 : ∀ y ∈ s, y.wf 16 := fun y hy => ⟨wf_mono (hw4' y hy).1 (by omega), wf_mono (hw4' y hy).2 (by omega)⟩
  have um := uvert_fa f s hn ha ht0 ht hw4 hl hv6
  refine yG hn_g2 ?_
  refine yC hn_g2 (um) ?_
  refine yG hn_g2 ?_
  refine yA hn_g2 fun g5 hn_g5=>?_
  refine yG (oj hn_g2 hn_g5) ?_
  refine yW (oj hn_g2 hn_g5) ?_
  refine yS (oj hn_g2 hn_g5) ?_
  refine aw_conv1 (f' := ofL (spc (uvS f s))) (fun j hj => by match j, hj with | 0, _ => rfl | 1, _ => rfl | 2, _ => rfl | 3, _ => rfl | 4, _ => rfl | 5, _ => rfl) ?_
  refine yG (oj hn_g2 hn_g5) ?_
  refine yC (oj hn_g2 hn_g5) (fcheckR_fa f hn ha ht0 ht) ?_
  refine yG (oj hn_g2 hn_g5) ?_
  refine yF (oj hn_g2 hn_g5) (fun hc=>?_) fun hc=>?_
  · have hc' : fcode f ≠ 0 := by simpa using hc
    have e1 : ucode f s = fcode f := by unfold ucode; rw [if_pos hc']
    have e2 : uvS f s = ⟨rd 0, rd 0⟩ := by unfold uvS; rw [e1, if_neg hc']
    rw [e2, e1]
    have eb : (fcode f == fcode f) = true := beq_self_eq_true _
    have sg := rsign_fa (rd 0) (rd_wf (fits_mono fits_zero (by omega)))
    rw [rd_q, show signQ (0 : Rat) = 0 from rfl] at sg
    refine yG (oj hn_g2 (oj hn_g5 eb)) ?_
    refine yC (oj hn_g2 (oj hn_g5 eb)) (num_fa (fcode f)) ?_
    refine yG (oj hn_g2 (oj hn_g5 eb)) ?_
    refine yC (oj hn_g2 (oj hn_g5 eb)) (sg) ?_
    refine yG (oj hn_g2 (oj hn_g5 eb)) ?_
    refine yT hC (oj hn_g2 (oj hn_g5 eb)) ?_
    exact .one (.c (ler_bool rfl))
  have hc' : fcode f = 0 := by simpa using hc
  have rm := rvert_fa f s hn ha hw4 hl hc' (hv6 hc')
  obtain ⟨x1, x2⟩ := uvS_wf (f := f) (s := s) (fun h => uok_of hn ha hw4 hv6 h)
  have eb : (ucode f s == ucode f s) = true := beq_self_eq_true _
  have r1 := ratEq_fa (uvS f s).lo (uvS f s).lo (wf_mono x1 (by omega))
  have r2 := ratEq_fa (uvS f s).hi (uvS f s).hi (wf_mono x2 (by omega))
  rw [decide_eq_true rfl] at r1 r2
  generalize uvS f s = y at *
  generalize ucode f s = c at *
  refine yG (oj hn_g2 (oj hn_g5 eb)) ?_
  refine yC (oj hn_g2 (oj hn_g5 eb)) (rm) ?_
  refine yG (oj hn_g2 (oj hn_g5 eb)) ?_
  refine yA (oj hn_g2 (oj hn_g5 eb)) fun g8 hn_g8=>?_
  refine yG (oj hn_g2 (oj hn_g5 (oj eb hn_g8))) ?_
  refine yW (oj hn_g2 (oj hn_g5 (oj eb hn_g8))) ?_
  refine yS (oj hn_g2 (oj hn_g5 (oj eb hn_g8))) ?_
  refine aw_conv1 (f' := ofL (spc y)) (fun j hj => by match j, hj with | 0, _ => rfl | 1, _ => rfl | 2, _ => rfl | 3, _ => rfl | 4, _ => rfl | 5, _ => rfl) ?_
  refine yG (oj hn_g2 (oj hn_g5 (oj eb hn_g8))) ?_
  refine yC (oj hn_g2 (oj hn_g5 (oj eb hn_g8))) (num_fa c) ?_
  refine yG (oj hn_g2 (oj hn_g5 (oj eb hn_g8))) ?_
  refine yC (oj hn_g2 (oj hn_g5 (oj eb hn_g8))) (r1) ?_
  refine yG (oj hn_g2 (oj hn_g5 (oj eb hn_g8))) ?_
  refine yC (oj hn_g2 (oj hn_g5 (oj eb hn_g8))) (r2) ?_
  refine yG (oj hn_g2 (oj hn_g5 (oj eb hn_g8))) ?_
  refine yT hC (oj hn_g2 (oj hn_g5 (oj eb hn_g8))) ?_
  exact .one (.c (ler_bool rfl))
end Go.Proofs.YtcoflhkcpnoaaaaGreatDoor
