/- Texts of one proof, laid one behind the other by a program (merge.py): Law18. -/
import Derived.Test.YtmfmnmkipjpjhaaGreatDoorV27
set_option linter.unusedSimpArgs false
set_option linter.unusedVariables false
/- The law UncertainParts. -/
namespace Go.Proofs.YtmfmnmkipjpjhaaGreatDoor
open Go.AI Go.PN
attribute [local irreducible] aw Fa Fh DrK
theorem partV_wf {f : FM} {s : List SD} {i : Int} (h : partC f s i = 0 → UOk f s) : (rd (partV f s i)).wf 9000 := by
  unfold partV
  split
  · rename_i hc; exact rd_wf (part_fits (h hc) _)
  · exact rd_wf (fits_mono fits_zero (by omega))
set_option maxRecDepth 100000 in
set_option maxHeartbeats 3200000 in
theorem lawParts_fa (f : FM) (s : List SD) (i : Int) (hw : SWordsOk s) (hlw : SLensOk s) (hl : s.length ≤ 1099511627776) (hn : f.nodes.length ≤ 1099511627776) (ha : ArgsOk f) (ht0 : -9223372036854775808 ≤ f.top) (ht : f.top ≤ 9223372036854775807) :
    Fa Tryz.prog 4 [.agg (fmc false f), .c (sps false s), .c (.int .i64 i)] (.c (.bool true)) := by
  have haw := awake44_fa
  refine fa_of_body Tryz.func4 rfl rfl (by simp [Tryz.ntmps4]) fun C hC => ?_
  simp only [initS, Nat.reduceAdd]
  refine xG ?_
  refine xB fun g3 hn_g3=>?_
  refine yG hn_g3 ?_
  refine yC hn_g3 (haw) ?_
  refine yG hn_g3 ?_
  refine yC hn_g3 (heavy_fa f s hn ha hl hlw) ?_
  refine yG hn_g3 ?_
  refine yF hn_g3 (fun hv=>?_) fun hv=>?_
  · refine yG hn_g3 ?_
    refine yC hn_g3 (haw) ?_
    refine yG hn_g3 ?_
    refine yT hC hn_g3 ?_
    exact .one (.c (.bool _))
  obtain ⟨hw4, hv6⟩ := light hw hv
  have up := uPart_fa f s i hn ha ht0 ht hw4 hl hv6
  have uw := uworst_fa f s hn ha ht0 ht hw4 hl hv6
  refine yG hn_g3 ?_
  refine yC hn_g3 (up) ?_
  refine yG hn_g3 ?_
  refine yA hn_g3 fun g7 hn_g7=>?_
  refine yG (oj hn_g3 hn_g7) ?_
  refine yW (oj hn_g3 hn_g7) ?_
  refine yS (oj hn_g3 hn_g7) ?_
  refine yG (oj hn_g3 hn_g7) ?_
  refine yC (oj hn_g3 hn_g7) (uw) ?_
  refine yG (oj hn_g3 hn_g7) ?_
  refine yC (oj hn_g3 hn_g7) (fcheckR_fa f hn ha ht0 ht) ?_
  refine yG (oj hn_g3 hn_g7) ?_
  refine yF (oj hn_g3 hn_g7) (fun hc=>?_) fun hc=>?_
  · have hc' : fcode f ≠ 0 := by simpa using hc
    have e : ucode f s = fcode f := by unfold ucode; rw [if_pos hc']
    have e1 : partC f s i = fcode f := by
      unfold partC
      rw [e, if_pos hc']
    have e2 : partV f s i = 0 := by unfold partV; rw [e1, if_neg hc']
    have e3 : worstC f s = fcode f := by
      unfold worstC
      rw [e, if_pos hc']
    have e4 : worstN f s = 0 := by unfold worstN; rw [e3, if_neg hc']
    rw [e2, e1, e3, e4]
    have eb : (fcode f == fcode f) = true := beq_self_eq_true _
    have sg := rsign_fa (rd 0) (rd_wf (fits_mono fits_zero (by omega)))
    rw [rd_q, show signQ (0 : Rat) = 0 from rfl] at sg
    have e00 : ((0 : Int) == 0) = true := rfl
    have e01 : (((0 : Nat) : Int) == 0) = true := rfl
    refine yG (oj hn_g3 (oj hn_g7 (oj eb (oj e00 e01)))) ?_
    refine yC (oj hn_g3 (oj hn_g7 (oj eb (oj e00 e01)))) (num_fa (fcode f)) ?_
    refine yG (oj hn_g3 (oj hn_g7 (oj eb (oj e00 e01)))) ?_
    refine yC (oj hn_g3 (oj hn_g7 (oj eb (oj e00 e01)))) (num_fa (fcode f)) ?_
    refine yG (oj hn_g3 (oj hn_g7 (oj eb (oj e00 e01)))) ?_
    refine yC (oj hn_g3 (oj hn_g7 (oj eb (oj e00 e01)))) (sg) ?_
    refine yG (oj hn_g3 (oj hn_g7 (oj eb (oj e00 e01)))) ?_
    refine yT hC (oj hn_g3 (oj hn_g7 (oj eb (oj e00 e01)))) ?_
    exact .one (.c (ler_bool rfl))
  have hc' : fcode f = 0 := by simpa using hc
  have rp := rPart_fa f s i hn ha hw4 hl hc' (hv6 hc')
  have rw' := rworst_fa f s hn ha hw4 hl hc' (hv6 hc')
  have x1 := partV_wf (f := f) (s := s) (i := i) (fun h => uok_of hn ha hw4 hv6 (by
    unfold partC at h
    by_cases hu : ucode f s ≠ 0
    · rw [if_pos hu] at h; exact h
    · exact Classical.not_not.1 hu))
  have eb : (partC f s i == partC f s i) = true := beq_self_eq_true _
  have eb2 : (worstC f s == worstC f s) = true := beq_self_eq_true _
  have eb3 : ((worstN f s : Int) == (worstN f s : Int)) = true := beq_self_eq_true _
  have r1 := ratEq_fa (rd (partV f s i)) (rd (partV f s i)) (wf_mono x1 (by omega))
  rw [decide_eq_true rfl] at r1
  generalize rd (partV f s i) = y at *
  generalize partC f s i = c at *
  generalize worstC f s = c2 at *
  generalize worstN f s = m at *
  refine yG (oj hn_g3 (oj hn_g7 (oj eb (oj eb2 eb3)))) ?_
  refine yC (oj hn_g3 (oj hn_g7 (oj eb (oj eb2 eb3)))) (rp) ?_
  refine yG (oj hn_g3 (oj hn_g7 (oj eb (oj eb2 eb3)))) ?_
  refine yA (oj hn_g3 (oj hn_g7 (oj eb (oj eb2 eb3)))) fun g12 hn_g12=>?_
  refine yG (oj hn_g3 (oj hn_g7 (oj eb (oj eb2 (oj eb3 hn_g12))))) ?_
  refine yW (oj hn_g3 (oj hn_g7 (oj eb (oj eb2 (oj eb3 hn_g12))))) ?_
  refine yS (oj hn_g3 (oj hn_g7 (oj eb (oj eb2 (oj eb3 hn_g12))))) ?_
  refine yG (oj hn_g3 (oj hn_g7 (oj eb (oj eb2 (oj eb3 hn_g12))))) ?_
  refine yC (oj hn_g3 (oj hn_g7 (oj eb (oj eb2 (oj eb3 hn_g12))))) (rw') ?_
  refine yG (oj hn_g3 (oj hn_g7 (oj eb (oj eb2 (oj eb3 hn_g12))))) ?_
  refine yC (oj hn_g3 (oj hn_g7 (oj eb (oj eb2 (oj eb3 hn_g12))))) (num_fa c) ?_
  refine yG (oj hn_g3 (oj hn_g7 (oj eb (oj eb2 (oj eb3 hn_g12))))) ?_
  refine yC (oj hn_g3 (oj hn_g7 (oj eb (oj eb2 (oj eb3 hn_g12))))) (r1) ?_
  refine yG (oj hn_g3 (oj hn_g7 (oj eb (oj eb2 (oj eb3 hn_g12))))) ?_
  refine yC (oj hn_g3 (oj hn_g7 (oj eb (oj eb2 (oj eb3 hn_g12))))) (num_fa c2) ?_
  refine yG (oj hn_g3 (oj hn_g7 (oj eb (oj eb2 (oj eb3 hn_g12))))) ?_
  refine yT hC (oj hn_g3 (oj hn_g7 (oj eb (oj eb2 (oj eb3 hn_g12))))) ?_
  exact .one (.c (ler_bool rfl))
end Go.Proofs.YtmfmnmkipjpjhaaGreatDoor
