/- Blocks of one proof, laid one behind the other by a program (merge2.py). -/
import Derived.Test.YtcoflhkcpnoaaaaGreatDoorM26
set_option linter.unusedSimpArgs false
set_option linter.unusedVariables false
namespace Go.Proofs.YtcoflhkcpnoaaaaGreatDoor
open Go.AI Go.PN
attribute [local irreducible] aw Fa Fh DrK
set_option maxHeartbeats 1600000 in
theorem spcontains_fa (s : SD) (x : RD) (hw : s.wf 100000) (hx : x.wf 100000) : Fa Tryz.prog 19 [.agg (spc s), .agg (rdc x)] (.c (.bool (containsS s x.q))) := by
  obtain ⟨f1, f2⟩ := norm_fits (by omega) hw
  have n1 := norm_fa s hw
  have h1 := rcmp_fa (rd (nlo s)) x (wf_mono (rd_wf f1) (by omega)) (wf_mono hx (by omega))
  have h2 := rcmp_fa x (rd (nhi s)) (wf_mono hx (by omega)) (wf_mono (rd_wf f2) (by omega))
  rw [rd_q] at h1 h2
  unfold containsS
  refine fa_of_body Tryz.func19 rfl rfl (by simp [Tryz.ntmps19]) fun C hC => ?_
  simp only [initS, Nat.reduceAdd]
  refine xG ?_
  refine xB fun g2 hn_g2=>?_
  refine yB hn_g2 fun g3 hn_g3=>?_
  refine yG (oj hn_g2 hn_g3) ?_
  refine yC (oj hn_g2 hn_g3) (n1) ?_
  refine yG (oj hn_g2 hn_g3) ?_
  refine yW (oj hn_g2 hn_g3) ?_
  refine yS (oj hn_g2 hn_g3) ?_
  refine yG (oj hn_g2 hn_g3) ?_
  refine yC (oj hn_g2 hn_g3) (h1) ?_
  refine yG (oj hn_g2 hn_g3) ?_
  refine aw_split 12 (zE (oj hn_g2 hn_g3)) (fun hc => ?_) (fun hc => ?_) <;> refine yS (oj hn_g2 hn_g3) ?_
  · refine yG (oj hn_g2 hn_g3) ?_
    refine yC (oj hn_g2 hn_g3) (h2) ?_
    refine yG (oj hn_g2 hn_g3) ?_
    refine yT hC (oj hn_g2 hn_g3) ?_
    exact .one (.c (ler_bool (by rw [hc]; rfl)))
  · refine yG (oj hn_g2 hn_g3) ?_
    refine yT hC (oj hn_g2 hn_g3) ?_
    exact .one (.c (ler_bool (by rw [hc]; rfl)))
end Go.Proofs.YtcoflhkcpnoaaaaGreatDoor
namespace Go.Proofs.YtcoflhkcpnoaaaaGreatDoor
open Go.AI Go.PN
attribute [local irreducible] aw Fa Fh DrK
set_option maxHeartbeats 1600000 in
theorem ready_fa (f : FM) (s : List SD) (hn : f.nodes.length ≤ 1099511627776) (ha : ArgsOk f) (ht0 : -9223372036854775808 ≤ f.top) (ht : f.top ≤ 9223372036854775807) (hs : ∀ y ∈ s, y.wf 1000) (hl : s.length ≤ 1099511627776) :
    Fa Tryz.prog 15 [.agg (fmc false f), .c (sps false s)] (.c (.bool (decide (ucode f s = 0)))) := by
  refine fa_of_body Tryz.func15 rfl rfl (by simp [Tryz.ntmps15]) fun C hC => ?_
  simp only [initS, Nat.reduceAdd]
  refine xG ?_
  refine xB fun g2 hn_g2=>?_
  refine yG hn_g2 ?_
  refine yC hn_g2 (fcheckR_fa f hn ha ht0 ht) ?_
  by_cases hc : fcode f = 0
  · have e : ucode f s = scode s f.vars := by unfold ucode; rw [if_neg (by simp [hc])]
    have e1 : (fcode f == 0) = true := by rw [hc]; rfl
    rw [e]
    refine yG (oj hn_g2 e1) ?_
    refine yC (oj hn_g2 e1) (ucheckR_fa f s (fr_ok hc).v0 (fr_ok hc).v24 hs hl) ?_
    refine yG (oj hn_g2 e1) ?_
    refine yT hC (oj hn_g2 e1) ?_
    exact .one (.c (ler_bool (by by_cases e : scode s f.vars = 0 <;> simp [e])))
  · have e : ucode f s = fcode f := by unfold ucode; rw [if_pos hc]
    have e1 : (fcode f == 0) = false := by simpa using hc
    rw [e, decide_eq_false hc]
    refine yG (oj hn_g2 e1) ?_
    refine yT hC (oj hn_g2 e1) ?_
    exact .one (.c (.bool _))
end Go.Proofs.YtcoflhkcpnoaaaaGreatDoor
namespace Go.Proofs.YtcoflhkcpnoaaaaGreatDoor
open Go.AI Go.PN
attribute [local irreducible] aw Fa Fh DrK
theorem uvS_ok {f : FM} {s : List SD} (h : ucode f s = 0) : uvS f s = ⟨rd (vloQ f s), rd (vhiQ f s)⟩ := by unfold uvS; rw [if_pos h]
theorem vlo_le (f : FM) (s : List SD) : vloQ f s ≤ vhiQ f s := mn_le_mx _ _ rfl _
end Go.Proofs.YtcoflhkcpnoaaaaGreatDoor
