/- Blocks of one proof, laid one behind the other by a program (merge2.py). -/
import Derived.Test.YtcoflhkcpnoaaaaGreatM29
set_option linter.unusedSimpArgs false
set_option linter.unusedVariables false
namespace Go.Proofs.YtcoflhkcpnoaaaaGreat
open Go.AI Go.PN
attribute [local irreducible] aw Fa Fh DrK
def valid33 (f : FM) (o : List Int) : Bool := decide (o.length ≤ 100) && (decide (kcode33 f o = 0) && decide (f.vars ≤ 10))
set_option maxHeartbeats 1600000 in
theorem valid33_fa (f : FM) (o : List Int) (hn : f.nodes.length ≤ 1099511627776) (ha : ArgsOk f) (ht0 : -9223372036854775808 ≤ f.top) (ht : f.top ≤ 9223372036854775807) (hol : o.length ≤ 1099511627776) :
    Fa Tryz.prog 24 [.agg (fmc false f), .c (is false o)] (.c (.bool (valid33 f o))) := by
  unfold valid33
  refine fa_of_body Tryz.func24 rfl rfl (by simp [Tryz.ntmps24]) fun C hC => ?_
  simp only [initS, Nat.reduceAdd]
  refine xG ?_
  refine xB fun g2 hn_g2=>?_
  refine yG hn_g2 ?_
  by_cases h1 : o.length ≤ 100
  · have e1 : decide ((o.length : Int) ≤ 100) = true := decide_eq_true (by omega)
    rw [decide_eq_true h1, Bool.true_and]
    refine yS (oj hn_g2 e1) ?_
    refine yG (oj hn_g2 e1) ?_
    refine yC (oj hn_g2 e1) (checkR33_fa f o hn ha ht0 ht hol) ?_
    by_cases h2 : kcode33 f o = 0
    · have z2 := ieq_t h2
      rw [decide_eq_true h2, Bool.true_and]
      refine yG (oj hn_g2 (oj e1 z2)) ?_
      refine yT hC (oj hn_g2 (oj e1 z2)) ?_
      exact .one (.c (.bool _))
    · have z2 := ieq_f h2
      rw [decide_eq_false h2, Bool.false_and]
      refine yG (oj hn_g2 (oj e1 z2)) ?_
      refine yT hC (oj hn_g2 (oj e1 z2)) ?_
      exact .one (.c (.bool _))
  · have e1 : decide ((o.length : Int) ≤ 100) = false := decide_eq_false (by omega)
    rw [decide_eq_false h1, Bool.false_and]
    refine yS (oj hn_g2 e1) ?_
    refine yG (oj hn_g2 e1) ?_
    refine yT hC (oj hn_g2 e1) ?_
    exact .one (.c (.bool _))
end Go.Proofs.YtcoflhkcpnoaaaaGreat
namespace Go.PN
open Go.AI Go.Proofs.YtcoflhkcpnoaaaaGreat
theorem valid_of {f : FM} {o : List Int} (h : valid33 f o = true) : o.length ≤ 100 ∧ K33 f o ∧ f.vars ≤ 10 := by
  unfold valid33 at h
  rw [Bool.and_eq_true, Bool.and_eq_true, decide_eq_true_iff, decide_eq_true_iff, decide_eq_true_iff] at h
  exact ⟨h.1, k33_of h.2.1, h.2.2⟩
theorem cut_same {f : Nat → Bool} {l m : List Nat} (h1 : CutL f l) (h2 : CutL f m) : l = m := srt_ext h1.1 h2.1 fun s => by rw [h1.2, h2.2]
end Go.PN

