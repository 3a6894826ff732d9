/- Texts of one proof, laid one behind the other by a program (merge.py): Frm4, Glue4, AiStr, AiStr2, AiStr3, AiStr4. -/
import Derived.Test.YtmfmnmkipjpjhaaGreatDoorV18
import Derived.Test.YtmfmnmkipjpjhaaGreatDoorV17
import Derived.Test.YtmfmnmkipjpjhaaGreatDoorV05
import Derived.Deep.AppendSrc
import Derived.Lib.UnsafeStr
import Derived.Lib.Builder
import Derived.Laws.IdiomStrings
import Derived.Laws.Externs
import Derived.Test.YtmfmnmkipjpjhaaGreatDoorV08
import Derived.Test.YtmfmnmkipjpjhaaGreatDoorV09
set_option linter.unusedSimpArgs false
set_option linter.unusedVariables false
/- formula.Check, faultlineref08.Check. -/
namespace Go.Proofs.YtmfmnmkipjpjhaaGreatDoor
open Go.AI Go.PN
attribute [local irreducible] aw Fa Fh DrK
/-- Args are told. -/
def ArgsOk (f : FM) : Prop := ∀ x ∈ f.nodes, x.args.length ≤ 1099511627776
theorem ArgsOk.at {f : FM} (h : ArgsOk f) (i : Nat) : (f.nodes.getD i fn0).args.length ≤ 1099511627776 := by
  by_cases hi : i < f.nodes.length
  · rw [getFN hi]; exact h _ (List.getElem_mem hi)
  · rw [List.getD_eq_getElem?_getD, List.getElem?_eq_none (by omega)]; show 0 ≤ _; omega
set_option maxRecDepth 100000 in
set_option maxHeartbeats 3200000 in
theorem fcheck_fa (f : FM) (hn : f.nodes.length ≤ 1099511627776) (ha : ArgsOk f) (ht0 : -9223372036854775808 ≤ f.top) (ht : f.top ≤ 9223372036854775807) : Fa Tryz.prog 23 [.agg (fmc false f)] (.c (errA (fcode f))) := by
  unfold fcode
  refine fa_of_body Tryz.func23 rfl rfl (by simp [Tryz.ntmps23]) fun C hC => ?_
  simp only [initS, Nat.reduceAdd]
  refine xG ?_
  refine xB fun g1 hn_g1=>?_
  refine yG hn_g1 ?_
  refine aw_split 8 (zE hn_g1) (fun h1 => ?_) (fun h1 => ?_) <;> refine yS hn_g1 ?_
  · have h1' := of_decide_eq_true h1
    rw [if_pos (.inl h1')]
    refine yG hn_g1 ?_
    refine yP hn_g1 ?_
    refine yG hn_g1 ?_
    refine yT hC hn_g1 ?_
    exact .one (.c (ler_errN rfl (by decide)))
  have h1' := of_decide_eq_false h1
  refine yG hn_g1 ?_
  refine yF hn_g1 (fun h2=>?_) fun h2=>?_
  · have h2' := of_decide_eq_true h2
    rw [if_pos (.inr (by omega))]
    refine yG hn_g1 ?_
    refine yT hC hn_g1 ?_
    exact .one (.c (ler_errN rfl (by decide)))
  have h2' := of_decide_eq_false h2
  rw [if_neg (by omega)]
  refine yG hn_g1 ?_
  refine yF hn_g1 (fun h3=>?_) fun h3=>?_
  · have h3' := of_decide_eq_true h3
    rw [if_pos (by omega)]
    refine yG hn_g1 ?_
    refine yT hC hn_g1 ?_
    exact .one (.c (ler_errN rfl (by decide)))
  have h3' := of_decide_eq_false h3
  rw [if_neg (by omega)]
  refine yG hn_g1 ?_
  refine aw_lp (fun i : Nat => [(1, .c (.optr g1 0)), (21, .c (.int .i64 f.nodes.length)), (22, .c (.int .i64 i))]) (fun _ => [(g1, .cells 24 3 (ofL (fmc false f)))]) (fun i => i ≤ f.nodes.length ∧ ffirst f 0 f.nodes.length = ffirst f i (f.nodes.length - i)) (fun i => f.nodes.length - i) 0 (zB hn_g1) zZ ⟨Nat.zero_le _, rfl⟩ ?_
  rintro i ⟨hi, hf⟩
  refine yG hn_g1 ?_
  refine yF hn_g1 (fun h4=>?_) fun h4=>?_
  · have h4' : i < f.nodes.length := by have := of_decide_eq_true h4; omega
    refine yG hn_g1 ?_
    refine yC hn_g1 (fcheckNode_fa f i h4' ?_ ?_ ?_ (ha.at i)) ?_
    · omega
    · omega
    · omega
    refine yG hn_g1 ?_
    refine yF hn_g1 (fun h5=>?_) fun h5=>?_
    · have h5' : ¬ fncode f i = 0 := by simpa using h5
      rw [hf, ffirst_at h4' h5', if_pos h5']
      refine yG hn_g1 ?_
      refine yT hC hn_g1 ?_
      exact .one (.c ler_err)
    · have h5' : fncode f i = 0 := by simpa using h5
      refine yG hn_g1 ?_
      exact aw_stop ⟨i + 1, by omega, (zB hn_g1), zZ, by omega, by rw [hf]; exact ffirst_step h4' h5'⟩
  have h4' : i = f.nodes.length := by have := of_decide_eq_false h4; omega
  subst h4'
  rw [hf, Nat.sub_self, if_neg (by rw [ffirst]; simp)]
  refine yG hn_g1 ?_
  refine yC hn_g1 (fvalid_fa f f.top ?_ ht0 ht) ?_
  · omega
  refine yG hn_g1 ?_
  refine yF hn_g1 (fun h6=>?_) fun h6=>?_
  · have h6' : fvalidB f f.top = false := by simpa using h6
    rw [h6', if_neg (by simp)]
    refine yG hn_g1 ?_
    refine yT hC hn_g1 ?_
    exact .one (.c (ler_errN rfl (by decide)))
  · have h6' : fvalidB f f.top = true := by simpa using h6
    rw [h6', if_pos rfl]
    refine yG hn_g1 ?_
    refine yT hC hn_g1 ?_
    exact .one (.c (ler_err0 rfl))
set_option maxRecDepth 100000 in
set_option maxHeartbeats 3200000 in
theorem fnodeR_fa (f : FM) (i : Nat) (hi : i < f.nodes.length) (hv0 : 0 ≤ f.vars) (hv : f.vars ≤ 1000) (hil : i ≤ 1000000) (hal : (f.nodes.getD i fn0).args.length ≤ 1099511627776) :
    Fa Tryz.prog 41 [.agg (fmc false f), .c (.int .i64 i)] (.c (.int .i64 (fncode f i))) := by
  unfold fncode
  refine fa_of_body Tryz.func41 rfl rfl (by simp [Tryz.ntmps41]) fun C hC => ?_
  simp only [initS, Nat.reduceAdd]
  refine xG ?_
  refine xB fun g2 hn_g2=>?_
  refine yG hn_g2 ?_
  generalize hx : f.nodes.getD i fn0 = x at *
  refine yA (oj hn_g2 hx) fun g5 hn_g5=>?_
  refine yG (oj hn_g2 (oj hx hn_g5)) ?_
  refine yW (oj hn_g2 (oj hx hn_g5)) ?_
  refine yS (oj hn_g2 (oj hx hn_g5)) ?_
  refine yH (oj hn_g2 (oj hx hn_g5)) ?_
  apply aw_seq
  apply aw_region
  refine yH (oj hn_g2 (oj hx hn_g5)) ?_
  apply aw_seq
  refine aw_cut (fun y : Nat × Nat => [(1, .c (.int .i64 i)), (2, .c (.optr g2 0)), (5, .c (.optr g5 0)), (6, .c (.int .i64 y.1)), (7, .c (.int .i64 y.2))]) (fun _ => [(g5, .cells 72 3 (ofL [.int .i64 x.kind, .int .i64 x.k, is true x.args])), (g2, .cells 24 3 (ofL (fmc false f)))]) (fun y => (0 ≤ x.kind ∧ x.kind ≤ 5) ∧ arityB x.kind x.args.length = (decide (y.1 ≤ x.args.length) && decide (x.args.length ≤ y.2))) ?_ ?_
  · refine yG (oj hn_g2 (oj hx hn_g5)) ?_
    refine yF (oj hn_g2 (oj hx hn_g5)) (fun k0=>?_) fun k0=>?_
    · have k' : x.kind = 0 := eq_of_beq k0
      refine yG (oj hn_g2 (oj hx hn_g5)) ?_
      refine aw_stop ⟨(0, 0), (zB (oj hn_g2 (oj hx hn_g5))), zZ, by omega, ?_⟩
      unfold arityB
      rw [if_pos k', Bool.eq_iff_iff]; simp
    have k0' : ¬ x.kind = 0 := by simpa using k0
    refine yG (oj hn_g2 (oj hx hn_g5)) ?_
    refine yF (oj hn_g2 (oj hx hn_g5)) (fun k1=>?_) fun k1=>?_
    · have k' : x.kind = 1 := eq_of_beq k1
      refine yG (oj hn_g2 (oj hx hn_g5)) ?_
      refine aw_stop ⟨(1, 1), (zB (oj hn_g2 (oj hx hn_g5))), zZ, by omega, ?_⟩
      unfold arityB
      rw [if_neg k0', if_pos k', Bool.eq_iff_iff]
      simp only [decide_eq_true_eq, Bool.and_eq_true]
      omega
    have k1' : ¬ x.kind = 1 := by simpa using k1
    have hfin : 0 ≤ x.kind → x.kind ≤ 5 → (0 ≤ x.kind ∧ x.kind ≤ 5) ∧ arityB x.kind x.args.length = (decide (1 ≤ x.args.length) && decide (x.args.length ≤ 16)) := fun h1 h2 => by
      refine ⟨⟨h1, h2⟩, ?_⟩
      unfold arityB
      rw [if_neg k0', if_neg k1', Bool.eq_iff_iff]
      simp only [decide_eq_true_eq, Bool.and_eq_true]
      omega
    refine yG (oj hn_g2 (oj hx hn_g5)) ?_
    refine yF (oj hn_g2 (oj hx hn_g5)) (fun k2=>?_) fun k2=>?_
    · have k' : x.kind = 2 := eq_of_beq k2
      refine yG (oj hn_g2 (oj hx (oj hn_g5 k2))) ?_
      refine yP (oj hn_g2 (oj hx (oj hn_g5 k2))) ?_
      refine yG (oj hn_g2 (oj hx (oj hn_g5 k2))) ?_
      exact aw_stop ⟨(1, 16), (zB (oj hn_g2 (oj hx (oj hn_g5 k2)))), zZ, hfin (by omega) (by omega)⟩
    have k2' : ¬ x.kind = 2 := by simpa using k2
    refine yG (oj hn_g2 (oj hx hn_g5)) ?_
    refine yF (oj hn_g2 (oj hx hn_g5)) (fun k3=>?_) fun k3=>?_
    · have k' : x.kind = 3 := eq_of_beq k3
      refine yG (oj hn_g2 (oj hx (oj hn_g5 k3))) ?_
      refine yP (oj hn_g2 (oj hx (oj hn_g5 k3))) ?_
      refine yG (oj hn_g2 (oj hx (oj hn_g5 k3))) ?_
      exact aw_stop ⟨(1, 16), (zB (oj hn_g2 (oj hx (oj hn_g5 k3)))), zZ, hfin (by omega) (by omega)⟩
    have k3' : ¬ x.kind = 3 := by simpa using k3
    refine yG (oj hn_g2 (oj hx hn_g5)) ?_
    refine yF (oj hn_g2 (oj hx hn_g5)) (fun k4=>?_) fun k4=>?_
    · have k' : x.kind = 4 := eq_of_beq k4
      refine yG (oj hn_g2 (oj hx (oj hn_g5 k4))) ?_
      refine yP (oj hn_g2 (oj hx (oj hn_g5 k4))) ?_
      refine yG (oj hn_g2 (oj hx (oj hn_g5 k4))) ?_
      exact aw_stop ⟨(1, 16), (zB (oj hn_g2 (oj hx (oj hn_g5 k4)))), zZ, hfin (by omega) (by omega)⟩
    have k4' : ¬ x.kind = 4 := by simpa using k4
    refine yG (oj hn_g2 (oj hx hn_g5)) ?_
    refine yF (oj hn_g2 (oj hx hn_g5)) (fun k5=>?_) fun k5=>?_
    · have k' : x.kind = 5 := eq_of_beq k5
      refine yG (oj hn_g2 (oj hx hn_g5)) ?_
      exact aw_stop ⟨(1, 16), (zB (oj hn_g2 (oj hx hn_g5))), zZ, hfin (by omega) (by omega)⟩
    have k5' : ¬ x.kind = 5 := by simpa using k5
    rw [if_pos (by omega)]
    refine yG (oj hn_g2 (oj hx hn_g5)) ?_
    refine yT hC (oj hn_g2 (oj hx hn_g5)) ?_
    exact .one (.c (.int _ _))
  rintro ⟨least, most⟩ ⟨hkind, har⟩
  dsimp only at hkind har ⊢
  rw [if_neg (by omega)]
  refine yG (oj hn_g2 (oj hx hn_g5)) ?_
  refine aw_split 31 (zE (oj hn_g2 (oj hx hn_g5))) (fun a1 => ?_) (fun a1 => ?_) <;> refine yS (oj hn_g2 (oj hx hn_g5)) ?_
  · have a1' := of_decide_eq_true a1
    rw [if_pos (by rw [har, decide_eq_false (show ¬ least ≤ x.args.length by omega)]; rfl)]
    refine yG (oj hn_g2 (oj hx hn_g5)) ?_
    refine yP (oj hn_g2 (oj hx hn_g5)) ?_
    refine yG (oj hn_g2 (oj hx hn_g5)) ?_
    refine yT hC (oj hn_g2 (oj hx hn_g5)) ?_
    exact .one (.c (.int _ _))
  have a1' := of_decide_eq_false a1
  refine yG (oj hn_g2 (oj hx hn_g5)) ?_
  refine yF (oj hn_g2 (oj hx hn_g5)) (fun a2=>?_) fun a2=>?_
  · have a2' := of_decide_eq_true a2
    rw [if_pos (by rw [har, decide_eq_false (show ¬ x.args.length ≤ most by omega), Bool.and_false]; rfl)]
    refine yG (oj hn_g2 (oj hx hn_g5)) ?_
    refine yT hC (oj hn_g2 (oj hx hn_g5)) ?_
    exact .one (.c (.int _ _))
  have a2' := of_decide_eq_false a2
  rw [if_neg (by rw [har, decide_eq_true (show least ≤ x.args.length by omega), decide_eq_true (show x.args.length ≤ most by omega)]; simp)]
  refine yG (oj hn_g2 (oj hx hn_g5)) ?_
  refine aw_lp (fun j : Nat => [(1, .c (.int .i64 i)), (2, .c (.optr g2 0)), (5, .c (.optr g5 0)), (39, .c (is true x.args)), (40, .c (.int .i64 x.args.length)), (41, .c (.int .i64 j))]) (fun _ => [(g5, .cells 72 3 (ofL [.int .i64 x.kind, .int .i64 x.k, is true x.args])), (g2, .cells 24 3 (ofL (fmc false f)))]) (fun j => j ≤ x.args.length ∧ ∀ q, q < j → argOk f i (x.args.getD q 0) = true) (fun j => x.args.length - j) 0 (zB (oj hn_g2 (oj hx hn_g5))) zZ ⟨Nat.zero_le _, fun q hq => by omega⟩ ?_
  rintro j ⟨hj, hq⟩
  refine yG (oj hn_g2 (oj hx hn_g5)) ?_
  refine yF (oj hn_g2 (oj hx hn_g5)) (fun h4=>?_) fun h4=>?_
  · have h4' : j < x.args.length := by have := of_decide_eq_true h4; omega
    refine yG (oj hn_g2 (oj hx hn_g5)) ?_
    refine aw_split 47 (zE (oj hn_g2 (oj hx hn_g5))) (fun h5 => ?_) (fun h5 => ?_) <;> refine yS (oj hn_g2 (oj hx hn_g5)) ?_
    · have h5' := of_decide_eq_true h5
      rw [if_pos (by rw [all_not h4' (by unfold argOk; rw [decide_eq_false (by omega)]; rfl)]; rfl)]
      refine yG (oj hn_g2 (oj hx hn_g5)) ?_
      refine yP (oj hn_g2 (oj hx hn_g5)) ?_
      refine yG (oj hn_g2 (oj hx hn_g5)) ?_
      refine yT hC (oj hn_g2 (oj hx hn_g5)) ?_
      exact .one (.c (.int _ _))
    have h5' := of_decide_eq_false h5
    refine yG (oj hn_g2 (oj hx hn_g5)) ?_
    refine yF (oj hn_g2 (oj hx hn_g5)) (fun h6=>?_) fun h6=>?_
    · have h6' := of_decide_eq_true h6
      rw [if_pos (by rw [all_not h4' (by unfold argOk; rw [decide_eq_false (show ¬ x.args.getD j 0 < f.vars + i by omega), Bool.and_false])]; rfl)]
      refine yG (oj hn_g2 (oj hx hn_g5)) ?_
      refine yT hC (oj hn_g2 (oj hx hn_g5)) ?_
      exact .one (.c (.int _ _))
    have h6' := of_decide_eq_false h6
    refine yG (oj hn_g2 (oj hx hn_g5)) ?_
    refine aw_stop ⟨j + 1, by omega, (zB (oj hn_g2 (oj hx hn_g5))), zZ, by omega, fun q hql => ?_⟩
    by_cases e : q = j
    · subst e
      unfold argOk
      rw [decide_eq_true (by omega), decide_eq_true (by omega)]; rfl
    · exact hq q (by omega)
  have h4' : j = x.args.length := by have := of_decide_eq_false h4; omega
  subst h4'
  rw [if_neg (by rw [all_take hq]; simp)]
  unfold kcode
  refine yG (oj hn_g2 (oj hx hn_g5)) ?_
  refine yF (oj hn_g2 (oj hx hn_g5)) (fun k0=>?_) fun k0=>?_
  · have k0' : x.kind = 0 := eq_of_beq k0
    rw [if_pos k0']
    refine yG (oj hn_g2 (oj hx hn_g5)) ?_
    by_cases z0 : x.k = 0
    · have zz := ieq_t z0
      rw [if_neg (by omega)]
      refine yG (oj hn_g2 (oj hx (oj hn_g5 zz))) ?_
      refine yN (oj hn_g2 (oj hx (oj hn_g5 zz))) ?_
      refine yG (oj hn_g2 (oj hx (oj hn_g5 zz))) ?_
      refine yT hC (oj hn_g2 (oj hx (oj hn_g5 zz))) ?_
      exact .one (.c (.int _ _))
    · have zz := ieq_f z0
      refine yG (oj hn_g2 (oj hx (oj hn_g5 zz))) ?_
      refine yF (oj hn_g2 (oj hx (oj hn_g5 zz))) (fun k1=>?_) fun k1=>?_
      · have k1' : ¬ x.k = 1 := by simpa using k1
        rw [if_pos ⟨z0, k1'⟩]
        refine yG (oj hn_g2 (oj hx (oj hn_g5 zz))) ?_
        refine yT hC (oj hn_g2 (oj hx (oj hn_g5 zz))) ?_
        exact .one (.c (.int _ _))
      · have k1' : x.k = 1 := by simpa using k1
        rw [if_neg (by omega)]
        refine yG (oj hn_g2 (oj hx (oj hn_g5 zz))) ?_
        refine yT hC (oj hn_g2 (oj hx (oj hn_g5 zz))) ?_
        exact .one (.c (.int _ _))
  have k0' : ¬ x.kind = 0 := by simpa using k0
  rw [if_neg k0']
  refine yG (oj hn_g2 (oj hx hn_g5)) ?_
  refine yF (oj hn_g2 (oj hx hn_g5)) (fun k4=>?_) fun k4=>?_
  · have k4' : x.kind = 4 := eq_of_beq k4
    rw [if_pos k4']
    refine yG (oj hn_g2 (oj hx hn_g5)) ?_
    refine aw_split 76 (zE (oj hn_g2 (oj hx hn_g5))) (fun q1 => ?_) (fun q1 => ?_) <;> refine yS (oj hn_g2 (oj hx hn_g5)) ?_
    · have q1' := of_decide_eq_true q1
      rw [if_pos (.inl q1')]
      refine yG (oj hn_g2 (oj hx hn_g5)) ?_
      refine yP (oj hn_g2 (oj hx hn_g5)) ?_
      refine yG (oj hn_g2 (oj hx hn_g5)) ?_
      refine yT hC (oj hn_g2 (oj hx hn_g5)) ?_
      exact .one (.c (.int _ _))
    have q1' := of_decide_eq_false q1
    refine yG (oj hn_g2 (oj hx hn_g5)) ?_
    refine yF (oj hn_g2 (oj hx hn_g5)) (fun q2=>?_) fun q2=>?_
    · have q2' := of_decide_eq_true q2
      rw [if_pos (.inr (by omega))]
      refine yG (oj hn_g2 (oj hx hn_g5)) ?_
      refine yT hC (oj hn_g2 (oj hx hn_g5)) ?_
      exact .one (.c (.int _ _))
    · have q2' := of_decide_eq_false q2
      rw [if_neg (by omega)]
      refine yG (oj hn_g2 (oj hx hn_g5)) ?_
      refine yT hC (oj hn_g2 (oj hx hn_g5)) ?_
      exact .one (.c (.int _ _))
  have k4' : ¬ x.kind = 4 := by simpa using k4
  rw [if_neg k4']
  refine yG (oj hn_g2 (oj hx hn_g5)) ?_
  refine yF (oj hn_g2 (oj hx hn_g5)) (fun z1=>?_) fun z1=>?_
  · have z1' : ¬ x.k = 0 := by simpa using z1
    rw [if_pos z1']
    refine yG (oj hn_g2 (oj hx hn_g5)) ?_
    refine yT hC (oj hn_g2 (oj hx hn_g5)) ?_
    exact .one (.c (.int _ _))
  · have z1' : x.k = 0 := by simpa using z1
    rw [if_neg (by omega)]
    refine yG (oj hn_g2 (oj hx hn_g5)) ?_
    refine yT hC (oj hn_g2 (oj hx hn_g5)) ?_
    exact .one (.c (.int _ _))
set_option maxHeartbeats 800000 in
theorem fvalidR_fa (f : FM) (a : Int) (hv : f.vars ≤ 1000) (ha0 : -9223372036854775808 ≤ a) (ha : a ≤ 9223372036854775807) : Fa Tryz.prog 42 [.agg (fmc false f), .c (.int .i64 a)] (.c (.bool (fvalidB f a))) := by
  refine fa_of_body Tryz.func42 rfl rfl (by simp [Tryz.ntmps42]) fun C hC => ?_
  simp only [initS, Nat.reduceAdd]
  refine xG ?_
  refine xB fun g2 hn_g2=>?_
  refine yG hn_g2 ?_
  refine aw_split 8 (zE hn_g2) (fun h0 => ?_) (fun h0 => ?_) <;> refine yS hn_g2 ?_
  · have h0' := of_decide_eq_true h0
    refine yG hn_g2 ?_
    refine aw_split 12 (zE hn_g2) (fun h1 => ?_) (fun h1 => ?_) <;> refine yS hn_g2 ?_
    · have h1' := of_decide_eq_true h1
      refine yG hn_g2 ?_
      refine aw_split 17 (zE hn_g2) (fun h2 => ?_) (fun h2 => ?_) <;> refine yS hn_g2 ?_
      · refine yG hn_g2 ?_
        refine yT hC hn_g2 ?_
        refine .one (.c (ler_bool ?_))
        unfold fvalidB
        rw [h0, h1, h2]; rfl
      · refine yG hn_g2 ?_
        refine yT hC hn_g2 ?_
        refine .one (.c (ler_bool ?_))
        unfold fvalidB
        rw [h0, h1, h2]; rfl
    · refine yG hn_g2 ?_
      refine yT hC hn_g2 ?_
      refine .one (.c (ler_bool ?_))
      unfold fvalidB
      rw [h0, h1]; rfl
  · refine yG hn_g2 ?_
    refine yT hC hn_g2 ?_
    refine .one (.c (ler_bool ?_))
    unfold fvalidB
    rw [h0]; rfl
set_option maxRecDepth 100000 in
set_option maxHeartbeats 3200000 in
theorem fcheckR_fa (f : FM) (hn : f.nodes.length ≤ 1099511627776) (ha : ArgsOk f) (ht0 : -9223372036854775808 ≤ f.top) (ht : f.top ≤ 9223372036854775807) : Fa Tryz.prog 13 [.agg (fmc false f)] (.c (.int .i64 (fcode f))) := by
  unfold fcode
  refine fa_of_body Tryz.func13 rfl rfl (by simp [Tryz.ntmps13]) fun C hC => ?_
  simp only [initS, Nat.reduceAdd]
  refine xG ?_
  refine xB fun g1 hn_g1=>?_
  refine yG hn_g1 ?_
  refine aw_split 8 (zE hn_g1) (fun h1 => ?_) (fun h1 => ?_) <;> refine yS hn_g1 ?_
  · have h1' := of_decide_eq_true h1
    rw [if_pos (.inl h1')]
    refine yG hn_g1 ?_
    refine yP hn_g1 ?_
    refine yG hn_g1 ?_
    refine yT hC hn_g1 ?_
    exact .one (.c (.int _ _))
  have h1' := of_decide_eq_false h1
  refine yG hn_g1 ?_
  refine yF hn_g1 (fun h2=>?_) fun h2=>?_
  · have h2' := of_decide_eq_true h2
    rw [if_pos (.inr (by omega))]
    refine yG hn_g1 ?_
    refine yT hC hn_g1 ?_
    exact .one (.c (.int _ _))
  have h2' := of_decide_eq_false h2
  rw [if_neg (by omega)]
  refine yG hn_g1 ?_
  refine yF hn_g1 (fun h3=>?_) fun h3=>?_
  · have h3' := of_decide_eq_true h3
    rw [if_pos (by omega)]
    refine yG hn_g1 ?_
    refine yT hC hn_g1 ?_
    exact .one (.c (.int _ _))
  have h3' := of_decide_eq_false h3
  rw [if_neg (by omega)]
  refine yG hn_g1 ?_
  refine aw_lp (fun i : Nat => [(1, .c (.optr g1 0)), (19, .c (.int .i64 f.nodes.length)), (20, .c (.int .i64 i))]) (fun _ => [(g1, .cells 24 3 (ofL (fmc false f)))]) (fun i => i ≤ f.nodes.length ∧ ffirst f 0 f.nodes.length = ffirst f i (f.nodes.length - i)) (fun i => f.nodes.length - i) 0 (zB hn_g1) zZ ⟨Nat.zero_le _, rfl⟩ ?_
  rintro i ⟨hi, hf⟩
  refine yG hn_g1 ?_
  refine yF hn_g1 (fun h4=>?_) fun h4=>?_
  · have h4' : i < f.nodes.length := by have := of_decide_eq_true h4; omega
    refine yG hn_g1 ?_
    refine yC hn_g1 (fnodeR_fa f i h4' ?_ ?_ ?_ (ha.at i)) ?_
    · omega
    · omega
    · omega
    refine yG hn_g1 ?_
    refine yF hn_g1 (fun h5=>?_) fun h5=>?_
    · have h5' : ¬ fncode f i = 0 := by simpa using h5
      rw [hf, ffirst_at h4' h5', if_pos h5']
      refine yG hn_g1 ?_
      refine yT hC hn_g1 ?_
      exact .one (.c (.int _ _))
    · have h5' : fncode f i = 0 := by simpa using h5
      refine yG hn_g1 ?_
      exact aw_stop ⟨i + 1, by omega, (zB hn_g1), zZ, by omega, by rw [hf]; exact ffirst_step h4' h5'⟩
  have h4' : i = f.nodes.length := by have := of_decide_eq_false h4; omega
  subst h4'
  rw [hf, Nat.sub_self, if_neg (by rw [ffirst]; simp)]
  refine yG hn_g1 ?_
  refine yC hn_g1 (fvalidR_fa f f.top ?_ ht0 ht) ?_
  · omega
  refine yG hn_g1 ?_
  refine yF hn_g1 (fun h6=>?_) fun h6=>?_
  · have h6' : fvalidB f f.top = false := by simpa using h6
    rw [h6', if_neg (by simp)]
    refine yG hn_g1 ?_
    refine yT hC hn_g1 ?_
    exact .one (.c (.int _ _))
  · have h6' : fvalidB f f.top = true := by simpa using h6
    rw [h6', if_pos rfl]
    refine yG hn_g1 ?_
    refine yT hC hn_g1 ?_
    exact .one (.c (.int _ _))
end Go.Proofs.YtmfmnmkipjpjhaaGreatDoor

/- Arguments that are formulas. -/
namespace Go.Proofs.YtmfmnmkipjpjhaaGreatDoor
open Go.AI Go.PN Go.ChangeShapes Go.WideShapes Go.RowKit
theorem i64_ge {x : Int} (h : (Lit.int .i64 x).wf = true) : -9223372036854775808 ≤ x := by
  have hb : -9223372036854775808 ≤ x ∧ x ≤ 9223372036854775807 := by simpa [Lit.wf, IntKind.min, IntKind.max, IntKind.signed, IntKind.bits] using h
  exact hb.1
theorem i64_le {x : Int} (h : (Lit.int .i64 x).wf = true) : x ≤ 9223372036854775807 := by
  have hb : -9223372036854775808 ≤ x ∧ x ≤ 9223372036854775807 := by simpa [Lit.wf, IntKind.min, IntKind.max, IntKind.signed, IntKind.bits] using h
  exact hb.2
theorem rdr_args : Rdr Tryz.prog 70 (fun xs : List Int => [is true xs]) (fun xs n => xs.length ≤ n) :=
  (rdr_slice (0 : Int) true Tryz.underlying70 (s := 1) (by kernel_rfl) (by omega) (fun _ _ _ h _ => h) (rdr_int Tryz.underlying3)).to id (fun ys => by
    show [CV.row true 1 ys.length _] = [CV.row true 1 ys.length _]
    congr 2
    funext j
    show _ = ofL [CV.int .i64 (ys.getD (j / 1) 0)] (j % 1)
    rw [Nat.div_one, Nat.mod_one]
    rfl) (fun _ _ h => h.1)
theorem rdr_fnode : Rdr Tryz.prog 72 (fun r : FN => [CV.int .i64 r.kind, .int .i64 r.k, is true r.args]) (fun r n => r.args.length ≤ n) := by
  have r := rdr_struct3 Tryz.underlying72 (s0 := 1) (s1 := 1) (s2 := 1) (by kernel_rfl) (by kernel_rfl) (by kernel_rfl) (by kernel_rfl) rfl rfl rfl (rdr_int Tryz.underlying3) (rdr_int Tryz.underlying3) rdr_args (fun _ _ _ h _ => h) (fun _ _ _ h _ => h) (fun _ _ _ h hm => Nat.le_trans h hm)
  exact r.to (fun y => ⟨y.1, y.2.1, y.2.2⟩) (fun _ => rfl) (fun _ _ h => h.2.2)
theorem rdr_fnodes : Rdr Tryz.prog 22 (fun p : List FN => [fns false p]) (fun p n => p.length ≤ n ∧ ∀ x ∈ p, x.args.length ≤ n) :=
  (rdr_slice (B := fun (r : FN) n => r.args.length ≤ n) fn0 false Tryz.underlying22 (s := 3) (by kernel_rfl) (by omega) (fun _ _ _ h hm => Nat.le_trans h hm) rdr_fnode).to id (fun _ => rfl) (fun _ _ h => h)
theorem rdr_formula : Rdr Tryz.prog 24 (fun f : FM => fmc false f) (fun f n => f.nodes.length ≤ n ∧ (∀ x ∈ f.nodes, x.args.length ≤ n) ∧ (Lit.int .i64 f.top).wf = true) := by
  have r := rdr_struct3 Tryz.underlying24 (s0 := 1) (s1 := 1) (s2 := 1) (by kernel_rfl) (by kernel_rfl) (by kernel_rfl) (by kernel_rfl) rfl rfl rfl (rdr_int Tryz.underlying3) rdr_fnodes (rdr_int Tryz.underlying3) (fun _ _ _ h _ => h) (fun _ _ _ h hm => ⟨Nat.le_trans h.1 hm, fun x hx => Nat.le_trans (h.2 x hx) hm⟩) (fun _ _ _ h _ => h)
  exact r.to (fun y => ⟨y.1, y.2.1, y.2.2⟩) (fun _ => rfl) (fun _ _ h => ⟨h.2.1.1, h.2.1.2, h.2.2⟩)
theorem args_ok {f : FM} {n : Nat} (h : ∀ x ∈ f.nodes, x.args.length ≤ n) (hn : n ≤ 1099511627776) : ArgsOk f := fun x hx => Nat.le_trans (h x hx) hn
end Go.Proofs.YtmfmnmkipjpjhaaGreatDoor

/- Strings: their bytes in own blocks, appended bytes, unsafe pointers, what has no body. -/
namespace Go.AI
/-- Bytes, as cells. -/
def byF (l : List UInt8) (j : Nat) : CV := .int .u8 ((l.getD j 0).toNat : Int)
theorem byF_rep {S : Bool → Nat → Prop} {w : World} {l : List UInt8} {j : Nat} (h : j < l.length) {u : Value} (hr : RepC S w (byF l j) u) : u = .int .u8 ((l[j]).toNat : Int) := by
  have : u = .int .u8 ((l.getD j 0).toNat : Int) := hr
  rw [this, List.getD_eq_getElem?_getD, List.getElem?_eq_getElem h]; rfl
section
variable {P : Program} {h : Heap} {ρ : Operand → AV}
theorem POk.lenStr {t : TypeId} {x : Operand} {s : ByteArray} (ht : P.underlying t = some .string) (hx : ρ x = .c (.str s)) : POk P h ρ (.call { callee := .builtin .len, args := #[x], argTypes := #[t] }) (.c (.int .i64 s.size)) := fun S w e _ ho _ => by
  have h2 : e x = .string s := by have := ho x (by simp [Op.operands, Call.operands]); rw [hx] at this; exact this
  exact ⟨.int .i64 s.size, fun o hop => by simp [execOp, hop, resolve, invoke, Go.builtin, Builtin.len_, h2, run_underlying ht, goInt], rfl⟩
/-- The bytes of an own row, as a string. -/
theorem POk.bytesStr {s d el ty : TypeId} {x : Operand} {g m : Nat} {f : Nat → CV} {l : List UInt8} (hs : P.underlying s = some (.slice el)) (he : P.underlying el = some (.int .u8)) (hd : P.underlying d = some .string) (hx : ρ x = .c (.osl g 1 0 l.length))
    (hg : h.get g = some (.cells ty m f)) (hm : l.length ≤ m) (hf : ∀ j, j < l.length → f j = byF l j) : POk P h ρ (.convert s d x) (.c (.str ⟨l.toArray⟩)) := fun S w e _ ho hh => by
  have h2 := ho x (by simp [Op.operands])
  rw [hx] at h2
  obtain ⟨c, hv, _, _, _⟩ := h2
  obtain ⟨cs, hb, hn, hj⟩ := hh _ _ (Heap.get_mem hg)
  refine ⟨.string ⟨l.toArray⟩, fun o hop => ?_, rfl⟩
  have := run_convert_bytes_back (P := P) w s d el ⟨g, 0, none⟩ c l hs he hd (fun j hjl => by
    obtain ⟨u, hu, hr⟩ := hj j (by omega)
    rw [hf j hjl] at hr
    rw [add_mk, cell_own hb, Nat.zero_add, hu, byF_rep hjl hr])
  simp [execOp, hop, hv, this]
/-- A slice of an own array. -/
theorem POk.sliceArr {t el ty : TypeId} {x : Operand} {g n m : Nat} {f : Nat → CV} (ht : P.underlying t = some (.array n el)) (hz : P.cellsOf el = 1) (hi : (P.info? el).isSome = true) (hx : ρ x = .c (.optr g 0)) (hg : h.get g = some (.cells ty m f)) (hm : n ≤ m) (h63 : n ≤ maxLen) :
    POk P h ρ (.slice t x none none none) (.c (.osl g 1 0 n)) := fun S w e _ ho hh => by
  have h2 : e x = .pointer (some ⟨g, 0, none⟩) := by have := ho x (by simp [Op.operands]); rw [hx] at this; exact this
  obtain ⟨cs, hb, hn, hj⟩ := hh _ _ (Heap.get_mem hg)
  obtain ⟨i, hi'⟩ := Option.isSome_iff_exists.1 hi
  refine ⟨.slice (some ⟨g, 0, none⟩) n n, fun o hop => ?_, n, rfl, Nat.le_refl _, h63, cs, ty, ⟨_, hb⟩, by omega⟩
  by_cases h0 : n = 0
  · simp [execOp, hop, h2, Instr.sliceAt, run_underlying ht, Instr.sureAddr, Instr.sliceBounds, sizeOf, typeInfo, hi', h0]
  · have h0' : ¬ 0 = n := fun e => h0 e.symm
    simp [execOp, hop, h2, Instr.sliceAt, run_underlying ht, Instr.sureAddr, Instr.sliceBounds, sizeOf, typeInfo, hi', h0]
    exact add_mk g 0 0
theorem run_equalIn_pn (d : Nat) {t el : TypeId} (ht : P.underlying t = some (.pointer el)) (w : World) : (Op.equalIn (d + 1) t (.pointer none) (.pointer none)).run P w = .ok true w := by
  simp [Op.equalIn, run_underlying ht]
theorem run_equalIn_pa (d : Nat) {t el : TypeId} (ht : P.underlying t = some (.pointer el)) (a : Addr) (w : World) : (Op.equalIn (d + 1) t (.pointer (some a)) (.pointer none)).run P w = .ok false w := by
  simp [Op.equalIn, run_underlying ht]
theorem run_eqGuard_ptr (op : BinOp) (t : TypeId) (x y : Operand) (a b : Option Addr) (w : World) : (eqGuard op t x y (.pointer a) (.pointer b)).run P w = .ok () w := by
  unfold eqGuard
  cases op <;> simp
/-- Is a pointer nil? -/
theorem POk.eqPtr {t t' : TypeId} {x y : Operand} {a : CV} {b : Bool} {el : TypeId} (ht : P.underlying t = some (.pointer el)) (hx : ρ x = .c a) (hy : ρ y = .c (.raw (.pointer none))) (ha : (a = .raw (.pointer none) ∧ b = true) ∨ ∃ g, a = .optr g 0 ∧ b = false) : POk P h ρ (.binOp .eql t x y t') (.c (.bool b)) := fun S w e _ ho _ => by
  have h1 := ho x (by simp [Op.operands])
  have h2 := ho y (by simp [Op.operands])
  rw [hx] at h1
  rw [hy] at h2
  have h2' : e y = .pointer none := h2
  rcases ha with ⟨rfl, rfl⟩ | ⟨g, rfl, rfl⟩
  · have h1' : e x = .pointer none := h1
    refine ⟨.bool true, fun o hop => exec_bin hop (by rw [h1', h2']; exact run_eqGuard_ptr ..) ?_, rfl⟩
    rw [h1', h2']
    simp only [Go.binOp]
    simp [Op.equal, Op.maxDepth, run_equalIn_pn 9999 ht]
  · have h1' : e x = .pointer (some ⟨g, 0, none⟩) := h1
    refine ⟨.bool false, fun o hop => exec_bin hop (by rw [h1', h2']; exact run_eqGuard_ptr ..) ?_, rfl⟩
    rw [h1', h2']
    simp only [Go.binOp]
    simp [Op.equal, Op.maxDepth, run_equalIn_pa 9999 ht]
/-- Are two pointers to one own block the same? -/
theorem POk.neqPtr {t t' : TypeId} {x y : Operand} {g : Nat} {el : TypeId} {j : TypeInfo} (ht : P.underlying t = some (.pointer el)) (hj : P.info? el = some j) (hx : ρ x = .c (.optr g 0)) (hy : ρ y = .c (.optr g 0)) : POk P h ρ (.binOp .neq t x y t') (.c (.bool false)) := fun S w e _ ho _ => by
  have h1 : e x = .pointer (some ⟨g, 0, none⟩) := by have := ho x (by simp [Op.operands]); rw [hx] at this; exact this
  have h2 : e y = .pointer (some ⟨g, 0, none⟩) := by have := ho y (by simp [Op.operands]); rw [hy] at this; exact this
  exact ⟨.bool false, fun o hop => exec_bin hop (by rw [h1, h2]; exact run_eqGuard_ptr ..) (by rw [h1, h2]; exact Lib.run_neq_ptr_same w _ ht hj), rfl⟩
/-- A pointer to an own block becomes an unsafe one, and one again. -/
theorem POk.toUnsafe {s d t ty : TypeId} {x : Operand} {g m : Nat} {f : Nat → CV} {j : TypeInfo} (hs : P.underlying s = some (.pointer t)) (hd : P.underlying d = some .unsafePointer) (hj : P.info? t = some j) (hj0 : j.size ≠ 0) (hx : ρ x = .c (.optr g 0)) (hg : h.get g = some (.cells ty m f)) (hm : 0 < m) :
    POk P h ρ (.convert s d x) (.c (.optr g 0)) := fun S w e _ ho hh => by
  have h2 : e x = .pointer (some ⟨g, 0, none⟩) := by have := ho x (by simp [Op.operands]); rw [hx] at this; exact this
  obtain ⟨cs, hb, hn, _⟩ := hh _ _ (Heap.get_mem hg)
  have hsh : w.shape? g = some (ty, cs.size) := by simp [World.shape?, hb]
  refine ⟨_, fun o hop => ?_, rfl⟩
  have := Lib.run_to_unsafe (P := P) w ⟨g, 0, none⟩ hs hd hj hj0 hsh (by show 0 < cs.size; omega)
  simp [execOp, hop, h2, this]
theorem liesAt_self {e : TypeId} {n count : Nat} (hc : P.cellsOf e = n) (hn : 0 < n) (h1 : 1 ≤ count) : liesAt P P.depth e count 0 e 1 = true := by
  have hd : P.depth = (2 * (P.types.size + Made.depth) + 1) + 1 := rfl
  rw [hd]
  simp only [liesAt, Bool.or_eq_true]
  left
  rw [hd]
  simp [rowAt, hc, sameLayout]
  omega
theorem POk.fromUnsafe {s d u : TypeId} {x : Operand} {g m n : Nat} {f : Nat → CV} {j : TypeInfo} (hs : P.underlying s = some .unsafePointer) (hd : P.underlying d = some (.pointer u)) (hj : P.info? u = some j) (hc : P.cellsOf u = n) (hn0 : 0 < n) (hx : ρ x = .c (.optr g 0)) (hg : h.get g = some (.cells u m f)) (hm : n ≤ m) :
    POk P h ρ (.convert s d x) (.c (.optr g 0)) := fun S w e _ ho hh => by
  have h2 : e x = .pointer (some ⟨g, 0, none⟩) := by have := ho x (by simp [Op.operands]); rw [hx] at this; exact this
  obtain ⟨cs, hb, hn, _⟩ := hh _ _ (Heap.get_mem hg)
  have hsh : w.shape? g = some (u, cs.size) := by simp [World.shape?, hb]
  refine ⟨_, fun o hop => ?_, rfl⟩
  have := Lib.run_from_unsafe (P := P) w ⟨g, 0, none⟩ hs hd hj hsh (liesAt_self hc hn0 (by rw [hc]; exact (Nat.le_div_iff_mul_le hn0).2 (by omega)))
  simp [execOp, hop, h2, this]
/-- internal/abi.NoEscape. -/
theorem POk.noEscape {f : FuncId} {fn : Func} {x : Operand} {ts : Array TypeId} {a : CV} (hf : P.funcs[f]? = some fn) (hname : (fn.name == "runtime.NumGoroutine") = false) (hb : fn.body.isNone = true) (hn : Extern.findNext fn = none) (he : Extern.find fn = some Extern.AbiNoEscape.same) (hk : ρ (.func f) = .c (.raw (.func (.func f) #[] #[]))) (hx : ρ x = .c a) :
    POk P h ρ (.call { callee := .value (.func f), args := #[x], argTypes := ts }) (.c a) := fun S w e _ ho _ => by
  have h1 := ho x (by simp [Op.operands, Call.operands])
  rw [hx] at h1
  refine ⟨e x, fun o hop => ?_, h1⟩
  have := run_callFunc_extern (P := P) hf hname hb hn he #[e x] w
  rw [Lib.run_noEscape] at this
  have h3 := ho (.func f) (by simp [Op.operands, Call.operands])
  rw [hk] at h3
  have h3' : e (.func f) = .func (.func f) #[] #[] := h3
  simp [execOp, hop, resolve, invoke, h3', Deferred.ofValue, this, Result.andThen]
/-- The first cell of an own row that grows. -/
theorem POk.sliceData {t : TypeId} {x : Operand} {g n : Nat} (hx : ρ x = .c (.osl g 1 0 n)) (hn : 0 < n) : POk P h ρ (.call { callee := .builtin .unsafeSliceData, args := #[x], argTypes := #[t] }) (.c (.optr g 0)) := fun S w e _ ho _ => by
  have h2 := ho x (by simp [Op.operands, Call.operands])
  rw [hx] at h2
  obtain ⟨c, hv, hnc, _⟩ := h2
  refine ⟨_, fun o hop => ?_, rfl⟩
  have := Lib.run_unsafeSliceData_row (P := P) (w := w) #[t] o.type ⟨g, 0, none⟩ n c (by omega)
  simp [execOp, hop, resolve, invoke, Go.builtin, hv, this]
theorem POk.sliceDataN {t : TypeId} {x : Operand} (hx : ρ x = .c (.raw (.slice none 0 0))) : POk P h ρ (.call { callee := .builtin .unsafeSliceData, args := #[x], argTypes := #[t] }) (.c (.raw (.pointer none))) := fun S w e _ ho _ => by
  have h2 := ho x (by simp [Op.operands, Call.operands])
  rw [hx] at h2
  have hv : e x = .slice none 0 0 := h2
  refine ⟨_, fun o hop => ?_, rfl⟩
  have := Lib.run_unsafeSliceData_nil (P := P) (w := w) #[t] o.type 0 0
  simp [execOp, hop, resolve, invoke, Go.builtin, hv, this]
end
end Go.AI

/- A string's bytes are appended to an own row of bytes; an own row's bytes become a string. -/
namespace Go.AI
/-- A row of bytes that grows: nil as it is laid, or block g. -/
def gsR (og : Option Nat) (n : Nat) : CV := match og with
  | none => .raw (.slice none 0 0)
  | some g => .osl g 1 0 n
theorem byteCells_get (s : ByteArray) (j : Nat) (h : j < s.size) : (byteCells s)[j]? = some (.int .u8 ((s.data.toList.getD j 0).toNat : Int)) := by
  have h' : j < s.data.toList.length := by rw [Array.length_toList]; exact h
  unfold byteCells
  rw [List.getElem?_map, List.getElem?_eq_getElem h', List.getD_eq_getElem?_getD, List.getElem?_eq_getElem h']
  rfl
theorem append_str_own {P : Program} {w : World} {t tx ty e bytes n c g : Nat} {z : List CV} {cs : Array Value} {s : ByteArray} (ht : tElem P t = some (e, 1, bytes)) (htx : P.underlying tx = some .string) (hz : tZero P e = some z) (hzl : z.length = 1)
    (hb : w.heap[g]? = some (.cells cs e (0, 0))) (hcs : c ≤ cs.size) (hnc : n ≤ c) (hcm : c ≤ maxLen) (h63 : n + s.size ≤ maxLen) (hby : (n + s.size) * bytes ≤ 140737488355328) :
    ∃ g' c' w' cs', (Builtin.append_ #[t, tx] ty #[.slice (some ⟨g, 0, none⟩) n c, .string s]).run P w = .ok (.slice (some ⟨g', 0, none⟩) (n + s.size) c') w' ∧ w'.heap[g']? = some (.cells cs' e (0, 0)) ∧ c' ≤ cs'.size ∧ n + s.size ≤ c' ∧ c' ≤ maxLen ∧
      (∀ j, j < n → cs'[j]? = cs[j]?) ∧ (∀ j, j < s.size → cs'[n + j]? = (byteCells s)[j]?) ∧ (g' = g ∨ g' = w.heap.size) ∧ Fr (fun b => b = g) w w' := by
  obtain ⟨hu, inf, hi, hsz, hbb⟩ := tElem_spec ht
  obtain ⟨i', zv, hi', hzv, rfl⟩ := tZero_spec hz
  rw [hi] at hi'
  injection hi' with hi'
  subst hi'
  subst hbb
  have hzs : zv.cells.size = 1 := by simpa using hzl
  have h63' : n + s.size ≤ 9223372036854775807 := by simp only [maxLen] at h63; omega
  have hnl := byteCells_length s
  have h1 : ∀ u ∈ byteCells s, u.oneCell' = true := (Go.Src.ofString (P := P) w htx s).one
  by_cases hroom : n + s.size ≤ c
  · have hfit : n + (byteCells s).length ≤ cs.size := by rw [hnl]; omega
    have hst := run_storeCells_at P g n e (byteCells s) 0 cs w hb (by simpa using hfit) h1
    simp only [Nat.add_zero] at hst
    have hf := firstCells_string (P := P) s w
    have hr : (Builtin.append_ #[t, tx] ty #[.slice (some ⟨g, 0, none⟩) n c, .string s]).run P w = .ok (.slice (some ⟨g, 0, none⟩) (n + s.size) c) (w.setRow g (cs.toList.take n ++ byteCells s ++ cs.toList.drop (n + (byteCells s).length)).toArray) := by
      simp [Builtin.append_, run_underlying hu, run_underlying htx, sizeOf, typeInfo, hi, hsz, Builtin.lenOf, hroom, hf, Addr.add_lit, hst]
    refine ⟨g, c, _, _, hr, setRow_heap w g cs _ e _ hb, ?_, hroom, hcm, fun j hj => ?_, fun j hj => ?_, .inl rfl, Fr.setRow hb ?_⟩
    · refine Nat.le_trans hcs ?_; simp only [List.size_toArray, List.length_append, List.length_take, List.length_drop, Array.length_toList]; omega
    · simp only [List.getElem?_toArray, List.append_assoc]
      rw [List.getElem?_append_left (by simp; omega), List.getElem?_take]
      simp [hj]
    · simp only [List.getElem?_toArray, List.append_assoc]
      rw [List.getElem?_append_right (by simp; omega), List.getElem?_append_left (by simp; omega)]
      simp [Nat.min_eq_left (show n ≤ cs.size by omega)]
    · simp only [List.size_toArray, List.length_append, List.length_take, List.length_drop, Array.length_toList]; omega
  · have hold : ∀ j v, (cs.toList.take n)[j]? = some v → w.drew.cell? ((⟨g, 0, none⟩ : Addr).add j) = some v := by
      intro j v hv
      rw [show w.drew.cell? ((⟨g, 0, none⟩ : Addr).add j) = w.cell? ((⟨g, 0, none⟩ : Addr).add j) from rfl, add_mk, cell_own hb, Nat.zero_add]
      rw [List.getElem?_take] at hv
      split at hv
      · simpa using hv
      · cases hv
    have hol : (cs.toList.take n).length = n := by simp; omega
    have hfc := run_firstCells_some (P := P) w.drew 1 n ⟨g, 0, none⟩ n c (cs.toList.take n) (by rw [hol, Nat.mul_one]) hold
    have hS : Go.Src P inf.size tx (.string s) s.size (byteCells s) w := by rw [hsz]; exact Go.Src.ofString w htx s
    have hr := run_append_grow_src (P := P) w t tx ty e inf zv hu hi hzv (some ⟨g, 0, none⟩) n c _ (by rw [hsz]; exact hfc) (.string s) s.size _ hS (by omega) (by omega) (growslice_fits (by omega) hby)
    have hge := grownCap_ge w (n + s.size) c e
    refine ⟨w.heap.size, _, _, _, hr, heap_alloc_new w.drew _, ?_, hge, grownCap_le_maxLen w (n + s.size) c e h63, fun j hj => ?_, fun j hj => ?_, .inr rfl, ?_⟩
    · refine Nat.le_of_eq ?_
      simp only [Array.size_append, List.size_toArray, List.length_append, size_zeroCells, hzs, hol, hnl, Nat.mul_one]
      omega
    · rw [Array.getElem?_append_left (by simp; omega)]
      simp only [List.getElem?_toArray]
      rw [List.getElem?_append_left (by rw [hol]; exact hj), List.getElem?_take]
      simp [hj]
    · rw [Array.getElem?_append_left (by simp [hnl]; omega)]
      simp only [List.getElem?_toArray]
      rw [List.getElem?_append_right (by rw [hol]; omega), hol]
      simp
    · exact (Fr.drew (fun b => b = g) w (w.drawn + 1)).trans (Fr.alloc (fun _ => False) w.drew _) (fun x hx _ => hx.elim)
theorem append_str_new {P : Program} {w : World} {t tx ty e bytes : Nat} {z : List CV} {s : ByteArray} (ht : tElem P t = some (e, 1, bytes)) (htx : P.underlying tx = some .string) (hz : tZero P e = some z) (hzl : z.length = 1) (hk : 0 < s.size) (h63 : s.size ≤ maxLen) (hby : s.size * bytes ≤ 140737488355328) :
    ∃ c' w' cs', (Builtin.append_ #[t, tx] ty #[.slice none 0 0, .string s]).run P w = .ok (.slice (some ⟨w.heap.size, 0, none⟩) s.size c') w' ∧ w'.heap[w.heap.size]? = some (.cells cs' e (0, 0)) ∧ c' ≤ cs'.size ∧ s.size ≤ c' ∧ c' ≤ maxLen ∧
      (∀ j, j < s.size → cs'[j]? = (byteCells s)[j]?) ∧ Fr (fun _ => False) w w' := by
  obtain ⟨hu, inf, hi, hsz, hbb⟩ := tElem_spec ht
  obtain ⟨i', zv, hi', hzv, rfl⟩ := tZero_spec hz
  rw [hi] at hi'
  injection hi' with hi'
  subst hi'
  subst hbb
  have hzs : zv.cells.size = 1 := by simpa using hzl
  have hnl := byteCells_length s
  have h63' : s.size ≤ 9223372036854775807 := by simp only [maxLen] at h63; omega
  have hS : Go.Src P inf.size tx (.string s) s.size (byteCells s) w := by rw [hsz]; exact Go.Src.ofString w htx s
  have hr := run_append_grow_src (P := P) w t tx ty e inf zv hu hi hzv none 0 0 [] (by rw [hsz]; exact run_firstCells_none w.drew 1 0 0 0) (.string s) s.size _ hS (by omega) (by omega) (growslice_fits (by omega) (by simpa using hby))
  rw [Nat.zero_add] at hr
  have hge := grownCap_ge w s.size 0 e
  refine ⟨_, _, _, hr, heap_alloc_new w.drew _, ?_, hge, grownCap_le_maxLen w s.size 0 e h63, fun j hj => ?_, ?_⟩
  · refine Nat.le_of_eq ?_
    simp only [Array.size_append, List.size_toArray, List.length_append, List.length_nil, size_zeroCells, hzs, hnl, Nat.mul_one]
    omega
  · rw [Array.getElem?_append_left (by simp [hnl]; omega)]
    simp
  · exact (Fr.drew (fun _ => False) w (w.drawn + 1)).trans (Fr.alloc (fun _ => False) w.drew _) (fun x hx _ => hx.elim)
theorem append_str_none {P : Program} {w : World} {t tx ty e bytes : Nat} {s : ByteArray} (ht : tElem P t = some (e, 1, bytes)) (htx : P.underlying tx = some .string) (hk : s.size = 0) :
    (Builtin.append_ #[t, tx] ty #[.slice none 0 0, .string s]).run P w = .ok (.slice none 0 0) w := by
  obtain ⟨hu, inf, hi, hsz, hbb⟩ := tElem_spec ht
  have hf := firstCells_string (P := P) s w
  rw [hk] at hf
  simp [Builtin.append_, run_underlying hu, run_underlying htx, sizeOf, typeInfo, hi, hsz, Builtin.lenOf, hk, hf]
section
variable {E : Env} {K : List It} {σ σ' : Sl} {h : Heap} {all rest : List Oper} {o : Oper}
theorem exec_appendS {P : Program} {o : Oper} {s x : Operand} {t tx : TypeId} {e : Operand → Value} {w w' : World} {v : Value} (hop : o.op = .call { callee := .builtin .append, args := #[s, x], argTypes := #[t, tx] })
    (hr : (Builtin.append_ #[t, tx] o.type #[e s, e x]).run P w = .ok v w') : (execOp e o).run P w = .ok (.value v) w' := by
  simp only [execOp, hop, resolve, invoke, Go.builtin, Sem.run_bind, Sem.run_pure, Result.andThen_ok, List.map_toArray, List.map_cons, List.map_nil, hr]
/-- append(b, s...): a string's bytes. -/
theorem aw_appendStr {t tx e bytes n : Nat} {z : List CV} {og : Option Nat} {f : Nat → CV} {pre : Heap} {s x : Operand} {bs : ByteArray} (hop : o.op = .call { callee := .builtin .append, args := #[s, x], argTypes := #[t, tx] }) (hw : wantA all σ o = some true) (hd : dstOk E.N o.dst = true)
    (ht : tElem E.P t = some (e, 1, bytes)) (htx : E.P.underlying tx = some .string) (hz : tZero E.P e = some z) (hzl : z.length = 1) (hs : ev σ s = .c (gsR og n)) (hx : ev σ x = .c (.str bs)) (hog : og = none → n = 0) (hh : h = pre ++ gh og e n f)
    (h63 : n + bs.size ≤ maxLen) (hby : (n + bs.size) * bytes ≤ 140737488355328)
    (kk : ∀ og', (og' = none → n + bs.size = 0) → (∀ g', og' = some g' → og = some g' ∨ g' ∉ h.keys) → aw E (.ops all rest :: K) (σ.setO o.dst (.c (gsR og' (n + bs.size)))) (pre ++ gh og' e (n + bs.size) (appF f n (byF bs.data.toList)))) : aw E (.ops all (o :: rest) :: K) σ h := by
  have hsz' : bs.data.toList.length = bs.size := by rw [Array.length_toList]; rfl
  cases og with
  | none =>
    have hn := hog rfl
    subst hn
    by_cases hk : bs.size = 0
    · refine aw_step (σ' := σ.setO o.dst (.c (gsR none (0 + bs.size)))) (h' := pre ++ gh none e (0 + bs.size) (appF f 0 (byF bs.data.toList))) hw (fun a w st => ?_) (kk none (fun _ => by omega) (fun g' e => by cases e))
      have r1 := ev_rep st s
      have r2 := ev_rep st x
      rw [hs] at r1
      rw [hx] at r2
      have v1 : a.eval s = .slice none 0 0 := r1
      have v2 : a.eval x = .string bs := r2
      refine ⟨.slice none 0 0, w, .inl (exec_appendS hop (by rw [v1, v2]; exact append_str_none ht htx hk)), ?_⟩
      subst hh
      exact st.put hd (r := .c (gsR none (0 + bs.size))) (v := .slice none 0 0) rfl
    · have hp : h = pre := by rw [hh]; simp [gh]
      subst hp
      refine aw_new (r := fun g => .c (gsR (some g) (0 + bs.size))) (ob := .cells e (0 + bs.size) (appF f 0 (byF bs.data.toList))) hw hd (fun a w st => ?_) fun g' hg' => ?_
      · have r1 := ev_rep st s
        have r2 := ev_rep st x
        rw [hs] at r1
        rw [hx] at r2
        have v1 : a.eval s = .slice none 0 0 := r1
        have v2 : a.eval x = .string bs := r2
        obtain ⟨c', w', cs', hrun, hb', hcs', hle', hcm', hnew, hfr⟩ := append_str_new (P := E.P) (w := w) (ty := o.type) (s := bs) ht htx hz hzl (by omega) (by omega) (by simpa using hby)
        have hlt : w.heap.size < w'.heap.size := (Array.getElem?_eq_some_iff.1 hb').1
        refine ⟨_, w', exec_appendS hop (by rw [v1, v2]; exact hrun), hfr, hlt, ⟨cs', hb', by omega, fun j hjl => ?_⟩, c', by rw [Nat.zero_add], by omega, hcm', cs', e, ⟨_, hb'⟩, by omega⟩
        have hjl' : j < bs.size := by omega
        rw [hnew j hjl', byteCells_get bs j hjl']
        refine ⟨_, rfl, ?_⟩
        unfold appF
        rw [if_neg (by omega), Nat.sub_zero]
        rfl
      · refine aw_perm (h' := h ++ [(g', .cells e (0 + bs.size) (appF f 0 (byF bs.data.toList)))]) (List.perm_append_singleton _ _).symm ?_
        exact kk (some g') (fun e => by cases e) (fun g2 e => by cases e; exact .inr hg')
  | some g =>
    refine aw_nd fun hnd => ?_
    have hnp : g ∉ pre.keys := fun hm => by
      rw [hh] at hnd
      simp only [Heap.keys, gh, List.map_append, List.map_cons, List.map_nil] at hnd
      exact (List.nodup_append.1 hnd).2.2 g hm g (by simp) rfl
    have hget : h.get g = some (.cells e n f) := by rw [hh]; exact Heap.get_app hnp
    have hdel : h.del g = pre := by rw [hh]; exact Heap.del_app hnp
    intro a w st
    have r1 := ev_rep st s
    have r2 := ev_rep st x
    rw [hs] at r1
    rw [hx] at r2
    have v2 : a.eval x = .string bs := r2
    obtain ⟨c, hv1, hnc, hcm, cs0, ty0, ⟨_, hb0⟩, hcs0⟩ := r1
    obtain ⟨cs, hb, hn, hj⟩ := st.heap g _ (Heap.get_mem hget)
    rw [hb] at hb0
    injection hb0 with hb0
    injection hb0 with hb0 _
    subst hb0
    obtain ⟨g', c', w', cs', hrun, hb', hcs', hle', hcm', hold, hnew, hat, hfr⟩ := append_str_own (P := E.P) (w := w) (ty := o.type) (s := bs) ht htx hz hzl hb (by simpa using hcs0) hnc hcm h63 hby
    obtain ⟨st', hnot⟩ := st.replace (ob' := .cells e (n + bs.size) (appF f n (byF bs.data.toList))) hget hfr hat (fun kp => ⟨cs', hb', by omega, fun j hjl => by
      unfold appF
      by_cases hjn : j < n
      · rw [if_pos hjn, hold j hjn]
        obtain ⟨u, hu, hr⟩ := hj j (by omega)
        exact ⟨u, hu, hr.keep kp⟩
      · rw [if_neg hjn]
        have hjk : j - n < bs.size := by omega
        have := hnew (j - n) hjk
        rw [show n + (j - n) = j from by omega] at this
        rw [this, byteCells_get bs _ hjk]
        exact ⟨_, rfl, rfl⟩⟩)
    rw [hdel] at st' hnot
    have st2 := st'.put hd (r := .c (gsR (some g') (n + bs.size))) (v := .slice (some ⟨g', 0, none⟩) (n + bs.size) c') ⟨c', rfl, hle', hcm', cs', e, ⟨_, hb'⟩, by omega⟩
    have hk' := aw_perm (E := E) (List.perm_append_singleton _ _).symm (kk (some g') (fun e => by cases e) (fun g2 e => by
      cases e
      rcases hat with rfl | rfl
      · exact .inl rfl
      · exact .inr fun hm => Nat.lt_irrefl _ (st.klt hm))) _ _ st2
    show wpList _ _ _ _ _ _
    unfold wpList
    rw [if_pos (st.wanted hw)]
    refine .inl ?_
    unfold Oper.wp
    rw [exec_appendS hop (by rw [hv1, v2]; exact hrun)]
    exact hk'
end
end Go.AI

/- Operations by hand inside drawn regions; a builder's block as it is laid; an own row's bytes become a string. -/
namespace Go.AI
def zeroL (P : Program) (t : TypeId) : Option (List Value) := ((P.info? t).bind (·.zero)).map fun z => z.cells.toList
theorem zeroL_spec {P : Program} {t : TypeId} {vs : List Value} (hz : zeroL P t = some vs) : ∃ i v, P.info? t = some i ∧ i.zero = some v ∧ vs = v.cells.toList := by
  unfold zeroL at hz
  cases hi : P.info? t with
  | none => simp [hi] at hz
  | some i =>
    cases hv : i.zero with
    | none => simp [hi, hv] at hz
    | some v => simp [hi, hv] at hz; exact ⟨i, v, rfl, hv, hz.symm⟩
theorem rawL_rep (S : Bool → Nat → Prop) (w : World) : ∀ l : List Value, RepL S w (l.map CV.raw) l
  | [] => trivial
  | v :: l => ⟨rfl, rawL_rep S w l⟩
section
variable {E : Env} {K : List It} {σ σ' : Sl} {h : Heap} {all rest l : List Oper} {o : Oper}
theorem Calm.pok {r : AV} (hw : wantA l σ o = some true) (hp : POk E.P h (ev σ) o.op r) (hd : dstOk E.N o.dst = true) : Calm E h l σ o r := by
  refine ⟨hd, fun σ' a w Q hs s => ?_⟩
  rw [if_pos (s.wanted ((want_same hs).trans hw))]
  obtain ⟨v, hrun, hr⟩ := hp (Stab E.C h w) w a.eval Stab.mono' (fun x hx => by rw [← ev_same hx hs]; exact ev_rep s x) s.heap
  unfold Oper.wp
  rw [hrun o rfl]
  exact s.put hd hr
theorem drk_pok {n : Nat} {r : AV} (hp : POk E.P h (ev σ) o.op r) (hw : wantA l σ o = some true) (hd : dstOk E.N o.dst = true) (k : DrK E h l K n rest (σ.setO o.dst r)) : DrK E h l K (n + 1) (o :: rest) σ := drk_cons (Calm.pok hw hp hd) k
theorem aw_pok {r : AV} (hp : POk E.P h (ev σ) o.op r) (hw : wantA all σ o = some true) (hd : dstOk E.N o.dst = true) (k : aw E (.ops all rest :: K) (σ.setO o.dst r) h) : aw E (.ops all (o :: rest) :: K) σ h := aw_pure hw hp hd rfl k
/-- A variable of its own, with the very zero values. -/
theorem aw_allocR {t : TypeId} {vs : List Value} (hop : o.op = .alloc t) (hw : wantA all σ o = some true) (hd : dstOk E.N o.dst = true) (hz : zeroL E.P t = some vs)
    (k : ∀ g, g ∉ h.keys → aw E (.ops all rest :: K) (σ.setO o.dst (.c (.optr g 0))) ((g, .cells t (vs.map CV.raw).length (ofL (vs.map CV.raw))) :: h)) : aw E (.ops all (o :: rest) :: K) σ h := by
  refine aw_new (r := fun g => .c (.optr g 0)) (ob := .cells t (vs.map CV.raw).length (ofL (vs.map CV.raw))) hw hd (fun a w s => ?_) k
  obtain ⟨i, v, hi, hv, rfl⟩ := zeroL_spec hz
  refine ⟨.pointer (some ⟨w.heap.size, 0, none⟩), w.alloc (.cells v.cells.toList.toArray t), ?_, Fr.alloc _ _ _, by simp, orep_new (rawL_rep _ _ _), rfl⟩
  simp only [execOp, hop, Instr.alloc, zeroValue, typeInfo, newVar, newRow, Sem.run_bind]
  simp [hi, hv]
theorem POk.unsafeStr0 {P : Program} {ρ : Operand → AV} {pt it : TypeId} {p x : Operand} (hp : ρ p = .c (.raw (.pointer none))) (hx : ρ x = .c (.int .i64 0)) : POk P h ρ (.call { callee := .builtin .unsafeString, args := #[p, x], argTypes := #[pt, it] }) (.c (.str ⟨#[]⟩)) := fun S w e _ ho _ => by
  have h1 : e p = .pointer none := by have := ho p (by simp [Op.operands, Call.operands]); rw [hp] at this; exact this
  have h2 : e x = .int .i64 0 := by have := ho x (by simp [Op.operands, Call.operands]); rw [hx] at this; exact this
  refine ⟨.string .empty, fun o hop => ?_, rfl⟩
  have := Lib.run_unsafeString_none (P := P) (w := w) pt it o.type none
  simp [execOp, hop, resolve, invoke, Go.builtin, h1, h2, this]
theorem Fr.freeze (w : World) (g n : Nat) : Fr (fun b => b = g) w (w.freeze ⟨g, 0, none⟩ n) := by
  unfold World.freeze
  split
  · exact Fr.refl _ _
  · refine ⟨rfl, rfl, rfl, by simp, fun b _ hn => ?_, fun g1 m hh => ?_⟩
    · simp only [Array.getElem?_modify]
      rw [if_neg (fun e => hn e.symm)]
    · obtain ⟨cs, ty, ⟨fr, hc⟩, hs⟩ := hh
      by_cases e : g = g1
      · subst e
        refine ⟨cs, ty, ?_, hs⟩
        simp only [Array.getElem?_modify, hc]
        simp
      · refine ⟨cs, ty, ⟨fr, ?_⟩, hs⟩
        simp only [Array.getElem?_modify]
        rw [if_neg e]; exact hc
/-- An own object is given up. -/
theorem St.drop {N : Nat} {C : Ctx} {a : Act} {w w' : World} {g : Nat} (s : St N C σ h a w) (hg : g ∈ h.keys) (hfr : Fr (fun b => b = g) w w') : St N C σ (h.del g) a w' := by
  have hsub : ∀ b, b ∈ (h.del g).keys → b ∈ h.keys := fun b hb => by
    obtain ⟨p, hp, e⟩ := List.mem_map.1 hb
    exact List.mem_map.2 ⟨p, (Heap.del_sub h g).subset hp, e⟩
  have kp : Keeps (Stab C h w) (Stab C (h.del g) w') w w' :=
    ⟨fun t b hb => ⟨hb.1, Nat.lt_of_lt_of_le hb.2.1 hfr.size, fun hm => hb.2.2 (hsub b hm)⟩, fun t b hb => hfr.block b hb.2.1 (fun e => hb.2.2 (e ▸ hg)), hfr.has⟩
  refine ⟨s.size, s.defers, fun t => Rep.keep kp (s.slots t), fun g1 o1 hm => ?_, ((Heap.del_sub h g).map _).nodup s.nodup, fun g1 hg1 => s.keys g1 (hsub _ hg1), ?_⟩
  · have h1 := s.heap g1 o1 ((Heap.del_sub h g).subset hm)
    have hmk : g1 ∈ (h.del g).keys := List.mem_map.2 ⟨(g1, o1), hm, rfl⟩
    have hne : g1 ≠ g := fun e => Heap.del_not h g s.nodup (e ▸ hmk)
    exact ORep.keep kp (hfr.block g1 h1.lt hne) h1
  · refine s.frame.trans hfr (fun x hx hlt => ?_)
    subst hx
    exact (s.keys _ hg).resolve_right (by omega)
/-- unsafe.String of an own row of bytes. -/
theorem aw_unsafeStr {pt it e : TypeId} {p x : Operand} {g m : Nat} {f : Nat → CV} {bs : List UInt8} {h' : Heap} (hop : o.op = .call { callee := .builtin .unsafeString, args := #[p, x], argTypes := #[pt, it] }) (hw : wantA all σ o = some true) (hd : dstOk E.N o.dst = true)
    (hpt : E.P.underlying pt = some (.pointer e)) (hc : E.P.cellsOf e = 1) (hp : ev σ p = .c (.optr g 0)) (hx : ev σ x = .c (.int .i64 bs.length)) (hg : h.get g = some (.cells e m f)) (hm : bs.length ≤ m) (h0 : bs ≠ []) (h63 : bs.length ≤ 9223372036854775807) (hf : ∀ j, j < bs.length → f j = byF bs j)
    (hh : h.del g = h') (k : aw E (.ops all rest :: K) (σ.setO o.dst (.c (.str ⟨bs.toArray⟩))) h') : aw E (.ops all (o :: rest) :: K) σ h := by
  subst hh
  refine aw_step hw (fun a w s => ?_) k
  have r1 := ev_rep s p
  have r2 := ev_rep s x
  rw [hp] at r1
  rw [hx] at r2
  have v1 : a.eval p = .pointer (some ⟨g, 0, none⟩) := r1
  have v2 : a.eval x = .int .i64 bs.length := r2
  obtain ⟨cs, hb, hn, hj⟩ := s.heap g _ (Heap.get_mem hg)
  have hsh : w.shape? g = some (e, cs.size) := by simp [World.shape?, hb]
  have hr := Lib.run_unsafeString_row (P := E.P) (w := w) pt it o.type e hpt hc g cs.size hsh bs h0 (by omega) h63 (fun j u hu => by
    obtain ⟨hjl, rfl⟩ := List.getElem?_eq_some_iff.1 hu
    obtain ⟨u, hu, hr⟩ := hj j (by omega)
    rw [hf j hjl] at hr
    rw [add_mk, cell_own hb, Nat.zero_add, hu, byF_rep hjl hr])
  refine ⟨.string ⟨bs.toArray⟩, w.freeze ⟨g, 0, none⟩ bs.length, .inl ?_, ?_⟩
  · simp [execOp, hop, resolve, invoke, Go.builtin, v1, v2, hr]
  · exact (s.drop (List.mem_map.2 ⟨_, Heap.get_mem hg, rfl⟩) (Fr.freeze w g _)).put hd (r := .c (.str ⟨bs.toArray⟩)) rfl
theorem cw_pok {FP : Heap} {i : Nat} {cs : List (Nat × Nat)} {r : AV} (ho : l[i]? = some o) (hp : ∀ h, Has0 FP h → POk E.P h (ev σ) o.op r) (hw : wantA l σ o = some true) (hd : dstOk E.N o.dst = true) (k : CW E l K FP cs (σ.setO o.dst r) h) : CW E l K FP ((i, 0) :: cs) σ h :=
  .flt ho ⟨hd, fun h hfp => Calm.pok hw (hp h hfp) hd⟩ k
/-- unsafe.String at its place. -/
theorem cw_unsafeStr {FP FP' : Heap} {i mk : Nat} {cs : List (Nat × Nat)} {pt it e : TypeId} {p x : Operand} {g m : Nat} {f : Nat → CV} {bs : List UInt8} {h' : Heap} (ho : l[i]? = some o) (hop : o.op = .call { callee := .builtin .unsafeString, args := #[p, x], argTypes := #[pt, it] }) (hw : wantA l σ o = some true) (hd : dstOk E.N o.dst = true)
    (hpt : E.P.underlying pt = some (.pointer e)) (hc : E.P.cellsOf e = 1) (hp : ev σ p = .c (.optr g 0)) (hx : ev σ x = .c (.int .i64 bs.length)) (hg : h.get g = some (.cells e m f)) (hm : bs.length ≤ m) (h0 : bs ≠ []) (h63 : bs.length ≤ 9223372036854775807) (hf : ∀ j, j < bs.length → f j = byF bs j)
    (hh : h.del g = h') (hFP : Has0 FP' h') (k : CW E l K FP' cs (σ.setO o.dst (.c (.str ⟨bs.toArray⟩))) h') (hmk : mk = 2 ∨ mk = 1 ∧ FP' = FP := by first | exact .inl rfl | exact .inr ⟨rfl, rfl⟩) : CW E l K FP ((i, mk) :: cs) σ h := by
  refine .pin ho hmk (R := fun r h2 => r = .c (.str ⟨bs.toArray⟩) ∧ h2 = h') (fun σ' K hs => ?_) ?_ ?_
  · exact aw_unsafeStr hop ((want_same hs).trans hw) hd hpt hc ((ev_same (by rw [hop]; simp [Op.operands, Call.operands]) hs).trans hp) ((ev_same (by rw [hop]; simp [Op.operands, Call.operands]) hs).trans hx) hg hm h0 h63 hf hh (aw_ops_nil (aw_stop ⟨_, ⟨rfl, rfl⟩, rfl⟩))
  · rintro _ _ ⟨_, rfl⟩; exact hFP
  · rintro _ _ ⟨rfl, rfl⟩; exact k
end
end Go.AI

/- Strings as lists of bytes; a byte, a tail of a string; a cell of an array. -/
namespace Go.AI
/-- A string of bytes. -/
abbrev sB (l : List UInt8) : ByteArray := ⟨l.toArray⟩
theorem sb_loop (l : List UInt8) : ∀ (k i : Nat) (r : List UInt8), l.length - i = k → ByteArray.toList.loop ⟨l.toArray⟩ i r = r.reverse ++ l.drop i
  | 0, i, r, hk => by
    rw [ByteArray.toList.loop, if_neg (show ¬ i < (⟨l.toArray⟩ : ByteArray).size from by show ¬ i < l.length; omega), List.drop_of_length_le (by omega), List.append_nil]
  | k + 1, i, r, hk => by
    have hi : i < l.length := by omega
    rw [ByteArray.toList.loop, if_pos (show i < (⟨l.toArray⟩ : ByteArray).size from hi), sb_loop l k (i + 1) _ (by omega)]
    have : (⟨l.toArray⟩ : ByteArray).get! i = l[i] := by
      show l.toArray[i]! = _
      simp [hi]
    rw [this, List.drop_eq_getElem_cons hi]
    simp
theorem sb_toList (l : List UInt8) : (sB l).toList = l := by
  unfold ByteArray.toList
  rw [sb_loop l _ 0 [] rfl]; rfl
theorem sb_app (a b : List UInt8) : sB a ++ sB b = sB (a ++ b) := by apply ByteArray.ext; simp
theorem sb_get (a : List UInt8) (i : Nat) : (sB a)[i]? = a[i]? := by
  by_cases h : i < a.length
  · rw [getElem?_pos (⟨a.toArray⟩ : ByteArray) i h, List.getElem?_eq_getElem h]; rfl
  · rw [getElem?_neg (⟨a.toArray⟩ : ByteArray) i h, List.getElem?_eq_none (by omega)]
theorem sb_drop (a : List UInt8) (i : Nat) : (sB a).extract i a.length = sB (a.drop i) := by
  apply ByteArray.ext; simp
  exact List.take_of_length_le (by simp)
theorem sb_eq (a b : List UInt8) : strEq (sB a) (sB b) = (a == b) := by unfold strEq; rw [sb_toList, sb_toList]
theorem quo_u32 (a b : Nat) (ha : a < 4294967296) : quoZ .u32 (a : Int) (b : Int) = ((a / b : Nat) : Int) := by
  rw [quoZ_eq]
  show IntKind.u32.wrap ((a : Int).tdiv b) = _
  have h := Nat.div_le_self a b
  have e : (a : Int).tdiv (b : Int) = ((a / b : Nat) : Int) := rfl
  rw [e, IntKind.wrap_u32]
  generalize a / b = q at *
  omega
section
variable {P : Program} {h : Heap} {ρ : Operand → AV}
theorem POk.indexSB {t : TypeId} {x ix : Operand} {k : IntKind} {l : List UInt8} {i : Nat} (ht : P.underlying t = some .string) (hx : ρ x = .c (.str (sB l))) (hix : ρ ix = .c (.int k (i : Int))) (hi : i < l.length) : POk P h ρ (.index t x ix) (.c (.int .u8 ((l.getD i 0).toNat : Int))) := fun S w e _ ho _ => by
  have h1 : e x = .string (sB l) := by have := ho x (by simp [Op.operands]); rw [hx] at this; exact this
  have h2 : e ix = .int k (i : Int) := by have := ho ix (by simp [Op.operands]); rw [hix] at this; exact this
  refine ⟨_, fun o hop => ?_, rfl⟩
  have hg := sb_get l i
  rw [List.getElem?_eq_getElem hi] at hg
  rw [List.getD_eq_getElem?_getD, List.getElem?_eq_getElem hi]
  simp [execOp, hop, h1, h2, Instr.index, asIntOf, run_underlying ht, hg]
theorem POk.sliceStr {t : TypeId} {x y : Operand} {k : IntKind} {l : List UInt8} {i : Nat} (ht : P.underlying t = some .string) (hx : ρ x = .c (.str (sB l))) (hy : ρ y = .c (.int k (i : Int))) (hi : i ≤ l.length) : POk P h ρ (.slice t x (some y) none none) (.c (.str (sB (l.drop i)))) := fun S w e _ ho _ => by
  have h1 : e x = .string (sB l) := by have := ho x (by simp [Op.operands]); rw [hx] at this; exact this
  have h2 : e y = .int k (i : Int) := by have := ho y (by simp [Op.operands]); rw [hy] at this; exact this
  refine ⟨_, fun o hop => ?_, rfl⟩
  have hs : (sB l).size = l.length := rfl
  have hd := sb_drop l i
  simp [execOp, hop, h1, h2, Instr.sliceAt, Instr.slice, Instr.sliceBounds, Instr.sliceBound, asIntOf, run_underlying ht]
  rw [hs, if_pos hi, hd]
theorem POk.indexArr {t el : TypeId} {x ix : Operand} {g n : Nat} {k : IntKind} {i : Int} (ht : P.underlying t = some (.array n el)) (hz : (P.info? el).map (·.size) = some 1) (hx : ρ x = .c (.optr g 0)) (hix : ρ ix = .c (.int k i)) (h0 : 0 ≤ i) (hl : i < n) : POk P h ρ (.indexAddr t x ix) (.c (.optr g i.toNat)) := fun S w e _ ho _ => by
  have h1 : e x = .pointer (some ⟨g, 0, none⟩) := by have := ho x (by simp [Op.operands]); rw [hx] at this; exact this
  have h2 : e ix = .int k i := by have := ho ix (by simp [Op.operands]); rw [hix] at this; exact this
  obtain ⟨j, hj, hjs⟩ := Option.map_eq_some_iff.1 hz
  refine ⟨_, fun o hop => ?_, rfl⟩
  simp [execOp, hop, h1, h2, Instr.indexAt, Instr.sureAddr, asIntOf, run_underlying ht, h0, hl, sizeOf, typeInfo, hj, hjs, add_mk]
end
end Go.AI
