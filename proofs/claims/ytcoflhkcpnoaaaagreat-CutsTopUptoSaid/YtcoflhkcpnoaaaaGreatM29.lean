/- Blocks of one proof, laid one behind the other by a program (merge2.py). -/
import Derived.Test.YtcoflhkcpnoaaaaGreatM25
import Derived.Test.YtcoflhkcpnoaaaaGreatM26
import Derived.Test.YtcoflhkcpnoaaaaGreatM27
set_option linter.unusedSimpArgs false
set_option linter.unusedVariables false
namespace Go.Proofs.YtcoflhkcpnoaaaaGreat
open Go.AI Go.PN
attribute [local irreducible] aw Fa Fh DrK
set_option maxRecDepth 100000 in
set_option maxHeartbeats 3200000 in
theorem fnodeR_fa (f : FM) (i : Nat) (hi : i < f.nodes.length) (hv0 : 0 ≤ f.vars) (hv : f.vars ≤ 1000) (hil : i ≤ 1000000) (hal : (f.nodes.getD i fn0).args.length ≤ 1099511627776) :
    Fa Tryz.prog 111 [.agg (fmc false f), .c (.int .i64 i)] (.c (.int .i64 (fncode f i))) := by
  unfold fncode
  refine fa_of_body Tryz.func111 rfl rfl (by simp [Tryz.ntmps111]) fun C hC => ?_
  simp only [initS, Nat.reduceAdd]
  refine xG ?_
  refine xB fun g2 hn_g2=>?_
  refine yG hn_g2 ?_
  generalize hx : f.nodes.getD i fn0 = x at *
  refine yA (oj hn_g2 hx) fun g5 hn_g5=>?_
  refine yG (oj hn_g2 (oj hx hn_g5)) ?_
  refine yW (oj hn_g2 (oj hx hn_g5)) ?_
  refine yS (oj hn_g2 (oj hx hn_g5)) ?_
  refine yH (oj hn_g2 (oj hx hn_g5)) ?_
  apply aw_seq
  apply aw_region
  refine yH (oj hn_g2 (oj hx hn_g5)) ?_
  apply aw_seq
  refine aw_cut (fun y : Nat × Nat => [(1, .c (.int .i64 i)), (2, .c (.optr g2 0)), (5, .c (.optr g5 0)), (6, .c (.int .i64 y.1)), (7, .c (.int .i64 y.2))]) (fun _ => [(g5, .cells 101 3 (ofL [.int .i64 x.kind, .int .i64 x.k, is true x.args])), (g2, .cells 50 3 (ofL (fmc false f)))]) (fun y => (0 ≤ x.kind ∧ x.kind ≤ 5) ∧ arityB x.kind x.args.length = (decide (y.1 ≤ x.args.length) && decide (x.args.length ≤ y.2))) ?_ ?_
  · refine yG (oj hn_g2 (oj hx hn_g5)) ?_
    refine yF (oj hn_g2 (oj hx hn_g5)) (fun k0=>?_) fun k0=>?_
    · have k' : x.kind = 0 := eq_of_beq k0
      refine yG (oj hn_g2 (oj hx hn_g5)) ?_
      refine aw_stop ⟨(0, 0), (zB (oj hn_g2 (oj hx hn_g5))), zZ, by omega, ?_⟩
      unfold arityB
      rw [if_pos k', Bool.eq_iff_iff]; simp
    have k0' : ¬ x.kind = 0 := by simpa using k0
    refine yG (oj hn_g2 (oj hx hn_g5)) ?_
    refine yF (oj hn_g2 (oj hx hn_g5)) (fun k1=>?_) fun k1=>?_
    · have k' : x.kind = 1 := eq_of_beq k1
      refine yG (oj hn_g2 (oj hx hn_g5)) ?_
      refine aw_stop ⟨(1, 1), (zB (oj hn_g2 (oj hx hn_g5))), zZ, by omega, ?_⟩
      unfold arityB
      rw [if_neg k0', if_pos k', Bool.eq_iff_iff]
      simp only [decide_eq_true_eq, Bool.and_eq_true]
      omega
    have k1' : ¬ x.kind = 1 := by simpa using k1
    have hfin : 0 ≤ x.kind → x.kind ≤ 5 → (0 ≤ x.kind ∧ x.kind ≤ 5) ∧ arityB x.kind x.args.length = (decide (1 ≤ x.args.length) && decide (x.args.length ≤ 16)) := fun h1 h2 => by
      refine ⟨⟨h1, h2⟩, ?_⟩
      unfold arityB
      rw [if_neg k0', if_neg k1', Bool.eq_iff_iff]
      simp only [decide_eq_true_eq, Bool.and_eq_true]
      omega
    refine yG (oj hn_g2 (oj hx hn_g5)) ?_
    refine yF (oj hn_g2 (oj hx hn_g5)) (fun k2=>?_) fun k2=>?_
    · have k' : x.kind = 2 := eq_of_beq k2
      refine yG (oj hn_g2 (oj hx (oj hn_g5 k2))) ?_
      refine yP (oj hn_g2 (oj hx (oj hn_g5 k2))) ?_
      refine yG (oj hn_g2 (oj hx (oj hn_g5 k2))) ?_
      exact aw_stop ⟨(1, 16), (zB (oj hn_g2 (oj hx (oj hn_g5 k2)))), zZ, hfin (by omega) (by omega)⟩
    have k2' : ¬ x.kind = 2 := by simpa using k2
    refine yG (oj hn_g2 (oj hx hn_g5)) ?_
    refine yF (oj hn_g2 (oj hx hn_g5)) (fun k3=>?_) fun k3=>?_
    · have k' : x.kind = 3 := eq_of_beq k3
      refine yG (oj hn_g2 (oj hx (oj hn_g5 k3))) ?_
      refine yP (oj hn_g2 (oj hx (oj hn_g5 k3))) ?_
      refine yG (oj hn_g2 (oj hx (oj hn_g5 k3))) ?_
      exact aw_stop ⟨(1, 16), (zB (oj hn_g2 (oj hx (oj hn_g5 k3)))), zZ, hfin (by omega) (by omega)⟩
    have k3' : ¬ x.kind = 3 := by simpa using k3
    refine yG (oj hn_g2 (oj hx hn_g5)) ?_
    refine yF (oj hn_g2 (oj hx hn_g5)) (fun k4=>?_) fun k4=>?_
    · have k' : x.kind = 4 := eq_of_beq k4
      refine yG (oj hn_g2 (oj hx (oj hn_g5 k4))) ?_
      refine yP (oj hn_g2 (oj hx (oj hn_g5 k4))) ?_
      refine yG (oj hn_g2 (oj hx (oj hn_g5 k4))) ?_
      exact aw_stop ⟨(1, 16), (zB (oj hn_g2 (oj hx (oj hn_g5 k4)))), zZ, hfin (by omega) (by omega)⟩
    have k4' : ¬ x.kind = 4 := by simpa using k4
    refine yG (oj hn_g2 (oj hx hn_g5)) ?_
    refine yF (oj hn_g2 (oj hx hn_g5)) (fun k5=>?_) fun k5=>?_
    · have k' : x.kind = 5 := eq_of_beq k5
      refine yG (oj hn_g2 (oj hx hn_g5)) ?_
      exact aw_stop ⟨(1, 16), (zB (oj hn_g2 (oj hx hn_g5))), zZ, hfin (by omega) (by omega)⟩
    have k5' : ¬ x.kind = 5 := by simpa using k5
    rw [if_pos (by omega)]
    refine yG (oj hn_g2 (oj hx hn_g5)) ?_
    refine yT hC (oj hn_g2 (oj hx hn_g5)) ?_
    exact .one (.c (.int _ _))
  rintro ⟨least, most⟩ ⟨hkind, har⟩
  dsimp only at hkind har ⊢
  rw [if_neg (by omega)]
  refine yG (oj hn_g2 (oj hx hn_g5)) ?_
  refine aw_split 31 (zE (oj hn_g2 (oj hx hn_g5))) (fun a1 => ?_) (fun a1 => ?_) <;> refine yS (oj hn_g2 (oj hx hn_g5)) ?_
  · have a1' := of_decide_eq_true a1
    rw [if_pos (by rw [har, decide_eq_false (show ¬ least ≤ x.args.length by omega)]; rfl)]
    refine yG (oj hn_g2 (oj hx hn_g5)) ?_
    refine yP (oj hn_g2 (oj hx hn_g5)) ?_
    refine yG (oj hn_g2 (oj hx hn_g5)) ?_
    refine yT hC (oj hn_g2 (oj hx hn_g5)) ?_
    exact .one (.c (.int _ _))
  have a1' := of_decide_eq_false a1
  refine yG (oj hn_g2 (oj hx hn_g5)) ?_
  refine yF (oj hn_g2 (oj hx hn_g5)) (fun a2=>?_) fun a2=>?_
  · have a2' := of_decide_eq_true a2
    rw [if_pos (by rw [har, decide_eq_false (show ¬ x.args.length ≤ most by omega), Bool.and_false]; rfl)]
    refine yG (oj hn_g2 (oj hx hn_g5)) ?_
    refine yT hC (oj hn_g2 (oj hx hn_g5)) ?_
    exact .one (.c (.int _ _))
  have a2' := of_decide_eq_false a2
  rw [if_neg (by rw [har, decide_eq_true (show least ≤ x.args.length by omega), decide_eq_true (show x.args.length ≤ most by omega)]; simp)]
  refine yG (oj hn_g2 (oj hx hn_g5)) ?_
  refine aw_lp (fun j : Nat => [(1, .c (.int .i64 i)), (2, .c (.optr g2 0)), (5, .c (.optr g5 0)), (39, .c (is true x.args)), (40, .c (.int .i64 x.args.length)), (41, .c (.int .i64 j))]) (fun _ => [(g5, .cells 101 3 (ofL [.int .i64 x.kind, .int .i64 x.k, is true x.args])), (g2, .cells 50 3 (ofL (fmc false f)))]) (fun j => j ≤ x.args.length ∧ ∀ q, q < j → argOk f i (x.args.getD q 0) = true) (fun j => x.args.length - j) 0 (zB (oj hn_g2 (oj hx hn_g5))) zZ ⟨Nat.zero_le _, fun q hq => by omega⟩ ?_
  rintro j ⟨hj, hq⟩
  refine yG (oj hn_g2 (oj hx hn_g5)) ?_
  refine yF (oj hn_g2 (oj hx hn_g5)) (fun h4=>?_) fun h4=>?_
  · have h4' : j < x.args.length := by have := of_decide_eq_true h4; omega
    refine yG (oj hn_g2 (oj hx hn_g5)) ?_
    refine aw_split 47 (zE (oj hn_g2 (oj hx hn_g5))) (fun h5 => ?_) (fun h5 => ?_) <;> refine yS (oj hn_g2 (oj hx hn_g5)) ?_
    · have h5' := of_decide_eq_true h5
      rw [if_pos (by rw [all_not h4' (by unfold argOk; rw [decide_eq_false (by omega)]; rfl)]; rfl)]
      refine yG (oj hn_g2 (oj hx hn_g5)) ?_
      refine yP (oj hn_g2 (oj hx hn_g5)) ?_
      refine yG (oj hn_g2 (oj hx hn_g5)) ?_
      refine yT hC (oj hn_g2 (oj hx hn_g5)) ?_
      exact .one (.c (.int _ _))
    have h5' := of_decide_eq_false h5
    refine yG (oj hn_g2 (oj hx hn_g5)) ?_
    refine yF (oj hn_g2 (oj hx hn_g5)) (fun h6=>?_) fun h6=>?_
    · have h6' := of_decide_eq_true h6
      rw [if_pos (by rw [all_not h4' (by unfold argOk; rw [decide_eq_false (show ¬ x.args.getD j 0 < f.vars + i by omega), Bool.and_false])]; rfl)]
      refine yG (oj hn_g2 (oj hx hn_g5)) ?_
      refine yT hC (oj hn_g2 (oj hx hn_g5)) ?_
      exact .one (.c (.int _ _))
    have h6' := of_decide_eq_false h6
    refine yG (oj hn_g2 (oj hx hn_g5)) ?_
    refine aw_stop ⟨j + 1, by omega, (zB (oj hn_g2 (oj hx hn_g5))), zZ, by omega, fun q hql => ?_⟩
    by_cases e : q = j
    · subst e
      unfold argOk
      rw [decide_eq_true (by omega), decide_eq_true (by omega)]; rfl
    · exact hq q (by omega)
  have h4' : j = x.args.length := by have := of_decide_eq_false h4; omega
  subst h4'
  rw [if_neg (by rw [all_take hq]; simp)]
  unfold kcode
  refine yG (oj hn_g2 (oj hx hn_g5)) ?_
  refine yF (oj hn_g2 (oj hx hn_g5)) (fun k0=>?_) fun k0=>?_
  · have k0' : x.kind = 0 := eq_of_beq k0
    rw [if_pos k0']
    refine yG (oj hn_g2 (oj hx hn_g5)) ?_
    by_cases z0 : x.k = 0
    · have zz := ieq_t z0
      rw [if_neg (by omega)]
      refine yG (oj hn_g2 (oj hx (oj hn_g5 zz))) ?_
      refine yN (oj hn_g2 (oj hx (oj hn_g5 zz))) ?_
      refine yG (oj hn_g2 (oj hx (oj hn_g5 zz))) ?_
      refine yT hC (oj hn_g2 (oj hx (oj hn_g5 zz))) ?_
      exact .one (.c (.int _ _))
    · have zz := ieq_f z0
      refine yG (oj hn_g2 (oj hx (oj hn_g5 zz))) ?_
      refine yF (oj hn_g2 (oj hx (oj hn_g5 zz))) (fun k1=>?_) fun k1=>?_
      · have k1' : ¬ x.k = 1 := by simpa using k1
        rw [if_pos ⟨z0, k1'⟩]
        refine yG (oj hn_g2 (oj hx (oj hn_g5 zz))) ?_
        refine yT hC (oj hn_g2 (oj hx (oj hn_g5 zz))) ?_
        exact .one (.c (.int _ _))
      · have k1' : x.k = 1 := by simpa using k1
        rw [if_neg (by omega)]
        refine yG (oj hn_g2 (oj hx (oj hn_g5 zz))) ?_
        refine yT hC (oj hn_g2 (oj hx (oj hn_g5 zz))) ?_
        exact .one (.c (.int _ _))
  have k0' : ¬ x.kind = 0 := by simpa using k0
  rw [if_neg k0']
  refine yG (oj hn_g2 (oj hx hn_g5)) ?_
  refine yF (oj hn_g2 (oj hx hn_g5)) (fun k4=>?_) fun k4=>?_
  · have k4' : x.kind = 4 := eq_of_beq k4
    rw [if_pos k4']
    refine yG (oj hn_g2 (oj hx hn_g5)) ?_
    refine aw_split 76 (zE (oj hn_g2 (oj hx hn_g5))) (fun q1 => ?_) (fun q1 => ?_) <;> refine yS (oj hn_g2 (oj hx hn_g5)) ?_
    · have q1' := of_decide_eq_true q1
      rw [if_pos (.inl q1')]
      refine yG (oj hn_g2 (oj hx hn_g5)) ?_
      refine yP (oj hn_g2 (oj hx hn_g5)) ?_
      refine yG (oj hn_g2 (oj hx hn_g5)) ?_
      refine yT hC (oj hn_g2 (oj hx hn_g5)) ?_
      exact .one (.c (.int _ _))
    have q1' := of_decide_eq_false q1
    refine yG (oj hn_g2 (oj hx hn_g5)) ?_
    refine yF (oj hn_g2 (oj hx hn_g5)) (fun q2=>?_) fun q2=>?_
    · have q2' := of_decide_eq_true q2
      rw [if_pos (.inr (by omega))]
      refine yG (oj hn_g2 (oj hx hn_g5)) ?_
      refine yT hC (oj hn_g2 (oj hx hn_g5)) ?_
      exact .one (.c (.int _ _))
    · have q2' := of_decide_eq_false q2
      rw [if_neg (by omega)]
      refine yG (oj hn_g2 (oj hx hn_g5)) ?_
      refine yT hC (oj hn_g2 (oj hx hn_g5)) ?_
      exact .one (.c (.int _ _))
  have k4' : ¬ x.kind = 4 := by simpa using k4
  rw [if_neg k4']
  refine yG (oj hn_g2 (oj hx hn_g5)) ?_
  refine yF (oj hn_g2 (oj hx hn_g5)) (fun z1=>?_) fun z1=>?_
  · have z1' : ¬ x.k = 0 := by simpa using z1
    rw [if_pos z1']
    refine yG (oj hn_g2 (oj hx hn_g5)) ?_
    refine yT hC (oj hn_g2 (oj hx hn_g5)) ?_
    exact .one (.c (.int _ _))
  · have z1' : x.k = 0 := by simpa using z1
    rw [if_neg (by omega)]
    refine yG (oj hn_g2 (oj hx hn_g5)) ?_
    refine yT hC (oj hn_g2 (oj hx hn_g5)) ?_
    exact .one (.c (.int _ _))
set_option maxHeartbeats 800000 in
theorem fvalidR_fa (f : FM) (a : Int) (hv : f.vars ≤ 1000) (ha0 : -9223372036854775808 ≤ a) (ha : a ≤ 9223372036854775807) : Fa Tryz.prog 112 [.agg (fmc false f), .c (.int .i64 a)] (.c (.bool (fvalidB f a))) := by
  refine fa_of_body Tryz.func112 rfl rfl (by simp [Tryz.ntmps112]) fun C hC => ?_
  simp only [initS, Nat.reduceAdd]
  refine xG ?_
  refine xB fun g2 hn_g2=>?_
  refine yG hn_g2 ?_
  refine aw_split 8 (zE hn_g2) (fun h0 => ?_) (fun h0 => ?_) <;> refine yS hn_g2 ?_
  · have h0' := of_decide_eq_true h0
    refine yG hn_g2 ?_
    refine aw_split 12 (zE hn_g2) (fun h1 => ?_) (fun h1 => ?_) <;> refine yS hn_g2 ?_
    · have h1' := of_decide_eq_true h1
      refine yG hn_g2 ?_
      refine aw_split 17 (zE hn_g2) (fun h2 => ?_) (fun h2 => ?_) <;> refine yS hn_g2 ?_
      · refine yG hn_g2 ?_
        refine yT hC hn_g2 ?_
        refine .one (.c (ler_bool ?_))
        unfold fvalidB
        rw [h0, h1, h2]; rfl
      · refine yG hn_g2 ?_
        refine yT hC hn_g2 ?_
        refine .one (.c (ler_bool ?_))
        unfold fvalidB
        rw [h0, h1, h2]; rfl
    · refine yG hn_g2 ?_
      refine yT hC hn_g2 ?_
      refine .one (.c (ler_bool ?_))
      unfold fvalidB
      rw [h0, h1]; rfl
  · refine yG hn_g2 ?_
    refine yT hC hn_g2 ?_
    refine .one (.c (ler_bool ?_))
    unfold fvalidB
    rw [h0]; rfl
set_option maxRecDepth 100000 in
set_option maxHeartbeats 3200000 in
theorem fcheckR_fa (f : FM) (hn : f.nodes.length ≤ 1099511627776) (ha : ArgsOk f) (ht0 : -9223372036854775808 ≤ f.top) (ht : f.top ≤ 9223372036854775807) : Fa Tryz.prog 68 [.agg (fmc false f)] (.c (.int .i64 (fcode f))) := by
  unfold fcode
  refine fa_of_body Tryz.func68 rfl rfl (by simp [Tryz.ntmps68]) fun C hC => ?_
  simp only [initS, Nat.reduceAdd]
  refine xG ?_
  refine xB fun g1 hn_g1=>?_
  refine yG hn_g1 ?_
  refine aw_split 8 (zE hn_g1) (fun h1 => ?_) (fun h1 => ?_) <;> refine yS hn_g1 ?_
  · have h1' := of_decide_eq_true h1
    rw [if_pos (.inl h1')]
    refine yG hn_g1 ?_
    refine yP hn_g1 ?_
    refine yG hn_g1 ?_
    refine yT hC hn_g1 ?_
    exact .one (.c (.int _ _))
  have h1' := of_decide_eq_false h1
  refine yG hn_g1 ?_
  refine yF hn_g1 (fun h2=>?_) fun h2=>?_
  · have h2' := of_decide_eq_true h2
    rw [if_pos (.inr (by omega))]
    refine yG hn_g1 ?_
    refine yT hC hn_g1 ?_
    exact .one (.c (.int _ _))
  have h2' := of_decide_eq_false h2
  rw [if_neg (by omega)]
  refine yG hn_g1 ?_
  refine yF hn_g1 (fun h3=>?_) fun h3=>?_
  · have h3' := of_decide_eq_true h3
    rw [if_pos (by omega)]
    refine yG hn_g1 ?_
    refine yT hC hn_g1 ?_
    exact .one (.c (.int _ _))
  have h3' := of_decide_eq_false h3
  rw [if_neg (by omega)]
  refine yG hn_g1 ?_
  refine aw_lp (fun i : Nat => [(1, .c (.optr g1 0)), (19, .c (.int .i64 f.nodes.length)), (20, .c (.int .i64 i))]) (fun _ => [(g1, .cells 50 3 (ofL (fmc false f)))]) (fun i => i ≤ f.nodes.length ∧ ffirst f 0 f.nodes.length = ffirst f i (f.nodes.length - i)) (fun i => f.nodes.length - i) 0 (zB hn_g1) zZ ⟨Nat.zero_le _, rfl⟩ ?_
  rintro i ⟨hi, hf⟩
  refine yG hn_g1 ?_
  refine yF hn_g1 (fun h4=>?_) fun h4=>?_
  · have h4' : i < f.nodes.length := by have := of_decide_eq_true h4; omega
    refine yG hn_g1 ?_
    refine yC hn_g1 (fnodeR_fa f i h4' ?_ ?_ ?_ (ha.at i)) ?_
    · omega
    · omega
    · omega
    refine yG hn_g1 ?_
    refine yF hn_g1 (fun h5=>?_) fun h5=>?_
    · have h5' : ¬ fncode f i = 0 := by simpa using h5
      rw [hf, ffirst_at h4' h5', if_pos h5']
      refine yG hn_g1 ?_
      refine yT hC hn_g1 ?_
      exact .one (.c (.int _ _))
    · have h5' : fncode f i = 0 := by simpa using h5
      refine yG hn_g1 ?_
      exact aw_stop ⟨i + 1, by omega, (zB hn_g1), zZ, by omega, by rw [hf]; exact ffirst_step h4' h5'⟩
  have h4' : i = f.nodes.length := by have := of_decide_eq_false h4; omega
  subst h4'
  rw [hf, Nat.sub_self, if_neg (by rw [ffirst]; simp)]
  refine yG hn_g1 ?_
  refine yC hn_g1 (fvalidR_fa f f.top ?_ ht0 ht) ?_
  · omega
  refine yG hn_g1 ?_
  refine yF hn_g1 (fun h6=>?_) fun h6=>?_
  · have h6' : fvalidB f f.top = false := by simpa using h6
    rw [h6', if_neg (by simp)]
    refine yG hn_g1 ?_
    refine yT hC hn_g1 ?_
    exact .one (.c (.int _ _))
  · have h6' : fvalidB f f.top = true := by simpa using h6
    rw [h6', if_pos rfl]
    refine yG hn_g1 ?_
    refine yT hC hn_g1 ?_
    exact .one (.c (.int _ _))
end Go.Proofs.YtcoflhkcpnoaaaaGreat
namespace Go.Proofs.YtcoflhkcpnoaaaaGreat
open Go.AI Go.PN Go.ChangeShapes Go.WideShapes Go.RowKit
theorem i64_ge {x : Int} (h : (Lit.int .i64 x).wf = true) : -9223372036854775808 ≤ x := by
  have hb : -9223372036854775808 ≤ x ∧ x ≤ 9223372036854775807 := by simpa [Lit.wf, IntKind.min, IntKind.max, IntKind.signed, IntKind.bits] using h
  exact hb.1
theorem i64_le {x : Int} (h : (Lit.int .i64 x).wf = true) : x ≤ 9223372036854775807 := by
  have hb : -9223372036854775808 ≤ x ∧ x ≤ 9223372036854775807 := by simpa [Lit.wf, IntKind.min, IntKind.max, IntKind.signed, IntKind.bits] using h
  exact hb.2
theorem rdr_args : Rdr Tryz.prog 22 (fun xs : List Int => [is true xs]) (fun xs n => xs.length ≤ n) :=
  (rdr_slice (0 : Int) true Tryz.underlying22 (s := 1) (by kernel_rfl) (by omega) (fun _ _ _ h _ => h) (rdr_int Tryz.underlying3)).to id (fun ys => by
    show [CV.row true 1 ys.length _] = [CV.row true 1 ys.length _]
    congr 2
    funext j
    show _ = ofL [CV.int .i64 (ys.getD (j / 1) 0)] (j % 1)
    rw [Nat.div_one, Nat.mod_one]
    rfl) (fun _ _ h => h.1)
theorem rdr_fnode : Rdr Tryz.prog 101 (fun r : FN => [CV.int .i64 r.kind, .int .i64 r.k, is true r.args]) (fun r n => r.args.length ≤ n) := by
  have r := rdr_struct3 Tryz.underlying101 (s0 := 1) (s1 := 1) (s2 := 1) (by kernel_rfl) (by kernel_rfl) (by kernel_rfl) (by kernel_rfl) rfl rfl rfl (rdr_int Tryz.underlying3) (rdr_int Tryz.underlying3) rdr_args (fun _ _ _ h _ => h) (fun _ _ _ h _ => h) (fun _ _ _ h hm => Nat.le_trans h hm)
  exact r.to (fun y => ⟨y.1, y.2.1, y.2.2⟩) (fun _ => rfl) (fun _ _ h => h.2.2)
theorem rdr_fnodes : Rdr Tryz.prog 48 (fun p : List FN => [fns false p]) (fun p n => p.length ≤ n ∧ ∀ x ∈ p, x.args.length ≤ n) :=
  (rdr_slice (B := fun (r : FN) n => r.args.length ≤ n) fn0 false Tryz.underlying48 (s := 3) (by kernel_rfl) (by omega) (fun _ _ _ h hm => Nat.le_trans h hm) rdr_fnode).to id (fun _ => rfl) (fun _ _ h => h)
theorem rdr_formula : Rdr Tryz.prog 50 (fun f : FM => fmc false f) (fun f n => f.nodes.length ≤ n ∧ (∀ x ∈ f.nodes, x.args.length ≤ n) ∧ (Lit.int .i64 f.top).wf = true) := by
  have r := rdr_struct3 Tryz.underlying50 (s0 := 1) (s1 := 1) (s2 := 1) (by kernel_rfl) (by kernel_rfl) (by kernel_rfl) (by kernel_rfl) rfl rfl rfl (rdr_int Tryz.underlying3) rdr_fnodes (rdr_int Tryz.underlying3) (fun _ _ _ h _ => h) (fun _ _ _ h hm => ⟨Nat.le_trans h.1 hm, fun x hx => Nat.le_trans (h.2 x hx) hm⟩) (fun _ _ _ h _ => h)
  exact r.to (fun y => ⟨y.1, y.2.1, y.2.2⟩) (fun _ => rfl) (fun _ _ h => ⟨h.2.1.1, h.2.1.2, h.2.2⟩)
theorem args_ok {f : FM} {n : Nat} (h : ∀ x ∈ f.nodes, x.args.length ≤ n) (hn : n ≤ 1099511627776) : ArgsOk f := fun x hx => Nat.le_trans (h x hx) hn
end Go.Proofs.YtcoflhkcpnoaaaaGreat
namespace Go.PN
open Go.AI
theorem coh_false {f : FM} {k : Nat} (h : cohTo f k = false) : ∀ n, k ≤ n → cohTo f n = false
  | 0, hn => by rw [show k = 0 from by omega] at h; exact h
  | n + 1, hn => by
    by_cases e : k = n + 1
    · subst e; exact h
    · rw [cohTo, coh_false h n (by omega)]; rfl
end Go.PN
namespace Go.Proofs.YtcoflhkcpnoaaaaGreat
open Go.AI Go.PN
attribute [local irreducible] aw Fa Fh DrK
set_option maxRecDepth 100000 in
set_option maxHeartbeats 3200000 in
theorem belowR_fa (f : FM) (ok : FrOk f) : Fa Tryz.prog 113 [.agg (fmc false f)] (.c (bs true (belL f))) := by
  have v0 := ok.v0
  have v24 := ok.v24
  have n128 := ok.n128
  have t0 := ok.t0
  have t1 := ok.t1
  refine fa_of_body Tryz.func113 rfl rfl (by simp [Tryz.ntmps113]) fun C hC => ?_
  simp only [initS, Nat.reduceAdd]
  refine xG ?_
  refine xB fun g1 hn_g1=>?_
  refine yG hn_g1 ?_
  refine aw_make (n := f.vars.toNat + f.nodes.length) (c := f.vars.toNat + f.nodes.length) (size := 1) (z := [.bool false]) rfl rfl rfl (zE hn_g1) (zE hn_g1) rfl (by omega) (zE hn_g1) (zE hn_g1) (by omega) (by omega) (by omega) (by omega) (by omega) fun g3 hn_g3 => ?_
  simp only [Nat.mul_one]
  rw [make_bs]
  replace hn_g3 := Heap.ne_of hn_g3
  dsimp only [Heap.ne] at hn_g3
  refine yS (oj hn_g1 hn_g3) ?_
  refine yG (oj hn_g1 hn_g3) ?_
  refine yW (oj hn_g1 hn_g3) ?_
  refine yS (oj hn_g1 hn_g3) ?_
  rw [updF_bs (i := f.top.toNat) (zs := List.replicate (f.vars.toNat + f.nodes.length) false) (v := true) (by rw [List.length_replicate]; omega)]
  refine yG (oj hn_g1 hn_g3) ?_
  have hN : ((f.vars.toNat + f.nodes.length : Nat) : Int) = f.vars + f.nodes.length := by omega
  refine aw_lp (fun j : Nat => [(1, .c (.optr g1 0)), (3, .c (.osl g3 1 0 (f.vars.toNat + f.nodes.length))), (4, .c (.int .i64 ((f.nodes.length : Int) - 1 - j)))]) (fun j => [(g3, .cells 4 (f.vars.toNat + f.nodes.length) (bsF (belTo f j))), (g1, .cells 50 3 (ofL (fmc false f)))]) (fun j => j ≤ f.nodes.length) (fun j => f.nodes.length - j) 0 (by refine yS (oj hn_g1 hn_g3) ?_; simp) zZ (Nat.zero_le _) ?_
  rintro j hj
  have hbl := belTo_len f j
  refine yG (oj hn_g1 hn_g3) ?_
  refine yF (oj hn_g1 hn_g3) (fun h1=>?_) fun h1=>?_
  · have h1' : j < f.nodes.length := by have := of_decide_eq_true h1; omega
    obtain ⟨i, hi⟩ : ∃ i : Nat, i = f.nodes.length - 1 - j := ⟨_, rfl⟩
    have hij : (f.nodes.length : Int) - 1 - (j : Int) = (i : Int) := by omega
    have hst : belTo f (j + 1) = if (belTo f j).getD (f.vars.toNat + i) false then markTo (f.nodes.getD i fn0).args (belTo f j) (f.nodes.getD i fn0).args.length else belTo f j := by rw [belTo, hi]
    have hil : i < f.nodes.length := by omega
    have hidx : (f.vars + (i : Int)).toNat = f.vars.toNat + i := by omega
    have hnx : (i : Int) - 1 = (f.nodes.length : Int) - 1 - ((j + 1 : Nat) : Int) := by omega
    have hln := ok.len hil
    have hat := fun q hq => ok.at (j := q) hil hq
    rw [hij]
    refine yG (oj hn_g1 (oj hn_g3 hidx)) ?_
    refine yF (oj hn_g1 (oj hn_g3 hidx)) (fun hm=>?_) fun hm=>?_
    · have hm' : (belTo f j).getD (f.vars.toNat + i) false = false := by simpa using hm
      rw [if_neg (by rw [hm']; simp)] at hst
      refine yG (oj hn_g1 (oj hn_g3 hidx)) ?_
      rw [← hst]
      exact aw_stop ⟨j + 1, by omega, by rw [← hnx]; exact (zB (oj hn_g1 (oj hn_g3 hidx))), zZ, by omega⟩
    · have hm' : (belTo f j).getD (f.vars.toNat + i) false = true := by simpa using hm
      rw [if_pos hm'] at hst
      generalize hx : f.nodes.getD i fn0 = x at *
      refine yG (oj hn_g1 (oj hn_g3 (oj hidx hx))) ?_
      refine aw_lp (fun q : Nat => [(1, .c (.optr g1 0)), (3, .c (.osl g3 1 0 (f.vars.toNat + f.nodes.length))), (4, .c (.int .i64 (i : Int))), (39, .c (is true x.args)), (40, .c (.int .i64 x.args.length)), (41, .c (.int .i64 q))]) (fun q => [(g3, .cells 4 (f.vars.toNat + f.nodes.length) (bsF (markTo x.args (belTo f j) q))), (g1, .cells 50 3 (ofL (fmc false f)))]) (fun q => q ≤ x.args.length) (fun q => x.args.length - q) 0 (zB (oj hn_g1 (oj hn_g3 (oj hidx hx)))) zZ (Nat.zero_le _) ?_
      rintro q hq
      have hml := markTo_len x.args (belTo f j) q
      refine yG (oj hn_g1 (oj hn_g3 (oj hidx hx))) ?_
      refine yF (oj hn_g1 (oj hn_g3 (oj hidx hx))) (fun h2=>?_) fun h2=>?_
      · have h2' : q < x.args.length := by have := of_decide_eq_true h2; omega
        obtain ⟨a0, a1⟩ := hat q h2'
        refine yG (oj hn_g1 (oj hn_g3 (oj hidx hx))) ?_
        refine yW (oj hn_g1 (oj hn_g3 (oj hidx hx))) ?_
        refine yS (oj hn_g1 (oj hn_g3 (oj hidx hx))) ?_
        rw [updF_bs (by omega)]
        refine yG (oj hn_g1 (oj hn_g3 (oj hidx hx))) ?_
        exact aw_stop ⟨q + 1, by omega, (zB (oj hn_g1 (oj hn_g3 (oj hidx hx)))), zZ, by omega⟩
      · have h2' : q = x.args.length := by have := of_decide_eq_false h2; omega
        subst h2'
        refine yG (oj hn_g1 (oj hn_g3 (oj hidx hx))) ?_
        rw [← hst]
        exact aw_stop ⟨j + 1, by omega, by rw [← hnx]; exact (zB (oj hn_g1 (oj hn_g3 (oj hidx hx)))), zZ, by omega⟩
  · have h1' : j = f.nodes.length := by have := of_decide_eq_false h1; omega
    subst h1'
    refine yG (oj hn_g1 hn_g3) ?_
    refine yT hC (oj hn_g1 hn_g3) ?_
    exact .one (.c (ler_oslbs (zE (oj hn_g1 hn_g3)) hbl.symm))
set_option maxRecDepth 100000 in
set_option maxHeartbeats 3200000 in
theorem coherent_fa (f : FM) (ok : FrOk f) : Fa Tryz.prog 69 [.agg (fmc false f)] (.c (.bool (cohTo f f.nodes.length))) := by
  have v0 := ok.v0
  have v24 := ok.v24
  have n128 := ok.n128
  refine fa_of_body Tryz.func69 rfl rfl (by simp [Tryz.ntmps69]) fun C hC => ?_
  simp only [initS, Nat.reduceAdd]
  refine xG ?_
  refine xB fun g1 hn_g1=>?_
  refine yG hn_g1 ?_
  refine yC hn_g1 (belowR_fa f ok) ?_
  refine yG hn_g1 ?_
  refine aw_lp (fun j : Nat => [(1, .c (.optr g1 0)), (3, .c (bs true (belL f))), (4, .c (.int .i64 j))]) (fun _ => [(g1, .cells 50 3 (ofL (fmc false f)))]) (fun j => j ≤ f.nodes.length ∧ cohTo f j = true) (fun j => f.nodes.length - j) 0 (zB hn_g1) zZ ⟨Nat.zero_le _, rfl⟩ ?_
  rintro j ⟨hj, hc⟩
  have hbl : (belL f).length = f.vars.toNat + f.nodes.length := belTo_len f f.nodes.length
  refine yG hn_g1 ?_
  refine yF hn_g1 (fun h1=>?_) fun h1=>?_
  · have h1' : j < f.nodes.length := by have := of_decide_eq_true h1; omega
    have hst : cohTo f (j + 1) = (cohTo f j && !((belL f).getD (f.vars.toNat + j) false && (decide ((f.nodes.getD j fn0).kind = 1) || decide ((f.nodes.getD j fn0).kind = 5)))) := rfl
    have hidx : (f.vars + (j : Int)).toNat = f.vars.toNat + j := by omega
    rw [hc, Bool.true_and] at hst
    have fin : cohTo f (j + 1) = false → cohTo f f.nodes.length = false := fun hf => coh_false hf _ (by omega)
    generalize belL f = ms at hbl hst ⊢
    refine yG (oj hn_g1 hidx) ?_
    refine aw_split 21 (zE (oj hn_g1 hidx)) (fun hm => ?_) (fun hm => ?_) <;> refine yS (oj hn_g1 hidx) ?_
    · rw [hm, Bool.true_and] at hst
      refine yG (oj hn_g1 hidx) ?_
      refine aw_split 29 (zE (oj hn_g1 hidx)) (fun h4 => ?_) (fun h4 => ?_) <;> refine yS (oj hn_g1 hidx) ?_
      · refine yG (oj hn_g1 hidx) ?_
        refine yP (oj hn_g1 hidx) ?_
        refine yG (oj hn_g1 hidx) ?_
        rw [fin (by rw [hst, show decide ((f.nodes.getD j fn0).kind = 1) = true from by simpa using h4]; rfl)]
        refine yT hC (oj hn_g1 hidx) ?_
        exact .one (.c (.bool _))
      · refine yG (oj hn_g1 hidx) ?_
        have h4' : decide ((f.nodes.getD j fn0).kind = 1) = false := by simpa using h4
        rw [h4', Bool.false_or] at hst
        refine yF (oj hn_g1 hidx) (fun h5=>?_) fun h5=>?_
        · refine yG (oj hn_g1 hidx) ?_
          rw [fin (by rw [hst, show decide ((f.nodes.getD j fn0).kind = 5) = true from by simpa using h5]; rfl)]
          refine yT hC (oj hn_g1 hidx) ?_
          exact .one (.c (.bool _))
        · refine yG (oj hn_g1 hidx) ?_
          exact aw_stop ⟨j + 1, by omega, (zB (oj hn_g1 hidx)), zZ, by omega, by rw [hst, show decide ((f.nodes.getD j fn0).kind = 5) = false from by simpa using h5]; rfl⟩
    · refine yG (oj hn_g1 hidx) ?_
      refine yN (oj hn_g1 hidx) ?_
      refine yG (oj hn_g1 hidx) ?_
      exact aw_stop ⟨j + 1, by omega, (zB (oj hn_g1 hidx)), zZ, by omega, by rw [hst, hm]; rfl⟩
  · have h1' : j = f.nodes.length := by have := of_decide_eq_false h1; omega
    subst h1'
    refine yG hn_g1 ?_
    rw [hc]
    refine yT hC hn_g1 ?_
    exact .one (.c (.bool _))
end Go.Proofs.YtcoflhkcpnoaaaaGreat
namespace Go.PN
open Go.AI
def kcode33 (f : FM) (o : List Int) : Int := if fcode f ≠ 0 then fcode f else if ocode o f.vars ≠ 0 then ocode o f.vars else if cohTo f f.nodes.length then 0 else 7
end Go.PN

namespace Go.PN
open Go.AI
theorem k33_of {f : FM} {o : List Int} (h : kcode33 f o = 0) : K33 f o := by
  unfold kcode33 at h
  by_cases h1 : fcode f = 0
  · rw [if_neg (fun k => k h1)] at h
    by_cases h2 : ocode o f.vars = 0
    · rw [if_neg (fun k => k h2)] at h
      cases h3 : cohTo f f.nodes.length with
      | true => exact ⟨h1, h2, h3⟩
      | false => rw [h3] at h; cases h
    · rw [if_pos h2] at h; exact absurd h h2
  · rw [if_pos h1] at h; exact absurd h h1
end Go.PN

namespace Go.Proofs.YtcoflhkcpnoaaaaGreat
open Go.AI Go.PN
attribute [local irreducible] aw Fa Fh DrK
set_option maxHeartbeats 1600000 in
theorem checkR33_fa (f : FM) (o : List Int) (hn : f.nodes.length ≤ 1099511627776) (ha : ArgsOk f) (ht0 : -9223372036854775808 ≤ f.top) (ht : f.top ≤ 9223372036854775807) (hol : o.length ≤ 1099511627776) :
    Fa Tryz.prog 31 [.agg (fmc false f), .c (is false o)] (.c (.int .i64 (kcode33 f o))) := by
  unfold kcode33
  refine fa_of_body Tryz.func31 rfl rfl (by simp [Tryz.ntmps31]) fun C hC => ?_
  simp only [initS, Nat.reduceAdd]
  refine xG ?_
  refine xB fun g2 hn_g2=>?_
  refine yG hn_g2 ?_
  refine yC hn_g2 (fcheckR_fa f hn ha ht0 ht) ?_
  by_cases h1 : fcode f = 0
  · have z1 := ieq_t h1
    rw [if_neg (fun h => h h1)]
    refine yG (oj hn_g2 z1) ?_
    refine yN (oj hn_g2 z1) ?_
    refine yG (oj hn_g2 z1) ?_
    refine yC (oj hn_g2 z1) (ocheckR_fa o f.vars hol) ?_
    by_cases h2 : ocode o f.vars = 0
    · have z2 := ieq_t h2
      rw [if_neg (fun h => h h2)]
      refine yG (oj hn_g2 (oj z1 z2)) ?_
      refine yN (oj hn_g2 (oj z1 z2)) ?_
      refine yG (oj hn_g2 (oj z1 z2)) ?_
      refine yC (oj hn_g2 (oj z1 z2)) (coherent_fa f (fr_ok h1)) ?_
      refine yG (oj hn_g2 (oj z1 z2)) ?_
      cases hc : cohTo f f.nodes.length
      · refine yS (oj hn_g2 (oj z1 z2)) ?_
        refine yG (oj hn_g2 (oj z1 z2)) ?_
        refine yP (oj hn_g2 (oj z1 z2)) ?_
        refine yG (oj hn_g2 (oj z1 z2)) ?_
        refine yT hC (oj hn_g2 (oj z1 z2)) ?_
        exact .one (.c (.int _ _))
      · refine yS (oj hn_g2 (oj z1 z2)) ?_
        refine yG (oj hn_g2 (oj z1 z2)) ?_
        refine yN (oj hn_g2 (oj z1 z2)) ?_
        refine yG (oj hn_g2 (oj z1 z2)) ?_
        refine yT hC (oj hn_g2 (oj z1 z2)) ?_
        exact .one (.c (.int _ _))
    · have z2 := ieq_f h2
      rw [if_pos h2]
      refine yG (oj hn_g2 (oj z1 z2)) ?_
      refine yP (oj hn_g2 (oj z1 z2)) ?_
      refine yG (oj hn_g2 (oj z1 z2)) ?_
      refine yT hC (oj hn_g2 (oj z1 z2)) ?_
      exact .one (.c (.int _ _))
  · have z1 := ieq_f h1
    rw [if_pos h1]
    refine yG (oj hn_g2 z1) ?_
    refine yP (oj hn_g2 z1) ?_
    refine yG (oj hn_g2 z1) ?_
    refine yT hC (oj hn_g2 z1) ?_
    exact .one (.c (.int _ _))
end Go.Proofs.YtcoflhkcpnoaaaaGreat
