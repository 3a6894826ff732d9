/- Texts of one proof, laid one behind the other by a program (merge.py): Unc2, Unc3, Unc4, Unc5, PUnc. -/
import Derived.Test.YtmfmnmkipjpjhaaGreatDoorV25
import Derived.Test.YtmfmnmkipjpjhaaGreatDoorV24
import Derived.Test.YtmfmnmkipjpjhaaGreatDoorV23
set_option linter.unusedSimpArgs false
set_option linter.unusedVariables false
/- uncertain.check; ref44.Check; coherent.Syntax, ref28.Syntax; ref10.Table. -/
namespace Go.PN
open Go.AI
/-- A span of probabilities. -/
def okS (y : SD) : Bool := validS y && (!decide (signQ y.lo.q < 0) && !decide (signQ (y.hi.q - 1) > 0))
def scode (s : List SD) (vars : Int) : Int := if (s.length : Int) ≠ vars then 11 else if s.all okS then 0 else 3
noncomputable def ucode (f : FM) (s : List SD) : Int := if fcode f ≠ 0 then fcode f else scode s f.vars
theorem all_bad {s : List SD} {k : Nat} (h : k < s.length) (hb : okS (s.getD k sd0) = false) : s.all okS = false := by
  rw [List.getD_eq_getElem?_getD, List.getElem?_eq_getElem h] at hb
  rw [List.all_eq_false]
  exact ⟨_, List.getElem_mem h, by simpa using hb⟩
theorem all_takeS {s : List SD} {k : Nat} (h : k < s.length) (h1 : (s.take k).all okS = true) (hb : okS (s.getD k sd0) = true) : (s.take (k + 1)).all okS = true := by
  rw [List.getD_eq_getElem?_getD, List.getElem?_eq_getElem h] at hb
  rw [List.take_succ_eq_append_getElem h, List.all_append, h1]
  simpa using hb
abbrev unitS : SD := ⟨⟨false, [], []⟩, rd 1⟩
theorem ok_inside {y : SD} (hv : validS y = true) : insideS y unitS = (!decide (signQ y.lo.q < 0) && !decide (signQ (y.hi.q - 1) > 0)) := by
  have hle := valid_le hv
  have e0 : (⟨false, [], []⟩ : RD).q = 0 := rd0_q
  have hu : validS unitS = true := by
    unfold validS
    rw [signQ_le, e0, rd_q, rd_valid, show decide ((0 : Rat) - 1 ≤ 0) = true from by decide +kernel, show unitS.lo.valid = true from by decide]
    rfl
  unfold insideS containsS nlo nhi
  rw [if_pos hv, if_pos hv, if_pos hu, if_pos hu, e0, rd_q]
  rw [signQ_le, signQ_le, signQ_le, signQ_le]
  have h1 := signQ_ge y.lo.q
  have h2 := signQ_le (y.hi.q - 1)
  have e1 : decide (signQ y.lo.q < 0) = !decide (0 ≤ y.lo.q) := by
    rw [← h1]; by_cases h : signQ y.lo.q ≥ 0
    · rw [decide_eq_true h, decide_eq_false (by omega)]; rfl
    · rw [decide_eq_false h, decide_eq_true (by omega)]; rfl
  have e2 : decide (signQ (y.hi.q - 1) > 0) = !decide (y.hi.q - 1 ≤ 0) := by
    rw [← h2]; by_cases h : signQ (y.hi.q - 1) ≤ 0
    · rw [decide_eq_true h, decide_eq_false (by omega)]; rfl
    · rw [decide_eq_false h, decide_eq_true (by omega)]; rfl
  rw [e1, e2, Bool.not_not, Bool.not_not]
  by_cases a : 0 ≤ y.lo.q <;> by_cases b : y.hi.q - 1 ≤ 0
  · rw [decide_eq_true (show (0 : Rat) - y.lo.q ≤ 0 by grind), decide_eq_true (show y.lo.q - 1 ≤ 0 by grind), decide_eq_true (show (0 : Rat) - y.hi.q ≤ 0 by grind), decide_eq_true b, decide_eq_true a]; rfl
  · rw [decide_eq_false b, decide_eq_true a]; simp
  · rw [decide_eq_false (show ¬ (0 : Rat) - y.lo.q ≤ 0 by grind), decide_eq_false a]; rfl
  · rw [decide_eq_false (show ¬ (0 : Rat) - y.lo.q ≤ 0 by grind), decide_eq_false a]; rfl
theorem ok_eq (y : SD) : okS y = (validS y && insideS y unitS) := by
  unfold okS
  cases hv : validS y
  · rfl
  · rw [ok_inside hv]
/-- The trimmed formula has no such node exactly if none is below the top. -/
theorem trim_coh (f : FM) : ∀ k, (trTo f k).all (fun x => !(decide (x.kind = 1) || decide (x.kind = 5))) = cohTo f k
  | 0 => rfl
  | k + 1 => by
    rw [trTo, cohTo, ← trim_coh f k]
    cases hm : (belL f).getD (f.vars.toNat + k) false
    · simp
    · simp
end Go.PN
namespace Go.Proofs.YtmfmnmkipjpjhaaGreatDoor
open Go.AI Go.PN
attribute [local irreducible] aw Fa Fh DrK
theorem one_q : rd ((1 : Int) : Rat) = rd 1 := by rw [Rat.intCast_one]
set_option maxRecDepth 100000 in
set_option maxHeartbeats 3200000 in
theorem ucheck_fa (f : FM) (s : List SD) (hn : f.nodes.length ≤ 1099511627776) (ha : ArgsOk f) (ht0 : -9223372036854775808 ≤ f.top) (ht : f.top ≤ 9223372036854775807) (hs : ∀ y ∈ s, y.wf 1000) (hl : s.length ≤ 1099511627776) :
    Fa Tryz.prog 39 [.agg (fmc false f), .c (sps false s)] (.c (errA (ucode f s))) := by
  refine fa_of_body Tryz.func39 rfl rfl (by simp [Tryz.ntmps39]) fun C hC => ?_
  simp only [initS, Nat.reduceAdd]
  refine xG ?_
  refine xB fun g2 hn_g2=>?_
  refine yG hn_g2 ?_
  refine yC hn_g2 (fcheck_fa f hn ha ht0 ht) ?_
  refine yG hn_g2 ?_
  refine yF hn_g2 (fun hc=>?_) fun hc=>?_
  · have hc' : fcode f ≠ 0 := by simpa using hc
    have e : ucode f s = fcode f := by unfold ucode; rw [if_pos hc']
    rw [e]
    refine yG hn_g2 ?_
    refine yT hC hn_g2 ?_
    exact .one (.c ler_err)
  have hc' : fcode f = 0 := by simpa using hc
  have v0 := (fr_ok hc').v0
  have v24 := (fr_ok hc').v24
  have e : ucode f s = scode s f.vars := by unfold ucode; rw [if_neg (by simp [hc'])]
  rw [e]
  refine yG hn_g2 ?_
  refine yF hn_g2 (fun hlen=>?_) fun hlen=>?_
  · have e : scode s f.vars = 11 := by unfold scode; rw [if_pos (by simpa using hlen)]
    rw [e]
    refine yG hn_g2 ?_
    refine yT hC hn_g2 ?_
    exact .one (.c (ler_errN rfl (by decide)))
  have hlen' : (s.length : Int) = f.vars := by simpa using hlen
  have e : scode s f.vars = if s.all okS then 0 else 3 := by unfold scode; rw [if_neg (by simpa using hlen')]
  rw [e]
  refine yG hn_g2 ?_
  refine aw_lp (fun k : Nat => [(2, .c (.optr g2 0)), (19, .c (sps false s)), (20, .c (.int .i64 s.length)), (21, .c (.int .i64 k))]) (fun _ => [(g2, .cells 24 3 (ofL (fmc false f)))]) (fun k => k ≤ s.length ∧ (s.take k).all okS = true) (fun k => s.length - k) 0 (zB hn_g2) zZ ⟨Nat.zero_le _, rfl⟩ ?_
  rintro k ⟨hk, hok⟩
  refine yG hn_g2 ?_
  refine yF hn_g2 (fun h1=>?_) fun h1=>?_
  · have h1' : k < s.length := by have := of_decide_eq_true h1; omega
    have hy : (s.getD k sd0).wf 1000 := by
      rw [List.getD_eq_getElem?_getD, List.getElem?_eq_getElem h1']
      exact hs _ (List.getElem_mem _)
    have hbad : okS (s.getD k sd0) = false → (if s.all okS then (0 : Int) else 3) = 3 := fun h => by rw [all_bad h1' h]; rfl
    have hgood := all_takeS h1' hok
    refine yG hn_g2 ?_
    refine yA hn_g2 fun g7 hn_g7=>?_
    generalize s.getD k sd0 = y at *
    have hokd : okS y = (validS y && (!decide (signQ y.lo.q < 0) && !decide (signQ (y.hi.q - 1) > 0))) := rfl
    refine yG (oj hn_g2 hn_g7) ?_
    refine yW (oj hn_g2 hn_g7) ?_
    refine yS (oj hn_g2 hn_g7) ?_
    refine aw_conv1 (f' := ofL (spc y)) (fun j hj => by match j, hj with | 0, _ => rfl | 1, _ => rfl | 2, _ => rfl | 3, _ => rfl | 4, _ => rfl | 5, _ => rfl) ?_
    refine yG (oj hn_g2 hn_g7) ?_
    refine aw_dr 16 ty_mixed (by kernel_rfl) ?_
    refine yG (oj hn_g2 hn_g7) ?_
    refine yD (oj hn_g2 hn_g7) (spvalid_fa y ⟨wf_mono hy.1 ?_, wf_mono hy.2 ?_⟩) ?_
    · omega
    · omega
    cases hv : validS y
    · rw [hv, Bool.false_and] at hokd
      refine yG (oj hn_g2 hn_g7) ?_
      rw [hbad hokd]
      refine yP (oj hn_g2 hn_g7) ?_
      refine yG (oj hn_g2 hn_g7) ?_
      refine yT hC (oj hn_g2 hn_g7) ?_
      exact .one (.c (ler_errN rfl (by decide)))
    rw [hv, Bool.true_and] at hokd
    refine yG (oj hn_g2 hn_g7) ?_
    refine yD (oj hn_g2 hn_g7) (rsign_fa y.lo (wf_mono hy.1 ?_)) ?_
    · omega
    refine yG (oj hn_g2 hn_g7) ?_
    cases hsg : decide (signQ y.lo.q < 0)
    · rw [hsg, Bool.not_false, Bool.true_and] at hokd
      refine yG (oj hn_g2 hn_g7) ?_
      refine yD (oj hn_g2 hn_g7) (rof_fa 1 ?_ ?_) ?_
      · omega
      · omega
      rw [one_q]
      refine yG (oj hn_g2 hn_g7) ?_
      have hcm := rcmp_fa y.hi (rd 1) (wf_mono hy.2 (by omega)) (rd_wf (fits_mono fits_one (by omega)))
      rw [rd_q] at hcm
      refine yD (oj hn_g2 hn_g7) (hcm) ?_
      refine yG (oj hn_g2 hn_g7) ?_
      refine yF (oj hn_g2 hn_g7) (fun hgt=>?_) fun hgt=>?_
      · rw [hgt] at hokd
        refine yG (oj hn_g2 hn_g7) ?_
        rw [hbad hokd]
        refine yT hC (oj hn_g2 hn_g7) ?_
        exact .one (.c (ler_errN rfl (by decide)))
      · rw [hgt] at hokd
        refine yG (oj hn_g2 hn_g7) ?_
        refine aw_weak (Sl.le_refl _) (List.sublist_cons_self _ _) ?_
        exact aw_stop ⟨k + 1, by omega, (zB (oj hn_g2 hn_g7)), zZ, by omega, hgood hokd⟩
    · rw [hsg] at hokd
      refine yG (oj hn_g2 hn_g7) ?_
      rw [hbad hokd]
      refine yP (oj hn_g2 hn_g7) ?_
      refine yG (oj hn_g2 hn_g7) ?_
      refine yT hC (oj hn_g2 hn_g7) ?_
      exact .one (.c (ler_errN rfl (by decide)))
  · have h1' : k = s.length := by have := of_decide_eq_false h1; omega
    subst h1'
    rw [List.take_length] at hok
    rw [if_pos hok]
    refine yG hn_g2 ?_
    refine yT hC hn_g2 ?_
    exact .one (.c (ler_err0 rfl))
set_option maxRecDepth 100000 in
set_option maxHeartbeats 3200000 in
theorem ucheckR_fa (f : FM) (s : List SD) (v0 : 0 ≤ f.vars) (v24 : f.vars ≤ 24) (hs : ∀ y ∈ s, y.wf 1000) (hl : s.length ≤ 1099511627776) :
    Fa Tryz.prog 44 [.agg (fmc false f), .c (sps false s)] (.c (.int .i64 (scode s f.vars))) := by
  have hu : unitS.wf 1000 := ⟨⟨by simp, by simp, by simp, by simp⟩, rd_wf (fits_mono fits_one (by omega))⟩
  refine fa_of_body Tryz.func44 rfl rfl (by simp [Tryz.ntmps44]) fun C hC => ?_
  simp only [initS, Nat.reduceAdd]
  refine xG ?_
  refine xB fun g2 hn_g2=>?_
  refine yG hn_g2 ?_
  refine yF hn_g2 (fun hlen=>?_) fun hlen=>?_
  · have e : scode s f.vars = 11 := by unfold scode; rw [if_pos (by simpa using hlen)]
    rw [e]
    refine yG hn_g2 ?_
    refine yT hC hn_g2 ?_
    exact .one (.c (.int _ _))
  have hlen' : (s.length : Int) = f.vars := by simpa using hlen
  have e : scode s f.vars = if s.all okS then 0 else 3 := by unfold scode; rw [if_neg (by simpa using hlen')]
  rw [e]
  refine yG hn_g2 ?_
  refine yC hn_g2 (sof_fa 1 ?_ ?_) ?_
  · omega
  · omega
  rw [one_q]
  refine yG hn_g2 ?_
  refine yA hn_g2 fun g5 hn_g5=>?_
  refine yG (oj hn_g2 hn_g5) ?_
  refine yW (oj hn_g2 hn_g5) ?_
  refine yS (oj hn_g2 hn_g5) ?_
  refine aw_convR (f' := ofL (spc unitS)) (fun j hj S w u hr => by match j, hj with | 0, _ => exact hr | 1, _ => exact repC_nil hr | 2, _ => exact repC_nil hr | 3, _ => exact hr | 4, _ => exact hr | 5, _ => exact hr) ?_
  refine yG (oj hn_g2 hn_g5) ?_
  refine aw_lp (fun k : Nat => [(2, .c (.optr g2 0)), (5, .c (.optr g5 0)), (15, .c (sps false s)), (16, .c (.int .i64 s.length)), (17, .c (.int .i64 k))]) (fun _ => [(g5, .cells 32 6 (ofL (spc unitS))), (g2, .cells 24 3 (ofL (fmc false f)))]) (fun k => k ≤ s.length ∧ (s.take k).all okS = true) (fun k => s.length - k) 0 (zB (oj hn_g2 hn_g5)) zZ ⟨Nat.zero_le _, rfl⟩ ?_
  rintro k ⟨hk, hok⟩
  refine yG (oj hn_g2 hn_g5) ?_
  refine yF (oj hn_g2 hn_g5) (fun h1=>?_) fun h1=>?_
  · have h1' : k < s.length := by have := of_decide_eq_true h1; omega
    have hy : (s.getD k sd0).wf 1000 := by
      rw [List.getD_eq_getElem?_getD, List.getElem?_eq_getElem h1']
      exact hs _ (List.getElem_mem _)
    have hbad : okS (s.getD k sd0) = false → (if s.all okS then (0 : Int) else 3) = 3 := fun h => by rw [all_bad h1' h]; rfl
    have hgood := all_takeS h1' hok
    refine yG (oj hn_g2 hn_g5) ?_
    refine yA (oj hn_g2 hn_g5) fun g7 hn_g7=>?_
    generalize s.getD k sd0 = y at *
    have hokd := ok_eq y
    refine yG (oj hn_g2 (oj hn_g5 hn_g7)) ?_
    refine yW (oj hn_g2 (oj hn_g5 hn_g7)) ?_
    refine yS (oj hn_g2 (oj hn_g5 hn_g7)) ?_
    refine aw_conv1 (f' := ofL (spc y)) (fun j hj => by match j, hj with | 0, _ => rfl | 1, _ => rfl | 2, _ => rfl | 3, _ => rfl | 4, _ => rfl | 5, _ => rfl) ?_
    refine yG (oj hn_g2 (oj hn_g5 hn_g7)) ?_
    refine yC (oj hn_g2 (oj hn_g5 hn_g7)) (spvalidR_fa y ⟨wf_mono hy.1 ?_, wf_mono hy.2 ?_⟩) ?_
    · omega
    · omega
    cases hv : validS y
    · rw [hv, Bool.false_and] at hokd
      refine yG (oj hn_g2 (oj hn_g5 hn_g7)) ?_
      rw [hbad hokd]
      refine yP (oj hn_g2 (oj hn_g5 hn_g7)) ?_
      refine yG (oj hn_g2 (oj hn_g5 hn_g7)) ?_
      refine yT hC (oj hn_g2 (oj hn_g5 hn_g7)) ?_
      exact .one (.c (.int _ _))
    rw [hv, Bool.true_and] at hokd
    refine yG (oj hn_g2 (oj hn_g5 hn_g7)) ?_
    refine yC (oj hn_g2 (oj hn_g5 hn_g7)) (spinsideR_fa y unitS ⟨wf_mono hy.1 ?_, wf_mono hy.2 ?_⟩ ⟨wf_mono hu.1 ?_, wf_mono hu.2 ?_⟩) ?_
    · omega
    · omega
    · omega
    · omega
    refine yG (oj hn_g2 (oj hn_g5 hn_g7)) ?_
    refine yF (oj hn_g2 (oj hn_g5 hn_g7)) (fun hin=>?_) fun hin=>?_
    · have hin' : insideS y unitS = false := by simpa using hin
      rw [hin'] at hokd
      refine yG (oj hn_g2 (oj hn_g5 hn_g7)) ?_
      rw [hbad hokd]
      refine yT hC (oj hn_g2 (oj hn_g5 hn_g7)) ?_
      exact .one (.c (.int _ _))
    · have hin' : insideS y unitS = true := by simpa using hin
      rw [hin'] at hokd
      refine yG (oj hn_g2 (oj hn_g5 hn_g7)) ?_
      refine aw_weak (Sl.le_refl _) (List.sublist_cons_self _ _) ?_
      exact aw_stop ⟨k + 1, by omega, (zB (oj hn_g2 (oj hn_g5 hn_g7))), zZ, by omega, hgood hokd⟩
  · have h1' : k = s.length := by have := of_decide_eq_false h1; omega
    subst h1'
    rw [List.take_length] at hok
    rw [if_pos hok]
    refine yG (oj hn_g2 hn_g5) ?_
    refine yT hC (oj hn_g2 hn_g5) ?_
    exact .one (.c (.int _ _))
set_option maxRecDepth 100000 in
set_option maxHeartbeats 1600000 in
theorem csyntax_fa (f : FM) (hn : f.nodes.length ≤ 1099511627776) (ha : ArgsOk f) (hc : fcode f = 0) : Fa Tryz.prog 25 [.agg (fmc false f)] (.tup [.c (.bool (cohTo f f.nodes.length)), .c .nilI]) := by
  have htc := trim_coh f f.nodes.length
  have n128 := (trim_ok (fr_ok hc)).n128
  rw [show trTo f f.nodes.length = (trimF f).nodes from rfl] at htc
  have htr := ftrim_fh f hn ha hc
  refine fa_of_body Tryz.func25 rfl rfl (by simp [Tryz.ntmps25]) fun C hC => ?_
  simp only [initS, Nat.reduceAdd]
  refine xG ?_
  refine xB fun g1 hn_g1=>?_
  refine yG hn_g1 ?_
  refine aw_callh (hc := []) (hr := [(g1, .cells 24 3 (ofL (fmc false f)))]) htr rfl rfl rfl (.refl _) (zL hn_g1) ?_
  rintro _ _ ⟨rfl, rfl⟩ _
  generalize trimF f = t at *
  refine yS hn_g1 ?_
  refine yG hn_g1 ?_
  refine yA hn_g1 fun g4 hn_g4=>?_
  refine yG (oj hn_g1 hn_g4) ?_
  refine yW (oj hn_g1 hn_g4) ?_
  refine yS (oj hn_g1 hn_g4) ?_
  refine yG (oj hn_g1 hn_g4) ?_
  refine yN (oj hn_g1 hn_g4) ?_
  refine yG (oj hn_g1 hn_g4) ?_
  refine aw_lp (fun k : Nat => [(17, .c (fns true t.nodes)), (18, .c (.int .i64 t.nodes.length)), (19, .c (.int .i64 k))]) (fun _ => []) (fun k => k ≤ t.nodes.length ∧ (t.nodes.take k).all (fun x => !(decide (x.kind = 1) || decide (x.kind = 5))) = true) (fun k => t.nodes.length - k) 0 (zB (oj hn_g1 hn_g4)) (List.nil_sublist _) ⟨Nat.zero_le _, rfl⟩ ?_
  rintro k ⟨hk, hok⟩
  refine yG (oj hn_g1 hn_g4) ?_
  refine yF (oj hn_g1 hn_g4) (fun h1=>?_) fun h1=>?_
  · have h1' : k < t.nodes.length := by have := of_decide_eq_true h1; omega
    have hst : (t.nodes.take (k + 1)).all (fun x => !(decide (x.kind = 1) || decide (x.kind = 5))) = !(decide ((t.nodes.getD k fn0).kind = 1) || decide ((t.nodes.getD k fn0).kind = 5)) := by
      rw [List.take_succ_eq_append_getElem h1', List.all_append, hok, List.getD_eq_getElem?_getD, List.getElem?_eq_getElem h1']
      simp
    have hbad : (decide ((t.nodes.getD k fn0).kind = 1) || decide ((t.nodes.getD k fn0).kind = 5)) = true → cohTo f f.nodes.length = false := fun h => by
      rw [← htc, List.all_eq_false]
      refine ⟨t.nodes.getD k fn0, ?_, by rw [h]; simp⟩
      rw [List.getD_eq_getElem?_getD, List.getElem?_eq_getElem h1']
      exact List.getElem_mem _
    refine yG (oj hn_g1 hn_g4) ?_
    refine yA (oj hn_g1 hn_g4) fun g7 hn_g7=>?_
    generalize t.nodes.getD k fn0 = y at *
    refine yG (oj hn_g1 (oj hn_g4 hn_g7)) ?_
    refine yW (oj hn_g1 (oj hn_g4 hn_g7)) ?_
    refine yS (oj hn_g1 (oj hn_g4 hn_g7)) ?_
    refine aw_conv1 (f' := ofL [.int .i64 y.kind, .int .i64 y.k, is true y.args]) (fun j hj => by match j, hj with | 0, _ => rfl | 1, _ => rfl | 2, _ => rfl) ?_
    refine yG (oj hn_g1 (oj hn_g4 hn_g7)) ?_
    refine aw_split 26 (zE (oj hn_g1 (oj hn_g4 hn_g7))) (fun h4 => ?_) (fun h4 => ?_) <;> refine yS (oj hn_g1 (oj hn_g4 hn_g7)) ?_
    · refine yG (oj hn_g1 (oj hn_g4 hn_g7)) ?_
      refine yP (oj hn_g1 (oj hn_g4 hn_g7)) ?_
      refine yG (oj hn_g1 (oj hn_g4 hn_g7)) ?_
      rw [hbad (by rw [show decide (y.kind = 1) = true from by simpa using h4]; rfl)]
      refine yT hC (oj hn_g1 (oj hn_g4 hn_g7)) ?_
      exact .tup ⟨.c (.bool _), .c .nilI, trivial⟩
    · have h4' : decide (y.kind = 1) = false := by simpa using h4
      refine yG (oj hn_g1 (oj hn_g4 hn_g7)) ?_
      refine yF (oj hn_g1 (oj hn_g4 hn_g7)) (fun h5=>?_) fun h5=>?_
      · refine yG (oj hn_g1 (oj hn_g4 hn_g7)) ?_
        rw [hbad (by rw [h4', show decide (y.kind = 5) = true from by simpa using h5]; rfl)]
        refine yT hC (oj hn_g1 (oj hn_g4 hn_g7)) ?_
        exact .tup ⟨.c (.bool _), .c .nilI, trivial⟩
      · refine yG (oj hn_g1 (oj hn_g4 hn_g7)) ?_
        exact aw_stop ⟨k + 1, by omega, (zB (oj hn_g1 (oj hn_g4 hn_g7))), List.nil_sublist _, by omega, by rw [hst, h4', show decide (y.kind = 5) = false from by simpa using h5]; rfl⟩
  · have h1' : k = t.nodes.length := by have := of_decide_eq_false h1; omega
    subst h1'
    rw [List.take_length] at hok
    refine yG (oj hn_g1 hn_g4) ?_
    rw [← htc, hok]
    refine yT hC (oj hn_g1 hn_g4) ?_
    exact .tup ⟨.c (.bool _), .c .nilI, trivial⟩
set_option maxHeartbeats 1600000 in
theorem table10_fa (f : FM) (hf : FmOk f) (hv : f.vars ≤ 24) : Fa Tryz.prog 81 [.agg (fmc false f)] (.c (bs true (formTo f (2 ^ f.vars.toNat)))) := by
  have f1 := hf.v0
  have e1 := shl_one f.vars.toNat (by omega)
  rw [show ((f.vars.toNat : Nat) : Int) = f.vars from by omega] at e1
  have hp : 2 ^ f.vars.toNat ≤ 16777216 := by
    have h3 : 2 ^ f.vars.toNat ≤ 2 ^ 24 := Nat.pow_le_pow_right (by omega) (by omega)
    have h4 : (2 : Nat) ^ 24 = 16777216 := by decide
    omega
  generalize 2 ^ f.vars.toNat = M at *
  refine fa_of_body Tryz.func81 rfl rfl (by simp [Tryz.ntmps81]) fun C hC => ?_
  simp only [initS, Nat.reduceAdd]
  refine yG e1 ?_
  refine yB e1 fun g1 hn_g1=>?_
  refine yG (oj e1 hn_g1) ?_
  refine aw_lp (fun x : Option Nat × Nat => [(1, .c (.optr g1 0)), (3, .c (gs x.1 1 x.2)), (7, .c (.int .i64 M)), (8, .c (.int .i64 x.2))]) (fun x => [(g1, .cells 24 3 (ofL (fmc false f)))] ++ gh x.1 4 x.2 (bsF (formTo f x.2))) (fun x => (x.1 = none → x.2 = 0) ∧ (∀ g, x.1 = some g → ¬ g = g1) ∧ x.2 ≤ M) (fun x => M - x.2) (none, 0) (zB (oj e1 hn_g1)) zZ ⟨fun _ => rfl, (fun g e => by cases e), Nat.zero_le _⟩ ?_
  rintro ⟨og, k⟩ ⟨hog, hgn, hk⟩
  dsimp only at hog hgn hk ⊢
  refine yS (oj e1 hn_g1) ?_
  have hvl := formTo_len f k
  refine yG (oj e1 hn_g1) ?_
  refine yF (oj e1 hn_g1) (fun hb=>?_) fun hb=>?_
  · have hin : k < M := by have := of_decide_eq_true hb; omega
    refine yG (oj e1 hn_g1) ?_
    refine yC (oj e1 hn_g1) (fvalue_fa f hf k ?_) ?_
    · omega
    refine yG (oj e1 hn_g1) ?_
    refine aw_push (pre := [(g1, .cells 24 3 (ofL (fmc false f)))]) rfl rfl rfl rfl rfl rfl rfl (zE (oj e1 hn_g1)) (zE (oj e1 hn_g1)) (by rfl) (by omega) (by omega) (zE (oj e1 hn_g1)) (by omega) (by exact hog) (zE (oj e1 hn_g1)) (by rfl) (by rfl) (by first | rfl | simp only [Nat.mul_one, List.nil_append, List.cons_append] <;> rfl) (by unfold maxLen; omega) (by omega) (by exact bs_push hvl _) fun g hn_g => ?_
    replace hn_g := Heap.ne_of hn_g
    first | dsimp only [Heap.ne, gh] at hn_g | dsimp only [Heap.ne] at hn_g | skip
    refine yS (oj e1 (oj hn_g1 hn_g)) ?_
    refine yG (oj e1 (oj hn_g1 hn_g)) ?_
    refine aw_stop ⟨(some g, k + 1), by dsimp only; omega, (zB (oj e1 (oj hn_g1 hn_g))), zZ, some_ne, (fun g e => by cases e; exact (of_eq_false hn_g.1.1)), by dsimp only; omega⟩
  · have hin : k = M := by have := of_decide_eq_false hb; omega
    subst hin
    refine yG (oj e1 hn_g1) ?_
    refine yT hC (oj e1 hn_g1) ?_
    exact .one (.c (ler_gsb (pre := [(g1, _)]) hog (fun g e => by simp only [Heap.keys, List.map_cons, List.map_nil, List.mem_singleton]; exact hgn g e) hvl))
end Go.Proofs.YtmfmnmkipjpjhaaGreatDoor

/- Top at the ends of spans; Monotone. -/
namespace Go.PN
open Go.AI
theorem ok_prob {y : SD} (h : okS y = true) : y.lo.prob = true ∧ y.hi.prob = true := by
  unfold okS at h
  rw [Bool.and_eq_true] at h
  obtain ⟨hv, h⟩ := h
  have hle := valid_le hv
  have h1 := signQ_ge y.lo.q
  have h2 := signQ_le (y.hi.q - 1)
  simp only [Bool.and_eq_true, Bool.not_eq_true', decide_eq_false_iff_not] at h
  have a : 0 ≤ y.lo.q := by
    rw [decide_eq_true (show signQ y.lo.q ≥ 0 by omega)] at h1
    exact of_decide_eq_true h1.symm
  have b : y.hi.q - 1 ≤ 0 := by
    rw [decide_eq_true (show signQ (y.hi.q - 1) ≤ 0 by omega)] at h2
    exact of_decide_eq_true h2.symm
  unfold validS at hv
  simp only [Bool.and_eq_true] at hv
  unfold RD.prob
  rw [hv.1.1, hv.1.2, decide_eq_true a, decide_eq_true (show y.lo.q ≤ 1 by grind), decide_eq_true (show 0 ≤ y.hi.q by grind), decide_eq_true (show y.hi.q ≤ 1 by grind)]
  exact ⟨rfl, rfl⟩
/-- The exact probability with these ends. -/
noncomputable def topQ (f : FM) (s : List SD) (u : Nat) : Rat := sumQ (endTo s u s.length) (formTo f (2 ^ f.vars.toNat)) (2 ^ s.length)
end Go.PN
namespace Go.Proofs.YtmfmnmkipjpjhaaGreatDoor
open Go.AI Go.PN
attribute [local irreducible] aw Fa Fh DrK
/-- A formula and spans that are accepted. -/
structure UOk (f : FM) (s : List SD) : Prop where
  hn : f.nodes.length ≤ 1099511627776
  ha : ArgsOk f
  fc : fcode f = 0
  sc : scode s f.vars = 0
  v6 : f.vars ≤ 6
  w : ∀ y ∈ s, y.wf 4
theorem UOk.len {f : FM} {s : List SD} (h : UOk f s) : (s.length : Int) = f.vars := by
  have := h.sc
  unfold scode at this
  split at this
  · cases this
  · rename_i h1; exact Classical.not_not.1 h1
theorem UOk.all {f : FM} {s : List SD} (h : UOk f s) : ∀ y ∈ s, okS y = true := by
  have := h.sc
  unfold scode at this
  split at this
  · cases this
  · split at this
    · rename_i h1; exact fun y hy => List.all_eq_true.1 h1 y hy
    · cases this
theorem UOk.getOk {f : FM} {s : List SD} (h : UOk f s) {i : Nat} (hi : i < s.length) : okS (s.getD i sd0) = true ∧ (s.getD i sd0).wf 4 := by
  rw [List.getD_eq_getElem?_getD, List.getElem?_eq_getElem hi]
  exact ⟨h.all _ (List.getElem_mem hi), h.w _ (List.getElem_mem hi)⟩
theorem UOk.ends {f : FM} {s : List SD} (h : UOk f s) (u : Nat) : ∀ r ∈ endTo s u s.length, r.wf 4 ∧ r.prob = true := fun r hr => by
  obtain ⟨i, hi, rfl⟩ := List.mem_map.1 hr
  obtain ⟨h1, h2⟩ := h.getOk (List.mem_range.1 hi)
  obtain ⟨h3, h4⟩ := ok_prob h1
  split
  · exact ⟨h2.2, h4⟩
  · exact ⟨h2.1, h3⟩
theorem tags_rd (r : RD) : tagsL (rdc r) := ⟨trivial, ⟨rfl, fun _ => trivial⟩, ⟨rfl, fun _ => trivial⟩, trivial⟩
noncomputable def umonC (f : FM) (s : List SD) : Int := if ucode f s ≠ 0 then ucode f s else if cohTo f f.nodes.length then 0 else 7
noncomputable def umonS (f : FM) (s : List SD) : SD := if umonC f s = 0 then ⟨rd (topQ f s 0), rd (topQ f s (2 ^ f.vars.toNat - 1))⟩ else ⟨rd 0, rd 0⟩
theorem topQ_fits {f : FM} {s : List SD} (h : UOk f s) (u : Nat) : fits (topQ f s u) 4000 := by
  have hl := h.len
  have h6 := h.v6
  have := fits_sum (ps := endTo s u s.length) (tb := formTo f (2 ^ f.vars.toNat)) (L := 4) (by omega) (fun r hr => (h.ends u r hr).1) (2 ^ s.length)
  rw [endTo_len] at this
  refine fits_mono this ?_
  have h1 : s.length ≤ 6 := by omega
  have h2 : 2 ^ s.length ≤ 64 := by
    have : 2 ^ s.length ≤ 2 ^ 6 := Nat.pow_le_pow_right (by omega) h1
    omega
  have h3 : ((2 * 4 + 2) * s.length + 2) * 2 ^ s.length ≤ 62 * 64 := Nat.mul_le_mul (by omega) h2
  omega
theorem topE_fa {f : FM} {s : List SD} (h : UOk f s) (u : Nat) : Fa Tryz.prog 31 [.agg (fmc false f), .c (rats false (endTo s u s.length))] (.tup [.agg (rdc (rd (topQ f s u))), .c .nilI]) := by
  have hl := h.len
  have hp : pcode (endTo s u s.length) f.vars = 0 := pcode_mk (by rw [endTo_len]; exact hl) fun r hr => (h.ends u r hr).2
  refine fa_of_fh ?_ (stop_fh f (endTo s u s.length) h.hn h.ha h.fc h.v6 (fun r hr => (h.ends u r hr).1) hp (by rw [endTo_len]; exact hl)) ?_
  · exact ⟨tags_rd _, trivial, trivial⟩
  · rintro y hh ⟨rfl, D, hD, hDl, rfl⟩
    rw [endTo_len] at hDl
    refine ⟨rfl, ?_⟩
    rw [form_tab hD (by omega), endTo_len]
    rfl
theorem fm_ok {f : FM} (hc : fcode f = 0) (h6 : f.vars ≤ 6) : FmOk f := by
  have ok := fr_ok hc
  refine ⟨ok.v0, by omega, by have := ok.n128; omega, fun x hx => ?_, ok.t0, ok.t1⟩
  obtain ⟨i, hi, rfl⟩ := List.mem_iff_getElem.1 hx
  have h1 := ok.len hi
  have h2 := ok.arg i hi
  rw [show f.nodes.getD i fn0 = f.nodes[i] from by rw [List.getD_eq_getElem?_getD, List.getElem?_eq_getElem hi]; rfl] at h1 h2
  exact ⟨by omega, fun y hy => by have := h2 y hy; omega⟩
set_option maxHeartbeats 1600000 in
theorem rtop_fa {f : FM} {s : List SD} (h : UOk f s) (u : Nat) (hu : u < 9223372036854775808) : Fa Tryz.prog 46 [.agg (fmc false f), .c (sps false s), .c (.int .i64 u)] (.agg (rdc (rd (topQ f s u)))) := by
  have hl := h.len
  have h6 := h.v6
  have ok := fr_ok h.fc
  have t1 := table10_fa f (fm_ok h.fc h6) (by omega)
  have t2 := endsR_fa s u hu (by omega)
  have hfl := formTo_len f (2 ^ f.vars.toNat)
  have t3 := table37_fa (formTo f (2 ^ f.vars.toNat)) (endTo s u s.length) 4 (by omega) (by omega) (fun r hr => (h.ends u r hr).1) (by rw [endTo_len]; omega) (by rw [hfl, endTo_len]; congr 1; omega)
  rw [hfl, show 2 ^ f.vars.toNat = 2 ^ s.length from by congr 1; omega] at t3
  rw [show sumQ (endTo s u s.length) (formTo f (2 ^ s.length)) (2 ^ s.length) = topQ f s u from by unfold topQ; rw [show 2 ^ f.vars.toNat = 2 ^ s.length from by congr 1; omega], ← show 2 ^ f.vars.toNat = 2 ^ s.length from by congr 1; omega] at t3
  generalize topQ f s u = X at *
  generalize formTo f (2 ^ f.vars.toNat) = tb at *
  generalize endTo s u s.length = ps at *
  refine fa_of_body Tryz.func46 rfl rfl (by simp [Tryz.ntmps46]) fun C hC => ?_
  simp only [initS, Nat.reduceAdd]
  refine xG ?_
  refine xB fun g3 hn_g3=>?_
  refine yA hn_g3 fun g6 hn_g6=>?_
  refine yG (oj hn_g3 hn_g6) ?_
  refine yC (oj hn_g3 hn_g6) (t1) ?_
  refine yG (oj hn_g3 hn_g6) ?_
  refine yC (oj hn_g3 hn_g6) (t2) ?_
  refine yG (oj hn_g3 hn_g6) ?_
  refine yC (oj hn_g3 hn_g6) (t3) ?_
  refine yG (oj hn_g3 hn_g6) ?_
  refine yW (oj hn_g3 hn_g6) ?_
  refine yS (oj hn_g3 hn_g6) ?_
  refine yG (oj hn_g3 hn_g6) ?_
  refine yT hC (oj hn_g3 hn_g6) ?_
  exact ler_rd rfl
end Go.Proofs.YtmfmnmkipjpjhaaGreatDoor

/- Monotone of uncertain and of ref44. -/
namespace Go.Proofs.YtmfmnmkipjpjhaaGreatDoor
open Go.AI Go.PN
attribute [local irreducible] aw Fa Fh DrK
theorem lerl_zero {h : Heap} : LeRL h [.bool false, .nils, .nils, .bool false, .nils, .nils] (spc ⟨rd 0, rd 0⟩) := by
  rw [rd_zero]
  exact ⟨.bool _, .nils, .nils, .bool _, .nils, .nils, trivial⟩
theorem uok_of {f : FM} {s : List SD} (hn : f.nodes.length ≤ 1099511627776) (ha : ArgsOk f) (hs : ∀ y ∈ s, y.wf 4) (hv : fcode f = 0 → f.vars ≤ 6) (h : ucode f s = 0) : UOk f s := by
  unfold ucode at h
  by_cases hc : fcode f ≠ 0
  · rw [if_pos hc] at h; exact absurd h hc
  · rw [if_neg hc] at h
    have hc' : fcode f = 0 := Classical.not_not.1 hc
    exact ⟨hn, ha, hc', h, hv hc', hs⟩
set_option maxRecDepth 100000 in
set_option maxHeartbeats 3200000 in
theorem umono_fa (f : FM) (s : List SD) (hn : f.nodes.length ≤ 1099511627776) (ha : ArgsOk f) (ht0 : -9223372036854775808 ≤ f.top) (ht : f.top ≤ 9223372036854775807) (hs : ∀ y ∈ s, y.wf 4) (hl : s.length ≤ 1099511627776) (hv : fcode f = 0 → f.vars ≤ 6) :
    Fa Tryz.prog 12 [.agg (fmc false f), .c (sps false s)] (.tup [.agg (spc (umonS f s)), .c (errA (umonC f s))]) := by
  have hS : umonS f s = if umonC f s = 0 then ⟨rd (topQ f s 0), rd (topQ f s (2 ^ f.vars.toNat - 1))⟩ else ⟨rd 0, rd 0⟩ := rfl
  have hcd : umonC f s = if ucode f s ≠ 0 then ucode f s else if cohTo f f.nodes.length then 0 else 7 := rfl
  have hck := ucheck_fa f s hn ha ht0 ht (fun y hy => ⟨wf_mono (hs y hy).1 (by omega), wf_mono (hs y hy).2 (by omega)⟩) hl
  refine fa_of_body Tryz.func12 rfl rfl (by simp [Tryz.ntmps12]) fun C hC => ?_
  simp only [initS, Nat.reduceAdd]
  refine xG ?_
  refine xB fun g2 hn_g2=>?_
  refine yA hn_g2 fun g4 hn_g4=>?_
  refine yG (oj hn_g2 hn_g4) ?_
  refine yC (oj hn_g2 hn_g4) (hck) ?_
  refine yG (oj hn_g2 hn_g4) ?_
  refine yF (oj hn_g2 hn_g4) (fun hb=>?_) fun hb=>?_
  · have hb' : ucode f s ≠ 0 := by simpa using hb
    rw [if_pos hb'] at hcd
    rw [hcd, if_neg hb'] at hS
    rw [hS, hcd]
    refine yG (oj hn_g2 hn_g4) ?_
    refine yW (oj hn_g2 hn_g4) ?_
    refine yS (oj hn_g2 hn_g4) ?_
    refine yG (oj hn_g2 hn_g4) ?_
    refine yT hC (oj hn_g2 hn_g4) ?_
    refine .tup ⟨.agg ?_, .c ler_err, trivial⟩
    show LeRL _ [.bool false, .nils, .nils, .bool false, .nils, .nils] _
    exact lerl_zero
  have hb' : ucode f s = 0 := by simpa using hb
  rw [if_neg (by simp [hb'])] at hcd
  have ok := uok_of hn ha hs hv hb'
  have hlen := ok.len
  have h6 := ok.v6
  have v0 := (fr_ok ok.fc).v0
  refine yG (oj hn_g2 hn_g4) ?_
  refine yC (oj hn_g2 hn_g4) (csyntax_fa f hn ha ok.fc) ?_
  refine yG (oj hn_g2 hn_g4) ?_
  cases hco : cohTo f f.nodes.length
  · rw [hco] at hcd
    replace hcd : umonC f s = 7 := hcd
    rw [hcd, if_neg (by decide)] at hS
    rw [hS, hcd]
    refine yG (oj hn_g2 hn_g4) ?_
    refine yP (oj hn_g2 hn_g4) ?_
    refine yG (oj hn_g2 hn_g4) ?_
    refine yW (oj hn_g2 hn_g4) ?_
    refine yS (oj hn_g2 hn_g4) ?_
    refine yG (oj hn_g2 hn_g4) ?_
    refine yT hC (oj hn_g2 hn_g4) ?_
    refine .tup ⟨.agg ?_, .c (ler_errN rfl (by decide)), trivial⟩
    show LeRL _ [.bool false, .nils, .nils, .bool false, .nils, .nils] _
    exact lerl_zero
  rw [hco] at hcd
  replace hcd : umonC f s = 0 := hcd
  rw [if_pos hcd] at hS
  rw [hS, hcd]
  have e1 := shl_one f.vars.toNat (by omega)
  rw [show ((f.vars.toNat : Nat) : Int) = f.vars from by omega] at e1
  have hp : 2 ^ f.vars.toNat ≤ 64 := by
    have : 2 ^ f.vars.toNat ≤ 2 ^ 6 := Nat.pow_le_pow_right (by omega) (by omega)
    omega
  have hp1 : 1 ≤ 2 ^ f.vars.toNat := Nat.one_le_two_pow
  have t1 := topE_fa ok 0
  have t2 := topE_fa ok (2 ^ f.vars.toNat - 1)
  have n1 : Fa Tryz.prog 40 [.c (sps false s), .c (.int .i64 0)] (.c (rats true (endTo s 0 s.length))) := ends_fa s 0 (by omega) (by omega)
  have n2 := ends_fa s (2 ^ f.vars.toNat - 1) (by omega) (by omega)
  generalize topQ f s 0 = X at *
  generalize topQ f s (2 ^ f.vars.toNat - 1) = Y at *
  have hsub : ((2 ^ f.vars.toNat : Nat) : Int) - 1 = ((2 ^ f.vars.toNat - 1 : Nat) : Int) := by omega
  refine yG (oj hn_g2 (oj hn_g4 e1)) ?_
  refine yN (oj hn_g2 (oj hn_g4 e1)) ?_
  refine yG (oj hn_g2 (oj hn_g4 e1)) ?_
  refine aw_cw ([(g2, .cells 24 3 (ofL (fmc false f)))]) [(0,0),(1,0),(2,0),(3,0),(4,0),(5,0),(6,0),(7,1),(8,1),(9,0)] ty_mixed (by kernel_rfl) eI ?_
  refine yG (oj hn_g2 (oj hn_g4 e1)) ?_
  refine cw_callq rfl n1 rfl rfl rfl (fun _ _ => (zL (oj hn_g2 (oj hn_g4 e1)))) ?_
  refine yS (oj hn_g2 (oj hn_g4 e1)) ?_
  refine yG (oj hn_g2 (oj hn_g4 e1)) ?_
  refine cw_callq rfl t1 rfl rfl rfl (fun _ _ => (zL (oj hn_g2 (oj hn_g4 e1)))) ?_
  refine yS (oj hn_g2 (oj hn_g4 e1)) ?_
  refine yG (oj hn_g2 (oj hn_g4 e1)) ?_
  refine cw_alloc rfl rfl rfl rfl (zE (oj hn_g2 (oj hn_g4 e1))) eI (fun g9 hn_g9 => ?_) (hm := .inr ⟨rfl, rfl⟩)
  replace hn_g9 := Heap.ne_of hn_g9
  dsimp only [Heap.ne] at hn_g9
  refine yS (oj hn_g2 (oj hn_g4 (oj e1 hn_g9))) ?_
  refine cw_store rfl rfl rfl rfl rfl (zE (oj hn_g2 (oj hn_g4 (oj e1 hn_g9)))) (zE (oj hn_g2 (oj hn_g4 (oj e1 hn_g9)))) (zE (oj hn_g2 (oj hn_g4 (oj e1 hn_g9)))) (zE (oj hn_g2 (oj hn_g4 (oj e1 hn_g9)))) (fun _ e => by cases e) rfl rfl (Nat.le_refl 3) (zE (oj hn_g2 (oj hn_g4 (oj e1 hn_g9)))) eI ?_ (hm := .inr ⟨rfl, rfl⟩)
  refine yS (oj hn_g2 (oj hn_g4 (oj e1 hn_g9))) ?_
  refine yG (oj hn_g2 (oj hn_g4 (oj e1 hn_g9))) ?_
  refine yN (oj hn_g2 (oj hn_g4 (oj e1 hn_g9))) ?_
  refine yG (oj hn_g2 (oj hn_g4 (oj e1 hn_g9))) ?_
  refine aw_cw ([(g2, .cells 24 3 (ofL (fmc false f)))]) [(0,0),(1,0),(2,0),(3,0),(4,0),(5,0),(6,0),(7,0),(8,0),(9,0),(10,0),(11,1),(12,1),(13,0)] ty_mixed (by kernel_rfl) eI ?_
  refine yG (oj hn_g2 (oj hn_g4 (oj e1 hn_g9))) ?_
  rw [hsub]
  refine cw_callq rfl n2 rfl rfl rfl (fun _ _ => (zL (oj hn_g2 (oj hn_g4 (oj e1 hn_g9))))) ?_
  refine yS (oj hn_g2 (oj hn_g4 (oj e1 hn_g9))) ?_
  refine yG (oj hn_g2 (oj hn_g4 (oj e1 hn_g9))) ?_
  refine cw_callq rfl t2 rfl rfl rfl (fun _ _ => (zL (oj hn_g2 (oj hn_g4 (oj e1 hn_g9))))) ?_
  refine yS (oj hn_g2 (oj hn_g4 (oj e1 hn_g9))) ?_
  refine yG (oj hn_g2 (oj hn_g4 (oj e1 hn_g9))) ?_
  refine cw_alloc rfl rfl rfl rfl (zE (oj hn_g2 (oj hn_g4 (oj e1 hn_g9)))) eI (fun g11 hn_g11 => ?_) (hm := .inr ⟨rfl, rfl⟩)
  replace hn_g11 := Heap.ne_of hn_g11
  dsimp only [Heap.ne] at hn_g11
  refine yS (oj hn_g2 (oj hn_g4 (oj e1 (oj hn_g9 hn_g11)))) ?_
  refine cw_store rfl rfl rfl rfl rfl (zE (oj hn_g2 (oj hn_g4 (oj e1 (oj hn_g9 hn_g11))))) (zE (oj hn_g2 (oj hn_g4 (oj e1 (oj hn_g9 hn_g11))))) (zE (oj hn_g2 (oj hn_g4 (oj e1 (oj hn_g9 hn_g11))))) (zE (oj hn_g2 (oj hn_g4 (oj e1 (oj hn_g9 hn_g11))))) (fun _ e => by cases e) rfl rfl (Nat.le_refl 3) (zE (oj hn_g2 (oj hn_g4 (oj e1 (oj hn_g9 hn_g11))))) eI ?_ (hm := .inr ⟨rfl, rfl⟩)
  refine yS (oj hn_g2 (oj hn_g4 (oj e1 (oj hn_g9 hn_g11)))) ?_
  refine yG (oj hn_g2 (oj hn_g4 (oj e1 (oj hn_g9 hn_g11)))) ?_
  refine yN (oj hn_g2 (oj hn_g4 (oj e1 (oj hn_g9 hn_g11)))) ?_
  refine yG (oj hn_g2 (oj hn_g4 (oj e1 (oj hn_g9 hn_g11)))) ?_
  refine yW (oj hn_g2 (oj hn_g4 (oj e1 (oj hn_g9 hn_g11)))) ?_
  refine yS (oj hn_g2 (oj hn_g4 (oj e1 (oj hn_g9 hn_g11)))) ?_
  refine yG (oj hn_g2 (oj hn_g4 (oj e1 (oj hn_g9 hn_g11)))) ?_
  refine yT hC (oj hn_g2 (oj hn_g4 (oj e1 (oj hn_g9 hn_g11)))) ?_
  refine .tup ⟨.agg ?_, .c .nilI, trivial⟩
  show LeRL _ (spc ⟨rd X, rd Y⟩) _
  exact lerl_sp
end Go.Proofs.YtmfmnmkipjpjhaaGreatDoor

/- uncertain.part, Part; ref44.Part. -/
namespace Go.Proofs.YtmfmnmkipjpjhaaGreatDoor
open Go.AI Go.PN
attribute [local irreducible] aw Fa Fh DrK
noncomputable def partQ (f : FM) (s : List SD) (i : Nat) : Rat := (rd (topQ f s (2 ^ i) - topQ f s 0)).abs
noncomputable def partC (f : FM) (s : List SD) (i : Int) : Int := if ucode f s ≠ 0 then ucode f s else if i < 0 ∨ f.vars ≤ i then 10 else 0
noncomputable def partV (f : FM) (s : List SD) (i : Int) : Rat := if partC f s i = 0 then partQ f s i.toNat else 0
theorem lerl_zero3 {h : Heap} : LeRL h [.bool false, .nils, .nils] (rdc (rd 0)) := by
  rw [rd_zero]
  exact ⟨.bool _, .nils, .nils, trivial⟩
theorem diff_fits {f : FM} {s : List SD} (ok : UOk f s) (a b : Nat) : fits (topQ f s a - topQ f s b) 9000 := fits_mono (fits_sub (topQ_fits ok a) (topQ_fits ok b)) (by omega)
theorem part_fits {f : FM} {s : List SD} (ok : UOk f s) (i : Nat) : fits (partQ f s i) 9000 := abs_fits (by omega) (rd_wf (diff_fits ok _ _))
set_option maxRecDepth 100000 in
set_option maxHeartbeats 3200000 in
theorem upart_fa {f : FM} {s : List SD} (ok : UOk f s) (i : Nat) (hi : i < s.length) :
    Fa Tryz.prog 48 [.agg (fmc false f), .c (sps false s), .c (.int .i64 i)] (.tup [.agg (rdc (rd (partQ f s i))), .c .nilI]) := by
  have hlen := ok.len
  have h6 := ok.v6
  have e1 := shl_one i (by omega)
  have hp : 2 ^ i ≤ 64 := by
    have : 2 ^ i ≤ 2 ^ 6 := Nat.pow_le_pow_right (by omega) (by omega)
    omega
  have t1 := topE_fa ok 0
  have t2 := topE_fa ok (2 ^ i)
  have n1 : Fa Tryz.prog 40 [.c (sps false s), .c (.int .i64 0)] (.c (rats true (endTo s 0 s.length))) := ends_fa s 0 (by omega) (by omega)
  have n2 := ends_fa s (2 ^ i) (by omega) (by omega)
  have f1 := topQ_fits ok 0
  have f2 := topQ_fits ok (2 ^ i)
  have f3 := diff_fits ok (2 ^ i) 0
  have a1 := rabs_fa (rd (topQ f s (2 ^ i) - topQ f s 0)) (wf_mono (rd_wf f3) (by omega))
  rw [show (rd (topQ f s (2 ^ i) - topQ f s 0)).abs = partQ f s i from rfl] at a1
  have s1 := rsub_fa (rd (topQ f s (2 ^ i))) (rd (topQ f s 0)) (wf_mono (rd_wf f2) (by omega)) (wf_mono (rd_wf f1) (by omega))
  rw [rd_q, rd_q] at s1
  generalize topQ f s 0 = X at *
  generalize topQ f s (2 ^ i) = Y at *
  generalize partQ f s i = Z at *
  refine fa_of_body Tryz.func48 rfl rfl (by simp [Tryz.ntmps48]) fun C hC => ?_
  simp only [initS, Nat.reduceAdd]
  refine yG e1 ?_
  refine yB e1 fun g3 hn_g3=>?_
  refine yA (oj e1 hn_g3) fun g6 hn_g6=>?_
  refine yG (oj e1 (oj hn_g3 hn_g6)) ?_
  refine aw_cw ([(g3, .cells 24 3 (ofL (fmc false f)))]) [(0,0),(1,0),(2,0),(3,0),(4,0),(5,0),(6,0),(7,1),(8,1),(9,0)] ty_mixed (by kernel_rfl) eI ?_
  refine yG (oj e1 (oj hn_g3 hn_g6)) ?_
  refine cw_callq rfl n1 rfl rfl rfl (fun _ _ => (zL (oj e1 (oj hn_g3 hn_g6)))) ?_
  refine yS (oj e1 (oj hn_g3 hn_g6)) ?_
  refine yG (oj e1 (oj hn_g3 hn_g6)) ?_
  refine cw_callq rfl t1 rfl rfl rfl (fun _ _ => (zL (oj e1 (oj hn_g3 hn_g6)))) ?_
  refine yS (oj e1 (oj hn_g3 hn_g6)) ?_
  refine yG (oj e1 (oj hn_g3 hn_g6)) ?_
  refine cw_alloc rfl rfl rfl rfl (zE (oj e1 (oj hn_g3 hn_g6))) eI (fun g8 hn_g8 => ?_) (hm := .inr ⟨rfl, rfl⟩)
  replace hn_g8 := Heap.ne_of hn_g8
  dsimp only [Heap.ne] at hn_g8
  refine yS (oj e1 (oj hn_g3 (oj hn_g6 hn_g8))) ?_
  refine cw_store rfl rfl rfl rfl rfl (zE (oj e1 (oj hn_g3 (oj hn_g6 hn_g8)))) (zE (oj e1 (oj hn_g3 (oj hn_g6 hn_g8)))) (zE (oj e1 (oj hn_g3 (oj hn_g6 hn_g8)))) (zE (oj e1 (oj hn_g3 (oj hn_g6 hn_g8)))) (fun _ e => by cases e) rfl rfl (Nat.le_refl 3) (zE (oj e1 (oj hn_g3 (oj hn_g6 hn_g8)))) eI ?_ (hm := .inr ⟨rfl, rfl⟩)
  refine yS (oj e1 (oj hn_g3 (oj hn_g6 hn_g8))) ?_
  refine yG (oj e1 (oj hn_g3 (oj hn_g6 hn_g8))) ?_
  refine yN (oj e1 (oj hn_g3 (oj hn_g6 hn_g8))) ?_
  refine yG (oj e1 (oj hn_g3 (oj hn_g6 hn_g8))) ?_
  refine aw_cw ([(g3, .cells 24 3 (ofL (fmc false f)))]) [(0,0),(1,0),(2,0),(3,0),(4,0),(5,0),(6,0),(7,0),(8,0),(9,1),(10,1),(11,0)] ty_mixed (by kernel_rfl) eI ?_
  refine yG (oj e1 (oj hn_g3 (oj hn_g6 hn_g8))) ?_
  refine cw_callq rfl n2 rfl rfl rfl (fun _ _ => (zL (oj e1 (oj hn_g3 (oj hn_g6 hn_g8))))) ?_
  refine yS (oj e1 (oj hn_g3 (oj hn_g6 hn_g8))) ?_
  refine yG (oj e1 (oj hn_g3 (oj hn_g6 hn_g8))) ?_
  refine cw_callq rfl t2 rfl rfl rfl (fun _ _ => (zL (oj e1 (oj hn_g3 (oj hn_g6 hn_g8))))) ?_
  refine yS (oj e1 (oj hn_g3 (oj hn_g6 hn_g8))) ?_
  refine yG (oj e1 (oj hn_g3 (oj hn_g6 hn_g8))) ?_
  refine cw_alloc rfl rfl rfl rfl (zE (oj e1 (oj hn_g3 (oj hn_g6 hn_g8)))) eI (fun g10 hn_g10 => ?_) (hm := .inr ⟨rfl, rfl⟩)
  replace hn_g10 := Heap.ne_of hn_g10
  dsimp only [Heap.ne] at hn_g10
  refine yS (oj e1 (oj hn_g3 (oj hn_g6 (oj hn_g8 hn_g10)))) ?_
  refine cw_store rfl rfl rfl rfl rfl (zE (oj e1 (oj hn_g3 (oj hn_g6 (oj hn_g8 hn_g10))))) (zE (oj e1 (oj hn_g3 (oj hn_g6 (oj hn_g8 hn_g10))))) (zE (oj e1 (oj hn_g3 (oj hn_g6 (oj hn_g8 hn_g10))))) (zE (oj e1 (oj hn_g3 (oj hn_g6 (oj hn_g8 hn_g10))))) (fun _ e => by cases e) rfl rfl (Nat.le_refl 3) (zE (oj e1 (oj hn_g3 (oj hn_g6 (oj hn_g8 hn_g10))))) eI ?_ (hm := .inr ⟨rfl, rfl⟩)
  refine yS (oj e1 (oj hn_g3 (oj hn_g6 (oj hn_g8 hn_g10)))) ?_
  refine yG (oj e1 (oj hn_g3 (oj hn_g6 (oj hn_g8 hn_g10)))) ?_
  refine yN (oj e1 (oj hn_g3 (oj hn_g6 (oj hn_g8 hn_g10)))) ?_
  refine yG (oj e1 (oj hn_g3 (oj hn_g6 (oj hn_g8 hn_g10)))) ?_
  refine yC (oj e1 (oj hn_g3 (oj hn_g6 (oj hn_g8 hn_g10)))) (s1) ?_
  refine yG (oj e1 (oj hn_g3 (oj hn_g6 (oj hn_g8 hn_g10)))) ?_
  refine yC (oj e1 (oj hn_g3 (oj hn_g6 (oj hn_g8 hn_g10)))) (a1) ?_
  refine yG (oj e1 (oj hn_g3 (oj hn_g6 (oj hn_g8 hn_g10)))) ?_
  refine yW (oj e1 (oj hn_g3 (oj hn_g6 (oj hn_g8 hn_g10)))) ?_
  refine yS (oj e1 (oj hn_g3 (oj hn_g6 (oj hn_g8 hn_g10)))) ?_
  refine yG (oj e1 (oj hn_g3 (oj hn_g6 (oj hn_g8 hn_g10)))) ?_
  refine yT hC (oj e1 (oj hn_g3 (oj hn_g6 (oj hn_g8 hn_g10)))) ?_
  refine .tup ⟨.agg ?_, .c .nilI, trivial⟩
  show LeRL _ (rdc (rd Z)) _
  exact lerl_rd
set_option maxRecDepth 100000 in
set_option maxHeartbeats 3200000 in
theorem uPart_fa (f : FM) (s : List SD) (i : Int) (hn : f.nodes.length ≤ 1099511627776) (ha : ArgsOk f) (ht0 : -9223372036854775808 ≤ f.top) (ht : f.top ≤ 9223372036854775807) (hs : ∀ y ∈ s, y.wf 4) (hl : s.length ≤ 1099511627776) (hv : fcode f = 0 → f.vars ≤ 6) :
    Fa Tryz.prog 18 [.agg (fmc false f), .c (sps false s), .c (.int .i64 i)] (.tup [.agg (rdc (rd (partV f s i))), .c (errA (partC f s i))]) := by
  have hV : partV f s i = if partC f s i = 0 then partQ f s i.toNat else 0 := rfl
  have hcd : partC f s i = if ucode f s ≠ 0 then ucode f s else if i < 0 ∨ f.vars ≤ i then 10 else 0 := rfl
  have hck := ucheck_fa f s hn ha ht0 ht (fun y hy => ⟨wf_mono (hs y hy).1 (by omega), wf_mono (hs y hy).2 (by omega)⟩) hl
  refine fa_of_body Tryz.func18 rfl rfl (by simp [Tryz.ntmps18]) fun C hC => ?_
  simp only [initS, Nat.reduceAdd]
  refine xG ?_
  refine xB fun g3 hn_g3=>?_
  refine yA hn_g3 fun g6 hn_g6=>?_
  refine yG (oj hn_g3 hn_g6) ?_
  refine yC (oj hn_g3 hn_g6) (hck) ?_
  refine yG (oj hn_g3 hn_g6) ?_
  refine yF (oj hn_g3 hn_g6) (fun hb=>?_) fun hb=>?_
  · have hb' : ucode f s ≠ 0 := by simpa using hb
    rw [if_pos hb'] at hcd
    rw [hcd, if_neg hb'] at hV
    rw [hV, hcd]
    refine yG (oj hn_g3 hn_g6) ?_
    refine yW (oj hn_g3 hn_g6) ?_
    refine yS (oj hn_g3 hn_g6) ?_
    refine yG (oj hn_g3 hn_g6) ?_
    refine yT hC (oj hn_g3 hn_g6) ?_
    refine .tup ⟨.agg ?_, .c ler_err, trivial⟩
    show LeRL _ [.bool false, .nils, .nils] _
    exact lerl_zero3
  have hb' : ucode f s = 0 := by simpa using hb
  rw [if_neg (by simp [hb'])] at hcd
  have ok := uok_of hn ha hs hv hb'
  have hlen := ok.len
  refine yG (oj hn_g3 hn_g6) ?_
  by_cases hi : i < 0 ∨ f.vars ≤ i
  · rw [if_pos hi] at hcd
    rw [hcd, if_neg (by decide)] at hV
    rw [hV, hcd]
    refine aw_split 18 (zE (oj hn_g3 hn_g6)) (fun h0 => ?_) (fun h0 => ?_) <;> refine yS (oj hn_g3 hn_g6) ?_
    · refine yG (oj hn_g3 hn_g6) ?_
      refine yP (oj hn_g3 hn_g6) ?_
      refine yG (oj hn_g3 hn_g6) ?_
      refine yW (oj hn_g3 hn_g6) ?_
      refine yS (oj hn_g3 hn_g6) ?_
      refine yG (oj hn_g3 hn_g6) ?_
      refine yT hC (oj hn_g3 hn_g6) ?_
      refine .tup ⟨.agg ?_, .c (ler_errN rfl (by decide)), trivial⟩
      show LeRL _ [.bool false, .nils, .nils] _
      exact lerl_zero3
    · have h0' := of_decide_eq_false h0
      refine yG (oj hn_g3 hn_g6) ?_
      refine yF (oj hn_g3 hn_g6) (fun h1=>?_) fun h1=>?_
      · refine yG (oj hn_g3 hn_g6) ?_
        refine yW (oj hn_g3 hn_g6) ?_
        refine yS (oj hn_g3 hn_g6) ?_
        refine yG (oj hn_g3 hn_g6) ?_
        refine yT hC (oj hn_g3 hn_g6) ?_
        refine .tup ⟨.agg ?_, .c (ler_errN rfl (by decide)), trivial⟩
        show LeRL _ [.bool false, .nils, .nils] _
        exact lerl_zero3
      · have h1' := of_decide_eq_false h1
        omega
  · rw [if_neg hi] at hcd
    rw [if_pos hcd] at hV
    rw [hV, hcd]
    obtain ⟨j, rfl⟩ : ∃ j : Nat, i = j := ⟨i.toNat, by omega⟩
    rw [Int.toNat_natCast]
    have hj : j < s.length := by omega
    have hu := upart_fa ok j hj
    refine aw_split 18 (zE (oj hn_g3 hn_g6)) (fun h0 => ?_) (fun h0 => ?_) <;> refine yS (oj hn_g3 hn_g6) ?_
    · have h0' := of_decide_eq_true h0
      omega
    refine yG (oj hn_g3 hn_g6) ?_
    refine yF (oj hn_g3 hn_g6) (fun h1=>?_) fun h1=>?_
    · have h1' := of_decide_eq_true h1
      omega
    refine yG (oj hn_g3 hn_g6) ?_
    refine yC (oj hn_g3 hn_g6) (hu) ?_
    refine yG (oj hn_g3 hn_g6) ?_
    refine yW (oj hn_g3 hn_g6) ?_
    refine yS (oj hn_g3 hn_g6) ?_
    refine yG (oj hn_g3 hn_g6) ?_
    refine yT hC (oj hn_g3 hn_g6) ?_
    refine .tup ⟨.agg ?_, .c .nilI, trivial⟩
    show LeRL _ (rdc (rd (partQ f s j))) _
    exact lerl_rd
set_option maxRecDepth 100000 in
set_option maxHeartbeats 3200000 in
theorem rPart_fa (f : FM) (s : List SD) (i : Int) (hn : f.nodes.length ≤ 1099511627776) (ha : ArgsOk f) (hs : ∀ y ∈ s, y.wf 4) (hl : s.length ≤ 1099511627776) (hc : fcode f = 0) (hv : f.vars ≤ 6) :
    Fa Tryz.prog 20 [.agg (fmc false f), .c (sps false s), .c (.int .i64 i)] (.tup [.agg (rdc (rd (partV f s i))), .c (.int .i64 (partC f s i))]) := by
  have hV : partV f s i = if partC f s i = 0 then partQ f s i.toNat else 0 := rfl
  have hcd : partC f s i = if ucode f s ≠ 0 then ucode f s else if i < 0 ∨ f.vars ≤ i then 10 else 0 := rfl
  have huc : ucode f s = scode s f.vars := by unfold ucode; rw [if_neg (by simp [hc])]
  have v0 := (fr_ok hc).v0
  have hck := ucheckR_fa f s v0 (by omega) (fun y hy => ⟨wf_mono (hs y hy).1 (by omega), wf_mono (hs y hy).2 (by omega)⟩) hl
  rw [← huc] at hck
  refine fa_of_body Tryz.func20 rfl rfl (by simp [Tryz.ntmps20]) fun C hC => ?_
  simp only [initS, Nat.reduceAdd]
  refine xG ?_
  refine xB fun g3 hn_g3=>?_
  refine yA hn_g3 fun g6 hn_g6=>?_
  refine yG (oj hn_g3 hn_g6) ?_
  refine yC (oj hn_g3 hn_g6) (hck) ?_
  refine yG (oj hn_g3 hn_g6) ?_
  refine yF (oj hn_g3 hn_g6) (fun hb=>?_) fun hb=>?_
  · have hb' : ucode f s ≠ 0 := by simpa using hb
    rw [if_pos hb'] at hcd
    rw [hcd, if_neg hb'] at hV
    rw [hV, hcd]
    refine yG (oj hn_g3 hn_g6) ?_
    refine yW (oj hn_g3 hn_g6) ?_
    refine yS (oj hn_g3 hn_g6) ?_
    refine yG (oj hn_g3 hn_g6) ?_
    refine yT hC (oj hn_g3 hn_g6) ?_
    refine .tup ⟨.agg ?_, .c (.int _ _), trivial⟩
    show LeRL _ [.bool false, .nils, .nils] _
    exact lerl_zero3
  have hb' : ucode f s = 0 := by simpa using hb
  rw [if_neg (by simp [hb'])] at hcd
  have ok := uok_of hn ha hs (fun _ => hv) hb'
  have hlen := ok.len
  refine yG (oj hn_g3 hn_g6) ?_
  by_cases hi : i < 0 ∨ f.vars ≤ i
  · rw [if_pos hi] at hcd
    rw [hcd, if_neg (by decide)] at hV
    rw [hV, hcd]
    refine aw_split 18 (zE (oj hn_g3 hn_g6)) (fun h0 => ?_) (fun h0 => ?_) <;> refine yS (oj hn_g3 hn_g6) ?_
    · refine yG (oj hn_g3 hn_g6) ?_
      refine yP (oj hn_g3 hn_g6) ?_
      refine yG (oj hn_g3 hn_g6) ?_
      refine yW (oj hn_g3 hn_g6) ?_
      refine yS (oj hn_g3 hn_g6) ?_
      refine yG (oj hn_g3 hn_g6) ?_
      refine yT hC (oj hn_g3 hn_g6) ?_
      refine .tup ⟨.agg ?_, .c (.int _ _), trivial⟩
      show LeRL _ [.bool false, .nils, .nils] _
      exact lerl_zero3
    · have h0' := of_decide_eq_false h0
      refine yG (oj hn_g3 hn_g6) ?_
      refine yF (oj hn_g3 hn_g6) (fun h1=>?_) fun h1=>?_
      · refine yG (oj hn_g3 hn_g6) ?_
        refine yW (oj hn_g3 hn_g6) ?_
        refine yS (oj hn_g3 hn_g6) ?_
        refine yG (oj hn_g3 hn_g6) ?_
        refine yT hC (oj hn_g3 hn_g6) ?_
        refine .tup ⟨.agg ?_, .c (.int _ _), trivial⟩
        show LeRL _ [.bool false, .nils, .nils] _
        exact lerl_zero3
      · have h1' := of_decide_eq_false h1
        omega
  · rw [if_neg hi] at hcd
    rw [if_pos hcd] at hV
    rw [hV, hcd]
    obtain ⟨j, rfl⟩ : ∃ j : Nat, i = j := ⟨i.toNat, by omega⟩
    rw [Int.toNat_natCast]
    have hj : j < s.length := by omega
    have e1 := shl_one j (by omega)
    have hp : 2 ^ j ≤ 64 := by
      have : 2 ^ j ≤ 2 ^ 6 := Nat.pow_le_pow_right (by omega) (by omega)
      omega
    have t1 : Fa Tryz.prog 46 [.agg (fmc false f), .c (sps false s), .c (.int .i64 0)] (.agg (rdc (rd (topQ f s 0)))) := rtop_fa ok 0 (by omega)
    have t2 := rtop_fa ok (2 ^ j) (by omega)
    have f1 := topQ_fits ok 0
    have f2 := topQ_fits ok (2 ^ j)
    have f3 := diff_fits ok (2 ^ j) 0
    have a1 := sabs_fa (rd (topQ f s (2 ^ j) - topQ f s 0)) (wf_mono (rd_wf f3) (by omega))
    rw [show (rd (topQ f s (2 ^ j) - topQ f s 0)).abs = partQ f s j from rfl] at a1
    have s1 := ssub_fa (rd (topQ f s (2 ^ j))) (rd (topQ f s 0)) (wf_mono (rd_wf f2) (by omega)) (wf_mono (rd_wf f1) (by omega))
    rw [rd_q, rd_q] at s1
    generalize topQ f s 0 = X at *
    generalize topQ f s (2 ^ j) = Y at *
    generalize partQ f s j = Z at *
    refine aw_split 18 (zE (oj hn_g3 (oj hn_g6 e1))) (fun h0 => ?_) (fun h0 => ?_) <;> refine yS (oj hn_g3 (oj hn_g6 e1)) ?_
    · have h0' := of_decide_eq_true h0
      omega
    refine yG (oj hn_g3 (oj hn_g6 e1)) ?_
    refine yF (oj hn_g3 (oj hn_g6 e1)) (fun h1=>?_) fun h1=>?_
    · have h1' := of_decide_eq_true h1
      omega
    refine yG (oj hn_g3 (oj hn_g6 e1)) ?_
    refine aw_dr 10 ty_mixed (by kernel_rfl) ?_
    refine yG (oj hn_g3 (oj hn_g6 e1)) ?_
    refine yD (oj hn_g3 (oj hn_g6 e1)) (t2) ?_
    refine yG (oj hn_g3 (oj hn_g6 e1)) ?_
    refine yD (oj hn_g3 (oj hn_g6 e1)) (t1) ?_
    refine yG (oj hn_g3 (oj hn_g6 e1)) ?_
    refine yD (oj hn_g3 (oj hn_g6 e1)) (s1) ?_
    refine yG (oj hn_g3 (oj hn_g6 e1)) ?_
    refine yD (oj hn_g3 (oj hn_g6 e1)) (a1) ?_
    refine yG (oj hn_g3 (oj hn_g6 e1)) ?_
    refine yW (oj hn_g3 (oj hn_g6 e1)) ?_
    refine yS (oj hn_g3 (oj hn_g6 e1)) ?_
    refine yG (oj hn_g3 (oj hn_g6 e1)) ?_
    refine yT hC (oj hn_g3 (oj hn_g6 e1)) ?_
    refine .tup ⟨.agg ?_, .c (.int _ _), trivial⟩
    show LeRL _ (rdc (rd Z)) _
    exact lerl_rd
end Go.Proofs.YtmfmnmkipjpjhaaGreatDoor

/- The example of the laws on uncertain: its numbers and texts. -/
namespace Go.PN
open Go.AI
theorem rd_parts {q : Rat} (h : q ≠ 0) : (rd q).ps = decide (q.num < 0) ∧ (rd q).pn = q.num.natAbs ∧ (rd q).pd = q.den := by
  have hn : q.num ≠ 0 := fun e => h (Rat.num_eq_zero.1 e)
  have hs := (rd_some h).1
  unfold RD.ps RD.pn RD.pd
  rw [if_pos hs, if_pos hs, if_pos hs]
  unfold rd
  rw [if_neg hn]
  exact ⟨rfl, val_words _, val_words _⟩
theorem txt_small {n : Nat} (h0 : n ≠ 0) (h : n < 1000000000) : txtN n = if ((nineL n).dropWhile (· == 48)) == [] then [48] else (nineL n).dropWhile (· == 48) := by
  unfold txtN
  rw [grps_cons h0, show n / 1000000000 = 0 from by omega, grps_zero, show n % 1000000000 = n from by omega]
  rfl
theorem validS_rd {a b : Rat} (h : a ≤ b) : validS ⟨rd a, rd b⟩ = true := by
  unfold validS
  rw [signQ_le, rd_valid, rd_valid, rd_q, rd_q, decide_eq_true (show a - b ≤ 0 by grind)]
  rfl
theorem okS_rd {a b : Rat} (h : a ≤ b) (h0 : 0 ≤ a) (h1 : b ≤ 1) : okS ⟨rd a, rd b⟩ = true := by
  rw [ok_eq, validS_rd h, ok_inside (validS_rd h)]
  have e1 := signQ_ge a
  have e2 := signQ_le (b - 1)
  rw [decide_eq_true h0] at e1
  rw [decide_eq_true (show b - 1 ≤ 0 by grind)] at e2
  have e1' := of_decide_eq_true e1
  have e2' := of_decide_eq_true e2
  rw [rd_q, rd_q, decide_eq_false (show ¬ signQ a < 0 by omega), decide_eq_false (show ¬ signQ (b - 1) > 0 by omega)]
  rfl
abbrev uF : FM := ⟨2, [⟨3, 0, [0, 1]⟩], 2⟩
abbrev uS : List SD := [⟨rd 0, rd (1 / 2)⟩, ⟨rd (1 / 4), rd (1 / 4)⟩]
theorem uF_val (k : Nat) : formTo.fvalB' uF k = decide (0 < (([0, 1] : List Int).filter fun a => k.testBit a.toNat).length) := by
  have e : fvTo uF k 1 = [nodeB uF [false] k ⟨3, 0, [0, 1]⟩] := rfl
  unfold formTo.fvalB'
  show ofB uF (fvTo uF k 1) k 2 = _
  rw [e]
  unfold ofB
  rw [if_neg (by decide)]
  show nodeB uF [false] k ⟨3, 0, [0, 1]⟩ = _
  unfold nodeB
  rw [if_neg (by decide), if_neg (by decide), if_neg (by decide), if_pos (by decide)]
  have hc : cntB uF [false] k [0, 1] = (([0, 1] : List Int).filter fun a => k.testBit a.toNat).length := by
    unfold cntB
    congr 1
  rw [hc]
  show decide (((([0, 1] : List Int).filter fun a => k.testBit a.toNat).length : Int) > 0) = _
  congr 1
  simp only [gt_iff_lt, eq_iff_iff]
  omega
theorem uT_eq : formTo uF (2 ^ uF.vars.toNat) = [false, true, true, true] := by
  show formTo uF 4 = _
  simp only [formTo, uF_val]
  decide
theorem uTop0 : topQ uF uS 0 = 1 / 4 := by
  unfold topQ
  rw [uT_eq, show endTo uS 0 uS.length = [(0 : Rat), 1 / 4].map rd from rfl, sumQ_rd]
  decide +kernel
theorem uTop1 : topQ uF uS 1 = 5 / 8 := by
  unfold topQ
  rw [uT_eq, show endTo uS 1 uS.length = [(1 / 2 : Rat), 1 / 4].map rd from rfl, sumQ_rd]
  decide +kernel
theorem uTop3 : topQ uF uS 3 = 5 / 8 := by
  unfold topQ
  rw [uT_eq, show endTo uS 3 uS.length = [(1 / 2 : Rat), 1 / 4].map rd from rfl, sumQ_rd]
  decide +kernel
theorem uF_code : fcode uF = 0 := by decide +kernel
theorem uS_code : scode uS uF.vars = 0 := by
  unfold scode
  rw [if_neg (by decide)]
  rw [if_pos]
  show (okS ⟨rd 0, rd (1 / 2)⟩ && (okS ⟨rd (1 / 4), rd (1 / 4)⟩ && true)) = true
  rw [okS_rd (by decide +kernel) (by decide +kernel) (by decide +kernel), okS_rd (by decide +kernel) (by decide +kernel) (by decide +kernel)]
  rfl
theorem uU_code : ucode uF uS = 0 := by
  unfold ucode
  rw [if_neg (by rw [uF_code]; simp), uS_code]
theorem uF_coh : cohTo uF uF.nodes.length = true := by decide +kernel
theorem uTxt4 : rtxt (rd (1 / 4)) = [49, 47, 52] := by
  obtain ⟨h1, h2, h3⟩ := rd_parts (q := 1 / 4) (by decide +kernel)
  unfold rtxt
  rw [h1, h2, h3, show ((1 / 4 : Rat).num) = 1 from by decide +kernel, show ((1 / 4 : Rat).den) = 4 from by decide +kernel, show (1 : Int).natAbs = 1 from rfl, txt_small (n := 1) (by decide) (by decide), txt_small (n := 4) (by decide) (by decide)]
  decide
theorem uTxt58 : rtxt (rd (5 / 8)) = [53, 47, 56] := by
  obtain ⟨h1, h2, h3⟩ := rd_parts (q := 5 / 8) (by decide +kernel)
  unfold rtxt
  rw [h1, h2, h3, show ((5 / 8 : Rat).num) = 5 from by decide +kernel, show ((5 / 8 : Rat).den) = 8 from by decide +kernel, show (5 : Int).natAbs = 5 from rfl, txt_small (n := 5) (by decide) (by decide), txt_small (n := 8) (by decide) (by decide)]
  decide
theorem uTxt38 : rtxt (rd (3 / 8)) = [51, 47, 56] := by
  obtain ⟨h1, h2, h3⟩ := rd_parts (q := 3 / 8) (by decide +kernel)
  unfold rtxt
  rw [h1, h2, h3, show ((3 / 8 : Rat).num) = 3 from by decide +kernel, show ((3 / 8 : Rat).den) = 8 from by decide +kernel, show (3 : Int).natAbs = 3 from rfl, txt_small (n := 3) (by decide) (by decide), txt_small (n := 8) (by decide) (by decide)]
  decide
theorem uTxt : spTxt ⟨rd (1 / 4), rd (5 / 8)⟩ = [49, 47, 52, 46, 46, 53, 47, 56] := by
  have hv : validS ⟨rd (1 / 4), rd (5 / 8)⟩ = true := validS_rd (by decide +kernel)
  unfold spTxt nlo nhi
  rw [if_pos hv, if_pos hv, rd_q, rd_q, uTxt4, uTxt58]
  rfl
theorem abs_rd {q : Rat} (h : q ≠ 0) : (rd q).abs = mkRat q.num.natAbs q.den := by
  obtain ⟨h1, h2, h3⟩ := rd_parts h
  unfold RD.abs sq
  rw [h2, h3]; rfl
end Go.PN
namespace Go.Proofs.YtmfmnmkipjpjhaaGreatDoor
open Go.AI Go.PN
attribute [local irreducible] aw Fa Fh DrK
theorem uMonC : umonC uF uS = 0 := by
  unfold umonC
  rw [if_neg (by rw [uU_code]; simp), uF_coh]; rfl
theorem uMonS : umonS uF uS = ⟨rd (1 / 4), rd (5 / 8)⟩ := by
  unfold umonS
  rw [if_pos uMonC, uTop0, show 2 ^ uF.vars.toNat - 1 = 3 from rfl, uTop3]
theorem uPartV : partV uF uS 0 = 3 / 8 ∧ partC uF uS 0 = 0 := by
  have hc : partC uF uS 0 = 0 := by
    unfold partC
    rw [if_neg (by rw [uU_code]; simp), if_neg (by decide)]
  refine ⟨?_, hc⟩
  unfold partV partQ
  rw [if_pos hc, show 2 ^ (0 : Int).toNat = 1 from rfl, uTop0, uTop1, abs_rd (by decide +kernel)]
  decide +kernel
end Go.Proofs.YtmfmnmkipjpjhaaGreatDoor
