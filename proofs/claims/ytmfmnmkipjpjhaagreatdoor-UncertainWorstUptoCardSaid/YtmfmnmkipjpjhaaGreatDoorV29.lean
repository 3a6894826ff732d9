/- Texts of one proof, laid one behind the other by a program (merge.py): Unc7, Law19. -/
import Derived.Test.YtmfmnmkipjpjhaaGreatDoorV27
import Derived.Test.YtmfmnmkipjpjhaaGreatDoorV24
set_option linter.unusedSimpArgs false
set_option linter.unusedVariables false
/- The bounds of parts; ready; base.Is. -/
namespace Go.Proofs.YtmfmnmkipjpjhaaGreatDoor
open Go.AI Go.PN
attribute [local irreducible] aw Fa Fh DrK
theorem bst_spec (f : FM) (s : List SD) : ∀ k, (∀ i, i < k → partQ f s i ≤ (bst f s k).2) ∧ (∀ i, i < (bst f s k).1 → partQ f s i < (bst f s k).2) ∧ (1 ≤ k → (bst f s k).1 < k ∧ partQ f s (bst f s k).1 = (bst f s k).2)
  | 0 => ⟨fun i hi => absurd hi (by omega), fun i hi => absurd hi (by show ¬ i < 0; omega), fun h => absurd h (by omega)⟩
  | k + 1 => by
    obtain ⟨h1, h2, h3⟩ := bst_spec f s k
    have hg := signQ_gt (partQ f s k - (bst f s k).2)
    have h0 := bst_one f s
    have hbk : bst f s (k + 1) = if signQ (partQ f s k - (bst f s k).2) > 0 then (k, partQ f s k) else bst f s k := rfl
    by_cases hs : signQ (partQ f s k - (bst f s k).2) > 0
    · rw [decide_eq_true hs] at hg
      have hg' := of_decide_eq_true hg.symm
      rw [if_pos hs] at hbk
      rw [hbk]
      refine ⟨fun i hi => ?_, fun i hi => ?_, fun _ => ⟨by dsimp only; omega, rfl⟩⟩
      · by_cases e : i = k
        · subst e; exact Rat.le_refl
        · have := h1 i (by omega); dsimp only; grind
      · dsimp only at hi ⊢
        have := h1 i hi; grind
    · rw [decide_eq_false hs] at hg
      have hg' := of_decide_eq_false hg.symm
      rw [if_neg hs] at hbk
      refine ⟨fun i hi => ?_, by rw [hbk]; exact h2, fun _ => ?_⟩
      · rw [hbk]
        by_cases e : i = k
        · subst e; grind
        · exact h1 i (by omega)
      · match k, h3, h0, hbk with
        | 0, _, h0, _ => rw [h0]; exact ⟨by dsimp only; omega, rfl⟩
        | j + 1, h3, _, hbk =>
          rw [hbk]
          obtain ⟨a, b⟩ := h3 (by omega)
          exact ⟨by omega, b⟩
theorem topQ_ex {f : FM} {s : List SD} (ok : UOk f s) (u : Nat) : topQ f s u = exQ (prP (endTo s u s.length)) s.length (fun t => evB (valF f t f.top)) := by
  have hl := ok.len
  have h := sumQ_ex (endTo s u s.length) (formTo f (2 ^ f.vars.toNat))
  rw [endTo_len] at h
  unfold topQ
  rw [h]
  refine ex_congr _ _ _ fun t ht => ?_
  rw [form_range, List.getD_eq_getElem?_getD, List.getElem?_map, List.getElem?_range (by rw [show f.vars.toNat = s.length from by omega]; exact ht)]
  rfl
theorem ok_ends {y : SD} (h : okS y = true) : 0 ≤ y.lo.q ∧ y.lo.q ≤ y.hi.q ∧ y.hi.q ≤ 1 := by
  obtain ⟨a, b⟩ := ok_prob h
  have hv : validS y = true := by unfold okS at h; rw [Bool.and_eq_true] at h; exact h.1
  exact ⟨(prob_unit a).1, valid_le hv, (prob_unit b).2⟩
theorem end_at {s : List SD} {u i n : Nat} (h : i < n) : prP (endTo s u n) i = if u.testBit i then (s.getD i sd0).hi.q else (s.getD i sd0).lo.q := by
  unfold prP endTo
  rw [List.getD_eq_getElem?_getD, List.getElem?_map, List.getElem?_range h]
  show (if u.testBit i then (s.getD i sd0).hi else (s.getD i sd0).lo).q = _
  split <;> rfl
theorem topQ_mono {f : FM} {s : List SD} (ok : UOk f s) (hc : cohTo f f.nodes.length = true) {u v : Nat} (h : ∀ i, i < s.length → u.testBit i = true → v.testBit i = true) : topQ f s u ≤ topQ f s v := by
  rw [topQ_ex ok, topQ_ex ok]
  refine ex_rise s.length _ (fun i hi => ?_) fun a b _ _ hab => ?_
  · rw [end_at hi, end_at hi]
    obtain ⟨a, b, c⟩ := ok_ends (ok.getOk hi).1
    cases hu : u.testBit i
    · cases hv : v.testBit i
      · simp only [Bool.false_eq_true, if_false]
        exact ⟨a, Rat.le_refl, by grind⟩
      · simp only [Bool.false_eq_true, if_false, if_true]
        exact ⟨a, b, c⟩
    · rw [h i hi hu]
      simp only [if_true]
      exact ⟨by grind, Rat.le_refl, c⟩
  · have hm := coh_mono (fr_ok ok.fc) hc hab
    cases h1 : valF f a f.top
    · cases valF f b f.top <;> unfold evB <;> decide
    · rw [hm h1]; exact Rat.le_refl
theorem part_width {f : FM} {s : List SD} (ok : UOk f s) (hc : cohTo f f.nodes.length = true) {i : Nat} (hi : i < s.length) : partQ f s i ≤ nhi (umonS f s) - nlo (umonS f s) := by
  have hl := ok.len
  have hu : ucode f s = 0 := by unfold ucode; rw [if_neg (by simp [ok.fc])]; exact ok.sc
  have hcd : umonC f s = 0 := by unfold umonC; rw [if_neg (by simp [hu]), if_pos hc]
  have hS : umonS f s = ⟨rd (topQ f s 0), rd (topQ f s (2 ^ f.vars.toNat - 1))⟩ := by unfold umonS; rw [if_pos hcd]
  have e : f.vars.toNat = s.length := by omega
  rw [e] at hS
  have m1 := topQ_mono ok hc (u := 0) (v := 2 ^ i) (fun j _ h => by simp at h)
  have m2 := topQ_mono ok hc (u := 2 ^ i) (v := 2 ^ s.length - 1) (fun j hj _ => by rw [Nat.testBit_two_pow_sub_one]; exact decide_eq_true hj)
  have hv : validS (umonS f s) = true := by
    rw [hS]
    unfold validS
    rw [rd_valid, rd_valid, rd_q, rd_q, signQ_le, decide_eq_true (by grind)]
    rfl
  unfold nhi nlo
  rw [if_pos hv, if_pos hv, hS, rd_q, rd_q]
  have h := RD.abs_cases (rd (topQ f s (2 ^ i) - topQ f s 0))
  rw [rd_q] at h
  unfold partQ
  rcases h with h | h <;> rw [h] <;> grind
theorem is_fa (c d : Int) (hd : d ≠ 0) : Fa Tryz.prog 24 [.c (errA c), .c (.int .i64 d)] (.c (.bool (decide (c = d)))) := by
  by_cases h : c = 0
  · have e : errA c = .nilI := by unfold errA errC; rw [if_pos h]
    rw [e, decide_eq_false (by omega)]
    refine fa_of_body Tryz.func24 rfl rfl (by simp [Tryz.ntmps24]) fun C hC => ?_
    simp only [initS, Nat.reduceAdd]
    refine xG ?_
    refine xT hC ?_
    exact .one (.c (.bool _))
  · have e : errA c = .ifc 54 (.int .i64 c) := by unfold errA errC; rw [if_neg h]
    rw [e]
    refine fa_of_body Tryz.func24 rfl rfl (by simp [Tryz.ntmps24]) fun C hC => ?_
    simp only [initS, Nat.reduceAdd]
    refine xG ?_
    refine xT hC ?_
    exact .one (.c (ler_bool (by by_cases e : c = d <;> simp [e])))
set_option maxHeartbeats 1600000 in
theorem ready_fa (f : FM) (s : List SD) (hn : f.nodes.length ≤ 1099511627776) (ha : ArgsOk f) (ht0 : -9223372036854775808 ≤ f.top) (ht : f.top ≤ 9223372036854775807) (hs : ∀ y ∈ s, y.wf 1000) (hl : s.length ≤ 1099511627776) :
    Fa Tryz.prog 22 [.agg (fmc false f), .c (sps false s)] (.c (.bool (decide (ucode f s = 0)))) := by
  refine fa_of_body Tryz.func22 rfl rfl (by simp [Tryz.ntmps22]) fun C hC => ?_
  simp only [initS, Nat.reduceAdd]
  refine xG ?_
  refine xB fun g2 hn_g2=>?_
  refine yG hn_g2 ?_
  refine yC hn_g2 (fcheckR_fa f hn ha ht0 ht) ?_
  by_cases hc : fcode f = 0
  · have e : ucode f s = scode s f.vars := by unfold ucode; rw [if_neg (by simp [hc])]
    have e1 : (fcode f == 0) = true := by rw [hc]; rfl
    rw [e]
    refine yG (oj hn_g2 e1) ?_
    refine yC (oj hn_g2 e1) (ucheckR_fa f s (fr_ok hc).v0 (fr_ok hc).v24 hs hl) ?_
    refine yG (oj hn_g2 e1) ?_
    refine yT hC (oj hn_g2 e1) ?_
    exact .one (.c (ler_bool (by by_cases e : scode s f.vars = 0 <;> simp [e])))
  · have e : ucode f s = fcode f := by unfold ucode; rw [if_pos hc]
    have e1 : (fcode f == 0) = false := by simpa using hc
    rw [e, decide_eq_false hc]
    refine yG (oj hn_g2 e1) ?_
    refine yT hC (oj hn_g2 e1) ?_
    exact .one (.c (.bool _))
end Go.Proofs.YtmfmnmkipjpjhaaGreatDoor

/- The law UncertainWorst. -/
namespace Go.Proofs.YtmfmnmkipjpjhaaGreatDoor
open Go.AI Go.PN
attribute [local irreducible] aw Fa Fh DrK
set_option maxRecDepth 100000 in
set_option maxHeartbeats 6400000 in
theorem lawWorst_fa (f : FM) (s : List SD) (hw : SWordsOk s) (hlw : SLensOk s) (hl : s.length ≤ 1099511627776) (hn : f.nodes.length ≤ 1099511627776) (ha : ArgsOk f) (ht0 : -9223372036854775808 ≤ f.top) (ht : f.top ≤ 9223372036854775807) :
    Fa Tryz.prog 5 [.agg (fmc false f), .c (sps false s)] (.c (.bool true)) := by
  have haw := awake44_fa
  refine fa_of_body Tryz.func5 rfl rfl (by simp [Tryz.ntmps5]) fun C hC => ?_
  simp only [initS, Nat.reduceAdd]
  refine xG ?_
  refine xB fun g2 hn_g2=>?_
  refine yG hn_g2 ?_
  refine yC hn_g2 (haw) ?_
  refine yG hn_g2 ?_
  refine yC hn_g2 (heavy_fa f s hn ha hl hlw) ?_
  refine yG hn_g2 ?_
  cases hv : heavyB f s
  rotate_left
  · refine yG hn_g2 ?_
    refine yP hn_g2 ?_
    refine yG hn_g2 ?_
    refine yC hn_g2 (haw) ?_
    refine yG hn_g2 ?_
    refine yT hC hn_g2 ?_
    exact .one (.c (.bool _))
  obtain ⟨hw4, hv6⟩ := light hw hv
  refine yG hn_g2 ?_
  refine yC hn_g2 (ready_fa f s hn ha ht0 ht (fun y hy => ⟨wf_mono (hw4 y hy).1 ?_, wf_mono (hw4 y hy).2 ?_⟩) hl) ?_
  · omega
  · omega
  refine yG hn_g2 ?_
  cases hr : decide (ucode f s = 0)
  · refine yG hn_g2 ?_
    refine yP hn_g2 ?_
    refine yG hn_g2 ?_
    refine yC hn_g2 (haw) ?_
    refine yG hn_g2 ?_
    refine yT hC hn_g2 ?_
    exact .one (.c (.bool _))
  have hr' : ucode f s = 0 := by simpa using hr
  have ok := uok_of hn ha hw4 hv6 hr'
  have hc : fcode f = 0 := ok.fc
  have hlen := ok.len
  have ck := fcheck_fa f hn ha ht0 ht
  rw [hc, show errA 0 = CV.nilI from rfl] at ck
  refine yG hn_g2 ?_
  refine yC hn_g2 (ck) ?_
  refine yG hn_g2 ?_
  refine yN hn_g2 ?_
  have uw := uworst_fa f s hn ha ht0 ht hw4 hl hv6
  have hcd : worstC f s = if f.vars = 0 then 10 else 0 := by unfold worstC; rw [if_neg (by simp [hr'])]
  refine yG hn_g2 ?_
  refine yC hn_g2 (uw) ?_
  refine yG hn_g2 ?_
  refine yF hn_g2 (fun hz=>?_) fun hz=>?_
  · have hz' : f.vars = 0 := by simpa using hz
    rw [if_pos hz'] at hcd
    rw [hcd]
    have ia := is_fa 10 10 (by decide)
    rw [decide_eq_true rfl] at ia
    refine yG hn_g2 ?_
    refine yC hn_g2 (ia) ?_
    refine yG hn_g2 ?_
    refine yT hC hn_g2 ?_
    exact .one (.c (.bool _))
  have hz' : f.vars ≠ 0 := by simpa using hz
  rw [if_neg hz'] at hcd
  obtain ⟨b1, b2, b3⟩ := bst_spec f s s.length
  obtain ⟨b4, b5⟩ := b3 (by omega)
  have hN : worstN f s = (bst f s s.length).1 := by unfold worstN; rw [if_pos hcd]
  rw [hcd, hN, show errA 0 = CV.nilI from rfl]
  rw [← b5] at b1 b2
  generalize (bst f s s.length).1 = n at *
  have pv : ∀ i : Nat, i < s.length → Fa Tryz.prog 18 [.agg (fmc false f), .c (sps false s), .c (.int .i64 i)] (.tup [.agg (rdc (rd (partQ f s i))), .c .nilI]) := fun i hi => by
    have h := uPart_fa f s i hn ha ht0 ht hw4 hl hv6
    have e : partC f s i = 0 := by unfold partC; rw [if_neg (by simp [hr']), if_neg (by omega)]
    rw [show partV f s i = partQ f s i from by unfold partV; rw [if_pos e, Int.toNat_natCast], e] at h
    exact h
  have pn := pv n b4
  have pfn := part_fits ok n
  have um := umono_fa f s hn ha ht0 ht hw4 hl hv6
  refine yG hn_g2 ?_
  refine yC hn_g2 (pn) ?_
  refine yG hn_g2 ?_
  refine yA hn_g2 fun g7 hn_g7=>?_
  refine yG (oj hn_g2 hn_g7) ?_
  refine yW (oj hn_g2 hn_g7) ?_
  refine yS (oj hn_g2 hn_g7) ?_
  refine yG (oj hn_g2 hn_g7) ?_
  refine yN (oj hn_g2 hn_g7) ?_
  refine yG (oj hn_g2 hn_g7) ?_
  refine yC (oj hn_g2 hn_g7) (csyntax_fa f hn ha hc) ?_
  refine yG (oj hn_g2 hn_g7) ?_
  refine yC (oj hn_g2 hn_g7) (um) ?_
  refine yG (oj hn_g2 hn_g7) ?_
  refine yA (oj hn_g2 hn_g7) fun g11 hn_g11=>?_
  refine yG (oj hn_g2 (oj hn_g7 hn_g11)) ?_
  refine yW (oj hn_g2 (oj hn_g7 hn_g11)) ?_
  refine yS (oj hn_g2 (oj hn_g7 hn_g11)) ?_
  refine aw_conv1 (f' := ofL (spc (umonS f s))) (fun j hj => by match j, hj with | 0, _ => rfl | 1, _ => rfl | 2, _ => rfl | 3, _ => rfl | 4, _ => rfl | 5, _ => rfl) ?_
  refine yG (oj hn_g2 (oj hn_g7 hn_g11)) ?_
  obtain ⟨x1, x2⟩ := umonS_wf (f := f) (s := s) (fun _ => ok)
  have wd := spwidth_fa (umonS f s) ⟨wf_mono x1 (by omega), wf_mono x2 (by omega)⟩
  have wf1 := norm_fits (s := umonS f s) (L := 4000) (by omega) ⟨x1, x2⟩
  have pw := fun hco i hi => part_width (f := f) (s := s) ok hco (i := i) hi
  have hum : cohTo f f.nodes.length = true → umonC f s = 0 := fun hco => by unfold umonC; rw [if_neg (by simp [hr']), if_pos hco]
  have wfw : fits (nhi (umonS f s) - nlo (umonS f s)) 9000 := fits_mono (fits_sub wf1.2 wf1.1) (by omega)
  generalize nhi (umonS f s) - nlo (umonS f s) = X at *
  generalize umonS f s = Y at *
  generalize umonC f s = c at *
  refine aw_lp (fun k : Nat => [(1, .c (sps false s)), (2, .c (.optr g2 0)), (5, .c (.int .i64 n)), (7, .c (.optr g7 0)), (9, .c (.bool (cohTo f f.nodes.length))), (10, .c .nilI), (11, .c (.optr g11 0)), (12, .c (errA c)), (71, .c (.int .i64 s.length)), (72, .c (.int .i64 k))]) (fun _ => [(g11, .cells 32 6 (ofL (spc Y))), (g7, .cells 30 3 (ofL (rdc (rd (partQ f s n))))), (g2, .cells 24 3 (ofL (fmc false f)))]) (fun k => k ≤ s.length) (fun k => s.length - k) 0 (zB (oj hn_g2 (oj hn_g7 hn_g11))) zZ (Nat.zero_le _) ?_
  rintro k hk
  refine yG (oj hn_g2 (oj hn_g7 hn_g11)) ?_
  refine yF (oj hn_g2 (oj hn_g7 hn_g11)) (fun h1=>?_) fun h1=>?_
  · have h1' : k < s.length := by have := of_decide_eq_true h1; omega
    have pk := pv k h1'
    have pf := part_fits ok k
    have cm := rcmp_fa (rd (partQ f s k)) (rd (partQ f s n)) (wf_mono (rd_wf pf) (by omega)) (wf_mono (rd_wf pfn) (by omega))
    have cw := rcmp_fa (rd (partQ f s k)) (rd X) (wf_mono (rd_wf pf) (by omega)) (wf_mono (rd_wf wfw) (by omega))
    rw [rd_q, rd_q] at cm cw
    have hA : decide (signQ (partQ f s k - partQ f s n) > 0) = false := by
      rw [signQ_gt]
      exact decide_eq_false (by have := b1 k h1'; grind)
    have hA2 : k < n → (signQ (partQ f s k - partQ f s n) == 0) = false := fun hkn => by
      have h := signQ_zero (x := partQ f s k) (y := partQ f s n)
      rw [decide_eq_false (by have := b2 k hkn; grind)] at h
      simpa using h
    have hA3 : cohTo f f.nodes.length = true → decide (signQ (partQ f s k - X) > 0) = false := fun hco => by
      rw [signQ_gt]
      exact decide_eq_false (by have := pw hco k h1'; grind)
    generalize signQ (partQ f s k - partQ f s n) = sg at *
    generalize signQ (partQ f s k - X) = sw at *
    generalize partQ f s k = Z at *
    refine yG (oj hn_g2 (oj hn_g7 (oj hn_g11 hA))) ?_
    refine yC (oj hn_g2 (oj hn_g7 (oj hn_g11 hA))) (pk) ?_
    refine yG (oj hn_g2 (oj hn_g7 (oj hn_g11 hA))) ?_
    refine yA (oj hn_g2 (oj hn_g7 (oj hn_g11 hA))) fun g14 hn_g14=>?_
    refine yG (oj hn_g2 (oj hn_g7 (oj hn_g11 (oj hA hn_g14)))) ?_
    refine yW (oj hn_g2 (oj hn_g7 (oj hn_g11 (oj hA hn_g14)))) ?_
    refine yS (oj hn_g2 (oj hn_g7 (oj hn_g11 (oj hA hn_g14)))) ?_
    refine yG (oj hn_g2 (oj hn_g7 (oj hn_g11 (oj hA hn_g14)))) ?_
    refine yC (oj hn_g2 (oj hn_g7 (oj hn_g11 (oj hA hn_g14)))) (cm) ?_
    refine yG (oj hn_g2 (oj hn_g7 (oj hn_g11 (oj hA hn_g14)))) ?_
    cases hlt : decide ((k : Int) < (n : Int))
    rotate_left
    · have hlt' : k < n := by have := of_decide_eq_true hlt; omega
      have hA2' := hA2 hlt'
      refine yG (oj hn_g2 (oj hn_g7 (oj hn_g11 (oj hA (oj hn_g14 hA2'))))) ?_
      refine yC (oj hn_g2 (oj hn_g7 (oj hn_g11 (oj hA (oj hn_g14 hA2'))))) (cm) ?_
      refine yG (oj hn_g2 (oj hn_g7 (oj hn_g11 (oj hA (oj hn_g14 hA2'))))) ?_
      refine yN (oj hn_g2 (oj hn_g7 (oj hn_g11 (oj hA (oj hn_g14 hA2'))))) ?_
      refine yG (oj hn_g2 (oj hn_g7 (oj hn_g11 (oj hA (oj hn_g14 hA2'))))) ?_
      cases hco : cohTo f f.nodes.length
      · refine aw_dr 16 ty_mixed (by kernel_rfl) ?_
        refine yG (oj hn_g2 (oj hn_g7 (oj hn_g11 (oj hA (oj hn_g14 hA2'))))) ?_
        refine yN (oj hn_g2 (oj hn_g7 (oj hn_g11 (oj hA (oj hn_g14 hA2'))))) ?_
        refine yG (oj hn_g2 (oj hn_g7 (oj hn_g11 (oj hA (oj hn_g14 hA2'))))) ?_
        exact aw_stop ⟨k + 1, by omega, (zB (oj hn_g2 (oj hn_g7 (oj hn_g11 (oj hA (oj hn_g14 hA2')))))), .cons _ (.refl _), by omega⟩
      · have hA3' := hA3 hco
        have hc0 := hum hco
        subst hc0
        rw [show errA 0 = CV.nilI from rfl]
        refine aw_dr 16 ty_mixed (by kernel_rfl) ?_
        refine yG (oj hn_g2 (oj hn_g7 (oj hn_g11 (oj hA (oj hn_g14 (oj hA2' hA3')))))) ?_
        refine yD (oj hn_g2 (oj hn_g7 (oj hn_g11 (oj hA (oj hn_g14 (oj hA2' hA3')))))) (wd) ?_
        refine yG (oj hn_g2 (oj hn_g7 (oj hn_g11 (oj hA (oj hn_g14 (oj hA2' hA3')))))) ?_
        refine yD (oj hn_g2 (oj hn_g7 (oj hn_g11 (oj hA (oj hn_g14 (oj hA2' hA3')))))) (cw) ?_
        refine yG (oj hn_g2 (oj hn_g7 (oj hn_g11 (oj hA (oj hn_g14 (oj hA2' hA3')))))) ?_
        refine yN (oj hn_g2 (oj hn_g7 (oj hn_g11 (oj hA (oj hn_g14 (oj hA2' hA3')))))) ?_
        refine yG (oj hn_g2 (oj hn_g7 (oj hn_g11 (oj hA (oj hn_g14 (oj hA2' hA3')))))) ?_
        exact aw_stop ⟨k + 1, by omega, (zB (oj hn_g2 (oj hn_g7 (oj hn_g11 (oj hA (oj hn_g14 (oj hA2' hA3'))))))), .cons _ (.refl _), by omega⟩
    · refine yG (oj hn_g2 (oj hn_g7 (oj hn_g11 (oj hA hn_g14)))) ?_
      refine yN (oj hn_g2 (oj hn_g7 (oj hn_g11 (oj hA hn_g14)))) ?_
      refine yG (oj hn_g2 (oj hn_g7 (oj hn_g11 (oj hA hn_g14)))) ?_
      cases hco : cohTo f f.nodes.length
      · refine aw_dr 16 ty_mixed (by kernel_rfl) ?_
        refine yG (oj hn_g2 (oj hn_g7 (oj hn_g11 (oj hA hn_g14)))) ?_
        refine yN (oj hn_g2 (oj hn_g7 (oj hn_g11 (oj hA hn_g14)))) ?_
        refine yG (oj hn_g2 (oj hn_g7 (oj hn_g11 (oj hA hn_g14)))) ?_
        exact aw_stop ⟨k + 1, by omega, (zB (oj hn_g2 (oj hn_g7 (oj hn_g11 (oj hA hn_g14))))), .cons _ (.refl _), by omega⟩
      · have hA3' := hA3 hco
        have hc0 := hum hco
        subst hc0
        rw [show errA 0 = CV.nilI from rfl]
        refine aw_dr 16 ty_mixed (by kernel_rfl) ?_
        refine yG (oj hn_g2 (oj hn_g7 (oj hn_g11 (oj hA (oj hn_g14 hA3'))))) ?_
        refine yD (oj hn_g2 (oj hn_g7 (oj hn_g11 (oj hA (oj hn_g14 hA3'))))) (wd) ?_
        refine yG (oj hn_g2 (oj hn_g7 (oj hn_g11 (oj hA (oj hn_g14 hA3'))))) ?_
        refine yD (oj hn_g2 (oj hn_g7 (oj hn_g11 (oj hA (oj hn_g14 hA3'))))) (cw) ?_
        refine yG (oj hn_g2 (oj hn_g7 (oj hn_g11 (oj hA (oj hn_g14 hA3'))))) ?_
        refine yN (oj hn_g2 (oj hn_g7 (oj hn_g11 (oj hA (oj hn_g14 hA3'))))) ?_
        refine yG (oj hn_g2 (oj hn_g7 (oj hn_g11 (oj hA (oj hn_g14 hA3'))))) ?_
        exact aw_stop ⟨k + 1, by omega, (zB (oj hn_g2 (oj hn_g7 (oj hn_g11 (oj hA (oj hn_g14 hA3')))))), .cons _ (.refl _), by omega⟩
  · refine yG (oj hn_g2 (oj hn_g7 hn_g11)) ?_
    refine yT hC (oj hn_g2 (oj hn_g7 hn_g11)) ?_
    exact .one (.c (.bool _))
end Go.Proofs.YtmfmnmkipjpjhaaGreatDoor
