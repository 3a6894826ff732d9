/- Texts of one proof, laid one behind the other by a program (merge.py): Law15. -/
import Derived.Test.YtmfmnmkipjpjhaaGreatQ27
set_option linter.unusedSimpArgs false
set_option linter.unusedVariables false
/- The law ShannonTop. -/
namespace Go.Proofs.YtmfmnmkipjpjhaaGreat
open Go.AI Go.PN
attribute [local irreducible] aw Fa Fh DrK
set_option maxRecDepth 100000 in
set_option maxHeartbeats 3200000 in
theorem lawTop_fa (haw : Fa Tryz.prog 5 [] (.c (.bool true))) (f : FM) (p : List RD) (hw : WordsOk p) (hl : p.length ≤ 1099511627776) (hn : f.nodes.length ≤ 1099511627776) (ha : ArgsOk f) (ht0 : -9223372036854775808 ≤ f.top) (ht : f.top ≤ 9223372036854775807) :
    Fa Tryz.prog 3 [.agg (fmc false f), .c (rats false p)] (.c (.bool true)) := by
  refine fa_of_body Tryz.func3 rfl rfl (by simp [Tryz.ntmps3]) fun C hC => ?_
  simp only [initS, Nat.reduceAdd]
  refine xG ?_
  refine xB fun g2 hn_g2=>?_
  refine yG hn_g2 ?_
  refine yC hn_g2 (haw) ?_
  refine yG hn_g2 ?_
  refine aw_callq (large_fa ⟨[], [], 0⟩ p hl (by simp) (by simp)) rfl rfl rfl (by refine yS hn_g2 ?_; exact ⟨.agg ⟨.nils, .nils, .refl _, trivial⟩, .c (.refl _)⟩) ?_
  refine yS hn_g2 ?_
  refine yG hn_g2 ?_
  refine yF hn_g2 (fun hv=>?_) fun hv=>?_
  · refine yG hn_g2 ?_
    refine yC hn_g2 (haw) ?_
    refine yG hn_g2 ?_
    refine yT hC hn_g2 ?_
    exact .one (.c (.bool _))
  refine yG hn_g2 ?_
  refine yC hn_g2 (fcheckR_fa f hn ha ht0 ht) ?_
  refine yG hn_g2 ?_
  refine aw_split 20 (zE hn_g2) (fun h0 => ?_) (fun h0 => ?_) <;> refine yS hn_g2 ?_
  · have hc : fcode f = 0 := eq_of_beq h0
    refine yG hn_g2 ?_
    refine aw_split 25 (zE hn_g2) (fun h6 => ?_) (fun h6 => ?_) <;> refine yS hn_g2 ?_
    · refine yG hn_g2 ?_
      refine yF hn_g2 (fun hlen=>?_) fun hlen=>?_
      · refine yG hn_g2 ?_
        refine yT hC hn_g2 ?_
        exact .one (.c (ler_bool rfl))
      · have hp : pcode p f.vars ≠ 0 := by
          unfold pcode
          rw [if_pos (by simpa using hlen)]
          decide
        refine yG hn_g2 ?_
        have hst := stop_err f p hn ha ht0 ht (small_of hw (by simp) hv).w hl (.inr hp)
        rw [if_neg (by simpa using hc)] at hst
        have hpf : (pcode p f.vars != 0) = true := by simpa using hp
        have hcf : (fcode f == 0) = true := h0
        refine aw_callh (hc := []) (hr := [(g2, .cells 24 3 (ofL (fmc false f)))]) hst rfl rfl rfl (.refl _) (zL (oj hn_g2 (oj hpf hcf))) ?_
        rintro _ _ ⟨rfl, rfl⟩ _
        refine yS (oj hn_g2 (oj hpf hcf)) ?_
        refine yG (oj hn_g2 (oj hpf hcf)) ?_
        refine yA (oj hn_g2 (oj hpf hcf)) fun g6 hn_g6=>?_
        refine yG (oj hn_g2 (oj hpf (oj hcf hn_g6))) ?_
        refine yW (oj hn_g2 (oj hpf (oj hcf hn_g6))) ?_
        refine yS (oj hn_g2 (oj hpf (oj hcf hn_g6))) ?_
        refine yG (oj hn_g2 (oj hpf (oj hcf hn_g6))) ?_
        refine yP (oj hn_g2 (oj hpf (oj hcf hn_g6))) ?_
        refine yG (oj hn_g2 (oj hpf (oj hcf hn_g6))) ?_
        refine yC (oj hn_g2 (oj hpf (oj hcf hn_g6))) (check37_fa p f.vars (fun r hr => wf_mono ((small_of hw ?_ hv).w r hr) ?_) hl) ?_
        · simp
        · omega
        refine yG (oj hn_g2 (oj hpf (oj hcf hn_g6))) ?_
        refine yP (oj hn_g2 (oj hpf (oj hcf hn_g6))) ?_
        refine yG (oj hn_g2 (oj hpf (oj hcf hn_g6))) ?_
        refine aw_callq (zero37_fa rd0 (by simp [RD.wf, rd0])) rfl rfl rfl (by refine yS (oj hn_g2 (oj hpf (oj hcf hn_g6))) ?_; exact .agg ⟨.refl _, .nils, .nils, trivial⟩) ?_
        rw [show decide (rd0 = rd0) = true from decide_eq_true rfl]
        refine yS (oj hn_g2 (oj hpf (oj hcf hn_g6))) ?_
        refine yG (oj hn_g2 (oj hpf (oj hcf hn_g6))) ?_
        refine yC (oj hn_g2 (oj hpf (oj hcf hn_g6))) (num_fa (pcode p f.vars)) ?_
        refine yG (oj hn_g2 (oj hpf (oj hcf hn_g6))) ?_
        refine yT hC (oj hn_g2 (oj hpf (oj hcf hn_g6))) ?_
        exact .one (.c (ler_bool (by simp)))
    · refine yG hn_g2 ?_
      refine yN hn_g2 ?_
      refine yG hn_g2 ?_
      by_cases hp : pcode p f.vars ≠ 0
      · skip
        have hst := stop_err f p hn ha ht0 ht (small_of hw (by simp) hv).w hl (.inr hp)
        rw [if_neg (by simpa using hc)] at hst
        have hpf : (pcode p f.vars != 0) = true := by simpa using hp
        have hcf : (fcode f == 0) = true := h0
        refine aw_callh (hc := []) (hr := [(g2, .cells 24 3 (ofL (fmc false f)))]) hst rfl rfl rfl (.refl _) (zL (oj hn_g2 (oj hpf hcf))) ?_
        rintro _ _ ⟨rfl, rfl⟩ _
        refine yS (oj hn_g2 (oj hpf hcf)) ?_
        refine yG (oj hn_g2 (oj hpf hcf)) ?_
        refine yA (oj hn_g2 (oj hpf hcf)) fun g6 hn_g6=>?_
        refine yG (oj hn_g2 (oj hpf (oj hcf hn_g6))) ?_
        refine yW (oj hn_g2 (oj hpf (oj hcf hn_g6))) ?_
        refine yS (oj hn_g2 (oj hpf (oj hcf hn_g6))) ?_
        refine yG (oj hn_g2 (oj hpf (oj hcf hn_g6))) ?_
        refine yP (oj hn_g2 (oj hpf (oj hcf hn_g6))) ?_
        refine yG (oj hn_g2 (oj hpf (oj hcf hn_g6))) ?_
        refine yC (oj hn_g2 (oj hpf (oj hcf hn_g6))) (check37_fa p f.vars (fun r hr => wf_mono ((small_of hw ?_ hv).w r hr) ?_) hl) ?_
        · simp
        · omega
        refine yG (oj hn_g2 (oj hpf (oj hcf hn_g6))) ?_
        refine yP (oj hn_g2 (oj hpf (oj hcf hn_g6))) ?_
        refine yG (oj hn_g2 (oj hpf (oj hcf hn_g6))) ?_
        refine aw_callq (zero37_fa rd0 (by simp [RD.wf, rd0])) rfl rfl rfl (by refine yS (oj hn_g2 (oj hpf (oj hcf hn_g6))) ?_; exact .agg ⟨.refl _, .nils, .nils, trivial⟩) ?_
        rw [show decide (rd0 = rd0) = true from decide_eq_true rfl]
        refine yS (oj hn_g2 (oj hpf (oj hcf hn_g6))) ?_
        refine yG (oj hn_g2 (oj hpf (oj hcf hn_g6))) ?_
        refine yC (oj hn_g2 (oj hpf (oj hcf hn_g6))) (num_fa (pcode p f.vars)) ?_
        refine yG (oj hn_g2 (oj hpf (oj hcf hn_g6))) ?_
        refine yT hC (oj hn_g2 (oj hpf (oj hcf hn_g6))) ?_
        exact .one (.c (ler_bool (by simp)))
      · have hp0 : pcode p f.vars = 0 := by simpa using hp
        have hpl : (p.length : Int) = f.vars := by
          apply Classical.byContradiction
          intro h
          unfold pcode at hp0
          rw [if_pos h] at hp0
          cases hp0
        have hv6 : f.vars ≤ 6 := by have := of_decide_eq_false h6; omega
        have hcf : (fcode f == 0) = true := h0
        have hpf : (pcode p f.vars != 0) = false := by simpa using hp0
        refine aw_callh (hc := []) (hr := [(g2, .cells 24 3 (ofL (fmc false f)))]) (stop_fh f p hn ha hc hv6 (small_of hw (by simp) hv).w hp0 hpl) rfl rfl rfl (.refl _) (zL (oj hn_g2 (oj hpf hcf))) ?_
        rintro _ _ ⟨rfl, D, hD, hDl, rfl⟩ _
        refine yS (oj hn_g2 (oj hpf hcf)) ?_
        refine yG (oj hn_g2 (oj hpf hcf)) ?_
        refine yA (oj hn_g2 (oj hpf hcf)) fun g6 hn_g6=>?_
        refine yG (oj hn_g2 (oj hpf (oj hcf hn_g6))) ?_
        refine yW (oj hn_g2 (oj hpf (oj hcf hn_g6))) ?_
        refine yS (oj hn_g2 (oj hpf (oj hcf hn_g6))) ?_
        refine yG (oj hn_g2 (oj hpf (oj hcf hn_g6))) ?_
        refine yP (oj hn_g2 (oj hpf (oj hcf hn_g6))) ?_
        refine yG (oj hn_g2 (oj hpf (oj hcf hn_g6))) ?_
        refine yC (oj hn_g2 (oj hpf (oj hcf hn_g6))) (check37_fa p f.vars (fun r hr => wf_mono ((small_of hw ?_ hv).w r hr) ?_) hl) ?_
        · simp
        · omega
        refine yG (oj hn_g2 (oj hpf (oj hcf hn_g6))) ?_
        refine yN (oj hn_g2 (oj hpf (oj hcf hn_g6))) ?_
        refine yG (oj hn_g2 (oj hpf (oj hcf hn_g6))) ?_
        have ok := fr_ok hc
        have fm : FmOk f := by
          refine ⟨ok.v0, by omega, by have := ok.n128; omega, fun x hx => ?_, ok.t0, ok.t1⟩
          obtain ⟨i, hi, rfl⟩ := List.mem_iff_getElem.1 hx
          have h1 := ok.len hi
          have h2 := ok.arg i hi
          rw [show f.nodes.getD i fn0 = f.nodes[i] from by rw [List.getD_eq_getElem?_getD, List.getElem?_eq_getElem hi]; rfl] at h1 h2
          exact ⟨by omega, fun y hy => by have := h2 y hy; omega⟩
        have hvp : f.vars.toNat = p.length := by omega
        have hft := form_tab hD (by omega)
        have hfl := formTo_len f (2 ^ f.vars.toNat)
        have hfa := formula_fa f fm (by omega)
        generalize formTo f (2 ^ f.vars.toNat) = tb at hft hfl hfa
        have htl : tb.length = 2 ^ p.length := by rw [hfl, hvp]
        have hsq : sumQ p (tabL D) (2 ^ p.length) = sumQ p tb tb.length := by rw [hft, htl]
        have hsD : Small D p := ⟨(small_of hw (by simp) hv).w, (small_of hw (by simp) hv).l, by omega, by have := (dg_ok hD.code).n4096; omega, fun _ => by omega⟩
        have hdp : dpcode D p = 0 := by
          unfold dpcode
          rw [if_neg (by rw [hD.code]; simp), hDl, hpl]
          exact hp0
        have hwf : (rd (sumQ p tb tb.length)).wf 68719476736 := by
          have := wf_mono (prS_wf hsD hdp) (show 4000 ≤ 68719476736 by omega)
          unfold prS at this
          rwa [hsq] at this
        rw [hsq]
        refine aw_dr 11 ty_mixed (by kernel_rfl) ?_
        refine yG (oj hn_g2 (oj hpf (oj hcf hn_g6))) ?_
        refine yD (oj hn_g2 (oj hpf (oj hcf hn_g6))) (hfa) ?_
        refine yG (oj hn_g2 (oj hpf (oj hcf hn_g6))) ?_
        refine yD (oj hn_g2 (oj hpf (oj hcf hn_g6))) (table37_fa tb p 4 ?_ ?_ (small_of hw ?_ hv).w ?_ htl) ?_
        · omega
        · omega
        · simp
        · omega
        refine yG (oj hn_g2 (oj hpf (oj hcf hn_g6))) ?_
        refine yD (oj hn_g2 (oj hpf (oj hcf hn_g6))) (ratEq_fa (rd (sumQ p tb tb.length)) (rd (sumQ p tb tb.length)) hwf) ?_
        rw [decide_true]
        refine yG (oj hn_g2 (oj hpf (oj hcf hn_g6))) ?_
        refine yT hC (oj hn_g2 (oj hpf (oj hcf hn_g6))) ?_
        exact .one (.c (ler_bool rfl))
  · have hc : fcode f ≠ 0 := by simpa using h0
    have hcf : (fcode f == 0) = false := h0
    have hst := stop_err f p hn ha ht0 ht (small_of hw (by simp) hv).w hl (.inl hc)
    rw [if_pos hc] at hst
    have hcf2 : (fcode f != 0) = true := by simpa using hc
    refine yG (oj hn_g2 (oj hcf (oj hcf2 hc))) ?_
    refine yN (oj hn_g2 (oj hcf (oj hcf2 hc))) ?_
    refine yG (oj hn_g2 (oj hcf (oj hcf2 hc))) ?_
    refine aw_callh (hc := []) (hr := [(g2, .cells 24 3 (ofL (fmc false f)))]) hst rfl rfl rfl (.refl _) (zL (oj hn_g2 (oj hcf (oj hcf2 hc)))) ?_
    rintro _ _ ⟨rfl, rfl⟩ _
    refine yS (oj hn_g2 (oj hcf (oj hcf2 hc))) ?_
    refine yG (oj hn_g2 (oj hcf (oj hcf2 hc))) ?_
    refine yA (oj hn_g2 (oj hcf (oj hcf2 hc))) fun g6 hn_g6=>?_
    refine yG (oj hn_g2 (oj hcf (oj hcf2 (oj hc hn_g6)))) ?_
    refine yW (oj hn_g2 (oj hcf (oj hcf2 (oj hc hn_g6)))) ?_
    refine yS (oj hn_g2 (oj hcf (oj hcf2 (oj hc hn_g6)))) ?_
    refine yG (oj hn_g2 (oj hcf (oj hcf2 (oj hc hn_g6)))) ?_
    refine yN (oj hn_g2 (oj hcf (oj hcf2 (oj hc hn_g6)))) ?_
    refine yG (oj hn_g2 (oj hcf (oj hcf2 (oj hc hn_g6)))) ?_
    refine yP (oj hn_g2 (oj hcf (oj hcf2 (oj hc hn_g6)))) ?_
    refine yG (oj hn_g2 (oj hcf (oj hcf2 (oj hc hn_g6)))) ?_
    refine aw_callq (zero37_fa rd0 (by simp [RD.wf, rd0])) rfl rfl rfl (by refine yS (oj hn_g2 (oj hcf (oj hcf2 (oj hc hn_g6)))) ?_; exact .agg ⟨.refl _, .nils, .nils, trivial⟩) ?_
    rw [show decide (rd0 = rd0) = true from decide_eq_true rfl]
    refine yS (oj hn_g2 (oj hcf (oj hcf2 (oj hc hn_g6)))) ?_
    refine yG (oj hn_g2 (oj hcf (oj hcf2 (oj hc hn_g6)))) ?_
    refine yC (oj hn_g2 (oj hcf (oj hcf2 (oj hc hn_g6)))) (num_fa (fcode f)) ?_
    refine yG (oj hn_g2 (oj hcf (oj hcf2 (oj hc hn_g6)))) ?_
    refine yT hC (oj hn_g2 (oj hcf (oj hcf2 (oj hc hn_g6)))) ?_
    exact .one (.c (ler_bool (by simp)))
end Go.Proofs.YtmfmnmkipjpjhaaGreat
