/- Texts of one proof, laid one behind the other by a program (merge.py): Cub2, Shan6. -/
import Derived.Test.YtmfmnmkipjpjhaaGreatQ14
import Derived.Test.YtmfmnmkipjpjhaaGreatQ15
import Derived.Test.YtmfmnmkipjpjhaaGreatQ18
set_option linter.unusedSimpArgs false
set_option linter.unusedVariables false
/- cube: Weight. -/
namespace Go.Proofs.YtmfmnmkipjpjhaaGreat
open Go.AI Go.PN
attribute [local irreducible] aw Fa Fh DrK
theorem ccode_and {y n : Nat} (hy : y < 16777216) (hn : n < 16777216) (h : ccode y n = 0) : y &&& n = 0 := by
  unfold ccode at h
  split at h
  · cases h
  · split at h
    · cases h
    · rename_i h1
      rw [andZ_nat y n (by omega) (by omega)] at h1
      omega
theorem no_both {y n : Nat} (h : y &&& n = 0) {i : Nat} (hy : y.testBit i = true) : n.testBit i = false := by
  have := congrArg (fun z => z.testBit i) h
  simp only [Nat.testBit_and, Nat.zero_testBit, hy, Bool.true_and] at this
  exact this
set_option maxRecDepth 100000 in
set_option maxHeartbeats 3200000 in
theorem weight_fa (y n : Nat) (ps : List RD) (hy : y < 16777216) (hn : n < 16777216) (hcc : ccode y n = 0) (L : Nat) (hL : 1 ≤ L) (hL2 : L ≤ 1000000) (hp : ∀ r ∈ ps, r.wf L) (hl : ps.length ≤ 24) (hpr : ∀ r ∈ ps, r.prob = true) :
    Fa Tryz.prog 44 [.agg [.int .i64 y, .int .i64 n], .c (rats false ps)] (.tup [.agg (rdc (if (y ||| n) / 2 ^ ps.length = 0 then rd (wtTo y n ps ps.length) else rd0)), .c (errA (if (y ||| n) / 2 ^ ps.length = 0 then 0 else 10))]) := by
  have hdis := ccode_and hy hn hcc
  refine fa_of_body Tryz.func44 rfl rfl (by simp [Tryz.ntmps44]) fun C hC => ?_
  simp only [initS, Nat.reduceAdd]
  refine xG ?_
  refine xB fun g2 hn_g2=>?_
  refine yA hn_g2 fun g4 hn_g4=>?_
  refine yG (oj hn_g2 hn_g4) ?_
  refine yC (oj hn_g2 hn_g4) (ccheck_fa y n) ?_
  rw [hcc]
  have e0 : (decide ((0 : Int) = 0)) = true := rfl
  refine yG (oj hn_g2 (oj hn_g4 e0)) ?_
  refine yN (oj hn_g2 (oj hn_g4 e0)) ?_
  refine yG (oj hn_g2 (oj hn_g4 e0)) ?_
  have e24 : decide ((ps.length : Int) > 24) = false := decide_eq_false (by omega)
  refine yG (oj hn_g2 (oj hn_g4 (oj e0 e24))) ?_
  refine yN (oj hn_g2 (oj hn_g4 (oj e0 e24))) ?_
  refine yH (oj hn_g2 (oj hn_g4 (oj e0 e24))) ?_
  apply aw_skip
  apply aw_seq
  refine aw_cut (fun _ : Unit => [(1, .c (rats false ps)), (2, .c (.optr g2 0)), (4, .c (.optr g4 0))]) (fun _ => [(g4, .cells 35 3 (ofL [.bool false, .nils, .nils])), (g2, .cells 57 2 (ofL [.int .i64 (y : Int), .int .i64 (n : Int)]))]) (fun _ => ps.length ≤ 24) ?_ ?_
  · as_aux_lemma =>
    refine yG (oj hn_g2 (oj hn_g4 (oj e0 e24))) ?_
    refine aw_lp (fun i : Nat => [(1, .c (rats false ps)), (2, .c (.optr g2 0)), (4, .c (.optr g4 0)), (25, .c (rats false ps)), (26, .c (.int .i64 ps.length)), (27, .c (.int .i64 i))]) (fun _ => [(g4, .cells 35 3 (ofL [.bool false, .nils, .nils])), (g2, .cells 57 2 (ofL [.int .i64 (y : Int), .int .i64 (n : Int)]))]) (fun i => i ≤ ps.length) (fun i => ps.length - i) 0 (zB (oj hn_g2 (oj hn_g4 (oj e0 e24)))) zZ (Nat.zero_le _) ?_
    rintro i hi
    refine yG (oj hn_g2 (oj hn_g4 (oj e0 e24))) ?_
    refine yF (oj hn_g2 (oj hn_g4 (oj e0 e24))) (fun hb=>?_) fun hb=>?_
    · have hin : i < ps.length := by have := of_decide_eq_true hb; omega
      have hpi := hpr (ps.getD i rd0) (by rw [List.getD_eq_getElem?_getD, List.getElem?_eq_getElem hin]; exact List.getElem_mem hin)
      refine yG (oj hn_g2 (oj hn_g4 (oj e0 e24))) ?_
      refine yA (oj hn_g2 (oj hn_g4 (oj e0 e24))) fun g8 hn_g8=>?_
      refine yG (oj hn_g2 (oj hn_g4 (oj e0 (oj e24 hn_g8)))) ?_
      refine yW (oj hn_g2 (oj hn_g4 (oj e0 (oj e24 hn_g8)))) ?_
      refine yS (oj hn_g2 (oj hn_g4 (oj e0 (oj e24 hn_g8)))) ?_
      refine yG (oj hn_g2 (oj hn_g4 (oj e0 (oj e24 hn_g8)))) ?_
      refine yC (oj hn_g2 (oj hn_g4 (oj e0 (oj e24 hn_g8)))) (rprob_fa (ps.getD i rd0) ?_) ?_
      · exact wf_mono (getD_wf hp i) (by omega)
      rw [hpi]
      refine yG (oj hn_g2 (oj hn_g4 (oj e0 (oj e24 hn_g8)))) ?_
      refine yN (oj hn_g2 (oj hn_g4 (oj e0 (oj e24 hn_g8)))) ?_
      refine yG (oj hn_g2 (oj hn_g4 (oj e0 (oj e24 hn_g8)))) ?_
      exact aw_stop ⟨i + 1, by omega, (zB (oj hn_g2 (oj hn_g4 (oj e0 (oj e24 hn_g8))))), List.Sublist.cons _ (List.Sublist.refl _), by omega⟩
    · refine yG (oj hn_g2 (oj hn_g4 (oj e0 e24))) ?_
      exact aw_stop ⟨(), (zB (oj hn_g2 (oj hn_g4 (oj e0 e24)))), zZ, hl⟩
  as_aux_lemma =>
  rintro _ _
  have b1 := orZ_nat y n (by omega) (by omega)
  have b2 := shrZ_nat (y ||| n) ps.length (by omega)
  refine yG (oj hn_g2 (oj hn_g4 (oj e0 (oj e24 (oj b1 b2))))) ?_
  refine yF (oj hn_g2 (oj hn_g4 (oj e0 (oj e24 (oj b1 b2))))) (fun hx=>?_) fun hx=>?_
  · have hx' : (y ||| n) / 2 ^ ps.length ≠ 0 := fun e => by rw [e] at hx; simp at hx
    rw [if_neg hx', if_neg hx']
    refine yG (oj hn_g2 (oj hn_g4 (oj e0 (oj e24 (oj b1 b2))))) ?_
    refine yW (oj hn_g2 (oj hn_g4 (oj e0 (oj e24 (oj b1 b2))))) ?_
    refine yS (oj hn_g2 (oj hn_g4 (oj e0 (oj e24 (oj b1 b2))))) ?_
    refine yG (oj hn_g2 (oj hn_g4 (oj e0 (oj e24 (oj b1 b2))))) ?_
    refine yT hC (oj hn_g2 (oj hn_g4 (oj e0 (oj e24 (oj b1 b2))))) ?_
    exact .tup ⟨.agg ⟨.bool _, .nils, .nils, trivial⟩, .c (ler_errN rfl (by omega)), trivial⟩
  have hx' : (y ||| n) / 2 ^ ps.length = 0 := by
    have : ((((y ||| n) / 2 ^ ps.length : Nat) : Int) == 0) = true := by simpa [bne] using hx
    have := eq_of_beq this; omega
  rw [if_pos hx', if_pos hx']
  refine yG (oj hn_g2 (oj hn_g4 (oj e0 (oj e24 (oj b1 b2))))) ?_
  refine yC (oj hn_g2 (oj hn_g4 (oj e0 (oj e24 (oj b1 b2))))) (rof_fa 1 ?_ ?_) ?_
  · omega
  · omega
  refine yA (oj hn_g2 (oj hn_g4 (oj e0 (oj e24 (oj b1 b2))))) fun g9 hn_g9=>?_
  refine yG (oj hn_g2 (oj hn_g4 (oj e0 (oj e24 (oj b1 (oj b2 hn_g9)))))) ?_
  refine yW (oj hn_g2 (oj hn_g4 (oj e0 (oj e24 (oj b1 (oj b2 hn_g9)))))) ?_
  refine yS (oj hn_g2 (oj hn_g4 (oj e0 (oj e24 (oj b1 (oj b2 hn_g9)))))) ?_
  refine yG (oj hn_g2 (oj hn_g4 (oj e0 (oj e24 (oj b1 (oj b2 hn_g9)))))) ?_
  refine yA (oj hn_g2 (oj hn_g4 (oj e0 (oj e24 (oj b1 (oj b2 hn_g9)))))) fun g10 hn_g10=>?_
  refine yG (oj hn_g2 (oj hn_g4 (oj e0 (oj e24 (oj b1 (oj b2 (oj hn_g9 hn_g10))))))) ?_
  refine yW (oj hn_g2 (oj hn_g4 (oj e0 (oj e24 (oj b1 (oj b2 (oj hn_g9 hn_g10))))))) ?_
  refine yS (oj hn_g2 (oj hn_g4 (oj e0 (oj e24 (oj b1 (oj b2 (oj hn_g9 hn_g10))))))) ?_
  refine yG (oj hn_g2 (oj hn_g4 (oj e0 (oj e24 (oj b1 (oj b2 (oj hn_g9 hn_g10))))))) ?_
  refine aw_lp (fun k : Nat => [(2, .c (.optr g2 0)), (4, .c (.optr g4 0)), (9, .c (.optr g9 0)), (10, .c (.optr g10 0)), (50, .c (rats false ps)), (51, .c (.int .i64 ps.length)), (52, .c (.int .i64 k))]) (fun k => [(g10, .cells 35 3 (ofL (rdc (rd (wtTo y n ps k))))), (g9, .cells 35 3 (ofL (rdc (rd ((1 : Int) : Rat))))), (g4, .cells 35 3 (ofL [.bool false, .nils, .nils])), (g2, .cells 57 2 (ofL [.int .i64 (y : Int), .int .i64 (n : Int)]))])
    (fun k => k ≤ ps.length) (fun k => ps.length - k) 0 (zB (oj hn_g2 (oj hn_g4 (oj e0 (oj e24 (oj b1 (oj b2 (oj hn_g9 hn_g10)))))))) zZ (Nat.zero_le _) ?_
  as_aux_lemma =>
  rintro k hk
  have hfk := fits_wt (y := y) (n := n) hL hp k
  have hbk : (2 * L + 2) * k + 1 ≤ 200000000 := by
    have := Nat.mul_le_mul (show 2 * L + 2 ≤ 2000002 from by omega) (show k ≤ 64 from by omega)
    omega
  have hwk : (rd (wtTo y n ps k)).wf 1073741824 := rd_wf (fits_mono hfk (by omega))
  refine yG (oj hn_g2 (oj hn_g4 (oj e0 (oj e24 (oj b1 (oj b2 (oj hn_g9 hn_g10))))))) ?_
  refine yF (oj hn_g2 (oj hn_g4 (oj e0 (oj e24 (oj b1 (oj b2 (oj hn_g9 hn_g10))))))) (fun hb=>?_) fun hb=>?_
  · have hin : k < ps.length := by have := of_decide_eq_true hb; omega
    have hpk := getD_wf hp k
    have p2 : 2 ^ k < 9223372036854775808 := by
      have h3 : 2 ^ k < 2 ^ 63 := Nat.pow_lt_pow_right (by omega) (by omega)
      have h4 : (2 : Nat) ^ 63 = 9223372036854775808 := by decide
      rw [h4] at h3; exact h3
    have c1 := shl_one k (by omega)
    have c2 := andZ_nat y (2 ^ k) (by omega) p2
    have c3 := bit_and y k
    have c4 := andZ_nat n (2 ^ k) (by omega) p2
    have c5 := bit_and n k
    refine yG (oj hn_g2 (oj hn_g4 (oj e0 (oj e24 (oj b1 (oj b2 (oj hn_g9 hn_g10))))))) ?_
    refine yA (oj hn_g2 (oj hn_g4 (oj e0 (oj e24 (oj b1 (oj b2 (oj hn_g9 hn_g10))))))) fun g12 hn_g12=>?_
    refine yG (oj hn_g2 (oj hn_g4 (oj e0 (oj e24 (oj b1 (oj b2 (oj hn_g9 (oj hn_g10 hn_g12)))))))) ?_
    refine yW (oj hn_g2 (oj hn_g4 (oj e0 (oj e24 (oj b1 (oj b2 (oj hn_g9 (oj hn_g10 hn_g12)))))))) ?_
    refine yS (oj hn_g2 (oj hn_g4 (oj e0 (oj e24 (oj b1 (oj b2 (oj hn_g9 (oj hn_g10 hn_g12)))))))) ?_
    refine yG (oj hn_g2 (oj hn_g4 (oj e0 (oj e24 (oj b1 (oj b2 (oj hn_g9 (oj hn_g10 (oj hn_g12 (oj c1 (oj c2 (oj c3 (oj c4 c5))))))))))))) ?_
    refine yF (oj hn_g2 (oj hn_g4 (oj e0 (oj e24 (oj b1 (oj b2 (oj hn_g9 (oj hn_g10 (oj hn_g12 (oj c1 (oj c2 (oj c3 (oj c4 c5))))))))))))) (fun hc=>?_) fun hc=>?_
    · have hnb := no_both hdis hc
      refine yG (oj hn_g2 (oj hn_g4 (oj e0 (oj e24 (oj b1 (oj b2 (oj hn_g9 (oj hn_g10 (oj hn_g12 (oj c1 (oj c2 (oj c3 (oj c4 c5))))))))))))) ?_
      refine yC (oj hn_g2 (oj hn_g4 (oj e0 (oj e24 (oj b1 (oj b2 (oj hn_g9 (oj hn_g10 (oj hn_g12 (oj c1 (oj c2 (oj c3 (oj c4 c5))))))))))))) (rmul_fa _ _ hwk ?_) ?_
      · exact wf_mono hpk (by omega)
      rw [rd_q]
      refine yG (oj hn_g2 (oj hn_g4 (oj e0 (oj e24 (oj b1 (oj b2 (oj hn_g9 (oj hn_g10 (oj hn_g12 (oj c1 (oj c2 (oj c3 (oj c4 c5))))))))))))) ?_
      refine yW (oj hn_g2 (oj hn_g4 (oj e0 (oj e24 (oj b1 (oj b2 (oj hn_g9 (oj hn_g10 (oj hn_g12 (oj c1 (oj c2 (oj c3 (oj c4 c5))))))))))))) ?_
      refine yS (oj hn_g2 (oj hn_g4 (oj e0 (oj e24 (oj b1 (oj b2 (oj hn_g9 (oj hn_g10 (oj hn_g12 (oj c1 (oj c2 (oj c3 (oj c4 c5))))))))))))) ?_
      refine yG (oj hn_g2 (oj hn_g4 (oj e0 (oj e24 (oj b1 (oj b2 (oj hn_g9 (oj hn_g10 (oj hn_g12 (oj c1 (oj c2 (oj c3 (oj c4 c5))))))))))))) ?_
      have e : wtTo y n ps (k + 1) = wtTo y n ps k * (ps.getD k rd0).q := by
        rw [wtTo, wfac, hc, hnb, if_pos rfl, if_neg (c := false = true) (by simp), Rat.mul_one]
      rw [← e]
      exact aw_stop ⟨k + 1, by omega, (zB (oj hn_g2 (oj hn_g4 (oj e0 (oj e24 (oj b1 (oj b2 (oj hn_g9 (oj hn_g10 (oj hn_g12 (oj c1 (oj c2 (oj c3 (oj c4 c5)))))))))))))), List.Sublist.cons _ (List.Sublist.refl _), by omega⟩
    · refine yG (oj hn_g2 (oj hn_g4 (oj e0 (oj e24 (oj b1 (oj b2 (oj hn_g9 (oj hn_g10 (oj hn_g12 (oj c1 (oj c2 (oj c3 (oj c4 c5))))))))))))) ?_
      refine yF (oj hn_g2 (oj hn_g4 (oj e0 (oj e24 (oj b1 (oj b2 (oj hn_g9 (oj hn_g10 (oj hn_g12 (oj c1 (oj c2 (oj c3 (oj c4 c5))))))))))))) (fun hd=>?_) fun hd=>?_
      · refine yG (oj hn_g2 (oj hn_g4 (oj e0 (oj e24 (oj b1 (oj b2 (oj hn_g9 (oj hn_g10 (oj hn_g12 (oj c1 (oj c2 (oj c3 (oj c4 c5))))))))))))) ?_
        refine aw_dr 5 ty_mixed (by kernel_rfl) ?_
        refine yG (oj hn_g2 (oj hn_g4 (oj e0 (oj e24 (oj b1 (oj b2 (oj hn_g9 (oj hn_g10 (oj hn_g12 (oj c1 (oj c2 (oj c3 (oj c4 c5))))))))))))) ?_
        refine yD (oj hn_g2 (oj hn_g4 (oj e0 (oj e24 (oj b1 (oj b2 (oj hn_g9 (oj hn_g10 (oj hn_g12 (oj c1 (oj c2 (oj c3 (oj c4 c5))))))))))))) (rsub_fa _ _ (one_wf' ?_) ?_) ?_
        · omega
        · exact wf_mono hpk (by omega)
        rw [rd_q, cast1]
        refine yG (oj hn_g2 (oj hn_g4 (oj e0 (oj e24 (oj b1 (oj b2 (oj hn_g9 (oj hn_g10 (oj hn_g12 (oj c1 (oj c2 (oj c3 (oj c4 c5))))))))))))) ?_
        refine yD (oj hn_g2 (oj hn_g4 (oj e0 (oj e24 (oj b1 (oj b2 (oj hn_g9 (oj hn_g10 (oj hn_g12 (oj c1 (oj c2 (oj c3 (oj c4 c5))))))))))))) (rmul_fa _ _ hwk ?_) ?_
        · exact rd_wf (fits_mono (fits_sub fits_one (RD.fits hpk hL)) (by omega))
        rw [rd_q, rd_q]
        refine yG (oj hn_g2 (oj hn_g4 (oj e0 (oj e24 (oj b1 (oj b2 (oj hn_g9 (oj hn_g10 (oj hn_g12 (oj c1 (oj c2 (oj c3 (oj c4 c5))))))))))))) ?_
        refine yW (oj hn_g2 (oj hn_g4 (oj e0 (oj e24 (oj b1 (oj b2 (oj hn_g9 (oj hn_g10 (oj hn_g12 (oj c1 (oj c2 (oj c3 (oj c4 c5))))))))))))) ?_
        refine yS (oj hn_g2 (oj hn_g4 (oj e0 (oj e24 (oj b1 (oj b2 (oj hn_g9 (oj hn_g10 (oj hn_g12 (oj c1 (oj c2 (oj c3 (oj c4 c5))))))))))))) ?_
        refine yG (oj hn_g2 (oj hn_g4 (oj e0 (oj e24 (oj b1 (oj b2 (oj hn_g9 (oj hn_g10 (oj hn_g12 (oj c1 (oj c2 (oj c3 (oj c4 c5))))))))))))) ?_
        have e : wtTo y n ps (k + 1) = wtTo y n ps k * (1 - (ps.getD k rd0).q) := by
          rw [wtTo, wfac, hc, hd, if_pos rfl, if_neg (c := false = true) (by simp), Rat.one_mul]
        rw [← e]
        exact aw_stop ⟨k + 1, by omega, (zB (oj hn_g2 (oj hn_g4 (oj e0 (oj e24 (oj b1 (oj b2 (oj hn_g9 (oj hn_g10 (oj hn_g12 (oj c1 (oj c2 (oj c3 (oj c4 c5)))))))))))))), List.Sublist.cons _ (List.Sublist.refl _), by omega⟩
      · refine yG (oj hn_g2 (oj hn_g4 (oj e0 (oj e24 (oj b1 (oj b2 (oj hn_g9 (oj hn_g10 (oj hn_g12 (oj c1 (oj c2 (oj c3 (oj c4 c5))))))))))))) ?_
        have e : wtTo y n ps (k + 1) = wtTo y n ps k := by
          rw [wtTo, wfac, hc, hd, if_neg (c := false = true) (by simp), if_neg (c := false = true) (by simp), Rat.mul_one, Rat.mul_one]
        rw [← e]
        exact aw_stop ⟨k + 1, by omega, (zB (oj hn_g2 (oj hn_g4 (oj e0 (oj e24 (oj b1 (oj b2 (oj hn_g9 (oj hn_g10 (oj hn_g12 (oj c1 (oj c2 (oj c3 (oj c4 c5)))))))))))))), List.Sublist.cons _ (List.Sublist.refl _), by omega⟩
  · have hin : k = ps.length := by have := of_decide_eq_false hb; omega
    subst hin
    refine yG (oj hn_g2 (oj hn_g4 (oj e0 (oj e24 (oj b1 (oj b2 (oj hn_g9 hn_g10))))))) ?_
    refine yW (oj hn_g2 (oj hn_g4 (oj e0 (oj e24 (oj b1 (oj b2 (oj hn_g9 hn_g10))))))) ?_
    refine yS (oj hn_g2 (oj hn_g4 (oj e0 (oj e24 (oj b1 (oj b2 (oj hn_g9 hn_g10))))))) ?_
    refine yG (oj hn_g2 (oj hn_g4 (oj e0 (oj e24 (oj b1 (oj b2 (oj hn_g9 hn_g10))))))) ?_
    refine yT hC (oj hn_g2 (oj hn_g4 (oj e0 (oj e24 (oj b1 (oj b2 (oj hn_g9 hn_g10))))))) ?_
    exact .tup ⟨.agg lerl_rd, .c (ler_err0 rfl), trivial⟩
end Go.Proofs.YtmfmnmkipjpjhaaGreat

/- shannon.Given. -/
namespace Go.PN
open Go.AI
/-- The probabilities when the first k events have been looked at. -/
def mixL (y n : Nat) (ps : List RD) (k : Nat) : List RD := condL y n ps k ++ ps.drop k
theorem mix_len {y n : Nat} {ps : List RD} {k : Nat} (h : k ≤ ps.length) : (mixL y n ps k).length = ps.length := by
  unfold mixL; rw [List.length_append, condL_len, List.length_drop]; omega
theorem mix_step {y n : Nat} {ps : List RD} {k : Nat} (h : k < ps.length) : mixL y n ps (k + 1) = (mixL y n ps k).set k (condR y n k (ps.getD k rd0)) := by
  unfold mixL
  rw [condL, List.drop_eq_getElem_cons h, List.set_append_right _ _ (by rw [condL_len]; exact Nat.le_refl _), condL_len, Nat.sub_self, List.set_cons_zero, List.append_assoc]
  rfl
theorem mix_same {y n : Nat} {ps : List RD} {k : Nat} (h : k < ps.length) (hy : y.testBit k = false) (hn : n.testBit k = false) : mixL y n ps (k + 1) = mixL y n ps k := by
  unfold mixL
  rw [condL, List.drop_eq_getElem_cons h]
  unfold condR
  rw [if_neg (by simp [hy]), if_neg (by simp [hn]), List.getD_eq_getElem?_getD, List.getElem?_eq_getElem h]
  simp
theorem mix_end {y n : Nat} {ps : List RD} : mixL y n ps ps.length = condL y n ps ps.length := by
  unfold mixL; rw [List.drop_length, List.append_nil]
noncomputable def gvcode (d : DG) (p : List RD) (y n : Int) : Int := if dpcode d p ≠ 0 then dpcode d p else gcode p y n
noncomputable def gvR (d : DG) (p : List RD) (y n : Int) : RD := if gvcode d p y n = 0 then rd (sumQ (condL y.toNat n.toNat p p.length) (tabL d) (2 ^ p.length)) else rd0
theorem ratsF_upd {xs : List RD} {i : Nat} {v : RD} (hi : i < xs.length) : updF (ratsF xs) (i * 3) [CV.bool v.neg, ws true v.num, ws true v.den] = ratsF (xs.set i v) := lf_upd (c := fun r : RD => [CV.bool r.neg, ws true r.num, ws true r.den]) hi rfl (by omega)
end Go.PN
namespace Go.Proofs.YtmfmnmkipjpjhaaGreat
open Go.AI Go.PN
attribute [local irreducible] aw Fa Fh DrK
set_option maxRecDepth 100000 in
set_option maxHeartbeats 3200000 in
theorem sgiven_fa (d : DG) (p : List RD) (y n : Int) (hs : Small d p) : Fa Tryz.prog 21 [.agg (dgc false d), .c (rats false p), .agg [.int .i64 y, .int .i64 n]] (.tup [.agg (rdc (gvR d p y n)), .c (errA (gvcode d p y n))]) := by
  have s1 := hs.l
  have s2 := hs.o
  have s3 := hs.n
  have hbad : gvcode d p y n ≠ 0 → gvR d p y n = rd0 := fun h => by unfold gvR; rw [if_neg h]
  refine fa_of_body Tryz.func21 rfl rfl (by simp [Tryz.ntmps21]) fun C hC => ?_
  simp only [initS, Nat.reduceAdd]
  refine xG ?_
  refine xB fun g3 hn_g3=>?_
  refine yG hn_g3 ?_
  refine yB hn_g3 fun g5 hn_g5=>?_
  refine yG (oj hn_g3 hn_g5) ?_
  refine yA (oj hn_g3 hn_g5) fun g6 hn_g6=>?_
  refine yG (oj hn_g3 (oj hn_g5 hn_g6)) ?_
  refine yC (oj hn_g3 (oj hn_g5 hn_g6)) (scheckD_fa d p hs.w5 ?_ ?_ ?_) ?_
  · omega
  · omega
  · omega
  refine yG (oj hn_g3 (oj hn_g5 hn_g6)) ?_
  refine yF (oj hn_g3 (oj hn_g5 hn_g6)) (fun hb=>?_) fun hb=>?_
  · have hb' : dpcode d p ≠ 0 := by simpa using hb
    have hcode : gvcode d p y n = dpcode d p := by unfold gvcode; rw [if_pos hb']
    rw [hbad (by rw [hcode]; exact hb'), hcode]
    refine yG (oj hn_g3 (oj hn_g5 hn_g6)) ?_
    refine yW (oj hn_g3 (oj hn_g5 hn_g6)) ?_
    refine yS (oj hn_g3 (oj hn_g5 hn_g6)) ?_
    refine yG (oj hn_g3 (oj hn_g5 hn_g6)) ?_
    refine yT hC (oj hn_g3 (oj hn_g5 hn_g6)) ?_
    exact .tup ⟨.agg ⟨.bool _, .nils, .nils, trivial⟩, .c ler_err, trivial⟩
  · have hb' : dpcode d p = 0 := by simpa using hb
    obtain ⟨ok, hpl, hpr⟩ := dp_ok hb'
    have h6 := hs.o6 hb'
    have hcode : gvcode d p y n = gcode p y n := by unfold gvcode; rw [if_neg (by simp [hb'])]
    refine yG (oj hn_g3 (oj hn_g5 hn_g6)) ?_
    refine yC (oj hn_g3 (oj hn_g5 hn_g6)) (ccheck_fa y n) ?_
    refine yG (oj hn_g3 (oj hn_g5 hn_g6)) ?_
    refine yF (oj hn_g3 (oj hn_g5 hn_g6)) (fun hc=>?_) fun hc=>?_
    · have hc' : ccode y n ≠ 0 := by simpa using hc
      have hcode2 : gcode p y n = ccode y n := by unfold gcode; rw [if_pos hc']
      rw [hbad (by rw [hcode, hcode2]; exact hc'), hcode, hcode2]
      refine yG (oj hn_g3 (oj hn_g5 hn_g6)) ?_
      refine yW (oj hn_g3 (oj hn_g5 hn_g6)) ?_
      refine yS (oj hn_g3 (oj hn_g5 hn_g6)) ?_
      refine yG (oj hn_g3 (oj hn_g5 hn_g6)) ?_
      refine yT hC (oj hn_g3 (oj hn_g5 hn_g6)) ?_
      exact .tup ⟨.agg ⟨.bool _, .nils, .nils, trivial⟩, .c ler_err, trivial⟩
    · have hc' : ccode y n = 0 := by simpa using hc
      obtain ⟨a, b, rfl, rfl, ha, hbb⟩ := ccode_nat hc'
      have hcode2 : gcode p a b = if (a ||| b) / 2 ^ p.length ≠ 0 then 10 else if wtTo a b p p.length = 0 then 8 else 0 := by
        unfold gcode; rw [if_neg (by simp [hc']), Int.toNat_natCast, Int.toNat_natCast]
      refine yG (oj hn_g3 (oj hn_g5 hn_g6)) ?_
      refine yC (oj hn_g3 (oj hn_g5 hn_g6)) (weight_fa a b p ha hbb hc' 4 ?_ ?_ hs.w ?_ hpr) ?_
      · omega
      · omega
      · omega
      refine yG (oj hn_g3 (oj hn_g5 hn_g6)) ?_
      refine yA (oj hn_g3 (oj hn_g5 hn_g6)) fun g10 hn_g10=>?_
      refine yG (oj hn_g3 (oj hn_g5 (oj hn_g6 hn_g10))) ?_
      refine yW (oj hn_g3 (oj hn_g5 (oj hn_g6 hn_g10))) ?_
      refine yS (oj hn_g3 (oj hn_g5 (oj hn_g6 hn_g10))) ?_
      refine yG (oj hn_g3 (oj hn_g5 (oj hn_g6 hn_g10))) ?_
      refine yF (oj hn_g3 (oj hn_g5 (oj hn_g6 hn_g10))) (fun hx=>?_) fun hx=>?_
      · have hx' : ¬ (a ||| b) / 2 ^ p.length = 0 := fun e => by rw [if_pos e] at hx; simp at hx
        rw [if_pos hx'] at hcode2
        rw [hbad (by rw [hcode, hcode2]; decide), hcode, hcode2]
        rw [if_neg hx', if_neg hx']
        refine yG (oj hn_g3 (oj hn_g5 (oj hn_g6 hn_g10))) ?_
        refine yW (oj hn_g3 (oj hn_g5 (oj hn_g6 hn_g10))) ?_
        refine yS (oj hn_g3 (oj hn_g5 (oj hn_g6 hn_g10))) ?_
        refine yG (oj hn_g3 (oj hn_g5 (oj hn_g6 hn_g10))) ?_
        refine yT hC (oj hn_g3 (oj hn_g5 (oj hn_g6 hn_g10))) ?_
        exact .tup ⟨.agg ⟨.bool _, .nils, .nils, trivial⟩, .c ler_err, trivial⟩
      · have hx' : (a ||| b) / 2 ^ p.length = 0 := Classical.byContradiction fun e => by rw [if_neg e] at hx; simp at hx
        rw [if_neg (by simp [hx'])] at hcode2
        rw [if_pos hx', if_pos hx']
        have hfw : fits (wtTo a b p p.length) 10000 := by
          refine fits_mono (fits_wt (L := 4) (by omega) hs.w _) ?_
          omega
        refine yG (oj hn_g3 (oj hn_g5 (oj hn_g6 hn_g10))) ?_
        refine yC (oj hn_g3 (oj hn_g5 (oj hn_g6 hn_g10))) (rsign_fa _ ?_) ?_
        · exact rd_wf (fits_mono hfw (by omega))
        rw [rd_q]
        refine yG (oj hn_g3 (oj hn_g5 (oj hn_g6 hn_g10))) ?_
        refine yF (oj hn_g3 (oj hn_g5 (oj hn_g6 hn_g10))) (fun hz=>?_) fun hz=>?_
        · rw [sgn0] at hz
          have hz' := of_decide_eq_true hz
          rw [if_pos hz'] at hcode2
          rw [hbad (by rw [hcode, hcode2]; decide), hcode, hcode2]
          refine yG (oj hn_g3 (oj hn_g5 (oj hn_g6 hn_g10))) ?_
          refine yW (oj hn_g3 (oj hn_g5 (oj hn_g6 hn_g10))) ?_
          refine yS (oj hn_g3 (oj hn_g5 (oj hn_g6 hn_g10))) ?_
          refine yG (oj hn_g3 (oj hn_g5 (oj hn_g6 hn_g10))) ?_
          refine yT hC (oj hn_g3 (oj hn_g5 (oj hn_g6 hn_g10))) ?_
          exact .tup ⟨.agg ⟨.bool _, .nils, .nils, trivial⟩, .c (ler_errN rfl (by omega)), trivial⟩
        · rw [sgn0] at hz
          have hz' := of_decide_eq_false hz
          rw [if_neg hz'] at hcode2
          have hgood : gvR d p a b = rd (sumQ (condL a b p p.length) (tabL d) (2 ^ p.length)) := by
            unfold gvR; rw [if_pos (by rw [hcode, hcode2]), Int.toNat_natCast, Int.toNat_natCast]
          rw [hgood, hcode, hcode2]
          refine yG (oj hn_g3 (oj hn_g5 (oj hn_g6 hn_g10))) ?_
          refine aw_callh (hr := [(g10, AObj.cells 35 3 (ofL (rdc (rd (wtTo a b p p.length))))), (g6, AObj.cells 35 3 (ofL [.bool false, .nils, .nils])), (g5, AObj.cells 57 2 (ofL [.int .i64 (a : Int), .int .i64 (b : Int)])), (g3, AObj.cells 31 3 (ofL (dgc false d)))]) (clone_fh p (by omega)) rfl rfl rfl (List.Perm.refl _) (zL (oj hn_g3 (oj hn_g5 (oj hn_g6 hn_g10)))) ?_
          rintro _ _ ⟨og, hog, rfl, rfl⟩ hk2
          have hgn : ∀ g, og = some g → g ∉ Heap.keys [(g10, AObj.cells 35 3 (ofL (rdc (rd (wtTo a b p p.length))))), (g6, AObj.cells 35 3 (ofL [.bool false, .nils, .nils])), (g5, AObj.cells 57 2 (ofL [.int .i64 (a : Int), .int .i64 (b : Int)])), (g3, AObj.cells 31 3 (ofL (dgc false d)))] := fun g e => by subst e; exact hk2 g (by simp [Heap.keys, gh])
          refine yS (oj hn_g3 (oj hn_g5 (oj hn_g6 hn_g10))) ?_
          refine aw_perm (List.perm_append_comm (l₂ := [(g10, AObj.cells 35 3 (ofL (rdc (rd (wtTo a b p p.length))))), (g6, AObj.cells 35 3 (ofL [.bool false, .nils, .nils])), (g5, AObj.cells 57 2 (ofL [.int .i64 (a : Int), .int .i64 (b : Int)])), (g3, AObj.cells 31 3 (ofL (dgc false d)))])) ?_
          have hlen := lenCV_gs (s := 3) hog
          (try simp only[go_sem, hn_g3, hn_g5, hn_g6, hn_g10, ↓hlen])
          repeat first|apply wa1|apply wa2|apply wa3|apply wa4|apply wa5 rfl|apply wa6|apply wa7|(refine wb1 rfl fun R r=>?_;simp only[go_sem, hn_g3, hn_g5, hn_g6, hn_g10, ↓hlen];with_reducible refine r _ _ ?_;clear r R)
          refine aw_lp (fun k : Nat => [(3, .c (.optr g3 0)), (5, .c (.optr g5 0)), (6, .c (.optr g6 0)), (12, .c (gs og 3 p.length)), (45, .c (.int .i64 p.length)), (46, .c (.int .i64 k))]) (fun k => [(g10, AObj.cells 35 3 (ofL (rdc (rd (wtTo a b p p.length))))), (g6, AObj.cells 35 3 (ofL [.bool false, .nils, .nils])), (g5, AObj.cells 57 2 (ofL [.int .i64 (a : Int), .int .i64 (b : Int)])), (g3, AObj.cells 31 3 (ofL (dgc false d)))] ++ gh og 35 (p.length * 3) (ratsF (mixL a b p k))) (fun k => k ≤ p.length) (fun k => p.length - k) 0 (by simp only[go_sem, hn_g3, hn_g5, hn_g6, hn_g10, ↓hlen]<;>and_intros<;>first|exact True.intro|(with_reducible rfl)|exact c_int (by omega)|rfl) (List.Sublist.refl _) (Nat.zero_le _) ?_
          rintro k hk
          have hml := mix_len (y := a) (n := b) hk
          repeat first|apply wa1|apply wa2|apply wa3|apply wa4|apply wa5 rfl|apply wa6|apply wa7|(refine wb1 rfl fun R r=>?_;simp only[go_sem, hn_g3, hn_g5, hn_g6, hn_g10, ↓hlen];with_reducible refine r _ _ ?_;clear r R)
          refine aw_cond (by simp only[go_sem, hn_g3, hn_g5, hn_g6, hn_g10, ↓hlen]<;>rfl) (fun h1 => ?_) (fun h1 => ?_)
          · have h1' : k < p.length := by have := of_decide_eq_true h1; omega
            obtain ⟨g, rfl⟩ : ∃ g, og = some g := by
              cases og with
              | none => have := hog rfl; omega
              | some g => exact ⟨g, rfl⟩
            have hg := hgn g rfl
            replace hg := Heap.ne_of hg
            dsimp only [Heap.ne] at hg
            have b1 := shrZ_nat a k (by omega)
            have b2 := and_one_nat (a / 2 ^ k) (Nat.lt_of_le_of_lt (Nat.div_le_self _ _) (by omega))
            have b3 := bit_eq a k
            have c1 := shrZ_nat b k (by omega)
            have c2 := and_one_nat (b / 2 ^ k) (Nat.lt_of_le_of_lt (Nat.div_le_self _ _) (by omega))
            have c3 := bit_eq b k
            dsimp only [gs, gh, List.cons_append, List.nil_append]
            repeat first|apply wa1|apply wa2|apply wa3|apply wa4|apply wa5 rfl|apply wa6|apply wa7|(refine wb1 rfl fun R r=>?_;simp only[go_sem, hn_g3, hn_g5, hn_g6, hn_g10, ↓hlen, hg, b1, b2, b3, c1, c2, c3];with_reducible refine r _ _ ?_;clear r R)
            refine aw_cond (by simp only[go_sem, hn_g3, hn_g5, hn_g6, hn_g10, ↓hlen, hg, b1, b2, b3, c1, c2, c3]<;>rfl) (fun h2 => ?_) (fun h2 => ?_)
            · repeat first|apply wa1|apply wa2|apply wa3|apply wa4|apply wa5 rfl|apply wa6|apply wa7|(refine wb1 rfl fun R r=>?_;simp only[go_sem, hn_g3, hn_g5, hn_g6, hn_g10, ↓hlen, hg, b1, b2, b3, c1, c2, c3];with_reducible refine r _ _ ?_;clear r R)
              refine aw_callq (rof_fa 1 ?_ ?_) rfl rfl rfl (by first|exact True.intro|simp only[go_sem, hn_g3, hn_g5, hn_g6, hn_g10, ↓hlen, hg, b1, b2, b3, c1, c2, c3]<;>and_intros<;>first|exact True.intro|exact .c (.refl _)|exact .c wl2|exact .agg (lel_refl _)|exact .agg (by simp only[LeL];and_intros<;>first|exact True.intro|exact .refl _|exact wl2)|exact .c .nils) ?_
              · omega
              · omega
              (try simp only[go_sem, hn_g3, hn_g5, hn_g6, hn_g10, ↓hlen, hg, b1, b2, b3, c1, c2, c3])
              repeat first|apply wa1|apply wa2|apply wa3|apply wa4|apply wa5 rfl|apply wa6|apply wa7|(refine wb1 rfl fun R r=>?_;simp only[go_sem, hn_g3, hn_g5, hn_g6, hn_g10, ↓hlen, hg, b1, b2, b3, c1, c2, c3];with_reducible refine r _ _ ?_;clear r R)
              refine aw_store rfl rfl rfl rfl (by simp only[go_sem, hn_g3, hn_g5, hn_g6, hn_g10, ↓hlen, hg, b1, b2, b3, c1, c2, c3]<;>rfl) (by simp only[go_sem, hn_g3, hn_g5, hn_g6, hn_g10, ↓hlen, hg, b1, b2, b3, c1, c2, c3]<;>rfl) (by simp only[go_sem, hn_g3, hn_g5, hn_g6, hn_g10, ↓hlen, hg, b1, b2, b3, c1, c2, c3]<;>rfl) (by simp only[go_sem, hn_g3, hn_g5, hn_g6, hn_g10, ↓hlen, hg, b1, b2, b3, c1, c2, c3]<;>rfl) (fun _ e => by cases e) (by rfl) (by rfl) (by first|omega|simp) rfl ?_
              (try simp only[go_sem, hn_g3, hn_g5, hn_g6, hn_g10, ↓hlen, hg, b1, b2, b3, c1, c2, c3])
              rw [ratsF_upd (by omega)]
              have e := mix_step (y := a) (n := b) h1'
              rw [condR_cast, if_pos h2] at e
              rw [← e]
              repeat first|apply wa1|apply wa2|apply wa3|apply wa4|apply wa5 rfl|apply wa6|apply wa7|(refine wb1 rfl fun R r=>?_;simp only[go_sem, hn_g3, hn_g5, hn_g6, hn_g10, ↓hlen, hg, b1, b2, b3, c1, c2, c3];with_reducible refine r _ _ ?_;clear r R)
              exact aw_stop ⟨k + 1, by omega, (by simp only[go_sem, hn_g3, hn_g5, hn_g6, hn_g10, ↓hlen, hg, b1, b2, b3, c1, c2, c3]<;>and_intros<;>first|exact True.intro|(with_reducible rfl)|exact c_int (by omega)|rfl), (List.Sublist.refl _), by omega⟩
            · repeat first|apply wa1|apply wa2|apply wa3|apply wa4|apply wa5 rfl|apply wa6|apply wa7|(refine wb1 rfl fun R r=>?_;simp only[go_sem, hn_g3, hn_g5, hn_g6, hn_g10, ↓hlen, hg, b1, b2, b3, c1, c2, c3];with_reducible refine r _ _ ?_;clear r R)
              refine aw_cond (by simp only[go_sem, hn_g3, hn_g5, hn_g6, hn_g10, ↓hlen, hg, b1, b2, b3, c1, c2, c3]<;>rfl) (fun h3 => ?_) (fun h3 => ?_)
              · repeat first|apply wa1|apply wa2|apply wa3|apply wa4|apply wa5 rfl|apply wa6|apply wa7|(refine wb1 rfl fun R r=>?_;simp only[go_sem, hn_g3, hn_g5, hn_g6, hn_g10, ↓hlen, hg, b1, b2, b3, c1, c2, c3];with_reducible refine r _ _ ?_;clear r R)
                refine aw_conv (t := 69) (v := .agg (rdc rd0)) (by (try simp only[go_sem, hn_g3, hn_g5, hn_g6, hn_g10, ↓hlen, hg, b1, b2, b3, c1, c2, c3]); exact zero_agg) rfl ?_
                (try simp only[go_sem, hn_g3, hn_g5, hn_g6, hn_g10, ↓hlen, hg, b1, b2, b3, c1, c2, c3])
                refine aw_store rfl rfl rfl rfl (by simp only[go_sem, hn_g3, hn_g5, hn_g6, hn_g10, ↓hlen, hg, b1, b2, b3, c1, c2, c3]<;>rfl) (by simp only[go_sem, hn_g3, hn_g5, hn_g6, hn_g10, ↓hlen, hg, b1, b2, b3, c1, c2, c3]<;>rfl) (by simp only[go_sem, hn_g3, hn_g5, hn_g6, hn_g10, ↓hlen, hg, b1, b2, b3, c1, c2, c3]<;>rfl) (by simp only[go_sem, hn_g3, hn_g5, hn_g6, hn_g10, ↓hlen, hg, b1, b2, b3, c1, c2, c3]<;>rfl) (fun _ e => by cases e) (by rfl) (by rfl) (by first|omega|simp) rfl ?_
                (try simp only[go_sem, hn_g3, hn_g5, hn_g6, hn_g10, ↓hlen, hg, b1, b2, b3, c1, c2, c3])
                rw [ratsF_upd (by omega)]
                have e := mix_step (y := a) (n := b) h1'
                rw [condR_cast, if_neg (by simp [h2]), if_pos h3] at e
                rw [← e]
                repeat first|apply wa1|apply wa2|apply wa3|apply wa4|apply wa5 rfl|apply wa6|apply wa7|(refine wb1 rfl fun R r=>?_;simp only[go_sem, hn_g3, hn_g5, hn_g6, hn_g10, ↓hlen, hg, b1, b2, b3, c1, c2, c3];with_reducible refine r _ _ ?_;clear r R)
                exact aw_stop ⟨k + 1, by omega, (by simp only[go_sem, hn_g3, hn_g5, hn_g6, hn_g10, ↓hlen, hg, b1, b2, b3, c1, c2, c3]<;>and_intros<;>first|exact True.intro|(with_reducible rfl)|exact c_int (by omega)|rfl), (List.Sublist.refl _), by omega⟩
              · repeat first|apply wa1|apply wa2|apply wa3|apply wa4|apply wa5 rfl|apply wa6|apply wa7|(refine wb1 rfl fun R r=>?_;simp only[go_sem, hn_g3, hn_g5, hn_g6, hn_g10, ↓hlen, hg, b1, b2, b3, c1, c2, c3];with_reducible refine r _ _ ?_;clear r R)
                rw [← mix_same h1' h2 h3]
                exact aw_stop ⟨k + 1, by omega, (by simp only[go_sem, hn_g3, hn_g5, hn_g6, hn_g10, ↓hlen, hg, b1, b2, b3, c1, c2, c3]<;>and_intros<;>first|exact True.intro|(with_reducible rfl)|exact c_int (by omega)|rfl), (List.Sublist.refl _), by omega⟩
          · have h1' : k = p.length := by have := of_decide_eq_false h1; omega
            subst h1'
            rw [mix_end]
            have k0 := condL_len a b p p.length
            have k1 := ok.n4096
            have k2 := ok.r1
            have k3 := vlen (ps := condL a b p p.length) (ns := d.nodes)
            have hcl := plain_law ok (ps := condL a b p p.length) (by omega)
            rw [k0] at hcl
            rw [← hcl]
            repeat first|apply wa1|apply wa2|apply wa3|apply wa4|apply wa5 rfl|apply wa6|apply wa7|(refine wb1 rfl fun R r=>?_;simp only[go_sem, hn_g3, hn_g5, hn_g6, hn_g10, ↓hlen];with_reducible refine r _ _ ?_;clear r R)
            refine aw_dr 6 ty_mixed (by kernel_rfl) ?_
            repeat first|apply wa1|apply wa2|apply wa3|apply wa4|apply wa5 rfl|apply wa6|apply wa7|(refine wb1 rfl fun R r=>?_;simp only[go_sem, hn_g3, hn_g5, hn_g6, hn_g10, ↓hlen];with_reducible refine r _ _ ?_;clear r R)|apply wa8|(refine wd1 rfl fun R r=>?_;simp only[go_sem, hn_g3, hn_g5, hn_g6, hn_g10, ↓hlen];with_reducible refine r _ _ ?_;clear r R)
            refine drk_call (values_fa d (condL a b p p.length) 1000 (by omega) (by omega) (fun r hr => wf_mono (condL_wf (L := 4) (by omega) hs.w _ r hr) (by omega)) (vals_wf ok (by omega) (L := 4) (by omega) (condL_wf (by omega) hs.w _) (Bl46 h6)) (ns_len ok (by omega)) (by omega)) rfl rfl rfl (by (try simp only[go_sem, hn_g3, hn_g5, hn_g6, hn_g10, ↓hlen]); exact ⟨.agg (lel_refl _), .c (le_gsr (pre := [(g10, _), (g6, _), (g5, _), (g3, _)]) hog hgn k0)⟩) ?_
            (try simp only[go_sem, hn_g3, hn_g5, hn_g6, hn_g10, ↓hlen])
            repeat first|apply wa1|apply wa2|apply wa3|apply wa4|apply wa5 rfl|apply wa6|apply wa7|(refine wb1 rfl fun R r=>?_;simp only[go_sem, hn_g3, hn_g5, hn_g6, hn_g10, ↓hlen];with_reducible refine r _ _ ?_;clear r R)|apply wa8|(refine wd1 rfl fun R r=>?_;simp only[go_sem, hn_g3, hn_g5, hn_g6, hn_g10, ↓hlen];with_reducible refine r _ _ ?_;clear r R)
            refine drk_call (of_fa' (valsL (condL a b p p.length) d.nodes []) d.root ok.r0 ?_ ?_) rfl rfl rfl (by first|exact True.intro|simp only[go_sem, hn_g3, hn_g5, hn_g6, hn_g10, ↓hlen]<;>and_intros<;>first|exact True.intro|exact .c (.refl _)|exact .c wl2|exact .agg (lel_refl _)|exact .agg (by simp only[LeL];and_intros<;>first|exact True.intro|exact .refl _|exact wl2)|exact .c .nils) ?_
            · omega
            · omega
            (try simp only[go_sem, hn_g3, hn_g5, hn_g6, hn_g10, ↓hlen])
            repeat first|apply wa1|apply wa2|apply wa3|apply wa4|apply wa5 rfl|apply wa6|apply wa7|(refine wb1 rfl fun R r=>?_;simp only[go_sem, hn_g3, hn_g5, hn_g6, hn_g10, ↓hlen];with_reducible refine r _ _ ?_;clear r R)|apply wa8|(refine wd1 rfl fun R r=>?_;simp only[go_sem, hn_g3, hn_g5, hn_g6, hn_g10, ↓hlen];with_reducible refine r _ _ ?_;clear r R)
            refine aw_store rfl rfl rfl rfl (by simp only[go_sem, hn_g3, hn_g5, hn_g6, hn_g10, ↓hlen]<;>rfl) (by simp only[go_sem, hn_g3, hn_g5, hn_g6, hn_g10, ↓hlen]<;>rfl) (by simp only[go_sem, hn_g3, hn_g5, hn_g6, hn_g10, ↓hlen]<;>rfl) (by simp only[go_sem, hn_g3, hn_g5, hn_g6, hn_g10, ↓hlen]<;>rfl) (fun _ e => by cases e) (by rfl) (by rfl) (by first|omega|simp) rfl ?_
            (try simp only[go_sem, hn_g3, hn_g5, hn_g6, hn_g10, ↓hlen])
            repeat first|apply wa1|apply wa2|apply wa3|apply wa4|apply wa5 rfl|apply wa6|apply wa7|(refine wb1 rfl fun R r=>?_;simp only[go_sem, hn_g3, hn_g5, hn_g6, hn_g10, ↓hlen];with_reducible refine r _ _ ?_;clear r R)|apply wa8|(refine wd1 rfl fun R r=>?_;simp only[go_sem, hn_g3, hn_g5, hn_g6, hn_g10, ↓hlen];with_reducible refine r _ _ ?_;clear r R)
            (refine aw_retq hC rfl fun R r=>?_;simp only[go_sem, hn_g3, hn_g5, hn_g6, hn_g10, ↓hlen];refine r _ rfl ?_;clear r R)
            exact .tup ⟨.agg lerl_rd, .c (ler_err0 rfl), trivial⟩
end Go.Proofs.YtmfmnmkipjpjhaaGreat
