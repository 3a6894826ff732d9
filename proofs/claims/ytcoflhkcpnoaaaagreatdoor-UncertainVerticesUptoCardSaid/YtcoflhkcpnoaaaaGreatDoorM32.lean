/- Blocks of one proof, laid one behind the other by a program (merge2.py). -/
import Derived.Test.YtcoflhkcpnoaaaaGreatDoorM26
import Derived.Test.YtcoflhkcpnoaaaaGreatDoorM30
set_option linter.unusedSimpArgs false
set_option linter.unusedVariables false
namespace Go.Proofs.YtcoflhkcpnoaaaaGreatDoor
open Go.AI Go.PN
attribute [local irreducible] aw Fa Fh DrK
set_option maxHeartbeats 400000 in
theorem num_fa (c : Int) : Fa Tryz.prog 11 [.c (errA c)] (.c (.int .i64 c)) := by
  by_cases h : c = 0
  · have e : errA c = .nilI := by unfold errA errC; rw [if_pos h]
    rw [e]
    refine fa_of_body Tryz.func11 rfl rfl (by simp [Tryz.ntmps11]) fun C hC => ?_
    simp only [initS, Nat.reduceAdd]
    refine xG ?_
    refine xP ?_
    refine xG ?_
    refine xT hC ?_
    exact .one (.c (ler_int h.symm))
  · have e : errA c = .ifc 53 (.int .i64 c) := by unfold errA errC; rw [if_neg h]
    rw [e]
    refine fa_of_body Tryz.func11 rfl rfl (by simp [Tryz.ntmps11]) fun C hC => ?_
    simp only [initS, Nat.reduceAdd]
    refine xG ?_
    refine xN ?_
    refine xG ?_
    refine xP ?_
    refine xG ?_
    refine xT hC ?_
    exact .one (.c (.int _ _))
theorem list_ext {xs ys : List Nat} (hl : xs.length = ys.length) (h : ∀ j, j < xs.length → xs.getD j 0 = ys.getD j 0) : xs = ys := by
  apply List.ext_getElem hl
  intro i h1 h2
  have := h i h1
  rw [List.getD_eq_getElem?_getD, List.getD_eq_getElem?_getD, List.getElem?_eq_getElem h1, List.getElem?_eq_getElem h2] at this
  exact this
set_option maxHeartbeats 800000 in
theorem words_fa (xs ys : List Nat) (hl : xs.length ≤ 68719476736) : Fa Tryz.prog 43 [.c (ws false xs), .c (ws false ys)] (.c (.bool (decide (xs = ys)))) := by
  refine fa_of_body Tryz.func43 rfl rfl (by simp [Tryz.ntmps43]) fun C hC => ?_
  simp only [initS, Nat.reduceAdd]
  refine xG ?_
  refine xF (fun hb=>?_) fun hb=>?_
  · refine xG ?_
    refine xT hC ?_
    refine .one (.c (ler_bool ?_))
    have : xs ≠ ys := fun e => by rw [e] at hb; simp at hb
    simp [this]
  · have hlen : xs.length = ys.length := by
      have : ((xs.length : Int) == (ys.length : Int)) = true := by simpa [bne] using hb
      have := eq_of_beq this; omega
    refine xG ?_
    refine aw_lp (fun i : Nat => [(0, .c (ws false xs)), (1, .c (ws false ys)), (12, .c (.int .i64 xs.length)), (13, .c (.int .i64 i))]) (fun _ => []) (fun i => i ≤ xs.length ∧ ∀ j, j < i → xs.getD j 0 = ys.getD j 0) (fun i => xs.length - i) 0 eB zZ ⟨Nat.zero_le _, fun j hj => by omega⟩ ?_
    rintro i ⟨hi, hs⟩
    refine xG ?_
    refine xF (fun hb=>?_) fun hb=>?_
    · have hin : i < xs.length := by have := of_decide_eq_true hb; omega
      refine xG ?_
      refine aw_dr 9 ty_mixed (by kernel_rfl) ?_
      refine xG ?_
      refine xF (fun hc=>?_) fun hc=>?_
      · refine xG ?_
        refine xT hC ?_
        refine .one (.c (ler_bool ?_))
        have : xs ≠ ys := fun e => by rw [e] at hc; simp at hc
        simp [this]
      · have he : xs.getD i 0 = ys.getD i 0 := by
          have : (((xs.getD i 0 : Nat) : Int) == ((ys.getD i 0 : Nat) : Int)) = true := by simpa [bne] using hc
          have := eq_of_beq this; omega
        refine xG ?_
        refine aw_stop ⟨i + 1, by omega, eB, zZ, by omega, fun j hj => ?_⟩
        by_cases hji : j = i
        · rw [hji]; exact he
        · exact hs j (by omega)
    · have hin : i = xs.length := by have := of_decide_eq_false hb; omega
      subst hin
      refine xG ?_
      refine xT hC ?_
      refine .one (.c (ler_bool ?_))
      have : xs = ys := list_ext hlen hs
      simp [this]
set_option maxHeartbeats 800000 in
theorem ratEq_fa (a b : RD) (hw : a.wf 68719476736) : Fa Tryz.prog 14 [.agg (rdc a), .agg (rdc b)] (.c (.bool (decide (a = b)))) := by
  have he : decide (a = b) = (decide (a.neg = b.neg) && (decide (a.num = b.num) && decide (a.den = b.den))) := by
    rw [Bool.eq_iff_iff]
    simp only [decide_eq_true_eq, Bool.and_eq_true]
    cases a; cases b; simp
  rw [he]
  refine fa_of_body Tryz.func14 rfl rfl (by simp [Tryz.ntmps14]) fun C hC => ?_
  simp only [initS, Nat.reduceAdd]
  refine xG ?_
  refine xB fun g2 hn_g2=>?_
  refine yB hn_g2 fun g3 hn_g3=>?_
  refine yG (oj hn_g2 hn_g3) ?_
  refine aw_split 10 (zE (oj hn_g2 hn_g3)) (fun h1 => ?_) (fun h1 => ?_) <;> refine yS (oj hn_g2 hn_g3) ?_
  · have h1' : a.neg = b.neg := eq_of_beq h1
    refine yG (oj hn_g2 hn_g3) ?_
    refine yC (oj hn_g2 hn_g3) (words_fa _ _ hw.2.2.1) ?_
    refine yG (oj hn_g2 hn_g3) ?_
    refine aw_split 17 (zE (oj hn_g2 hn_g3)) (fun h2 => ?_) (fun h2 => ?_) <;> refine yS (oj hn_g2 hn_g3) ?_
    · refine yG (oj hn_g2 hn_g3) ?_
      refine yC (oj hn_g2 hn_g3) (words_fa _ _ hw.2.2.2) ?_
      refine yG (oj hn_g2 hn_g3) ?_
      refine yT hC (oj hn_g2 hn_g3) ?_
      exact .one (.c (ler_bool (by rw [h2, h1']; simp)))
    · refine yG (oj hn_g2 hn_g3) ?_
      refine yT hC (oj hn_g2 hn_g3) ?_
      exact .one (.c (ler_bool (by rw [h2]; simp)))
  · have h1' : a.neg ≠ b.neg := fun e => by rw [e] at h1; simp at h1
    refine yG (oj hn_g2 hn_g3) ?_
    refine yT hC (oj hn_g2 hn_g3) ?_
    exact .one (.c (ler_bool (by simp [h1'])))
end Go.Proofs.YtcoflhkcpnoaaaaGreatDoor
namespace Go.Proofs.YtcoflhkcpnoaaaaGreatDoor
open Go.AI Go.PN
attribute [local irreducible] aw Fa Fh DrK
set_option maxHeartbeats 1600000 in
theorem weightR_fa (y n : Nat) (ps : List RD) (hy : y < 9223372036854775808) (hn : n < 9223372036854775808) (L : Nat) (hL : 1 ≤ L) (hL2 : L ≤ 1000000) (hp : ∀ r ∈ ps, r.wf L) (hl : ps.length ≤ 64) :
    Fa Tryz.prog 150 [.agg [.int .i64 y, .int .i64 n], .c (rats false ps)] (.agg (rdc (rd (wtTo y n ps ps.length)))) := by
  refine fa_of_body Tryz.func150 rfl rfl (by simp [Tryz.ntmps150]) fun C hC => ?_
  simp only [initS, Nat.reduceAdd]
  refine xG ?_
  refine xB fun g2 hn_g2=>?_
  refine yA hn_g2 fun g4 hn_g4=>?_
  refine yG (oj hn_g2 hn_g4) ?_
  refine yC (oj hn_g2 hn_g4) (sof_fa 1 ?_ ?_) ?_
  · omega
  · omega
  refine yA (oj hn_g2 hn_g4) fun g5 hn_g5=>?_
  refine yG (oj hn_g2 (oj hn_g4 hn_g5)) ?_
  refine yW (oj hn_g2 (oj hn_g4 hn_g5)) ?_
  refine yS (oj hn_g2 (oj hn_g4 hn_g5)) ?_
  refine yG (oj hn_g2 (oj hn_g4 hn_g5)) ?_
  refine aw_lp (fun k : Nat => [(1, .c (rats false ps)), (2, .c (.optr g2 0)), (4, .c (.optr g4 0)), (5, .c (.optr g5 0)), (6, .c (.int .i64 k))]) (fun k => [(g5, .cells 30 3 (ofL (rdc (rd (wtTo y n ps k))))), (g4, .cells 30 3 (ofL [.bool false, .nils, .nils])), (g2, .cells 181 2 (ofL [.int .i64 (y : Int), .int .i64 (n : Int)]))])
    (fun k => k ≤ ps.length) (fun k => ps.length - k) 0 (zB (oj hn_g2 (oj hn_g4 hn_g5))) zZ (Nat.zero_le _) ?_
  rintro k hk
  have hfk := fits_wt (y := y) (n := n) hL hp k
  have hbk : (2 * L + 2) * k + 1 ≤ 200000000 := by
    have := Nat.mul_le_mul (show 2 * L + 2 ≤ 2000002 from by omega) (show k ≤ 64 from by omega)
    omega
  refine yG (oj hn_g2 (oj hn_g4 hn_g5)) ?_
  refine yF (oj hn_g2 (oj hn_g4 hn_g5)) (fun hb=>?_) fun hb=>?_
  · have hin : k < ps.length := by have := of_decide_eq_true hb; omega
    have hpk := getD_wf hp k
    have hwk : (rd (wtTo y n ps k)).wf 1073741824 := rd_wf (fits_mono hfk (by omega))
    apply aw_skip
    apply aw_seq
    apply aw_block
    apply aw_seq
    have b1 := shrZ_nat y k (by omega)
    have b2 := and_one_nat (y / 2 ^ k) (Nat.lt_of_le_of_lt (Nat.div_le_self _ _) hy)
    have b3 := bit_eq y k
    have c1 := shrZ_nat n k (by omega)
    have c2 := and_one_nat (n / 2 ^ k) (Nat.lt_of_le_of_lt (Nat.div_le_self _ _) hn)
    have c3 := bit_eq n k
    refine aw_cut (fun q : Rat => [(1, .c (rats false ps)), (2, .c (.optr g2 0)), (4, .c (.optr g4 0)), (5, .c (.optr g5 0)), (6, .c (.int .i64 k))]) (fun q => [(g5, .cells 30 3 (ofL (rdc (rd q)))), (g4, .cells 30 3 (ofL [.bool false, .nils, .nils])), (g2, .cells 181 2 (ofL [.int .i64 (y : Int), .int .i64 (n : Int)]))])
      (fun q => q = wtTo y n ps k * (if y.testBit k then (ps.getD k rd0).q else 1)) ?_ ?_
    · refine yG (oj hn_g2 (oj hn_g4 (oj hn_g5 (oj b1 (oj b2 (oj b3 (oj c1 (oj c2 c3)))))))) ?_
      refine yF (oj hn_g2 (oj hn_g4 (oj hn_g5 (oj b1 (oj b2 (oj b3 (oj c1 (oj c2 c3)))))))) (fun hc=>?_) fun hc=>?_
      · refine yG (oj hn_g2 (oj hn_g4 (oj hn_g5 (oj b1 (oj b2 (oj b3 (oj c1 (oj c2 c3)))))))) ?_
        refine aw_dr 6 ty_mixed (by kernel_rfl) ?_
        refine yG (oj hn_g2 (oj hn_g4 (oj hn_g5 (oj b1 (oj b2 (oj b3 (oj c1 (oj c2 c3)))))))) ?_
        refine yD (oj hn_g2 (oj hn_g4 (oj hn_g5 (oj b1 (oj b2 (oj b3 (oj c1 (oj c2 c3)))))))) (smul_fa _ _ hwk ?_) ?_
        · exact wf_mono hpk (by omega)
        rw [rd_q]
        refine yG (oj hn_g2 (oj hn_g4 (oj hn_g5 (oj b1 (oj b2 (oj b3 (oj c1 (oj c2 c3)))))))) ?_
        refine yW (oj hn_g2 (oj hn_g4 (oj hn_g5 (oj b1 (oj b2 (oj b3 (oj c1 (oj c2 c3)))))))) ?_
        refine yS (oj hn_g2 (oj hn_g4 (oj hn_g5 (oj b1 (oj b2 (oj b3 (oj c1 (oj c2 c3)))))))) ?_
        refine yG (oj hn_g2 (oj hn_g4 (oj hn_g5 (oj b1 (oj b2 (oj b3 (oj c1 (oj c2 c3)))))))) ?_
        exact aw_stop ⟨_, (zB (oj hn_g2 (oj hn_g4 (oj hn_g5 (oj b1 (oj b2 (oj b3 (oj c1 (oj c2 c3))))))))), zZ, by rw [hc, if_pos rfl]⟩
      · refine yG (oj hn_g2 (oj hn_g4 (oj hn_g5 (oj b1 (oj b2 (oj b3 (oj c1 (oj c2 c3)))))))) ?_
        exact aw_stop ⟨_, (zB (oj hn_g2 (oj hn_g4 (oj hn_g5 (oj b1 (oj b2 (oj b3 (oj c1 (oj c2 c3))))))))), zZ, by rw [hc, if_neg (by simp), Rat.mul_one]⟩
    rintro q hq
    have hfq : fits q 300000000 := by
      rw [hq]
      refine fits_mono (fits_mul (M := L) hfk ?_) (by omega)
      split
      · exact RD.fits hpk hL
      · exact fits_mono fits_one hL
    refine yG (oj hn_g2 (oj hn_g4 (oj hn_g5 (oj b1 (oj b2 (oj b3 (oj c1 (oj c2 c3)))))))) ?_
    refine yF (oj hn_g2 (oj hn_g4 (oj hn_g5 (oj b1 (oj b2 (oj b3 (oj c1 (oj c2 c3)))))))) (fun hc=>?_) fun hc=>?_
    · refine yG (oj hn_g2 (oj hn_g4 (oj hn_g5 (oj b1 (oj b2 (oj b3 (oj c1 (oj c2 c3)))))))) ?_
      refine aw_dr 8 ty_mixed (by kernel_rfl) ?_
      refine yG (oj hn_g2 (oj hn_g4 (oj hn_g5 (oj b1 (oj b2 (oj b3 (oj c1 (oj c2 c3)))))))) ?_
      refine yD (oj hn_g2 (oj hn_g4 (oj hn_g5 (oj b1 (oj b2 (oj b3 (oj c1 (oj c2 c3)))))))) (sof_fa 1 ?_ ?_) ?_
      · omega
      · omega
      refine yG (oj hn_g2 (oj hn_g4 (oj hn_g5 (oj b1 (oj b2 (oj b3 (oj c1 (oj c2 c3)))))))) ?_
      refine yD (oj hn_g2 (oj hn_g4 (oj hn_g5 (oj b1 (oj b2 (oj b3 (oj c1 (oj c2 c3)))))))) (ssub_fa _ _ (one_wf' ?_) ?_) ?_
      · omega
      · exact wf_mono hpk (by omega)
      rw [rd_q, cast1]
      refine yG (oj hn_g2 (oj hn_g4 (oj hn_g5 (oj b1 (oj b2 (oj b3 (oj c1 (oj c2 c3)))))))) ?_
      refine yD (oj hn_g2 (oj hn_g4 (oj hn_g5 (oj b1 (oj b2 (oj b3 (oj c1 (oj c2 c3)))))))) (smul_fa _ _ ?_ ?_) ?_
      · exact rd_wf (fits_mono hfq (by omega))
      · exact rd_wf (fits_mono (fits_sub fits_one (RD.fits hpk hL)) (by omega))
      rw [rd_q, rd_q]
      refine yG (oj hn_g2 (oj hn_g4 (oj hn_g5 (oj b1 (oj b2 (oj b3 (oj c1 (oj c2 c3)))))))) ?_
      refine yW (oj hn_g2 (oj hn_g4 (oj hn_g5 (oj b1 (oj b2 (oj b3 (oj c1 (oj c2 c3)))))))) ?_
      refine yS (oj hn_g2 (oj hn_g4 (oj hn_g5 (oj b1 (oj b2 (oj b3 (oj c1 (oj c2 c3)))))))) ?_
      refine yG (oj hn_g2 (oj hn_g4 (oj hn_g5 (oj b1 (oj b2 (oj b3 (oj c1 (oj c2 c3)))))))) ?_
      have e : wtTo y n ps (k + 1) = q * (1 - (ps.getD k rd0).q) := by
        rw [wtTo, wfac, hc, if_pos rfl, ← Rat.mul_assoc, ← hq]
      rw [← e]
      exact aw_stop ⟨k + 1, by omega, (zB (oj hn_g2 (oj hn_g4 (oj hn_g5 (oj b1 (oj b2 (oj b3 (oj c1 (oj c2 c3))))))))), zZ, by omega⟩
    · refine yG (oj hn_g2 (oj hn_g4 (oj hn_g5 (oj b1 (oj b2 (oj b3 (oj c1 (oj c2 c3)))))))) ?_
      have e : wtTo y n ps (k + 1) = q := by
        rw [wtTo, wfac, hc, if_neg (c := false = true) (by simp), Rat.mul_one, ← hq]
      rw [← e]
      exact aw_stop ⟨k + 1, by omega, (zB (oj hn_g2 (oj hn_g4 (oj hn_g5 (oj b1 (oj b2 (oj b3 (oj c1 (oj c2 c3))))))))), zZ, by omega⟩
  · have hin : k = ps.length := by have := of_decide_eq_false hb; omega
    subst hin
    refine yG (oj hn_g2 (oj hn_g4 hn_g5)) ?_
    refine yW (oj hn_g2 (oj hn_g4 hn_g5)) ?_
    refine yS (oj hn_g2 (oj hn_g4 hn_g5)) ?_
    refine yG (oj hn_g2 (oj hn_g4 hn_g5)) ?_
    refine yT hC (oj hn_g2 (oj hn_g4 hn_g5)) ?_
    exact ler_rd rfl
end Go.Proofs.YtcoflhkcpnoaaaaGreatDoor
namespace Go.PN
open Go.AI
theorem pow_lt_63 {n : Nat} (h : n < 63) : 2 ^ n < 9223372036854775808 := by
  have h3 : 2 ^ n < 2 ^ 63 := Nat.pow_lt_pow_right (by omega) h
  have h4 : (2 : Nat) ^ 63 = 9223372036854775808 := by decide
  rw [h4] at h3; exact h3
end Go.PN
namespace Go.AI
theorem bs_push {zs : List Bool} {n : Nat} (hn : zs.length = n) (x : Bool) : ∀ j, j < (n + 1) * 1 → appF (bsF zs) (n * 1) (ofL [.bool x]) j = bsF (zs ++ [x]) j := fun j hj => by
  subst hn
  unfold appF
  by_cases h : j < zs.length * 1
  · rw [if_pos h]
    show CV.bool (zs.getD j false) = CV.bool ((zs ++ [x]).getD j false)
    rw [List.getD_eq_getElem?_getD, List.getD_eq_getElem?_getD, List.getElem?_append_left (by omega)]
  · have : j = zs.length := by omega
    subst this
    rw [if_neg h]
    show ofL [CV.bool x] (zs.length - zs.length * 1) = CV.bool ((zs ++ [x]).getD zs.length false)
    rw [Nat.mul_one, Nat.sub_self, List.getD_eq_getElem?_getD, List.getElem?_append_right (Nat.le_refl _), Nat.sub_self]
    rfl
theorem ler_gsb {pre : Heap} {og : Option Nat} {e n : Nat} {t : Bool} {zs : List Bool} (hog : og = none → n = 0) (hn : ∀ g, og = some g → g ∉ pre.keys) (hl : zs.length = n) : LeR (pre ++ gh og e n (bsF zs)) (gs og 1 n) (bs t zs) := by
  subst hl
  have := ler_gs (pre := pre) (og := og) (e := e) (s := 1) (n := zs.length) (t := t) (f := bsF zs) (f' := bsF zs) hog hn (fun j _ => .bool _)
  simpa only [Nat.mul_one] using this
end Go.AI
namespace Go.Proofs.YtcoflhkcpnoaaaaGreatDoor
open Go.AI Go.PN
attribute [local irreducible] aw Fa Fh DrK
set_option maxHeartbeats 800000 in
theorem state_fa (ps : List RD) (s : Nat) (hs : s < 2 ^ ps.length) (L : Nat) (hL : 1 ≤ L) (hL2 : L ≤ 1000000) (hp : ∀ r ∈ ps, r.wf L) (hl : ps.length ≤ 30) :
    Fa Tryz.prog 115 [.c (rats false ps), .c (.int .i64 s)] (.agg (rdc (rd (stQ ps s)))) := by
  have h63 := pow_lt_63 (n := ps.length) (by omega)
  have e1 := shl_one ps.length (by omega)
  have e2 : ((2 ^ ps.length : Nat) : Int) - 1 - (s : Int) = ((2 ^ ps.length - 1 - s : Nat) : Int) := by omega
  refine fa_of_body Tryz.func115 rfl rfl (by simp [Tryz.ntmps115]) fun C hC => ?_
  simp only [initS, Nat.reduceAdd]
  refine xG ?_
  refine xA fun g4 hn_g4=>?_
  refine yG (oj hn_g4 e1) ?_
  rw [e2]
  refine yC (oj hn_g4 e1) (weightR_fa s (2 ^ ps.length - 1 - s) ps ?_ ?_ L hL hL2 hp ?_) ?_
  · omega
  · omega
  · omega
  refine yG (oj hn_g4 e1) ?_
  refine yW (oj hn_g4 e1) ?_
  refine yS (oj hn_g4 e1) ?_
  refine yG (oj hn_g4 e1) ?_
  refine yT hC (oj hn_g4 e1) ?_
  exact ler_rd rfl
set_option maxHeartbeats 1600000 in
theorem table37_fa (tb : List Bool) (ps : List RD) (L : Nat) (hL : 1 ≤ L) (hL2 : L ≤ 1000) (hp : ∀ r ∈ ps, r.wf L) (hl : ps.length ≤ 12) (ht : tb.length = 2 ^ ps.length) :
    Fa Tryz.prog 70 [.c (bs false tb), .c (rats false ps)] (.agg (rdc (rd (sumQ ps tb tb.length)))) := by
  have hp12 : 2 ^ ps.length ≤ 4096 := by
    have h3 : 2 ^ ps.length ≤ 2 ^ 12 := Nat.pow_le_pow_right (by omega) hl
    have h4 : (2 : Nat) ^ 12 = 4096 := by decide
    omega
  refine fa_of_body Tryz.func70 rfl rfl (by simp [Tryz.ntmps70]) fun C hC => ?_
  simp only [initS, Nat.reduceAdd]
  refine xG ?_
  refine xA fun g4 hn_g4=>?_
  refine yG hn_g4 ?_
  refine yA hn_g4 fun g5 hn_g5=>?_
  refine yG (oj hn_g4 hn_g5) ?_
  refine yW (oj hn_g4 hn_g5) ?_
  refine yS (oj hn_g4 hn_g5) ?_
  refine yG (oj hn_g4 hn_g5) ?_
  refine aw_convR zero_rd ?_
  refine aw_lp (fun k : Nat => [(0, .c (bs false tb)), (1, .c (rats false ps)), (4, .c (.optr g4 0)), (5, .c (.optr g5 0)), (6, .c (.int .i64 k))]) (fun k => [(g5, .cells 30 3 (ofL (rdc (rd (sumQ ps tb k))))), (g4, .cells 30 3 (ofL [.bool false, .nils, .nils]))])
    (fun k => k ≤ tb.length) (fun k => tb.length - k) 0 (zB (oj hn_g4 hn_g5)) zZ (Nat.zero_le _) ?_
  rintro k hk
  have hfk := fits_sum (tb := tb) hL hp k
  have hbk : ((2 * L + 2) * ps.length + 2) * k + 1 ≤ 200000000 := by
    have h1 := Nat.mul_le_mul (show 2 * L + 2 ≤ 2002 from by omega) (show ps.length ≤ 12 from hl)
    have h2 := Nat.mul_le_mul (show (2 * L + 2) * ps.length + 2 ≤ 24026 from by omega) (show k ≤ 4096 from by omega)
    omega
  refine yG (oj hn_g4 hn_g5) ?_
  refine yF (oj hn_g4 hn_g5) (fun hb=>?_) fun hb=>?_
  · have hin : k < tb.length := by have := of_decide_eq_true hb; omega
    have hfs : fits (stQ ps k) 100000 := by
      refine fits_mono (fits_wt hL hp _) ?_
      have h1 := Nat.mul_le_mul (show 2 * L + 2 ≤ 2002 from by omega) (show ps.length ≤ 12 from hl)
      omega
    refine yG (oj hn_g4 hn_g5) ?_
    refine yF (oj hn_g4 hn_g5) (fun hc=>?_) fun hc=>?_
    · refine yG (oj hn_g4 hn_g5) ?_
      refine aw_dr 5 ty_mixed (by kernel_rfl) ?_
      refine yG (oj hn_g4 hn_g5) ?_
      refine yD (oj hn_g4 hn_g5) (state_fa ps k ?_ L hL ?_ hp ?_) ?_
      · omega
      · omega
      · omega
      refine yG (oj hn_g4 hn_g5) ?_
      refine yD (oj hn_g4 hn_g5) (sadd_fa _ _ ?_ ?_) ?_
      · exact rd_wf (fits_mono hfk (by omega))
      · exact rd_wf (fits_mono hfs (by omega))
      rw [rd_q, rd_q]
      refine yG (oj hn_g4 hn_g5) ?_
      refine yW (oj hn_g4 hn_g5) ?_
      refine yS (oj hn_g4 hn_g5) ?_
      refine yG (oj hn_g4 hn_g5) ?_
      have e : sumQ ps tb (k + 1) = sumQ ps tb k + stQ ps k := by rw [sumQ, if_pos hc]
      rw [← e]
      exact aw_stop ⟨k + 1, by omega, (zB (oj hn_g4 hn_g5)), zZ, by omega⟩
    · refine yG (oj hn_g4 hn_g5) ?_
      have e : sumQ ps tb (k + 1) = sumQ ps tb k := by rw [sumQ, if_neg (by rw [hc]; simp)]
      rw [← e]
      exact aw_stop ⟨k + 1, by omega, (zB (oj hn_g4 hn_g5)), zZ, by omega⟩
  · have hin : k = tb.length := by have := of_decide_eq_false hb; omega
    subst hin
    refine yG (oj hn_g4 hn_g5) ?_
    refine yW (oj hn_g4 hn_g5) ?_
    refine yS (oj hn_g4 hn_g5) ?_
    refine yG (oj hn_g4 hn_g5) ?_
    refine yT hC (oj hn_g4 hn_g5) ?_
    exact ler_rd rfl
end Go.Proofs.YtcoflhkcpnoaaaaGreatDoor
namespace Go.PN
open Go.AI
theorem le_oslbs {h : Heap} {g n : Nat} {ty : TypeId} {ys : List Bool} (hg : h.get g = some (.cells ty n (bsF ys))) (hn : n = ys.length) : LeC h (.osl g 1 0 n) (bs false ys) := by
  subst hn
  exact .osl hg (by omega) (fun j _ => by rw [Nat.zero_add]; exact .refl _)
theorem cnt_take {f : FM} {vs : List Bool} {s : Nat} {az : List Int} {j : Nat} (h : j < az.length) : cntB f vs s (az.take (j + 1)) = cntB f vs s (az.take j) + if ofB f vs s (az.getD j 0) then 1 else 0 := by
  unfold cntB
  rw [List.take_succ_eq_append_getElem h, List.filter_append, List.length_append, getDZ h]
  congr 1
  by_cases hb : ofB f vs s az[j] = true
  · simp [hb]
  · simp [hb]
theorem cnt_le {f : FM} {vs : List Bool} {s : Nat} {az : List Int} : cntB f vs s az ≤ az.length := List.length_filter_le _ _
end Go.PN
namespace Go.Proofs.YtcoflhkcpnoaaaaGreatDoor
open Go.AI Go.PN
attribute [local irreducible] aw Fa Fh DrK
set_option maxHeartbeats 800000 in
theorem fof_fa (f : FM) (hf : FmOk f) (vs : List Bool) (s : Nat) (a : Int) (hs : s < 9223372036854775808) (hv : vs.length = f.nodes.length) (h0 : 0 ≤ a) (h1 : a < f.vars + f.nodes.length) : Fa Tryz.prog 151 [.agg (fmc false f), .c (bs false vs), .c (.int .i64 s), .c (.int .i64 a)] (.c (.bool (ofB f vs s a))) := by
  have f1 := hf.v0
  have f2 := hf.v1
  have f3 := hf.n
  unfold ofB
  refine fa_of_body Tryz.func151 rfl rfl (by simp [Tryz.ntmps151]) fun C hC => ?_
  simp only [initS, Nat.reduceAdd]
  refine xG ?_
  refine xB fun g4 hn_g4=>?_
  refine yG hn_g4 ?_
  refine yF hn_g4 (fun hb=>?_) fun hb=>?_
  · have hb' := of_decide_eq_true hb
    obtain ⟨k, rfl⟩ : ∃ k : Nat, a = k := ⟨a.toNat, by omega⟩
    have b1 := shrZ_nat s k (by omega)
    have b2 := and_one_nat (s / 2 ^ k) (Nat.lt_of_le_of_lt (Nat.div_le_self _ _) hs)
    have b3 := bit_eq s k
    refine yG (oj hn_g4 (oj b1 (oj b2 b3))) ?_
    refine yT hC (oj hn_g4 (oj b1 (oj b2 b3))) ?_
    exact .one (.c (ler_bool (by rw [if_pos hb']; rfl)))
  · have hb' := of_decide_eq_false hb
    refine yG hn_g4 ?_
    refine yT hC hn_g4 ?_
    exact .one (.c (ler_bool (by rw [if_neg hb'])))
set_option maxRecDepth 100000 in
set_option maxHeartbeats 3200000 in
theorem fvalues_fa (f : FM) (hf : FmOk f) (s : Nat) (hs : s < 9223372036854775808) : Fa Tryz.prog 152 [.agg (fmc false f), .c (.int .i64 s)] (.c (bs true (fvTo f s f.nodes.length))) := by
  have f1 := hf.v0
  have f2 := hf.v1
  have f3 := hf.n
  refine fa_of_body Tryz.func152 rfl rfl (by simp [Tryz.ntmps152]) fun C hC => ?_
  simp only [initS, Nat.reduceAdd]
  refine xG ?_
  refine xB fun g2 hn_g2=>?_
  refine yG hn_g2 ?_
  refine aw_make (n := f.nodes.length) (c := f.nodes.length) (size := 1) (z := [.bool false]) rfl rfl rfl (zE hn_g2) (zE hn_g2) rfl (by omega) (zE hn_g2) (zE hn_g2) rfl rfl (by omega) (by omega) (by omega) fun g hn_g => ?_
  replace hn_g := Heap.ne_of hn_g
  dsimp only [Heap.ne] at hn_g
  rw [make_bs f.nodes.length]
  refine yS (oj hn_g2 hn_g) ?_
  refine yG (oj hn_g2 hn_g) ?_
  refine aw_lp (fun i : Nat => [(1, .c (.int .i64 s)), (2, .c (.optr g2 0)), (5, .c (.osl g 1 0 f.nodes.length)), (16, .c (fns false f.nodes)), (17, .c (.int .i64 f.nodes.length)), (18, .c (.int .i64 i))]) (fun i => [(g, .cells 4 f.nodes.length (bsF (fvTo f s i))), (g2, .cells 24 3 (ofL (fmc false f)))]) (fun i => i ≤ f.nodes.length) (fun i => f.nodes.length - i) 0 (zB (oj hn_g2 hn_g)) zZ (Nat.zero_le _) ?_
  rintro i hi
  have hvl := fvTo_len f s i
  refine yG (oj hn_g2 hn_g) ?_
  refine yF (oj hn_g2 hn_g) (fun h1=>?_) fun h1=>?_
  · have h1' : i < f.nodes.length := by have := of_decide_eq_true h1; omega
    obtain ⟨ha1, ha2⟩ := hf.a (f.nodes.getD i fn0) (by rw [getFN h1']; exact List.getElem_mem h1')
    refine yG (oj hn_g2 hn_g) ?_
    refine yA (oj hn_g2 hn_g) fun g7 hn_g7=>?_
    refine yG (oj hn_g2 (oj hn_g hn_g7)) ?_
    refine yW (oj hn_g2 (oj hn_g hn_g7)) ?_
    refine yS (oj hn_g2 (oj hn_g hn_g7)) ?_
    have hst : fvTo f s (i + 1) = (fvTo f s i).set i (nodeB f (fvTo f s i) s (f.nodes.getD i fn0)) := rfl
    generalize f.nodes.getD i fn0 = x at *
    generalize fvTo f s i = vs at *
    refine yG (oj hn_g2 (oj hn_g hn_g7)) ?_
    refine aw_lp (fun j : Nat => [(1, .c (.int .i64 s)), (2, .c (.optr g2 0)), (5, .c (.osl g 1 0 f.nodes.length)), (6, .c (.int .i64 i)), (7, .c (.optr g7 0)), (8, .c (.int .i64 (cntB f vs s (x.args.take j)))), (16, .c (fns false f.nodes)), (17, .c (.int .i64 f.nodes.length)), (18, .c (.int .i64 i)), (24, .c (is true x.args)), (25, .c (.int .i64 x.args.length)), (26, .c (.int .i64 j))]) (fun j => [(g7, .cells 63 3 (ofL [.int .i64 x.kind, .int .i64 x.k, is true x.args])), (g, .cells 4 f.nodes.length (bsF vs)), (g2, .cells 24 3 (ofL (fmc false f)))]) (fun j => j ≤ x.args.length) (fun j => x.args.length - j) 0 (zB (oj hn_g2 (oj hn_g hn_g7))) zZ (Nat.zero_le _) ?_
    rintro j hj
    have hc1 := cnt_le (f := f) (vs := vs) (s := s) (az := x.args.take j)
    rw [List.length_take] at hc1
    refine yG (oj hn_g2 (oj hn_g hn_g7)) ?_
    refine yF (oj hn_g2 (oj hn_g hn_g7)) (fun h2=>?_) fun h2=>?_
    · have h2' : j < x.args.length := by have := of_decide_eq_true h2; omega
      obtain ⟨y0, y1⟩ := ha2 (x.args.getD j 0) (by rw [getDZ h2']; exact List.getElem_mem h2')
      have hct := cnt_take (f := f) (vs := vs) (s := s) h2'
      refine yG (oj hn_g2 (oj hn_g hn_g7)) ?_
      refine aw_callq (fof_fa f hf vs s (x.args.getD j 0) hs hvl y0 y1) rfl rfl rfl (by refine yS (oj hn_g2 (oj hn_g hn_g7)) ?_; exact ⟨.agg (lel_refl _), .c (le_oslbs (zE (oj hn_g2 (oj hn_g hn_g7))) hvl.symm), .c (.refl _), .c (.refl _)⟩) ?_
      refine yS (oj hn_g2 (oj hn_g hn_g7)) ?_
      refine yG (oj hn_g2 (oj hn_g hn_g7)) ?_
      refine yF (oj hn_g2 (oj hn_g hn_g7)) (fun h3=>?_) fun h3=>?_
      · rw [h3, if_pos rfl] at hct
        refine yG (oj hn_g2 (oj hn_g hn_g7)) ?_
        exact aw_stop ⟨j + 1, by omega, (by rw [hct]; exact (zB (oj hn_g2 (oj hn_g hn_g7)))), zZ, by omega⟩
      · rw [h3, if_neg (by simp), Nat.add_zero] at hct
        refine yG (oj hn_g2 (oj hn_g hn_g7)) ?_
        exact aw_stop ⟨j + 1, by omega, (by rw [hct]; exact (zB (oj hn_g2 (oj hn_g hn_g7)))), zZ, by omega⟩
    · have h2' : j = x.args.length := by have := of_decide_eq_false h2; omega
      subst h2'
      rw [List.take_length]
      have hc2 := cnt_le (f := f) (vs := vs) (s := s) (az := x.args)
      refine yG (oj hn_g2 (oj hn_g hn_g7)) ?_
      refine yF (oj hn_g2 (oj hn_g hn_g7)) (fun k0=>?_) fun k0=>?_
      · refine yG (oj hn_g2 (oj hn_g hn_g7)) ?_
        refine yW (oj hn_g2 (oj hn_g hn_g7)) ?_
        refine yS (oj hn_g2 (oj hn_g hn_g7)) ?_
        rw [updF_bs (by omega)]
        refine yG (oj hn_g2 (oj hn_g hn_g7)) ?_
        exact aw_stop ⟨i + 1, by omega, (zB (oj hn_g2 (oj hn_g hn_g7))), List.Sublist.cons _ (by rw [hst, nodeB, if_pos k0]; exact zZ), by omega⟩
      · refine yG (oj hn_g2 (oj hn_g hn_g7)) ?_
        refine yF (oj hn_g2 (oj hn_g hn_g7)) (fun k1=>?_) fun k1=>?_
        · refine yG (oj hn_g2 (oj hn_g hn_g7)) ?_
          refine yW (oj hn_g2 (oj hn_g hn_g7)) ?_
          refine yS (oj hn_g2 (oj hn_g hn_g7)) ?_
          rw [updF_bs (by omega)]
          refine yG (oj hn_g2 (oj hn_g hn_g7)) ?_
          exact aw_stop ⟨i + 1, by omega, (zB (oj hn_g2 (oj hn_g hn_g7))), List.Sublist.cons _ (by rw [hst, nodeB, if_neg (by rw [k0]; simp), if_pos k1]; exact zZ), by omega⟩
        · refine yG (oj hn_g2 (oj hn_g hn_g7)) ?_
          refine yF (oj hn_g2 (oj hn_g hn_g7)) (fun k2=>?_) fun k2=>?_
          · refine yG (oj hn_g2 (oj hn_g hn_g7)) ?_
            refine yW (oj hn_g2 (oj hn_g hn_g7)) ?_
            refine yS (oj hn_g2 (oj hn_g hn_g7)) ?_
            rw [updF_bs (by omega)]
            refine yG (oj hn_g2 (oj hn_g hn_g7)) ?_
            exact aw_stop ⟨i + 1, by omega, (zB (oj hn_g2 (oj hn_g hn_g7))), List.Sublist.cons _ (by rw [hst, nodeB, if_neg (by rw [k0]; simp), if_neg (by rw [k1]; simp), if_pos k2]; exact zZ), by omega⟩
          · refine yG (oj hn_g2 (oj hn_g hn_g7)) ?_
            refine yF (oj hn_g2 (oj hn_g hn_g7)) (fun k3=>?_) fun k3=>?_
            · refine yG (oj hn_g2 (oj hn_g hn_g7)) ?_
              refine yW (oj hn_g2 (oj hn_g hn_g7)) ?_
              refine yS (oj hn_g2 (oj hn_g hn_g7)) ?_
              rw [updF_bs (by omega)]
              refine yG (oj hn_g2 (oj hn_g hn_g7)) ?_
              exact aw_stop ⟨i + 1, by omega, (zB (oj hn_g2 (oj hn_g hn_g7))), List.Sublist.cons _ (by rw [hst, nodeB, if_neg (by rw [k0]; simp), if_neg (by rw [k1]; simp), if_neg (by rw [k2]; simp), if_pos k3]; exact zZ), by omega⟩
            · refine yG (oj hn_g2 (oj hn_g hn_g7)) ?_
              refine yF (oj hn_g2 (oj hn_g hn_g7)) (fun k4=>?_) fun k4=>?_
              · refine yG (oj hn_g2 (oj hn_g hn_g7)) ?_
                refine yW (oj hn_g2 (oj hn_g hn_g7)) ?_
                refine yS (oj hn_g2 (oj hn_g hn_g7)) ?_
                rw [updF_bs (by omega)]
                refine yG (oj hn_g2 (oj hn_g hn_g7)) ?_
                exact aw_stop ⟨i + 1, by omega, (zB (oj hn_g2 (oj hn_g hn_g7))), List.Sublist.cons _ (by rw [hst, nodeB, if_neg (by rw [k0]; simp), if_neg (by rw [k1]; simp), if_neg (by rw [k2]; simp), if_neg (by rw [k3]; simp), if_pos k4]; exact zZ), by omega⟩
              · refine yG (oj hn_g2 (oj hn_g hn_g7)) ?_
                refine yW (oj hn_g2 (oj hn_g hn_g7)) ?_
                refine yS (oj hn_g2 (oj hn_g hn_g7)) ?_
                rw [updF_bs (by omega)]
                refine yG (oj hn_g2 (oj hn_g hn_g7)) ?_
                exact aw_stop ⟨i + 1, by omega, (zB (oj hn_g2 (oj hn_g hn_g7))), List.Sublist.cons _ (by rw [hst, nodeB, if_neg (by rw [k0]; simp), if_neg (by rw [k1]; simp), if_neg (by rw [k2]; simp), if_neg (by rw [k3]; simp), if_neg (by rw [k4]; simp)]; exact zZ), by omega⟩
  · have h1' : i = f.nodes.length := by have := of_decide_eq_false h1; omega
    subst h1'
    refine yG (oj hn_g2 hn_g) ?_
    refine yT hC (oj hn_g2 hn_g) ?_
    exact .one (.c (ler_oslbs (zE (oj hn_g2 hn_g)) hvl.symm))
noncomputable def fvalB (f : FM) (s : Nat) : Bool := ofB f (fvTo f s f.nodes.length) s f.top
set_option maxHeartbeats 800000 in
theorem fvalue_fa (f : FM) (hf : FmOk f) (s : Nat) (hs : s < 9223372036854775808) : Fa Tryz.prog 116 [.agg (fmc false f), .c (.int .i64 s)] (.c (.bool (fvalB f s))) := by
  refine fa_of_body Tryz.func116 rfl rfl (by simp [Tryz.ntmps116]) fun C hC => ?_
  simp only [initS, Nat.reduceAdd]
  refine xG ?_
  refine xB fun g2 hn_g2=>?_
  refine yG hn_g2 ?_
  refine aw_dr 9 ty_mixed (by kernel_rfl) ?_
  refine yG hn_g2 ?_
  refine yD hn_g2 (fvalues_fa f hf s hs) ?_
  refine yG hn_g2 ?_
  refine yD hn_g2 (fof_fa f hf (fvTo f s f.nodes.length) s f.top hs (fvTo_len f s _) hf.t0 hf.t1) ?_
  refine yG hn_g2 ?_
  refine yT hC hn_g2 ?_
  exact .one (.c (.bool _))
end Go.Proofs.YtcoflhkcpnoaaaaGreatDoor
namespace Go.PN
open Go.AI
theorem formTo_len (f : FM) : ∀ k, (formTo f k).length = k
  | 0 => rfl
  | k + 1 => by simp [formTo, formTo_len f k]
end Go.PN

namespace Go.Proofs.YtcoflhkcpnoaaaaGreatDoor
open Go.AI Go.PN
attribute [local irreducible] aw Fa Fh DrK
set_option maxHeartbeats 1600000 in
theorem smin_fa (a b : RD) (ha : a.wf 400000000) (hb : b.wf 400000000) : Fa Tryz.prog 41 [.agg (rdc a), .agg (rdc b)] (.agg (rdc (rd (minQ a.q b.q)))) := by
  refine fa_of_body Tryz.func41 rfl rfl (by simp [Tryz.ntmps41]) fun C hC => ?_
  simp only [initS, Nat.reduceAdd]
  refine xG ?_
  refine xB fun g2 hn_g2=>?_
  refine yB hn_g2 fun g3 hn_g3=>?_
  refine yA (oj hn_g2 hn_g3) fun g4 hn_g4=>?_
  refine yG (oj hn_g2 (oj hn_g3 hn_g4)) ?_
  refine yC (oj hn_g2 (oj hn_g3 hn_g4)) (scmp_fa a b (wf_mono ha ?_) (wf_mono hb ?_)) ?_
  · omega
  · omega
  refine yG (oj hn_g2 (oj hn_g3 hn_g4)) ?_
  refine yF (oj hn_g2 (oj hn_g3 hn_g4)) (fun hc=>?_) fun hc=>?_
  · have hc' := of_decide_eq_true hc
    refine yG (oj hn_g2 (oj hn_g3 hn_g4)) ?_
    refine yW (oj hn_g2 (oj hn_g3 hn_g4)) ?_
    refine yS (oj hn_g2 (oj hn_g3 hn_g4)) ?_
    refine yG (oj hn_g2 (oj hn_g3 hn_g4)) ?_
    refine aw_callq (sadd_fa b rd0 (wf_mono hb (by omega)) (by simp [RD.wf, rd0])) rfl rfl rfl (by refine yS (oj hn_g2 (oj hn_g3 hn_g4)) ?_; exact ⟨.agg ⟨.refl _, wl2, wl2, trivial⟩, .agg ⟨.refl _, .nils, .nils, trivial⟩⟩) ?_
    refine yS (oj hn_g2 (oj hn_g3 hn_g4)) ?_
    refine yG (oj hn_g2 (oj hn_g3 hn_g4)) ?_
    refine yW (oj hn_g2 (oj hn_g3 hn_g4)) ?_
    refine yS (oj hn_g2 (oj hn_g3 hn_g4)) ?_
    refine yG (oj hn_g2 (oj hn_g3 hn_g4)) ?_
    refine yT hC (oj hn_g2 (oj hn_g3 hn_g4)) ?_
    exact ler_rd (by rw [rd0_q, minQ, if_pos hc']; grind)
  · have hc' := of_decide_eq_false hc
    refine yG (oj hn_g2 (oj hn_g3 hn_g4)) ?_
    refine aw_callq (sadd_fa a rd0 (wf_mono ha (by omega)) (by simp [RD.wf, rd0])) rfl rfl rfl (by refine yS (oj hn_g2 (oj hn_g3 hn_g4)) ?_; exact ⟨.agg ⟨.refl _, wl2, wl2, trivial⟩, .agg ⟨.refl _, .nils, .nils, trivial⟩⟩) ?_
    refine yS (oj hn_g2 (oj hn_g3 hn_g4)) ?_
    refine yG (oj hn_g2 (oj hn_g3 hn_g4)) ?_
    refine yW (oj hn_g2 (oj hn_g3 hn_g4)) ?_
    refine yS (oj hn_g2 (oj hn_g3 hn_g4)) ?_
    refine yG (oj hn_g2 (oj hn_g3 hn_g4)) ?_
    refine yT hC (oj hn_g2 (oj hn_g3 hn_g4)) ?_
    exact ler_rd (by rw [rd0_q, minQ, if_neg hc']; grind)
theorem neg_wf4 {a : RD} {L : Nat} (hL : 1 ≤ L) (ha : a.wf L) : (rd (-a.q)).wf L := rd_wf (fits_neg (RD.fits ha hL))
set_option maxHeartbeats 1600000 in
theorem smax_fa (a b : RD) (ha : a.wf 400000000) (hb : b.wf 400000000) : Fa Tryz.prog 42 [.agg (rdc a), .agg (rdc b)] (.agg (rdc (rd (maxQ a.q b.q)))) := by
  refine fa_of_body Tryz.func42 rfl rfl (by simp [Tryz.ntmps42]) fun C hC => ?_
  simp only [initS, Nat.reduceAdd]
  refine xG ?_
  refine xB fun g2 hn_g2=>?_
  refine yB hn_g2 fun g3 hn_g3=>?_
  refine yA (oj hn_g2 hn_g3) fun g4 hn_g4=>?_
  refine yG (oj hn_g2 (oj hn_g3 hn_g4)) ?_
  have m := smin_fa (rd (-a.q)) (rd (-b.q)) (neg_wf4 (by omega) ha) (neg_wf4 (by omega) hb)
  rw [rd_q, rd_q] at m
  have n := sneg_fa (rd (minQ (-a.q) (-b.q))) (wf_mono (rd_wf (min_fits (fits_neg (RD.fits ha (by omega))) (fits_neg (RD.fits hb (by omega))))) (by omega))
  rw [rd_q] at n
  refine aw_dr 6 ty_mixed (by kernel_rfl) ?_
  refine yG (oj hn_g2 (oj hn_g3 hn_g4)) ?_
  refine yD (oj hn_g2 (oj hn_g3 hn_g4)) (sneg_fa a (wf_mono ha ?_)) ?_
  · omega
  refine yG (oj hn_g2 (oj hn_g3 hn_g4)) ?_
  refine yD (oj hn_g2 (oj hn_g3 hn_g4)) (sneg_fa b (wf_mono hb ?_)) ?_
  · omega
  refine yG (oj hn_g2 (oj hn_g3 hn_g4)) ?_
  refine yD (oj hn_g2 (oj hn_g3 hn_g4)) (m) ?_
  refine yG (oj hn_g2 (oj hn_g3 hn_g4)) ?_
  refine yD (oj hn_g2 (oj hn_g3 hn_g4)) (n) ?_
  refine yG (oj hn_g2 (oj hn_g3 hn_g4)) ?_
  refine yW (oj hn_g2 (oj hn_g3 hn_g4)) ?_
  refine yS (oj hn_g2 (oj hn_g3 hn_g4)) ?_
  refine yG (oj hn_g2 (oj hn_g3 hn_g4)) ?_
  refine yT hC (oj hn_g2 (oj hn_g3 hn_g4)) ?_
  exact ler_rd rfl
end Go.Proofs.YtcoflhkcpnoaaaaGreatDoor
namespace Go.Proofs.YtcoflhkcpnoaaaaGreatDoor
open Go.AI Go.PN
attribute [local irreducible] aw Fa Fh DrK
set_option maxRecDepth 100000 in
set_option maxHeartbeats 1600000 in
theorem endsR_fa (s : List SD) (u : Nat) (hu : u < 9223372036854775808) (hl : s.length ≤ 60) : Fa Tryz.prog 72 [.c (sps false s), .c (.int .i64 u)] (.c (rats true (endTo s u s.length))) := by
  refine fa_of_body Tryz.func72 rfl rfl (by simp [Tryz.ntmps72]) fun C hC => ?_
  simp only [initS, Nat.reduceAdd]
  refine xG ?_
  refine aw_lp (fun x : Option Nat × Nat => [(1, .c (.int .i64 u)), (5, .c (gs x.1 3 x.2)), (8, .c (sps false s)), (9, .c (.int .i64 s.length)), (10, .c (.int .i64 x.2))]) (fun x => gh x.1 30 (x.2 * 3) (ratsF (endTo s u x.2)))
    (fun x => x.2 ≤ s.length ∧ (x.1 = none → x.2 = 0)) (fun x => s.length - x.2) (none, 0) eB zZ ⟨Nat.zero_le _, fun _ => rfl⟩ ?_
  rintro ⟨og, k⟩ ⟨hk, hog⟩
  dsimp only at hk hog ⊢
  refine xG ?_
  refine xF (fun h1=>?_) fun h1=>?_
  · have h1' : k < s.length := by have := of_decide_eq_true h1; omega
    have e1 := endTo_succ s u k
    have b1 := shrZ_nat u k (by omega)
    have b2 := and_one_nat (u / 2 ^ k) (Nat.lt_of_le_of_lt (Nat.div_le_self _ _) hu)
    have b3 := bit_eq u k
    refine yG (oj b1 (oj b2 b3)) ?_
    refine yA (oj b1 (oj b2 b3)) fun g7 hn_g7=>?_
    generalize s.getD k sd0 = y at *
    refine yG (oj b1 (oj b2 (oj b3 hn_g7))) ?_
    refine yW (oj b1 (oj b2 (oj b3 hn_g7))) ?_
    refine yS (oj b1 (oj b2 (oj b3 hn_g7))) ?_
    refine aw_conv1 (f' := ofL (spc y)) (fun j hj => by match j, hj with | 0, _ => rfl | 1, _ => rfl | 2, _ => rfl | 3, _ => rfl | 4, _ => rfl | 5, _ => rfl) ?_
    refine yG (oj b1 (oj b2 (oj b3 hn_g7))) ?_
    refine yF (oj b1 (oj b2 (oj b3 hn_g7))) (fun hb=>?_) fun hb=>?_
    · rw [if_pos hb] at e1
      refine yG (oj b1 (oj b2 (oj b3 hn_g7))) ?_
      refine aw_push (pre := [(g7, .cells 32 6 (ofL (spc y)))]) rfl rfl rfl rfl rfl rfl rfl (zE (oj b1 (oj b2 (oj b3 hn_g7)))) (zE (oj b1 (oj b2 (oj b3 hn_g7)))) (by rfl) (by omega) (by omega) (zE (oj b1 (oj b2 (oj b3 hn_g7)))) (by omega) (by exact hog) (zE (oj b1 (oj b2 (oj b3 hn_g7)))) (by rfl) (by rfl) (by first | rfl | simp only [Nat.mul_one, List.nil_append, List.cons_append] <;> rfl) (by unfold maxLen; omega) (by omega) (by exact rats_push (endTo_len s u k) _) fun g hn_g => ?_
      replace hn_g := Heap.ne_of hn_g
      first | dsimp only [Heap.ne, gh] at hn_g | dsimp only [Heap.ne] at hn_g | skip
      refine yS (oj b1 (oj b2 (oj b3 (oj hn_g7 hn_g)))) ?_
      refine yG (oj b1 (oj b2 (oj b3 (oj hn_g7 hn_g)))) ?_
      rw [← e1]
      exact aw_stop ⟨(some g, k + 1), by dsimp only; omega, (zB (oj b1 (oj b2 (oj b3 (oj hn_g7 hn_g))))), .cons _ (.refl _), by dsimp only; omega, some_ne⟩
    · rw [if_neg (by rw [hb]; simp)] at e1
      refine yG (oj b1 (oj b2 (oj b3 hn_g7))) ?_
      refine aw_push (pre := [(g7, .cells 32 6 (ofL (spc y)))]) rfl rfl rfl rfl rfl rfl rfl (zE (oj b1 (oj b2 (oj b3 hn_g7)))) (zE (oj b1 (oj b2 (oj b3 hn_g7)))) (by rfl) (by omega) (by omega) (zE (oj b1 (oj b2 (oj b3 hn_g7)))) (by omega) (by exact hog) (zE (oj b1 (oj b2 (oj b3 hn_g7)))) (by rfl) (by rfl) (by first | rfl | simp only [Nat.mul_one, List.nil_append, List.cons_append] <;> rfl) (by unfold maxLen; omega) (by omega) (by exact rats_push (endTo_len s u k) _) fun g hn_g => ?_
      replace hn_g := Heap.ne_of hn_g
      first | dsimp only [Heap.ne, gh] at hn_g | dsimp only [Heap.ne] at hn_g | skip
      refine yS (oj b1 (oj b2 (oj b3 (oj hn_g7 hn_g)))) ?_
      refine yG (oj b1 (oj b2 (oj b3 (oj hn_g7 hn_g)))) ?_
      rw [← e1]
      exact aw_stop ⟨(some g, k + 1), by dsimp only; omega, (zB (oj b1 (oj b2 (oj b3 (oj hn_g7 hn_g))))), .cons _ (.refl _), by dsimp only; omega, some_ne⟩
  · have h1' : k = s.length := by have := of_decide_eq_false h1; omega
    subst h1'
    refine xG ?_
    refine xT hC ?_
    exact .one (.c (ler_gsr (pre := []) hog (fun g e => by simp [Heap.keys]) (endTo_len s u _)))
end Go.Proofs.YtcoflhkcpnoaaaaGreatDoor
namespace Go.Proofs.YtcoflhkcpnoaaaaGreatDoor
open Go.AI Go.PN
attribute [local irreducible] aw Fa Fh DrK
set_option maxHeartbeats 1600000 in
theorem table10_fa (f : FM) (hf : FmOk f) (hv : f.vars ≤ 24) : Fa Tryz.prog 71 [.agg (fmc false f)] (.c (bs true (formTo f (2 ^ f.vars.toNat)))) := by
  have f1 := hf.v0
  have e1 := shl_one f.vars.toNat (by omega)
  rw [show ((f.vars.toNat : Nat) : Int) = f.vars from by omega] at e1
  have hp : 2 ^ f.vars.toNat ≤ 16777216 := by
    have h3 : 2 ^ f.vars.toNat ≤ 2 ^ 24 := Nat.pow_le_pow_right (by omega) (by omega)
    have h4 : (2 : Nat) ^ 24 = 16777216 := by decide
    omega
  generalize 2 ^ f.vars.toNat = M at *
  refine fa_of_body Tryz.func71 rfl rfl (by simp [Tryz.ntmps71]) fun C hC => ?_
  simp only [initS, Nat.reduceAdd]
  refine yG e1 ?_
  refine yB e1 fun g1 hn_g1=>?_
  refine yG (oj e1 hn_g1) ?_
  refine aw_lp (fun x : Option Nat × Nat => [(1, .c (.optr g1 0)), (3, .c (gs x.1 1 x.2)), (7, .c (.int .i64 M)), (8, .c (.int .i64 x.2))]) (fun x => [(g1, .cells 24 3 (ofL (fmc false f)))] ++ gh x.1 4 x.2 (bsF (formTo f x.2))) (fun x => (x.1 = none → x.2 = 0) ∧ (∀ g, x.1 = some g → ¬ g = g1) ∧ x.2 ≤ M) (fun x => M - x.2) (none, 0) (zB (oj e1 hn_g1)) zZ ⟨fun _ => rfl, (fun g e => by cases e), Nat.zero_le _⟩ ?_
  rintro ⟨og, k⟩ ⟨hog, hgn, hk⟩
  dsimp only at hog hgn hk ⊢
  refine yS (oj e1 hn_g1) ?_
  have hvl := formTo_len f k
  refine yG (oj e1 hn_g1) ?_
  refine yF (oj e1 hn_g1) (fun hb=>?_) fun hb=>?_
  · have hin : k < M := by have := of_decide_eq_true hb; omega
    refine yG (oj e1 hn_g1) ?_
    refine yC (oj e1 hn_g1) (fvalue_fa f hf k ?_) ?_
    · omega
    refine yG (oj e1 hn_g1) ?_
    refine aw_push (pre := [(g1, .cells 24 3 (ofL (fmc false f)))]) rfl rfl rfl rfl rfl rfl rfl (zE (oj e1 hn_g1)) (zE (oj e1 hn_g1)) (by rfl) (by omega) (by omega) (zE (oj e1 hn_g1)) (by omega) (by exact hog) (zE (oj e1 hn_g1)) (by rfl) (by rfl) (by first | rfl | simp only [Nat.mul_one, List.nil_append, List.cons_append] <;> rfl) (by unfold maxLen; omega) (by omega) (by exact bs_push hvl _) fun g hn_g => ?_
    replace hn_g := Heap.ne_of hn_g
    first | dsimp only [Heap.ne, gh] at hn_g | dsimp only [Heap.ne] at hn_g | skip
    refine yS (oj e1 (oj hn_g1 hn_g)) ?_
    refine yG (oj e1 (oj hn_g1 hn_g)) ?_
    refine aw_stop ⟨(some g, k + 1), by dsimp only; omega, (zB (oj e1 (oj hn_g1 hn_g))), zZ, some_ne, (fun g e => by cases e; exact (of_eq_false hn_g.1.1)), by dsimp only; omega⟩
  · have hin : k = M := by have := of_decide_eq_false hb; omega
    subst hin
    refine yG (oj e1 hn_g1) ?_
    refine yT hC (oj e1 hn_g1) ?_
    exact .one (.c (ler_gsb (pre := [(g1, _)]) hog (fun g e => by simp only [Heap.keys, List.map_cons, List.map_nil, List.mem_singleton]; exact hgn g e) hvl))
end Go.Proofs.YtcoflhkcpnoaaaaGreatDoor
namespace Go.Proofs.YtcoflhkcpnoaaaaGreatDoor
open Go.AI Go.PN
attribute [local irreducible] aw Fa Fh DrK
theorem fm_ok {f : FM} (hc : fcode f = 0) (h6 : f.vars ≤ 6) : FmOk f := by
  have ok := fr_ok hc
  refine ⟨ok.v0, by omega, by have := ok.n128; omega, fun x hx => ?_, ok.t0, ok.t1⟩
  obtain ⟨i, hi, rfl⟩ := List.mem_iff_getElem.1 hx
  have h1 := ok.len hi
  have h2 := ok.arg i hi
  rw [show f.nodes.getD i fn0 = f.nodes[i] from by rw [List.getD_eq_getElem?_getD, List.getElem?_eq_getElem hi]; rfl] at h1 h2
  exact ⟨by omega, fun y hy => by have := h2 y hy; omega⟩
set_option maxHeartbeats 1600000 in
theorem rtop_fa {f : FM} {s : List SD} (h : UOk f s) (u : Nat) (hu : u < 9223372036854775808) : Fa Tryz.prog 40 [.agg (fmc false f), .c (sps false s), .c (.int .i64 u)] (.agg (rdc (rd (topQ f s u)))) := by
  have hl := h.len
  have h6 := h.v6
  have ok := fr_ok h.fc
  have t1 := table10_fa f (fm_ok h.fc h6) (by omega)
  have t2 := endsR_fa s u hu (by omega)
  have hfl := formTo_len f (2 ^ f.vars.toNat)
  have t3 := table37_fa (formTo f (2 ^ f.vars.toNat)) (endTo s u s.length) 16 (by omega) (by omega) (fun r hr => (h.ends u r hr).1) (by rw [endTo_len]; omega) (by rw [hfl, endTo_len]; congr 1; omega)
  rw [hfl, show 2 ^ f.vars.toNat = 2 ^ s.length from by congr 1; omega] at t3
  rw [show sumQ (endTo s u s.length) (formTo f (2 ^ s.length)) (2 ^ s.length) = topQ f s u from by unfold topQ; rw [show 2 ^ f.vars.toNat = 2 ^ s.length from by congr 1; omega], ← show 2 ^ f.vars.toNat = 2 ^ s.length from by congr 1; omega] at t3
  generalize topQ f s u = X at *
  generalize formTo f (2 ^ f.vars.toNat) = tb at *
  generalize endTo s u s.length = ps at *
  refine fa_of_body Tryz.func40 rfl rfl (by simp [Tryz.ntmps40]) fun C hC => ?_
  simp only [initS, Nat.reduceAdd]
  refine xG ?_
  refine xB fun g3 hn_g3=>?_
  refine yA hn_g3 fun g6 hn_g6=>?_
  refine yG (oj hn_g3 hn_g6) ?_
  refine yC (oj hn_g3 hn_g6) (t1) ?_
  refine yG (oj hn_g3 hn_g6) ?_
  refine yC (oj hn_g3 hn_g6) (t2) ?_
  refine yG (oj hn_g3 hn_g6) ?_
  refine yC (oj hn_g3 hn_g6) (t3) ?_
  refine yG (oj hn_g3 hn_g6) ?_
  refine yW (oj hn_g3 hn_g6) ?_
  refine yS (oj hn_g3 hn_g6) ?_
  refine yG (oj hn_g3 hn_g6) ?_
  refine yT hC (oj hn_g3 hn_g6) ?_
  exact ler_rd rfl
end Go.Proofs.YtcoflhkcpnoaaaaGreatDoor
namespace Go.PN
open Go.AI
def mkTo (s : List SD) : Nat → Nat
  | 0 => 0
  | k + 1 => if opB s k then mkTo s k ||| 2 ^ k else mkTo s k
theorem mkTo_bit (s : List SD) (i : Nat) : ∀ k, (mkTo s k).testBit i = (decide (i < k) && opB s i)
  | 0 => by simp [mkTo]
  | k + 1 => by
    have := mkTo_bit s i k
    unfold mkTo
    by_cases e : i = k
    · subst e
      have h0 : (mkTo s i).testBit i = false := by rw [this]; simp
      cases hb : opB s i
      · rw [if_neg (by simp), h0]; simp
      · rw [if_pos rfl, Nat.testBit_or, h0, Nat.testBit_two_pow_self]; simp
    · have h1 : decide (i < k + 1) = decide (i < k) := by
        by_cases h : i < k
        · rw [decide_eq_true h, decide_eq_true (by omega)]
        · rw [decide_eq_false h, decide_eq_false (by omega)]
      rw [h1]
      cases hb : opB s k
      · rw [if_neg (by simp), this]
      · rw [if_pos rfl, Nat.testBit_or, this, Nat.testBit_two_pow_of_ne (by omega), Bool.or_false]
theorem mkTo_lt (s : List SD) (k : Nat) : mkTo s k < 2 ^ k := Nat.lt_pow_two_of_testBit _ fun i hi => by rw [mkTo_bit]; simp; omega
end Go.PN
namespace Go.Proofs.YtcoflhkcpnoaaaaGreatDoor
open Go.AI Go.PN
def subB (s : List SD) (u : Nat) : Bool := decide (u &&& mkTo s s.length = u)
theorem and_sub (u m : Nat) : (u &&& m) &&& m = u &&& m := by rw [Nat.and_assoc, Nat.and_self]
theorem sub_of {f : FM} {s : List SD} (ok : UOk f s) (u : Nat) (hu : u < 2 ^ s.length) : ∃ v, v < 2 ^ s.length ∧ subB s v = true ∧ topQ f s v = topQ f s u :=
  ⟨u &&& mkTo s s.length, Nat.lt_of_le_of_lt Nat.and_le_left hu, decide_eq_true (and_sub _ _), topQ_congr ok fun i hi hb => by rw [Nat.testBit_and, mkTo_bit, hb, decide_eq_true hi]; simp⟩
theorem vlo_sub {f : FM} {s : List SD} (ok : UOk f s) : mnL (topQ f s) (subB s) (2 ^ s.length) = vloQ f s := by
  have hp := two_pos s.length
  refine mnL_eq (fun i hi => ⟨i, by omega, rfl, rfl⟩) fun j hj => sub_of ok j (by omega)
theorem vhi_sub {f : FM} {s : List SD} (ok : UOk f s) : mxL (topQ f s) (subB s) (2 ^ s.length) = vhiQ f s := by
  have hp := two_pos s.length
  refine mxL_eq (fun i hi => ⟨i, by omega, rfl, rfl⟩) fun j hj => sub_of ok j (by omega)
end Go.Proofs.YtcoflhkcpnoaaaaGreatDoor
namespace Go.PN
open Go.AI
theorem andNot_sub (u m : Nat) (hu : u < 9223372036854775808) (hm : m < 9223372036854775808) : (andNotZ .i64 (u : Int) (m : Int) == 0) = decide (u &&& m = u) := by
  rw [andNotZ_eq]
  show (IntKind.i64.wrap (((BitVec.ofInt 64 (u : Int) &&& ~~~BitVec.ofInt 64 (m : Int)).toNat : Nat) : Int) == 0) = _
  have e : ∀ i, (BitVec.ofInt 64 (u : Int) &&& ~~~BitVec.ofInt 64 (m : Int)).toNat.testBit i = (u.testBit i && !m.testBit i) := fun i => by
    rw [BitVec.testBit_toNat, BitVec.getLsbD_and, BitVec.getLsbD_not, BitVec.ofInt_natCast, BitVec.ofInt_natCast, BitVec.getLsbD_ofNat, BitVec.getLsbD_ofNat]
    by_cases h : i < 64
    · rw [decide_eq_true h]; simp
    · have : u.testBit i = false := Nat.testBit_lt_two_pow (Nat.lt_of_lt_of_le hu (by
        have : 2 ^ 63 ≤ 2 ^ i := Nat.pow_le_pow_right (by omega) (by omega)
        exact this))
      rw [this]; simp [h]
  have hlt : (BitVec.ofInt 64 (u : Int) &&& ~~~BitVec.ofInt 64 (m : Int)).toNat < 2 ^ 63 := Nat.lt_pow_two_of_testBit _ fun i hi => by
    rw [e, Nat.testBit_lt_two_pow (Nat.lt_of_lt_of_le hu (Nat.pow_le_pow_right (by omega) hi : 2 ^ 63 ≤ 2 ^ i))]; rfl
  generalize (BitVec.ofInt 64 (u : Int) &&& ~~~BitVec.ofInt 64 (m : Int)).toNat = z at *
  rw [show IntKind.i64.wrap (z : Int) = (z : Int) from by rw [IntKind.wrap_i64]; omega]
  by_cases h : u &&& m = u
  · have hz : z = 0 := Nat.eq_of_testBit_eq fun i => by
      rw [e, Nat.zero_testBit]
      have := congrArg (fun x => x.testBit i) h
      simp only [Nat.testBit_and] at this
      cases a : u.testBit i
      · rfl
      · rw [a] at this; simp at this; rw [this]; rfl
    rw [decide_eq_true h, hz]; rfl
  · rw [decide_eq_false h]
    have hz : z ≠ 0 := fun hz => h (Nat.eq_of_testBit_eq fun i => by
      have := e i
      rw [hz, Nat.zero_testBit] at this
      rw [Nat.testBit_and]
      cases a : u.testBit i
      · rfl
      · rw [a] at this; simpa using this.symm)
    simpa using hz
end Go.PN

namespace Go.Proofs.YtcoflhkcpnoaaaaGreatDoor
open Go.AI Go.PN
attribute [local irreducible] aw Fa Fh DrK
set_option maxRecDepth 100000 in
set_option maxHeartbeats 6400000 in
theorem rvert_fa (f : FM) (s : List SD) (hn : f.nodes.length ≤ 1099511627776) (ha : ArgsOk f) (hs : ∀ y ∈ s, y.wf 16) (hl : s.length ≤ 1099511627776) (hc : fcode f = 0) (hv : f.vars ≤ 6) :
    Fa Tryz.prog 13 [.agg (fmc false f), .c (sps false s)] (.tup [.agg (spc (uvS f s)), .c (.int .i64 (ucode f s))]) := by
  have hS : uvS f s = if ucode f s = 0 then ⟨rd (vloQ f s), rd (vhiQ f s)⟩ else ⟨rd 0, rd 0⟩ := rfl
  have huc : ucode f s = scode s f.vars := by unfold ucode; rw [if_neg (by simp [hc])]
  have v0 := (fr_ok hc).v0
  have hck := ucheckR_fa f s v0 (by omega) (fun y hy => ⟨wf_mono (hs y hy).1 (by omega), wf_mono (hs y hy).2 (by omega)⟩) hl
  rw [← huc] at hck
  refine fa_of_body Tryz.func13 rfl rfl (by simp [Tryz.ntmps13]) fun C hC => ?_
  simp only [initS, Nat.reduceAdd]
  refine xG ?_
  refine xB fun g2 hn_g2=>?_
  refine yA hn_g2 fun g4 hn_g4=>?_
  refine yG (oj hn_g2 hn_g4) ?_
  refine yC (oj hn_g2 hn_g4) (hck) ?_
  refine yG (oj hn_g2 hn_g4) ?_
  refine yF (oj hn_g2 hn_g4) (fun hb=>?_) fun hb=>?_
  · have hb' : ucode f s ≠ 0 := by simpa using hb
    rw [if_neg hb'] at hS
    rw [hS]
    refine yG (oj hn_g2 hn_g4) ?_
    refine yW (oj hn_g2 hn_g4) ?_
    refine yS (oj hn_g2 hn_g4) ?_
    refine yG (oj hn_g2 hn_g4) ?_
    refine yT hC (oj hn_g2 hn_g4) ?_
    refine .tup ⟨.agg ?_, .c (.int _ _), trivial⟩
    show LeRL _ [.bool false, .nils, .nils, .bool false, .nils, .nils] _
    exact lerl_zero
  have hb' : ucode f s = 0 := by simpa using hb
  rw [if_pos hb'] at hS
  rw [hS, hb']
  have ok := uok_of hn ha hs (fun _ => hv) hb'
  have hlen := ok.len
  have hps : 2 ^ s.length ≤ 64 := by
    have : 2 ^ s.length ≤ 2 ^ 6 := Nat.pow_le_pow_right (by omega) (by omega)
    omega
  have hvlo := vlo_sub ok
  have hvhi := vhi_sub ok
  refine yG (oj hn_g2 hn_g4) ?_
  refine aw_lp (fun k : Nat => [(1, .c (sps false s)), (2, .c (.optr g2 0)), (4, .c (.optr g4 0)), (7, .c (.int .i64 (mkTo s k))), (8, .c (.int .i64 (opTo s k).length)), (21, .c (sps false s)), (22, .c (.int .i64 s.length)), (23, .c (.int .i64 k))]) (fun _ => [(g4, .cells 32 6 (ofL [.bool false, .nils, .nils, .bool false, .nils, .nils])), (g2, .cells 24 3 (ofL (fmc false f)))])
    (fun k => k ≤ s.length) (fun k => s.length - k) 0 (zB (oj hn_g2 hn_g4)) zZ (Nat.zero_le _) ?_
  rintro k hk
  refine yG (oj hn_g2 hn_g4) ?_
  refine yF (oj hn_g2 hn_g4) (fun h1=>?_) fun h1=>?_
  · have h1' : k < s.length := by have := of_decide_eq_true h1; omega
    obtain ⟨_, hy⟩ := ok.getOk h1'
    have hob : opB s k = (signQ ((s.getD k sd0).lo.q - (s.getD k sd0).hi.q) != 0) := rfl
    have hol := opTo_len s k
    have hml := mkTo_lt s k
    have hp2 : 2 ^ k ≤ 64 := by
      have : 2 ^ k ≤ 2 ^ 6 := Nat.pow_le_pow_right (by omega) (by omega)
      omega
    have em : mkTo s (k + 1) = if opB s k then mkTo s k ||| 2 ^ k else mkTo s k := rfl
    have eo : opTo s (k + 1) = if opB s k then opTo s k ++ [k] else opTo s k := rfl
    have b1 := shl_one k (by omega)
    have b2 := orZ_nat (mkTo s k) (2 ^ k) (by omega) (by omega)
    refine yG (oj hn_g2 hn_g4) ?_
    refine yA (oj hn_g2 hn_g4) fun g9 hn_g9=>?_
    generalize s.getD k sd0 = y at *
    have cm := scmp_fa y.lo y.hi (wf_mono hy.1 (by omega)) (wf_mono hy.2 (by omega))
    refine yG (oj hn_g2 (oj hn_g4 (oj hn_g9 (oj b1 b2)))) ?_
    refine yW (oj hn_g2 (oj hn_g4 (oj hn_g9 (oj b1 b2)))) ?_
    refine yS (oj hn_g2 (oj hn_g4 (oj hn_g9 (oj b1 b2)))) ?_
    refine aw_conv1 (f' := ofL (spc y)) (fun j hj => by match j, hj with | 0, _ => rfl | 1, _ => rfl | 2, _ => rfl | 3, _ => rfl | 4, _ => rfl | 5, _ => rfl) ?_
    refine yG (oj hn_g2 (oj hn_g4 (oj hn_g9 (oj b1 b2)))) ?_
    refine yC (oj hn_g2 (oj hn_g4 (oj hn_g9 (oj b1 b2)))) (cm) ?_
    refine yG (oj hn_g2 (oj hn_g4 (oj hn_g9 (oj b1 b2)))) ?_
    refine yF (oj hn_g2 (oj hn_g4 (oj hn_g9 (oj b1 b2)))) (fun hgt=>?_) fun hgt=>?_
    · rw [hgt] at hob
      rw [if_pos hob] at em eo
      have el : (((opTo s k).length : Nat) : Int) + 1 = ((opTo s (k + 1)).length : Nat) := by rw [eo]; simp
      refine yG (oj hn_g2 (oj hn_g4 (oj hn_g9 (oj b1 b2)))) ?_
      rw [← em, el]
      exact aw_stop ⟨k + 1, by omega, (zB (oj hn_g2 (oj hn_g4 (oj hn_g9 (oj b1 b2))))), .cons _ (.refl _), by omega⟩
    · rw [hgt] at hob
      rw [if_neg (by simp [hob])] at em eo
      refine yG (oj hn_g2 (oj hn_g4 (oj hn_g9 (oj b1 b2)))) ?_
      rw [← em, ← eo]
      exact aw_stop ⟨k + 1, by omega, (zB (oj hn_g2 (oj hn_g4 (oj hn_g9 (oj b1 b2))))), .cons _ (.refl _), by omega⟩
  have h1' : k = s.length := by have := of_decide_eq_false h1; omega
  subst h1'
  have hol := opTo_len s s.length
  have hml := mkTo_lt s s.length
  have e1 : shlZ .i64 1 f.vars = ((2 ^ s.length : Nat) : Int) := by rw [← hlen]; exact shl_one s.length (by omega)
  have e2 : decide (((opTo s s.length).length : Int) > 10) = false := decide_eq_false (by omega)
  have t1 : Fa Tryz.prog 40 [.agg (fmc false f), .c (sps false s), .c (.int .i64 0)] (.agg (rdc (rd (topQ f s 0)))) := rtop_fa ok 0 (by omega)
  have pt := point03_fa (rd (topQ f s 0)) (wf_mono (rd_wf (topQ_fits ok 0)) (by omega))
  rw [rd_q] at pt
  have hmnf := mnG_fits ok (fun c => c) (subB s)
  have hmxf := mxG_fits ok (fun c => c) (subB s)
  refine yG (oj hn_g2 (oj hn_g4 (oj e1 e2))) ?_
  refine yN (oj hn_g2 (oj hn_g4 (oj e1 e2))) ?_
  refine yG (oj hn_g2 (oj hn_g4 (oj e1 e2))) ?_
  refine yC (oj hn_g2 (oj hn_g4 (oj e1 e2))) (t1) ?_
  refine yG (oj hn_g2 (oj hn_g4 (oj e1 e2))) ?_
  refine yC (oj hn_g2 (oj hn_g4 (oj e1 e2))) (pt) ?_
  refine yG (oj hn_g2 (oj hn_g4 (oj e1 e2))) ?_
  refine yA (oj hn_g2 (oj hn_g4 (oj e1 e2))) fun g11 hn_g11=>?_
  refine yG (oj hn_g2 (oj hn_g4 (oj e1 (oj e2 hn_g11)))) ?_
  refine yW (oj hn_g2 (oj hn_g4 (oj e1 (oj e2 hn_g11)))) ?_
  refine yS (oj hn_g2 (oj hn_g4 (oj e1 (oj e2 hn_g11)))) ?_
  refine aw_conv1 (f' := ofL (spc ⟨rd (mnL (topQ f s) (subB s) 0), rd (mxL (topQ f s) (subB s) 0)⟩)) (fun j hj => by match j, hj with | 0, _ => rfl | 1, _ => rfl | 2, _ => rfl | 3, _ => rfl | 4, _ => rfl | 5, _ => rfl) ?_
  refine yG (oj hn_g2 (oj hn_g4 (oj e1 (oj e2 hn_g11)))) ?_
  refine aw_lp (fun u : Nat => [(1, .c (sps false s)), (2, .c (.optr g2 0)), (4, .c (.optr g4 0)), (7, .c (.int .i64 (mkTo s s.length))), (11, .c (.optr g11 0)), (50, .c (.int .i64 (2 ^ s.length : Nat))), (51, .c (.int .i64 u))]) (fun u => [(g11, .cells 32 6 (ofL (spc ⟨rd (mnL (topQ f s) (subB s) u), rd (mxL (topQ f s) (subB s) u)⟩))), (g4, .cells 32 6 (ofL [.bool false, .nils, .nils, .bool false, .nils, .nils])), (g2, .cells 24 3 (ofL (fmc false f)))]) (fun u => u ≤ 2 ^ s.length) (fun u => 2 ^ s.length - u) 0 (zB (oj hn_g2 (oj hn_g4 (oj e1 (oj e2 hn_g11))))) zZ (Nat.zero_le _) ?_
  rintro u hu
  refine yG (oj hn_g2 (oj hn_g4 (oj e1 (oj e2 hn_g11)))) ?_
  refine yF (oj hn_g2 (oj hn_g4 (oj e1 (oj e2 hn_g11)))) (fun h2=>?_) fun h2=>?_
  · have h2' : u < 2 ^ s.length := by have := of_decide_eq_true h2; omega
    have an : (andNotZ .i64 (u : Int) (mkTo s s.length : Nat) == 0) = subB s u := andNot_sub u (mkTo s s.length) (by omega) (by omega)
    have hsA : mnL (topQ f s) (subB s) (u + 1) = if subB s u then minQ (mnL (topQ f s) (subB s) u) (topQ f s u) else mnL (topQ f s) (subB s) u := rfl
    have hsB : mxL (topQ f s) (subB s) (u + 1) = if subB s u then maxQ (mxL (topQ f s) (subB s) u) (topQ f s u) else mxL (topQ f s) (subB s) u := rfl
    refine yG (oj hn_g2 (oj hn_g4 (oj e1 (oj e2 (oj hn_g11 an))))) ?_
    refine yF (oj hn_g2 (oj hn_g4 (oj e1 (oj e2 (oj hn_g11 an))))) (fun h3=>?_) fun h3=>?_
    · rw [if_pos h3] at hsA hsB
      have t2 := rtop_fa ok u (by omega)
      have ft := topQ_fits ok u
      have m1 := smin_fa (rd (mnL (topQ f s) (subB s) u)) (rd (topQ f s u)) (wf_mono (rd_wf (hmnf u)) (by omega)) (wf_mono (rd_wf ft) (by omega))
      have m2 := smax_fa (rd (mxL (topQ f s) (subB s) u)) (rd (topQ f s u)) (wf_mono (rd_wf (hmxf u)) (by omega)) (wf_mono (rd_wf ft) (by omega))
      rw [rd_q, rd_q, ← hsA] at m1
      rw [rd_q, rd_q, ← hsB] at m2
      refine yG (oj hn_g2 (oj hn_g4 (oj e1 (oj e2 (oj hn_g11 an))))) ?_
      refine yC (oj hn_g2 (oj hn_g4 (oj e1 (oj e2 (oj hn_g11 an))))) (t2) ?_
      refine yG (oj hn_g2 (oj hn_g4 (oj e1 (oj e2 (oj hn_g11 an))))) ?_
      refine yA (oj hn_g2 (oj hn_g4 (oj e1 (oj e2 (oj hn_g11 an))))) fun g13 hn_g13=>?_
      refine yG (oj hn_g2 (oj hn_g4 (oj e1 (oj e2 (oj hn_g11 (oj an hn_g13)))))) ?_
      refine yW (oj hn_g2 (oj hn_g4 (oj e1 (oj e2 (oj hn_g11 (oj an hn_g13)))))) ?_
      refine yS (oj hn_g2 (oj hn_g4 (oj e1 (oj e2 (oj hn_g11 (oj an hn_g13)))))) ?_
      refine yG (oj hn_g2 (oj hn_g4 (oj e1 (oj e2 (oj hn_g11 (oj an hn_g13)))))) ?_
      refine aw_dr 9 ty_mixed (by kernel_rfl) ?_
      refine yG (oj hn_g2 (oj hn_g4 (oj e1 (oj e2 (oj hn_g11 (oj an hn_g13)))))) ?_
      refine yD (oj hn_g2 (oj hn_g4 (oj e1 (oj e2 (oj hn_g11 (oj an hn_g13)))))) (m1) ?_
      refine yG (oj hn_g2 (oj hn_g4 (oj e1 (oj e2 (oj hn_g11 (oj an hn_g13)))))) ?_
      refine yD (oj hn_g2 (oj hn_g4 (oj e1 (oj e2 (oj hn_g11 (oj an hn_g13)))))) (m2) ?_
      refine yG (oj hn_g2 (oj hn_g4 (oj e1 (oj e2 (oj hn_g11 (oj an hn_g13)))))) ?_
      refine yW (oj hn_g2 (oj hn_g4 (oj e1 (oj e2 (oj hn_g11 (oj an hn_g13)))))) ?_
      refine yS (oj hn_g2 (oj hn_g4 (oj e1 (oj e2 (oj hn_g11 (oj an hn_g13)))))) ?_
      refine aw_conv2 (f' := ofL (spc ⟨rd (mnL (topQ f s) (subB s) (u + 1)), rd (mxL (topQ f s) (subB s) (u + 1))⟩)) (fun j hj => by match j, hj with | 0, _ => rfl | 1, _ => rfl | 2, _ => rfl | 3, _ => rfl | 4, _ => rfl | 5, _ => rfl) ?_
      refine yG (oj hn_g2 (oj hn_g4 (oj e1 (oj e2 (oj hn_g11 (oj an hn_g13)))))) ?_
      exact aw_stop ⟨u + 1, by omega, (zB (oj hn_g2 (oj hn_g4 (oj e1 (oj e2 (oj hn_g11 (oj an hn_g13))))))), .cons _ (.refl _), by omega⟩
    · rw [if_neg (by simp [h3])] at hsA hsB
      refine yG (oj hn_g2 (oj hn_g4 (oj e1 (oj e2 (oj hn_g11 an))))) ?_
      rw [← hsA, ← hsB]
      exact aw_stop ⟨u + 1, by omega, (zB (oj hn_g2 (oj hn_g4 (oj e1 (oj e2 (oj hn_g11 an)))))), zZ, by omega⟩
  have h2' : u = 2 ^ s.length := by have := of_decide_eq_false h2; omega
  subst h2'
  rw [hvlo, hvhi]
  refine yG (oj hn_g2 (oj hn_g4 (oj e1 (oj e2 hn_g11)))) ?_
  refine yW (oj hn_g2 (oj hn_g4 (oj e1 (oj e2 hn_g11)))) ?_
  refine yS (oj hn_g2 (oj hn_g4 (oj e1 (oj e2 hn_g11)))) ?_
  refine yG (oj hn_g2 (oj hn_g4 (oj e1 (oj e2 hn_g11)))) ?_
  refine yT hC (oj hn_g2 (oj hn_g4 (oj e1 (oj e2 hn_g11)))) ?_
  refine .tup ⟨.agg ?_, .c (.int _ _), trivial⟩
  show LeRL _ (spc ⟨rd (vloQ f s), rd (vhiQ f s)⟩) _
  exact lerl_sp
end Go.Proofs.YtcoflhkcpnoaaaaGreatDoor
