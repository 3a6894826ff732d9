/- Texts of one proof, laid one behind the other by a program (merge.py): Law2. -/
import Derived.Test.YtmkomfdiggcloaaGreatM21
set_option linter.unusedSimpArgs false
set_option linter.unusedVariables false
/- faultlinelaw37.ShannonGiven, once awake answers true. -/
namespace Go.Proofs.YtmkomfdiggcloaaGreat
open Go.AI Go.PN
attribute [local irreducible] aw Fa Fh DrK
theorem rd0_wf' : rd0.wf 68719476736 := rd0_wf
theorem gv_fits {d : DG} {p : List RD} {y n : Int} (hs : Small d p) : (gvR d p y n).wf 68719476736 := by
  unfold gvR
  split
  · rename_i h
    have hdp : dpcode d p = 0 := by
      unfold gvcode at h
      split at h
      · rename_i h1; exact absurd h h1
      · rename_i h1; simpa using h1
    have h6 := hs.o6 hdp
    obtain ⟨ok, hpl, _⟩ := dp_ok hdp
    refine rd_wf (fits_mono (fits_sum (L := 4) (by omega) (condL_wf (by omega) hs.w _) _) ?_)
    rw [condL_len]
    have h3 : 2 ^ p.length ≤ 2 ^ 6 := Nat.pow_le_pow_right (by omega) (by omega)
    have h4 := Nat.mul_le_mul (show (2 * 4 + 2) * p.length + 2 ≤ 62 from by omega) h3
    omega
  · exact rd0_wf'
set_option maxRecDepth 100000 in
set_option maxHeartbeats 3200000 in
theorem lawGiven_fa (haw : Fa Tryz.prog 13 [] (.c (.bool true))) (d : DG) (p : List RD) (y n : Int) (hw : WordsOk p) (hl : p.length ≤ 1099511627776) (hl1 : d.order.length ≤ 1099511627776) (hl2 : d.nodes.length ≤ 1099511627776) :
    Fa Tryz.prog 3 [.agg (dgc false d), .c (rats false p), .agg [.int .i64 y, .int .i64 n]] (.c (.bool true)) := by
  refine fa_of_body Tryz.func3 rfl rfl (by simp [Tryz.ntmps3]) fun C hC => ?_
  simp only [initS, Nat.reduceAdd]
  repeat first|apply wa1|apply wa2|apply wa3|apply wa4|apply wa5 rfl|apply wa6|apply wa7|(refine wb1 rfl fun R r=>?_;simp only[go_sem];with_reducible refine r _ _ ?_;clear r R)
  refine aw_box rfl rfl rfl (by simp only[go_sem]<;>rfl) (fun _ e => by cases e) rfl fun g3 hn_g3 => ?_
  replace hn_g3 := Heap.ne_of hn_g3
  first | dsimp only [Heap.ne, gh] at hn_g3 | dsimp only [Heap.ne] at hn_g3 | skip
  (try simp only[go_sem, hn_g3])
  repeat first|apply wa1|apply wa2|apply wa3|apply wa4|apply wa5 rfl|apply wa6|apply wa7|(refine wb1 rfl fun R r=>?_;simp only[go_sem, hn_g3];with_reducible refine r _ _ ?_;clear r R)
  refine aw_box rfl rfl rfl (by simp only[go_sem, hn_g3]<;>rfl) (fun _ e => by cases e) rfl fun g5 hn_g5 => ?_
  replace hn_g5 := Heap.ne_of hn_g5
  first | dsimp only [Heap.ne, gh] at hn_g5 | dsimp only [Heap.ne] at hn_g5 | skip
  (try simp only[go_sem, hn_g3, hn_g5])
  repeat first|apply wa1|apply wa2|apply wa3|apply wa4|apply wa5 rfl|apply wa6|apply wa7|(refine wb1 rfl fun R r=>?_;simp only[go_sem, hn_g3, hn_g5];with_reducible refine r _ _ ?_;clear r R)
  refine aw_callq (haw) rfl rfl rfl (by first|exact True.intro|simp only[go_sem, hn_g3, hn_g5]<;>and_intros<;>first|exact True.intro|exact .c (.refl _)|exact .c wl2|exact .agg (lel_refl _)|exact .agg (by simp only[LeL];and_intros<;>first|exact True.intro|exact .refl _|exact wl2)|exact .c .nils) ?_
  (try simp only[go_sem, hn_g3, hn_g5])
  repeat first|apply wa1|apply wa2|apply wa3|apply wa4|apply wa5 rfl|apply wa6|apply wa7|(refine wb1 rfl fun R r=>?_;simp only[go_sem, hn_g3, hn_g5];with_reducible refine r _ _ ?_;clear r R)
  refine aw_callq (large_fa d p hl hl1 hl2) rfl rfl rfl (by first|exact True.intro|simp only[go_sem, hn_g3, hn_g5]<;>and_intros<;>first|exact True.intro|exact .c (.refl _)|exact .c wl2|exact .agg (lel_refl _)|exact .agg (by simp only[LeL];and_intros<;>first|exact True.intro|exact .refl _|exact wl2)|exact .c .nils) ?_
  (try simp only[go_sem, hn_g3, hn_g5])
  repeat first|apply wa1|apply wa2|apply wa3|apply wa4|apply wa5 rfl|apply wa6|apply wa7|(refine wb1 rfl fun R r=>?_;simp only[go_sem, hn_g3, hn_g5];with_reducible refine r _ _ ?_;clear r R)
  refine aw_cond (by simp only[go_sem, hn_g3, hn_g5]<;>rfl) (fun hb => ?_) (fun hb => ?_)
  · repeat first|apply wa1|apply wa2|apply wa3|apply wa4|apply wa5 rfl|apply wa6|apply wa7|(refine wb1 rfl fun R r=>?_;simp only[go_sem, hn_g3, hn_g5];with_reducible refine r _ _ ?_;clear r R)
    refine aw_callq (haw) rfl rfl rfl (by first|exact True.intro|simp only[go_sem, hn_g3, hn_g5]<;>and_intros<;>first|exact True.intro|exact .c (.refl _)|exact .c wl2|exact .agg (lel_refl _)|exact .agg (by simp only[LeL];and_intros<;>first|exact True.intro|exact .refl _|exact wl2)|exact .c .nils) ?_
    (try simp only[go_sem, hn_g3, hn_g5])
    repeat first|apply wa1|apply wa2|apply wa3|apply wa4|apply wa5 rfl|apply wa6|apply wa7|(refine wb1 rfl fun R r=>?_;simp only[go_sem, hn_g3, hn_g5];with_reducible refine r _ _ ?_;clear r R)
    (refine aw_retq hC rfl fun R r=>?_;simp only[go_sem, hn_g3, hn_g5];refine r _ rfl ?_;clear r R)
    exact .one (.c (.bool _))
  · have hs := small_of hw hl2 hb
    have s1 := hs.l
    have s2 := hs.o
    repeat first|apply wa1|apply wa2|apply wa3|apply wa4|apply wa5 rfl|apply wa6|apply wa7|(refine wb1 rfl fun R r=>?_;simp only[go_sem, hn_g3, hn_g5];with_reducible refine r _ _ ?_;clear r R)
    refine aw_callq (sgiven_fa d p y n hs) rfl rfl rfl (by first|exact True.intro|simp only[go_sem, hn_g3, hn_g5]<;>and_intros<;>first|exact True.intro|exact .c (.refl _)|exact .c wl2|exact .agg (lel_refl _)|exact .agg (by simp only[LeL];and_intros<;>first|exact True.intro|exact .refl _|exact wl2)|exact .c .nils) ?_
    (try simp only[go_sem, hn_g3, hn_g5])
    repeat first|apply wa1|apply wa2|apply wa3|apply wa4|apply wa5 rfl|apply wa6|apply wa7|(refine wb1 rfl fun R r=>?_;simp only[go_sem, hn_g3, hn_g5];with_reducible refine r _ _ ?_;clear r R)
    refine aw_alloc rfl rfl rfl (by simp only[go_sem, hn_g3, hn_g5]<;>rfl) fun g7 hn_g7 => ?_
    replace hn_g7 := Heap.ne_of hn_g7
    first | dsimp only [Heap.ne, gh] at hn_g7 | dsimp only [Heap.ne] at hn_g7 | skip
    (try simp only[go_sem, hn_g3, hn_g5, hn_g7])
    repeat first|apply wa1|apply wa2|apply wa3|apply wa4|apply wa5 rfl|apply wa6|apply wa7|(refine wb1 rfl fun R r=>?_;simp only[go_sem, hn_g3, hn_g5, hn_g7];with_reducible refine r _ _ ?_;clear r R)
    refine aw_store rfl rfl rfl rfl (by simp only[go_sem, hn_g3, hn_g5, hn_g7]<;>rfl) (by simp only[go_sem, hn_g3, hn_g5, hn_g7]<;>rfl) (by simp only[go_sem, hn_g3, hn_g5, hn_g7]<;>rfl) (by simp only[go_sem, hn_g3, hn_g5, hn_g7]<;>rfl) (fun _ e => by cases e) (by rfl) (by rfl) (by first|omega|simp) rfl ?_
    (try simp only[go_sem, hn_g3, hn_g5, hn_g7])
    repeat first|apply wa1|apply wa2|apply wa3|apply wa4|apply wa5 rfl|apply wa6|apply wa7|(refine wb1 rfl fun R r=>?_;simp only[go_sem, hn_g3, hn_g5, hn_g7];with_reducible refine r _ _ ?_;clear r R)
    refine aw_callq (checkDiagram_fa d p hs.w5 ?_ ?_ ?_) rfl rfl rfl (by first|exact True.intro|simp only[go_sem, hn_g3, hn_g5, hn_g7]<;>and_intros<;>first|exact True.intro|exact .c (.refl _)|exact .c wl2|exact .agg (lel_refl _)|exact .agg (by simp only[LeL];and_intros<;>first|exact True.intro|exact .refl _|exact wl2)|exact .c .nils) ?_
    · omega
    · omega
    · omega
    (try simp only[go_sem, hn_g3, hn_g5, hn_g7])
    repeat first|apply wa1|apply wa2|apply wa3|apply wa4|apply wa5 rfl|apply wa6|apply wa7|(refine wb1 rfl fun R r=>?_;simp only[go_sem, hn_g3, hn_g5, hn_g7];with_reducible refine r _ _ ?_;clear r R)
    refine aw_cond (by simp only[go_sem, hn_g3, hn_g5, hn_g7]<;>rfl) (fun hdp => ?_) (fun hdp => ?_)
    · have hdp' : dpcode d p = 0 := by simpa using hdp
      obtain ⟨ok, hpl, hpr⟩ := dp_ok hdp'
      have h6 := hs.o6 hdp'
      have hcode : gvcode d p y n = gcode p y n := by unfold gvcode; rw [if_neg (by simp [hdp'])]
      repeat first|apply wa1|apply wa2|apply wa3|apply wa4|apply wa5 rfl|apply wa6|apply wa7|(refine wb1 rfl fun R r=>?_;simp only[go_sem, hn_g3, hn_g5, hn_g7];with_reducible refine r _ _ ?_;clear r R)
      refine aw_callq (checkGiven_fa p y n 4 ?_ ?_ hs.w ?_) rfl rfl rfl (by first|exact True.intro|simp only[go_sem, hn_g3, hn_g5, hn_g7]<;>and_intros<;>first|exact True.intro|exact .c (.refl _)|exact .c wl2|exact .agg (lel_refl _)|exact .agg (by simp only[LeL];and_intros<;>first|exact True.intro|exact .refl _|exact wl2)|exact .c .nils) ?_
      · omega
      · omega
      · omega
      (try simp only[go_sem, hn_g3, hn_g5, hn_g7])
      repeat first|apply wa1|apply wa2|apply wa3|apply wa4|apply wa5 rfl|apply wa6|apply wa7|(refine wb1 rfl fun R r=>?_;simp only[go_sem, hn_g3, hn_g5, hn_g7];with_reducible refine r _ _ ?_;clear r R)
      refine aw_cond (by simp only[go_sem, hn_g3, hn_g5, hn_g7]<;>rfl) (fun hg => ?_) (fun hg => ?_)
      · have hg' : gcode p y n ≠ 0 := by simpa using hg
        have hz0 : decide (gvR d p y n = rd0) = true := by unfold gvR; rw [if_neg (by rw [hcode]; exact hg')]; simp
        repeat first|apply wa1|apply wa2|apply wa3|apply wa4|apply wa5 rfl|apply wa6|apply wa7|(refine wb1 rfl fun R r=>?_;simp only[go_sem, hn_g3, hn_g5, hn_g7];with_reducible refine r _ _ ?_;clear r R)
        refine aw_callq (zero37_fa (gvR d p y n) (gv_fits hs)) rfl rfl rfl (by first|exact True.intro|simp only[go_sem, hn_g3, hn_g5, hn_g7]<;>and_intros<;>first|exact True.intro|exact .c (.refl _)|exact .c wl2|exact .agg (lel_refl _)|exact .agg (by simp only[LeL];and_intros<;>first|exact True.intro|exact .refl _|exact wl2)|exact .c .nils) ?_
        (try simp only[go_sem, hn_g3, hn_g5, hn_g7])
        rw [hz0]
        repeat first|apply wa1|apply wa2|apply wa3|apply wa4|apply wa5 rfl|apply wa6|apply wa7|(refine wb1 rfl fun R r=>?_;simp only[go_sem, hn_g3, hn_g5, hn_g7];with_reducible refine r _ _ ?_;clear r R)
        refine aw_callq (num_fa (gvcode d p y n)) rfl rfl rfl (by first|exact True.intro|simp only[go_sem, hn_g3, hn_g5, hn_g7]<;>and_intros<;>first|exact True.intro|exact .c (.refl _)|exact .c wl2|exact .agg (lel_refl _)|exact .agg (by simp only[LeL];and_intros<;>first|exact True.intro|exact .refl _|exact wl2)|exact .c .nils) ?_
        (try simp only[go_sem, hn_g3, hn_g5, hn_g7])
        rw [hcode]
        repeat first|apply wa1|apply wa2|apply wa3|apply wa4|apply wa5 rfl|apply wa6|apply wa7|(refine wb1 rfl fun R r=>?_;simp only[go_sem, hn_g3, hn_g5, hn_g7];with_reducible refine r _ _ ?_;clear r R)
        (refine aw_retq hC rfl fun R r=>?_;simp only[go_sem, hn_g3, hn_g5, hn_g7];refine r _ rfl ?_;clear r R)
        exact .one (.c (ler_bool (by simp)))
      · have hg' : gcode p y n = 0 := by simpa using hg
        obtain ⟨a, b, rfl, rfl, ha, hbb⟩ := ccode_nat (y := y) (n := n) (by
          unfold gcode at hg'
          split at hg'
          · rename_i h; exact absurd hg' h
          · rename_i h; simpa using h)
        have hgood : gvR d p a b = rd (sumQ (condL a b p p.length) (tabL d) (2 ^ p.length)) := by
          unfold gvR; rw [if_pos (by rw [hcode, hg']), Int.toNat_natCast, Int.toNat_natCast]
        have k1 := ok.n4096
        rw [hcode, hg']
        repeat first|apply wa1|apply wa2|apply wa3|apply wa4|apply wa5 rfl|apply wa6|apply wa7|(refine wb1 rfl fun R r=>?_;simp only[go_sem, hn_g3, hn_g5, hn_g7];with_reducible refine r _ _ ?_;clear r R)
        refine aw_dr 11 ty_mixed (by kernel_rfl) ?_
        repeat first|apply wa1|apply wa2|apply wa3|apply wa4|apply wa5 rfl|apply wa6|apply wa7|(refine wb1 rfl fun R r=>?_;simp only[go_sem, hn_g3, hn_g5, hn_g7];with_reducible refine r _ _ ?_;clear r R)|apply wa8|(refine wd1 rfl fun R r=>?_;simp only[go_sem, hn_g3, hn_g5, hn_g7];with_reducible refine r _ _ ?_;clear r R)
        refine drk_split 45 (by simp only[go_sem, hn_g3, hn_g5, hn_g7]<;>rfl) (fun ht => ?_) (fun ht => ?_) <;> (try simp only[go_sem, hn_g3, hn_g5, hn_g7])
        · repeat first|apply wa1|apply wa2|apply wa3|apply wa4|apply wa5 rfl|apply wa6|apply wa7|(refine wb1 rfl fun R r=>?_;simp only[go_sem, hn_g3, hn_g5, hn_g7];with_reducible refine r _ _ ?_;clear r R)|apply wa8|(refine wd1 rfl fun R r=>?_;simp only[go_sem, hn_g3, hn_g5, hn_g7];with_reducible refine r _ _ ?_;clear r R)
          refine drk_call (given37_fa d p a b d.order.length ha hbb ?_ ok.ns ok.r0 ok.r1 ?_ 4 ?_ ?_ hs.w ?_ hpl) rfl rfl rfl (by first|exact True.intro|simp only[go_sem, hn_g3, hn_g5, hn_g7]<;>and_intros<;>first|exact True.intro|exact .c (.refl _)|exact .c wl2|exact .agg (lel_refl _)|exact .agg (by simp only[LeL];and_intros<;>first|exact True.intro|exact .refl _|exact wl2)|exact .c .nils) ?_
          · omega
          · omega
          · omega
          · omega
          · omega
          (try simp only[go_sem, hn_g3, hn_g5, hn_g7])
          repeat first|apply wa1|apply wa2|apply wa3|apply wa4|apply wa5 rfl|apply wa6|apply wa7|(refine wb1 rfl fun R r=>?_;simp only[go_sem, hn_g3, hn_g5, hn_g7];with_reducible refine r _ _ ?_;clear r R)|apply wa8|(refine wd1 rfl fun R r=>?_;simp only[go_sem, hn_g3, hn_g5, hn_g7];with_reducible refine r _ _ ?_;clear r R)
          refine drk_call (ratEq_fa (gvR d p a b) (rd (sumQ (condL a b p p.length) (tabL d) (2 ^ p.length))) (gv_fits hs)) rfl rfl rfl (by first|exact True.intro|simp only[go_sem, hn_g3, hn_g5, hn_g7]<;>and_intros<;>first|exact True.intro|exact .c (.refl _)|exact .c wl2|exact .agg (lel_refl _)|exact .agg (by simp only[LeL];and_intros<;>first|exact True.intro|exact .refl _|exact wl2)|exact .c .nils) ?_
          (try simp only[go_sem, hn_g3, hn_g5, hn_g7])
          rw [rdec_eq hgood]
          repeat first|apply wa1|apply wa2|apply wa3|apply wa4|apply wa5 rfl|apply wa6|apply wa7|(refine wb1 rfl fun R r=>?_;simp only[go_sem, hn_g3, hn_g5, hn_g7];with_reducible refine r _ _ ?_;clear r R)|apply wa8|(refine wd1 rfl fun R r=>?_;simp only[go_sem, hn_g3, hn_g5, hn_g7];with_reducible refine r _ _ ?_;clear r R)
          (refine aw_retq hC rfl fun R r=>?_;simp only[go_sem, hn_g3, hn_g5, hn_g7];refine r _ rfl ?_;clear r R)
          exact .one (.c (ler_bool rfl))
        · simp at ht
    · have hdp' : dpcode d p ≠ 0 := by simpa using hdp
      have hcode : gvcode d p y n = dpcode d p := by unfold gvcode; rw [if_pos hdp']
      have hz0 : decide (gvR d p y n = rd0) = true := by unfold gvR; rw [if_neg (by rw [hcode]; exact hdp')]; simp
      have hne : (dpcode d p != 0) = true := by simpa using hdp'
      repeat first|apply wa1|apply wa2|apply wa3|apply wa4|apply wa5 rfl|apply wa6|apply wa7|(refine wb1 rfl fun R r=>?_;simp only[go_sem, hn_g3, hn_g5, hn_g7, hne];with_reducible refine r _ _ ?_;clear r R)|apply wa8|(refine wd1 rfl fun R r=>?_;simp only[go_sem, hn_g3, hn_g5, hn_g7, hne];with_reducible refine r _ _ ?_;clear r R)
      refine aw_condT (by simp only[go_sem, hn_g3, hn_g5, hn_g7, hne]<;>rfl) ?_
      repeat first|apply wa1|apply wa2|apply wa3|apply wa4|apply wa5 rfl|apply wa6|apply wa7|(refine wb1 rfl fun R r=>?_;simp only[go_sem, hn_g3, hn_g5, hn_g7, hne];with_reducible refine r _ _ ?_;clear r R)|apply wa8|(refine wd1 rfl fun R r=>?_;simp only[go_sem, hn_g3, hn_g5, hn_g7, hne];with_reducible refine r _ _ ?_;clear r R)
      refine aw_callq (zero37_fa (gvR d p y n) (gv_fits hs)) rfl rfl rfl (by first|exact True.intro|simp only[go_sem, hn_g3, hn_g5, hn_g7, hne]<;>and_intros<;>first|exact True.intro|exact .c (.refl _)|exact .c wl2|exact .agg (lel_refl _)|exact .agg (by simp only[LeL];and_intros<;>first|exact True.intro|exact .refl _|exact wl2)|exact .c .nils) ?_
      (try simp only[go_sem, hn_g3, hn_g5, hn_g7, hne])
      rw [hz0]
      repeat first|apply wa1|apply wa2|apply wa3|apply wa4|apply wa5 rfl|apply wa6|apply wa7|(refine wb1 rfl fun R r=>?_;simp only[go_sem, hn_g3, hn_g5, hn_g7, hne];with_reducible refine r _ _ ?_;clear r R)|apply wa8|(refine wd1 rfl fun R r=>?_;simp only[go_sem, hn_g3, hn_g5, hn_g7, hne];with_reducible refine r _ _ ?_;clear r R)
      refine aw_callq (num_fa (gvcode d p y n)) rfl rfl rfl (by first|exact True.intro|simp only[go_sem, hn_g3, hn_g5, hn_g7, hne]<;>and_intros<;>first|exact True.intro|exact .c (.refl _)|exact .c wl2|exact .agg (lel_refl _)|exact .agg (by simp only[LeL];and_intros<;>first|exact True.intro|exact .refl _|exact wl2)|exact .c .nils) ?_
      (try simp only[go_sem, hn_g3, hn_g5, hn_g7, hne])
      rw [hcode]
      repeat first|apply wa1|apply wa2|apply wa3|apply wa4|apply wa5 rfl|apply wa6|apply wa7|(refine wb1 rfl fun R r=>?_;simp only[go_sem, hn_g3, hn_g5, hn_g7, hne];with_reducible refine r _ _ ?_;clear r R)
      (refine aw_retq hC rfl fun R r=>?_;simp only[go_sem, hn_g3, hn_g5, hn_g7, hne];refine r _ rfl ?_;clear r R)
      exact .one (.c (ler_bool (by simp)))
end Go.Proofs.YtmkomfdiggcloaaGreat
