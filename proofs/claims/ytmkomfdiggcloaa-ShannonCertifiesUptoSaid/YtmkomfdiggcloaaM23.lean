/- Texts of one proof, laid one behind the other by a program (merge.py): Law4. -/
import Derived.Test.YtmkomfdiggcloaaM21
import Derived.Test.YtmkomfdiggcloaaM22
set_option linter.unusedSimpArgs false
set_option linter.unusedVariables false
/- faultlinelaw37: valid, ShannonTotal. -/
namespace Go.Proofs.Ytmkomfdiggcloaa
open Go.AI Go.PN
attribute [local irreducible] aw Fa Fh DrK
abbrev validB (d : DG) (p : List RD) : Bool := !largeB d p && (dpcode d p == 0)
set_option maxHeartbeats 800000 in
theorem valid37_fa (d : DG) (p : List RD) (hw : WordsOk p) (hl : p.length ≤ 1099511627776) (hl1 : d.order.length ≤ 1099511627776) (hl2 : d.nodes.length ≤ 1099511627776) : Fa Try.prog 6 [.agg (dgc false d), .c (rats false p)] (.c (.bool (validB d p))) := by
  refine fa_of_body Try.func6 rfl rfl (by simp [Try.ntmps6]) fun C hC => ?_
  simp only [initS, Nat.reduceAdd]
  repeat first|apply wa1|apply wa2|apply wa3|apply wa4|apply wa5 rfl|apply wa6|apply wa7|(refine wb1 rfl fun R r=>?_;simp only[go_sem];with_reducible refine r _ _ ?_;clear r R)
  refine aw_box rfl rfl rfl (by simp only[go_sem]<;>rfl) (fun _ e => by cases e) rfl fun g2 hn_g2 => ?_
  replace hn_g2 := Heap.ne_of hn_g2
  first | dsimp only [Heap.ne, gh] at hn_g2 | dsimp only [Heap.ne] at hn_g2 | skip
  (try simp only[go_sem, hn_g2])
  repeat first|apply wa1|apply wa2|apply wa3|apply wa4|apply wa5 rfl|apply wa6|apply wa7|(refine wb1 rfl fun R r=>?_;simp only[go_sem, hn_g2];with_reducible refine r _ _ ?_;clear r R)
  refine aw_callq (large_fa d p hl hl1 hl2) rfl rfl rfl (by first|exact True.intro|simp only[go_sem, hn_g2]<;>and_intros<;>first|exact True.intro|exact .c (.refl _)|exact .c wl2|exact .agg (lel_refl _)|exact .agg (by simp only[LeL];and_intros<;>first|exact True.intro|exact .refl _|exact wl2)|exact .c .nils) ?_
  (try simp only[go_sem, hn_g2])
  repeat first|apply wa1|apply wa2|apply wa3|apply wa4|apply wa5 rfl|apply wa6|apply wa7|(refine wb1 rfl fun R r=>?_;simp only[go_sem, hn_g2];with_reducible refine r _ _ ?_;clear r R)
  refine aw_split 9 (by simp only[go_sem, hn_g2]<;>rfl) (fun hb => ?_) (fun hb => ?_) <;> (try simp only[go_sem, hn_g2])
  · have hb' : largeB d p = false := by simpa using hb
    have hs := small_of hw hl2 hb'
    have s1 := hs.l
    have s2 := hs.o
    repeat first|apply wa1|apply wa2|apply wa3|apply wa4|apply wa5 rfl|apply wa6|apply wa7|(refine wb1 rfl fun R r=>?_;simp only[go_sem, hn_g2];with_reducible refine r _ _ ?_;clear r R)
    refine aw_callq (checkDiagram_fa d p hs.w5 ?_ ?_ ?_) rfl rfl rfl (by first|exact True.intro|simp only[go_sem, hn_g2]<;>and_intros<;>first|exact True.intro|exact .c (.refl _)|exact .c wl2|exact .agg (lel_refl _)|exact .agg (by simp only[LeL];and_intros<;>first|exact True.intro|exact .refl _|exact wl2)|exact .c .nils) ?_
    · omega
    · omega
    · omega
    (try simp only[go_sem, hn_g2])
    repeat first|apply wa1|apply wa2|apply wa3|apply wa4|apply wa5 rfl|apply wa6|apply wa7|(refine wb1 rfl fun R r=>?_;simp only[go_sem, hn_g2];with_reducible refine r _ _ ?_;clear r R)
    (refine aw_retq hC rfl fun R r=>?_;simp only[go_sem, hn_g2];refine r _ rfl ?_;clear r R)
    exact .one (.c (ler_bool (by unfold validB; rw [hb']; rfl)))
  · have hb' : largeB d p = true := by simpa using hb
    repeat first|apply wa1|apply wa2|apply wa3|apply wa4|apply wa5 rfl|apply wa6|apply wa7|(refine wb1 rfl fun R r=>?_;simp only[go_sem, hn_g2];with_reducible refine r _ _ ?_;clear r R)
    (refine aw_retq hC rfl fun R r=>?_;simp only[go_sem, hn_g2];refine r _ rfl ?_;clear r R)
    exact .one (.c (ler_bool (by unfold validB; rw [hb']; rfl)))
theorem valid_ok {d : DG} {p : List RD} (h : validB d p = true) : largeB d p = false ∧ dpcode d p = 0 := by
  unfold validB at h
  rw [Bool.and_eq_true] at h
  exact ⟨by simpa using h.1, by simpa using h.2⟩
theorem sum_wf {d : DG} {p q : List RD} (hs : Small d p) (h0 : dpcode d p = 0) (hl : q.length = p.length) (hw : ∀ r ∈ q, r.wf 4) : (rd (sumQ q (tabL d) (2 ^ p.length))).wf 4000 := by
  have h6 := hs.o6 h0
  obtain ⟨ok, hpl, _⟩ := dp_ok h0
  refine rd_wf (fits_mono (fits_sum (L := 4) (by omega) hw _) ?_)
  have h3 : 2 ^ p.length ≤ 2 ^ 6 := Nat.pow_le_pow_right (by omega) (by omega)
  have h4 := Nat.mul_le_mul (show (2 * 4 + 2) * q.length + 2 ≤ 62 from by omega) h3
  omega
theorem fits_of {q : Rat} {L : Nat} (hL : 1 ≤ L) (h : (rd q).wf L) : fits q L := by
  have := RD.fits h hL
  rwa [rd_q] at this
set_option maxRecDepth 100000 in
set_option maxHeartbeats 3200000 in
theorem lawTotal_fa (haw : Fa Try.prog 5 [] (.c (.bool true))) (d : DG) (p : List RD) (i : Int) (hw : WordsOk p) (hl : p.length ≤ 1099511627776) (hl1 : d.order.length ≤ 1099511627776) (hl2 : d.nodes.length ≤ 1099511627776) :
    Fa Try.prog 3 [.agg (dgc false d), .c (rats false p), .c (.int .i64 i)] (.c (.bool true)) := by
  refine fa_of_body Try.func3 rfl rfl (by simp [Try.ntmps3]) fun C hC => ?_
  simp only [initS, Nat.reduceAdd]
  repeat first|apply wa1|apply wa2|apply wa3|apply wa4|apply wa5 rfl|apply wa6|apply wa7|(refine wb1 rfl fun R r=>?_;simp only[go_sem];with_reducible refine r _ _ ?_;clear r R)
  refine aw_box rfl rfl rfl (by simp only[go_sem]<;>rfl) (fun _ e => by cases e) rfl fun g3 hn_g3 => ?_
  replace hn_g3 := Heap.ne_of hn_g3
  first | dsimp only [Heap.ne, gh] at hn_g3 | dsimp only [Heap.ne] at hn_g3 | skip
  (try simp only[go_sem, hn_g3])
  repeat first|apply wa1|apply wa2|apply wa3|apply wa4|apply wa5 rfl|apply wa6|apply wa7|(refine wb1 rfl fun R r=>?_;simp only[go_sem, hn_g3];with_reducible refine r _ _ ?_;clear r R)
  refine aw_callq (haw) rfl rfl rfl (by first|exact True.intro|simp only[go_sem, hn_g3]<;>and_intros<;>first|exact True.intro|exact .c (.refl _)|exact .c wl2|exact .agg (lel_refl _)|exact .agg (by simp only[LeL];and_intros<;>first|exact True.intro|exact .refl _|exact wl2)|exact .c .nils) ?_
  (try simp only[go_sem, hn_g3])
  repeat first|apply wa1|apply wa2|apply wa3|apply wa4|apply wa5 rfl|apply wa6|apply wa7|(refine wb1 rfl fun R r=>?_;simp only[go_sem, hn_g3];with_reducible refine r _ _ ?_;clear r R)
  refine aw_callq (valid37_fa d p hw hl hl1 hl2) rfl rfl rfl (by first|exact True.intro|simp only[go_sem, hn_g3]<;>and_intros<;>first|exact True.intro|exact .c (.refl _)|exact .c wl2|exact .agg (lel_refl _)|exact .agg (by simp only[LeL];and_intros<;>first|exact True.intro|exact .refl _|exact wl2)|exact .c .nils) ?_
  (try simp only[go_sem, hn_g3])
  repeat first|apply wa1|apply wa2|apply wa3|apply wa4|apply wa5 rfl|apply wa6|apply wa7|(refine wb1 rfl fun R r=>?_;simp only[go_sem, hn_g3];with_reducible refine r _ _ ?_;clear r R)
  refine aw_split 22 (by simp only[go_sem, hn_g3]<;>rfl) (fun hv => ?_) (fun hv => ?_) <;> (try simp only[go_sem, hn_g3])
  · repeat first|apply wa1|apply wa2|apply wa3|apply wa4|apply wa5 rfl|apply wa6|apply wa7|(refine wb1 rfl fun R r=>?_;simp only[go_sem, hn_g3];with_reducible refine r _ _ ?_;clear r R)
    refine aw_condT (by simp only[go_sem, hn_g3]<;>rfl) ?_
    repeat first|apply wa1|apply wa2|apply wa3|apply wa4|apply wa5 rfl|apply wa6|apply wa7|(refine wb1 rfl fun R r=>?_;simp only[go_sem, hn_g3];with_reducible refine r _ _ ?_;clear r R)
    refine aw_callq (haw) rfl rfl rfl (by first|exact True.intro|simp only[go_sem, hn_g3]<;>and_intros<;>first|exact True.intro|exact .c (.refl _)|exact .c wl2|exact .agg (lel_refl _)|exact .agg (by simp only[LeL];and_intros<;>first|exact True.intro|exact .refl _|exact wl2)|exact .c .nils) ?_
    (try simp only[go_sem, hn_g3])
    repeat first|apply wa1|apply wa2|apply wa3|apply wa4|apply wa5 rfl|apply wa6|apply wa7|(refine wb1 rfl fun R r=>?_;simp only[go_sem, hn_g3];with_reducible refine r _ _ ?_;clear r R)
    (refine aw_retq hC rfl fun R r=>?_;simp only[go_sem, hn_g3];refine r _ rfl ?_;clear r R)
    exact .one (.c (.bool _))
  repeat first|apply wa1|apply wa2|apply wa3|apply wa4|apply wa5 rfl|apply wa6|apply wa7|(refine wb1 rfl fun R r=>?_;simp only[go_sem, hn_g3];with_reducible refine r _ _ ?_;clear r R)
  refine aw_split 26 (by simp only[go_sem, hn_g3]<;>rfl) (fun hi0 => ?_) (fun hi0 => ?_) <;> (try simp only[go_sem, hn_g3])
  · repeat first|apply wa1|apply wa2|apply wa3|apply wa4|apply wa5 rfl|apply wa6|apply wa7|(refine wb1 rfl fun R r=>?_;simp only[go_sem, hn_g3];with_reducible refine r _ _ ?_;clear r R)
    refine aw_condT (by simp only[go_sem, hn_g3]<;>rfl) ?_
    repeat first|apply wa1|apply wa2|apply wa3|apply wa4|apply wa5 rfl|apply wa6|apply wa7|(refine wb1 rfl fun R r=>?_;simp only[go_sem, hn_g3];with_reducible refine r _ _ ?_;clear r R)
    refine aw_callq (haw) rfl rfl rfl (by first|exact True.intro|simp only[go_sem, hn_g3]<;>and_intros<;>first|exact True.intro|exact .c (.refl _)|exact .c wl2|exact .agg (lel_refl _)|exact .agg (by simp only[LeL];and_intros<;>first|exact True.intro|exact .refl _|exact wl2)|exact .c .nils) ?_
    (try simp only[go_sem, hn_g3])
    repeat first|apply wa1|apply wa2|apply wa3|apply wa4|apply wa5 rfl|apply wa6|apply wa7|(refine wb1 rfl fun R r=>?_;simp only[go_sem, hn_g3];with_reducible refine r _ _ ?_;clear r R)
    (refine aw_retq hC rfl fun R r=>?_;simp only[go_sem, hn_g3];refine r _ rfl ?_;clear r R)
    exact .one (.c (.bool _))
  repeat first|apply wa1|apply wa2|apply wa3|apply wa4|apply wa5 rfl|apply wa6|apply wa7|(refine wb1 rfl fun R r=>?_;simp only[go_sem, hn_g3];with_reducible refine r _ _ ?_;clear r R)
  refine aw_cond (by simp only[go_sem, hn_g3]<;>rfl) (fun hi1 => ?_) (fun hi1 => ?_)
  · repeat first|apply wa1|apply wa2|apply wa3|apply wa4|apply wa5 rfl|apply wa6|apply wa7|(refine wb1 rfl fun R r=>?_;simp only[go_sem, hn_g3];with_reducible refine r _ _ ?_;clear r R)
    refine aw_callq (haw) rfl rfl rfl (by first|exact True.intro|simp only[go_sem, hn_g3]<;>and_intros<;>first|exact True.intro|exact .c (.refl _)|exact .c wl2|exact .agg (lel_refl _)|exact .agg (by simp only[LeL];and_intros<;>first|exact True.intro|exact .refl _|exact wl2)|exact .c .nils) ?_
    (try simp only[go_sem, hn_g3])
    repeat first|apply wa1|apply wa2|apply wa3|apply wa4|apply wa5 rfl|apply wa6|apply wa7|(refine wb1 rfl fun R r=>?_;simp only[go_sem, hn_g3];with_reducible refine r _ _ ?_;clear r R)
    (refine aw_retq hC rfl fun R r=>?_;simp only[go_sem, hn_g3];refine r _ rfl ?_;clear r R)
    exact .one (.c (.bool _))
  obtain ⟨hb, hdp⟩ := valid_ok (show validB d p = true from by simpa using hv)
  have hs := small_of hw hl2 hb
  obtain ⟨ok, hpl, hpr⟩ := dp_ok hdp
  have h6 := hs.o6 hdp
  replace hi0 := of_decide_eq_false hi0
  replace hi1 := of_decide_eq_false hi1
  obtain ⟨k, rfl⟩ : ∃ k : Nat, i = k := ⟨i.toNat, by omega⟩
  have hk : k < p.length := by omega
  have hxw : (p.getD k rd0).wf 4 := getD_wf hs.w k
  have htot := total_law p (tabL d) hk
  have hyw : (rd (sumQ (condL (2 ^ k) 0 p p.length) (tabL d) (2 ^ p.length))).wf 4000 := sum_wf hs hdp (condL_len _ _ _ _) (condL_wf (by omega) hs.w _)
  have hzw : (rd (sumQ (condL 0 (2 ^ k) p p.length) (tabL d) (2 ^ p.length))).wf 4000 := sum_wf hs hdp (condL_len _ _ _ _) (condL_wf (by omega) hs.w _)
  have hpw : (rd (sumQ p (tabL d) (2 ^ p.length))).wf 4000 := sum_wf hs hdp rfl hs.w
  have hgy : (p.getD k rd0).q ≠ 0 → gvcode d p ((2 ^ k : Nat) : Int) 0 = 0 ∧ gvR d p ((2 ^ k : Nat) : Int) 0 = rd (sumQ (condL (2 ^ k) 0 p p.length) (tabL d) (2 ^ p.length)) := fun hq => by
    have hc : gvcode d p ((2 ^ k : Nat) : Int) 0 = 0 := by unfold gvcode; rw [if_neg (fun h => h hdp)]; exact gcode_yes hk (by omega) hq
    refine ⟨hc, ?_⟩
    unfold gvR
    rw [if_pos hc, Int.toNat_natCast]; rfl
  have hgz : 1 - (p.getD k rd0).q ≠ 0 → gvcode d p 0 ((2 ^ k : Nat) : Int) = 0 ∧ gvR d p 0 ((2 ^ k : Nat) : Int) = rd (sumQ (condL 0 (2 ^ k) p p.length) (tabL d) (2 ^ p.length)) := fun hq => by
    have hc : gvcode d p 0 ((2 ^ k : Nat) : Int) = 0 := by unfold gvcode; rw [if_neg (fun h => h hdp)]; exact gcode_no hk (by omega) hq
    refine ⟨hc, ?_⟩
    unfold gvR
    rw [if_pos hc, Int.toNat_natCast]; rfl
  have hpr1 := sprobability_fa d p hs
  rw [if_pos hdp, hdp] at hpr1
  generalize sumQ (condL (2 ^ k) 0 p p.length) (tabL d) (2 ^ p.length) = Y at *
  generalize sumQ (condL 0 (2 ^ k) p p.length) (tabL d) (2 ^ p.length) = Z at *
  generalize sumQ p (tabL d) (2 ^ p.length) = X at *
  have hsl := shl_one k (by omega)
  repeat first|apply wa1|apply wa2|apply wa3|apply wa4|apply wa5 rfl|apply wa6|apply wa7|(refine wb1 rfl fun R r=>?_;simp only[go_sem, hn_g3, hsl];with_reducible refine r _ _ ?_;clear r R)
  refine aw_drB 7 ty_mixed (by kernel_rfl) ?_
  refine drb_call (sof_fa 1 (by omega) (by omega)) rfl rfl rfl (by first|exact True.intro|simp only[go_sem, hn_g3, hsl]<;>and_intros<;>first|exact True.intro|exact .c (.refl _)|exact .c wl2|exact .agg (lel_refl _)|exact .agg (by simp only[LeL];and_intros<;>first|exact True.intro|exact .refl _|exact wl2)|exact .c .nils) ?_
  (try simp only[go_sem, hn_g3, hsl])
  repeat first | (refine drb_2q true rfl (fun R hR => ?_); simp only [go_sem, hn_g3, hsl]; (with_reducible refine hR _ _ ?_ ?_); (focus (((try simp only [inRange]) <;> and_intros <;> first | exact True.intro | omega | trivial); done)); clear hR R) | fail
  refine drb_call (ssub_fa (rd ((1 : Int) : Rat)) (p.getD k rd0) (one_wf' (by omega)) (wf_mono hxw (by omega))) rfl rfl rfl (by first|exact True.intro|simp only[go_sem, hn_g3, hsl]<;>and_intros<;>first|exact True.intro|exact .c (.refl _)|exact .c wl2|exact .agg (lel_refl _)|exact .agg (by simp only[LeL];and_intros<;>first|exact True.intro|exact .refl _|exact wl2)|exact .c .nils) ?_
  (try simp only[go_sem, hn_g3, hsl])
  refine drb_new rfl (NewX.alloc rfl rfl rfl (by simp only[go_sem, hn_g3, hsl]<;>rfl)) (by kernel_rfl) ?_
  (try simp only[go_sem, hn_g3, hsl])
  refine drb_nil fun γ => ?_
  (try simp only[go_sem, hn_g3, hsl])
  generalize γ 6 = g7
  refine aw_fresh fun hn_g7 => ?_
  replace hn_g7 := Heap.ne_of hn_g7
  dsimp only [Heap.ne] at hn_g7
  rw [rd_q, show ((1 : Int) : Rat) = 1 from rfl]
  have hxf := RD.fits hxw (by omega)
  have hqf : fits (1 - (p.getD k rd0).q) 6 := fits_mono (fits_sub fits_one hxf) (by omega)
  have hXf := fits_of (by omega) hpw
  have hYf := fits_of (by omega) hyw
  have hZf := fits_of (by omega) hzw
  generalize hxx : p.getD k rd0 = x at *
  repeat first|apply wa7|(refine wb1 rfl fun R r=>?_;simp only[go_sem, hn_g3, hsl, hn_g7, hxx];with_reducible refine r _ _ ?_;clear r R)
  refine aw_store rfl rfl rfl rfl (by simp only[go_sem, hn_g3, hsl, hn_g7, hxx]<;>rfl) (by simp only[go_sem, hn_g3, hsl, hn_g7, hxx]<;>rfl) (by simp only[go_sem, hn_g3, hsl, hn_g7, hxx]<;>rfl) (by simp only[go_sem, hn_g3, hsl, hn_g7, hxx]<;>rfl) (fun _ e => by cases e) (by rfl) (by rfl) (by first|omega|simp) rfl ?_
  (try simp only[go_sem, hn_g3, hsl, hn_g7, hxx])
  repeat first|apply wa1|apply wa2|apply wa3|apply wa4|apply wa5 rfl|apply wa6|apply wa7|(refine wb1 rfl fun R r=>?_;simp only[go_sem, hn_g3, hsl, hn_g7, hxx];with_reducible refine r _ _ ?_;clear r R)
  refine aw_callq (ssign_fa x (wf_mono hxw ?_)) rfl rfl rfl (by first|exact True.intro|simp only[go_sem, hn_g3, hsl, hn_g7, hxx]<;>and_intros<;>first|exact True.intro|exact .c (.refl _)|exact .c wl2|exact .agg (lel_refl _)|exact .agg (by simp only[LeL];and_intros<;>first|exact True.intro|exact .refl _|exact wl2)|exact .c .nils) ?_
  · omega
  (try simp only[go_sem, hn_g3, hsl, hn_g7, hxx])
  repeat first|apply wa1|apply wa2|apply wa3|apply wa4|apply wa5 rfl|apply wa6|apply wa7|(refine wb1 rfl fun R r=>?_;simp only[go_sem, hn_g3, hsl, hn_g7, hxx];with_reducible refine r _ _ ?_;clear r R)
  refine aw_split 45 (by simp only[go_sem, hn_g3, hsl, hn_g7, hxx]<;>rfl) (fun hs0 => ?_) (fun hs0 => ?_) <;> (try simp only[go_sem, hn_g3, hsl, hn_g7, hxx])
  · repeat first|apply wa1|apply wa2|apply wa3|apply wa4|apply wa5 rfl|apply wa6|apply wa7|(refine wb1 rfl fun R r=>?_;simp only[go_sem, hn_g3, hsl, hn_g7, hxx];with_reducible refine r _ _ ?_;clear r R)
    refine aw_condT (by simp only[go_sem, hn_g3, hsl, hn_g7, hxx]<;>rfl) ?_
    repeat first|apply wa1|apply wa2|apply wa3|apply wa4|apply wa5 rfl|apply wa6|apply wa7|(refine wb1 rfl fun R r=>?_;simp only[go_sem, hn_g3, hsl, hn_g7, hxx];with_reducible refine r _ _ ?_;clear r R)
    (refine aw_retq hC rfl fun R r=>?_;simp only[go_sem, hn_g3, hsl, hn_g7, hxx];refine r _ rfl ?_;clear r R)
    exact .one (.c (.bool _))
  repeat first|apply wa1|apply wa2|apply wa3|apply wa4|apply wa5 rfl|apply wa6|apply wa7|(refine wb1 rfl fun R r=>?_;simp only[go_sem, hn_g3, hsl, hn_g7, hxx];with_reducible refine r _ _ ?_;clear r R)
  refine aw_callq (ssign_fa (rd (1 - x.q)) (rd_wf (fits_mono hqf ?_))) rfl rfl rfl (by first|exact True.intro|simp only[go_sem, hn_g3, hsl, hn_g7, hxx]<;>and_intros<;>first|exact True.intro|exact .c (.refl _)|exact .c wl2|exact .agg (lel_refl _)|exact .agg (by simp only[LeL];and_intros<;>first|exact True.intro|exact .refl _|exact wl2)|exact .c .nils) ?_
  · omega
  (try simp only[go_sem, hn_g3, hsl, hn_g7, hxx])
  rw [rd_q]
  repeat first|apply wa1|apply wa2|apply wa3|apply wa4|apply wa5 rfl|apply wa6|apply wa7|(refine wb1 rfl fun R r=>?_;simp only[go_sem, hn_g3, hsl, hn_g7, hxx];with_reducible refine r _ _ ?_;clear r R)
  refine aw_cond (by simp only[go_sem, hn_g3, hsl, hn_g7, hxx]<;>rfl) (fun hs1 => ?_) (fun hs1 => ?_)
  · repeat first|apply wa1|apply wa2|apply wa3|apply wa4|apply wa5 rfl|apply wa6|apply wa7|(refine wb1 rfl fun R r=>?_;simp only[go_sem, hn_g3, hsl, hn_g7, hxx];with_reducible refine r _ _ ?_;clear r R)
    (refine aw_retq hC rfl fun R r=>?_;simp only[go_sem, hn_g3, hsl, hn_g7, hxx];refine r _ rfl ?_;clear r R)
    exact .one (.c (.bool _))
  obtain ⟨c1, r1⟩ := hgy (fun e => by rw [e] at hs0; simp [signQ] at hs0)
  obtain ⟨c2, r2⟩ := hgz (fun e => by rw [e] at hs1; simp [signQ] at hs1)
  have hy := sgiven_fa d p ((2 ^ k : Nat) : Int) 0 hs
  rw [c1, r1] at hy
  have hz := sgiven_fa d p 0 ((2 ^ k : Nat) : Int) hs
  rw [c2, r2] at hz
  change Fa Try.prog _ _ (.tup [_, .c .nilI]) at hpr1
  change Fa Try.prog _ _ (.tup [_, .c .nilI]) at hy
  change Fa Try.prog _ _ (.tup [_, .c .nilI]) at hz
  repeat first|apply wa1|apply wa2|apply wa3|apply wa4|apply wa5 rfl|apply wa6|apply wa7|(refine wb1 rfl fun R r=>?_;simp only[go_sem, hn_g3, hsl, hn_g7, hxx];with_reducible refine r _ _ ?_;clear r R)
  refine aw_callq (hpr1) rfl rfl rfl (by first|exact True.intro|simp only[go_sem, hn_g3, hsl, hn_g7, hxx]<;>and_intros<;>first|exact True.intro|exact .c (.refl _)|exact .c wl2|exact .agg (lel_refl _)|exact .agg (by simp only[LeL];and_intros<;>first|exact True.intro|exact .refl _|exact wl2)|exact .c .nils) ?_
  (try simp only[go_sem, hn_g3, hsl, hn_g7, hxx])
  repeat first|apply wa1|apply wa2|apply wa3|apply wa4|apply wa5 rfl|apply wa6|apply wa7|(refine wb1 rfl fun R r=>?_;simp only[go_sem, hn_g3, hsl, hn_g7, hxx];with_reducible refine r _ _ ?_;clear r R)
  refine aw_alloc rfl rfl rfl (by simp only[go_sem, hn_g3, hsl, hn_g7, hxx]<;>rfl) fun g8 hn_g8 => ?_
  replace hn_g8 := Heap.ne_of hn_g8
  first | dsimp only [Heap.ne, gh] at hn_g8 | dsimp only [Heap.ne] at hn_g8 | skip
  (try simp only[go_sem, hn_g3, hsl, hn_g7, hxx, hn_g8])
  repeat first|apply wa1|apply wa2|apply wa3|apply wa4|apply wa5 rfl|apply wa6|apply wa7|(refine wb1 rfl fun R r=>?_;simp only[go_sem, hn_g3, hsl, hn_g7, hxx, hn_g8];with_reducible refine r _ _ ?_;clear r R)
  refine aw_store rfl rfl rfl rfl (by simp only[go_sem, hn_g3, hsl, hn_g7, hxx, hn_g8]<;>rfl) (by simp only[go_sem, hn_g3, hsl, hn_g7, hxx, hn_g8]<;>rfl) (by simp only[go_sem, hn_g3, hsl, hn_g7, hxx, hn_g8]<;>rfl) (by simp only[go_sem, hn_g3, hsl, hn_g7, hxx, hn_g8]<;>rfl) (fun _ e => by cases e) (by rfl) (by rfl) (by first|omega|simp) rfl ?_
  (try simp only[go_sem, hn_g3, hsl, hn_g7, hxx, hn_g8])
  repeat first|apply wa1|apply wa2|apply wa3|apply wa4|apply wa5 rfl|apply wa6|apply wa7|(refine wb1 rfl fun R r=>?_;simp only[go_sem, hn_g3, hsl, hn_g7, hxx, hn_g8];with_reducible refine r _ _ ?_;clear r R)
  refine aw_cut (fun g : Nat => [(1, .c (rats false p)), (2, .c (.int .i64 k)), (3, .c (.optr g3 0)), (7, .c (.optr g7 0)), (8, .c (.optr g8 0)), (9, .c .nilI), (10, .c (.optr g 0)), (11, .c .nilI)]) (fun g => [(g, .cells 31 3 (ofL (rdc (rd Y)))), (g8, .cells 31 3 (ofL (rdc (rd X)))), (g7, .cells 31 3 (ofL (rdc (rd (1 - x.q))))), (g3, .cells 25 3 (ofL (dgc false d)))]) (fun g => g ∉ Heap.keys [(g8, .cells 0 0 (ofL [])), (g7, .cells 0 0 (ofL [])), (g3, .cells 0 0 (ofL []))]) ?_ ?_
  · refine aw_drL 10 8 64 ty_mixed (by kernel_rfl) ?_
    repeat (refine drg_2q rfl fun R r=>?_;simp only[go_sem, hn_g3, hsl, hn_g7, hxx, hn_g8];with_reducible refine r _ _ ?_;clear r R)
    refine drg_call (hy) rfl rfl rfl (by first|exact True.intro|simp only[go_sem, hn_g3, hsl, hn_g7, hxx, hn_g8]<;>and_intros<;>first|exact True.intro|exact .c (.refl _)|exact .c wl2|exact .agg (lel_refl _)|exact .agg (by simp only[LeL];and_intros<;>first|exact True.intro|exact .refl _|exact wl2)|exact .c .nils) ?_
    (try simp only[go_sem, hn_g3, hsl, hn_g7, hxx, hn_g8])
    repeat (refine drg_2q rfl fun R r=>?_;simp only[go_sem, hn_g3, hsl, hn_g7, hxx, hn_g8];with_reducible refine r _ _ ?_;clear r R)
    refine drg_new rfl (NewX.alloc rfl rfl rfl (by simp only[go_sem, hn_g3, hsl, hn_g7, hxx, hn_g8]<;>rfl)) (by kernel_rfl) ?_
    (try simp only[go_sem, hn_g3, hsl, hn_g7, hxx, hn_g8])
    refine drg_nil ⟨by simp, fun γ => ?_, fun γ => ?_⟩
    · simp only [List.drop_succ_cons, List.drop_zero, List.nil_append, List.cons_append]
      (try simp only[go_sem, hn_g3, hsl, hn_g7, hxx, hn_g8])
      try simp only [List.nil_append, List.cons_append]
      generalize γ 9 = g
      refine aw_fresh fun hn => ?_
      repeat first|apply wa7|(refine wb1 rfl fun R r=>?_;simp only[go_sem, hn_g3, hsl, hn_g7, hxx, hn_g8];with_reducible refine r _ _ ?_;clear r R)|apply wa8|(refine wd1 rfl fun R r=>?_;simp only[go_sem, hn_g3, hsl, hn_g7, hxx, hn_g8];with_reducible refine r _ _ ?_;clear r R)
      refine aw_store rfl rfl rfl rfl (by simp only[go_sem, hn_g3, hsl, hn_g7, hxx, hn_g8]<;>rfl) (by simp only[go_sem, hn_g3, hsl, hn_g7, hxx, hn_g8]<;>rfl) (by simp only[go_sem, hn_g3, hsl, hn_g7, hxx, hn_g8]<;>rfl) (by simp only[go_sem, hn_g3, hsl, hn_g7, hxx, hn_g8]<;>rfl) (fun _ e => by cases e) (by rfl) (by rfl) (by first|omega|simp) rfl ?_
      (try simp only[go_sem, hn_g3, hsl, hn_g7, hxx, hn_g8])
      repeat first|apply wa7|(refine wb1 rfl fun R r=>?_;simp only[go_sem, hn_g3, hsl, hn_g7, hxx, hn_g8];with_reducible refine r _ _ ?_;clear r R)
      exact aw_stop ⟨g, (by simp only[go_sem, hn_g3, hsl, hn_g7, hxx, hn_g8]<;>and_intros<;>first|exact True.intro|(with_reducible rfl)|exact c_int (by omega)|rfl), (List.Sublist.refl _), hn⟩
    · simp only [List.drop_succ_cons, List.drop_zero, List.take_succ_cons, List.take_zero, List.nil_append, List.cons_append]
      (try simp only[go_sem, hn_g3, hsl, hn_g7, hxx, hn_g8])
      try simp only [List.nil_append, List.cons_append]
      generalize γ 9 = g
      refine aw_fresh fun hn => ?_
      repeat first|apply wa7|(refine wb1 rfl fun R r=>?_;simp only[go_sem, hn_g3, hsl, hn_g7, hxx, hn_g8];with_reducible refine r _ _ ?_;clear r R)
      refine aw_store rfl rfl rfl rfl (by simp only[go_sem, hn_g3, hsl, hn_g7, hxx, hn_g8]<;>rfl) (by simp only[go_sem, hn_g3, hsl, hn_g7, hxx, hn_g8]<;>rfl) (by simp only[go_sem, hn_g3, hsl, hn_g7, hxx, hn_g8]<;>rfl) (by simp only[go_sem, hn_g3, hsl, hn_g7, hxx, hn_g8]<;>rfl) (fun _ e => by cases e) (by rfl) (by rfl) (by first|omega|simp) rfl ?_
      (try simp only[go_sem, hn_g3, hsl, hn_g7, hxx, hn_g8])
      repeat first|apply wa7|(refine wb1 rfl fun R r=>?_;simp only[go_sem, hn_g3, hsl, hn_g7, hxx, hn_g8];with_reducible refine r _ _ ?_;clear r R)
      exact aw_stop ⟨g, (by simp only[go_sem, hn_g3, hsl, hn_g7, hxx, hn_g8]<;>and_intros<;>first|exact True.intro|(with_reducible rfl)|exact c_int (by omega)|rfl), (List.Sublist.refl _), hn⟩
  rintro g10 hn_g10
  replace hn_g10 := Heap.ne_of hn_g10
  dsimp only [Heap.ne] at hn_g10
  repeat first|apply wa1|apply wa2|apply wa3|apply wa4|apply wa5 rfl|apply wa6|apply wa7|(refine wb1 rfl fun R r=>?_;simp only[go_sem, hn_g3, hsl, hn_g7, hxx, hn_g8, hn_g10];with_reducible refine r _ _ ?_;clear r R)
  refine aw_cut (fun g : Nat => [(1, .c (rats false p)), (2, .c (.int .i64 k)), (7, .c (.optr g7 0)), (8, .c (.optr g8 0)), (9, .c .nilI), (10, .c (.optr g10 0)), (11, .c .nilI), (12, .c (.optr g 0)), (13, .c .nilI)]) (fun g => [(g, .cells 31 3 (ofL (rdc (rd Z)))), (g10, .cells 31 3 (ofL (rdc (rd Y)))), (g8, .cells 31 3 (ofL (rdc (rd X)))), (g7, .cells 31 3 (ofL (rdc (rd (1 - x.q)))))]) (fun g => g ∉ Heap.keys [(g10, .cells 0 0 (ofL [])), (g8, .cells 0 0 (ofL [])), (g7, .cells 0 0 (ofL [])), (g3, .cells 0 0 (ofL []))]) ?_ ?_
  · refine aw_drL 10 8 73 ty_mixed (by kernel_rfl) ?_
    repeat (refine drg_2q rfl fun R r=>?_;simp only[go_sem, hn_g3, hsl, hn_g7, hxx, hn_g8, hn_g10];with_reducible refine r _ _ ?_;clear r R)
    refine drg_call (hz) rfl rfl rfl (by first|exact True.intro|simp only[go_sem, hn_g3, hsl, hn_g7, hxx, hn_g8, hn_g10]<;>and_intros<;>first|exact True.intro|exact .c (.refl _)|exact .c wl2|exact .agg (lel_refl _)|exact .agg (by simp only[LeL];and_intros<;>first|exact True.intro|exact .refl _|exact wl2)|exact .c .nils) ?_
    (try simp only[go_sem, hn_g3, hsl, hn_g7, hxx, hn_g8, hn_g10])
    repeat (refine drg_2q rfl fun R r=>?_;simp only[go_sem, hn_g3, hsl, hn_g7, hxx, hn_g8, hn_g10];with_reducible refine r _ _ ?_;clear r R)
    refine drg_new rfl (NewX.alloc rfl rfl rfl (by simp only[go_sem, hn_g3, hsl, hn_g7, hxx, hn_g8, hn_g10]<;>rfl)) (by kernel_rfl) ?_
    (try simp only[go_sem, hn_g3, hsl, hn_g7, hxx, hn_g8, hn_g10])
    refine drg_nil ⟨by simp, fun γ => ?_, fun γ => ?_⟩
    · simp only [List.drop_succ_cons, List.drop_zero, List.nil_append, List.cons_append]
      (try simp only[go_sem, hn_g3, hsl, hn_g7, hxx, hn_g8, hn_g10])
      try simp only [List.nil_append, List.cons_append]
      generalize γ 9 = g
      refine aw_fresh fun hn => ?_
      repeat first|apply wa7|(refine wb1 rfl fun R r=>?_;simp only[go_sem, hn_g3, hsl, hn_g7, hxx, hn_g8, hn_g10];with_reducible refine r _ _ ?_;clear r R)|apply wa8|(refine wd1 rfl fun R r=>?_;simp only[go_sem, hn_g3, hsl, hn_g7, hxx, hn_g8, hn_g10];with_reducible refine r _ _ ?_;clear r R)
      refine aw_store rfl rfl rfl rfl (by simp only[go_sem, hn_g3, hsl, hn_g7, hxx, hn_g8, hn_g10]<;>rfl) (by simp only[go_sem, hn_g3, hsl, hn_g7, hxx, hn_g8, hn_g10]<;>rfl) (by simp only[go_sem, hn_g3, hsl, hn_g7, hxx, hn_g8, hn_g10]<;>rfl) (by simp only[go_sem, hn_g3, hsl, hn_g7, hxx, hn_g8, hn_g10]<;>rfl) (fun _ e => by cases e) (by rfl) (by rfl) (by first|omega|simp) rfl ?_
      (try simp only[go_sem, hn_g3, hsl, hn_g7, hxx, hn_g8, hn_g10])
      repeat first|apply wa7|(refine wb1 rfl fun R r=>?_;simp only[go_sem, hn_g3, hsl, hn_g7, hxx, hn_g8, hn_g10];with_reducible refine r _ _ ?_;clear r R)
      exact aw_stop ⟨g, (by simp only[go_sem, hn_g3, hsl, hn_g7, hxx, hn_g8, hn_g10]<;>and_intros<;>first|exact True.intro|(with_reducible rfl)|exact c_int (by omega)|rfl), List.Sublist.cons_cons _ (List.Sublist.cons_cons _ (List.Sublist.cons_cons _ (List.Sublist.cons_cons _ (List.nil_sublist _)))), hn⟩
    · simp only [List.drop_succ_cons, List.drop_zero, List.take_succ_cons, List.take_zero, List.nil_append, List.cons_append]
      (try simp only[go_sem, hn_g3, hsl, hn_g7, hxx, hn_g8, hn_g10])
      try simp only [List.nil_append, List.cons_append]
      generalize γ 9 = g
      refine aw_fresh fun hn => ?_
      repeat first|apply wa7|(refine wb1 rfl fun R r=>?_;simp only[go_sem, hn_g3, hsl, hn_g7, hxx, hn_g8, hn_g10];with_reducible refine r _ _ ?_;clear r R)
      refine aw_store rfl rfl rfl rfl (by simp only[go_sem, hn_g3, hsl, hn_g7, hxx, hn_g8, hn_g10]<;>rfl) (by simp only[go_sem, hn_g3, hsl, hn_g7, hxx, hn_g8, hn_g10]<;>rfl) (by simp only[go_sem, hn_g3, hsl, hn_g7, hxx, hn_g8, hn_g10]<;>rfl) (by simp only[go_sem, hn_g3, hsl, hn_g7, hxx, hn_g8, hn_g10]<;>rfl) (fun _ e => by cases e) (by rfl) (by rfl) (by first|omega|simp) rfl ?_
      (try simp only[go_sem, hn_g3, hsl, hn_g7, hxx, hn_g8, hn_g10])
      repeat first|apply wa7|(refine wb1 rfl fun R r=>?_;simp only[go_sem, hn_g3, hsl, hn_g7, hxx, hn_g8, hn_g10];with_reducible refine r _ _ ?_;clear r R)
      exact aw_stop ⟨g, (by simp only[go_sem, hn_g3, hsl, hn_g7, hxx, hn_g8, hn_g10]<;>and_intros<;>first|exact True.intro|(with_reducible rfl)|exact c_int (by omega)|rfl), List.Sublist.cons_cons _ (List.Sublist.cons_cons _ (List.Sublist.cons_cons _ (List.Sublist.cons_cons _ (List.nil_sublist _)))), hn⟩
  rintro g12 hn_g12
  replace hn_g12 := Heap.ne_of hn_g12
  dsimp only [Heap.ne] at hn_g12
  repeat first|apply wa1|apply wa2|apply wa3|apply wa4|apply wa5 rfl|apply wa6|apply wa7|(refine wb1 rfl fun R r=>?_;simp only[go_sem, hn_g3, hsl, hn_g7, hxx, hn_g8, hn_g10, hn_g12];with_reducible refine r _ _ ?_;clear r R)
  refine aw_dr 26 ty_mixed (by kernel_rfl) ?_
  repeat first|apply wa1|apply wa2|apply wa3|apply wa4|apply wa5 rfl|apply wa6|apply wa7|(refine wb1 rfl fun R r=>?_;simp only[go_sem, hn_g3, hsl, hn_g7, hxx, hn_g8, hn_g10, hn_g12];with_reducible refine r _ _ ?_;clear r R)|apply wa8|(refine wd1 rfl fun R r=>?_;simp only[go_sem, hn_g3, hsl, hn_g7, hxx, hn_g8, hn_g10, hn_g12];with_reducible refine r _ _ ?_;clear r R)
  refine drk_call (smul_fa x (rd Y) (wf_mono hxw ?_) (wf_mono hyw ?_)) rfl rfl rfl (by first|exact True.intro|simp only[go_sem, hn_g3, hsl, hn_g7, hxx, hn_g8, hn_g10, hn_g12]<;>and_intros<;>first|exact True.intro|exact .c (.refl _)|exact .c wl2|exact .agg (lel_refl _)|exact .agg (by simp only[LeL];and_intros<;>first|exact True.intro|exact .refl _|exact wl2)|exact .c .nils) ?_
  · omega
  · omega
  (try simp only[go_sem, hn_g3, hsl, hn_g7, hxx, hn_g8, hn_g10, hn_g12])
  rw [rd_q]
  repeat first|apply wa1|apply wa2|apply wa3|apply wa4|apply wa5 rfl|apply wa6|apply wa7|(refine wb1 rfl fun R r=>?_;simp only[go_sem, hn_g3, hsl, hn_g7, hxx, hn_g8, hn_g10, hn_g12];with_reducible refine r _ _ ?_;clear r R)|apply wa8|(refine wd1 rfl fun R r=>?_;simp only[go_sem, hn_g3, hsl, hn_g7, hxx, hn_g8, hn_g10, hn_g12];with_reducible refine r _ _ ?_;clear r R)
  refine drk_call (smul_fa (rd (1 - x.q)) (rd Z) (rd_wf (fits_mono hqf ?_)) (wf_mono hzw ?_)) rfl rfl rfl (by first|exact True.intro|simp only[go_sem, hn_g3, hsl, hn_g7, hxx, hn_g8, hn_g10, hn_g12]<;>and_intros<;>first|exact True.intro|exact .c (.refl _)|exact .c wl2|exact .agg (lel_refl _)|exact .agg (by simp only[LeL];and_intros<;>first|exact True.intro|exact .refl _|exact wl2)|exact .c .nils) ?_
  · omega
  · omega
  (try simp only[go_sem, hn_g3, hsl, hn_g7, hxx, hn_g8, hn_g10, hn_g12])
  rw [rd_q, rd_q]
  repeat first|apply wa1|apply wa2|apply wa3|apply wa4|apply wa5 rfl|apply wa6|apply wa7|(refine wb1 rfl fun R r=>?_;simp only[go_sem, hn_g3, hsl, hn_g7, hxx, hn_g8, hn_g10, hn_g12];with_reducible refine r _ _ ?_;clear r R)|apply wa8|(refine wd1 rfl fun R r=>?_;simp only[go_sem, hn_g3, hsl, hn_g7, hxx, hn_g8, hn_g10, hn_g12];with_reducible refine r _ _ ?_;clear r R)
  refine drk_call (sadd_fa (rd (x.q * Y)) (rd ((1 - x.q) * Z)) (rd_wf (fits_mono (fits_mul hxf hYf) ?_)) (rd_wf (fits_mono (fits_mul hqf hZf) ?_))) rfl rfl rfl (by first|exact True.intro|simp only[go_sem, hn_g3, hsl, hn_g7, hxx, hn_g8, hn_g10, hn_g12]<;>and_intros<;>first|exact True.intro|exact .c (.refl _)|exact .c wl2|exact .agg (lel_refl _)|exact .agg (by simp only[LeL];and_intros<;>first|exact True.intro|exact .refl _|exact wl2)|exact .c .nils) ?_
  · omega
  · omega
  (try simp only[go_sem, hn_g3, hsl, hn_g7, hxx, hn_g8, hn_g10, hn_g12])
  rw [rd_q, rd_q]
  repeat first|apply wa1|apply wa2|apply wa3|apply wa4|apply wa5 rfl|apply wa6|apply wa7|(refine wb1 rfl fun R r=>?_;simp only[go_sem, hn_g3, hsl, hn_g7, hxx, hn_g8, hn_g10, hn_g12];with_reducible refine r _ _ ?_;clear r R)|apply wa8|(refine wd1 rfl fun R r=>?_;simp only[go_sem, hn_g3, hsl, hn_g7, hxx, hn_g8, hn_g10, hn_g12];with_reducible refine r _ _ ?_;clear r R)
  refine drk_call (scmp_fa (rd X) (rd (x.q * Y + (1 - x.q) * Z)) (wf_mono hpw ?_) (rd_wf (fits_mono (fits_add (fits_mul hxf hYf) (fits_mul hqf hZf)) ?_))) rfl rfl rfl (by first|exact True.intro|simp only[go_sem, hn_g3, hsl, hn_g7, hxx, hn_g8, hn_g10, hn_g12]<;>and_intros<;>first|exact True.intro|exact .c (.refl _)|exact .c wl2|exact .agg (lel_refl _)|exact .agg (by simp only[LeL];and_intros<;>first|exact True.intro|exact .refl _|exact wl2)|exact .c .nils) ?_
  · omega
  · omega
  (try simp only[go_sem, hn_g3, hsl, hn_g7, hxx, hn_g8, hn_g10, hn_g12])
  rw [rd_q, rd_q, ← htot]
  have hse : (signQ (X - X) == 0) = true := by rw [Rat.sub_self]; rfl
  repeat first|apply wa1|apply wa2|apply wa3|apply wa4|apply wa5 rfl|apply wa6|apply wa7|(refine wb1 rfl fun R r=>?_;simp only[go_sem, hn_g3, hsl, hn_g7, hxx, hn_g8, hn_g10, hn_g12, hse];with_reducible refine r _ _ ?_;clear r R)|apply wa8|(refine wd1 rfl fun R r=>?_;simp only[go_sem, hn_g3, hsl, hn_g7, hxx, hn_g8, hn_g10, hn_g12, hse];with_reducible refine r _ _ ?_;clear r R)
  (refine aw_retq hC rfl fun R r=>?_;simp only[go_sem, hn_g3, hsl, hn_g7, hxx, hn_g8, hn_g10, hn_g12, hse];refine r _ rfl ?_;clear r R)
  exact .one (.c (.bool _))
end Go.Proofs.Ytmkomfdiggcloaa
