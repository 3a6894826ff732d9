/- Texts of one proof, laid one behind the other by a program (merge.py): Law8. -/
import Derived.Test.YtlpejaefobdajaaGreatM27
set_option linter.unusedSimpArgs false
set_option linter.unusedVariables false
/- The law BirnbaumJoint. -/
namespace Go.PN
theorem ieq_t {a b : Int} (h : a = b) : (a == b) = true ∧ decide (a = b) = true ∧ (a != b) = false ∧ (!decide (a = b)) = false := by subst h; simp
theorem ieq_f {a b : Int} (h : ¬ a = b) : (a == b) = false ∧ decide (a = b) = false ∧ (a != b) = true ∧ (!decide (a = b)) = true := by simp [h]
end Go.PN
namespace Go.Proofs.YtlpejaefobdajaaGreat
open Go.AI Go.PN
attribute [local irreducible] aw Fa Fh DrK
theorem six_of {d : DG} {p : List RD} (h : largeB d p = false) (h0 : dcode d = 0) : d.order.length ≤ 6 := by
  unfold largeB largeA at h
  simp only [Bool.or_eq_false_iff, Bool.and_eq_false_iff, decide_eq_false_iff_not, beq_eq_false_iff_ne] at h
  obtain ⟨⟨⟨⟨h1, h2⟩, h3⟩, h4⟩, h5⟩ := h
  rcases h4 with h4 | h4
  · omega
  · exact absurd h0 h4
theorem bcode_in2 {d : DG} {p : List RD} (h0 : dpcode d p = 0) (i j : Int) (hi : 0 ≤ i) (hi' : i < d.order.length) (hj : 0 ≤ j) (hj' : j < d.order.length) : bcode d p [i, j] = 0 :=
  bcode_in h0 (by simp only [List.mem_cons, List.not_mem_nil, or_false]; rintro x (rfl | rfl) <;> omega)
theorem bcode_out2 {d : DG} {p : List RD} (h0 : dpcode d p = 0) (i j : Int) (h : ¬ (0 ≤ i ∧ i < d.order.length ∧ 0 ≤ j ∧ j < d.order.length)) : bcode d p [i, j] = 10 := by
  unfold bcode
  rw [if_neg (by simp [h0]), if_neg]
  intro hc
  simp only [List.all_cons, List.all_nil, Bool.and_true, Bool.and_eq_true, decide_eq_true_eq] at hc
  omega
theorem bcode_dp {d : DG} {p : List RD} (h0 : ¬ dpcode d p = 0) (es : List Int) : bcode d p es = dpcode d p := by
  unfold bcode; rw [if_pos h0]
set_option maxRecDepth 100000 in
set_option maxHeartbeats 6400000 in
theorem lawJoint_fa (haw : Fa Tryz.prog 14 [] (.c (.bool true))) (d : DG) (p : List RD) (i j : Int) (hw : WordsOk p) (hl : p.length ≤ 1099511627776) (hl1 : d.order.length ≤ 1099511627776) (hl2 : d.nodes.length ≤ 1099511627776) :
    Fa Tryz.prog 3 [.agg (dgc false d), .c (rats false p), .agg [.int .i64 i, .int .i64 j]] (.c (.bool true)) := by
  refine fa_of_body Tryz.func3 rfl rfl (by simp [Tryz.ntmps3]) fun C hC => ?_
  simp only [initS, Nat.reduceAdd]
  refine xG ?_
  refine xB fun g3 hn_g3=>?_
  refine yG hn_g3 ?_
  refine yB hn_g3 fun g5 hn_g5=>?_
  refine yG (oj hn_g3 hn_g5) ?_
  refine yC (oj hn_g3 hn_g5) (haw) ?_
  refine yG (oj hn_g3 hn_g5) ?_
  refine yC (oj hn_g3 hn_g5) (large42_fa d p hl hl1 hl2) ?_
  refine yG (oj hn_g3 hn_g5) ?_
  refine yF (oj hn_g3 hn_g5) (fun hb=>?_) fun hb=>?_
  · refine yG (oj hn_g3 hn_g5) ?_
    refine yC (oj hn_g3 hn_g5) (haw) ?_
    refine yG (oj hn_g3 hn_g5) ?_
    refine yT hC (oj hn_g3 hn_g5) ?_
    exact .one (.c (.bool _))
  have hs := small_of hw hl2 hb
  have six := six_of hb
  have J1 := joint_fa d p hs i j
  have C1 := critical_fa d hl1 hl2 six i
  obtain ⟨A, hA⟩ : ∃ A, A = if bcode d p [i, j] = 0 then rd (jointQ d p i.toNat j.toNat) else rd0 := ⟨_, rfl⟩
  obtain ⟨c1, hc1⟩ : ∃ c, c = bcode d p [i, j] := ⟨_, rfl⟩
  obtain ⟨n, hn⟩ : ∃ n : Int, n = if cicode d i = 0 then (cntTo (critB d i.toNat) (2 ^ d.order.length) : Int) else 0 := ⟨_, rfl⟩
  obtain ⟨c2, hc2⟩ : ∃ c, c = cicode d i := ⟨_, rfl⟩
  rw [← hA, ← hc1] at J1
  rw [← hn, ← hc2] at C1
  rw [← hc1] at hA
  rw [← hc2] at hn
  have hAw : A.wf 68719476736 := by
    rw [hA]
    split
    · rename_i h
      rw [hc1] at h
      exact rd_wf (fits_mono (joint_fits hs (bcode_ok h).1 _ _) (by decide))
    · exact wf_mono rd0_wf4 (by decide)
  refine yG (oj hn_g3 hn_g5) ?_
  refine yC (oj hn_g3 hn_g5) (J1) ?_
  refine yG (oj hn_g3 hn_g5) ?_
  refine yA (oj hn_g3 hn_g5) fun g7 hn_g7=>?_
  refine yG (oj hn_g3 (oj hn_g5 hn_g7)) ?_
  refine yW (oj hn_g3 (oj hn_g5 hn_g7)) ?_
  refine yS (oj hn_g3 (oj hn_g5 hn_g7)) ?_
  refine yG (oj hn_g3 (oj hn_g5 hn_g7)) ?_
  refine yC (oj hn_g3 (oj hn_g5 hn_g7)) (C1) ?_
  refine yG (oj hn_g3 (oj hn_g5 hn_g7)) ?_
  refine yC (oj hn_g3 (oj hn_g5 hn_g7)) (checkDiagram_fa d p hs.w5 ?_ ?_ ?_) ?_
  · omega
  · omega
  · omega
  refine yG (oj hn_g3 (oj hn_g5 hn_g7)) ?_
  refine yC (oj hn_g3 (oj hn_g5 hn_g7)) (dcheckR_fa d hl1 hl2) ?_
  refine yH (oj hn_g3 (oj hn_g5 hn_g7)) ?_
  apply aw_seq
  apply aw_region
  refine yH (oj hn_g3 (oj hn_g5 hn_g7)) ?_
  apply aw_seq
  refine aw_cut (fun _ : Unit => [(1, .c (rats false p)), (3, .c (.optr g3 0)), (5, .c (.optr g5 0)), (7, .c (.optr g7 0)), (8, .c (errA c1)), (9, .c (.int .i64 n)), (10, .c (errA c2)), (11, .c (.int .i64 c1)), (12, .c (.int .i64 (dcode d))), (13, .c (.int .i64 d.order.length))]) (fun _ => [(g7, .cells 33 3 (ofL (rdc A))), (g5, .cells 28 2 (ofL [.int .i64 i, .int .i64 j])), (g3, .cells 25 3 (ofL (dgc false d)))]) (fun _ => d.order.length ≤ 1099511627776) ?_ ?_
  · by_cases h0 : dpcode d p = 0
    · have z := ieq_t h0
      refine yG (oj hn_g3 (oj hn_g5 (oj hn_g7 z))) ?_
      refine aw_split 53 (zE (oj hn_g3 (oj hn_g5 (oj hn_g7 z)))) (fun h1 => ?_) (fun h1 => ?_) <;> refine yS (oj hn_g3 (oj hn_g5 (oj hn_g7 z))) ?_
      · have e : c1 = 10 := by rw [hc1]; exact bcode_out2 h0 i j (by have := of_decide_eq_true h1; omega)
        refine yG (oj hn_g3 (oj hn_g5 (oj hn_g7 (oj z e)))) ?_
        refine yP (oj hn_g3 (oj hn_g5 (oj hn_g7 (oj z e)))) ?_
        refine yG (oj hn_g3 (oj hn_g5 (oj hn_g7 (oj z e)))) ?_
        exact aw_stop ⟨(), (zB (oj hn_g3 (oj hn_g5 (oj hn_g7 (oj z e))))), zZ, hl1⟩
      refine yG (oj hn_g3 (oj hn_g5 (oj hn_g7 z))) ?_
      refine aw_split 59 (zE (oj hn_g3 (oj hn_g5 (oj hn_g7 z)))) (fun h2 => ?_) (fun h2 => ?_) <;> refine yS (oj hn_g3 (oj hn_g5 (oj hn_g7 z))) ?_
      · have e : c1 = 10 := by rw [hc1]; exact bcode_out2 h0 i j (by have := of_decide_eq_true h2; omega)
        refine yG (oj hn_g3 (oj hn_g5 (oj hn_g7 (oj z e)))) ?_
        refine yP (oj hn_g3 (oj hn_g5 (oj hn_g7 (oj z e)))) ?_
        refine yG (oj hn_g3 (oj hn_g5 (oj hn_g7 (oj z e)))) ?_
        exact aw_stop ⟨(), (zB (oj hn_g3 (oj hn_g5 (oj hn_g7 (oj z e))))), zZ, hl1⟩
      refine yG (oj hn_g3 (oj hn_g5 (oj hn_g7 z))) ?_
      refine aw_split 64 (zE (oj hn_g3 (oj hn_g5 (oj hn_g7 z)))) (fun h3 => ?_) (fun h3 => ?_) <;> refine yS (oj hn_g3 (oj hn_g5 (oj hn_g7 z))) ?_
      · have e : c1 = 10 := by rw [hc1]; exact bcode_out2 h0 i j (by have := of_decide_eq_true h3; omega)
        refine yG (oj hn_g3 (oj hn_g5 (oj hn_g7 (oj z e)))) ?_
        refine yP (oj hn_g3 (oj hn_g5 (oj hn_g7 (oj z e)))) ?_
        refine yG (oj hn_g3 (oj hn_g5 (oj hn_g7 (oj z e)))) ?_
        exact aw_stop ⟨(), (zB (oj hn_g3 (oj hn_g5 (oj hn_g7 (oj z e))))), zZ, hl1⟩
      refine yG (oj hn_g3 (oj hn_g5 (oj hn_g7 z))) ?_
      refine yF (oj hn_g3 (oj hn_g5 (oj hn_g7 z))) (fun h4=>?_) fun h4=>?_
      · have e : c1 = 10 := by rw [hc1]; exact bcode_out2 h0 i j (by have := of_decide_eq_true h4; omega)
        refine yG (oj hn_g3 (oj hn_g5 (oj hn_g7 (oj z e)))) ?_
        exact aw_stop ⟨(), (zB (oj hn_g3 (oj hn_g5 (oj hn_g7 (oj z e))))), zZ, hl1⟩
      · have e : c1 = 0 := by rw [hc1]; exact bcode_in2 h0 i j (by have := of_decide_eq_false h1; omega) (by have := of_decide_eq_false h2; omega) (by have := of_decide_eq_false h3; omega) (by have := of_decide_eq_false h4; omega)
        refine yG (oj hn_g3 (oj hn_g5 (oj hn_g7 (oj z (oj e h0))))) ?_
        exact aw_stop ⟨(), (zB (oj hn_g3 (oj hn_g5 (oj hn_g7 (oj z (oj e h0)))))), zZ, hl1⟩
    · have z := ieq_f h0
      have e : c1 = dpcode d p := by rw [hc1]; exact bcode_dp h0 _
      refine yG (oj hn_g3 (oj hn_g5 (oj hn_g7 (oj z e)))) ?_
      refine yN (oj hn_g3 (oj hn_g5 (oj hn_g7 (oj z e)))) ?_
      refine yG (oj hn_g3 (oj hn_g5 (oj hn_g7 (oj z e)))) ?_
      exact aw_stop ⟨(), (zB (oj hn_g3 (oj hn_g5 (oj hn_g7 (oj z e))))), zZ, hl1⟩
  rintro _ _
  apply aw_seq
  refine aw_cut (fun _ : Unit => [(1, .c (rats false p)), (3, .c (.optr g3 0)), (5, .c (.optr g5 0)), (7, .c (.optr g7 0)), (8, .c (errA c1)), (9, .c (.int .i64 n)), (10, .c (errA c2)), (11, .c (.int .i64 c1)), (12, .c (.int .i64 c2)), (13, .c (.int .i64 d.order.length))]) (fun _ => [(g7, .cells 33 3 (ofL (rdc A))), (g5, .cells 28 2 (ofL [.int .i64 i, .int .i64 j])), (g3, .cells 25 3 (ofL (dgc false d)))]) (fun _ => d.order.length ≤ 1099511627776) ?_ ?_
  · by_cases h0 : dcode d = 0
    · have z := ieq_t h0
      have hc : c2 = if 0 ≤ i ∧ i < d.order.length then 0 else 10 := by rw [hc2]; unfold cicode; rw [if_neg (by simpa using h0)]
      refine yG (oj hn_g3 (oj hn_g5 (oj hn_g7 z))) ?_
      refine aw_split 77 (zE (oj hn_g3 (oj hn_g5 (oj hn_g7 z)))) (fun h1 => ?_) (fun h1 => ?_) <;> refine yS (oj hn_g3 (oj hn_g5 (oj hn_g7 z))) ?_
      · have e : c2 = 10 := by rw [hc]; exact if_neg (by have := of_decide_eq_true h1; omega)
        refine yG (oj hn_g3 (oj hn_g5 (oj hn_g7 (oj z e)))) ?_
        refine yP (oj hn_g3 (oj hn_g5 (oj hn_g7 (oj z e)))) ?_
        refine yG (oj hn_g3 (oj hn_g5 (oj hn_g7 (oj z e)))) ?_
        exact aw_stop ⟨(), (zB (oj hn_g3 (oj hn_g5 (oj hn_g7 (oj z e))))), zZ, hl1⟩
      refine yG (oj hn_g3 (oj hn_g5 (oj hn_g7 z))) ?_
      refine yF (oj hn_g3 (oj hn_g5 (oj hn_g7 z))) (fun h4=>?_) fun h4=>?_
      · have e : c2 = 10 := by rw [hc]; exact if_neg (by have := of_decide_eq_true h4; omega)
        refine yG (oj hn_g3 (oj hn_g5 (oj hn_g7 (oj z e)))) ?_
        exact aw_stop ⟨(), (zB (oj hn_g3 (oj hn_g5 (oj hn_g7 (oj z e))))), zZ, hl1⟩
      · have e : c2 = 0 := by rw [hc]; exact if_pos (by have := of_decide_eq_false h1; have := of_decide_eq_false h4; omega)
        refine yG (oj hn_g3 (oj hn_g5 (oj hn_g7 (oj z (oj e h0))))) ?_
        exact aw_stop ⟨(), (zB (oj hn_g3 (oj hn_g5 (oj hn_g7 (oj z (oj e h0)))))), zZ, hl1⟩
    · have z := ieq_f h0
      have e : c2 = dcode d := by rw [hc2]; unfold cicode; rw [if_pos h0]
      refine yG (oj hn_g3 (oj hn_g5 (oj hn_g7 (oj z e)))) ?_
      refine yN (oj hn_g3 (oj hn_g5 (oj hn_g7 (oj z e)))) ?_
      refine yG (oj hn_g3 (oj hn_g5 (oj hn_g7 (oj z e)))) ?_
      exact aw_stop ⟨(), (zB (oj hn_g3 (oj hn_g5 (oj hn_g7 (oj z e))))), zZ, hl1⟩
  rintro _ _
  apply aw_seq
  have y1 := ieq_t (rfl : c1 = c1)
  have y2 := ieq_t (rfl : c2 = c2)
  refine aw_cut (fun _ : Unit => [(1, .c (rats false p)), (3, .c (.optr g3 0)), (5, .c (.optr g5 0)), (7, .c (.optr g7 0)), (8, .c (errA c1)), (9, .c (.int .i64 n)), (10, .c (errA c2)), (11, .c (.int .i64 c1)), (12, .c (.int .i64 c2)), (13, .c (.int .i64 d.order.length))]) (fun _ => [(g7, .cells 33 3 (ofL (rdc A))), (g5, .cells 28 2 (ofL [.int .i64 i, .int .i64 j])), (g3, .cells 25 3 (ofL (dgc false d)))]) (fun _ => d.order.length ≤ 1099511627776) ?_ ?_
  · skip
    by_cases h1 : c1 = 0
    · have z1 := ieq_t h1
      by_cases h2 : c2 = 0
      · have z2 := ieq_t h2
        refine yG (oj hn_g3 (oj hn_g5 (oj hn_g7 (oj y1 (oj y2 (oj z1 z2)))))) ?_
        refine yN (oj hn_g3 (oj hn_g5 (oj hn_g7 (oj y1 (oj y2 (oj z1 z2)))))) ?_
        refine yG (oj hn_g3 (oj hn_g5 (oj hn_g7 (oj y1 (oj y2 (oj z1 z2)))))) ?_
        exact aw_stop ⟨(), (zB (oj hn_g3 (oj hn_g5 (oj hn_g7 (oj y1 (oj y2 (oj z1 z2))))))), zZ, hl1⟩
      · have z2 := ieq_f h2
        have z3 := ieq_t (show n = 0 by rw [hn]; exact if_neg h2)
        refine yG (oj hn_g3 (oj hn_g5 (oj hn_g7 (oj y1 (oj y2 (oj z1 (oj z2 z3))))))) ?_
        refine yC (oj hn_g3 (oj hn_g5 (oj hn_g7 (oj y1 (oj y2 (oj z1 (oj z2 z3))))))) (num_fa c2) ?_
        refine yG (oj hn_g3 (oj hn_g5 (oj hn_g7 (oj y1 (oj y2 (oj z1 (oj z2 z3))))))) ?_
        refine yN (oj hn_g3 (oj hn_g5 (oj hn_g7 (oj y1 (oj y2 (oj z1 (oj z2 z3))))))) ?_
        refine yG (oj hn_g3 (oj hn_g5 (oj hn_g7 (oj y1 (oj y2 (oj z1 (oj z2 z3))))))) ?_
        exact aw_stop ⟨(), (zB (oj hn_g3 (oj hn_g5 (oj hn_g7 (oj y1 (oj y2 (oj z1 (oj z2 z3)))))))), zZ, hl1⟩
    · have z1 := ieq_f h1
      have z0 : decide (A = rd0) = true := by rw [hA, if_neg h1]; simp
      by_cases h2 : c2 = 0
      · have z2 := ieq_t h2
        refine yG (oj hn_g3 (oj hn_g5 (oj hn_g7 (oj y1 (oj y2 (oj z1 (oj z0 z2))))))) ?_
        refine yC (oj hn_g3 (oj hn_g5 (oj hn_g7 (oj y1 (oj y2 (oj z1 (oj z0 z2))))))) (zero42_fa A hAw) ?_
        refine yG (oj hn_g3 (oj hn_g5 (oj hn_g7 (oj y1 (oj y2 (oj z1 (oj z0 z2))))))) ?_
        refine yC (oj hn_g3 (oj hn_g5 (oj hn_g7 (oj y1 (oj y2 (oj z1 (oj z0 z2))))))) (num_fa c1) ?_
        refine yG (oj hn_g3 (oj hn_g5 (oj hn_g7 (oj y1 (oj y2 (oj z1 (oj z0 z2))))))) ?_
        refine yN (oj hn_g3 (oj hn_g5 (oj hn_g7 (oj y1 (oj y2 (oj z1 (oj z0 z2))))))) ?_
        refine yG (oj hn_g3 (oj hn_g5 (oj hn_g7 (oj y1 (oj y2 (oj z1 (oj z0 z2))))))) ?_
        exact aw_stop ⟨(), (zB (oj hn_g3 (oj hn_g5 (oj hn_g7 (oj y1 (oj y2 (oj z1 (oj z0 z2)))))))), zZ, hl1⟩
      · have z2 := ieq_f h2
        have z3 := ieq_t (show n = 0 by rw [hn]; exact if_neg h2)
        refine yG (oj hn_g3 (oj hn_g5 (oj hn_g7 (oj y1 (oj y2 (oj z1 (oj z0 (oj z2 z3)))))))) ?_
        refine yC (oj hn_g3 (oj hn_g5 (oj hn_g7 (oj y1 (oj y2 (oj z1 (oj z0 (oj z2 z3)))))))) (zero42_fa A hAw) ?_
        refine yG (oj hn_g3 (oj hn_g5 (oj hn_g7 (oj y1 (oj y2 (oj z1 (oj z0 (oj z2 z3)))))))) ?_
        refine yC (oj hn_g3 (oj hn_g5 (oj hn_g7 (oj y1 (oj y2 (oj z1 (oj z0 (oj z2 z3)))))))) (num_fa c1) ?_
        refine yG (oj hn_g3 (oj hn_g5 (oj hn_g7 (oj y1 (oj y2 (oj z1 (oj z0 (oj z2 z3)))))))) ?_
        refine yC (oj hn_g3 (oj hn_g5 (oj hn_g7 (oj y1 (oj y2 (oj z1 (oj z0 (oj z2 z3)))))))) (num_fa c2) ?_
        refine yG (oj hn_g3 (oj hn_g5 (oj hn_g7 (oj y1 (oj y2 (oj z1 (oj z0 (oj z2 z3)))))))) ?_
        refine yN (oj hn_g3 (oj hn_g5 (oj hn_g7 (oj y1 (oj y2 (oj z1 (oj z0 (oj z2 z3)))))))) ?_
        refine yG (oj hn_g3 (oj hn_g5 (oj hn_g7 (oj y1 (oj y2 (oj z1 (oj z0 (oj z2 z3)))))))) ?_
        exact aw_stop ⟨(), (zB (oj hn_g3 (oj hn_g5 (oj hn_g7 (oj y1 (oj y2 (oj z1 (oj z0 (oj z2 z3))))))))), zZ, hl1⟩
  rintro _ _
  apply aw_seq
  refine aw_cut (fun _ : Unit => [(3, .c (.optr g3 0)), (5, .c (.optr g5 0)), (9, .c (.int .i64 n)), (10, .c (errA c2)), (12, .c (.int .i64 c2))]) (fun _ => [(g7, .cells 33 3 (ofL (rdc A))), (g5, .cells 28 2 (ofL [.int .i64 i, .int .i64 j])), (g3, .cells 25 3 (ofL (dgc false d)))]) (fun _ => d.order.length ≤ 1099511627776) ?_ ?_
  · apply aw_seq
    by_cases h1 : c1 = 0
    · have z1 := ieq_t h1
      obtain ⟨h0, hr⟩ := bcode_ok (hc1.symm.trans h1)
      have r1 := hr i (by simp)
      have r2 := hr j (by simp)
      obtain ⟨_, hpl, _⟩ := dp_ok h0
      rw [if_pos h1] at hA
      have q1 : ((i.toNat : Nat) : Int) = i := by omega
      have q2 : ((j.toNat : Nat) : Int) = j := by omega
      have J2 := joint42_fa d p hs h0 i.toNat j.toNat (by omega) (by omega)
      rw [← hA, q1, q2] at J2
      refine aw_dr 18 ty_mixed (by kernel_rfl) ?_
      refine yG (oj hn_g3 (oj hn_g5 (oj hn_g7 z1))) ?_
      refine yD (oj hn_g3 (oj hn_g5 (oj hn_g7 z1))) (J2) ?_
      refine yG (oj hn_g3 (oj hn_g5 (oj hn_g7 z1))) ?_
      refine yD (oj hn_g3 (oj hn_g5 (oj hn_g7 z1))) (ratSame_fa A hAw) ?_
      refine yG (oj hn_g3 (oj hn_g5 (oj hn_g7 z1))) ?_
      refine yN (oj hn_g3 (oj hn_g5 (oj hn_g7 z1))) ?_
      refine yG (oj hn_g3 (oj hn_g5 (oj hn_g7 z1))) ?_
      exact aw_stop ⟨(), (zB (oj hn_g3 (oj hn_g5 (oj hn_g7 z1)))), zZ, hl1⟩
    · have z1 := ieq_f h1
      refine aw_dr 18 ty_mixed (by kernel_rfl) ?_
      refine yG (oj hn_g3 (oj hn_g5 (oj hn_g7 z1))) ?_
      refine yN (oj hn_g3 (oj hn_g5 (oj hn_g7 z1))) ?_
      refine yG (oj hn_g3 (oj hn_g5 (oj hn_g7 z1))) ?_
      exact aw_stop ⟨(), (zB (oj hn_g3 (oj hn_g5 (oj hn_g7 z1)))), zZ, hl1⟩
  rintro _ _
  by_cases h2 : c2 = 0
  · have z2 := ieq_t h2
    have h0 : dcode d = 0 ∧ 0 ≤ i ∧ i < d.order.length := by
      rw [hc2] at h2
      unfold cicode at h2
      split at h2
      · rename_i h; exact absurd h2 h
      · rename_i h
        split at h2
        · rename_i h3; exact ⟨by simpa using h, h3⟩
        · cases h2
    rw [if_pos h2] at hn
    have q1 : ((i.toNat : Nat) : Int) = i := by omega
    have C2 := critical42_fa d (dg_ok h0.1) i.toNat (by omega)
    rw [← hn, q1] at C2
    have z3 := ieq_t (rfl : n = n)
    refine yG (oj hn_g3 (oj hn_g5 (oj hn_g7 (oj z2 z3)))) ?_
    refine yC (oj hn_g3 (oj hn_g5 (oj hn_g7 (oj z2 z3)))) (C2) ?_
    refine yG (oj hn_g3 (oj hn_g5 (oj hn_g7 (oj z2 z3)))) ?_
    refine yT hC (oj hn_g3 (oj hn_g5 (oj hn_g7 (oj z2 z3)))) ?_
    exact .one (.c (.bool _))
  · have z2 := ieq_f h2
    refine yG (oj hn_g3 (oj hn_g5 (oj hn_g7 z2))) ?_
    refine yT hC (oj hn_g3 (oj hn_g5 (oj hn_g7 z2))) ?_
    exact .one (.c (.bool _))
end Go.Proofs.YtlpejaefobdajaaGreat
