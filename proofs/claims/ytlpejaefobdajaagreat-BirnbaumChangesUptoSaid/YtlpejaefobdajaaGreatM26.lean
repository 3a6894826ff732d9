/- Texts of one proof, laid one behind the other by a program (merge.py): Glue3, Bir1, Bir2, Bir3, Bir4, Bir5. -/
import Derived.Test.YtlpejaefobdajaaGreatM19
import Derived.Test.YtlpejaefobdajaaGreatM20
import Derived.Test.YtlpejaefobdajaaGreatM23
import Derived.Test.YtlpejaefobdajaaGreatM25
set_option linter.unusedSimpArgs false
set_option linter.unusedVariables false
/- Arguments that are two events. -/
namespace Go.Proofs.YtlpejaefobdajaaGreat
open Go.AI Go.PN Go.ChangeShapes Go.WideShapes Go.RowKit
theorem rdr_events : Rdr Tryz.prog 28 (fun y : Int × Int => [CV.int .i64 y.1, .int .i64 y.2]) (fun _ _ => True) := by
  have r := rdr_struct2 Tryz.underlying28 (s0 := 1) (s1 := 1) (by kernel_rfl) (by kernel_rfl) (by kernel_rfl) rfl rfl (rdr_int Tryz.underlying3) (rdr_int Tryz.underlying3) (fun _ _ _ h _ => h) (fun _ _ _ h _ => h)
  exact r.to id (fun _ => rfl) (fun _ _ _ => trivial)
theorem rdr_replaced : Rdr Tryz.prog 55 (fun y : Int × RD => CV.int .i64 y.1 :: rdc y.2) (fun y _ => (∀ x ∈ y.2.num, x < 4294967296) ∧ ∀ x ∈ y.2.den, x < 4294967296) := by
  have r := rdr_struct2 Tryz.underlying55 (s0 := 1) (s1 := 3) (by kernel_rfl) (by kernel_rfl) (by kernel_rfl) rfl rfl (rdr_int Tryz.underlying3) rdr_rat (fun _ _ _ h _ => h) (fun _ _ _ h _ => h)
  exact r.to id (fun _ => rfl) (fun _ _ h => h.2)
end Go.Proofs.YtlpejaefobdajaaGreat

/- birnbaum: check, with, derive, Birnbaum. -/
namespace Go.Proofs.YtlpejaefobdajaaGreat
open Go.AI Go.PN
attribute [local irreducible] aw Fa Fh DrK
set_option maxRecDepth 100000 in
set_option maxHeartbeats 1600000 in
theorem bcheck_fa (d : DG) (p : List RD) (es : List Int) (hw : ∀ r ∈ p, r.wf 500000000) (hl : p.length ≤ 1099511627776) (hl1 : d.order.length ≤ 1099511627776) (hl2 : d.nodes.length ≤ 1099511627776) (he : es.length ≤ 1099511627776) :
    Fa Tryz.prog 63 [.agg (dgc false d), .c (rats false p), .c (is false es)] (.c (errA (bcode d p es))) := by
  refine fa_of_body Tryz.func63 rfl rfl (by simp [Tryz.ntmps63]) fun C hC => ?_
  simp only [initS, Nat.reduceAdd]
  refine xG ?_
  refine xB fun g3 hn_g3=>?_
  refine yG hn_g3 ?_
  refine yC hn_g3 (dcheck_fa d hl1 hl2) ?_
  refine yG hn_g3 ?_
  refine yF hn_g3 (fun hb=>?_) fun hb=>?_
  · have hb' : dcode d ≠ 0 := by simpa using hb
    have e : bcode d p es = dcode d := by
      have hdp : dpcode d p = dcode d := by unfold dpcode; rw [if_pos hb']
      unfold bcode; rw [hdp, if_pos hb']
    rw [e]
    refine yG hn_g3 ?_
    refine yT hC hn_g3 ?_
    exact .one (.c ler_err)
  have hb' : dcode d = 0 := by simpa using hb
  have hdp : dpcode d p = pcode p d.order.length := by unfold dpcode; rw [if_neg (by simp [hb'])]
  refine yG hn_g3 ?_
  refine yC hn_g3 (scheck_fa p d.order.length hw hl) ?_
  refine yG hn_g3 ?_
  refine yF hn_g3 (fun hc=>?_) fun hc=>?_
  · have hc' : pcode p d.order.length ≠ 0 := by simpa using hc
    have e : bcode d p es = pcode p d.order.length := by unfold bcode; rw [hdp, if_pos hc']
    rw [e]
    refine yG hn_g3 ?_
    refine yT hC hn_g3 ?_
    exact .one (.c ler_err)
  have hc' : pcode p d.order.length = 0 := by simpa using hc
  have e : bcode d p es = if es.all (fun i => decide (0 ≤ i) && decide (i < d.order.length)) then 0 else 10 := by unfold bcode; rw [hdp, if_neg (by simp [hc'])]
  rw [e]
  refine yG hn_g3 ?_
  refine aw_lp (fun k : Nat => [(3, .c (.optr g3 0)), (24, .c (is false es)), (25, .c (.int .i64 es.length)), (26, .c (.int .i64 k))]) (fun _ => [(g3, .cells 25 3 (ofL (dgc false d)))]) (fun k => k ≤ es.length ∧ ∀ j, j < k → 0 ≤ es.getD j 0 ∧ es.getD j 0 < d.order.length) (fun k => es.length - k) 0 (zB hn_g3) zZ ⟨Nat.zero_le _, fun j hj => by omega⟩ ?_
  rintro k ⟨hk, hz⟩
  refine yG hn_g3 ?_
  refine yF hn_g3 (fun h1=>?_) fun h1=>?_
  · have h1' : k < es.length := by have := of_decide_eq_true h1; omega
    have hbad : ¬ (0 ≤ es.getD k 0 ∧ es.getD k 0 < d.order.length) → es.all (fun i => decide (0 ≤ i) && decide (i < d.order.length)) = false := fun h => by
      rw [List.all_eq_false]
      refine ⟨es[k], List.getElem_mem h1', ?_⟩
      rw [getDZ h1'] at h
      simpa using h
    refine yG hn_g3 ?_
    refine aw_split 32 (zE hn_g3) (fun h2 => ?_) (fun h2 => ?_) <;> refine yS hn_g3 ?_
    · have h2' := of_decide_eq_true h2
      rw [hbad (by omega)]
      refine yG hn_g3 ?_
      refine yP hn_g3 ?_
      refine yG hn_g3 ?_
      refine yT hC hn_g3 ?_
      exact .one (.c (ler_errN rfl (by decide)))
    · have h2' := of_decide_eq_false h2
      refine yG hn_g3 ?_
      refine yF hn_g3 (fun h3=>?_) fun h3=>?_
      · have h3' := of_decide_eq_true h3
        rw [hbad (by omega)]
        refine yG hn_g3 ?_
        refine yT hC hn_g3 ?_
        exact .one (.c (ler_errN rfl (by decide)))
      · have h3' := of_decide_eq_false h3
        refine yG hn_g3 ?_
        exact aw_stop ⟨k + 1, by omega, (zB hn_g3), zZ, by omega, fun j hj => by
          by_cases e : j = k
          · subst e; omega
          · exact hz j (by omega)⟩
  · have h1' : k = es.length := by have := of_decide_eq_false h1; omega
    subst h1'
    have hall : es.all (fun i => decide (0 ≤ i) && decide (i < d.order.length)) = true := by
      rw [List.all_eq_true]
      intro x hx
      obtain ⟨j, hj, rfl⟩ := List.mem_iff_getElem.1 hx
      have := hz j hj
      rw [getDZ hj] at this
      simpa using this
    rw [hall]
    refine yG hn_g3 ?_
    refine yT hC hn_g3 ?_
    exact .one (.c (ler_err0 rfl))
set_option maxRecDepth 100000 in
set_option maxHeartbeats 1600000 in
theorem with_fa (d : DG) (p : List RD) (hs : Small d p) (h0 : dpcode d p = 0) (i : Nat) (hi : i < p.length) (q : RD) (hq : q.wf 4) (hqp : q.prob = true) :
    Fa Tryz.prog 83 [.agg (dgc false d), .c (rats false p), .c (.int .i64 i), .agg (rdc q)] (.tup [.agg (rdc (rd (prS d (p.set i q)))), .c .nilI]) := by
  have s1 := hs.l
  have hp := sprobability_fa d (p.set i q) (hs.set h0 hq)
  rw [dp_set h0 hqp, if_pos rfl] at hp
  refine fa_of_body Tryz.func83 rfl rfl (by simp [Tryz.ntmps83]) fun C hC => ?_
  simp only [initS, Nat.reduceAdd]
  refine xG ?_
  refine xB fun g4 hn_g4=>?_
  refine yG hn_g4 ?_
  refine yB hn_g4 fun g7 hn_g7=>?_
  refine yG (oj hn_g4 hn_g7) ?_
  refine yA (oj hn_g4 hn_g7) fun g8 hn_g8=>?_
  refine yG (oj hn_g4 (oj hn_g7 hn_g8)) ?_
  refine aw_callh (hr := [(g8, .cells 33 3 (ofL [.bool false, .nils, .nils])), (g7, .cells 33 3 (ofL (rdc q))), (g4, .cells 25 3 (ofL (dgc false d)))]) (clone_fh p (by omega)) rfl rfl rfl (List.Perm.refl _) (zL (oj hn_g4 (oj hn_g7 hn_g8))) ?_
  rintro _ _ ⟨og, hog, rfl, rfl⟩ hk2
  obtain ⟨g, rfl⟩ : ∃ g, og = some g := by
    cases og with
    | none => have := hog rfl; omega
    | some g => exact ⟨g, rfl⟩
  have hg := hk2 g (by simp [Heap.keys, gh])
  replace hg := Heap.ne_of hg
  dsimp only [Heap.ne] at hg
  dsimp only [gs, gh, List.cons_append, List.nil_append]
  refine yS (oj hn_g4 (oj hn_g7 (oj hn_g8 hg))) ?_
  refine yG (oj hn_g4 (oj hn_g7 (oj hn_g8 hg))) ?_
  refine yW (oj hn_g4 (oj hn_g7 (oj hn_g8 hg))) ?_
  refine yS (oj hn_g4 (oj hn_g7 (oj hn_g8 hg))) ?_
  rw [ratsF_upd (by omega)]
  refine yG (oj hn_g4 (oj hn_g7 (oj hn_g8 hg))) ?_
  refine aw_callq hp rfl rfl rfl (by refine yS (oj hn_g4 (oj hn_g7 (oj hn_g8 hg))) ?_; exact ⟨.agg (lel_refl _), .c (le_oslr2 (zE (oj hn_g4 (oj hn_g7 (oj hn_g8 hg)))) (by rw [List.length_set]))⟩) ?_
  refine yS (oj hn_g4 (oj hn_g7 (oj hn_g8 hg))) ?_
  refine yG (oj hn_g4 (oj hn_g7 (oj hn_g8 hg))) ?_
  refine yW (oj hn_g4 (oj hn_g7 (oj hn_g8 hg))) ?_
  refine yS (oj hn_g4 (oj hn_g7 (oj hn_g8 hg))) ?_
  refine yG (oj hn_g4 (oj hn_g7 (oj hn_g8 hg))) ?_
  refine yT hC (oj hn_g4 (oj hn_g7 (oj hn_g8 hg))) ?_
  exact .tup ⟨.agg lerl_rd, .c .nilI, trivial⟩
set_option maxRecDepth 100000 in
set_option maxHeartbeats 1600000 in
theorem derive_fa (d : DG) (p : List RD) (hs : Small d p) (h0 : dpcode d p = 0) (i : Nat) (hi : i < p.length) :
    Fa Tryz.prog 66 [.agg (dgc false d), .c (rats false p), .c (.int .i64 i)] (.tup [.agg (rdc (rd (impQ d p i))), .c .nilI]) := by
  have w1 := with_fa d p hs h0 i hi (rd 1) rd1_wf rd1_prob
  have w0 := with_fa d p hs h0 i hi rd0 rd0_wf4 rd0_prob
  have f1 := pr_fits (hs.set h0 (i := i) rd1_wf) (dp_set h0 rd1_prob)
  have f0 := pr_fits (hs.set h0 (i := i) rd0_wf4) (dp_set h0 rd0_prob)
  unfold impQ
  generalize prS d (p.set i (rd 1)) = X1 at *
  generalize prS d (p.set i rd0) = X0 at *
  refine fa_of_body Tryz.func66 rfl rfl (by simp [Tryz.ntmps66]) fun C hC => ?_
  simp only [initS, Nat.reduceAdd]
  refine xG ?_
  refine xB fun g3 hn_g3=>?_
  refine yG hn_g3 ?_
  refine yA hn_g3 fun g6 hn_g6=>?_
  refine yG (oj hn_g3 hn_g6) ?_
  refine aw_cut (fun g : Nat => [(1, .c (rats false p)), (2, .c (.int .i64 i)), (3, .c (.optr g3 0)), (6, .c (.optr g6 0)), (8, .c (.optr g 0)), (9, .c .nilI)]) (fun g => [(g, .cells 33 3 (ofL (rdc (rd X1)))), (g6, .cells 33 3 (ofL [.bool false, .nils, .nils])), (g3, .cells 25 3 (ofL (dgc false d)))]) (fun g => g ∉ Heap.keys [(g6, .cells 0 0 (ofL [])), (g3, .cells 0 0 (ofL []))]) ?_ ?_
  · refine aw_drL 9 7 18 ty_mixed (by kernel_rfl) ?_
    repeat (refine drg_2q rfl fun R r=>?_;simp only[go_sem, hn_g3, hn_g6];with_reducible refine r _ _ ?_;clear r R)
    refine drg_call (rof_fa 1 ?_ ?_) rfl rfl rfl (zL (oj hn_g3 hn_g6)) ?_
    · omega
    · omega
    refine yS (oj hn_g3 hn_g6) ?_
    repeat (refine drg_2q rfl fun R r=>?_;simp only[go_sem, hn_g3, hn_g6];with_reducible refine r _ _ ?_;clear r R)
    refine drg_call (w1) rfl rfl rfl (zL (oj hn_g3 hn_g6)) ?_
    refine yS (oj hn_g3 hn_g6) ?_
    repeat (refine drg_2q rfl fun R r=>?_;simp only[go_sem, hn_g3, hn_g6];with_reducible refine r _ _ ?_;clear r R)
    refine drg_new rfl (NewX.alloc rfl rfl rfl (zE (oj hn_g3 hn_g6))) (by kernel_rfl) ?_
    refine yS (oj hn_g3 hn_g6) ?_
    refine drg_nil ⟨by simp, fun γ => ?_, fun γ => ?_⟩
    · simp only [List.drop_succ_cons, List.drop_zero, List.nil_append, List.cons_append]
      refine yS (oj hn_g3 hn_g6) ?_
      try simp only [List.nil_append, List.cons_append]
      generalize γ 8 = g
      refine aw_fresh fun hn => ?_
      refine yH (oj hn_g3 hn_g6) ?_
      refine yW (oj hn_g3 hn_g6) ?_
      refine yS (oj hn_g3 hn_g6) ?_
      refine yH (oj hn_g3 hn_g6) ?_
      exact aw_stop ⟨g, (zB (oj hn_g3 hn_g6)), zZ, hn⟩
    · simp only [List.drop_succ_cons, List.drop_zero, List.take_succ_cons, List.take_zero, List.nil_append, List.cons_append]
      refine yS (oj hn_g3 hn_g6) ?_
      try simp only [List.nil_append, List.cons_append]
      generalize γ 8 = g
      refine aw_fresh fun hn => ?_
      refine yH (oj hn_g3 hn_g6) ?_
      refine yW (oj hn_g3 hn_g6) ?_
      refine yS (oj hn_g3 hn_g6) ?_
      refine yH (oj hn_g3 hn_g6) ?_
      exact aw_stop ⟨g, (zB (oj hn_g3 hn_g6)), zZ, hn⟩
  rintro g8 hn_g8
  replace hn_g8 := Heap.ne_of hn_g8
  dsimp only [Heap.ne] at hn_g8
  refine yG (oj hn_g3 (oj hn_g6 hn_g8)) ?_
  refine yN (oj hn_g3 (oj hn_g6 hn_g8)) ?_
  refine yG (oj hn_g3 (oj hn_g6 hn_g8)) ?_
  refine aw_conv (t := 27) (v := .agg (rdc rd0)) (by refine yS (oj hn_g3 (oj hn_g6 hn_g8)) ?_; exact zero_agg) rfl ?_
  refine yS (oj hn_g3 (oj hn_g6 hn_g8)) ?_
  refine yG (oj hn_g3 (oj hn_g6 hn_g8)) ?_
  refine yC (oj hn_g3 (oj hn_g6 hn_g8)) (w0) ?_
  refine yG (oj hn_g3 (oj hn_g6 hn_g8)) ?_
  refine yA (oj hn_g3 (oj hn_g6 hn_g8)) fun g10 hn_g10=>?_
  refine yG (oj hn_g3 (oj hn_g6 (oj hn_g8 hn_g10))) ?_
  refine yW (oj hn_g3 (oj hn_g6 (oj hn_g8 hn_g10))) ?_
  refine yS (oj hn_g3 (oj hn_g6 (oj hn_g8 hn_g10))) ?_
  refine yG (oj hn_g3 (oj hn_g6 (oj hn_g8 hn_g10))) ?_
  refine yC (oj hn_g3 (oj hn_g6 (oj hn_g8 hn_g10))) (rsub_fa (rd X1) (rd X0) (rd_wf (fits_mono f1 ?_)) (rd_wf (fits_mono f0 ?_))) ?_
  · omega
  · omega
  rw [rd_q, rd_q]
  refine yG (oj hn_g3 (oj hn_g6 (oj hn_g8 hn_g10))) ?_
  refine yW (oj hn_g3 (oj hn_g6 (oj hn_g8 hn_g10))) ?_
  refine yS (oj hn_g3 (oj hn_g6 (oj hn_g8 hn_g10))) ?_
  refine yG (oj hn_g3 (oj hn_g6 (oj hn_g8 hn_g10))) ?_
  refine yT hC (oj hn_g3 (oj hn_g6 (oj hn_g8 hn_g10))) ?_
  exact .tup ⟨.agg lerl_rd, .c .nilI, trivial⟩
theorem bcode0 (d : DG) (p : List RD) : bcode d p [] = dpcode d p := by
  unfold bcode
  split
  · rfl
  · rename_i h
    simp only [List.all_nil, if_true]
    omega
set_option maxRecDepth 100000 in
set_option maxHeartbeats 1600000 in
theorem birnbaum_fa (d : DG) (p : List RD) (hs : Small d p) :
    Fa Tryz.prog 27 [.agg (dgc false d), .c (rats false p)] (.tup [.c (rats true (if dpcode d p = 0 then impL d p p.length else [])), .c (errA (dpcode d p))]) := by
  have s1 := hs.l
  have s2 := hs.o
  have s3 := hs.n
  have hb := bcheck_fa d p [] hs.w5 (by omega) (by omega) (by omega) (by simp)
  rw [bcode0] at hb
  refine fa_of_body Tryz.func27 rfl rfl (by simp [Tryz.ntmps27]) fun C hC => ?_
  simp only [initS, Nat.reduceAdd]
  refine xG ?_
  refine xB fun g2 hn_g2=>?_
  refine yG hn_g2 ?_
  refine yC hn_g2 (hb) ?_
  refine yG hn_g2 ?_
  refine yF hn_g2 (fun h0=>?_) fun h0=>?_
  · have h0' : dpcode d p ≠ 0 := by simpa using h0
    rw [if_neg h0']
    refine yG hn_g2 ?_
    refine yT hC hn_g2 ?_
    exact .tup ⟨.c .nils, .c ler_err, trivial⟩
  have h0' : dpcode d p = 0 := by simpa using h0
  rw [if_pos h0']
  refine yG hn_g2 ?_
  refine aw_lp (fun x : Option Nat × Nat => [(1, .c (rats false p)), (2, .c (.optr g2 0)), (7, .c (gs x.1 3 x.2)), (18, .c (.int .i64 p.length)), (19, .c (.int .i64 x.2))]) (fun x => (g2, .cells 25 3 (ofL (dgc false d))) :: gh x.1 33 (x.2 * 3) (ratsF (impL d p x.2)))
    (fun x => x.2 ≤ p.length ∧ (x.1 = none → x.2 = 0)) (fun x => p.length - x.2) (none, 0) (zB hn_g2) (List.Sublist.cons_cons _ (List.nil_sublist _)) ⟨Nat.zero_le _, fun _ => rfl⟩ ?_
  rintro ⟨og, k⟩ ⟨hk, hog⟩
  dsimp only at hk hog ⊢
  refine aw_nd fun hnd => ?_
  refine yG hn_g2 ?_
  refine yF hn_g2 (fun h1=>?_) fun h1=>?_
  · have h1' : k < p.length := by have := of_decide_eq_true h1; omega
    refine yG hn_g2 ?_
    refine yC hn_g2 (derive_fa d p hs h0' k h1') ?_
    refine yG hn_g2 ?_
    refine yA hn_g2 fun g9 hn_g9=>?_
    refine yG (oj hn_g2 hn_g9) ?_
    refine yW (oj hn_g2 hn_g9) ?_
    refine yS (oj hn_g2 hn_g9) ?_
    refine yG (oj hn_g2 hn_g9) ?_
    refine yN (oj hn_g2 hn_g9) ?_
    refine yG (oj hn_g2 hn_g9) ?_
    refine aw_push (pre := [(g9, .cells 33 3 (ofL (rdc (rd (impQ d p k))))), (g2, .cells 25 3 (ofL (dgc false d)))]) rfl rfl rfl rfl rfl rfl rfl (zE (oj hn_g2 hn_g9)) (zE (oj hn_g2 hn_g9)) (by rfl) (by omega) (by omega) (zE (oj hn_g2 hn_g9)) (by omega) (by exact hog) (zE (oj hn_g2 hn_g9)) (by rfl) (by rfl) (by first | rfl | simp only [Nat.mul_one, List.nil_append, List.cons_append] <;> rfl) (by unfold maxLen; omega) (by omega) (by exact rats_push (impL_len d p k) _) fun g1 hn_g1 => ?_
    replace hn_g1 := Heap.ne_of hn_g1
    first | dsimp only [Heap.ne, gh] at hn_g1 | dsimp only [Heap.ne] at hn_g1 | skip
    refine yS (oj hn_g2 (oj hn_g9 hn_g1)) ?_
    refine yG (oj hn_g2 (oj hn_g9 hn_g1)) ?_
    rw [← impL_succ]
    exact aw_stop ⟨(some g1, k + 1), by dsimp only; omega, (zB (oj hn_g2 (oj hn_g9 hn_g1))), List.Sublist.cons _ (List.Sublist.refl _), by dsimp only; omega, some_ne⟩
  · have h1' : k = p.length := by have := of_decide_eq_false h1; omega
    subst h1'
    refine yG hn_g2 ?_
    refine yT hC hn_g2 ?_
    rw [h0']
    exact .tup ⟨.c (ler_gsr (pre := [(g2, _)]) hog (fun g e => by
      subst e
      simp only [Heap.keys, gh, List.map_cons, List.map_nil, List.nodup_cons, List.mem_singleton] at hnd
      simp only [Heap.keys, List.map_cons, List.map_nil, List.mem_singleton]
      exact fun e => hnd.1 e.symm) (impL_len d p p.length)), .c .nilI, trivial⟩
end Go.Proofs.YtlpejaefobdajaaGreat

/- faultlineref42: set, Change, one, Birnbaum, Joint, Critical. -/
namespace Go.Proofs.YtlpejaefobdajaaGreat
open Go.AI Go.PN
attribute [local irreducible] aw Fa Fh DrK
theorem ler_oslr2 {h : Heap} {t : Bool} {g n : Nat} {ty : TypeId} {W : List RD} (hg : h.get g = some (.cells ty (n * 3) (ratsF W))) (hn : n = W.length) : LeR h (.osl g 3 0 n) (rats t W) := by
  subst hn
  refine .osl hg (by omega) (fun j hj => ?_)
  rw [Nat.zero_add]
  exact lf_ler (by omega) (fun x _ k hk => by
    match k, hk with
    | 0, _ => exact .bool _
    | 1, _ => exact ler_ws
    | 2, _ => exact ler_ws) j hj
theorem set42_fa (p : List RD) (hl : p.length ≤ 1000) (i : Nat) (hi : i < p.length) (q : RD) : Fa Tryz.prog 78 [.c (rats false p), .c (.int .i64 i), .agg (rdc q)] (.c (rats true (p.set i q))) := by
  refine fa_of_body Tryz.func78 rfl rfl (by simp [Tryz.ntmps78]) fun C hC => ?_
  simp only [initS, Nat.reduceAdd]
  refine xG ?_
  refine xB fun g5 hn_g5=>?_
  refine yG hn_g5 ?_
  refine aw_appendN (size := 3) (z := [.bool false, .nils, .nils]) (cx := rats false p) (k := p.length) (f2 := ratsF p) rfl rfl rfl (zE hn_g5) (zE hn_g5) rfl (by omega) (zE hn_g5) (zE hn_g5) .row (by omega) (by unfold maxLen; omega) (by omega) fun go hn_go => ?_
  replace hn_go := Heap.ne_of hn_go
  dsimp only [Heap.ne] at hn_go
  refine yS (oj hn_g5 hn_go) ?_
  refine yG (oj hn_g5 hn_go) ?_
  refine yW (oj hn_g5 hn_go) ?_
  refine yS (oj hn_g5 hn_go) ?_
  rw [ratsF_upd (by omega)]
  refine yG (oj hn_g5 hn_go) ?_
  refine yT hC (oj hn_g5 hn_go) ?_
  exact .one (.c (ler_oslr2 (zE (oj hn_g5 hn_go)) (by rw [List.length_set])))
set_option maxHeartbeats 800000 in
theorem change42_fa (d : DG) (p : List RD) (hs : Small d p) (h0 : dpcode d p = 0) (i : Nat) (hi : i < p.length) (q : RD) (hq : q.wf 4) :
    Fa Tryz.prog 34 [.agg (dgc false d), .c (rats false p), .c (.int .i64 i), .agg (rdc q)] (.agg (rdc (rd (prS d (p.set i q))))) := by
  have s1 := hs.l
  have h6 := hs.o6 h0
  obtain ⟨ok, hpl, _⟩ := dp_ok h0
  have k1 := ok.n4096
  have hp := prob37_fa d (p.set i q) d.order.length (by omega) ok.ns ok.r0 (by have := ok.r1; omega) (by omega) 4 (by omega) (by omega) (hs.set h0 (i := i) hq).w (by rw [List.length_set]; omega) (by rw [List.length_set]; exact hpl)
  rw [List.length_set] at hp
  unfold prS
  rw [List.length_set]
  refine fa_of_body Tryz.func34 rfl rfl (by simp [Tryz.ntmps34]) fun C hC => ?_
  simp only [initS, Nat.reduceAdd]
  refine xG ?_
  refine xB fun g4 hn_g4=>?_
  refine yG hn_g4 ?_
  refine yB hn_g4 fun g7 hn_g7=>?_
  refine yG (oj hn_g4 hn_g7) ?_
  refine yA (oj hn_g4 hn_g7) fun g8 hn_g8=>?_
  refine yG (oj hn_g4 (oj hn_g7 hn_g8)) ?_
  refine aw_dr 6 ty_mixed (by kernel_rfl) ?_
  refine yG (oj hn_g4 (oj hn_g7 hn_g8)) ?_
  refine yD (oj hn_g4 (oj hn_g7 hn_g8)) (set42_fa p ?_ i hi q) ?_
  · omega
  refine yG (oj hn_g4 (oj hn_g7 hn_g8)) ?_
  refine yD (oj hn_g4 (oj hn_g7 hn_g8)) (hp) ?_
  refine yG (oj hn_g4 (oj hn_g7 hn_g8)) ?_
  refine yW (oj hn_g4 (oj hn_g7 hn_g8)) ?_
  refine yS (oj hn_g4 (oj hn_g7 hn_g8)) ?_
  refine yG (oj hn_g4 (oj hn_g7 hn_g8)) ?_
  refine yT hC (oj hn_g4 (oj hn_g7 hn_g8)) ?_
  exact ler_rd rfl
set_option maxHeartbeats 1600000 in
theorem one42_fa (d : DG) (p : List RD) (hs : Small d p) (h0 : dpcode d p = 0) (i : Nat) (hi : i < p.length) :
    Fa Tryz.prog 77 [.agg (dgc false d), .c (rats false p), .c (.int .i64 i)] (.agg (rdc (rd (impQ d p i)))) := by
  have f1 := pr_fits (hs.set h0 (i := i) rd1_wf) (dp_set h0 rd1_prob)
  have f0 := pr_fits (hs.set h0 (i := i) rd0_wf4) (dp_set h0 rd0_prob)
  have c1 := change42_fa d p hs h0 i hi (rd 1) rd1_wf
  have c0 := change42_fa d p hs h0 i hi rd0 rd0_wf4
  unfold impQ
  generalize prS d (p.set i (rd 1)) = X1 at *
  generalize prS d (p.set i rd0) = X0 at *
  refine fa_of_body Tryz.func77 rfl rfl (by simp [Tryz.ntmps77]) fun C hC => ?_
  simp only [initS, Nat.reduceAdd]
  refine xG ?_
  refine xB fun g3 hn_g3=>?_
  refine yG hn_g3 ?_
  refine yA hn_g3 fun g6 hn_g6=>?_
  refine yG (oj hn_g3 hn_g6) ?_
  refine aw_dr 11 ty_mixed (by kernel_rfl) ?_
  refine yG (oj hn_g3 hn_g6) ?_
  refine yD (oj hn_g3 hn_g6) (sof_fa 1 ?_ ?_) ?_
  · omega
  · omega
  refine yG (oj hn_g3 hn_g6) ?_
  refine yD (oj hn_g3 hn_g6) (c1) ?_
  refine yG (oj hn_g3 hn_g6) ?_
  refine drk_call c0 rfl rfl rfl (by refine yS (oj hn_g3 hn_g6) ?_; exact ⟨.agg (lel_refl _), .c (.refl _), .c (.refl _), .agg ⟨.refl _, .nils, .nils, trivial⟩⟩) ?_
  refine yS (oj hn_g3 hn_g6) ?_
  refine yG (oj hn_g3 hn_g6) ?_
  refine yD (oj hn_g3 hn_g6) (ssub_fa (rd X1) (rd X0) (rd_wf (fits_mono f1 ?_)) (rd_wf (fits_mono f0 ?_))) ?_
  · omega
  · omega
  rw [rd_q, rd_q]
  refine yG (oj hn_g3 hn_g6) ?_
  refine yW (oj hn_g3 hn_g6) ?_
  refine yS (oj hn_g3 hn_g6) ?_
  refine yG (oj hn_g3 hn_g6) ?_
  refine yT hC (oj hn_g3 hn_g6) ?_
  exact ler_rd rfl
set_option maxHeartbeats 1600000 in
theorem birnbaum42_fa (d : DG) (p : List RD) (hs : Small d p) (h0 : dpcode d p = 0) :
    Fa Tryz.prog 46 [.agg (dgc false d), .c (rats false p)] (.c (rats true (impL d p p.length))) := by
  have s1 := hs.l
  refine fa_of_body Tryz.func46 rfl rfl (by simp [Tryz.ntmps46]) fun C hC => ?_
  simp only [initS, Nat.reduceAdd]
  refine xG ?_
  refine xB fun g2 hn_g2=>?_
  refine yG hn_g2 ?_
  refine aw_lp (fun x : Option Nat × Nat => [(1, .c (rats false p)), (2, .c (.optr g2 0)), (5, .c (gs x.1 3 x.2)), (6, .c (.int .i64 x.2))]) (fun x => (g2, .cells 25 3 (ofL (dgc false d))) :: gh x.1 33 (x.2 * 3) (ratsF (impL d p x.2)))
    (fun x => x.2 ≤ p.length ∧ (x.1 = none → x.2 = 0)) (fun x => p.length - x.2) (none, 0) (zB hn_g2) (List.Sublist.cons_cons _ (List.nil_sublist _)) ⟨Nat.zero_le _, fun _ => rfl⟩ ?_
  rintro ⟨og, k⟩ ⟨hk, hog⟩
  dsimp only at hk hog ⊢
  refine aw_nd fun hnd => ?_
  refine yG hn_g2 ?_
  refine yF hn_g2 (fun h1=>?_) fun h1=>?_
  · have h1' : k < p.length := by have := of_decide_eq_true h1; omega
    refine yG hn_g2 ?_
    refine yC hn_g2 (one42_fa d p hs h0 k h1') ?_
    refine yG hn_g2 ?_
    refine aw_push (pre := [(g2, .cells 25 3 (ofL (dgc false d)))]) rfl rfl rfl rfl rfl rfl rfl (zE hn_g2) (zE hn_g2) (by rfl) (by omega) (by omega) (zE hn_g2) (by omega) (by exact hog) (zE hn_g2) (by rfl) (by rfl) (by first | rfl | simp only [Nat.mul_one, List.nil_append, List.cons_append] <;> rfl) (by unfold maxLen; omega) (by omega) (by exact rats_push (impL_len d p k) _) fun g1 hn_g1 => ?_
    replace hn_g1 := Heap.ne_of hn_g1
    first | dsimp only [Heap.ne, gh] at hn_g1 | dsimp only [Heap.ne] at hn_g1 | skip
    refine yS (oj hn_g2 hn_g1) ?_
    refine yG (oj hn_g2 hn_g1) ?_
    rw [← impL_succ]
    exact aw_stop ⟨(some g1, k + 1), by dsimp only; omega, (zB (oj hn_g2 hn_g1)), zZ, by dsimp only; omega, some_ne⟩
  · have h1' : k = p.length := by have := of_decide_eq_false h1; omega
    subst h1'
    refine yG hn_g2 ?_
    refine yT hC hn_g2 ?_
    exact .one (.c (ler_gsr (pre := [(g2, _)]) hog (fun g e => by
      subst e
      simp only [Heap.keys, gh, List.map_cons, List.map_nil, List.nodup_cons, List.mem_singleton] at hnd
      simp only [Heap.keys, List.map_cons, List.map_nil, List.mem_singleton]
      exact fun e => hnd.1 e.symm) (impL_len d p p.length)))
/-- The joint importance. -/
def jointQ (d : DG) (p : List RD) (i j : Nat) : Rat := if i = j then 0 else impQ d (p.set j (rd 1)) i - impQ d (p.set j rd0) i
theorem joint_fits {d : DG} {p : List RD} (hs : Small d p) (h0 : dpcode d p = 0) (i j : Nat) : fits (jointQ d p i j) 20000 := by
  unfold jointQ
  split
  · exact fits_mono fits_zero (by omega)
  · exact fits_mono (fits_sub (imp_fits (hs.set h0 (i := j) rd1_wf) (dp_set h0 rd1_prob) i) (imp_fits (hs.set h0 (i := j) rd0_wf4) (dp_set h0 rd0_prob) i)) (by omega)
set_option maxRecDepth 100000 in
set_option maxHeartbeats 1600000 in
theorem joint42_fa (d : DG) (p : List RD) (hs : Small d p) (h0 : dpcode d p = 0) (i j : Nat) (hi : i < p.length) (hj : j < p.length) :
    Fa Tryz.prog 23 [.agg (dgc false d), .c (rats false p), .c (.int .i64 i), .c (.int .i64 j)] (.agg (rdc (rd (jointQ d p i j)))) := by
  have s1 := hs.l
  have e1 := one42_fa d (p.set j (rd 1)) (hs.set h0 rd1_wf) (dp_set h0 rd1_prob) i (by rw [List.length_set]; exact hi)
  have e0 := one42_fa d (p.set j rd0) (hs.set h0 rd0_wf4) (dp_set h0 rd0_prob) i (by rw [List.length_set]; exact hi)
  have f1 := imp_fits (hs.set h0 (i := j) rd1_wf) (dp_set h0 rd1_prob) i
  have f0 := imp_fits (hs.set h0 (i := j) rd0_wf4) (dp_set h0 rd0_prob) i
  unfold jointQ
  generalize impQ d (p.set j (rd 1)) i = X1 at *
  generalize impQ d (p.set j rd0) i = X0 at *
  refine fa_of_body Tryz.func23 rfl rfl (by simp [Tryz.ntmps23]) fun C hC => ?_
  simp only [initS, Nat.reduceAdd]
  refine xG ?_
  refine xB fun g4 hn_g4=>?_
  refine yG hn_g4 ?_
  refine yA hn_g4 fun g8 hn_g8=>?_
  refine yG (oj hn_g4 hn_g8) ?_
  refine yF (oj hn_g4 hn_g8) (fun hb=>?_) fun hb=>?_
  · have hb' : i = j := by have h : (i : Int) = j := eq_of_beq hb; omega
    rw [if_pos hb', rd_zero]
    refine yG (oj hn_g4 hn_g8) ?_
    refine yW (oj hn_g4 hn_g8) ?_
    refine yS (oj hn_g4 hn_g8) ?_
    refine yG (oj hn_g4 hn_g8) ?_
    refine yT hC (oj hn_g4 hn_g8) ?_
    exact .one (.agg ⟨.bool _, .nils, .nils, trivial⟩)
  have hb' : ¬ i = j := by intro h; rw [h] at hb; simp at hb
  rw [if_neg hb']
  refine yG (oj hn_g4 hn_g8) ?_
  refine aw_dr 15 ty_mixed (by kernel_rfl) ?_
  refine yG (oj hn_g4 hn_g8) ?_
  refine yD (oj hn_g4 hn_g8) (sof_fa 1 ?_ ?_) ?_
  · omega
  · omega
  refine yG (oj hn_g4 hn_g8) ?_
  refine yD (oj hn_g4 hn_g8) (set42_fa p ?_ j hj (rd 1)) ?_
  · omega
  refine yG (oj hn_g4 hn_g8) ?_
  refine yD (oj hn_g4 hn_g8) (e1) ?_
  refine yG (oj hn_g4 hn_g8) ?_
  refine drk_call (set42_fa p (by omega) j hj rd0) rfl rfl rfl (by refine yS (oj hn_g4 hn_g8) ?_; exact ⟨.c (.refl _), .c (.refl _), .agg ⟨.refl _, .nils, .nils, trivial⟩⟩) ?_
  refine yS (oj hn_g4 hn_g8) ?_
  refine yG (oj hn_g4 hn_g8) ?_
  refine yD (oj hn_g4 hn_g8) (e0) ?_
  refine yG (oj hn_g4 hn_g8) ?_
  refine yD (oj hn_g4 hn_g8) (ssub_fa (rd X1) (rd X0) (rd_wf (fits_mono f1 ?_)) (rd_wf (fits_mono f0 ?_))) ?_
  · omega
  · omega
  rw [rd_q, rd_q]
  refine yG (oj hn_g4 hn_g8) ?_
  refine yW (oj hn_g4 hn_g8) ?_
  refine yS (oj hn_g4 hn_g8) ?_
  refine yG (oj hn_g4 hn_g8) ?_
  refine yT hC (oj hn_g4 hn_g8) ?_
  exact ler_rd rfl
theorem tab_at {d : DG} {s : Nat} (h : s < 2 ^ d.order.length) : (tabL d).getD s false = evalD d.nodes s d.root := by
  unfold tabL
  rw [List.getD_eq_getElem?_getD]
  simp [h]
/-- Does event i decide in state s? -/
def critB (d : DG) (i s : Nat) : Bool := !s.testBit i && (evalD d.nodes s d.root != evalD d.nodes (setB s i true) d.root)
theorem crit_or {i s : Nat} (h : s.testBit i = false) : s ||| 2 ^ i = setB s i true := Nat.eq_of_testBit_eq fun j => by
  rw [setB_bit, Nat.testBit_or, Nat.testBit_two_pow]
  by_cases hj : j = i
  · subst hj; simp
  · rw [if_neg hj, decide_eq_false (fun e => hj e.symm), Bool.or_false]
theorem setB_lt {m s i : Nat} {b : Bool} (hs : s < 2 ^ m) (hi : i < m) : setB s i b < 2 ^ m := Nat.lt_pow_two_of_testBit _ fun j hj => by
  rw [setB_bit, if_neg (by omega)]
  exact Nat.testBit_lt_two_pow (Nat.lt_of_lt_of_le hs (Nat.pow_le_pow_right (by omega) hj))
set_option maxRecDepth 100000 in
set_option maxHeartbeats 1600000 in
theorem critical42_fa (d : DG) (ok : DgOk d) (i : Nat) (hi : i < d.order.length) :
    Fa Tryz.prog 24 [.agg (dgc false d), .c (.int .i64 i)] (.c (.int .i64 (cntTo (critB d i) (2 ^ d.order.length)))) := by
  have k1 := ok.n4096
  have k2 := ok.o24
  have hlen := tabL_len d
  have h24 : 2 ^ d.order.length ≤ 2 ^ 24 := Nat.pow_le_pow_right (by omega) k2
  refine fa_of_body Tryz.func24 rfl rfl (by simp [Tryz.ntmps24]) fun C hC => ?_
  simp only [initS, Nat.reduceAdd]
  refine xG ?_
  refine xB fun g2 hn_g2=>?_
  refine yG hn_g2 ?_
  refine yC hn_g2 (table15_fa d d.order.length ?_ ok.ns ok.r0 ?_ ?_ ?_) ?_
  · omega
  · have := ok.r1; omega
  · omega
  · omega
  refine yG hn_g2 ?_
  refine aw_lp (fun s : Nat => [(1, .c (.int .i64 i)), (5, .c (bs true (tabL d))), (6, .c (.int .i64 (cntTo (critB d i) s))), (7, .c (.int .i64 s))]) (fun _ => []) (fun s => s ≤ 2 ^ d.order.length) (fun s => 2 ^ d.order.length - s) 0 (zB hn_g2) (List.nil_sublist _) (Nat.zero_le _) ?_
  rintro s hs
  have hcle := cntTo_le (critB d i) s
  refine yG hn_g2 ?_
  refine yF hn_g2 (fun h1=>?_) fun h1=>?_
  · have h1' : s < 2 ^ d.order.length := by have := of_decide_eq_true h1; omega
    have hcs : cntTo (critB d i) (s + 1) = cntTo (critB d i) s + if critB d i s then 1 else 0 := rfl
    have b1 := shrZ_nat s i (by omega)
    have b2 := and_one_nat (s / 2 ^ i) (Nat.lt_of_le_of_lt (Nat.div_le_self _ _) (by omega))
    have b3 : (((s / 2 ^ i % 2 : Nat) : Int) == 0) = !s.testBit i := by
      have hbe := bit_eq s i
      have h2 := Nat.mod_lt (s / 2 ^ i) (show 0 < 2 by omega)
      rw [← hbe]
      generalize s / 2 ^ i % 2 = q at h2 ⊢
      obtain rfl | rfl : q = 0 ∨ q = 1 := by omega
      · rfl
      · rfl
    have b4 := shl_one i (by omega)
    have hp24 : 2 ^ i ≤ 2 ^ 24 := Nat.pow_le_pow_right (by omega) (by omega)
    have b5 := orZ_nat s (2 ^ i) (by omega) (by omega)
    refine yG (oj hn_g2 (oj b1 (oj b2 (oj b3 (oj b4 b5))))) ?_
    refine aw_dr 19 ty_mixed (by kernel_rfl) ?_
    refine yG (oj hn_g2 (oj b1 (oj b2 (oj b3 (oj b4 b5))))) ?_
    refine drk_split 21 (zE (oj hn_g2 (oj b1 (oj b2 (oj b3 (oj b4 b5)))))) (fun hb => ?_) (fun hb => ?_) <;> refine yS (oj hn_g2 (oj b1 (oj b2 (oj b3 (oj b4 b5))))) ?_
    · have hb' : s.testBit i = false := by simpa using hb
      have hlt := setB_lt (b := true) h1' hi
      have hcr := crit_or hb'
      have t1 := tab_at h1'
      have t2 := tab_at hlt
      rw [← hcr] at t2 hlt
      have hcv : critB d i s = (evalD d.nodes s d.root != evalD d.nodes (s ||| 2 ^ i) d.root) := by unfold critB; rw [hb', hcr]; rfl
      refine yG (oj hn_g2 (oj b1 (oj b2 (oj b3 (oj b4 (oj b5 (oj t1 t2))))))) ?_
      refine yF (oj hn_g2 (oj b1 (oj b2 (oj b3 (oj b4 (oj b5 (oj t1 t2))))))) (fun h2=>?_) fun h2=>?_
      · rw [hcv, h2] at hcs
        refine yG (oj hn_g2 (oj b1 (oj b2 (oj b3 (oj b4 (oj b5 (oj t1 t2))))))) ?_
        exact aw_stop ⟨s + 1, by omega, by refine yS (oj hn_g2 (oj b1 (oj b2 (oj b3 (oj b4 (oj b5 (oj t1 t2))))))) ?_; and_intros <;> first | rfl | exact c_int (by rw [hcs]; simp), zZ, by omega⟩
      · rw [hcv, h2] at hcs
        refine yG (oj hn_g2 (oj b1 (oj b2 (oj b3 (oj b4 (oj b5 (oj t1 t2))))))) ?_
        exact aw_stop ⟨s + 1, by omega, by refine yS (oj hn_g2 (oj b1 (oj b2 (oj b3 (oj b4 (oj b5 (oj t1 t2))))))) ?_; and_intros <;> first | rfl | exact c_int (by rw [hcs]; simp), zZ, by omega⟩
    · have hb' : s.testBit i = true := by simpa using hb
      have hcv : critB d i s = false := by unfold critB; rw [hb']; rfl
      rw [hcv] at hcs
      refine yG (oj hn_g2 (oj b1 (oj b2 (oj b3 (oj b4 b5))))) ?_
      refine yN (oj hn_g2 (oj b1 (oj b2 (oj b3 (oj b4 b5))))) ?_
      refine yG (oj hn_g2 (oj b1 (oj b2 (oj b3 (oj b4 b5))))) ?_
      exact aw_stop ⟨s + 1, by omega, by refine yS (oj hn_g2 (oj b1 (oj b2 (oj b3 (oj b4 b5))))) ?_; and_intros <;> first | rfl | exact c_int (by rw [hcs]; simp), zZ, by omega⟩
  · have h1' : s = 2 ^ d.order.length := by have := of_decide_eq_false h1; omega
    subst h1'
    refine yG hn_g2 ?_
    refine yT hC hn_g2 ?_
    exact .one (.c (ler_int rfl))
end Go.Proofs.YtlpejaefobdajaaGreat

/- birnbaum: Joint, Critical, Change. -/
namespace Go.Proofs.YtlpejaefobdajaaGreat
open Go.AI Go.PN
attribute [local irreducible] aw Fa Fh DrK
theorem set_comm' {p : List RD} {i j : Nat} (h : ¬ i = j) (a b : RD) : (p.set i a).set j b = (p.set j b).set i a := List.set_comm _ _ h
theorem joint_comm (d : DG) (p : List RD) (i j : Nat) : jointQ d p i j = jointQ d p j i := by
  unfold jointQ
  by_cases h : i = j
  · rw [if_pos h, if_pos h.symm]
  · rw [if_neg h, if_neg (fun e => h e.symm)]
    unfold impQ prS
    simp only [List.length_set]
    rw [set_comm' h (rd 1) (rd 1), set_comm' h (rd 1) rd0, set_comm' h rd0 (rd 1), set_comm' h rd0 rd0]
    grind
theorem bcode_ok {d : DG} {p : List RD} {es : List Int} (h : bcode d p es = 0) : dpcode d p = 0 ∧ ∀ i ∈ es, 0 ≤ i ∧ i < d.order.length := by
  unfold bcode at h
  split at h
  · rename_i h1; exact absurd h h1
  · rename_i h1
    split at h
    · rename_i h2
      refine ⟨by omega, fun i hi => ?_⟩
      have := List.all_eq_true.1 h2 i hi
      simpa using this
    · cases h
set_option maxRecDepth 100000 in
set_option maxHeartbeats 3200000 in
theorem joint_fa (d : DG) (p : List RD) (hs : Small d p) (i j : Int) :
    Fa Tryz.prog 16 [.agg (dgc false d), .c (rats false p), .c (.int .i64 i), .c (.int .i64 j)] (.tup [.agg (rdc (if bcode d p [i, j] = 0 then rd (jointQ d p i.toNat j.toNat) else rd0)), .c (errA (bcode d p [i, j]))]) := by
  have s1 := hs.l
  have s2 := hs.o
  have s3 := hs.n
  have hb := bcheck_fa d p [i, j] hs.w5 (by omega) (by omega) (by omega) (by simp)
  refine fa_of_body Tryz.func16 rfl rfl (by simp [Tryz.ntmps16]) fun C hC => ?_
  simp only [initS, Nat.reduceAdd]
  refine xG ?_
  refine xB fun g4 hn_g4=>?_
  refine yG hn_g4 ?_
  refine yA hn_g4 fun g8 hn_g8=>?_
  refine yG (oj hn_g4 hn_g8) ?_
  refine aw_buildSlice (xs := [.tmp 17, .tmp 18]) (cells := [.int .i64 i, .int .i64 j]) rfl rfl rfl (zE (oj hn_g4 hn_g8)) (by refine yS (oj hn_g4 hn_g8) ?_; rfl) rfl (by omega) (by omega) (by intro x hx; simp only [List.mem_cons, List.not_mem_nil, or_false] at hx; rcases hx with rfl | rfl <;> exact ⟨rfl, rfl, rfl⟩) rfl fun g19 hn_g19 => ?_
  replace hn_g19 := Heap.ne_of hn_g19
  dsimp only [Heap.ne] at hn_g19
  refine yS (oj hn_g4 (oj hn_g8 hn_g19)) ?_
  refine aw_frzT (t := 19) (isF [i, j]) (zE (oj hn_g4 (oj hn_g8 hn_g19))) (zE (oj hn_g4 (oj hn_g8 hn_g19))) (by omega) (hC g19) (fun q hq => by match q, hq with | 0, _ => rfl | 1, _ => rfl) rfl (zE (oj hn_g4 (oj hn_g8 hn_g19))) ?_
  refine yS (oj hn_g4 (oj hn_g8 hn_g19)) ?_
  refine yG (oj hn_g4 (oj hn_g8 hn_g19)) ?_
  refine yC (oj hn_g4 (oj hn_g8 hn_g19)) (hb) ?_
  refine yG (oj hn_g4 (oj hn_g8 hn_g19)) ?_
  refine aw_split 23 (zE (oj hn_g4 (oj hn_g8 hn_g19))) (fun h1 => ?_) (fun h1 => ?_) <;> refine yS (oj hn_g4 (oj hn_g8 hn_g19)) ?_
  · have h1' : bcode d p [i, j] ≠ 0 := by simpa using h1
    rw [if_neg h1']
    refine yG (oj hn_g4 (oj hn_g8 hn_g19)) ?_
    refine yP (oj hn_g4 (oj hn_g8 hn_g19)) ?_
    refine yG (oj hn_g4 (oj hn_g8 hn_g19)) ?_
    refine yW (oj hn_g4 (oj hn_g8 hn_g19)) ?_
    refine yS (oj hn_g4 (oj hn_g8 hn_g19)) ?_
    refine yG (oj hn_g4 (oj hn_g8 hn_g19)) ?_
    refine yT hC (oj hn_g4 (oj hn_g8 hn_g19)) ?_
    exact .tup ⟨.agg ⟨.bool _, .nils, .nils, trivial⟩, .c ler_err, trivial⟩
  have h1' : bcode d p [i, j] = 0 := by simpa using h1
  obtain ⟨h0, hr⟩ := bcode_ok h1'
  obtain ⟨ok, hpl, _⟩ := dp_ok h0
  have hi := hr i (by simp)
  have hj := hr j (by simp)
  rw [if_pos h1', h1']
  obtain ⟨a, rfl⟩ : ∃ a : Nat, i = a := ⟨i.toNat, by omega⟩
  obtain ⟨b, rfl⟩ : ∃ b : Nat, j = b := ⟨j.toNat, by omega⟩
  rw [Int.toNat_natCast, Int.toNat_natCast, joint_comm]
  unfold jointQ
  refine yG (oj hn_g4 (oj hn_g8 hn_g19)) ?_
  refine yF (oj hn_g4 (oj hn_g8 hn_g19)) (fun h2=>?_) fun h2=>?_
  · have h2' : a = b := by have h : (a : Int) = b := eq_of_beq h2; omega
    rw [if_pos h2'.symm, rd_zero]
    refine yG (oj hn_g4 (oj hn_g8 hn_g19)) ?_
    refine yW (oj hn_g4 (oj hn_g8 hn_g19)) ?_
    refine yS (oj hn_g4 (oj hn_g8 hn_g19)) ?_
    refine yG (oj hn_g4 (oj hn_g8 hn_g19)) ?_
    refine yT hC (oj hn_g4 (oj hn_g8 hn_g19)) ?_
    exact .tup ⟨.agg ⟨.bool _, .nils, .nils, trivial⟩, .c .nilI, trivial⟩
  have h2' : ¬ a = b := by intro h; rw [h] at h2; simp at h2
  rw [if_neg (fun e => h2' e.symm)]
  have e1 := derive_fa d (p.set a (rd 1)) (hs.set h0 rd1_wf) (dp_set h0 rd1_prob) b (by rw [List.length_set]; omega)
  have e0 := derive_fa d (p.set a rd0) (hs.set h0 rd0_wf4) (dp_set h0 rd0_prob) b (by rw [List.length_set]; omega)
  have f1 := imp_fits (hs.set h0 (i := a) rd1_wf) (dp_set h0 rd1_prob) b
  have f0 := imp_fits (hs.set h0 (i := a) rd0_wf4) (dp_set h0 rd0_prob) b
  generalize impQ d (p.set a (rd 1)) b = X1 at *
  generalize impQ d (p.set a rd0) b = X0 at *
  refine yG (oj hn_g4 (oj hn_g8 hn_g19)) ?_
  refine aw_callh (hr := [(g8, .cells 33 3 (ofL [.bool false, .nils, .nils])), (g4, .cells 25 3 (ofL (dgc false d)))]) (clone_fh p (by omega)) rfl rfl rfl (List.Perm.refl _) (zL (oj hn_g4 (oj hn_g8 hn_g19))) ?_
  rintro _ _ ⟨og, hog, rfl, rfl⟩ hk2
  obtain ⟨g, rfl⟩ : ∃ g, og = some g := by
    cases og with
    | none => have := hog rfl; omega
    | some g => exact ⟨g, rfl⟩
  have hg := hk2 g (by simp [Heap.keys, gh])
  replace hg := Heap.ne_of hg
  dsimp only [Heap.ne] at hg
  dsimp only [gs, gh, List.cons_append, List.nil_append]
  refine yS (oj hn_g4 (oj hn_g8 (oj hn_g19 hg))) ?_
  refine yG (oj hn_g4 (oj hn_g8 (oj hn_g19 hg))) ?_
  refine yC (oj hn_g4 (oj hn_g8 (oj hn_g19 hg))) (rof_fa 1 ?_ ?_) ?_
  · omega
  · omega
  refine yG (oj hn_g4 (oj hn_g8 (oj hn_g19 hg))) ?_
  refine yW (oj hn_g4 (oj hn_g8 (oj hn_g19 hg))) ?_
  refine yS (oj hn_g4 (oj hn_g8 (oj hn_g19 hg))) ?_
  rw [ratsF_upd (by omega)]
  refine yG (oj hn_g4 (oj hn_g8 (oj hn_g19 hg))) ?_
  refine aw_callq e1 rfl rfl rfl (by refine yS (oj hn_g4 (oj hn_g8 (oj hn_g19 hg))) ?_; exact ⟨.agg (lel_refl _), .c (le_oslr2 (zE (oj hn_g4 (oj hn_g8 (oj hn_g19 hg)))) (by rw [List.length_set])), .c (.refl _)⟩) ?_
  refine yS (oj hn_g4 (oj hn_g8 (oj hn_g19 hg))) ?_
  refine yG (oj hn_g4 (oj hn_g8 (oj hn_g19 hg))) ?_
  refine yA (oj hn_g4 (oj hn_g8 (oj hn_g19 hg))) fun g12 hn_g12=>?_
  refine yG (oj hn_g4 (oj hn_g8 (oj hn_g19 (oj hg hn_g12)))) ?_
  refine yW (oj hn_g4 (oj hn_g8 (oj hn_g19 (oj hg hn_g12)))) ?_
  refine yS (oj hn_g4 (oj hn_g8 (oj hn_g19 (oj hg hn_g12)))) ?_
  refine yG (oj hn_g4 (oj hn_g8 (oj hn_g19 (oj hg hn_g12)))) ?_
  refine yN (oj hn_g4 (oj hn_g8 (oj hn_g19 (oj hg hn_g12)))) ?_
  refine yG (oj hn_g4 (oj hn_g8 (oj hn_g19 (oj hg hn_g12)))) ?_
  refine aw_conv (t := 49) (v := .agg (rdc rd0)) (by refine yS (oj hn_g4 (oj hn_g8 (oj hn_g19 (oj hg hn_g12)))) ?_; exact zero_agg) rfl ?_
  refine yS (oj hn_g4 (oj hn_g8 (oj hn_g19 (oj hg hn_g12)))) ?_
  refine yG (oj hn_g4 (oj hn_g8 (oj hn_g19 (oj hg hn_g12)))) ?_
  refine yW (oj hn_g4 (oj hn_g8 (oj hn_g19 (oj hg hn_g12)))) ?_
  refine yS (oj hn_g4 (oj hn_g8 (oj hn_g19 (oj hg hn_g12)))) ?_
  rw [ratsF_upd (by rw [List.length_set]; omega), List.set_set]
  refine yG (oj hn_g4 (oj hn_g8 (oj hn_g19 (oj hg hn_g12)))) ?_
  refine aw_callq e0 rfl rfl rfl (by refine yS (oj hn_g4 (oj hn_g8 (oj hn_g19 (oj hg hn_g12)))) ?_; exact ⟨.agg (lel_refl _), .c (le_oslr2 (zE (oj hn_g4 (oj hn_g8 (oj hn_g19 (oj hg hn_g12))))) (by rw [List.length_set])), .c (.refl _)⟩) ?_
  refine yS (oj hn_g4 (oj hn_g8 (oj hn_g19 (oj hg hn_g12)))) ?_
  refine yG (oj hn_g4 (oj hn_g8 (oj hn_g19 (oj hg hn_g12)))) ?_
  refine yA (oj hn_g4 (oj hn_g8 (oj hn_g19 (oj hg hn_g12)))) fun g14 hn_g14=>?_
  refine yG (oj hn_g4 (oj hn_g8 (oj hn_g19 (oj hg (oj hn_g12 hn_g14))))) ?_
  refine yW (oj hn_g4 (oj hn_g8 (oj hn_g19 (oj hg (oj hn_g12 hn_g14))))) ?_
  refine yS (oj hn_g4 (oj hn_g8 (oj hn_g19 (oj hg (oj hn_g12 hn_g14))))) ?_
  refine yG (oj hn_g4 (oj hn_g8 (oj hn_g19 (oj hg (oj hn_g12 hn_g14))))) ?_
  refine yC (oj hn_g4 (oj hn_g8 (oj hn_g19 (oj hg (oj hn_g12 hn_g14))))) (rsub_fa (rd X1) (rd X0) (rd_wf (fits_mono f1 ?_)) (rd_wf (fits_mono f0 ?_))) ?_
  · omega
  · omega
  rw [rd_q, rd_q]
  refine yG (oj hn_g4 (oj hn_g8 (oj hn_g19 (oj hg (oj hn_g12 hn_g14))))) ?_
  refine yW (oj hn_g4 (oj hn_g8 (oj hn_g19 (oj hg (oj hn_g12 hn_g14))))) ?_
  refine yS (oj hn_g4 (oj hn_g8 (oj hn_g19 (oj hg (oj hn_g12 hn_g14))))) ?_
  refine yG (oj hn_g4 (oj hn_g8 (oj hn_g19 (oj hg (oj hn_g12 hn_g14))))) ?_
  refine yT hC (oj hn_g4 (oj hn_g8 (oj hn_g19 (oj hg (oj hn_g12 hn_g14))))) ?_
  exact .tup ⟨.agg lerl_rd, .c .nilI, trivial⟩
end Go.Proofs.YtlpejaefobdajaaGreat

/- birnbaum: Critical, Change. -/
namespace Go.Proofs.YtlpejaefobdajaaGreat
open Go.AI Go.PN
attribute [local irreducible] aw Fa Fh DrK
/-- The error of Critical. -/
def cicode (d : DG) (i : Int) : Int := if dcode d ≠ 0 then dcode d else if 0 ≤ i ∧ i < d.order.length then 0 else 10
theorem crit_cnt (d : DG) {i : Nat} (hi : i < d.order.length) : 2 * cntTo (critB d i) (2 ^ d.order.length) = cntTo (fun s => evalD d.nodes (setB s i false) d.root != evalD d.nodes (setB s i true) d.root) (2 ^ d.order.length) := by
  rw [← cnt_crit hi (fun s => evalD d.nodes s d.root)]
  congr 1
  refine cnt_congr _ fun s _ => ?_
  unfold critB
  cases hb : s.testBit i with
  | true => rfl
  | false =>
    have : setB s i false = s := by unfold setB; rw [if_pos hb]
    rw [this]
set_option maxRecDepth 100000 in
set_option maxHeartbeats 3200000 in
theorem critical_fa (d : DG) (hl1 : d.order.length ≤ 1099511627776) (hl2 : d.nodes.length ≤ 1099511627776) (h6 : dcode d = 0 → d.order.length ≤ 6) (i : Int) :
    Fa Tryz.prog 17 [.agg (dgc false d), .c (.int .i64 i)] (.tup [.c (.int .i64 (if cicode d i = 0 then (cntTo (critB d i.toNat) (2 ^ d.order.length) : Int) else 0)), .c (errA (cicode d i))]) := by
  refine fa_of_body Tryz.func17 rfl rfl (by simp [Tryz.ntmps17]) fun C hC => ?_
  simp only [initS, Nat.reduceAdd]
  refine xG ?_
  refine xB fun g2 hn_g2=>?_
  refine yG hn_g2 ?_
  refine yC hn_g2 (dcheck_fa d hl1 hl2) ?_
  refine yG hn_g2 ?_
  refine yF hn_g2 (fun hb=>?_) fun hb=>?_
  · have hb' : dcode d ≠ 0 := by simpa using hb
    have e : cicode d i = dcode d := by unfold cicode; rw [if_pos hb']
    rw [e, if_neg hb']
    refine yG hn_g2 ?_
    refine yT hC hn_g2 ?_
    exact .tup ⟨.c (.int _ _), .c ler_err, trivial⟩
  have hb' : dcode d = 0 := by simpa using hb
  have ok := dg_ok hb'
  have ho := h6 hb'
  have hcode : cicode d i = if 0 ≤ i ∧ i < d.order.length then 0 else 10 := by unfold cicode; rw [if_neg (by simpa using hb')]
  rw [hcode]
  refine yG hn_g2 ?_
  refine aw_split 16 (zE hn_g2) (fun h1 => ?_) (fun h1 => ?_) <;> refine yS hn_g2 ?_
  · have h1' := of_decide_eq_true h1
    rw [if_neg (show ¬ (0 ≤ i ∧ i < (d.order.length : Int)) from fun h => by omega)]
    refine yG hn_g2 ?_
    refine yP hn_g2 ?_
    refine yG hn_g2 ?_
    refine yT hC hn_g2 ?_
    exact .tup ⟨.c (.int _ _), .c (ler_errN rfl (by decide)), trivial⟩
  have h1' := of_decide_eq_false h1
  refine yG hn_g2 ?_
  refine yF hn_g2 (fun h2=>?_) fun h2=>?_
  · have h2' := of_decide_eq_true h2
    rw [if_neg (show ¬ (0 ≤ i ∧ i < (d.order.length : Int)) from fun h => by omega)]
    refine yG hn_g2 ?_
    refine yT hC hn_g2 ?_
    exact .tup ⟨.c (.int _ _), .c (ler_errN rfl (by decide)), trivial⟩
  have h2' := of_decide_eq_false h2
  rw [if_pos (show 0 ≤ i ∧ i < (d.order.length : Int) from by omega), if_pos rfl]
  obtain ⟨a, rfl⟩ : ∃ a : Nat, i = a := ⟨i.toNat, by omega⟩
  rw [Int.toNat_natCast]
  have ha : a < d.order.length := by omega
  have k1 := ok.n4096
  have hcc := crit_cnt d ha
  have hod : OdOk d.order (placesL d.order) := ⟨ok.perm, pl_ok ok.perm, ok.o24⟩
  have hB : 2 ^ (d.order.length + 1) ≤ 128 := Nat.le_trans (Nat.pow_le_pow_right (by omega) (show d.order.length + 1 ≤ 7 by omega)) (by decide)
  refine yG hn_g2 ?_
  refine aw_callh (hc := []) (hr := [(g2, .cells 25 3 (ofL (dgc false d)))]) (new_fh d.order ok.perm ok.o24) rfl rfl rfl (.refl _) (zL hn_g2) ?_
  rintro _ _ ⟨gT, gU, gM, rfl, rfl⟩ hfr
  have hg2 := (ndP_of (l := [g2]) (by simp)).1
  refine yS hn_g2 ?_
  refine aw_perm List.perm_append_comm ?_
  refine yS hn_g2 ?_
  refine aw_nd fun hnd => ?_
  refine yG hn_g2 ?_
  refine aw_perm (h' := THp gT gU gM none d.order (placesL d.order) [] [] ++ [(g2, .cells 25 3 (ofL (dgc false d)))]) (List.perm_append_comm (l₁ := [(g2, _)])) ?_
  have ts0 : TS d.order none [] [] := ⟨fun _ => rfl, fun i hi => absurd hi (Nat.not_lt_zero _), fun e he => absurd he List.not_mem_nil⟩
  refine aw_callh (import_fh gT gU gM d ok ts0 (by simp only [List.length_nil]; omega)) rfl rfl rfl (.refl _) (zL hn_g2) ?_
  rintro _ _ ⟨og1, ns1, mm1, r1, s1, l1, q1, f1, rfl, rfl⟩ _
  have n1 := l1.len
  simp only [List.length_nil, Nat.zero_add] at n1
  have b1 := Nat.mul_le_mul n1 hB
  refine yS hn_g2 ?_
  refine yG hn_g2 ?_
  refine aw_callh (restrict_fh gT gU gM hod ha s1 (by omega) q1 false) rfl rfl rfl (.refl _) (zL hn_g2) ?_
  rintro _ _ ⟨og2, ns2, mm2, r2, s2, l2, q2, f2, rfl, rfl⟩ _
  have n2 := l2.len
  have b2 := Nat.mul_le_mul (show ns2.length ≤ 528384 from by omega) hB
  refine yS hn_g2 ?_
  refine yG hn_g2 ?_
  refine aw_callh (restrict_fh gT gU gM hod ha s2 (by omega) (l2.ref q1) true) rfl rfl rfl (.refl _) (zL hn_g2) ?_
  rintro _ _ ⟨og3, ns3, mm3, r3, s3, l3, q3, f3, rfl, rfl⟩ _
  have n3 := l3.len
  refine yS hn_g2 ?_
  refine yG hn_g2 ?_
  refine aw_callh (txor_fh gT gU gM hod s3 (by omega) (l3.ref q2) q3) rfl rfl rfl (.refl _) (zL hn_g2) ?_
  rintro _ _ ⟨og4, ns4, mm4, r4, s4, l4, q4, f4, rfl, rfl⟩ _
  have n4 := l4.len
  refine yS hn_g2 ?_
  refine yG hn_g2 ?_
  refine aw_callh (count_fh gT gU gM hod s4 (by omega) q4) rfl rfl rfl (.refl _) (zL hn_g2) ?_
  rintro _ _ ⟨rfl, rfl⟩ _
  have hcnt : cntR d.order ns4 r4 = 2 * cntTo (critB d a) (2 ^ d.order.length) := by
    rw [hcc]
    unfold cntR
    refine cnt_congr _ fun s _ => ?_
    rw [f4]
    dsimp only
    rw [l3.eval s2.tab q2, f2, f3]
    dsimp only
    rw [l2.eval s1.tab q1, f1, f1]
  have hle := cntR_le (ns := ns4) (r := r4) ok.o24
  rw [hcnt] at hle ⊢
  have hq : quoZ .i64 ((2 * cntTo (critB d a) (2 ^ d.order.length) : Nat) : Int) 2 = (cntTo (critB d a) (2 ^ d.order.length) : Int) := by rw [quo_two _ (by omega) (by omega)]; omega
  refine yS (oj hn_g2 hq) ?_
  refine yG (oj hn_g2 hq) ?_
  refine yT hC (oj hn_g2 hq) ?_
  exact .tup ⟨.c (.int _ _), .c .nilI, trivial⟩
/-- The error of Change. -/
def chcode (d : DG) (p : List RD) (i : Int) (q : RD) : Int := if bcode d p [i] ≠ 0 then bcode d p [i] else if q.prob then 0 else 3
set_option maxRecDepth 100000 in
set_option maxHeartbeats 1600000 in
theorem change_fa (d : DG) (p : List RD) (hs : Small d p) (i : Int) (q : RD) (hq : q.wf 4) :
    Fa Tryz.prog 31 [.agg (dgc false d), .c (rats false p), .c (.int .i64 i), .agg (rdc q)] (.tup [.agg (rdc (if chcode d p i q = 0 then rd (prS d (p.set i.toNat q)) else rd0)), .c (errA (chcode d p i q))]) := by
  have s1 := hs.l
  have s2 := hs.o
  have s3 := hs.n
  have hb := bcheck_fa d p [i] hs.w5 (by omega) (by omega) (by omega) (by simp)
  refine fa_of_body Tryz.func31 rfl rfl (by simp [Tryz.ntmps31]) fun C hC => ?_
  simp only [initS, Nat.reduceAdd]
  refine xG ?_
  refine xB fun g4 hn_g4=>?_
  refine yG hn_g4 ?_
  refine yB hn_g4 fun g7 hn_g7=>?_
  refine yG (oj hn_g4 hn_g7) ?_
  refine yA (oj hn_g4 hn_g7) fun g8 hn_g8=>?_
  refine yG (oj hn_g4 (oj hn_g7 hn_g8)) ?_
  refine aw_buildSlice (xs := [.tmp 13]) (cells := [.int .i64 i]) rfl rfl rfl (zE (oj hn_g4 (oj hn_g7 hn_g8))) (by refine yS (oj hn_g4 (oj hn_g7 hn_g8)) ?_; rfl) rfl (by omega) (by omega) (by intro x hx; simp only [List.mem_singleton] at hx; subst hx; exact ⟨rfl, rfl, rfl⟩) rfl fun g14 hn_g14 => ?_
  replace hn_g14 := Heap.ne_of hn_g14
  dsimp only [Heap.ne] at hn_g14
  refine yS (oj hn_g4 (oj hn_g7 (oj hn_g8 hn_g14))) ?_
  refine aw_frzT (t := 14) (isF [i]) (zE (oj hn_g4 (oj hn_g7 (oj hn_g8 hn_g14)))) (zE (oj hn_g4 (oj hn_g7 (oj hn_g8 hn_g14)))) (by omega) (hC g14) (fun q hq => by match q, hq with | 0, _ => rfl) rfl (zE (oj hn_g4 (oj hn_g7 (oj hn_g8 hn_g14)))) ?_
  refine yS (oj hn_g4 (oj hn_g7 (oj hn_g8 hn_g14))) ?_
  refine yG (oj hn_g4 (oj hn_g7 (oj hn_g8 hn_g14))) ?_
  refine yC (oj hn_g4 (oj hn_g7 (oj hn_g8 hn_g14))) (hb) ?_
  refine yG (oj hn_g4 (oj hn_g7 (oj hn_g8 hn_g14))) ?_
  refine yF (oj hn_g4 (oj hn_g7 (oj hn_g8 hn_g14))) (fun h1=>?_) fun h1=>?_
  · have h1' : bcode d p [i] ≠ 0 := by simpa using h1
    have e : chcode d p i q = bcode d p [i] := by unfold chcode; rw [if_pos h1']
    rw [e, if_neg h1']
    refine yG (oj hn_g4 (oj hn_g7 (oj hn_g8 hn_g14))) ?_
    refine yW (oj hn_g4 (oj hn_g7 (oj hn_g8 hn_g14))) ?_
    refine yS (oj hn_g4 (oj hn_g7 (oj hn_g8 hn_g14))) ?_
    refine yG (oj hn_g4 (oj hn_g7 (oj hn_g8 hn_g14))) ?_
    refine yT hC (oj hn_g4 (oj hn_g7 (oj hn_g8 hn_g14))) ?_
    exact .tup ⟨.agg ⟨.bool _, .nils, .nils, trivial⟩, .c ler_err, trivial⟩
  have h1' : bcode d p [i] = 0 := by simpa using h1
  have e : chcode d p i q = if q.prob then 0 else 3 := by unfold chcode; rw [if_neg (by simp [h1'])]
  rw [e]
  obtain ⟨h0, hr⟩ := bcode_ok h1'
  obtain ⟨ok, hpl, _⟩ := dp_ok h0
  have hi := hr i (by simp)
  refine yG (oj hn_g4 (oj hn_g7 (oj hn_g8 hn_g14))) ?_
  refine yC (oj hn_g4 (oj hn_g7 (oj hn_g8 hn_g14))) (rprob_fa q (wf_mono hq ?_)) ?_
  · omega
  refine yG (oj hn_g4 (oj hn_g7 (oj hn_g8 hn_g14))) ?_
  refine yF (oj hn_g4 (oj hn_g7 (oj hn_g8 hn_g14))) (fun h2=>?_) fun h2=>?_
  · have h2' : q.prob = false := by simpa using h2
    rw [h2']
    refine yG (oj hn_g4 (oj hn_g7 (oj hn_g8 hn_g14))) ?_
    refine yW (oj hn_g4 (oj hn_g7 (oj hn_g8 hn_g14))) ?_
    refine yS (oj hn_g4 (oj hn_g7 (oj hn_g8 hn_g14))) ?_
    refine yG (oj hn_g4 (oj hn_g7 (oj hn_g8 hn_g14))) ?_
    refine yT hC (oj hn_g4 (oj hn_g7 (oj hn_g8 hn_g14))) ?_
    exact .tup ⟨.agg ⟨.bool _, .nils, .nils, trivial⟩, .c (ler_errN rfl (by decide)), trivial⟩
  have h2' : q.prob = true := by simpa using h2
  rw [h2', if_pos rfl, if_pos rfl]
  obtain ⟨a, rfl⟩ : ∃ a : Nat, i = a := ⟨i.toNat, by omega⟩
  rw [Int.toNat_natCast]
  refine yG (oj hn_g4 (oj hn_g7 (oj hn_g8 hn_g14))) ?_
  refine yC (oj hn_g4 (oj hn_g7 (oj hn_g8 hn_g14))) (with_fa d p hs h0 a ?_ q hq h2') ?_
  · omega
  refine yG (oj hn_g4 (oj hn_g7 (oj hn_g8 hn_g14))) ?_
  refine yW (oj hn_g4 (oj hn_g7 (oj hn_g8 hn_g14))) ?_
  refine yS (oj hn_g4 (oj hn_g7 (oj hn_g8 hn_g14))) ?_
  refine yG (oj hn_g4 (oj hn_g7 (oj hn_g8 hn_g14))) ?_
  refine yT hC (oj hn_g4 (oj hn_g7 (oj hn_g8 hn_g14))) ?_
  exact .tup ⟨.agg lerl_rd, .c .nilI, trivial⟩
end Go.Proofs.YtlpejaefobdajaaGreat

/- faultlinelaw42: zero, part, large, valid. -/
namespace Go.Proofs.YtlpejaefobdajaaGreat
open Go.AI Go.PN
attribute [local irreducible] aw Fa Fh DrK
abbrev validB2 (d : DG) (p : List RD) : Bool := !largeB d p && (dpcode d p == 0)
set_option maxHeartbeats 400000 in
theorem zero42_fa (a : RD) (hw : a.wf 68719476736) : Fa Tryz.prog 20 [.agg (rdc a)] (.c (.bool (decide (a = rd0)))) := by
  refine fa_of_body Tryz.func20 rfl rfl (by simp [Tryz.ntmps20]) fun C hC => ?_
  simp only [initS, Nat.reduceAdd]
  refine xG ?_
  refine xB fun g1 hn_g1=>?_
  refine yG hn_g1 ?_
  refine aw_callq (ratEq_fa a rd0 hw) rfl rfl rfl (by refine yS hn_g1 ?_; exact ⟨.agg (lel_refl _), .agg ⟨.refl _, .nils, .nils, trivial⟩⟩) ?_
  refine yS hn_g1 ?_
  refine yG hn_g1 ?_
  refine yT hC hn_g1 ?_
  exact .one (.c (.bool _))
set_option maxHeartbeats 800000 in
theorem part42_fa (n d : Int) (h0 : -9223372036854775808 ≤ n) (h1 : n ≤ 9223372036854775807) (h2 : -9223372036854775808 ≤ d) (h3 : d ≤ 9223372036854775807) (hd : d ≠ 0) :
    Fa Tryz.prog 26 [.c (.int .i64 n), .c (.int .i64 d)] (.agg (rdc (rd ((n : Rat) / (d : Rat))))) := by
  refine fa_of_body Tryz.func26 rfl rfl (by simp [Tryz.ntmps26]) fun C hC => ?_
  simp only [initS, Nat.reduceAdd]
  refine xG ?_
  refine xA fun g4 hn_g4=>?_
  refine yG hn_g4 ?_
  refine yC hn_g4 (smake_fa n d h0 h1 h2 h3 hd) ?_
  refine yG hn_g4 ?_
  refine yA hn_g4 fun g5 hn_g5=>?_
  refine yG (oj hn_g4 hn_g5) ?_
  refine yW (oj hn_g4 hn_g5) ?_
  refine yS (oj hn_g4 hn_g5) ?_
  refine yG (oj hn_g4 hn_g5) ?_
  refine yW (oj hn_g4 hn_g5) ?_
  refine yS (oj hn_g4 hn_g5) ?_
  refine yG (oj hn_g4 hn_g5) ?_
  refine yT hC (oj hn_g4 hn_g5) ?_
  exact ler_rd rfl
set_option maxRecDepth 100000 in
set_option maxHeartbeats 1600000 in
theorem large42_fa (d : DG) (p : List RD) (hl : p.length ≤ 1099511627776) (hl1 : d.order.length ≤ 1099511627776) (hl2 : d.nodes.length ≤ 1099511627776) : Fa Tryz.prog 15 [.agg (dgc false d), .c (rats false p)] (.c (.bool (largeB d p))) := by
  have hA : largeA d p = true → largeB d p = true := fun h => by unfold largeB; rw [h]; rfl
  refine fa_of_body Tryz.func15 rfl rfl (by simp [Tryz.ntmps15]) fun C hC => ?_
  simp only [initS, Nat.reduceAdd]
  apply aw_seq
  apply aw_region
  refine xB fun g2 hn_g2=>?_
  refine yH hn_g2 ?_
  apply aw_seq
  refine aw_cut (fun _ : Unit => [(1, .c (rats false p))]) (fun _ => []) (fun _ => largeA d p = false) ?_ ?_
  · refine yG hn_g2 ?_
    refine aw_split 9 (zE hn_g2) (fun a1 => ?_) (fun a1 => ?_) <;> refine yS hn_g2 ?_
    · rw [hA (by unfold largeA; rw [a1]; rfl)]
      iterate 10 refine yO hn_g2 ?_
      refine aw_skipU (zE hn_g2) rfl ?_
      refine yS hn_g2 ?_
      iterate 4 (refine aw_skipN rfl rfl (zE hn_g2) rfl ?_; refine yS hn_g2 ?_)
      refine yO hn_g2 ?_
      refine yO hn_g2 ?_
      refine yO hn_g2 ?_
      iterate 4 refine yO hn_g2 ?_
      refine aw_skipU (zE hn_g2) rfl ?_
      refine yS hn_g2 ?_
      iterate 3 (refine aw_skipN rfl rfl (zE hn_g2) rfl ?_; refine yS hn_g2 ?_)
      refine yG hn_g2 ?_
      refine yP hn_g2 ?_
      refine yG hn_g2 ?_
      refine yT hC hn_g2 ?_
      exact .one (.c (.bool _))
    refine yG hn_g2 ?_
    refine aw_split 15 (zE hn_g2) (fun a2 => ?_) (fun a2 => ?_) <;> refine yS hn_g2 ?_
    · rw [hA (by unfold largeA; rw [a1, a2]; rfl)]
      iterate 4 refine yO hn_g2 ?_
      refine aw_skipU (zE hn_g2) rfl ?_
      refine yS hn_g2 ?_
      iterate 4 (refine aw_skipN rfl rfl (zE hn_g2) rfl ?_; refine yS hn_g2 ?_)
      refine yO hn_g2 ?_
      refine yO hn_g2 ?_
      refine yO hn_g2 ?_
      iterate 4 refine yO hn_g2 ?_
      refine aw_skipU (zE hn_g2) rfl ?_
      refine yS hn_g2 ?_
      iterate 3 (refine aw_skipN rfl rfl (zE hn_g2) rfl ?_; refine yS hn_g2 ?_)
      refine yG hn_g2 ?_
      refine yP hn_g2 ?_
      refine yG hn_g2 ?_
      refine yT hC hn_g2 ?_
      exact .one (.c (.bool _))
    refine yG hn_g2 ?_
    refine aw_split 20 (zE hn_g2) (fun a3 => ?_) (fun a3 => ?_) <;> refine yS hn_g2 ?_
    · refine yG hn_g2 ?_
      refine aw_split 27 (zE hn_g2) (fun a4 => ?_) (fun a4 => ?_) <;> refine yS hn_g2 ?_
      · rw [hA (by unfold largeA; rw [a1, a2, a3, a4]; rfl)]
        iterate 4 refine yO hn_g2 ?_
        refine aw_skipU (zE hn_g2) rfl ?_
        refine yS hn_g2 ?_
        iterate 3 (refine aw_skipN rfl rfl (zE hn_g2) rfl ?_; refine yS hn_g2 ?_)
        refine yG hn_g2 ?_
        refine yP hn_g2 ?_
        refine yG hn_g2 ?_
        refine yT hC hn_g2 ?_
        exact .one (.c (.bool _))
      refine yG hn_g2 ?_
      refine aw_split 32 (zE hn_g2) (fun a5 => ?_) (fun a5 => ?_) <;> refine yS hn_g2 ?_
      · refine yG hn_g2 ?_
        refine yC hn_g2 (dcheckR_fa d hl1 hl2) ?_
        refine yG hn_g2 ?_
        refine yF hn_g2 (fun a6=>?_) fun a6=>?_
        · rw [hA (by unfold largeA; rw [a1, a2, a3, a4, a5, a6]; rfl)]
          refine yG hn_g2 ?_
          refine yT hC hn_g2 ?_
          exact .one (.c (.bool _))
        · refine yG hn_g2 ?_
          exact aw_stop ⟨(), (zB hn_g2), List.nil_sublist _, by unfold largeA; rw [a1, a2, a3, a4, a5, a6]; rfl⟩
      · refine yG hn_g2 ?_
        refine yN hn_g2 ?_
        refine yG hn_g2 ?_
        exact aw_stop ⟨(), (zB hn_g2), List.nil_sublist _, by unfold largeA; rw [a1, a2, a3, a4, a5]; rfl⟩
    refine yG hn_g2 ?_
    refine aw_split 32 (zE hn_g2) (fun a5 => ?_) (fun a5 => ?_) <;> refine yS hn_g2 ?_
    · refine yG hn_g2 ?_
      refine yC hn_g2 (dcheckR_fa d hl1 hl2) ?_
      refine yG hn_g2 ?_
      refine yF hn_g2 (fun a6=>?_) fun a6=>?_
      · rw [hA (by unfold largeA; rw [a1, a2, a3, a5, a6]; rfl)]
        refine yG hn_g2 ?_
        refine yT hC hn_g2 ?_
        exact .one (.c (.bool _))
      · refine yG hn_g2 ?_
        exact aw_stop ⟨(), (zB hn_g2), List.nil_sublist _, by unfold largeA; rw [a1, a2, a3, a5, a6]; rfl⟩
    · refine yG hn_g2 ?_
      refine yN hn_g2 ?_
      refine yG hn_g2 ?_
      exact aw_stop ⟨(), (zB hn_g2), List.nil_sublist _, by unfold largeA; rw [a1, a2, a3, a5]; rfl⟩
  rintro _ hLA
  have hB : largeB d p = p.any bigR := by unfold largeB; rw [hLA]; rfl
  rw [hB]
  refine yG hn_g2 ?_
  refine aw_lp (fun x : Nat => [(1, .c (rats false p)), (5, .c (.int .i64 x))]) (fun x => []) (fun x => x ≤ p.length ∧ ∀ j, j < x → bigR (p.getD j rd0) = false) (fun x => p.length - x) 0 (zB hn_g2) zZ ⟨Nat.zero_le _, by omega⟩ ?_
  rintro i ⟨hi, hs⟩
  refine yG hn_g2 ?_
  refine yF hn_g2 (fun h1=>?_) fun h1=>?_
  · have h1' : i < p.length := by have := of_decide_eq_true h1; omega
    have hmem : p.getD i rd0 ∈ p := by rw [List.getD_eq_getElem?_getD, List.getElem?_eq_getElem h1']; exact List.getElem_mem h1'
    refine yG hn_g2 ?_
    refine aw_split 51 (zE hn_g2) (fun h2 => ?_) (fun h2 => ?_) <;> refine yS hn_g2 ?_
    · rw [List.any_eq_true.2 ⟨_, hmem, by unfold bigR; rw [h2]; rfl⟩]
      refine yG hn_g2 ?_
      refine yP hn_g2 ?_
      refine yG hn_g2 ?_
      refine yT hC hn_g2 ?_
      exact .one (.c (.bool _))
    · refine yG hn_g2 ?_
      refine yF hn_g2 (fun h3=>?_) fun h3=>?_
      · rw [List.any_eq_true.2 ⟨_, hmem, by unfold bigR; rw [h2, h3]; rfl⟩]
        refine yG hn_g2 ?_
        refine yT hC hn_g2 ?_
        exact .one (.c (.bool _))
      · refine yG hn_g2 ?_
        refine aw_stop ⟨i + 1, by omega, (zB hn_g2), zZ, by omega, fun j hj => ?_⟩
        rcases Nat.lt_succ_iff_lt_or_eq.1 hj with h | h
        · exact hs j h
        · rw [h]; unfold bigR; rw [h2, h3]; rfl
  · have h1' : i = p.length := by have := of_decide_eq_false h1; omega
    subst h1'
    refine yG hn_g2 ?_
    refine yT hC hn_g2 ?_
    refine .one (.c (ler_bool ?_))
    cases ha : p.any bigR with
    | false => rfl
    | true =>
      obtain ⟨x, hx, hxb⟩ := List.any_eq_true.1 ha
      obtain ⟨j, hj, e⟩ := List.mem_iff_getElem.1 hx
      have := hs j hj
      rw [List.getD_eq_getElem?_getD, List.getElem?_eq_getElem hj, Option.getD_some, e, hxb] at this
      cases this
set_option maxHeartbeats 800000 in
theorem valid42_fa (d : DG) (p : List RD) (hw : WordsOk p) (hl : p.length ≤ 1099511627776) (hl1 : d.order.length ≤ 1099511627776) (hl2 : d.nodes.length ≤ 1099511627776) : Fa Tryz.prog 25 [.agg (dgc false d), .c (rats false p)] (.c (.bool (validB2 d p))) := by
  refine fa_of_body Tryz.func25 rfl rfl (by simp [Tryz.ntmps25]) fun C hC => ?_
  simp only [initS, Nat.reduceAdd]
  refine xG ?_
  refine xB fun g2 hn_g2=>?_
  refine yG hn_g2 ?_
  refine yC hn_g2 (large42_fa d p hl hl1 hl2) ?_
  refine yG hn_g2 ?_
  refine aw_split 9 (zE hn_g2) (fun hb => ?_) (fun hb => ?_) <;> refine yS hn_g2 ?_
  · have hb' : largeB d p = false := by simpa using hb
    have hs := small_of hw hl2 hb'
    have s1 := hs.l
    have s2 := hs.o
    refine yG hn_g2 ?_
    refine yC hn_g2 (checkDiagram_fa d p hs.w5 ?_ ?_ ?_) ?_
    · omega
    · omega
    · omega
    refine yG hn_g2 ?_
    refine yT hC hn_g2 ?_
    exact .one (.c (ler_bool (by unfold validB2; rw [hb']; rfl)))
  · have hb' : largeB d p = true := by simpa using hb
    refine yG hn_g2 ?_
    refine yT hC hn_g2 ?_
    exact .one (.c (ler_bool (by unfold validB2; rw [hb']; rfl)))
end Go.Proofs.YtlpejaefobdajaaGreat
