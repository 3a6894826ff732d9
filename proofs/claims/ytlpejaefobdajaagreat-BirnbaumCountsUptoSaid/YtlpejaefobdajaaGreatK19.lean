/- Texts of one proof, laid one behind the other by a program (merge.py): Bir1, Frm1, Frm2, Add0, PTab. -/
import Derived.Test.YtlpejaefobdajaaGreatK18
import Derived.Test.YtlpejaefobdajaaGreatK16
import Derived.Test.YtlpejaefobdajaaGreatK15
set_option linter.unusedSimpArgs false
set_option linter.unusedVariables false
/- birnbaum: check, with, derive, Birnbaum. -/
namespace Go.Proofs.YtlpejaefobdajaaGreat
open Go.AI Go.PN
attribute [local irreducible] aw Fa Fh DrK
set_option maxRecDepth 100000 in
set_option maxHeartbeats 1600000 in
theorem bcheck_fa (d : DG) (p : List RD) (es : List Int) (hw : ∀ r ∈ p, r.wf 500000000) (hl : p.length ≤ 1099511627776) (hl1 : d.order.length ≤ 1099511627776) (hl2 : d.nodes.length ≤ 1099511627776) (he : es.length ≤ 1099511627776) :
    Fa Tryz.prog 63 [.agg (dgc false d), .c (rats false p), .c (is false es)] (.c (errA (bcode d p es))) := by
  refine fa_of_body Tryz.func63 rfl rfl (by simp [Tryz.ntmps63]) fun C hC => ?_
  simp only [initS, Nat.reduceAdd]
  refine xG ?_
  refine xB fun g3 hn_g3=>?_
  refine yG hn_g3 ?_
  refine yC hn_g3 (dcheck_fa d hl1 hl2) ?_
  refine yG hn_g3 ?_
  refine yF hn_g3 (fun hb=>?_) fun hb=>?_
  · have hb' : dcode d ≠ 0 := by simpa using hb
    have e : bcode d p es = dcode d := by
      have hdp : dpcode d p = dcode d := by unfold dpcode; rw [if_pos hb']
      unfold bcode; rw [hdp, if_pos hb']
    rw [e]
    refine yG hn_g3 ?_
    refine yT hC hn_g3 ?_
    exact .one (.c ler_err)
  have hb' : dcode d = 0 := by simpa using hb
  have hdp : dpcode d p = pcode p d.order.length := by unfold dpcode; rw [if_neg (by simp [hb'])]
  refine yG hn_g3 ?_
  refine yC hn_g3 (scheck_fa p d.order.length hw hl) ?_
  refine yG hn_g3 ?_
  refine yF hn_g3 (fun hc=>?_) fun hc=>?_
  · have hc' : pcode p d.order.length ≠ 0 := by simpa using hc
    have e : bcode d p es = pcode p d.order.length := by unfold bcode; rw [hdp, if_pos hc']
    rw [e]
    refine yG hn_g3 ?_
    refine yT hC hn_g3 ?_
    exact .one (.c ler_err)
  have hc' : pcode p d.order.length = 0 := by simpa using hc
  have e : bcode d p es = if es.all (fun i => decide (0 ≤ i) && decide (i < d.order.length)) then 0 else 10 := by unfold bcode; rw [hdp, if_neg (by simp [hc'])]
  rw [e]
  refine yG hn_g3 ?_
  refine aw_lp (fun k : Nat => [(3, .c (.optr g3 0)), (24, .c (is false es)), (25, .c (.int .i64 es.length)), (26, .c (.int .i64 k))]) (fun _ => [(g3, .cells 25 3 (ofL (dgc false d)))]) (fun k => k ≤ es.length ∧ ∀ j, j < k → 0 ≤ es.getD j 0 ∧ es.getD j 0 < d.order.length) (fun k => es.length - k) 0 (zB hn_g3) zZ ⟨Nat.zero_le _, fun j hj => by omega⟩ ?_
  rintro k ⟨hk, hz⟩
  refine yG hn_g3 ?_
  refine yF hn_g3 (fun h1=>?_) fun h1=>?_
  · have h1' : k < es.length := by have := of_decide_eq_true h1; omega
    have hbad : ¬ (0 ≤ es.getD k 0 ∧ es.getD k 0 < d.order.length) → es.all (fun i => decide (0 ≤ i) && decide (i < d.order.length)) = false := fun h => by
      rw [List.all_eq_false]
      refine ⟨es[k], List.getElem_mem h1', ?_⟩
      rw [getDZ h1'] at h
      simpa using h
    refine yG hn_g3 ?_
    refine aw_split 32 (zE hn_g3) (fun h2 => ?_) (fun h2 => ?_) <;> refine yS hn_g3 ?_
    · have h2' := of_decide_eq_true h2
      rw [hbad (by omega)]
      refine yG hn_g3 ?_
      refine yP hn_g3 ?_
      refine yG hn_g3 ?_
      refine yT hC hn_g3 ?_
      exact .one (.c (ler_errN rfl (by decide)))
    · have h2' := of_decide_eq_false h2
      refine yG hn_g3 ?_
      refine yF hn_g3 (fun h3=>?_) fun h3=>?_
      · have h3' := of_decide_eq_true h3
        rw [hbad (by omega)]
        refine yG hn_g3 ?_
        refine yT hC hn_g3 ?_
        exact .one (.c (ler_errN rfl (by decide)))
      · have h3' := of_decide_eq_false h3
        refine yG hn_g3 ?_
        exact aw_stop ⟨k + 1, by omega, (zB hn_g3), zZ, by omega, fun j hj => by
          by_cases e : j = k
          · subst e; omega
          · exact hz j (by omega)⟩
  · have h1' : k = es.length := by have := of_decide_eq_false h1; omega
    subst h1'
    have hall : es.all (fun i => decide (0 ≤ i) && decide (i < d.order.length)) = true := by
      rw [List.all_eq_true]
      intro x hx
      obtain ⟨j, hj, rfl⟩ := List.mem_iff_getElem.1 hx
      have := hz j hj
      rw [getDZ hj] at this
      simpa using this
    rw [hall]
    refine yG hn_g3 ?_
    refine yT hC hn_g3 ?_
    exact .one (.c (ler_err0 rfl))
set_option maxRecDepth 100000 in
set_option maxHeartbeats 1600000 in
theorem with_fa (d : DG) (p : List RD) (hs : Small d p) (h0 : dpcode d p = 0) (i : Nat) (hi : i < p.length) (q : RD) (hq : q.wf 4) (hqp : q.prob = true) :
    Fa Tryz.prog 83 [.agg (dgc false d), .c (rats false p), .c (.int .i64 i), .agg (rdc q)] (.tup [.agg (rdc (rd (prS d (p.set i q)))), .c .nilI]) := by
  have s1 := hs.l
  have hp := sprobability_fa d (p.set i q) (hs.set h0 hq)
  rw [dp_set h0 hqp, if_pos rfl] at hp
  refine fa_of_body Tryz.func83 rfl rfl (by simp [Tryz.ntmps83]) fun C hC => ?_
  simp only [initS, Nat.reduceAdd]
  refine xG ?_
  refine xB fun g4 hn_g4=>?_
  refine yG hn_g4 ?_
  refine yB hn_g4 fun g7 hn_g7=>?_
  refine yG (oj hn_g4 hn_g7) ?_
  refine yA (oj hn_g4 hn_g7) fun g8 hn_g8=>?_
  refine yG (oj hn_g4 (oj hn_g7 hn_g8)) ?_
  refine aw_callh (hr := [(g8, .cells 33 3 (ofL [.bool false, .nils, .nils])), (g7, .cells 33 3 (ofL (rdc q))), (g4, .cells 25 3 (ofL (dgc false d)))]) (clone_fh p (by omega)) rfl rfl rfl (List.Perm.refl _) (zL (oj hn_g4 (oj hn_g7 hn_g8))) ?_
  rintro _ _ ⟨og, hog, rfl, rfl⟩ hk2
  obtain ⟨g, rfl⟩ : ∃ g, og = some g := by
    cases og with
    | none => have := hog rfl; omega
    | some g => exact ⟨g, rfl⟩
  have hg := hk2 g (by simp [Heap.keys, gh])
  replace hg := Heap.ne_of hg
  dsimp only [Heap.ne] at hg
  dsimp only [gs, gh, List.cons_append, List.nil_append]
  refine yS (oj hn_g4 (oj hn_g7 (oj hn_g8 hg))) ?_
  refine yG (oj hn_g4 (oj hn_g7 (oj hn_g8 hg))) ?_
  refine yW (oj hn_g4 (oj hn_g7 (oj hn_g8 hg))) ?_
  refine yS (oj hn_g4 (oj hn_g7 (oj hn_g8 hg))) ?_
  rw [ratsF_upd (by omega)]
  refine yG (oj hn_g4 (oj hn_g7 (oj hn_g8 hg))) ?_
  refine aw_callq hp rfl rfl rfl (by refine yS (oj hn_g4 (oj hn_g7 (oj hn_g8 hg))) ?_; exact ⟨.agg (lel_refl _), .c (le_oslr2 (zE (oj hn_g4 (oj hn_g7 (oj hn_g8 hg)))) (by rw [List.length_set]))⟩) ?_
  refine yS (oj hn_g4 (oj hn_g7 (oj hn_g8 hg))) ?_
  refine yG (oj hn_g4 (oj hn_g7 (oj hn_g8 hg))) ?_
  refine yW (oj hn_g4 (oj hn_g7 (oj hn_g8 hg))) ?_
  refine yS (oj hn_g4 (oj hn_g7 (oj hn_g8 hg))) ?_
  refine yG (oj hn_g4 (oj hn_g7 (oj hn_g8 hg))) ?_
  refine yT hC (oj hn_g4 (oj hn_g7 (oj hn_g8 hg))) ?_
  exact .tup ⟨.agg lerl_rd, .c .nilI, trivial⟩
set_option maxRecDepth 100000 in
set_option maxHeartbeats 1600000 in
theorem derive_fa (d : DG) (p : List RD) (hs : Small d p) (h0 : dpcode d p = 0) (i : Nat) (hi : i < p.length) :
    Fa Tryz.prog 66 [.agg (dgc false d), .c (rats false p), .c (.int .i64 i)] (.tup [.agg (rdc (rd (impQ d p i))), .c .nilI]) := by
  have w1 := with_fa d p hs h0 i hi (rd 1) rd1_wf rd1_prob
  have w0 := with_fa d p hs h0 i hi rd0 rd0_wf4 rd0_prob
  have f1 := pr_fits (hs.set h0 (i := i) rd1_wf) (dp_set h0 rd1_prob)
  have f0 := pr_fits (hs.set h0 (i := i) rd0_wf4) (dp_set h0 rd0_prob)
  unfold impQ
  generalize prS d (p.set i (rd 1)) = X1 at *
  generalize prS d (p.set i rd0) = X0 at *
  refine fa_of_body Tryz.func66 rfl rfl (by simp [Tryz.ntmps66]) fun C hC => ?_
  simp only [initS, Nat.reduceAdd]
  refine xG ?_
  refine xB fun g3 hn_g3=>?_
  refine yG hn_g3 ?_
  refine yA hn_g3 fun g6 hn_g6=>?_
  refine yG (oj hn_g3 hn_g6) ?_
  refine aw_cut (fun g : Nat => [(1, .c (rats false p)), (2, .c (.int .i64 i)), (3, .c (.optr g3 0)), (6, .c (.optr g6 0)), (8, .c (.optr g 0)), (9, .c .nilI)]) (fun g => [(g, .cells 33 3 (ofL (rdc (rd X1)))), (g6, .cells 33 3 (ofL [.bool false, .nils, .nils])), (g3, .cells 25 3 (ofL (dgc false d)))]) (fun g => g ∉ Heap.keys [(g6, .cells 0 0 (ofL [])), (g3, .cells 0 0 (ofL []))]) ?_ ?_
  · refine aw_drL 9 7 18 ty_mixed (by kernel_rfl) ?_
    repeat (refine drg_2q rfl fun R r=>?_;simp only[go_sem, hn_g3, hn_g6];with_reducible refine r _ _ ?_;clear r R)
    refine drg_call (rof_fa 1 ?_ ?_) rfl rfl rfl (zL (oj hn_g3 hn_g6)) ?_
    · omega
    · omega
    refine yS (oj hn_g3 hn_g6) ?_
    repeat (refine drg_2q rfl fun R r=>?_;simp only[go_sem, hn_g3, hn_g6];with_reducible refine r _ _ ?_;clear r R)
    refine drg_call (w1) rfl rfl rfl (zL (oj hn_g3 hn_g6)) ?_
    refine yS (oj hn_g3 hn_g6) ?_
    repeat (refine drg_2q rfl fun R r=>?_;simp only[go_sem, hn_g3, hn_g6];with_reducible refine r _ _ ?_;clear r R)
    refine drg_new rfl (NewX.alloc rfl rfl rfl (zE (oj hn_g3 hn_g6))) (by kernel_rfl) ?_
    refine yS (oj hn_g3 hn_g6) ?_
    refine drg_nil ⟨by simp, fun γ => ?_, fun γ => ?_⟩
    · simp only [List.drop_succ_cons, List.drop_zero, List.nil_append, List.cons_append]
      refine yS (oj hn_g3 hn_g6) ?_
      try simp only [List.nil_append, List.cons_append]
      generalize γ 8 = g
      refine aw_fresh fun hn => ?_
      refine yH (oj hn_g3 hn_g6) ?_
      refine yW (oj hn_g3 hn_g6) ?_
      refine yS (oj hn_g3 hn_g6) ?_
      refine yH (oj hn_g3 hn_g6) ?_
      exact aw_stop ⟨g, (zB (oj hn_g3 hn_g6)), zZ, hn⟩
    · simp only [List.drop_succ_cons, List.drop_zero, List.take_succ_cons, List.take_zero, List.nil_append, List.cons_append]
      refine yS (oj hn_g3 hn_g6) ?_
      try simp only [List.nil_append, List.cons_append]
      generalize γ 8 = g
      refine aw_fresh fun hn => ?_
      refine yH (oj hn_g3 hn_g6) ?_
      refine yW (oj hn_g3 hn_g6) ?_
      refine yS (oj hn_g3 hn_g6) ?_
      refine yH (oj hn_g3 hn_g6) ?_
      exact aw_stop ⟨g, (zB (oj hn_g3 hn_g6)), zZ, hn⟩
  rintro g8 hn_g8
  replace hn_g8 := Heap.ne_of hn_g8
  dsimp only [Heap.ne] at hn_g8
  refine yG (oj hn_g3 (oj hn_g6 hn_g8)) ?_
  refine yN (oj hn_g3 (oj hn_g6 hn_g8)) ?_
  refine yG (oj hn_g3 (oj hn_g6 hn_g8)) ?_
  refine aw_conv (t := 27) (v := .agg (rdc rd0)) (by refine yS (oj hn_g3 (oj hn_g6 hn_g8)) ?_; exact zero_agg) rfl ?_
  refine yS (oj hn_g3 (oj hn_g6 hn_g8)) ?_
  refine yG (oj hn_g3 (oj hn_g6 hn_g8)) ?_
  refine yC (oj hn_g3 (oj hn_g6 hn_g8)) (w0) ?_
  refine yG (oj hn_g3 (oj hn_g6 hn_g8)) ?_
  refine yA (oj hn_g3 (oj hn_g6 hn_g8)) fun g10 hn_g10=>?_
  refine yG (oj hn_g3 (oj hn_g6 (oj hn_g8 hn_g10))) ?_
  refine yW (oj hn_g3 (oj hn_g6 (oj hn_g8 hn_g10))) ?_
  refine yS (oj hn_g3 (oj hn_g6 (oj hn_g8 hn_g10))) ?_
  refine yG (oj hn_g3 (oj hn_g6 (oj hn_g8 hn_g10))) ?_
  refine yC (oj hn_g3 (oj hn_g6 (oj hn_g8 hn_g10))) (rsub_fa (rd X1) (rd X0) (rd_wf (fits_mono f1 ?_)) (rd_wf (fits_mono f0 ?_))) ?_
  · omega
  · omega
  rw [rd_q, rd_q]
  refine yG (oj hn_g3 (oj hn_g6 (oj hn_g8 hn_g10))) ?_
  refine yW (oj hn_g3 (oj hn_g6 (oj hn_g8 hn_g10))) ?_
  refine yS (oj hn_g3 (oj hn_g6 (oj hn_g8 hn_g10))) ?_
  refine yG (oj hn_g3 (oj hn_g6 (oj hn_g8 hn_g10))) ?_
  refine yT hC (oj hn_g3 (oj hn_g6 (oj hn_g8 hn_g10))) ?_
  exact .tup ⟨.agg lerl_rd, .c .nilI, trivial⟩
theorem bcode0 (d : DG) (p : List RD) : bcode d p [] = dpcode d p := by
  unfold bcode
  split
  · rfl
  · rename_i h
    simp only [List.all_nil, if_true]
    omega
set_option maxRecDepth 100000 in
set_option maxHeartbeats 1600000 in
theorem birnbaum_fa (d : DG) (p : List RD) (hs : Small d p) :
    Fa Tryz.prog 27 [.agg (dgc false d), .c (rats false p)] (.tup [.c (rats true (if dpcode d p = 0 then impL d p p.length else [])), .c (errA (dpcode d p))]) := by
  have s1 := hs.l
  have s2 := hs.o
  have s3 := hs.n
  have hb := bcheck_fa d p [] hs.w5 (by omega) (by omega) (by omega) (by simp)
  rw [bcode0] at hb
  refine fa_of_body Tryz.func27 rfl rfl (by simp [Tryz.ntmps27]) fun C hC => ?_
  simp only [initS, Nat.reduceAdd]
  refine xG ?_
  refine xB fun g2 hn_g2=>?_
  refine yG hn_g2 ?_
  refine yC hn_g2 (hb) ?_
  refine yG hn_g2 ?_
  refine yF hn_g2 (fun h0=>?_) fun h0=>?_
  · have h0' : dpcode d p ≠ 0 := by simpa using h0
    rw [if_neg h0']
    refine yG hn_g2 ?_
    refine yT hC hn_g2 ?_
    exact .tup ⟨.c .nils, .c ler_err, trivial⟩
  have h0' : dpcode d p = 0 := by simpa using h0
  rw [if_pos h0']
  refine yG hn_g2 ?_
  refine aw_lp (fun x : Option Nat × Nat => [(1, .c (rats false p)), (2, .c (.optr g2 0)), (7, .c (gs x.1 3 x.2)), (18, .c (.int .i64 p.length)), (19, .c (.int .i64 x.2))]) (fun x => (g2, .cells 25 3 (ofL (dgc false d))) :: gh x.1 33 (x.2 * 3) (ratsF (impL d p x.2)))
    (fun x => x.2 ≤ p.length ∧ (x.1 = none → x.2 = 0)) (fun x => p.length - x.2) (none, 0) (zB hn_g2) (List.Sublist.cons_cons _ (List.nil_sublist _)) ⟨Nat.zero_le _, fun _ => rfl⟩ ?_
  rintro ⟨og, k⟩ ⟨hk, hog⟩
  dsimp only at hk hog ⊢
  refine aw_nd fun hnd => ?_
  refine yG hn_g2 ?_
  refine yF hn_g2 (fun h1=>?_) fun h1=>?_
  · have h1' : k < p.length := by have := of_decide_eq_true h1; omega
    refine yG hn_g2 ?_
    refine yC hn_g2 (derive_fa d p hs h0' k h1') ?_
    refine yG hn_g2 ?_
    refine yA hn_g2 fun g9 hn_g9=>?_
    refine yG (oj hn_g2 hn_g9) ?_
    refine yW (oj hn_g2 hn_g9) ?_
    refine yS (oj hn_g2 hn_g9) ?_
    refine yG (oj hn_g2 hn_g9) ?_
    refine yN (oj hn_g2 hn_g9) ?_
    refine yG (oj hn_g2 hn_g9) ?_
    refine aw_push (pre := [(g9, .cells 33 3 (ofL (rdc (rd (impQ d p k))))), (g2, .cells 25 3 (ofL (dgc false d)))]) rfl rfl rfl rfl rfl rfl rfl (zE (oj hn_g2 hn_g9)) (zE (oj hn_g2 hn_g9)) (by rfl) (by omega) (by omega) (zE (oj hn_g2 hn_g9)) (by omega) (by exact hog) (zE (oj hn_g2 hn_g9)) (by rfl) (by rfl) (by first | rfl | simp only [Nat.mul_one, List.nil_append, List.cons_append] <;> rfl) (by unfold maxLen; omega) (by omega) (by exact rats_push (impL_len d p k) _) fun g1 hn_g1 => ?_
    replace hn_g1 := Heap.ne_of hn_g1
    first | dsimp only [Heap.ne, gh] at hn_g1 | dsimp only [Heap.ne] at hn_g1 | skip
    refine yS (oj hn_g2 (oj hn_g9 hn_g1)) ?_
    refine yG (oj hn_g2 (oj hn_g9 hn_g1)) ?_
    rw [← impL_succ]
    exact aw_stop ⟨(some g1, k + 1), by dsimp only; omega, (zB (oj hn_g2 (oj hn_g9 hn_g1))), List.Sublist.cons _ (List.Sublist.refl _), by dsimp only; omega, some_ne⟩
  · have h1' : k = p.length := by have := of_decide_eq_false h1; omega
    subst h1'
    refine yG hn_g2 ?_
    refine yT hC hn_g2 ?_
    rw [h0']
    exact .tup ⟨.c (ler_gsr (pre := [(g2, _)]) hog (fun g e => by
      subst e
      simp only [Heap.keys, gh, List.map_cons, List.map_nil, List.nodup_cons, List.mem_singleton] at hnd
      simp only [Heap.keys, List.map_cons, List.map_nil, List.mem_singleton]
      exact fun e => hnd.1 e.symm) (impL_len d p p.length)), .c .nilI, trivial⟩
end Go.Proofs.YtlpejaefobdajaaGreat

/- faultlineref08: Of, Values, Value. -/
namespace Go.PN
open Go.AI
def ofB (f : FM) (vs : List Bool) (s : Nat) (a : Int) : Bool := if a < f.vars then s.testBit a.toNat else vs.getD (a - f.vars).toNat false
def cntB (f : FM) (vs : List Bool) (s : Nat) (az : List Int) : Nat := (az.filter fun a => ofB f vs s a).length
noncomputable def nodeB (f : FM) (vs : List Bool) (s : Nat) (x : FN) : Bool :=
  if x.kind == 0 then x.k == 1 else if x.kind == 1 then ((cntB f vs s x.args : Nat) : Int) == 0 else if x.kind == 2 then ((cntB f vs s x.args : Nat) : Int) == (x.args.length : Int)
  else if x.kind == 3 then decide (((cntB f vs s x.args : Nat) : Int) > 0) else if x.kind == 4 then decide (((cntB f vs s x.args : Nat) : Int) ≥ x.k) else remZ ((cntB f vs s x.args : Nat) : Int) 2 == 1
noncomputable def fvTo (f : FM) (s : Nat) : Nat → List Bool
  | 0 => List.replicate f.nodes.length false
  | k + 1 => (fvTo f s k).set k (nodeB f (fvTo f s k) s (f.nodes.getD k fn0))
theorem fvTo_len (f : FM) (s : Nat) : ∀ k, (fvTo f s k).length = f.nodes.length
  | 0 => by simp [fvTo]
  | k + 1 => by simp [fvTo, fvTo_len f s k]
/-- What a formula must be that its values can be asked for. -/
structure FmOk (f : FM) : Prop where
  v0 : 0 ≤ f.vars
  v1 : f.vars ≤ 62
  n : f.nodes.length ≤ 1000000
  a : ∀ x ∈ f.nodes, x.args.length ≤ 1000000 ∧ ∀ y ∈ x.args, 0 ≤ y ∧ y < f.vars + f.nodes.length
  t0 : 0 ≤ f.top
  t1 : f.top < f.vars + f.nodes.length
theorem le_oslbs {h : Heap} {g n : Nat} {ty : TypeId} {ys : List Bool} (hg : h.get g = some (.cells ty n (bsF ys))) (hn : n = ys.length) : LeC h (.osl g 1 0 n) (bs false ys) := by
  subst hn
  exact .osl hg (by omega) (fun j _ => by rw [Nat.zero_add]; exact .refl _)
theorem ler_oslbs {h : Heap} {t : Bool} {g n : Nat} {ty : TypeId} {ys : List Bool} (hg : h.get g = some (.cells ty n (bsF ys))) (hn : n = ys.length) : LeR h (.osl g 1 0 n) (bs t ys) := by
  subst hn
  exact .osl hg (by omega) (fun j _ => by rw [Nat.zero_add]; exact .bool _)
theorem cnt_take {f : FM} {vs : List Bool} {s : Nat} {az : List Int} {j : Nat} (h : j < az.length) : cntB f vs s (az.take (j + 1)) = cntB f vs s (az.take j) + if ofB f vs s (az.getD j 0) then 1 else 0 := by
  unfold cntB
  rw [List.take_succ_eq_append_getElem h, List.filter_append, List.length_append, getDZ h]
  congr 1
  by_cases hb : ofB f vs s az[j] = true
  · simp [hb]
  · simp [hb]
theorem cnt_le {f : FM} {vs : List Bool} {s : Nat} {az : List Int} : cntB f vs s az ≤ az.length := List.length_filter_le _ _
theorem getFN {xs : List FN} {i : Nat} (h : i < xs.length) : xs.getD i fn0 = xs[i] := by
  rw [List.getD_eq_getElem?_getD, List.getElem?_eq_getElem h]; rfl
end Go.PN
namespace Go.Proofs.YtlpejaefobdajaaGreat
open Go.AI Go.PN
attribute [local irreducible] aw Fa Fh DrK
set_option maxHeartbeats 800000 in
theorem fof_fa (f : FM) (hf : FmOk f) (vs : List Bool) (s : Nat) (a : Int) (hs : s < 9223372036854775808) (hv : vs.length = f.nodes.length) (h0 : 0 ≤ a) (h1 : a < f.vars + f.nodes.length) : Fa Tryz.prog 164 [.agg (fmc false f), .c (bs false vs), .c (.int .i64 s), .c (.int .i64 a)] (.c (.bool (ofB f vs s a))) := by
  have f1 := hf.v0
  have f2 := hf.v1
  have f3 := hf.n
  unfold ofB
  refine fa_of_body Tryz.func164 rfl rfl (by simp [Tryz.ntmps164]) fun C hC => ?_
  simp only [initS, Nat.reduceAdd]
  refine xG ?_
  refine xB fun g4 hn_g4=>?_
  refine yG hn_g4 ?_
  refine yF hn_g4 (fun hb=>?_) fun hb=>?_
  · have hb' := of_decide_eq_true hb
    obtain ⟨k, rfl⟩ : ∃ k : Nat, a = k := ⟨a.toNat, by omega⟩
    have b1 := shrZ_nat s k (by omega)
    have b2 := and_one_nat (s / 2 ^ k) (Nat.lt_of_le_of_lt (Nat.div_le_self _ _) hs)
    have b3 := bit_eq s k
    refine yG (oj hn_g4 (oj b1 (oj b2 b3))) ?_
    refine yT hC (oj hn_g4 (oj b1 (oj b2 b3))) ?_
    exact .one (.c (ler_bool (by rw [if_pos hb']; rfl)))
  · have hb' := of_decide_eq_false hb
    refine yG hn_g4 ?_
    refine yT hC hn_g4 ?_
    exact .one (.c (ler_bool (by rw [if_neg hb'])))
set_option maxRecDepth 100000 in
set_option maxHeartbeats 3200000 in
theorem fvalues_fa (f : FM) (hf : FmOk f) (s : Nat) (hs : s < 9223372036854775808) : Fa Tryz.prog 165 [.agg (fmc false f), .c (.int .i64 s)] (.c (bs true (fvTo f s f.nodes.length))) := by
  have f1 := hf.v0
  have f2 := hf.v1
  have f3 := hf.n
  refine fa_of_body Tryz.func165 rfl rfl (by simp [Tryz.ntmps165]) fun C hC => ?_
  simp only [initS, Nat.reduceAdd]
  refine xG ?_
  refine xB fun g2 hn_g2=>?_
  refine yG hn_g2 ?_
  refine aw_make (n := f.nodes.length) (c := f.nodes.length) (size := 1) (z := [.bool false]) rfl rfl rfl (zE hn_g2) (zE hn_g2) rfl (by omega) (zE hn_g2) (zE hn_g2) rfl rfl (by omega) (by omega) (by omega) fun g hn_g => ?_
  replace hn_g := Heap.ne_of hn_g
  dsimp only [Heap.ne] at hn_g
  rw [make_bs f.nodes.length]
  refine yS (oj hn_g2 hn_g) ?_
  refine yG (oj hn_g2 hn_g) ?_
  refine aw_lp (fun i : Nat => [(1, .c (.int .i64 s)), (2, .c (.optr g2 0)), (5, .c (.osl g 1 0 f.nodes.length)), (16, .c (fns false f.nodes)), (17, .c (.int .i64 f.nodes.length)), (18, .c (.int .i64 i))]) (fun i => [(g, .cells 4 f.nodes.length (bsF (fvTo f s i))), (g2, .cells 79 3 (ofL (fmc false f)))]) (fun i => i ≤ f.nodes.length) (fun i => f.nodes.length - i) 0 (zB (oj hn_g2 hn_g)) zZ (Nat.zero_le _) ?_
  rintro i hi
  have hvl := fvTo_len f s i
  refine yG (oj hn_g2 hn_g) ?_
  refine yF (oj hn_g2 hn_g) (fun h1=>?_) fun h1=>?_
  · have h1' : i < f.nodes.length := by have := of_decide_eq_true h1; omega
    obtain ⟨ha1, ha2⟩ := hf.a (f.nodes.getD i fn0) (by rw [getFN h1']; exact List.getElem_mem h1')
    refine yG (oj hn_g2 hn_g) ?_
    refine yA (oj hn_g2 hn_g) fun g7 hn_g7=>?_
    refine yG (oj hn_g2 (oj hn_g hn_g7)) ?_
    refine yW (oj hn_g2 (oj hn_g hn_g7)) ?_
    refine yS (oj hn_g2 (oj hn_g hn_g7)) ?_
    have hst : fvTo f s (i + 1) = (fvTo f s i).set i (nodeB f (fvTo f s i) s (f.nodes.getD i fn0)) := rfl
    generalize f.nodes.getD i fn0 = x at *
    generalize fvTo f s i = vs at *
    refine yG (oj hn_g2 (oj hn_g hn_g7)) ?_
    refine aw_lp (fun j : Nat => [(1, .c (.int .i64 s)), (2, .c (.optr g2 0)), (5, .c (.osl g 1 0 f.nodes.length)), (6, .c (.int .i64 i)), (7, .c (.optr g7 0)), (8, .c (.int .i64 (cntB f vs s (x.args.take j)))), (16, .c (fns false f.nodes)), (17, .c (.int .i64 f.nodes.length)), (18, .c (.int .i64 i)), (24, .c (is true x.args)), (25, .c (.int .i64 x.args.length)), (26, .c (.int .i64 j))]) (fun j => [(g7, .cells 89 3 (ofL [.int .i64 x.kind, .int .i64 x.k, is true x.args])), (g, .cells 4 f.nodes.length (bsF vs)), (g2, .cells 79 3 (ofL (fmc false f)))]) (fun j => j ≤ x.args.length) (fun j => x.args.length - j) 0 (zB (oj hn_g2 (oj hn_g hn_g7))) zZ (Nat.zero_le _) ?_
    rintro j hj
    have hc1 := cnt_le (f := f) (vs := vs) (s := s) (az := x.args.take j)
    rw [List.length_take] at hc1
    refine yG (oj hn_g2 (oj hn_g hn_g7)) ?_
    refine yF (oj hn_g2 (oj hn_g hn_g7)) (fun h2=>?_) fun h2=>?_
    · have h2' : j < x.args.length := by have := of_decide_eq_true h2; omega
      obtain ⟨y0, y1⟩ := ha2 (x.args.getD j 0) (by rw [getDZ h2']; exact List.getElem_mem h2')
      have hct := cnt_take (f := f) (vs := vs) (s := s) h2'
      refine yG (oj hn_g2 (oj hn_g hn_g7)) ?_
      refine aw_callq (fof_fa f hf vs s (x.args.getD j 0) hs hvl y0 y1) rfl rfl rfl (by refine yS (oj hn_g2 (oj hn_g hn_g7)) ?_; exact ⟨.agg (lel_refl _), .c (le_oslbs (zE (oj hn_g2 (oj hn_g hn_g7))) hvl.symm), .c (.refl _), .c (.refl _)⟩) ?_
      refine yS (oj hn_g2 (oj hn_g hn_g7)) ?_
      refine yG (oj hn_g2 (oj hn_g hn_g7)) ?_
      refine yF (oj hn_g2 (oj hn_g hn_g7)) (fun h3=>?_) fun h3=>?_
      · rw [h3, if_pos rfl] at hct
        refine yG (oj hn_g2 (oj hn_g hn_g7)) ?_
        exact aw_stop ⟨j + 1, by omega, (by rw [hct]; exact (zB (oj hn_g2 (oj hn_g hn_g7)))), zZ, by omega⟩
      · rw [h3, if_neg (by simp), Nat.add_zero] at hct
        refine yG (oj hn_g2 (oj hn_g hn_g7)) ?_
        exact aw_stop ⟨j + 1, by omega, (by rw [hct]; exact (zB (oj hn_g2 (oj hn_g hn_g7)))), zZ, by omega⟩
    · have h2' : j = x.args.length := by have := of_decide_eq_false h2; omega
      subst h2'
      rw [List.take_length]
      have hc2 := cnt_le (f := f) (vs := vs) (s := s) (az := x.args)
      refine yG (oj hn_g2 (oj hn_g hn_g7)) ?_
      refine yF (oj hn_g2 (oj hn_g hn_g7)) (fun k0=>?_) fun k0=>?_
      · refine yG (oj hn_g2 (oj hn_g hn_g7)) ?_
        refine yW (oj hn_g2 (oj hn_g hn_g7)) ?_
        refine yS (oj hn_g2 (oj hn_g hn_g7)) ?_
        rw [updF_bs (by omega)]
        refine yG (oj hn_g2 (oj hn_g hn_g7)) ?_
        exact aw_stop ⟨i + 1, by omega, (zB (oj hn_g2 (oj hn_g hn_g7))), List.Sublist.cons _ (by rw [hst, nodeB, if_pos k0]; exact zZ), by omega⟩
      · refine yG (oj hn_g2 (oj hn_g hn_g7)) ?_
        refine yF (oj hn_g2 (oj hn_g hn_g7)) (fun k1=>?_) fun k1=>?_
        · refine yG (oj hn_g2 (oj hn_g hn_g7)) ?_
          refine yW (oj hn_g2 (oj hn_g hn_g7)) ?_
          refine yS (oj hn_g2 (oj hn_g hn_g7)) ?_
          rw [updF_bs (by omega)]
          refine yG (oj hn_g2 (oj hn_g hn_g7)) ?_
          exact aw_stop ⟨i + 1, by omega, (zB (oj hn_g2 (oj hn_g hn_g7))), List.Sublist.cons _ (by rw [hst, nodeB, if_neg (by rw [k0]; simp), if_pos k1]; exact zZ), by omega⟩
        · refine yG (oj hn_g2 (oj hn_g hn_g7)) ?_
          refine yF (oj hn_g2 (oj hn_g hn_g7)) (fun k2=>?_) fun k2=>?_
          · refine yG (oj hn_g2 (oj hn_g hn_g7)) ?_
            refine yW (oj hn_g2 (oj hn_g hn_g7)) ?_
            refine yS (oj hn_g2 (oj hn_g hn_g7)) ?_
            rw [updF_bs (by omega)]
            refine yG (oj hn_g2 (oj hn_g hn_g7)) ?_
            exact aw_stop ⟨i + 1, by omega, (zB (oj hn_g2 (oj hn_g hn_g7))), List.Sublist.cons _ (by rw [hst, nodeB, if_neg (by rw [k0]; simp), if_neg (by rw [k1]; simp), if_pos k2]; exact zZ), by omega⟩
          · refine yG (oj hn_g2 (oj hn_g hn_g7)) ?_
            refine yF (oj hn_g2 (oj hn_g hn_g7)) (fun k3=>?_) fun k3=>?_
            · refine yG (oj hn_g2 (oj hn_g hn_g7)) ?_
              refine yW (oj hn_g2 (oj hn_g hn_g7)) ?_
              refine yS (oj hn_g2 (oj hn_g hn_g7)) ?_
              rw [updF_bs (by omega)]
              refine yG (oj hn_g2 (oj hn_g hn_g7)) ?_
              exact aw_stop ⟨i + 1, by omega, (zB (oj hn_g2 (oj hn_g hn_g7))), List.Sublist.cons _ (by rw [hst, nodeB, if_neg (by rw [k0]; simp), if_neg (by rw [k1]; simp), if_neg (by rw [k2]; simp), if_pos k3]; exact zZ), by omega⟩
            · refine yG (oj hn_g2 (oj hn_g hn_g7)) ?_
              refine yF (oj hn_g2 (oj hn_g hn_g7)) (fun k4=>?_) fun k4=>?_
              · refine yG (oj hn_g2 (oj hn_g hn_g7)) ?_
                refine yW (oj hn_g2 (oj hn_g hn_g7)) ?_
                refine yS (oj hn_g2 (oj hn_g hn_g7)) ?_
                rw [updF_bs (by omega)]
                refine yG (oj hn_g2 (oj hn_g hn_g7)) ?_
                exact aw_stop ⟨i + 1, by omega, (zB (oj hn_g2 (oj hn_g hn_g7))), List.Sublist.cons _ (by rw [hst, nodeB, if_neg (by rw [k0]; simp), if_neg (by rw [k1]; simp), if_neg (by rw [k2]; simp), if_neg (by rw [k3]; simp), if_pos k4]; exact zZ), by omega⟩
              · refine yG (oj hn_g2 (oj hn_g hn_g7)) ?_
                refine yW (oj hn_g2 (oj hn_g hn_g7)) ?_
                refine yS (oj hn_g2 (oj hn_g hn_g7)) ?_
                rw [updF_bs (by omega)]
                refine yG (oj hn_g2 (oj hn_g hn_g7)) ?_
                exact aw_stop ⟨i + 1, by omega, (zB (oj hn_g2 (oj hn_g hn_g7))), List.Sublist.cons _ (by rw [hst, nodeB, if_neg (by rw [k0]; simp), if_neg (by rw [k1]; simp), if_neg (by rw [k2]; simp), if_neg (by rw [k3]; simp), if_neg (by rw [k4]; simp)]; exact zZ), by omega⟩
  · have h1' : i = f.nodes.length := by have := of_decide_eq_false h1; omega
    subst h1'
    refine yG (oj hn_g2 hn_g) ?_
    refine yT hC (oj hn_g2 hn_g) ?_
    exact .one (.c (ler_oslbs (zE (oj hn_g2 hn_g)) hvl.symm))
noncomputable def fvalB (f : FM) (s : Nat) : Bool := ofB f (fvTo f s f.nodes.length) s f.top
set_option maxHeartbeats 800000 in
theorem fvalue_fa (f : FM) (hf : FmOk f) (s : Nat) (hs : s < 9223372036854775808) : Fa Tryz.prog 118 [.agg (fmc false f), .c (.int .i64 s)] (.c (.bool (fvalB f s))) := by
  refine fa_of_body Tryz.func118 rfl rfl (by simp [Tryz.ntmps118]) fun C hC => ?_
  simp only [initS, Nat.reduceAdd]
  refine xG ?_
  refine xB fun g2 hn_g2=>?_
  refine yG hn_g2 ?_
  refine aw_dr 9 ty_mixed (by kernel_rfl) ?_
  refine yG hn_g2 ?_
  refine yD hn_g2 (fvalues_fa f hf s hs) ?_
  refine yG hn_g2 ?_
  refine yD hn_g2 (fof_fa f hf (fvTo f s f.nodes.length) s f.top hs (fvTo_len f s _) hf.t0 hf.t1) ?_
  refine yG hn_g2 ?_
  refine yT hC hn_g2 ?_
  exact .one (.c (.bool _))
end Go.Proofs.YtlpejaefobdajaaGreat

/- faultlineref15.Formula. -/
namespace Go.PN
open Go.AI
noncomputable def formTo (f : FM) : Nat → List Bool
  | 0 => []
  | k + 1 => formTo f k ++ [fvalB' f k]
where fvalB' (f : FM) (k : Nat) : Bool := ofB f (fvTo f k f.nodes.length) k f.top
theorem formTo_len (f : FM) : ∀ k, (formTo f k).length = k
  | 0 => rfl
  | k + 1 => by simp [formTo, formTo_len f k]
end Go.PN
namespace Go.Proofs.YtlpejaefobdajaaGreat
open Go.AI Go.PN
attribute [local irreducible] aw Fa Fh DrK
set_option maxHeartbeats 1600000 in
theorem formula_fa (f : FM) (hf : FmOk f) (hv : f.vars ≤ 24) : Fa Tryz.prog 58 [.agg (fmc false f)] (.c (bs true (formTo f (2 ^ f.vars.toNat)))) := by
  have f1 := hf.v0
  have e1 := shl_one f.vars.toNat (by omega)
  rw [show ((f.vars.toNat : Nat) : Int) = f.vars from by omega] at e1
  have hp : 2 ^ f.vars.toNat ≤ 16777216 := by
    have h3 : 2 ^ f.vars.toNat ≤ 2 ^ 24 := Nat.pow_le_pow_right (by omega) (by omega)
    have h4 : (2 : Nat) ^ 24 = 16777216 := by decide
    omega
  generalize 2 ^ f.vars.toNat = M at *
  refine fa_of_body Tryz.func58 rfl rfl (by simp [Tryz.ntmps58]) fun C hC => ?_
  simp only [initS, Nat.reduceAdd]
  refine yG e1 ?_
  refine yB e1 fun g1 hn_g1=>?_
  refine yG (oj e1 hn_g1) ?_
  refine aw_lp (fun x : Option Nat × Nat => [(1, .c (.optr g1 0)), (3, .c (gs x.1 1 x.2)), (4, .c (.int .i64 x.2))]) (fun x => [(g1, .cells 79 3 (ofL (fmc false f)))] ++ gh x.1 4 x.2 (bsF (formTo f x.2))) (fun x => (x.1 = none → x.2 = 0) ∧ (∀ g, x.1 = some g → ¬ g = g1) ∧ x.2 ≤ M) (fun x => M - x.2) (none, 0) (zB (oj e1 hn_g1)) zZ ⟨fun _ => rfl, (fun g e => by cases e), Nat.zero_le _⟩ ?_
  rintro ⟨og, k⟩ ⟨hog, hgn, hk⟩
  dsimp only at hog hgn hk ⊢
  refine yS (oj e1 hn_g1) ?_
  have hvl := formTo_len f k
  refine yG (oj e1 hn_g1) ?_
  refine yF (oj e1 hn_g1) (fun hb=>?_) fun hb=>?_
  · have hin : k < M := by have := of_decide_eq_true hb; omega
    refine yG (oj e1 hn_g1) ?_
    refine yC (oj e1 hn_g1) (fvalue_fa f hf k ?_) ?_
    · omega
    refine yG (oj e1 hn_g1) ?_
    refine aw_push (pre := [(g1, .cells 79 3 (ofL (fmc false f)))]) rfl rfl rfl rfl rfl rfl rfl (zE (oj e1 hn_g1)) (zE (oj e1 hn_g1)) (by rfl) (by omega) (by omega) (zE (oj e1 hn_g1)) (by omega) (by exact hog) (zE (oj e1 hn_g1)) (by rfl) (by rfl) (by first | rfl | simp only [Nat.mul_one, List.nil_append, List.cons_append] <;> rfl) (by unfold maxLen; omega) (by omega) (by exact bs_push hvl _) fun g hn_g => ?_
    replace hn_g := Heap.ne_of hn_g
    first | dsimp only [Heap.ne, gh] at hn_g | dsimp only [Heap.ne] at hn_g | skip
    refine yS (oj e1 (oj hn_g1 hn_g)) ?_
    refine yG (oj e1 (oj hn_g1 hn_g)) ?_
    refine aw_stop ⟨(some g, k + 1), by dsimp only; omega, (zB (oj e1 (oj hn_g1 hn_g))), zZ, some_ne, (fun g e => by cases e; exact (of_eq_false hn_g.1.1)), by dsimp only; omega⟩
  · have hin : k = M := by have := of_decide_eq_false hb; omega
    subst hin
    refine yG (oj e1 hn_g1) ?_
    refine yT hC (oj e1 hn_g1) ?_
    exact .one (.c (ler_gsb (pre := [(g1, _)]) hog (fun g e => by simp only [Heap.keys, List.map_cons, List.map_nil, List.mem_singleton]; exact hgn g e) hvl))
end Go.Proofs.YtlpejaefobdajaaGreat

/- faultlineref15.add. -/
namespace Go.PN
open Go.AI
/-- Where a node stands, or none. -/
def findN (x : DN) : List DN → Nat → Option Nat
  | [], _ => none
  | y :: ns, i => if y = x then some i else findN x ns (i + 1)
def addF (o : List Int) (tb : List Bool) : Nat → Nat → Nat → List DN → List DN × Int
  | 0, _, st, ns => (ns, if tb.getD st false then 1 else 0)
  | k + 1, lv, st, ns =>
    let a := addF o tb k (lv + 1) st ns
    let b := addF o tb k (lv + 1) (st ||| 2 ^ (o.getD lv 0).toNat) a.1
    if a.2 = b.2 then (b.1, a.2) else
      let x : DN := ⟨o.getD lv 0, a.2, b.2⟩
      match findN x b.1 0 with
      | some i => (b.1, 2 + i)
      | none => (b.1 ++ [x], 1 + ((b.1.length + 1 : Nat) : Int))
theorem findN_step {x : DN} {ns : List DN} {i : Nat} (h : i < ns.length) : findN x (ns.drop i) i = if ns.getD i dn0 = x then some i else findN x (ns.drop (i + 1)) (i + 1) := by
  rw [List.drop_eq_getElem_cons h, findN]
  rw [List.getD_eq_getElem?_getD, List.getElem?_eq_getElem h]
  rfl
theorem dn_beq (a : DN) (v l u : Int) : (a.v == v && (a.lo == l && a.hi == u)) = decide (a = ⟨v, l, u⟩) := by
  rw [Bool.eq_iff_iff]
  simp only [Bool.and_eq_true, beq_iff_eq, decide_eq_true_eq]
  cases a
  simp
end Go.PN
namespace Go.AI
section
variable {E : Env} {K : List It} {σ : Sl} {h : Heap}
theorem aw_rethw {P : Program} {fn : Func} {C : Ctx} {Q : AV → Heap → Prop} {rvs : List ResultVar} (hrs : fn.results = rvs.toArray) {h' : Heap} (hsub : h'.Sublist h) (k : ∀ R : Option AV → Prop, (∀ x, flatR x = true → Q x h' → R (some x)) → R (resAV P σ h rvs)) :
    aw (envOfH P fn C Q) (.code .ret :: K) σ h := by
  have hr : ∀ x, flatR x = true → Q x h' → some x = resAV P σ h rvs → aw (envOfH P fn C Q) (.code .ret :: K) σ h := fun x hf hq e a w s => by
    refine wp_ret (exW_ret a w ?_)
    obtain ⟨v, hv, hrep⟩ := results_run s hrs e.symm (flatR_spec hf)
    have hks : ∀ b, b ∈ h'.keys → b ∈ h.keys := fun b hb => by
      obtain ⟨p, hp, e⟩ := List.mem_map.1 hb
      exact List.mem_map.2 ⟨p, hsub.subset hp, e⟩
    have kp : Keeps (Stab C h w) (Stab C h' w) w w := ⟨fun t b hb => ⟨hb.1, hb.2.1, fun hm => hb.2.2 (hks b hm)⟩, fun _ _ _ => rfl, fun _ _ e => e⟩
    exact ⟨s.defers, v, hv, v, x, h', rfl, hq, (hsub.map _).nodup s.nodup, fun g hg => s.keys g (hks g hg), hrep.keep kp, fun g o hm => ORep.keep kp rfl (s.heap g o (hsub.subset hm)), s.frame⟩
  have := k (fun y => y = resAV P σ h rvs → aw (envOfH P fn C Q) (.code .ret :: K) σ h) hr
  exact this rfl
end
theorem updF_at (xs : List CV) (i : Nat) (b : CV) (h : i < xs.length) : updF (ofL xs) i [b] = ofL (xs.set i b) := by
  funext j
  simp only [updF]
  by_cases hj : j = i
  · subst hj
    rw [if_pos rfl, ofL_get (xs.set j b) j b (by rw [List.getElem?_set_self h])]
  · rw [if_neg hj]
    by_cases hl : j < xs.length
    · rw [ofL_get xs j xs[j] (List.getElem?_eq_getElem hl), ofL_get (xs.set i b) j xs[j] (by rw [List.getElem?_set_ne (Ne.symm hj)]; exact List.getElem?_eq_getElem hl)]
    · have e : ∀ (ys : List CV) (n : Nat), ys.length ≤ n → ofL ys n = .any := by
        intro ys
        induction ys with
        | nil => intro n _; rfl
        | cons y ys ih =>
          intro n hn
          match n, hn with
          | n + 1, hn => exact ih n (by simpa using hn)
      rw [e xs j (by omega), e (xs.set i b) j (by rw [List.length_set]; omega)]
@[go_sem ↓] theorem updF_3_0 (a b c x : CV) : updF (ofL [a, b, c]) 0 [x] = ofL [x, b, c] := updF_at [a, b, c] 0 x (by simp)
@[go_sem ↓] theorem updF_3_1 (a b c x : CV) : updF (ofL [a, b, c]) 1 [x] = ofL [a, x, c] := updF_at [a, b, c] 1 x (by simp)
@[go_sem ↓] theorem updF_3_2 (a b c x : CV) : updF (ofL [a, b, c]) 2 [x] = ofL [a, b, x] := updF_at [a, b, c] 2 x (by simp)
theorem solid_gs3 {og : Option Nat} {s n m : Nat} {t : Bool} {f : Nat → CV} {k : IntKind} {z : Int} : (AV.agg [.row t 1 m f, gs og s n, .int k z]).cells.all CV.solid = true := by
  cases og <;> rfl
end Go.AI
namespace Go.Proofs.YtlpejaefobdajaaGreat
open Go.AI Go.PN
attribute [local irreducible] aw Fa Fh DrK
/-- What a call of add with k levels left has come to. -/
def AddOk (o : List Int) (tb : List Bool) (rt : Int) (k : Nat) : Prop := ∀ (lv st : Nat) (ns : List DN) (og : Option Nat) (n : Nat), lv + k = o.length → st < 2 ^ o.length → ns.length = n → n + 2 ^ k ≤ 1000000 → (og = none → n = 0) →
    Fh Tryz.prog 166 (gh og 139 (n * 3) (dnsF ns)) [.agg [is true o, gs og 3 n, .int .i64 rt], .c (bs false tb), .c (.int .i64 lv), .c (.int .i64 st)]
      (fun res h => ∃ og' n', (addF o tb k lv st ns).1.length = n' ∧ n' < n + 2 ^ k ∧ (og' = none → n' = 0) ∧ res = .tup [.agg [is true o, gs og' 3 n', .int .i64 rt], .c (.int .i64 (addF o tb k lv st ns).2)] ∧ h = gh og' 139 (n' * 3) (dnsF (addF o tb k lv st ns).1))
set_option maxRecDepth 100000 in
set_option maxHeartbeats 3200000 in
theorem add_zero (o : List Int) (tb : List Bool) (rt : Int) (ho : o.length ≤ 12) (hr : ∀ x ∈ o, 0 ≤ x ∧ x < o.length) (ht : tb.length = 2 ^ o.length) : AddOk o tb rt 0 := by
  intro lv st ns og n hk hst hn hnl hog
  refine fh_of_body Tryz.func166 rfl rfl (by simp [Tryz.ntmps166]) fun C hC => ?_
  simp only [initS, Nat.reduceAdd]
  refine xG ?_
  refine xB fun g4 hn_g4=>?_
  refine yG hn_g4 ?_
  refine yA hn_g4 fun g8 hn_g8=>?_
  refine yG (oj hn_g4 hn_g8) ?_
  have e1 : ((lv : Int) == (o.length : Int)) = true := by simp; omega
  refine yG (oj hn_g4 (oj hn_g8 e1)) ?_
  refine yP (oj hn_g4 (oj hn_g8 e1)) ?_
  refine yG (oj hn_g4 (oj hn_g8 e1)) ?_
  refine yF (oj hn_g4 (oj hn_g8 e1)) (fun hb=>?_) fun hb=>?_
  · skip
    refine yG (oj hn_g4 (oj hn_g8 e1)) ?_
    refine yW (oj hn_g4 (oj hn_g8 e1)) ?_
    refine yS (oj hn_g4 (oj hn_g8 e1)) ?_
    refine yG (oj hn_g4 (oj hn_g8 e1)) ?_
    refine aw_keep [(8, .c (.optr g8 0)), (9, .c (.int .i64 1))] ((g8, .cells 25 3 (ofL [is true o, gs og 3 n, .int .i64 rt])) :: gh og 139 (n * 3) (dnsF ns)) (zB (oj hn_g4 (oj hn_g8 e1))) (List.Sublist.cons_cons _ (List.Sublist.cons _ (List.Sublist.refl _))) ?_
    refine aw_rethw (h' := gh og 139 (n * 3) (dnsF ns)) rfl (List.Sublist.cons _ (List.Sublist.refl _)) (fun R hR => ?_)
    simp only [go_sem, hn_g4, hn_g8, e1]
    refine hR _ rfl ?_
    clear hR R
    exact ⟨og, n, hn, by simp, hog, by rw [addF, hb]; rfl, rfl⟩
  · skip
    refine yG (oj hn_g4 (oj hn_g8 e1)) ?_
    refine yW (oj hn_g4 (oj hn_g8 e1)) ?_
    refine yS (oj hn_g4 (oj hn_g8 e1)) ?_
    refine yG (oj hn_g4 (oj hn_g8 e1)) ?_
    refine aw_keep [(8, .c (.optr g8 0)), (9, .c (.int .i64 0))] ((g8, .cells 25 3 (ofL [is true o, gs og 3 n, .int .i64 rt])) :: gh og 139 (n * 3) (dnsF ns)) (zB (oj hn_g4 (oj hn_g8 e1))) (List.Sublist.cons_cons _ (List.Sublist.cons _ (List.Sublist.refl _))) ?_
    refine aw_rethw (h' := gh og 139 (n * 3) (dnsF ns)) rfl (List.Sublist.cons _ (List.Sublist.refl _)) (fun R hR => ?_)
    simp only [go_sem, hn_g4, hn_g8, e1]
    refine hR _ rfl ?_
    clear hR R
    exact ⟨og, n, hn, by simp, hog, by rw [addF, hb]; rfl, rfl⟩
end Go.Proofs.YtlpejaefobdajaaGreat

/- Tables of nodes: the invariant, and what Make and Choose come to. No program in sight. -/
namespace Go.PN
open Go.AI
/-- The level of a reference. -/
def lvZ (o : List Int) (ns : List DN) (r : Int) : Int := if r < 2 then o.length else placeZ o (ns.getD (r - 2).toNat dn0).v
structure NdOk (o : List Int) (ns : List DN) (i : Nat) : Prop where
  nk : NodeOk o.length i (ns.getD i dn0)
  ne : (ns.getD i dn0).lo ≠ (ns.getD i dn0).hi
  bl : placeZ o (ns.getD i dn0).v < lvZ o ns (ns.getD i dn0).lo
  bh : placeZ o (ns.getD i dn0).v < lvZ o ns (ns.getD i dn0).hi
  new : ns.getD i dn0 ∉ ns.take i
/-- The nodes of a table. -/
def TabOk (o : List Int) (ns : List DN) : Prop := ∀ i, i < ns.length → NdOk o ns i
def RefOk (ns : List DN) (r : Int) : Prop := 0 ≤ r ∧ r < ns.length + 2
theorem TabOk.ns {o : List Int} {ns : List DN} (h : TabOk o ns) : NsOk o.length ns := fun i hi => (h i hi).nk
theorem getD_app {ns xs : List DN} {i : Nat} (h : i < ns.length) : (ns ++ xs).getD i dn0 = ns.getD i dn0 := by
  rw [List.getD_eq_getElem?_getD, List.getD_eq_getElem?_getD, List.getElem?_append_left h]
theorem ref_app {ns xs : List DN} {r : Int} (h : RefOk ns r) : RefOk (ns ++ xs) r := by
  unfold RefOk at h ⊢
  rw [List.length_append]
  omega
theorem lv_app {o : List Int} {ns xs : List DN} {r : Int} (h : RefOk ns r) : lvZ o (ns ++ xs) r = lvZ o ns r := by
  unfold lvZ
  unfold RefOk at h
  split
  · rfl
  · rw [getD_app (by omega)]
theorem evalF_app {m : Nat} {ns xs : List DN} {s : Nat} (hn : NsOk m ns) : ∀ (k : Nat) (r : Int), RefOk ns r → evalF (ns ++ xs) s k r = evalF ns s k r
  | 0, r, _ => rfl
  | k + 1, r, hr => by
    rw [evalF, evalF]
    split
    · rfl
    · rename_i h1
      unfold RefOk at hr
      rw [getD_app (by omega)]
      have := kid_lt hn (s := s) (r := r) (by omega) hr.2
      unfold kid at this
      exact evalF_app hn k _ ⟨this.1, by omega⟩
theorem eval_app {m : Nat} {ns xs : List DN} {s : Nat} (hn : NsOk m ns) {r : Int} (hr : RefOk ns r) : evalD (ns ++ xs) s r = evalD ns s r := evalF_app hn _ _ hr
theorem kids_ref {o : List Int} {ns : List DN} (h : TabOk o ns) {i : Nat} (hi : i < ns.length) : RefOk ns (ns.getD i dn0).lo ∧ RefOk ns (ns.getD i dn0).hi := by
  obtain ⟨_, _, l0, l1, h0, h1⟩ := (h i hi).nk
  exact ⟨⟨l0, by omega⟩, ⟨h0, by omega⟩⟩
theorem nd_app {o : List Int} {ns xs : List DN} (h : TabOk o ns) {i : Nat} (hi : i < ns.length) : NdOk o (ns ++ xs) i := by
  obtain ⟨r1, r2⟩ := kids_ref h hi
  obtain ⟨a, b, c, d, e⟩ := h i hi
  refine ⟨?_, ?_, ?_, ?_, ?_⟩ <;> rw [getD_app hi]
  · exact a
  · exact b
  · rw [lv_app r1]; exact c
  · rw [lv_app r2]; exact d
  · rw [List.take_append_of_le_length (by omega)]; exact e
theorem findN_none {x : DN} : ∀ {ns : List DN} {i : Nat}, findN x ns i = none → x ∉ ns
  | [], _, _ => by simp
  | y :: ns, i, h => by
    rw [findN] at h
    split at h
    · cases h
    · rename_i hn
      rw [List.mem_cons, not_or]
      exact ⟨fun e => hn e.symm, findN_none h⟩
theorem findN_some {x : DN} : ∀ {ns : List DN} {i j : Nat}, findN x ns i = some j → i ≤ j ∧ j < i + ns.length ∧ ns.getD (j - i) dn0 = x
  | [], _, _, h => by simp [findN] at h
  | y :: ns, i, j, h => by
    rw [findN] at h
    split at h
    · rename_i e
      injection h with h
      subst h
      rw [Nat.sub_self]
      exact ⟨Nat.le_refl _, by simp, e⟩
    · obtain ⟨h1, h2, h3⟩ := findN_some h
      refine ⟨by omega, by simp; omega, ?_⟩
      rw [show j - i = (j - (i + 1)) + 1 from by omega]
      simpa using h3
/-- Make. -/
def mkF (ns : List DN) (v lo hi : Int) : List DN × Int :=
  if lo = hi then (ns, lo) else match findN ⟨v, lo, hi⟩ ns 0 with
    | some i => (ns, 2 + i)
    | none => (ns ++ [⟨v, lo, hi⟩], 2 + ns.length)
/-- From one state of a table to a later one. -/
structure Later (o : List Int) (ns ns' : List DN) (n : Nat) : Prop where
  tab : TabOk o ns'
  pre : ∃ xs, ns' = ns ++ xs
  len : ns'.length ≤ ns.length + n
theorem Later.refl {o : List Int} {ns : List DN} (h : TabOk o ns) (n : Nat) : Later o ns ns n := ⟨h, ⟨[], by simp⟩, by omega⟩
theorem Later.trans {o : List Int} {a b c : List DN} {n m k : Nat} (h1 : Later o a b n) (h2 : Later o b c m) (hk : n + m ≤ k) : Later o a c k := by
  obtain ⟨_, ⟨xs, e1⟩, l1⟩ := h1
  obtain ⟨t2, ⟨ys, e2⟩, l2⟩ := h2
  exact ⟨t2, ⟨xs ++ ys, by rw [e2, e1, List.append_assoc]⟩, by omega⟩
theorem Later.ref {o : List Int} {a b : List DN} {n : Nat} (h : Later o a b n) {r : Int} (hr : RefOk a r) : RefOk b r := by
  obtain ⟨xs, e⟩ := h.pre
  rw [e]; exact ref_app hr
theorem Later.lv {o : List Int} {a b : List DN} {n : Nat} (h : Later o a b n) {r : Int} (hr : RefOk a r) : lvZ o b r = lvZ o a r := by
  obtain ⟨xs, e⟩ := h.pre
  rw [e]; exact lv_app hr
theorem Later.eval {o : List Int} {a b : List DN} {n : Nat} (h : Later o a b n) (ha : TabOk o a) {r : Int} (hr : RefOk a r) (s : Nat) : evalD b s r = evalD a s r := by
  obtain ⟨xs, e⟩ := h.pre
  rw [e]; exact eval_app ha.ns hr
theorem eval_node {o : List Int} {ns : List DN} (h : TabOk o ns) {i : Nat} (hi : i < ns.length) {v lo hi' : Int} (e : ns.getD i dn0 = ⟨v, lo, hi'⟩) (s : Nat) : evalD ns s (2 + i) = if s.testBit v.toNat then evalD ns s hi' else evalD ns s lo := by
  rw [evalD_step h.ns (by omega) (by omega)]
  unfold kid
  rw [show ((2 : Int) + (i : Int) - 2).toNat = i from by omega, e]
  dsimp only
  split <;> rfl
theorem lv_node {o : List Int} {ns : List DN} {i : Nat} : lvZ o ns (2 + i) = placeZ o (ns.getD i dn0).v := by
  unfold lvZ
  rw [if_neg (by omega), show ((2 : Int) + (i : Int) - 2).toNat = i from by omega]
theorem mk_ok {o : List Int} {ns : List DN} (h : TabOk o ns) {v lo hi : Int} (hv0 : 0 ≤ v) (hv1 : v < o.length) (hl : RefOk ns lo) (hh : RefOk ns hi) (bl : placeZ o v < lvZ o ns lo) (bh : placeZ o v < lvZ o ns hi) :
    Later o ns (mkF ns v lo hi).1 1 ∧ RefOk (mkF ns v lo hi).1 (mkF ns v lo hi).2 ∧ placeZ o v ≤ lvZ o (mkF ns v lo hi).1 (mkF ns v lo hi).2 ∧ ∀ s, evalD (mkF ns v lo hi).1 s (mkF ns v lo hi).2 = if s.testBit v.toNat then evalD ns s hi else evalD ns s lo := by
  unfold mkF
  by_cases e : lo = hi
  · subst e
    rw [if_pos rfl]
    exact ⟨Later.refl h 1, hl, Int.le_of_lt bl, fun s => by split <;> rfl⟩
  · rw [if_neg e]
    cases hf : findN ⟨v, lo, hi⟩ ns 0 with
    | some i =>
      obtain ⟨_, h2, h3⟩ := findN_some hf
      rw [Nat.sub_zero] at h3
      have hi' : i < ns.length := by omega
      refine ⟨Later.refl h 1, ⟨by show (0 : Int) ≤ 2 + i; omega, by show (2 : Int) + i < ns.length + 2; omega⟩, ?_, fun s => eval_node h hi' h3 s⟩
      show placeZ o v ≤ lvZ o ns (2 + i)
      rw [lv_node, h3]
      exact Int.le_refl _
    | none =>
      have hnew := findN_none hf
      have hg : (ns ++ [(⟨v, lo, hi⟩ : DN)]).getD ns.length dn0 = ⟨v, lo, hi⟩ := by
        rw [List.getD_eq_getElem?_getD, List.getElem?_append_right (Nat.le_refl _), Nat.sub_self]; rfl
      have htab : TabOk o (ns ++ [(⟨v, lo, hi⟩ : DN)]) := by
        intro i hi2
        rw [List.length_append, List.length_singleton] at hi2
        by_cases hin : i < ns.length
        · exact nd_app h hin
        · have : i = ns.length := by omega
          subst this
          unfold RefOk at hl hh
          refine ⟨?_, ?_, ?_, ?_, ?_⟩ <;> rw [hg]
          · exact ⟨hv0, hv1, hl.1, hl.2, hh.1, hh.2⟩
          · exact e
          · rw [lv_app hl]; exact bl
          · rw [lv_app hh]; exact bh
          · rw [List.take_append_of_le_length (Nat.le_refl _), List.take_length]; exact hnew
      refine ⟨⟨htab, ⟨_, rfl⟩, by simp⟩, ⟨by show (0 : Int) ≤ 2 + ns.length; omega, by show (2 : Int) + ns.length < (ns ++ [_]).length + 2; simp; omega⟩, ?_, fun s => ?_⟩
      · show placeZ o v ≤ lvZ o (ns ++ [_]) (2 + ns.length)
        rw [lv_node, hg]
        exact Int.le_refl _
      · show evalD (ns ++ [_]) s (2 + ns.length) = _
        rw [eval_node htab (by simp) hg s, eval_app h.ns hh, eval_app h.ns hl]
/-- The kids of a reference at a level. -/
def kidsF (o : List Int) (ns : List DN) (r L : Int) : Int × Int := if lvZ o ns r ≠ L then (r, r) else ((ns.getD (r - 2).toNat dn0).lo, (ns.getD (r - 2).toNat dn0).hi)
theorem place_at {o : List Int} {v L : Int} (h : placeZ o v = L) (hL : 0 ≤ L) (hv : v ∈ o) : o.getD L.toNat 0 = v := by
  unfold placeZ at h
  rw [if_pos hv] at h
  have : L.toNat = o.idxOf v := by omega
  rw [this]
  have hlt := List.idxOf_lt_length_of_mem hv
  rw [getDZ hlt]
  exact List.getElem_idxOf hlt
theorem place_nonneg {o : List Int} {v : Int} (hv : v ∈ o) : 0 ≤ placeZ o v := by
  unfold placeZ
  rw [if_pos hv]; omega
theorem lv_le {o : List Int} {ns : List DN} {r : Int} : lvZ o ns r ≤ o.length := by
  unfold lvZ
  split
  · omega
  · unfold placeZ
    split
    · rename_i h; have := List.idxOf_lt_length_of_mem h; omega
    · omega
theorem kids_ok {o : List Int} {ns : List DN} (h : TabOk o ns) (hm : ∀ v : Int, 0 ≤ v → v < o.length → v ∈ o) {r L : Int} (hr : RefOk ns r) (h0 : 0 ≤ L) (hL : L < o.length) (hlv : L ≤ lvZ o ns r) :
    RefOk ns (kidsF o ns r L).1 ∧ RefOk ns (kidsF o ns r L).2 ∧ L + 1 ≤ lvZ o ns (kidsF o ns r L).1 ∧ L + 1 ≤ lvZ o ns (kidsF o ns r L).2 ∧ ∀ s : Nat, evalD ns s r = if s.testBit (o.getD L.toNat 0).toNat then evalD ns s (kidsF o ns r L).2 else evalD ns s (kidsF o ns r L).1 := by
  unfold kidsF
  by_cases e : lvZ o ns r = L
  · rw [if_neg (by simpa using e)]
    have hr2 : 2 ≤ r := by
      refine Classical.byContradiction fun hn => ?_
      unfold lvZ at e
      rw [if_pos (by omega)] at e
      omega
    unfold RefOk at hr
    have hi : (r - 2).toNat < ns.length := by omega
    obtain ⟨r1, r2⟩ := kids_ref h hi
    have nd := h _ hi
    have hpl : placeZ o (ns.getD (r - 2).toNat dn0).v = L := by
      unfold lvZ at e
      rw [if_neg (by omega)] at e
      exact e
    have hvm : (ns.getD (r - 2).toNat dn0).v ∈ o := hm _ nd.nk.v0 nd.nk.v1
    have hg := place_at hpl h0 hvm
    refine ⟨r1, r2, by have := nd.bl; show L + 1 ≤ lvZ o ns (ns.getD (r - 2).toNat dn0).lo; omega, by have := nd.bh; show L + 1 ≤ lvZ o ns (ns.getD (r - 2).toNat dn0).hi; omega, fun s => ?_⟩
    have := eval_node h hi (v := (ns.getD (r - 2).toNat dn0).v) (lo := (ns.getD (r - 2).toNat dn0).lo) (hi' := (ns.getD (r - 2).toNat dn0).hi) rfl s
    rw [show (2 : Int) + (((r - 2).toNat : Nat) : Int) = r from by omega] at this
    rw [this, hg]
  · rw [if_pos (by simpa using e)]
    exact ⟨hr, hr, by show L + 1 ≤ lvZ o ns r; omega, by show L + 1 ≤ lvZ o ns r; omega, fun s => by split <;> rfl⟩
/-- What is remembered of Choose. -/
abbrev Mem3 := List ((Int × Int × Int) × Int)
def lv3 (o : List Int) (ns : List DN) (k : Int × Int × Int) : Int := min (lvZ o ns k.1) (min (lvZ o ns k.2.1) (lvZ o ns k.2.2))
structure MemE (o : List Int) (ns : List DN) (e : (Int × Int × Int) × Int) : Prop where
  c : RefOk ns e.1.1
  a : RefOk ns e.1.2.1
  b : RefOk ns e.1.2.2
  r : RefOk ns e.2
  lv : lv3 o ns e.1 ≤ lvZ o ns e.2
  sem : ∀ s, evalD ns s e.2 = if evalD ns s e.1.1 then evalD ns s e.1.2.1 else evalD ns s e.1.2.2
def MemOk (o : List Int) (ns : List DN) (mm : Mem3) : Prop := ∀ e ∈ mm, MemE o ns e
theorem Later.lv3 {o : List Int} {a b : List DN} {n : Nat} (h : Later o a b n) {k : Int × Int × Int} (h1 : RefOk a k.1) (h2 : RefOk a k.2.1) (h3 : RefOk a k.2.2) : Go.PN.lv3 o b k = Go.PN.lv3 o a k := by
  unfold Go.PN.lv3
  rw [h.lv h1, h.lv h2, h.lv h3]
theorem MemE.later {o : List Int} {a b : List DN} {n : Nat} (h : Later o a b n) (ha : TabOk o a) {e : (Int × Int × Int) × Int} (he : MemE o a e) : MemE o b e :=
  ⟨h.ref he.c, h.ref he.a, h.ref he.b, h.ref he.r, by rw [h.lv3 he.c he.a he.b, h.lv he.r]; exact he.lv, fun s => by rw [h.eval ha he.r, h.eval ha he.c, h.eval ha he.a, h.eval ha he.b]; exact he.sem s⟩
theorem MemOk.later {o : List Int} {a b : List DN} {n : Nat} (h : Later o a b n) (ha : TabOk o a) {mm : Mem3} (hm : MemOk o a mm) : MemOk o b mm := fun e he => (hm e he).later h ha
end Go.PN
