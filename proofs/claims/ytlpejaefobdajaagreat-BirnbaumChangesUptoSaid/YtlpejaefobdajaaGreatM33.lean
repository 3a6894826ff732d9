/- Texts of one proof, laid one behind the other by a program (merge.py): Law9. -/
import Derived.Test.YtlpejaefobdajaaGreatM28
set_option linter.unusedSimpArgs false
set_option linter.unusedVariables false
/- The law BirnbaumChanges. -/
namespace Go.Proofs.YtlpejaefobdajaaGreat
open Go.AI Go.PN
attribute [local irreducible] aw Fa Fh DrK
theorem chcode_ok {d : DG} {p : List RD} {i : Int} {q : RD} (h : chcode d p i q = 0) : dpcode d p = 0 ∧ 0 ≤ i ∧ i < d.order.length ∧ q.prob = true := by
  unfold chcode at h
  split at h
  · rename_i h1; exact absurd h h1
  · rename_i h1
    obtain ⟨h0, hr⟩ := bcode_ok (by simpa using h1 : bcode d p [i] = 0)
    have := hr i (by simp)
    split at h
    · rename_i hq; exact ⟨h0, this.1, this.2, hq⟩
    · cases h
theorem signQ_0' {x : Rat} (h : x = 0) : signQ x = 0 := by subst h; rfl
/-- The probability is linear in each probability. -/
theorem pr_lin {d : DG} {p : List RD} (hd : d.order.length = p.length) {a : Nat} (ha : a < p.length) (q : RD) : prS d (p.set a q) = prS d p + (q.q - (p.getD a rd0).q) * impQ d p a := by
  have e : ∀ r : RD, prS d (p.set a r) = exQ (updP (prP p) a r.q) p.length (fun s => if (tabL d).getD s false then 1 else 0) := fun r => by
    unfold prS
    rw [sumQ_ex, List.length_set]
    refine ex_pcongr _ _ fun j hj => ?_
    unfold prP updP
    by_cases hja : j = a
    · subst hja
      rw [if_pos rfl, List.getD_eq_getElem?_getD, List.getElem?_set_self hj]; rfl
    · rw [if_neg hja, List.getD_eq_getElem?_getD, List.getElem?_set_ne (fun e => hja e.symm), ← List.getD_eq_getElem?_getD]
  have hp : prS d p = exQ (prP p) p.length (fun s => if (tabL d).getD s false then 1 else 0) := by unfold prS; rw [sumQ_ex]
  have key : ∀ r : Rat, exQ (updP (prP p) a r) p.length (fun s => if (tabL d).getD s false then 1 else 0) = r * exQ (updP (prP p) a 1) p.length (fun s => if (tabL d).getD s false then 1 else 0) + (1 - r) * exQ (updP (prP p) a 0) p.length (fun s => if (tabL d).getD s false then 1 else 0) := fun r => by
    have := ex_lin (p := updP (prP p) a r) p.length (fun s => if (tabL d).getD s false then 1 else 0) ha
    have u : ∀ c : Rat, updP (updP (prP p) a r) a c = updP (prP p) a c := fun c => by
      funext j; unfold updP; split <;> rfl
    rw [u, u, show updP (prP p) a r a = r from by unfold updP; rw [if_pos rfl]] at this
    exact this
  have hself : exQ (prP p) p.length (fun s => if (tabL d).getD s false then 1 else 0) = exQ (updP (prP p) a (prP p a)) p.length (fun s => if (tabL d).getD s false then 1 else 0) := ex_pcongr _ _ fun j _ => by
    unfold updP; split
    · rename_i h; rw [h]
    · rfl
  unfold impQ
  rw [e q, e (rd 1), e rd0, hp, hself, rd_q, rd0_q, key q.q, key (prP p a)]
  show _ = _ + (q.q - prP p a) * _
  generalize exQ (updP (prP p) a 1) p.length (fun s => if (tabL d).getD s false then 1 else 0) = A
  generalize exQ (updP (prP p) a 0) p.length (fun s => if (tabL d).getD s false then 1 else 0) = B
  grind
set_option maxRecDepth 100000 in
set_option maxHeartbeats 6400000 in
theorem lawChanges_fa (haw : Fa Tryz.prog 14 [] (.c (.bool true))) (d : DG) (p : List RD) (i : Int) (q : RD) (hw : WordsOk p) (hq : (∀ x ∈ q.num, x < 4294967296) ∧ ∀ x ∈ q.den, x < 4294967296) (hl : p.length ≤ 1099511627776) (hl1 : d.order.length ≤ 1099511627776) (hl2 : d.nodes.length ≤ 1099511627776) :
    Fa Tryz.prog 6 [.agg (dgc false d), .c (rats false p), .agg (.int .i64 i :: rdc q)] (.c (.bool true)) := by
  refine fa_of_body Tryz.func6 rfl rfl (by simp [Tryz.ntmps6]) fun C hC => ?_
  simp only [initS, Nat.reduceAdd]
  refine xG ?_
  refine xB fun g3 hn_g3=>?_
  refine yG hn_g3 ?_
  refine yB hn_g3 fun g5 hn_g5=>?_
  refine yG (oj hn_g3 hn_g5) ?_
  refine yC (oj hn_g3 hn_g5) (haw) ?_
  refine yG (oj hn_g3 hn_g5) ?_
  refine yC (oj hn_g3 hn_g5) (large42_fa d p hl hl1 hl2) ?_
  refine yG (oj hn_g3 hn_g5) ?_
  refine aw_split 21 (zE (oj hn_g3 hn_g5)) (fun hb => ?_) (fun hb => ?_) <;> refine yS (oj hn_g3 hn_g5) ?_
  · refine yG (oj hn_g3 hn_g5) ?_
    refine yP (oj hn_g3 hn_g5) ?_
    refine yG (oj hn_g3 hn_g5) ?_
    refine yC (oj hn_g3 hn_g5) (haw) ?_
    refine yG (oj hn_g3 hn_g5) ?_
    refine yT hC (oj hn_g3 hn_g5) ?_
    exact .one (.c (.bool _))
  refine yG (oj hn_g3 hn_g5) ?_
  refine aw_buildSlice (xs := [.tmp 24]) (cells := rdc q) rfl (zE (oj hn_g3 hn_g5)) rfl (zE (oj hn_g3 hn_g5)) (by refine yS (oj hn_g3 hn_g5) ?_; rfl) rfl (by omega) (by omega) (by intro x hx; simp only [List.mem_singleton] at hx; subst hx; exact ⟨rfl, rfl, rfl⟩) rfl fun g9 hn_g9 => ?_
  replace hn_g9 := Heap.ne_of hn_g9
  dsimp only [Heap.ne] at hn_g9
  refine yS (oj hn_g3 (oj hn_g5 hn_g9)) ?_
  refine aw_frzT (t := 25) (ratsF [q]) (zE (oj hn_g3 (oj hn_g5 hn_g9))) (zE (oj hn_g3 (oj hn_g5 hn_g9))) (by omega) (hC g9) (fun r hr => by match r, hr with | 0, _ => rfl | 1, _ => rfl | 2, _ => rfl) rfl (zE (oj hn_g3 (oj hn_g5 hn_g9))) ?_
  refine yS (oj hn_g3 (oj hn_g5 hn_g9)) ?_
  refine aw_callq (large42_fa ⟨[], [], 0⟩ [q] (by simp) (by simp) (by simp)) rfl (zE (oj hn_g3 (oj hn_g5 hn_g9))) rfl (by refine yS (oj hn_g3 (oj hn_g5 hn_g9)) ?_; exact ⟨.agg ⟨.nils, .nils, .refl _, trivial⟩, .c wl2⟩) ?_
  refine yS (oj hn_g3 (oj hn_g5 hn_g9)) ?_
  refine yG (oj hn_g3 (oj hn_g5 hn_g9)) ?_
  refine yF (oj hn_g3 (oj hn_g5 hn_g9)) (fun hc=>?_) fun hc=>?_
  · refine yG (oj hn_g3 (oj hn_g5 hn_g9)) ?_
    refine yC (oj hn_g3 (oj hn_g5 hn_g9)) (haw) ?_
    refine yG (oj hn_g3 (oj hn_g5 hn_g9)) ?_
    refine yT hC (oj hn_g3 (oj hn_g5 hn_g9)) ?_
    exact .one (.c (.bool _))
  have hs := small_of hw hl2 hb
  have hs2 : Small ⟨[], [], 0⟩ [q] := small_of (fun r hr => by rw [List.mem_singleton] at hr; subst hr; exact hq) (by simp) hc
  have hq4 : q.wf 4 := hs2.w q (by simp)
  have C1 := change_fa d p hs i q hq4
  obtain ⟨A, hA⟩ : ∃ A, A = if chcode d p i q = 0 then rd (prS d (p.set i.toNat q)) else rd0 := ⟨_, rfl⟩
  obtain ⟨c, hcc⟩ : ∃ c, c = chcode d p i q := ⟨_, rfl⟩
  rw [← hA, ← hcc] at C1
  rw [← hcc] at hA
  refine yG (oj hn_g3 (oj hn_g5 hn_g9)) ?_
  refine yC (oj hn_g3 (oj hn_g5 hn_g9)) (C1) ?_
  refine yG (oj hn_g3 (oj hn_g5 hn_g9)) ?_
  refine yA (oj hn_g3 (oj hn_g5 hn_g9)) fun g7 hn_g7=>?_
  refine yG (oj hn_g3 (oj hn_g5 (oj hn_g9 hn_g7))) ?_
  refine yW (oj hn_g3 (oj hn_g5 (oj hn_g9 hn_g7))) ?_
  refine yS (oj hn_g3 (oj hn_g5 (oj hn_g9 hn_g7))) ?_
  refine yG (oj hn_g3 (oj hn_g5 (oj hn_g9 hn_g7))) ?_
  refine yC (oj hn_g3 (oj hn_g5 (oj hn_g9 hn_g7))) (checkDiagram_fa d p hs.w5 ?_ ?_ ?_) ?_
  · omega
  · omega
  · omega
  refine yH (oj hn_g3 (oj hn_g5 (oj hn_g9 hn_g7))) ?_
  apply aw_seq
  refine aw_cut (fun _ : Unit => [(1, .c (rats false p)), (3, .c (.optr g3 0)), (5, .c (.optr g5 0)), (7, .c (.optr g7 0)), (8, .c (errA c)), (9, .c (.int .i64 (bcode d p [i])))]) (fun _ => [(g7, .cells 33 3 (ofL (rdc A))), (g5, .cells 55 4 (ofL (.int .i64 i :: rdc q))), (g3, .cells 25 3 (ofL (dgc false d)))]) (fun _ => d.order.length ≤ 1099511627776) ?_ ?_
  · by_cases h0 : dpcode d p = 0
    · have z := ieq_t h0
      obtain ⟨_, hpl, _⟩ := dp_ok h0
      refine yG (oj hn_g3 (oj hn_g5 (oj hn_g9 (oj hn_g7 z)))) ?_
      refine aw_split 48 (zE (oj hn_g3 (oj hn_g5 (oj hn_g9 (oj hn_g7 z))))) (fun h1 => ?_) (fun h1 => ?_) <;> refine yS (oj hn_g3 (oj hn_g5 (oj hn_g9 (oj hn_g7 z)))) ?_
      · have e : bcode d p [i] = 10 := by
          unfold bcode; rw [if_neg (by simp [h0]), if_neg]
          have := of_decide_eq_true h1
          intro hx
          simp only [List.all_cons, List.all_nil, Bool.and_true, Bool.and_eq_true, decide_eq_true_eq] at hx
          omega
        refine yG (oj hn_g3 (oj hn_g5 (oj hn_g9 (oj hn_g7 (oj z e))))) ?_
        refine yP (oj hn_g3 (oj hn_g5 (oj hn_g9 (oj hn_g7 (oj z e))))) ?_
        refine yG (oj hn_g3 (oj hn_g5 (oj hn_g9 (oj hn_g7 (oj z e))))) ?_
        exact aw_stop ⟨(), (zB (oj hn_g3 (oj hn_g5 (oj hn_g9 (oj hn_g7 (oj z e)))))), zZ, hl1⟩
      refine yG (oj hn_g3 (oj hn_g5 (oj hn_g9 (oj hn_g7 z)))) ?_
      refine yF (oj hn_g3 (oj hn_g5 (oj hn_g9 (oj hn_g7 z)))) (fun h4=>?_) fun h4=>?_
      · have e : bcode d p [i] = 10 := by
          unfold bcode; rw [if_neg (by simp [h0]), if_neg]
          have := of_decide_eq_true h4
          intro hx
          simp only [List.all_cons, List.all_nil, Bool.and_true, Bool.and_eq_true, decide_eq_true_eq] at hx
          omega
        refine yG (oj hn_g3 (oj hn_g5 (oj hn_g9 (oj hn_g7 (oj z e))))) ?_
        exact aw_stop ⟨(), (zB (oj hn_g3 (oj hn_g5 (oj hn_g9 (oj hn_g7 (oj z e)))))), zZ, hl1⟩
      · have e : bcode d p [i] = 0 := by
          have := of_decide_eq_false h1
          have := of_decide_eq_false h4
          exact bcode_in h0 (by simp only [List.mem_singleton]; rintro x rfl; omega)
        refine yG (oj hn_g3 (oj hn_g5 (oj hn_g9 (oj hn_g7 (oj z (oj e h0)))))) ?_
        exact aw_stop ⟨(), (zB (oj hn_g3 (oj hn_g5 (oj hn_g9 (oj hn_g7 (oj z (oj e h0))))))), zZ, hl1⟩
    · have z := ieq_f h0
      have e : bcode d p [i] = dpcode d p := bcode_dp h0 _
      refine yG (oj hn_g3 (oj hn_g5 (oj hn_g9 (oj hn_g7 (oj z e))))) ?_
      refine yN (oj hn_g3 (oj hn_g5 (oj hn_g9 (oj hn_g7 (oj z e))))) ?_
      refine yG (oj hn_g3 (oj hn_g5 (oj hn_g9 (oj hn_g7 (oj z e))))) ?_
      exact aw_stop ⟨(), (zB (oj hn_g3 (oj hn_g5 (oj hn_g9 (oj hn_g7 (oj z e)))))), zZ, hl1⟩
  rintro _ _
  apply aw_seq
  refine aw_cut (fun _ : Unit => [(1, .c (rats false p)), (3, .c (.optr g3 0)), (5, .c (.optr g5 0)), (7, .c (.optr g7 0)), (8, .c (errA c)), (9, .c (.int .i64 c))]) (fun _ => [(g7, .cells 33 3 (ofL (rdc A))), (g5, .cells 55 4 (ofL (.int .i64 i :: rdc q))), (g3, .cells 25 3 (ofL (dgc false d)))]) (fun _ => d.order.length ≤ 1099511627776) ?_ ?_
  · by_cases h0 : bcode d p [i] = 0
    · have z := ieq_t h0
      have e : c = if q.prob then 0 else 3 := by rw [hcc]; unfold chcode; rw [if_neg (by simpa using h0)]
      refine yG (oj hn_g3 (oj hn_g5 (oj hn_g9 (oj hn_g7 z)))) ?_
      refine yC (oj hn_g3 (oj hn_g5 (oj hn_g9 (oj hn_g7 z)))) (sprob_fa q (wf_mono hq4 ?_)) ?_
      · omega
      refine yG (oj hn_g3 (oj hn_g5 (oj hn_g9 (oj hn_g7 z)))) ?_
      refine yF (oj hn_g3 (oj hn_g5 (oj hn_g9 (oj hn_g7 z)))) (fun hp=>?_) fun hp=>?_
      · have e2 : c = 3 := by rw [e]; exact if_neg (by simpa using hp)
        refine yG (oj hn_g3 (oj hn_g5 (oj hn_g9 (oj hn_g7 (oj z e2))))) ?_
        exact aw_stop ⟨(), (zB (oj hn_g3 (oj hn_g5 (oj hn_g9 (oj hn_g7 (oj z e2)))))), zZ, hl1⟩
      · have e2 : c = 0 := by rw [e]; exact if_pos (by simpa using hp)
        refine yG (oj hn_g3 (oj hn_g5 (oj hn_g9 (oj hn_g7 (oj z (oj e2 h0)))))) ?_
        exact aw_stop ⟨(), (zB (oj hn_g3 (oj hn_g5 (oj hn_g9 (oj hn_g7 (oj z (oj e2 h0))))))), zZ, hl1⟩
    · have z := ieq_f h0
      have e : c = bcode d p [i] := by rw [hcc]; unfold chcode; rw [if_pos h0]
      refine yG (oj hn_g3 (oj hn_g5 (oj hn_g9 (oj hn_g7 (oj z e))))) ?_
      refine yN (oj hn_g3 (oj hn_g5 (oj hn_g9 (oj hn_g7 (oj z e))))) ?_
      refine yG (oj hn_g3 (oj hn_g5 (oj hn_g9 (oj hn_g7 (oj z e))))) ?_
      exact aw_stop ⟨(), (zB (oj hn_g3 (oj hn_g5 (oj hn_g9 (oj hn_g7 (oj z e)))))), zZ, hl1⟩
  rintro _ _
  by_cases h0 : c = 0
  · have z := ieq_t h0
    rw [if_pos h0] at hA
    obtain ⟨hdp, i0, i1, hqp⟩ := chcode_ok (hcc.symm.trans h0)
    obtain ⟨_, hpl, _⟩ := dp_ok hdp
    obtain ⟨a, rfl⟩ : ∃ a : Nat, i = a := ⟨i.toNat, by omega⟩
    rw [Int.toNat_natCast] at hA
    have ha : a < p.length := by omega
    have hxw : (p.getD a rd0).wf 4 := getD_wf hs.w a
    have B1 := birnbaum_fa d p hs
    rw [if_pos hdp, hdp] at B1
    have P1 := sprobability_fa d p hs
    rw [if_pos hdp, hdp] at P1
    have C2 := change42_fa d p hs hdp a ha q hq4
    have hlin := pr_lin hpl.symm ha q
    have hAf : fits (prS d (p.set a q)) 4000 := by
      have := pr_fits (hs.set hdp (i := a) hq4) (dp_set hdp hqp)
      exact this
    have hXf := pr_fits hs hdp
    have hIf := imp_fits hs hdp a
    have g1 := impL_get (d := d) (p := p) ha
    have n1 := impL_len d p p.length
    change Fa Tryz.prog _ _ (.tup [_, .c .nilI]) at B1
    change Fa Tryz.prog _ _ (.tup [.agg (rdc (rd (prS d p))), .c .nilI]) at P1
    have hqf := RD.fits hq4 (by omega)
    have hxf := RD.fits hxw (by omega)
    subst hA
    generalize prS d (p.set a q) = Y at *
    generalize prS d p = X at *
    generalize impQ d p a = I at *
    generalize impL d p p.length = L1 at *
    have e1 : (!decide ((L1.length : Int) = (p.length : Int))) = false := by rw [n1]; simp
    have e3 : ((L1.length : Int) != (p.length : Int)) = false := by rw [n1]; simp
    have q1 : (a : Int) < L1.length := by omega
    have hr : signQ (Y - (X + (q.q - (p.getD a rd0).q) * I)) = 0 := signQ_0' (by rw [hlin]; grind)
    have r0 : ((0 : Int) == 0) = true := rfl
    have f1 := fits_sub hqf hxf
    have f2 := fits_mul f1 hIf
    have f3 := fits_add hXf f2
    generalize hxx : p.getD a rd0 = x at *
    refine yG (oj hn_g3 (oj hn_g5 (oj hn_g9 (oj hn_g7 (oj z (oj e1 (oj e3 (oj g1 (oj hxx r0))))))))) ?_
    refine yN (oj hn_g3 (oj hn_g5 (oj hn_g9 (oj hn_g7 (oj z (oj e1 (oj e3 (oj g1 (oj hxx r0))))))))) ?_
    refine yG (oj hn_g3 (oj hn_g5 (oj hn_g9 (oj hn_g7 (oj z (oj e1 (oj e3 (oj g1 (oj hxx r0))))))))) ?_
    refine yC (oj hn_g3 (oj hn_g5 (oj hn_g9 (oj hn_g7 (oj z (oj e1 (oj e3 (oj g1 (oj hxx r0))))))))) (B1) ?_
    refine yG (oj hn_g3 (oj hn_g5 (oj hn_g9 (oj hn_g7 (oj z (oj e1 (oj e3 (oj g1 (oj hxx r0))))))))) ?_
    refine yC (oj hn_g3 (oj hn_g5 (oj hn_g9 (oj hn_g7 (oj z (oj e1 (oj e3 (oj g1 (oj hxx r0))))))))) (P1) ?_
    refine yG (oj hn_g3 (oj hn_g5 (oj hn_g9 (oj hn_g7 (oj z (oj e1 (oj e3 (oj g1 (oj hxx r0))))))))) ?_
    refine yA (oj hn_g3 (oj hn_g5 (oj hn_g9 (oj hn_g7 (oj z (oj e1 (oj e3 (oj g1 (oj hxx r0))))))))) fun g12 hn_g12=>?_
    refine yG (oj hn_g3 (oj hn_g5 (oj hn_g9 (oj hn_g7 (oj z (oj e1 (oj e3 (oj g1 (oj hxx (oj r0 hn_g12)))))))))) ?_
    refine yW (oj hn_g3 (oj hn_g5 (oj hn_g9 (oj hn_g7 (oj z (oj e1 (oj e3 (oj g1 (oj hxx (oj r0 hn_g12)))))))))) ?_
    refine yS (oj hn_g3 (oj hn_g5 (oj hn_g9 (oj hn_g7 (oj z (oj e1 (oj e3 (oj g1 (oj hxx (oj r0 hn_g12)))))))))) ?_
    refine yG (oj hn_g3 (oj hn_g5 (oj hn_g9 (oj hn_g7 (oj z (oj e1 (oj e3 (oj g1 (oj hxx (oj r0 hn_g12)))))))))) ?_
    refine aw_dr 29 ty_mixed (by kernel_rfl) ?_
    refine yG (oj hn_g3 (oj hn_g5 (oj hn_g9 (oj hn_g7 (oj z (oj e1 (oj e3 (oj g1 (oj hxx (oj r0 hn_g12)))))))))) ?_
    refine yD (oj hn_g3 (oj hn_g5 (oj hn_g9 (oj hn_g7 (oj z (oj e1 (oj e3 (oj g1 (oj hxx (oj r0 hn_g12)))))))))) (C2) ?_
    refine yG (oj hn_g3 (oj hn_g5 (oj hn_g9 (oj hn_g7 (oj z (oj e1 (oj e3 (oj g1 (oj hxx (oj r0 hn_g12)))))))))) ?_
    refine yD (oj hn_g3 (oj hn_g5 (oj hn_g9 (oj hn_g7 (oj z (oj e1 (oj e3 (oj g1 (oj hxx (oj r0 hn_g12)))))))))) (ratSame_fa (rd Y) (rd_wf (fits_mono hAf ?_))) ?_
    · decide
    refine yG (oj hn_g3 (oj hn_g5 (oj hn_g9 (oj hn_g7 (oj z (oj e1 (oj e3 (oj g1 (oj hxx (oj r0 hn_g12)))))))))) ?_
    refine yN (oj hn_g3 (oj hn_g5 (oj hn_g9 (oj hn_g7 (oj z (oj e1 (oj e3 (oj g1 (oj hxx (oj r0 hn_g12)))))))))) ?_
    refine yG (oj hn_g3 (oj hn_g5 (oj hn_g9 (oj hn_g7 (oj z (oj e1 (oj e3 (oj g1 (oj hxx (oj r0 hn_g12)))))))))) ?_
    refine aw_dr 19 ty_mixed (by kernel_rfl) ?_
    refine yG (oj hn_g3 (oj hn_g5 (oj hn_g9 (oj hn_g7 (oj z (oj e1 (oj e3 (oj g1 (oj hxx (oj r0 hn_g12)))))))))) ?_
    refine yD (oj hn_g3 (oj hn_g5 (oj hn_g9 (oj hn_g7 (oj z (oj e1 (oj e3 (oj g1 (oj hxx (oj r0 hn_g12)))))))))) (ssub_fa q x (wf_mono hq4 ?_) (wf_mono hxw ?_)) ?_
    · omega
    · omega
    refine yG (oj hn_g3 (oj hn_g5 (oj hn_g9 (oj hn_g7 (oj z (oj e1 (oj e3 (oj g1 (oj hxx (oj r0 hn_g12)))))))))) ?_
    refine yD (oj hn_g3 (oj hn_g5 (oj hn_g9 (oj hn_g7 (oj z (oj e1 (oj e3 (oj g1 (oj hxx (oj r0 hn_g12)))))))))) (smul_fa (rd (q.q - x.q)) (rd I) (rd_wf (fits_mono f1 ?_)) (rd_wf (fits_mono hIf ?_))) ?_
    · omega
    · omega
    rw [rd_q, rd_q]
    refine yG (oj hn_g3 (oj hn_g5 (oj hn_g9 (oj hn_g7 (oj z (oj e1 (oj e3 (oj g1 (oj hxx (oj r0 hn_g12)))))))))) ?_
    refine yD (oj hn_g3 (oj hn_g5 (oj hn_g9 (oj hn_g7 (oj z (oj e1 (oj e3 (oj g1 (oj hxx (oj r0 hn_g12)))))))))) (sadd_fa (rd X) (rd ((q.q - x.q) * I)) (rd_wf (fits_mono hXf ?_)) (rd_wf (fits_mono f2 ?_))) ?_
    · omega
    · omega
    rw [rd_q, rd_q]
    refine yG (oj hn_g3 (oj hn_g5 (oj hn_g9 (oj hn_g7 (oj z (oj e1 (oj e3 (oj g1 (oj hxx (oj r0 hn_g12)))))))))) ?_
    refine yD (oj hn_g3 (oj hn_g5 (oj hn_g9 (oj hn_g7 (oj z (oj e1 (oj e3 (oj g1 (oj hxx (oj r0 hn_g12)))))))))) (scmp_fa (rd Y) (rd (X + (q.q - x.q) * I)) (rd_wf (fits_mono hAf ?_)) (rd_wf (fits_mono f3 ?_))) ?_
    · omega
    · omega
    rw [rd_q, rd_q, hr]
    refine yG (oj hn_g3 (oj hn_g5 (oj hn_g9 (oj hn_g7 (oj z (oj e1 (oj e3 (oj g1 (oj hxx (oj r0 hn_g12)))))))))) ?_
    refine yT hC (oj hn_g3 (oj hn_g5 (oj hn_g9 (oj hn_g7 (oj z (oj e1 (oj e3 (oj g1 (oj hxx (oj r0 hn_g12)))))))))) ?_
    exact .one (.c (.bool _))
  · have z := ieq_f h0
    have hAz : A = rd0 := by rw [hA, if_neg h0]
    have z0 : decide (A = rd0) = true := by rw [hAz]; simp
    have y := ieq_t (rfl : c = c)
    refine yG (oj hn_g3 (oj hn_g5 (oj hn_g9 (oj hn_g7 (oj z (oj z0 y)))))) ?_
    refine yP (oj hn_g3 (oj hn_g5 (oj hn_g9 (oj hn_g7 (oj z (oj z0 y)))))) ?_
    refine yG (oj hn_g3 (oj hn_g5 (oj hn_g9 (oj hn_g7 (oj z (oj z0 y)))))) ?_
    refine yC (oj hn_g3 (oj hn_g5 (oj hn_g9 (oj hn_g7 (oj z (oj z0 y)))))) (zero42_fa A ?_) ?_
    · rw [hAz]; exact wf_mono rd0_wf4 (by decide)
    refine yG (oj hn_g3 (oj hn_g5 (oj hn_g9 (oj hn_g7 (oj z (oj z0 y)))))) ?_
    refine yC (oj hn_g3 (oj hn_g5 (oj hn_g9 (oj hn_g7 (oj z (oj z0 y)))))) (num_fa c) ?_
    refine yG (oj hn_g3 (oj hn_g5 (oj hn_g9 (oj hn_g7 (oj z (oj z0 y)))))) ?_
    refine yT hC (oj hn_g3 (oj hn_g5 (oj hn_g9 (oj hn_g7 (oj z (oj z0 y)))))) ?_
    exact .one (.c (.bool _))
end Go.Proofs.YtlpejaefobdajaaGreat
