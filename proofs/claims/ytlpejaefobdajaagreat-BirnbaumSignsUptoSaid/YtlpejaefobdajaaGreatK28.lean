/- Texts of one proof, laid one behind the other by a program (merge.py): Law14. -/
import Derived.Test.YtlpejaefobdajaaGreatK26
set_option linter.unusedSimpArgs false
set_option linter.unusedVariables false
/- The law BirnbaumSigns. -/
namespace Go.Proofs.YtlpejaefobdajaaGreat
open Go.AI Go.PN
attribute [local irreducible] aw Fa Fh DrK
set_option maxRecDepth 100000 in
set_option maxHeartbeats 6400000 in
theorem lawSigns_fa (haw : Fa Tryz.prog 14 [] (.c (.bool true))) (d : DG) (p : List RD) (hw : WordsOk p) (hl : p.length ≤ 1099511627776) (hl1 : d.order.length ≤ 1099511627776) (hl2 : d.nodes.length ≤ 1099511627776) :
    Fa Tryz.prog 11 [.agg (dgc false d), .c (rats false p)] (.c (.bool true)) := by
  refine fa_of_body Tryz.func11 rfl rfl (by simp [Tryz.ntmps11]) fun C hC => ?_
  simp only [initS, Nat.reduceAdd]
  refine xG ?_
  refine xB fun g2 hn_g2=>?_
  refine yG hn_g2 ?_
  refine yC hn_g2 (haw) ?_
  refine yG hn_g2 ?_
  refine yC hn_g2 (valid42_fa d p hw hl hl1 hl2) ?_
  refine yG hn_g2 ?_
  refine yF hn_g2 (fun hv=>?_) fun hv=>?_
  · refine yG hn_g2 ?_
    refine yC hn_g2 (haw) ?_
    refine yG hn_g2 ?_
    refine yT hC hn_g2 ?_
    exact .one (.c (.bool _))
  obtain ⟨hb, hdp⟩ := valid2_ok (show validB2 d p = true from by simpa using hv)
  have hs := small_of hw hl2 hb
  obtain ⟨ok, hpl, hpr⟩ := dp_ok hdp
  have h6 := hs.o6 hdp
  have hs1 := hs.l
  have hd0 : dcode d = 0 := by
    unfold dpcode at hdp
    split at hdp
    · rename_i h; exact absurd hdp h
    · rename_i h; simpa using h
  have B1 := birnbaum_fa d p hs
  rw [if_pos hdp, hdp] at B1
  change Fa Tryz.prog _ _ (.tup [_, .c .nilI]) at B1
  refine yG hn_g2 ?_
  refine aw_callh (hc := []) (hr := [(g2, .cells 25 3 (ofL (dgc false d)))]) (anot_fh d hd0 (by omega)) rfl rfl rfl (.refl _) (zL hn_g2) ?_
  rintro _ _ ⟨rfl, C, hC1, rfl⟩ _
  obtain ⟨hsc, hdpc⟩ := small_like hs hdp hC1.code hC1.order
  have hco : C.order.length = p.length := by rw [hC1.order]; exact hpl.symm
  have B2 := birnbaum_fa C p hsc
  rw [if_pos hdpc, hdpc] at B2
  change Fa Tryz.prog _ _ (.tup [_, .c .nilI]) at B2
  rw [List.nil_append]
  refine yS hn_g2 ?_
  refine yG hn_g2 ?_
  refine yA hn_g2 fun g5 hn_g5=>?_
  refine yG (oj hn_g2 hn_g5) ?_
  refine yW (oj hn_g2 hn_g5) ?_
  refine yS (oj hn_g2 hn_g5) ?_
  refine yG (oj hn_g2 hn_g5) ?_
  refine yC (oj hn_g2 hn_g5) (B1) ?_
  refine yG (oj hn_g2 hn_g5) ?_
  refine aw_callq B2 rfl rfl rfl (zL (oj hn_g2 hn_g5)) ?_
  refine yS (oj hn_g2 hn_g5) ?_
  refine yG (oj hn_g2 hn_g5) ?_
  refine aw_callh (hc := []) (hr := [(g5, .cells 25 3 (ofL (dgc true C))), (g2, .cells 25 3 (ofL (dgc false d)))]) (Monotone_fh d hd0 h6) rfl rfl rfl (.refl _) (zL (oj hn_g2 hn_g5)) ?_
  rintro _ _ ⟨rfl, b, hbm, rfl⟩ _
  rw [List.nil_append]
  have n1 := impL_len d p p.length
  have n2 := impL_len C p p.length
  have hget : ∀ k, k < p.length → (impL d p p.length).getD k rd0 = rd (impQ d p k) ∧ (impL C p p.length).getD k rd0 = rd (-impQ d p k) := fun k hk => ⟨impL_get hk, by rw [impL_get hk, imp_not hpl.symm hco hC1.ev]⟩
  have hfit : ∀ k, fits (impQ d p k) 9000 ∧ fits (-impQ d p k) 9000 := fun k => ⟨imp_fits hs hdp k, by rw [← imp_not hpl.symm hco hC1.ev]; exact imp_fits hsc hdpc k⟩
  have hunit : b = true → ∀ k, k < p.length → (rd (impQ d p k)).prob = true := fun hb k hk => by
    obtain ⟨u0, u1⟩ := imp_unit hpl.symm hpr (hbm.1 hb) hk
    exact rd_prob u0 u1
  generalize impL d p p.length = L1 at *
  generalize impL C p p.length = L2 at *
  have z1 := ieq_t (show (L1.length : Int) = (p.length : Int) by omega)
  have z2 := ieq_t (show (L2.length : Int) = (p.length : Int) by omega)
  refine yS (oj hn_g2 (oj hn_g5 (oj z1 z2))) ?_
  refine yG (oj hn_g2 (oj hn_g5 (oj z1 z2))) ?_
  refine yN (oj hn_g2 (oj hn_g5 (oj z1 z2))) ?_
  refine yG (oj hn_g2 (oj hn_g5 (oj z1 z2))) ?_
  refine aw_lp (fun k : Nat => [(7, .c (rats true L1)), (9, .c (rats true L2)), (11, .c (.bool b)), (13, .c (.int .i64 k))]) (fun _ => []) (fun k => k ≤ L1.length) (fun k => L1.length - k) 0 (zB (oj hn_g2 (oj hn_g5 (oj z1 z2)))) (List.nil_sublist _) (Nat.zero_le _) ?_
  rintro k hk
  refine yG (oj hn_g2 (oj hn_g5 (oj z1 z2))) ?_
  refine yF (oj hn_g2 (oj hn_g5 (oj z1 z2))) (fun h1=>?_) fun h1=>?_
  · have h1' : k < L1.length := by have := of_decide_eq_true h1; omega
    have h1p : k < p.length := by omega
    have h1q : k < L2.length := by omega
    obtain ⟨g1, g2'⟩ := hget k h1p
    obtain ⟨f1, f2⟩ := hfit k
    have hu := fun hb => hunit hb k h1p
    generalize impQ d p k = X at *
    have r0 : ((0 : Int) != 0) = false := rfl
    have hsg : signQ (X + -X) = 0 := by rw [show X + -X = 0 from by grind]; rfl
    refine yG (oj hn_g2 (oj hn_g5 (oj z1 (oj z2 (oj g1 (oj g2' r0)))))) ?_
    refine aw_dr 22 ty_mixed (by kernel_rfl) ?_
    refine yG (oj hn_g2 (oj hn_g5 (oj z1 (oj z2 (oj g1 (oj g2' r0)))))) ?_
    refine yD (oj hn_g2 (oj hn_g5 (oj z1 (oj z2 (oj g1 (oj g2' r0)))))) (sadd_fa (rd X) (rd (-X)) (rd_wf (fits_mono f1 ?_)) (rd_wf (fits_mono f2 ?_))) ?_
    · decide
    · decide
    rw [rd_q, rd_q]
    refine yG (oj hn_g2 (oj hn_g5 (oj z1 (oj z2 (oj g1 (oj g2' r0)))))) ?_
    refine yD (oj hn_g2 (oj hn_g5 (oj z1 (oj z2 (oj g1 (oj g2' r0)))))) (ssign_fa (rd (X + -X)) (rd_wf (fits_mono (fits_add f1 f2) ?_))) ?_
    · decide
    rw [rd_q, hsg]
    cases b with
    | true =>
      have hp1 := hu rfl
      refine yG (oj hn_g2 (oj hn_g5 (oj z1 (oj z2 (oj g1 (oj g2' (oj r0 hp1))))))) ?_
      refine yD (oj hn_g2 (oj hn_g5 (oj z1 (oj z2 (oj g1 (oj g2' (oj r0 hp1))))))) (sprob_fa (rd X) (rd_wf (fits_mono f1 ?_))) ?_
      · decide
      refine yG (oj hn_g2 (oj hn_g5 (oj z1 (oj z2 (oj g1 (oj g2' (oj r0 hp1))))))) ?_
      refine yN (oj hn_g2 (oj hn_g5 (oj z1 (oj z2 (oj g1 (oj g2' (oj r0 hp1))))))) ?_
      refine yG (oj hn_g2 (oj hn_g5 (oj z1 (oj z2 (oj g1 (oj g2' (oj r0 hp1))))))) ?_
      exact aw_stop ⟨k + 1, by omega, (zB (oj hn_g2 (oj hn_g5 (oj z1 (oj z2 (oj g1 (oj g2' (oj r0 hp1)))))))), List.nil_sublist _, by omega⟩
    | false =>
      refine yG (oj hn_g2 (oj hn_g5 (oj z1 (oj z2 (oj g1 (oj g2' r0)))))) ?_
      refine yN (oj hn_g2 (oj hn_g5 (oj z1 (oj z2 (oj g1 (oj g2' r0)))))) ?_
      refine yG (oj hn_g2 (oj hn_g5 (oj z1 (oj z2 (oj g1 (oj g2' r0)))))) ?_
      exact aw_stop ⟨k + 1, by omega, (zB (oj hn_g2 (oj hn_g5 (oj z1 (oj z2 (oj g1 (oj g2' r0))))))), List.nil_sublist _, by omega⟩
  · refine yG (oj hn_g2 (oj hn_g5 (oj z1 z2))) ?_
    refine yT hC (oj hn_g2 (oj hn_g5 (oj z1 z2))) ?_
    exact .one (.c (.bool _))
end Go.Proofs.YtlpejaefobdajaaGreat
