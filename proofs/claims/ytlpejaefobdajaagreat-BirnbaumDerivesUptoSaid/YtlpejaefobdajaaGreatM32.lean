/- Texts of one proof, laid one behind the other by a program (merge.py): Law7. -/
import Derived.Test.YtlpejaefobdajaaGreatM27
set_option linter.unusedSimpArgs false
set_option linter.unusedVariables false
/- The law BirnbaumDerives. -/
namespace Go.Proofs.YtlpejaefobdajaaGreat
open Go.AI Go.PN
attribute [local irreducible] aw Fa Fh DrK
theorem upd_zero {p : List RD} {b : Nat} (hb : b < p.length) (j : Nat) : ∀ S w u, RepC S w (updF (ratsF p) (b * 3) [.bool false, .nils, .nils] j) u → RepC S w (ratsF (p.set b rd0) j) u := by
  intro S w u h
  rw [← ratsF_upd hb]
  simp only [updF] at h ⊢
  split
  · rename_i e; rw [if_pos e] at h; exact repC_nil h
  · rename_i e
    rw [if_neg e] at h
    split
    · rename_i e2; rw [if_pos e2] at h; exact repC_nil h
    · rename_i e2
      rw [if_neg e2] at h
      split
      · rename_i e3; rw [if_pos e3] at h; exact h
      · rename_i e3; rw [if_neg e3] at h; exact h
set_option maxRecDepth 100000 in
set_option maxHeartbeats 3200000 in
theorem lawDerives_fa (haw : Fa Tryz.prog 14 [] (.c (.bool true))) (d : DG) (p : List RD) (i j : Int) (hw : WordsOk p) (hl : p.length ≤ 1099511627776) (hl1 : d.order.length ≤ 1099511627776) (hl2 : d.nodes.length ≤ 1099511627776) :
    Fa Tryz.prog 5 [.agg (dgc false d), .c (rats false p), .agg [.int .i64 i, .int .i64 j]] (.c (.bool true)) := by
  refine fa_of_body Tryz.func5 rfl rfl (by simp [Tryz.ntmps5]) fun C hC => ?_
  simp only [initS, Nat.reduceAdd]
  refine xG ?_
  refine xB fun g3 hn_g3=>?_
  refine yG hn_g3 ?_
  refine yB hn_g3 fun g5 hn_g5=>?_
  refine yG (oj hn_g3 hn_g5) ?_
  refine yC (oj hn_g3 hn_g5) (haw) ?_
  refine yG (oj hn_g3 hn_g5) ?_
  refine yC (oj hn_g3 hn_g5) (valid42_fa d p hw hl hl1 hl2) ?_
  refine yG (oj hn_g3 hn_g5) ?_
  refine aw_split 23 (zE (oj hn_g3 hn_g5)) (fun hv => ?_) (fun hv => ?_) <;> refine yS (oj hn_g3 hn_g5) ?_
  · refine yG (oj hn_g3 hn_g5) ?_
    refine yP (oj hn_g3 hn_g5) ?_
    refine yG (oj hn_g3 hn_g5) ?_
    refine yC (oj hn_g3 hn_g5) (haw) ?_
    refine yG (oj hn_g3 hn_g5) ?_
    refine yT hC (oj hn_g3 hn_g5) ?_
    exact .one (.c (.bool _))
  refine yG (oj hn_g3 hn_g5) ?_
  refine aw_split 28 (zE (oj hn_g3 hn_g5)) (fun hi0 => ?_) (fun hi0 => ?_) <;> refine yS (oj hn_g3 hn_g5) ?_
  · refine yG (oj hn_g3 hn_g5) ?_
    refine yP (oj hn_g3 hn_g5) ?_
    refine yG (oj hn_g3 hn_g5) ?_
    refine yC (oj hn_g3 hn_g5) (haw) ?_
    refine yG (oj hn_g3 hn_g5) ?_
    refine yT hC (oj hn_g3 hn_g5) ?_
    exact .one (.c (.bool _))
  refine yG (oj hn_g3 hn_g5) ?_
  refine aw_split 35 (zE (oj hn_g3 hn_g5)) (fun hi1 => ?_) (fun hi1 => ?_) <;> refine yS (oj hn_g3 hn_g5) ?_
  · refine yG (oj hn_g3 hn_g5) ?_
    refine yP (oj hn_g3 hn_g5) ?_
    refine yG (oj hn_g3 hn_g5) ?_
    refine yC (oj hn_g3 hn_g5) (haw) ?_
    refine yG (oj hn_g3 hn_g5) ?_
    refine yT hC (oj hn_g3 hn_g5) ?_
    exact .one (.c (.bool _))
  refine yG (oj hn_g3 hn_g5) ?_
  refine aw_split 40 (zE (oj hn_g3 hn_g5)) (fun hj0 => ?_) (fun hj0 => ?_) <;> refine yS (oj hn_g3 hn_g5) ?_
  · refine yG (oj hn_g3 hn_g5) ?_
    refine yP (oj hn_g3 hn_g5) ?_
    refine yG (oj hn_g3 hn_g5) ?_
    refine yC (oj hn_g3 hn_g5) (haw) ?_
    refine yG (oj hn_g3 hn_g5) ?_
    refine yT hC (oj hn_g3 hn_g5) ?_
    exact .one (.c (.bool _))
  refine yG (oj hn_g3 hn_g5) ?_
  refine aw_split 47 (zE (oj hn_g3 hn_g5)) (fun hj1 => ?_) (fun hj1 => ?_) <;> refine yS (oj hn_g3 hn_g5) ?_
  · refine yG (oj hn_g3 hn_g5) ?_
    refine yP (oj hn_g3 hn_g5) ?_
    refine yG (oj hn_g3 hn_g5) ?_
    refine yC (oj hn_g3 hn_g5) (haw) ?_
    refine yG (oj hn_g3 hn_g5) ?_
    refine yT hC (oj hn_g3 hn_g5) ?_
    exact .one (.c (.bool _))
  refine yG (oj hn_g3 hn_g5) ?_
  refine yF (oj hn_g3 hn_g5) (fun hij=>?_) fun hij=>?_
  · refine yG (oj hn_g3 hn_g5) ?_
    refine yC (oj hn_g3 hn_g5) (haw) ?_
    refine yG (oj hn_g3 hn_g5) ?_
    refine yT hC (oj hn_g3 hn_g5) ?_
    exact .one (.c (.bool _))
  obtain ⟨hb, hdp⟩ := valid2_ok (show validB2 d p = true from by simpa using hv)
  have hs := small_of hw hl2 hb
  obtain ⟨ok, hpl, hpr⟩ := dp_ok hdp
  replace hi0 := of_decide_eq_false hi0
  replace hi1 := of_decide_eq_false hi1
  replace hj0 := of_decide_eq_false hj0
  replace hj1 := of_decide_eq_false hj1
  obtain ⟨a, rfl⟩ : ∃ a : Nat, i = a := ⟨i.toNat, by omega⟩
  obtain ⟨b, rfl⟩ : ∃ b : Nat, j = b := ⟨j.toNat, by omega⟩
  have hne : ¬ a = b := by intro h; rw [h] at hij; simp at hij
  have ha : a < p.length := by omega
  have hbl : b < p.length := by omega
  have hs1 := hs.l
  have B1 := birnbaum_fa d (p.set b (rd 1)) (hs.set hdp rd1_wf)
  rw [if_pos (dp_set hdp rd1_prob), dp_set hdp rd1_prob, List.length_set] at B1
  have B2 := birnbaum_fa d (p.set b rd0) (hs.set hdp rd0_wf4)
  rw [if_pos (dp_set hdp rd0_prob), dp_set hdp rd0_prob, List.length_set] at B2
  have J1 := joint_fa d p hs a b
  rw [bcode_in hdp (es := [(a : Int), (b : Int)]) (by simp only [List.mem_cons, List.not_mem_nil, or_false]; rintro x (rfl | rfl) <;> omega), if_pos rfl, Int.toNat_natCast, Int.toNat_natCast] at J1
  unfold jointQ at J1
  rw [if_neg hne] at J1
  have f1 := imp_fits (hs.set hdp (i := b) rd1_wf) (dp_set hdp rd1_prob) a
  have f2 := imp_fits (hs.set hdp (i := b) rd0_wf4) (dp_set hdp rd0_prob) a
  have g1 := impL_get (d := d) (p := p.set b (rd 1)) ha
  have g2 := impL_get (d := d) (p := p.set b rd0) ha
  have n1 := impL_len d (p.set b (rd 1)) p.length
  have n2 := impL_len d (p.set b rd0) p.length
  change Fa Tryz.prog _ _ (.tup [_, .c .nilI]) at B1
  change Fa Tryz.prog _ _ (.tup [_, .c .nilI]) at B2
  change Fa Tryz.prog _ _ (.tup [_, .c .nilI]) at J1
  generalize impQ d (p.set b (rd 1)) a = X1 at *
  generalize impQ d (p.set b rd0) a = X0 at *
  generalize impL d (p.set b (rd 1)) p.length = L1 at *
  generalize impL d (p.set b rd0) p.length = L2 at *
  have e3 : ((L1.length : Int) != (p.length : Int)) = false := by rw [n1]; simp
  have e4 : ((L2.length : Int) != (p.length : Int)) = false := by rw [n2]; simp
  have q1 : (a : Int) < L1.length := by omega
  have q2 : (a : Int) < L2.length := by omega
  have hf : appF (ratsF []) 0 (ratsF p) = ratsF p := by funext j; simp [appF]
  have hD : fits (X1 - X0) 20000 := fits_mono (fits_sub f1 f2) (by decide)
  have S1 := ssub_fa (rd X1) (rd X0) (rd_wf (fits_mono f1 (by decide))) (rd_wf (fits_mono f2 (by decide)))
  rw [rd_q, rd_q] at S1
  have C1 := scmp_fa (rd (X1 - X0)) (rd (X1 - X0)) (rd_wf (fits_mono hD (by decide))) (rd_wf (fits_mono hD (by decide)))
  rw [rd_q, Rat.sub_self, show signQ 0 = 0 from rfl] at C1
  have hp0 : 0 < p.length := by omega
  refine yG (oj hn_g3 hn_g5) ?_
  refine aw_buildSlice (xs := []) (cells := []) rfl rfl rfl (zE (oj hn_g3 hn_g5)) (by refine yS (oj hn_g3 hn_g5) ?_; rfl) rfl (by omega) (by omega) (by simp) rfl fun gE hn_gE => ?_
  refine aw_convR (f' := ratsF []) (fun j hj => absurd hj (by omega)) ?_
  clear hn_gE hn_g5
  refine aw_nd fun hnd => ?_
  simp only [Heap.keys, List.map_cons, List.map_nil] at hnd
  replace hnd := ndP_of hnd
  dsimp only [ndP, neA] at hnd
  refine yS hnd ?_
  refine yG hnd ?_
  refine aw_append (size := 3) (z := [.bool false, .nils, .nils]) rfl rfl rfl (zE hnd) (zE hnd) rfl (by omega) (zE hnd) (zE hnd) (by omega) (zE hnd) .row (fun j hj => ratsF_solid p j hj) hp0 (by unfold maxLen; omega) (by omega) (zE hnd) fun gw hn_gw => ?_
  refine yS hnd ?_
  rw [hf]
  clear hnd hn_gw
  refine aw_nd fun hnd => ?_
  simp only [Heap.keys, List.map_cons, List.map_nil] at hnd
  replace hnd := ndP_of hnd
  dsimp only [ndP, neA] at hnd
  refine yG hnd ?_
  refine aw_buildSlice (xs := []) (cells := []) rfl rfl rfl (zE hnd) (by refine yS hnd ?_; rfl) rfl (by omega) (by omega) (by simp) rfl fun gF hn_gF => ?_
  refine aw_convR (f' := ratsF []) (fun j hj => absurd hj (by omega)) ?_
  clear hnd hn_gF
  refine aw_nd fun hnd => ?_
  simp only [Heap.keys, List.map_cons, List.map_nil] at hnd
  replace hnd := ndP_of hnd
  dsimp only [ndP, neA] at hnd
  refine yS hnd ?_
  refine yG hnd ?_
  refine aw_append (size := 3) (z := [.bool false, .nils, .nils]) rfl rfl rfl (zE hnd) (zE hnd) rfl (by omega) (zE hnd) (zE hnd) (by omega) (zE hnd) .row (fun j hj => ratsF_solid p j hj) hp0 (by unfold maxLen; omega) (by omega) (zE hnd) fun gv hn_gv => ?_
  refine yS hnd ?_
  rw [hf]
  clear hnd hn_gv
  refine aw_nd fun hnd => ?_
  simp only [Heap.keys, List.map_cons, List.map_nil] at hnd
  replace hnd := ndP_of hnd
  dsimp only [ndP, neA] at hnd
  refine yG hnd ?_
  refine aw_cw ([(g5, .cells 28 2 (ofL [.int .i64 a, .int .i64 b]))]) [(0,0),(1,0),(2,0),(3,0),(4,0),(5,0),(7,0),(6,0),(8,0),(9,1),(10,0),(11,2)] ty_mixed (by kernel_rfl) eI ?_
  refine yG hnd ?_
  refine cw_callq rfl (sof_fa 1 (by omega) (by omega)) rfl rfl rfl (fun _ _ => (zL hnd)) ?_
  refine yS hnd ?_
  refine yG hnd ?_
  refine cw_store rfl rfl rfl rfl rfl (zE hnd) (zE hnd) (zE hnd) (zE hnd) (fun _ e => by cases e) rfl rfl (by show b * 3 + 3 ≤ _; omega) (zE hnd) eI ?_ (hm := .inr ⟨rfl, rfl⟩)
  try simp only [AV.cells]
  rw [ratsF_upd hbl]
  refine yS hnd ?_
  refine yG hnd ?_
  refine cw_store (FP' := []) rfl rfl rfl rfl rfl (zE hnd) (zE hnd) (zE hnd) (zE hnd) (fun _ e => by cases e) rfl rfl (by show b * 3 + 3 ≤ _; omega) (zE hnd) has0_nil ?_
  try simp only [AV.cells]
  refine yG hnd ?_
  refine aw_convR (f' := ratsF (p.set b rd0)) (fun j _ => upd_zero hbl j) ?_
  refine yS hnd ?_
  refine yG hnd ?_
  refine aw_callq B1 rfl rfl rfl (by refine yS hnd ?_; exact ⟨.agg (lel_refl _), .c (le_oslr2 (zE hnd) (by rw [List.length_set]))⟩) ?_
  refine yS hnd ?_
  refine yG hnd ?_
  refine aw_callq B2 rfl rfl rfl (by refine yS hnd ?_; exact ⟨.agg (lel_refl _), .c (le_oslr2 (zE hnd) (by rw [List.length_set]))⟩) ?_
  refine yS hnd ?_
  refine yG hnd ?_
  refine yC hnd (J1) ?_
  refine yG hnd ?_
  refine yA hnd fun g13 hn_g13=>?_
  refine yG (oj hnd hn_g13) ?_
  refine yW (oj hnd hn_g13) ?_
  refine yS (oj hnd hn_g13) ?_
  refine yG (oj hnd (oj hn_g13 (oj e3 (oj e4 (oj g1 g2))))) ?_
  refine yN (oj hnd (oj hn_g13 (oj e3 (oj e4 (oj g1 g2))))) ?_
  refine yG (oj hnd (oj hn_g13 (oj e3 (oj e4 (oj g1 g2))))) ?_
  refine aw_dr 14 ty_mixed (by kernel_rfl) ?_
  refine yG (oj hnd (oj hn_g13 (oj e3 (oj e4 (oj g1 g2))))) ?_
  refine yD (oj hnd (oj hn_g13 (oj e3 (oj e4 (oj g1 g2))))) (S1) ?_
  refine yG (oj hnd (oj hn_g13 (oj e3 (oj e4 (oj g1 g2))))) ?_
  refine yD (oj hnd (oj hn_g13 (oj e3 (oj e4 (oj g1 g2))))) (C1) ?_
  refine yG (oj hnd (oj hn_g13 (oj e3 (oj e4 (oj g1 g2))))) ?_
  refine yT hC (oj hnd (oj hn_g13 (oj e3 (oj e4 (oj g1 g2))))) ?_
  exact .one (.c (.bool _))
end Go.Proofs.YtlpejaefobdajaaGreat
