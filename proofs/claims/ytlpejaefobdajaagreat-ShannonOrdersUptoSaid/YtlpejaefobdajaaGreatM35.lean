/- Texts of one proof, laid one behind the other by a program (merge.py): Sft, Law11. -/
import Derived.Test.YtlpejaefobdajaaGreatM31
set_option linter.unusedSimpArgs false
set_option linter.unusedVariables false
/- sifting.reorder, Reorder. -/
namespace Go.Proofs.YtlpejaefobdajaaGreat
open Go.AI Go.PN
attribute [local irreducible] aw Fa Fh DrK
theorem od_of' {o : List Int} (h : ocode o o.length = 0) : OdOk o (placesL o) := ⟨(ocode_ok h).1, pl_ok (ocode_ok h).1, (ocode_ok h).2⟩
set_option maxRecDepth 100000 in
set_option maxHeartbeats 3200000 in
theorem reorder_fh (d : DG) (h0 : dcode d = 0) (o : List Int) (ho : ocode o o.length = 0) (hl : o.length = d.order.length) (h12 : o.length ≤ 12) : Fh Tryz.prog 105 [] [.agg (dgc false d), .c (is false o)] (fun x h => h = [] ∧ ∃ D, DOut o (fun s => evalD d.nodes s d.root) D ∧ x = .tup [.agg (dgc true D), .c .nilI]) := by
  have hod := od_of' ho
  have ok := dg_ok h0
  have k1 := ok.n4096
  have hp : 2 ^ (o.length + 1) ≤ 2 ^ 13 := Nat.pow_le_pow_right (by omega) (by omega)
  have hp2 : 2 ^ o.length ≤ 2 ^ 12 := Nat.pow_le_pow_right (by omega) h12
  have hm := Nat.mul_le_mul k1 hp
  have ts0 : TS o none [] [] := ⟨fun _ => rfl, fun i hi => absurd hi (Nat.not_lt_zero _), fun e he => absurd he List.not_mem_nil⟩
  refine fh_of_body Tryz.func105 rfl rfl (by simp [Tryz.ntmps105]) fun C hC => ?_
  simp only [initS, Nat.reduceAdd]
  refine xG ?_
  refine xB fun g2 hn_g2=>?_
  refine yG hn_g2 ?_
  refine yA hn_g2 fun g4 hn_g4=>?_
  refine yG (oj hn_g2 hn_g4) ?_
  refine aw_callh (hc := []) (hr := [(g4, .cells 25 3 (ofL [.nils, .nils, .int .i64 0])), (g2, .cells 25 3 (ofL (dgc false d)))]) (new_fh o hod.perm hod.l24) rfl rfl rfl (.refl _) (zL (oj hn_g2 hn_g4)) ?_
  rintro _ _ ⟨gT, gU, gM, rfl, rfl⟩ hfr
  refine yS (oj hn_g2 hn_g4) ?_
  refine aw_perm List.perm_append_comm ?_
  refine yS (oj hn_g2 hn_g4) ?_
  refine yG (oj hn_g2 hn_g4) ?_
  refine aw_perm (h' := THp gT gU gM none o (placesL o) [] [] ++ [(g4, .cells 25 3 (ofL [.nils, .nils, .int .i64 0])), (g2, .cells 25 3 (ofL (dgc false d)))]) (List.perm_append_comm (l₁ := [(g4, _), (g2, _)])) ?_
  refine aw_callh (translate_fh gT gU gM d ok hod hl ts0 (by simp only [List.length_nil]; omega)) rfl rfl rfl (.refl _) (zL (oj hn_g2 hn_g4)) ?_
  rintro _ _ ⟨og1, ns1, mm1, r1, s1, l1, p1, f1, rfl, rfl⟩ _
  have n1 := l1.len
  simp only [List.length_nil] at n1
  refine yS (oj hn_g2 hn_g4) ?_
  refine yG (oj hn_g2 hn_g4) ?_
  refine aw_callh (small_fh gT gU gM hod s1 (by omega) p1 (most := 4096) (by omega)) rfl rfl rfl (.refl _) (zL (oj hn_g2 hn_g4)) ?_
  rintro _ _ ⟨rfl, rfl⟩ _
  refine yS (oj hn_g2 hn_g4) ?_
  refine yG (oj hn_g2 hn_g4) ?_
  refine yN (oj hn_g2 hn_g4) ?_
  refine yG (oj hn_g2 hn_g4) ?_
  refine aw_callh (export_fh gT gU gM hod s1 (by omega) p1) rfl rfl rfl (.refl _) (zL (oj hn_g2 hn_g4)) ?_
  rintro _ _ ⟨rs, os, y, hex, rfl, rfl⟩ _
  refine aw_perm List.perm_append_comm ?_
  refine yS (oj hn_g2 hn_g4) ?_
  refine yG (oj hn_g2 hn_g4) ?_
  refine yW (oj hn_g2 hn_g4) ?_
  refine yS (oj hn_g2 hn_g4) ?_
  refine yG (oj hn_g2 hn_g4) ?_
  refine aw_rethw (h' := []) rfl (List.nil_sublist _) (fun R hR => ?_)
  simp only [go_sem, hn_g2, hn_g4]
  refine hR _ rfl ?_
  clear hR R
  have D := dout_of ho h12 hod.mem s1.tab p1 hex
  exact ⟨rfl, _, ⟨D.order, D.code, fun s => by rw [D.ev s, f1 s]⟩, rfl⟩
set_option maxRecDepth 100000 in
set_option maxHeartbeats 3200000 in
theorem Reorder_fh (d : DG) (h0 : dcode d = 0) (o : List Int) (ho : ocode o o.length = 0) (hl : o.length = d.order.length) (h12 : o.length ≤ 12) : Fh Tryz.prog 48 [] [.agg (dgc false d), .c (is false o)] (fun x h => h = [] ∧ ∃ D, DOut o (fun s => evalD d.nodes s d.root) D ∧ x = .tup [.agg (dgc true D), .c .nilI]) := by
  have ok := dg_ok h0
  have k1 := ok.n4096
  have z0 := ieq_t h0
  have z1 := ieq_t ho
  have z2 := ieq_t (show (o.length : Int) = (d.order.length : Int) by omega)
  refine fh_of_body Tryz.func48 rfl rfl (by simp [Tryz.ntmps48]) fun C hC => ?_
  simp only [initS, Nat.reduceAdd]
  refine yG (oj z0 (oj z1 z2)) ?_
  refine yB (oj z0 (oj z1 z2)) fun g2 hn_g2=>?_
  refine yG (oj z0 (oj z1 (oj z2 hn_g2))) ?_
  refine yA (oj z0 (oj z1 (oj z2 hn_g2))) fun g4 hn_g4=>?_
  refine yG (oj z0 (oj z1 (oj z2 (oj hn_g2 hn_g4)))) ?_
  refine aw_callq (dcheck_fa d (by omega) (by omega)) rfl rfl rfl (zL (oj z0 (oj z1 (oj z2 (oj hn_g2 hn_g4))))) ?_
  refine yS (oj z0 (oj z1 (oj z2 (oj hn_g2 hn_g4)))) ?_
  refine yG (oj z0 (oj z1 (oj z2 (oj hn_g2 hn_g4)))) ?_
  refine yN (oj z0 (oj z1 (oj z2 (oj hn_g2 hn_g4)))) ?_
  refine yG (oj z0 (oj z1 (oj z2 (oj hn_g2 hn_g4)))) ?_
  refine aw_callq (ocheck_fa o o.length (by omega)) rfl rfl rfl (zL (oj z0 (oj z1 (oj z2 (oj hn_g2 hn_g4))))) ?_
  refine yS (oj z0 (oj z1 (oj z2 (oj hn_g2 hn_g4)))) ?_
  refine yG (oj z0 (oj z1 (oj z2 (oj hn_g2 hn_g4)))) ?_
  refine yN (oj z0 (oj z1 (oj z2 (oj hn_g2 hn_g4)))) ?_
  refine yG (oj z0 (oj z1 (oj z2 (oj hn_g2 hn_g4)))) ?_
  refine yN (oj z0 (oj z1 (oj z2 (oj hn_g2 hn_g4)))) ?_
  refine yG (oj z0 (oj z1 (oj z2 (oj hn_g2 hn_g4)))) ?_
  refine aw_callh (hc := []) (hr := [(g4, .cells 25 3 (ofL [.nils, .nils, .int .i64 0])), (g2, .cells 25 3 (ofL (dgc false d)))]) (reorder_fh d h0 o ho hl h12) rfl rfl rfl (.refl _) (zL (oj z0 (oj z1 (oj z2 (oj hn_g2 hn_g4))))) ?_
  rintro _ _ ⟨rfl, D, hD, rfl⟩ _
  rw [List.nil_append]
  refine yS (oj z0 (oj z1 (oj z2 (oj hn_g2 hn_g4)))) ?_
  refine yG (oj z0 (oj z1 (oj z2 (oj hn_g2 hn_g4)))) ?_
  refine yW (oj z0 (oj z1 (oj z2 (oj hn_g2 hn_g4)))) ?_
  refine yS (oj z0 (oj z1 (oj z2 (oj hn_g2 hn_g4)))) ?_
  refine yG (oj z0 (oj z1 (oj z2 (oj hn_g2 hn_g4)))) ?_
  refine aw_rethw (h' := []) rfl (List.nil_sublist _) (fun R hR => ?_)
  simp only [go_sem, z0, z1, z2, hn_g2, hn_g4]
  refine hR _ rfl ?_
  clear hR R
  exact ⟨rfl, D, hD, rfl⟩
end Go.Proofs.YtlpejaefobdajaaGreat

/- The law ShannonOrders. -/
namespace Go.Proofs.YtlpejaefobdajaaGreat
open Go.AI Go.PN
attribute [local irreducible] aw Fa Fh DrK
theorem small_new {d e : DG} {p : List RD} (hs : Small d p) (h0 : dpcode d p = 0) (he : dcode e = 0) (ho : e.order.length = d.order.length) : Small e p ∧ dpcode e p = 0 := by
  have o6 := hs.o6 h0
  have n := (dg_ok he).n4096
  refine ⟨⟨hs.w, hs.l, by rw [ho]; exact hs.o, by omega, fun _ => by rw [ho]; exact o6⟩, ?_⟩
  unfold dpcode at h0 ⊢
  rw [if_neg (by simpa using he), ho]
  split at h0
  · rename_i h; exact absurd h0 h
  · exact h0
set_option maxRecDepth 100000 in
set_option maxHeartbeats 3200000 in
theorem lawOrders_fa (haw : Fa Tryz.prog 37 [] (.c (.bool true))) (d : DG) (p : List RD) (o : List Int) (hw : WordsOk p) (hl : p.length ≤ 1099511627776) (hol : o.length ≤ 1099511627776) (hl1 : d.order.length ≤ 1099511627776) (hl2 : d.nodes.length ≤ 1099511627776) :
    Fa Tryz.prog 9 [.agg (dgc false d), .c (rats false p), .c (is false o)] (.c (.bool true)) := by
  refine fa_of_body Tryz.func9 rfl rfl (by simp [Tryz.ntmps9]) fun C hC => ?_
  simp only [initS, Nat.reduceAdd]
  refine xG ?_
  refine xB fun g3 hn_g3=>?_
  refine yG hn_g3 ?_
  refine yC hn_g3 (haw) ?_
  refine yG hn_g3 ?_
  refine yC hn_g3 (valid37_fa d p hw hl hl1 hl2) ?_
  refine yG hn_g3 ?_
  refine aw_split 25 (zE hn_g3) (fun hv => ?_) (fun hv => ?_) <;> refine yS hn_g3 ?_
  · refine yG hn_g3 ?_
    refine yP hn_g3 ?_
    refine yG hn_g3 ?_
    refine yC hn_g3 (haw) ?_
    refine yG hn_g3 ?_
    refine yT hC hn_g3 ?_
    exact .one (.c (.bool _))
  refine yG hn_g3 ?_
  refine aw_split 33 (zE hn_g3) (fun hn => ?_) (fun hn => ?_) <;> refine yS hn_g3 ?_
  · refine yG hn_g3 ?_
    refine yP hn_g3 ?_
    refine yG hn_g3 ?_
    refine yC hn_g3 (haw) ?_
    refine yG hn_g3 ?_
    refine yT hC hn_g3 ?_
    exact .one (.c (.bool _))
  refine yG hn_g3 ?_
  refine yC hn_g3 (ocheckR_fa o o.length hol) ?_
  refine yG hn_g3 ?_
  refine yF hn_g3 (fun ho=>?_) fun ho=>?_
  · refine yG hn_g3 ?_
    refine yC hn_g3 (haw) ?_
    refine yG hn_g3 ?_
    refine yT hC hn_g3 ?_
    exact .one (.c (.bool _))
  obtain ⟨hb, hdp⟩ := valid_ok (show validB d p = true from by simpa using hv)
  have hlen : o.length = d.order.length := by
    have : ((o.length : Int) == (d.order.length : Int)) = true := by simpa [bne] using hn
    have := eq_of_beq this; omega
  have ho' : ocode o o.length = 0 := by simpa using ho
  have hs := small_of hw hl2 hb
  obtain ⟨ok, hpl, hpr⟩ := dp_ok hdp
  have h6 := hs.o6 hdp
  have hd0 : dcode d = 0 := by
    unfold dpcode at hdp
    split at hdp
    · rename_i h; exact absurd hdp h
    · rename_i h; simpa using h
  refine yG hn_g3 ?_
  refine aw_callh (hc := []) (hr := [(g3, .cells 25 3 (ofL (dgc false d)))]) (Reorder_fh d hd0 o ho' hlen (by omega)) rfl rfl rfl (.refl _) (zL hn_g3) ?_
  rintro _ _ ⟨rfl, C, hC1, rfl⟩ _
  obtain ⟨hsc, hdpc⟩ := small_new hs hdp hC1.code (by rw [hC1.order]; exact hlen)
  rw [List.nil_append]
  refine yS hn_g3 ?_
  refine yG hn_g3 ?_
  refine yA hn_g3 fun g7 hn_g7=>?_
  refine yG (oj hn_g3 hn_g7) ?_
  refine yW (oj hn_g3 hn_g7) ?_
  refine yS (oj hn_g3 hn_g7) ?_
  refine yG (oj hn_g3 hn_g7) ?_
  refine aw_callh (hc := []) (hr := [(g7, .cells 25 3 (ofL (dgc true C))), (g3, .cells 25 3 (ofL (dgc false d)))]) (anot_fh d hd0 (by omega)) rfl rfl rfl (.refl _) (zL (oj hn_g3 hn_g7)) ?_
  rintro _ _ ⟨rfl, D, hD1, rfl⟩ _
  obtain ⟨hsd, hdpd⟩ := small_like hs hdp hD1.code hD1.order
  rw [List.nil_append]
  refine yS (oj hn_g3 hn_g7) ?_
  refine yG (oj hn_g3 hn_g7) ?_
  refine yA (oj hn_g3 hn_g7) fun g9 hn_g9=>?_
  refine yG (oj hn_g3 (oj hn_g7 hn_g9)) ?_
  refine yW (oj hn_g3 (oj hn_g7 hn_g9)) ?_
  refine yS (oj hn_g3 (oj hn_g7 hn_g9)) ?_
  have e1 : prS C p = prS d p := prS_congr (by rw [hC1.order, hlen]; exact hpl.symm) hpl.symm hC1.ev
  have e2 : prS D p = 1 - prS d p := prS_not hpl.symm (by rw [hD1.order]; exact hpl.symm) hD1.ev
  have Pa := sprob_ok hs hdp
  have Pb := sprob_ok hsc hdpc
  have Pc := sprob_ok hsd hdpd
  have fa := pr_fits hs hdp
  have fc := pr_fits hsd hdpd
  obtain ⟨u0, u1⟩ := prS_unit hpl.symm hpr
  rw [e1] at Pb
  rw [e2] at Pc fc
  have hpb : (rd (prS d p)).prob = true := rd_prob u0 u1
  generalize prS d p = A at *
  refine yG (oj hn_g3 (oj hn_g7 hn_g9)) ?_
  refine yC (oj hn_g3 (oj hn_g7 hn_g9)) (Pa) ?_
  refine yG (oj hn_g3 (oj hn_g7 hn_g9)) ?_
  refine yA (oj hn_g3 (oj hn_g7 hn_g9)) fun g11 hn_g11=>?_
  refine yG (oj hn_g3 (oj hn_g7 (oj hn_g9 hn_g11))) ?_
  refine yW (oj hn_g3 (oj hn_g7 (oj hn_g9 hn_g11))) ?_
  refine yS (oj hn_g3 (oj hn_g7 (oj hn_g9 hn_g11))) ?_
  refine yG (oj hn_g3 (oj hn_g7 (oj hn_g9 hn_g11))) ?_
  refine yC (oj hn_g3 (oj hn_g7 (oj hn_g9 hn_g11))) (Pb) ?_
  refine yG (oj hn_g3 (oj hn_g7 (oj hn_g9 hn_g11))) ?_
  refine yA (oj hn_g3 (oj hn_g7 (oj hn_g9 hn_g11))) fun g13 hn_g13=>?_
  refine yG (oj hn_g3 (oj hn_g7 (oj hn_g9 (oj hn_g11 hn_g13)))) ?_
  refine yW (oj hn_g3 (oj hn_g7 (oj hn_g9 (oj hn_g11 hn_g13)))) ?_
  refine yS (oj hn_g3 (oj hn_g7 (oj hn_g9 (oj hn_g11 hn_g13)))) ?_
  refine yG (oj hn_g3 (oj hn_g7 (oj hn_g9 (oj hn_g11 hn_g13)))) ?_
  refine yC (oj hn_g3 (oj hn_g7 (oj hn_g9 (oj hn_g11 hn_g13)))) (Pc) ?_
  refine yG (oj hn_g3 (oj hn_g7 (oj hn_g9 (oj hn_g11 hn_g13)))) ?_
  refine yA (oj hn_g3 (oj hn_g7 (oj hn_g9 (oj hn_g11 hn_g13)))) fun g15 hn_g15=>?_
  refine yG (oj hn_g3 (oj hn_g7 (oj hn_g9 (oj hn_g11 (oj hn_g13 hn_g15))))) ?_
  refine yW (oj hn_g3 (oj hn_g7 (oj hn_g9 (oj hn_g11 (oj hn_g13 hn_g15))))) ?_
  refine yS (oj hn_g3 (oj hn_g7 (oj hn_g9 (oj hn_g11 (oj hn_g13 hn_g15))))) ?_
  refine yG (oj hn_g3 (oj hn_g7 (oj hn_g9 (oj hn_g11 (oj hn_g13 hn_g15))))) ?_
  refine yN (oj hn_g3 (oj hn_g7 (oj hn_g9 (oj hn_g11 (oj hn_g13 hn_g15))))) ?_
  have r0 : ((0 : Int) == 0) = true := rfl
  refine yG (oj hn_g3 (oj hn_g7 (oj hn_g9 (oj hn_g11 (oj hn_g13 (oj hn_g15 (oj r0 hpb))))))) ?_
  refine yC (oj hn_g3 (oj hn_g7 (oj hn_g9 (oj hn_g11 (oj hn_g13 (oj hn_g15 (oj r0 hpb))))))) (scmp_fa (rd A) (rd A) (rd_wf (fits_mono fa ?_)) (rd_wf (fits_mono fa ?_))) ?_
  · omega
  · omega
  rw [signQ_0 (x := (rd A).q - (rd A).q) (by grind)]
  refine yG (oj hn_g3 (oj hn_g7 (oj hn_g9 (oj hn_g11 (oj hn_g13 (oj hn_g15 (oj r0 hpb))))))) ?_
  refine yC (oj hn_g3 (oj hn_g7 (oj hn_g9 (oj hn_g11 (oj hn_g13 (oj hn_g15 (oj r0 hpb))))))) (sprob_fa (rd A) (rd_wf (fits_mono fa ?_))) ?_
  · omega
  refine yG (oj hn_g3 (oj hn_g7 (oj hn_g9 (oj hn_g11 (oj hn_g13 (oj hn_g15 (oj r0 hpb))))))) ?_
  refine yC (oj hn_g3 (oj hn_g7 (oj hn_g9 (oj hn_g11 (oj hn_g13 (oj hn_g15 (oj r0 hpb))))))) (sadd_fa (rd A) (rd (1 - A)) (rd_wf (fits_mono fa ?_)) (rd_wf (fits_mono fc ?_))) ?_
  · omega
  · omega
  rw [rd_q, rd_q]
  refine yG (oj hn_g3 (oj hn_g7 (oj hn_g9 (oj hn_g11 (oj hn_g13 (oj hn_g15 (oj r0 hpb))))))) ?_
  refine yC (oj hn_g3 (oj hn_g7 (oj hn_g9 (oj hn_g11 (oj hn_g13 (oj hn_g15 (oj r0 hpb))))))) (sof_fa 1 ?_ ?_) ?_
  · omega
  · omega
  refine yG (oj hn_g3 (oj hn_g7 (oj hn_g9 (oj hn_g11 (oj hn_g13 (oj hn_g15 (oj r0 hpb))))))) ?_
  refine yC (oj hn_g3 (oj hn_g7 (oj hn_g9 (oj hn_g11 (oj hn_g13 (oj hn_g15 (oj r0 hpb))))))) (scmp_fa (rd (A + (1 - A))) (rd ((1 : Int) : Rat)) (rd_wf (fits_mono (fits_add fa fc) ?_)) one_wf) ?_
  · omega
  rw [rd_q, rd_q, signQ_0 (x := A + (1 - A) - ((1 : Int) : Rat)) (by rw [show ((1 : Int) : Rat) = 1 from rfl]; grind)]
  refine yG (oj hn_g3 (oj hn_g7 (oj hn_g9 (oj hn_g11 (oj hn_g13 (oj hn_g15 (oj r0 hpb))))))) ?_
  refine yT hC (oj hn_g3 (oj hn_g7 (oj hn_g9 (oj hn_g11 (oj hn_g13 (oj hn_g15 (oj r0 hpb))))))) ?_
  exact .one (.c (.bool _))
end Go.Proofs.YtlpejaefobdajaaGreat
