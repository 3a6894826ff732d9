/- Blocks of one proof, laid one behind the other by a program (merge2.py). -/
import Derived.Test.YtcoflhkcpnoaaaaGreatM34
import Derived.Test.YtcoflhkcpnoaaaaGreatM38
set_option linter.unusedSimpArgs false
set_option linter.unusedVariables false
namespace Go.Proofs.YtcoflhkcpnoaaaaGreat
open Go.AI Go.PN
attribute [local irreducible] aw Fa Fh DrK
set_option maxRecDepth 100000 in
set_option maxHeartbeats 1600000 in
theorem cmono_err (d : DG) (h0 : ¬ dcode d = 0) (hl : d.order.length ≤ 1099511627776) (hl2 : d.nodes.length ≤ 1099511627776) : Fh Tryz.prog 12 [] [.agg (dgc false d)] (fun x h => x = .tup [.c (.bool false), .c (errA (dcode d))] ∧ h = []) := by
  have z0 := ieq_f h0
  refine fh_of_body Tryz.func12 rfl rfl (by simp [Tryz.ntmps12]) fun C hC => ?_
  simp only [initS, Nat.reduceAdd]
  refine yG z0 ?_
  refine yB z0 fun g1 hn_g1=>?_
  refine yG (oj z0 hn_g1) ?_
  refine aw_callh (hc := []) (hr := [(g1, .cells 25 3 (ofL (dgc false d)))]) (cnat_err d h0 hl hl2) rfl rfl rfl (.refl _) (zL (oj z0 hn_g1)) ?_
  rintro _ _ ⟨rfl, rfl⟩ _
  refine yS (oj z0 hn_g1) ?_
  refine yG (oj z0 hn_g1) ?_
  refine yP (oj z0 hn_g1) ?_
  refine yG (oj z0 hn_g1) ?_
  refine aw_rethw (h' := []) rfl (List.nil_sublist _) (fun R hR => ?_)
  simp only [go_sem, z0, hn_g1]
  refine hR _ rfl ?_
  clear hR R
  exact ⟨rfl, rfl⟩
end Go.Proofs.YtcoflhkcpnoaaaaGreat
namespace Go.Proofs.YtcoflhkcpnoaaaaGreat
open Go.AI Go.PN
attribute [local irreducible] aw Fa Fh DrK
set_option maxRecDepth 100000 in
set_option maxHeartbeats 1600000 in
theorem Profile_err (d : DG) (h0 : ¬ dcode d = 0) (hl : d.order.length ≤ 1099511627776) (hl2 : d.nodes.length ≤ 1099511627776) : Fh Tryz.prog 14 [] [.agg (dgc false d)] (fun x h => x = .tup [.c .nils, .c (errA (dcode d))] ∧ h = []) := by
  have z0 := ieq_f h0
  refine fh_of_body Tryz.func14 rfl rfl (by simp [Tryz.ntmps14]) fun C hC => ?_
  simp only [initS, Nat.reduceAdd]
  refine yG z0 ?_
  refine yB z0 fun g1 hn_g1=>?_
  refine yG (oj z0 hn_g1) ?_
  refine aw_callh (hc := []) (hr := [(g1, .cells 25 3 (ofL (dgc false d)))]) (csol_err d h0 hl hl2) rfl rfl rfl (.refl _) (zL (oj z0 hn_g1)) ?_
  rintro _ _ ⟨rfl, rfl⟩ _
  refine yS (oj z0 hn_g1) ?_
  refine yG (oj z0 hn_g1) ?_
  refine yA (oj z0 hn_g1) fun g4 hn_g4=>?_
  refine yG (oj z0 (oj hn_g1 hn_g4)) ?_
  refine yW (oj z0 (oj hn_g1 hn_g4)) ?_
  refine yS (oj z0 (oj hn_g1 hn_g4)) ?_
  refine yG (oj z0 (oj hn_g1 hn_g4)) ?_
  refine yP (oj z0 (oj hn_g1 hn_g4)) ?_
  refine yG (oj z0 (oj hn_g1 hn_g4)) ?_
  refine aw_rethw (h' := []) rfl (List.nil_sublist _) (fun R hR => ?_)
  simp only [go_sem, z0, hn_g1, hn_g4]
  refine hR _ rfl ?_
  clear hR R
  exact ⟨rfl, rfl⟩
end Go.Proofs.YtcoflhkcpnoaaaaGreat
namespace Go.Proofs.YtcoflhkcpnoaaaaGreat
open Go.AI Go.PN
attribute [local irreducible] aw Fa Fh DrK
set_option maxHeartbeats 1600000 in
theorem monR_fa (tb : List Bool) (hl : tb.length ≤ 1000000) : Fa Tryz.prog 17 [.c (bs false tb)] (.c (.bool (monT tb))) := by
  refine fa_of_body Tryz.func17 rfl rfl (by simp [Tryz.ntmps17]) fun C hC => ?_
  simp only [initS, Nat.reduceAdd]
  refine xG ?_
  refine aw_lp (fun s : Nat => [(0, .c (bs false tb)), (3, .c (.int .i64 s))]) (fun _ => []) (fun s => s ≤ tb.length ∧ ∀ j, j < s → ∀ u, u < tb.length → badT tb j u = false) (fun s => tb.length - s) 0 eB zZ ⟨Nat.zero_le _, fun j hj => by omega⟩ ?_
  rintro s ⟨hs, hf⟩
  refine xG ?_
  refine xF (fun h1=>?_) fun h1=>?_
  · have hin : s < tb.length := by have := of_decide_eq_true h1; omega
    refine xG ?_
    refine aw_lp (fun u : Nat => [(0, .c (bs false tb)), (3, .c (.int .i64 s)), (4, .c (.int .i64 u))]) (fun _ => []) (fun u => u ≤ tb.length ∧ ∀ v, v < u → badT tb s v = false) (fun u => tb.length - u) 0 eB zZ ⟨Nat.zero_le _, fun j hj => by omega⟩ ?_
    rintro u ⟨hu, hg⟩
    refine xG ?_
    refine xF (fun h2=>?_) fun h2=>?_
    · have hiu : u < tb.length := by have := of_decide_eq_true h2; omega
      have e1 : (andNotZ .i64 (s : Int) (u : Int) == 0) = subT s u := andNot_subT _ _ (by omega) (by omega)
      have nx : badT tb s u = false → ∀ v, v < u + 1 → badT tb s v = false := fun hb v hv => by
        by_cases e : v = u
        · subst e; exact hb
        · exact hg v (by omega)
      refine yG e1 ?_
      refine aw_split 21 (zE e1) (fun hm => ?_) (fun hm => ?_) <;> refine yS e1 ?_
      · refine yG e1 ?_
        refine aw_split 27 (zE e1) (fun hn => ?_) (fun hn => ?_) <;> refine yS e1 ?_
        · refine yG e1 ?_
          cases hw : tb.getD u false
          · refine yS e1 ?_
            refine yG e1 ?_
            refine yP e1 ?_
            refine yG e1 ?_
            rw [monT_f hin hiu (by unfold badT; rw [hm, hn, hw]; rfl)]
            refine yT hC e1 ?_
            exact .one (.c (.bool _))
          · refine yS e1 ?_
            refine yG e1 ?_
            refine yN e1 ?_
            refine yG e1 ?_
            exact aw_stop ⟨u + 1, by omega, (zB e1), zZ, by omega, nx (by unfold badT; rw [hm, hn, hw]; rfl)⟩
        · refine yG e1 ?_
          refine yN e1 ?_
          refine yG e1 ?_
          exact aw_stop ⟨u + 1, by omega, (zB e1), zZ, by omega, nx (by unfold badT; rw [hm, hn]; rfl)⟩
      · refine yG e1 ?_
        refine yN e1 ?_
        refine yG e1 ?_
        exact aw_stop ⟨u + 1, by omega, (zB e1), zZ, by omega, nx (by unfold badT; rw [hm]; rfl)⟩
    · have hiu : u = tb.length := by have := of_decide_eq_false h2; omega
      subst hiu
      refine xG ?_
      refine aw_stop ⟨s + 1, by omega, eB, zZ, by omega, fun j hj => ?_⟩
      by_cases e : j = s
      · subst e; exact hg
      · exact hf j (by omega)
  · have hin : s = tb.length := by have := of_decide_eq_false h1; omega
    subst hin
    refine xG ?_
    rw [monT_t hf]
    refine xT hC ?_
    exact .one (.c (.bool _))
end Go.Proofs.YtcoflhkcpnoaaaaGreat
namespace Go.Proofs.YtcoflhkcpnoaaaaGreat
open Go.AI Go.PN
attribute [local irreducible] aw Fa Fh DrK
set_option maxHeartbeats 1600000 in
def large33 (d : DG) : Bool := (decide ((d.nodes.length : Int) > 300) && decide ((d.nodes.length : Int) ≤ 4096)) || ((decide ((d.order.length : Int) > 8) && decide (dcode d = 0)) || decide ((d.order.length : Int) > 100))
set_option maxHeartbeats 1600000 in
theorem large33_fa (d : DG) (hl1 : d.order.length ≤ 1099511627776) (hl2 : d.nodes.length ≤ 1099511627776) : Fa Tryz.prog 11 [.agg (dgc false d)] (.c (.bool (large33 d))) := by
  unfold large33
  refine fa_of_body Tryz.func11 rfl rfl (by simp [Tryz.ntmps11]) fun C hC => ?_
  simp only [initS, Nat.reduceAdd]
  refine xG ?_
  refine xB fun g1 hn_g1=>?_
  refine yG hn_g1 ?_
  refine aw_split 7 (zE hn_g1) (fun h1 => ?_) (fun h1 => ?_) <;> refine yS hn_g1 ?_
  · refine yG hn_g1 ?_
    refine aw_split 13 (zE hn_g1) (fun h2 => ?_) (fun h2 => ?_) <;> refine yS hn_g1 ?_
    · iterate 4 refine yO hn_g1 ?_
      refine aw_skipU (zE hn_g1) rfl ?_
      refine yS hn_g1 ?_
      iterate 3 (refine aw_skipN rfl rfl (zE hn_g1) rfl ?_; refine yS hn_g1 ?_)
      refine yG hn_g1 ?_
      refine yT hC hn_g1 ?_
      exact .one (.c (ler_bool (by rw [h1, h2]; simp)))
    · refine yG hn_g1 ?_
      refine aw_split 18 (zE hn_g1) (fun h3 => ?_) (fun h3 => ?_) <;> refine yS hn_g1 ?_
      · refine yG hn_g1 ?_
        refine yC hn_g1 (dcheckR_fa d hl1 hl2) ?_
        refine yG hn_g1 ?_
        by_cases h4 : dcode d = 0
        · have z4 := ieq_t h4
          refine yS (oj hn_g1 z4) ?_
          refine yG (oj hn_g1 z4) ?_
          refine yT hC (oj hn_g1 z4) ?_
          exact .one (.c (ler_bool (by rw [h1, h2, h3]; simp)))
        · have z4 := ieq_f h4
          refine yS (oj hn_g1 z4) ?_
          refine yG (oj hn_g1 z4) ?_
          refine yT hC (oj hn_g1 z4) ?_
          exact .one (.c (ler_bool (by rw [h1, h2, h3]; simp)))
      · refine yG hn_g1 ?_
        refine yT hC hn_g1 ?_
        exact .one (.c (ler_bool (by rw [h1, h2, h3]; simp)))
  · refine yG hn_g1 ?_
    refine aw_split 18 (zE hn_g1) (fun h3 => ?_) (fun h3 => ?_) <;> refine yS hn_g1 ?_
    · refine yG hn_g1 ?_
      refine yC hn_g1 (dcheckR_fa d hl1 hl2) ?_
      refine yG hn_g1 ?_
      by_cases h4 : dcode d = 0
      · have z4 := ieq_t h4
        refine yS (oj hn_g1 z4) ?_
        refine yG (oj hn_g1 z4) ?_
        refine yT hC (oj hn_g1 z4) ?_
        exact .one (.c (ler_bool (by rw [h1, h3]; simp)))
      · have z4 := ieq_f h4
        refine yS (oj hn_g1 z4) ?_
        refine yG (oj hn_g1 z4) ?_
        refine yT hC (oj hn_g1 z4) ?_
        exact .one (.c (ler_bool (by rw [h1, h3]; simp)))
    · refine yG hn_g1 ?_
      refine yT hC hn_g1 ?_
      exact .one (.c (ler_bool (by rw [h1, h3]; simp)))
end Go.Proofs.YtcoflhkcpnoaaaaGreat
namespace Go.Proofs.YtcoflhkcpnoaaaaGreat
open Go.AI Go.PN
attribute [local irreducible] aw Fa Fh DrK
theorem tab_mono {d : DG} (ok : DgOk d) : monT (tabL d) = true ↔ MonoF d.order.length (fun s => evalD d.nodes s d.root) :=
  mon_tab fun _ _ h => eval_bits ok h
theorem make_of {n : Nat} {F : Nat → Bool} {z : ZD} (hz : ZOut n F z) (hn : n ≤ 24) {l : List Nat} (hl : ∀ s, F s = true ↔ s ∈ l) (hm : ∀ x ∈ l, x < 16777216) (hll : l.length ≤ 1000000) :
    Fa Tryz.prog 20 [.c (is false (zL l))] (.agg (zdc true z)) := by
  have := makeR_fa l hm hll
  rwa [addZ_out hz hn hl] at this
set_option maxRecDepth 100000 in
set_option maxHeartbeats 6400000 in
theorem lawCSolves_fa (d : DG) (hl1 : d.order.length ≤ 1099511627776) (hl2 : d.nodes.length ≤ 1099511627776) : Fa Tryz.prog 3 [.agg (dgc false d)] (.c (.bool true)) := by
  refine fa_of_body Tryz.func3 rfl rfl (by simp [Tryz.ntmps3]) fun C hC => ?_
  simp only [initS, Nat.reduceAdd]
  apply aw_seq
  apply aw_region
  refine xB fun g1 hn_g1=>?_
  refine yH hn_g1 ?_
  apply aw_seq
  refine aw_cut (fun _ : Unit => [(1, .c (.optr g1 0))]) (fun _ => [(g1, .cells 25 3 (ofL (dgc false d)))]) (fun _ => large33 d = false) ?_ ?_
  · refine yG hn_g1 ?_
    refine yC hn_g1 (awake33_fa) ?_
    refine yG hn_g1 ?_
    refine yC hn_g1 (large33_fa d hl1 hl2) ?_
    refine yG hn_g1 ?_
    refine yF hn_g1 (fun hb=>?_) fun hb=>?_
    · refine yG hn_g1 ?_
      refine yC hn_g1 (awake33_fa) ?_
      refine yG hn_g1 ?_
      refine yT hC hn_g1 ?_
      exact .one (.c (.bool _))
    · refine yG hn_g1 ?_
      exact aw_stop ⟨(), (zB hn_g1), zZ, hb⟩
  rintro _ hlg
  by_cases h0 : dcode d = 0
  · have z0 := ieq_t h0
    have ok := dg_ok h0
    have h8 : d.order.length ≤ 8 := by
      refine Nat.le_of_not_lt fun hh => ?_
      unfold large33 at hlg
      rw [decide_eq_true (show (d.order.length : Int) > 8 by omega), decide_eq_true h0] at hlg
      simp at hlg
    have hp : 2 ^ d.order.length ≤ 2 ^ 8 := Nat.pow_le_pow_right (by omega) h8
    have hp2 : (2 : Nat) ^ 8 = 256 := rfl
    have htl : (tabL d).length = 2 ^ d.order.length := by unfold tabL; simp
    have hmt := tab_mono ok
    have htb := table15_fa d d.order.length (by omega) ok.ns ok.r0 ok.r1 (by have := ok.n4096; omega) (by omega)
    have q0 : ((0 : Int) == 0) = true := rfl
    have q1 : (((0 : Nat) : Int) == 0) = true := rfl
    have q7 : ((7 : Int) == 7) = true := rfl
    have qf : (false != false) = false := rfl
    have qt : (true != true) = false := rfl
    refine yG (oj hn_g1 (oj z0 (oj q0 (oj q1 (oj q7 (oj qf qt)))))) ?_
    refine aw_callh (hc := []) (hr := [(g1, .cells 25 3 (ofL (dgc false d)))]) (Monotone10_fh d h0 (by omega)) rfl rfl rfl (.refl _) (zL (oj hn_g1 (oj z0 (oj q0 (oj q1 (oj q7 (oj qf qt))))))) ?_
    rintro _ _ ⟨rfl, b, hb, rfl⟩ _
    refine yS (oj hn_g1 (oj z0 (oj q0 (oj q1 (oj q7 (oj qf qt)))))) ?_
    refine yG (oj hn_g1 (oj z0 (oj q0 (oj q1 (oj q7 (oj qf qt)))))) ?_
    refine aw_callh (hc := []) (hr := [(g1, .cells 25 3 (ofL (dgc false d)))]) (csol_fh d h0 (by omega)) rfl rfl rfl (.refl _) (zL (oj hn_g1 (oj z0 (oj q0 (oj q1 (oj q7 (oj qf qt))))))) ?_
    rintro _ _ ⟨rfl, ⟨hnm, rfl⟩ | ⟨hm, z, ⟨F, hz, hF, hzn⟩, rfl⟩⟩ _
    · have hbf : b = false := by cases b with
        | false => rfl
        | true => exact absurd (hb.1 rfl) hnm
      subst hbf
      have hmf : monT (tabL d) = false := by cases hh : monT (tabL d) with
        | false => rfl
        | true => exact absurd (hmt.1 hh) hnm
      refine yS (oj hn_g1 (oj z0 (oj q0 (oj q1 (oj q7 (oj qf qt)))))) ?_
      refine yG (oj hn_g1 (oj z0 (oj q0 (oj q1 (oj q7 (oj qf qt)))))) ?_
      refine yA (oj hn_g1 (oj z0 (oj q0 (oj q1 (oj q7 (oj qf qt)))))) fun g5 hn_g5=>?_
      refine yG (oj hn_g1 (oj z0 (oj q0 (oj q1 (oj q7 (oj qf (oj qt hn_g5))))))) ?_
      refine yW (oj hn_g1 (oj z0 (oj q0 (oj q1 (oj q7 (oj qf (oj qt hn_g5))))))) ?_
      refine yS (oj hn_g1 (oj z0 (oj q0 (oj q1 (oj q7 (oj qf (oj qt hn_g5))))))) ?_
      refine yG (oj hn_g1 (oj z0 (oj q0 (oj q1 (oj q7 (oj qf (oj qt hn_g5))))))) ?_
      refine aw_callh (hc := []) (hr := [(g5, .cells 33 2 (ofL [.nils, .int .i64 0])), (g1, .cells 25 3 (ofL (dgc false d)))]) (Profile_fh d h0 (by omega)) rfl rfl rfl (.refl _) (zL (oj hn_g1 (oj z0 (oj q0 (oj q1 (oj q7 (oj qf (oj qt hn_g5)))))))) ?_
      rintro _ _ ⟨rfl, ⟨_, rfl⟩ | ⟨hm2, _⟩⟩ _
      · refine yS (oj hn_g1 (oj z0 (oj q0 (oj q1 (oj q7 (oj qf (oj qt hn_g5))))))) ?_
        refine yG (oj hn_g1 (oj z0 (oj q0 (oj q1 (oj q7 (oj qf (oj qt hn_g5))))))) ?_
        refine yC (oj hn_g1 (oj z0 (oj q0 (oj q1 (oj q7 (oj qf (oj qt hn_g5))))))) (dcheckR_fa d hl1 hl2) ?_
        refine yG (oj hn_g1 (oj z0 (oj q0 (oj q1 (oj q7 (oj qf (oj qt hn_g5))))))) ?_
        refine yP (oj hn_g1 (oj z0 (oj q0 (oj q1 (oj q7 (oj qf (oj qt hn_g5))))))) ?_
        refine yG (oj hn_g1 (oj z0 (oj q0 (oj q1 (oj q7 (oj qf (oj qt hn_g5))))))) ?_
        refine yC (oj hn_g1 (oj z0 (oj q0 (oj q1 (oj q7 (oj qf (oj qt hn_g5))))))) (htb) ?_
        refine yG (oj hn_g1 (oj z0 (oj q0 (oj q1 (oj q7 (oj qf (oj qt hn_g5))))))) ?_
        refine yC (oj hn_g1 (oj z0 (oj q0 (oj q1 (oj q7 (oj qf (oj qt hn_g5))))))) (monR_fa (tabL d) ?_) ?_
        · omega
        rw [hmf]
        refine yS (oj hn_g1 (oj z0 (oj q0 (oj q1 (oj q7 (oj qf (oj qt hn_g5))))))) ?_
        refine yG (oj hn_g1 (oj z0 (oj q0 (oj q1 (oj q7 (oj qf (oj qt hn_g5))))))) ?_
        refine yN (oj hn_g1 (oj z0 (oj q0 (oj q1 (oj q7 (oj qf (oj qt hn_g5))))))) ?_
        refine yG (oj hn_g1 (oj z0 (oj q0 (oj q1 (oj q7 (oj qf (oj qt hn_g5))))))) ?_
        refine yN (oj hn_g1 (oj z0 (oj q0 (oj q1 (oj q7 (oj qf (oj qt hn_g5))))))) ?_
        refine yG (oj hn_g1 (oj z0 (oj q0 (oj q1 (oj q7 (oj qf (oj qt hn_g5))))))) ?_
        refine aw_callq (sameR_fa ⟨[], 0⟩ ⟨[], 0⟩ (by simp) (by simp)) rfl rfl rfl ⟨.agg ⟨.nils, .refl _, trivial⟩, .agg ⟨.nils, .refl _, trivial⟩, trivial⟩ ?_
        rw [show sameZ ⟨[], 0⟩ ⟨[], 0⟩ = true from rfl]
        refine yS (oj hn_g1 (oj z0 (oj q0 (oj q1 (oj q7 (oj qf (oj qt hn_g5))))))) ?_
        refine yG (oj hn_g1 (oj z0 (oj q0 (oj q1 (oj q7 (oj qf (oj qt hn_g5))))))) ?_
        refine yC (oj hn_g1 (oj z0 (oj q0 (oj q1 (oj q7 (oj qf (oj qt hn_g5))))))) (num_fa 7) ?_
        refine yG (oj hn_g1 (oj z0 (oj q0 (oj q1 (oj q7 (oj qf (oj qt hn_g5))))))) ?_
        refine yC (oj hn_g1 (oj z0 (oj q0 (oj q1 (oj q7 (oj qf (oj qt hn_g5))))))) (num_fa 7) ?_
        refine yG (oj hn_g1 (oj z0 (oj q0 (oj q1 (oj q7 (oj qf (oj qt hn_g5))))))) ?_
        refine yT hC (oj hn_g1 (oj z0 (oj q0 (oj q1 (oj q7 (oj qf (oj qt hn_g5))))))) ?_
        exact .one (.c (.bool _))
      · exact absurd hm2 hnm
    · obtain rfl : b = true := hb.2 hm
      have hmf : monT (tabL d) = true := hmt.2 hm
      have hL : sortN (solN (tabL d) (2 ^ d.order.length)) = sortN (setsZ z.nodes z.root 0) := sol_is (out_cut hz hF) (out_lt hz)
      have hsr := solR_fa (tabL d) (by omega)
      rw [htl, hL] at hsr
      refine yS (oj hn_g1 (oj z0 (oj q0 (oj q1 (oj q7 (oj qf qt)))))) ?_
      refine yG (oj hn_g1 (oj z0 (oj q0 (oj q1 (oj q7 (oj qf qt)))))) ?_
      refine yA (oj hn_g1 (oj z0 (oj q0 (oj q1 (oj q7 (oj qf qt)))))) fun g5 hn_g5=>?_
      refine yG (oj hn_g1 (oj z0 (oj q0 (oj q1 (oj q7 (oj qf (oj qt hn_g5))))))) ?_
      refine yW (oj hn_g1 (oj z0 (oj q0 (oj q1 (oj q7 (oj qf (oj qt hn_g5))))))) ?_
      refine yS (oj hn_g1 (oj z0 (oj q0 (oj q1 (oj q7 (oj qf (oj qt hn_g5))))))) ?_
      refine yG (oj hn_g1 (oj z0 (oj q0 (oj q1 (oj q7 (oj qf (oj qt hn_g5))))))) ?_
      refine aw_callh (hc := []) (hr := [(g5, .cells 33 2 (ofL (zdc true z))), (g1, .cells 25 3 (ofL (dgc false d)))]) (Profile_fh d h0 (by omega)) rfl rfl rfl (.refl _) (zL (oj hn_g1 (oj z0 (oj q0 (oj q1 (oj q7 (oj qf (oj qt hn_g5)))))))) ?_
      rintro _ _ ⟨rfl, ⟨hnm, _⟩ | ⟨_, l, hcl, hl, hlt, rfl⟩⟩ _
      · exact absurd hm hnm
      · have hll : sortN (setsZ z.nodes z.root 0) = l := srt_ext (sort_srt _) hcl.1 fun s => by rw [out_mem hz, hF, hcl.2]
        rw [hll] at hsr
        have hmk := make_of hz (by omega) (l := l) (fun s => by rw [hF, hcl.2]) (fun x hx => lt24 (by omega) (hlt x hx)) (by omega)
        have hpr := profR_fa l d.order.length (by omega) (by omega) fun x hx => ⟨lt24 (by omega) (hlt x hx), pop_le (hlt x hx)⟩
        have hin := ints_fa (profN l d.order.length) (profN l d.order.length) (by rw [profN_len]; omega)
        rw [decide_eq_true rfl] at hin
        have hsm := sameR_fa z z (by omega) (by omega)
        rw [show sameZ z z = true from by unfold sameZ; simp] at hsm
        refine yS (oj hn_g1 (oj z0 (oj q0 (oj q1 (oj q7 (oj qf (oj qt hn_g5))))))) ?_
        refine yG (oj hn_g1 (oj z0 (oj q0 (oj q1 (oj q7 (oj qf (oj qt hn_g5))))))) ?_
        refine yC (oj hn_g1 (oj z0 (oj q0 (oj q1 (oj q7 (oj qf (oj qt hn_g5))))))) (dcheckR_fa d hl1 hl2) ?_
        refine yG (oj hn_g1 (oj z0 (oj q0 (oj q1 (oj q7 (oj qf (oj qt hn_g5))))))) ?_
        refine yP (oj hn_g1 (oj z0 (oj q0 (oj q1 (oj q7 (oj qf (oj qt hn_g5))))))) ?_
        refine yG (oj hn_g1 (oj z0 (oj q0 (oj q1 (oj q7 (oj qf (oj qt hn_g5))))))) ?_
        refine yC (oj hn_g1 (oj z0 (oj q0 (oj q1 (oj q7 (oj qf (oj qt hn_g5))))))) (htb) ?_
        refine yG (oj hn_g1 (oj z0 (oj q0 (oj q1 (oj q7 (oj qf (oj qt hn_g5))))))) ?_
        refine yC (oj hn_g1 (oj z0 (oj q0 (oj q1 (oj q7 (oj qf (oj qt hn_g5))))))) (monR_fa (tabL d) ?_) ?_
        · omega
        rw [hmf]
        refine yS (oj hn_g1 (oj z0 (oj q0 (oj q1 (oj q7 (oj qf (oj qt hn_g5))))))) ?_
        refine yG (oj hn_g1 (oj z0 (oj q0 (oj q1 (oj q7 (oj qf (oj qt hn_g5))))))) ?_
        refine yN (oj hn_g1 (oj z0 (oj q0 (oj q1 (oj q7 (oj qf (oj qt hn_g5))))))) ?_
        refine yG (oj hn_g1 (oj z0 (oj q0 (oj q1 (oj q7 (oj qf (oj qt hn_g5))))))) ?_
        refine yP (oj hn_g1 (oj z0 (oj q0 (oj q1 (oj q7 (oj qf (oj qt hn_g5))))))) ?_
        refine yG (oj hn_g1 (oj z0 (oj q0 (oj q1 (oj q7 (oj qf (oj qt hn_g5))))))) ?_
        refine yC (oj hn_g1 (oj z0 (oj q0 (oj q1 (oj q7 (oj qf (oj qt hn_g5))))))) (hsr) ?_
        refine yG (oj hn_g1 (oj z0 (oj q0 (oj q1 (oj q7 (oj qf (oj qt hn_g5))))))) ?_
        refine aw_dr 21 ty_mixed (by kernel_rfl) ?_
        refine yG (oj hn_g1 (oj z0 (oj q0 (oj q1 (oj q7 (oj qf (oj qt hn_g5))))))) ?_
        refine yD (oj hn_g1 (oj z0 (oj q0 (oj q1 (oj q7 (oj qf (oj qt hn_g5))))))) (hmk) ?_
        refine yG (oj hn_g1 (oj z0 (oj q0 (oj q1 (oj q7 (oj qf (oj qt hn_g5))))))) ?_
        refine yD (oj hn_g1 (oj z0 (oj q0 (oj q1 (oj q7 (oj qf (oj qt hn_g5))))))) (hsm) ?_
        refine yG (oj hn_g1 (oj z0 (oj q0 (oj q1 (oj q7 (oj qf (oj qt hn_g5))))))) ?_
        refine yD (oj hn_g1 (oj z0 (oj q0 (oj q1 (oj q7 (oj qf (oj qt hn_g5))))))) (hpr) ?_
        refine yG (oj hn_g1 (oj z0 (oj q0 (oj q1 (oj q7 (oj qf (oj qt hn_g5))))))) ?_
        refine yD (oj hn_g1 (oj z0 (oj q0 (oj q1 (oj q7 (oj qf (oj qt hn_g5))))))) (hin) ?_
        refine yG (oj hn_g1 (oj z0 (oj q0 (oj q1 (oj q7 (oj qf (oj qt hn_g5))))))) ?_
        refine yT hC (oj hn_g1 (oj z0 (oj q0 (oj q1 (oj q7 (oj qf (oj qt hn_g5))))))) ?_
        exact .one (.c (.bool _))
  · have z0 := ieq_f h0
    have hne : (dcode d != dcode d) = false := by simp
    have heq : (dcode d == dcode d) = true := by simp
    have q0 : ((0 : Int) == 0) = true := rfl
    have q1 : (((0 : Nat) : Int) == 0) = true := rfl
    refine yG (oj hn_g1 (oj z0 (oj hne (oj heq (oj q0 q1))))) ?_
    refine aw_callh (hc := []) (hr := [(g1, .cells 25 3 (ofL (dgc false d)))]) (cmono_err d h0 hl1 hl2) rfl rfl rfl (.refl _) (zL (oj hn_g1 (oj z0 (oj hne (oj heq (oj q0 q1)))))) ?_
    rintro _ _ ⟨rfl, rfl⟩ _
    refine yS (oj hn_g1 (oj z0 (oj hne (oj heq (oj q0 q1))))) ?_
    refine yG (oj hn_g1 (oj z0 (oj hne (oj heq (oj q0 q1))))) ?_
    refine aw_callh (hc := []) (hr := [(g1, .cells 25 3 (ofL (dgc false d)))]) (csol_err d h0 hl1 hl2) rfl rfl rfl (.refl _) (zL (oj hn_g1 (oj z0 (oj hne (oj heq (oj q0 q1)))))) ?_
    rintro _ _ ⟨rfl, rfl⟩ _
    refine yS (oj hn_g1 (oj z0 (oj hne (oj heq (oj q0 q1))))) ?_
    refine yG (oj hn_g1 (oj z0 (oj hne (oj heq (oj q0 q1))))) ?_
    refine yA (oj hn_g1 (oj z0 (oj hne (oj heq (oj q0 q1))))) fun g5 hn_g5=>?_
    refine yG (oj hn_g1 (oj z0 (oj hne (oj heq (oj q0 (oj q1 hn_g5)))))) ?_
    refine yW (oj hn_g1 (oj z0 (oj hne (oj heq (oj q0 (oj q1 hn_g5)))))) ?_
    refine yS (oj hn_g1 (oj z0 (oj hne (oj heq (oj q0 (oj q1 hn_g5)))))) ?_
    refine yG (oj hn_g1 (oj z0 (oj hne (oj heq (oj q0 (oj q1 hn_g5)))))) ?_
    refine aw_callh (hc := []) (hr := [(g5, .cells 33 2 (ofL [.nils, .int .i64 0])), (g1, .cells 25 3 (ofL (dgc false d)))]) (Profile_err d h0 hl1 hl2) rfl rfl rfl (.refl _) (zL (oj hn_g1 (oj z0 (oj hne (oj heq (oj q0 (oj q1 hn_g5))))))) ?_
    rintro _ _ ⟨rfl, rfl⟩ _
    refine yS (oj hn_g1 (oj z0 (oj hne (oj heq (oj q0 (oj q1 hn_g5)))))) ?_
    refine yG (oj hn_g1 (oj z0 (oj hne (oj heq (oj q0 (oj q1 hn_g5)))))) ?_
    refine yC (oj hn_g1 (oj z0 (oj hne (oj heq (oj q0 (oj q1 hn_g5)))))) (dcheckR_fa d hl1 hl2) ?_
    refine yG (oj hn_g1 (oj z0 (oj hne (oj heq (oj q0 (oj q1 hn_g5)))))) ?_
    refine yN (oj hn_g1 (oj z0 (oj hne (oj heq (oj q0 (oj q1 hn_g5)))))) ?_
    refine yG (oj hn_g1 (oj z0 (oj hne (oj heq (oj q0 (oj q1 hn_g5)))))) ?_
    refine yC (oj hn_g1 (oj z0 (oj hne (oj heq (oj q0 (oj q1 hn_g5)))))) (num_fa (dcode d)) ?_
    refine yG (oj hn_g1 (oj z0 (oj hne (oj heq (oj q0 (oj q1 hn_g5)))))) ?_
    refine yN (oj hn_g1 (oj z0 (oj hne (oj heq (oj q0 (oj q1 hn_g5)))))) ?_
    refine yG (oj hn_g1 (oj z0 (oj hne (oj heq (oj q0 (oj q1 hn_g5)))))) ?_
    refine aw_callq (sameR_fa ⟨[], 0⟩ ⟨[], 0⟩ (by simp) (by simp)) rfl rfl rfl ⟨.agg ⟨.nils, .refl _, trivial⟩, .agg ⟨.nils, .refl _, trivial⟩, trivial⟩ ?_
    rw [show sameZ ⟨[], 0⟩ ⟨[], 0⟩ = true from rfl]
    refine yS (oj hn_g1 (oj z0 (oj hne (oj heq (oj q0 (oj q1 hn_g5)))))) ?_
    refine yG (oj hn_g1 (oj z0 (oj hne (oj heq (oj q0 (oj q1 hn_g5)))))) ?_
    refine yC (oj hn_g1 (oj z0 (oj hne (oj heq (oj q0 (oj q1 hn_g5)))))) (num_fa (dcode d)) ?_
    refine yG (oj hn_g1 (oj z0 (oj hne (oj heq (oj q0 (oj q1 hn_g5)))))) ?_
    refine yC (oj hn_g1 (oj z0 (oj hne (oj heq (oj q0 (oj q1 hn_g5)))))) (num_fa (dcode d)) ?_
    refine yG (oj hn_g1 (oj z0 (oj hne (oj heq (oj q0 (oj q1 hn_g5)))))) ?_
    refine yT hC (oj hn_g1 (oj z0 (oj hne (oj heq (oj q0 (oj q1 hn_g5)))))) ?_
    exact .one (.c (.bool _))
end Go.Proofs.YtcoflhkcpnoaaaaGreat
