/- Blocks of one proof, laid one behind the other by a program (merge2.py). -/
import Derived.Test.YtcoflhkcpnoaaaaGreatM34
import Derived.Test.YtcoflhkcpnoaaaaGreatM35
set_option linter.unusedSimpArgs false
set_option linter.unusedVariables false
namespace Go.Proofs.YtcoflhkcpnoaaaaGreat
open Go.AI Go.PN
attribute [local irreducible] aw Fa Fh DrK
set_option maxRecDepth 100000 in
set_option maxHeartbeats 6400000 in
theorem lawCOrders_fa (f : FM) (o b : List Int) (hn : f.nodes.length ≤ 1099511627776) (ha : ArgsOk f) (ht0 : -9223372036854775808 ≤ f.top) (ht : f.top ≤ 9223372036854775807) (hol : o.length ≤ 1099511627776) (hbl : b.length ≤ 1099511627776) :
    Fa Tryz.prog 4 [.agg (fmc false f), .c (is false o), .c (is false b)] (.c (.bool true)) := by
  refine fa_of_body Tryz.func4 rfl rfl (by simp [Tryz.ntmps4]) fun C hC => ?_
  simp only [initS, Nat.reduceAdd]
  refine xG ?_
  refine xB fun g3 hn_g3=>?_
  refine yG hn_g3 ?_
  refine yC hn_g3 (awake33_fa) ?_
  refine yG hn_g3 ?_
  refine yC hn_g3 (valid33_fa f o hn ha ht0 ht hol) ?_
  cases hv : valid33 f o
  · refine yS hn_g3 ?_
    refine yG hn_g3 ?_
    refine yP hn_g3 ?_
    refine yG hn_g3 ?_
    refine yC hn_g3 (awake33_fa) ?_
    refine yG hn_g3 ?_
    refine yT hC hn_g3 ?_
    exact .one (.c (.bool _))
  obtain ⟨h100, hk, h10⟩ := valid_of hv
  have ok := fr_ok hk.c
  have v0 := ok.v0
  have n128 := ok.n128
  refine yS hn_g3 ?_
  refine yG hn_g3 ?_
  refine yC hn_g3 (ocheckR_fa b b.length hbl) ?_
  by_cases h1 : ocode b b.length = 0
  · have z1 := ieq_t h1
    by_cases h2 : (b.length : Int) = f.vars
    · have z2 : ((b.length : Int) != f.vars) = false := by rw [h2]; simp
      have hk2 : K33 f b := ⟨hk.c, by rw [← h2]; exact h1, hk.coh⟩
      have ho2 := ocode_len hk.oc
      have hoo : ocode o o.length = 0 := by rw [ho2]; exact hk.oc
      refine yS (oj hn_g3 (oj z1 z2)) ?_
      refine yG (oj hn_g3 (oj z1 z2)) ?_
      refine yN (oj hn_g3 (oj z1 z2)) ?_
      refine yG (oj hn_g3 (oj z1 z2)) ?_
      refine aw_callh (hc := []) (hr := [(g3, .cells 50 3 (ofL (fmc false f)))]) (Cuts_fh f o hk h10 hn ha) rfl rfl rfl (.refl _) (zL (oj hn_g3 (oj z1 z2))) ?_
      rintro _ _ ⟨rfl, l, hcl, hll, hlt, rfl⟩ _
      refine yS (oj hn_g3 (oj z1 z2)) ?_
      refine yG (oj hn_g3 (oj z1 z2)) ?_
      refine aw_callh (hc := []) (hr := [(g3, .cells 50 3 (ofL (fmc false f)))]) (Cuts_fh f b hk2 h10 hn ha) rfl rfl rfl (.refl _) (zL (oj hn_g3 (oj z1 z2))) ?_
      rintro _ _ ⟨rfl, m, hcm, _, _, rfl⟩ _
      obtain rfl : l = m := cut_same hcl hcm
      have hin := ints_fa (zL l) (zL l) (by rw [zL_len]; omega)
      rw [decide_eq_true rfl] at hin
      refine yS (oj hn_g3 (oj z1 z2)) ?_
      refine yG (oj hn_g3 (oj z1 z2)) ?_
      refine aw_callh (hc := []) (hr := [(g3, .cells 50 3 (ofL (fmc false f)))]) (build_fh f hn ha hk.c o hoo (by omega) (by omega)) rfl rfl rfl (.refl _) (zL (oj hn_g3 (oj z1 z2))) ?_
      rintro _ _ ⟨rfl, D, hD, rfl⟩ _
      have hDl : D.order.length = f.vars.toNat := by rw [hD.order]; omega
      have hDf : (fun s => evalD D.nodes s D.root) = fun s => valF f s f.top := funext hD.ev
      refine yS (oj hn_g3 (oj z1 z2)) ?_
      refine yG (oj hn_g3 (oj z1 z2)) ?_
      refine yA (oj hn_g3 (oj z1 z2)) fun g11 hn_g11=>?_
      refine yG (oj hn_g3 (oj z1 (oj z2 hn_g11))) ?_
      refine yW (oj hn_g3 (oj z1 (oj z2 hn_g11))) ?_
      refine yS (oj hn_g3 (oj z1 (oj z2 hn_g11))) ?_
      refine yG (oj hn_g3 (oj z1 (oj z2 hn_g11))) ?_
      refine aw_callh (hc := []) (hr := [(g11, .cells 25 3 (ofL (dgc true D))), (g3, .cells 50 3 (ofL (fmc false f)))]) (Monotone10_fh D hD.code (by omega)) rfl rfl rfl (.refl _) (zL (oj hn_g3 (oj z1 (oj z2 hn_g11)))) ?_
      rintro _ _ ⟨rfl, c, hc, rfl⟩ _
      rw [hDf] at hc
      obtain rfl : c = true := hc.2 (coh_monoF ok hk.coh _)
      refine yS (oj hn_g3 (oj z1 (oj z2 hn_g11))) ?_
      refine yG (oj hn_g3 (oj z1 (oj z2 hn_g11))) ?_
      refine yC (oj hn_g3 (oj z1 (oj z2 hn_g11))) (hin) ?_
      refine yG (oj hn_g3 (oj z1 (oj z2 hn_g11))) ?_
      refine yT hC (oj hn_g3 (oj z1 (oj z2 hn_g11))) ?_
      exact .one (.c (.bool _))
    · have z2 : ((b.length : Int) != f.vars) = true := by simpa using h2
      refine yS (oj hn_g3 (oj z1 z2)) ?_
      refine yG (oj hn_g3 (oj z1 z2)) ?_
      refine yP (oj hn_g3 (oj z1 z2)) ?_
      refine yG (oj hn_g3 (oj z1 z2)) ?_
      refine yC (oj hn_g3 (oj z1 z2)) (awake33_fa) ?_
      refine yG (oj hn_g3 (oj z1 z2)) ?_
      refine yT hC (oj hn_g3 (oj z1 z2)) ?_
      exact .one (.c (.bool _))
  · have z1 := ieq_f h1
    refine yS (oj hn_g3 z1) ?_
    refine yG (oj hn_g3 z1) ?_
    refine yP (oj hn_g3 z1) ?_
    refine yG (oj hn_g3 z1) ?_
    refine yC (oj hn_g3 z1) (awake33_fa) ?_
    refine yG (oj hn_g3 z1) ?_
    refine yT hC (oj hn_g3 z1) ?_
    exact .one (.c (.bool _))
end Go.Proofs.YtcoflhkcpnoaaaaGreat
