/- Blocks of one proof, laid one behind the other by a program (merge2.py). -/
import Derived.Test.YtcoflhkcpnoaaaaGreatM24
import Derived.Test.YtcoflhkcpnoaaaaGreatM26
set_option linter.unusedSimpArgs false
set_option linter.unusedVariables false
namespace Go.Proofs.YtcoflhkcpnoaaaaGreat
open Go.AI Go.PN
attribute [local irreducible] aw Fa Fh DrK
set_option maxRecDepth 100000 in
set_option maxHeartbeats 3200000 in
theorem Monotone10_fh (d : DG) (h0 : dcode d = 0) (h10 : d.order.length ≤ 10) : Fh Tryz.prog 12 [] [.agg (dgc false d)] (fun x h => h = [] ∧ ∃ b, (b = true ↔ MonoF d.order.length fun s => evalD d.nodes s d.root) ∧ x = .tup [.c (.bool b), .c .nilI]) := by
  have N := cnatural_fh d h0 (by omega)
  have hod : OdOk (natL d.order.length) (placesL (natL d.order.length)) := ⟨natL_perm _, pl_ok (natL_perm _), by rw [natL_len]; omega⟩
  have hol := natL_len d.order.length
  have hp : 2 ^ (d.order.length + 1) ≤ 2048 := Nat.le_trans (Nat.pow_le_pow_right (by omega) (show d.order.length + 1 ≤ 11 by omega)) (by decide)
  have hmn := mono_n10 h10
  refine fh_of_body Tryz.func12 rfl rfl (by simp [Tryz.ntmps12]) fun C hC => ?_
  simp only [initS, Nat.reduceAdd]
  refine xG ?_
  refine xB fun g1 hn_g1=>?_
  refine yG hn_g1 ?_
  refine aw_callh (hc := []) (hr := [(g1, .cells 25 3 (ofL (dgc false d)))]) N rfl rfl rfl (.refl _) (zL hn_g1) ?_
  rintro _ _ ⟨gT, gU, gM, og, ns, mm, r, hs, hr, he, hn, rfl, rfl⟩ _
  generalize hoo : natL d.order.length = o at *
  have M := monotone_fh gT gU gM hod hs (by rw [hol]; omega) hr
  rw [hol] at M
  refine aw_perm List.perm_append_comm ?_
  refine yS hn_g1 ?_
  refine yG hn_g1 ?_
  refine yN hn_g1 ?_
  refine yG hn_g1 ?_
  refine aw_callh (hr := [(g1, .cells 25 3 (ofL (dgc false d)))]) M rfl rfl rfl (List.perm_append_comm (l₁ := [(g1, _)])) (zL hn_g1) ?_
  rintro _ _ ⟨b, og', ns', mm', hb, hs', hl', rfl, rfl⟩ _
  refine yS hn_g1 ?_
  refine yG hn_g1 ?_
  refine aw_rethw (h' := []) rfl (List.nil_sublist _) (fun R hR => ?_)
  simp only [go_sem, hn_g1]
  refine hR _ rfl ?_
  clear hR R
  refine ⟨rfl, b, ?_, rfl⟩
  rw [hb]
  unfold MonoF
  simp only [he]
end Go.Proofs.YtcoflhkcpnoaaaaGreat
