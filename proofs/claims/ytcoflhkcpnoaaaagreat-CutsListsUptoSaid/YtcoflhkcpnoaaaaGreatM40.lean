/- Blocks of one proof, laid one behind the other by a program (merge2.py). -/
import Derived.Test.YtcoflhkcpnoaaaaGreatM31
import Derived.Test.YtcoflhkcpnoaaaaGreatM33
set_option linter.unusedSimpArgs false
set_option linter.unusedVariables false
namespace Go.Proofs.YtcoflhkcpnoaaaaGreat
open Go.AI Go.PN
attribute [local irreducible] aw Fa Fh DrK
set_option maxHeartbeats 1600000 in
theorem upToR_fa (l : List Nat) (k : Int) (hl : l.length ≤ 68719476736) (hm : ∀ x ∈ l, x < 16777216) : Fa Tryz.prog 35 [.c (is false (zL l)), .c (.int .i64 k)] (.c (is true (zL (upToN l k)))) := by
  have hzl := zL_len l
  refine fa_of_body Tryz.func35 rfl rfl (by simp [Tryz.ntmps35]) fun C hC => ?_
  simp only [initS, Nat.reduceAdd]
  refine xG ?_
  refine aw_lp (fun x : Option Nat × Nat => [(0, .c (is false (zL l))), (1, .c (.int .i64 k)), (5, .c (gs x.1 1 (upToN (l.take x.2) k).length)), (6, .c (.int .i64 x.2))]) (fun x => [] ++ gh x.1 3 (upToN (l.take x.2) k).length (isF (zL (upToN (l.take x.2) k)))) (fun x => (x.1 = none → (upToN (l.take x.2) k).length = 0) ∧ x.2 ≤ l.length) (fun x => l.length - x.2) (none, 0) eB zZ ⟨fun _ => rfl, Nat.zero_le _⟩ ?_
  rintro ⟨og, i⟩ ⟨hog, hi⟩
  dsimp only at hog hi ⊢
  refine yG hzl ?_
  refine yF hzl (fun h1=>?_) fun h1=>?_
  · have hin : i < l.length := by have := of_decide_eq_true h1; omega
    have hx : l.getD i 0 < 16777216 := hm _ (by rw [List.getD_eq_getElem?_getD, List.getElem?_eq_getElem hin]; exact List.getElem_mem _)
    have e1 := zL_get l i
    have hstep : upToN (l.take (i + 1)) k = if (popN (l.getD i 0) : Int) ≤ k then upToN (l.take i) k ++ [l.getD i 0] else upToN (l.take i) k := by
      unfold upToN
      rw [ltake hin, List.filter_append]
      by_cases h : (popN (l.getD i 0) : Int) ≤ k
      · rw [if_pos h, List.filter_cons_of_pos (by rw [decide_eq_true h])]; rfl
      · rw [if_neg h, List.filter_cons_of_neg (by rw [decide_eq_false h]; simp)]; simp
    have hle : (upToN (l.take i) k).length ≤ i := Nat.le_trans (List.length_filter_le _ _) (by rw [List.length_take]; omega)
    refine yG (oj hzl e1) ?_
    refine yC (oj hzl e1) (bitsR_fa (l.getD i 0) hx) ?_
    refine yG (oj hzl e1) ?_
    refine yF (oj hzl e1) (fun h2=>?_) fun h2=>?_
    · have h2' := of_decide_eq_true h2
      rw [if_pos h2'] at hstep
      refine yG (oj hzl e1) ?_
      refine aw_push (pre := []) rfl rfl rfl rfl rfl rfl rfl (zE (oj hzl e1)) (zE (oj hzl e1)) (by rfl) (by omega) (by omega) (zE (oj hzl e1)) (by omega) (by exact hog) (zE (oj hzl e1)) (by rfl) (by rfl) (by first | rfl | simp only [Nat.mul_one, List.nil_append, List.cons_append] <;> rfl) (by unfold maxLen; omega) (by omega) (by exact is_zpush rfl _) fun g hn_g => ?_
      replace hn_g := Heap.ne_of hn_g
      first | dsimp only [Heap.ne, gh] at hn_g | dsimp only [Heap.ne] at hn_g | skip
      refine yS (oj hzl (oj e1 hn_g)) ?_
      refine yG (oj hzl (oj e1 hn_g)) ?_
      refine aw_stop ⟨(some g, i + 1), by dsimp only; omega, by dsimp only; rw [hstep, List.length_append, List.length_singleton]; exact (zB (oj hzl (oj e1 hn_g))), by dsimp only; rw [hstep, List.length_append, List.length_singleton]; exact zZ, some_ne, by dsimp only; omega⟩
    · have h2' := of_decide_eq_false h2
      rw [if_neg h2'] at hstep
      refine yG (oj hzl e1) ?_
      refine aw_stop ⟨(og, i + 1), by dsimp only; omega, by dsimp only; rw [hstep]; exact (zB (oj hzl e1)), by dsimp only; rw [hstep]; exact zZ, by dsimp only; rw [hstep]; exact hog, by dsimp only; omega⟩
  · have hin : i = l.length := by have := of_decide_eq_false h1; omega
    subst hin
    rw [List.take_length] at hog ⊢
    refine yG hzl ?_
    refine yT hC hzl ?_
    exact .one (.c (ler_gsi (pre := []) hog (fun _ _ => by simp [Heap.keys]) (zL_len _)))
end Go.Proofs.YtcoflhkcpnoaaaaGreat
namespace Go.Proofs.YtcoflhkcpnoaaaaGreat
open Go.AI Go.PN
attribute [local irreducible] aw Fa Fh DrK
set_option maxRecDepth 100000 in
set_option maxHeartbeats 3200000 in
theorem csolve_err (f : FM) (o : List Int) (hc : kcode33 f o ≠ 0) (hn : f.nodes.length ≤ 1099511627776) (ha : ArgsOk f) (ht0 : -9223372036854775808 ≤ f.top) (ht : f.top ≤ 9223372036854775807) (hol : o.length ≤ 1099511627776) :
    Fh Tryz.prog 56 [] [.agg (fmc false f), .c (is false o)] (fun x h => x = .tup [.agg [.nils, .int .i64 0], .c (errA (kcode33 f o))] ∧ h = []) := by
  refine fh_of_body Tryz.func56 rfl rfl (by simp [Tryz.ntmps56]) fun C hC => ?_
  simp only [initS, Nat.reduceAdd]
  refine xG ?_
  refine xB fun g2 hn_g2=>?_
  refine yG hn_g2 ?_
  refine yA hn_g2 fun g4 hn_g4=>?_
  refine yG (oj hn_g2 hn_g4) ?_
  refine yC (oj hn_g2 hn_g4) (fcheck_fa f hn ha ht0 ht) ?_
  by_cases h1 : fcode f = 0
  · have z1 := ieq_t h1
    refine yG (oj hn_g2 (oj hn_g4 z1)) ?_
    refine yN (oj hn_g2 (oj hn_g4 z1)) ?_
    refine yG (oj hn_g2 (oj hn_g4 z1)) ?_
    refine yC (oj hn_g2 (oj hn_g4 z1)) (ocheck_fa o f.vars hol) ?_
    by_cases h2 : ocode o f.vars = 0
    · have z2 := ieq_t h2
      refine yG (oj hn_g2 (oj hn_g4 (oj z1 z2))) ?_
      refine yN (oj hn_g2 (oj hn_g4 (oj z1 z2))) ?_
      refine yG (oj hn_g2 (oj hn_g4 (oj z1 z2))) ?_
      refine yC (oj hn_g2 (oj hn_g4 (oj z1 z2))) (csyntax_fa f hn ha h1) ?_
      have h3 : cohTo f f.nodes.length = false := by
        cases hh : cohTo f f.nodes.length with
        | false => rfl
        | true => exact absurd (by unfold kcode33; rw [if_neg (fun h => h h1), if_neg (fun h => h h2), hh]; rfl) hc
      have e : kcode33 f o = 7 := by unfold kcode33; rw [if_neg (fun h => h h1), if_neg (fun h => h h2), h3]; rfl
      rw [h3, e]
      refine yS (oj hn_g2 (oj hn_g4 (oj z1 z2))) ?_
      refine yG (oj hn_g2 (oj hn_g4 (oj z1 z2))) ?_
      refine yN (oj hn_g2 (oj hn_g4 (oj z1 z2))) ?_
      refine yG (oj hn_g2 (oj hn_g4 (oj z1 z2))) ?_
      refine yP (oj hn_g2 (oj hn_g4 (oj z1 z2))) ?_
      refine yG (oj hn_g2 (oj hn_g4 (oj z1 z2))) ?_
      refine yW (oj hn_g2 (oj hn_g4 (oj z1 z2))) ?_
      refine yS (oj hn_g2 (oj hn_g4 (oj z1 z2))) ?_
      refine yG (oj hn_g2 (oj hn_g4 (oj z1 z2))) ?_
      refine aw_rethw (h' := []) rfl (List.nil_sublist _) (fun R hR => ?_)
      simp only [go_sem, hn_g2, hn_g4, z1, z2]
      refine hR _ rfl ?_
      clear hR R
      exact ⟨rfl, rfl⟩
    · have z2 := ieq_f h2
      have e : kcode33 f o = ocode o f.vars := by unfold kcode33; rw [if_neg (fun h => h h1), if_pos h2]
      rw [e]
      refine yG (oj hn_g2 (oj hn_g4 (oj z1 z2))) ?_
      refine yP (oj hn_g2 (oj hn_g4 (oj z1 z2))) ?_
      refine yG (oj hn_g2 (oj hn_g4 (oj z1 z2))) ?_
      refine yW (oj hn_g2 (oj hn_g4 (oj z1 z2))) ?_
      refine yS (oj hn_g2 (oj hn_g4 (oj z1 z2))) ?_
      refine yG (oj hn_g2 (oj hn_g4 (oj z1 z2))) ?_
      refine aw_rethw (h' := []) rfl (List.nil_sublist _) (fun R hR => ?_)
      simp only [go_sem, hn_g2, hn_g4, z1, z2]
      refine hR _ rfl ?_
      clear hR R
      exact ⟨rfl, rfl⟩
  · have z1 := ieq_f h1
    have e : kcode33 f o = fcode f := by unfold kcode33; rw [if_pos h1]
    rw [e]
    refine yG (oj hn_g2 (oj hn_g4 z1)) ?_
    refine yP (oj hn_g2 (oj hn_g4 z1)) ?_
    refine yG (oj hn_g2 (oj hn_g4 z1)) ?_
    refine yW (oj hn_g2 (oj hn_g4 z1)) ?_
    refine yS (oj hn_g2 (oj hn_g4 z1)) ?_
    refine yG (oj hn_g2 (oj hn_g4 z1)) ?_
    refine aw_rethw (h' := []) rfl (List.nil_sublist _) (fun R hR => ?_)
    simp only [go_sem, hn_g2, hn_g4, z1]
    refine hR _ rfl ?_
    clear hR R
    exact ⟨rfl, rfl⟩
end Go.Proofs.YtcoflhkcpnoaaaaGreat
namespace Go.Proofs.YtcoflhkcpnoaaaaGreat
open Go.AI Go.PN
attribute [local irreducible] aw Fa Fh DrK
set_option maxRecDepth 100000 in
set_option maxHeartbeats 1600000 in
theorem Cuts_err (f : FM) (o : List Int) (hc : kcode33 f o ≠ 0) (hn : f.nodes.length ≤ 1099511627776) (ha : ArgsOk f) (ht0 : -9223372036854775808 ≤ f.top) (ht : f.top ≤ 9223372036854775807) (hol : o.length ≤ 1099511627776) :
    Fh Tryz.prog 26 [] [.agg (fmc false f), .c (is false o)] (fun x h => x = .tup [.c .nils, .c (errA (kcode33 f o))] ∧ h = []) := by
  have z0 := ieq_f hc
  refine fh_of_body Tryz.func26 rfl rfl (by simp [Tryz.ntmps26]) fun C hC => ?_
  simp only [initS, Nat.reduceAdd]
  refine yG z0 ?_
  refine yB z0 fun g2 hn_g2=>?_
  refine yG (oj z0 hn_g2) ?_
  refine aw_callh (hc := []) (hr := [(g2, .cells 50 3 (ofL (fmc false f)))]) (csolve_err f o hc hn ha ht0 ht hol) rfl rfl rfl (.refl _) (zL (oj z0 hn_g2)) ?_
  rintro _ _ ⟨rfl, rfl⟩ _
  refine yS (oj z0 hn_g2) ?_
  refine yG (oj z0 hn_g2) ?_
  refine yA (oj z0 hn_g2) fun g6 hn_g6=>?_
  refine yG (oj z0 (oj hn_g2 hn_g6)) ?_
  refine yW (oj z0 (oj hn_g2 hn_g6)) ?_
  refine yS (oj z0 (oj hn_g2 hn_g6)) ?_
  refine yG (oj z0 (oj hn_g2 hn_g6)) ?_
  refine yP (oj z0 (oj hn_g2 hn_g6)) ?_
  refine yG (oj z0 (oj hn_g2 hn_g6)) ?_
  refine aw_rethw (h' := []) rfl (List.nil_sublist _) (fun R hR => ?_)
  simp only [go_sem, z0, hn_g2, hn_g6]
  refine hR _ rfl ?_
  clear hR R
  exact ⟨rfl, rfl⟩
set_option maxRecDepth 100000 in
set_option maxHeartbeats 1600000 in
theorem UpToC_err (f : FM) (o : List Int) (k : Int) (hc : kcode33 f o ≠ 0) (hn : f.nodes.length ≤ 1099511627776) (ha : ArgsOk f) (ht0 : -9223372036854775808 ≤ f.top) (ht : f.top ≤ 9223372036854775807) (hol : o.length ≤ 1099511627776) :
    Fh Tryz.prog 32 [] [.agg (fmc false f), .c (is false o), .c (.int .i64 k)] (fun x h => x = .tup [.c .nils, .c (errA (kcode33 f o))] ∧ h = []) := by
  have z0 := ieq_f hc
  refine fh_of_body Tryz.func32 rfl rfl (by simp [Tryz.ntmps32]) fun C hC => ?_
  simp only [initS, Nat.reduceAdd]
  refine yG z0 ?_
  refine yB z0 fun g3 hn_g3=>?_
  refine yG (oj z0 hn_g3) ?_
  refine aw_callh (hc := []) (hr := [(g3, .cells 50 3 (ofL (fmc false f)))]) (csolve_err f o hc hn ha ht0 ht hol) rfl rfl rfl (.refl _) (zL (oj z0 hn_g3)) ?_
  rintro _ _ ⟨rfl, rfl⟩ _
  refine yS (oj z0 hn_g3) ?_
  refine yG (oj z0 hn_g3) ?_
  refine yA (oj z0 hn_g3) fun g8 hn_g8=>?_
  refine yG (oj z0 (oj hn_g3 hn_g8)) ?_
  refine yW (oj z0 (oj hn_g3 hn_g8)) ?_
  refine yS (oj z0 (oj hn_g3 hn_g8)) ?_
  refine yG (oj z0 (oj hn_g3 hn_g8)) ?_
  refine yP (oj z0 (oj hn_g3 hn_g8)) ?_
  refine yG (oj z0 (oj hn_g3 hn_g8)) ?_
  refine aw_rethw (h' := []) rfl (List.nil_sublist _) (fun R hR => ?_)
  simp only [go_sem, z0, hn_g3, hn_g8]
  refine hR _ rfl ?_
  clear hR R
  exact ⟨rfl, rfl⟩
end Go.Proofs.YtcoflhkcpnoaaaaGreat
namespace Go.Proofs.YtcoflhkcpnoaaaaGreat
open Go.AI Go.PN
attribute [local irreducible] aw Fa Fh DrK
theorem is_fa (c d : Int) (hd : d ≠ 0) : Fa Tryz.prog 34 [.c (errA c), .c (.int .i64 d)] (.c (.bool (decide (c = d)))) := by
  by_cases h : c = 0
  · have e : errA c = .nilI := by unfold errA errC; rw [if_pos h]
    rw [e, decide_eq_false (by omega)]
    refine fa_of_body Tryz.func34 rfl rfl (by simp [Tryz.ntmps34]) fun C hC => ?_
    simp only [initS, Nat.reduceAdd]
    refine xG ?_
    refine xT hC ?_
    exact .one (.c (.bool _))
  · have e : errA c = .ifc 63 (.int .i64 c) := by unfold errA errC; rw [if_neg h]
    rw [e]
    refine fa_of_body Tryz.func34 rfl rfl (by simp [Tryz.ntmps34]) fun C hC => ?_
    simp only [initS, Nat.reduceAdd]
    refine xG ?_
    refine xT hC ?_
    exact .one (.c (ler_bool (by by_cases e : c = d <;> simp [e])))
end Go.Proofs.YtcoflhkcpnoaaaaGreat
namespace Go.Proofs.YtcoflhkcpnoaaaaGreat
open Go.AI Go.PN
attribute [local irreducible] aw Fa Fh DrK
set_option maxHeartbeats 1600000 in
theorem cutsR_fa (f : FM) (hf : FmOk f) (h10 : f.vars ≤ 10) : Fa Tryz.prog 33 [.agg (fmc false f)] (.c (is true (zL (sortN (solN (formTo f (2 ^ f.vars.toNat)) (2 ^ f.vars.toNat)))))) := by
  have hl := formTo_len f (2 ^ f.vars.toNat)
  have hp : 2 ^ f.vars.toNat ≤ 2 ^ 10 := Nat.pow_le_pow_right (by omega) (by omega)
  have hs := solR_fa (formTo f (2 ^ f.vars.toNat)) (by omega)
  rw [hl] at hs
  refine fa_of_body Tryz.func33 rfl rfl (by simp [Tryz.ntmps33]) fun C hC => ?_
  simp only [initS, Nat.reduceAdd]
  refine xG ?_
  refine xB fun g1 hn_g1=>?_
  refine yG hn_g1 ?_
  refine yC hn_g1 (formula_fa f hf ?_) ?_
  · omega
  refine yG hn_g1 ?_
  refine yC hn_g1 (hs) ?_
  refine yG hn_g1 ?_
  refine yT hC hn_g1 ?_
  exact .one (.c ler_is)
end Go.Proofs.YtcoflhkcpnoaaaaGreat
namespace Go.Proofs.YtcoflhkcpnoaaaaGreat
open Go.AI Go.PN
theorem fm_of {f : FM} (ok : FrOk f) : FmOk f := by
  refine ⟨ok.v0, by have := ok.v24; omega, by have := ok.n128; omega, fun x hx => ?_, ok.t0, ok.t1⟩
  obtain ⟨i, hi, rfl⟩ := List.mem_iff_getElem.1 hx
  have h1 := ok.len hi
  have h2 := ok.arg i hi
  rw [show f.nodes.getD i fn0 = f.nodes[i] from by rw [List.getD_eq_getElem?_getD, List.getElem?_eq_getElem hi]; rfl] at h1 h2
  exact ⟨by omega, fun y hy => by have := h2 y hy; omega⟩
attribute [local irreducible] aw Fa Fh DrK
set_option maxRecDepth 100000 in
set_option maxHeartbeats 6400000 in
theorem lawCLists_fa (f : FM) (o : List Int) (k : Int) (hn : f.nodes.length ≤ 1099511627776) (ha : ArgsOk f) (ht0 : -9223372036854775808 ≤ f.top) (ht : f.top ≤ 9223372036854775807) (hol : o.length ≤ 1099511627776) :
    Fa Tryz.prog 6 [.agg (fmc false f), .c (is false o), .c (.int .i64 k)] (.c (.bool true)) := by
  have q0 : ((0 : Int) == 0) = true := rfl
  have q1 : (((0 : Nat) : Int) == 0) = true := rfl
  refine fa_of_body Tryz.func6 rfl rfl (by simp [Tryz.ntmps6]) fun C hC => ?_
  simp only [initS, Nat.reduceAdd]
  refine yG (oj q0 q1) ?_
  refine yB (oj q0 q1) fun g3 hn_g3=>?_
  refine yG (oj q0 (oj q1 hn_g3)) ?_
  refine yC (oj q0 (oj q1 hn_g3)) (awake33_fa) ?_
  refine yG (oj q0 (oj q1 hn_g3)) ?_
  refine yF (oj q0 (oj q1 hn_g3)) (fun h100=>?_) fun h100=>?_
  · refine yG (oj q0 (oj q1 hn_g3)) ?_
    refine yC (oj q0 (oj q1 hn_g3)) (awake33_fa) ?_
    refine yG (oj q0 (oj q1 hn_g3)) ?_
    refine yT hC (oj q0 (oj q1 hn_g3)) ?_
    exact .one (.c (.bool _))
  refine yG (oj q0 (oj q1 hn_g3)) ?_
  refine yC (oj q0 (oj q1 hn_g3)) (checkR33_fa f o hn ha ht0 ht hol) ?_
  by_cases h0 : kcode33 f o = 0
  · have z0 := ieq_t h0
    have hk := k33_of h0
    have ok := fr_ok hk.c
    have v0 := ok.v0
    have n128 := ok.n128
    refine yG (oj q0 (oj q1 (oj hn_g3 z0))) ?_
    refine yF (oj q0 (oj q1 (oj hn_g3 z0))) (fun h8=>?_) fun h8=>?_
    · refine yG (oj q0 (oj q1 (oj hn_g3 z0))) ?_
      refine yT hC (oj q0 (oj q1 (oj hn_g3 z0))) ?_
      exact .one (.c (.bool _))
    have h8' : f.vars ≤ 8 := by have := of_decide_eq_false h8; omega
    have hp : 2 ^ f.vars.toNat ≤ 2 ^ 8 := Nat.pow_le_pow_right (by omega) (by omega)
    have hp2 : (2 : Nat) ^ 8 = 256 := rfl
    refine yG (oj q0 (oj q1 (oj hn_g3 z0))) ?_
    refine aw_callh (hc := []) (hr := [(g3, .cells 50 3 (ofL (fmc false f)))]) (Cuts_fh f o hk (by omega) hn ha) rfl rfl rfl (.refl _) (zL (oj q0 (oj q1 (oj hn_g3 z0)))) ?_
    rintro _ _ ⟨rfl, l, hcl, hll, hlt, rfl⟩ _
    have hL : sortN (solN (formTo f (2 ^ f.vars.toNat)) (2 ^ f.vars.toNat)) = l := by rw [form_list]; exact sol_is hcl hlt
    have hcr := cutsR_fa f (fm_of ok) (by omega)
    rw [hL] at hcr
    have hin := ints_fa (zL l) (zL l) (by rw [zL_len]; omega)
    rw [decide_eq_true rfl] at hin
    refine yS (oj q0 (oj q1 (oj hn_g3 z0))) ?_
    refine yG (oj q0 (oj q1 (oj hn_g3 z0))) ?_
    refine aw_callh (hc := []) (hr := [(g3, .cells 50 3 (ofL (fmc false f)))]) (UpToC_fh f o k hk (by omega) hn ha) rfl rfl rfl (.refl _) (zL (oj q0 (oj q1 (oj hn_g3 z0)))) ?_
    rintro _ _ ⟨rfl, ⟨hkr, rfl⟩ | ⟨k0, k1, m, hms, hmm, hml, hmt, rfl⟩⟩ _
    · refine yS (oj q0 (oj q1 (oj hn_g3 z0))) ?_
      refine yG (oj q0 (oj q1 (oj hn_g3 z0))) ?_
      refine yN (oj q0 (oj q1 (oj hn_g3 z0))) ?_
      refine yG (oj q0 (oj q1 (oj hn_g3 z0))) ?_
      refine yC (oj q0 (oj q1 (oj hn_g3 z0))) (hcr) ?_
      refine yG (oj q0 (oj q1 (oj hn_g3 z0))) ?_
      refine yC (oj q0 (oj q1 (oj hn_g3 z0))) (hin) ?_
      refine yG (oj q0 (oj q1 (oj hn_g3 z0))) ?_
      refine yN (oj q0 (oj q1 (oj hn_g3 z0))) ?_
      by_cases h1 : k < 0
      · have e1 : decide (k < 0) = true := decide_eq_true h1
        refine yS (oj q0 (oj q1 (oj hn_g3 (oj z0 e1)))) ?_
        refine yG (oj q0 (oj q1 (oj hn_g3 (oj z0 e1)))) ?_
        refine yP (oj q0 (oj q1 (oj hn_g3 (oj z0 e1)))) ?_
        refine yG (oj q0 (oj q1 (oj hn_g3 (oj z0 e1)))) ?_
        refine yC (oj q0 (oj q1 (oj hn_g3 (oj z0 e1)))) (is_fa 3 3 ?_) ?_
        · omega
        refine yG (oj q0 (oj q1 (oj hn_g3 (oj z0 e1)))) ?_
        refine yT hC (oj q0 (oj q1 (oj hn_g3 (oj z0 e1)))) ?_
        exact .one (.c (.bool _))
      · have e1 : decide (k < 0) = false := decide_eq_false h1
        have e2 : decide (k > 24) = true := decide_eq_true (by omega)
        refine yS (oj q0 (oj q1 (oj hn_g3 (oj z0 (oj e1 e2))))) ?_
        refine yG (oj q0 (oj q1 (oj hn_g3 (oj z0 (oj e1 e2))))) ?_
        refine yP (oj q0 (oj q1 (oj hn_g3 (oj z0 (oj e1 e2))))) ?_
        refine yG (oj q0 (oj q1 (oj hn_g3 (oj z0 (oj e1 e2))))) ?_
        refine yC (oj q0 (oj q1 (oj hn_g3 (oj z0 (oj e1 e2))))) (is_fa 3 3 ?_) ?_
        · omega
        refine yG (oj q0 (oj q1 (oj hn_g3 (oj z0 (oj e1 e2))))) ?_
        refine yT hC (oj q0 (oj q1 (oj hn_g3 (oj z0 (oj e1 e2))))) ?_
        exact .one (.c (.bool _))
    · have e1 : decide (k < 0) = false := decide_eq_false (by omega)
      have e2 : decide (k > 24) = false := decide_eq_false (by omega)
      have hup := upToR_fa l k (by omega) fun x hx => lt24 (by omega) (hlt x hx)
      rw [upto_is hcl hms hmm] at hup
      have hin2 := ints_fa (zL m) (zL m) (by rw [zL_len]; omega)
      rw [decide_eq_true rfl] at hin2
      refine yS (oj q0 (oj q1 (oj hn_g3 (oj z0 (oj e1 e2))))) ?_
      refine yG (oj q0 (oj q1 (oj hn_g3 (oj z0 (oj e1 e2))))) ?_
      refine yN (oj q0 (oj q1 (oj hn_g3 (oj z0 (oj e1 e2))))) ?_
      refine yG (oj q0 (oj q1 (oj hn_g3 (oj z0 (oj e1 e2))))) ?_
      refine yC (oj q0 (oj q1 (oj hn_g3 (oj z0 (oj e1 e2))))) (hcr) ?_
      refine yG (oj q0 (oj q1 (oj hn_g3 (oj z0 (oj e1 e2))))) ?_
      refine yC (oj q0 (oj q1 (oj hn_g3 (oj z0 (oj e1 e2))))) (hin) ?_
      refine yG (oj q0 (oj q1 (oj hn_g3 (oj z0 (oj e1 e2))))) ?_
      refine yN (oj q0 (oj q1 (oj hn_g3 (oj z0 (oj e1 e2))))) ?_
      refine yG (oj q0 (oj q1 (oj hn_g3 (oj z0 (oj e1 e2))))) ?_
      refine yN (oj q0 (oj q1 (oj hn_g3 (oj z0 (oj e1 e2))))) ?_
      refine yG (oj q0 (oj q1 (oj hn_g3 (oj z0 (oj e1 e2))))) ?_
      refine yC (oj q0 (oj q1 (oj hn_g3 (oj z0 (oj e1 e2))))) (hup) ?_
      refine yG (oj q0 (oj q1 (oj hn_g3 (oj z0 (oj e1 e2))))) ?_
      refine yC (oj q0 (oj q1 (oj hn_g3 (oj z0 (oj e1 e2))))) (hin2) ?_
      refine yG (oj q0 (oj q1 (oj hn_g3 (oj z0 (oj e1 e2))))) ?_
      refine yT hC (oj q0 (oj q1 (oj hn_g3 (oj z0 (oj e1 e2))))) ?_
      exact .one (.c (.bool _))
  · have z0 := ieq_f h0
    have heq : (kcode33 f o == kcode33 f o) = true := by simp
    refine yG (oj q0 (oj q1 (oj hn_g3 (oj z0 heq)))) ?_
    refine yN (oj q0 (oj q1 (oj hn_g3 (oj z0 heq)))) ?_
    refine yG (oj q0 (oj q1 (oj hn_g3 (oj z0 heq)))) ?_
    refine aw_callh (hc := []) (hr := [(g3, .cells 50 3 (ofL (fmc false f)))]) (Cuts_err f o h0 hn ha ht0 ht hol) rfl rfl rfl (.refl _) (zL (oj q0 (oj q1 (oj hn_g3 (oj z0 heq))))) ?_
    rintro _ _ ⟨rfl, rfl⟩ _
    refine yS (oj q0 (oj q1 (oj hn_g3 (oj z0 heq)))) ?_
    refine yG (oj q0 (oj q1 (oj hn_g3 (oj z0 heq)))) ?_
    refine aw_callh (hc := []) (hr := [(g3, .cells 50 3 (ofL (fmc false f)))]) (UpToC_err f o k h0 hn ha ht0 ht hol) rfl rfl rfl (.refl _) (zL (oj q0 (oj q1 (oj hn_g3 (oj z0 heq))))) ?_
    rintro _ _ ⟨rfl, rfl⟩ _
    refine yS (oj q0 (oj q1 (oj hn_g3 (oj z0 heq)))) ?_
    refine yG (oj q0 (oj q1 (oj hn_g3 (oj z0 heq)))) ?_
    refine yP (oj q0 (oj q1 (oj hn_g3 (oj z0 heq)))) ?_
    refine yG (oj q0 (oj q1 (oj hn_g3 (oj z0 heq)))) ?_
    refine yC (oj q0 (oj q1 (oj hn_g3 (oj z0 heq)))) (num_fa (kcode33 f o)) ?_
    refine yG (oj q0 (oj q1 (oj hn_g3 (oj z0 heq)))) ?_
    refine yC (oj q0 (oj q1 (oj hn_g3 (oj z0 heq)))) (num_fa (kcode33 f o)) ?_
    refine yG (oj q0 (oj q1 (oj hn_g3 (oj z0 heq)))) ?_
    refine yT hC (oj q0 (oj q1 (oj hn_g3 (oj z0 heq)))) ?_
    exact .one (.c (.bool _))
end Go.Proofs.YtcoflhkcpnoaaaaGreat
