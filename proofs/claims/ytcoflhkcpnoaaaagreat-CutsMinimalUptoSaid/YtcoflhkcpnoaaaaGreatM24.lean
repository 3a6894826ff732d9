/- Blocks of one proof, laid one behind the other by a program (merge2.py). -/
import Derived.Test.YtcoflhkcpnoaaaaGreatM23
set_option linter.unusedSimpArgs false
set_option linter.unusedVariables false
namespace Go.PN
open Go.AI
def cntH (ns : List DN) (refs : List Int) (s : Nat) : Nat := (refs.filter fun r => evalD ns s r).length
theorem cntH_push (ns : List DN) (refs : List Int) (r : Int) (s : Nat) : cntH ns (refs ++ [r]) s = cntH ns refs s + if evalD ns s r then 1 else 0 := by
  unfold cntH
  rw [List.filter_append, List.length_append, List.filter_cons]
  split <;> simp
structure NeedOk (ns0 : List DN) (refs : List Int) (ns : List DN) (zs : List Int) (k i jj : Nat) : Prop where
  len : zs.length = k + 1
  at' : ∀ q, q ≤ k → RefOk ns (zs.getD q 0) ∧ ∀ s, evalD ns s (zs.getD q 0) = decide (q ≤ cntH ns0 (refs.take (if jj < q then i + 1 else i)) s)
end Go.PN
namespace Go.Proofs.YtcoflhkcpnoaaaaGreat
open Go.AI Go.PN
attribute [local irreducible] aw Fa Fh DrK
theorem need_start {ns : List DN} {refs : List Int} {k : Nat} : NeedOk ns refs ns ((List.replicate (k + 1) 0).set 0 1) k 0 k := by
  refine ⟨by simp, fun q hq => ?_⟩
  rw [if_neg (by omega), List.take_zero]
  by_cases h : q = 0
  · subst h
    rw [getZset (by simp)]
    exact ⟨ref1, fun s => by rw [ev1]; simp⟩
  · rw [getZset' h]
    have : (List.replicate (k + 1) (0 : Int)).getD q 0 = 0 := by
      rw [List.getD_eq_getElem?_getD, List.getElem?_replicate]; split <;> rfl
    rw [this]
    exact ⟨ref0, fun s => by rw [ev0]; show false = decide (q ≤ 0); exact (decide_eq_false (by omega)).symm⟩
theorem need_round {ns0 ns : List DN} {refs zs : List Int} {k i : Nat} (h : NeedOk ns0 refs ns zs k i 0) : NeedOk ns0 refs ns zs k (i + 1) k := by
  refine ⟨h.len, fun q hq => ?_⟩
  obtain ⟨h1, h2⟩ := h.at' q hq
  refine ⟨h1, fun s => ?_⟩
  rw [h2 s, if_neg (show ¬ k < q by omega)]
  by_cases e : q = 0
  · subst e; simp
  · rw [if_pos (by omega)]
theorem need_step {o : List Int} {ns0 ns ns2 : List DN} {refs zs : List Int} {k i q n m : Nat} (ht0 : TabOk o ns0) (hl0 : Later o ns0 ns m) (ht : TabOk o ns) (hl : Later o ns ns2 n) (h : NeedOk ns0 refs ns zs k i (q + 1)) (hq : q + 1 ≤ k) (hi : i < refs.length) (hr : RefOk ns0 (refs.getD i 0)) {r : Int} (hr2 : RefOk ns2 r)
    (he : ∀ s, evalD ns2 s r = if evalD ns s (refs.getD i 0) then evalD ns s (zs.getD q 0) else evalD ns s (zs.getD (q + 1) 0)) : NeedOk ns0 refs ns2 (zs.set (q + 1) r) k i q := by
  have hzl := h.len
  refine ⟨by rw [List.length_set]; exact hzl, fun p hp => ?_⟩
  by_cases e : p = q + 1
  · subst e
    rw [getZset (by omega)]
    refine ⟨hr2, fun s => ?_⟩
    rw [he s, hl0.eval ht0 hr, (h.at' q (by omega)).2 s, (h.at' (q + 1) (by omega)).2 s, if_pos (show q < q + 1 by omega), if_neg (show ¬ q + 1 < q by omega), if_neg (show ¬ q + 1 < q + 1 by omega), List.take_succ_eq_append_getElem hi, cntH_push, ← getDZ hi]
    cases evalD ns0 s (refs.getD i 0) <;> simp
  · rw [getZset' e]
    obtain ⟨h1, h2⟩ := h.at' p hp
    refine ⟨hl.ref h1, fun s => ?_⟩
    rw [hl.eval ht h1, h2 s]
    by_cases e2 : q < p
    · rw [if_pos e2, if_pos (show q + 1 < p by omega)]
    · rw [if_neg e2, if_neg (show ¬ q + 1 < p by omega)]
set_option maxRecDepth 100000 in
set_option maxHeartbeats 6400000 in
theorem vote_fh (gT gU gM : Nat) {o pl : List Int} (ho : OdOk o pl) {og : Option Nat} {ns : List DN} {mm : Mem3} (hs : TS o og ns mm) (refs : List Int) (hl : refs.length ≤ 1000) (k : Nat) (hk : k ≤ 1000) (hn : ns.length + refs.length * (k * 2 ^ (o.length + 1)) + 2 ^ (o.length + 1) ≤ 1000000000) (hr : ∀ r ∈ refs, RefOk ns r) :
    Fh Tryz.prog 108 (THp gT gU gM og o pl ns mm) [.c (.optr gT 0), .c (is true refs), .c (.int .i64 k)] (OpQ gT gU gM o pl ns (refs.length * (k * 2 ^ (o.length + 1))) fun s => decide (k ≤ cntH ns refs s)) := by
  refine fh_of_body Tryz.func108 rfl rfl (by simp [Tryz.ntmps108]) fun C hC => ?_
  simp only [initS, Nat.reduceAdd]
  refine xG ?_
  refine aw_make (n := k + 1) (c := k + 1) (size := 1) (bytes := 8) (z := [.int .i64 0]) rfl rfl rfl eE eE rfl (by omega) eE eE (by omega) (by omega) (by omega) (by omega) (by omega) fun gN hn_gN => ?_
  clear hn_gN
  simp only [Nat.mul_one]
  rw [make_is]
  simp only [THp, TH, List.cons_append, List.nil_append]
  refine aw_nd fun hnd => ?_
  simp only [Heap.keys, List.map_cons] at hnd
  replace hnd := ndP_of hnd
  dsimp only [ndP, neA] at hnd
  refine yS hnd ?_
  refine yG hnd ?_
  refine yW hnd ?_
  refine yS hnd ?_
  rw [updF_is (zs := List.replicate (k + 1) 0) (i := 0) (v := 1) (by rw [List.length_replicate]; omega)]
  refine yG hnd ?_
  have hcost : ∀ i j : Nat, i * (k * 2 ^ (o.length + 1)) + j * 2 ^ (o.length + 1) + 2 ^ (o.length + 1) = i * (k * 2 ^ (o.length + 1)) + (j + 1) * 2 ^ (o.length + 1) := fun i j => by rw [Nat.succ_mul]; omega
  refine aw_lp (fun y : Nat × Option Nat × List DN × Mem3 × List Int => [(0, .c (.optr gT 0)), (2, .c (.int .i64 k)), (7, .c (.osl gN 1 0 (k + 1))), (16, .c (is true refs)), (17, .c (.int .i64 refs.length)), (18, .c (.int .i64 y.1))]) (fun y => [(gN, .cells 3 (k + 1) (isF y.2.2.2.2))] ++ THp gT gU gM y.2.1 o pl y.2.2.1 y.2.2.2.1)
    (fun y => y.1 ≤ refs.length ∧ TS o y.2.1 y.2.2.1 y.2.2.2.1 ∧ Later o ns y.2.2.1 (y.1 * (k * 2 ^ (o.length + 1))) ∧ NeedOk ns refs y.2.2.1 y.2.2.2.2 k y.1 k) (fun y => refs.length - y.1) (0, og, ns, mm, (List.replicate (k + 1) 0).set 0 1) (zB hnd) zZ ⟨Nat.zero_le _, hs, Later.refl hs.tab _, need_start⟩ ?_
  clear hnd
  rintro ⟨i, og1, ns1, mm1, zs1⟩ ⟨hi, h1, h2, h3⟩
  dsimp only at hi h1 h2 h3 ⊢
  refine xG ?_
  refine xF (fun hb=>?_) fun hb=>?_
  · have hb' : i < refs.length := by have := of_decide_eq_true hb; omega
    have hri : RefOk ns (refs.getD i 0) := by rw [getDZ hb']; exact hr _ (List.getElem_mem hb')
    have hle : (i + 1) * (k * 2 ^ (o.length + 1)) ≤ refs.length * (k * 2 ^ (o.length + 1)) := Nat.mul_le_mul_right _ hb'
    have hle1 : (i + 1) * (k * 2 ^ (o.length + 1)) = i * (k * 2 ^ (o.length + 1)) + k * 2 ^ (o.length + 1) := Nat.succ_mul ..
    refine xG ?_
    refine aw_lp (fun y : Nat × Option Nat × List DN × Mem3 × List Int => [(0, .c (.optr gT 0)), (2, .c (.int .i64 k)), (7, .c (.osl gN 1 0 (k + 1))), (16, .c (is true refs)), (17, .c (.int .i64 refs.length)), (18, .c (.int .i64 i)), (9, .c (.int .i64 (refs.getD i 0))), (10, .c (.int .i64 y.1))]) (fun y => [(gN, .cells 3 (k + 1) (isF y.2.2.2.2))] ++ THp gT gU gM y.2.1 o pl y.2.2.1 y.2.2.2.1)
      (fun y => y.1 ≤ k ∧ TS o y.2.1 y.2.2.1 y.2.2.2.1 ∧ Later o ns y.2.2.1 (i * (k * 2 ^ (o.length + 1)) + (k - y.1) * 2 ^ (o.length + 1)) ∧ NeedOk ns refs y.2.2.1 y.2.2.2.2 k i y.1) (fun y => y.1) (k, og1, ns1, mm1, zs1) eB zZ ⟨Nat.le_refl _, h1, h2.trans (Later.refl h1.tab 0) (by omega), h3⟩ ?_
    clear h1 h2 h3 og1 ns1 mm1 zs1
    rintro ⟨j, og1, ns1, mm1, zs⟩ ⟨hj, h1, h2, h3⟩
    dsimp only at hj h1 h2 h3 ⊢
    refine xG ?_
    refine xF (fun hj0=>?_) fun hj0=>?_
    · obtain ⟨q, rfl⟩ : ∃ q, j = q + 1 := ⟨j - 1, by have := of_decide_eq_true hj0; omega⟩
      have hqi : ((q + 1 : Nat) : Int) - 1 = (q : Nat) := by omega
      have hzl := h3.len
      have hl2 := h2.len
      have hkq : (k - (q + 1) + 1) * 2 ^ (o.length + 1) ≤ k * 2 ^ (o.length + 1) := Nat.mul_le_mul_right _ (by omega)
      have hc1 := hcost i (k - (q + 1))
      have hB1 : ns1.length + 2 ^ (o.length + 1) ≤ 1000000000 := by
        clear hs h1 h2 h3 ho hcost
        generalize 2 ^ (o.length + 1) = B at *
        generalize i * (k * B) = X at *
        generalize (k - (q + 1) + 1) * B = Y at *
        generalize (k - (q + 1)) * B = Z at *
        generalize (i + 1) * (k * B) = U at *
        generalize refs.length * (k * B) = V at *
        generalize k * B = W at *
        omega
      have hB2 : i * (k * 2 ^ (o.length + 1)) + (k - (q + 1)) * 2 ^ (o.length + 1) + (2 ^ (o.length + 1) - 1) ≤ i * (k * 2 ^ (o.length + 1)) + (k - q) * 2 ^ (o.length + 1) := by
        rw [show k - q = k - (q + 1) + 1 from by omega, ← hc1]
        generalize 2 ^ (o.length + 1) = B
        omega
      simp only [THp, TH, List.cons_append, List.nil_append]
      refine aw_nd fun hnd => ?_
      simp only [Heap.keys, List.map_cons] at hnd
      replace hnd := ndP_of hnd
      dsimp only [ndP, neA] at hnd
      refine yG (oj hnd hqi) ?_
      refine aw_cw ([(gN, .cells 3 (k + 1) (isF zs))]) [(0,0),(1,0),(2,0),(3,0),(4,0),(5,0),(6,0),(7,0),(8,0),(9,0),(10,0),(11,0),(12,0),(13,1),(14,0),(15,2)] ty_mixed (by kernel_rfl) eI ?_
      refine yG (oj hnd hqi) ?_
      refine cw_callh (hc := THp gT gU gM og1 o pl ns1 mm1) (hr := [(gN, .cells 3 (k + 1) (isF zs))]) rfl (choose_fh gT gU gM ho h1 hB1 (h2.ref hri) (h3.at' q (by omega)).1 (h3.at' (q + 1) (by omega)).1) rfl rfl rfl (List.perm_append_comm (l₁ := [(gN, _)])) (zL (oj hnd hqi)) (by
        rintro _ _ ⟨_, _, _, _, _, _, _, _, rfl, rfl⟩; exact has0_app2 eI) ?_ (hm := .inr ⟨rfl, rfl⟩)
      rintro _ _ ⟨og2, ns2, mm2, r, e1, e2, e3, e4, rfl, rfl⟩ _
      refine yS (oj hnd hqi) ?_
      refine cw_perm List.perm_append_comm ?_
      simp only [List.cons_append, List.nil_append]
      refine yS (oj hnd hqi) ?_
      refine yG (oj hnd hqi) ?_
      refine cw_store (FP' := []) rfl rfl rfl rfl rfl (zE (oj hnd hqi)) (zE (oj hnd hqi)) (zE (oj hnd hqi)) (zE (oj hnd hqi)) (fun _ e => by cases e) rfl rfl (by show (q + 1) + 1 ≤ _; omega) rfl has0_nil ?_
      simp only [AV.cells]
      rw [updF_is (by omega)]
      refine yS (oj hnd hqi) ?_
      refine yG (oj hnd hqi) ?_
      have he2 := e2.len
      exact aw_stop ⟨(q, og2, ns2, mm2, zs.set (q + 1) r), by dsimp only; omega, (zB (oj hnd hqi)), zZ, by dsimp only; omega, e1, h2.trans e2 hB2, need_step hs.tab h2 h1.tab e2 h3 hj hb' hri e3 e4⟩
    · have hj' : j = 0 := by have := of_decide_eq_false hj0; omega
      subst hj'
      refine xG ?_
      exact aw_stop ⟨(i + 1, og1, ns1, mm1, zs), by dsimp only; omega, eB, zZ, by dsimp only; omega, h1, h2.trans (Later.refl h1.tab 0) (by dsimp only; rw [Nat.sub_zero]; omega), need_round h3⟩
  · have hb' : i = refs.length := by have := of_decide_eq_false hb; omega
    subst hb'
    have hzl := h3.len
    obtain ⟨h4, h5⟩ := h3.at' k (Nat.le_refl _)
    simp only [Nat.lt_irrefl, if_false, List.take_length] at h5
    refine xG ?_
    refine aw_keep [(6, .c (.int .i64 (zs1.getD k 0)))] (THp gT gU gM og1 o pl ns1 mm1) eB (List.Sublist.cons _ (List.Sublist.refl _)) ?_
    refine xU ?_
    exact ⟨og1, ns1, mm1, _, h1, h2, h4, h5, rfl, rfl⟩
end Go.Proofs.YtcoflhkcpnoaaaaGreat
namespace Go.PN
open Go.AI
theorem cntV_cons (v : Int → Bool) (r : Int) (rs : List Int) : cntV v (r :: rs) = (if v r then 1 else 0) + cntV v rs := by
  unfold cntV
  rw [List.filter_cons]
  split
  · rw [List.length_cons]; omega
  · omega
theorem cntV_le (v : Int → Bool) : ∀ rs : List Int, cntV v rs ≤ rs.length := fun rs => List.length_filter_le ..
theorem fold_and (v : Int → Bool) : ∀ (rs : List Int) (b : Bool), rs.foldl (fun b r => b && v r) b = (b && decide (cntV v rs = rs.length))
  | [], b => by simp [cntV]
  | r :: rs, b => by
    rw [List.foldl_cons, fold_and v rs, cntV_cons, List.length_cons, Bool.and_assoc]
    have := cntV_le v rs
    cases h : v r
    · have : ¬ ((0 : Nat) + cntV v rs = rs.length + 1) := by omega
      simp only [Bool.false_eq_true, if_false, Bool.false_and, decide_eq_false this]
    · have : decide (1 + cntV v rs = rs.length + 1) = decide (cntV v rs = rs.length) := decide_eq_decide.2 (by omega)
      simp only [if_true, Bool.true_and, this]
theorem fold_or (v : Int → Bool) : ∀ (rs : List Int) (b : Bool), rs.foldl (fun b r => b || v r) b = (b || decide (0 < cntV v rs))
  | [], b => by simp [cntV]
  | r :: rs, b => by
    rw [List.foldl_cons, fold_or v rs, cntV_cons, Bool.or_assoc]
    cases h : v r
    · simp
    · have : decide (0 < 1 + cntV v rs) = true := decide_eq_true (by omega)
      simp only [if_true, Bool.true_or, this]
theorem fold_xor (v : Int → Bool) : ∀ (rs : List Int) (b : Bool), rs.foldl (fun b r => b != v r) b = (b != decide (cntV v rs % 2 = 1))
  | [], b => by simp [cntV]
  | r :: rs, b => by
    rw [List.foldl_cons, fold_xor v rs, cntV_cons]
    cases h : v r
    · simp
    · have : decide ((1 + cntV v rs) % 2 = 1) = !decide (cntV v rs % 2 = 1) := by
        rw [← decide_not]; exact decide_eq_decide.2 (by omega)
      simp only [if_true, this]
      cases b <;> cases decide (cntV v rs % 2 = 1) <;> rfl
end Go.PN
namespace Go.Proofs.YtcoflhkcpnoaaaaGreat
open Go.AI Go.PN
attribute [local irreducible] aw Fa Fh DrK
set_option maxRecDepth 100000 in
set_option maxHeartbeats 6400000 in
theorem bnode_fh (gT gU gM : Nat) {o pl : List Int} (ho : OdOk o pl) {og : Option Nat} {ns : List DN} {mm : Mem3} (hs : TS o og ns mm) (x : FN) (refs : List Int) (hk0 : 0 ≤ x.kind) (hk5 : x.kind ≤ 5) (hari : arityB x.kind refs.length = true) (hkc : kcode ⟨x.kind, x.k, refs⟩ = 0) (hn : ns.length + 256 * 2 ^ (o.length + 2) ≤ 1000000000) (hr : ∀ r ∈ refs, RefOk ns r) :
    Fh Tryz.prog 63 (THp gT gU gM og o pl ns mm) [.c (.optr gT 0), .agg [.int .i64 x.kind, .int .i64 x.k, is true x.args], .c (is true refs)] (OpQ gT gU gM o pl ns (256 * 2 ^ (o.length + 2)) fun s => nodeV (evalD ns s) ⟨x.kind, x.k, refs⟩) := by
  have hB : 2 ^ (o.length + 2) = 2 ^ (o.length + 1) * 2 := Nat.pow_succ ..
  have hBp : 0 < 2 ^ (o.length + 1) := Nat.pow_pos (by omega)
  unfold arityB at hari
  unfold kcode at hkc
  dsimp only at hkc
  have hl16 : refs.length ≤ 16 := by
    split at hari
    · have := of_decide_eq_true hari; omega
    · split at hari
      · have := of_decide_eq_true hari; omega
      · have := of_decide_eq_true (Bool.and_eq_true_iff.1 hari).2; omega
  have hcost : refs.length * 2 ^ (o.length + 2) ≤ 256 * 2 ^ (o.length + 2) := Nat.mul_le_mul_right _ (by omega)
  refine fh_of_body Tryz.func63 rfl rfl (by simp [Tryz.ntmps63]) fun C hC => ?_
  simp only [initS, Nat.reduceAdd]
  refine xG ?_
  refine xB fun g4 hn_g4=>?_
  refine yG hn_g4 ?_
  refine yF hn_g4 (fun h0=>?_) fun h0=>?_
  · have e : x.kind = 0 := eq_of_beq h0
    rw [if_pos e] at hkc
    have hk : x.k = 0 ∨ x.k = 1 := by
      split at hkc
      · cases hkc
      · omega
    refine yG hn_g4 ?_
    refine aw_keep [(6, .c (.int .i64 x.k))] (THp gT gU gM og o pl ns mm) (zB hn_g4) (List.Sublist.cons _ (List.Sublist.refl _)) ?_
    refine yU hn_g4 ?_
    refine ⟨og, ns, mm, x.k, hs, Later.refl hs.tab _, ?_, fun s => ?_, rfl, rfl⟩
    · rcases hk with h | h <;> rw [h]
      · exact ref0
      · exact ref1
    · unfold nodeV
      dsimp only
      rw [if_pos h0]
      rcases hk with h | h <;> rw [h]
      · exact ev0
      · exact ev1
  refine yG hn_g4 ?_
  refine yF hn_g4 (fun h1=>?_) fun h1=>?_
  · have e : x.kind = 1 := eq_of_beq h1
    rw [if_neg (by omega), if_pos e] at hari
    obtain ⟨q, hq⟩ : ∃ q, refs = [q] := List.length_eq_one_iff.1 (by have := of_decide_eq_true hari; omega)
    subst hq
    refine yG hn_g4 ?_
    refine aw_callh (hc := THp gT gU gM og o pl ns mm) (hr := [(g4, .cells 101 3 (ofL [.int .i64 x.kind, .int .i64 x.k, is true x.args]))]) (tnot_fh gT gU gM ho hs (by omega) (hr q (List.mem_singleton.2 rfl))) rfl rfl rfl (List.perm_append_comm (l₁ := [(g4, _)])) (zL hn_g4) ?_
    rintro _ _ ⟨og', ns', mm', r, e1, e2, e3, e4, rfl, rfl⟩ _
    refine yS hn_g4 ?_
    refine yG hn_g4 ?_
    refine aw_keep [(6, .c (.int .i64 r))] (THp gT gU gM og' o pl ns' mm') (zB hn_g4) (by simp only [THp, TH, List.cons_append, List.nil_append, List.append_assoc]; exact List.sublist_append_left (THp gT gU gM og' o pl ns' mm') _) ?_
    refine yU hn_g4 ?_
    refine ⟨og', ns', mm', r, e1, ⟨e2.tab, e2.pre, by have := e2.len; omega⟩, e3, fun s => ?_, rfl, rfl⟩
    rw [e4]
    unfold nodeV
    dsimp only
    rw [if_neg (by rw [h0]; simp), if_pos h1, cntV_cons]
    cases evalD ns s q <;> rfl
  refine yG hn_g4 ?_
  refine yF hn_g4 (fun h2=>?_) fun h2=>?_
  · have e : x.kind = 2 := eq_of_beq h2
    refine yG hn_g4 ?_
    refine aw_makeFuncB (g := gT) rfl rfl rfl (zE hn_g4) ?_
    refine yS hn_g4 ?_
    refine yG hn_g4 ?_
    refine aw_callh (hc := THp gT gU gM og o pl ns mm) (hr := [(g4, .cells 101 3 (ofL [.int .i64 x.kind, .int .i64 x.k, is true x.args]))]) (join_fh and_opok gT gU gM ho hs refs (by omega) (by omega) ref1 hr) rfl rfl rfl (List.perm_append_comm (l₁ := [(g4, _)])) (zL hn_g4) ?_
    rintro _ _ ⟨og', ns', mm', r, e1, e2, e3, e4, rfl, rfl⟩ _
    refine yS hn_g4 ?_
    refine yG hn_g4 ?_
    refine aw_keep [(6, .c (.int .i64 r))] (THp gT gU gM og' o pl ns' mm') (zB hn_g4) (by simp only [THp, TH, List.cons_append, List.nil_append, List.append_assoc]; exact List.sublist_append_left (THp gT gU gM og' o pl ns' mm') _) ?_
    refine yU hn_g4 ?_
    refine ⟨og', ns', mm', r, e1, ⟨e2.tab, e2.pre, by have := e2.len; omega⟩, e3, fun s => ?_, rfl, rfl⟩
    rw [e4]
    unfold nodeV
    dsimp only
    rw [if_neg (by rw [h0]; simp), if_neg (by rw [h1]; simp), if_pos h2]
    rw [fold_and, ev1, Bool.true_and, Bool.eq_iff_iff, decide_eq_true_iff, beq_iff_eq]
    exact Int.ofNat_inj.symm
  refine yG hn_g4 ?_
  refine yF hn_g4 (fun h3=>?_) fun h3=>?_
  · have e : x.kind = 3 := eq_of_beq h3
    refine yG hn_g4 ?_
    refine aw_makeFuncB (g := gT) rfl rfl rfl (zE hn_g4) ?_
    refine yS hn_g4 ?_
    refine yG hn_g4 ?_
    refine aw_callh (hc := THp gT gU gM og o pl ns mm) (hr := [(g4, .cells 101 3 (ofL [.int .i64 x.kind, .int .i64 x.k, is true x.args]))]) (join_fh or_opok gT gU gM ho hs refs (by omega) (by omega) ref0 hr) rfl rfl rfl (List.perm_append_comm (l₁ := [(g4, _)])) (zL hn_g4) ?_
    rintro _ _ ⟨og', ns', mm', r, e1, e2, e3, e4, rfl, rfl⟩ _
    refine yS hn_g4 ?_
    refine yG hn_g4 ?_
    refine aw_keep [(6, .c (.int .i64 r))] (THp gT gU gM og' o pl ns' mm') (zB hn_g4) (by simp only [THp, TH, List.cons_append, List.nil_append, List.append_assoc]; exact List.sublist_append_left (THp gT gU gM og' o pl ns' mm') _) ?_
    refine yU hn_g4 ?_
    refine ⟨og', ns', mm', r, e1, ⟨e2.tab, e2.pre, by have := e2.len; omega⟩, e3, fun s => ?_, rfl, rfl⟩
    rw [e4]
    unfold nodeV
    dsimp only
    rw [if_neg (by rw [h0]; simp), if_neg (by rw [h1]; simp), if_neg (by rw [h2]; simp), if_pos h3]
    rw [fold_or, ev0, Bool.false_or]
    exact decide_eq_decide.2 (by omega)
  refine yG hn_g4 ?_
  refine yF hn_g4 (fun h5=>?_) fun h5=>?_
  · have e : x.kind = 5 := eq_of_beq h5
    refine yG hn_g4 ?_
    refine aw_makeFuncB (g := gT) rfl rfl rfl (zE hn_g4) ?_
    refine yS hn_g4 ?_
    refine yG hn_g4 ?_
    refine aw_callh (hc := THp gT gU gM og o pl ns mm) (hr := [(g4, .cells 101 3 (ofL [.int .i64 x.kind, .int .i64 x.k, is true x.args]))]) (join_fh xor_opok gT gU gM ho hs refs (by omega) (by omega) ref0 hr) rfl rfl rfl (List.perm_append_comm (l₁ := [(g4, _)])) (zL hn_g4) ?_
    rintro _ _ ⟨og', ns', mm', r, e1, e2, e3, e4, rfl, rfl⟩ _
    refine yS hn_g4 ?_
    refine yG hn_g4 ?_
    refine aw_keep [(6, .c (.int .i64 r))] (THp gT gU gM og' o pl ns' mm') (zB hn_g4) (by simp only [THp, TH, List.cons_append, List.nil_append, List.append_assoc]; exact List.sublist_append_left (THp gT gU gM og' o pl ns' mm') _) ?_
    refine yU hn_g4 ?_
    refine ⟨og', ns', mm', r, e1, ⟨e2.tab, e2.pre, by have := e2.len; omega⟩, e3, fun s => ?_, rfl, rfl⟩
    rw [e4]
    unfold nodeV
    dsimp only
    rw [if_neg (by rw [h0]; simp), if_neg (by rw [h1]; simp), if_neg (by rw [h2]; simp), if_neg (by rw [h3]; simp), if_neg (by rw [e]; decide)]
    rw [fold_xor, ev0, Bool.eq_iff_iff]
    have hrem : remZ ((cntV (evalD ns s) refs : Nat) : Int) 2 = ((cntV (evalD ns s) refs % 2 : Nat) : Int) := rem_nat _ 2
    rw [hrem, beq_iff_eq, Bool.false_bne, decide_eq_true_iff]
    omega
  · have e : x.kind = 4 := by
      have a0 : x.kind ≠ 0 := by simpa using h0
      have a1 : x.kind ≠ 1 := by simpa using h1
      have a2 : x.kind ≠ 2 := by simpa using h2
      have a3 : x.kind ≠ 3 := by simpa using h3
      have a5 : x.kind ≠ 5 := by simpa using h5
      omega
    rw [if_neg (by omega), if_pos e] at hkc
    obtain ⟨kn, hkn⟩ := Int.eq_ofNat_of_zero_le (a := x.k) (by split at hkc <;> omega)
    have hk1 : 1 ≤ kn ∧ kn ≤ refs.length := by split at hkc <;> omega
    have hc0 : refs.length * (kn * 2 ^ (o.length + 1)) ≤ 16 * (16 * 2 ^ (o.length + 1)) := Nat.mul_le_mul hl16 (Nat.mul_le_mul_right _ (by omega))
    have hc1 : ns.length + refs.length * (kn * 2 ^ (o.length + 1)) + 2 ^ (o.length + 1) ≤ 1000000000 := by
      rw [hB] at hn
      generalize refs.length * (kn * 2 ^ (o.length + 1)) = X at *
      generalize 2 ^ (o.length + 1) = B at *
      omega
    have hc2 : refs.length * (kn * 2 ^ (o.length + 1)) ≤ 256 * 2 ^ (o.length + 2) := by
      rw [hB]
      generalize refs.length * (kn * 2 ^ (o.length + 1)) = X at *
      generalize 2 ^ (o.length + 1) = B at *
      omega
    refine yG (oj hn_g4 hkn) ?_
    refine aw_callh (hc := THp gT gU gM og o pl ns mm) (hr := [(g4, .cells 101 3 (ofL [.int .i64 x.kind, .int .i64 x.k, is true x.args]))]) (vote_fh gT gU gM ho hs refs (by omega) kn (by omega) hc1 hr) rfl rfl rfl (List.perm_append_comm (l₁ := [(g4, _)])) (zL (oj hn_g4 hkn)) ?_
    rintro _ _ ⟨og', ns', mm', r, e1, e2, e3, e4, rfl, rfl⟩ _
    refine yS (oj hn_g4 hkn) ?_
    refine yG (oj hn_g4 hkn) ?_
    refine aw_keep [(6, .c (.int .i64 r))] (THp gT gU gM og' o pl ns' mm') (zB (oj hn_g4 hkn)) (by simp only [THp, TH, List.cons_append, List.nil_append, List.append_assoc]; exact List.sublist_append_left (THp gT gU gM og' o pl ns' mm') _) ?_
    refine yU (oj hn_g4 hkn) ?_
    refine ⟨og', ns', mm', r, e1, ⟨e2.tab, e2.pre, by have := e2.len; omega⟩, e3, fun s => ?_, rfl, rfl⟩
    rw [e4]
    unfold nodeV
    dsimp only
    rw [if_neg (by rw [h0]; simp), if_neg (by rw [h1]; simp), if_neg (by rw [h2]; simp), if_neg (by rw [h3]; simp), if_pos (by rw [e]; decide)]
    refine decide_eq_decide.2 ?_
    show kn ≤ cntV (evalD ns s) refs ↔ _
    omega
end Go.Proofs.YtcoflhkcpnoaaaaGreat
namespace Go.Proofs.YtcoflhkcpnoaaaaGreat
open Go.AI Go.PN
attribute [local irreducible] aw Fa Fh DrK
structure Same (f f' : FM) : Prop where
  ok : FrOk f'
  vars : f'.vars = f.vars
  val : ∀ s, valF f' s f'.top = valF f s f.top
theorem same_trim {f : FM} (ok : FrOk f) : Same f (trimF f) := ⟨trim_ok ok, rfl, trim_top ok⟩
theorem same_nil {f : FM} (ok : FrOk f) (h : szTo f f.nodes.length = 0) : Same f ⟨f.vars, [], f.top⟩ := by
  have ht := sz_zero ok h
  refine ⟨⟨ok.v0, ok.v24, by simp, fun i hi => ?_, fun i hi => ?_, fun i hi => ?_, fun i hi => ?_, ok.t0, by simpa using ht⟩, rfl, fun s => ?_⟩
  · exact absurd hi (by simp)
  · exact absurd hi (by simp)
  · exact absurd hi (by simp)
  · exact absurd hi (by simp)
  · rw [val_event (f := f) ht]
    exact val_event (f := ⟨f.vars, [], f.top⟩) ht
structure RefsOk (f : FM) (n : Nat) (ns : List DN) (zs : List Int) (b : Nat) : Prop where
  len : zs.length = n
  at' : ∀ a, a < b → RefOk ns (zs.getD a 0) ∧ ∀ s, evalD ns s (zs.getD a 0) = valF f s a
theorem refs_step {o : List Int} {f : FM} {n m b : Nat} {ns ns' : List DN} {zs : List Int} (ht : TabOk o ns) (h : RefsOk f n ns zs b) (hl : Later o ns ns' m) (hb : b < n) {r : Int} (hr : RefOk ns' r) (hv : ∀ s, evalD ns' s r = valF f s b) : RefsOk f n ns' (zs.set b r) (b + 1) := by
  have hz := h.len
  refine ⟨by rw [List.length_set]; exact hz, fun a ha => ?_⟩
  by_cases e : a = b
  · subst e
    rw [getZset (by omega)]
    exact ⟨hr, hv⟩
  · rw [getZset' e]
    obtain ⟨h1, h2⟩ := h.at' a (by omega)
    exact ⟨hl.ref h1, fun s => by rw [hl.eval ht h1, h2 s]⟩
set_option maxRecDepth 100000 in
set_option maxHeartbeats 12800000 in
theorem build_fh (f : FM) (hn : f.nodes.length ≤ 1099511627776) (ha : ArgsOk f) (hc : fcode f = 0) (o : List Int) (ho : ocode o o.length = 0) (hol : o.length = f.vars.toNat) (h12 : o.length ≤ 12) : Fh Tryz.prog 27 [] [.agg (fmc false f), .c (is false o)] (fun x h => h = [] ∧ ∃ D, DOut o (fun s => valF f s f.top) D ∧ x = .tup [.agg (dgc true D), .c .nilI]) := by
  have ok := fr_ok hc
  have v0 := ok.v0
  have v24 := ok.v24
  have n128 := ok.n128
  have hov : ocode o f.vars = 0 := by rw [show f.vars = (o.length : Int) from by omega]; exact ho
  have z := ieq_t hov
  have hsz := szTo_le f f.nodes.length
  refine fh_of_body Tryz.func27 rfl rfl (by simp [Tryz.ntmps27]) fun C hC => ?_
  simp only [initS, Nat.reduceAdd]
  refine yG z ?_
  refine yB z fun g2 hn_g2=>?_
  refine yG (oj z hn_g2) ?_
  refine yA (oj z hn_g2) fun g4 hn_g4=>?_
  refine yG (oj z (oj hn_g2 hn_g4)) ?_
  refine aw_callq (fsize_fa f hn ha hc) rfl rfl rfl (zL (oj z (oj hn_g2 hn_g4))) ?_
  refine yS (oj z (oj hn_g2 hn_g4)) ?_
  refine yG (oj z (oj hn_g2 hn_g4)) ?_
  refine yN (oj z (oj hn_g2 hn_g4)) ?_
  refine yG (oj z (oj hn_g2 hn_g4)) ?_
  refine aw_callq (ocheck_fa o f.vars (by omega)) rfl rfl rfl (zL (oj z (oj hn_g2 hn_g4))) ?_
  refine yS (oj z (oj hn_g2 hn_g4)) ?_
  refine yG (oj z (oj hn_g2 hn_g4)) ?_
  refine yN (oj z (oj hn_g2 hn_g4)) ?_
  refine yG (oj z (oj hn_g2 hn_g4)) ?_
  refine aw_cut (fun f' : FM => [(1, .c (is false o)), (2, .c (.optr g2 0)), (4, .c (.optr g4 0))]) (fun f' => [(g4, .cells 25 3 (ofL [.nils, .nils, .int .i64 0])), (g2, .cells 50 3 (ofL (fmc true f')))]) (fun f' => Same f f') ?_ ?_
  · refine yF (oj z (oj hn_g2 hn_g4)) (fun hs=>?_) fun hs=>?_
    · refine yG (oj z (oj hn_g2 hn_g4)) ?_
      refine aw_callh (hc := []) (hr := [(g4, .cells 25 3 (ofL [.nils, .nils, .int .i64 0])), (g2, .cells 50 3 (ofL (fmc false f)))]) (ftrim_fh f hn ha hc) rfl rfl rfl (.refl _) (zL (oj z (oj hn_g2 hn_g4))) ?_
      rintro _ _ ⟨rfl, rfl⟩ _
      refine yS (oj z (oj hn_g2 hn_g4)) ?_
      refine yG (oj z (oj hn_g2 hn_g4)) ?_
      refine yW (oj z (oj hn_g2 hn_g4)) ?_
      refine yS (oj z (oj hn_g2 hn_g4)) ?_
      refine yG (oj z (oj hn_g2 hn_g4)) ?_
      refine yN (oj z (oj hn_g2 hn_g4)) ?_
      refine yG (oj z (oj hn_g2 hn_g4)) ?_
      exact aw_stop ⟨trimF f, (zB (oj z (oj hn_g2 hn_g4))), zZ, same_trim ok⟩
    · have hs0 : szTo f f.nodes.length = 0 := by have := of_decide_eq_false hs; omega
      refine yG (oj z (oj hn_g2 hn_g4)) ?_
      refine yW (oj z (oj hn_g2 hn_g4)) ?_
      refine yS (oj z (oj hn_g2 hn_g4)) ?_
      refine aw_perm (List.Perm.swap _ _ _) ?_
      refine aw_frzG (j0 := 1) (og := none) (s := 3) (n := 0) (tp := 101) (fp := fnsF []) (h := [(g4, .cells 25 3 (ofL [.nils, .nils, .int .i64 0]))]) (f' := ofL (fmc true ⟨f.vars, [], f.top⟩)) rfl rfl (fun j hj hne => ?_) (fun _ => rfl) (fun g e => by cases e) ?_
      · match j, hj, hne with
        | 0, _, _ => rfl
        | 1, _, hne => exact absurd rfl hne
        | 2, _, _ => rfl
      refine aw_perm (List.Perm.swap _ _ _) ?_
      refine yG (oj z (oj hn_g2 hn_g4)) ?_
      exact aw_stop ⟨⟨f.vars, [], f.top⟩, (zB (oj z (oj hn_g2 hn_g4))), zZ, same_nil ok hs0⟩
  rintro f' ⟨ok', hv', hval⟩
  have hod : OdOk o (placesL o) := ⟨(ocode_ok ho).1, pl_ok (ocode_ok ho).1, (ocode_ok ho).2⟩
  have ts0 : TS o none [] [] := ⟨fun _ => rfl, fun i hi => absurd hi (Nat.not_lt_zero _), fun e he => absurd he List.not_mem_nil⟩
  have v0' := ok'.v0
  have n128' := ok'.n128
  have t0' := ok'.t0
  have t1' := ok'.t1
  have hN : f'.vars + (f'.nodes.length : Int) = ((o.length + f'.nodes.length : Nat) : Int) := by omega
  have hvo : f'.vars = (o.length : Int) := by omega
  clear hsz z hov
  refine xG ?_
  refine aw_callh (hc := []) (hr := [(g4, .cells 25 3 (ofL [.nils, .nils, .int .i64 0])), (g2, .cells 50 3 (ofL (fmc true f')))]) (new_fh o hod.perm hod.l24) rfl rfl rfl (.refl _) eL ?_
  rintro _ _ ⟨gT, gU, gM, rfl, rfl⟩ _
  refine yS hN ?_
  refine aw_perm (List.perm_append_comm (l₂ := ([(g4, .cells 25 3 (ofL [.nils, .nils, .int .i64 0])), (g2, .cells 50 3 (ofL (fmc true f')))] : Heap))) ?_
  simp only [THp, TH, List.cons_append, List.nil_append]
  refine aw_nd fun hnd => ?_
  simp only [Heap.keys, List.map_cons] at hnd
  replace hnd := ndP_of hnd
  dsimp only [ndP, neA] at hnd
  refine yG (oj hN hnd) ?_
  refine aw_make (n := o.length + f'.nodes.length) (c := o.length + f'.nodes.length) (size := 1) (bytes := 8) (z := [.int .i64 0]) rfl rfl rfl (zE (oj hN hnd)) (zE (oj hN hnd)) rfl (by omega) (zE (oj hN hnd)) (zE (oj hN hnd)) (by omega) (by omega) (by omega) (by omega) (by omega) fun gR hn_gR => ?_
  clear hn_gR
  clear hnd
  simp only [Nat.mul_one]
  rw [make_is]
  refine aw_nd fun hnd => ?_
  simp only [Heap.keys, List.map_cons] at hnd
  replace hnd := ndP_of hnd
  dsimp only [ndP, neA] at hnd
  refine yS (oj hnd hvo) ?_
  refine yG (oj hnd hvo) ?_
  have hp13 : 2 ^ (o.length + 1) ≤ 2 ^ 13 := Nat.pow_le_pow_right (by omega) (by omega)
  have hp14 : 2 ^ (o.length + 2) ≤ 2 ^ 14 := Nat.pow_le_pow_right (by omega) (by omega)
  have hp12 : 2 ^ o.length ≤ 2 ^ 12 := Nat.pow_le_pow_right (by omega) h12
  refine aw_lp (fun y : Nat × Option Nat × List DN × Mem3 × List Int => [(2, .c (.optr g2 0)), (4, .c (.optr g4 0)), (10, .c (.optr gT 0)), (11, .c (.osl gR 1 0 (o.length + f'.nodes.length))), (58, .c (.int .i64 o.length)), (59, .c (.int .i64 y.1))]) (fun y => (gR, .cells 3 (o.length + f'.nodes.length) (isF y.2.2.2.2)) :: (g4, .cells 25 3 (ofL [.nils, .nils, .int .i64 0])) :: (g2, .cells 50 3 (ofL (fmc true f'))) :: THp gT gU gM y.2.1 o (placesL o) y.2.2.1 y.2.2.2.1)
    (fun y => y.1 ≤ o.length ∧ TS o y.2.1 y.2.2.1 y.2.2.2.1 ∧ y.2.2.1.length ≤ y.1 ∧ RefsOk f' (o.length + f'.nodes.length) y.2.2.1 y.2.2.2.2 y.1) (fun y => o.length - y.1) (0, none, [], [], List.replicate (o.length + f'.nodes.length) 0) (zB (oj hnd hvo)) zZ ⟨Nat.zero_le _, ts0, Nat.le_refl _, ⟨List.length_replicate .., fun a ha => by omega⟩⟩ ?_
  clear ts0
  rintro ⟨i, og, ns, mm, zs⟩ ⟨hi, hs, hnl, hz⟩
  dsimp only at hi hs hnl hz ⊢
  have hzl := hz.len
  refine yG (oj hnd hvo) ?_
  refine yF (oj hnd hvo) (fun hb=>?_) fun hb=>?_
  · have hb' : i < o.length := by have := of_decide_eq_true hb; omega
    refine yG (oj hnd hvo) ?_
    refine aw_callh (hc := THp gT gU gM og o (placesL o) ns mm) (hr := [(gR, .cells 3 (o.length + f'.nodes.length) (isF zs)), (g4, .cells 25 3 (ofL [.nils, .nils, .int .i64 0])), (g2, .cells 50 3 (ofL (fmc true f')))]) (tevent_fh (v := (i : Int)) gT gU gM hs (by omega) (by omega) (by omega)) rfl rfl rfl (List.perm_append_comm (l₁ := [(gR, _), (g4, _), (g2, _)])) (zL (oj hnd hvo)) ?_
    rintro _ _ ⟨og1, ns1, mm1, r, e1, e2, e3, e4, rfl, rfl⟩ _
    refine aw_perm List.perm_append_comm ?_
    have he := e2.len
    have hz2 := refs_step hs.tab hz e2 (by omega) e3 (fun s => by rw [e4 s, val_event (by omega)])
    refine yS (oj hnd hvo) ?_
    simp only [THp, TH, List.cons_append, List.nil_append]
    refine yG (oj hnd hvo) ?_
    refine yW (oj hnd hvo) ?_
    refine yS (oj hnd hvo) ?_
    rw [updF_is (by omega)]
    refine yG (oj hnd hvo) ?_
    exact aw_stop ⟨(i + 1, og1, ns1, mm1, zs.set i r), by dsimp only; omega, (zB (oj hnd hvo)), zZ, by dsimp only; omega, e1, by dsimp only; omega, hz2⟩
  · have hb' : i = o.length := by have := of_decide_eq_false hb; omega
    subst hb'
    refine yG (oj hnd hvo) ?_
    clear hb hzl hi
    refine aw_lp (fun y : Nat × Option Nat × List DN × Mem3 × List Int => [(2, .c (.optr g2 0)), (4, .c (.optr g4 0)), (10, .c (.optr gT 0)), (11, .c (.osl gR 1 0 (o.length + f'.nodes.length))), (70, .c (fns true f'.nodes)), (71, .c (.int .i64 f'.nodes.length)), (72, .c (.int .i64 y.1))]) (fun y => (gR, .cells 3 (o.length + f'.nodes.length) (isF y.2.2.2.2)) :: (g4, .cells 25 3 (ofL [.nils, .nils, .int .i64 0])) :: (g2, .cells 50 3 (ofL (fmc true f'))) :: THp gT gU gM y.2.1 o (placesL o) y.2.2.1 y.2.2.2.1)
      (fun y => y.1 ≤ f'.nodes.length ∧ TS o y.2.1 y.2.2.1 y.2.2.2.1 ∧ y.2.2.1.length ≤ o.length + y.1 * (256 * 2 ^ (o.length + 2)) ∧ RefsOk f' (o.length + f'.nodes.length) y.2.2.1 y.2.2.2.2 (o.length + y.1)) (fun y => f'.nodes.length - y.1) (0, og, ns, mm, zs) (zB (oj hnd hvo)) zZ ⟨Nat.zero_le _, hs, by dsimp only; rw [Nat.zero_mul]; omega, hz⟩ ?_
    clear hs hz hnl og ns mm zs
    rintro ⟨k, og, ns, mm, zs⟩ ⟨hk, hs, hnl, hz⟩
    dsimp only at hk hs hnl hz ⊢
    have hzl := hz.len
    have hW : (k + 1) * (256 * 2 ^ (o.length + 2)) = k * (256 * 2 ^ (o.length + 2)) + 256 * 2 ^ (o.length + 2) := Nat.succ_mul ..
    have hW1 : k * (256 * 2 ^ (o.length + 2)) ≤ 128 * (256 * 2 ^ 14) := Nat.mul_le_mul (by omega) (Nat.mul_le_mul_left _ hp14)
    refine yG (oj hnd hvo) ?_
    refine yF (oj hnd hvo) (fun hb=>?_) fun hb=>?_
    · have hk' : k < f'.nodes.length := by have := of_decide_eq_true hb; omega
      refine yG (oj hnd hvo) ?_
      refine yA (oj hnd hvo) fun g14 hn_g14=>?_
      clear hn_g14
      clear hnd
      refine aw_nd fun hnd => ?_
      simp only [THp, TH, List.cons_append, List.nil_append] at hnd
      simp only [Heap.keys, List.map_cons] at hnd
      replace hnd := ndP_of hnd
      dsimp only [ndP, neA] at hnd
      refine yG (oj hnd hvo) ?_
      refine yW (oj hnd hvo) ?_
      refine yS (oj hnd hvo) ?_
      have x1 := ok'.kind k hk'
      have x2 := ok'.ari k hk'
      have x3 := ok'.kc k hk'
      have x4 := ok'.arg k hk'
      have x5 := ok'.len hk'
      have x6 := fun s => val_node ok' (s := s) hk'
      generalize hx0 : f'.nodes.getD k fn0 = x at *
      refine yG (oj hnd (oj hvo hx0)) ?_
      refine aw_lp (fun y : Nat × Option Nat => [(2, .c (.optr g2 0)), (4, .c (.optr g4 0)), (10, .c (.optr gT 0)), (11, .c (.osl gR 1 0 (o.length + f'.nodes.length))), (70, .c (fns true f'.nodes)), (71, .c (.int .i64 f'.nodes.length)), (72, .c (.int .i64 k)), (13, .c (.int .i64 k)), (14, .c (.optr g14 0)), (15, .c (gs y.2 1 y.1)), (78, .c (is true x.args)), (79, .c (.int .i64 x.args.length)), (80, .c (.int .i64 y.1))])
        (fun y => ((g14, .cells 101 3 (ofL [.int .i64 x.kind, .int .i64 x.k, is true x.args])) :: (gR, .cells 3 (o.length + f'.nodes.length) (isF zs)) :: (g4, .cells 25 3 (ofL [.nils, .nils, .int .i64 0])) :: (g2, .cells 50 3 (ofL (fmc true f'))) :: THp gT gU gM og o (placesL o) ns mm) ++ gh y.2 3 y.1 (isF ((x.args.take y.1).map fun a => zs.getD a.toNat 0)))
        (fun y => y.1 ≤ x.args.length ∧ (y.2 = none → y.1 = 0)) (fun y => x.args.length - y.1) (0, none) (zB (oj hnd (oj hvo hx0))) (by
          show List.Sublist (((g14, .cells 101 3 (ofL [.int .i64 x.kind, .int .i64 x.k, is true x.args])) :: (gR, .cells 3 (o.length + f'.nodes.length) (isF zs)) :: (g4, .cells 25 3 (ofL [.nils, .nils, .int .i64 0])) :: (g2, .cells 50 3 (ofL (fmc true f'))) :: THp gT gU gM og o (placesL o) ns mm) ++ []) _
          rw [List.append_nil]
          exact List.Sublist.refl _) ⟨Nat.zero_le _, fun _ => rfl⟩ ?_
      rintro ⟨j, oa⟩ ⟨hj, hoa⟩
      dsimp only at hj hoa ⊢
      simp only [List.cons_append]
      refine yG (oj hnd (oj hvo hx0)) ?_
      refine yF (oj hnd (oj hvo hx0)) (fun h2=>?_) fun h2=>?_
      · have h2' : j < x.args.length := by have := of_decide_eq_true h2; omega
        have ham : x.args.getD j 0 ∈ x.args := by rw [getDZ h2']; exact List.getElem_mem h2'
        obtain ⟨a0, a1⟩ := x4 _ ham
        obtain ⟨i2, hi2⟩ := Int.eq_ofNat_of_zero_le a0
        rw [hi2] at a1
        have htk : x.args.take (j + 1) = x.args.take j ++ [x.args.getD j 0] := by rw [getDZ h2', List.take_succ_eq_append_getElem h2']
        have hlk : ((x.args.take j).map fun a => zs.getD a.toNat 0).length = j := by rw [List.length_map, List.length_take]; omega
        refine yG (oj hnd (oj hvo (oj hx0 hi2))) ?_
        refine aw_push (pre := (g14, .cells 101 3 (ofL [.int .i64 x.kind, .int .i64 x.k, is true x.args])) :: (gR, .cells 3 (o.length + f'.nodes.length) (isF zs)) :: (g4, .cells 25 3 (ofL [.nils, .nils, .int .i64 0])) :: (g2, .cells 50 3 (ofL (fmc true f'))) :: THp gT gU gM og o (placesL o) ns mm) rfl rfl rfl rfl rfl rfl rfl (zE (oj hnd (oj hvo (oj hx0 hi2)))) (zE (oj hnd (oj hvo (oj hx0 hi2)))) (by rfl) (by omega) (by omega) (zE (oj hnd (oj hvo (oj hx0 hi2)))) (by omega) (by exact hoa) (zE (oj hnd (oj hvo (oj hx0 hi2)))) (by rfl) (by rfl) (by first | rfl | simp only [Nat.mul_one, List.nil_append, List.cons_append] <;> rfl) (by unfold maxLen; omega) (by omega) (by exact is_push hlk (zs.getD i2 0)) fun g hn_g => ?_
        replace hn_g := Heap.ne_of hn_g
        first | dsimp only [Heap.ne, gh] at hn_g | dsimp only [Heap.ne] at hn_g | skip
        refine yS (oj hnd (oj hvo (oj hx0 (oj hi2 hn_g)))) ?_
        refine yG (oj hnd (oj hvo (oj hx0 (oj hi2 hn_g)))) ?_
        refine aw_stop ⟨(j + 1, some g), by dsimp only; omega, (zB (oj hnd (oj hvo (oj hx0 (oj hi2 hn_g))))), ?_, by dsimp only; omega, fun e => (by cases e)⟩
        dsimp only
        rw [htk, List.map_append, hi2]
        exact List.Sublist.refl _
      · have h2' : j = x.args.length := by have := of_decide_eq_false h2; omega
        subst h2'
        rw [List.take_length]
        have hlm : (x.args.map fun a => zs.getD a.toNat 0).length = x.args.length := List.length_map ..
        have hrs : ∀ r ∈ x.args.map fun a => zs.getD a.toNat 0, RefOk ns r := fun r hr => by
          obtain ⟨a, ha, rfl⟩ := List.mem_map.1 hr
          obtain ⟨a0, a1⟩ := x4 a ha
          exact (hz.at' a.toNat (by omega)).1
        have hval2 : ∀ s, nodeV (evalD ns s) ⟨x.kind, x.k, x.args.map fun a => zs.getD a.toNat 0⟩ = valF f' s ((o.length + k : Nat) : Int) := fun s => by
          rw [show ((o.length + k : Nat) : Int) = f'.vars + k from by omega, x6 s]
          unfold nodeV
          dsimp only
          rw [cntV_map (v := evalD ns s) (w := valF f' s) (fun a ha => by
            obtain ⟨a0, a1⟩ := x4 a ha
            rw [(hz.at' a.toNat (by omega)).2 s, show ((a.toNat : Nat) : Int) = a from by omega]), List.length_map]
        generalize (x.args.map fun a => zs.getD a.toNat 0) = rs at *
        refine aw_nd fun hnd2 => ?_
        refine aw_frzg (t := 15) (n := x.args.length) (s := 1) (e := 3) (f := isF rs) (pre := (g14, .cells 101 3 (ofL [.int .i64 x.kind, .int .i64 x.k, is true x.args])) :: (gR, .cells 3 (o.length + f'.nodes.length) (isF zs)) :: (g4, .cells 25 3 (ofL [.nils, .nils, .int .i64 0])) :: (g2, .cells 50 3 (ofL (fmc true f'))) :: THp gT gU gM og o (placesL o) ns mm) (zE (oj hnd (oj hvo hx0))) hoa (by simp only [Nat.mul_one, List.cons_append]) (fun g e hm => ?_) (fun g h => by have := (hC g).1 h; simp [Heap.keys] at this) rfl ?_
        · subst e
          have h3 : (Heap.keys (((g14, .cells 101 3 (ofL [.int .i64 x.kind, .int .i64 x.k, is true x.args])) :: (gR, .cells 3 (o.length + f'.nodes.length) (isF zs)) :: (g4, .cells 25 3 (ofL [.nils, .nils, .int .i64 0])) :: (g2, .cells 50 3 (ofL (fmc true f'))) :: THp gT gU gM og o (placesL o) ns mm) ++ gh (some g) 3 x.args.length (isF rs))).Nodup := hnd2
          unfold Heap.keys at h3
          rw [List.map_append, List.nodup_append] at h3
          exact h3.2.2 g hm g (by simp [gh]) rfl
        clear hnd2
        have hbn := bnode_fh gT gU gM hod hs x rs x1.1 x1.2 (by rw [hlm]; exact x2) (by unfold kcode at x3 ⊢; dsimp only; rw [hlm]; exact x3) (by omega) hrs
        dsimp only [is] at hbn
        rw [hlm] at hbn
        have hok2 : (o.length : Int) + (k : Int) = ((o.length + k : Nat) : Int) := by omega
        refine yS (oj hnd (oj hvo (oj hx0 hok2))) ?_
        refine yG (oj hnd (oj hvo (oj hx0 hok2))) ?_
        refine aw_cw ([(gR, .cells 3 (o.length + f'.nodes.length) (isF zs)), (g14, .cells 101 3 (ofL [.int .i64 x.kind, .int .i64 x.k, is true x.args])), (g2, .cells 50 3 (ofL (fmc true f')))]) [(0,0),(1,0),(2,0),(3,0),(4,0),(5,0),(6,0),(7,0),(8,1),(9,0),(10,2)] ty_mixed (by kernel_rfl) eI ?_
        refine yG (oj hnd (oj hvo (oj hx0 hok2))) ?_
        refine cw_callh (hc := THp gT gU gM og o (placesL o) ns mm) (hr := [(g14, .cells 101 3 (ofL [.int .i64 x.kind, .int .i64 x.k, is true x.args])), (gR, .cells 3 (o.length + f'.nodes.length) (isF zs)), (g4, .cells 25 3 (ofL [.nils, .nils, .int .i64 0])), (g2, .cells 50 3 (ofL (fmc true f')))]) rfl hbn rfl rfl rfl (List.perm_append_comm (l₁ := [(g14, _), (gR, _), (g4, _), (g2, _)])) (zL (oj hnd (oj hvo (oj hx0 hok2)))) (by
          rintro _ _ ⟨_, _, _, _, _, _, _, _, rfl, rfl⟩; exact has0_app2 eI) ?_ (hm := .inr ⟨rfl, rfl⟩)
        rintro _ _ ⟨og2, ns2, mm2, r, e1, e2, e3, e4, rfl, rfl⟩ _
        have he2 := e2.len
        have hz2 := refs_step hs.tab hz e2 (by omega) e3 (fun s => by rw [e4 s]; exact hval2 s)
        refine yS (oj hnd (oj hvo (oj hx0 hok2))) ?_
        refine cw_perm List.perm_append_comm ?_
        simp only [List.cons_append, List.nil_append]
        refine yS (oj hnd (oj hvo (oj hx0 hok2))) ?_
        refine yG (oj hnd (oj hvo (oj hx0 hok2))) ?_
        refine cw_store (FP' := []) rfl rfl rfl rfl rfl (zE (oj hnd (oj hvo (oj hx0 hok2)))) (zE (oj hnd (oj hvo (oj hx0 hok2)))) (zE (oj hnd (oj hvo (oj hx0 hok2)))) (zE (oj hnd (oj hvo (oj hx0 hok2)))) (fun _ e => by cases e) rfl rfl (by show (o.length + k) + 1 ≤ _; omega) rfl has0_nil ?_
        simp only [AV.cells]
        rw [updF_is (by omega)]
        have hgz : (zs.set (o.length + k) r).getD (o.length + k) 0 = r := getZset (by omega)
        refine yS (oj hnd (oj hvo (oj hx0 (oj hok2 hgz)))) ?_
        refine yG (oj hnd (oj hvo (oj hx0 (oj hok2 hgz)))) ?_
        refine aw_callh (hc := THp gT gU gM og2 o (placesL o) ns2 mm2) (hr := [(g14, .cells 101 3 (ofL [.int .i64 x.kind, .int .i64 x.k, is true x.args])), (gR, .cells 3 (o.length + f'.nodes.length) (isF (zs.set (o.length + k) r))), (g4, .cells 25 3 (ofL [.nils, .nils, .int .i64 0])), (g2, .cells 50 3 (ofL (fmc true f')))]) (small_fh gT gU gM hod e1 (by omega) e3 (most := 4096) (by omega)) rfl rfl rfl (List.perm_append_comm (l₁ := [(g14, _), (gR, _), (g4, _), (g2, _)])) (zL (oj hnd (oj hvo (oj hx0 (oj hok2 hgz))))) ?_
        rintro _ _ ⟨rfl, rfl⟩ _
        refine aw_perm List.perm_append_comm ?_
        refine yS (oj hnd (oj hvo (oj hx0 (oj hok2 hgz)))) ?_
        simp only [THp, TH, List.cons_append, List.nil_append]
        refine yG (oj hnd (oj hvo (oj hx0 (oj hok2 hgz)))) ?_
        refine yN (oj hnd (oj hvo (oj hx0 (oj hok2 hgz)))) ?_
        refine yG (oj hnd (oj hvo (oj hx0 (oj hok2 hgz)))) ?_
        exact aw_stop ⟨(k + 1, og2, ns2, mm2, zs.set (o.length + k) r), by dsimp only; omega, (zB (oj hnd (oj hvo (oj hx0 (oj hok2 hgz))))), List.Sublist.cons _ (List.Sublist.refl _), by dsimp only; omega, e1, by dsimp only; omega, hz2⟩
    · have hk' : k = f'.nodes.length := by have := of_decide_eq_false hb; omega
      subst hk'
      obtain ⟨tp, htp⟩ := Int.eq_ofNat_of_zero_le t0'
      obtain ⟨q1, q2⟩ := hz.at' tp (by omega)
      refine yG (oj hnd (oj hvo htp)) ?_
      refine aw_callh (hc := THp gT gU gM og o (placesL o) ns mm) (hr := [(gR, .cells 3 (o.length + f'.nodes.length) (isF zs)), (g4, .cells 25 3 (ofL [.nils, .nils, .int .i64 0])), (g2, .cells 50 3 (ofL (fmc true f')))]) (export_fh gT gU gM hod hs (by omega) q1) rfl rfl rfl (List.perm_append_comm (l₁ := [(gR, _), (g4, _), (g2, _)])) (zL (oj hnd (oj hvo htp))) ?_
      rintro _ _ ⟨rs, os, y, hex, rfl, rfl⟩ _
      refine aw_perm List.perm_append_comm ?_
      refine yS (oj hnd (oj hvo htp)) ?_
      refine yG (oj hnd (oj hvo htp)) ?_
      refine yW (oj hnd (oj hvo htp)) ?_
      refine yS (oj hnd (oj hvo htp)) ?_
      refine yG (oj hnd (oj hvo htp)) ?_
      refine aw_rethw (h' := []) rfl (List.nil_sublist _) (fun R hR => ?_)
      simp only [go_sem, hnd, hvo, htp]
      refine hR _ rfl ?_
      clear hR R
      have DO := dout_of ho h12 hod.mem hs.tab q1 hex
      exact ⟨rfl, _, ⟨DO.order, DO.code, fun s => by rw [DO.ev s, ← hval s, htp]; exact q2 s⟩, rfl⟩
end Go.Proofs.YtcoflhkcpnoaaaaGreat
namespace Go.PN
open Go.AI
theorem trim_coh (f : FM) : ∀ k, (trTo f k).all (fun x => !(decide (x.kind = 1) || decide (x.kind = 5))) = cohTo f k
  | 0 => rfl
  | k + 1 => by
    rw [trTo, cohTo, ← trim_coh f k]
    cases hm : (belL f).getD (f.vars.toNat + k) false
    · simp
    · simp
end Go.PN
namespace Go.Proofs.YtcoflhkcpnoaaaaGreat
open Go.AI Go.PN
attribute [local irreducible] aw Fa Fh DrK
set_option maxRecDepth 100000 in
set_option maxHeartbeats 1600000 in
theorem csyntax_fa (f : FM) (hn : f.nodes.length ≤ 1099511627776) (ha : ArgsOk f) (hc : fcode f = 0) : Fa Tryz.prog 93 [.agg (fmc false f)] (.tup [.c (.bool (cohTo f f.nodes.length)), .c .nilI]) := by
  have htc := trim_coh f f.nodes.length
  have n128 := (trim_ok (fr_ok hc)).n128
  rw [show trTo f f.nodes.length = (trimF f).nodes from rfl] at htc
  have htr := ftrim_fh f hn ha hc
  refine fa_of_body Tryz.func93 rfl rfl (by simp [Tryz.ntmps93]) fun C hC => ?_
  simp only [initS, Nat.reduceAdd]
  refine xG ?_
  refine xB fun g1 hn_g1=>?_
  refine yG hn_g1 ?_
  refine aw_callh (hc := []) (hr := [(g1, .cells 50 3 (ofL (fmc false f)))]) htr rfl rfl rfl (.refl _) (zL hn_g1) ?_
  rintro _ _ ⟨rfl, rfl⟩ _
  generalize trimF f = t at *
  refine yS hn_g1 ?_
  refine yG hn_g1 ?_
  refine yA hn_g1 fun g4 hn_g4=>?_
  refine yG (oj hn_g1 hn_g4) ?_
  refine yW (oj hn_g1 hn_g4) ?_
  refine yS (oj hn_g1 hn_g4) ?_
  refine yG (oj hn_g1 hn_g4) ?_
  refine yN (oj hn_g1 hn_g4) ?_
  refine yG (oj hn_g1 hn_g4) ?_
  refine aw_lp (fun k : Nat => [(17, .c (fns true t.nodes)), (18, .c (.int .i64 t.nodes.length)), (19, .c (.int .i64 k))]) (fun _ => []) (fun k => k ≤ t.nodes.length ∧ (t.nodes.take k).all (fun x => !(decide (x.kind = 1) || decide (x.kind = 5))) = true) (fun k => t.nodes.length - k) 0 (zB (oj hn_g1 hn_g4)) (List.nil_sublist _) ⟨Nat.zero_le _, rfl⟩ ?_
  rintro k ⟨hk, hok⟩
  refine yG (oj hn_g1 hn_g4) ?_
  refine yF (oj hn_g1 hn_g4) (fun h1=>?_) fun h1=>?_
  · have h1' : k < t.nodes.length := by have := of_decide_eq_true h1; omega
    have hst : (t.nodes.take (k + 1)).all (fun x => !(decide (x.kind = 1) || decide (x.kind = 5))) = !(decide ((t.nodes.getD k fn0).kind = 1) || decide ((t.nodes.getD k fn0).kind = 5)) := by
      rw [List.take_succ_eq_append_getElem h1', List.all_append, hok, List.getD_eq_getElem?_getD, List.getElem?_eq_getElem h1']
      simp
    have hbad : (decide ((t.nodes.getD k fn0).kind = 1) || decide ((t.nodes.getD k fn0).kind = 5)) = true → cohTo f f.nodes.length = false := fun h => by
      rw [← htc, List.all_eq_false]
      refine ⟨t.nodes.getD k fn0, ?_, by rw [h]; simp⟩
      rw [List.getD_eq_getElem?_getD, List.getElem?_eq_getElem h1']
      exact List.getElem_mem _
    refine yG (oj hn_g1 hn_g4) ?_
    refine yA (oj hn_g1 hn_g4) fun g7 hn_g7=>?_
    generalize t.nodes.getD k fn0 = y at *
    refine yG (oj hn_g1 (oj hn_g4 hn_g7)) ?_
    refine yW (oj hn_g1 (oj hn_g4 hn_g7)) ?_
    refine yS (oj hn_g1 (oj hn_g4 hn_g7)) ?_
    refine aw_conv1 (f' := ofL [.int .i64 y.kind, .int .i64 y.k, is true y.args]) (fun j hj => by match j, hj with | 0, _ => rfl | 1, _ => rfl | 2, _ => rfl) ?_
    refine yG (oj hn_g1 (oj hn_g4 hn_g7)) ?_
    refine aw_split 26 (zE (oj hn_g1 (oj hn_g4 hn_g7))) (fun h4 => ?_) (fun h4 => ?_) <;> refine yS (oj hn_g1 (oj hn_g4 hn_g7)) ?_
    · refine yG (oj hn_g1 (oj hn_g4 hn_g7)) ?_
      refine yP (oj hn_g1 (oj hn_g4 hn_g7)) ?_
      refine yG (oj hn_g1 (oj hn_g4 hn_g7)) ?_
      rw [hbad (by rw [show decide (y.kind = 1) = true from by simpa using h4]; rfl)]
      refine yT hC (oj hn_g1 (oj hn_g4 hn_g7)) ?_
      exact .tup ⟨.c (.bool _), .c .nilI, trivial⟩
    · have h4' : decide (y.kind = 1) = false := by simpa using h4
      refine yG (oj hn_g1 (oj hn_g4 hn_g7)) ?_
      refine yF (oj hn_g1 (oj hn_g4 hn_g7)) (fun h5=>?_) fun h5=>?_
      · refine yG (oj hn_g1 (oj hn_g4 hn_g7)) ?_
        rw [hbad (by rw [h4', show decide (y.kind = 5) = true from by simpa using h5]; rfl)]
        refine yT hC (oj hn_g1 (oj hn_g4 hn_g7)) ?_
        exact .tup ⟨.c (.bool _), .c .nilI, trivial⟩
      · refine yG (oj hn_g1 (oj hn_g4 hn_g7)) ?_
        exact aw_stop ⟨k + 1, by omega, (zB (oj hn_g1 (oj hn_g4 hn_g7))), List.nil_sublist _, by omega, by rw [hst, h4', show decide (y.kind = 5) = false from by simpa using h5]; rfl⟩
  · have h1' : k = t.nodes.length := by have := of_decide_eq_false h1; omega
    subst h1'
    rw [List.take_length] at hok
    refine yG (oj hn_g1 hn_g4) ?_
    rw [← htc, hok]
    refine yT hC (oj hn_g1 hn_g4) ?_
    exact .tup ⟨.c (.bool _), .c .nilI, trivial⟩
end Go.Proofs.YtcoflhkcpnoaaaaGreat
namespace Go.PN
open Go.AI
theorem coh_monoF {f : FM} (ok : FrOk f) (hc : cohTo f f.nodes.length = true) (n : Nat) : MonoF n fun s => valF f s f.top := fun i _ s h =>
  coh_mono ok hc (fun j hj => by
    rw [setB_bit] at hj ⊢
    split
    · rfl
    · rename_i e
      rw [if_neg e] at hj; exact hj) h
def CutL (f : Nat → Bool) (l : List Nat) : Prop := Srt l ∧ ∀ s, s ∈ l ↔ MinT f s
theorem sol_cnt {n : Nat} {F : Nat → Bool} {z : ZD} (hz : ZOut n F z) (h : n ≤ 10) : cntZ z.nodes z.root ≤ 1024 := by
  have h1 := cntZ_le hz.tab z.root hz.ref
  have h2 : 2 ^ (n - (evZ n z.nodes z.root).toNat) ≤ 2 ^ 10 := Nat.pow_le_pow_right (by omega) (by omega)
  have h3 : ((2 : Int) ^ (n - (evZ n z.nodes z.root).toNat)) = ((2 ^ (n - (evZ n z.nodes z.root).toNat) : Nat) : Int) := by simp
  rw [h3] at h1
  have h4 : (2 : Nat) ^ 10 = 1024 := rfl
  omega
theorem out_mem {n : Nat} {F : Nat → Bool} {z : ZD} (hz : ZOut n F z) (s : Nat) : s ∈ sortN (setsZ z.nodes z.root 0) ↔ F s = true := by
  rw [sort_mem, sets_mem hz.tab z.root hz.ref 0 (fun j _ => Nat.zero_testBit j), ← hz.mem]
  constructor
  · rintro ⟨t, ht, rfl⟩
    rw [Nat.zero_or]; exact ht
  · exact fun h => ⟨s, h, by rw [Nat.zero_or]⟩
end Go.PN

namespace Go.PN
open Go.AI
structure K33 (f : FM) (o : List Int) : Prop where
  c : fcode f = 0
  oc : ocode o f.vars = 0
  coh : cohTo f f.nodes.length = true
theorem ocode_len {o : List Int} {v : Int} (h : ocode o v = 0) : (o.length : Int) = v := by
  unfold ocode at h
  by_cases h1 : v < 0 ∨ 24 < v
  · rw [if_pos h1] at h; cases h
  · rw [if_neg h1] at h
    by_cases h2 : (o.length : Int) ≠ v
    · rw [if_pos h2] at h; cases h
    · exact Classical.not_not.1 h2
theorem out_cut {n : Nat} {F : Nat → Bool} {z : ZD} (hz : ZOut n F z) {f : Nat → Bool} (hF : ∀ s, F s = true ↔ MinT f s) : CutL f (sortN (setsZ z.nodes z.root 0)) := ⟨sort_srt _, fun s => by rw [out_mem hz, hF]⟩
theorem out_lt {n : Nat} {F : Nat → Bool} {z : ZD} (hz : ZOut n F z) : ∀ s ∈ sortN (setsZ z.nodes z.root 0), s < 2 ^ n := fun s hs => by
  have hm := (out_mem hz s).1 hs
  rw [← hz.mem] at hm
  have := mem_bits hz.tab z.root hz.ref s hm
  refine Nat.lt_pow_two_of_testBit _ fun j hj => ?_
  cases hb : s.testBit j with
  | false => rfl
  | true => have := (this j hb).2; omega
end Go.PN
namespace Go.Proofs.YtcoflhkcpnoaaaaGreat
open Go.AI Go.PN
attribute [local irreducible] aw Fa Fh DrK
set_option maxRecDepth 100000 in
set_option maxHeartbeats 3200000 in
theorem csolve_fh (f : FM) (o : List Int) (hk : K33 f o) (h10 : f.vars ≤ 10) (hn : f.nodes.length ≤ 1099511627776) (ha : ArgsOk f) :
    Fh Tryz.prog 56 [] [.agg (fmc false f), .c (is false o)] (fun x h => h = [] ∧ ∃ z, SolOut f.vars.toNat (fun s => valF f s f.top) z ∧ x = .tup [.agg (zdc true z), .c .nilI]) := by
  have ok := fr_ok hk.c
  have v0 := ok.v0
  have n128 := ok.n128
  have t0 := ok.t0
  have t1 := ok.t1
  have hol := ocode_len hk.oc
  have z1 := ieq_t hk.c
  have z2 := ieq_t hk.oc
  have hoo : ocode o o.length = 0 := by rw [hol]; exact hk.oc
  have hbl := build_fh f hn ha hk.c o hoo (by omega) (by omega)
  refine fh_of_body Tryz.func56 rfl rfl (by simp [Tryz.ntmps56]) fun C hC => ?_
  simp only [initS, Nat.reduceAdd]
  refine yG (oj z1 z2) ?_
  refine yB (oj z1 z2) fun g2 hn_g2=>?_
  refine yG (oj z1 (oj z2 hn_g2)) ?_
  refine yA (oj z1 (oj z2 hn_g2)) fun g4 hn_g4=>?_
  refine yG (oj z1 (oj z2 (oj hn_g2 hn_g4))) ?_
  refine yC (oj z1 (oj z2 (oj hn_g2 hn_g4))) (fcheck_fa f hn ha ?_ ?_) ?_
  · omega
  · omega
  refine yG (oj z1 (oj z2 (oj hn_g2 hn_g4))) ?_
  refine yN (oj z1 (oj z2 (oj hn_g2 hn_g4))) ?_
  refine yG (oj z1 (oj z2 (oj hn_g2 hn_g4))) ?_
  refine yC (oj z1 (oj z2 (oj hn_g2 hn_g4))) (ocheck_fa o f.vars ?_) ?_
  · omega
  refine yG (oj z1 (oj z2 (oj hn_g2 hn_g4))) ?_
  refine yN (oj z1 (oj z2 (oj hn_g2 hn_g4))) ?_
  refine yG (oj z1 (oj z2 (oj hn_g2 hn_g4))) ?_
  refine yC (oj z1 (oj z2 (oj hn_g2 hn_g4))) (csyntax_fa f hn ha hk.c) ?_
  rw [hk.coh]
  refine yS (oj z1 (oj z2 (oj hn_g2 hn_g4))) ?_
  refine yG (oj z1 (oj z2 (oj hn_g2 hn_g4))) ?_
  refine yN (oj z1 (oj z2 (oj hn_g2 hn_g4))) ?_
  refine yG (oj z1 (oj z2 (oj hn_g2 hn_g4))) ?_
  refine yN (oj z1 (oj z2 (oj hn_g2 hn_g4))) ?_
  refine yG (oj z1 (oj z2 (oj hn_g2 hn_g4))) ?_
  refine aw_callh (hc := []) (hr := [(g4, .cells 33 2 (ofL [.nils, .int .i64 0])), (g2, .cells 50 3 (ofL (fmc false f)))]) hbl rfl rfl rfl (.refl _) (zL (oj z1 (oj z2 (oj hn_g2 hn_g4)))) ?_
  rintro _ _ ⟨rfl, D, hD, rfl⟩ _
  have hDl : D.order.length = f.vars.toNat := by rw [hD.order]; omega
  have hDf : (fun s => evalD D.nodes s D.root) = fun s => valF f s f.top := funext hD.ev
  refine yS (oj z1 (oj z2 (oj hn_g2 hn_g4))) ?_
  refine yG (oj z1 (oj z2 (oj hn_g2 hn_g4))) ?_
  refine yA (oj z1 (oj z2 (oj hn_g2 hn_g4))) fun g10 hn_g10=>?_
  refine yG (oj z1 (oj z2 (oj hn_g2 (oj hn_g4 hn_g10)))) ?_
  refine yW (oj z1 (oj z2 (oj hn_g2 (oj hn_g4 hn_g10)))) ?_
  refine yS (oj z1 (oj z2 (oj hn_g2 (oj hn_g4 hn_g10)))) ?_
  refine yG (oj z1 (oj z2 (oj hn_g2 (oj hn_g4 hn_g10)))) ?_
  refine yN (oj z1 (oj z2 (oj hn_g2 (oj hn_g4 hn_g10)))) ?_
  refine yG (oj z1 (oj z2 (oj hn_g2 (oj hn_g4 hn_g10)))) ?_
  refine aw_callh (hc := []) (hr := [(g10, .cells 25 3 (ofL (dgc true D))), (g4, .cells 33 2 (ofL [.nils, .int .i64 0])), (g2, .cells 50 3 (ofL (fmc false f)))]) (csol_fh D hD.code (by omega)) rfl rfl rfl (.refl _) (zL (oj z1 (oj z2 (oj hn_g2 (oj hn_g4 hn_g10))))) ?_
  rintro _ _ ⟨rfl, hcs⟩ _
  rw [hDf, hDl] at hcs
  rcases hcs with ⟨hnm, rfl⟩ | ⟨hm, z, hz, rfl⟩
  · exact absurd (coh_monoF ok hk.coh _) hnm
  refine yS (oj z1 (oj z2 (oj hn_g2 (oj hn_g4 hn_g10)))) ?_
  refine yG (oj z1 (oj z2 (oj hn_g2 (oj hn_g4 hn_g10)))) ?_
  refine yW (oj z1 (oj z2 (oj hn_g2 (oj hn_g4 hn_g10)))) ?_
  refine yS (oj z1 (oj z2 (oj hn_g2 (oj hn_g4 hn_g10)))) ?_
  refine yG (oj z1 (oj z2 (oj hn_g2 (oj hn_g4 hn_g10)))) ?_
  refine aw_rethw (h' := []) rfl (List.nil_sublist _) (fun R hR => ?_)
  simp only [go_sem, z1, z2, hn_g2, hn_g4, hn_g10]
  refine hR _ rfl ?_
  clear hR R
  exact ⟨rfl, z, hz, rfl⟩
set_option maxRecDepth 100000 in
set_option maxHeartbeats 1600000 in
theorem Cuts_fh (f : FM) (o : List Int) (hk : K33 f o) (h10 : f.vars ≤ 10) (hn : f.nodes.length ≤ 1099511627776) (ha : ArgsOk f) :
    Fh Tryz.prog 26 [] [.agg (fmc false f), .c (is false o)] (fun x h => h = [] ∧ ∃ l, CutL (fun s => valF f s f.top) l ∧ l.length ≤ 1024 ∧ (∀ s ∈ l, s < 2 ^ f.vars.toNat) ∧ x = .tup [.c (is true (zL l)), .c .nilI]) := by
  refine fh_of_body Tryz.func26 rfl rfl (by simp [Tryz.ntmps26]) fun C hC => ?_
  simp only [initS, Nat.reduceAdd]
  refine xG ?_
  refine xB fun g2 hn_g2=>?_
  refine yG hn_g2 ?_
  refine aw_callh (hc := []) (hr := [(g2, .cells 50 3 (ofL (fmc false f)))]) (csolve_fh f o hk h10 hn ha) rfl rfl rfl (.refl _) (zL hn_g2) ?_
  rintro _ _ ⟨rfl, z, ⟨F, hz, hF, hzn⟩, rfl⟩ _
  have hct := sol_cnt hz (by omega)
  refine yS hn_g2 ?_
  refine yG hn_g2 ?_
  refine yA hn_g2 fun g6 hn_g6=>?_
  refine yG (oj hn_g2 hn_g6) ?_
  refine yW (oj hn_g2 hn_g6) ?_
  refine yS (oj hn_g2 hn_g6) ?_
  refine yG (oj hn_g2 hn_g6) ?_
  refine yN (oj hn_g2 hn_g6) ?_
  refine yG (oj hn_g2 hn_g6) ?_
  refine aw_callh (hc := []) (hr := [(g6, .cells 33 2 (ofL (zdc true z))), (g2, .cells 50 3 (ofL (fmc false f)))]) (zlist_fh z hz (by omega) hzn hct) rfl rfl rfl (.refl _) (zL (oj hn_g2 hn_g6)) ?_
  rintro _ _ ⟨rfl, rfl⟩ _
  refine yS (oj hn_g2 hn_g6) ?_
  refine yG (oj hn_g2 hn_g6) ?_
  refine aw_rethw (h' := []) rfl (List.nil_sublist _) (fun R hR => ?_)
  simp only [go_sem, hn_g2, hn_g6]
  refine hR _ rfl ?_
  clear hR R
  refine ⟨rfl, _, out_cut hz hF, ?_, out_lt hz, rfl⟩
  rw [sort_len (sets_nodup hz.tab z.root hz.ref 0 fun j _ => Nat.zero_testBit j)]
  unfold cntZ at hct
  omega
end Go.Proofs.YtcoflhkcpnoaaaaGreat
