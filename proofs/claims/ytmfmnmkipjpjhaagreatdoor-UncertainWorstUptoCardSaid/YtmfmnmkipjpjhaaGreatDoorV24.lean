/- Texts of one proof, laid one behind the other by a program (merge.py): Bld4, Wlk1, Wlk2, Top1, Top2, Shan7, Law4, Law10, Law15, PRis, Coh, RMin, AiCwP, Law16. -/
import Derived.Test.YtmfmnmkipjpjhaaGreatDoorV22
import Derived.Test.YtmfmnmkipjpjhaaGreatDoorV23
import Derived.Test.YtmfmnmkipjpjhaaGreatDoorV16
import Derived.Test.YtmfmnmkipjpjhaaGreatDoorV17
import Derived.Test.YtmfmnmkipjpjhaaGreatDoorV07
import Derived.Test.YtmfmnmkipjpjhaaGreatDoorV14
import Derived.Test.YtmfmnmkipjpjhaaGreatDoorV08
set_option linter.unusedSimpArgs false
set_option linter.unusedVariables false
/- diagram.Build. -/
namespace Go.Proofs.YtmfmnmkipjpjhaaGreatDoor
open Go.AI Go.PN
attribute [local irreducible] aw Fa Fh DrK
/-- What Build goes on with: a formula in order, of the same events, with the same top. -/
structure Same (f f' : FM) : Prop where
  ok : FrOk f'
  vars : f'.vars = f.vars
  val : ∀ s, valF f' s f'.top = valF f s f.top
theorem same_trim {f : FM} (ok : FrOk f) : Same f (trimF f) := ⟨trim_ok ok, rfl, trim_top ok⟩
theorem same_nil {f : FM} (ok : FrOk f) (h : szTo f f.nodes.length = 0) : Same f ⟨f.vars, [], f.top⟩ := by
  have ht := sz_zero ok h
  refine ⟨⟨ok.v0, ok.v24, by simp, fun i hi => ?_, fun i hi => ?_, fun i hi => ?_, fun i hi => ?_, ok.t0, by simpa using ht⟩, rfl, fun s => ?_⟩
  · exact absurd hi (by simp)
  · exact absurd hi (by simp)
  · exact absurd hi (by simp)
  · exact absurd hi (by simp)
  · rw [val_event (f := f) ht]
    exact val_event (f := ⟨f.vars, [], f.top⟩) ht
/-- The references of the first arguments. -/
structure RefsOk (f : FM) (n : Nat) (ns : List DN) (zs : List Int) (b : Nat) : Prop where
  len : zs.length = n
  at' : ∀ a, a < b → RefOk ns (zs.getD a 0) ∧ ∀ s, evalD ns s (zs.getD a 0) = valF f s a
theorem refs_step {o : List Int} {f : FM} {n m b : Nat} {ns ns' : List DN} {zs : List Int} (ht : TabOk o ns) (h : RefsOk f n ns zs b) (hl : Later o ns ns' m) (hb : b < n) {r : Int} (hr : RefOk ns' r) (hv : ∀ s, evalD ns' s r = valF f s b) : RefsOk f n ns' (zs.set b r) (b + 1) := by
  have hz := h.len
  refine ⟨by rw [List.length_set]; exact hz, fun a ha => ?_⟩
  by_cases e : a = b
  · subst e
    rw [getZset (by omega)]
    exact ⟨hr, hv⟩
  · rw [getZset' e]
    obtain ⟨h1, h2⟩ := h.at' a (by omega)
    exact ⟨hl.ref h1, fun s => by rw [hl.eval ht h1, h2 s]⟩
set_option maxRecDepth 100000 in
set_option maxHeartbeats 12800000 in
theorem build_fh (f : FM) (hn : f.nodes.length ≤ 1099511627776) (ha : ArgsOk f) (hc : fcode f = 0) (o : List Int) (ho : ocode o o.length = 0) (hol : o.length = f.vars.toNat) (h12 : o.length ≤ 12) : Fh Tryz.prog 66 [] [.agg (fmc false f), .c (is false o)] (fun x h => h = [] ∧ ∃ D, DOut o (fun s => valF f s f.top) D ∧ x = .tup [.agg (dgc true D), .c .nilI]) := by
  have ok := fr_ok hc
  have v0 := ok.v0
  have v24 := ok.v24
  have n128 := ok.n128
  have hov : ocode o f.vars = 0 := by rw [show f.vars = (o.length : Int) from by omega]; exact ho
  have z := ieq_t hov
  have hsz := szTo_le f f.nodes.length
  refine fh_of_body Tryz.func66 rfl rfl (by simp [Tryz.ntmps66]) fun C hC => ?_
  simp only [initS, Nat.reduceAdd]
  refine yG z ?_
  refine yB z fun g2 hn_g2=>?_
  refine yG (oj z hn_g2) ?_
  refine yA (oj z hn_g2) fun g4 hn_g4=>?_
  refine yG (oj z (oj hn_g2 hn_g4)) ?_
  refine aw_callq (fsize_fa f hn ha hc) rfl rfl rfl (zL (oj z (oj hn_g2 hn_g4))) ?_
  refine yS (oj z (oj hn_g2 hn_g4)) ?_
  refine yG (oj z (oj hn_g2 hn_g4)) ?_
  refine yN (oj z (oj hn_g2 hn_g4)) ?_
  refine yG (oj z (oj hn_g2 hn_g4)) ?_
  refine aw_callq (ocheck_fa o f.vars (by omega)) rfl rfl rfl (zL (oj z (oj hn_g2 hn_g4))) ?_
  refine yS (oj z (oj hn_g2 hn_g4)) ?_
  refine yG (oj z (oj hn_g2 hn_g4)) ?_
  refine yN (oj z (oj hn_g2 hn_g4)) ?_
  refine yG (oj z (oj hn_g2 hn_g4)) ?_
  refine aw_cut (fun f' : FM => [(1, .c (is false o)), (2, .c (.optr g2 0)), (4, .c (.optr g4 0))]) (fun f' => [(g4, .cells 98 3 (ofL [.nils, .nils, .int .i64 0])), (g2, .cells 24 3 (ofL (fmc true f')))]) (fun f' => Same f f') ?_ ?_
  · refine yF (oj z (oj hn_g2 hn_g4)) (fun hs=>?_) fun hs=>?_
    · refine yG (oj z (oj hn_g2 hn_g4)) ?_
      refine aw_callh (hc := []) (hr := [(g4, .cells 98 3 (ofL [.nils, .nils, .int .i64 0])), (g2, .cells 24 3 (ofL (fmc false f)))]) (ftrim_fh f hn ha hc) rfl rfl rfl (.refl _) (zL (oj z (oj hn_g2 hn_g4))) ?_
      rintro _ _ ⟨rfl, rfl⟩ _
      refine yS (oj z (oj hn_g2 hn_g4)) ?_
      refine yG (oj z (oj hn_g2 hn_g4)) ?_
      refine yW (oj z (oj hn_g2 hn_g4)) ?_
      refine yS (oj z (oj hn_g2 hn_g4)) ?_
      refine yG (oj z (oj hn_g2 hn_g4)) ?_
      refine yN (oj z (oj hn_g2 hn_g4)) ?_
      refine yG (oj z (oj hn_g2 hn_g4)) ?_
      exact aw_stop ⟨trimF f, (zB (oj z (oj hn_g2 hn_g4))), zZ, same_trim ok⟩
    · have hs0 : szTo f f.nodes.length = 0 := by have := of_decide_eq_false hs; omega
      refine yG (oj z (oj hn_g2 hn_g4)) ?_
      refine yW (oj z (oj hn_g2 hn_g4)) ?_
      refine yS (oj z (oj hn_g2 hn_g4)) ?_
      refine aw_perm (List.Perm.swap _ _ _) ?_
      refine aw_frzG (j0 := 1) (og := none) (s := 3) (n := 0) (tp := 72) (fp := fnsF []) (h := [(g4, .cells 98 3 (ofL [.nils, .nils, .int .i64 0]))]) (f' := ofL (fmc true ⟨f.vars, [], f.top⟩)) rfl rfl (fun j hj hne => ?_) (fun _ => rfl) (fun g e => by cases e) ?_
      · match j, hj, hne with
        | 0, _, _ => rfl
        | 1, _, hne => exact absurd rfl hne
        | 2, _, _ => rfl
      refine aw_perm (List.Perm.swap _ _ _) ?_
      refine yG (oj z (oj hn_g2 hn_g4)) ?_
      exact aw_stop ⟨⟨f.vars, [], f.top⟩, (zB (oj z (oj hn_g2 hn_g4))), zZ, same_nil ok hs0⟩
  rintro f' ⟨ok', hv', hval⟩
  have hod : OdOk o (placesL o) := ⟨(ocode_ok ho).1, pl_ok (ocode_ok ho).1, (ocode_ok ho).2⟩
  have ts0 : TS o none [] [] := ⟨fun _ => rfl, fun i hi => absurd hi (Nat.not_lt_zero _), fun e he => absurd he List.not_mem_nil⟩
  have v0' := ok'.v0
  have n128' := ok'.n128
  have t0' := ok'.t0
  have t1' := ok'.t1
  have hN : f'.vars + (f'.nodes.length : Int) = ((o.length + f'.nodes.length : Nat) : Int) := by omega
  have hvo : f'.vars = (o.length : Int) := by omega
  clear hsz z hov
  refine xG ?_
  refine aw_callh (hc := []) (hr := [(g4, .cells 98 3 (ofL [.nils, .nils, .int .i64 0])), (g2, .cells 24 3 (ofL (fmc true f')))]) (new_fh o hod.perm hod.l24) rfl rfl rfl (.refl _) eL ?_
  rintro _ _ ⟨gT, gU, gM, rfl, rfl⟩ _
  refine yS hN ?_
  refine aw_perm (List.perm_append_comm (l₂ := ([(g4, .cells 98 3 (ofL [.nils, .nils, .int .i64 0])), (g2, .cells 24 3 (ofL (fmc true f')))] : Heap))) ?_
  simp only [THp, TH, List.cons_append, List.nil_append]
  refine aw_nd fun hnd => ?_
  simp only [Heap.keys, List.map_cons] at hnd
  replace hnd := ndP_of hnd
  dsimp only [ndP, neA] at hnd
  refine yG (oj hN hnd) ?_
  refine aw_make (n := o.length + f'.nodes.length) (c := o.length + f'.nodes.length) (size := 1) (bytes := 8) (z := [.int .i64 0]) rfl rfl rfl (zE (oj hN hnd)) (zE (oj hN hnd)) rfl (by omega) (zE (oj hN hnd)) (zE (oj hN hnd)) (by omega) (by omega) (by omega) (by omega) (by omega) fun gR hn_gR => ?_
  clear hn_gR
  clear hnd
  simp only [Nat.mul_one]
  rw [make_is]
  refine aw_nd fun hnd => ?_
  simp only [Heap.keys, List.map_cons] at hnd
  replace hnd := ndP_of hnd
  dsimp only [ndP, neA] at hnd
  refine yS (oj hnd hvo) ?_
  refine yG (oj hnd hvo) ?_
  have hp13 : 2 ^ (o.length + 1) ≤ 2 ^ 13 := Nat.pow_le_pow_right (by omega) (by omega)
  have hp14 : 2 ^ (o.length + 2) ≤ 2 ^ 14 := Nat.pow_le_pow_right (by omega) (by omega)
  have hp12 : 2 ^ o.length ≤ 2 ^ 12 := Nat.pow_le_pow_right (by omega) h12
  refine aw_lp (fun y : Nat × Option Nat × List DN × Mem3 × List Int => [(2, .c (.optr g2 0)), (4, .c (.optr g4 0)), (10, .c (.optr gT 0)), (11, .c (.osl gR 1 0 (o.length + f'.nodes.length))), (58, .c (.int .i64 o.length)), (59, .c (.int .i64 y.1))]) (fun y => (gR, .cells 3 (o.length + f'.nodes.length) (isF y.2.2.2.2)) :: (g4, .cells 98 3 (ofL [.nils, .nils, .int .i64 0])) :: (g2, .cells 24 3 (ofL (fmc true f'))) :: THp gT gU gM y.2.1 o (placesL o) y.2.2.1 y.2.2.2.1)
    (fun y => y.1 ≤ o.length ∧ TS o y.2.1 y.2.2.1 y.2.2.2.1 ∧ y.2.2.1.length ≤ y.1 ∧ RefsOk f' (o.length + f'.nodes.length) y.2.2.1 y.2.2.2.2 y.1) (fun y => o.length - y.1) (0, none, [], [], List.replicate (o.length + f'.nodes.length) 0) (zB (oj hnd hvo)) zZ ⟨Nat.zero_le _, ts0, Nat.le_refl _, ⟨List.length_replicate .., fun a ha => by omega⟩⟩ ?_
  clear ts0
  rintro ⟨i, og, ns, mm, zs⟩ ⟨hi, hs, hnl, hz⟩
  dsimp only at hi hs hnl hz ⊢
  have hzl := hz.len
  refine yG (oj hnd hvo) ?_
  refine yF (oj hnd hvo) (fun hb=>?_) fun hb=>?_
  · have hb' : i < o.length := by have := of_decide_eq_true hb; omega
    refine yG (oj hnd hvo) ?_
    refine aw_callh (hc := THp gT gU gM og o (placesL o) ns mm) (hr := [(gR, .cells 3 (o.length + f'.nodes.length) (isF zs)), (g4, .cells 98 3 (ofL [.nils, .nils, .int .i64 0])), (g2, .cells 24 3 (ofL (fmc true f')))]) (tevent_fh (v := (i : Int)) gT gU gM hs (by omega) (by omega) (by omega)) rfl rfl rfl (List.perm_append_comm (l₁ := [(gR, _), (g4, _), (g2, _)])) (zL (oj hnd hvo)) ?_
    rintro _ _ ⟨og1, ns1, mm1, r, e1, e2, e3, e4, rfl, rfl⟩ _
    refine aw_perm List.perm_append_comm ?_
    have he := e2.len
    have hz2 := refs_step hs.tab hz e2 (by omega) e3 (fun s => by rw [e4 s, val_event (by omega)])
    refine yS (oj hnd hvo) ?_
    simp only [THp, TH, List.cons_append, List.nil_append]
    refine yG (oj hnd hvo) ?_
    refine yW (oj hnd hvo) ?_
    refine yS (oj hnd hvo) ?_
    rw [updF_is (by omega)]
    refine yG (oj hnd hvo) ?_
    exact aw_stop ⟨(i + 1, og1, ns1, mm1, zs.set i r), by dsimp only; omega, (zB (oj hnd hvo)), zZ, by dsimp only; omega, e1, by dsimp only; omega, hz2⟩
  · have hb' : i = o.length := by have := of_decide_eq_false hb; omega
    subst hb'
    refine yG (oj hnd hvo) ?_
    clear hb hzl hi
    refine aw_lp (fun y : Nat × Option Nat × List DN × Mem3 × List Int => [(2, .c (.optr g2 0)), (4, .c (.optr g4 0)), (10, .c (.optr gT 0)), (11, .c (.osl gR 1 0 (o.length + f'.nodes.length))), (70, .c (fns true f'.nodes)), (71, .c (.int .i64 f'.nodes.length)), (72, .c (.int .i64 y.1))]) (fun y => (gR, .cells 3 (o.length + f'.nodes.length) (isF y.2.2.2.2)) :: (g4, .cells 98 3 (ofL [.nils, .nils, .int .i64 0])) :: (g2, .cells 24 3 (ofL (fmc true f'))) :: THp gT gU gM y.2.1 o (placesL o) y.2.2.1 y.2.2.2.1)
      (fun y => y.1 ≤ f'.nodes.length ∧ TS o y.2.1 y.2.2.1 y.2.2.2.1 ∧ y.2.2.1.length ≤ o.length + y.1 * (256 * 2 ^ (o.length + 2)) ∧ RefsOk f' (o.length + f'.nodes.length) y.2.2.1 y.2.2.2.2 (o.length + y.1)) (fun y => f'.nodes.length - y.1) (0, og, ns, mm, zs) (zB (oj hnd hvo)) zZ ⟨Nat.zero_le _, hs, by dsimp only; rw [Nat.zero_mul]; omega, hz⟩ ?_
    clear hs hz hnl og ns mm zs
    rintro ⟨k, og, ns, mm, zs⟩ ⟨hk, hs, hnl, hz⟩
    dsimp only at hk hs hnl hz ⊢
    have hzl := hz.len
    have hW : (k + 1) * (256 * 2 ^ (o.length + 2)) = k * (256 * 2 ^ (o.length + 2)) + 256 * 2 ^ (o.length + 2) := Nat.succ_mul ..
    have hW1 : k * (256 * 2 ^ (o.length + 2)) ≤ 128 * (256 * 2 ^ 14) := Nat.mul_le_mul (by omega) (Nat.mul_le_mul_left _ hp14)
    refine yG (oj hnd hvo) ?_
    refine yF (oj hnd hvo) (fun hb=>?_) fun hb=>?_
    · have hk' : k < f'.nodes.length := by have := of_decide_eq_true hb; omega
      refine yG (oj hnd hvo) ?_
      refine yA (oj hnd hvo) fun g14 hn_g14=>?_
      clear hn_g14
      clear hnd
      refine aw_nd fun hnd => ?_
      simp only [THp, TH, List.cons_append, List.nil_append] at hnd
      simp only [Heap.keys, List.map_cons] at hnd
      replace hnd := ndP_of hnd
      dsimp only [ndP, neA] at hnd
      refine yG (oj hnd hvo) ?_
      refine yW (oj hnd hvo) ?_
      refine yS (oj hnd hvo) ?_
      have x1 := ok'.kind k hk'
      have x2 := ok'.ari k hk'
      have x3 := ok'.kc k hk'
      have x4 := ok'.arg k hk'
      have x5 := ok'.len hk'
      have x6 := fun s => val_node ok' (s := s) hk'
      generalize hx0 : f'.nodes.getD k fn0 = x at *
      refine yG (oj hnd (oj hvo hx0)) ?_
      refine aw_lp (fun y : Nat × Option Nat => [(2, .c (.optr g2 0)), (4, .c (.optr g4 0)), (10, .c (.optr gT 0)), (11, .c (.osl gR 1 0 (o.length + f'.nodes.length))), (70, .c (fns true f'.nodes)), (71, .c (.int .i64 f'.nodes.length)), (72, .c (.int .i64 k)), (13, .c (.int .i64 k)), (14, .c (.optr g14 0)), (15, .c (gs y.2 1 y.1)), (78, .c (is true x.args)), (79, .c (.int .i64 x.args.length)), (80, .c (.int .i64 y.1))])
        (fun y => ((g14, .cells 72 3 (ofL [.int .i64 x.kind, .int .i64 x.k, is true x.args])) :: (gR, .cells 3 (o.length + f'.nodes.length) (isF zs)) :: (g4, .cells 98 3 (ofL [.nils, .nils, .int .i64 0])) :: (g2, .cells 24 3 (ofL (fmc true f'))) :: THp gT gU gM og o (placesL o) ns mm) ++ gh y.2 3 y.1 (isF ((x.args.take y.1).map fun a => zs.getD a.toNat 0)))
        (fun y => y.1 ≤ x.args.length ∧ (y.2 = none → y.1 = 0)) (fun y => x.args.length - y.1) (0, none) (zB (oj hnd (oj hvo hx0))) (by
          show List.Sublist (((g14, .cells 72 3 (ofL [.int .i64 x.kind, .int .i64 x.k, is true x.args])) :: (gR, .cells 3 (o.length + f'.nodes.length) (isF zs)) :: (g4, .cells 98 3 (ofL [.nils, .nils, .int .i64 0])) :: (g2, .cells 24 3 (ofL (fmc true f'))) :: THp gT gU gM og o (placesL o) ns mm) ++ []) _
          rw [List.append_nil]
          exact List.Sublist.refl _) ⟨Nat.zero_le _, fun _ => rfl⟩ ?_
      rintro ⟨j, oa⟩ ⟨hj, hoa⟩
      dsimp only at hj hoa ⊢
      simp only [List.cons_append]
      refine yG (oj hnd (oj hvo hx0)) ?_
      refine yF (oj hnd (oj hvo hx0)) (fun h2=>?_) fun h2=>?_
      · have h2' : j < x.args.length := by have := of_decide_eq_true h2; omega
        have ham : x.args.getD j 0 ∈ x.args := by rw [getDZ h2']; exact List.getElem_mem h2'
        obtain ⟨a0, a1⟩ := x4 _ ham
        obtain ⟨i2, hi2⟩ := Int.eq_ofNat_of_zero_le a0
        rw [hi2] at a1
        have htk : x.args.take (j + 1) = x.args.take j ++ [x.args.getD j 0] := by rw [getDZ h2', List.take_succ_eq_append_getElem h2']
        have hlk : ((x.args.take j).map fun a => zs.getD a.toNat 0).length = j := by rw [List.length_map, List.length_take]; omega
        refine yG (oj hnd (oj hvo (oj hx0 hi2))) ?_
        refine aw_push (pre := (g14, .cells 72 3 (ofL [.int .i64 x.kind, .int .i64 x.k, is true x.args])) :: (gR, .cells 3 (o.length + f'.nodes.length) (isF zs)) :: (g4, .cells 98 3 (ofL [.nils, .nils, .int .i64 0])) :: (g2, .cells 24 3 (ofL (fmc true f'))) :: THp gT gU gM og o (placesL o) ns mm) rfl rfl rfl rfl rfl rfl rfl (zE (oj hnd (oj hvo (oj hx0 hi2)))) (zE (oj hnd (oj hvo (oj hx0 hi2)))) (by rfl) (by omega) (by omega) (zE (oj hnd (oj hvo (oj hx0 hi2)))) (by omega) (by exact hoa) (zE (oj hnd (oj hvo (oj hx0 hi2)))) (by rfl) (by rfl) (by first | rfl | simp only [Nat.mul_one, List.nil_append, List.cons_append] <;> rfl) (by unfold maxLen; omega) (by omega) (by exact is_push hlk (zs.getD i2 0)) fun g hn_g => ?_
        replace hn_g := Heap.ne_of hn_g
        first | dsimp only [Heap.ne, gh] at hn_g | dsimp only [Heap.ne] at hn_g | skip
        refine yS (oj hnd (oj hvo (oj hx0 (oj hi2 hn_g)))) ?_
        refine yG (oj hnd (oj hvo (oj hx0 (oj hi2 hn_g)))) ?_
        refine aw_stop ⟨(j + 1, some g), by dsimp only; omega, (zB (oj hnd (oj hvo (oj hx0 (oj hi2 hn_g))))), ?_, by dsimp only; omega, fun e => (by cases e)⟩
        dsimp only
        rw [htk, List.map_append, hi2]
        exact List.Sublist.refl _
      · have h2' : j = x.args.length := by have := of_decide_eq_false h2; omega
        subst h2'
        rw [List.take_length]
        have hlm : (x.args.map fun a => zs.getD a.toNat 0).length = x.args.length := List.length_map ..
        have hrs : ∀ r ∈ x.args.map fun a => zs.getD a.toNat 0, RefOk ns r := fun r hr => by
          obtain ⟨a, ha, rfl⟩ := List.mem_map.1 hr
          obtain ⟨a0, a1⟩ := x4 a ha
          exact (hz.at' a.toNat (by omega)).1
        have hval2 : ∀ s, nodeV (evalD ns s) ⟨x.kind, x.k, x.args.map fun a => zs.getD a.toNat 0⟩ = valF f' s ((o.length + k : Nat) : Int) := fun s => by
          rw [show ((o.length + k : Nat) : Int) = f'.vars + k from by omega, x6 s]
          unfold nodeV
          dsimp only
          rw [cntV_map (v := evalD ns s) (w := valF f' s) (fun a ha => by
            obtain ⟨a0, a1⟩ := x4 a ha
            rw [(hz.at' a.toNat (by omega)).2 s, show ((a.toNat : Nat) : Int) = a from by omega]), List.length_map]
        generalize (x.args.map fun a => zs.getD a.toNat 0) = rs at *
        refine aw_nd fun hnd2 => ?_
        refine aw_frzg (t := 15) (n := x.args.length) (s := 1) (e := 3) (f := isF rs) (pre := (g14, .cells 72 3 (ofL [.int .i64 x.kind, .int .i64 x.k, is true x.args])) :: (gR, .cells 3 (o.length + f'.nodes.length) (isF zs)) :: (g4, .cells 98 3 (ofL [.nils, .nils, .int .i64 0])) :: (g2, .cells 24 3 (ofL (fmc true f'))) :: THp gT gU gM og o (placesL o) ns mm) (zE (oj hnd (oj hvo hx0))) hoa (by simp only [Nat.mul_one, List.cons_append]) (fun g e hm => ?_) (fun g h => by have := (hC g).1 h; simp [Heap.keys] at this) rfl ?_
        · subst e
          have h3 : (Heap.keys (((g14, .cells 72 3 (ofL [.int .i64 x.kind, .int .i64 x.k, is true x.args])) :: (gR, .cells 3 (o.length + f'.nodes.length) (isF zs)) :: (g4, .cells 98 3 (ofL [.nils, .nils, .int .i64 0])) :: (g2, .cells 24 3 (ofL (fmc true f'))) :: THp gT gU gM og o (placesL o) ns mm) ++ gh (some g) 3 x.args.length (isF rs))).Nodup := hnd2
          unfold Heap.keys at h3
          rw [List.map_append, List.nodup_append] at h3
          exact h3.2.2 g hm g (by simp [gh]) rfl
        clear hnd2
        have hbn := bnode_fh gT gU gM hod hs x rs x1.1 x1.2 (by rw [hlm]; exact x2) (by unfold kcode at x3 ⊢; dsimp only; rw [hlm]; exact x3) (by omega) hrs
        dsimp only [is] at hbn
        rw [hlm] at hbn
        have hok2 : (o.length : Int) + (k : Int) = ((o.length + k : Nat) : Int) := by omega
        refine yS (oj hnd (oj hvo (oj hx0 hok2))) ?_
        refine yG (oj hnd (oj hvo (oj hx0 hok2))) ?_
        refine aw_cw ([(gR, .cells 3 (o.length + f'.nodes.length) (isF zs)), (g14, .cells 72 3 (ofL [.int .i64 x.kind, .int .i64 x.k, is true x.args])), (g2, .cells 24 3 (ofL (fmc true f')))]) [(0,0),(1,0),(2,0),(3,0),(4,0),(5,0),(6,0),(7,0),(8,1),(9,0),(10,2)] ty_mixed (by kernel_rfl) eI ?_
        refine yG (oj hnd (oj hvo (oj hx0 hok2))) ?_
        refine cw_callh (hc := THp gT gU gM og o (placesL o) ns mm) (hr := [(g14, .cells 72 3 (ofL [.int .i64 x.kind, .int .i64 x.k, is true x.args])), (gR, .cells 3 (o.length + f'.nodes.length) (isF zs)), (g4, .cells 98 3 (ofL [.nils, .nils, .int .i64 0])), (g2, .cells 24 3 (ofL (fmc true f')))]) rfl hbn rfl rfl rfl (List.perm_append_comm (l₁ := [(g14, _), (gR, _), (g4, _), (g2, _)])) (zL (oj hnd (oj hvo (oj hx0 hok2)))) (by
          rintro _ _ ⟨_, _, _, _, _, _, _, _, rfl, rfl⟩; exact has0_app2 eI) ?_ (hm := .inr ⟨rfl, rfl⟩)
        rintro _ _ ⟨og2, ns2, mm2, r, e1, e2, e3, e4, rfl, rfl⟩ _
        have he2 := e2.len
        have hz2 := refs_step hs.tab hz e2 (by omega) e3 (fun s => by rw [e4 s]; exact hval2 s)
        refine yS (oj hnd (oj hvo (oj hx0 hok2))) ?_
        refine cw_perm List.perm_append_comm ?_
        simp only [List.cons_append, List.nil_append]
        refine yS (oj hnd (oj hvo (oj hx0 hok2))) ?_
        refine yG (oj hnd (oj hvo (oj hx0 hok2))) ?_
        refine cw_store (FP' := []) rfl rfl rfl rfl rfl (zE (oj hnd (oj hvo (oj hx0 hok2)))) (zE (oj hnd (oj hvo (oj hx0 hok2)))) (zE (oj hnd (oj hvo (oj hx0 hok2)))) (zE (oj hnd (oj hvo (oj hx0 hok2)))) (fun _ e => by cases e) rfl rfl (by show (o.length + k) + 1 ≤ _; omega) rfl has0_nil ?_
        simp only [AV.cells]
        rw [updF_is (by omega)]
        have hgz : (zs.set (o.length + k) r).getD (o.length + k) 0 = r := getZset (by omega)
        refine yS (oj hnd (oj hvo (oj hx0 (oj hok2 hgz)))) ?_
        refine yG (oj hnd (oj hvo (oj hx0 (oj hok2 hgz)))) ?_
        refine aw_callh (hc := THp gT gU gM og2 o (placesL o) ns2 mm2) (hr := [(g14, .cells 72 3 (ofL [.int .i64 x.kind, .int .i64 x.k, is true x.args])), (gR, .cells 3 (o.length + f'.nodes.length) (isF (zs.set (o.length + k) r))), (g4, .cells 98 3 (ofL [.nils, .nils, .int .i64 0])), (g2, .cells 24 3 (ofL (fmc true f')))]) (small_fh gT gU gM hod e1 (by omega) e3 (most := 4096) (by omega)) rfl rfl rfl (List.perm_append_comm (l₁ := [(g14, _), (gR, _), (g4, _), (g2, _)])) (zL (oj hnd (oj hvo (oj hx0 (oj hok2 hgz))))) ?_
        rintro _ _ ⟨rfl, rfl⟩ _
        refine aw_perm List.perm_append_comm ?_
        refine yS (oj hnd (oj hvo (oj hx0 (oj hok2 hgz)))) ?_
        simp only [THp, TH, List.cons_append, List.nil_append]
        refine yG (oj hnd (oj hvo (oj hx0 (oj hok2 hgz)))) ?_
        refine yN (oj hnd (oj hvo (oj hx0 (oj hok2 hgz)))) ?_
        refine yG (oj hnd (oj hvo (oj hx0 (oj hok2 hgz)))) ?_
        exact aw_stop ⟨(k + 1, og2, ns2, mm2, zs.set (o.length + k) r), by dsimp only; omega, (zB (oj hnd (oj hvo (oj hx0 (oj hok2 hgz))))), List.Sublist.cons _ (List.Sublist.refl _), by dsimp only; omega, e1, by dsimp only; omega, hz2⟩
    · have hk' : k = f'.nodes.length := by have := of_decide_eq_false hb; omega
      subst hk'
      obtain ⟨tp, htp⟩ := Int.eq_ofNat_of_zero_le t0'
      obtain ⟨q1, q2⟩ := hz.at' tp (by omega)
      refine yG (oj hnd (oj hvo htp)) ?_
      refine aw_callh (hc := THp gT gU gM og o (placesL o) ns mm) (hr := [(gR, .cells 3 (o.length + f'.nodes.length) (isF zs)), (g4, .cells 98 3 (ofL [.nils, .nils, .int .i64 0])), (g2, .cells 24 3 (ofL (fmc true f')))]) (export_fh gT gU gM hod hs (by omega) q1) rfl rfl rfl (List.perm_append_comm (l₁ := [(gR, _), (g4, _), (g2, _)])) (zL (oj hnd (oj hvo htp))) ?_
      rintro _ _ ⟨rs, os, y, hex, rfl, rfl⟩ _
      refine aw_perm List.perm_append_comm ?_
      refine yS (oj hnd (oj hvo htp)) ?_
      refine yG (oj hnd (oj hvo htp)) ?_
      refine yW (oj hnd (oj hvo htp)) ?_
      refine yS (oj hnd (oj hvo htp)) ?_
      refine yG (oj hnd (oj hvo htp)) ?_
      refine aw_rethw (h' := []) rfl (List.nil_sublist _) (fun R hR => ?_)
      simp only [go_sem, hnd, hvo, htp]
      refine hR _ rfl ?_
      clear hR R
      have DO := dout_of ho h12 hod.mem hs.tab q1 hex
      exact ⟨rfl, _, ⟨DO.order, DO.code, fun s => by rw [DO.ev s, ← hval s, htp]; exact q2 s⟩, rfl⟩
end Go.Proofs.YtmfmnmkipjpjhaaGreatDoor

/- order.walk.visit. -/
namespace Go.PN
open Go.AI
/-- What a walk knows: the events that it has come to, in order, and all that it has seen. -/
structure WalkOk (f : FM) (oe : Option Nat) (e : List Int) (s : List Bool) : Prop where
  len : s.length = f.vars.toNat + f.nodes.length
  nodup : e.Nodup
  mem : ∀ x : Int, x ∈ e ↔ 0 ≤ x ∧ x < f.vars ∧ s.getD x.toNat false = true
  none' : oe = none → e.length = 0
theorem WalkOk.le {f : FM} {oe : Option Nat} {e : List Int} {s : List Bool} (h : WalkOk f oe e s) : e.length ≤ f.vars.toNat := by
  have := nodup_le (m := (List.range f.vars.toNat).map fun (i : Nat) => (i : Int)) h.nodup (fun x hx => by
    have h1 := (h.mem x).1 hx
    exact List.mem_map.2 ⟨x.toNat, List.mem_range.2 (by omega), by omega⟩)
  simpa using this
theorem WalkOk.event {f : FM} (v0 : 0 ≤ f.vars) {oe : Option Nat} {e : List Int} {s : List Bool} (h : WalkOk f oe e s) {a : Nat} (ha : (a : Int) < f.vars) (hs : s.getD a false = false) (g : Nat) : WalkOk f (some g) (e ++ [(a : Int)]) (s.set a true) := by
  have hl := h.len
  refine ⟨by rw [List.length_set]; exact hl, ?_, fun x => ?_, fun e => by cases e⟩
  · rw [List.nodup_append]
    refine ⟨h.nodup, by simp, fun x hx y hy => ?_⟩
    rw [List.mem_singleton] at hy
    subst hy
    intro he
    subst he
    have := ((h.mem _).1 hx).2.2
    rw [Int.toNat_natCast, hs] at this
    cases this
  · rw [List.mem_append, List.mem_singleton]
    by_cases e1 : x = a
    · subst e1
      rw [Int.toNat_natCast, getDset' (by omega)]
      exact ⟨fun _ => ⟨by omega, ha, rfl⟩, fun _ => .inr rfl⟩
    · constructor
      · rintro (hx | hx)
        · have h1 := (h.mem x).1 hx
          exact ⟨h1.1, h1.2.1, by rw [getDset (by omega)]; exact h1.2.2⟩
        · exact absurd hx e1
      · rintro ⟨h0, h1, h2⟩
        rw [getDset (by omega)] at h2
        exact .inl ((h.mem x).2 ⟨h0, h1, h2⟩)
theorem WalkOk.gate {f : FM} (v0 : 0 ≤ f.vars) {oe : Option Nat} {e : List Int} {s : List Bool} (h : WalkOk f oe e s) {a : Nat} (ha : f.vars ≤ a) : WalkOk f oe e (s.set a true) := by
  refine ⟨by rw [List.length_set]; exact h.len, h.nodup, fun x => ?_, h.none'⟩
  rw [h.mem x]
  constructor <;> rintro ⟨h0, h1, h2⟩ <;> refine ⟨h0, h1, ?_⟩
  · rw [getDset (by omega)]; exact h2
  · rw [getDset (by omega)] at h2; exact h2
end Go.PN
namespace Go.Proofs.YtmfmnmkipjpjhaaGreatDoor
open Go.AI Go.PN
attribute [local irreducible] aw Fa Fh DrK
/-- A walk and what it owns. -/
abbrev WH (f : FM) (gW gS : Nat) (oe : Option Nat) (e : List Int) (s : List Bool) : Heap :=
  (gW, .cells 159 5 (ofL [.int .i64 f.vars, fns false f.nodes, .int .i64 f.top, gs oe 1 e.length, .osl gS 1 0 (f.vars.toNat + f.nodes.length)])) :: (gS, .cells 4 (f.vars.toNat + f.nodes.length) (bsF s)) :: gh oe 3 e.length (isF e)
set_option maxRecDepth 100000 in
set_option maxHeartbeats 6400000 in
theorem visit_fh (f : FM) (ok : FrOk f) (gW gS : Nat) : ∀ (m a : Nat) (oe : Option Nat) (e : List Int) (s : List Bool), a < m → (a : Int) < f.vars + f.nodes.length → WalkOk f oe e s →
    Fh Tryz.prog 137 (WH f gW gS oe e s) [.c (.optr gW 0), .c (.int .i64 a)] (fun r h => r = .tup [] ∧ ∃ oe' e' s', h = WH f gW gS oe' e' s' ∧ WalkOk f oe' e' s') := by
  have v0 := ok.v0
  have v24 := ok.v24
  have n128 := ok.n128
  intro m
  induction m with
  | zero => intro a oe e s h; omega
  | succ m ih =>
    intro a oe e s ham han hw
    have hsl := hw.len
    have hel := hw.le
    refine fh_of_body Tryz.func137 rfl rfl (by simp [Tryz.ntmps137]) fun C hC => ?_
    simp only [initS, Nat.reduceAdd]
    refine aw_nd fun hnd => ?_
    have hne : gW ≠ gS := fun h => by
      subst h
      exact (List.nodup_cons.1 hnd).1 (List.mem_cons_self ..)
    clear hnd
    have hq : (gW = gS) = False ∧ (gS = gW) = False := ⟨eq_false hne, eq_false (Ne.symm hne)⟩
    refine yG hq ?_
    refine yF hq (fun hb=>?_) fun hb=>?_
    · refine yG hq ?_
      refine yU hq ?_
      exact ⟨rfl, oe, e, s, rfl, hw⟩
    · have hb' : s.getD a false = false := by simpa using hb
      refine yG hq ?_
      refine yW hq ?_
      refine yS hq ?_
      rw [updF_bs (by omega)]
      refine yG hq ?_
      refine yF hq (fun hv=>?_) fun hv=>?_
      · have hv' : (a : Int) < f.vars := of_decide_eq_true hv
        have hw2 := fun g => hw.event v0 hv' hb' g
        refine yG hq ?_
        refine aw_push (pre := [(gW, .cells 159 5 (ofL [.int .i64 f.vars, fns false f.nodes, .int .i64 f.top, gs oe 1 e.length, .osl gS 1 0 (f.vars.toNat + f.nodes.length)])), (gS, .cells 4 (f.vars.toNat + f.nodes.length) (bsF (s.set a true)))]) rfl rfl rfl rfl rfl rfl rfl (zE hq) (zE hq) (by rfl) (by omega) (by omega) (zE hq) (by omega) (by exact hw.none') (zE hq) (by rfl) (by rfl) (by first | rfl | simp only [Nat.mul_one, List.nil_append, List.cons_append] <;> rfl) (by unfold maxLen; omega) (by omega) (by exact is_push rfl (a : Int)) fun g hn_g => ?_
        replace hn_g := Heap.ne_of hn_g
        first | dsimp only [Heap.ne, gh] at hn_g | dsimp only [Heap.ne] at hn_g | skip
        refine yS (oj hq hn_g) ?_
        refine yG (oj hq hn_g) ?_
        refine yW (oj hq hn_g) ?_
        refine yS (oj hq hn_g) ?_
        refine yG (oj hq hn_g) ?_
        rw [updF_at _ 3 _ (by simp)]
        refine yU (oj hq hn_g) ?_
        have hl1 : (e ++ [(a : Int)]).length = e.length + 1 := by simp
        exact ⟨rfl, some g, e ++ [(a : Int)], s.set a true, by rw [WH, hl1]; rfl, hw2 g⟩
      · have hv' : f.vars ≤ a := by have := of_decide_eq_false hv; omega
        have hw2 := hw.gate v0 hv'
        have hak : (a : Int) - f.vars = ((a - f.vars.toNat : Nat) : Int) := by omega
        have hkl : a - f.vars.toNat < f.nodes.length := by omega
        have hln := ok.len hkl
        have hargs : ∀ j, j < (f.nodes.getD (a - f.vars.toNat) fn0).args.length → 0 ≤ (f.nodes.getD (a - f.vars.toNat) fn0).args.getD j 0 ∧ (f.nodes.getD (a - f.vars.toNat) fn0).args.getD j 0 < a := fun j hj => by
          obtain ⟨a0, a1⟩ := ok.at hkl hj
          exact ⟨a0, by omega⟩
        generalize s.set a true = s1 at hw2
        generalize hk : a - f.vars.toNat = k at *
        generalize hx : f.nodes.getD k fn0 = x at *
        clear hb hsl hel hw
        refine yG (oj hq (oj hak hx)) ?_
        refine aw_dr 17 ty_mixed (by kernel_rfl) ?_
        refine yG (oj hq (oj hak hx)) ?_
        refine aw_lp (fun y : Nat × Option Nat × List Int × List Bool => [(0, .c (.optr gW 0)), (50, .c (is true x.args)), (51, .c (.int .i64 x.args.length)), (52, .c (.int .i64 y.1))]) (fun y => WH f gW gS y.2.1 y.2.2.1 y.2.2.2)
          (fun y => y.1 ≤ x.args.length ∧ WalkOk f y.2.1 y.2.2.1 y.2.2.2) (fun y => x.args.length - y.1) (0, oe, e, s1) (zB (oj hq (oj hak hx))) zZ ⟨Nat.zero_le _, hw2⟩ ?_
        clear hw2
        rintro ⟨j, oe1, e1, s1⟩ ⟨hj, hw1⟩
        dsimp only at hj hw1 ⊢
        refine yG (oj hq (oj hak hx)) ?_
        refine yF (oj hq (oj hak hx)) (fun h2=>?_) fun h2=>?_
        · have h2' : j < x.args.length := by have := of_decide_eq_true h2; omega
          obtain ⟨a0, a1⟩ := hargs j h2'
          obtain ⟨i2, hi2⟩ := Int.eq_ofNat_of_zero_le a0
          rw [hi2] at a1
          refine yG (oj hq (oj hak (oj hx hi2))) ?_
          refine aw_callh (hr := []) (ih i2 oe1 e1 s1 (by omega) (by omega) hw1) rfl rfl rfl (by rw [List.append_nil]) (zL (oj hq (oj hak (oj hx hi2)))) ?_
          rintro _ _ ⟨rfl, oe2, e2, s2, rfl, hw2⟩ _
          rw [List.append_nil]
          refine yS (oj hq (oj hak (oj hx hi2))) ?_
          refine yG (oj hq (oj hak (oj hx hi2))) ?_
          exact aw_stop ⟨(j + 1, oe2, e2, s2), by dsimp only; omega, (zB (oj hq (oj hak (oj hx hi2)))), zZ, by dsimp only; omega, hw2⟩
        · refine yG (oj hq (oj hak hx)) ?_
          refine yV (oj hq (oj hak hx)) ?_
          exact ⟨rfl, oe1, e1, s1, rfl, hw1⟩
end Go.Proofs.YtmfmnmkipjpjhaaGreatDoor

/- order.depth, order.Depth. -/
namespace Go.PN
open Go.AI
/-- The events of depth's second loop: those seen, and those below i. -/
structure DepOk (f : FM) (s : List Bool) (i : Nat) (oe : Option Nat) (e : List Int) : Prop where
  nodup : e.Nodup
  mem : ∀ x : Int, x ∈ e ↔ 0 ≤ x ∧ x < f.vars ∧ (s.getD x.toNat false = true ∨ x < i)
  none' : oe = none → e.length = 0
theorem DepOk.le {f : FM} {s : List Bool} {i : Nat} {oe : Option Nat} {e : List Int} (h : DepOk f s i oe e) : e.length ≤ f.vars.toNat := by
  have := nodup_le (m := (List.range f.vars.toNat).map fun (i : Nat) => (i : Int)) h.nodup (fun x hx => by
    have h1 := (h.mem x).1 hx
    exact List.mem_map.2 ⟨x.toNat, List.mem_range.2 (by omega), by omega⟩)
  simpa using this
theorem DepOk.start {f : FM} {s : List Bool} {oe : Option Nat} {e : List Int} (h : WalkOk f oe e s) : DepOk f s 0 oe e := by
  refine ⟨h.nodup, fun x => ?_, h.none'⟩
  rw [h.mem x]
  constructor
  · rintro ⟨h0, h1, h2⟩; exact ⟨h0, h1, .inl h2⟩
  · rintro ⟨h0, h1, h2 | h2⟩
    · exact ⟨h0, h1, h2⟩
    · omega
theorem DepOk.skip {f : FM} {s : List Bool} {i : Nat} {oe : Option Nat} {e : List Int} (h : DepOk f s i oe e) (hs : s.getD i false = true) : DepOk f s (i + 1) oe e := by
  refine ⟨h.nodup, fun x => ?_, h.none'⟩
  rw [h.mem x]
  constructor
  · rintro ⟨h0, h1, h2 | h2⟩
    · exact ⟨h0, h1, .inl h2⟩
    · exact ⟨h0, h1, .inr (by omega)⟩
  · rintro ⟨h0, h1, h2 | h2⟩
    · exact ⟨h0, h1, .inl h2⟩
    · by_cases e1 : x = i
      · subst e1; exact ⟨h0, h1, .inl (by rw [Int.toNat_natCast]; exact hs)⟩
      · exact ⟨h0, h1, .inr (by omega)⟩
theorem DepOk.push {f : FM} {s : List Bool} {i : Nat} {oe : Option Nat} {e : List Int} (h : DepOk f s i oe e) (hi : (i : Int) < f.vars) (hs : s.getD i false = false) (g : Nat) : DepOk f s (i + 1) (some g) (e ++ [(i : Int)]) := by
  refine ⟨?_, fun x => ?_, fun e => by cases e⟩
  · rw [List.nodup_append]
    refine ⟨h.nodup, by simp, fun x hx y hy => ?_⟩
    rw [List.mem_singleton] at hy
    subst hy
    intro he
    subst he
    rcases ((h.mem _).1 hx).2.2 with h1 | h1
    · rw [Int.toNat_natCast, hs] at h1; cases h1
    · omega
  · rw [List.mem_append, List.mem_singleton, h.mem x]
    constructor
    · rintro (⟨h0, h1, h2 | h2⟩ | e1)
      · exact ⟨h0, h1, .inl h2⟩
      · exact ⟨h0, h1, .inr (by omega)⟩
      · exact ⟨by omega, by omega, .inr (by omega)⟩
    · rintro ⟨h0, h1, h2 | h2⟩
      · exact .inl ⟨h0, h1, .inl h2⟩
      · by_cases e1 : x = i
        · exact .inr e1
        · exact .inl ⟨h0, h1, .inr (by omega)⟩
theorem DepOk.done {f : FM} {s : List Bool} {i : Nat} {oe : Option Nat} {e : List Int} (h : DepOk f s i oe e) (v0 : 0 ≤ f.vars) (hi : f.vars ≤ i) : Perm0 e ∧ e.length = f.vars.toNat := by
  have h1 := h.le
  have h2 := nodup_le (l := (List.range f.vars.toNat).map fun (i : Nat) => (i : Int)) (m := e) (List.Pairwise.map _ (fun a b (h : a ≠ b) (e : (a : Int) = b) => h (by omega)) List.nodup_range) (fun x hx => by
    obtain ⟨q, hq, rfl⟩ := List.mem_map.1 hx
    rw [List.mem_range] at hq
    exact (h.mem _).2 ⟨by omega, by omega, .inr (by omega)⟩)
  rw [List.length_map, List.length_range] at h2
  have h3 : e.length = f.vars.toNat := by omega
  exact ⟨⟨fun x hx => by have := (h.mem x).1 hx; omega, h.nodup⟩, h3⟩
theorem walk_start (f : FM) : WalkOk f none [] (List.replicate (f.vars.toNat + f.nodes.length) false) := by
  refine ⟨List.length_replicate .., List.nodup_nil, fun x => ?_, fun _ => rfl⟩
  constructor
  · intro h; cases h
  · rintro ⟨_, _, h⟩
    rw [List.getD_eq_getElem?_getD, List.getElem?_replicate] at h
    split at h <;> cases h
end Go.PN
namespace Go.Proofs.YtmfmnmkipjpjhaaGreatDoor
open Go.AI Go.PN
attribute [local irreducible] aw Fa Fh DrK
theorem make_bs' (n : Nat) : (fun j => [CV.bool false][j % 1]?.getD .any) = bsF (List.replicate n false) := by
  rw [← make_bs n]
  funext j
  rw [Nat.mod_one]; rfl
set_option maxRecDepth 100000 in
set_option maxHeartbeats 6400000 in
theorem odepth_fh (f : FM) (ok : FrOk f) : Fh Tryz.prog 101 [] [.agg (fmc false f)] (fun x h => h = [] ∧ ∃ (o : List Int) (s : List Bool), x = .tup [.c (is true o), .c (.row true 1 (f.vars.toNat + f.nodes.length) (bsF s))] ∧ Perm0 o ∧ o.length = f.vars.toNat) := by
  have v0 := ok.v0
  have v24 := ok.v24
  have n128 := ok.n128
  have t0 := ok.t0
  have t1 := ok.t1
  obtain ⟨V, hV⟩ := Int.eq_ofNat_of_zero_le v0
  obtain ⟨T, hT⟩ := Int.eq_ofNat_of_zero_le t0
  have hN : f.vars + (f.nodes.length : Int) = ((f.vars.toNat + f.nodes.length : Nat) : Int) := by omega
  refine fh_of_body Tryz.func101 rfl rfl (by simp [Tryz.ntmps101]) fun C hC => ?_
  simp only [initS, Nat.reduceAdd]
  refine xG ?_
  refine xB fun g1 hn_g1=>?_
  refine yG hn_g1 ?_
  refine aw_drB 8 ty_mixed (by kernel_rfl) ?_
  repeat first | (refine drb_2q true rfl (fun R hR => ?_); simp only [go_sem, hn_g1, hN]; (with_reducible refine hR _ _ ?_ ?_); (focus (((try simp only [inRange]) <;> and_intros <;> first | exact True.intro | omega | trivial); done)); clear hR R) | fail
  refine drb_new rfl (NewX.make (n := f.vars.toNat + f.nodes.length) (c := f.vars.toNat + f.nodes.length) (size := 1) (z := [.bool false]) rfl rfl rfl (zE (oj hn_g1 hN)) (zE (oj hn_g1 hN)) rfl (by omega) (zE (oj hn_g1 hN)) (zE (oj hn_g1 hN)) rfl rfl (by omega) (by omega) (by omega)) (by kernel_rfl) ?_
  refine yS (oj hn_g1 hN) ?_
  refine drb_nil fun γ => ?_
  refine yS (oj hn_g1 hN) ?_
  rw [make_bs' (f.vars.toNat + f.nodes.length)]
  generalize γ 7 = gS
  refine yG (oj hn_g1 hN) ?_
  refine yB (oj hn_g1 hN) fun gW hn_gW=>?_
  refine yG (oj hn_g1 (oj hN hn_gW)) ?_
  refine aw_nd fun hnd => ?_
  simp only [Heap.keys, List.map_cons, List.map_nil] at hnd
  replace hnd := ndP_of hnd
  dsimp only [ndP, neA] at hnd
  refine yG hnd ?_
  refine aw_callh (hr := [(g1, .cells 24 3 (ofL (fmc false f)))]) (visit_fh f ok gW gS (T + 1) T none [] (List.replicate (f.vars.toNat + f.nodes.length) false) (by omega) (by omega) (walk_start f)) rfl rfl rfl (List.Perm.refl _) (by rw [hT]; exact (zL hnd)) ?_
  rintro _ _ ⟨rfl, oe, e, s, rfl, hw⟩ hk
  have hd0 := DepOk.start hw
  have hsl := hw.len
  clear hw hk
  refine yS hnd ?_
  refine aw_perm (h' := ([(g1, .cells 24 3 (ofL (fmc false f)))] : Heap) ++ WH f gW gS oe e s) (List.perm_append_comm (l₁ := WH f gW gS oe e s) (l₂ := ([(g1, .cells 24 3 (ofL (fmc false f)))] : Heap))) ?_
  simp only [List.cons_append, List.nil_append]
  refine yG hnd ?_
  refine aw_lp (fun y : Nat × Option Nat × List Int => [(4, .c (.optr gW 0)), (21, .c (.int .i64 f.vars)), (22, .c (.int .i64 y.1))]) (fun y => WH f gW gS y.2.1 y.2.2 s)
    (fun y => (y.1 : Int) ≤ f.vars ∧ DepOk f s y.1 y.2.1 y.2.2) (fun y => f.vars.toNat - y.1) (0, oe, e) (zB hnd) (List.Sublist.cons _ (List.Sublist.refl _)) ⟨v0, hd0⟩ ?_
  clear hd0
  clear oe e
  rintro ⟨i, oe, e⟩ ⟨hi, hd⟩
  dsimp only at hi hd ⊢
  have hel := hd.le
  refine yG hnd ?_
  refine yF hnd (fun h1=>?_) fun h1=>?_
  · have h1' : (i : Int) < f.vars := of_decide_eq_true h1
    refine yG hnd ?_
    refine yF hnd (fun h2=>?_) fun h2=>?_
    · have h2' : s.getD i false = false := by simpa using h2
      have hd2 := fun g => hd.push h1' h2' g
      refine yG hnd ?_
      refine aw_push (pre := [(gW, .cells 159 5 (ofL [.int .i64 f.vars, fns false f.nodes, .int .i64 f.top, gs oe 1 e.length, .osl gS 1 0 (f.vars.toNat + f.nodes.length)])), (gS, .cells 4 (f.vars.toNat + f.nodes.length) (bsF s))]) rfl rfl rfl rfl rfl rfl rfl (zE hnd) (zE hnd) (by rfl) (by omega) (by omega) (zE hnd) (by omega) (by exact hd.none') (zE hnd) (by rfl) (by rfl) (by first | rfl | simp only [Nat.mul_one, List.nil_append, List.cons_append] <;> rfl) (by unfold maxLen; omega) (by omega) (by exact is_push rfl (i : Int)) fun g hn_g => ?_
      replace hn_g := Heap.ne_of hn_g
      first | dsimp only [Heap.ne, gh] at hn_g | dsimp only [Heap.ne] at hn_g | skip
      refine yS (oj hnd hn_g) ?_
      refine yG (oj hnd hn_g) ?_
      refine yW (oj hnd hn_g) ?_
      refine yS (oj hnd hn_g) ?_
      refine yG (oj hnd hn_g) ?_
      rw [updF_at _ 3 _ (by simp)]
      have hl1 : (e ++ [(i : Int)]).length = e.length + 1 := by simp
      exact aw_stop ⟨(i + 1, some g, e ++ [(i : Int)]), by dsimp only; omega, (zB (oj hnd hn_g)), (by dsimp only; rw [WH, hl1]; exact List.Sublist.refl _), by dsimp only; omega, hd2 g⟩
    · have h2' : s.getD i false = true := by simpa using h2
      refine yG hnd ?_
      exact aw_stop ⟨(i + 1, oe, e), by dsimp only; omega, (zB hnd), zZ, by dsimp only; omega, hd.skip h2'⟩
  · have h1' : f.vars ≤ i := by have := of_decide_eq_false h1; omega
    obtain ⟨hp, hl⟩ := hd.done v0 h1'
    refine yG hnd ?_
    refine aw_perm (h' := (gW, .cells 159 5 (ofL [.int .i64 f.vars, fns false f.nodes, .int .i64 f.top, gs oe 1 e.length, .osl gS 1 0 (f.vars.toNat + f.nodes.length)])) :: (gh oe 3 (e.length * 1) (isF e) ++ [(gS, .cells 4 (f.vars.toNat + f.nodes.length) (bsF s))])) (by
      rw [Nat.mul_one]
      exact List.Perm.cons _ (List.perm_append_comm (l₁ := ([(gS, .cells 4 (f.vars.toNat + f.nodes.length) (bsF s))] : Heap)))) ?_
    refine aw_frzG (j0 := 3) (og := oe) (s := 1) (n := e.length) (f' := ofL [.int .i64 f.vars, fns false f.nodes, .int .i64 f.top, is true e, .osl gS 1 0 (f.vars.toNat + f.nodes.length)]) rfl rfl (fun j hj hne => ?_) hd.none' (fun g e => ?_) ?_
    · match j, hj, hne with
      | 0, _, _ => rfl
      | 1, _, _ => rfl
      | 2, _, _ => rfl
      | 3, _, hne => exact absurd rfl hne
      | 4, _, _ => rfl
    · exact fun h => by have := (hC g).1 h; simp [Heap.keys] at this
    refine aw_frzC (j0 := 4) (n' := f.vars.toNat + f.nodes.length) (f' := ofL [.int .i64 f.vars, fns false f.nodes, .int .i64 f.top, is true e, .row true 1 (f.vars.toNat + f.nodes.length) (bsF s)]) rfl (Nat.le_refl _) rfl (fun j hj hne => ?_) ?_ ?_
    · match j, hj, hne with
      | 0, _, _ => rfl
      | 1, _, _ => rfl
      | 2, _, _ => rfl
      | 3, _, _ => rfl
      | 4, _, hne => exact absurd rfl hne
    · exact fun h => by have := (hC gS).1 h; simp [Heap.keys] at this
    refine yG hnd ?_
    refine aw_dr 10 ty_mixed (by kernel_rfl) ?_
    refine yG hnd ?_
    refine aw_rethw (h' := []) rfl (List.nil_sublist _) (fun R hR => ?_)
    simp only [go_sem, hnd]
    refine hR _ rfl ?_
    exact ⟨rfl, e, s, rfl, hp, hl⟩
set_option maxHeartbeats 3200000 in
theorem oDepth_fh (f : FM) (hn : f.nodes.length ≤ 1099511627776) (ha : ArgsOk f) (hc : fcode f = 0) : Fh Tryz.prog 65 [] [.agg (fmc false f)] (fun x h => h = [] ∧ ∃ (o : List Int), x = .tup [.c (is true o), .c .nilI] ∧ Perm0 o ∧ o.length = f.vars.toNat) := by
  have ok := fr_ok hc
  have v0 := ok.v0
  have v24 := ok.v24
  have n128 := ok.n128
  have t0 := ok.t0
  have t1 := ok.t1
  have z := ieq_t hc
  refine fh_of_body Tryz.func65 rfl rfl (by simp [Tryz.ntmps65]) fun C hC => ?_
  simp only [initS, Nat.reduceAdd]
  refine yG z ?_
  refine yB z fun g1 hn_g1=>?_
  refine yG (oj z hn_g1) ?_
  refine aw_callq (fcheck_fa f hn ha (by omega) (by omega)) rfl rfl rfl (zL (oj z hn_g1)) ?_
  refine yS (oj z hn_g1) ?_
  refine yG (oj z hn_g1) ?_
  refine yN (oj z hn_g1) ?_
  refine yG (oj z hn_g1) ?_
  refine aw_callh (hr := [(g1, .cells 24 3 (ofL (fmc false f)))]) (odepth_fh f ok) rfl rfl rfl (List.Perm.refl _) (zL (oj z hn_g1)) ?_
  rintro _ _ ⟨rfl, o, s, rfl, hp, hl⟩ _
  refine yS (oj z hn_g1) ?_
  refine yG (oj z hn_g1) ?_
  refine aw_rethw (h' := []) rfl (List.nil_sublist _) (fun R hR => ?_)
  simp only [go_sem, z, hn_g1]
  refine hR _ rfl ?_
  exact ⟨rfl, o, rfl, hp, hl⟩
end Go.Proofs.YtmfmnmkipjpjhaaGreatDoor

/- shannon.Top. -/
namespace Go.PN
theorem oscan_zero {vars : Int} : ∀ (o seen : List Int), (∀ x ∈ o, 0 ≤ x ∧ x < vars) → (seen ++ o).Nodup → oscan vars seen o = 0
  | [], _, _, _ => rfl
  | x :: o, seen, h, hs => by
    rw [oscan, if_neg (by have := h x (List.mem_cons_self ..); omega), if_neg (fun hm => by
      rw [List.nodup_append] at hs
      exact hs.2.2 x hm x (List.mem_cons_self ..) rfl)]
    exact oscan_zero o (seen ++ [x]) (fun y hy => h y (List.mem_cons_of_mem _ hy)) (by simpa using hs)
theorem perm_code {o : List Int} (hp : Perm0 o) (hl : o.length ≤ 24) : ocode o o.length = 0 := by
  unfold ocode
  rw [if_neg (by omega), if_neg (by simp)]
  exact oscan_zero o [] hp.range (by simpa using hp.nodup)
end Go.PN
namespace Go.Proofs.YtmfmnmkipjpjhaaGreatDoor
open Go.AI Go.PN
attribute [local irreducible] aw Fa Fh DrK
set_option maxRecDepth 100000 in
set_option maxHeartbeats 6400000 in
/-- shannon.Top, where it has no error. -/
theorem stop_fh (f : FM) (p : List RD) (hn : f.nodes.length ≤ 1099511627776) (ha : ArgsOk f) (hc : fcode f = 0) (h6 : f.vars ≤ 6) (hw : ∀ r ∈ p, r.wf 4) (hp : pcode p f.vars = 0) (hpl : (p.length : Int) = f.vars) : Fh Tryz.prog 31 [] [.agg (fmc false f), .c (rats false p)] (fun x h => h = [] ∧ ∃ D, DOut D.order (fun s => valF f s f.top) D ∧ D.order.length = p.length ∧ x = .tup [.agg (rdc (rd (sumQ p (tabL D) (2 ^ p.length)))), .c .nilI]) := by
  have ok := fr_ok hc
  have v0 := ok.v0
  have n128 := ok.n128
  have t0 := ok.t0
  have t1 := ok.t1
  have z := ieq_t hc
  have z2 := ieq_t hp
  refine fh_of_body Tryz.func31 rfl rfl (by simp [Tryz.ntmps31]) fun C hC => ?_
  simp only [initS, Nat.reduceAdd]
  refine yG (oj z z2) ?_
  refine yB (oj z z2) fun g2 hn_g2=>?_
  refine yG (oj z (oj z2 hn_g2)) ?_
  refine yA (oj z (oj z2 hn_g2)) fun g4 hn_g4=>?_
  refine yG (oj z (oj z2 (oj hn_g2 hn_g4))) ?_
  refine aw_callq (fcheck_fa f hn ha (by omega) (by omega)) rfl rfl rfl (zL (oj z (oj z2 (oj hn_g2 hn_g4)))) ?_
  refine yS (oj z (oj z2 (oj hn_g2 hn_g4))) ?_
  refine yG (oj z (oj z2 (oj hn_g2 hn_g4))) ?_
  refine yN (oj z (oj z2 (oj hn_g2 hn_g4))) ?_
  refine yG (oj z (oj z2 (oj hn_g2 hn_g4))) ?_
  refine aw_callq (scheck_fa p f.vars (fun r hr => wf_mono (hw r hr) (by omega)) (by omega)) rfl rfl rfl (zL (oj z (oj z2 (oj hn_g2 hn_g4)))) ?_
  refine yS (oj z (oj z2 (oj hn_g2 hn_g4))) ?_
  refine yG (oj z (oj z2 (oj hn_g2 hn_g4))) ?_
  refine yN (oj z (oj z2 (oj hn_g2 hn_g4))) ?_
  refine yG (oj z (oj z2 (oj hn_g2 hn_g4))) ?_
  refine aw_callh (hc := []) (hr := [(g4, .cells 30 3 (ofL [.bool false, .nils, .nils])), (g2, .cells 24 3 (ofL (fmc false f)))]) (oDepth_fh f hn ha hc) rfl rfl rfl (.refl _) (zL (oj z (oj z2 (oj hn_g2 hn_g4)))) ?_
  rintro _ _ ⟨rfl, o, rfl, hpo, hol⟩ _
  refine yS (oj z (oj z2 (oj hn_g2 hn_g4))) ?_
  refine yG (oj z (oj z2 (oj hn_g2 hn_g4))) ?_
  refine yN (oj z (oj z2 (oj hn_g2 hn_g4))) ?_
  refine yG (oj z (oj z2 (oj hn_g2 hn_g4))) ?_
  have hoc : ocode o o.length = 0 := perm_code hpo (by omega)
  refine aw_callh (hc := []) (hr := [(g4, .cells 30 3 (ofL [.bool false, .nils, .nils])), (g2, .cells 24 3 (ofL (fmc false f)))]) (build_fh f hn ha hc o hoc hol (by omega)) rfl rfl rfl (.refl _) (zL (oj z (oj z2 (oj hn_g2 hn_g4)))) ?_
  rintro _ _ ⟨rfl, D, hD, rfl⟩ _
  refine yS (oj z (oj z2 (oj hn_g2 hn_g4))) ?_
  refine yG (oj z (oj z2 (oj hn_g2 hn_g4))) ?_
  refine yA (oj z (oj z2 (oj hn_g2 hn_g4))) fun g10 hn_g10=>?_
  refine yG (oj z (oj z2 (oj hn_g2 (oj hn_g4 hn_g10)))) ?_
  refine yW (oj z (oj z2 (oj hn_g2 (oj hn_g4 hn_g10)))) ?_
  refine yS (oj z (oj z2 (oj hn_g2 (oj hn_g4 hn_g10)))) ?_
  refine yG (oj z (oj z2 (oj hn_g2 (oj hn_g4 hn_g10)))) ?_
  refine yN (oj z (oj z2 (oj hn_g2 (oj hn_g4 hn_g10)))) ?_
  refine yG (oj z (oj z2 (oj hn_g2 (oj hn_g4 hn_g10)))) ?_
  have okD := dg_ok hD.code
  have hoD := hD.order
  have hplD : p.length = D.order.length := by rw [hoD]; omega
  have k1 := okD.n4096
  have k2 := okD.r1
  have k0 := okD.r0
  have k3 := vlen (ps := p) (ns := D.nodes)
  have hB6 : D.order.length ≤ 6 := by omega
  refine aw_dr 6 ty_mixed (by kernel_rfl) ?_
  refine yG (oj z (oj z2 (oj hn_g2 (oj hn_g4 hn_g10)))) ?_
  refine yD (oj z (oj z2 (oj hn_g2 (oj hn_g4 hn_g10)))) (values_fa D p 1000 ?_ ?_ (fun r hr => wf_mono (hw r hr) ?_) (vals_wf okD hplD (L := 4) ?_ hw (Bl46 hB6)) (ns_len okD hplD) ?_) ?_
  · omega
  · omega
  · omega
  · omega
  · omega
  refine yG (oj z (oj z2 (oj hn_g2 (oj hn_g4 hn_g10)))) ?_
  refine yD (oj z (oj z2 (oj hn_g2 (oj hn_g4 hn_g10)))) (of_fa' (valsL p D.nodes []) D.root okD.r0 ?_ ?_) ?_
  · omega
  · omega
  refine yG (oj z (oj z2 (oj hn_g2 (oj hn_g4 hn_g10)))) ?_
  refine yW (oj z (oj z2 (oj hn_g2 (oj hn_g4 hn_g10)))) ?_
  refine yS (oj z (oj z2 (oj hn_g2 (oj hn_g4 hn_g10)))) ?_
  refine yG (oj z (oj z2 (oj hn_g2 (oj hn_g4 hn_g10)))) ?_
  refine aw_rethw (h' := []) rfl (List.nil_sublist _) (fun R hR => ?_)
  simp only [go_sem, z, z2, hn_g2, hn_g4, hn_g10]
  refine hR _ rfl ?_
  refine ⟨rfl, D, by rw [hoD]; exact hD, hplD.symm, ?_⟩
  rw [← plain_law okD hplD]
end Go.Proofs.YtmfmnmkipjpjhaaGreatDoor

/- shannon.Top, the errors; the table of a formula. -/
namespace Go.Proofs.YtmfmnmkipjpjhaaGreatDoor
open Go.AI Go.PN
attribute [local irreducible] aw Fa Fh DrK
theorem form_range (f : FM) : ∀ n, formTo f n = (List.range n).map fun s => valF f s f.top
  | 0 => rfl
  | n + 1 => by rw [formTo, form_range f n, List.range_succ, List.map_append]; rfl
theorem form_tab {f : FM} {D : DG} (h : DOut D.order (fun s => valF f s f.top) D) (hl : D.order.length = f.vars.toNat) : tabL D = formTo f (2 ^ f.vars.toNat) := by
  rw [form_range, tabL, hl]
  exact List.map_congr_left fun s _ => h.ev s
end Go.Proofs.YtmfmnmkipjpjhaaGreatDoor

/- faultlinebase.Rats; Accepts of shannon and of the reference. -/
namespace Go.PN
open Go.AI
theorem signQ_zero {x y : Rat} : (signQ (x - y) != 0) = !decide (x = y) := by
  have h0 : signQ (x - y) = 0 ↔ x = y := by
    unfold signQ
    constructor
    · intro h
      split at h
      · rename_i h1; grind
      · split at h <;> cases h
    · intro h; rw [if_pos (by grind)]
  by_cases h : x = y
  · rw [h0.2 h]; simp [h]
  · have : signQ (x - y) ≠ 0 := fun e => h (h0.1 e)
    simp [h, this]
end Go.PN
namespace Go.Proofs.YtmfmnmkipjpjhaaGreatDoor
open Go.AI Go.PN
attribute [local irreducible] aw Fa Fh DrK
end Go.Proofs.YtmfmnmkipjpjhaaGreatDoor

/- faultlinelaw37: valid, ShannonTotal. -/
namespace Go.Proofs.YtmfmnmkipjpjhaaGreatDoor
open Go.AI Go.PN
attribute [local irreducible] aw Fa Fh DrK
end Go.Proofs.YtmfmnmkipjpjhaaGreatDoor

/- The law ShannonAdds. -/
namespace Go.Proofs.YtmfmnmkipjpjhaaGreatDoor
open Go.AI Go.PN
attribute [local irreducible] aw Fa Fh DrK
end Go.Proofs.YtmfmnmkipjpjhaaGreatDoor

/- The law ShannonTop. -/
namespace Go.Proofs.YtmfmnmkipjpjhaaGreatDoor
open Go.AI Go.PN
attribute [local irreducible] aw Fa Fh DrK
end Go.Proofs.YtmfmnmkipjpjhaaGreatDoor

/- Coherent formulas are monotone; the probability of a monotone function never falls if a probability rises. -/
namespace Go.PN
open Go.AI
/-- s is a part of t. -/
def Sub (s t : Nat) : Prop := ∀ j, s.testBit j = true → t.testBit j = true
theorem bit_add {s m : Nat} (hs : s < 2 ^ m) (j : Nat) : (s + 2 ^ m).testBit j = (decide (m = j) || s.testBit j) := by
  have := Nat.two_pow_add_eq_or_of_lt hs 1
  rw [Nat.mul_one] at this
  rw [Nat.add_comm, this, Nat.testBit_or, Nat.testBit_two_pow]
theorem sub_add {s t m : Nat} (hs : s < 2 ^ m) (ht : t < 2 ^ m) (h : Sub s t) : Sub (s + 2 ^ m) (t + 2 ^ m) := fun j hj => by
  rw [bit_add hs] at hj
  rw [bit_add ht]
  rcases (Bool.or_eq_true _ _).mp hj with h1 | h1
  · rw [h1]; rfl
  · rw [h j h1, Bool.or_true]
theorem sub_up {s m : Nat} (hs : s < 2 ^ m) : Sub s (s + 2 ^ m) := fun j hj => by rw [bit_add hs, hj, Bool.or_true]
theorem ex_le {p : Nat → Rat} : ∀ (m : Nat) (f g : Nat → Rat), (∀ i, i < m → 0 ≤ p i ∧ p i ≤ 1) → (∀ s, s < 2 ^ m → f s ≤ g s) → exQ p m f ≤ exQ p m g
  | 0, f, g, _, h => h 0 (by simp)
  | m + 1, f, g, hp, h => by
    have e : 2 ^ (m + 1) = 2 ^ m + 2 ^ m := by rw [Nat.pow_succ]; omega
    have h1 := ex_le m f g (fun i hi => hp i (by omega)) fun s hs => h s (by omega)
    have h2 := ex_le m (fun s => f (s + 2 ^ m)) (fun s => g (s + 2 ^ m)) (fun i hi => hp i (by omega)) fun s hs => h _ (by omega)
    obtain ⟨p0, p1⟩ := hp m (by omega)
    rw [exQ, exQ]
    have h3 := Rat.mul_le_mul_of_nonneg_left h1 (show 0 ≤ 1 - p m by grind)
    have h4 := Rat.mul_le_mul_of_nonneg_left h2 p0
    grind
theorem mix_rise {p q a b A B : Rat} (p0 : 0 ≤ p) (pq : p ≤ q) (q1 : q ≤ 1) (h1 : a ≤ A) (h2 : b ≤ B) (h3 : A ≤ B) : (1 - p) * a + p * b ≤ (1 - q) * A + q * B := by
  have e1 := Rat.mul_le_mul_of_nonneg_left h1 (show 0 ≤ 1 - p by grind)
  have e2 := Rat.mul_le_mul_of_nonneg_left h2 p0
  have e3 := Rat.mul_le_mul_of_nonneg_left h3 (show 0 ≤ q - p by grind)
  grind
theorem ex_rise {p q : Nat → Rat} : ∀ (m : Nat) (f : Nat → Rat), (∀ i, i < m → 0 ≤ p i ∧ p i ≤ q i ∧ q i ≤ 1) → (∀ s t, s < 2 ^ m → t < 2 ^ m → Sub s t → f s ≤ f t) → exQ p m f ≤ exQ q m f
  | 0, f, _, _ => Rat.le_refl
  | m + 1, f, hp, h => by
    have e : 2 ^ (m + 1) = 2 ^ m + 2 ^ m := by rw [Nat.pow_succ]; omega
    have h1 := ex_rise (p := p) (q := q) m f (fun i hi => hp i (by omega)) fun s t hs ht hst => h s t (by omega) (by omega) hst
    have h2 := ex_rise (p := p) (q := q) m (fun s => f (s + 2 ^ m)) (fun i hi => hp i (by omega)) fun s t hs ht hst => h _ _ (by omega) (by omega) (sub_add hs ht hst)
    have h3 := ex_le (p := q) m f (fun s => f (s + 2 ^ m)) (fun i hi => by obtain ⟨a, b, c⟩ := hp i (by omega); exact ⟨by grind, c⟩) fun s hs => h _ _ (by omega) (by omega) (sub_up hs)
    obtain ⟨p0, pq, q1⟩ := hp m (by omega)
    rw [exQ, exQ]
    exact mix_rise p0 pq q1 h1 h2 h3
/-- No node below the top of the first k is a not or an exclusive or. -/
def cohTo (f : FM) : Nat → Bool
  | 0 => true
  | k + 1 => cohTo f k && !((belL f).getD (f.vars.toNat + k) false && (decide ((f.nodes.getD k fn0).kind = 1) || decide ((f.nodes.getD k fn0).kind = 5)))
theorem cohTo_at {f : FM} {i : Nat} : ∀ {k : Nat}, cohTo f k = true → i < k → (belL f).getD (f.vars.toNat + i) false = true → (f.nodes.getD i fn0).kind ≠ 1 ∧ (f.nodes.getD i fn0).kind ≠ 5
  | 0, _, h, _ => by omega
  | k + 1, hc, h, hb => by
    rw [cohTo, Bool.and_eq_true] at hc
    by_cases e : i = k
    · subst e
      have := hc.2
      rw [hb] at this
      simpa using this
    · exact cohTo_at hc.1 (by omega) hb
theorem cntV_mono {v w : Int → Bool} : ∀ {az : List Int}, (∀ a ∈ az, v a = true → w a = true) → cntV v az ≤ cntV w az
  | [], _ => Nat.le_refl _
  | a :: az, h => by
    have ih := cntV_mono (az := az) fun b hb => h b (List.mem_cons_of_mem _ hb)
    have ha := h a (List.mem_cons_self ..)
    unfold cntV at ih ⊢
    rw [List.filter_cons, List.filter_cons]
    cases hv : v a
    · cases hw : w a <;> simp <;> omega
    · rw [ha hv]; simp; omega
theorem nodeV_mono {v w : Int → Bool} {x : FN} (h1 : x.kind ≠ 1) (h5 : x.kind ≠ 5) (k0 : 0 ≤ x.kind) (k5 : x.kind ≤ 5) (h : ∀ a ∈ x.args, v a = true → w a = true) (hv : nodeV v x = true) : nodeV w x = true := by
  have hm := cntV_mono (v := v) (w := w) h
  have hl : cntV w x.args ≤ x.args.length := List.length_filter_le _ _
  unfold nodeV at hv ⊢
  have hk : x.kind = 0 ∨ x.kind = 2 ∨ x.kind = 3 ∨ x.kind = 4 := by omega
  rcases hk with hk | hk | hk | hk
  · rw [hk] at hv ⊢
    exact hv
  · rw [hk] at hv ⊢
    have hv' : (((cntV v x.args : Nat) : Int) == (x.args.length : Int)) = true := hv
    have := eq_of_beq hv'
    show (((cntV w x.args : Nat) : Int) == (x.args.length : Int)) = true
    exact beq_iff_eq.2 (by omega)
  · rw [hk] at hv ⊢
    have hv' : decide (((cntV v x.args : Nat) : Int) > 0) = true := hv
    have := of_decide_eq_true hv'
    show decide (((cntV w x.args : Nat) : Int) > 0) = true
    exact decide_eq_true (by omega)
  · rw [hk] at hv ⊢
    have hv' : decide (((cntV v x.args : Nat) : Int) ≥ x.k) = true := hv
    have := of_decide_eq_true hv'
    show decide (((cntV w x.args : Nat) : Int) ≥ x.k) = true
    exact decide_eq_true (by omega)
theorem val_mono {f : FM} (ok : FrOk f) (hc : cohTo f f.nodes.length = true) {s t : Nat} (hst : Sub s t) : ∀ (n : Nat) (a : Int), a.toNat < n → 0 ≤ a → a < f.vars + f.nodes.length → (belL f).getD a.toNat false = true → valF f s a = true → valF f t a = true := by
  have v0 := ok.v0
  intro n
  induction n with
  | zero => intro a hn; omega
  | succ n ih =>
    intro a hn h0 h1 hm
    by_cases hv : a < f.vars
    · rw [val_event hv, val_event hv]
      exact hst _
    · obtain ⟨i, hi⟩ : ∃ i : Nat, a = f.vars + i := ⟨(a - f.vars).toNat, by omega⟩
      subst hi
      have hi : i < f.nodes.length := by omega
      have hm' : (belL f).getD (f.vars.toNat + i) false = true := by rw [show f.vars.toNat + i = (f.vars + (i : Int)).toNat from by omega]; exact hm
      rw [val_node ok hi, val_node ok hi]
      obtain ⟨n1, n5⟩ := cohTo_at hc hi hm'
      obtain ⟨k0, k5⟩ := ok.kind i hi
      refine nodeV_mono n1 n5 k0 k5 fun b hb => ?_
      obtain ⟨b0, b1⟩ := ok.arg i hi b hb
      exact ih b (by omega) b0 (by omega) (bel_arg ok hi hm' hb)
theorem coh_mono {f : FM} (ok : FrOk f) (hc : cohTo f f.nodes.length = true) {s t : Nat} (hst : Sub s t) (h : valF f s f.top = true) : valF f t f.top = true :=
  val_mono ok hc hst (f.top.toNat + 1) f.top (by omega) ok.t0 ok.t1 (bel_top ok _) h
end Go.PN

/- ref08.Below and ref33.Coherent. -/
namespace Go.Proofs.YtmfmnmkipjpjhaaGreatDoor
open Go.AI Go.PN
attribute [local irreducible] aw Fa Fh DrK
end Go.Proofs.YtmfmnmkipjpjhaaGreatDoor

/- ref02.Min and Max. -/
namespace Go.PN
open Go.AI
/-- The lesser and the greater one of two numbers. -/
def minQ (a b : Rat) : Rat := if signQ (a - b) > 0 then b else a
def maxQ (a b : Rat) : Rat := -minQ (-a) (-b)
end Go.PN
namespace Go.Proofs.YtmfmnmkipjpjhaaGreatDoor
open Go.AI Go.PN
attribute [local irreducible] aw Fa Fh DrK
theorem min_fits {a b : Rat} {L : Nat} (ha : fits a L) (hb : fits b L) : fits (minQ a b) L := by
  unfold minQ
  split
  · exact hb
  · exact ha
end Go.Proofs.YtmfmnmkipjpjhaaGreatDoor

/- Pinned steps of a drawn region: a slice that is built, a call at its place, an element that is appended. -/
namespace Go.AI
section
variable {E : Env} {K : List It} {l : List Oper} {FP FP' : Heap} {σ σ' : Sl} {h : Heap} {o : Oper} {i m : Nat} {cs : List (Nat × Nat)}
end
end Go.AI

/- The law ShannonRises. -/
namespace Go.AI
section
variable {E : Env} {K : List It} {σ σ' : Sl} {h : Heap}
/-- A growing slice that a slot holds is given up. -/
theorem aw_frzGT {t s n n' : Nat} {og : Option Nat} {ty : TypeId} {f f' : Nat → CV} (hog : og = none → n = 0) (hnn : n = n') (ht : σ.get t = .c (gs og s n)) (hn : ∀ g, og = some g → ¬ E.C.own0 g) (hf : ∀ j, j < n * s → f j = f' j) (hσ : σ.set t (.c (.row true s n' f')) = σ') (k : aw E K σ' h) : aw E K σ (gh og ty (n * s) f ++ h) := by
  subst hnn
  cases og with
  | none =>
    have h0 := hog rfl
    subst h0
    refine aw_conv (t := t) (v := .c (.row true s 0 f')) (fun S w u hr => ?_) hσ k
    rw [ht] at hr
    exact repC_nil hr
  | some g =>
    refine aw_frzT (t := t) (g := g) (s := s) (off := 0) (n := n) (m := n * s) (ty := ty) (f := f) f' ht ?_ (by omega) (hn g rfl) (fun j hj => by rw [Nat.zero_add]; exact hf j hj) hσ ?_ k
    · show Heap.get ((g, _) :: h) g = _
      simp [Heap.get]
    · show Heap.del ((g, _) :: h) g = _
      simp [Heap.del]
end
end Go.AI
namespace Go.PN
open Go.AI
theorem signQ_gt (x : Rat) : decide (signQ x > 0) = decide (0 < x) := by
  have h := signQ_le x
  by_cases h0 : x ≤ 0
  · rw [decide_eq_true h0] at h
    have := of_decide_eq_true h
    rw [decide_eq_false (show ¬ signQ x > 0 by omega), decide_eq_false (show ¬ 0 < x by grind)]
  · rw [decide_eq_false h0] at h
    have := of_decide_eq_false h
    rw [decide_eq_true (show signQ x > 0 by omega), decide_eq_true (show 0 < x by grind)]
theorem min_le (a b : Rat) : minQ a b ≤ a ∧ minQ a b ≤ b ∧ (minQ a b = a ∨ minQ a b = b) := by
  have h := signQ_gt (a - b)
  unfold minQ
  by_cases hs : signQ (a - b) > 0
  · rw [decide_eq_true hs] at h
    have := of_decide_eq_true h.symm
    rw [if_pos hs]
    exact ⟨by grind, Rat.le_refl, .inr rfl⟩
  · rw [decide_eq_false hs] at h
    have := of_decide_eq_false h.symm
    rw [if_neg hs]
    exact ⟨Rat.le_refl, by grind, .inl rfl⟩
theorem max_ge (a b : Rat) : a ≤ maxQ a b ∧ b ≤ maxQ a b ∧ (maxQ a b = a ∨ maxQ a b = b) := by
  obtain ⟨h1, h2, h3⟩ := min_le (-a) (-b)
  unfold maxQ
  refine ⟨by grind, by grind, ?_⟩
  rcases h3 with h | h <;> rw [h] <;> grind
end Go.PN
namespace Go.Proofs.YtmfmnmkipjpjhaaGreatDoor
open Go.AI Go.PN
attribute [local irreducible] aw Fa Fh DrK
theorem pcode_mk {p : List RD} {v : Int} (h1 : (p.length : Int) = v) (h2 : ∀ r ∈ p, r.prob = true) : pcode p v = 0 := by
  unfold pcode
  rw [if_neg (by simpa using h1), if_pos (List.all_eq_true.2 h2)]
/-- The probability of a formula, as the expected value. -/
theorem sum_ex {f : FM} {D : DG} {p : List RD} (hD : DOut D.order (fun s => valF f s f.top) D) (hl : D.order.length = p.length) : sumQ p (tabL D) (2 ^ p.length) = exQ (prP p) p.length (fun s => evB (valF f s f.top)) := by
  have := prS_ex (d := D) (p := p) hl
  unfold prS at this
  rw [this]
  exact ex_congr _ _ _ fun s _ => by rw [hD.ev s]
end Go.Proofs.YtmfmnmkipjpjhaaGreatDoor
