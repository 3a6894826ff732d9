/- Blocks of one proof, laid one behind the other by a program (merge2.py). -/
import Derived.Test.YtcoflhkcpnoaaaaGreatM31
import Derived.Test.YtcoflhkcpnoaaaaGreatM35
import Derived.Test.YtcoflhkcpnoaaaaGreatM36
set_option linter.unusedSimpArgs false
set_option linter.unusedVariables false
namespace Go.AI
open Go.PN
section
variable {E : Env} {K : List It} {σ σ' : Sl} {h : Heap}
theorem aw_less {g n n' : Nat} {ty : TypeId} {f f' : Nat → CV} {h : Heap} (hn : n' ≤ n) (hf : ∀ j, j < n' → f j = f' j) (k : aw E K σ ((g, .cells ty n' f') :: h)) : aw E K σ ((g, .cells ty n f) :: h) := fun a w s => by
  refine k a w ⟨s.size, s.defers, s.slots, fun g' o' hm => ?_, s.nodup, s.keys, s.frame⟩
  rcases List.mem_cons.1 hm with e | hm
  · injection e with e1 e2
    subst e1 e2
    obtain ⟨cs, hb, hc, hj⟩ := s.heap _ _ (List.mem_cons_self ..)
    exact ⟨cs, hb, by omega, fun j hjl => by rw [← hf j hjl]; exact hj j (by omega)⟩
  · exact s.heap g' o' (List.mem_cons_of_mem _ hm)
end
end Go.AI

namespace Go.PN
open Go.AI Go.Proofs.YtcoflhkcpnoaaaaGreat
noncomputable def vsL (f : FM) (s k : Nat) : List Bool := (List.range (f.vars.toNat + k)).map fun (j : Nat) => valF f s j
theorem vsL_len (f : FM) (s k : Nat) : (vsL f s k).length = f.vars.toNat + k := by unfold vsL; simp
theorem vsL_get {f : FM} {s k j : Nat} (h : j < f.vars.toNat + k) : (vsL f s k).getD j false = valF f s j := by
  unfold vsL
  rw [List.getD_eq_getElem?_getD, List.getElem?_map, List.getElem?_range h]; rfl
theorem vsL_succ (f : FM) (s k : Nat) : vsL f s (k + 1) = vsL f s k ++ [valF f s ((f.vars.toNat + k : Nat) : Int)] := by
  unfold vsL
  rw [show f.vars.toNat + (k + 1) = (f.vars.toNat + k) + 1 from by omega, List.range_succ, List.map_append]; rfl
theorem vs_zero {f : FM} {s : Nat} {zs : List Bool} (hv : 0 ≤ f.vars) (hl : zs.length = f.vars.toNat) (h : ∀ j, j < f.vars.toNat → zs.getD j false = s.testBit j) : zs = vsL f s 0 := by
  refine List.ext_getElem (by rw [hl, vsL_len]; omega) fun j h1 h2 => ?_
  have e1 : zs.getD j false = zs[j] := by rw [List.getD_eq_getElem?_getD, List.getElem?_eq_getElem h1]; rfl
  have e2 : (vsL f s 0).getD j false = (vsL f s 0)[j] := by rw [List.getD_eq_getElem?_getD, List.getElem?_eq_getElem h2]; rfl
  rw [← e1, ← e2, h j (by omega), vsL_get (by omega), val_event (by omega)]
  rfl
theorem cntV_take {v : Int → Bool} {az : List Int} {j : Nat} (h : j < az.length) : cntV v (az.take (j + 1)) = cntV v (az.take j) + if v (az.getD j 0) then 1 else 0 := by
  unfold cntV
  rw [List.take_succ_eq_append_getElem h, List.filter_append, List.length_append, List.getD_eq_getElem?_getD, List.getElem?_eq_getElem h, Option.getD_some]
  by_cases hb : v az[j] = true
  · rw [if_pos hb, List.filter_cons_of_pos hb]; rfl
  · rw [if_neg hb, List.filter_cons_of_neg hb]; rfl
end Go.PN
namespace Go.Proofs.YtcoflhkcpnoaaaaGreat
open Go.AI Go.PN
attribute [local irreducible] aw Fa Fh DrK
set_option maxRecDepth 100000 in
set_option maxHeartbeats 1600000 in
theorem fchk_fa (f : FM) (s : Nat) (hn : f.nodes.length ≤ 1099511627776) (ha : ArgsOk f) (hc : fcode f = 0) (hs : s < 2 ^ f.vars.toNat) : Fa Tryz.prog 74 [.agg (fmc false f), .c (.int .i64 s)] (.c .nilI) := by
  have ok := fr_ok hc
  have v0 := ok.v0
  have v24 := ok.v24
  have n128 := ok.n128
  have t0 := ok.t0
  have t1 := ok.t1
  have z1 := ieq_t hc
  have e1 := shl_one f.vars.toNat (by omega)
  rw [show ((f.vars.toNat : Nat) : Int) = f.vars from by omega] at e1
  have e2 : decide ((s : Int) < 0) = false := decide_eq_false (by omega)
  have e3 : decide ((s : Int) ≥ ((2 ^ f.vars.toNat : Nat) : Int)) = false := decide_eq_false (by omega)
  refine fa_of_body Tryz.func74 rfl rfl (by simp [Tryz.ntmps74]) fun C hC => ?_
  simp only [initS, Nat.reduceAdd]
  refine yG (oj z1 (oj e1 (oj e2 e3))) ?_
  refine yB (oj z1 (oj e1 (oj e2 e3))) fun g2 hn_g2=>?_
  refine yG (oj z1 (oj e1 (oj e2 (oj e3 hn_g2)))) ?_
  refine yC (oj z1 (oj e1 (oj e2 (oj e3 hn_g2)))) (fcheck_fa f hn ha ?_ ?_) ?_
  · omega
  · omega
  refine yG (oj z1 (oj e1 (oj e2 (oj e3 hn_g2)))) ?_
  refine yN (oj z1 (oj e1 (oj e2 (oj e3 hn_g2)))) ?_
  refine yG (oj z1 (oj e1 (oj e2 (oj e3 hn_g2)))) ?_
  refine yN (oj z1 (oj e1 (oj e2 (oj e3 hn_g2)))) ?_
  refine yG (oj z1 (oj e1 (oj e2 (oj e3 hn_g2)))) ?_
  refine yT hC (oj z1 (oj e1 (oj e2 (oj e3 hn_g2)))) ?_
  exact .one (.c .nilI)
set_option maxRecDepth 100000 in
set_option maxHeartbeats 6400000 in
theorem fvals_fa (f : FM) (s : Nat) (hn : f.nodes.length ≤ 1099511627776) (ha : ArgsOk f) (hc : fcode f = 0) (hs : s < 2 ^ f.vars.toNat) : Fa Tryz.prog 75 [.agg (fmc false f), .c (.int .i64 s)] (.c (bs true (vsL f s f.nodes.length))) := by
  have ok := fr_ok hc
  have v0 := ok.v0
  have v24 := ok.v24
  have n128 := ok.n128
  have hs24 : s < 16777216 := lt24 (n := f.vars.toNat) (by omega) hs
  obtain ⟨n, hvn⟩ : ∃ n : Nat, f.vars.toNat = n := ⟨_, rfl⟩
  have hvi : f.vars = (n : Int) := by omega
  refine fa_of_body Tryz.func75 rfl rfl (by simp [Tryz.ntmps75]) fun C hC => ?_
  simp only [initS, Nat.reduceAdd]
  refine xG ?_
  refine xB fun g2 hn_g2=>?_
  refine yG hn_g2 ?_
  refine aw_make (n := n) (c := n + f.nodes.length) (size := 1) (z := [.bool false]) rfl rfl rfl (zE hn_g2) (zE hn_g2) rfl (by omega) (zE hn_g2) (zE hn_g2) hvi (by omega) (by omega) (by omega) (by omega) fun g hn_g => ?_
  rw [make_bs (n + f.nodes.length)]
  replace hn_g := Heap.ne_of hn_g
  dsimp only [Heap.ne] at hn_g
  refine yS (oj hn_g2 hn_g) ?_
  refine yG (oj hn_g2 hn_g) ?_
  refine aw_lp (fun x : Nat × List Bool => [(1, .c (.int .i64 s)), (2, .c (.optr g2 0)), (5, .c (.osl g 1 0 n)), (23, .c (.int .i64 n)), (24, .c (.int .i64 x.1))]) (fun x => [(g, .cells 4 (n + f.nodes.length) (bsF x.2)), (g2, .cells 50 3 (ofL (fmc false f)))])
    (fun x => x.1 ≤ n ∧ x.2.length = n + f.nodes.length ∧ ∀ j, j < x.1 → x.2.getD j false = s.testBit j) (fun x => n - x.1) (0, List.replicate (n + f.nodes.length) false) (zB (oj hn_g2 hn_g)) zZ ⟨Nat.zero_le _, by simp, fun j hj => by omega⟩ ?_
  rintro ⟨i, zs⟩ ⟨hi, hzl, hz⟩
  dsimp only at hi hzl hz ⊢
  refine yG (oj hn_g2 hn_g) ?_
  refine yF (oj hn_g2 hn_g) (fun h1=>?_) fun h1=>?_
  · have hin : i < n := by have := of_decide_eq_true h1; omega
    have b1 := shrZ_nat s i (by omega)
    have b2 := and_one_nat (s / 2 ^ i) (Nat.lt_of_le_of_lt (Nat.div_le_self _ _) (by omega))
    have b3 := bit_eq s i
    refine yG (oj hn_g2 (oj hn_g (oj b1 (oj b2 b3)))) ?_
    refine yW (oj hn_g2 (oj hn_g (oj b1 (oj b2 b3)))) ?_
    refine yS (oj hn_g2 (oj hn_g (oj b1 (oj b2 b3)))) ?_
    rw [updF_bs (by omega)]
    refine yG (oj hn_g2 (oj hn_g (oj b1 (oj b2 b3)))) ?_
    refine aw_stop ⟨(i + 1, zs.set i (s.testBit i)), by dsimp only; omega, (zB (oj hn_g2 (oj hn_g (oj b1 (oj b2 b3))))), zZ, by dsimp only; omega, by simpa using hzl, fun j hj => ?_⟩
    dsimp only at hj ⊢
    by_cases e : j = i
    · subst e
      rw [List.getD_eq_getElem?_getD, List.getElem?_set_self (by omega)]; rfl
    · rw [List.getD_eq_getElem?_getD, List.getElem?_set_ne (fun h => e h.symm), ← List.getD_eq_getElem?_getD]
      exact hz j (by omega)
  have hin : i = n := by have := of_decide_eq_false h1; omega
  subst hin
  have hvs : zs.take i = vsL f s 0 := vs_zero v0 (by rw [List.length_take]; omega) fun j hj => by
    rw [List.getD_eq_getElem?_getD, List.getElem?_take, if_pos (by omega), ← List.getD_eq_getElem?_getD]
    exact hz j (by omega)
  refine aw_less (n' := i) (f' := bsF (vsL f s 0)) (by omega) (fun j hj => by
    show CV.bool (zs.getD j false) = CV.bool ((vsL f s 0).getD j false)
    rw [← hvs, List.getD_eq_getElem?_getD, List.getD_eq_getElem?_getD, List.getElem?_take, if_pos hj]) ?_
  refine yG (oj hn_g2 hn_g) ?_
  refine aw_perm (.swap _ _ _) ?_
  refine aw_lp (fun x : Nat × Nat => [(2, .c (.optr g2 0)), (5, .c (gs (some x.1) 1 (i + x.2))), (37, .c (fns false f.nodes)), (38, .c (.int .i64 f.nodes.length)), (39, .c (.int .i64 x.2))]) (fun x => [(g2, .cells 50 3 (ofL (fmc false f)))] ++ gh (some x.1) 4 (i + x.2) (bsF (vsL f s x.2)))
    (fun x => x.2 ≤ f.nodes.length ∧ ¬ x.1 = g2) (fun x => f.nodes.length - x.2) (g, 0) (zB (oj hn_g2 hn_g)) (by simp only [gh, Nat.add_zero, List.cons_append, List.nil_append]; exact List.Sublist.refl _) ⟨Nat.zero_le _, of_eq_false hn_g.1.1⟩ ?_
  clear hz hzl hvs
  rintro ⟨ga, k⟩ ⟨hk, hgn⟩
  dsimp only at hk hgn ⊢
  simp only [gs, gh, List.cons_append, List.nil_append]
  have hga : (ga = g2) = False ∧ (g2 = ga) = False := ⟨eq_false hgn, eq_false fun e => hgn e.symm⟩
  have hvl := vsL_len f s k
  refine yG (oj hn_g2 (oj hn_g hga)) ?_
  refine yF (oj hn_g2 (oj hn_g hga)) (fun h1=>?_) fun h1=>?_
  · have hin : k < f.nodes.length := by have := of_decide_eq_true h1; omega
    have harg := ok.arg k hin
    have hax := ok.len hin
    have hkd := ok.kind k hin
    have hst := vsL_succ f s k
    have hvn2 := val_node ok (s := s) hin
    generalize hx0 : f.nodes.getD k fn0 = x at *
    refine yG (oj hn_g2 (oj hn_g (oj hga hx0))) ?_
    refine yA (oj hn_g2 (oj hn_g (oj hga hx0))) fun g8 hn_g8=>?_
    refine yG (oj hn_g2 (oj hn_g (oj hga (oj hx0 hn_g8)))) ?_
    refine yW (oj hn_g2 (oj hn_g (oj hga (oj hx0 hn_g8)))) ?_
    refine yS (oj hn_g2 (oj hn_g (oj hga (oj hx0 hn_g8)))) ?_
    refine aw_conv1 (f' := ofL [.int .i64 x.kind, .int .i64 x.k, is true x.args]) (fun j hj => by match j, hj with | 0, _ => rfl | 1, _ => rfl | 2, _ => rfl) ?_
    refine yG (oj hn_g2 (oj hn_g (oj hga (oj hx0 hn_g8)))) ?_
    refine aw_lp (fun j : Nat => [(2, .c (.optr g2 0)), (5, .c (.osl ga 1 0 (i + k))), (8, .c (.optr g8 0)), (9, .c (.int .i64 (cntV (valF f s) (x.args.take j)))), (37, .c (fns false f.nodes)), (38, .c (.int .i64 f.nodes.length)), (39, .c (.int .i64 k)), (44, .c (is true x.args)), (45, .c (.int .i64 x.args.length)), (46, .c (.int .i64 j))]) (fun _ => [(g8, .cells 101 3 (ofL [.int .i64 x.kind, .int .i64 x.k, is true x.args])), (g2, .cells 50 3 (ofL (fmc false f))), (ga, .cells 4 (i + k) (bsF (vsL f s k)))]) (fun j => j ≤ x.args.length) (fun j => x.args.length - j) 0 (zB (oj hn_g2 (oj hn_g (oj hga (oj hx0 hn_g8))))) zZ (Nat.zero_le _) ?_
    rintro j hj
    have hc1 := cntV_le (valF f s) (x.args.take j)
    rw [List.length_take] at hc1
    refine yG (oj hn_g2 (oj hn_g (oj hga (oj hx0 hn_g8)))) ?_
    refine yF (oj hn_g2 (oj hn_g (oj hga (oj hx0 hn_g8)))) (fun h2=>?_) fun h2=>?_
    · have h2' : j < x.args.length := by have := of_decide_eq_true h2; omega
      obtain ⟨y0, y1⟩ := harg (x.args.getD j 0) (by rw [getDZ h2']; exact List.getElem_mem h2')
      have hct := cntV_take (v := valF f s) h2'
      have hgt := vsL_get (f := f) (s := s) (k := k) (j := (x.args.getD j 0).toNat) (by omega)
      rw [show (((x.args.getD j 0).toNat : Nat) : Int) = x.args.getD j 0 from by omega] at hgt
      refine yG (oj hn_g2 (oj hn_g (oj hga (oj hx0 (oj hn_g8 hgt))))) ?_
      refine yF (oj hn_g2 (oj hn_g (oj hga (oj hx0 (oj hn_g8 hgt))))) (fun h3=>?_) fun h3=>?_
      · rw [if_pos h3] at hct
        refine yG (oj hn_g2 (oj hn_g (oj hga (oj hx0 (oj hn_g8 hgt))))) ?_
        exact aw_stop ⟨j + 1, by omega, (by rw [hct]; exact (zB (oj hn_g2 (oj hn_g (oj hga (oj hx0 (oj hn_g8 hgt))))))), zZ, by omega⟩
      · rw [if_neg (by rw [h3]; simp), Nat.add_zero] at hct
        refine yG (oj hn_g2 (oj hn_g (oj hga (oj hx0 (oj hn_g8 hgt))))) ?_
        exact aw_stop ⟨j + 1, by omega, (by rw [hct]; exact (zB (oj hn_g2 (oj hn_g (oj hga (oj hx0 (oj hn_g8 hgt))))))), zZ, by omega⟩
    · have h2' : j = x.args.length := by have := of_decide_eq_false h2; omega
      subst h2'
      rw [List.take_length] at hc1 ⊢
      repeat first | apply wa3 | apply wa4 | apply wa5 rfl
      apply aw_seq
      apply aw_region
      refine yH (oj hn_g2 (oj hn_g (oj hga (oj hx0 hn_g8)))) ?_
      apply aw_seq
      refine aw_cut (fun _ : Unit => [(2, .c (.optr g2 0)), (5, .c (gs (some ga) 1 (i + k))), (12, .c (.bool (nodeV (valF f s) x))), (37, .c (fns false f.nodes)), (38, .c (.int .i64 f.nodes.length)), (39, .c (.int .i64 k))]) (fun _ => [(g2, .cells 50 3 (ofL (fmc false f)))] ++ gh (some ga) 4 (i + k) (bsF (vsL f s k))) (fun _ => (0 : Nat) = 0) ?_ ?_
      · refine yG (oj hn_g2 (oj hn_g (oj hga (oj hx0 hn_g8)))) ?_
        refine yF (oj hn_g2 (oj hn_g (oj hga (oj hx0 hn_g8)))) (fun k0=>?_) fun k0=>?_
        · refine yG (oj hn_g2 (oj hn_g (oj hga (oj hx0 hn_g8)))) ?_
          first | exact aw_stop ⟨(), by unfold nodeV; rw [if_pos k0]; exact (zB (oj hn_g2 (oj hn_g (oj hga (oj hx0 hn_g8))))), List.Sublist.cons _ (List.Sublist.refl _), rfl⟩ | exact aw_stop ⟨(), by unfold nodeV; rw [if_pos k0]; exact (zB (oj hn_g2 (oj hn_g (oj hga (oj hx0 hn_g8))))), List.Sublist.cons _ (List.Sublist.refl _)⟩
        · refine yG (oj hn_g2 (oj hn_g (oj hga (oj hx0 hn_g8)))) ?_
          refine yF (oj hn_g2 (oj hn_g (oj hga (oj hx0 hn_g8)))) (fun k1=>?_) fun k1=>?_
          · refine yG (oj hn_g2 (oj hn_g (oj hga (oj hx0 hn_g8)))) ?_
            first | exact aw_stop ⟨(), by unfold nodeV; rw [if_neg (by rw [k0]; simp), if_pos k1]; exact (zB (oj hn_g2 (oj hn_g (oj hga (oj hx0 hn_g8))))), List.Sublist.cons _ (List.Sublist.refl _), rfl⟩ | exact aw_stop ⟨(), by unfold nodeV; rw [if_neg (by rw [k0]; simp), if_pos k1]; exact (zB (oj hn_g2 (oj hn_g (oj hga (oj hx0 hn_g8))))), List.Sublist.cons _ (List.Sublist.refl _)⟩
          · refine yG (oj hn_g2 (oj hn_g (oj hga (oj hx0 hn_g8)))) ?_
            refine yF (oj hn_g2 (oj hn_g (oj hga (oj hx0 hn_g8)))) (fun k2=>?_) fun k2=>?_
            · refine yG (oj hn_g2 (oj hn_g (oj hga (oj hx0 hn_g8)))) ?_
              first | exact aw_stop ⟨(), by unfold nodeV; rw [if_neg (by rw [k0]; simp), if_neg (by rw [k1]; simp), if_pos k2]; exact (zB (oj hn_g2 (oj hn_g (oj hga (oj hx0 hn_g8))))), List.Sublist.cons _ (List.Sublist.refl _), rfl⟩ | exact aw_stop ⟨(), by unfold nodeV; rw [if_neg (by rw [k0]; simp), if_neg (by rw [k1]; simp), if_pos k2]; exact (zB (oj hn_g2 (oj hn_g (oj hga (oj hx0 hn_g8))))), List.Sublist.cons _ (List.Sublist.refl _)⟩
            · refine yG (oj hn_g2 (oj hn_g (oj hga (oj hx0 hn_g8)))) ?_
              refine yF (oj hn_g2 (oj hn_g (oj hga (oj hx0 hn_g8)))) (fun k3=>?_) fun k3=>?_
              · refine yG (oj hn_g2 (oj hn_g (oj hga (oj hx0 hn_g8)))) ?_
                first | exact aw_stop ⟨(), by unfold nodeV; rw [if_neg (by rw [k0]; simp), if_neg (by rw [k1]; simp), if_neg (by rw [k2]; simp), if_pos k3]; exact (zB (oj hn_g2 (oj hn_g (oj hga (oj hx0 hn_g8))))), List.Sublist.cons _ (List.Sublist.refl _), rfl⟩ | exact aw_stop ⟨(), by unfold nodeV; rw [if_neg (by rw [k0]; simp), if_neg (by rw [k1]; simp), if_neg (by rw [k2]; simp), if_pos k3]; exact (zB (oj hn_g2 (oj hn_g (oj hga (oj hx0 hn_g8))))), List.Sublist.cons _ (List.Sublist.refl _)⟩
              · refine yG (oj hn_g2 (oj hn_g (oj hga (oj hx0 hn_g8)))) ?_
                refine yF (oj hn_g2 (oj hn_g (oj hga (oj hx0 hn_g8)))) (fun k4=>?_) fun k4=>?_
                · refine yG (oj hn_g2 (oj hn_g (oj hga (oj hx0 hn_g8)))) ?_
                  first | exact aw_stop ⟨(), by unfold nodeV; rw [if_neg (by rw [k0]; simp), if_neg (by rw [k1]; simp), if_neg (by rw [k2]; simp), if_neg (by rw [k3]; simp), if_pos k4]; exact (zB (oj hn_g2 (oj hn_g (oj hga (oj hx0 hn_g8))))), List.Sublist.cons _ (List.Sublist.refl _), rfl⟩ | exact aw_stop ⟨(), by unfold nodeV; rw [if_neg (by rw [k0]; simp), if_neg (by rw [k1]; simp), if_neg (by rw [k2]; simp), if_neg (by rw [k3]; simp), if_pos k4]; exact (zB (oj hn_g2 (oj hn_g (oj hga (oj hx0 hn_g8))))), List.Sublist.cons _ (List.Sublist.refl _)⟩
                · refine yG (oj hn_g2 (oj hn_g (oj hga (oj hx0 hn_g8)))) ?_
                  refine yF (oj hn_g2 (oj hn_g (oj hga (oj hx0 hn_g8)))) (fun k5=>?_) fun k5=>?_
                  · refine yG (oj hn_g2 (oj hn_g (oj hga (oj hx0 hn_g8)))) ?_
                    first | exact aw_stop ⟨(), by unfold nodeV; rw [if_neg (by rw [k0]; simp), if_neg (by rw [k1]; simp), if_neg (by rw [k2]; simp), if_neg (by rw [k3]; simp), if_neg (by rw [k4]; simp)]; exact (zB (oj hn_g2 (oj hn_g (oj hga (oj hx0 hn_g8))))), List.Sublist.cons _ (List.Sublist.refl _), rfl⟩ | exact aw_stop ⟨(), by unfold nodeV; rw [if_neg (by rw [k0]; simp), if_neg (by rw [k1]; simp), if_neg (by rw [k2]; simp), if_neg (by rw [k3]; simp), if_neg (by rw [k4]; simp)]; exact (zB (oj hn_g2 (oj hn_g (oj hga (oj hx0 hn_g8))))), List.Sublist.cons _ (List.Sublist.refl _)⟩
                  · exfalso
                    obtain ⟨q0, q5⟩ := hkd
                    simp only [beq_eq_false_iff_ne, ne_eq] at k0 k1 k2 k3 k4 k5
                    omega
      rintro _ _
      rw [← hvn2, show f.vars + (k : Int) = ((f.vars.toNat + k : Nat) : Int) from by omega]
      have hpu : ∀ j, j < (i + k + 1) * 1 → appF (bsF (vsL f s k)) ((i + k) * 1) (ofL [.bool (valF f s ((f.vars.toNat + k : Nat) : Int))]) j = bsF (vsL f s (k + 1)) j := by
        rw [hst]
        exact bs_push (by rw [hvl]; omega) _
      refine yG (oj hn_g2 (oj hn_g (oj hga (oj hx0 hn_g8)))) ?_
      refine aw_push (pre := [(g2, .cells 50 3 (ofL (fmc false f)))]) rfl rfl rfl rfl rfl rfl rfl (zE (oj hn_g2 (oj hn_g (oj hga (oj hx0 hn_g8))))) (zE (oj hn_g2 (oj hn_g (oj hga (oj hx0 hn_g8))))) (by rfl) (by omega) (by omega) (zE (oj hn_g2 (oj hn_g (oj hga (oj hx0 hn_g8))))) (by omega) (by exact some_ne (g := ga) (n := i + k)) (zE (oj hn_g2 (oj hn_g (oj hga (oj hx0 hn_g8))))) (by rfl) (by rfl) (by first | rfl | simp only [Nat.mul_one, List.nil_append, List.cons_append] <;> rfl) (by unfold maxLen; omega) (by omega) (by exact hpu) fun gb hn_gb => ?_
      replace hn_gb := Heap.ne_of hn_gb
      first | dsimp only [Heap.ne, gh] at hn_gb | dsimp only [Heap.ne] at hn_gb | skip
      refine yS (oj hn_g2 (oj hn_g (oj hga (oj hx0 (oj hn_g8 hn_gb))))) ?_
      refine yG (oj hn_g2 (oj hn_g (oj hga (oj hx0 (oj hn_g8 hn_gb))))) ?_
      exact aw_stop ⟨(gb, k + 1), by dsimp only; omega, (zB (oj hn_g2 (oj hn_g (oj hga (oj hx0 (oj hn_g8 hn_gb)))))), zZ, by dsimp only; omega, of_eq_false hn_gb.1.1⟩
  · have hin : k = f.nodes.length := by have := of_decide_eq_false h1; omega
    subst hin
    refine yG (oj hn_g2 (oj hn_g hga)) ?_
    refine yT hC (oj hn_g2 (oj hn_g hga)) ?_
    exact .one (.c (ler_oslbs (zE (oj hn_g2 (oj hn_g hga))) (by rw [hvl]; omega)))
end Go.Proofs.YtcoflhkcpnoaaaaGreat
namespace Go.Proofs.YtcoflhkcpnoaaaaGreat
open Go.AI Go.PN
attribute [local irreducible] aw Fa Fh DrK
set_option maxRecDepth 100000 in
set_option maxHeartbeats 3200000 in
theorem fval_fa (f : FM) (s : Nat) (hn : f.nodes.length ≤ 1099511627776) (ha : ArgsOk f) (hc : fcode f = 0) (hs : s < 2 ^ f.vars.toNat) : Fa Tryz.prog 39 [.agg (fmc false f), .c (.int .i64 s)] (.tup [.c (.bool (valF f s f.top)), .c .nilI]) := by
  have ok := fr_ok hc
  have v0 := ok.v0
  have v24 := ok.v24
  have n128 := ok.n128
  have t0 := ok.t0
  have t1 := ok.t1
  have hl := vsL_len f s f.nodes.length
  have hg := vsL_get (f := f) (s := s) (k := f.nodes.length) (j := f.top.toNat) (by omega)
  rw [show ((f.top.toNat : Nat) : Int) = f.top from by omega] at hg
  refine fa_of_body Tryz.func39 rfl rfl (by simp [Tryz.ntmps39]) fun C hC => ?_
  simp only [initS, Nat.reduceAdd]
  refine yG (oj hl hg) ?_
  refine yB (oj hl hg) fun g2 hn_g2=>?_
  refine yG (oj hl (oj hg hn_g2)) ?_
  refine yC (oj hl (oj hg hn_g2)) (fchk_fa f s hn ha hc hs) ?_
  refine yG (oj hl (oj hg hn_g2)) ?_
  refine yN (oj hl (oj hg hn_g2)) ?_
  refine yG (oj hl (oj hg hn_g2)) ?_
  refine aw_dr 9 ty_mixed (by kernel_rfl) ?_
  refine yG (oj hl (oj hg hn_g2)) ?_
  refine yD (oj hl (oj hg hn_g2)) (fvals_fa f s hn ha hc hs) ?_
  refine yG (oj hl (oj hg hn_g2)) ?_
  refine yT hC (oj hl (oj hg hn_g2)) ?_
  exact .tup ⟨.c (.bool _), .c .nilI, trivial⟩
end Go.Proofs.YtcoflhkcpnoaaaaGreat
