/- Blocks of one proof, laid one behind the other by a program (merge2.py). -/
import Derived.Test.YtcoflhkcpnoaaaaGreatDoorM21
set_option linter.unusedSimpArgs false
set_option linter.unusedVariables false
namespace Go.PN
open Go.AI
structure ToOk (f : FM) (tl : List Int) (k : Nat) : Prop where
  len : tl.length = f.vars.toNat + f.nodes.length
  at' : ∀ a : Int, 0 ≤ a → a < f.vars + k → (belL f).getD a.toNat false = true → tl.getD a.toNat 0 = toR f a
end Go.PN
namespace Go.Proofs.YtcoflhkcpnoaaaaGreatDoor
open Go.AI Go.PN
theorem toOk_set {f : FM} (v0 : 0 ≤ f.vars) {tl : List Int} {k : Nat} (hk : k < f.nodes.length) (h : ToOk f tl k) : ToOk f (tl.set (f.vars.toNat + k) (f.vars + szTo f k)) (k + 1) := by
  have hl := h.len
  refine ⟨by rw [List.length_set]; exact hl, fun a a0 a1 hm => ?_⟩
  by_cases e : a = f.vars + k
  · subst e
    rw [show (f.vars + (k : Int)).toNat = f.vars.toNat + k from by omega, getZset (by omega)]
    unfold toR
    rw [if_neg (by omega), show (f.vars + (k : Int) - f.vars).toNat = k from by omega]
  · rw [getZset' (by omega)]
    exact h.at' a a0 (by omega) hm
theorem toOk_skip {f : FM} (v0 : 0 ≤ f.vars) {tl : List Int} {k : Nat} (h : ToOk f tl k) (hm : (belL f).getD (f.vars.toNat + k) false = false) : ToOk f tl (k + 1) := by
  refine ⟨h.len, fun a a0 a1 ha => ?_⟩
  by_cases e : a = f.vars + k
  · subst e
    rw [show (f.vars + (k : Int)).toNat = f.vars.toNat + k from by omega, hm] at ha
    cases ha
  · exact h.at' a a0 (by omega) ha
attribute [local irreducible] aw Fa Fh DrK
set_option maxRecDepth 100000 in
set_option maxHeartbeats 6400000 in
theorem ftrim_fh (f : FM) (hn : f.nodes.length ≤ 1099511627776) (ha : ArgsOk f) (hc : fcode f = 0) : Fh Tryz.prog 56 [] [.agg (fmc false f)] (fun x h => h = [] ∧ x = .tup [.agg (fmc true (trimF f)), .c .nilI]) := by
  have ok := fr_ok hc
  have v0 := ok.v0
  have v24 := ok.v24
  have n128 := ok.n128
  have t0 := ok.t0
  have t1 := ok.t1
  have z := ieq_t hc
  have hbl : (belL f).length = f.vars.toNat + f.nodes.length := belTo_len f f.nodes.length
  have htop := bel_top ok f.nodes.length
  refine fh_of_body Tryz.func56 rfl rfl (by simp [Tryz.ntmps56]) fun C hC => ?_
  simp only [initS, Nat.reduceAdd]
  refine yG z ?_
  refine yB z fun g1 hn_g1=>?_
  refine yG (oj z hn_g1) ?_
  refine yA (oj z hn_g1) fun g2 hn_g2=>?_
  refine yG (oj z (oj hn_g1 hn_g2)) ?_
  refine aw_callq (fcheck_fa f hn ha (by omega) (by omega)) rfl rfl rfl (zL (oj z (oj hn_g1 hn_g2))) ?_
  refine yS (oj z (oj hn_g1 hn_g2)) ?_
  refine yG (oj z (oj hn_g1 hn_g2)) ?_
  refine yN (oj z (oj hn_g1 hn_g2)) ?_
  refine yG (oj z (oj hn_g1 hn_g2)) ?_
  refine yA (oj z (oj hn_g1 hn_g2)) fun g5 hn_g5=>?_
  refine yG (oj z (oj hn_g1 (oj hn_g2 hn_g5))) ?_
  refine yW (oj z (oj hn_g1 (oj hn_g2 hn_g5))) ?_
  refine yS (oj z (oj hn_g1 (oj hn_g2 hn_g5))) ?_
  refine yG (oj z (oj hn_g1 (oj hn_g2 hn_g5))) ?_
  refine aw_make (n := f.vars.toNat + f.nodes.length) (c := f.vars.toNat + f.nodes.length) (size := 1) (bytes := 8) (z := [.int .i64 0]) rfl rfl rfl (zE (oj z (oj hn_g1 (oj hn_g2 hn_g5)))) (zE (oj z (oj hn_g1 (oj hn_g2 hn_g5)))) rfl (by omega) (zE (oj z (oj hn_g1 (oj hn_g2 hn_g5)))) (zE (oj z (oj hn_g1 (oj hn_g2 hn_g5)))) (by omega) (by omega) (by omega) (by omega) (by omega) fun g6 hn_g6 => ?_
  simp only [Nat.mul_one]
  rw [make_is]
  replace hn_g6 := Heap.ne_of hn_g6
  dsimp only [Heap.ne] at hn_g6
  refine yS (oj z (oj hn_g1 (oj hn_g2 (oj hn_g5 hn_g6)))) ?_
  refine yG (oj z (oj hn_g1 (oj hn_g2 (oj hn_g5 hn_g6)))) ?_
  obtain ⟨V, hV⟩ : ∃ V : Nat, f.vars = V := ⟨f.vars.toNat, by omega⟩
  have hVt : f.vars.toNat = V := by omega
  refine aw_lp (fun x : Nat × List Int => [(1, .c (.optr g1 0)), (2, .c (.optr g2 0)), (5, .c (.optr g5 0)), (6, .c (.osl g6 1 0 (f.vars.toNat + f.nodes.length))), (31, .c (.int .i64 f.vars)), (32, .c (.int .i64 x.1))]) (fun x => [(g6, .cells 3 (f.vars.toNat + f.nodes.length) (isF x.2)), (g5, .cells 24 3 (ofL [.int .i64 f.vars, .nils, .int .i64 0])), (g2, .cells 24 3 (ofL [.int .i64 0, .nils, .int .i64 0])), (g1, .cells 24 3 (ofL (fmc false f)))]) (fun x => x.1 ≤ V ∧ x.2.length = f.vars.toNat + f.nodes.length ∧ ∀ q : Nat, q < x.1 → x.2.getD q 0 = q) (fun x => V - x.1) (0, List.replicate (f.vars.toNat + f.nodes.length) 0) (zB (oj z (oj hn_g1 (oj hn_g2 (oj hn_g5 hn_g6))))) zZ ⟨Nat.zero_le _, by simp, fun q hq => by omega⟩ ?_
  rintro ⟨i, zs⟩ ⟨hi, hzl, hz⟩
  dsimp only at hi hzl hz ⊢
  refine yG (oj z (oj hn_g1 (oj hn_g2 (oj hn_g5 hn_g6)))) ?_
  refine yF (oj z (oj hn_g1 (oj hn_g2 (oj hn_g5 hn_g6)))) (fun hb1=>?_) fun hb1=>?_
  · have hin : i < V := by have := of_decide_eq_true hb1; omega
    refine yG (oj z (oj hn_g1 (oj hn_g2 (oj hn_g5 hn_g6)))) ?_
    refine yW (oj z (oj hn_g1 (oj hn_g2 (oj hn_g5 hn_g6)))) ?_
    refine yS (oj z (oj hn_g1 (oj hn_g2 (oj hn_g5 hn_g6)))) ?_
    rw [updF_is (by omega)]
    refine yG (oj z (oj hn_g1 (oj hn_g2 (oj hn_g5 hn_g6)))) ?_
    refine aw_stop ⟨(i + 1, zs.set i i), by dsimp only; omega, (zB (oj z (oj hn_g1 (oj hn_g2 (oj hn_g5 hn_g6))))), zZ, by dsimp only; omega, by simpa using hzl, fun k hk => ?_⟩
    dsimp only at hk ⊢
    by_cases hki : k = i
    · subst hki; exact getZset (by omega)
    · rw [getZset' hki]; exact hz k (by omega)
  have hin : i = V := by have := of_decide_eq_false hb1; omega
  subst hin
  have to0 : ToOk f zs 0 := ⟨hzl, fun a a0 a1 _ => by
    have := hz a.toNat (by omega)
    rw [this]
    unfold toR
    rw [if_pos (by omega)]; omega⟩
  clear hz hb1
  refine yG (oj z (oj hn_g1 (oj hn_g2 (oj hn_g5 hn_g6)))) ?_
  refine aw_dr 7 ty_mixed (by kernel_rfl) ?_
  refine yG (oj z (oj hn_g1 (oj hn_g2 (oj hn_g5 hn_g6)))) ?_
  refine yD (oj z (oj hn_g1 (oj hn_g2 (oj hn_g5 hn_g6)))) (below_fa f ok) ?_
  refine yG (oj z (oj hn_g1 (oj hn_g2 (oj hn_g5 hn_g6)))) ?_
  rw [show (belL f).length - f.vars.toNat = f.nodes.length from by omega]
  refine aw_lp (fun x : Nat × Option Nat × List Int => [(1, .c (.optr g1 0)), (2, .c (.optr g2 0)), (5, .c (.optr g5 0)), (6, .c (.osl g6 1 0 (f.vars.toNat + f.nodes.length))), (44, .c (.row true 1 f.nodes.length fun j => .bool ((belL f).getD (f.vars.toNat + j) false))), (45, .c (.int .i64 f.nodes.length)), (46, .c (.int .i64 x.1))])
    (fun x => [(g6, .cells 3 (f.vars.toNat + f.nodes.length) (isF x.2.2)), (g5, .cells 24 3 (ofL [.int .i64 f.vars, gs x.2.1 3 (szTo f x.1), .int .i64 0])), (g2, .cells 24 3 (ofL [.int .i64 0, .nils, .int .i64 0])), (g1, .cells 24 3 (ofL (fmc false f)))] ++ gh x.2.1 63 (szTo f x.1 * 3) (fnsF (trTo f x.1)))
    (fun x => x.1 ≤ f.nodes.length ∧ (x.2.1 = none → szTo f x.1 = 0) ∧ ToOk f x.2.2 x.1) (fun x => f.nodes.length - x.1) (0, none, zs) (zB (oj z (oj hn_g1 (oj hn_g2 (oj hn_g5 hn_g6))))) (by simp only [gh, List.append_nil]; exact List.Sublist.refl _) ⟨Nat.zero_le _, fun _ => rfl, to0⟩ ?_
  clear hzl to0
  rintro ⟨k, oN, tl⟩ ⟨hk, hoN, hto⟩
  dsimp only at hk hoN hto ⊢
  have htl := hto.len
  have hsz := szTo_le f k
  simp only [List.cons_append, List.nil_append]
  refine yG (oj z (oj hn_g1 (oj hn_g2 (oj hn_g5 hn_g6)))) ?_
  refine yF (oj z (oj hn_g1 (oj hn_g2 (oj hn_g5 hn_g6)))) (fun h1=>?_) fun h1=>?_
  · have h1' : k < f.nodes.length := by have := of_decide_eq_true h1; omega
    have hln := ok.len h1'
    have hs1 : szTo f (k + 1) = szTo f k + if (belL f).getD (f.vars.toNat + k) false then 1 else 0 := rfl
    have hr1 : trTo f (k + 1) = if (belL f).getD (f.vars.toNat + k) false then trTo f k ++ [⟨(f.nodes.getD k fn0).kind, (f.nodes.getD k fn0).k, (f.nodes.getD k fn0).args.map (toR f)⟩] else trTo f k := rfl
    refine yG (oj z (oj hn_g1 (oj hn_g2 (oj hn_g5 hn_g6)))) ?_
    refine yF (oj z (oj hn_g1 (oj hn_g2 (oj hn_g5 hn_g6)))) (fun hm=>?_) fun hm=>?_
    · have hm' : (belL f).getD (f.vars.toNat + k) false = false := by simpa using hm
      rw [if_neg (by rw [hm']; simp)] at hs1 hr1
      refine yG (oj z (oj hn_g1 (oj hn_g2 (oj hn_g5 hn_g6)))) ?_
      refine aw_stop ⟨(k + 1, oN, tl), by dsimp only; omega, (zB (oj z (oj hn_g1 (oj hn_g2 (oj hn_g5 hn_g6))))), ?_, by dsimp only; omega, by dsimp only; rw [hs1]; exact hoN, toOk_skip v0 hto hm'⟩
      dsimp only
      rw [hs1, hr1]
      exact List.Sublist.refl _
    have hm' : (belL f).getD (f.vars.toNat + k) false = true := by simpa using hm
    rw [if_pos hm'] at hs1 hr1
    have hargs : ∀ j, j < (f.nodes.getD k fn0).args.length → 0 ≤ (f.nodes.getD k fn0).args.getD j 0 ∧ (f.nodes.getD k fn0).args.getD j 0 < f.vars + k ∧ tl.getD ((f.nodes.getD k fn0).args.getD j 0).toNat 0 = toR f ((f.nodes.getD k fn0).args.getD j 0) := fun j hj => by
      obtain ⟨a0, a1⟩ := ok.at h1' hj
      refine ⟨a0, a1, hto.at' _ a0 a1 (bel_arg ok h1' hm' ?_)⟩
      rw [getDZ hj]; exact List.getElem_mem hj
    refine yG (oj z (oj hn_g1 (oj hn_g2 (oj hn_g5 hn_g6)))) ?_
    generalize hx : f.nodes.getD k fn0 = x at *
    refine yA (oj z (oj hn_g1 (oj hn_g2 (oj hn_g5 (oj hn_g6 hx))))) fun g10 hn_g10=>?_
    refine yG (oj z (oj hn_g1 (oj hn_g2 (oj hn_g5 (oj hn_g6 (oj hx hn_g10)))))) ?_
    refine yW (oj z (oj hn_g1 (oj hn_g2 (oj hn_g5 (oj hn_g6 (oj hx hn_g10)))))) ?_
    refine yS (oj z (oj hn_g1 (oj hn_g2 (oj hn_g5 (oj hn_g6 (oj hx hn_g10)))))) ?_
    refine yG (oj z (oj hn_g1 (oj hn_g2 (oj hn_g5 (oj hn_g6 (oj hx hn_g10)))))) ?_
    refine yA (oj z (oj hn_g1 (oj hn_g2 (oj hn_g5 (oj hn_g6 (oj hx hn_g10)))))) fun g11 hn_g11=>?_
    refine yG (oj z (oj hn_g1 (oj hn_g2 (oj hn_g5 (oj hn_g6 (oj hx (oj hn_g10 hn_g11))))))) ?_
    refine yW (oj z (oj hn_g1 (oj hn_g2 (oj hn_g5 (oj hn_g6 (oj hx (oj hn_g10 hn_g11))))))) ?_
    refine yS (oj z (oj hn_g1 (oj hn_g2 (oj hn_g5 (oj hn_g6 (oj hx (oj hn_g10 hn_g11))))))) ?_
    refine yG (oj z (oj hn_g1 (oj hn_g2 (oj hn_g5 (oj hn_g6 (oj hx (oj hn_g10 hn_g11))))))) ?_
    refine aw_lp (fun y : Nat × Option Nat => [(1, .c (.optr g1 0)), (2, .c (.optr g2 0)), (5, .c (.optr g5 0)), (6, .c (.osl g6 1 0 (f.vars.toNat + f.nodes.length))), (44, .c (.row true 1 f.nodes.length fun j => .bool ((belL f).getD (f.vars.toNat + j) false))), (45, .c (.int .i64 f.nodes.length)), (46, .c (.int .i64 k)), (8, .c (.int .i64 k)), (11, .c (.optr g11 0)), (64, .c (is true x.args)), (65, .c (.int .i64 x.args.length)), (66, .c (.int .i64 y.1))])
      (fun y => ((g11, .cells 63 3 (ofL [.int .i64 x.kind, .int .i64 x.k, gs y.2 1 y.1])) :: (g6, .cells 3 (f.vars.toNat + f.nodes.length) (isF tl)) :: (g5, .cells 24 3 (ofL [.int .i64 f.vars, gs oN 3 (szTo f k), .int .i64 0])) :: (g2, .cells 24 3 (ofL [.int .i64 0, .nils, .int .i64 0])) :: (g1, .cells 24 3 (ofL (fmc false f))) :: gh oN 63 (szTo f k * 3) (fnsF (trTo f k))) ++ gh y.2 3 y.1 (isF ((x.args.take y.1).map (toR f))))
      (fun y => y.1 ≤ x.args.length ∧ (y.2 = none → y.1 = 0)) (fun y => x.args.length - y.1) (0, none) (zB (oj z (oj hn_g1 (oj hn_g2 (oj hn_g5 (oj hn_g6 (oj hx (oj hn_g10 hn_g11)))))))) (by
        simp only [gh, gs, List.append_nil]
        exact List.Sublist.cons_cons _ (List.Sublist.cons _ (List.Sublist.refl _))) ⟨Nat.zero_le _, fun _ => rfl⟩ ?_
    rintro ⟨j, oa⟩ ⟨hj, hoa⟩
    dsimp only at hj hoa ⊢
    simp only [List.cons_append]
    refine yG (oj z (oj hn_g1 (oj hn_g2 (oj hn_g5 (oj hn_g6 (oj hx (oj hn_g10 hn_g11))))))) ?_
    refine yF (oj z (oj hn_g1 (oj hn_g2 (oj hn_g5 (oj hn_g6 (oj hx (oj hn_g10 hn_g11))))))) (fun h2=>?_) fun h2=>?_
    · have h2' : j < x.args.length := by have := of_decide_eq_true h2; omega
      obtain ⟨a0, a1, a2⟩ := hargs j h2'
      obtain ⟨i2, hi2⟩ := Int.eq_ofNat_of_zero_le a0
      rw [hi2] at a1
      have a2' := a2
      rw [hi2, Int.toNat_natCast] at a2'
      have htk : x.args.take (j + 1) = x.args.take j ++ [x.args.getD j 0] := by rw [getDZ h2', List.take_succ_eq_append_getElem h2']
      have hlk : ((x.args.take j).map (toR f)).length = j := by rw [List.length_map, List.length_take]; omega
      refine yG (oj z (oj hn_g1 (oj hn_g2 (oj hn_g5 (oj hn_g6 (oj hx (oj hn_g10 (oj hn_g11 hi2)))))))) ?_
      refine aw_drB 7 ty_mixed (by kernel_rfl) ?_
      repeat first | (refine drb_2q true rfl (fun R hR => ?_); simp only [go_sem, z, hn_g1, hn_g2, hn_g5, hn_g6, hx, hn_g10, hn_g11, hi2]; (with_reducible refine hR _ _ ?_ ?_); (focus (((try simp only [inRange]) <;> and_intros <;> first | exact True.intro | omega | trivial); done)); clear hR R) | fail
      refine drb_new rfl (NewX.buildSlice (xs := [.tmp 75]) (cells := [.int .i64 (tl.getD i2 0)]) rfl rfl rfl (zE (oj z (oj hn_g1 (oj hn_g2 (oj hn_g5 (oj hn_g6 (oj hx (oj hn_g10 (oj hn_g11 hi2))))))))) (by refine yS (oj z (oj hn_g1 (oj hn_g2 (oj hn_g5 (oj hn_g6 (oj hx (oj hn_g10 (oj hn_g11 hi2)))))))) ?_; rfl) rfl (by omega) (by omega) (by intro x hx; simp only [List.mem_singleton] at hx; subst hx; exact ⟨rfl, rfl, rfl⟩) rfl (by simp [Op.operands])) (by kernel_rfl) ?_
      refine yS (oj z (oj hn_g1 (oj hn_g2 (oj hn_g5 (oj hn_g6 (oj hx (oj hn_g10 (oj hn_g11 hi2)))))))) ?_
      refine drb_nil fun γ => ?_
      refine yS (oj z (oj hn_g1 (oj hn_g2 (oj hn_g5 (oj hn_g6 (oj hx (oj hn_g10 (oj hn_g11 hi2)))))))) ?_
      rw [a2']
      generalize γ 6 = gt
      refine aw_push2 (e := 3) (size := 1) (bytes := 8) (n := j) (z := [.int .i64 0]) (og := oa) (f := isF ((x.args.take j).map (toR f))) (pre := (g11, .cells 63 3 (ofL [.int .i64 x.kind, .int .i64 x.k, gs oa 1 j])) :: (g6, .cells 3 (f.vars.toNat + f.nodes.length) (isF tl)) :: (g5, .cells 24 3 (ofL [.int .i64 f.vars, gs oN 3 (szTo f k), .int .i64 0])) :: (g2, .cells 24 3 (ofL [.int .i64 0, .nils, .int .i64 0])) :: (g1, .cells 24 3 (ofL (fmc false f))) :: gh oN 63 (szTo f k * 3) (fnsF (trTo f k))) (f' := isF ((x.args.take (j + 1)).map (toR f))) (v := .c (.int .i64 (toR f i2))) rfl rfl rfl (zE (oj z (oj hn_g1 (oj hn_g2 (oj hn_g5 (oj hn_g6 (oj hx (oj hn_g10 (oj hn_g11 hi2))))))))) (zE (oj z (oj hn_g1 (oj hn_g2 (oj hn_g5 (oj hn_g6 (oj hx (oj hn_g10 (oj hn_g11 hi2))))))))) rfl (by omega) (by omega) (zE (oj z (oj hn_g1 (oj hn_g2 (oj hn_g5 (oj hn_g6 (oj hx (oj hn_g10 (oj hn_g11 hi2))))))))) (zE (oj z (oj hn_g1 (oj hn_g2 (oj hn_g5 (oj hn_g6 (oj hx (oj hn_g10 (oj hn_g11 hi2))))))))) hoa (by rfl) (by rfl) (by simp only [Nat.mul_one, List.cons_append]; rfl) (by unfold maxLen; omega) (by omega) (by rw [htk, List.map_append, hi2]; exact is_push hlk _) fun g hn_g => ?_
      refine yS (oj z (oj hn_g1 (oj hn_g2 (oj hn_g5 (oj hn_g6 (oj hx (oj hn_g10 (oj hn_g11 hi2)))))))) ?_
      try simp only [List.cons_append, Nat.mul_one]
      refine yH (oj z (oj hn_g1 (oj hn_g2 (oj hn_g5 (oj hn_g6 (oj hx (oj hn_g10 (oj hn_g11 hi2)))))))) ?_
      refine yW (oj z (oj hn_g1 (oj hn_g2 (oj hn_g5 (oj hn_g6 (oj hx (oj hn_g10 (oj hn_g11 hi2)))))))) ?_
      refine yS (oj z (oj hn_g1 (oj hn_g2 (oj hn_g5 (oj hn_g6 (oj hx (oj hn_g10 (oj hn_g11 hi2)))))))) ?_
      refine yG (oj z (oj hn_g1 (oj hn_g2 (oj hn_g5 (oj hn_g6 (oj hx (oj hn_g10 (oj hn_g11 hi2)))))))) ?_
      refine aw_stop ⟨(j + 1, some g), by dsimp only; omega, (zB (oj z (oj hn_g1 (oj hn_g2 (oj hn_g5 (oj hn_g6 (oj hx (oj hn_g10 (oj hn_g11 hi2))))))))), ?_, by dsimp only; omega, fun e => by cases e⟩
      exact List.Sublist.refl _
    · have h2' : j = x.args.length := by have := of_decide_eq_false h2; omega
      subst h2'
      rw [List.take_length]
      refine aw_perm (h' := (g11, .cells 63 3 (ofL [.int .i64 x.kind, .int .i64 x.k, gs oa 1 x.args.length])) :: (gh oa 3 (x.args.length * 1) (isF (x.args.map (toR f))) ++ ((g6, .cells 3 (f.vars.toNat + f.nodes.length) (isF tl)) :: (g5, .cells 24 3 (ofL [.int .i64 f.vars, gs oN 3 (szTo f k), .int .i64 0])) :: (g2, .cells 24 3 (ofL [.int .i64 0, .nils, .int .i64 0])) :: (g1, .cells 24 3 (ofL (fmc false f))) :: gh oN 63 (szTo f k * 3) (fnsF (trTo f k))))) (by
        rw [Nat.mul_one]
        exact List.Perm.cons _ (List.perm_append_comm (l₁ := (g6, .cells 3 (f.vars.toNat + f.nodes.length) (isF tl)) :: (g5, .cells 24 3 (ofL [.int .i64 f.vars, gs oN 3 (szTo f k), .int .i64 0])) :: (g2, .cells 24 3 (ofL [.int .i64 0, .nils, .int .i64 0])) :: (g1, .cells 24 3 (ofL (fmc false f))) :: gh oN 63 (szTo f k * 3) (fnsF (trTo f k))))) ?_
      refine aw_frzG (j0 := 2) (og := oa) (s := 1) (n := x.args.length) (f' := ofL [.int .i64 x.kind, .int .i64 x.k, is true (x.args.map (toR f))]) rfl (by show CV.row true 1 (x.args.map (toR f)).length _ = _; rw [List.length_map]) (fun j hj hne => ?_) hoa (fun g e => ?_) ?_
      · match j, hj, hne with
        | 0, _, _ => rfl
        | 1, _, _ => rfl
        | 2, _, hne => exact absurd rfl hne
      · exact fun h => by have := (hC g).1 h; simp [Heap.keys] at this
      have hvk : f.vars + (k : Int) = ((i + k : Nat) : Int) := by omega
      have hlen := lenCV_gs (s := 3) hoN
      repeat first|apply wa1|apply wa2|apply wa3|apply wa4|apply wa5 rfl|apply wa6|apply wa7|(refine wb1 rfl fun R r=>?_;simp only[go_sem, z, hn_g1, hn_g2, hn_g5, hn_g6, hx, hn_g10, hn_g11, hvk, ↓hlen];with_reducible refine r _ _ ?_;clear r R)
      refine aw_store rfl rfl rfl rfl (by simp only[go_sem, z, hn_g1, hn_g2, hn_g5, hn_g6, hx, hn_g10, hn_g11, hvk, ↓hlen]<;>rfl) (by simp only[go_sem, z, hn_g1, hn_g2, hn_g5, hn_g6, hx, hn_g10, hn_g11, hvk, ↓hlen]<;>rfl) (by simp only[go_sem, z, hn_g1, hn_g2, hn_g5, hn_g6, hx, hn_g10, hn_g11, hvk, ↓hlen]<;>rfl) (by simp only[go_sem, z, hn_g1, hn_g2, hn_g5, hn_g6, hx, hn_g10, hn_g11, hvk, ↓hlen]<;>rfl) (fun _ e => by cases e) (by first | rfl | exact solid_gs3) (by rfl) (by first|omega|simp) rfl ?_
      (try simp only[go_sem, z, hn_g1, hn_g2, hn_g5, hn_g6, hx, hn_g10, hn_g11, hvk, ↓hlen])
      rw [updF_is (by omega)]
      repeat first|apply wa1|apply wa2|apply wa3|apply wa4|apply wa5 rfl|apply wa6|apply wa7|(refine wb1 rfl fun R r=>?_;simp only[go_sem, z, hn_g1, hn_g2, hn_g5, hn_g6, hx, hn_g10, hn_g11, hvk, ↓hlen];with_reducible refine r _ _ ?_;clear r R)
      refine aw_push (pre := [(g11, .cells 63 3 (ofL [.int .i64 x.kind, .int .i64 x.k, is true (x.args.map (toR f))])), (g6, .cells 3 (f.vars.toNat + f.nodes.length) (isF (tl.set (i + k) (f.vars + szTo f k)))), (g5, .cells 24 3 (ofL [.int .i64 f.vars, gs oN 3 (szTo f k), .int .i64 0])), (g2, .cells 24 3 (ofL [.int .i64 0, .nils, .int .i64 0])), (g1, .cells 24 3 (ofL (fmc false f)))]) rfl rfl rfl rfl rfl rfl rfl (by simp only[go_sem, z, hn_g1, hn_g2, hn_g5, hn_g6, hx, hn_g10, hn_g11, hvk, ↓hlen]<;>rfl) (by simp only[go_sem, z, hn_g1, hn_g2, hn_g5, hn_g6, hx, hn_g10, hn_g11, hvk, ↓hlen]<;>rfl) (by rfl) (by omega) (by omega) (by simp only[go_sem, z, hn_g1, hn_g2, hn_g5, hn_g6, hx, hn_g10, hn_g11, hvk, ↓hlen]<;>rfl) (by omega) (by exact hoN) (by simp only[go_sem, z, hn_g1, hn_g2, hn_g5, hn_g6, hx, hn_g10, hn_g11, hvk, ↓hlen]<;>rfl) (by rfl) (by rfl) (by first | rfl | simp only [Nat.mul_one, List.nil_append, List.cons_append] <;> rfl) (by unfold maxLen; omega) (by omega) (by exact lf_push (xs := trTo f k) (trTo_len f k) (⟨x.kind, x.k, x.args.map (toR f)⟩ : FN) (by omega)) fun g hn_g => ?_
      replace hn_g := Heap.ne_of hn_g
      first | dsimp only [Heap.ne, gh] at hn_g | dsimp only [Heap.ne] at hn_g | skip
      (try simp only[go_sem, z, hn_g1, hn_g2, hn_g5, hn_g6, hx, hn_g10, hn_g11, hvk, ↓hlen, hn_g])
      repeat first|apply wa1|apply wa2|apply wa3|apply wa4|apply wa5 rfl|apply wa6|apply wa7|(refine wb1 rfl fun R r=>?_;simp only[go_sem, z, hn_g1, hn_g2, hn_g5, hn_g6, hx, hn_g10, hn_g11, hvk, ↓hlen, hn_g];with_reducible refine r _ _ ?_;clear r R)
      refine aw_store rfl rfl rfl rfl (by simp only[go_sem, z, hn_g1, hn_g2, hn_g5, hn_g6, hx, hn_g10, hn_g11, hvk, ↓hlen, hn_g]<;>rfl) (by simp only[go_sem, z, hn_g1, hn_g2, hn_g5, hn_g6, hx, hn_g10, hn_g11, hvk, ↓hlen, hn_g]<;>rfl) (by simp only[go_sem, z, hn_g1, hn_g2, hn_g5, hn_g6, hx, hn_g10, hn_g11, hvk, ↓hlen, hn_g]<;>rfl) (by simp only[go_sem, z, hn_g1, hn_g2, hn_g5, hn_g6, hx, hn_g10, hn_g11, hvk, ↓hlen, hn_g]<;>rfl) (fun _ e => by cases e) (by first | rfl | exact solid_gs3) (by rfl) (by first|omega|simp) rfl ?_
      (try simp only[go_sem, z, hn_g1, hn_g2, hn_g5, hn_g6, hx, hn_g10, hn_g11, hvk, ↓hlen, hn_g])
      repeat first|apply wa1|apply wa2|apply wa3|apply wa4|apply wa5 rfl|apply wa6|apply wa7|(refine wb1 rfl fun R r=>?_;simp only[go_sem, z, hn_g1, hn_g2, hn_g5, hn_g6, hx, hn_g10, hn_g11, hvk, ↓hlen, hn_g];with_reducible refine r _ _ ?_;clear r R)
      refine aw_stop ⟨(k + 1, some g, tl.set (i + k) (f.vars + szTo f k)), by dsimp only; omega, (by simp only[go_sem, z, hn_g1, hn_g2, hn_g5, hn_g6, hx, hn_g10, hn_g11, hvk, ↓hlen, hn_g]<;>and_intros<;>first|exact True.intro|(with_reducible rfl)|exact c_int (by omega)|rfl), ?_, by dsimp only; omega, fun e => (by cases e), ?_⟩
      · dsimp only
        rw [hs1, hr1]
        exact List.Sublist.cons _ (List.Sublist.refl _)
      · have := toOk_set v0 h1' hto
        rwa [hVt] at this
  · have h1' : k = f.nodes.length := by have := of_decide_eq_false h1; omega
    subst h1'
    obtain ⟨tp, htp⟩ := Int.eq_ofNat_of_zero_le t0
    have htt := hto.at' f.top t0 t1 htop
    rw [htp, Int.toNat_natCast, ← htp] at htt
    refine yG (oj z (oj hn_g1 (oj hn_g2 (oj hn_g5 (oj hn_g6 htp))))) ?_
    refine yW (oj z (oj hn_g1 (oj hn_g2 (oj hn_g5 (oj hn_g6 htp))))) ?_
    refine yS (oj z (oj hn_g1 (oj hn_g2 (oj hn_g5 (oj hn_g6 htp))))) ?_
    rw [htt]
    refine aw_perm (h' := (g5, .cells 24 3 (ofL [.int .i64 f.vars, gs oN 3 (szTo f f.nodes.length), .int .i64 (toR f f.top)])) :: (gh oN 63 (szTo f f.nodes.length * 3) (fnsF (trTo f f.nodes.length)) ++ [(g6, .cells 3 (f.vars.toNat + f.nodes.length) (isF tl)), (g2, .cells 24 3 (ofL [.int .i64 0, .nils, .int .i64 0])), (g1, .cells 24 3 (ofL (fmc false f)))])) ((List.Perm.swap _ _ _).trans (List.Perm.cons _ (List.perm_append_comm (l₁ := ([(g6, .cells 3 (f.vars.toNat + f.nodes.length) (isF tl)), (g2, .cells 24 3 (ofL [.int .i64 0, .nils, .int .i64 0])), (g1, .cells 24 3 (ofL (fmc false f)))] : Heap))))) ?_
    refine aw_frzG (j0 := 1) (og := oN) (s := 3) (n := szTo f f.nodes.length) (f' := ofL (fmc true (trimF f))) rfl (by show CV.row true 3 (trTo f f.nodes.length).length _ = _; rw [trTo_len]; rfl) (fun j hj hne => ?_) hoN (fun g e => ?_) ?_
    · match j, hj, hne with
      | 0, _, _ => rfl
      | 1, _, hne => exact absurd rfl hne
      | 2, _, _ => rfl
    · exact fun h => by have := (hC g).1 h; simp [Heap.keys] at this
    refine yG (oj z (oj hn_g1 (oj hn_g2 (oj hn_g5 (oj hn_g6 htp))))) ?_
    refine yW (oj z (oj hn_g1 (oj hn_g2 (oj hn_g5 (oj hn_g6 htp))))) ?_
    refine yS (oj z (oj hn_g1 (oj hn_g2 (oj hn_g5 (oj hn_g6 htp))))) ?_
    refine yG (oj z (oj hn_g1 (oj hn_g2 (oj hn_g5 (oj hn_g6 htp))))) ?_
    refine aw_rethw (h' := []) rfl (List.nil_sublist _) (fun R hR => ?_)
    simp only [go_sem, z, hn_g1, hn_g2, hn_g5, hn_g6, htp]
    refine hR _ rfl ?_
    exact ⟨rfl, rfl⟩
end Go.Proofs.YtcoflhkcpnoaaaaGreatDoor
namespace Go.Proofs.YtcoflhkcpnoaaaaGreatDoor
open Go.AI Go.PN
attribute [local irreducible] aw Fa Fh DrK
structure Same (f f' : FM) : Prop where
  ok : FrOk f'
  vars : f'.vars = f.vars
  val : ∀ s, valF f' s f'.top = valF f s f.top
theorem same_trim {f : FM} (ok : FrOk f) : Same f (trimF f) := ⟨trim_ok ok, rfl, trim_top ok⟩
theorem same_nil {f : FM} (ok : FrOk f) (h : szTo f f.nodes.length = 0) : Same f ⟨f.vars, [], f.top⟩ := by
  have ht := sz_zero ok h
  refine ⟨⟨ok.v0, ok.v24, by simp, fun i hi => ?_, fun i hi => ?_, fun i hi => ?_, fun i hi => ?_, ok.t0, by simpa using ht⟩, rfl, fun s => ?_⟩
  · exact absurd hi (by simp)
  · exact absurd hi (by simp)
  · exact absurd hi (by simp)
  · exact absurd hi (by simp)
  · rw [val_event (f := f) ht]
    exact val_event (f := ⟨f.vars, [], f.top⟩) ht
structure RefsOk (f : FM) (n : Nat) (ns : List DN) (zs : List Int) (b : Nat) : Prop where
  len : zs.length = n
  at' : ∀ a, a < b → RefOk ns (zs.getD a 0) ∧ ∀ s, evalD ns s (zs.getD a 0) = valF f s a
theorem refs_step {o : List Int} {f : FM} {n m b : Nat} {ns ns' : List DN} {zs : List Int} (ht : TabOk o ns) (h : RefsOk f n ns zs b) (hl : Later o ns ns' m) (hb : b < n) {r : Int} (hr : RefOk ns' r) (hv : ∀ s, evalD ns' s r = valF f s b) : RefsOk f n ns' (zs.set b r) (b + 1) := by
  have hz := h.len
  refine ⟨by rw [List.length_set]; exact hz, fun a ha => ?_⟩
  by_cases e : a = b
  · subst e
    rw [getZset (by omega)]
    exact ⟨hr, hv⟩
  · rw [getZset' e]
    obtain ⟨h1, h2⟩ := h.at' a (by omega)
    exact ⟨hl.ref h1, fun s => by rw [hl.eval ht h1, h2 s]⟩
set_option maxRecDepth 100000 in
set_option maxHeartbeats 12800000 in
theorem build_fh (f : FM) (hn : f.nodes.length ≤ 1099511627776) (ha : ArgsOk f) (hc : fcode f = 0) (o : List Int) (ho : ocode o o.length = 0) (hol : o.length = f.vars.toNat) (h12 : o.length ≤ 12) : Fh Tryz.prog 51 [] [.agg (fmc false f), .c (is false o)] (fun x h => h = [] ∧ ∃ D, DOut o (fun s => valF f s f.top) D ∧ x = .tup [.agg (dgc true D), .c .nilI]) := by
  have ok := fr_ok hc
  have v0 := ok.v0
  have v24 := ok.v24
  have n128 := ok.n128
  have hov : ocode o f.vars = 0 := by rw [show f.vars = (o.length : Int) from by omega]; exact ho
  have z := ieq_t hov
  have hsz := szTo_le f f.nodes.length
  refine fh_of_body Tryz.func51 rfl rfl (by simp [Tryz.ntmps51]) fun C hC => ?_
  simp only [initS, Nat.reduceAdd]
  refine yG z ?_
  refine yB z fun g2 hn_g2=>?_
  refine yG (oj z hn_g2) ?_
  refine yA (oj z hn_g2) fun g4 hn_g4=>?_
  refine yG (oj z (oj hn_g2 hn_g4)) ?_
  refine aw_callq (fsize_fa f hn ha hc) rfl rfl rfl (zL (oj z (oj hn_g2 hn_g4))) ?_
  refine yS (oj z (oj hn_g2 hn_g4)) ?_
  refine yG (oj z (oj hn_g2 hn_g4)) ?_
  refine yN (oj z (oj hn_g2 hn_g4)) ?_
  refine yG (oj z (oj hn_g2 hn_g4)) ?_
  refine aw_callq (ocheck_fa o f.vars (by omega)) rfl rfl rfl (zL (oj z (oj hn_g2 hn_g4))) ?_
  refine yS (oj z (oj hn_g2 hn_g4)) ?_
  refine yG (oj z (oj hn_g2 hn_g4)) ?_
  refine yN (oj z (oj hn_g2 hn_g4)) ?_
  refine yG (oj z (oj hn_g2 hn_g4)) ?_
  refine aw_cut (fun f' : FM => [(1, .c (is false o)), (2, .c (.optr g2 0)), (4, .c (.optr g4 0))]) (fun f' => [(g4, .cells 86 3 (ofL [.nils, .nils, .int .i64 0])), (g2, .cells 24 3 (ofL (fmc true f')))]) (fun f' => Same f f') ?_ ?_
  · refine yF (oj z (oj hn_g2 hn_g4)) (fun hs=>?_) fun hs=>?_
    · refine yG (oj z (oj hn_g2 hn_g4)) ?_
      refine aw_callh (hc := []) (hr := [(g4, .cells 86 3 (ofL [.nils, .nils, .int .i64 0])), (g2, .cells 24 3 (ofL (fmc false f)))]) (ftrim_fh f hn ha hc) rfl rfl rfl (.refl _) (zL (oj z (oj hn_g2 hn_g4))) ?_
      rintro _ _ ⟨rfl, rfl⟩ _
      refine yS (oj z (oj hn_g2 hn_g4)) ?_
      refine yG (oj z (oj hn_g2 hn_g4)) ?_
      refine yW (oj z (oj hn_g2 hn_g4)) ?_
      refine yS (oj z (oj hn_g2 hn_g4)) ?_
      refine yG (oj z (oj hn_g2 hn_g4)) ?_
      refine yN (oj z (oj hn_g2 hn_g4)) ?_
      refine yG (oj z (oj hn_g2 hn_g4)) ?_
      exact aw_stop ⟨trimF f, (zB (oj z (oj hn_g2 hn_g4))), zZ, same_trim ok⟩
    · have hs0 : szTo f f.nodes.length = 0 := by have := of_decide_eq_false hs; omega
      refine yG (oj z (oj hn_g2 hn_g4)) ?_
      refine yW (oj z (oj hn_g2 hn_g4)) ?_
      refine yS (oj z (oj hn_g2 hn_g4)) ?_
      refine aw_perm (List.Perm.swap _ _ _) ?_
      refine aw_frzG (j0 := 1) (og := none) (s := 3) (n := 0) (tp := 63) (fp := fnsF []) (h := [(g4, .cells 86 3 (ofL [.nils, .nils, .int .i64 0]))]) (f' := ofL (fmc true ⟨f.vars, [], f.top⟩)) rfl rfl (fun j hj hne => ?_) (fun _ => rfl) (fun g e => by cases e) ?_
      · match j, hj, hne with
        | 0, _, _ => rfl
        | 1, _, hne => exact absurd rfl hne
        | 2, _, _ => rfl
      refine aw_perm (List.Perm.swap _ _ _) ?_
      refine yG (oj z (oj hn_g2 hn_g4)) ?_
      exact aw_stop ⟨⟨f.vars, [], f.top⟩, (zB (oj z (oj hn_g2 hn_g4))), zZ, same_nil ok hs0⟩
  rintro f' ⟨ok', hv', hval⟩
  have hod : OdOk o (placesL o) := ⟨(ocode_ok ho).1, pl_ok (ocode_ok ho).1, (ocode_ok ho).2⟩
  have ts0 : TS o none [] [] := ⟨fun _ => rfl, fun i hi => absurd hi (Nat.not_lt_zero _), fun e he => absurd he List.not_mem_nil⟩
  have v0' := ok'.v0
  have n128' := ok'.n128
  have t0' := ok'.t0
  have t1' := ok'.t1
  have hN : f'.vars + (f'.nodes.length : Int) = ((o.length + f'.nodes.length : Nat) : Int) := by omega
  have hvo : f'.vars = (o.length : Int) := by omega
  clear hsz z hov
  refine xG ?_
  refine aw_callh (hc := []) (hr := [(g4, .cells 86 3 (ofL [.nils, .nils, .int .i64 0])), (g2, .cells 24 3 (ofL (fmc true f')))]) (new_fh o hod.perm hod.l24) rfl rfl rfl (.refl _) eL ?_
  rintro _ _ ⟨gT, gU, gM, rfl, rfl⟩ _
  refine yS hN ?_
  refine aw_perm (List.perm_append_comm (l₂ := ([(g4, .cells 86 3 (ofL [.nils, .nils, .int .i64 0])), (g2, .cells 24 3 (ofL (fmc true f')))] : Heap))) ?_
  simp only [THp, TH, List.cons_append, List.nil_append]
  refine aw_nd fun hnd => ?_
  simp only [Heap.keys, List.map_cons] at hnd
  replace hnd := ndP_of hnd
  dsimp only [ndP, neA] at hnd
  refine yG (oj hN hnd) ?_
  refine aw_make (n := o.length + f'.nodes.length) (c := o.length + f'.nodes.length) (size := 1) (bytes := 8) (z := [.int .i64 0]) rfl rfl rfl (zE (oj hN hnd)) (zE (oj hN hnd)) rfl (by omega) (zE (oj hN hnd)) (zE (oj hN hnd)) (by omega) (by omega) (by omega) (by omega) (by omega) fun gR hn_gR => ?_
  clear hn_gR
  clear hnd
  simp only [Nat.mul_one]
  rw [make_is]
  refine aw_nd fun hnd => ?_
  simp only [Heap.keys, List.map_cons] at hnd
  replace hnd := ndP_of hnd
  dsimp only [ndP, neA] at hnd
  refine yS (oj hnd hvo) ?_
  refine yG (oj hnd hvo) ?_
  have hp13 : 2 ^ (o.length + 1) ≤ 2 ^ 13 := Nat.pow_le_pow_right (by omega) (by omega)
  have hp14 : 2 ^ (o.length + 2) ≤ 2 ^ 14 := Nat.pow_le_pow_right (by omega) (by omega)
  have hp12 : 2 ^ o.length ≤ 2 ^ 12 := Nat.pow_le_pow_right (by omega) h12
  refine aw_lp (fun y : Nat × Option Nat × List DN × Mem3 × List Int => [(2, .c (.optr g2 0)), (4, .c (.optr g4 0)), (10, .c (.optr gT 0)), (11, .c (.osl gR 1 0 (o.length + f'.nodes.length))), (58, .c (.int .i64 o.length)), (59, .c (.int .i64 y.1))]) (fun y => (gR, .cells 3 (o.length + f'.nodes.length) (isF y.2.2.2.2)) :: (g4, .cells 86 3 (ofL [.nils, .nils, .int .i64 0])) :: (g2, .cells 24 3 (ofL (fmc true f'))) :: THp gT gU gM y.2.1 o (placesL o) y.2.2.1 y.2.2.2.1)
    (fun y => y.1 ≤ o.length ∧ TS o y.2.1 y.2.2.1 y.2.2.2.1 ∧ y.2.2.1.length ≤ y.1 ∧ RefsOk f' (o.length + f'.nodes.length) y.2.2.1 y.2.2.2.2 y.1) (fun y => o.length - y.1) (0, none, [], [], List.replicate (o.length + f'.nodes.length) 0) (zB (oj hnd hvo)) zZ ⟨Nat.zero_le _, ts0, Nat.le_refl _, ⟨List.length_replicate .., fun a ha => by omega⟩⟩ ?_
  clear ts0
  rintro ⟨i, og, ns, mm, zs⟩ ⟨hi, hs, hnl, hz⟩
  dsimp only at hi hs hnl hz ⊢
  have hzl := hz.len
  refine yG (oj hnd hvo) ?_
  refine yF (oj hnd hvo) (fun hb=>?_) fun hb=>?_
  · have hb' : i < o.length := by have := of_decide_eq_true hb; omega
    refine yG (oj hnd hvo) ?_
    refine aw_callh (hc := THp gT gU gM og o (placesL o) ns mm) (hr := [(gR, .cells 3 (o.length + f'.nodes.length) (isF zs)), (g4, .cells 86 3 (ofL [.nils, .nils, .int .i64 0])), (g2, .cells 24 3 (ofL (fmc true f')))]) (tevent_fh (v := (i : Int)) gT gU gM hs (by omega) (by omega) (by omega)) rfl rfl rfl (List.perm_append_comm (l₁ := [(gR, _), (g4, _), (g2, _)])) (zL (oj hnd hvo)) ?_
    rintro _ _ ⟨og1, ns1, mm1, r, e1, e2, e3, e4, rfl, rfl⟩ _
    refine aw_perm List.perm_append_comm ?_
    have he := e2.len
    have hz2 := refs_step hs.tab hz e2 (by omega) e3 (fun s => by rw [e4 s, val_event (by omega)])
    refine yS (oj hnd hvo) ?_
    simp only [THp, TH, List.cons_append, List.nil_append]
    refine yG (oj hnd hvo) ?_
    refine yW (oj hnd hvo) ?_
    refine yS (oj hnd hvo) ?_
    rw [updF_is (by omega)]
    refine yG (oj hnd hvo) ?_
    exact aw_stop ⟨(i + 1, og1, ns1, mm1, zs.set i r), by dsimp only; omega, (zB (oj hnd hvo)), zZ, by dsimp only; omega, e1, by dsimp only; omega, hz2⟩
  · have hb' : i = o.length := by have := of_decide_eq_false hb; omega
    subst hb'
    refine yG (oj hnd hvo) ?_
    clear hb hzl hi
    refine aw_lp (fun y : Nat × Option Nat × List DN × Mem3 × List Int => [(2, .c (.optr g2 0)), (4, .c (.optr g4 0)), (10, .c (.optr gT 0)), (11, .c (.osl gR 1 0 (o.length + f'.nodes.length))), (70, .c (fns true f'.nodes)), (71, .c (.int .i64 f'.nodes.length)), (72, .c (.int .i64 y.1))]) (fun y => (gR, .cells 3 (o.length + f'.nodes.length) (isF y.2.2.2.2)) :: (g4, .cells 86 3 (ofL [.nils, .nils, .int .i64 0])) :: (g2, .cells 24 3 (ofL (fmc true f'))) :: THp gT gU gM y.2.1 o (placesL o) y.2.2.1 y.2.2.2.1)
      (fun y => y.1 ≤ f'.nodes.length ∧ TS o y.2.1 y.2.2.1 y.2.2.2.1 ∧ y.2.2.1.length ≤ o.length + y.1 * (256 * 2 ^ (o.length + 2)) ∧ RefsOk f' (o.length + f'.nodes.length) y.2.2.1 y.2.2.2.2 (o.length + y.1)) (fun y => f'.nodes.length - y.1) (0, og, ns, mm, zs) (zB (oj hnd hvo)) zZ ⟨Nat.zero_le _, hs, by dsimp only; rw [Nat.zero_mul]; omega, hz⟩ ?_
    clear hs hz hnl og ns mm zs
    rintro ⟨k, og, ns, mm, zs⟩ ⟨hk, hs, hnl, hz⟩
    dsimp only at hk hs hnl hz ⊢
    have hzl := hz.len
    have hW : (k + 1) * (256 * 2 ^ (o.length + 2)) = k * (256 * 2 ^ (o.length + 2)) + 256 * 2 ^ (o.length + 2) := Nat.succ_mul ..
    have hW1 : k * (256 * 2 ^ (o.length + 2)) ≤ 128 * (256 * 2 ^ 14) := Nat.mul_le_mul (by omega) (Nat.mul_le_mul_left _ hp14)
    refine yG (oj hnd hvo) ?_
    refine yF (oj hnd hvo) (fun hb=>?_) fun hb=>?_
    · have hk' : k < f'.nodes.length := by have := of_decide_eq_true hb; omega
      refine yG (oj hnd hvo) ?_
      refine yA (oj hnd hvo) fun g14 hn_g14=>?_
      clear hn_g14
      clear hnd
      refine aw_nd fun hnd => ?_
      simp only [THp, TH, List.cons_append, List.nil_append] at hnd
      simp only [Heap.keys, List.map_cons] at hnd
      replace hnd := ndP_of hnd
      dsimp only [ndP, neA] at hnd
      refine yG (oj hnd hvo) ?_
      refine yW (oj hnd hvo) ?_
      refine yS (oj hnd hvo) ?_
      have x1 := ok'.kind k hk'
      have x2 := ok'.ari k hk'
      have x3 := ok'.kc k hk'
      have x4 := ok'.arg k hk'
      have x5 := ok'.len hk'
      have x6 := fun s => val_node ok' (s := s) hk'
      generalize hx0 : f'.nodes.getD k fn0 = x at *
      refine yG (oj hnd (oj hvo hx0)) ?_
      refine aw_lp (fun y : Nat × Option Nat => [(2, .c (.optr g2 0)), (4, .c (.optr g4 0)), (10, .c (.optr gT 0)), (11, .c (.osl gR 1 0 (o.length + f'.nodes.length))), (70, .c (fns true f'.nodes)), (71, .c (.int .i64 f'.nodes.length)), (72, .c (.int .i64 k)), (13, .c (.int .i64 k)), (14, .c (.optr g14 0)), (15, .c (gs y.2 1 y.1)), (78, .c (is true x.args)), (79, .c (.int .i64 x.args.length)), (80, .c (.int .i64 y.1))])
        (fun y => ((g14, .cells 63 3 (ofL [.int .i64 x.kind, .int .i64 x.k, is true x.args])) :: (gR, .cells 3 (o.length + f'.nodes.length) (isF zs)) :: (g4, .cells 86 3 (ofL [.nils, .nils, .int .i64 0])) :: (g2, .cells 24 3 (ofL (fmc true f'))) :: THp gT gU gM og o (placesL o) ns mm) ++ gh y.2 3 y.1 (isF ((x.args.take y.1).map fun a => zs.getD a.toNat 0)))
        (fun y => y.1 ≤ x.args.length ∧ (y.2 = none → y.1 = 0)) (fun y => x.args.length - y.1) (0, none) (zB (oj hnd (oj hvo hx0))) (by
          show List.Sublist (((g14, .cells 63 3 (ofL [.int .i64 x.kind, .int .i64 x.k, is true x.args])) :: (gR, .cells 3 (o.length + f'.nodes.length) (isF zs)) :: (g4, .cells 86 3 (ofL [.nils, .nils, .int .i64 0])) :: (g2, .cells 24 3 (ofL (fmc true f'))) :: THp gT gU gM og o (placesL o) ns mm) ++ []) _
          rw [List.append_nil]
          exact List.Sublist.refl _) ⟨Nat.zero_le _, fun _ => rfl⟩ ?_
      rintro ⟨j, oa⟩ ⟨hj, hoa⟩
      dsimp only at hj hoa ⊢
      simp only [List.cons_append]
      refine yG (oj hnd (oj hvo hx0)) ?_
      refine yF (oj hnd (oj hvo hx0)) (fun h2=>?_) fun h2=>?_
      · have h2' : j < x.args.length := by have := of_decide_eq_true h2; omega
        have ham : x.args.getD j 0 ∈ x.args := by rw [getDZ h2']; exact List.getElem_mem h2'
        obtain ⟨a0, a1⟩ := x4 _ ham
        obtain ⟨i2, hi2⟩ := Int.eq_ofNat_of_zero_le a0
        rw [hi2] at a1
        have htk : x.args.take (j + 1) = x.args.take j ++ [x.args.getD j 0] := by rw [getDZ h2', List.take_succ_eq_append_getElem h2']
        have hlk : ((x.args.take j).map fun a => zs.getD a.toNat 0).length = j := by rw [List.length_map, List.length_take]; omega
        refine yG (oj hnd (oj hvo (oj hx0 hi2))) ?_
        refine aw_push (pre := (g14, .cells 63 3 (ofL [.int .i64 x.kind, .int .i64 x.k, is true x.args])) :: (gR, .cells 3 (o.length + f'.nodes.length) (isF zs)) :: (g4, .cells 86 3 (ofL [.nils, .nils, .int .i64 0])) :: (g2, .cells 24 3 (ofL (fmc true f'))) :: THp gT gU gM og o (placesL o) ns mm) rfl rfl rfl rfl rfl rfl rfl (zE (oj hnd (oj hvo (oj hx0 hi2)))) (zE (oj hnd (oj hvo (oj hx0 hi2)))) (by rfl) (by omega) (by omega) (zE (oj hnd (oj hvo (oj hx0 hi2)))) (by omega) (by exact hoa) (zE (oj hnd (oj hvo (oj hx0 hi2)))) (by rfl) (by rfl) (by first | rfl | simp only [Nat.mul_one, List.nil_append, List.cons_append] <;> rfl) (by unfold maxLen; omega) (by omega) (by exact is_push hlk (zs.getD i2 0)) fun g hn_g => ?_
        replace hn_g := Heap.ne_of hn_g
        first | dsimp only [Heap.ne, gh] at hn_g | dsimp only [Heap.ne] at hn_g | skip
        refine yS (oj hnd (oj hvo (oj hx0 (oj hi2 hn_g)))) ?_
        refine yG (oj hnd (oj hvo (oj hx0 (oj hi2 hn_g)))) ?_
        refine aw_stop ⟨(j + 1, some g), by dsimp only; omega, (zB (oj hnd (oj hvo (oj hx0 (oj hi2 hn_g))))), ?_, by dsimp only; omega, fun e => (by cases e)⟩
        dsimp only
        rw [htk, List.map_append, hi2]
        exact List.Sublist.refl _
      · have h2' : j = x.args.length := by have := of_decide_eq_false h2; omega
        subst h2'
        rw [List.take_length]
        have hlm : (x.args.map fun a => zs.getD a.toNat 0).length = x.args.length := List.length_map ..
        have hrs : ∀ r ∈ x.args.map fun a => zs.getD a.toNat 0, RefOk ns r := fun r hr => by
          obtain ⟨a, ha, rfl⟩ := List.mem_map.1 hr
          obtain ⟨a0, a1⟩ := x4 a ha
          exact (hz.at' a.toNat (by omega)).1
        have hval2 : ∀ s, nodeV (evalD ns s) ⟨x.kind, x.k, x.args.map fun a => zs.getD a.toNat 0⟩ = valF f' s ((o.length + k : Nat) : Int) := fun s => by
          rw [show ((o.length + k : Nat) : Int) = f'.vars + k from by omega, x6 s]
          unfold nodeV
          dsimp only
          rw [cntV_map (v := evalD ns s) (w := valF f' s) (fun a ha => by
            obtain ⟨a0, a1⟩ := x4 a ha
            rw [(hz.at' a.toNat (by omega)).2 s, show ((a.toNat : Nat) : Int) = a from by omega]), List.length_map]
        generalize (x.args.map fun a => zs.getD a.toNat 0) = rs at *
        refine aw_nd fun hnd2 => ?_
        refine aw_frzg (t := 15) (n := x.args.length) (s := 1) (e := 3) (f := isF rs) (pre := (g14, .cells 63 3 (ofL [.int .i64 x.kind, .int .i64 x.k, is true x.args])) :: (gR, .cells 3 (o.length + f'.nodes.length) (isF zs)) :: (g4, .cells 86 3 (ofL [.nils, .nils, .int .i64 0])) :: (g2, .cells 24 3 (ofL (fmc true f'))) :: THp gT gU gM og o (placesL o) ns mm) (zE (oj hnd (oj hvo hx0))) hoa (by simp only [Nat.mul_one, List.cons_append]) (fun g e hm => ?_) (fun g h => by have := (hC g).1 h; simp [Heap.keys] at this) rfl ?_
        · subst e
          have h3 : (Heap.keys (((g14, .cells 63 3 (ofL [.int .i64 x.kind, .int .i64 x.k, is true x.args])) :: (gR, .cells 3 (o.length + f'.nodes.length) (isF zs)) :: (g4, .cells 86 3 (ofL [.nils, .nils, .int .i64 0])) :: (g2, .cells 24 3 (ofL (fmc true f'))) :: THp gT gU gM og o (placesL o) ns mm) ++ gh (some g) 3 x.args.length (isF rs))).Nodup := hnd2
          unfold Heap.keys at h3
          rw [List.map_append, List.nodup_append] at h3
          exact h3.2.2 g hm g (by simp [gh]) rfl
        clear hnd2
        have hbn := bnode_fh gT gU gM hod hs x rs x1.1 x1.2 (by rw [hlm]; exact x2) (by unfold kcode at x3 ⊢; dsimp only; rw [hlm]; exact x3) (by omega) hrs
        dsimp only [is] at hbn
        rw [hlm] at hbn
        have hok2 : (o.length : Int) + (k : Int) = ((o.length + k : Nat) : Int) := by omega
        refine yS (oj hnd (oj hvo (oj hx0 hok2))) ?_
        refine yG (oj hnd (oj hvo (oj hx0 hok2))) ?_
        refine aw_cw ([(gR, .cells 3 (o.length + f'.nodes.length) (isF zs)), (g14, .cells 63 3 (ofL [.int .i64 x.kind, .int .i64 x.k, is true x.args])), (g2, .cells 24 3 (ofL (fmc true f')))]) [(0,0),(1,0),(2,0),(3,0),(4,0),(5,0),(6,0),(7,0),(8,1),(9,0),(10,2)] ty_mixed (by kernel_rfl) eI ?_
        refine yG (oj hnd (oj hvo (oj hx0 hok2))) ?_
        refine cw_callh (hc := THp gT gU gM og o (placesL o) ns mm) (hr := [(g14, .cells 63 3 (ofL [.int .i64 x.kind, .int .i64 x.k, is true x.args])), (gR, .cells 3 (o.length + f'.nodes.length) (isF zs)), (g4, .cells 86 3 (ofL [.nils, .nils, .int .i64 0])), (g2, .cells 24 3 (ofL (fmc true f')))]) rfl hbn rfl rfl rfl (List.perm_append_comm (l₁ := [(g14, _), (gR, _), (g4, _), (g2, _)])) (zL (oj hnd (oj hvo (oj hx0 hok2)))) (by
          rintro _ _ ⟨_, _, _, _, _, _, _, _, rfl, rfl⟩; exact has0_app2 eI) ?_ (hm := .inr ⟨rfl, rfl⟩)
        rintro _ _ ⟨og2, ns2, mm2, r, e1, e2, e3, e4, rfl, rfl⟩ _
        have he2 := e2.len
        have hz2 := refs_step hs.tab hz e2 (by omega) e3 (fun s => by rw [e4 s]; exact hval2 s)
        refine yS (oj hnd (oj hvo (oj hx0 hok2))) ?_
        refine cw_perm List.perm_append_comm ?_
        simp only [List.cons_append, List.nil_append]
        refine yS (oj hnd (oj hvo (oj hx0 hok2))) ?_
        refine yG (oj hnd (oj hvo (oj hx0 hok2))) ?_
        refine cw_store (FP' := []) rfl rfl rfl rfl rfl (zE (oj hnd (oj hvo (oj hx0 hok2)))) (zE (oj hnd (oj hvo (oj hx0 hok2)))) (zE (oj hnd (oj hvo (oj hx0 hok2)))) (zE (oj hnd (oj hvo (oj hx0 hok2)))) (fun _ e => by cases e) rfl rfl (by show (o.length + k) + 1 ≤ _; omega) rfl has0_nil ?_
        simp only [AV.cells]
        rw [updF_is (by omega)]
        have hgz : (zs.set (o.length + k) r).getD (o.length + k) 0 = r := getZset (by omega)
        refine yS (oj hnd (oj hvo (oj hx0 (oj hok2 hgz)))) ?_
        refine yG (oj hnd (oj hvo (oj hx0 (oj hok2 hgz)))) ?_
        refine aw_callh (hc := THp gT gU gM og2 o (placesL o) ns2 mm2) (hr := [(g14, .cells 63 3 (ofL [.int .i64 x.kind, .int .i64 x.k, is true x.args])), (gR, .cells 3 (o.length + f'.nodes.length) (isF (zs.set (o.length + k) r))), (g4, .cells 86 3 (ofL [.nils, .nils, .int .i64 0])), (g2, .cells 24 3 (ofL (fmc true f')))]) (small_fh gT gU gM hod e1 (by omega) e3 (most := 4096) (by omega)) rfl rfl rfl (List.perm_append_comm (l₁ := [(g14, _), (gR, _), (g4, _), (g2, _)])) (zL (oj hnd (oj hvo (oj hx0 (oj hok2 hgz))))) ?_
        rintro _ _ ⟨rfl, rfl⟩ _
        refine aw_perm List.perm_append_comm ?_
        refine yS (oj hnd (oj hvo (oj hx0 (oj hok2 hgz)))) ?_
        simp only [THp, TH, List.cons_append, List.nil_append]
        refine yG (oj hnd (oj hvo (oj hx0 (oj hok2 hgz)))) ?_
        refine yN (oj hnd (oj hvo (oj hx0 (oj hok2 hgz)))) ?_
        refine yG (oj hnd (oj hvo (oj hx0 (oj hok2 hgz)))) ?_
        exact aw_stop ⟨(k + 1, og2, ns2, mm2, zs.set (o.length + k) r), by dsimp only; omega, (zB (oj hnd (oj hvo (oj hx0 (oj hok2 hgz))))), List.Sublist.cons _ (List.Sublist.refl _), by dsimp only; omega, e1, by dsimp only; omega, hz2⟩
    · have hk' : k = f'.nodes.length := by have := of_decide_eq_false hb; omega
      subst hk'
      obtain ⟨tp, htp⟩ := Int.eq_ofNat_of_zero_le t0'
      obtain ⟨q1, q2⟩ := hz.at' tp (by omega)
      refine yG (oj hnd (oj hvo htp)) ?_
      refine aw_callh (hc := THp gT gU gM og o (placesL o) ns mm) (hr := [(gR, .cells 3 (o.length + f'.nodes.length) (isF zs)), (g4, .cells 86 3 (ofL [.nils, .nils, .int .i64 0])), (g2, .cells 24 3 (ofL (fmc true f')))]) (export_fh gT gU gM hod hs (by omega) q1) rfl rfl rfl (List.perm_append_comm (l₁ := [(gR, _), (g4, _), (g2, _)])) (zL (oj hnd (oj hvo htp))) ?_
      rintro _ _ ⟨rs, os, y, hex, rfl, rfl⟩ _
      refine aw_perm List.perm_append_comm ?_
      refine yS (oj hnd (oj hvo htp)) ?_
      refine yG (oj hnd (oj hvo htp)) ?_
      refine yW (oj hnd (oj hvo htp)) ?_
      refine yS (oj hnd (oj hvo htp)) ?_
      refine yG (oj hnd (oj hvo htp)) ?_
      refine aw_rethw (h' := []) rfl (List.nil_sublist _) (fun R hR => ?_)
      simp only [go_sem, hnd, hvo, htp]
      refine hR _ rfl ?_
      clear hR R
      have DO := dout_of ho h12 hod.mem hs.tab q1 hex
      exact ⟨rfl, _, ⟨DO.order, DO.code, fun s => by rw [DO.ev s, ← hval s, htp]; exact q2 s⟩, rfl⟩
end Go.Proofs.YtcoflhkcpnoaaaaGreatDoor
namespace Go.PN
open Go.AI
structure WalkOk (f : FM) (oe : Option Nat) (e : List Int) (s : List Bool) : Prop where
  len : s.length = f.vars.toNat + f.nodes.length
  nodup : e.Nodup
  mem : ∀ x : Int, x ∈ e ↔ 0 ≤ x ∧ x < f.vars ∧ s.getD x.toNat false = true
  none' : oe = none → e.length = 0
theorem WalkOk.le {f : FM} {oe : Option Nat} {e : List Int} {s : List Bool} (h : WalkOk f oe e s) : e.length ≤ f.vars.toNat := by
  have := nodup_le (m := (List.range f.vars.toNat).map fun (i : Nat) => (i : Int)) h.nodup (fun x hx => by
    have h1 := (h.mem x).1 hx
    exact List.mem_map.2 ⟨x.toNat, List.mem_range.2 (by omega), by omega⟩)
  simpa using this
theorem WalkOk.event {f : FM} (v0 : 0 ≤ f.vars) {oe : Option Nat} {e : List Int} {s : List Bool} (h : WalkOk f oe e s) {a : Nat} (ha : (a : Int) < f.vars) (hs : s.getD a false = false) (g : Nat) : WalkOk f (some g) (e ++ [(a : Int)]) (s.set a true) := by
  have hl := h.len
  refine ⟨by rw [List.length_set]; exact hl, ?_, fun x => ?_, fun e => by cases e⟩
  · rw [List.nodup_append]
    refine ⟨h.nodup, by simp, fun x hx y hy => ?_⟩
    rw [List.mem_singleton] at hy
    subst hy
    intro he
    subst he
    have := ((h.mem _).1 hx).2.2
    rw [Int.toNat_natCast, hs] at this
    cases this
  · rw [List.mem_append, List.mem_singleton]
    by_cases e1 : x = a
    · subst e1
      rw [Int.toNat_natCast, getDset' (by omega)]
      exact ⟨fun _ => ⟨by omega, ha, rfl⟩, fun _ => .inr rfl⟩
    · constructor
      · rintro (hx | hx)
        · have h1 := (h.mem x).1 hx
          exact ⟨h1.1, h1.2.1, by rw [getDset (by omega)]; exact h1.2.2⟩
        · exact absurd hx e1
      · rintro ⟨h0, h1, h2⟩
        rw [getDset (by omega)] at h2
        exact .inl ((h.mem x).2 ⟨h0, h1, h2⟩)
theorem WalkOk.gate {f : FM} (v0 : 0 ≤ f.vars) {oe : Option Nat} {e : List Int} {s : List Bool} (h : WalkOk f oe e s) {a : Nat} (ha : f.vars ≤ a) : WalkOk f oe e (s.set a true) := by
  refine ⟨by rw [List.length_set]; exact h.len, h.nodup, fun x => ?_, h.none'⟩
  rw [h.mem x]
  constructor <;> rintro ⟨h0, h1, h2⟩ <;> refine ⟨h0, h1, ?_⟩
  · rw [getDset (by omega)]; exact h2
  · rw [getDset (by omega)] at h2; exact h2
end Go.PN
namespace Go.Proofs.YtcoflhkcpnoaaaaGreatDoor
open Go.AI Go.PN
attribute [local irreducible] aw Fa Fh DrK
abbrev WH (f : FM) (gW gS : Nat) (oe : Option Nat) (e : List Int) (s : List Bool) : Heap :=
  (gW, .cells 151 5 (ofL [.int .i64 f.vars, fns false f.nodes, .int .i64 f.top, gs oe 1 e.length, .osl gS 1 0 (f.vars.toNat + f.nodes.length)])) :: (gS, .cells 4 (f.vars.toNat + f.nodes.length) (bsF s)) :: gh oe 3 e.length (isF e)
set_option maxRecDepth 100000 in
set_option maxHeartbeats 6400000 in
theorem visit_fh (f : FM) (ok : FrOk f) (gW gS : Nat) : ∀ (m a : Nat) (oe : Option Nat) (e : List Int) (s : List Bool), a < m → (a : Int) < f.vars + f.nodes.length → WalkOk f oe e s →
    Fh Tryz.prog 124 (WH f gW gS oe e s) [.c (.optr gW 0), .c (.int .i64 a)] (fun r h => r = .tup [] ∧ ∃ oe' e' s', h = WH f gW gS oe' e' s' ∧ WalkOk f oe' e' s') := by
  have v0 := ok.v0
  have v24 := ok.v24
  have n128 := ok.n128
  intro m
  induction m with
  | zero => intro a oe e s h; omega
  | succ m ih =>
    intro a oe e s ham han hw
    have hsl := hw.len
    have hel := hw.le
    refine fh_of_body Tryz.func124 rfl rfl (by simp [Tryz.ntmps124]) fun C hC => ?_
    simp only [initS, Nat.reduceAdd]
    refine aw_nd fun hnd => ?_
    have hne : gW ≠ gS := fun h => by
      subst h
      exact (List.nodup_cons.1 hnd).1 (List.mem_cons_self ..)
    clear hnd
    have hq : (gW = gS) = False ∧ (gS = gW) = False := ⟨eq_false hne, eq_false (Ne.symm hne)⟩
    refine yG hq ?_
    refine yF hq (fun hb=>?_) fun hb=>?_
    · refine yG hq ?_
      refine yU hq ?_
      exact ⟨rfl, oe, e, s, rfl, hw⟩
    · have hb' : s.getD a false = false := by simpa using hb
      refine yG hq ?_
      refine yW hq ?_
      refine yS hq ?_
      rw [updF_bs (by omega)]
      refine yG hq ?_
      refine yF hq (fun hv=>?_) fun hv=>?_
      · have hv' : (a : Int) < f.vars := of_decide_eq_true hv
        have hw2 := fun g => hw.event v0 hv' hb' g
        refine yG hq ?_
        refine aw_push (pre := [(gW, .cells 151 5 (ofL [.int .i64 f.vars, fns false f.nodes, .int .i64 f.top, gs oe 1 e.length, .osl gS 1 0 (f.vars.toNat + f.nodes.length)])), (gS, .cells 4 (f.vars.toNat + f.nodes.length) (bsF (s.set a true)))]) rfl rfl rfl rfl rfl rfl rfl (zE hq) (zE hq) (by rfl) (by omega) (by omega) (zE hq) (by omega) (by exact hw.none') (zE hq) (by rfl) (by rfl) (by first | rfl | simp only [Nat.mul_one, List.nil_append, List.cons_append] <;> rfl) (by unfold maxLen; omega) (by omega) (by exact is_push rfl (a : Int)) fun g hn_g => ?_
        replace hn_g := Heap.ne_of hn_g
        first | dsimp only [Heap.ne, gh] at hn_g | dsimp only [Heap.ne] at hn_g | skip
        refine yS (oj hq hn_g) ?_
        refine yG (oj hq hn_g) ?_
        refine yW (oj hq hn_g) ?_
        refine yS (oj hq hn_g) ?_
        refine yG (oj hq hn_g) ?_
        rw [updF_at _ 3 _ (by simp)]
        refine yU (oj hq hn_g) ?_
        have hl1 : (e ++ [(a : Int)]).length = e.length + 1 := by simp
        exact ⟨rfl, some g, e ++ [(a : Int)], s.set a true, by rw [WH, hl1]; rfl, hw2 g⟩
      · have hv' : f.vars ≤ a := by have := of_decide_eq_false hv; omega
        have hw2 := hw.gate v0 hv'
        have hak : (a : Int) - f.vars = ((a - f.vars.toNat : Nat) : Int) := by omega
        have hkl : a - f.vars.toNat < f.nodes.length := by omega
        have hln := ok.len hkl
        have hargs : ∀ j, j < (f.nodes.getD (a - f.vars.toNat) fn0).args.length → 0 ≤ (f.nodes.getD (a - f.vars.toNat) fn0).args.getD j 0 ∧ (f.nodes.getD (a - f.vars.toNat) fn0).args.getD j 0 < a := fun j hj => by
          obtain ⟨a0, a1⟩ := ok.at hkl hj
          exact ⟨a0, by omega⟩
        generalize s.set a true = s1 at hw2
        generalize hk : a - f.vars.toNat = k at *
        generalize hx : f.nodes.getD k fn0 = x at *
        clear hb hsl hel hw
        refine yG (oj hq (oj hak hx)) ?_
        refine aw_dr 17 ty_mixed (by kernel_rfl) ?_
        refine yG (oj hq (oj hak hx)) ?_
        refine aw_lp (fun y : Nat × Option Nat × List Int × List Bool => [(0, .c (.optr gW 0)), (50, .c (is true x.args)), (51, .c (.int .i64 x.args.length)), (52, .c (.int .i64 y.1))]) (fun y => WH f gW gS y.2.1 y.2.2.1 y.2.2.2)
          (fun y => y.1 ≤ x.args.length ∧ WalkOk f y.2.1 y.2.2.1 y.2.2.2) (fun y => x.args.length - y.1) (0, oe, e, s1) (zB (oj hq (oj hak hx))) zZ ⟨Nat.zero_le _, hw2⟩ ?_
        clear hw2
        rintro ⟨j, oe1, e1, s1⟩ ⟨hj, hw1⟩
        dsimp only at hj hw1 ⊢
        refine yG (oj hq (oj hak hx)) ?_
        refine yF (oj hq (oj hak hx)) (fun h2=>?_) fun h2=>?_
        · have h2' : j < x.args.length := by have := of_decide_eq_true h2; omega
          obtain ⟨a0, a1⟩ := hargs j h2'
          obtain ⟨i2, hi2⟩ := Int.eq_ofNat_of_zero_le a0
          rw [hi2] at a1
          refine yG (oj hq (oj hak (oj hx hi2))) ?_
          refine aw_callh (hr := []) (ih i2 oe1 e1 s1 (by omega) (by omega) hw1) rfl rfl rfl (by rw [List.append_nil]) (zL (oj hq (oj hak (oj hx hi2)))) ?_
          rintro _ _ ⟨rfl, oe2, e2, s2, rfl, hw2⟩ _
          rw [List.append_nil]
          refine yS (oj hq (oj hak (oj hx hi2))) ?_
          refine yG (oj hq (oj hak (oj hx hi2))) ?_
          exact aw_stop ⟨(j + 1, oe2, e2, s2), by dsimp only; omega, (zB (oj hq (oj hak (oj hx hi2)))), zZ, by dsimp only; omega, hw2⟩
        · refine yG (oj hq (oj hak hx)) ?_
          refine yV (oj hq (oj hak hx)) ?_
          exact ⟨rfl, oe1, e1, s1, rfl, hw1⟩
end Go.Proofs.YtcoflhkcpnoaaaaGreatDoor
