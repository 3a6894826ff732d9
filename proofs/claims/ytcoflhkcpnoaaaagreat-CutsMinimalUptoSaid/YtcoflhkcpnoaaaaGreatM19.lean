/- Blocks of one proof, laid one behind the other by a program (merge2.py). -/
import Derived.Test.YtcoflhkcpnoaaaaGreatM12
set_option linter.unusedSimpArgs false
set_option linter.unusedVariables false
namespace Go.Proofs.YtcoflhkcpnoaaaaGreat
open Go.AI Go.PN
attribute [local irreducible] aw Fa Fh DrK
set_option maxRecDepth 100000 in
set_option maxHeartbeats 3200000 in
theorem add_succ (o : List Int) (tb : List Bool) (rt : Int) (ho : o.length ≤ 12) (hr : ∀ x ∈ o, 0 ≤ x ∧ x < o.length) (ht : tb.length = 2 ^ o.length) (k : Nat) (ih : AddOk o tb rt k) : AddOk o tb rt (k + 1) := by
  intro lv st ns og n hk hst hn hnl hog
  have hp2 : 2 ^ (k + 1) = 2 ^ k + 2 ^ k := by rw [Nat.pow_succ]; omega
  have hpk : 0 < 2 ^ k := Nat.pow_pos (by omega)
  refine fh_of_body Tryz.func117 rfl rfl (by simp [Tryz.ntmps117]) fun C hC => ?_
  simp only [initS, Nat.reduceAdd]
  refine xG ?_
  refine xB fun g4 hn_g4=>?_
  refine yG hn_g4 ?_
  refine yA hn_g4 fun g8 hn_g8=>?_
  refine yG (oj hn_g4 hn_g8) ?_
  have e1 : ((lv : Int) == (o.length : Int)) = false := by simp; omega
  refine yG (oj hn_g4 (oj hn_g8 e1)) ?_
  refine yN (oj hn_g4 (oj hn_g8 e1)) ?_
  refine yG (oj hn_g4 (oj hn_g8 e1)) ?_
  refine aw_callh (hr := [(g8, AObj.cells 25 3 (ofL [.nils, .nils, .int .i64 0])), (g4, AObj.cells 25 3 (ofL [is true o, gs og 3 n, .int .i64 rt]))]) (ih (lv + 1) st ns og n (by omega) hst hn (by omega) hog) rfl rfl rfl (List.perm_append_comm (l₁ := [(g8, AObj.cells 25 3 (ofL [.nils, .nils, .int .i64 0])), (g4, AObj.cells 25 3 (ofL [is true o, gs og 3 n, .int .i64 rt]))])) (zL (oj hn_g4 (oj hn_g8 e1))) ?_
  have hA : ∀ a, a = addF o tb k (lv + 1) st ns → addF o tb (k + 1) lv st ns = (let b := addF o tb k (lv + 1) (st ||| 2 ^ (o.getD lv 0).toNat) a.1
    if a.2 = b.2 then (b.1, a.2) else
    match findN ⟨o.getD lv 0, a.2, b.2⟩ b.1 0 with
    | some i => (b.1, 2 + i)
    | none => (b.1 ++ [⟨o.getD lv 0, a.2, b.2⟩], 1 + ((b.1.length + 1 : Nat) : Int))) := fun a ha => by rw [ha]; rfl
  generalize addF o tb k (lv + 1) st ns = A at *
  replace hA := hA A rfl
  rintro _ _ ⟨og2, n2, hn2, hb2, hog2, rfl, rfl⟩ hk2
  refine aw_perm (List.perm_append_comm (l₂ := [(g8, AObj.cells 25 3 (ofL [.nils, .nils, .int .i64 0])), (g4, AObj.cells 25 3 (ofL [is true o, gs og 3 n, .int .i64 rt]))])) ?_
  refine yS (oj hn_g4 (oj hn_g8 e1)) ?_
  refine yH (oj hn_g4 (oj hn_g8 e1)) ?_
  refine yW (oj hn_g4 (oj hn_g8 e1)) ?_
  refine yS (oj hn_g4 (oj hn_g8 e1)) ?_
  refine yH (oj hn_g4 (oj hn_g8 e1)) ?_
  have hlv : lv < o.length := by omega
  have hom := hr (o.getD lv 0) (by rw [getDZ hlv]; exact List.getElem_mem hlv)
  refine aw_seq ?_
  obtain ⟨v, hv⟩ : ∃ v : Nat, o.getD lv 0 = v := ⟨(o.getD lv 0).toNat, by omega⟩
  have hv12 : v < o.length := by omega
  have hsl := shl_one v (by omega)
  have h2v : 2 ^ v < 2 ^ o.length := Nat.pow_lt_pow_right (by omega) hv12
  have h2o : 2 ^ o.length ≤ 4096 := by
    have h3 : 2 ^ o.length ≤ 2 ^ 12 := Nat.pow_le_pow_right (by omega) (by omega)
    have h4 : (2 : Nat) ^ 12 = 4096 := by decide
    omega
  have hor := orZ_nat st (2 ^ v) (by omega) (by omega)
  have hst2 : st ||| 2 ^ v < 2 ^ o.length := Nat.or_lt_two_pow hst h2v
  rw [hv, Int.toNat_natCast] at hA
  refine aw_cut (fun x : Option Nat × Nat => [(2, .c (.int .i64 lv)), (4, .c (.optr g4 0)), (8, .c (.optr g8 0)), (10, .c (.int .i64 A.2)), (11, .c (.int .i64 (addF o tb k (lv + 1) (st ||| 2 ^ v) A.1).2))]) (fun x => (g8, AObj.cells 25 3 (ofL [.nils, .nils, .int .i64 0])) :: (g4, AObj.cells 25 3 (ofL [is true o, gs x.1 3 x.2, .int .i64 rt])) :: gh x.1 88 (x.2 * 3) (dnsF (addF o tb k (lv + 1) (st ||| 2 ^ v) A.1).1)) (fun x => (addF o tb k (lv + 1) (st ||| 2 ^ v) A.1).1.length = x.2 ∧ x.2 < n2 + 2 ^ k ∧ (x.1 = none → x.2 = 0) ∧ ∀ g, x.1 = some g → ¬ g = g8 ∧ ¬ g = g4) ?_ ?_
  · skip
    refine aw_drT 12 14 [14, 15, 16, 17] ty_mixed (by kernel_rfl) ?_
    refine yS (oj hn_g4 (oj hn_g8 (oj e1 (oj hv (oj hsl hor))))) ?_
    refine yH (oj hn_g4 (oj hn_g8 (oj e1 (oj hv (oj hsl hor))))) ?_
    simp only [List.take_succ_cons, List.take_zero]
    refine aw_callh (hr := [(g8, AObj.cells 25 3 (ofL [.nils, .nils, .int .i64 0])), (g4, AObj.cells 25 3 (ofL [is true o, gs og2 3 n2, .int .i64 rt]))]) (ih (lv + 1) (st ||| 2 ^ v) A.1 og2 n2 (by omega) hst2 hn2 (by omega) hog2) rfl rfl rfl (List.perm_append_comm (l₁ := [(g8, AObj.cells 25 3 (ofL [.nils, .nils, .int .i64 0])), (g4, AObj.cells 25 3 (ofL [is true o, gs og2 3 n2, .int .i64 rt]))])) (zL (oj hn_g4 (oj hn_g8 (oj e1 (oj hv (oj hsl hor)))))) ?_
    rintro _ _ ⟨og3, n3, hn3, hb3, hog3, rfl, rfl⟩ hk3
    have hg3 : ∀ g, og3 = some g → ¬ g = g8 ∧ ¬ g = g4 := fun g e => by
      subst e
      have := hk3 g (by simp [gh, Heap.keys])
      simpa [Heap.keys] using this
    generalize addF o tb k (lv + 1) (st ||| 2 ^ v) A.1 = B at *
    refine aw_perm (List.perm_append_comm (l₂ := [(g8, AObj.cells 25 3 (ofL [.nils, .nils, .int .i64 0])), (g4, AObj.cells 25 3 (ofL [is true o, gs og2 3 n2, .int .i64 rt]))])) ?_
    refine yS (oj hn_g4 (oj hn_g8 (oj e1 (oj hv (oj hsl hor))))) ?_
    refine yH (oj hn_g4 (oj hn_g8 (oj e1 (oj hv (oj hsl hor))))) ?_
    refine aw_stop ?_
    refine awN_step [14, 15, 16, 17] [14, 15] (by kernel_rfl) (by kernel_rfl) (by simp) (by rfl) ⟨⟨_, rfl, ?_⟩, ⟨_, rfl, ?_⟩, trivial⟩
    · refine yH (oj hn_g4 (oj hn_g8 (oj e1 (oj hv (oj hsl hor))))) ?_
      refine aw_stop ?_
      refine awN_step [15, 16, 17] [15, 16] (by kernel_rfl) (by kernel_rfl) (by simp) (by rfl) ⟨⟨_, rfl, ?_⟩, ⟨_, rfl, ?_⟩, trivial⟩
      · refine yH (oj hn_g4 (oj hn_g8 (oj e1 (oj hv (oj hsl hor))))) ?_
        refine aw_stop ?_
        refine awN_step [16, 17] [16] (by kernel_rfl) (by kernel_rfl) (by simp) (by rfl) ⟨⟨_, rfl, ?_⟩, trivial⟩
        refine yW (oj hn_g4 (oj hn_g8 (oj e1 (oj hv (oj hsl hor))))) ?_
        refine yS (oj hn_g4 (oj hn_g8 (oj e1 (oj hv (oj hsl hor))))) ?_
        refine yH (oj hn_g4 (oj hn_g8 (oj e1 (oj hv (oj hsl hor))))) ?_
        refine aw_stop ?_
        refine awN_step [17] [17] (by kernel_rfl) (by kernel_rfl) (by simp) (by rfl) ⟨⟨_, rfl, ?_⟩, trivial⟩
        refine yH (oj hn_g4 (oj hn_g8 (oj e1 (oj hv (oj hsl hor))))) ?_
        refine aw_stop ?_
        refine awN_nil ?_
        exact aw_stop ⟨(og3, n3), (zB (oj hn_g4 (oj hn_g8 (oj e1 (oj hv (oj hsl hor)))))), zZ, hn3, hb3, hog3, hg3⟩
      · refine yW (oj hn_g4 (oj hn_g8 (oj e1 (oj hv (oj hsl hor))))) ?_
        refine yS (oj hn_g4 (oj hn_g8 (oj e1 (oj hv (oj hsl hor))))) ?_
        refine yH (oj hn_g4 (oj hn_g8 (oj e1 (oj hv (oj hsl hor))))) ?_
        refine aw_stop ?_
        refine awN_step [15, 17] [15] (by kernel_rfl) (by kernel_rfl) (by simp) (by rfl) ⟨⟨_, rfl, ?_⟩, trivial⟩
        refine yH (oj hn_g4 (oj hn_g8 (oj e1 (oj hv (oj hsl hor))))) ?_
        refine aw_stop ?_
        refine awN_step [17] [17] (by kernel_rfl) (by kernel_rfl) (by simp) (by rfl) ⟨⟨_, rfl, ?_⟩, trivial⟩
        refine yH (oj hn_g4 (oj hn_g8 (oj e1 (oj hv (oj hsl hor))))) ?_
        refine aw_stop ?_
        refine awN_nil ?_
        exact aw_stop ⟨(og3, n3), (zB (oj hn_g4 (oj hn_g8 (oj e1 (oj hv (oj hsl hor)))))), zZ, hn3, hb3, hog3, hg3⟩
    · refine yH (oj hn_g4 (oj hn_g8 (oj e1 (oj hv (oj hsl hor))))) ?_
      refine aw_stop ?_
      refine awN_step [14, 16, 17] [14] (by kernel_rfl) (by kernel_rfl) (by simp) (by rfl) ⟨⟨_, rfl, ?_⟩, trivial⟩
      refine yH (oj hn_g4 (oj hn_g8 (oj e1 (oj hv (oj hsl hor))))) ?_
      refine aw_stop ?_
      refine awN_step [16, 17] [16] (by kernel_rfl) (by kernel_rfl) (by simp) (by rfl) ⟨⟨_, rfl, ?_⟩, trivial⟩
      refine yW (oj hn_g4 (oj hn_g8 (oj e1 (oj hv (oj hsl hor))))) ?_
      refine yS (oj hn_g4 (oj hn_g8 (oj e1 (oj hv (oj hsl hor))))) ?_
      refine yH (oj hn_g4 (oj hn_g8 (oj e1 (oj hv (oj hsl hor))))) ?_
      refine aw_stop ?_
      refine awN_step [17] [17] (by kernel_rfl) (by kernel_rfl) (by simp) (by rfl) ⟨⟨_, rfl, ?_⟩, trivial⟩
      refine yH (oj hn_g4 (oj hn_g8 (oj e1 (oj hv (oj hsl hor))))) ?_
      refine aw_stop ?_
      refine awN_nil ?_
      exact aw_stop ⟨(og3, n3), (zB (oj hn_g4 (oj hn_g8 (oj e1 (oj hv (oj hsl hor)))))), zZ, hn3, hb3, hog3, hg3⟩
  · rintro ⟨og3, n3⟩ ⟨hn3, hb3, hog3, hg3⟩
    dsimp only at hn3 hb3 hog3 hg3 ⊢
    generalize addF o tb k (lv + 1) (st ||| 2 ^ v) A.1 = B at *
    dsimp only at hA
    have hlen := lenCV_gs (s := 3) hog3
    refine yG (oj hn_g4 (oj hn_g8 e1)) ?_
    refine yF (oj hn_g4 (oj hn_g8 e1)) (fun hb=>?_) fun hb=>?_
    · have hb' : A.2 = B.2 := eq_of_beq hb
      rw [if_pos hb'] at hA
      refine yG (oj hn_g4 (oj hn_g8 e1)) ?_
      refine yW (oj hn_g4 (oj hn_g8 e1)) ?_
      refine yS (oj hn_g4 (oj hn_g8 e1)) ?_
      refine yG (oj hn_g4 (oj hn_g8 e1)) ?_
      refine aw_keep [(8, .c (.optr g8 0)), (9, .c (.int .i64 A.2))] ((g8, .cells 25 3 (ofL [is true o, gs og3 3 n3, .int .i64 rt])) :: gh og3 88 (n3 * 3) (dnsF B.1)) (zB (oj hn_g4 (oj hn_g8 e1))) (List.Sublist.cons_cons _ (List.Sublist.cons _ (List.Sublist.refl _))) ?_
      refine aw_rethw (h' := gh og3 88 (n3 * 3) (dnsF B.1)) rfl (List.Sublist.cons _ (List.Sublist.refl _)) (fun R hR => ?_)
      simp only [go_sem, hn_g4, hn_g8, e1]
      refine hR _ rfl ?_
      clear hR R
      exact ⟨og3, n3, by rw [hA]; exact hn3, by omega, hog3, by rw [hA], by rw [hA]⟩
    · have hb' : A.2 ≠ B.2 := by simpa using hb
      rw [if_neg hb'] at hA
      repeat first|apply wa1|apply wa2|apply wa3|apply wa4|apply wa5 rfl|apply wa6|apply wa7|(refine wb1 rfl fun R r=>?_;simp only[go_sem, hn_g4, hn_g8, e1, hv, ↓hlen];with_reducible refine r _ _ ?_;clear r R)
      refine aw_alloc rfl rfl rfl (by simp only[go_sem, hn_g4, hn_g8, e1, hv, ↓hlen]<;>rfl) fun g12 hn_g12 => ?_
      replace hn_g12 := Heap.ne_of hn_g12
      first | dsimp only [Heap.ne, gh] at hn_g12 | dsimp only [Heap.ne] at hn_g12 | skip
      (try simp only[go_sem, hn_g4, hn_g8, e1, hv, ↓hlen, hn_g12])
      repeat first|apply wa1|apply wa2|apply wa3|apply wa4|apply wa5 rfl|apply wa6|apply wa7|(refine wb1 rfl fun R r=>?_;simp only[go_sem, hn_g4, hn_g8, e1, hv, ↓hlen, hn_g12];with_reducible refine r _ _ ?_;clear r R)
      refine aw_store rfl rfl rfl rfl (by simp only[go_sem, hn_g4, hn_g8, e1, hv, ↓hlen, hn_g12]<;>rfl) (by simp only[go_sem, hn_g4, hn_g8, e1, hv, ↓hlen, hn_g12]<;>rfl) (by simp only[go_sem, hn_g4, hn_g8, e1, hv, ↓hlen, hn_g12]<;>rfl) (by simp only[go_sem, hn_g4, hn_g8, e1, hv, ↓hlen, hn_g12]<;>rfl) (fun _ e => by cases e) (by first | rfl | exact solid_gs3 | exact solid_gs2) (by rfl) (by first|omega|simp) rfl ?_
      (try simp only[go_sem, hn_g4, hn_g8, e1, hv, ↓hlen, hn_g12])
      repeat first|apply wa1|apply wa2|apply wa3|apply wa4|apply wa5 rfl|apply wa6|apply wa7|(refine wb1 rfl fun R r=>?_;simp only[go_sem, hn_g4, hn_g8, e1, hv, ↓hlen, hn_g12];with_reducible refine r _ _ ?_;clear r R)
      refine aw_lp (fun i : Nat => [(4, .c (.optr g4 0)), (8, .c (.optr g8 0)), (12, .c (.optr g12 0)), (13, .c (.int .i64 i))]) (fun _ => (g12, .cells 88 3 (ofL [.int .i64 v, .int .i64 A.2, .int .i64 B.2])) :: (g8, AObj.cells 25 3 (ofL [.nils, .nils, .int .i64 0])) :: (g4, AObj.cells 25 3 (ofL [is true o, gs og3 3 n3, .int .i64 rt])) :: gh og3 88 (n3 * 3) (dnsF B.1)) (fun i => i ≤ n3 ∧ findN ⟨v, A.2, B.2⟩ B.1 0 = findN ⟨v, A.2, B.2⟩ (B.1.drop i) i) (fun i => n3 - i) 0 (by simp only[go_sem, hn_g4, hn_g8, e1, hv, ↓hlen, hn_g12]<;>and_intros<;>first|exact True.intro|(with_reducible rfl)|exact c_int (by omega)|rfl) (List.Sublist.refl _) ⟨Nat.zero_le _, by simp⟩ ?_
      rintro i ⟨hi, hf⟩
      repeat first|apply wa1|apply wa2|apply wa3|apply wa4|apply wa5 rfl|apply wa6|apply wa7|(refine wb1 rfl fun R r=>?_;simp only[go_sem, hn_g4, hn_g8, e1, hv, ↓hlen, hn_g12];with_reducible refine r _ _ ?_;clear r R)
      refine aw_cond (by simp only[go_sem, hn_g4, hn_g8, e1, hv, ↓hlen, hn_g12]<;>rfl) (fun h1 => ?_) (fun h1 => ?_)
      · have h1' : i < n3 := by have := of_decide_eq_true h1; omega
        obtain ⟨g, rfl⟩ : ∃ g, og3 = some g := by
          cases og3 with
          | none => have := hog3 rfl; omega
          | some g => exact ⟨g, rfl⟩
        obtain ⟨q8, q4⟩ := hg3 g rfl
        have q8' : ¬ g8 = g := fun e => q8 e.symm
        have q4' : ¬ g4 = g := fun e => q4 e.symm
        first | dsimp only [Heap.ne, gh] at hn_g12 | skip
        simp only [gs, gh]
        repeat first|apply wa1|apply wa2|apply wa3|apply wa4|apply wa5 rfl|apply wa6|apply wa7|(refine wb1 rfl fun R r=>?_;simp only[go_sem, hn_g4, hn_g8, e1, hv, ↓hlen, hn_g12, q8, q4, q8', q4'];with_reducible refine r _ _ ?_;clear r R)
        refine aw_dr 7 ty_mixed (by kernel_rfl) ?_
        repeat first|apply wa1|apply wa2|apply wa3|apply wa4|apply wa5 rfl|apply wa6|apply wa7|(refine wb1 rfl fun R r=>?_;simp only[go_sem, hn_g4, hn_g8, e1, hv, ↓hlen, hn_g12, q8, q4, q8', q4'];with_reducible refine r _ _ ?_;clear r R)|apply wa8|(refine wd1 rfl fun R r=>?_;simp only[go_sem, hn_g4, hn_g8, e1, hv, ↓hlen, hn_g12, q8, q4, q8', q4'];with_reducible refine r _ _ ?_;clear r R)
        refine aw_cond (by simp only[go_sem, hn_g4, hn_g8, e1, hv, ↓hlen, hn_g12, q8, q4, q8', q4']<;>rfl) (fun h2 => ?_) (fun h2 => ?_)
        · rw [dn_beq] at h2
          have h2' := of_decide_eq_true h2
          rw [hf, findN_step (by omega), if_pos h2'] at hA
          dsimp only at hA
          repeat first|apply wa1|apply wa2|apply wa3|apply wa4|apply wa5 rfl|apply wa6|apply wa7|(refine wb1 rfl fun R r=>?_;simp only[go_sem, hn_g4, hn_g8, e1, hv, ↓hlen, hn_g12, q8, q4, q8', q4'];with_reducible refine r _ _ ?_;clear r R)|apply wa8|(refine wd1 rfl fun R r=>?_;simp only[go_sem, hn_g4, hn_g8, e1, hv, ↓hlen, hn_g12, q8, q4, q8', q4'];with_reducible refine r _ _ ?_;clear r R)
          refine aw_store rfl rfl rfl rfl (by simp only[go_sem, hn_g4, hn_g8, e1, hv, ↓hlen, hn_g12, q8, q4, q8', q4']<;>rfl) (by simp only[go_sem, hn_g4, hn_g8, e1, hv, ↓hlen, hn_g12, q8, q4, q8', q4']<;>rfl) (by simp only[go_sem, hn_g4, hn_g8, e1, hv, ↓hlen, hn_g12, q8, q4, q8', q4']<;>rfl) (by simp only[go_sem, hn_g4, hn_g8, e1, hv, ↓hlen, hn_g12, q8, q4, q8', q4']<;>rfl) (fun _ e => by cases e) (by first | rfl | exact solid_gs3 | exact solid_gs2) (by rfl) (by first|omega|simp) rfl ?_
          (try simp only[go_sem, hn_g4, hn_g8, e1, hv, ↓hlen, hn_g12, q8, q4, q8', q4'])
          repeat first|apply wa1|apply wa2|apply wa3|apply wa4|apply wa5 rfl|apply wa6|apply wa7|(refine wb1 rfl fun R r=>?_;simp only[go_sem, hn_g4, hn_g8, e1, hv, ↓hlen, hn_g12, q8, q4, q8', q4'];with_reducible refine r _ _ ?_;clear r R)|apply wa8|(refine wd1 rfl fun R r=>?_;simp only[go_sem, hn_g4, hn_g8, e1, hv, ↓hlen, hn_g12, q8, q4, q8', q4'];with_reducible refine r _ _ ?_;clear r R)
          refine aw_keep [(8, .c (.optr g8 0)), (9, .c (.int .i64 (2 + i)))] ((g8, .cells 25 3 (ofL [is true o, gs (some g) 3 n3, .int .i64 rt])) :: gh (some g) 88 (n3 * 3) (dnsF B.1)) (by simp only[go_sem, hn_g4, hn_g8, e1, hv, ↓hlen, hn_g12, q8, q4, q8', q4']<;>and_intros<;>first|exact True.intro|(with_reducible rfl)|exact c_int (by omega)|rfl) (List.Sublist.cons _ (List.Sublist.cons_cons _ (List.Sublist.cons _ (List.Sublist.refl _)))) ?_
          refine aw_rethw (h' := gh (some g) 88 (n3 * 3) (dnsF B.1)) rfl (List.Sublist.cons _ (List.Sublist.refl _)) (fun R hR => ?_)
          simp only [go_sem, hn_g4, hn_g8, e1, hv, ↓hlen, hn_g12, q8, q4, q8', q4']
          refine hR _ rfl ?_
          clear hR R
          exact ⟨some g, n3, by rw [hA]; exact hn3, by omega, hog3, by rw [hA]; rfl, by rw [hA]; rfl⟩
        · rw [dn_beq] at h2
          have h2' := of_decide_eq_false h2
          repeat first|apply wa1|apply wa2|apply wa3|apply wa4|apply wa5 rfl|apply wa6|apply wa7|(refine wb1 rfl fun R r=>?_;simp only[go_sem, hn_g4, hn_g8, e1, hv, ↓hlen, hn_g12, q8, q4, q8', q4'];with_reducible refine r _ _ ?_;clear r R)
          exact aw_stop ⟨i + 1, by omega, (by simp only[go_sem, hn_g4, hn_g8, e1, hv, ↓hlen, hn_g12, q8, q4, q8', q4']<;>and_intros<;>first|exact True.intro|(with_reducible rfl)|exact c_int (by omega)|rfl), (List.Sublist.refl _), by omega, by rw [hf, findN_step (by omega), if_neg h2']⟩
      · have h1' : i = n3 := by have := of_decide_eq_false h1; omega
        subst h1'
        rw [hf, List.drop_eq_nil_of_le (by omega), findN] at hA
        dsimp only at hA
        repeat first|apply wa1|apply wa2|apply wa3|apply wa4|apply wa5 rfl|apply wa6|apply wa7|(refine wb1 rfl fun R r=>?_;simp only[go_sem, hn_g4, hn_g8, e1, hv, ↓hlen, hn_g12];with_reducible refine r _ _ ?_;clear r R)
        refine aw_push (pre := [(g12, .cells 88 3 (ofL [.int .i64 v, .int .i64 A.2, .int .i64 B.2])), (g8, AObj.cells 25 3 (ofL [.nils, .nils, .int .i64 0])), (g4, AObj.cells 25 3 (ofL [is true o, gs og3 3 i, .int .i64 rt]))]) rfl rfl rfl rfl rfl rfl rfl (by simp only[go_sem, hn_g4, hn_g8, e1, hv, ↓hlen, hn_g12]<;>rfl) (by simp only[go_sem, hn_g4, hn_g8, e1, hv, ↓hlen, hn_g12]<;>rfl) (by rfl) (by omega) (by omega) (by simp only[go_sem, hn_g4, hn_g8, e1, hv, ↓hlen, hn_g12]<;>rfl) (by omega) (by exact hog3) (by simp only[go_sem, hn_g4, hn_g8, e1, hv, ↓hlen, hn_g12]<;>rfl) (by rfl) (by rfl) (by first | rfl | simp only [Nat.mul_one, List.nil_append, List.cons_append] <;> rfl) (by unfold maxLen; omega) (by omega) (by exact lf_push hn3 ⟨v, A.2, B.2⟩ (by omega)) fun g hn_g => ?_
        replace hn_g := Heap.ne_of hn_g
        first | dsimp only [Heap.ne, gh] at hn_g | dsimp only [Heap.ne] at hn_g | skip
        (try simp only[go_sem, hn_g4, hn_g8, e1, hv, ↓hlen, hn_g12, hn_g])
        simp only [gs, gh]
        repeat first|apply wa1|apply wa2|apply wa3|apply wa4|apply wa5 rfl|apply wa6|apply wa7|(refine wb1 rfl fun R r=>?_;simp only[go_sem, hn_g4, hn_g8, e1, hv, ↓hlen, hn_g12, hn_g];with_reducible refine r _ _ ?_;clear r R)
        refine aw_store rfl rfl rfl rfl (by simp only[go_sem, hn_g4, hn_g8, e1, hv, ↓hlen, hn_g12, hn_g]<;>rfl) (by simp only[go_sem, hn_g4, hn_g8, e1, hv, ↓hlen, hn_g12, hn_g]<;>rfl) (by simp only[go_sem, hn_g4, hn_g8, e1, hv, ↓hlen, hn_g12, hn_g]<;>rfl) (by simp only[go_sem, hn_g4, hn_g8, e1, hv, ↓hlen, hn_g12, hn_g]<;>rfl) (fun _ e => by cases e) (by first | rfl | exact solid_gs3 | exact solid_gs2) (by rfl) (by first|omega|simp) rfl ?_
        (try simp only[go_sem, hn_g4, hn_g8, e1, hv, ↓hlen, hn_g12, hn_g])
        repeat first|apply wa7|(refine wb1 rfl fun R r=>?_;simp only[go_sem, hn_g4, hn_g8, e1, hv, ↓hlen, hn_g12, hn_g];with_reducible refine r _ _ ?_;clear r R)
        refine aw_seq ?_
        refine aw_cut (fun _ : Unit => [(8, .c (.optr g8 0)), (9, .c (.int .i64 (1 + ((i + 1 : Nat) : Int))))]) (fun _ => (g8, .cells 25 3 (ofL [is true o, .osl g 3 0 (i + 1), .int .i64 rt])) :: [(g, .cells 88 ((i + 1) * 3) (dnsF (B.1 ++ [⟨v, A.2, B.2⟩])))]) (fun _ => B.1.length = i) ?_ ?_
        · refine aw_drT 0 0 [0, 1, 2, 3, 4, 5, 6] ty_mixed (by kernel_rfl) ?_
          refine drk_nil ?_
          refine aw_ops_nil ?_
          refine aw_stop ?_
          refine awN_step [0, 1, 2, 3, 4, 5, 6] [0, 1] (by kernel_rfl) (by kernel_rfl) (by simp) (by rfl) ⟨⟨_, rfl, ?_⟩, ⟨_, rfl, ?_⟩, trivial⟩
          · repeat first|apply wa7|(refine wb1 rfl fun R r=>?_;simp only[go_sem, hn_g4, hn_g8, e1, hv, ↓hlen, hn_g12, hn_g];with_reducible refine r _ _ ?_;clear r R)
            refine aw_stop ?_
            refine awN_step [1, 2, 3, 4, 5, 6] [1, 5] (by kernel_rfl) (by kernel_rfl) (by simp) (by rfl) ⟨⟨_, rfl, ?_⟩, ⟨_, rfl, ?_⟩, trivial⟩
            · repeat first|apply wa7|(refine wb1 rfl fun R r=>?_;simp only[go_sem, hn_g4, hn_g8, e1, hv, ↓hlen, hn_g12, hn_g];with_reducible refine r _ _ ?_;clear r R)
              refine aw_stop ?_
              refine awN_step [2, 3, 4, 5, 6] [2, 5] (by kernel_rfl) (by kernel_rfl) (by simp) (by rfl) ⟨⟨_, rfl, ?_⟩, ⟨_, rfl, ?_⟩, trivial⟩
              · repeat first|apply wa7|(refine wb1 rfl fun R r=>?_;simp only[go_sem, hn_g4, hn_g8, e1, hv, ↓hlen, hn_g12, hn_g];with_reducible refine r _ _ ?_;clear r R)
                refine aw_stop ?_
                refine awN_step [3, 4, 5, 6] [3, 5] (by kernel_rfl) (by kernel_rfl) (by simp) (by rfl) ⟨⟨_, rfl, ?_⟩, ⟨_, rfl, ?_⟩, trivial⟩
                · repeat first|apply wa7|(refine wb1 rfl fun R r=>?_;simp only[go_sem, hn_g4, hn_g8, e1, hv, ↓hlen, hn_g12, hn_g];with_reducible refine r _ _ ?_;clear r R)
                  refine aw_stop ?_
                  refine awN_step [4, 5, 6] [4, 5] (by kernel_rfl) (by kernel_rfl) (by simp) (by rfl) ⟨⟨_, rfl, ?_⟩, ⟨_, rfl, ?_⟩, trivial⟩
                  · repeat first|apply wa7|(refine wb1 rfl fun R r=>?_;simp only[go_sem, hn_g4, hn_g8, e1, hv, ↓hlen, hn_g12, hn_g];with_reducible refine r _ _ ?_;clear r R)
                    refine aw_stop ?_
                    refine awN_step [5, 6] [5] (by kernel_rfl) (by kernel_rfl) (by simp) (by rfl) ⟨⟨_, rfl, ?_⟩, trivial⟩
                    refine aw_store rfl rfl rfl rfl (by simp only[go_sem, hn_g4, hn_g8, e1, hv, ↓hlen, hn_g12, hn_g]<;>rfl) (by simp only[go_sem, hn_g4, hn_g8, e1, hv, ↓hlen, hn_g12, hn_g]<;>rfl) (by simp only[go_sem, hn_g4, hn_g8, e1, hv, ↓hlen, hn_g12, hn_g]<;>rfl) (by simp only[go_sem, hn_g4, hn_g8, e1, hv, ↓hlen, hn_g12, hn_g]<;>rfl) (fun _ e => by cases e) (by first | rfl | exact solid_gs3 | exact solid_gs2) (by rfl) (by first|omega|simp) rfl ?_
                    (try simp only[go_sem, hn_g4, hn_g8, e1, hv, ↓hlen, hn_g12, hn_g])
                    repeat first|apply wa7|(refine wb1 rfl fun R r=>?_;simp only[go_sem, hn_g4, hn_g8, e1, hv, ↓hlen, hn_g12, hn_g];with_reducible refine r _ _ ?_;clear r R)
                    refine aw_stop ?_
                    refine awN_step [6] [6] (by kernel_rfl) (by kernel_rfl) (by simp) (by rfl) ⟨⟨_, rfl, ?_⟩, trivial⟩
                    repeat first|apply wa7|(refine wb1 rfl fun R r=>?_;simp only[go_sem, hn_g4, hn_g8, e1, hv, ↓hlen, hn_g12, hn_g];with_reducible refine r _ _ ?_;clear r R)
                    refine aw_stop ?_
                    refine awN_nil ?_
                    exact aw_stop ⟨(), (by simp only[go_sem, hn_g4, hn_g8, e1, hv, ↓hlen, hn_g12, hn_g]<;>and_intros<;>first|exact True.intro|(with_reducible rfl)|exact c_int (by omega)|rfl), List.Sublist.cons _ (List.Sublist.cons_cons _ (List.Sublist.cons _ (List.Sublist.refl _))), hn3⟩
                  · refine aw_store rfl rfl rfl rfl (by simp only[go_sem, hn_g4, hn_g8, e1, hv, ↓hlen, hn_g12, hn_g]<;>rfl) (by simp only[go_sem, hn_g4, hn_g8, e1, hv, ↓hlen, hn_g12, hn_g]<;>rfl) (by simp only[go_sem, hn_g4, hn_g8, e1, hv, ↓hlen, hn_g12, hn_g]<;>rfl) (by simp only[go_sem, hn_g4, hn_g8, e1, hv, ↓hlen, hn_g12, hn_g]<;>rfl) (fun _ e => by cases e) (by first | rfl | exact solid_gs3 | exact solid_gs2) (by rfl) (by first|omega|simp) rfl ?_
                    (try simp only[go_sem, hn_g4, hn_g8, e1, hv, ↓hlen, hn_g12, hn_g])
                    repeat first|apply wa7|(refine wb1 rfl fun R r=>?_;simp only[go_sem, hn_g4, hn_g8, e1, hv, ↓hlen, hn_g12, hn_g];with_reducible refine r _ _ ?_;clear r R)
                    refine aw_stop ?_
                    refine awN_step [4, 6] [4] (by kernel_rfl) (by kernel_rfl) (by simp) (by rfl) ⟨⟨_, rfl, ?_⟩, trivial⟩
                    repeat first|apply wa7|(refine wb1 rfl fun R r=>?_;simp only[go_sem, hn_g4, hn_g8, e1, hv, ↓hlen, hn_g12, hn_g];with_reducible refine r _ _ ?_;clear r R)
                    refine aw_stop ?_
                    refine awN_step [6] [6] (by kernel_rfl) (by kernel_rfl) (by simp) (by rfl) ⟨⟨_, rfl, ?_⟩, trivial⟩
                    repeat first|apply wa7|(refine wb1 rfl fun R r=>?_;simp only[go_sem, hn_g4, hn_g8, e1, hv, ↓hlen, hn_g12, hn_g];with_reducible refine r _ _ ?_;clear r R)
                    refine aw_stop ?_
                    refine awN_nil ?_
                    exact aw_stop ⟨(), (by simp only[go_sem, hn_g4, hn_g8, e1, hv, ↓hlen, hn_g12, hn_g]<;>and_intros<;>first|exact True.intro|(with_reducible rfl)|exact c_int (by omega)|rfl), List.Sublist.cons _ (List.Sublist.cons_cons _ (List.Sublist.cons _ (List.Sublist.refl _))), hn3⟩
                · refine aw_store rfl rfl rfl rfl (by simp only[go_sem, hn_g4, hn_g8, e1, hv, ↓hlen, hn_g12, hn_g]<;>rfl) (by simp only[go_sem, hn_g4, hn_g8, e1, hv, ↓hlen, hn_g12, hn_g]<;>rfl) (by simp only[go_sem, hn_g4, hn_g8, e1, hv, ↓hlen, hn_g12, hn_g]<;>rfl) (by simp only[go_sem, hn_g4, hn_g8, e1, hv, ↓hlen, hn_g12, hn_g]<;>rfl) (fun _ e => by cases e) (by first | rfl | exact solid_gs3 | exact solid_gs2) (by rfl) (by first|omega|simp) rfl ?_
                  (try simp only[go_sem, hn_g4, hn_g8, e1, hv, ↓hlen, hn_g12, hn_g])
                  repeat first|apply wa7|(refine wb1 rfl fun R r=>?_;simp only[go_sem, hn_g4, hn_g8, e1, hv, ↓hlen, hn_g12, hn_g];with_reducible refine r _ _ ?_;clear r R)
                  refine aw_stop ?_
                  refine awN_step [3, 4, 6] [3] (by kernel_rfl) (by kernel_rfl) (by simp) (by rfl) ⟨⟨_, rfl, ?_⟩, trivial⟩
                  repeat first|apply wa7|(refine wb1 rfl fun R r=>?_;simp only[go_sem, hn_g4, hn_g8, e1, hv, ↓hlen, hn_g12, hn_g];with_reducible refine r _ _ ?_;clear r R)
                  refine aw_stop ?_
                  refine awN_step [4, 6] [4] (by kernel_rfl) (by kernel_rfl) (by simp) (by rfl) ⟨⟨_, rfl, ?_⟩, trivial⟩
                  repeat first|apply wa7|(refine wb1 rfl fun R r=>?_;simp only[go_sem, hn_g4, hn_g8, e1, hv, ↓hlen, hn_g12, hn_g];with_reducible refine r _ _ ?_;clear r R)
                  refine aw_stop ?_
                  refine awN_step [6] [6] (by kernel_rfl) (by kernel_rfl) (by simp) (by rfl) ⟨⟨_, rfl, ?_⟩, trivial⟩
                  repeat first|apply wa7|(refine wb1 rfl fun R r=>?_;simp only[go_sem, hn_g4, hn_g8, e1, hv, ↓hlen, hn_g12, hn_g];with_reducible refine r _ _ ?_;clear r R)
                  refine aw_stop ?_
                  refine awN_nil ?_
                  exact aw_stop ⟨(), (by simp only[go_sem, hn_g4, hn_g8, e1, hv, ↓hlen, hn_g12, hn_g]<;>and_intros<;>first|exact True.intro|(with_reducible rfl)|exact c_int (by omega)|rfl), List.Sublist.cons _ (List.Sublist.cons_cons _ (List.Sublist.cons _ (List.Sublist.refl _))), hn3⟩
              · refine aw_store rfl rfl rfl rfl (by simp only[go_sem, hn_g4, hn_g8, e1, hv, ↓hlen, hn_g12, hn_g]<;>rfl) (by simp only[go_sem, hn_g4, hn_g8, e1, hv, ↓hlen, hn_g12, hn_g]<;>rfl) (by simp only[go_sem, hn_g4, hn_g8, e1, hv, ↓hlen, hn_g12, hn_g]<;>rfl) (by simp only[go_sem, hn_g4, hn_g8, e1, hv, ↓hlen, hn_g12, hn_g]<;>rfl) (fun _ e => by cases e) (by first | rfl | exact solid_gs3 | exact solid_gs2) (by rfl) (by first|omega|simp) rfl ?_
                (try simp only[go_sem, hn_g4, hn_g8, e1, hv, ↓hlen, hn_g12, hn_g])
                repeat first|apply wa7|(refine wb1 rfl fun R r=>?_;simp only[go_sem, hn_g4, hn_g8, e1, hv, ↓hlen, hn_g12, hn_g];with_reducible refine r _ _ ?_;clear r R)
                refine aw_stop ?_
                refine awN_step [2, 3, 4, 6] [2] (by kernel_rfl) (by kernel_rfl) (by simp) (by rfl) ⟨⟨_, rfl, ?_⟩, trivial⟩
                repeat first|apply wa7|(refine wb1 rfl fun R r=>?_;simp only[go_sem, hn_g4, hn_g8, e1, hv, ↓hlen, hn_g12, hn_g];with_reducible refine r _ _ ?_;clear r R)
                refine aw_stop ?_
                refine awN_step [3, 4, 6] [3] (by kernel_rfl) (by kernel_rfl) (by simp) (by rfl) ⟨⟨_, rfl, ?_⟩, trivial⟩
                repeat first|apply wa7|(refine wb1 rfl fun R r=>?_;simp only[go_sem, hn_g4, hn_g8, e1, hv, ↓hlen, hn_g12, hn_g];with_reducible refine r _ _ ?_;clear r R)
                refine aw_stop ?_
                refine awN_step [4, 6] [4] (by kernel_rfl) (by kernel_rfl) (by simp) (by rfl) ⟨⟨_, rfl, ?_⟩, trivial⟩
                repeat first|apply wa7|(refine wb1 rfl fun R r=>?_;simp only[go_sem, hn_g4, hn_g8, e1, hv, ↓hlen, hn_g12, hn_g];with_reducible refine r _ _ ?_;clear r R)
                refine aw_stop ?_
                refine awN_step [6] [6] (by kernel_rfl) (by kernel_rfl) (by simp) (by rfl) ⟨⟨_, rfl, ?_⟩, trivial⟩
                repeat first|apply wa7|(refine wb1 rfl fun R r=>?_;simp only[go_sem, hn_g4, hn_g8, e1, hv, ↓hlen, hn_g12, hn_g];with_reducible refine r _ _ ?_;clear r R)
                refine aw_stop ?_
                refine awN_nil ?_
                exact aw_stop ⟨(), (by simp only[go_sem, hn_g4, hn_g8, e1, hv, ↓hlen, hn_g12, hn_g]<;>and_intros<;>first|exact True.intro|(with_reducible rfl)|exact c_int (by omega)|rfl), List.Sublist.cons _ (List.Sublist.cons_cons _ (List.Sublist.cons _ (List.Sublist.refl _))), hn3⟩
            · refine aw_store rfl rfl rfl rfl (by simp only[go_sem, hn_g4, hn_g8, e1, hv, ↓hlen, hn_g12, hn_g]<;>rfl) (by simp only[go_sem, hn_g4, hn_g8, e1, hv, ↓hlen, hn_g12, hn_g]<;>rfl) (by simp only[go_sem, hn_g4, hn_g8, e1, hv, ↓hlen, hn_g12, hn_g]<;>rfl) (by simp only[go_sem, hn_g4, hn_g8, e1, hv, ↓hlen, hn_g12, hn_g]<;>rfl) (fun _ e => by cases e) (by first | rfl | exact solid_gs3 | exact solid_gs2) (by rfl) (by first|omega|simp) rfl ?_
              (try simp only[go_sem, hn_g4, hn_g8, e1, hv, ↓hlen, hn_g12, hn_g])
              repeat first|apply wa7|(refine wb1 rfl fun R r=>?_;simp only[go_sem, hn_g4, hn_g8, e1, hv, ↓hlen, hn_g12, hn_g];with_reducible refine r _ _ ?_;clear r R)
              refine aw_stop ?_
              refine awN_step [1, 2, 3, 4, 6] [1] (by kernel_rfl) (by kernel_rfl) (by simp) (by rfl) ⟨⟨_, rfl, ?_⟩, trivial⟩
              repeat first|apply wa7|(refine wb1 rfl fun R r=>?_;simp only[go_sem, hn_g4, hn_g8, e1, hv, ↓hlen, hn_g12, hn_g];with_reducible refine r _ _ ?_;clear r R)
              refine aw_stop ?_
              refine awN_step [2, 3, 4, 6] [2] (by kernel_rfl) (by kernel_rfl) (by simp) (by rfl) ⟨⟨_, rfl, ?_⟩, trivial⟩
              repeat first|apply wa7|(refine wb1 rfl fun R r=>?_;simp only[go_sem, hn_g4, hn_g8, e1, hv, ↓hlen, hn_g12, hn_g];with_reducible refine r _ _ ?_;clear r R)
              refine aw_stop ?_
              refine awN_step [3, 4, 6] [3] (by kernel_rfl) (by kernel_rfl) (by simp) (by rfl) ⟨⟨_, rfl, ?_⟩, trivial⟩
              repeat first|apply wa7|(refine wb1 rfl fun R r=>?_;simp only[go_sem, hn_g4, hn_g8, e1, hv, ↓hlen, hn_g12, hn_g];with_reducible refine r _ _ ?_;clear r R)
              refine aw_stop ?_
              refine awN_step [4, 6] [4] (by kernel_rfl) (by kernel_rfl) (by simp) (by rfl) ⟨⟨_, rfl, ?_⟩, trivial⟩
              repeat first|apply wa7|(refine wb1 rfl fun R r=>?_;simp only[go_sem, hn_g4, hn_g8, e1, hv, ↓hlen, hn_g12, hn_g];with_reducible refine r _ _ ?_;clear r R)
              refine aw_stop ?_
              refine awN_step [6] [6] (by kernel_rfl) (by kernel_rfl) (by simp) (by rfl) ⟨⟨_, rfl, ?_⟩, trivial⟩
              repeat first|apply wa7|(refine wb1 rfl fun R r=>?_;simp only[go_sem, hn_g4, hn_g8, e1, hv, ↓hlen, hn_g12, hn_g];with_reducible refine r _ _ ?_;clear r R)
              refine aw_stop ?_
              refine awN_nil ?_
              exact aw_stop ⟨(), (by simp only[go_sem, hn_g4, hn_g8, e1, hv, ↓hlen, hn_g12, hn_g]<;>and_intros<;>first|exact True.intro|(with_reducible rfl)|exact c_int (by omega)|rfl), List.Sublist.cons _ (List.Sublist.cons_cons _ (List.Sublist.cons _ (List.Sublist.refl _))), hn3⟩
          · repeat first|apply wa7|(refine wb1 rfl fun R r=>?_;simp only[go_sem, hn_g4, hn_g8, e1, hv, ↓hlen, hn_g12, hn_g];with_reducible refine r _ _ ?_;clear r R)
            refine aw_stop ?_
            refine awN_step [0, 2, 3, 4, 5, 6] [0, 2] (by kernel_rfl) (by kernel_rfl) (by simp) (by rfl) ⟨⟨_, rfl, ?_⟩, ⟨_, rfl, ?_⟩, trivial⟩
            · repeat first|apply wa7|(refine wb1 rfl fun R r=>?_;simp only[go_sem, hn_g4, hn_g8, e1, hv, ↓hlen, hn_g12, hn_g];with_reducible refine r _ _ ?_;clear r R)
              refine aw_stop ?_
              refine awN_step [2, 3, 4, 5, 6] [2, 5] (by kernel_rfl) (by kernel_rfl) (by simp) (by rfl) ⟨⟨_, rfl, ?_⟩, ⟨_, rfl, ?_⟩, trivial⟩
              · repeat first|apply wa7|(refine wb1 rfl fun R r=>?_;simp only[go_sem, hn_g4, hn_g8, e1, hv, ↓hlen, hn_g12, hn_g];with_reducible refine r _ _ ?_;clear r R)
                refine aw_stop ?_
                refine awN_step [3, 4, 5, 6] [3, 5] (by kernel_rfl) (by kernel_rfl) (by simp) (by rfl) ⟨⟨_, rfl, ?_⟩, ⟨_, rfl, ?_⟩, trivial⟩
                · repeat first|apply wa7|(refine wb1 rfl fun R r=>?_;simp only[go_sem, hn_g4, hn_g8, e1, hv, ↓hlen, hn_g12, hn_g];with_reducible refine r _ _ ?_;clear r R)
                  refine aw_stop ?_
                  refine awN_step [4, 5, 6] [4, 5] (by kernel_rfl) (by kernel_rfl) (by simp) (by rfl) ⟨⟨_, rfl, ?_⟩, ⟨_, rfl, ?_⟩, trivial⟩
                  · repeat first|apply wa7|(refine wb1 rfl fun R r=>?_;simp only[go_sem, hn_g4, hn_g8, e1, hv, ↓hlen, hn_g12, hn_g];with_reducible refine r _ _ ?_;clear r R)
                    refine aw_stop ?_
                    refine awN_step [5, 6] [5] (by kernel_rfl) (by kernel_rfl) (by simp) (by rfl) ⟨⟨_, rfl, ?_⟩, trivial⟩
                    refine aw_store rfl rfl rfl rfl (by simp only[go_sem, hn_g4, hn_g8, e1, hv, ↓hlen, hn_g12, hn_g]<;>rfl) (by simp only[go_sem, hn_g4, hn_g8, e1, hv, ↓hlen, hn_g12, hn_g]<;>rfl) (by simp only[go_sem, hn_g4, hn_g8, e1, hv, ↓hlen, hn_g12, hn_g]<;>rfl) (by simp only[go_sem, hn_g4, hn_g8, e1, hv, ↓hlen, hn_g12, hn_g]<;>rfl) (fun _ e => by cases e) (by first | rfl | exact solid_gs3 | exact solid_gs2) (by rfl) (by first|omega|simp) rfl ?_
                    (try simp only[go_sem, hn_g4, hn_g8, e1, hv, ↓hlen, hn_g12, hn_g])
                    repeat first|apply wa7|(refine wb1 rfl fun R r=>?_;simp only[go_sem, hn_g4, hn_g8, e1, hv, ↓hlen, hn_g12, hn_g];with_reducible refine r _ _ ?_;clear r R)
                    refine aw_stop ?_
                    refine awN_step [6] [6] (by kernel_rfl) (by kernel_rfl) (by simp) (by rfl) ⟨⟨_, rfl, ?_⟩, trivial⟩
                    repeat first|apply wa7|(refine wb1 rfl fun R r=>?_;simp only[go_sem, hn_g4, hn_g8, e1, hv, ↓hlen, hn_g12, hn_g];with_reducible refine r _ _ ?_;clear r R)
                    refine aw_stop ?_
                    refine awN_nil ?_
                    exact aw_stop ⟨(), (by simp only[go_sem, hn_g4, hn_g8, e1, hv, ↓hlen, hn_g12, hn_g]<;>and_intros<;>first|exact True.intro|(with_reducible rfl)|exact c_int (by omega)|rfl), List.Sublist.cons _ (List.Sublist.cons_cons _ (List.Sublist.cons _ (List.Sublist.refl _))), hn3⟩
                  · refine aw_store rfl rfl rfl rfl (by simp only[go_sem, hn_g4, hn_g8, e1, hv, ↓hlen, hn_g12, hn_g]<;>rfl) (by simp only[go_sem, hn_g4, hn_g8, e1, hv, ↓hlen, hn_g12, hn_g]<;>rfl) (by simp only[go_sem, hn_g4, hn_g8, e1, hv, ↓hlen, hn_g12, hn_g]<;>rfl) (by simp only[go_sem, hn_g4, hn_g8, e1, hv, ↓hlen, hn_g12, hn_g]<;>rfl) (fun _ e => by cases e) (by first | rfl | exact solid_gs3 | exact solid_gs2) (by rfl) (by first|omega|simp) rfl ?_
                    (try simp only[go_sem, hn_g4, hn_g8, e1, hv, ↓hlen, hn_g12, hn_g])
                    repeat first|apply wa7|(refine wb1 rfl fun R r=>?_;simp only[go_sem, hn_g4, hn_g8, e1, hv, ↓hlen, hn_g12, hn_g];with_reducible refine r _ _ ?_;clear r R)
                    refine aw_stop ?_
                    refine awN_step [4, 6] [4] (by kernel_rfl) (by kernel_rfl) (by simp) (by rfl) ⟨⟨_, rfl, ?_⟩, trivial⟩
                    repeat first|apply wa7|(refine wb1 rfl fun R r=>?_;simp only[go_sem, hn_g4, hn_g8, e1, hv, ↓hlen, hn_g12, hn_g];with_reducible refine r _ _ ?_;clear r R)
                    refine aw_stop ?_
                    refine awN_step [6] [6] (by kernel_rfl) (by kernel_rfl) (by simp) (by rfl) ⟨⟨_, rfl, ?_⟩, trivial⟩
                    repeat first|apply wa7|(refine wb1 rfl fun R r=>?_;simp only[go_sem, hn_g4, hn_g8, e1, hv, ↓hlen, hn_g12, hn_g];with_reducible refine r _ _ ?_;clear r R)
                    refine aw_stop ?_
                    refine awN_nil ?_
                    exact aw_stop ⟨(), (by simp only[go_sem, hn_g4, hn_g8, e1, hv, ↓hlen, hn_g12, hn_g]<;>and_intros<;>first|exact True.intro|(with_reducible rfl)|exact c_int (by omega)|rfl), List.Sublist.cons _ (List.Sublist.cons_cons _ (List.Sublist.cons _ (List.Sublist.refl _))), hn3⟩
                · refine aw_store rfl rfl rfl rfl (by simp only[go_sem, hn_g4, hn_g8, e1, hv, ↓hlen, hn_g12, hn_g]<;>rfl) (by simp only[go_sem, hn_g4, hn_g8, e1, hv, ↓hlen, hn_g12, hn_g]<;>rfl) (by simp only[go_sem, hn_g4, hn_g8, e1, hv, ↓hlen, hn_g12, hn_g]<;>rfl) (by simp only[go_sem, hn_g4, hn_g8, e1, hv, ↓hlen, hn_g12, hn_g]<;>rfl) (fun _ e => by cases e) (by first | rfl | exact solid_gs3 | exact solid_gs2) (by rfl) (by first|omega|simp) rfl ?_
                  (try simp only[go_sem, hn_g4, hn_g8, e1, hv, ↓hlen, hn_g12, hn_g])
                  repeat first|apply wa7|(refine wb1 rfl fun R r=>?_;simp only[go_sem, hn_g4, hn_g8, e1, hv, ↓hlen, hn_g12, hn_g];with_reducible refine r _ _ ?_;clear r R)
                  refine aw_stop ?_
                  refine awN_step [3, 4, 6] [3] (by kernel_rfl) (by kernel_rfl) (by simp) (by rfl) ⟨⟨_, rfl, ?_⟩, trivial⟩
                  repeat first|apply wa7|(refine wb1 rfl fun R r=>?_;simp only[go_sem, hn_g4, hn_g8, e1, hv, ↓hlen, hn_g12, hn_g];with_reducible refine r _ _ ?_;clear r R)
                  refine aw_stop ?_
                  refine awN_step [4, 6] [4] (by kernel_rfl) (by kernel_rfl) (by simp) (by rfl) ⟨⟨_, rfl, ?_⟩, trivial⟩
                  repeat first|apply wa7|(refine wb1 rfl fun R r=>?_;simp only[go_sem, hn_g4, hn_g8, e1, hv, ↓hlen, hn_g12, hn_g];with_reducible refine r _ _ ?_;clear r R)
                  refine aw_stop ?_
                  refine awN_step [6] [6] (by kernel_rfl) (by kernel_rfl) (by simp) (by rfl) ⟨⟨_, rfl, ?_⟩, trivial⟩
                  repeat first|apply wa7|(refine wb1 rfl fun R r=>?_;simp only[go_sem, hn_g4, hn_g8, e1, hv, ↓hlen, hn_g12, hn_g];with_reducible refine r _ _ ?_;clear r R)
                  refine aw_stop ?_
                  refine awN_nil ?_
                  exact aw_stop ⟨(), (by simp only[go_sem, hn_g4, hn_g8, e1, hv, ↓hlen, hn_g12, hn_g]<;>and_intros<;>first|exact True.intro|(with_reducible rfl)|exact c_int (by omega)|rfl), List.Sublist.cons _ (List.Sublist.cons_cons _ (List.Sublist.cons _ (List.Sublist.refl _))), hn3⟩
              · refine aw_store rfl rfl rfl rfl (by simp only[go_sem, hn_g4, hn_g8, e1, hv, ↓hlen, hn_g12, hn_g]<;>rfl) (by simp only[go_sem, hn_g4, hn_g8, e1, hv, ↓hlen, hn_g12, hn_g]<;>rfl) (by simp only[go_sem, hn_g4, hn_g8, e1, hv, ↓hlen, hn_g12, hn_g]<;>rfl) (by simp only[go_sem, hn_g4, hn_g8, e1, hv, ↓hlen, hn_g12, hn_g]<;>rfl) (fun _ e => by cases e) (by first | rfl | exact solid_gs3 | exact solid_gs2) (by rfl) (by first|omega|simp) rfl ?_
                (try simp only[go_sem, hn_g4, hn_g8, e1, hv, ↓hlen, hn_g12, hn_g])
                repeat first|apply wa7|(refine wb1 rfl fun R r=>?_;simp only[go_sem, hn_g4, hn_g8, e1, hv, ↓hlen, hn_g12, hn_g];with_reducible refine r _ _ ?_;clear r R)
                refine aw_stop ?_
                refine awN_step [2, 3, 4, 6] [2] (by kernel_rfl) (by kernel_rfl) (by simp) (by rfl) ⟨⟨_, rfl, ?_⟩, trivial⟩
                repeat first|apply wa7|(refine wb1 rfl fun R r=>?_;simp only[go_sem, hn_g4, hn_g8, e1, hv, ↓hlen, hn_g12, hn_g];with_reducible refine r _ _ ?_;clear r R)
                refine aw_stop ?_
                refine awN_step [3, 4, 6] [3] (by kernel_rfl) (by kernel_rfl) (by simp) (by rfl) ⟨⟨_, rfl, ?_⟩, trivial⟩
                repeat first|apply wa7|(refine wb1 rfl fun R r=>?_;simp only[go_sem, hn_g4, hn_g8, e1, hv, ↓hlen, hn_g12, hn_g];with_reducible refine r _ _ ?_;clear r R)
                refine aw_stop ?_
                refine awN_step [4, 6] [4] (by kernel_rfl) (by kernel_rfl) (by simp) (by rfl) ⟨⟨_, rfl, ?_⟩, trivial⟩
                repeat first|apply wa7|(refine wb1 rfl fun R r=>?_;simp only[go_sem, hn_g4, hn_g8, e1, hv, ↓hlen, hn_g12, hn_g];with_reducible refine r _ _ ?_;clear r R)
                refine aw_stop ?_
                refine awN_step [6] [6] (by kernel_rfl) (by kernel_rfl) (by simp) (by rfl) ⟨⟨_, rfl, ?_⟩, trivial⟩
                repeat first|apply wa7|(refine wb1 rfl fun R r=>?_;simp only[go_sem, hn_g4, hn_g8, e1, hv, ↓hlen, hn_g12, hn_g];with_reducible refine r _ _ ?_;clear r R)
                refine aw_stop ?_
                refine awN_nil ?_
                exact aw_stop ⟨(), (by simp only[go_sem, hn_g4, hn_g8, e1, hv, ↓hlen, hn_g12, hn_g]<;>and_intros<;>first|exact True.intro|(with_reducible rfl)|exact c_int (by omega)|rfl), List.Sublist.cons _ (List.Sublist.cons_cons _ (List.Sublist.cons _ (List.Sublist.refl _))), hn3⟩
            · repeat first|apply wa7|(refine wb1 rfl fun R r=>?_;simp only[go_sem, hn_g4, hn_g8, e1, hv, ↓hlen, hn_g12, hn_g];with_reducible refine r _ _ ?_;clear r R)
              refine aw_stop ?_
              refine awN_step [0, 3, 4, 5, 6] [0, 3] (by kernel_rfl) (by kernel_rfl) (by simp) (by rfl) ⟨⟨_, rfl, ?_⟩, ⟨_, rfl, ?_⟩, trivial⟩
              · repeat first|apply wa7|(refine wb1 rfl fun R r=>?_;simp only[go_sem, hn_g4, hn_g8, e1, hv, ↓hlen, hn_g12, hn_g];with_reducible refine r _ _ ?_;clear r R)
                refine aw_stop ?_
                refine awN_step [3, 4, 5, 6] [3, 5] (by kernel_rfl) (by kernel_rfl) (by simp) (by rfl) ⟨⟨_, rfl, ?_⟩, ⟨_, rfl, ?_⟩, trivial⟩
                · repeat first|apply wa7|(refine wb1 rfl fun R r=>?_;simp only[go_sem, hn_g4, hn_g8, e1, hv, ↓hlen, hn_g12, hn_g];with_reducible refine r _ _ ?_;clear r R)
                  refine aw_stop ?_
                  refine awN_step [4, 5, 6] [4, 5] (by kernel_rfl) (by kernel_rfl) (by simp) (by rfl) ⟨⟨_, rfl, ?_⟩, ⟨_, rfl, ?_⟩, trivial⟩
                  · repeat first|apply wa7|(refine wb1 rfl fun R r=>?_;simp only[go_sem, hn_g4, hn_g8, e1, hv, ↓hlen, hn_g12, hn_g];with_reducible refine r _ _ ?_;clear r R)
                    refine aw_stop ?_
                    refine awN_step [5, 6] [5] (by kernel_rfl) (by kernel_rfl) (by simp) (by rfl) ⟨⟨_, rfl, ?_⟩, trivial⟩
                    refine aw_store rfl rfl rfl rfl (by simp only[go_sem, hn_g4, hn_g8, e1, hv, ↓hlen, hn_g12, hn_g]<;>rfl) (by simp only[go_sem, hn_g4, hn_g8, e1, hv, ↓hlen, hn_g12, hn_g]<;>rfl) (by simp only[go_sem, hn_g4, hn_g8, e1, hv, ↓hlen, hn_g12, hn_g]<;>rfl) (by simp only[go_sem, hn_g4, hn_g8, e1, hv, ↓hlen, hn_g12, hn_g]<;>rfl) (fun _ e => by cases e) (by first | rfl | exact solid_gs3 | exact solid_gs2) (by rfl) (by first|omega|simp) rfl ?_
                    (try simp only[go_sem, hn_g4, hn_g8, e1, hv, ↓hlen, hn_g12, hn_g])
                    repeat first|apply wa7|(refine wb1 rfl fun R r=>?_;simp only[go_sem, hn_g4, hn_g8, e1, hv, ↓hlen, hn_g12, hn_g];with_reducible refine r _ _ ?_;clear r R)
                    refine aw_stop ?_
                    refine awN_step [6] [6] (by kernel_rfl) (by kernel_rfl) (by simp) (by rfl) ⟨⟨_, rfl, ?_⟩, trivial⟩
                    repeat first|apply wa7|(refine wb1 rfl fun R r=>?_;simp only[go_sem, hn_g4, hn_g8, e1, hv, ↓hlen, hn_g12, hn_g];with_reducible refine r _ _ ?_;clear r R)
                    refine aw_stop ?_
                    refine awN_nil ?_
                    exact aw_stop ⟨(), (by simp only[go_sem, hn_g4, hn_g8, e1, hv, ↓hlen, hn_g12, hn_g]<;>and_intros<;>first|exact True.intro|(with_reducible rfl)|exact c_int (by omega)|rfl), List.Sublist.cons _ (List.Sublist.cons_cons _ (List.Sublist.cons _ (List.Sublist.refl _))), hn3⟩
                  · refine aw_store rfl rfl rfl rfl (by simp only[go_sem, hn_g4, hn_g8, e1, hv, ↓hlen, hn_g12, hn_g]<;>rfl) (by simp only[go_sem, hn_g4, hn_g8, e1, hv, ↓hlen, hn_g12, hn_g]<;>rfl) (by simp only[go_sem, hn_g4, hn_g8, e1, hv, ↓hlen, hn_g12, hn_g]<;>rfl) (by simp only[go_sem, hn_g4, hn_g8, e1, hv, ↓hlen, hn_g12, hn_g]<;>rfl) (fun _ e => by cases e) (by first | rfl | exact solid_gs3 | exact solid_gs2) (by rfl) (by first|omega|simp) rfl ?_
                    (try simp only[go_sem, hn_g4, hn_g8, e1, hv, ↓hlen, hn_g12, hn_g])
                    repeat first|apply wa7|(refine wb1 rfl fun R r=>?_;simp only[go_sem, hn_g4, hn_g8, e1, hv, ↓hlen, hn_g12, hn_g];with_reducible refine r _ _ ?_;clear r R)
                    refine aw_stop ?_
                    refine awN_step [4, 6] [4] (by kernel_rfl) (by kernel_rfl) (by simp) (by rfl) ⟨⟨_, rfl, ?_⟩, trivial⟩
                    repeat first|apply wa7|(refine wb1 rfl fun R r=>?_;simp only[go_sem, hn_g4, hn_g8, e1, hv, ↓hlen, hn_g12, hn_g];with_reducible refine r _ _ ?_;clear r R)
                    refine aw_stop ?_
                    refine awN_step [6] [6] (by kernel_rfl) (by kernel_rfl) (by simp) (by rfl) ⟨⟨_, rfl, ?_⟩, trivial⟩
                    repeat first|apply wa7|(refine wb1 rfl fun R r=>?_;simp only[go_sem, hn_g4, hn_g8, e1, hv, ↓hlen, hn_g12, hn_g];with_reducible refine r _ _ ?_;clear r R)
                    refine aw_stop ?_
                    refine awN_nil ?_
                    exact aw_stop ⟨(), (by simp only[go_sem, hn_g4, hn_g8, e1, hv, ↓hlen, hn_g12, hn_g]<;>and_intros<;>first|exact True.intro|(with_reducible rfl)|exact c_int (by omega)|rfl), List.Sublist.cons _ (List.Sublist.cons_cons _ (List.Sublist.cons _ (List.Sublist.refl _))), hn3⟩
                · refine aw_store rfl rfl rfl rfl (by simp only[go_sem, hn_g4, hn_g8, e1, hv, ↓hlen, hn_g12, hn_g]<;>rfl) (by simp only[go_sem, hn_g4, hn_g8, e1, hv, ↓hlen, hn_g12, hn_g]<;>rfl) (by simp only[go_sem, hn_g4, hn_g8, e1, hv, ↓hlen, hn_g12, hn_g]<;>rfl) (by simp only[go_sem, hn_g4, hn_g8, e1, hv, ↓hlen, hn_g12, hn_g]<;>rfl) (fun _ e => by cases e) (by first | rfl | exact solid_gs3 | exact solid_gs2) (by rfl) (by first|omega|simp) rfl ?_
                  (try simp only[go_sem, hn_g4, hn_g8, e1, hv, ↓hlen, hn_g12, hn_g])
                  repeat first|apply wa7|(refine wb1 rfl fun R r=>?_;simp only[go_sem, hn_g4, hn_g8, e1, hv, ↓hlen, hn_g12, hn_g];with_reducible refine r _ _ ?_;clear r R)
                  refine aw_stop ?_
                  refine awN_step [3, 4, 6] [3] (by kernel_rfl) (by kernel_rfl) (by simp) (by rfl) ⟨⟨_, rfl, ?_⟩, trivial⟩
                  repeat first|apply wa7|(refine wb1 rfl fun R r=>?_;simp only[go_sem, hn_g4, hn_g8, e1, hv, ↓hlen, hn_g12, hn_g];with_reducible refine r _ _ ?_;clear r R)
                  refine aw_stop ?_
                  refine awN_step [4, 6] [4] (by kernel_rfl) (by kernel_rfl) (by simp) (by rfl) ⟨⟨_, rfl, ?_⟩, trivial⟩
                  repeat first|apply wa7|(refine wb1 rfl fun R r=>?_;simp only[go_sem, hn_g4, hn_g8, e1, hv, ↓hlen, hn_g12, hn_g];with_reducible refine r _ _ ?_;clear r R)
                  refine aw_stop ?_
                  refine awN_step [6] [6] (by kernel_rfl) (by kernel_rfl) (by simp) (by rfl) ⟨⟨_, rfl, ?_⟩, trivial⟩
                  repeat first|apply wa7|(refine wb1 rfl fun R r=>?_;simp only[go_sem, hn_g4, hn_g8, e1, hv, ↓hlen, hn_g12, hn_g];with_reducible refine r _ _ ?_;clear r R)
                  refine aw_stop ?_
                  refine awN_nil ?_
                  exact aw_stop ⟨(), (by simp only[go_sem, hn_g4, hn_g8, e1, hv, ↓hlen, hn_g12, hn_g]<;>and_intros<;>first|exact True.intro|(with_reducible rfl)|exact c_int (by omega)|rfl), List.Sublist.cons _ (List.Sublist.cons_cons _ (List.Sublist.cons _ (List.Sublist.refl _))), hn3⟩
              · repeat first|apply wa7|(refine wb1 rfl fun R r=>?_;simp only[go_sem, hn_g4, hn_g8, e1, hv, ↓hlen, hn_g12, hn_g];with_reducible refine r _ _ ?_;clear r R)
                refine aw_stop ?_
                refine awN_step [0, 4, 5, 6] [0, 4] (by kernel_rfl) (by kernel_rfl) (by simp) (by rfl) ⟨⟨_, rfl, ?_⟩, ⟨_, rfl, ?_⟩, trivial⟩
                · repeat first|apply wa7|(refine wb1 rfl fun R r=>?_;simp only[go_sem, hn_g4, hn_g8, e1, hv, ↓hlen, hn_g12, hn_g];with_reducible refine r _ _ ?_;clear r R)
                  refine aw_stop ?_
                  refine awN_step [4, 5, 6] [4, 5] (by kernel_rfl) (by kernel_rfl) (by simp) (by rfl) ⟨⟨_, rfl, ?_⟩, ⟨_, rfl, ?_⟩, trivial⟩
                  · repeat first|apply wa7|(refine wb1 rfl fun R r=>?_;simp only[go_sem, hn_g4, hn_g8, e1, hv, ↓hlen, hn_g12, hn_g];with_reducible refine r _ _ ?_;clear r R)
                    refine aw_stop ?_
                    refine awN_step [5, 6] [5] (by kernel_rfl) (by kernel_rfl) (by simp) (by rfl) ⟨⟨_, rfl, ?_⟩, trivial⟩
                    refine aw_store rfl rfl rfl rfl (by simp only[go_sem, hn_g4, hn_g8, e1, hv, ↓hlen, hn_g12, hn_g]<;>rfl) (by simp only[go_sem, hn_g4, hn_g8, e1, hv, ↓hlen, hn_g12, hn_g]<;>rfl) (by simp only[go_sem, hn_g4, hn_g8, e1, hv, ↓hlen, hn_g12, hn_g]<;>rfl) (by simp only[go_sem, hn_g4, hn_g8, e1, hv, ↓hlen, hn_g12, hn_g]<;>rfl) (fun _ e => by cases e) (by first | rfl | exact solid_gs3 | exact solid_gs2) (by rfl) (by first|omega|simp) rfl ?_
                    (try simp only[go_sem, hn_g4, hn_g8, e1, hv, ↓hlen, hn_g12, hn_g])
                    repeat first|apply wa7|(refine wb1 rfl fun R r=>?_;simp only[go_sem, hn_g4, hn_g8, e1, hv, ↓hlen, hn_g12, hn_g];with_reducible refine r _ _ ?_;clear r R)
                    refine aw_stop ?_
                    refine awN_step [6] [6] (by kernel_rfl) (by kernel_rfl) (by simp) (by rfl) ⟨⟨_, rfl, ?_⟩, trivial⟩
                    repeat first|apply wa7|(refine wb1 rfl fun R r=>?_;simp only[go_sem, hn_g4, hn_g8, e1, hv, ↓hlen, hn_g12, hn_g];with_reducible refine r _ _ ?_;clear r R)
                    refine aw_stop ?_
                    refine awN_nil ?_
                    exact aw_stop ⟨(), (by simp only[go_sem, hn_g4, hn_g8, e1, hv, ↓hlen, hn_g12, hn_g]<;>and_intros<;>first|exact True.intro|(with_reducible rfl)|exact c_int (by omega)|rfl), List.Sublist.cons _ (List.Sublist.cons_cons _ (List.Sublist.cons _ (List.Sublist.refl _))), hn3⟩
                  · refine aw_store rfl rfl rfl rfl (by simp only[go_sem, hn_g4, hn_g8, e1, hv, ↓hlen, hn_g12, hn_g]<;>rfl) (by simp only[go_sem, hn_g4, hn_g8, e1, hv, ↓hlen, hn_g12, hn_g]<;>rfl) (by simp only[go_sem, hn_g4, hn_g8, e1, hv, ↓hlen, hn_g12, hn_g]<;>rfl) (by simp only[go_sem, hn_g4, hn_g8, e1, hv, ↓hlen, hn_g12, hn_g]<;>rfl) (fun _ e => by cases e) (by first | rfl | exact solid_gs3 | exact solid_gs2) (by rfl) (by first|omega|simp) rfl ?_
                    (try simp only[go_sem, hn_g4, hn_g8, e1, hv, ↓hlen, hn_g12, hn_g])
                    repeat first|apply wa7|(refine wb1 rfl fun R r=>?_;simp only[go_sem, hn_g4, hn_g8, e1, hv, ↓hlen, hn_g12, hn_g];with_reducible refine r _ _ ?_;clear r R)
                    refine aw_stop ?_
                    refine awN_step [4, 6] [4] (by kernel_rfl) (by kernel_rfl) (by simp) (by rfl) ⟨⟨_, rfl, ?_⟩, trivial⟩
                    repeat first|apply wa7|(refine wb1 rfl fun R r=>?_;simp only[go_sem, hn_g4, hn_g8, e1, hv, ↓hlen, hn_g12, hn_g];with_reducible refine r _ _ ?_;clear r R)
                    refine aw_stop ?_
                    refine awN_step [6] [6] (by kernel_rfl) (by kernel_rfl) (by simp) (by rfl) ⟨⟨_, rfl, ?_⟩, trivial⟩
                    repeat first|apply wa7|(refine wb1 rfl fun R r=>?_;simp only[go_sem, hn_g4, hn_g8, e1, hv, ↓hlen, hn_g12, hn_g];with_reducible refine r _ _ ?_;clear r R)
                    refine aw_stop ?_
                    refine awN_nil ?_
                    exact aw_stop ⟨(), (by simp only[go_sem, hn_g4, hn_g8, e1, hv, ↓hlen, hn_g12, hn_g]<;>and_intros<;>first|exact True.intro|(with_reducible rfl)|exact c_int (by omega)|rfl), List.Sublist.cons _ (List.Sublist.cons_cons _ (List.Sublist.cons _ (List.Sublist.refl _))), hn3⟩
                · repeat first|apply wa7|(refine wb1 rfl fun R r=>?_;simp only[go_sem, hn_g4, hn_g8, e1, hv, ↓hlen, hn_g12, hn_g];with_reducible refine r _ _ ?_;clear r R)
                  refine aw_stop ?_
                  refine awN_step [0, 5, 6] [0] (by kernel_rfl) (by kernel_rfl) (by simp) (by rfl) ⟨⟨_, rfl, ?_⟩, trivial⟩
                  repeat first|apply wa7|(refine wb1 rfl fun R r=>?_;simp only[go_sem, hn_g4, hn_g8, e1, hv, ↓hlen, hn_g12, hn_g];with_reducible refine r _ _ ?_;clear r R)
                  refine aw_stop ?_
                  refine awN_step [5, 6] [5] (by kernel_rfl) (by kernel_rfl) (by simp) (by rfl) ⟨⟨_, rfl, ?_⟩, trivial⟩
                  refine aw_store rfl rfl rfl rfl (by simp only[go_sem, hn_g4, hn_g8, e1, hv, ↓hlen, hn_g12, hn_g]<;>rfl) (by simp only[go_sem, hn_g4, hn_g8, e1, hv, ↓hlen, hn_g12, hn_g]<;>rfl) (by simp only[go_sem, hn_g4, hn_g8, e1, hv, ↓hlen, hn_g12, hn_g]<;>rfl) (by simp only[go_sem, hn_g4, hn_g8, e1, hv, ↓hlen, hn_g12, hn_g]<;>rfl) (fun _ e => by cases e) (by first | rfl | exact solid_gs3 | exact solid_gs2) (by rfl) (by first|omega|simp) rfl ?_
                  (try simp only[go_sem, hn_g4, hn_g8, e1, hv, ↓hlen, hn_g12, hn_g])
                  repeat first|apply wa7|(refine wb1 rfl fun R r=>?_;simp only[go_sem, hn_g4, hn_g8, e1, hv, ↓hlen, hn_g12, hn_g];with_reducible refine r _ _ ?_;clear r R)
                  refine aw_stop ?_
                  refine awN_step [6] [6] (by kernel_rfl) (by kernel_rfl) (by simp) (by rfl) ⟨⟨_, rfl, ?_⟩, trivial⟩
                  repeat first|apply wa7|(refine wb1 rfl fun R r=>?_;simp only[go_sem, hn_g4, hn_g8, e1, hv, ↓hlen, hn_g12, hn_g];with_reducible refine r _ _ ?_;clear r R)
                  refine aw_stop ?_
                  refine awN_nil ?_
                  exact aw_stop ⟨(), (by simp only[go_sem, hn_g4, hn_g8, e1, hv, ↓hlen, hn_g12, hn_g]<;>and_intros<;>first|exact True.intro|(with_reducible rfl)|exact c_int (by omega)|rfl), List.Sublist.cons _ (List.Sublist.cons_cons _ (List.Sublist.cons _ (List.Sublist.refl _))), hn3⟩
        rintro _ _
        refine aw_keep [(8, .c (.optr g8 0)), (9, .c (.int .i64 (1 + ((i + 1 : Nat) : Int))))] ((g8, .cells 25 3 (ofL [is true o, gs (some g) 3 (i + 1), .int .i64 rt])) :: gh (some g) 88 ((i + 1) * 3) (dnsF (B.1 ++ [⟨v, A.2, B.2⟩]))) (by simp only[go_sem, hn_g4, hn_g8, e1, hv, ↓hlen, hn_g12, hn_g]<;>and_intros<;>first|exact True.intro|(with_reducible rfl)|exact c_int (by omega)|rfl) (List.Sublist.refl _) ?_
        refine aw_rethw (h' := gh (some g) 88 ((i + 1) * 3) (dnsF (B.1 ++ [⟨v, A.2, B.2⟩]))) rfl (List.Sublist.cons _ (List.Sublist.refl _)) (fun R hR => ?_)
        simp only [go_sem, hn_g4, hn_g8, e1, hv, ↓hlen, hn_g12, hn_g]
        refine hR _ rfl ?_
        clear hR R
        exact ⟨some g, i + 1, by rw [hA]; simp [hn3], by omega, some_ne, by rw [hA, hn3]; rfl, by rw [hA]; rfl⟩
end Go.Proofs.YtcoflhkcpnoaaaaGreat
namespace Go.PN
open Go.AI
abbrev exF : FM := ⟨3, [⟨4, 2, [0, 1, 2]⟩], 3⟩
abbrev exT : List Bool := [false, false, false, true, false, true, true, true]
abbrev exD : DG := ⟨[0, 1, 2], [⟨2, 0, 1⟩, ⟨1, 0, 2⟩, ⟨1, 2, 1⟩, ⟨0, 3, 4⟩], 5⟩
theorem exF_ok : FmOk exF := ⟨by decide, by decide, by decide, by
  intro x hx
  simp only [List.mem_singleton] at hx
  subst hx
  exact ⟨by simp, by
    intro y hy
    simp only [List.mem_cons, List.not_mem_nil, or_false] at hy
    rcases hy with rfl | rfl | rfl <;> simp⟩, by decide, by simp⟩
theorem exF_val (k : Nat) : formTo.fvalB' exF k = decide (2 ≤ (([0, 1, 2] : List Int).filter fun a => k.testBit a.toNat).length) := by
  have e : fvTo exF k 1 = [nodeB exF [false] k ⟨4, 2, [0, 1, 2]⟩] := rfl
  unfold formTo.fvalB'
  show ofB exF (fvTo exF k 1) k 3 = _
  rw [e]
  unfold ofB
  rw [if_neg (by decide)]
  show nodeB exF [false] k ⟨4, 2, [0, 1, 2]⟩ = _
  unfold nodeB
  rw [if_neg (by decide), if_neg (by decide), if_neg (by decide), if_neg (by decide), if_pos (by decide)]
  have hc : cntB exF [false] k [0, 1, 2] = (([0, 1, 2] : List Int).filter fun a => k.testBit a.toNat).length := by
    unfold cntB
    congr 1
  rw [hc]
  show decide (((([0, 1, 2] : List Int).filter fun a => k.testBit a.toNat).length : Int) ≥ 2) = _
  congr 1
  simp only [ge_iff_le, eq_iff_iff]
  omega
theorem exT_eq : formTo exF (2 ^ exF.vars.toNat) = exT := by
  show formTo exF 8 = exT
  simp only [formTo, exF_val]
  decide
theorem exD_eq : addF [0, 1, 2] exT 3 0 0 [] = (exD.nodes, exD.root) := by decide +kernel
theorem exD_code : dcode exD = 0 := by decide +kernel
end Go.PN
