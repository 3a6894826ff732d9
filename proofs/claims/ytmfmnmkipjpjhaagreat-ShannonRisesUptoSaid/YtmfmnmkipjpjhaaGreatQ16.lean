/- Texts of one proof, laid one behind the other by a program (merge.py): Ord, Dia1, Dia2, Dia3, Shan3. -/
import Derived.Test.YtmfmnmkipjpjhaaGreatQ14
import Derived.Test.YtmfmnmkipjpjhaaGreatQ15
set_option linter.unusedSimpArgs false
set_option linter.unusedVariables false
/- faultlineref14: Place, Check; order: Check, places, Positions. -/
namespace Go.AI
open Go.PN
theorem updF_is {zs : List Int} {i : Nat} {v : Int} (hi : i < zs.length) : updF (isF zs) i [.int .i64 v] = isF (zs.set i v) := by
  funext j
  simp only [updF]
  by_cases e : j = i
  · subst e; simp [hi, isF]
  · rw [if_neg e]
    show CV.int .i64 (zs.getD j 0) = CV.int .i64 ((zs.set i v).getD j 0)
    rw [List.getD_eq_getElem?_getD, List.getD_eq_getElem?_getD, List.getElem?_set_ne (fun h => e h.symm)]
theorem updF_bs {zs : List Bool} {i : Nat} {v : Bool} (hi : i < zs.length) : updF (bsF zs) i [.bool v] = bsF (zs.set i v) := by
  funext j
  simp only [updF]
  by_cases e : j = i
  · subst e; simp [hi, bsF]
  · rw [if_neg e]
    show CV.bool (zs.getD j false) = CV.bool ((zs.set i v).getD j false)
    rw [List.getD_eq_getElem?_getD, List.getD_eq_getElem?_getD, List.getElem?_set_ne (fun h => e h.symm)]
theorem make_is (n : Nat) : (fun j => ofL [CV.int .i64 0] (j % 1)) = isF (List.replicate n 0) := by
  funext j
  show ofL [CV.int .i64 0] (j % 1) = CV.int .i64 ((List.replicate n 0).getD j 0)
  rw [Nat.mod_one, List.getD_eq_getElem?_getD, List.getElem?_replicate]
  split <;> rfl
theorem make_bs (n : Nat) : (fun j => ofL [CV.bool false] (j % 1)) = bsF (List.replicate n false) := by
  funext j
  show ofL [CV.bool false] (j % 1) = CV.bool ((List.replicate n false).getD j false)
  rw [Nat.mod_one, List.getD_eq_getElem?_getD, List.getElem?_replicate]
  split <;> rfl
theorem ler_oslis {h : Heap} {t : Bool} {g n : Nat} {ty : TypeId} {ys : List Int} (hg : h.get g = some (.cells ty n (isF ys))) (hn : n = ys.length) : LeR h (.osl g 1 0 n) (is t ys) := by
  subst hn
  exact .osl hg (by omega) (fun j _ => by rw [Nat.zero_add]; exact .int _ _)
end Go.AI
namespace Go.Proofs.YtmfmnmkipjpjhaaGreat
open Go.AI Go.PN
attribute [local irreducible] aw Fa Fh DrK
theorem place_none {l : List Int} {n : Int} (h : ∀ j, j < l.length → l.getD j 0 ≠ n) : placeZ l n = -1 := by
  unfold placeZ
  rw [if_neg]
  intro hm
  obtain ⟨k, hk, e⟩ := List.mem_iff_getElem.1 hm
  exact h k hk (by rw [getDZ hk, e])
theorem place_at {l : List Int} {n : Int} {i : Nat} (hi : i < l.length) (he : l.getD i 0 = n) (h : ∀ j, j < i → l.getD j 0 ≠ n) : placeZ l n = i := by
  unfold placeZ
  have hm : n ∈ l := by rw [← he, getDZ hi]; exact List.getElem_mem hi
  rw [if_pos hm]
  congr 1
  have h1 : l.idxOf n < l.length := List.idxOf_lt_length_of_mem hm
  have h2 : l[l.idxOf n] = n := List.getElem_idxOf h1
  rcases Nat.lt_trichotomy (l.idxOf n) i with hlt | heq | hgt
  · exact absurd (by rw [getDZ h1]; exact h2) (h _ hlt)
  · exact heq
  · have := List.not_of_lt_findIdx (p := fun x => x == n) (xs := l) (i := i) hgt
    rw [getDZ hi] at he
    simp [he] at this
set_option maxHeartbeats 400000 in
theorem place_fa (l : List Int) (n : Int) (hl : l.length ≤ 1099511627776) : Fa Tryz.prog 89 [.c (is false l), .c (.int .i64 n)] (.c (.int .i64 (placeZ l n))) := by
  refine fa_of_body Tryz.func89 rfl rfl (by simp [Tryz.ntmps89]) fun C hC => ?_
  simp only [initS, Nat.reduceAdd]
  refine xG ?_
  refine aw_lp (fun i : Nat => [(0, .c (is false l)), (1, .c (.int .i64 n)), (5, .c (.int .i64 i))]) (fun _ => []) (fun i => i ≤ l.length ∧ ∀ j, j < i → l.getD j 0 ≠ n) (fun i => l.length - i) 0 eB zZ ⟨Nat.zero_le _, fun j hj => by omega⟩ ?_
  rintro i ⟨hi, hs⟩
  refine xG ?_
  refine xF (fun hb=>?_) fun hb=>?_
  · have hin : i < l.length := by have := of_decide_eq_true hb; omega
    refine xG ?_
    refine xF (fun hc=>?_) fun hc=>?_
    · refine xG ?_
      refine xT hC ?_
      exact .one (.c (ler_int (place_at hin (eq_of_beq hc) hs).symm))
    · have hne : l.getD i 0 ≠ n := fun e => by rw [e] at hc; simp at hc
      refine xG ?_
      refine aw_stop ⟨i + 1, by omega, eB, zZ, by omega, fun j hj => ?_⟩
      by_cases hji : j = i
      · rw [hji]; exact hne
      · exact hs j (by omega)
  · have hin : i = l.length := by have := of_decide_eq_false hb; omega
    subst hin
    refine xG ?_
    refine xT hC ?_
    exact .one (.c (ler_int (place_none hs).symm))
set_option maxHeartbeats 1600000 in
theorem ocheckR_fa (o : List Int) (vars : Int) (hl : o.length ≤ 1099511627776) : Fa Tryz.prog 49 [.c (is false o), .c (.int .i64 vars)] (.c (.int .i64 (ocode o vars))) := by
  refine fa_of_body Tryz.func49 rfl rfl (by simp [Tryz.ntmps49]) fun C hC => ?_
  simp only [initS, Nat.reduceAdd]
  refine xG ?_
  by_cases hv0 : vars < 0
  · have e1 : decide (vars < 0) = true := by simp [hv0]
    refine yG e1 ?_
    refine yP e1 ?_
    refine yG e1 ?_
    refine yT hC e1 ?_
    exact .one (.c (ler_int (by unfold ocode; rw [if_pos (.inl hv0)])))
  have e1 : decide (vars < 0) = false := by simp [hv0]
  refine yG e1 ?_
  refine yF e1 (fun hb=>?_) fun hb=>?_
  · have := of_decide_eq_true hb
    refine yG e1 ?_
    refine yT hC e1 ?_
    exact .one (.c (ler_int (by unfold ocode; rw [if_pos (.inr (by omega))])))
  have hv24 : vars ≤ 24 := by have := of_decide_eq_false hb; omega
  refine yG e1 ?_
  refine yF e1 (fun hc=>?_) fun hc=>?_
  · have hne : (o.length : Int) ≠ vars := fun e => by rw [e] at hc; simp at hc
    refine yG e1 ?_
    refine yT hC e1 ?_
    exact .one (.c (ler_int (by unfold ocode; rw [if_neg (by omega), if_pos hne])))
  have hlen : (o.length : Int) = vars := by
    have : ((o.length : Int) == vars) = true := by simpa [bne] using hc
    exact eq_of_beq this
  have hcode : ocode o vars = oscan vars [] o := by unfold ocode; rw [if_neg (by omega), if_neg (by omega)]
  rw [hcode]
  refine yG e1 ?_
  refine aw_lp (fun i : Nat => [(0, .c (is false o)), (1, .c (.int .i64 vars)), (5, .c (.int .i64 i))]) (fun _ => []) (fun i => i ≤ o.length ∧ oscan vars (o.take i) (o.drop i) = oscan vars [] o) (fun i => o.length - i) 0 (zB e1) zZ ⟨Nat.zero_le _, by simp⟩ ?_
  rintro i ⟨hi, hs⟩
  refine yG e1 ?_
  refine yF e1 (fun hb1=>?_) fun hb1=>?_
  · have hin : i < o.length := by have := of_decide_eq_true hb1; omega
    rw [oscan_step hin] at hs
    refine yG e1 ?_
    by_cases hx0 : o.getD i 0 < 0
    · have e2 : decide (o.getD i 0 < 0) = true := decide_eq_true hx0
      refine yG (oj e1 e2) ?_
      refine yP (oj e1 e2) ?_
      refine yG (oj e1 e2) ?_
      refine yT hC (oj e1 e2) ?_
      exact .one (.c (ler_int (by rw [← hs, if_pos (.inl hx0)])))
    have e2 : decide (o.getD i 0 < 0) = false := decide_eq_false hx0
    refine yG (oj e1 e2) ?_
    refine yF (oj e1 e2) (fun hx1=>?_) fun hx1=>?_
    · have hx1' := of_decide_eq_true hx1
      refine yG (oj e1 e2) ?_
      refine yT hC (oj e1 e2) ?_
      exact .one (.c (ler_int (by rw [← hs, if_pos (.inr hx1')])))
    have hx1' : ¬ vars ≤ o.getD i 0 := of_decide_eq_false hx1
    rw [if_neg (by omega)] at hs
    refine yG (oj e1 e2) ?_
    refine aw_lp (fun k : Nat => [(0, .c (is false o)), (1, .c (.int .i64 vars)), (5, .c (.int .i64 i)), (6, .c (.int .i64 k))]) (fun _ => []) (fun k => k ≤ i ∧ ∀ j, j < k → o.getD j 0 ≠ o.getD i 0) (fun k => i - k) 0 (zB (oj e1 e2)) zZ ⟨Nat.zero_le _, fun j hj => by omega⟩ ?_
    rintro k ⟨hk, hks⟩
    refine yG (oj e1 e2) ?_
    refine yF (oj e1 e2) (fun hb2=>?_) fun hb2=>?_
    · have hki : k < i := by have := of_decide_eq_true hb2; omega
      refine yG (oj e1 e2) ?_
      refine aw_dr 9 ty_mixed (by kernel_rfl) ?_
      refine yG (oj e1 e2) ?_
      refine yF (oj e1 e2) (fun he=>?_) fun he=>?_
      · have he' := eq_of_beq he
        refine yG (oj e1 e2) ?_
        refine yT hC (oj e1 e2) ?_
        exact .one (.c (ler_int (by rw [← hs, if_pos (take_memZ.2 ⟨k, hki, by omega, he'⟩)])))
      · have hne : o.getD k 0 ≠ o.getD i 0 := fun e => by rw [e] at he; simp at he
        refine yG (oj e1 e2) ?_
        refine aw_stop ⟨k + 1, by omega, (zB (oj e1 e2)), zZ, by omega, fun j hj => ?_⟩
        by_cases hji : j = k
        · rw [hji]; exact hne
        · exact hks j (by omega)
    · have hki : k = i := by have := of_decide_eq_false hb2; omega
      subst hki
      rw [if_neg (fun hm => by obtain ⟨j, h1, _, h3⟩ := take_memZ.1 hm; exact hks j h1 h3)] at hs
      refine yG (oj e1 e2) ?_
      exact aw_stop ⟨k + 1, by omega, (zB (oj e1 e2)), zZ, by omega, hs⟩
  · have hin : i = o.length := by have := of_decide_eq_false hb1; omega
    subst hin
    refine yG e1 ?_
    refine yT hC e1 ?_
    exact .one (.c (ler_int (by rw [← hs, List.drop_length]; rfl)))
set_option maxHeartbeats 1600000 in
theorem ocheck_fa (o : List Int) (vars : Int) (hl : o.length ≤ 1099511627776) : Fa Tryz.prog 59 [.c (is false o), .c (.int .i64 vars)] (.c (errA (ocode o vars))) := by
  refine fa_of_body Tryz.func59 rfl rfl (by simp [Tryz.ntmps59]) fun C hC => ?_
  simp only [initS, Nat.reduceAdd]
  refine xG ?_
  by_cases hv0 : vars < 0
  · have e1 : decide (vars < 0) = true := by simp [hv0]
    refine yG e1 ?_
    refine yP e1 ?_
    refine yG e1 ?_
    refine yT hC e1 ?_
    exact .one (.c (ler_errN (by unfold ocode; rw [if_pos (.inl hv0)]) (by unfold ocode; rw [if_pos (.inl hv0)]; omega)))
  have e1 : decide (vars < 0) = false := by simp [hv0]
  refine yG e1 ?_
  refine yF e1 (fun hb=>?_) fun hb=>?_
  · have := of_decide_eq_true hb
    refine yG e1 ?_
    refine yT hC e1 ?_
    exact .one (.c (ler_errN (by unfold ocode; rw [if_pos (.inr (by omega))]) (by unfold ocode; rw [if_pos (.inr (by omega))]; omega)))
  have hv24 : vars ≤ 24 := by have := of_decide_eq_false hb; omega
  refine yG e1 ?_
  refine yF e1 (fun hc=>?_) fun hc=>?_
  · have hne : (o.length : Int) ≠ vars := fun e => by rw [e] at hc; simp at hc
    refine yG e1 ?_
    refine yT hC e1 ?_
    exact .one (.c (ler_errN (by unfold ocode; rw [if_neg (by omega), if_pos hne]) (by unfold ocode; rw [if_neg (by omega), if_pos hne]; omega)))
  have hlen : (o.length : Int) = vars := by
    have : ((o.length : Int) == vars) = true := by simpa [bne] using hc
    exact eq_of_beq this
  have hcode : ocode o vars = oscan vars [] o := by unfold ocode; rw [if_neg (by omega), if_neg (by omega)]
  rw [hcode]
  refine yG e1 ?_
  refine aw_make (n := o.length) (c := o.length) (size := 1) (z := [.bool false]) rfl rfl rfl (zE e1) (zE e1) rfl (by omega) (zE e1) (zE e1) hlen.symm hlen.symm (by omega) (by omega) (by omega) fun g hg => ?_
  rw [make_bs o.length]
  refine yS e1 ?_
  refine yG e1 ?_
  refine aw_lp (fun x : Nat × List Bool => [(1, .c (.int .i64 vars)), (5, .c (.osl g 1 0 o.length)), (24, .c (is false o)), (25, .c (.int .i64 o.length)), (26, .c (.int .i64 x.1))]) (fun x => [(g, .cells 4 o.length (bsF x.2))])
    (fun x => x.1 ≤ o.length ∧ oscan vars (o.take x.1) (o.drop x.1) = oscan vars [] o ∧ x.2.length = o.length ∧ ∀ j : Nat, j < o.length → (x.2.getD j false = decide ((j : Int) ∈ o.take x.1))) (fun x => o.length - x.1) (0, List.replicate o.length false) (zB e1) zZ ⟨Nat.zero_le _, by simp, by simp, fun j hj => by rw [List.getD_eq_getElem?_getD, List.getElem?_replicate]; simp [hj]⟩ ?_
  rintro ⟨i, zs⟩ ⟨hi, hs, hzl, hz⟩
  dsimp only at hi hs hzl hz ⊢
  refine yG e1 ?_
  refine yF e1 (fun hb1=>?_) fun hb1=>?_
  · have hin : i < o.length := by have := of_decide_eq_true hb1; omega
    rw [oscan_step hin] at hs
    refine yG e1 ?_
    by_cases hx0 : o.getD i 0 < 0
    · have e2 : decide (o.getD i 0 < 0) = true := decide_eq_true hx0
      refine yG (oj e1 e2) ?_
      refine yP (oj e1 e2) ?_
      refine yG (oj e1 e2) ?_
      refine yT hC (oj e1 e2) ?_
      rw [if_pos (.inl hx0)] at hs
      exact .one (.c (ler_errN hs (by omega)))
    have e2 : decide (o.getD i 0 < 0) = false := decide_eq_false hx0
    refine yG (oj e1 e2) ?_
    refine yF (oj e1 e2) (fun hx1=>?_) fun hx1=>?_
    · have hx1' := of_decide_eq_true hx1
      refine yG (oj e1 e2) ?_
      refine yT hC (oj e1 e2) ?_
      rw [if_pos (.inr hx1')] at hs
      exact .one (.c (ler_errN hs (by omega)))
    have hx1' : ¬ vars ≤ o.getD i 0 := of_decide_eq_false hx1
    rw [if_neg (by omega)] at hs
    have hzi := hz (o.getD i 0).toNat (by omega)
    rw [show (((o.getD i 0).toNat : Nat) : Int) = o.getD i 0 from by omega] at hzi
    refine yG (oj e1 e2) ?_
    refine yF (oj e1 e2) (fun ht=>?_) fun ht=>?_
    · rw [ht] at hzi
      have hm := of_decide_eq_true hzi.symm
      refine yG (oj e1 e2) ?_
      refine yT hC (oj e1 e2) ?_
      rw [if_pos hm] at hs
      exact .one (.c (ler_errN hs (by omega)))
    · rw [ht] at hzi
      have hm := of_decide_eq_false hzi.symm
      rw [if_neg hm] at hs
      refine yG (oj e1 e2) ?_
      refine yW (oj e1 e2) ?_
      refine yS (oj e1 e2) ?_
      rw [updF_bs (by omega)]
      refine yG (oj e1 e2) ?_
      refine aw_stop ⟨(i + 1, zs.set (o.getD i 0).toNat true), by dsimp only; omega, (zB (oj e1 e2)), zZ, by dsimp only; omega, hs, by simpa using hzl, fun j hj => ?_⟩
      dsimp only
      rw [List.take_succ_eq_append_getElem hin, List.getD_eq_getElem?_getD]
      by_cases hje : j = (o.getD i 0).toNat
      · subst hje
        rw [List.getElem?_set_self (by omega)]
        have : (((o.getD i 0).toNat : Nat) : Int) ∈ o.take i ++ [o[i]] := by
          rw [← getDZ hin, show (((o.getD i 0).toNat : Nat) : Int) = o.getD i 0 from by omega]; simp
        exact (decide_eq_true this).symm
      · rw [List.getElem?_set_ne (fun e => hje e.symm), ← List.getD_eq_getElem?_getD, hz j hj]
        have : ((j : Int) ∈ o.take i ++ [o[i]]) ↔ (j : Int) ∈ o.take i := by
          rw [← getDZ hin]
          simp only [List.mem_append, List.mem_singleton]
          exact ⟨fun h => h.resolve_right (by omega), .inl⟩
        simp only [this]
  · have hin : i = o.length := by have := of_decide_eq_false hb1; omega
    subst hin
    refine yG e1 ?_
    refine yT hC e1 ?_
    exact .one (.c (ler_err0 (by rw [← hs, List.drop_length]; rfl)))
set_option maxHeartbeats 800000 in
theorem places_fa (o : List Int) (ho : Perm0 o) (hl : o.length ≤ 24) : Fa Tryz.prog 129 [.c (is false o)] (.c (is true (placesL o))) := by
  refine fa_of_body Tryz.func129 rfl rfl (by simp [Tryz.ntmps129]) fun C hC => ?_
  simp only [initS, Nat.reduceAdd]
  refine xG ?_
  refine aw_make (n := o.length) (c := o.length) (size := 1) (z := [.int .i64 0]) rfl rfl rfl eE eE rfl (by omega) eE eE rfl rfl (by omega) (by omega) (by omega) fun g hg => ?_
  rw [make_is o.length]
  refine xS ?_
  refine xG ?_
  refine aw_lp (fun x : Nat × List Int => [(3, .c (.osl g 1 0 o.length)), (9, .c (is false o)), (10, .c (.int .i64 o.length)), (11, .c (.int .i64 x.1))]) (fun x => [(g, .cells 3 o.length (isF x.2))])
    (fun x => x.1 ≤ o.length ∧ x.2.length = o.length ∧ ∀ k, k < x.1 → x.2.getD (o.getD k 0).toNat 0 = k) (fun x => o.length - x.1) (0, List.replicate o.length 0) eB zZ ⟨Nat.zero_le _, by simp, fun k hk => by omega⟩ ?_
  rintro ⟨i, zs⟩ ⟨hi, hzl, hz⟩
  dsimp only at hi hzl hz ⊢
  refine xG ?_
  refine xF (fun hb1=>?_) fun hb1=>?_
  · have hin : i < o.length := by have := of_decide_eq_true hb1; omega
    have hr := ho.range (o.getD i 0) (by rw [getDZ hin]; exact List.getElem_mem hin)
    refine xG ?_
    refine xW ?_
    refine xS ?_
    rw [updF_is (by omega)]
    refine xG ?_
    refine aw_stop ⟨(i + 1, zs.set (o.getD i 0).toNat i), by dsimp only; omega, eB, zZ, by dsimp only; omega, by simpa using hzl, fun k hk => ?_⟩
    dsimp only at hk ⊢
    rw [List.getD_eq_getElem?_getD]
    by_cases hki : k = i
    · subst hki
      rw [List.getElem?_set_self (by omega)]; rfl
    · have hrk := ho.range (o.getD k 0) (by rw [getDZ (by omega)]; exact List.getElem_mem _)
      rw [List.getElem?_set_ne, ← List.getD_eq_getElem?_getD, hz k (by omega)]
      intro e
      have e2 : o.getD i 0 = o.getD k 0 := by omega
      have p1 := place_get ho.nodup hin
      have p2 := place_get ho.nodup (show k < o.length from by omega)
      rw [e2, p2] at p1
      omega
  · have hin : i = o.length := by have := of_decide_eq_false hb1; omega
    subst hin
    refine xG ?_
    refine xT hC ?_
    rw [← places_end ho hzl hz]
    exact .one (.c (ler_oslis eE hzl.symm))
set_option maxHeartbeats 800000 in
theorem positions_fa (o : List Int) (hl : o.length ≤ 1099511627776) : Fa Tryz.prog 113 [.c (is false o)] (.tup [.c (is true (if ocode o o.length = 0 then placesL o else [])), .c (errA (ocode o o.length))]) := by
  refine fa_of_body Tryz.func113 rfl rfl (by simp [Tryz.ntmps113]) fun C hC => ?_
  simp only [initS, Nat.reduceAdd]
  refine xG ?_
  refine xC (ocheck_fa o o.length hl) ?_
  refine xG ?_
  refine xF (fun hb=>?_) fun hb=>?_
  · have hne : ocode o o.length ≠ 0 := by simpa using hb
    refine xG ?_
    refine xT hC ?_
    rw [if_neg hne]
    exact .tup ⟨.c .nils, .c ler_err, trivial⟩
  · have he : ocode o o.length = 0 := by simpa using hb
    obtain ⟨h1, h2⟩ := ocode_ok he
    refine xG ?_
    refine xC (places_fa o h1 h2) ?_
    refine xG ?_
    refine xT hC ?_
    rw [if_pos he]
    exact .tup ⟨.c ler_is, .c (ler_err0 he), trivial⟩
end Go.Proofs.YtmfmnmkipjpjhaaGreat

/- faultlineref15: behind, node. -/
namespace Go.PN
open Go.AI
def behindB (d : DG) (r e : Int) : Bool := decide (r < 2) || decide (placeZ d.order (d.nodes.getD (r - 2).toNat dn0).v > placeZ d.order e)
/-- Out of range? -/
def nrange (d : DG) (i : Nat) (x : DN) : Prop := x.v < 0 ∨ (d.order.length : Int) ≤ x.v ∨ x.lo < 0 ∨ (i : Int) + 1 < x.lo ∨ x.hi < 0 ∨ (i : Int) + 1 < x.hi
instance (d : DG) (i : Nat) (x : DN) : Decidable (nrange d i x) := by unfold nrange; infer_instance
/-- The number of the error of node i. -/
def ncode (d : DG) (i : Nat) : Int :=
  if nrange d i (d.nodes.getD i dn0) then 10 else if (d.nodes.getD i dn0).lo = (d.nodes.getD i dn0).hi then 2
  else if !(behindB d (d.nodes.getD i dn0).lo (d.nodes.getD i dn0).v) || !(behindB d (d.nodes.getD i dn0).hi (d.nodes.getD i dn0).v) then 13
  else if d.nodes.getD i dn0 ∈ d.nodes.take i then 6 else 0
theorem getDN {xs : List DN} {i : Nat} (h : i < xs.length) : xs.getD i dn0 = xs[i] := by
  rw [List.getD_eq_getElem?_getD, List.getElem?_eq_getElem h]; rfl
theorem take_memN {o : List DN} {i : Nat} {x : DN} : x ∈ o.take i ↔ ∃ k, k < i ∧ k < o.length ∧ o.getD k dn0 = x := by
  constructor
  · intro h
    obtain ⟨k, hk, e⟩ := List.mem_iff_getElem.1 h
    simp only [List.length_take] at hk
    refine ⟨k, by omega, by omega, ?_⟩
    rw [getDN (by omega), ← e, List.getElem_take]
  · rintro ⟨k, h1, h2, rfl⟩
    rw [getDN h2]
    exact List.mem_iff_getElem.2 ⟨k, by simp; omega, by rw [List.getElem_take]⟩
theorem nok_of {d : DG} {i : Nat} (h : ¬ nrange d i (d.nodes.getD i dn0)) : NodeOk d.order.length i (d.nodes.getD i dn0) := by
  unfold nrange at h
  constructor <;> omega
theorem eqDN (a b : DN) : ((a.v == b.v) && ((a.lo == b.lo) && (a.hi == b.hi))) = decide (a = b) := by
  cases a; cases b
  rw [Bool.eq_iff_iff]
  simp [DN.mk.injEq]
end Go.PN
namespace Go.Proofs.YtmfmnmkipjpjhaaGreat
open Go.AI Go.PN
attribute [local irreducible] aw Fa Fh DrK
set_option maxHeartbeats 800000 in
theorem behind_fa (d : DG) (r e : Int) (h0 : 0 ≤ r) (h1 : r < d.nodes.length + 2) (hl : d.order.length ≤ 1099511627776) (hl2 : d.nodes.length ≤ 1099511627776) : Fa Tryz.prog 88 [.agg (dgc false d), .c (.int .i64 r), .c (.int .i64 e)] (.c (.bool (behindB d r e))) := by
  unfold behindB
  refine fa_of_body Tryz.func88 rfl rfl (by simp [Tryz.ntmps88]) fun C hC => ?_
  simp only [initS, Nat.reduceAdd]
  refine xG ?_
  refine xB fun g3 hn_g3=>?_
  refine yG hn_g3 ?_
  refine aw_dr 20 ty_mixed (by kernel_rfl) ?_
  refine yG hn_g3 ?_
  refine drk_split 9 (zE hn_g3) (fun hb => ?_) (fun hb => ?_) <;> refine yS hn_g3 ?_
  · refine yG hn_g3 ?_
    refine yT hC hn_g3 ?_
    exact .one (.c (ler_bool (by rw [hb]; rfl)))
  · have hb' := of_decide_eq_false hb
    refine yG hn_g3 ?_
    refine yD hn_g3 (place_fa d.order _ hl) ?_
    refine yG hn_g3 ?_
    refine yD hn_g3 (place_fa d.order e hl) ?_
    refine yG hn_g3 ?_
    refine yT hC hn_g3 ?_
    exact .one (.c (ler_bool (by rw [hb]; rfl)))
set_option maxRecDepth 100000 in
set_option maxHeartbeats 3200000 in
theorem nodeR_fa (d : DG) (i : Nat) (hi : i < d.nodes.length) (hl : d.order.length ≤ 1099511627776) (hl2 : d.nodes.length ≤ 1099511627776) : Fa Tryz.prog 50 [.agg (dgc false d), .c (.int .i64 i)] (.c (.int .i64 (ncode d i))) := by
  have n10 : nrange d i (d.nodes.getD i dn0) → ncode d i = 10 := fun h => by unfold ncode; rw [if_pos h]
  refine fa_of_body Tryz.func50 rfl rfl (by simp [Tryz.ntmps50]) fun C hC => ?_
  simp only [initS, Nat.reduceAdd]
  refine xG ?_
  refine xB fun g2 hn_g2=>?_
  refine yG hn_g2 ?_
  refine yA hn_g2 fun g5 hn_g5=>?_
  refine yG (oj hn_g2 hn_g5) ?_
  refine yW (oj hn_g2 hn_g5) ?_
  refine yS (oj hn_g2 hn_g5) ?_
  generalize hx : d.nodes.getD i dn0 = x at n10
  refine yG (oj hn_g2 hn_g5) ?_
  refine aw_split 15 (zE (oj hn_g2 hn_g5)) (fun a1 => ?_) (fun a1 => ?_) <;> refine yS (oj hn_g2 hn_g5) ?_
  · refine yG (oj hn_g2 hn_g5) ?_
    refine yP (oj hn_g2 hn_g5) ?_
    refine yG (oj hn_g2 hn_g5) ?_
    refine yT hC (oj hn_g2 hn_g5) ?_
    exact .one (.c (ler_int (n10 (.inl (of_decide_eq_true a1))).symm))
  refine yG (oj hn_g2 hn_g5) ?_
  refine aw_split 23 (zE (oj hn_g2 hn_g5)) (fun a2 => ?_) (fun a2 => ?_) <;> refine yS (oj hn_g2 hn_g5) ?_
  · refine yG (oj hn_g2 hn_g5) ?_
    refine yP (oj hn_g2 hn_g5) ?_
    refine yG (oj hn_g2 hn_g5) ?_
    refine yT hC (oj hn_g2 hn_g5) ?_
    exact .one (.c (ler_int (n10 (.inr (.inl (of_decide_eq_true a2)))).symm))
  refine yG (oj hn_g2 hn_g5) ?_
  refine aw_split 28 (zE (oj hn_g2 hn_g5)) (fun a3 => ?_) (fun a3 => ?_) <;> refine yS (oj hn_g2 hn_g5) ?_
  · refine yG (oj hn_g2 hn_g5) ?_
    refine yP (oj hn_g2 hn_g5) ?_
    refine yG (oj hn_g2 hn_g5) ?_
    refine yT hC (oj hn_g2 hn_g5) ?_
    exact .one (.c (ler_int (n10 (.inr (.inr (.inl (of_decide_eq_true a3))))).symm))
  refine yG (oj hn_g2 hn_g5) ?_
  refine aw_split 35 (zE (oj hn_g2 hn_g5)) (fun a4 => ?_) (fun a4 => ?_) <;> refine yS (oj hn_g2 hn_g5) ?_
  · refine yG (oj hn_g2 hn_g5) ?_
    refine yP (oj hn_g2 hn_g5) ?_
    refine yG (oj hn_g2 hn_g5) ?_
    refine yT hC (oj hn_g2 hn_g5) ?_
    exact .one (.c (ler_int (n10 (.inr (.inr (.inr (.inl (of_decide_eq_true a4)))))).symm))
  refine yG (oj hn_g2 hn_g5) ?_
  refine aw_split 40 (zE (oj hn_g2 hn_g5)) (fun a5 => ?_) (fun a5 => ?_) <;> refine yS (oj hn_g2 hn_g5) ?_
  · refine yG (oj hn_g2 hn_g5) ?_
    refine yP (oj hn_g2 hn_g5) ?_
    refine yG (oj hn_g2 hn_g5) ?_
    refine yT hC (oj hn_g2 hn_g5) ?_
    exact .one (.c (ler_int (n10 (.inr (.inr (.inr (.inr (.inl (of_decide_eq_true a5))))))).symm))
  refine yG (oj hn_g2 hn_g5) ?_
  refine yF (oj hn_g2 hn_g5) (fun a6=>?_) fun a6=>?_
  · refine yG (oj hn_g2 hn_g5) ?_
    refine yT hC (oj hn_g2 hn_g5) ?_
    exact .one (.c (ler_int (n10 (.inr (.inr (.inr (.inr (.inr (of_decide_eq_true a6))))))).symm))
  have hnr : ¬ nrange d i x := by
    unfold nrange
    have b1 := of_decide_eq_false a1
    have b2 := of_decide_eq_false a2
    have b3 := of_decide_eq_false a3
    have b4 := of_decide_eq_false a4
    have b5 := of_decide_eq_false a5
    have b6 := of_decide_eq_false a6
    omega
  clear a1 a2 a3 a4 a5 a6 n10
  have hno := nok_of (d := d) (i := i) (by rw [hx]; exact hnr)
  rw [hx] at hno
  obtain ⟨v0, v1, l0, l1, h0, h1⟩ := hno
  have hcode : ncode d i = if x.lo = x.hi then 2 else if !(behindB d x.lo x.v) || !(behindB d x.hi x.v) then 13 else if x ∈ d.nodes.take i then 6 else 0 := by
    unfold ncode; rw [hx, if_neg hnr]
  rw [hcode]
  clear hcode
  refine yG (oj hn_g2 hn_g5) ?_
  refine yF (oj hn_g2 hn_g5) (fun c1=>?_) fun c1=>?_
  · have c1' := eq_of_beq c1
    refine yG (oj hn_g2 hn_g5) ?_
    refine yT hC (oj hn_g2 hn_g5) ?_
    exact .one (.c (ler_int (by rw [if_pos c1'])))
  have c1' : ¬ x.lo = x.hi := fun e => by rw [e] at c1; simp at c1
  rw [if_neg c1']
  refine yG (oj hn_g2 hn_g5) ?_
  refine yC (oj hn_g2 hn_g5) (behind_fa d x.lo x.v l0 ?_ hl hl2) ?_
  · omega
  refine yG (oj hn_g2 hn_g5) ?_
  refine aw_split 59 (zE (oj hn_g2 hn_g5)) (fun c2 => ?_) (fun c2 => ?_) <;> refine yS (oj hn_g2 hn_g5) ?_
  · refine yG (oj hn_g2 hn_g5) ?_
    refine yP (oj hn_g2 hn_g5) ?_
    refine yG (oj hn_g2 hn_g5) ?_
    refine yT hC (oj hn_g2 hn_g5) ?_
    exact .one (.c (ler_int (by rw [c2]; rfl)))
  refine yG (oj hn_g2 hn_g5) ?_
  refine yC (oj hn_g2 hn_g5) (behind_fa d x.hi x.v h0 ?_ hl hl2) ?_
  · omega
  refine yG (oj hn_g2 hn_g5) ?_
  refine yF (oj hn_g2 hn_g5) (fun c3=>?_) fun c3=>?_
  · refine yG (oj hn_g2 hn_g5) ?_
    refine yT hC (oj hn_g2 hn_g5) ?_
    exact .one (.c (ler_int (by rw [c2, c3]; rfl)))
  rw [c2, c3, if_neg (by simp)]
  refine yG (oj hn_g2 hn_g5) ?_
  as_aux_lemma =>
  refine aw_lp (fun k : Nat => [(1, .c (.int .i64 i)), (2, .c (.optr g2 0)), (5, .c (.optr g5 0)), (6, .c (.int .i64 k))]) (fun _ => [(g5, .cells 104 3 (ofL (dnc x))), (g2, .cells 31 3 (ofL (dgc false d)))]) (fun k => k ≤ i ∧ ∀ j, j < k → d.nodes.getD j dn0 ≠ x) (fun k => i - k) 0 (zB (oj hn_g2 hn_g5)) zZ ⟨Nat.zero_le _, fun j hj => by omega⟩ ?_
  rintro k ⟨hk, hs⟩
  refine yG (oj hn_g2 hn_g5) ?_
  refine yF (oj hn_g2 hn_g5) (fun hb=>?_) fun hb=>?_
  · have hki : k < i := by have := of_decide_eq_true hb; omega
    refine yG (oj hn_g2 hn_g5) ?_
    refine aw_dr 7 ty_mixed (by kernel_rfl) ?_
    refine yG (oj hn_g2 hn_g5) ?_
    refine yF (oj hn_g2 hn_g5) (fun he=>?_) fun he=>?_
    · rw [eqDN] at he
      have he' := of_decide_eq_true he
      refine yG (oj hn_g2 hn_g5) ?_
      refine yT hC (oj hn_g2 hn_g5) ?_
      exact .one (.c (ler_int (by rw [if_pos (take_memN.2 ⟨k, hki, by omega, he'⟩)])))
    · rw [eqDN] at he
      have he' := of_decide_eq_false he
      refine yG (oj hn_g2 hn_g5) ?_
      refine aw_stop ⟨k + 1, by omega, (zB (oj hn_g2 hn_g5)), zZ, by omega, fun j hj => ?_⟩
      by_cases hjk : j = k
      · rw [hjk]; exact he'
      · exact hs j (by omega)
  · have hki : k = i := by have := of_decide_eq_false hb; omega
    subst hki
    refine yG (oj hn_g2 hn_g5) ?_
    refine yT hC (oj hn_g2 hn_g5) ?_
    exact .one (.c (ler_int (by rw [if_neg (fun hm => by obtain ⟨j, h1, _, h3⟩ := take_memN.1 hm; exact hs j h1 h3)])))
end Go.Proofs.YtmfmnmkipjpjhaaGreat

/- faultlineref15: number, Check. -/
namespace Go.PN
open Go.AI
/-- The nodes below a reference, kids first, those of b left out. -/
def numF (ns : List DN) : Nat → Int → List Int → List Int
  | 0, _, b => b
  | k + 1, r, b => if r < 2 ∨ r ∈ b then b else numF ns k (ns.getD (r - 2).toNat dn0).hi (numF ns k (ns.getD (r - 2).toNat dn0).lo b) ++ [r]
theorem nodup_range {n : Nat} {b : List Int} (h : b.Nodup) (hb : ∀ x ∈ b, 2 ≤ x ∧ x < n + 2) : b.length ≤ n := by
  have := nodup_le (m := (List.range n).map fun (i : Nat) => (i : Int) + 2) h (fun x hx => by
    have h1 := hb x hx
    refine List.mem_map.2 ⟨(x - 2).toNat, List.mem_range.2 (by omega), by omega⟩)
  simpa using this
theorem numF_mono {ns : List DN} : ∀ (k : Nat) (r : Int) (b : List Int) (x : Int), x ∈ b → x ∈ numF ns k r b
  | 0, _, b, x, h => h
  | k + 1, r, b, x, h => by
    rw [numF]
    split
    · exact h
    · exact List.mem_append_left _ (numF_mono k _ _ x (numF_mono k _ _ x h))
theorem numF_bd {m : Nat} {ns : List DN} (hn : NsOk m ns) : ∀ (k : Nat) (r : Int) (b : List Int), r < ns.length + 2 → b.Nodup → (∀ x ∈ b, 2 ≤ x ∧ x < ns.length + 2) →
    (numF ns k r b).Nodup ∧ (∀ x ∈ numF ns k r b, 2 ≤ x ∧ x < ns.length + 2) ∧ (∀ x ∈ numF ns k r b, x ∈ b ∨ x ≤ r)
  | 0, r, b, _, h1, h2 => ⟨h1, h2, fun x hx => .inl hx⟩
  | k + 1, r, b, hr, h1, h2 => by
    rw [numF]
    split
    · exact ⟨h1, h2, fun x hx => .inl hx⟩
    · rename_i hc
      obtain ⟨v0, v1, l0, l1, g0, g1⟩ := hn (r - 2).toNat (by omega)
      obtain ⟨a1, a2, a3⟩ := numF_bd hn k (ns.getD (r - 2).toNat dn0).lo b (by omega) h1 h2
      obtain ⟨b1, b2, b3⟩ := numF_bd hn k (ns.getD (r - 2).toNat dn0).hi _ (by omega) a1 a2
      refine ⟨?_, fun x hx => ?_, fun x hx => ?_⟩
      · rw [List.nodup_append]
        refine ⟨b1, by simp, fun x hx y hy e => ?_⟩
        simp only [List.mem_singleton] at hy
        subst hy
        rcases b3 x hx with h | h
        · rcases a3 x h with h | h
          · exact hc (.inr (e ▸ h))
          · omega
        · omega
      · rcases List.mem_append.1 hx with hx | hx
        · exact b2 x hx
        · simp only [List.mem_singleton] at hx; omega
      · rcases List.mem_append.1 hx with hx | hx
        · rcases b3 x hx with h | h
          · rcases a3 x h with h | h
            · exact .inl h
            · exact .inr (by omega)
          · exact .inr (by omega)
        · simp only [List.mem_singleton] at hx; exact .inr (by omega)
theorem place_ge {l : List Int} {n : Int} : decide (placeZ l n ≥ 0) = decide (n ∈ l) := by
  unfold placeZ
  by_cases h : n ∈ l <;> simp [h]
theorem le_gsi {pre : Heap} {og : Option Nat} {e n : Nat} {zs : List Int} (hog : og = none → n = 0) (hn : ∀ g, og = some g → g ∉ pre.keys) (hl : zs.length = n) : LeC (pre ++ gh og e n (isF zs)) (gs og 1 n) (is false zs) := by
  subst hl
  have := le_gs (pre := pre) (og := og) (e := e) (s := 1) (n := zs.length) (f := isF zs) (f' := isF zs) hog hn (fun j _ => .refl _)
  simpa only [Nat.mul_one] using this
theorem gh_nd {o : AObj} {g3 : Nat} {og : Option Nat} {e n : Nat} {f : Nat → CV} (h : Heap.keys ((g3, o) :: gh og e n f) |>.Nodup) : ∀ g, og = some g → ¬ g = g3 := by
  rintro g rfl rfl
  simp [Heap.keys, gh] at h
end Go.PN
namespace Go.Proofs.YtmfmnmkipjpjhaaGreat
open Go.AI Go.PN
attribute [local irreducible] aw Fa Fh DrK
set_option maxRecDepth 100000 in
set_option maxHeartbeats 1600000 in
theorem number_fh (d : DG) (hns : NsOk d.order.length d.nodes) (hnl : d.nodes.length ≤ 1000000) : ∀ (k : Nat) (r : Int) (b : List Int) (og : Option Nat) (n : Nat), r.toNat ≤ k → 0 ≤ r → r < d.nodes.length + 2 → b.Nodup → (∀ x ∈ b, 2 ≤ x ∧ x < d.nodes.length + 2) → b.length = n → (og = none → n = 0) →
    Fh Tryz.prog 51 (gh og 3 n (isF b)) [.agg (dgc false d), .c (.int .i64 r), .c (gs og 1 n)]
      (fun res h => ∃ og' n', (numF d.nodes k r b).length = n' ∧ (og' = none → n' = 0) ∧ res = .c (gs og' 1 n') ∧ h = gh og' 3 n' (isF (numF d.nodes k r b))) := by
  intro k
  induction k with
  | zero =>
    intro r b og n hk h0 hr hbn hbr hbl hog
    have hr0 : r = 0 := by omega
    subst hr0
    refine fh_of_body Tryz.func51 rfl rfl (by simp [Tryz.ntmps51]) fun C hC => ?_
    simp only [initS, Nat.reduceAdd]
    refine xG ?_
    refine xB fun g3 hn_g3=>?_
    refine yG hn_g3 ?_
    refine aw_split 10 (zE hn_g3) (fun hb => ?_) (fun hb => ?_) <;> refine yS hn_g3 ?_
    · refine yG hn_g3 ?_
      refine yP hn_g3 ?_
      refine yG hn_g3 ?_
      refine aw_keep [(6, .c (gs og 1 n))] (gh og 3 n (isF b)) (zB hn_g3) (List.Sublist.cons _ (List.Sublist.refl _)) ?_
      refine yU hn_g3 ?_
      exact ⟨og, n, hbl, hog, rfl, rfl⟩
    · exact absurd hb (by decide)
  | succ k ih =>
    intro r b og n hk h0 hr hbn hbr hbl hog
    have hnb := nodup_range hbn hbr
    refine fh_of_body Tryz.func51 rfl rfl (by simp [Tryz.ntmps51]) fun C hC => ?_
    simp only [initS, Nat.reduceAdd]
    refine xG ?_
    refine xB fun g3 hn_g3=>?_
    refine yG hn_g3 ?_
    refine aw_split 10 (zE hn_g3) (fun hb => ?_) (fun hb => ?_) <;> refine yS hn_g3 ?_
    · have hb' := of_decide_eq_true hb
      refine yG hn_g3 ?_
      refine yP hn_g3 ?_
      refine yG hn_g3 ?_
      refine aw_keep [(6, .c (gs og 1 n))] (gh og 3 n (isF b)) (zB hn_g3) (List.Sublist.cons _ (List.Sublist.refl _)) ?_
      refine yU hn_g3 ?_
      rw [numF, if_pos (.inl hb')]
      exact ⟨og, n, hbl, hog, rfl, rfl⟩
    · have hb' := of_decide_eq_false hb
      refine aw_nd fun hnd => ?_
      replace hnd := gh_nd hnd
      have hp3 : ∀ g, og = some g → g ∉ Heap.keys [(g3, AObj.cells 31 3 (ofL (dgc false d)))] := fun g e => by simp only [Heap.keys, List.map_cons, List.map_nil, List.mem_singleton]; exact hnd g e
      refine yG hn_g3 ?_
      refine aw_callq (place_fa b r (by omega)) rfl rfl rfl (by refine yS hn_g3 ?_; exact ⟨.c (le_gsi (pre := [(g3, _)]) hog hp3 hbl), .c (.refl _)⟩) ?_
      refine yS hn_g3 ?_
      refine yG hn_g3 ?_
      refine yF hn_g3 (fun hm=>?_) fun hm=>?_
      · rw [place_ge] at hm
        have hm' := of_decide_eq_true hm
        refine yG hn_g3 ?_
        refine aw_keep [(6, .c (gs og 1 n))] (gh og 3 n (isF b)) (zB hn_g3) (List.Sublist.cons _ (List.Sublist.refl _)) ?_
        refine yU hn_g3 ?_
        rw [numF, if_pos (.inr hm')]
        exact ⟨og, n, hbl, hog, rfl, rfl⟩
      · rw [place_ge] at hm
        have hm' := of_decide_eq_false hm
        have hc : ¬ (r < 2 ∨ r ∈ b) := by rintro (h | h); exact hb' h; exact hm' h
        rw [numF, if_neg hc]
        obtain ⟨v0, v1, l0, l1, q0, q1⟩ := hns (r - 2).toNat (by omega)
        obtain ⟨a1, a2, a3⟩ := numF_bd hns k (d.nodes.getD (r - 2).toNat dn0).lo b (by omega) hbn hbr
        obtain ⟨b1, b2, b3⟩ := numF_bd hns k (d.nodes.getD (r - 2).toNat dn0).hi _ (by omega) a1 a2
        have hnc := nodup_range b1 b2
        refine yG hn_g3 ?_
        refine yA hn_g3 fun g7 hn_g7=>?_
        refine yG (oj hn_g3 hn_g7) ?_
        refine yW (oj hn_g3 hn_g7) ?_
        refine yS (oj hn_g3 hn_g7) ?_
        generalize d.nodes.getD (r - 2).toNat dn0 = x at *
        refine yG (oj hn_g3 hn_g7) ?_
        refine aw_callh (hr := [(g7, AObj.cells 104 3 (ofL (dnc x))), (g3, AObj.cells 31 3 (ofL (dgc false d)))]) (ih x.lo b og n (by omega) l0 (by omega) hbn hbr hbl hog) rfl rfl rfl (List.perm_append_comm (l₁ := [(g7, AObj.cells 104 3 (ofL (dnc x))), (g3, AObj.cells 31 3 (ofL (dgc false d)))])) (zL (oj hn_g3 hn_g7)) ?_
        rintro _ _ ⟨og2, n2, hn2, hog2, rfl, rfl⟩ hk2
        refine yS (oj hn_g3 hn_g7) ?_
        refine aw_perm (List.perm_append_comm (l₂ := [(g7, AObj.cells 104 3 (ofL (dnc x))), (g3, AObj.cells 31 3 (ofL (dgc false d)))])) ?_
        refine yG (oj hn_g3 hn_g7) ?_
        refine aw_callh (hr := [(g7, AObj.cells 104 3 (ofL (dnc x))), (g3, AObj.cells 31 3 (ofL (dgc false d)))]) (ih x.hi _ og2 n2 (by omega) q0 (by omega) a1 a2 hn2 hog2) rfl rfl rfl (List.perm_append_comm (l₁ := [(g7, AObj.cells 104 3 (ofL (dnc x))), (g3, AObj.cells 31 3 (ofL (dgc false d)))])) (zL (oj hn_g3 hn_g7)) ?_
        rintro _ _ ⟨og3, n3, hn3, hog3, rfl, rfl⟩ hk3
        refine yS (oj hn_g3 hn_g7) ?_
        refine aw_perm (List.perm_append_comm (l₂ := [(g7, AObj.cells 104 3 (ofL (dnc x))), (g3, AObj.cells 31 3 (ofL (dgc false d)))])) ?_
        refine yG (oj hn_g3 hn_g7) ?_
        refine aw_push (pre := [(g7, AObj.cells 104 3 (ofL (dnc x))), (g3, AObj.cells 31 3 (ofL (dgc false d)))]) rfl rfl rfl rfl rfl rfl rfl (zE (oj hn_g3 hn_g7)) (zE (oj hn_g3 hn_g7)) (by rfl) (by omega) (by omega) (zE (oj hn_g3 hn_g7)) (by omega) (by exact hog3) (zE (oj hn_g3 hn_g7)) (by rfl) (by rfl) (by first | rfl | simp only [Nat.mul_one, List.nil_append, List.cons_append] <;> rfl) (by unfold maxLen; omega) (by omega) (by exact is_push hn3 _) fun g1 hn_g1 => ?_
        replace hn_g1 := Heap.ne_of hn_g1
        first | dsimp only [Heap.ne, gh] at hn_g1 | dsimp only [Heap.ne] at hn_g1 | skip
        refine yS (oj hn_g3 (oj hn_g7 hn_g1)) ?_
        refine yG (oj hn_g3 (oj hn_g7 hn_g1)) ?_
        refine aw_keep [(6, .c (gs (some g1) 1 (n3 + 1)))] (gh (some g1) 3 (n3 + 1) (isF (numF d.nodes k x.hi (numF d.nodes k x.lo b) ++ [r]))) (zB (oj hn_g3 (oj hn_g7 hn_g1))) (List.Sublist.cons _ (List.Sublist.cons _ (List.Sublist.refl _))) ?_
        refine yU (oj hn_g3 (oj hn_g7 hn_g1)) ?_
        exact ⟨some g1, n3 + 1, by simp [hn3], fun e => (by cases e), rfl, rfl⟩
end Go.Proofs.YtmfmnmkipjpjhaaGreat

/- faultlineref15.Check. -/
namespace Go.PN
open Go.AI
def nfirst (d : DG) : Nat → Nat → Int
  | _, 0 => 0
  | i, k + 1 => if ncode d i ≠ 0 then ncode d i else nfirst d (i + 1) k
def numsL (n : Nat) : List Int := (List.range n).map fun (i : Nat) => (i : Int) + 2
/-- The number of the first error of a diagram. -/
def dcode (d : DG) : Int :=
  if ocode d.order d.order.length ≠ 0 then ocode d.order d.order.length else if 4096 < d.nodes.length then 4
  else if nfirst d 0 d.nodes.length ≠ 0 then nfirst d 0 d.nodes.length else if d.root < 0 ∨ 1 + (d.nodes.length : Int) < d.root then 10
  else if numF d.nodes d.root.toNat d.root [] = numsL d.nodes.length then 0 else 2
theorem nfirst_step {d : DG} {i n : Nat} (h : i < n) (h0 : ncode d i = 0) : nfirst d i (n - i) = nfirst d (i + 1) (n - (i + 1)) := by
  obtain ⟨k, hk⟩ : ∃ k, n - i = k + 1 := ⟨n - i - 1, by omega⟩
  rw [hk, nfirst, if_neg (by simp [h0]), show n - (i + 1) = k from by omega]
theorem nfirst_at {d : DG} {i n : Nat} (h : i < n) (h0 : ncode d i ≠ 0) : nfirst d i (n - i) = ncode d i := by
  obtain ⟨k, hk⟩ : ∃ k, n - i = k + 1 := ⟨n - i - 1, by omega⟩
  rw [hk, nfirst, if_pos h0]
theorem nok_all {d : DG} (h : ∀ j, j < d.nodes.length → ncode d j = 0) : NsOk d.order.length d.nodes := fun i hi => by
  refine nok_of (d := d) (i := i) fun hr => ?_
  have := h i hi
  unfold ncode at this
  rw [if_pos hr] at this
  cases this
theorem numsL_len (n : Nat) : (numsL n).length = n := by simp [numsL]
theorem numsL_at {n i : Nat} (h : i < n) : (numsL n).getD i 0 = i + 2 := by
  rw [List.getD_eq_getElem?_getD]
  simp [numsL, h]
theorem listZ_ext {xs ys : List Int} (hl : xs.length = ys.length) (h : ∀ j, j < xs.length → xs.getD j 0 = ys.getD j 0) : xs = ys := by
  refine List.ext_getElem hl fun j h1 h2 => ?_
  have := h j h1
  rw [getDZ h1, getDZ h2] at this
  exact this
end Go.PN
namespace Go.AI
section
variable {E : Env} {K : List It} {σ σ' : Sl} {h : Heap}
/-- A slice that has grown is given up. -/
theorem aw_frzg {t s n e : Nat} {og : Option Nat} {f : Nat → CV} {pre : Heap} (ht : σ.get t = .c (gs og s n)) (hog : og = none → n = 0) (hh : h = pre ++ gh og e (n * s) f) (hp : ∀ g, og = some g → g ∉ pre.keys) (hn : ∀ g, ¬ E.C.own0 g) (hσ : σ.set t (.c (.row true s n f)) = σ') (k : aw E K σ' pre) : aw E K σ h := by
  subst hσ hh
  cases og with
  | none =>
    have hn0 := hog rfl
    subst hn0
    refine aw_conv (t := t) (v := .c (.row true s 0 f)) (fun S w u hr => ?_) rfl (by simpa [gh] using k)
    rw [ht] at hr
    obtain ⟨A, hv⟩ := hr
    exact ⟨A, 0, hv, by omega, fun h0 => absurd h0 (by omega)⟩
  | some g =>
    refine aw_frz (ty := e) (m := n * s) (f := f) ht (Heap.get_app (hp g rfl)) (by omega) (hn g) rfl (Heap.del_app (hp g rfl)) ?_
    simpa only [Nat.zero_add] using k
end
end Go.AI
namespace Go.Proofs.YtmfmnmkipjpjhaaGreat
open Go.AI Go.PN
attribute [local irreducible] aw Fa Fh DrK
set_option maxRecDepth 100000 in
set_option maxHeartbeats 1600000 in
theorem dcheckR_fa (d : DG) (hl : d.order.length ≤ 1099511627776) (hl2 : d.nodes.length ≤ 1099511627776) : Fa Tryz.prog 23 [.agg (dgc false d)] (.c (.int .i64 (dcode d))) := by
  unfold dcode
  refine fa_of_body Tryz.func23 rfl rfl (by simp [Tryz.ntmps23]) fun C hC => ?_
  simp only [initS, Nat.reduceAdd]
  refine xG ?_
  refine xB fun g1 hn_g1=>?_
  refine yG hn_g1 ?_
  refine yC hn_g1 (ocheckR_fa d.order d.order.length hl) ?_
  refine yG hn_g1 ?_
  refine yF hn_g1 (fun hb=>?_) fun hb=>?_
  · have hb' : ocode d.order d.order.length ≠ 0 := by simpa using hb
    refine yG hn_g1 ?_
    refine yT hC hn_g1 ?_
    exact .one (.c (ler_int (by rw [if_pos hb'])))
  · have hb' : ¬ ocode d.order d.order.length ≠ 0 := by simpa using hb
    rw [if_neg hb']
    refine yG hn_g1 ?_
    refine yF hn_g1 (fun hc=>?_) fun hc=>?_
    · have hc' := of_decide_eq_true hc
      refine yG hn_g1 ?_
      refine yT hC hn_g1 ?_
      exact .one (.c (ler_int (by rw [if_pos (by omega)])))
    · have hc' := of_decide_eq_false hc
      rw [if_neg (by omega)]
      refine yG hn_g1 ?_
      refine aw_lp (fun x : Nat => [(1, .c (.optr g1 0)), (4, .c (.int .i64 x))]) (fun x => [(g1, .cells 31 3 (ofL (dgc false d)))]) (fun x => x ≤ d.nodes.length ∧ (∀ j, j < x → ncode d j = 0) ∧ nfirst d x (d.nodes.length - x) = nfirst d 0 d.nodes.length) (fun x => d.nodes.length - x) 0 (zB hn_g1) zZ ⟨Nat.zero_le _, by omega, rfl⟩ ?_
      rintro i ⟨hi, hz, hf⟩
      refine yG hn_g1 ?_
      refine yF hn_g1 (fun h1=>?_) fun h1=>?_
      · have h1' : i < d.nodes.length := by have := of_decide_eq_true h1; omega
        refine yG hn_g1 ?_
        refine yC hn_g1 (nodeR_fa d i h1' hl hl2) ?_
        refine yG hn_g1 ?_
        refine yF hn_g1 (fun h2=>?_) fun h2=>?_
        · have h2' : ncode d i ≠ 0 := by simpa using h2
          refine yG hn_g1 ?_
          refine yT hC hn_g1 ?_
          rw [nfirst_at h1' h2'] at hf
          exact .one (.c (ler_int (by rw [← hf, if_pos h2'])))
        · have h2' : ncode d i = 0 := by simpa using h2
          refine yG hn_g1 ?_
          rw [nfirst_step h1' h2'] at hf
          refine aw_stop ⟨i + 1, by omega, (zB hn_g1), zZ, by omega, fun j hj => ?_, hf⟩
          rcases Nat.lt_succ_iff_lt_or_eq.1 hj with h | h
          · exact hz j h
          · rw [h]; exact h2'
      · have h1' : i = d.nodes.length := by have := of_decide_eq_false h1; omega
        subst h1'
        have hns := nok_all hz
        rw [Nat.sub_self, nfirst] at hf
        rw [← hf, if_neg (by simp)]
        refine yG hn_g1 ?_
        refine aw_split 37 (zE hn_g1) (fun h3 => ?_) (fun h3 => ?_) <;> refine yS hn_g1 ?_
        · have h3' := of_decide_eq_true h3
          refine yG hn_g1 ?_
          refine yP hn_g1 ?_
          refine yG hn_g1 ?_
          refine yT hC hn_g1 ?_
          exact .one (.c (ler_int (by rw [if_pos (.inl h3')])))
        · have h3' := of_decide_eq_false h3
          refine yG hn_g1 ?_
          refine yF hn_g1 (fun h4=>?_) fun h4=>?_
          · have h4' := of_decide_eq_true h4
            refine yG hn_g1 ?_
            refine yT hC hn_g1 ?_
            exact .one (.c (ler_int (by rw [if_pos (.inr h4')])))
          · have h4' := of_decide_eq_false h4
            rw [if_neg (by omega)]
            refine yG hn_g1 ?_
            refine aw_callh (hr := [(g1, AObj.cells 31 3 (ofL (dgc false d)))]) (number_fh d hns (by omega) d.root.toNat d.root [] none 0 (Nat.le_refl _) (by omega) (by omega) (by simp) (by simp) rfl (fun _ => rfl)) rfl rfl rfl (List.Perm.refl _) (zL hn_g1) ?_
            obtain ⟨a1, a2, a3⟩ := numF_bd hns d.root.toNat d.root [] (by omega) (by simp) (by simp)
            have hnl := nodup_range a1 a2
            generalize numF d.nodes d.root.toNat d.root [] = nl at *
            rintro _ _ ⟨og, n, hn, hog, rfl, rfl⟩ hk2
            subst hn
            refine yS hn_g1 ?_
            refine yH hn_g1 ?_
            refine aw_perm (List.perm_append_comm (l₂ := [(g1, AObj.cells 31 3 (ofL (dgc false d)))])) ?_
            refine aw_frzg (t := 6) (n := nl.length) (s := 1) (e := 3) (f := isF nl) (pre := [(g1, AObj.cells 31 3 (ofL (dgc false d)))]) (zE hn_g1) hog (by simp only [Nat.mul_one]) (fun g e hm => ?_) hC rfl ?_
            · subst e
              exact hk2 g (by simp [Heap.keys, gh]) hm
            refine yS hn_g1 ?_
            refine yG hn_g1 ?_
            refine yF hn_g1 (fun h5=>?_) fun h5=>?_
            · have h5' : ¬ nl.length = d.nodes.length := by have h5 := h5; simp at h5; omega
              refine yG hn_g1 ?_
              refine yT hC hn_g1 ?_
              exact .one (.c (ler_int (by rw [if_neg (fun e => h5' (by rw [e, numsL_len]))])))
            · have h5' : nl.length = d.nodes.length := by have h5 := h5; simp at h5; omega
              refine yG hn_g1 ?_
              refine aw_lp (fun x : Nat => [(6, .c (is true nl)), (7, .c (.int .i64 x))]) (fun x => []) (fun x => x ≤ nl.length ∧ (∀ j, j < x → nl.getD j 0 = j + 2)) (fun x => nl.length - x) 0 (zB hn_g1) (List.nil_sublist _) ⟨Nat.zero_le _, by omega⟩ ?_
              rintro i ⟨hi, hs⟩
              refine yG hn_g1 ?_
              refine yF hn_g1 (fun h6=>?_) fun h6=>?_
              · have h6' : i < nl.length := by have := of_decide_eq_true h6; omega
                refine yG hn_g1 ?_
                refine yF hn_g1 (fun h7=>?_) fun h7=>?_
                · have h7' : ¬ nl.getD i 0 = 2 + (i : Int) := by simpa using h7
                  refine yG hn_g1 ?_
                  refine yT hC hn_g1 ?_
                  exact .one (.c (ler_int (by rw [if_neg (fun e => h7' (by rw [e, numsL_at (by omega)]; omega))])))
                · have h7' : nl.getD i 0 = 2 + (i : Int) := by simpa using h7
                  refine yG hn_g1 ?_
                  refine aw_stop ⟨i + 1, by omega, (zB hn_g1), zZ, by omega, fun j hj => ?_⟩
                  rcases Nat.lt_succ_iff_lt_or_eq.1 hj with h | h
                  · exact hs j h
                  · rw [h, h7']; omega
              · have h6' : i = nl.length := by have := of_decide_eq_false h6; omega
                subst h6'
                refine yG hn_g1 ?_
                refine yT hC hn_g1 ?_
                refine .one (.c (ler_int ?_))
                rw [if_pos (listZ_ext (by rw [numsL_len, h5']) fun j hj => by rw [hs j hj, numsL_at (by omega)])]
end Go.Proofs.YtmfmnmkipjpjhaaGreat

/- faultlineref37: Check, CheckDiagram, CheckGiven, Given. -/
namespace Go.PN
open Go.AI
/-- The number of the first error of probabilities. -/
def pcode (p : List RD) (vars : Int) : Int := if (p.length : Int) ≠ vars then 11 else if p.all RD.prob then 0 else 3
/-- Of a diagram and probabilities. -/
def dpcode (d : DG) (p : List RD) : Int := if dcode d ≠ 0 then dcode d else pcode p d.order.length
/-- Of a condition. -/
noncomputable def gcode (p : List RD) (y n : Int) : Int := if ccode y n ≠ 0 then ccode y n else if (y.toNat ||| n.toNat) / 2 ^ p.length ≠ 0 then 10 else if wtTo y.toNat n.toNat p p.length = 0 then 8 else 0
def condR (y n i : Nat) (r : RD) : RD := if y.testBit i then rd 1 else if n.testBit i then rd0 else r
/-- The probabilities under a condition. -/
def condL (y n : Nat) (ps : List RD) : Nat → List RD
  | 0 => []
  | k + 1 => condL y n ps k ++ [condR y n k (ps.getD k rd0)]
theorem condL_len (y n : Nat) (ps : List RD) : ∀ k, (condL y n ps k).length = k
  | 0 => rfl
  | k + 1 => by simp [condL, condL_len y n ps k]
theorem rd0_wf {L : Nat} : rd0.wf L := ⟨by simp [rd0], by simp [rd0], by simp [rd0], by simp [rd0]⟩
theorem rd1_wf {L : Nat} (h : 1 ≤ L) : (rd 1).wf L := rd_wf (fits_mono fits_one h)
theorem condL_wf {y n : Nat} {ps : List RD} {L : Nat} (hL : 1 ≤ L) (h : ∀ r ∈ ps, r.wf L) : ∀ k, ∀ r ∈ condL y n ps k, r.wf L
  | 0, r, hr => by simp [condL] at hr
  | k + 1, r, hr => by
    rcases List.mem_append.1 hr with hr | hr
    · exact condL_wf hL h k r hr
    · simp only [List.mem_singleton] at hr
      subst hr
      unfold condR
      split
      · exact rd1_wf hL
      · split
        · exact rd0_wf
        · exact getD_wf h k
theorem ccode_nat {y n : Int} (h : ccode y n = 0) : ∃ a b : Nat, y = a ∧ n = b ∧ a < 16777216 ∧ b < 16777216 := by
  unfold ccode at h
  split at h
  · cases h
  · rename_i h1
    simp [maskB] at h1
    exact ⟨y.toNat, n.toNat, by omega, by omega, by omega, by omega⟩
theorem sgn0 {q : Rat} : (signQ q == 0) = decide (q = 0) := by
  rw [Bool.eq_iff_iff]
  simp only [beq_iff_eq, decide_eq_true_eq]
  unfold signQ
  constructor
  · intro h
    grind
  · rintro rfl; simp
end Go.PN
namespace Go.AI
open Go.PN
theorem zero_agg : ∀ (S : Bool → Nat → Prop) (w : World) (u : Value), Rep S w (.agg [.bool false, .nils, .nils]) u → Rep S w (.agg [.bool rd0.neg, ws true rd0.num, ws true rd0.den]) u := by
  rintro S w u ⟨us, rfl, h⟩
  refine ⟨us, rfl, ?_⟩
  match us, h with
  | [a, b, c], ⟨h1, h2, h3, _⟩ => exact ⟨h1, repC_nil h2, repC_nil h3, trivial⟩
end Go.AI
namespace Go.Proofs.YtmfmnmkipjpjhaaGreat
open Go.AI Go.PN
attribute [local irreducible] aw Fa Fh DrK
set_option maxHeartbeats 800000 in
theorem check37_fa (p : List RD) (vars : Int) (hw : ∀ r ∈ p, r.wf 500000000) (hl : p.length ≤ 1099511627776) : Fa Tryz.prog 9 [.c (rats false p), .c (.int .i64 vars)] (.c (.int .i64 (pcode p vars))) := by
  unfold pcode
  refine fa_of_body Tryz.func9 rfl rfl (by simp [Tryz.ntmps9]) fun C hC => ?_
  simp only [initS, Nat.reduceAdd]
  refine xG ?_
  refine xF (fun hb=>?_) fun hb=>?_
  · have hb' : (p.length : Int) ≠ vars := by simpa using hb
    refine xG ?_
    refine xT hC ?_
    exact .one (.c (ler_int (by rw [if_pos hb'])))
  · have hb' : (p.length : Int) = vars := by simpa using hb
    rw [if_neg (by omega)]
    refine xG ?_
    refine aw_lp (fun x : Nat => [(0, .c (rats false p)), (5, .c (.int .i64 x))]) (fun x => []) (fun x => x ≤ p.length ∧ ∀ j, j < x → (p.getD j rd0).prob = true) (fun x => p.length - x) 0 eB zZ ⟨Nat.zero_le _, by omega⟩ ?_
    rintro i ⟨hi, hs⟩
    refine xG ?_
    refine xF (fun h1=>?_) fun h1=>?_
    · have h1' : i < p.length := by have := of_decide_eq_true h1; omega
      have hmem : p.getD i rd0 ∈ p := by rw [List.getD_eq_getElem?_getD, List.getElem?_eq_getElem h1']; exact List.getElem_mem h1'
      refine xG ?_
      refine xC (sprob_fa (p.getD i rd0) (getD_wf hw i)) ?_
      refine xG ?_
      refine xF (fun h2=>?_) fun h2=>?_
      · have h2' : (p.getD i rd0).prob = false := by simpa using h2
        refine xG ?_
        refine xT hC ?_
        exact .one (.c (ler_int (by rw [if_neg (fun h => by rw [List.all_eq_true.1 h _ hmem] at h2'; cases h2')])))
      · have h2' : (p.getD i rd0).prob = true := by simpa using h2
        refine xG ?_
        refine aw_stop ⟨i + 1, by omega, eB, zZ, by omega, fun j hj => ?_⟩
        rcases Nat.lt_succ_iff_lt_or_eq.1 hj with h | h
        · exact hs j h
        · rw [h, h2']
    · have h1' : i = p.length := by have := of_decide_eq_false h1; omega
      subst h1'
      refine xG ?_
      refine xT hC ?_
      refine .one (.c (ler_int ?_))
      rw [if_pos]
      refine List.all_eq_true.2 fun x hx => ?_
      obtain ⟨j, hj, e⟩ := List.mem_iff_getElem.1 hx
      have := hs j hj
      rw [List.getD_eq_getElem?_getD, List.getElem?_eq_getElem hj, Option.getD_some, e] at this
      exact this
theorem condR_cast {y n i : Nat} {r : RD} : condR y n i r = if y.testBit i then rd ((1 : Int) : Rat) else if n.testBit i then rd0 else r := rfl
end Go.Proofs.YtmfmnmkipjpjhaaGreat
