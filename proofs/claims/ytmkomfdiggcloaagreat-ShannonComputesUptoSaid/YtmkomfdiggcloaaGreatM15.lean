/- Texts of one proof, laid one behind the other by a program (merge.py): Ord, PCub, Cub. -/
import Derived.Test.YtmkomfdiggcloaaGreatM14
set_option linter.unusedSimpArgs false
set_option linter.unusedVariables false
/- faultlineref14: Place, Check; order: Check, places, Positions. -/
namespace Go.AI
open Go.PN
theorem updF_is {zs : List Int} {i : Nat} {v : Int} (hi : i < zs.length) : updF (isF zs) i [.int .i64 v] = isF (zs.set i v) := by
  funext j
  simp only [updF]
  by_cases e : j = i
  · subst e; simp [hi, isF]
  · rw [if_neg e]
    show CV.int .i64 (zs.getD j 0) = CV.int .i64 ((zs.set i v).getD j 0)
    rw [List.getD_eq_getElem?_getD, List.getD_eq_getElem?_getD, List.getElem?_set_ne (fun h => e h.symm)]
theorem updF_bs {zs : List Bool} {i : Nat} {v : Bool} (hi : i < zs.length) : updF (bsF zs) i [.bool v] = bsF (zs.set i v) := by
  funext j
  simp only [updF]
  by_cases e : j = i
  · subst e; simp [hi, bsF]
  · rw [if_neg e]
    show CV.bool (zs.getD j false) = CV.bool ((zs.set i v).getD j false)
    rw [List.getD_eq_getElem?_getD, List.getD_eq_getElem?_getD, List.getElem?_set_ne (fun h => e h.symm)]
theorem make_is (n : Nat) : (fun j => ofL [CV.int .i64 0] (j % 1)) = isF (List.replicate n 0) := by
  funext j
  show ofL [CV.int .i64 0] (j % 1) = CV.int .i64 ((List.replicate n 0).getD j 0)
  rw [Nat.mod_one, List.getD_eq_getElem?_getD, List.getElem?_replicate]
  split <;> rfl
theorem make_bs (n : Nat) : (fun j => ofL [CV.bool false] (j % 1)) = bsF (List.replicate n false) := by
  funext j
  show ofL [CV.bool false] (j % 1) = CV.bool ((List.replicate n false).getD j false)
  rw [Nat.mod_one, List.getD_eq_getElem?_getD, List.getElem?_replicate]
  split <;> rfl
theorem ler_oslis {h : Heap} {t : Bool} {g n : Nat} {ty : TypeId} {ys : List Int} (hg : h.get g = some (.cells ty n (isF ys))) (hn : n = ys.length) : LeR h (.osl g 1 0 n) (is t ys) := by
  subst hn
  exact .osl hg (by omega) (fun j _ => by rw [Nat.zero_add]; exact .int _ _)
end Go.AI
namespace Go.Proofs.YtmkomfdiggcloaaGreat
open Go.AI Go.PN
attribute [local irreducible] aw Fa Fh DrK
theorem place_none {l : List Int} {n : Int} (h : ∀ j, j < l.length → l.getD j 0 ≠ n) : placeZ l n = -1 := by
  unfold placeZ
  rw [if_neg]
  intro hm
  obtain ⟨k, hk, e⟩ := List.mem_iff_getElem.1 hm
  exact h k hk (by rw [getDZ hk, e])
theorem place_at {l : List Int} {n : Int} {i : Nat} (hi : i < l.length) (he : l.getD i 0 = n) (h : ∀ j, j < i → l.getD j 0 ≠ n) : placeZ l n = i := by
  unfold placeZ
  have hm : n ∈ l := by rw [← he, getDZ hi]; exact List.getElem_mem hi
  rw [if_pos hm]
  congr 1
  have h1 : l.idxOf n < l.length := List.idxOf_lt_length_of_mem hm
  have h2 : l[l.idxOf n] = n := List.getElem_idxOf h1
  rcases Nat.lt_trichotomy (l.idxOf n) i with hlt | heq | hgt
  · exact absurd (by rw [getDZ h1]; exact h2) (h _ hlt)
  · exact heq
  · have := List.not_of_lt_findIdx (p := fun x => x == n) (xs := l) (i := i) hgt
    rw [getDZ hi] at he
    simp [he] at this
set_option maxHeartbeats 400000 in
theorem place_fa (l : List Int) (n : Int) (hl : l.length ≤ 1099511627776) : Fa Tryz.prog 142 [.c (is false l), .c (.int .i64 n)] (.c (.int .i64 (placeZ l n))) := by
  refine fa_of_body Tryz.func142 rfl rfl (by simp [Tryz.ntmps142]) fun C hC => ?_
  simp only [initS, Nat.reduceAdd]
  repeat first|apply wa1|apply wa2|apply wa3|apply wa4|apply wa5 rfl|apply wa6|apply wa7|(refine wb1 rfl fun R r=>?_;simp only[go_sem];with_reducible refine r _ _ ?_;clear r R)
  refine aw_lp (fun i : Nat => [(0, .c (is false l)), (1, .c (.int .i64 n)), (5, .c (.int .i64 i))]) (fun _ => []) (fun i => i ≤ l.length ∧ ∀ j, j < i → l.getD j 0 ≠ n) (fun i => l.length - i) 0 (by simp only[go_sem]<;>and_intros<;>first|exact True.intro|(with_reducible rfl)|exact c_int (by omega)|rfl) (List.Sublist.refl _) ⟨Nat.zero_le _, fun j hj => by omega⟩ ?_
  rintro i ⟨hi, hs⟩
  repeat first|apply wa1|apply wa2|apply wa3|apply wa4|apply wa5 rfl|apply wa6|apply wa7|(refine wb1 rfl fun R r=>?_;simp only[go_sem];with_reducible refine r _ _ ?_;clear r R)
  refine aw_cond (by simp only[go_sem]<;>rfl) (fun hb => ?_) (fun hb => ?_)
  · have hin : i < l.length := by have := of_decide_eq_true hb; omega
    repeat first|apply wa1|apply wa2|apply wa3|apply wa4|apply wa5 rfl|apply wa6|apply wa7|(refine wb1 rfl fun R r=>?_;simp only[go_sem];with_reducible refine r _ _ ?_;clear r R)
    refine aw_cond (by simp only[go_sem]<;>rfl) (fun hc => ?_) (fun hc => ?_)
    · repeat first|apply wa1|apply wa2|apply wa3|apply wa4|apply wa5 rfl|apply wa6|apply wa7|(refine wb1 rfl fun R r=>?_;simp only[go_sem];with_reducible refine r _ _ ?_;clear r R)
      (refine aw_retq hC rfl fun R r=>?_;simp only[go_sem];refine r _ rfl ?_;clear r R)
      exact .one (.c (ler_int (place_at hin (eq_of_beq hc) hs).symm))
    · have hne : l.getD i 0 ≠ n := fun e => by rw [e] at hc; simp at hc
      repeat first|apply wa1|apply wa2|apply wa3|apply wa4|apply wa5 rfl|apply wa6|apply wa7|(refine wb1 rfl fun R r=>?_;simp only[go_sem];with_reducible refine r _ _ ?_;clear r R)
      refine aw_stop ⟨i + 1, by omega, (by simp only[go_sem]<;>and_intros<;>first|exact True.intro|(with_reducible rfl)|exact c_int (by omega)|rfl), (List.Sublist.refl _), by omega, fun j hj => ?_⟩
      by_cases hji : j = i
      · rw [hji]; exact hne
      · exact hs j (by omega)
  · have hin : i = l.length := by have := of_decide_eq_false hb; omega
    subst hin
    repeat first|apply wa1|apply wa2|apply wa3|apply wa4|apply wa5 rfl|apply wa6|apply wa7|(refine wb1 rfl fun R r=>?_;simp only[go_sem];with_reducible refine r _ _ ?_;clear r R)
    (refine aw_retq hC rfl fun R r=>?_;simp only[go_sem];refine r _ rfl ?_;clear r R)
    exact .one (.c (ler_int (place_none hs).symm))
set_option maxHeartbeats 1600000 in
theorem ocheckR_fa (o : List Int) (vars : Int) (hl : o.length ≤ 1099511627776) : Fa Tryz.prog 57 [.c (is false o), .c (.int .i64 vars)] (.c (.int .i64 (ocode o vars))) := by
  refine fa_of_body Tryz.func57 rfl rfl (by simp [Tryz.ntmps57]) fun C hC => ?_
  simp only [initS, Nat.reduceAdd]
  repeat first|apply wa1|apply wa2|apply wa3|apply wa4|apply wa5 rfl|apply wa6|apply wa7|(refine wb1 rfl fun R r=>?_;simp only[go_sem];with_reducible refine r _ _ ?_;clear r R)
  by_cases hv0 : vars < 0
  · have e1 : decide (vars < 0) = true := by simp [hv0]
    repeat first|apply wa1|apply wa2|apply wa3|apply wa4|apply wa5 rfl|apply wa6|apply wa7|(refine wb1 rfl fun R r=>?_;simp only[go_sem, e1];with_reducible refine r _ _ ?_;clear r R)
    refine aw_condT (by simp only[go_sem, e1]<;>rfl) ?_
    repeat first|apply wa1|apply wa2|apply wa3|apply wa4|apply wa5 rfl|apply wa6|apply wa7|(refine wb1 rfl fun R r=>?_;simp only[go_sem, e1];with_reducible refine r _ _ ?_;clear r R)
    (refine aw_retq hC rfl fun R r=>?_;simp only[go_sem, e1];refine r _ rfl ?_;clear r R)
    exact .one (.c (ler_int (by unfold ocode; rw [if_pos (.inl hv0)])))
  have e1 : decide (vars < 0) = false := by simp [hv0]
  repeat first|apply wa1|apply wa2|apply wa3|apply wa4|apply wa5 rfl|apply wa6|apply wa7|(refine wb1 rfl fun R r=>?_;simp only[go_sem, e1];with_reducible refine r _ _ ?_;clear r R)
  refine aw_cond (by simp only[go_sem, e1]<;>rfl) (fun hb => ?_) (fun hb => ?_)
  · have := of_decide_eq_true hb
    repeat first|apply wa1|apply wa2|apply wa3|apply wa4|apply wa5 rfl|apply wa6|apply wa7|(refine wb1 rfl fun R r=>?_;simp only[go_sem, e1];with_reducible refine r _ _ ?_;clear r R)
    (refine aw_retq hC rfl fun R r=>?_;simp only[go_sem, e1];refine r _ rfl ?_;clear r R)
    exact .one (.c (ler_int (by unfold ocode; rw [if_pos (.inr (by omega))])))
  have hv24 : vars ≤ 24 := by have := of_decide_eq_false hb; omega
  repeat first|apply wa1|apply wa2|apply wa3|apply wa4|apply wa5 rfl|apply wa6|apply wa7|(refine wb1 rfl fun R r=>?_;simp only[go_sem, e1];with_reducible refine r _ _ ?_;clear r R)
  refine aw_cond (by simp only[go_sem, e1]<;>rfl) (fun hc => ?_) (fun hc => ?_)
  · have hne : (o.length : Int) ≠ vars := fun e => by rw [e] at hc; simp at hc
    repeat first|apply wa1|apply wa2|apply wa3|apply wa4|apply wa5 rfl|apply wa6|apply wa7|(refine wb1 rfl fun R r=>?_;simp only[go_sem, e1];with_reducible refine r _ _ ?_;clear r R)
    (refine aw_retq hC rfl fun R r=>?_;simp only[go_sem, e1];refine r _ rfl ?_;clear r R)
    exact .one (.c (ler_int (by unfold ocode; rw [if_neg (by omega), if_pos hne])))
  have hlen : (o.length : Int) = vars := by
    have : ((o.length : Int) == vars) = true := by simpa [bne] using hc
    exact eq_of_beq this
  have hcode : ocode o vars = oscan vars [] o := by unfold ocode; rw [if_neg (by omega), if_neg (by omega)]
  rw [hcode]
  repeat first|apply wa1|apply wa2|apply wa3|apply wa4|apply wa5 rfl|apply wa6|apply wa7|(refine wb1 rfl fun R r=>?_;simp only[go_sem, e1];with_reducible refine r _ _ ?_;clear r R)
  refine aw_lp (fun i : Nat => [(0, .c (is false o)), (1, .c (.int .i64 vars)), (5, .c (.int .i64 i))]) (fun _ => []) (fun i => i ≤ o.length ∧ oscan vars (o.take i) (o.drop i) = oscan vars [] o) (fun i => o.length - i) 0 (by simp only[go_sem, e1]<;>and_intros<;>first|exact True.intro|(with_reducible rfl)|exact c_int (by omega)|rfl) (List.Sublist.refl _) ⟨Nat.zero_le _, by simp⟩ ?_
  rintro i ⟨hi, hs⟩
  repeat first|apply wa1|apply wa2|apply wa3|apply wa4|apply wa5 rfl|apply wa6|apply wa7|(refine wb1 rfl fun R r=>?_;simp only[go_sem, e1];with_reducible refine r _ _ ?_;clear r R)
  refine aw_cond (by simp only[go_sem, e1]<;>rfl) (fun hb1 => ?_) (fun hb1 => ?_)
  · have hin : i < o.length := by have := of_decide_eq_true hb1; omega
    rw [oscan_step hin] at hs
    repeat first|apply wa1|apply wa2|apply wa3|apply wa4|apply wa5 rfl|apply wa6|apply wa7|(refine wb1 rfl fun R r=>?_;simp only[go_sem, e1];with_reducible refine r _ _ ?_;clear r R)
    by_cases hx0 : o.getD i 0 < 0
    · have e2 : decide (o.getD i 0 < 0) = true := decide_eq_true hx0
      repeat first|apply wa1|apply wa2|apply wa3|apply wa4|apply wa5 rfl|apply wa6|apply wa7|(refine wb1 rfl fun R r=>?_;simp only[go_sem, e1, e2];with_reducible refine r _ _ ?_;clear r R)
      refine aw_condT (by simp only[go_sem, e1, e2]<;>rfl) ?_
      repeat first|apply wa1|apply wa2|apply wa3|apply wa4|apply wa5 rfl|apply wa6|apply wa7|(refine wb1 rfl fun R r=>?_;simp only[go_sem, e1, e2];with_reducible refine r _ _ ?_;clear r R)
      (refine aw_retq hC rfl fun R r=>?_;simp only[go_sem, e1, e2];refine r _ rfl ?_;clear r R)
      exact .one (.c (ler_int (by rw [← hs, if_pos (.inl hx0)])))
    have e2 : decide (o.getD i 0 < 0) = false := decide_eq_false hx0
    repeat first|apply wa1|apply wa2|apply wa3|apply wa4|apply wa5 rfl|apply wa6|apply wa7|(refine wb1 rfl fun R r=>?_;simp only[go_sem, e1, e2];with_reducible refine r _ _ ?_;clear r R)
    refine aw_cond (by simp only[go_sem, e1, e2]<;>rfl) (fun hx1 => ?_) (fun hx1 => ?_)
    · have hx1' := of_decide_eq_true hx1
      repeat first|apply wa1|apply wa2|apply wa3|apply wa4|apply wa5 rfl|apply wa6|apply wa7|(refine wb1 rfl fun R r=>?_;simp only[go_sem, e1, e2];with_reducible refine r _ _ ?_;clear r R)
      (refine aw_retq hC rfl fun R r=>?_;simp only[go_sem, e1, e2];refine r _ rfl ?_;clear r R)
      exact .one (.c (ler_int (by rw [← hs, if_pos (.inr hx1')])))
    have hx1' : ¬ vars ≤ o.getD i 0 := of_decide_eq_false hx1
    rw [if_neg (by omega)] at hs
    repeat first|apply wa1|apply wa2|apply wa3|apply wa4|apply wa5 rfl|apply wa6|apply wa7|(refine wb1 rfl fun R r=>?_;simp only[go_sem, e1, e2];with_reducible refine r _ _ ?_;clear r R)
    refine aw_lp (fun k : Nat => [(0, .c (is false o)), (1, .c (.int .i64 vars)), (5, .c (.int .i64 i)), (6, .c (.int .i64 k))]) (fun _ => []) (fun k => k ≤ i ∧ ∀ j, j < k → o.getD j 0 ≠ o.getD i 0) (fun k => i - k) 0 (by simp only[go_sem, e1, e2]<;>and_intros<;>first|exact True.intro|(with_reducible rfl)|exact c_int (by omega)|rfl) (List.Sublist.refl _) ⟨Nat.zero_le _, fun j hj => by omega⟩ ?_
    rintro k ⟨hk, hks⟩
    repeat first|apply wa1|apply wa2|apply wa3|apply wa4|apply wa5 rfl|apply wa6|apply wa7|(refine wb1 rfl fun R r=>?_;simp only[go_sem, e1, e2];with_reducible refine r _ _ ?_;clear r R)
    refine aw_cond (by simp only[go_sem, e1, e2]<;>rfl) (fun hb2 => ?_) (fun hb2 => ?_)
    · have hki : k < i := by have := of_decide_eq_true hb2; omega
      repeat first|apply wa1|apply wa2|apply wa3|apply wa4|apply wa5 rfl|apply wa6|apply wa7|(refine wb1 rfl fun R r=>?_;simp only[go_sem, e1, e2];with_reducible refine r _ _ ?_;clear r R)
      refine aw_dr 9 ty_mixed (by kernel_rfl) ?_
      repeat first|apply wa1|apply wa2|apply wa3|apply wa4|apply wa5 rfl|apply wa6|apply wa7|(refine wb1 rfl fun R r=>?_;simp only[go_sem, e1, e2];with_reducible refine r _ _ ?_;clear r R)|apply wa8|(refine wd1 rfl fun R r=>?_;simp only[go_sem, e1, e2];with_reducible refine r _ _ ?_;clear r R)
      refine aw_cond (by simp only[go_sem, e1, e2]<;>rfl) (fun he => ?_) (fun he => ?_)
      · have he' := eq_of_beq he
        repeat first|apply wa1|apply wa2|apply wa3|apply wa4|apply wa5 rfl|apply wa6|apply wa7|(refine wb1 rfl fun R r=>?_;simp only[go_sem, e1, e2];with_reducible refine r _ _ ?_;clear r R)|apply wa8|(refine wd1 rfl fun R r=>?_;simp only[go_sem, e1, e2];with_reducible refine r _ _ ?_;clear r R)
        (refine aw_retq hC rfl fun R r=>?_;simp only[go_sem, e1, e2];refine r _ rfl ?_;clear r R)
        exact .one (.c (ler_int (by rw [← hs, if_pos (take_memZ.2 ⟨k, hki, by omega, he'⟩)])))
      · have hne : o.getD k 0 ≠ o.getD i 0 := fun e => by rw [e] at he; simp at he
        repeat first|apply wa1|apply wa2|apply wa3|apply wa4|apply wa5 rfl|apply wa6|apply wa7|(refine wb1 rfl fun R r=>?_;simp only[go_sem, e1, e2];with_reducible refine r _ _ ?_;clear r R)|apply wa8|(refine wd1 rfl fun R r=>?_;simp only[go_sem, e1, e2];with_reducible refine r _ _ ?_;clear r R)
        refine aw_stop ⟨k + 1, by omega, (by simp only[go_sem, e1, e2]<;>and_intros<;>first|exact True.intro|(with_reducible rfl)|exact c_int (by omega)|rfl), (List.Sublist.refl _), by omega, fun j hj => ?_⟩
        by_cases hji : j = k
        · rw [hji]; exact hne
        · exact hks j (by omega)
    · have hki : k = i := by have := of_decide_eq_false hb2; omega
      subst hki
      rw [if_neg (fun hm => by obtain ⟨j, h1, _, h3⟩ := take_memZ.1 hm; exact hks j h1 h3)] at hs
      repeat first|apply wa1|apply wa2|apply wa3|apply wa4|apply wa5 rfl|apply wa6|apply wa7|(refine wb1 rfl fun R r=>?_;simp only[go_sem, e1, e2];with_reducible refine r _ _ ?_;clear r R)
      exact aw_stop ⟨k + 1, by omega, (by simp only[go_sem, e1, e2]<;>and_intros<;>first|exact True.intro|(with_reducible rfl)|exact c_int (by omega)|rfl), (List.Sublist.refl _), by omega, hs⟩
  · have hin : i = o.length := by have := of_decide_eq_false hb1; omega
    subst hin
    repeat first|apply wa1|apply wa2|apply wa3|apply wa4|apply wa5 rfl|apply wa6|apply wa7|(refine wb1 rfl fun R r=>?_;simp only[go_sem, e1];with_reducible refine r _ _ ?_;clear r R)
    (refine aw_retq hC rfl fun R r=>?_;simp only[go_sem, e1];refine r _ rfl ?_;clear r R)
    exact .one (.c (ler_int (by rw [← hs, List.drop_length]; rfl)))
set_option maxHeartbeats 1600000 in
theorem ocheck_fa (o : List Int) (vars : Int) (hl : o.length ≤ 1099511627776) : Fa Tryz.prog 112 [.c (is false o), .c (.int .i64 vars)] (.c (errA (ocode o vars))) := by
  refine fa_of_body Tryz.func112 rfl rfl (by simp [Tryz.ntmps112]) fun C hC => ?_
  simp only [initS, Nat.reduceAdd]
  repeat first|apply wa1|apply wa2|apply wa3|apply wa4|apply wa5 rfl|apply wa6|apply wa7|(refine wb1 rfl fun R r=>?_;simp only[go_sem];with_reducible refine r _ _ ?_;clear r R)
  by_cases hv0 : vars < 0
  · have e1 : decide (vars < 0) = true := by simp [hv0]
    repeat first|apply wa1|apply wa2|apply wa3|apply wa4|apply wa5 rfl|apply wa6|apply wa7|(refine wb1 rfl fun R r=>?_;simp only[go_sem, e1];with_reducible refine r _ _ ?_;clear r R)
    refine aw_condT (by simp only[go_sem, e1]<;>rfl) ?_
    repeat first|apply wa1|apply wa2|apply wa3|apply wa4|apply wa5 rfl|apply wa6|apply wa7|(refine wb1 rfl fun R r=>?_;simp only[go_sem, e1];with_reducible refine r _ _ ?_;clear r R)
    (refine aw_retq hC rfl fun R r=>?_;simp only[go_sem, e1];refine r _ rfl ?_;clear r R)
    exact .one (.c (ler_errN (by unfold ocode; rw [if_pos (.inl hv0)]) (by unfold ocode; rw [if_pos (.inl hv0)]; omega)))
  have e1 : decide (vars < 0) = false := by simp [hv0]
  repeat first|apply wa1|apply wa2|apply wa3|apply wa4|apply wa5 rfl|apply wa6|apply wa7|(refine wb1 rfl fun R r=>?_;simp only[go_sem, e1];with_reducible refine r _ _ ?_;clear r R)
  refine aw_cond (by simp only[go_sem, e1]<;>rfl) (fun hb => ?_) (fun hb => ?_)
  · have := of_decide_eq_true hb
    repeat first|apply wa1|apply wa2|apply wa3|apply wa4|apply wa5 rfl|apply wa6|apply wa7|(refine wb1 rfl fun R r=>?_;simp only[go_sem, e1];with_reducible refine r _ _ ?_;clear r R)
    (refine aw_retq hC rfl fun R r=>?_;simp only[go_sem, e1];refine r _ rfl ?_;clear r R)
    exact .one (.c (ler_errN (by unfold ocode; rw [if_pos (.inr (by omega))]) (by unfold ocode; rw [if_pos (.inr (by omega))]; omega)))
  have hv24 : vars ≤ 24 := by have := of_decide_eq_false hb; omega
  repeat first|apply wa1|apply wa2|apply wa3|apply wa4|apply wa5 rfl|apply wa6|apply wa7|(refine wb1 rfl fun R r=>?_;simp only[go_sem, e1];with_reducible refine r _ _ ?_;clear r R)
  refine aw_cond (by simp only[go_sem, e1]<;>rfl) (fun hc => ?_) (fun hc => ?_)
  · have hne : (o.length : Int) ≠ vars := fun e => by rw [e] at hc; simp at hc
    repeat first|apply wa1|apply wa2|apply wa3|apply wa4|apply wa5 rfl|apply wa6|apply wa7|(refine wb1 rfl fun R r=>?_;simp only[go_sem, e1];with_reducible refine r _ _ ?_;clear r R)
    (refine aw_retq hC rfl fun R r=>?_;simp only[go_sem, e1];refine r _ rfl ?_;clear r R)
    exact .one (.c (ler_errN (by unfold ocode; rw [if_neg (by omega), if_pos hne]) (by unfold ocode; rw [if_neg (by omega), if_pos hne]; omega)))
  have hlen : (o.length : Int) = vars := by
    have : ((o.length : Int) == vars) = true := by simpa [bne] using hc
    exact eq_of_beq this
  have hcode : ocode o vars = oscan vars [] o := by unfold ocode; rw [if_neg (by omega), if_neg (by omega)]
  rw [hcode]
  repeat first|apply wa1|apply wa2|apply wa3|apply wa4|apply wa5 rfl|apply wa6|apply wa7|(refine wb1 rfl fun R r=>?_;simp only[go_sem, e1];with_reducible refine r _ _ ?_;clear r R)
  refine aw_make (n := o.length) (c := o.length) (size := 1) (z := [.bool false]) rfl rfl rfl (by simp only[go_sem, e1]<;>rfl) (by simp only[go_sem, e1]<;>rfl) rfl (by omega) (by simp only[go_sem, e1]<;>rfl) (by simp only[go_sem, e1]<;>rfl) hlen.symm hlen.symm (by omega) (by omega) (by omega) fun g hg => ?_
  rw [make_bs o.length]
  (try simp only[go_sem, e1])
  repeat first|apply wa1|apply wa2|apply wa3|apply wa4|apply wa5 rfl|apply wa6|apply wa7|(refine wb1 rfl fun R r=>?_;simp only[go_sem, e1];with_reducible refine r _ _ ?_;clear r R)
  refine aw_lp (fun x : Nat × List Bool => [(1, .c (.int .i64 vars)), (5, .c (.osl g 1 0 o.length)), (24, .c (is false o)), (25, .c (.int .i64 o.length)), (26, .c (.int .i64 x.1))]) (fun x => [(g, .cells 4 o.length (bsF x.2))])
    (fun x => x.1 ≤ o.length ∧ oscan vars (o.take x.1) (o.drop x.1) = oscan vars [] o ∧ x.2.length = o.length ∧ ∀ j : Nat, j < o.length → (x.2.getD j false = decide ((j : Int) ∈ o.take x.1))) (fun x => o.length - x.1) (0, List.replicate o.length false) (by simp only[go_sem, e1]<;>and_intros<;>first|exact True.intro|(with_reducible rfl)|exact c_int (by omega)|rfl) (List.Sublist.refl _) ⟨Nat.zero_le _, by simp, by simp, fun j hj => by rw [List.getD_eq_getElem?_getD, List.getElem?_replicate]; simp [hj]⟩ ?_
  rintro ⟨i, zs⟩ ⟨hi, hs, hzl, hz⟩
  dsimp only at hi hs hzl hz ⊢
  repeat first|apply wa1|apply wa2|apply wa3|apply wa4|apply wa5 rfl|apply wa6|apply wa7|(refine wb1 rfl fun R r=>?_;simp only[go_sem, e1];with_reducible refine r _ _ ?_;clear r R)
  refine aw_cond (by simp only[go_sem, e1]<;>rfl) (fun hb1 => ?_) (fun hb1 => ?_)
  · have hin : i < o.length := by have := of_decide_eq_true hb1; omega
    rw [oscan_step hin] at hs
    repeat first|apply wa1|apply wa2|apply wa3|apply wa4|apply wa5 rfl|apply wa6|apply wa7|(refine wb1 rfl fun R r=>?_;simp only[go_sem, e1];with_reducible refine r _ _ ?_;clear r R)
    by_cases hx0 : o.getD i 0 < 0
    · have e2 : decide (o.getD i 0 < 0) = true := decide_eq_true hx0
      repeat first|apply wa1|apply wa2|apply wa3|apply wa4|apply wa5 rfl|apply wa6|apply wa7|(refine wb1 rfl fun R r=>?_;simp only[go_sem, e1, e2];with_reducible refine r _ _ ?_;clear r R)
      refine aw_condT (by simp only[go_sem, e1, e2]<;>rfl) ?_
      repeat first|apply wa1|apply wa2|apply wa3|apply wa4|apply wa5 rfl|apply wa6|apply wa7|(refine wb1 rfl fun R r=>?_;simp only[go_sem, e1, e2];with_reducible refine r _ _ ?_;clear r R)
      (refine aw_retq hC rfl fun R r=>?_;simp only[go_sem, e1, e2];refine r _ rfl ?_;clear r R)
      rw [if_pos (.inl hx0)] at hs
      exact .one (.c (ler_errN hs (by omega)))
    have e2 : decide (o.getD i 0 < 0) = false := decide_eq_false hx0
    repeat first|apply wa1|apply wa2|apply wa3|apply wa4|apply wa5 rfl|apply wa6|apply wa7|(refine wb1 rfl fun R r=>?_;simp only[go_sem, e1, e2];with_reducible refine r _ _ ?_;clear r R)
    refine aw_cond (by simp only[go_sem, e1, e2]<;>rfl) (fun hx1 => ?_) (fun hx1 => ?_)
    · have hx1' := of_decide_eq_true hx1
      repeat first|apply wa1|apply wa2|apply wa3|apply wa4|apply wa5 rfl|apply wa6|apply wa7|(refine wb1 rfl fun R r=>?_;simp only[go_sem, e1, e2];with_reducible refine r _ _ ?_;clear r R)
      (refine aw_retq hC rfl fun R r=>?_;simp only[go_sem, e1, e2];refine r _ rfl ?_;clear r R)
      rw [if_pos (.inr hx1')] at hs
      exact .one (.c (ler_errN hs (by omega)))
    have hx1' : ¬ vars ≤ o.getD i 0 := of_decide_eq_false hx1
    rw [if_neg (by omega)] at hs
    have hzi := hz (o.getD i 0).toNat (by omega)
    rw [show (((o.getD i 0).toNat : Nat) : Int) = o.getD i 0 from by omega] at hzi
    repeat first|apply wa1|apply wa2|apply wa3|apply wa4|apply wa5 rfl|apply wa6|apply wa7|(refine wb1 rfl fun R r=>?_;simp only[go_sem, e1, e2];with_reducible refine r _ _ ?_;clear r R)
    refine aw_cond (by simp only[go_sem, e1, e2]<;>rfl) (fun ht => ?_) (fun ht => ?_)
    · rw [ht] at hzi
      have hm := of_decide_eq_true hzi.symm
      repeat first|apply wa1|apply wa2|apply wa3|apply wa4|apply wa5 rfl|apply wa6|apply wa7|(refine wb1 rfl fun R r=>?_;simp only[go_sem, e1, e2];with_reducible refine r _ _ ?_;clear r R)
      (refine aw_retq hC rfl fun R r=>?_;simp only[go_sem, e1, e2];refine r _ rfl ?_;clear r R)
      rw [if_pos hm] at hs
      exact .one (.c (ler_errN hs (by omega)))
    · rw [ht] at hzi
      have hm := of_decide_eq_false hzi.symm
      rw [if_neg hm] at hs
      repeat first|apply wa1|apply wa2|apply wa3|apply wa4|apply wa5 rfl|apply wa6|apply wa7|(refine wb1 rfl fun R r=>?_;simp only[go_sem, e1, e2];with_reducible refine r _ _ ?_;clear r R)
      refine aw_store rfl rfl rfl rfl (by simp only[go_sem, e1, e2]<;>rfl) (by simp only[go_sem, e1, e2]<;>rfl) (by simp only[go_sem, e1, e2]<;>rfl) (by simp only[go_sem, e1, e2]<;>rfl) (fun _ e => by cases e) (by rfl) (by rfl) (by first|omega|simp) rfl ?_
      (try simp only[go_sem, e1, e2])
      rw [updF_bs (by omega)]
      repeat first|apply wa1|apply wa2|apply wa3|apply wa4|apply wa5 rfl|apply wa6|apply wa7|(refine wb1 rfl fun R r=>?_;simp only[go_sem, e1, e2];with_reducible refine r _ _ ?_;clear r R)
      refine aw_stop ⟨(i + 1, zs.set (o.getD i 0).toNat true), by dsimp only; omega, (by simp only[go_sem, e1, e2]<;>and_intros<;>first|exact True.intro|(with_reducible rfl)|exact c_int (by omega)|rfl), (List.Sublist.refl _), by dsimp only; omega, hs, by simpa using hzl, fun j hj => ?_⟩
      dsimp only
      rw [List.take_succ_eq_append_getElem hin, List.getD_eq_getElem?_getD]
      by_cases hje : j = (o.getD i 0).toNat
      · subst hje
        rw [List.getElem?_set_self (by omega)]
        have : (((o.getD i 0).toNat : Nat) : Int) ∈ o.take i ++ [o[i]] := by
          rw [← getDZ hin, show (((o.getD i 0).toNat : Nat) : Int) = o.getD i 0 from by omega]; simp
        exact (decide_eq_true this).symm
      · rw [List.getElem?_set_ne (fun e => hje e.symm), ← List.getD_eq_getElem?_getD, hz j hj]
        have : ((j : Int) ∈ o.take i ++ [o[i]]) ↔ (j : Int) ∈ o.take i := by
          rw [← getDZ hin]
          simp only [List.mem_append, List.mem_singleton]
          exact ⟨fun h => h.resolve_right (by omega), .inl⟩
        simp only [this]
  · have hin : i = o.length := by have := of_decide_eq_false hb1; omega
    subst hin
    repeat first|apply wa1|apply wa2|apply wa3|apply wa4|apply wa5 rfl|apply wa6|apply wa7|(refine wb1 rfl fun R r=>?_;simp only[go_sem, e1];with_reducible refine r _ _ ?_;clear r R)
    (refine aw_retq hC rfl fun R r=>?_;simp only[go_sem, e1];refine r _ rfl ?_;clear r R)
    exact .one (.c (ler_err0 (by rw [← hs, List.drop_length]; rfl)))
set_option maxHeartbeats 800000 in
theorem places_fa (o : List Int) (ho : Perm0 o) (hl : o.length ≤ 24) : Fa Tryz.prog 166 [.c (is false o)] (.c (is true (placesL o))) := by
  refine fa_of_body Tryz.func166 rfl rfl (by simp [Tryz.ntmps166]) fun C hC => ?_
  simp only [initS, Nat.reduceAdd]
  repeat first|apply wa1|apply wa2|apply wa3|apply wa4|apply wa5 rfl|apply wa6|apply wa7|(refine wb1 rfl fun R r=>?_;simp only[go_sem];with_reducible refine r _ _ ?_;clear r R)
  refine aw_make (n := o.length) (c := o.length) (size := 1) (z := [.int .i64 0]) rfl rfl rfl (by simp only[go_sem]<;>rfl) (by simp only[go_sem]<;>rfl) rfl (by omega) (by simp only[go_sem]<;>rfl) (by simp only[go_sem]<;>rfl) rfl rfl (by omega) (by omega) (by omega) fun g hg => ?_
  rw [make_is o.length]
  (try simp only[go_sem])
  repeat first|apply wa1|apply wa2|apply wa3|apply wa4|apply wa5 rfl|apply wa6|apply wa7|(refine wb1 rfl fun R r=>?_;simp only[go_sem];with_reducible refine r _ _ ?_;clear r R)
  refine aw_lp (fun x : Nat × List Int => [(3, .c (.osl g 1 0 o.length)), (9, .c (is false o)), (10, .c (.int .i64 o.length)), (11, .c (.int .i64 x.1))]) (fun x => [(g, .cells 3 o.length (isF x.2))])
    (fun x => x.1 ≤ o.length ∧ x.2.length = o.length ∧ ∀ k, k < x.1 → x.2.getD (o.getD k 0).toNat 0 = k) (fun x => o.length - x.1) (0, List.replicate o.length 0) (by simp only[go_sem]<;>and_intros<;>first|exact True.intro|(with_reducible rfl)|exact c_int (by omega)|rfl) (List.Sublist.refl _) ⟨Nat.zero_le _, by simp, fun k hk => by omega⟩ ?_
  rintro ⟨i, zs⟩ ⟨hi, hzl, hz⟩
  dsimp only at hi hzl hz ⊢
  repeat first|apply wa1|apply wa2|apply wa3|apply wa4|apply wa5 rfl|apply wa6|apply wa7|(refine wb1 rfl fun R r=>?_;simp only[go_sem];with_reducible refine r _ _ ?_;clear r R)
  refine aw_cond (by simp only[go_sem]<;>rfl) (fun hb1 => ?_) (fun hb1 => ?_)
  · have hin : i < o.length := by have := of_decide_eq_true hb1; omega
    have hr := ho.range (o.getD i 0) (by rw [getDZ hin]; exact List.getElem_mem hin)
    repeat first|apply wa1|apply wa2|apply wa3|apply wa4|apply wa5 rfl|apply wa6|apply wa7|(refine wb1 rfl fun R r=>?_;simp only[go_sem];with_reducible refine r _ _ ?_;clear r R)
    refine aw_store rfl rfl rfl rfl (by simp only[go_sem]<;>rfl) (by simp only[go_sem]<;>rfl) (by simp only[go_sem]<;>rfl) (by simp only[go_sem]<;>rfl) (fun _ e => by cases e) (by rfl) (by rfl) (by first|omega|simp) rfl ?_
    (try simp only[go_sem])
    rw [updF_is (by omega)]
    repeat first|apply wa1|apply wa2|apply wa3|apply wa4|apply wa5 rfl|apply wa6|apply wa7|(refine wb1 rfl fun R r=>?_;simp only[go_sem];with_reducible refine r _ _ ?_;clear r R)
    refine aw_stop ⟨(i + 1, zs.set (o.getD i 0).toNat i), by dsimp only; omega, (by simp only[go_sem]<;>and_intros<;>first|exact True.intro|(with_reducible rfl)|exact c_int (by omega)|rfl), (List.Sublist.refl _), by dsimp only; omega, by simpa using hzl, fun k hk => ?_⟩
    dsimp only at hk ⊢
    rw [List.getD_eq_getElem?_getD]
    by_cases hki : k = i
    · subst hki
      rw [List.getElem?_set_self (by omega)]; rfl
    · have hrk := ho.range (o.getD k 0) (by rw [getDZ (by omega)]; exact List.getElem_mem _)
      rw [List.getElem?_set_ne, ← List.getD_eq_getElem?_getD, hz k (by omega)]
      intro e
      have e2 : o.getD i 0 = o.getD k 0 := by omega
      have p1 := place_get ho.nodup hin
      have p2 := place_get ho.nodup (show k < o.length from by omega)
      rw [e2, p2] at p1
      omega
  · have hin : i = o.length := by have := of_decide_eq_false hb1; omega
    subst hin
    repeat first|apply wa1|apply wa2|apply wa3|apply wa4|apply wa5 rfl|apply wa6|apply wa7|(refine wb1 rfl fun R r=>?_;simp only[go_sem];with_reducible refine r _ _ ?_;clear r R)
    (refine aw_retq hC rfl fun R r=>?_;simp only[go_sem];refine r _ rfl ?_;clear r R)
    rw [← places_end ho hzl hz]
    exact .one (.c (ler_oslis (by simp only[go_sem]<;>rfl) hzl.symm))
set_option maxHeartbeats 800000 in
theorem positions_fa (o : List Int) (hl : o.length ≤ 1099511627776) : Fa Tryz.prog 134 [.c (is false o)] (.tup [.c (is true (if ocode o o.length = 0 then placesL o else [])), .c (errA (ocode o o.length))]) := by
  refine fa_of_body Tryz.func134 rfl rfl (by simp [Tryz.ntmps134]) fun C hC => ?_
  simp only [initS, Nat.reduceAdd]
  repeat first|apply wa1|apply wa2|apply wa3|apply wa4|apply wa5 rfl|apply wa6|apply wa7|(refine wb1 rfl fun R r=>?_;simp only[go_sem];with_reducible refine r _ _ ?_;clear r R)
  refine aw_callq (ocheck_fa o o.length hl) rfl rfl rfl (by first|exact True.intro|simp only[go_sem]<;>and_intros<;>first|exact True.intro|exact .c (.refl _)|exact .c wl2|exact .agg (lel_refl _)|exact .agg (by simp only[LeL];and_intros<;>first|exact True.intro|exact .refl _|exact wl2)|exact .c .nils) ?_
  (try simp only[go_sem])
  repeat first|apply wa1|apply wa2|apply wa3|apply wa4|apply wa5 rfl|apply wa6|apply wa7|(refine wb1 rfl fun R r=>?_;simp only[go_sem];with_reducible refine r _ _ ?_;clear r R)
  refine aw_cond (by simp only[go_sem]<;>rfl) (fun hb => ?_) (fun hb => ?_)
  · have hne : ocode o o.length ≠ 0 := by simpa using hb
    repeat first|apply wa1|apply wa2|apply wa3|apply wa4|apply wa5 rfl|apply wa6|apply wa7|(refine wb1 rfl fun R r=>?_;simp only[go_sem];with_reducible refine r _ _ ?_;clear r R)
    (refine aw_retq hC rfl fun R r=>?_;simp only[go_sem];refine r _ rfl ?_;clear r R)
    rw [if_neg hne]
    exact .tup ⟨.c .nils, .c ler_err, trivial⟩
  · have he : ocode o o.length = 0 := by simpa using hb
    obtain ⟨h1, h2⟩ := ocode_ok he
    repeat first|apply wa1|apply wa2|apply wa3|apply wa4|apply wa5 rfl|apply wa6|apply wa7|(refine wb1 rfl fun R r=>?_;simp only[go_sem];with_reducible refine r _ _ ?_;clear r R)
    refine aw_callq (places_fa o h1 h2) rfl rfl rfl (by first|exact True.intro|simp only[go_sem]<;>and_intros<;>first|exact True.intro|exact .c (.refl _)|exact .c wl2|exact .agg (lel_refl _)|exact .agg (by simp only[LeL];and_intros<;>first|exact True.intro|exact .refl _|exact wl2)|exact .c .nils) ?_
    (try simp only[go_sem])
    repeat first|apply wa1|apply wa2|apply wa3|apply wa4|apply wa5 rfl|apply wa6|apply wa7|(refine wb1 rfl fun R r=>?_;simp only[go_sem];with_reducible refine r _ _ ?_;clear r R)
    (refine aw_retq hC rfl fun R r=>?_;simp only[go_sem];refine r _ rfl ?_;clear r R)
    rw [if_pos he]
    exact .tup ⟨.c ler_is, .c (ler_err0 he), trivial⟩
end Go.Proofs.YtmkomfdiggcloaaGreat

/- Masks, cubes, weights. No program in sight. -/
namespace Go.PN
open Go.AI
/-- Is it a mask? -/
def maskB (n : Int) : Bool := decide (n ≥ 0) && decide (n < 16777216)
/-- The number of the error of a cube. -/
noncomputable def ccode (y n : Int) : Int := if !maskB y || !maskB n then 3 else if andZ .i64 y n ≠ 0 then 6 else 0
theorem andZ_nat (x y : Nat) (hx : x < 9223372036854775808) (hy : y < 9223372036854775808) : andZ .i64 (x : Int) (y : Int) = ((x &&& y : Nat) : Int) := by
  rw [andZ_eq]
  show IntKind.i64.wrap (((BitVec.ofInt 64 (x : Int) &&& BitVec.ofInt 64 (y : Int)).toNat : Nat) : Int) = _
  have : (BitVec.ofInt 64 (x : Int) &&& BitVec.ofInt 64 (y : Int)).toNat = x &&& y := by
    rw [BitVec.toNat_and]
    have e1 : ∀ z : Nat, z < 9223372036854775808 → (BitVec.ofInt 64 (z : Int)).toNat = z := fun z hz => by rw [BitVec.ofInt_natCast, BitVec.toNat_ofNat]; omega
    rw [e1 x hx, e1 y hy]
  have hlt : x &&& y < 9223372036854775808 := Nat.lt_of_le_of_lt Nat.and_le_left hx
  rw [this, IntKind.wrap_i64]; omega
theorem orZ_nat (x y : Nat) (hx : x < 9223372036854775808) (hy : y < 9223372036854775808) : orZ .i64 (x : Int) (y : Int) = ((x ||| y : Nat) : Int) := by
  rw [orZ_eq]
  show IntKind.i64.wrap (((BitVec.ofInt 64 (x : Int) ||| BitVec.ofInt 64 (y : Int)).toNat : Nat) : Int) = _
  have : (BitVec.ofInt 64 (x : Int) ||| BitVec.ofInt 64 (y : Int)).toNat = x ||| y := by
    rw [BitVec.toNat_or]
    have e1 : ∀ z : Nat, z < 9223372036854775808 → (BitVec.ofInt 64 (z : Int)).toNat = z := fun z hz => by rw [BitVec.ofInt_natCast, BitVec.toNat_ofNat]; omega
    rw [e1 x hx, e1 y hy]
  have hlt : x ||| y < 2 ^ 63 := Nat.or_lt_two_pow hx hy
  rw [this, IntKind.wrap_i64]; omega
theorem and_one_nat (x : Nat) (hx : x < 9223372036854775808) : andZ .i64 (x : Int) 1 = ((x % 2 : Nat) : Int) := by
  have := andZ_nat x 1 hx (by omega)
  rw [Nat.and_one_is_mod] at this
  exact this
theorem shrZ_nat (x n : Nat) (hn : n ≤ 64) : shrZ .i64 (x : Int) (n : Int) = ((x / 2 ^ n : Nat) : Int) := by
  rw [shrZ_eq]
  have h1 : min (n : Int).toNat IntKind.i64.bits = n := by show min (n : Int).toNat 64 = n; omega
  rw [h1, Int.fdiv_eq_ediv_of_nonneg _ (by exact Int.le_of_lt (Int.pow_pos (by omega)))]
  rw [Int.natCast_ediv, Int.natCast_pow]; rfl
theorem shl_one (n : Nat) (hn : n < 63) : shlZ .i64 1 (n : Int) = ((2 ^ n : Nat) : Int) := by
  rw [shlZ_eq]
  have h1 : min (n : Int).toNat IntKind.i64.bits = n := by show min (n : Int).toNat 64 = n; omega
  have h2 : 2 ^ n < 9223372036854775808 := by
    have h3 : 2 ^ n < 2 ^ 63 := Nat.pow_lt_pow_right (by omega) hn
    have h4 : (2 : Nat) ^ 63 = 9223372036854775808 := by decide
    rw [h4] at h3; exact h3
  rw [h1, Int.one_mul, wrap_inRange (k := .i64)]
  · rw [Int.natCast_pow]; rfl
  · simp only [inRange]
    have : ((2 : Int) ^ n) = ((2 ^ n : Nat) : Int) := by rw [Int.natCast_pow]; rfl
    rw [this]
    generalize 2 ^ n = z at h2
    omega
/-- One bit of a number, as the program asks for it. -/
theorem bit_eq (x n : Nat) : (((x / 2 ^ n % 2 : Nat) : Int) == 1) = x.testBit n := by
  rw [Nat.testBit_eq_decide_div_mod_eq, Bool.eq_iff_iff]
  simp only [beq_iff_eq, decide_eq_true_eq]
  omega
theorem and_pow_zero (x n : Nat) : x &&& 2 ^ n = 0 ↔ x.testBit n = false := by
  constructor
  · intro h
    have h1 : (x &&& 2 ^ n).testBit n = false := by rw [h]; simp
    rw [Nat.testBit_and, Nat.testBit_two_pow_self, Bool.and_true] at h1
    exact h1
  · intro h
    apply Nat.eq_of_testBit_eq
    intro j
    rw [Nat.testBit_and, Nat.zero_testBit, Nat.testBit_two_pow]
    by_cases e : n = j
    · subst e; simp [h]
    · simp [e]
theorem bit_and (x n : Nat) : (((x &&& 2 ^ n : Nat) : Int) != 0) = x.testBit n := by
  have h := and_pow_zero x n
  rw [Bool.eq_iff_iff]
  simp only [bne_iff_ne, ne_eq]
  constructor
  · intro h1
    cases hb : x.testBit n with
    | true => rfl
    | false => exact absurd (by have := h.2 hb; omega) h1
  · intro h1 h2
    have := h.1 (by omega)
    rw [h1] at this; cases this
/-- A factor of a weight. -/
def wfac (y n i : Nat) (q : Rat) : Rat := (if y.testBit i then q else 1) * (if n.testBit i then 1 - q else 1)
def wtTo (y n : Nat) (ps : List RD) : Nat → Rat
  | 0 => 1
  | k + 1 => wtTo y n ps k * wfac y n k (ps.getD k rd0).q
theorem fits_one : fits (1 : Rat) 1 := ⟨by simp, by simp⟩
theorem getD_wf {ps : List RD} {L : Nat} (h : ∀ r ∈ ps, r.wf L) (i : Nat) : (ps.getD i rd0).wf L := by
  rw [List.getD_eq_getElem?_getD]
  cases hi : ps[i]? with
  | none => simp only [Option.getD_none, rd0]; exact ⟨by simp, by simp, by simp, by simp⟩
  | some r => exact h r (List.mem_of_getElem? hi)
theorem fits_wt {y n : Nat} {ps : List RD} {L : Nat} (hL : 1 ≤ L) (h : ∀ r ∈ ps, r.wf L) : ∀ k, fits (wtTo y n ps k) ((2 * L + 2) * k + 1)
  | 0 => by rw [Nat.mul_zero, Nat.zero_add]; exact fits_one
  | k + 1 => by
    have h1 := fits_wt (y := y) (n := n) hL h k
    have h2 := RD.fits (getD_wf h k) hL
    have h3 := fits_sub fits_one h2
    have h4 : fits (wfac y n k (ps.getD k rd0).q) (2 * L + 2) := by
      unfold wfac
      refine fits_mono (fits_mul (L := L) (M := 1 + L + 1) ?_ ?_) (by omega)
      · split
        · exact h2
        · exact fits_mono fits_one hL
      · split
        · exact h3
        · exact fits_mono fits_one (by omega)
    refine fits_mono (fits_mul h1 h4) ?_
    rw [Nat.mul_add]; omega
end Go.PN
namespace Go.AI
theorem updF_ofL {xs bs : List CV} (h : xs.length = bs.length) : updF (ofL xs) 0 bs = ofL bs := by
  funext j
  by_cases hj : j < bs.length
  · have := updF_in bs (ofL xs) 0 j hj
    rw [Nat.zero_add] at this
    exact this
  · rw [updF_out _ _ _ _ (by omega), ofL_at, ofL_at, List.getElem?_eq_none (by omega), List.getElem?_eq_none (by omega)]
@[go_sem ↓] theorem updF_1 (a b : CV) : updF (ofL [a]) 0 [b] = ofL [b] := updF_ofL rfl
@[go_sem ↓] theorem updF_2 (a b c d : CV) : updF (ofL [a, b]) 0 [c, d] = ofL [c, d] := updF_ofL rfl
@[go_sem ↓] theorem updF_3 (a b c x y z : CV) : updF (ofL [a, b, c]) 0 [x, y, z] = ofL [x, y, z] := updF_ofL rfl
end Go.AI

/- cube: mask, Check, Weight; faultlineref12: Mask, Check, Weight. -/
namespace Go.Proofs.YtmkomfdiggcloaaGreat
open Go.AI Go.PN
attribute [local irreducible] aw Fa Fh DrK
set_option maxHeartbeats 400000 in
theorem mask_fa (n : Int) : Fa Tryz.prog 117 [.c (.int .i64 n)] (.c (.bool (maskB n))) := by
  unfold maskB
  refine fa_of_body Tryz.func117 rfl rfl (by simp [Tryz.ntmps117]) fun C hC => ?_
  simp only [initS, Nat.reduceAdd]
  repeat first|apply wa1|apply wa2|apply wa3|apply wa4|apply wa5 rfl|apply wa6|apply wa7|(refine wb1 rfl fun R r=>?_;simp only[go_sem];with_reducible refine r _ _ ?_;clear r R)
  refine aw_split 5 (by simp only[go_sem]<;>rfl) (fun hb => ?_) (fun hb => ?_) <;> (try simp only[go_sem])
  · repeat first|apply wa1|apply wa2|apply wa3|apply wa4|apply wa5 rfl|apply wa6|apply wa7|(refine wb1 rfl fun R r=>?_;simp only[go_sem];with_reducible refine r _ _ ?_;clear r R)
    (refine aw_retq hC rfl fun R r=>?_;simp only[go_sem];refine r _ rfl ?_;clear r R)
    exact .one (.c (ler_bool (by rw [hb]; rfl)))
  · repeat first|apply wa1|apply wa2|apply wa3|apply wa4|apply wa5 rfl|apply wa6|apply wa7|(refine wb1 rfl fun R r=>?_;simp only[go_sem];with_reducible refine r _ _ ?_;clear r R)
    (refine aw_retq hC rfl fun R r=>?_;simp only[go_sem];refine r _ rfl ?_;clear r R)
    exact .one (.c (ler_bool (by rw [hb]; rfl)))
set_option maxHeartbeats 400000 in
theorem maskR_fa (n : Int) : Fa Tryz.prog 123 [.c (.int .i64 n)] (.c (.bool (maskB n))) := by
  unfold maskB
  refine fa_of_body Tryz.func123 rfl rfl (by simp [Tryz.ntmps123]) fun C hC => ?_
  simp only [initS, Nat.reduceAdd]
  repeat first|apply wa1|apply wa2|apply wa3|apply wa4|apply wa5 rfl|apply wa6|apply wa7|(refine wb1 rfl fun R r=>?_;simp only[go_sem];with_reducible refine r _ _ ?_;clear r R)
  refine aw_split 5 (by simp only[go_sem]<;>rfl) (fun hb => ?_) (fun hb => ?_) <;> (try simp only[go_sem])
  · repeat first|apply wa1|apply wa2|apply wa3|apply wa4|apply wa5 rfl|apply wa6|apply wa7|(refine wb1 rfl fun R r=>?_;simp only[go_sem];with_reducible refine r _ _ ?_;clear r R)
    (refine aw_retq hC rfl fun R r=>?_;simp only[go_sem];refine r _ rfl ?_;clear r R)
    refine .one (.c (ler_bool ?_))
    rw [hb, Bool.true_and, Bool.eq_iff_iff]
    simp only [decide_eq_true_eq]
    omega
  · repeat first|apply wa1|apply wa2|apply wa3|apply wa4|apply wa5 rfl|apply wa6|apply wa7|(refine wb1 rfl fun R r=>?_;simp only[go_sem];with_reducible refine r _ _ ?_;clear r R)
    (refine aw_retq hC rfl fun R r=>?_;simp only[go_sem];refine r _ rfl ?_;clear r R)
    exact .one (.c (ler_bool (by rw [hb]; rfl)))
theorem ccode_m {y n : Int} (h : maskB y = false ∨ maskB n = false) : ccode y n = 3 := by
  unfold ccode
  rw [if_pos]
  rcases h with h | h <;> simp [h]
theorem ccode_t {y n : Int} (h1 : maskB y = true) (h2 : maskB n = true) (h : (andZ .i64 y n != 0) = true) : ccode y n = 6 := by
  unfold ccode
  rw [if_neg (by simp [h1, h2]), if_pos (by simpa using h)]
theorem ccode_0 {y n : Int} (h1 : maskB y = true) (h2 : maskB n = true) (h : (andZ .i64 y n != 0) = false) : ccode y n = 0 := by
  unfold ccode
  rw [if_neg (by simp [h1, h2]), if_neg (by simpa using h)]
theorem not_t {b : Bool} (h : (!b) = true) : b = false := by cases b <;> simp_all
theorem not_f {b : Bool} (h : (!b) = false) : b = true := by cases b <;> simp_all
set_option maxHeartbeats 800000 in
theorem ccheck_fa (y n : Int) : Fa Tryz.prog 63 [.agg [.int .i64 y, .int .i64 n]] (.c (errA (ccode y n))) := by
  refine fa_of_body Tryz.func63 rfl rfl (by simp [Tryz.ntmps63]) fun C hC => ?_
  simp only [initS, Nat.reduceAdd]
  repeat first|apply wa1|apply wa2|apply wa3|apply wa4|apply wa5 rfl|apply wa6|apply wa7|(refine wb1 rfl fun R r=>?_;simp only[go_sem];with_reducible refine r _ _ ?_;clear r R)
  refine aw_box rfl rfl rfl (by simp only[go_sem]<;>rfl) (fun _ e => by cases e) rfl fun g1 hn_g1 => ?_
  replace hn_g1 := Heap.ne_of hn_g1
  first | dsimp only [Heap.ne, gh] at hn_g1 | dsimp only [Heap.ne] at hn_g1 | skip
  (try simp only[go_sem, hn_g1])
  repeat first|apply wa1|apply wa2|apply wa3|apply wa4|apply wa5 rfl|apply wa6|apply wa7|(refine wb1 rfl fun R r=>?_;simp only[go_sem, hn_g1];with_reducible refine r _ _ ?_;clear r R)
  refine aw_callq (mask_fa y) rfl rfl rfl (by first|exact True.intro|simp only[go_sem, hn_g1]<;>and_intros<;>first|exact True.intro|exact .c (.refl _)|exact .c wl2|exact .agg (lel_refl _)|exact .agg (by simp only[LeL];and_intros<;>first|exact True.intro|exact .refl _|exact wl2)|exact .c .nils) ?_
  (try simp only[go_sem, hn_g1])
  repeat first|apply wa1|apply wa2|apply wa3|apply wa4|apply wa5 rfl|apply wa6|apply wa7|(refine wb1 rfl fun R r=>?_;simp only[go_sem, hn_g1];with_reducible refine r _ _ ?_;clear r R)
  refine aw_split 8 (by simp only[go_sem, hn_g1]<;>rfl) (fun h1 => ?_) (fun h1 => ?_) <;> (try simp only[go_sem, hn_g1])
  · repeat first|apply wa1|apply wa2|apply wa3|apply wa4|apply wa5 rfl|apply wa6|apply wa7|(refine wb1 rfl fun R r=>?_;simp only[go_sem, hn_g1];with_reducible refine r _ _ ?_;clear r R)
    refine aw_condT (by simp only[go_sem, hn_g1]<;>rfl) ?_
    repeat first|apply wa1|apply wa2|apply wa3|apply wa4|apply wa5 rfl|apply wa6|apply wa7|(refine wb1 rfl fun R r=>?_;simp only[go_sem, hn_g1];with_reducible refine r _ _ ?_;clear r R)
    (refine aw_retq hC rfl fun R r=>?_;simp only[go_sem, hn_g1];refine r _ rfl ?_;clear r R)
    rw [ccode_m (.inl (not_t h1))]
    exact .one (.c (ler_errN rfl (by omega)))
  · repeat first|apply wa1|apply wa2|apply wa3|apply wa4|apply wa5 rfl|apply wa6|apply wa7|(refine wb1 rfl fun R r=>?_;simp only[go_sem, hn_g1];with_reducible refine r _ _ ?_;clear r R)
    refine aw_callq (mask_fa n) rfl rfl rfl (by first|exact True.intro|simp only[go_sem, hn_g1]<;>and_intros<;>first|exact True.intro|exact .c (.refl _)|exact .c wl2|exact .agg (lel_refl _)|exact .agg (by simp only[LeL];and_intros<;>first|exact True.intro|exact .refl _|exact wl2)|exact .c .nils) ?_
    (try simp only[go_sem, hn_g1])
    repeat first|apply wa1|apply wa2|apply wa3|apply wa4|apply wa5 rfl|apply wa6|apply wa7|(refine wb1 rfl fun R r=>?_;simp only[go_sem, hn_g1];with_reducible refine r _ _ ?_;clear r R)
    refine aw_cond (by simp only[go_sem, hn_g1]<;>rfl) (fun h2 => ?_) (fun h2 => ?_)
    · repeat first|apply wa1|apply wa2|apply wa3|apply wa4|apply wa5 rfl|apply wa6|apply wa7|(refine wb1 rfl fun R r=>?_;simp only[go_sem, hn_g1];with_reducible refine r _ _ ?_;clear r R)
      (refine aw_retq hC rfl fun R r=>?_;simp only[go_sem, hn_g1];refine r _ rfl ?_;clear r R)
      rw [ccode_m (.inr (not_t h2))]
      exact .one (.c (ler_errN rfl (by omega)))
    · repeat first|apply wa1|apply wa2|apply wa3|apply wa4|apply wa5 rfl|apply wa6|apply wa7|(refine wb1 rfl fun R r=>?_;simp only[go_sem, hn_g1];with_reducible refine r _ _ ?_;clear r R)
      refine aw_cond (by simp only[go_sem, hn_g1]<;>rfl) (fun h3 => ?_) (fun h3 => ?_)
      · repeat first|apply wa1|apply wa2|apply wa3|apply wa4|apply wa5 rfl|apply wa6|apply wa7|(refine wb1 rfl fun R r=>?_;simp only[go_sem, hn_g1];with_reducible refine r _ _ ?_;clear r R)
        (refine aw_retq hC rfl fun R r=>?_;simp only[go_sem, hn_g1];refine r _ rfl ?_;clear r R)
        rw [ccode_t (not_f h1) (not_f h2) h3]
        exact .one (.c (ler_errN rfl (by omega)))
      · repeat first|apply wa1|apply wa2|apply wa3|apply wa4|apply wa5 rfl|apply wa6|apply wa7|(refine wb1 rfl fun R r=>?_;simp only[go_sem, hn_g1];with_reducible refine r _ _ ?_;clear r R)
        (refine aw_retq hC rfl fun R r=>?_;simp only[go_sem, hn_g1];refine r _ rfl ?_;clear r R)
        exact .one (.c (ler_err0 (ccode_0 (not_f h1) (not_f h2) h3)))
set_option maxHeartbeats 800000 in
theorem ccheckR_fa (y n : Int) : Fa Tryz.prog 70 [.agg [.int .i64 y, .int .i64 n]] (.c (.int .i64 (ccode y n))) := by
  refine fa_of_body Tryz.func70 rfl rfl (by simp [Tryz.ntmps70]) fun C hC => ?_
  simp only [initS, Nat.reduceAdd]
  repeat first|apply wa1|apply wa2|apply wa3|apply wa4|apply wa5 rfl|apply wa6|apply wa7|(refine wb1 rfl fun R r=>?_;simp only[go_sem];with_reducible refine r _ _ ?_;clear r R)
  refine aw_box rfl rfl rfl (by simp only[go_sem]<;>rfl) (fun _ e => by cases e) rfl fun g1 hn_g1 => ?_
  replace hn_g1 := Heap.ne_of hn_g1
  first | dsimp only [Heap.ne, gh] at hn_g1 | dsimp only [Heap.ne] at hn_g1 | skip
  (try simp only[go_sem, hn_g1])
  repeat first|apply wa1|apply wa2|apply wa3|apply wa4|apply wa5 rfl|apply wa6|apply wa7|(refine wb1 rfl fun R r=>?_;simp only[go_sem, hn_g1];with_reducible refine r _ _ ?_;clear r R)
  refine aw_callq (maskR_fa y) rfl rfl rfl (by first|exact True.intro|simp only[go_sem, hn_g1]<;>and_intros<;>first|exact True.intro|exact .c (.refl _)|exact .c wl2|exact .agg (lel_refl _)|exact .agg (by simp only[LeL];and_intros<;>first|exact True.intro|exact .refl _|exact wl2)|exact .c .nils) ?_
  (try simp only[go_sem, hn_g1])
  repeat first|apply wa1|apply wa2|apply wa3|apply wa4|apply wa5 rfl|apply wa6|apply wa7|(refine wb1 rfl fun R r=>?_;simp only[go_sem, hn_g1];with_reducible refine r _ _ ?_;clear r R)
  refine aw_split 7 (by simp only[go_sem, hn_g1]<;>rfl) (fun h1 => ?_) (fun h1 => ?_) <;> (try simp only[go_sem, hn_g1])
  · repeat first|apply wa1|apply wa2|apply wa3|apply wa4|apply wa5 rfl|apply wa6|apply wa7|(refine wb1 rfl fun R r=>?_;simp only[go_sem, hn_g1];with_reducible refine r _ _ ?_;clear r R)
    refine aw_condT (by simp only[go_sem, hn_g1]<;>rfl) ?_
    repeat first|apply wa1|apply wa2|apply wa3|apply wa4|apply wa5 rfl|apply wa6|apply wa7|(refine wb1 rfl fun R r=>?_;simp only[go_sem, hn_g1];with_reducible refine r _ _ ?_;clear r R)
    (refine aw_retq hC rfl fun R r=>?_;simp only[go_sem, hn_g1];refine r _ rfl ?_;clear r R)
    rw [ccode_m (.inl (not_t h1))]
    exact .one (.c (.int _ _))
  · repeat first|apply wa1|apply wa2|apply wa3|apply wa4|apply wa5 rfl|apply wa6|apply wa7|(refine wb1 rfl fun R r=>?_;simp only[go_sem, hn_g1];with_reducible refine r _ _ ?_;clear r R)
    refine aw_callq (maskR_fa n) rfl rfl rfl (by first|exact True.intro|simp only[go_sem, hn_g1]<;>and_intros<;>first|exact True.intro|exact .c (.refl _)|exact .c wl2|exact .agg (lel_refl _)|exact .agg (by simp only[LeL];and_intros<;>first|exact True.intro|exact .refl _|exact wl2)|exact .c .nils) ?_
    (try simp only[go_sem, hn_g1])
    repeat first|apply wa1|apply wa2|apply wa3|apply wa4|apply wa5 rfl|apply wa6|apply wa7|(refine wb1 rfl fun R r=>?_;simp only[go_sem, hn_g1];with_reducible refine r _ _ ?_;clear r R)
    refine aw_cond (by simp only[go_sem, hn_g1]<;>rfl) (fun h2 => ?_) (fun h2 => ?_)
    · repeat first|apply wa1|apply wa2|apply wa3|apply wa4|apply wa5 rfl|apply wa6|apply wa7|(refine wb1 rfl fun R r=>?_;simp only[go_sem, hn_g1];with_reducible refine r _ _ ?_;clear r R)
      (refine aw_retq hC rfl fun R r=>?_;simp only[go_sem, hn_g1];refine r _ rfl ?_;clear r R)
      rw [ccode_m (.inr (not_t h2))]
      exact .one (.c (.int _ _))
    · repeat first|apply wa1|apply wa2|apply wa3|apply wa4|apply wa5 rfl|apply wa6|apply wa7|(refine wb1 rfl fun R r=>?_;simp only[go_sem, hn_g1];with_reducible refine r _ _ ?_;clear r R)
      refine aw_cond (by simp only[go_sem, hn_g1]<;>rfl) (fun h3 => ?_) (fun h3 => ?_)
      · repeat first|apply wa1|apply wa2|apply wa3|apply wa4|apply wa5 rfl|apply wa6|apply wa7|(refine wb1 rfl fun R r=>?_;simp only[go_sem, hn_g1];with_reducible refine r _ _ ?_;clear r R)
        (refine aw_retq hC rfl fun R r=>?_;simp only[go_sem, hn_g1];refine r _ rfl ?_;clear r R)
        rw [ccode_t (not_f h1) (not_f h2) h3]
        exact .one (.c (.int _ _))
      · repeat first|apply wa1|apply wa2|apply wa3|apply wa4|apply wa5 rfl|apply wa6|apply wa7|(refine wb1 rfl fun R r=>?_;simp only[go_sem, hn_g1];with_reducible refine r _ _ ?_;clear r R)
        (refine aw_retq hC rfl fun R r=>?_;simp only[go_sem, hn_g1];refine r _ rfl ?_;clear r R)
        rw [ccode_0 (not_f h1) (not_f h2) h3]
        exact .one (.c (.int _ _))
theorem one_wf' {L : Nat} (h : 1 ≤ L) : (rd ((1 : Int) : Rat)).wf L := rd_wf (fits_mono (L := 1) ⟨by simp, by simp⟩ h)
theorem cast1 : ((1 : Int) : Rat) = 1 := rfl
set_option maxHeartbeats 1600000 in
theorem weightR_fa (y n : Nat) (ps : List RD) (hy : y < 9223372036854775808) (hn : n < 9223372036854775808) (L : Nat) (hL : 1 ≤ L) (hL2 : L ≤ 1000000) (hp : ∀ r ∈ ps, r.wf L) (hl : ps.length ≤ 64) :
    Fa Tryz.prog 72 [.agg [.int .i64 y, .int .i64 n], .c (rats false ps)] (.agg (rdc (rd (wtTo y n ps ps.length)))) := by
  refine fa_of_body Tryz.func72 rfl rfl (by simp [Tryz.ntmps72]) fun C hC => ?_
  simp only [initS, Nat.reduceAdd]
  repeat first|apply wa1|apply wa2|apply wa3|apply wa4|apply wa5 rfl|apply wa6|apply wa7|(refine wb1 rfl fun R r=>?_;simp only[go_sem];with_reducible refine r _ _ ?_;clear r R)
  refine aw_box rfl rfl rfl (by simp only[go_sem]<;>rfl) (fun _ e => by cases e) rfl fun g2 hn_g2 => ?_
  replace hn_g2 := Heap.ne_of hn_g2
  first | dsimp only [Heap.ne, gh] at hn_g2 | dsimp only [Heap.ne] at hn_g2 | skip
  (try simp only[go_sem, hn_g2])
  refine aw_alloc rfl rfl rfl (by simp only[go_sem, hn_g2]<;>rfl) fun g4 hn_g4 => ?_
  replace hn_g4 := Heap.ne_of hn_g4
  first | dsimp only [Heap.ne, gh] at hn_g4 | dsimp only [Heap.ne] at hn_g4 | skip
  (try simp only[go_sem, hn_g2, hn_g4])
  repeat first|apply wa1|apply wa2|apply wa3|apply wa4|apply wa5 rfl|apply wa6|apply wa7|(refine wb1 rfl fun R r=>?_;simp only[go_sem, hn_g2, hn_g4];with_reducible refine r _ _ ?_;clear r R)
  refine aw_callq (sof_fa 1 ?_ ?_) rfl rfl rfl (by first|exact True.intro|simp only[go_sem, hn_g2, hn_g4]<;>and_intros<;>first|exact True.intro|exact .c (.refl _)|exact .c wl2|exact .agg (lel_refl _)|exact .agg (by simp only[LeL];and_intros<;>first|exact True.intro|exact .refl _|exact wl2)|exact .c .nils) ?_
  · omega
  · omega
  (try simp only[go_sem, hn_g2, hn_g4])
  refine aw_alloc rfl rfl rfl (by simp only[go_sem, hn_g2, hn_g4]<;>rfl) fun g5 hn_g5 => ?_
  replace hn_g5 := Heap.ne_of hn_g5
  first | dsimp only [Heap.ne, gh] at hn_g5 | dsimp only [Heap.ne] at hn_g5 | skip
  (try simp only[go_sem, hn_g2, hn_g4, hn_g5])
  repeat first|apply wa1|apply wa2|apply wa3|apply wa4|apply wa5 rfl|apply wa6|apply wa7|(refine wb1 rfl fun R r=>?_;simp only[go_sem, hn_g2, hn_g4, hn_g5];with_reducible refine r _ _ ?_;clear r R)
  refine aw_store rfl rfl rfl rfl (by simp only[go_sem, hn_g2, hn_g4, hn_g5]<;>rfl) (by simp only[go_sem, hn_g2, hn_g4, hn_g5]<;>rfl) (by simp only[go_sem, hn_g2, hn_g4, hn_g5]<;>rfl) (by simp only[go_sem, hn_g2, hn_g4, hn_g5]<;>rfl) (fun _ e => by cases e) (by rfl) (by rfl) (by first|omega|simp) rfl ?_
  (try simp only[go_sem, hn_g2, hn_g4, hn_g5])
  repeat first|apply wa1|apply wa2|apply wa3|apply wa4|apply wa5 rfl|apply wa6|apply wa7|(refine wb1 rfl fun R r=>?_;simp only[go_sem, hn_g2, hn_g4, hn_g5];with_reducible refine r _ _ ?_;clear r R)
  refine aw_lp (fun k : Nat => [(1, .c (rats false ps)), (2, .c (.optr g2 0)), (4, .c (.optr g4 0)), (5, .c (.optr g5 0)), (6, .c (.int .i64 k))]) (fun k => [(g5, .cells 33 3 (ofL (rdc (rd (wtTo y n ps k))))), (g4, .cells 33 3 (ofL [.bool false, .nils, .nils])), (g2, .cells 28 2 (ofL [.int .i64 (y : Int), .int .i64 (n : Int)]))])
    (fun k => k ≤ ps.length) (fun k => ps.length - k) 0 (by simp only[go_sem, hn_g2, hn_g4, hn_g5]<;>and_intros<;>first|exact True.intro|(with_reducible rfl)|exact c_int (by omega)|rfl) (List.Sublist.refl _) (Nat.zero_le _) ?_
  rintro k hk
  have hfk := fits_wt (y := y) (n := n) hL hp k
  have hbk : (2 * L + 2) * k + 1 ≤ 200000000 := by
    have := Nat.mul_le_mul (show 2 * L + 2 ≤ 2000002 from by omega) (show k ≤ 64 from by omega)
    omega
  repeat first|apply wa1|apply wa2|apply wa3|apply wa4|apply wa5 rfl|apply wa6|apply wa7|(refine wb1 rfl fun R r=>?_;simp only[go_sem, hn_g2, hn_g4, hn_g5];with_reducible refine r _ _ ?_;clear r R)
  refine aw_cond (by simp only[go_sem, hn_g2, hn_g4, hn_g5]<;>rfl) (fun hb => ?_) (fun hb => ?_)
  · have hin : k < ps.length := by have := of_decide_eq_true hb; omega
    have hpk := getD_wf hp k
    have hwk : (rd (wtTo y n ps k)).wf 1073741824 := rd_wf (fits_mono hfk (by omega))
    apply aw_skip
    apply aw_seq
    apply aw_block
    apply aw_seq
    have b1 := shrZ_nat y k (by omega)
    have b2 := and_one_nat (y / 2 ^ k) (Nat.lt_of_le_of_lt (Nat.div_le_self _ _) hy)
    have b3 := bit_eq y k
    have c1 := shrZ_nat n k (by omega)
    have c2 := and_one_nat (n / 2 ^ k) (Nat.lt_of_le_of_lt (Nat.div_le_self _ _) hn)
    have c3 := bit_eq n k
    refine aw_cut (fun q : Rat => [(1, .c (rats false ps)), (2, .c (.optr g2 0)), (4, .c (.optr g4 0)), (5, .c (.optr g5 0)), (6, .c (.int .i64 k))]) (fun q => [(g5, .cells 33 3 (ofL (rdc (rd q)))), (g4, .cells 33 3 (ofL [.bool false, .nils, .nils])), (g2, .cells 28 2 (ofL [.int .i64 (y : Int), .int .i64 (n : Int)]))])
      (fun q => q = wtTo y n ps k * (if y.testBit k then (ps.getD k rd0).q else 1)) ?_ ?_
    · repeat first|apply wa1|apply wa2|apply wa3|apply wa4|apply wa5 rfl|apply wa6|apply wa7|(refine wb1 rfl fun R r=>?_;simp only[go_sem, hn_g2, hn_g4, hn_g5, b1, b2, b3, c1, c2, c3];with_reducible refine r _ _ ?_;clear r R)|apply wa8|(refine wd1 rfl fun R r=>?_;simp only[go_sem, hn_g2, hn_g4, hn_g5, b1, b2, b3, c1, c2, c3];with_reducible refine r _ _ ?_;clear r R)
      refine aw_cond (by simp only[go_sem, hn_g2, hn_g4, hn_g5, b1, b2, b3, c1, c2, c3]<;>rfl) (fun hc => ?_) (fun hc => ?_)
      · repeat first|apply wa1|apply wa2|apply wa3|apply wa4|apply wa5 rfl|apply wa6|apply wa7|(refine wb1 rfl fun R r=>?_;simp only[go_sem, hn_g2, hn_g4, hn_g5, b1, b2, b3, c1, c2, c3];with_reducible refine r _ _ ?_;clear r R)
        refine aw_dr 6 ty_mixed (by kernel_rfl) ?_
        repeat first|apply wa1|apply wa2|apply wa3|apply wa4|apply wa5 rfl|apply wa6|apply wa7|(refine wb1 rfl fun R r=>?_;simp only[go_sem, hn_g2, hn_g4, hn_g5, b1, b2, b3, c1, c2, c3];with_reducible refine r _ _ ?_;clear r R)|apply wa8|(refine wd1 rfl fun R r=>?_;simp only[go_sem, hn_g2, hn_g4, hn_g5, b1, b2, b3, c1, c2, c3];with_reducible refine r _ _ ?_;clear r R)
        refine drk_call (smul_fa _ _ hwk ?_) rfl rfl rfl (by first|exact True.intro|simp only[go_sem, hn_g2, hn_g4, hn_g5, b1, b2, b3, c1, c2, c3]<;>and_intros<;>first|exact True.intro|exact .c (.refl _)|exact .c wl2|exact .agg (lel_refl _)|exact .agg (by simp only[LeL];and_intros<;>first|exact True.intro|exact .refl _|exact wl2)|exact .c .nils) ?_
        · exact wf_mono hpk (by omega)
        (try simp only[go_sem, hn_g2, hn_g4, hn_g5, b1, b2, b3, c1, c2, c3])
        rw [rd_q]
        repeat first|apply wa1|apply wa2|apply wa3|apply wa4|apply wa5 rfl|apply wa6|apply wa7|(refine wb1 rfl fun R r=>?_;simp only[go_sem, hn_g2, hn_g4, hn_g5, b1, b2, b3, c1, c2, c3];with_reducible refine r _ _ ?_;clear r R)|apply wa8|(refine wd1 rfl fun R r=>?_;simp only[go_sem, hn_g2, hn_g4, hn_g5, b1, b2, b3, c1, c2, c3];with_reducible refine r _ _ ?_;clear r R)
        refine aw_store rfl rfl rfl rfl (by simp only[go_sem, hn_g2, hn_g4, hn_g5, b1, b2, b3, c1, c2, c3]<;>rfl) (by simp only[go_sem, hn_g2, hn_g4, hn_g5, b1, b2, b3, c1, c2, c3]<;>rfl) (by simp only[go_sem, hn_g2, hn_g4, hn_g5, b1, b2, b3, c1, c2, c3]<;>rfl) (by simp only[go_sem, hn_g2, hn_g4, hn_g5, b1, b2, b3, c1, c2, c3]<;>rfl) (fun _ e => by cases e) (by rfl) (by rfl) (by first|omega|simp) rfl ?_
        (try simp only[go_sem, hn_g2, hn_g4, hn_g5, b1, b2, b3, c1, c2, c3])
        repeat first|apply wa1|apply wa2|apply wa3|apply wa4|apply wa5 rfl|apply wa6|apply wa7|(refine wb1 rfl fun R r=>?_;simp only[go_sem, hn_g2, hn_g4, hn_g5, b1, b2, b3, c1, c2, c3];with_reducible refine r _ _ ?_;clear r R)|apply wa8|(refine wd1 rfl fun R r=>?_;simp only[go_sem, hn_g2, hn_g4, hn_g5, b1, b2, b3, c1, c2, c3];with_reducible refine r _ _ ?_;clear r R)
        exact aw_stop ⟨_, (by simp only[go_sem, hn_g2, hn_g4, hn_g5, b1, b2, b3, c1, c2, c3]<;>and_intros<;>first|exact True.intro|(with_reducible rfl)|exact c_int (by omega)|rfl), (List.Sublist.refl _), by rw [hc, if_pos rfl]⟩
      · repeat first|apply wa1|apply wa2|apply wa3|apply wa4|apply wa5 rfl|apply wa6|apply wa7|(refine wb1 rfl fun R r=>?_;simp only[go_sem, hn_g2, hn_g4, hn_g5, b1, b2, b3, c1, c2, c3];with_reducible refine r _ _ ?_;clear r R)|apply wa8|(refine wd1 rfl fun R r=>?_;simp only[go_sem, hn_g2, hn_g4, hn_g5, b1, b2, b3, c1, c2, c3];with_reducible refine r _ _ ?_;clear r R)
        exact aw_stop ⟨_, (by simp only[go_sem, hn_g2, hn_g4, hn_g5, b1, b2, b3, c1, c2, c3]<;>and_intros<;>first|exact True.intro|(with_reducible rfl)|exact c_int (by omega)|rfl), (List.Sublist.refl _), by rw [hc, if_neg (by simp), Rat.mul_one]⟩
    rintro q hq
    have hfq : fits q 300000000 := by
      rw [hq]
      refine fits_mono (fits_mul (M := L) hfk ?_) (by omega)
      split
      · exact RD.fits hpk hL
      · exact fits_mono fits_one hL
    repeat first|apply wa1|apply wa2|apply wa3|apply wa4|apply wa5 rfl|apply wa6|apply wa7|(refine wb1 rfl fun R r=>?_;simp only[go_sem, hn_g2, hn_g4, hn_g5, b1, b2, b3, c1, c2, c3];with_reducible refine r _ _ ?_;clear r R)
    refine aw_cond (by simp only[go_sem, hn_g2, hn_g4, hn_g5, b1, b2, b3, c1, c2, c3]<;>rfl) (fun hc => ?_) (fun hc => ?_)
    · repeat first|apply wa1|apply wa2|apply wa3|apply wa4|apply wa5 rfl|apply wa6|apply wa7|(refine wb1 rfl fun R r=>?_;simp only[go_sem, hn_g2, hn_g4, hn_g5, b1, b2, b3, c1, c2, c3];with_reducible refine r _ _ ?_;clear r R)
      refine aw_dr 8 ty_mixed (by kernel_rfl) ?_
      repeat first|apply wa1|apply wa2|apply wa3|apply wa4|apply wa5 rfl|apply wa6|apply wa7|(refine wb1 rfl fun R r=>?_;simp only[go_sem, hn_g2, hn_g4, hn_g5, b1, b2, b3, c1, c2, c3];with_reducible refine r _ _ ?_;clear r R)|apply wa8|(refine wd1 rfl fun R r=>?_;simp only[go_sem, hn_g2, hn_g4, hn_g5, b1, b2, b3, c1, c2, c3];with_reducible refine r _ _ ?_;clear r R)
      refine drk_call (sof_fa 1 ?_ ?_) rfl rfl rfl (by first|exact True.intro|simp only[go_sem, hn_g2, hn_g4, hn_g5, b1, b2, b3, c1, c2, c3]<;>and_intros<;>first|exact True.intro|exact .c (.refl _)|exact .c wl2|exact .agg (lel_refl _)|exact .agg (by simp only[LeL];and_intros<;>first|exact True.intro|exact .refl _|exact wl2)|exact .c .nils) ?_
      · omega
      · omega
      (try simp only[go_sem, hn_g2, hn_g4, hn_g5, b1, b2, b3, c1, c2, c3])
      repeat first|apply wa1|apply wa2|apply wa3|apply wa4|apply wa5 rfl|apply wa6|apply wa7|(refine wb1 rfl fun R r=>?_;simp only[go_sem, hn_g2, hn_g4, hn_g5, b1, b2, b3, c1, c2, c3];with_reducible refine r _ _ ?_;clear r R)|apply wa8|(refine wd1 rfl fun R r=>?_;simp only[go_sem, hn_g2, hn_g4, hn_g5, b1, b2, b3, c1, c2, c3];with_reducible refine r _ _ ?_;clear r R)
      refine drk_call (ssub_fa _ _ (one_wf' ?_) ?_) rfl rfl rfl (by first|exact True.intro|simp only[go_sem, hn_g2, hn_g4, hn_g5, b1, b2, b3, c1, c2, c3]<;>and_intros<;>first|exact True.intro|exact .c (.refl _)|exact .c wl2|exact .agg (lel_refl _)|exact .agg (by simp only[LeL];and_intros<;>first|exact True.intro|exact .refl _|exact wl2)|exact .c .nils) ?_
      · omega
      · exact wf_mono hpk (by omega)
      (try simp only[go_sem, hn_g2, hn_g4, hn_g5, b1, b2, b3, c1, c2, c3])
      rw [rd_q, cast1]
      repeat first|apply wa1|apply wa2|apply wa3|apply wa4|apply wa5 rfl|apply wa6|apply wa7|(refine wb1 rfl fun R r=>?_;simp only[go_sem, hn_g2, hn_g4, hn_g5, b1, b2, b3, c1, c2, c3];with_reducible refine r _ _ ?_;clear r R)|apply wa8|(refine wd1 rfl fun R r=>?_;simp only[go_sem, hn_g2, hn_g4, hn_g5, b1, b2, b3, c1, c2, c3];with_reducible refine r _ _ ?_;clear r R)
      refine drk_call (smul_fa _ _ ?_ ?_) rfl rfl rfl (by first|exact True.intro|simp only[go_sem, hn_g2, hn_g4, hn_g5, b1, b2, b3, c1, c2, c3]<;>and_intros<;>first|exact True.intro|exact .c (.refl _)|exact .c wl2|exact .agg (lel_refl _)|exact .agg (by simp only[LeL];and_intros<;>first|exact True.intro|exact .refl _|exact wl2)|exact .c .nils) ?_
      · exact rd_wf (fits_mono hfq (by omega))
      · exact rd_wf (fits_mono (fits_sub fits_one (RD.fits hpk hL)) (by omega))
      (try simp only[go_sem, hn_g2, hn_g4, hn_g5, b1, b2, b3, c1, c2, c3])
      rw [rd_q, rd_q]
      repeat first|apply wa1|apply wa2|apply wa3|apply wa4|apply wa5 rfl|apply wa6|apply wa7|(refine wb1 rfl fun R r=>?_;simp only[go_sem, hn_g2, hn_g4, hn_g5, b1, b2, b3, c1, c2, c3];with_reducible refine r _ _ ?_;clear r R)|apply wa8|(refine wd1 rfl fun R r=>?_;simp only[go_sem, hn_g2, hn_g4, hn_g5, b1, b2, b3, c1, c2, c3];with_reducible refine r _ _ ?_;clear r R)
      refine aw_store rfl rfl rfl rfl (by simp only[go_sem, hn_g2, hn_g4, hn_g5, b1, b2, b3, c1, c2, c3]<;>rfl) (by simp only[go_sem, hn_g2, hn_g4, hn_g5, b1, b2, b3, c1, c2, c3]<;>rfl) (by simp only[go_sem, hn_g2, hn_g4, hn_g5, b1, b2, b3, c1, c2, c3]<;>rfl) (by simp only[go_sem, hn_g2, hn_g4, hn_g5, b1, b2, b3, c1, c2, c3]<;>rfl) (fun _ e => by cases e) (by rfl) (by rfl) (by first|omega|simp) rfl ?_
      (try simp only[go_sem, hn_g2, hn_g4, hn_g5, b1, b2, b3, c1, c2, c3])
      repeat first|apply wa1|apply wa2|apply wa3|apply wa4|apply wa5 rfl|apply wa6|apply wa7|(refine wb1 rfl fun R r=>?_;simp only[go_sem, hn_g2, hn_g4, hn_g5, b1, b2, b3, c1, c2, c3];with_reducible refine r _ _ ?_;clear r R)|apply wa8|(refine wd1 rfl fun R r=>?_;simp only[go_sem, hn_g2, hn_g4, hn_g5, b1, b2, b3, c1, c2, c3];with_reducible refine r _ _ ?_;clear r R)
      have e : wtTo y n ps (k + 1) = q * (1 - (ps.getD k rd0).q) := by
        rw [wtTo, wfac, hc, if_pos rfl, ← Rat.mul_assoc, ← hq]
      rw [← e]
      exact aw_stop ⟨k + 1, by omega, (by simp only[go_sem, hn_g2, hn_g4, hn_g5, b1, b2, b3, c1, c2, c3]<;>and_intros<;>first|exact True.intro|(with_reducible rfl)|exact c_int (by omega)|rfl), (List.Sublist.refl _), by omega⟩
    · repeat first|apply wa1|apply wa2|apply wa3|apply wa4|apply wa5 rfl|apply wa6|apply wa7|(refine wb1 rfl fun R r=>?_;simp only[go_sem, hn_g2, hn_g4, hn_g5, b1, b2, b3, c1, c2, c3];with_reducible refine r _ _ ?_;clear r R)|apply wa8|(refine wd1 rfl fun R r=>?_;simp only[go_sem, hn_g2, hn_g4, hn_g5, b1, b2, b3, c1, c2, c3];with_reducible refine r _ _ ?_;clear r R)
      have e : wtTo y n ps (k + 1) = q := by
        rw [wtTo, wfac, hc, if_neg (c := false = true) (by simp), Rat.mul_one, ← hq]
      rw [← e]
      exact aw_stop ⟨k + 1, by omega, (by simp only[go_sem, hn_g2, hn_g4, hn_g5, b1, b2, b3, c1, c2, c3]<;>and_intros<;>first|exact True.intro|(with_reducible rfl)|exact c_int (by omega)|rfl), (List.Sublist.refl _), by omega⟩
  · have hin : k = ps.length := by have := of_decide_eq_false hb; omega
    subst hin
    repeat first|apply wa1|apply wa2|apply wa3|apply wa4|apply wa5 rfl|apply wa6|apply wa7|(refine wb1 rfl fun R r=>?_;simp only[go_sem, hn_g2, hn_g4, hn_g5];with_reducible refine r _ _ ?_;clear r R)
    refine aw_store rfl rfl rfl rfl (by simp only[go_sem, hn_g2, hn_g4, hn_g5]<;>rfl) (by simp only[go_sem, hn_g2, hn_g4, hn_g5]<;>rfl) (by simp only[go_sem, hn_g2, hn_g4, hn_g5]<;>rfl) (by simp only[go_sem, hn_g2, hn_g4, hn_g5]<;>rfl) (fun _ e => by cases e) (by rfl) (by rfl) (by first|omega|simp) rfl ?_
    (try simp only[go_sem, hn_g2, hn_g4, hn_g5])
    repeat first|apply wa1|apply wa2|apply wa3|apply wa4|apply wa5 rfl|apply wa6|apply wa7|(refine wb1 rfl fun R r=>?_;simp only[go_sem, hn_g2, hn_g4, hn_g5];with_reducible refine r _ _ ?_;clear r R)
    (refine aw_retq hC rfl fun R r=>?_;simp only[go_sem, hn_g2, hn_g4, hn_g5];refine r _ rfl ?_;clear r R)
    exact ler_rd rfl
end Go.Proofs.YtmkomfdiggcloaaGreat
