/- Blocks of one proof, laid one behind the other by a program (merge2.py). -/
import Derived.Test.YtcoflhkcpnoaaaaGreatM37
set_option linter.unusedSimpArgs false
set_option linter.unusedVariables false
namespace Go.AI
section
variable {E : Env} {K : List It} {σ σ' : Sl} {h : Heap}
theorem aw_frzG1 {t n n' : Nat} {og : Option Nat} {ty : TypeId} {f f' : Nat → CV} (hog : og = none → n = 0) (hnn : n = n') (ht : σ.get t = .c (gs og 1 n)) (hn : ∀ g, og = some g → ¬ E.C.own0 g) (hf : ∀ j, j < n → f j = f' j) (hσ : σ.set t (.c (.row true 1 n' f')) = σ') (k : aw E K σ' h) : aw E K σ (gh og ty n f ++ h) := by
  have := aw_frzGT (ty := ty) (s := 1) hog hnn ht hn (fun j hj => hf j (by omega)) hσ k
  rwa [Nat.mul_one] at this
end
end Go.AI
namespace Go.PN
open Go.AI
def loN (l : List Nat) (v k : Nat) : List Nat := (l.take k).filter fun s => !s.testBit v
def hiN (l : List Nat) (v k : Nat) : List Nat := (l.take k).filter fun s => s.testBit v
theorem loN_succ {l : List Nat} {v k : Nat} (hk : k < l.length) : loN l v (k + 1) = if (l.getD k 0).testBit v then loN l v k else loN l v k ++ [l.getD k 0] := by
  unfold loN
  rw [ltake hk, List.filter_append]
  cases h : (l.getD k 0).testBit v
  · rw [if_neg (by simp), List.filter_cons_of_pos (by rw [h]; rfl)]; rfl
  · rw [if_pos rfl, List.filter_cons_of_neg (by rw [h]; simp)]; simp
theorem hiN_succ {l : List Nat} {v k : Nat} (hk : k < l.length) : hiN l v (k + 1) = if (l.getD k 0).testBit v then hiN l v k ++ [l.getD k 0] else hiN l v k := by
  unfold hiN
  rw [ltake hk, List.filter_append]
  cases h : (l.getD k 0).testBit v
  · rw [if_neg (by simp), List.filter_cons_of_neg (by rw [h]; simp)]; simp
  · rw [if_pos rfl, List.filter_cons_of_pos (by rw [h])]; rfl
theorem lohi_len (l : List Nat) (v : Nat) : (l.filter fun s => !s.testBit v).length + (l.filter fun s => s.testBit v).length = l.length := by
  induction l with
  | nil => rfl
  | cons x l ih =>
    cases h : x.testBit v
    · rw [List.filter_cons_of_pos (by rw [h]; rfl), List.filter_cons_of_neg (by rw [h]; simp)]; simp only [List.length_cons]; omega
    · rw [List.filter_cons_of_neg (by rw [h]; simp), List.filter_cons_of_pos (by rw [h])]; simp only [List.length_cons]; omega
end Go.PN
namespace Go.Proofs.YtcoflhkcpnoaaaaGreat
open Go.AI Go.PN
attribute [local irreducible] aw Fa Fh DrK
def ZAddOk (k : Nat) : Prop := ∀ (v : Nat) (l : List Nat) (ns : List DN) (rt : Int) (og : Option Nat) (n : Nat), v + k = 24 → (∀ x ∈ l, x < 16777216) → l.length ≤ 1000000 → ns.length = n → n + l.length * k ≤ 1000000000 → (og = none → n = 0) →
    Fh Tryz.prog 55 (gh og 88 (n * 3) (dnsF ns)) [.agg [gs og 3 n, .int .i64 rt], .c (is false (zL l)), .c (.int .i64 v)]
      (fun res h => ∃ og' n', (addZ k ns l v).1.length = n' ∧ n' ≤ n + l.length * k ∧ (og' = none → n' = 0) ∧ res = .tup [.agg [gs og' 3 n', .int .i64 rt], .c (.int .i64 (addZ k ns l v).2)] ∧ h = gh og' 88 (n' * 3) (dnsF (addZ k ns l v).1))
set_option maxRecDepth 100000 in
set_option maxHeartbeats 6400000 in
theorem zadd_ok : ∀ k, ZAddOk k := by
  intro k
  induction k with
  | zero =>
    intro v l ns rt og n hk hm hl hn hnl hog
    have hzl := zL_len l
    refine fh_of_body Tryz.func55 rfl rfl (by simp [Tryz.ntmps55]) fun C hC => ?_
    simp only [initS, Nat.reduceAdd]
    refine xG ?_
    refine xB (hs := by first | exact rfl | exact solid_gs2) fun g3 hn_g3=>?_
    refine yG hn_g3 ?_
    refine yA hn_g3 fun g6 hn_g6=>?_
    refine yG (oj hn_g3 hn_g6) ?_
    have z1 : (l.length : Int) = 0 ∨ ¬ (l.length : Int) = 0 := Classical.em _
    rcases z1 with z1 | z1
    · have y1 := ieq_t z1
      have hle : l = [] := List.length_eq_zero_iff.1 (by omega)
      refine yG (oj hn_g3 (oj hn_g6 (oj hzl y1))) ?_
      refine yP (oj hn_g3 (oj hn_g6 (oj hzl y1))) ?_
      refine yG (oj hn_g3 (oj hn_g6 (oj hzl y1))) ?_
      refine yW (hs := by first | exact rfl | exact solid_gs2) (oj hn_g3 (oj hn_g6 (oj hzl y1))) ?_
      refine yS (oj hn_g3 (oj hn_g6 (oj hzl y1))) ?_
      refine yG (oj hn_g3 (oj hn_g6 (oj hzl y1))) ?_
      refine aw_keep [(6, .c (.optr g6 0)), (7, .c (.int .i64 0))] ((g6, AObj.cells 33 2 (ofL [gs og 3 n, .int .i64 rt])) :: gh og 88 (n * 3) (dnsF ns)) (zB (oj hn_g3 (oj hn_g6 (oj hzl y1)))) (List.Sublist.cons_cons _ (List.Sublist.cons _ (List.Sublist.refl _))) ?_
      refine aw_rethw (h' := gh og 88 (n * 3) (dnsF ns)) rfl (List.Sublist.cons _ (List.Sublist.refl _)) (fun R hR => ?_)
      simp only [go_sem, hn_g3, hn_g6, hzl, y1]
      refine hR _ rfl ?_
      clear hR R
      exact ⟨og, n, by rw [addZ, if_pos hle]; exact hn, by omega, hog, by rw [addZ, if_pos hle], by rw [addZ, if_pos hle]⟩
    · have y1 := ieq_f z1
      have hle : l ≠ [] := fun e => z1 (by rw [e]; rfl)
      have z2 : (v : Int) = 24 := by omega
      have y2 := ieq_t z2
      refine yG (oj hn_g3 (oj hn_g6 (oj hzl (oj y1 y2)))) ?_
      refine yN (oj hn_g3 (oj hn_g6 (oj hzl (oj y1 y2)))) ?_
      refine yG (oj hn_g3 (oj hn_g6 (oj hzl (oj y1 y2)))) ?_
      refine yP (oj hn_g3 (oj hn_g6 (oj hzl (oj y1 y2)))) ?_
      refine yG (oj hn_g3 (oj hn_g6 (oj hzl (oj y1 y2)))) ?_
      refine yW (hs := by first | exact rfl | exact solid_gs2) (oj hn_g3 (oj hn_g6 (oj hzl (oj y1 y2)))) ?_
      refine yS (oj hn_g3 (oj hn_g6 (oj hzl (oj y1 y2)))) ?_
      refine yG (oj hn_g3 (oj hn_g6 (oj hzl (oj y1 y2)))) ?_
      refine aw_keep [(6, .c (.optr g6 0)), (7, .c (.int .i64 1))] ((g6, AObj.cells 33 2 (ofL [gs og 3 n, .int .i64 rt])) :: gh og 88 (n * 3) (dnsF ns)) (zB (oj hn_g3 (oj hn_g6 (oj hzl (oj y1 y2))))) (List.Sublist.cons_cons _ (List.Sublist.cons _ (List.Sublist.refl _))) ?_
      refine aw_rethw (h' := gh og 88 (n * 3) (dnsF ns)) rfl (List.Sublist.cons _ (List.Sublist.refl _)) (fun R hR => ?_)
      simp only [go_sem, hn_g3, hn_g6, hzl, y1, y2]
      refine hR _ rfl ?_
      clear hR R
      exact ⟨og, n, by rw [addZ, if_neg hle]; exact hn, by omega, hog, by rw [addZ, if_neg hle], by rw [addZ, if_neg hle]⟩
  | succ k ih =>
    intro v l ns rt og n hk hm hl hn hnl hog
    have hzl := zL_len l
    refine fh_of_body Tryz.func55 rfl rfl (by simp [Tryz.ntmps55]) fun C hC => ?_
    simp only [initS, Nat.reduceAdd]
    refine xG ?_
    refine xB (hs := by first | exact rfl | exact solid_gs2) fun g3 hn_g3=>?_
    refine yG hn_g3 ?_
    refine yA hn_g3 fun g6 hn_g6=>?_
    refine yG (oj hn_g3 hn_g6) ?_
    have z1 : (l.length : Int) = 0 ∨ ¬ (l.length : Int) = 0 := Classical.em _
    rcases z1 with z1 | z1
    · have y1 := ieq_t z1
      have hle : l = [] := List.length_eq_zero_iff.1 (by omega)
      refine yG (oj hn_g3 (oj hn_g6 (oj hzl y1))) ?_
      refine yP (oj hn_g3 (oj hn_g6 (oj hzl y1))) ?_
      refine yG (oj hn_g3 (oj hn_g6 (oj hzl y1))) ?_
      refine yW (hs := by first | exact rfl | exact solid_gs2) (oj hn_g3 (oj hn_g6 (oj hzl y1))) ?_
      refine yS (oj hn_g3 (oj hn_g6 (oj hzl y1))) ?_
      refine yG (oj hn_g3 (oj hn_g6 (oj hzl y1))) ?_
      refine aw_keep [(6, .c (.optr g6 0)), (7, .c (.int .i64 0))] ((g6, AObj.cells 33 2 (ofL [gs og 3 n, .int .i64 rt])) :: gh og 88 (n * 3) (dnsF ns)) (zB (oj hn_g3 (oj hn_g6 (oj hzl y1)))) (List.Sublist.cons_cons _ (List.Sublist.cons _ (List.Sublist.refl _))) ?_
      refine aw_rethw (h' := gh og 88 (n * 3) (dnsF ns)) rfl (List.Sublist.cons _ (List.Sublist.refl _)) (fun R hR => ?_)
      simp only [go_sem, hn_g3, hn_g6, hzl, y1]
      refine hR _ rfl ?_
      clear hR R
      exact ⟨og, n, by rw [addZ, if_pos hle]; exact hn, by omega, hog, by rw [addZ, if_pos hle], by rw [addZ, if_pos hle]⟩
    have y1 := ieq_f z1
    have hle : l ≠ [] := fun e => z1 (by rw [e]; rfl)
    have z2 : ¬ (v : Int) = 24 := by omega
    have y2 := ieq_f z2
    refine yG (oj hn_g3 (oj hn_g6 (oj hzl (oj y1 y2)))) ?_
    refine yN (oj hn_g3 (oj hn_g6 (oj hzl (oj y1 y2)))) ?_
    refine yG (oj hn_g3 (oj hn_g6 (oj hzl (oj y1 y2)))) ?_
    refine yN (oj hn_g3 (oj hn_g6 (oj hzl (oj y1 y2)))) ?_
    refine yG (oj hn_g3 (oj hn_g6 (oj hzl (oj y1 y2)))) ?_
    refine aw_lp (fun x : Option Nat × Option Nat × Nat => [(1, .c (is false (zL l))), (2, .c (.int .i64 v)), (3, .c (.optr g3 0)), (6, .c (.optr g6 0)), (8, .c (gs x.1 1 (loN l v x.2.2).length)), (9, .c (gs x.2.1 1 (hiN l v x.2.2).length)), (10, .c (.int .i64 x.2.2))]) (fun x => gh x.1 3 ((loN l v x.2.2).length) (isF (zL (loN l v x.2.2))) ++ (gh x.2.1 3 ((hiN l v x.2.2).length) (isF (zL (hiN l v x.2.2))) ++ ([(g6, AObj.cells 33 2 (ofL [.nils, .int .i64 0])), (g3, AObj.cells 33 2 (ofL [gs og 3 n, .int .i64 rt]))] ++ gh og 88 (n * 3) (dnsF ns))))
      (fun x => x.2.2 ≤ l.length ∧ (x.1 = none → (loN l v x.2.2).length = 0) ∧ (x.2.1 = none → (hiN l v x.2.2).length = 0)) (fun x => l.length - x.2.2) (none, none, 0) (zB (oj hn_g3 (oj hn_g6 (oj hzl (oj y1 y2))))) (by refine yS (oj hn_g3 (oj hn_g6 (oj hzl (oj y1 y2)))) ?_; exact .refl _) ⟨Nat.zero_le _, fun _ => rfl, fun _ => rfl⟩ ?_
    rintro ⟨ogl, ogh, i⟩ ⟨hi, hogl, hogh⟩
    dsimp only at hi hogl hogh ⊢
    refine yG (oj hn_g3 (oj hn_g6 (oj hzl (oj y1 (oj y2 hzl))))) ?_
    refine yF (oj hn_g3 (oj hn_g6 (oj hzl (oj y1 (oj y2 hzl))))) (fun h1=>?_) fun h1=>?_
    · have hin : i < l.length := by have := of_decide_eq_true h1; omega
      have hx : l.getD i 0 < 16777216 := hm _ (by rw [List.getD_eq_getElem?_getD, List.getElem?_eq_getElem hin]; exact List.getElem_mem _)
      have e1 := zL_get l i
      have slo := loN_succ (v := v) hin
      have shi := hiN_succ (v := v) hin
      have llo : (loN l v i).length ≤ i := Nat.le_trans (List.length_filter_le _ _) (by rw [List.length_take]; omega)
      have lhi : (hiN l v i).length ≤ i := Nat.le_trans (List.length_filter_le _ _) (by rw [List.length_take]; omega)
      generalize hx0 : l.getD i 0 = x at *
      have f1 := shrZ_nat x v (by omega)
      have f2 := and_one_nat (x / 2 ^ v) (Nat.lt_of_le_of_lt (Nat.div_le_self _ _) (by omega))
      have f3 := bit_eq x v
      refine yG (oj hn_g3 (oj hn_g6 (oj hzl (oj y1 (oj y2 (oj hzl (oj e1 (oj f1 (oj f2 f3))))))))) ?_
      cases hb : x.testBit v
      · rw [hb, if_neg (by simp)] at slo shi
        refine yS (oj hn_g3 (oj hn_g6 (oj hzl (oj y1 (oj y2 (oj hzl (oj e1 (oj f1 (oj f2 (oj f3 hb)))))))))) ?_
        refine yN (oj hn_g3 (oj hn_g6 (oj hzl (oj y1 (oj y2 (oj hzl (oj e1 (oj f1 (oj f2 (oj f3 hb)))))))))) ?_
        refine yG (oj hn_g3 (oj hn_g6 (oj hzl (oj y1 (oj y2 (oj hzl (oj e1 (oj f1 (oj f2 (oj f3 hb)))))))))) ?_
        refine aw_perm (List.perm_append_comm (l₁ := gh ogl 3 (loN l v i).length (isF (zL (loN l v i))))) ?_
        refine aw_push (pre := ((gh ogh 3 ((hiN l v i).length) (isF (zL (hiN l v i))) ++ ([(g6, AObj.cells 33 2 (ofL [.nils, .int .i64 0])), (g3, AObj.cells 33 2 (ofL [gs og 3 n, .int .i64 rt]))] ++ gh og 88 (n * 3) (dnsF ns))) : Heap)) rfl rfl rfl rfl rfl rfl rfl (zE (oj hn_g3 (oj hn_g6 (oj hzl (oj y1 (oj y2 (oj hzl (oj e1 (oj f1 (oj f2 (oj f3 hb))))))))))) (zE (oj hn_g3 (oj hn_g6 (oj hzl (oj y1 (oj y2 (oj hzl (oj e1 (oj f1 (oj f2 (oj f3 hb))))))))))) (by rfl) (by omega) (by omega) (zE (oj hn_g3 (oj hn_g6 (oj hzl (oj y1 (oj y2 (oj hzl (oj e1 (oj f1 (oj f2 (oj f3 hb))))))))))) (by omega) (by exact hogl) (zE (oj hn_g3 (oj hn_g6 (oj hzl (oj y1 (oj y2 (oj hzl (oj e1 (oj f1 (oj f2 (oj f3 hb))))))))))) (by rfl) (by rfl) (by first | rfl | simp only [Nat.mul_one, List.nil_append, List.cons_append] <;> rfl) (by unfold maxLen; omega) (by omega) (by exact is_zpush rfl x) fun gN hn_gN => ?_
        replace hn_gN := Heap.ne_of hn_gN
        first | dsimp only [Heap.ne, gh] at hn_gN | dsimp only [Heap.ne] at hn_gN | skip
        refine yS (oj hn_g3 (oj hn_g6 (oj hzl (oj y1 (oj y2 (oj hzl (oj e1 (oj f1 (oj f2 (oj f3 (oj hb hn_gN))))))))))) ?_
        refine yG (oj hn_g3 (oj hn_g6 (oj hzl (oj y1 (oj y2 (oj hzl (oj e1 (oj f1 (oj f2 (oj f3 (oj hb hn_gN))))))))))) ?_
        refine aw_perm (List.perm_append_comm (l₂ := gh (some gN) 3 ((loN l v i).length + 1) (isF (zL (loN l v i ++ [x]))))) ?_
        refine aw_stop ⟨(some gN, ogh, i + 1), by dsimp only; omega, by dsimp only; rw [slo, shi, List.length_append, List.length_singleton]; exact (zB (oj hn_g3 (oj hn_g6 (oj hzl (oj y1 (oj y2 (oj hzl (oj e1 (oj f1 (oj f2 (oj f3 (oj hb hn_gN)))))))))))), by dsimp only; rw [slo, shi, List.length_append, List.length_singleton]; exact .refl _, by dsimp only; omega, some_ne, by dsimp only; rw [shi]; exact hogh⟩
      · rw [hb, if_pos rfl] at slo shi
        refine yS (oj hn_g3 (oj hn_g6 (oj hzl (oj y1 (oj y2 (oj hzl (oj e1 (oj f1 (oj f2 (oj f3 hb)))))))))) ?_
        refine yP (oj hn_g3 (oj hn_g6 (oj hzl (oj y1 (oj y2 (oj hzl (oj e1 (oj f1 (oj f2 (oj f3 hb)))))))))) ?_
        refine yG (oj hn_g3 (oj hn_g6 (oj hzl (oj y1 (oj y2 (oj hzl (oj e1 (oj f1 (oj f2 (oj f3 hb)))))))))) ?_
        have hpm : ∀ (A B C : Heap), (A ++ (B ++ C)).Perm ((A ++ C) ++ B) := fun A B C => by
          rw [List.append_assoc]
          exact (List.Perm.refl A).append List.perm_append_comm
        refine aw_perm (hpm _ (gh ogh 3 (hiN l v i).length (isF (zL (hiN l v i)))) _) ?_
        refine aw_push (pre := ((gh ogl 3 ((loN l v i).length) (isF (zL (loN l v i))) ++ ([(g6, AObj.cells 33 2 (ofL [.nils, .int .i64 0])), (g3, AObj.cells 33 2 (ofL [gs og 3 n, .int .i64 rt]))] ++ gh og 88 (n * 3) (dnsF ns))) : Heap)) rfl rfl rfl rfl rfl rfl rfl (zE (oj hn_g3 (oj hn_g6 (oj hzl (oj y1 (oj y2 (oj hzl (oj e1 (oj f1 (oj f2 (oj f3 hb))))))))))) (zE (oj hn_g3 (oj hn_g6 (oj hzl (oj y1 (oj y2 (oj hzl (oj e1 (oj f1 (oj f2 (oj f3 hb))))))))))) (by rfl) (by omega) (by omega) (zE (oj hn_g3 (oj hn_g6 (oj hzl (oj y1 (oj y2 (oj hzl (oj e1 (oj f1 (oj f2 (oj f3 hb))))))))))) (by omega) (by exact hogh) (zE (oj hn_g3 (oj hn_g6 (oj hzl (oj y1 (oj y2 (oj hzl (oj e1 (oj f1 (oj f2 (oj f3 hb))))))))))) (by rfl) (by rfl) (by first | rfl | simp only [Nat.mul_one, List.nil_append, List.cons_append] <;> rfl) (by unfold maxLen; omega) (by omega) (by exact is_zpush rfl x) fun gN hn_gN => ?_
        replace hn_gN := Heap.ne_of hn_gN
        first | dsimp only [Heap.ne, gh] at hn_gN | dsimp only [Heap.ne] at hn_gN | skip
        refine yS (oj hn_g3 (oj hn_g6 (oj hzl (oj y1 (oj y2 (oj hzl (oj e1 (oj f1 (oj f2 (oj f3 (oj hb hn_gN))))))))))) ?_
        refine yG (oj hn_g3 (oj hn_g6 (oj hzl (oj y1 (oj y2 (oj hzl (oj e1 (oj f1 (oj f2 (oj f3 (oj hb hn_gN))))))))))) ?_
        refine aw_perm (hpm _ (gh (some gN) 3 ((hiN l v i).length + 1) (isF (zL (hiN l v i ++ [x])))) _).symm ?_
        refine aw_stop ⟨(ogl, some gN, i + 1), by dsimp only; omega, by dsimp only; rw [slo, shi, List.length_append, List.length_singleton]; exact (zB (oj hn_g3 (oj hn_g6 (oj hzl (oj y1 (oj y2 (oj hzl (oj e1 (oj f1 (oj f2 (oj f3 (oj hb hn_gN)))))))))))), by dsimp only; rw [slo, shi, List.length_append, List.length_singleton]; exact .refl _, by dsimp only; omega, by dsimp only; rw [slo]; exact hogl, some_ne⟩
    · have hin : i = l.length := by have := of_decide_eq_false h1; omega
      subst hin
      have elo : loN l v l.length = l.filter (fun s => !s.testBit v) := by unfold loN; rw [List.take_length]
      have ehi : hiN l v l.length = l.filter (fun s => s.testBit v) := by unfold hiN; rw [List.take_length]
      have hll := lohi_len l v
      rw [elo] at hogl
      rw [ehi] at hogh
      rw [elo, ehi]
      have mlo : ∀ x ∈ l.filter (fun s => !s.testBit v), x < 16777216 := fun x hx => hm x (List.mem_filter.1 hx).1
      have mhi : ∀ x ∈ l.filter (fun s => s.testBit v), x < 16777216 := fun x hx => hm x (List.mem_filter.1 hx).1
      have hA : ∀ A B, A = addZ k ns (l.filter fun s => !s.testBit v) (v + 1) → B = addZ k A.1 (l.filter fun s => s.testBit v) (v + 1) → addZ (k + 1) ns l v = mkZ B.1 v A.2 B.2 := fun A B ha hb => by rw [addZ, if_neg hle, hb, ha]
      generalize (l.filter fun s => !s.testBit v) = lo at *
      generalize (l.filter fun s => s.testBit v) = hi' at *
      have mul1 : l.length * (k + 1) = lo.length * k + hi'.length * k + l.length := by rw [Nat.mul_succ, ← hll, Nat.add_mul]
      have hl1 : 1 ≤ l.length := by
        cases l with
        | nil => exact absurd rfl hle
        | cons _ _ => simp
      refine aw_nd fun hnd => ?_
      have hnl' : ∀ g, ogl = some g → ¬ C.own0 g := fun g e hw => by
        subst e
        have h1 := (hC g).1 hw
        have h2 : (g :: Heap.keys (gh ogh 3 hi'.length (isF (zL hi')) ++ ([(g6, AObj.cells 33 2 (ofL [.nils, .int .i64 0])), (g3, AObj.cells 33 2 (ofL [gs og 3 n, .int .i64 rt]))] ++ gh og 88 (n * 3) (dnsF ns)))).Nodup := hnd
        refine (List.nodup_cons.1 h2).1 ?_
        simp only [Heap.keys, List.map_append, List.mem_append] at h1 ⊢
        exact .inr (.inr h1)
      have hnh' : ∀ g, ogh = some g → ¬ C.own0 g := fun g e hw => by
        subst e
        have h1 := (hC g).1 hw
        have h3 := keysR (A := gh ogl 3 lo.length (isF (zL lo))) hnd
        have h2 : (g :: Heap.keys ([(g6, AObj.cells 33 2 (ofL [.nils, .int .i64 0])), (g3, AObj.cells 33 2 (ofL [gs og 3 n, .int .i64 rt]))] ++ gh og 88 (n * 3) (dnsF ns))).Nodup := h3
        refine (List.nodup_cons.1 h2).1 ?_
        simp only [Heap.keys, List.map_append, List.mem_append] at h1 ⊢
        exact .inr h1
      clear hnd
      refine aw_frzG1 (t := 8) (f' := isF (zL lo)) hogl (zL_len lo).symm (zE (oj hn_g3 (oj hn_g6 (oj hzl (oj y1 (oj y2 hzl)))))) hnl' (fun _ _ => rfl) rfl ?_
      refine aw_frzG1 (t := 9) (f' := isF (zL hi')) hogh (zL_len hi').symm (zE (oj hn_g3 (oj hn_g6 (oj hzl (oj y1 (oj y2 hzl)))))) hnh' (fun _ _ => rfl) rfl ?_
      refine yS (oj hn_g3 (oj hn_g6 (oj hzl (oj y1 (oj y2 hzl))))) ?_
      refine yG (oj hn_g3 (oj hn_g6 (oj hzl (oj y1 (oj y2 hzl))))) ?_
      refine aw_callh (hr := [(g6, AObj.cells 33 2 (ofL [.nils, .int .i64 0])), (g3, AObj.cells 33 2 (ofL [gs og 3 n, .int .i64 rt]))]) (ih (v + 1) lo ns rt og n (by omega) mlo (by omega) hn (by omega) hog) rfl rfl rfl (List.perm_append_comm (l₁ := [(g6, _), (g3, _)])) (zL (oj hn_g3 (oj hn_g6 (oj hzl (oj y1 (oj y2 hzl)))))) ?_
      generalize hAe : addZ k ns lo (v + 1) = A at *
      rintro _ _ ⟨og2, n2, hn2, hb2, hog2, rfl, rfl⟩ hk2
      refine aw_perm (List.perm_append_comm (l₂ := [(g6, AObj.cells 33 2 (ofL [.nils, .int .i64 0])), (g3, AObj.cells 33 2 (ofL [gs og 3 n, .int .i64 rt]))])) ?_
      refine yS (oj hn_g3 (oj hn_g6 (oj hzl (oj y1 (oj y2 hzl))))) ?_
      refine yG (oj hn_g3 (oj hn_g6 (oj hzl (oj y1 (oj y2 hzl))))) ?_
      refine yW (hs := by first | exact rfl | exact solid_gs2) (oj hn_g3 (oj hn_g6 (oj hzl (oj y1 (oj y2 hzl))))) ?_
      refine yS (oj hn_g3 (oj hn_g6 (oj hzl (oj y1 (oj y2 hzl))))) ?_
      refine yG (oj hn_g3 (oj hn_g6 (oj hzl (oj y1 (oj y2 hzl))))) ?_
      refine aw_callh (hr := [(g6, AObj.cells 33 2 (ofL [.nils, .int .i64 0])), (g3, AObj.cells 33 2 (ofL [gs og2 3 n2, .int .i64 rt]))]) (ih (v + 1) hi' A.1 rt og2 n2 (by omega) mhi (by omega) hn2 (by omega) hog2) rfl rfl rfl (List.perm_append_comm (l₁ := [(g6, _), (g3, _)])) (zL (oj hn_g3 (oj hn_g6 (oj hzl (oj y1 (oj y2 hzl)))))) ?_
      generalize hBe : addZ k A.1 hi' (v + 1) = B at *
      replace hA := hA A B rfl hBe.symm
      rintro _ _ ⟨og3, n3, hn3, hb3, hog3, rfl, rfl⟩ hk3
      have hg3 : ∀ g, og3 = some g → (((g = g6) = False ∧ (g6 = g) = False) ∧ ((g = g3) = False ∧ (g3 = g) = False)) := fun g e => by
        subst e
        have := hk3 g (by simp [gh, Heap.keys])
        simp [Heap.keys] at this
        exact ⟨⟨eq_false this.1, eq_false fun e => this.1 e.symm⟩, ⟨eq_false this.2, eq_false fun e => this.2 e.symm⟩⟩
      refine aw_perm (List.perm_append_comm (l₂ := [(g6, AObj.cells 33 2 (ofL [.nils, .int .i64 0])), (g3, AObj.cells 33 2 (ofL [gs og2 3 n2, .int .i64 rt]))])) ?_
      have hlen := lenCV_gs (s := 3) hog3
      refine yS (oj hn_g3 (oj hn_g6 (oj hzl (oj y1 (oj y2 hzl))))) ?_
      refine yG (oj hn_g3 (oj hn_g6 (oj hzl (oj y1 (oj y2 hzl))))) ?_
      refine yW (hs := by first | exact rfl | exact solid_gs2) (oj hn_g3 (oj hn_g6 (oj hzl (oj y1 (oj y2 hzl))))) ?_
      refine yS (oj hn_g3 (oj hn_g6 (oj hzl (oj y1 (oj y2 hzl))))) ?_
      refine yG (oj hn_g3 (oj hn_g6 (oj hzl (oj y1 (oj y2 hzl))))) ?_
      have z3 : B.2 = 0 ∨ ¬ B.2 = 0 := Classical.em _
      rcases z3 with z3 | z3
      · have y3 := ieq_t z3
        have hmk : mkZ B.1 v A.2 B.2 = (B.1, A.2) := by unfold mkZ; rw [if_pos z3]
        refine yS (oj hn_g3 (oj hn_g6 (oj hzl (oj y1 (oj y2 (oj hzl y3)))))) ?_
        refine yP (oj hn_g3 (oj hn_g6 (oj hzl (oj y1 (oj y2 (oj hzl y3)))))) ?_
        refine yG (oj hn_g3 (oj hn_g6 (oj hzl (oj y1 (oj y2 (oj hzl y3)))))) ?_
        refine yW (hs := by first | exact rfl | exact solid_gs2) (oj hn_g3 (oj hn_g6 (oj hzl (oj y1 (oj y2 (oj hzl y3)))))) ?_
        refine yS (oj hn_g3 (oj hn_g6 (oj hzl (oj y1 (oj y2 (oj hzl y3)))))) ?_
        refine yG (oj hn_g3 (oj hn_g6 (oj hzl (oj y1 (oj y2 (oj hzl y3)))))) ?_
        refine aw_keep [(6, .c (.optr g6 0)), (7, .c (.int .i64 A.2))] ((g6, AObj.cells 33 2 (ofL [gs og3 3 n3, .int .i64 rt])) :: gh og3 88 (n3 * 3) (dnsF B.1)) (zB (oj hn_g3 (oj hn_g6 (oj hzl (oj y1 (oj y2 (oj hzl y3))))))) (List.Sublist.cons_cons _ (List.Sublist.cons _ (List.Sublist.refl _))) ?_
        refine aw_rethw (h' := gh og3 88 (n3 * 3) (dnsF B.1)) rfl (List.Sublist.cons _ (List.Sublist.refl _)) (fun R hR => ?_)
        simp only [go_sem, hn_g3, hn_g6, hzl, y1, y2, hzl, y3]
        refine hR _ rfl ?_
        clear hR R
        rw [hA, hmk]
        exact ⟨og3, n3, hn3, by omega, hog3, rfl, rfl⟩
      · have y3 := ieq_f z3
        (try simp only[go_sem, hn_g3, hn_g6, hzl, y1, y2, hzl, y3, ↓hlen])
        refine aw_condF (by simp only[go_sem, hn_g3, hn_g6, hzl, y1, y2, hzl, y3, ↓hlen]<;>rfl) ?_
        repeat first|apply wa1|apply wa2|apply wa3|apply wa4|apply wa5 rfl|apply wa6|apply wa7|(refine wb1 rfl fun R r=>?_;simp only[go_sem, hn_g3, hn_g6, hzl, y1, y2, hzl, y3, ↓hlen];with_reducible refine r _ _ ?_;clear r R)
        refine aw_alloc rfl rfl rfl (by simp only[go_sem, hn_g3, hn_g6, hzl, y1, y2, hzl, y3, ↓hlen]<;>rfl) fun g12 hn_g12 => ?_
        replace hn_g12 := Heap.ne_of hn_g12
        first | dsimp only [Heap.ne, gh] at hn_g12 | dsimp only [Heap.ne] at hn_g12 | skip
        (try simp only[go_sem, hn_g3, hn_g6, hzl, y1, y2, hzl, y3, ↓hlen, hn_g12])
        repeat first|apply wa1|apply wa2|apply wa3|apply wa4|apply wa5 rfl|apply wa6|apply wa7|(refine wb1 rfl fun R r=>?_;simp only[go_sem, hn_g3, hn_g6, hzl, y1, y2, hzl, y3, ↓hlen, hn_g12];with_reducible refine r _ _ ?_;clear r R)
        refine aw_store rfl rfl rfl rfl (by simp only[go_sem, hn_g3, hn_g6, hzl, y1, y2, hzl, y3, ↓hlen, hn_g12]<;>rfl) (by simp only[go_sem, hn_g3, hn_g6, hzl, y1, y2, hzl, y3, ↓hlen, hn_g12]<;>rfl) (by simp only[go_sem, hn_g3, hn_g6, hzl, y1, y2, hzl, y3, ↓hlen, hn_g12]<;>rfl) (by simp only[go_sem, hn_g3, hn_g6, hzl, y1, y2, hzl, y3, ↓hlen, hn_g12]<;>rfl) (fun _ e => by cases e) (by first | rfl | exact solid_gs3 | exact solid_gs2) (by rfl) (by first|omega|simp) rfl ?_
        (try simp only[go_sem, hn_g3, hn_g6, hzl, y1, y2, hzl, y3, ↓hlen, hn_g12])
        repeat first|apply wa1|apply wa2|apply wa3|apply wa4|apply wa5 rfl|apply wa6|apply wa7|(refine wb1 rfl fun R r=>?_;simp only[go_sem, hn_g3, hn_g6, hzl, y1, y2, hzl, y3, ↓hlen, hn_g12];with_reducible refine r _ _ ?_;clear r R)
        refine aw_lp (fun i : Nat => [(3, .c (.optr g3 0)), (6, .c (.optr g6 0)), (13, .c (.optr g12 0)), (14, .c (.int .i64 i))]) (fun _ => (g12, AObj.cells 88 3 (ofL [.int .i64 v, .int .i64 A.2, .int .i64 B.2])) :: (g6, AObj.cells 33 2 (ofL [.nils, .int .i64 0])) :: (g3, AObj.cells 33 2 (ofL [gs og3 3 n3, .int .i64 rt])) :: gh og3 88 (n3 * 3) (dnsF B.1)) (fun i => i ≤ n3 ∧ findN ⟨v, A.2, B.2⟩ B.1 0 = findN ⟨v, A.2, B.2⟩ (B.1.drop i) i) (fun i => n3 - i) 0 (by simp only[go_sem, hn_g3, hn_g6, hzl, y1, y2, hzl, y3, ↓hlen, hn_g12]<;>and_intros<;>first|exact True.intro|(with_reducible rfl)|exact c_int (by omega)|rfl) (List.Sublist.refl _) ⟨Nat.zero_le _, by simp⟩ ?_
        rintro i ⟨hi, hf⟩
        repeat first|apply wa1|apply wa2|apply wa3|apply wa4|apply wa5 rfl|apply wa6|apply wa7|(refine wb1 rfl fun R r=>?_;simp only[go_sem, hn_g3, hn_g6, hzl, y1, y2, hzl, y3, ↓hlen, hn_g12];with_reducible refine r _ _ ?_;clear r R)
        refine aw_cond (by simp only[go_sem, hn_g3, hn_g6, hzl, y1, y2, hzl, y3, ↓hlen, hn_g12]<;>rfl) (fun h1 => ?_) (fun h1 => ?_)
        · have h1' : i < n3 := by have := of_decide_eq_true h1; omega
          obtain ⟨g, rfl⟩ : ∃ g, og3 = some g := by
            cases og3 with
            | none => have := hog3 rfl; omega
            | some g => exact ⟨g, rfl⟩
          have q := hg3 g rfl
          first | dsimp only [Heap.ne, gh] at hn_g12 | skip
          simp only [gs, gh]
          repeat first|apply wa1|apply wa2|apply wa3|apply wa4|apply wa5 rfl|apply wa6|apply wa7|(refine wb1 rfl fun R r=>?_;simp only[go_sem, hn_g3, hn_g6, hzl, y1, y2, hzl, y3, ↓hlen, hn_g12, q];with_reducible refine r _ _ ?_;clear r R)
          refine aw_dr 7 ty_mixed (by kernel_rfl) ?_
          repeat first|apply wa1|apply wa2|apply wa3|apply wa4|apply wa5 rfl|apply wa6|apply wa7|(refine wb1 rfl fun R r=>?_;simp only[go_sem, hn_g3, hn_g6, hzl, y1, y2, hzl, y3, ↓hlen, hn_g12, q];with_reducible refine r _ _ ?_;clear r R)|apply wa8|(refine wd1 rfl fun R r=>?_;simp only[go_sem, hn_g3, hn_g6, hzl, y1, y2, hzl, y3, ↓hlen, hn_g12, q];with_reducible refine r _ _ ?_;clear r R)
          refine aw_cond (by simp only[go_sem, hn_g3, hn_g6, hzl, y1, y2, hzl, y3, ↓hlen, hn_g12, q]<;>rfl) (fun h2 => ?_) (fun h2 => ?_)
          · rw [dn_beq] at h2
            have h2' := of_decide_eq_true h2
            have hmk : mkZ B.1 v A.2 B.2 = (B.1, 2 + (i : Int)) := by
              unfold mkZ
              rw [if_neg z3, hf, findN_step (by omega), if_pos h2']
            repeat first|apply wa1|apply wa2|apply wa3|apply wa4|apply wa5 rfl|apply wa6|apply wa7|(refine wb1 rfl fun R r=>?_;simp only[go_sem, hn_g3, hn_g6, hzl, y1, y2, hzl, y3, ↓hlen, hn_g12, q];with_reducible refine r _ _ ?_;clear r R)|apply wa8|(refine wd1 rfl fun R r=>?_;simp only[go_sem, hn_g3, hn_g6, hzl, y1, y2, hzl, y3, ↓hlen, hn_g12, q];with_reducible refine r _ _ ?_;clear r R)
            refine aw_store rfl rfl rfl rfl (by simp only[go_sem, hn_g3, hn_g6, hzl, y1, y2, hzl, y3, ↓hlen, hn_g12, q]<;>rfl) (by simp only[go_sem, hn_g3, hn_g6, hzl, y1, y2, hzl, y3, ↓hlen, hn_g12, q]<;>rfl) (by simp only[go_sem, hn_g3, hn_g6, hzl, y1, y2, hzl, y3, ↓hlen, hn_g12, q]<;>rfl) (by simp only[go_sem, hn_g3, hn_g6, hzl, y1, y2, hzl, y3, ↓hlen, hn_g12, q]<;>rfl) (fun _ e => by cases e) (by first | rfl | exact solid_gs3 | exact solid_gs2) (by rfl) (by first|omega|simp) rfl ?_
            (try simp only[go_sem, hn_g3, hn_g6, hzl, y1, y2, hzl, y3, ↓hlen, hn_g12, q])
            repeat first|apply wa1|apply wa2|apply wa3|apply wa4|apply wa5 rfl|apply wa6|apply wa7|(refine wb1 rfl fun R r=>?_;simp only[go_sem, hn_g3, hn_g6, hzl, y1, y2, hzl, y3, ↓hlen, hn_g12, q];with_reducible refine r _ _ ?_;clear r R)|apply wa8|(refine wd1 rfl fun R r=>?_;simp only[go_sem, hn_g3, hn_g6, hzl, y1, y2, hzl, y3, ↓hlen, hn_g12, q];with_reducible refine r _ _ ?_;clear r R)
            refine aw_keep [(6, .c (.optr g6 0)), (7, .c (.int .i64 (2 + (i : Int))))] ((g6, .cells 33 2 (ofL [gs (some g) 3 n3, .int .i64 rt])) :: gh (some g) 88 (n3 * 3) (dnsF B.1)) (by simp only[go_sem, hn_g3, hn_g6, hzl, y1, y2, hzl, y3, ↓hlen, hn_g12, q]<;>and_intros<;>first|exact True.intro|(with_reducible rfl)|exact c_int (by omega)|rfl) (List.Sublist.cons _ (List.Sublist.cons_cons _ (List.Sublist.cons _ (List.Sublist.refl _)))) ?_
            refine aw_rethw (h' := gh (some g) 88 (n3 * 3) (dnsF B.1)) rfl (List.Sublist.cons _ (List.Sublist.refl _)) (fun R hR => ?_)
            simp only [go_sem, hn_g3, hn_g6, hzl, y1, y2, hzl, y3, ↓hlen, hn_g12, q]
            refine hR _ rfl ?_
            clear hR R
            rw [hA, hmk]
            exact ⟨some g, n3, hn3, by omega, hog3, rfl, rfl⟩
          · rw [dn_beq] at h2
            have h2' := of_decide_eq_false h2
            repeat first|apply wa1|apply wa2|apply wa3|apply wa4|apply wa5 rfl|apply wa6|apply wa7|(refine wb1 rfl fun R r=>?_;simp only[go_sem, hn_g3, hn_g6, hzl, y1, y2, hzl, y3, ↓hlen, hn_g12, q];with_reducible refine r _ _ ?_;clear r R)
            exact aw_stop ⟨i + 1, by omega, (by simp only[go_sem, hn_g3, hn_g6, hzl, y1, y2, hzl, y3, ↓hlen, hn_g12, q]<;>and_intros<;>first|exact True.intro|(with_reducible rfl)|exact c_int (by omega)|rfl), (List.Sublist.refl _), by omega, by rw [hf, findN_step (by omega), if_neg h2']⟩
        · have h1' : i = n3 := by have := of_decide_eq_false h1; omega
          subst h1'
          have hmk : mkZ B.1 v A.2 B.2 = (B.1 ++ [⟨v, A.2, B.2⟩], 2 + (B.1.length : Int)) := by
            unfold mkZ
            rw [if_neg z3, hf, List.drop_eq_nil_of_le (by omega), findN]
          repeat first|apply wa1|apply wa2|apply wa3|apply wa4|apply wa5 rfl|apply wa6|apply wa7|(refine wb1 rfl fun R r=>?_;simp only[go_sem, hn_g3, hn_g6, hzl, y1, y2, hzl, y3, ↓hlen, hn_g12];with_reducible refine r _ _ ?_;clear r R)
          refine aw_push (pre := [(g12, AObj.cells 88 3 (ofL [.int .i64 v, .int .i64 A.2, .int .i64 B.2])), (g6, AObj.cells 33 2 (ofL [.nils, .int .i64 0])), (g3, AObj.cells 33 2 (ofL [gs og3 3 i, .int .i64 rt]))]) rfl rfl rfl rfl rfl rfl rfl (by simp only[go_sem, hn_g3, hn_g6, hzl, y1, y2, hzl, y3, ↓hlen, hn_g12]<;>rfl) (by simp only[go_sem, hn_g3, hn_g6, hzl, y1, y2, hzl, y3, ↓hlen, hn_g12]<;>rfl) (by rfl) (by omega) (by omega) (by simp only[go_sem, hn_g3, hn_g6, hzl, y1, y2, hzl, y3, ↓hlen, hn_g12]<;>rfl) (by omega) (by exact hog3) (by simp only[go_sem, hn_g3, hn_g6, hzl, y1, y2, hzl, y3, ↓hlen, hn_g12]<;>rfl) (by rfl) (by rfl) (by first | rfl | simp only [Nat.mul_one, List.nil_append, List.cons_append] <;> rfl) (by unfold maxLen; omega) (by omega) (by exact lf_push hn3 ⟨v, A.2, B.2⟩ (by omega)) fun g hn_g => ?_
          replace hn_g := Heap.ne_of hn_g
          first | dsimp only [Heap.ne, gh] at hn_g | dsimp only [Heap.ne] at hn_g | skip
          (try simp only[go_sem, hn_g3, hn_g6, hzl, y1, y2, hzl, y3, ↓hlen, hn_g12, hn_g])
          simp only [gs, gh]
          repeat first|apply wa1|apply wa2|apply wa3|apply wa4|apply wa5 rfl|apply wa6|apply wa7|(refine wb1 rfl fun R r=>?_;simp only[go_sem, hn_g3, hn_g6, hzl, y1, y2, hzl, y3, ↓hlen, hn_g12, hn_g];with_reducible refine r _ _ ?_;clear r R)
          refine aw_store rfl rfl rfl rfl (by simp only[go_sem, hn_g3, hn_g6, hzl, y1, y2, hzl, y3, ↓hlen, hn_g12, hn_g]<;>rfl) (by simp only[go_sem, hn_g3, hn_g6, hzl, y1, y2, hzl, y3, ↓hlen, hn_g12, hn_g]<;>rfl) (by simp only[go_sem, hn_g3, hn_g6, hzl, y1, y2, hzl, y3, ↓hlen, hn_g12, hn_g]<;>rfl) (by simp only[go_sem, hn_g3, hn_g6, hzl, y1, y2, hzl, y3, ↓hlen, hn_g12, hn_g]<;>rfl) (fun _ e => by cases e) (by first | rfl | exact solid_gs3 | exact solid_gs2) (by rfl) (by first|omega|simp) rfl ?_
          (try simp only[go_sem, hn_g3, hn_g6, hzl, y1, y2, hzl, y3, ↓hlen, hn_g12, hn_g])
          repeat first|apply wa7|(refine wb1 rfl fun R r=>?_;simp only[go_sem, hn_g3, hn_g6, hzl, y1, y2, hzl, y3, ↓hlen, hn_g12, hn_g];with_reducible refine r _ _ ?_;clear r R)
          refine aw_seq ?_
          refine aw_cut (fun _ : Unit => [(6, .c (.optr g6 0)), (7, .c (.int .i64 (1 + ((i + 1 : Nat) : Int))))]) (fun _ => (g6, .cells 33 2 (ofL [.osl g 3 0 (i + 1), .int .i64 rt])) :: [(g, .cells 88 ((i + 1) * 3) (dnsF (B.1 ++ [⟨v, A.2, B.2⟩])))]) (fun _ => B.1.length = i) ?_ ?_
          · refine aw_drT 0 0 [0, 1, 2, 3, 4, 5, 6] ty_mixed (by kernel_rfl) ?_
            refine drk_nil ?_
            refine aw_ops_nil ?_
            refine aw_stop ?_
            refine awN_step [0, 1, 2, 3, 4, 5, 6] [0, 1] (by kernel_rfl) (by kernel_rfl) (by simp) (by rfl) ⟨⟨_, rfl, ?_⟩, ⟨_, rfl, ?_⟩, trivial⟩
            · repeat first|apply wa7|(refine wb1 rfl fun R r=>?_;simp only[go_sem, hn_g3, hn_g6, hzl, y1, y2, hzl, y3, ↓hlen, hn_g12, hn_g];with_reducible refine r _ _ ?_;clear r R)
              refine aw_stop ?_
              refine awN_step [1, 2, 3, 4, 5, 6] [1, 5] (by kernel_rfl) (by kernel_rfl) (by simp) (by rfl) ⟨⟨_, rfl, ?_⟩, ⟨_, rfl, ?_⟩, trivial⟩
              · repeat first|apply wa7|(refine wb1 rfl fun R r=>?_;simp only[go_sem, hn_g3, hn_g6, hzl, y1, y2, hzl, y3, ↓hlen, hn_g12, hn_g];with_reducible refine r _ _ ?_;clear r R)
                refine aw_stop ?_
                refine awN_step [2, 3, 4, 5, 6] [2, 5] (by kernel_rfl) (by kernel_rfl) (by simp) (by rfl) ⟨⟨_, rfl, ?_⟩, ⟨_, rfl, ?_⟩, trivial⟩
                · repeat first|apply wa7|(refine wb1 rfl fun R r=>?_;simp only[go_sem, hn_g3, hn_g6, hzl, y1, y2, hzl, y3, ↓hlen, hn_g12, hn_g];with_reducible refine r _ _ ?_;clear r R)
                  refine aw_stop ?_
                  refine awN_step [3, 4, 5, 6] [3, 5] (by kernel_rfl) (by kernel_rfl) (by simp) (by rfl) ⟨⟨_, rfl, ?_⟩, ⟨_, rfl, ?_⟩, trivial⟩
                  · repeat first|apply wa7|(refine wb1 rfl fun R r=>?_;simp only[go_sem, hn_g3, hn_g6, hzl, y1, y2, hzl, y3, ↓hlen, hn_g12, hn_g];with_reducible refine r _ _ ?_;clear r R)
                    refine aw_stop ?_
                    refine awN_step [4, 5, 6] [4, 5] (by kernel_rfl) (by kernel_rfl) (by simp) (by rfl) ⟨⟨_, rfl, ?_⟩, ⟨_, rfl, ?_⟩, trivial⟩
                    · repeat first|apply wa7|(refine wb1 rfl fun R r=>?_;simp only[go_sem, hn_g3, hn_g6, hzl, y1, y2, hzl, y3, ↓hlen, hn_g12, hn_g];with_reducible refine r _ _ ?_;clear r R)
                      refine aw_stop ?_
                      refine awN_step [5, 6] [5] (by kernel_rfl) (by kernel_rfl) (by simp) (by rfl) ⟨⟨_, rfl, ?_⟩, trivial⟩
                      refine aw_store rfl rfl rfl rfl (by simp only[go_sem, hn_g3, hn_g6, hzl, y1, y2, hzl, y3, ↓hlen, hn_g12, hn_g]<;>rfl) (by simp only[go_sem, hn_g3, hn_g6, hzl, y1, y2, hzl, y3, ↓hlen, hn_g12, hn_g]<;>rfl) (by simp only[go_sem, hn_g3, hn_g6, hzl, y1, y2, hzl, y3, ↓hlen, hn_g12, hn_g]<;>rfl) (by simp only[go_sem, hn_g3, hn_g6, hzl, y1, y2, hzl, y3, ↓hlen, hn_g12, hn_g]<;>rfl) (fun _ e => by cases e) (by first | rfl | exact solid_gs3 | exact solid_gs2) (by rfl) (by first|omega|simp) rfl ?_
                      (try simp only[go_sem, hn_g3, hn_g6, hzl, y1, y2, hzl, y3, ↓hlen, hn_g12, hn_g])
                      repeat first|apply wa7|(refine wb1 rfl fun R r=>?_;simp only[go_sem, hn_g3, hn_g6, hzl, y1, y2, hzl, y3, ↓hlen, hn_g12, hn_g];with_reducible refine r _ _ ?_;clear r R)
                      refine aw_stop ?_
                      refine awN_step [6] [6] (by kernel_rfl) (by kernel_rfl) (by simp) (by rfl) ⟨⟨_, rfl, ?_⟩, trivial⟩
                      repeat first|apply wa7|(refine wb1 rfl fun R r=>?_;simp only[go_sem, hn_g3, hn_g6, hzl, y1, y2, hzl, y3, ↓hlen, hn_g12, hn_g];with_reducible refine r _ _ ?_;clear r R)
                      refine aw_stop ?_
                      refine awN_nil ?_
                      exact aw_stop ⟨(), (by simp only[go_sem, hn_g3, hn_g6, hzl, y1, y2, hzl, y3, ↓hlen, hn_g12, hn_g]<;>and_intros<;>first|exact True.intro|(with_reducible rfl)|exact c_int (by omega)|rfl), List.Sublist.cons _ (List.Sublist.cons_cons _ (List.Sublist.cons _ (List.Sublist.refl _))), hn3⟩
                    · refine aw_store rfl rfl rfl rfl (by simp only[go_sem, hn_g3, hn_g6, hzl, y1, y2, hzl, y3, ↓hlen, hn_g12, hn_g]<;>rfl) (by simp only[go_sem, hn_g3, hn_g6, hzl, y1, y2, hzl, y3, ↓hlen, hn_g12, hn_g]<;>rfl) (by simp only[go_sem, hn_g3, hn_g6, hzl, y1, y2, hzl, y3, ↓hlen, hn_g12, hn_g]<;>rfl) (by simp only[go_sem, hn_g3, hn_g6, hzl, y1, y2, hzl, y3, ↓hlen, hn_g12, hn_g]<;>rfl) (fun _ e => by cases e) (by first | rfl | exact solid_gs3 | exact solid_gs2) (by rfl) (by first|omega|simp) rfl ?_
                      (try simp only[go_sem, hn_g3, hn_g6, hzl, y1, y2, hzl, y3, ↓hlen, hn_g12, hn_g])
                      repeat first|apply wa7|(refine wb1 rfl fun R r=>?_;simp only[go_sem, hn_g3, hn_g6, hzl, y1, y2, hzl, y3, ↓hlen, hn_g12, hn_g];with_reducible refine r _ _ ?_;clear r R)
                      refine aw_stop ?_
                      refine awN_step [4, 6] [4] (by kernel_rfl) (by kernel_rfl) (by simp) (by rfl) ⟨⟨_, rfl, ?_⟩, trivial⟩
                      repeat first|apply wa7|(refine wb1 rfl fun R r=>?_;simp only[go_sem, hn_g3, hn_g6, hzl, y1, y2, hzl, y3, ↓hlen, hn_g12, hn_g];with_reducible refine r _ _ ?_;clear r R)
                      refine aw_stop ?_
                      refine awN_step [6] [6] (by kernel_rfl) (by kernel_rfl) (by simp) (by rfl) ⟨⟨_, rfl, ?_⟩, trivial⟩
                      repeat first|apply wa7|(refine wb1 rfl fun R r=>?_;simp only[go_sem, hn_g3, hn_g6, hzl, y1, y2, hzl, y3, ↓hlen, hn_g12, hn_g];with_reducible refine r _ _ ?_;clear r R)
                      refine aw_stop ?_
                      refine awN_nil ?_
                      exact aw_stop ⟨(), (by simp only[go_sem, hn_g3, hn_g6, hzl, y1, y2, hzl, y3, ↓hlen, hn_g12, hn_g]<;>and_intros<;>first|exact True.intro|(with_reducible rfl)|exact c_int (by omega)|rfl), List.Sublist.cons _ (List.Sublist.cons_cons _ (List.Sublist.cons _ (List.Sublist.refl _))), hn3⟩
                  · refine aw_store rfl rfl rfl rfl (by simp only[go_sem, hn_g3, hn_g6, hzl, y1, y2, hzl, y3, ↓hlen, hn_g12, hn_g]<;>rfl) (by simp only[go_sem, hn_g3, hn_g6, hzl, y1, y2, hzl, y3, ↓hlen, hn_g12, hn_g]<;>rfl) (by simp only[go_sem, hn_g3, hn_g6, hzl, y1, y2, hzl, y3, ↓hlen, hn_g12, hn_g]<;>rfl) (by simp only[go_sem, hn_g3, hn_g6, hzl, y1, y2, hzl, y3, ↓hlen, hn_g12, hn_g]<;>rfl) (fun _ e => by cases e) (by first | rfl | exact solid_gs3 | exact solid_gs2) (by rfl) (by first|omega|simp) rfl ?_
                    (try simp only[go_sem, hn_g3, hn_g6, hzl, y1, y2, hzl, y3, ↓hlen, hn_g12, hn_g])
                    repeat first|apply wa7|(refine wb1 rfl fun R r=>?_;simp only[go_sem, hn_g3, hn_g6, hzl, y1, y2, hzl, y3, ↓hlen, hn_g12, hn_g];with_reducible refine r _ _ ?_;clear r R)
                    refine aw_stop ?_
                    refine awN_step [3, 4, 6] [3] (by kernel_rfl) (by kernel_rfl) (by simp) (by rfl) ⟨⟨_, rfl, ?_⟩, trivial⟩
                    repeat first|apply wa7|(refine wb1 rfl fun R r=>?_;simp only[go_sem, hn_g3, hn_g6, hzl, y1, y2, hzl, y3, ↓hlen, hn_g12, hn_g];with_reducible refine r _ _ ?_;clear r R)
                    refine aw_stop ?_
                    refine awN_step [4, 6] [4] (by kernel_rfl) (by kernel_rfl) (by simp) (by rfl) ⟨⟨_, rfl, ?_⟩, trivial⟩
                    repeat first|apply wa7|(refine wb1 rfl fun R r=>?_;simp only[go_sem, hn_g3, hn_g6, hzl, y1, y2, hzl, y3, ↓hlen, hn_g12, hn_g];with_reducible refine r _ _ ?_;clear r R)
                    refine aw_stop ?_
                    refine awN_step [6] [6] (by kernel_rfl) (by kernel_rfl) (by simp) (by rfl) ⟨⟨_, rfl, ?_⟩, trivial⟩
                    repeat first|apply wa7|(refine wb1 rfl fun R r=>?_;simp only[go_sem, hn_g3, hn_g6, hzl, y1, y2, hzl, y3, ↓hlen, hn_g12, hn_g];with_reducible refine r _ _ ?_;clear r R)
                    refine aw_stop ?_
                    refine awN_nil ?_
                    exact aw_stop ⟨(), (by simp only[go_sem, hn_g3, hn_g6, hzl, y1, y2, hzl, y3, ↓hlen, hn_g12, hn_g]<;>and_intros<;>first|exact True.intro|(with_reducible rfl)|exact c_int (by omega)|rfl), List.Sublist.cons _ (List.Sublist.cons_cons _ (List.Sublist.cons _ (List.Sublist.refl _))), hn3⟩
                · refine aw_store rfl rfl rfl rfl (by simp only[go_sem, hn_g3, hn_g6, hzl, y1, y2, hzl, y3, ↓hlen, hn_g12, hn_g]<;>rfl) (by simp only[go_sem, hn_g3, hn_g6, hzl, y1, y2, hzl, y3, ↓hlen, hn_g12, hn_g]<;>rfl) (by simp only[go_sem, hn_g3, hn_g6, hzl, y1, y2, hzl, y3, ↓hlen, hn_g12, hn_g]<;>rfl) (by simp only[go_sem, hn_g3, hn_g6, hzl, y1, y2, hzl, y3, ↓hlen, hn_g12, hn_g]<;>rfl) (fun _ e => by cases e) (by first | rfl | exact solid_gs3 | exact solid_gs2) (by rfl) (by first|omega|simp) rfl ?_
                  (try simp only[go_sem, hn_g3, hn_g6, hzl, y1, y2, hzl, y3, ↓hlen, hn_g12, hn_g])
                  repeat first|apply wa7|(refine wb1 rfl fun R r=>?_;simp only[go_sem, hn_g3, hn_g6, hzl, y1, y2, hzl, y3, ↓hlen, hn_g12, hn_g];with_reducible refine r _ _ ?_;clear r R)
                  refine aw_stop ?_
                  refine awN_step [2, 3, 4, 6] [2] (by kernel_rfl) (by kernel_rfl) (by simp) (by rfl) ⟨⟨_, rfl, ?_⟩, trivial⟩
                  repeat first|apply wa7|(refine wb1 rfl fun R r=>?_;simp only[go_sem, hn_g3, hn_g6, hzl, y1, y2, hzl, y3, ↓hlen, hn_g12, hn_g];with_reducible refine r _ _ ?_;clear r R)
                  refine aw_stop ?_
                  refine awN_step [3, 4, 6] [3] (by kernel_rfl) (by kernel_rfl) (by simp) (by rfl) ⟨⟨_, rfl, ?_⟩, trivial⟩
                  repeat first|apply wa7|(refine wb1 rfl fun R r=>?_;simp only[go_sem, hn_g3, hn_g6, hzl, y1, y2, hzl, y3, ↓hlen, hn_g12, hn_g];with_reducible refine r _ _ ?_;clear r R)
                  refine aw_stop ?_
                  refine awN_step [4, 6] [4] (by kernel_rfl) (by kernel_rfl) (by simp) (by rfl) ⟨⟨_, rfl, ?_⟩, trivial⟩
                  repeat first|apply wa7|(refine wb1 rfl fun R r=>?_;simp only[go_sem, hn_g3, hn_g6, hzl, y1, y2, hzl, y3, ↓hlen, hn_g12, hn_g];with_reducible refine r _ _ ?_;clear r R)
                  refine aw_stop ?_
                  refine awN_step [6] [6] (by kernel_rfl) (by kernel_rfl) (by simp) (by rfl) ⟨⟨_, rfl, ?_⟩, trivial⟩
                  repeat first|apply wa7|(refine wb1 rfl fun R r=>?_;simp only[go_sem, hn_g3, hn_g6, hzl, y1, y2, hzl, y3, ↓hlen, hn_g12, hn_g];with_reducible refine r _ _ ?_;clear r R)
                  refine aw_stop ?_
                  refine awN_nil ?_
                  exact aw_stop ⟨(), (by simp only[go_sem, hn_g3, hn_g6, hzl, y1, y2, hzl, y3, ↓hlen, hn_g12, hn_g]<;>and_intros<;>first|exact True.intro|(with_reducible rfl)|exact c_int (by omega)|rfl), List.Sublist.cons _ (List.Sublist.cons_cons _ (List.Sublist.cons _ (List.Sublist.refl _))), hn3⟩
              · refine aw_store rfl rfl rfl rfl (by simp only[go_sem, hn_g3, hn_g6, hzl, y1, y2, hzl, y3, ↓hlen, hn_g12, hn_g]<;>rfl) (by simp only[go_sem, hn_g3, hn_g6, hzl, y1, y2, hzl, y3, ↓hlen, hn_g12, hn_g]<;>rfl) (by simp only[go_sem, hn_g3, hn_g6, hzl, y1, y2, hzl, y3, ↓hlen, hn_g12, hn_g]<;>rfl) (by simp only[go_sem, hn_g3, hn_g6, hzl, y1, y2, hzl, y3, ↓hlen, hn_g12, hn_g]<;>rfl) (fun _ e => by cases e) (by first | rfl | exact solid_gs3 | exact solid_gs2) (by rfl) (by first|omega|simp) rfl ?_
                (try simp only[go_sem, hn_g3, hn_g6, hzl, y1, y2, hzl, y3, ↓hlen, hn_g12, hn_g])
                repeat first|apply wa7|(refine wb1 rfl fun R r=>?_;simp only[go_sem, hn_g3, hn_g6, hzl, y1, y2, hzl, y3, ↓hlen, hn_g12, hn_g];with_reducible refine r _ _ ?_;clear r R)
                refine aw_stop ?_
                refine awN_step [1, 2, 3, 4, 6] [1] (by kernel_rfl) (by kernel_rfl) (by simp) (by rfl) ⟨⟨_, rfl, ?_⟩, trivial⟩
                repeat first|apply wa7|(refine wb1 rfl fun R r=>?_;simp only[go_sem, hn_g3, hn_g6, hzl, y1, y2, hzl, y3, ↓hlen, hn_g12, hn_g];with_reducible refine r _ _ ?_;clear r R)
                refine aw_stop ?_
                refine awN_step [2, 3, 4, 6] [2] (by kernel_rfl) (by kernel_rfl) (by simp) (by rfl) ⟨⟨_, rfl, ?_⟩, trivial⟩
                repeat first|apply wa7|(refine wb1 rfl fun R r=>?_;simp only[go_sem, hn_g3, hn_g6, hzl, y1, y2, hzl, y3, ↓hlen, hn_g12, hn_g];with_reducible refine r _ _ ?_;clear r R)
                refine aw_stop ?_
                refine awN_step [3, 4, 6] [3] (by kernel_rfl) (by kernel_rfl) (by simp) (by rfl) ⟨⟨_, rfl, ?_⟩, trivial⟩
                repeat first|apply wa7|(refine wb1 rfl fun R r=>?_;simp only[go_sem, hn_g3, hn_g6, hzl, y1, y2, hzl, y3, ↓hlen, hn_g12, hn_g];with_reducible refine r _ _ ?_;clear r R)
                refine aw_stop ?_
                refine awN_step [4, 6] [4] (by kernel_rfl) (by kernel_rfl) (by simp) (by rfl) ⟨⟨_, rfl, ?_⟩, trivial⟩
                repeat first|apply wa7|(refine wb1 rfl fun R r=>?_;simp only[go_sem, hn_g3, hn_g6, hzl, y1, y2, hzl, y3, ↓hlen, hn_g12, hn_g];with_reducible refine r _ _ ?_;clear r R)
                refine aw_stop ?_
                refine awN_step [6] [6] (by kernel_rfl) (by kernel_rfl) (by simp) (by rfl) ⟨⟨_, rfl, ?_⟩, trivial⟩
                repeat first|apply wa7|(refine wb1 rfl fun R r=>?_;simp only[go_sem, hn_g3, hn_g6, hzl, y1, y2, hzl, y3, ↓hlen, hn_g12, hn_g];with_reducible refine r _ _ ?_;clear r R)
                refine aw_stop ?_
                refine awN_nil ?_
                exact aw_stop ⟨(), (by simp only[go_sem, hn_g3, hn_g6, hzl, y1, y2, hzl, y3, ↓hlen, hn_g12, hn_g]<;>and_intros<;>first|exact True.intro|(with_reducible rfl)|exact c_int (by omega)|rfl), List.Sublist.cons _ (List.Sublist.cons_cons _ (List.Sublist.cons _ (List.Sublist.refl _))), hn3⟩
            · repeat first|apply wa7|(refine wb1 rfl fun R r=>?_;simp only[go_sem, hn_g3, hn_g6, hzl, y1, y2, hzl, y3, ↓hlen, hn_g12, hn_g];with_reducible refine r _ _ ?_;clear r R)
              refine aw_stop ?_
              refine awN_step [0, 2, 3, 4, 5, 6] [0, 2] (by kernel_rfl) (by kernel_rfl) (by simp) (by rfl) ⟨⟨_, rfl, ?_⟩, ⟨_, rfl, ?_⟩, trivial⟩
              · repeat first|apply wa7|(refine wb1 rfl fun R r=>?_;simp only[go_sem, hn_g3, hn_g6, hzl, y1, y2, hzl, y3, ↓hlen, hn_g12, hn_g];with_reducible refine r _ _ ?_;clear r R)
                refine aw_stop ?_
                refine awN_step [2, 3, 4, 5, 6] [2, 5] (by kernel_rfl) (by kernel_rfl) (by simp) (by rfl) ⟨⟨_, rfl, ?_⟩, ⟨_, rfl, ?_⟩, trivial⟩
                · repeat first|apply wa7|(refine wb1 rfl fun R r=>?_;simp only[go_sem, hn_g3, hn_g6, hzl, y1, y2, hzl, y3, ↓hlen, hn_g12, hn_g];with_reducible refine r _ _ ?_;clear r R)
                  refine aw_stop ?_
                  refine awN_step [3, 4, 5, 6] [3, 5] (by kernel_rfl) (by kernel_rfl) (by simp) (by rfl) ⟨⟨_, rfl, ?_⟩, ⟨_, rfl, ?_⟩, trivial⟩
                  · repeat first|apply wa7|(refine wb1 rfl fun R r=>?_;simp only[go_sem, hn_g3, hn_g6, hzl, y1, y2, hzl, y3, ↓hlen, hn_g12, hn_g];with_reducible refine r _ _ ?_;clear r R)
                    refine aw_stop ?_
                    refine awN_step [4, 5, 6] [4, 5] (by kernel_rfl) (by kernel_rfl) (by simp) (by rfl) ⟨⟨_, rfl, ?_⟩, ⟨_, rfl, ?_⟩, trivial⟩
                    · repeat first|apply wa7|(refine wb1 rfl fun R r=>?_;simp only[go_sem, hn_g3, hn_g6, hzl, y1, y2, hzl, y3, ↓hlen, hn_g12, hn_g];with_reducible refine r _ _ ?_;clear r R)
                      refine aw_stop ?_
                      refine awN_step [5, 6] [5] (by kernel_rfl) (by kernel_rfl) (by simp) (by rfl) ⟨⟨_, rfl, ?_⟩, trivial⟩
                      refine aw_store rfl rfl rfl rfl (by simp only[go_sem, hn_g3, hn_g6, hzl, y1, y2, hzl, y3, ↓hlen, hn_g12, hn_g]<;>rfl) (by simp only[go_sem, hn_g3, hn_g6, hzl, y1, y2, hzl, y3, ↓hlen, hn_g12, hn_g]<;>rfl) (by simp only[go_sem, hn_g3, hn_g6, hzl, y1, y2, hzl, y3, ↓hlen, hn_g12, hn_g]<;>rfl) (by simp only[go_sem, hn_g3, hn_g6, hzl, y1, y2, hzl, y3, ↓hlen, hn_g12, hn_g]<;>rfl) (fun _ e => by cases e) (by first | rfl | exact solid_gs3 | exact solid_gs2) (by rfl) (by first|omega|simp) rfl ?_
                      (try simp only[go_sem, hn_g3, hn_g6, hzl, y1, y2, hzl, y3, ↓hlen, hn_g12, hn_g])
                      repeat first|apply wa7|(refine wb1 rfl fun R r=>?_;simp only[go_sem, hn_g3, hn_g6, hzl, y1, y2, hzl, y3, ↓hlen, hn_g12, hn_g];with_reducible refine r _ _ ?_;clear r R)
                      refine aw_stop ?_
                      refine awN_step [6] [6] (by kernel_rfl) (by kernel_rfl) (by simp) (by rfl) ⟨⟨_, rfl, ?_⟩, trivial⟩
                      repeat first|apply wa7|(refine wb1 rfl fun R r=>?_;simp only[go_sem, hn_g3, hn_g6, hzl, y1, y2, hzl, y3, ↓hlen, hn_g12, hn_g];with_reducible refine r _ _ ?_;clear r R)
                      refine aw_stop ?_
                      refine awN_nil ?_
                      exact aw_stop ⟨(), (by simp only[go_sem, hn_g3, hn_g6, hzl, y1, y2, hzl, y3, ↓hlen, hn_g12, hn_g]<;>and_intros<;>first|exact True.intro|(with_reducible rfl)|exact c_int (by omega)|rfl), List.Sublist.cons _ (List.Sublist.cons_cons _ (List.Sublist.cons _ (List.Sublist.refl _))), hn3⟩
                    · refine aw_store rfl rfl rfl rfl (by simp only[go_sem, hn_g3, hn_g6, hzl, y1, y2, hzl, y3, ↓hlen, hn_g12, hn_g]<;>rfl) (by simp only[go_sem, hn_g3, hn_g6, hzl, y1, y2, hzl, y3, ↓hlen, hn_g12, hn_g]<;>rfl) (by simp only[go_sem, hn_g3, hn_g6, hzl, y1, y2, hzl, y3, ↓hlen, hn_g12, hn_g]<;>rfl) (by simp only[go_sem, hn_g3, hn_g6, hzl, y1, y2, hzl, y3, ↓hlen, hn_g12, hn_g]<;>rfl) (fun _ e => by cases e) (by first | rfl | exact solid_gs3 | exact solid_gs2) (by rfl) (by first|omega|simp) rfl ?_
                      (try simp only[go_sem, hn_g3, hn_g6, hzl, y1, y2, hzl, y3, ↓hlen, hn_g12, hn_g])
                      repeat first|apply wa7|(refine wb1 rfl fun R r=>?_;simp only[go_sem, hn_g3, hn_g6, hzl, y1, y2, hzl, y3, ↓hlen, hn_g12, hn_g];with_reducible refine r _ _ ?_;clear r R)
                      refine aw_stop ?_
                      refine awN_step [4, 6] [4] (by kernel_rfl) (by kernel_rfl) (by simp) (by rfl) ⟨⟨_, rfl, ?_⟩, trivial⟩
                      repeat first|apply wa7|(refine wb1 rfl fun R r=>?_;simp only[go_sem, hn_g3, hn_g6, hzl, y1, y2, hzl, y3, ↓hlen, hn_g12, hn_g];with_reducible refine r _ _ ?_;clear r R)
                      refine aw_stop ?_
                      refine awN_step [6] [6] (by kernel_rfl) (by kernel_rfl) (by simp) (by rfl) ⟨⟨_, rfl, ?_⟩, trivial⟩
                      repeat first|apply wa7|(refine wb1 rfl fun R r=>?_;simp only[go_sem, hn_g3, hn_g6, hzl, y1, y2, hzl, y3, ↓hlen, hn_g12, hn_g];with_reducible refine r _ _ ?_;clear r R)
                      refine aw_stop ?_
                      refine awN_nil ?_
                      exact aw_stop ⟨(), (by simp only[go_sem, hn_g3, hn_g6, hzl, y1, y2, hzl, y3, ↓hlen, hn_g12, hn_g]<;>and_intros<;>first|exact True.intro|(with_reducible rfl)|exact c_int (by omega)|rfl), List.Sublist.cons _ (List.Sublist.cons_cons _ (List.Sublist.cons _ (List.Sublist.refl _))), hn3⟩
                  · refine aw_store rfl rfl rfl rfl (by simp only[go_sem, hn_g3, hn_g6, hzl, y1, y2, hzl, y3, ↓hlen, hn_g12, hn_g]<;>rfl) (by simp only[go_sem, hn_g3, hn_g6, hzl, y1, y2, hzl, y3, ↓hlen, hn_g12, hn_g]<;>rfl) (by simp only[go_sem, hn_g3, hn_g6, hzl, y1, y2, hzl, y3, ↓hlen, hn_g12, hn_g]<;>rfl) (by simp only[go_sem, hn_g3, hn_g6, hzl, y1, y2, hzl, y3, ↓hlen, hn_g12, hn_g]<;>rfl) (fun _ e => by cases e) (by first | rfl | exact solid_gs3 | exact solid_gs2) (by rfl) (by first|omega|simp) rfl ?_
                    (try simp only[go_sem, hn_g3, hn_g6, hzl, y1, y2, hzl, y3, ↓hlen, hn_g12, hn_g])
                    repeat first|apply wa7|(refine wb1 rfl fun R r=>?_;simp only[go_sem, hn_g3, hn_g6, hzl, y1, y2, hzl, y3, ↓hlen, hn_g12, hn_g];with_reducible refine r _ _ ?_;clear r R)
                    refine aw_stop ?_
                    refine awN_step [3, 4, 6] [3] (by kernel_rfl) (by kernel_rfl) (by simp) (by rfl) ⟨⟨_, rfl, ?_⟩, trivial⟩
                    repeat first|apply wa7|(refine wb1 rfl fun R r=>?_;simp only[go_sem, hn_g3, hn_g6, hzl, y1, y2, hzl, y3, ↓hlen, hn_g12, hn_g];with_reducible refine r _ _ ?_;clear r R)
                    refine aw_stop ?_
                    refine awN_step [4, 6] [4] (by kernel_rfl) (by kernel_rfl) (by simp) (by rfl) ⟨⟨_, rfl, ?_⟩, trivial⟩
                    repeat first|apply wa7|(refine wb1 rfl fun R r=>?_;simp only[go_sem, hn_g3, hn_g6, hzl, y1, y2, hzl, y3, ↓hlen, hn_g12, hn_g];with_reducible refine r _ _ ?_;clear r R)
                    refine aw_stop ?_
                    refine awN_step [6] [6] (by kernel_rfl) (by kernel_rfl) (by simp) (by rfl) ⟨⟨_, rfl, ?_⟩, trivial⟩
                    repeat first|apply wa7|(refine wb1 rfl fun R r=>?_;simp only[go_sem, hn_g3, hn_g6, hzl, y1, y2, hzl, y3, ↓hlen, hn_g12, hn_g];with_reducible refine r _ _ ?_;clear r R)
                    refine aw_stop ?_
                    refine awN_nil ?_
                    exact aw_stop ⟨(), (by simp only[go_sem, hn_g3, hn_g6, hzl, y1, y2, hzl, y3, ↓hlen, hn_g12, hn_g]<;>and_intros<;>first|exact True.intro|(with_reducible rfl)|exact c_int (by omega)|rfl), List.Sublist.cons _ (List.Sublist.cons_cons _ (List.Sublist.cons _ (List.Sublist.refl _))), hn3⟩
                · refine aw_store rfl rfl rfl rfl (by simp only[go_sem, hn_g3, hn_g6, hzl, y1, y2, hzl, y3, ↓hlen, hn_g12, hn_g]<;>rfl) (by simp only[go_sem, hn_g3, hn_g6, hzl, y1, y2, hzl, y3, ↓hlen, hn_g12, hn_g]<;>rfl) (by simp only[go_sem, hn_g3, hn_g6, hzl, y1, y2, hzl, y3, ↓hlen, hn_g12, hn_g]<;>rfl) (by simp only[go_sem, hn_g3, hn_g6, hzl, y1, y2, hzl, y3, ↓hlen, hn_g12, hn_g]<;>rfl) (fun _ e => by cases e) (by first | rfl | exact solid_gs3 | exact solid_gs2) (by rfl) (by first|omega|simp) rfl ?_
                  (try simp only[go_sem, hn_g3, hn_g6, hzl, y1, y2, hzl, y3, ↓hlen, hn_g12, hn_g])
                  repeat first|apply wa7|(refine wb1 rfl fun R r=>?_;simp only[go_sem, hn_g3, hn_g6, hzl, y1, y2, hzl, y3, ↓hlen, hn_g12, hn_g];with_reducible refine r _ _ ?_;clear r R)
                  refine aw_stop ?_
                  refine awN_step [2, 3, 4, 6] [2] (by kernel_rfl) (by kernel_rfl) (by simp) (by rfl) ⟨⟨_, rfl, ?_⟩, trivial⟩
                  repeat first|apply wa7|(refine wb1 rfl fun R r=>?_;simp only[go_sem, hn_g3, hn_g6, hzl, y1, y2, hzl, y3, ↓hlen, hn_g12, hn_g];with_reducible refine r _ _ ?_;clear r R)
                  refine aw_stop ?_
                  refine awN_step [3, 4, 6] [3] (by kernel_rfl) (by kernel_rfl) (by simp) (by rfl) ⟨⟨_, rfl, ?_⟩, trivial⟩
                  repeat first|apply wa7|(refine wb1 rfl fun R r=>?_;simp only[go_sem, hn_g3, hn_g6, hzl, y1, y2, hzl, y3, ↓hlen, hn_g12, hn_g];with_reducible refine r _ _ ?_;clear r R)
                  refine aw_stop ?_
                  refine awN_step [4, 6] [4] (by kernel_rfl) (by kernel_rfl) (by simp) (by rfl) ⟨⟨_, rfl, ?_⟩, trivial⟩
                  repeat first|apply wa7|(refine wb1 rfl fun R r=>?_;simp only[go_sem, hn_g3, hn_g6, hzl, y1, y2, hzl, y3, ↓hlen, hn_g12, hn_g];with_reducible refine r _ _ ?_;clear r R)
                  refine aw_stop ?_
                  refine awN_step [6] [6] (by kernel_rfl) (by kernel_rfl) (by simp) (by rfl) ⟨⟨_, rfl, ?_⟩, trivial⟩
                  repeat first|apply wa7|(refine wb1 rfl fun R r=>?_;simp only[go_sem, hn_g3, hn_g6, hzl, y1, y2, hzl, y3, ↓hlen, hn_g12, hn_g];with_reducible refine r _ _ ?_;clear r R)
                  refine aw_stop ?_
                  refine awN_nil ?_
                  exact aw_stop ⟨(), (by simp only[go_sem, hn_g3, hn_g6, hzl, y1, y2, hzl, y3, ↓hlen, hn_g12, hn_g]<;>and_intros<;>first|exact True.intro|(with_reducible rfl)|exact c_int (by omega)|rfl), List.Sublist.cons _ (List.Sublist.cons_cons _ (List.Sublist.cons _ (List.Sublist.refl _))), hn3⟩
              · repeat first|apply wa7|(refine wb1 rfl fun R r=>?_;simp only[go_sem, hn_g3, hn_g6, hzl, y1, y2, hzl, y3, ↓hlen, hn_g12, hn_g];with_reducible refine r _ _ ?_;clear r R)
                refine aw_stop ?_
                refine awN_step [0, 3, 4, 5, 6] [0, 3] (by kernel_rfl) (by kernel_rfl) (by simp) (by rfl) ⟨⟨_, rfl, ?_⟩, ⟨_, rfl, ?_⟩, trivial⟩
                · repeat first|apply wa7|(refine wb1 rfl fun R r=>?_;simp only[go_sem, hn_g3, hn_g6, hzl, y1, y2, hzl, y3, ↓hlen, hn_g12, hn_g];with_reducible refine r _ _ ?_;clear r R)
                  refine aw_stop ?_
                  refine awN_step [3, 4, 5, 6] [3, 5] (by kernel_rfl) (by kernel_rfl) (by simp) (by rfl) ⟨⟨_, rfl, ?_⟩, ⟨_, rfl, ?_⟩, trivial⟩
                  · repeat first|apply wa7|(refine wb1 rfl fun R r=>?_;simp only[go_sem, hn_g3, hn_g6, hzl, y1, y2, hzl, y3, ↓hlen, hn_g12, hn_g];with_reducible refine r _ _ ?_;clear r R)
                    refine aw_stop ?_
                    refine awN_step [4, 5, 6] [4, 5] (by kernel_rfl) (by kernel_rfl) (by simp) (by rfl) ⟨⟨_, rfl, ?_⟩, ⟨_, rfl, ?_⟩, trivial⟩
                    · repeat first|apply wa7|(refine wb1 rfl fun R r=>?_;simp only[go_sem, hn_g3, hn_g6, hzl, y1, y2, hzl, y3, ↓hlen, hn_g12, hn_g];with_reducible refine r _ _ ?_;clear r R)
                      refine aw_stop ?_
                      refine awN_step [5, 6] [5] (by kernel_rfl) (by kernel_rfl) (by simp) (by rfl) ⟨⟨_, rfl, ?_⟩, trivial⟩
                      refine aw_store rfl rfl rfl rfl (by simp only[go_sem, hn_g3, hn_g6, hzl, y1, y2, hzl, y3, ↓hlen, hn_g12, hn_g]<;>rfl) (by simp only[go_sem, hn_g3, hn_g6, hzl, y1, y2, hzl, y3, ↓hlen, hn_g12, hn_g]<;>rfl) (by simp only[go_sem, hn_g3, hn_g6, hzl, y1, y2, hzl, y3, ↓hlen, hn_g12, hn_g]<;>rfl) (by simp only[go_sem, hn_g3, hn_g6, hzl, y1, y2, hzl, y3, ↓hlen, hn_g12, hn_g]<;>rfl) (fun _ e => by cases e) (by first | rfl | exact solid_gs3 | exact solid_gs2) (by rfl) (by first|omega|simp) rfl ?_
                      (try simp only[go_sem, hn_g3, hn_g6, hzl, y1, y2, hzl, y3, ↓hlen, hn_g12, hn_g])
                      repeat first|apply wa7|(refine wb1 rfl fun R r=>?_;simp only[go_sem, hn_g3, hn_g6, hzl, y1, y2, hzl, y3, ↓hlen, hn_g12, hn_g];with_reducible refine r _ _ ?_;clear r R)
                      refine aw_stop ?_
                      refine awN_step [6] [6] (by kernel_rfl) (by kernel_rfl) (by simp) (by rfl) ⟨⟨_, rfl, ?_⟩, trivial⟩
                      repeat first|apply wa7|(refine wb1 rfl fun R r=>?_;simp only[go_sem, hn_g3, hn_g6, hzl, y1, y2, hzl, y3, ↓hlen, hn_g12, hn_g];with_reducible refine r _ _ ?_;clear r R)
                      refine aw_stop ?_
                      refine awN_nil ?_
                      exact aw_stop ⟨(), (by simp only[go_sem, hn_g3, hn_g6, hzl, y1, y2, hzl, y3, ↓hlen, hn_g12, hn_g]<;>and_intros<;>first|exact True.intro|(with_reducible rfl)|exact c_int (by omega)|rfl), List.Sublist.cons _ (List.Sublist.cons_cons _ (List.Sublist.cons _ (List.Sublist.refl _))), hn3⟩
                    · refine aw_store rfl rfl rfl rfl (by simp only[go_sem, hn_g3, hn_g6, hzl, y1, y2, hzl, y3, ↓hlen, hn_g12, hn_g]<;>rfl) (by simp only[go_sem, hn_g3, hn_g6, hzl, y1, y2, hzl, y3, ↓hlen, hn_g12, hn_g]<;>rfl) (by simp only[go_sem, hn_g3, hn_g6, hzl, y1, y2, hzl, y3, ↓hlen, hn_g12, hn_g]<;>rfl) (by simp only[go_sem, hn_g3, hn_g6, hzl, y1, y2, hzl, y3, ↓hlen, hn_g12, hn_g]<;>rfl) (fun _ e => by cases e) (by first | rfl | exact solid_gs3 | exact solid_gs2) (by rfl) (by first|omega|simp) rfl ?_
                      (try simp only[go_sem, hn_g3, hn_g6, hzl, y1, y2, hzl, y3, ↓hlen, hn_g12, hn_g])
                      repeat first|apply wa7|(refine wb1 rfl fun R r=>?_;simp only[go_sem, hn_g3, hn_g6, hzl, y1, y2, hzl, y3, ↓hlen, hn_g12, hn_g];with_reducible refine r _ _ ?_;clear r R)
                      refine aw_stop ?_
                      refine awN_step [4, 6] [4] (by kernel_rfl) (by kernel_rfl) (by simp) (by rfl) ⟨⟨_, rfl, ?_⟩, trivial⟩
                      repeat first|apply wa7|(refine wb1 rfl fun R r=>?_;simp only[go_sem, hn_g3, hn_g6, hzl, y1, y2, hzl, y3, ↓hlen, hn_g12, hn_g];with_reducible refine r _ _ ?_;clear r R)
                      refine aw_stop ?_
                      refine awN_step [6] [6] (by kernel_rfl) (by kernel_rfl) (by simp) (by rfl) ⟨⟨_, rfl, ?_⟩, trivial⟩
                      repeat first|apply wa7|(refine wb1 rfl fun R r=>?_;simp only[go_sem, hn_g3, hn_g6, hzl, y1, y2, hzl, y3, ↓hlen, hn_g12, hn_g];with_reducible refine r _ _ ?_;clear r R)
                      refine aw_stop ?_
                      refine awN_nil ?_
                      exact aw_stop ⟨(), (by simp only[go_sem, hn_g3, hn_g6, hzl, y1, y2, hzl, y3, ↓hlen, hn_g12, hn_g]<;>and_intros<;>first|exact True.intro|(with_reducible rfl)|exact c_int (by omega)|rfl), List.Sublist.cons _ (List.Sublist.cons_cons _ (List.Sublist.cons _ (List.Sublist.refl _))), hn3⟩
                  · refine aw_store rfl rfl rfl rfl (by simp only[go_sem, hn_g3, hn_g6, hzl, y1, y2, hzl, y3, ↓hlen, hn_g12, hn_g]<;>rfl) (by simp only[go_sem, hn_g3, hn_g6, hzl, y1, y2, hzl, y3, ↓hlen, hn_g12, hn_g]<;>rfl) (by simp only[go_sem, hn_g3, hn_g6, hzl, y1, y2, hzl, y3, ↓hlen, hn_g12, hn_g]<;>rfl) (by simp only[go_sem, hn_g3, hn_g6, hzl, y1, y2, hzl, y3, ↓hlen, hn_g12, hn_g]<;>rfl) (fun _ e => by cases e) (by first | rfl | exact solid_gs3 | exact solid_gs2) (by rfl) (by first|omega|simp) rfl ?_
                    (try simp only[go_sem, hn_g3, hn_g6, hzl, y1, y2, hzl, y3, ↓hlen, hn_g12, hn_g])
                    repeat first|apply wa7|(refine wb1 rfl fun R r=>?_;simp only[go_sem, hn_g3, hn_g6, hzl, y1, y2, hzl, y3, ↓hlen, hn_g12, hn_g];with_reducible refine r _ _ ?_;clear r R)
                    refine aw_stop ?_
                    refine awN_step [3, 4, 6] [3] (by kernel_rfl) (by kernel_rfl) (by simp) (by rfl) ⟨⟨_, rfl, ?_⟩, trivial⟩
                    repeat first|apply wa7|(refine wb1 rfl fun R r=>?_;simp only[go_sem, hn_g3, hn_g6, hzl, y1, y2, hzl, y3, ↓hlen, hn_g12, hn_g];with_reducible refine r _ _ ?_;clear r R)
                    refine aw_stop ?_
                    refine awN_step [4, 6] [4] (by kernel_rfl) (by kernel_rfl) (by simp) (by rfl) ⟨⟨_, rfl, ?_⟩, trivial⟩
                    repeat first|apply wa7|(refine wb1 rfl fun R r=>?_;simp only[go_sem, hn_g3, hn_g6, hzl, y1, y2, hzl, y3, ↓hlen, hn_g12, hn_g];with_reducible refine r _ _ ?_;clear r R)
                    refine aw_stop ?_
                    refine awN_step [6] [6] (by kernel_rfl) (by kernel_rfl) (by simp) (by rfl) ⟨⟨_, rfl, ?_⟩, trivial⟩
                    repeat first|apply wa7|(refine wb1 rfl fun R r=>?_;simp only[go_sem, hn_g3, hn_g6, hzl, y1, y2, hzl, y3, ↓hlen, hn_g12, hn_g];with_reducible refine r _ _ ?_;clear r R)
                    refine aw_stop ?_
                    refine awN_nil ?_
                    exact aw_stop ⟨(), (by simp only[go_sem, hn_g3, hn_g6, hzl, y1, y2, hzl, y3, ↓hlen, hn_g12, hn_g]<;>and_intros<;>first|exact True.intro|(with_reducible rfl)|exact c_int (by omega)|rfl), List.Sublist.cons _ (List.Sublist.cons_cons _ (List.Sublist.cons _ (List.Sublist.refl _))), hn3⟩
                · repeat first|apply wa7|(refine wb1 rfl fun R r=>?_;simp only[go_sem, hn_g3, hn_g6, hzl, y1, y2, hzl, y3, ↓hlen, hn_g12, hn_g];with_reducible refine r _ _ ?_;clear r R)
                  refine aw_stop ?_
                  refine awN_step [0, 4, 5, 6] [0, 4] (by kernel_rfl) (by kernel_rfl) (by simp) (by rfl) ⟨⟨_, rfl, ?_⟩, ⟨_, rfl, ?_⟩, trivial⟩
                  · repeat first|apply wa7|(refine wb1 rfl fun R r=>?_;simp only[go_sem, hn_g3, hn_g6, hzl, y1, y2, hzl, y3, ↓hlen, hn_g12, hn_g];with_reducible refine r _ _ ?_;clear r R)
                    refine aw_stop ?_
                    refine awN_step [4, 5, 6] [4, 5] (by kernel_rfl) (by kernel_rfl) (by simp) (by rfl) ⟨⟨_, rfl, ?_⟩, ⟨_, rfl, ?_⟩, trivial⟩
                    · repeat first|apply wa7|(refine wb1 rfl fun R r=>?_;simp only[go_sem, hn_g3, hn_g6, hzl, y1, y2, hzl, y3, ↓hlen, hn_g12, hn_g];with_reducible refine r _ _ ?_;clear r R)
                      refine aw_stop ?_
                      refine awN_step [5, 6] [5] (by kernel_rfl) (by kernel_rfl) (by simp) (by rfl) ⟨⟨_, rfl, ?_⟩, trivial⟩
                      refine aw_store rfl rfl rfl rfl (by simp only[go_sem, hn_g3, hn_g6, hzl, y1, y2, hzl, y3, ↓hlen, hn_g12, hn_g]<;>rfl) (by simp only[go_sem, hn_g3, hn_g6, hzl, y1, y2, hzl, y3, ↓hlen, hn_g12, hn_g]<;>rfl) (by simp only[go_sem, hn_g3, hn_g6, hzl, y1, y2, hzl, y3, ↓hlen, hn_g12, hn_g]<;>rfl) (by simp only[go_sem, hn_g3, hn_g6, hzl, y1, y2, hzl, y3, ↓hlen, hn_g12, hn_g]<;>rfl) (fun _ e => by cases e) (by first | rfl | exact solid_gs3 | exact solid_gs2) (by rfl) (by first|omega|simp) rfl ?_
                      (try simp only[go_sem, hn_g3, hn_g6, hzl, y1, y2, hzl, y3, ↓hlen, hn_g12, hn_g])
                      repeat first|apply wa7|(refine wb1 rfl fun R r=>?_;simp only[go_sem, hn_g3, hn_g6, hzl, y1, y2, hzl, y3, ↓hlen, hn_g12, hn_g];with_reducible refine r _ _ ?_;clear r R)
                      refine aw_stop ?_
                      refine awN_step [6] [6] (by kernel_rfl) (by kernel_rfl) (by simp) (by rfl) ⟨⟨_, rfl, ?_⟩, trivial⟩
                      repeat first|apply wa7|(refine wb1 rfl fun R r=>?_;simp only[go_sem, hn_g3, hn_g6, hzl, y1, y2, hzl, y3, ↓hlen, hn_g12, hn_g];with_reducible refine r _ _ ?_;clear r R)
                      refine aw_stop ?_
                      refine awN_nil ?_
                      exact aw_stop ⟨(), (by simp only[go_sem, hn_g3, hn_g6, hzl, y1, y2, hzl, y3, ↓hlen, hn_g12, hn_g]<;>and_intros<;>first|exact True.intro|(with_reducible rfl)|exact c_int (by omega)|rfl), List.Sublist.cons _ (List.Sublist.cons_cons _ (List.Sublist.cons _ (List.Sublist.refl _))), hn3⟩
                    · refine aw_store rfl rfl rfl rfl (by simp only[go_sem, hn_g3, hn_g6, hzl, y1, y2, hzl, y3, ↓hlen, hn_g12, hn_g]<;>rfl) (by simp only[go_sem, hn_g3, hn_g6, hzl, y1, y2, hzl, y3, ↓hlen, hn_g12, hn_g]<;>rfl) (by simp only[go_sem, hn_g3, hn_g6, hzl, y1, y2, hzl, y3, ↓hlen, hn_g12, hn_g]<;>rfl) (by simp only[go_sem, hn_g3, hn_g6, hzl, y1, y2, hzl, y3, ↓hlen, hn_g12, hn_g]<;>rfl) (fun _ e => by cases e) (by first | rfl | exact solid_gs3 | exact solid_gs2) (by rfl) (by first|omega|simp) rfl ?_
                      (try simp only[go_sem, hn_g3, hn_g6, hzl, y1, y2, hzl, y3, ↓hlen, hn_g12, hn_g])
                      repeat first|apply wa7|(refine wb1 rfl fun R r=>?_;simp only[go_sem, hn_g3, hn_g6, hzl, y1, y2, hzl, y3, ↓hlen, hn_g12, hn_g];with_reducible refine r _ _ ?_;clear r R)
                      refine aw_stop ?_
                      refine awN_step [4, 6] [4] (by kernel_rfl) (by kernel_rfl) (by simp) (by rfl) ⟨⟨_, rfl, ?_⟩, trivial⟩
                      repeat first|apply wa7|(refine wb1 rfl fun R r=>?_;simp only[go_sem, hn_g3, hn_g6, hzl, y1, y2, hzl, y3, ↓hlen, hn_g12, hn_g];with_reducible refine r _ _ ?_;clear r R)
                      refine aw_stop ?_
                      refine awN_step [6] [6] (by kernel_rfl) (by kernel_rfl) (by simp) (by rfl) ⟨⟨_, rfl, ?_⟩, trivial⟩
                      repeat first|apply wa7|(refine wb1 rfl fun R r=>?_;simp only[go_sem, hn_g3, hn_g6, hzl, y1, y2, hzl, y3, ↓hlen, hn_g12, hn_g];with_reducible refine r _ _ ?_;clear r R)
                      refine aw_stop ?_
                      refine awN_nil ?_
                      exact aw_stop ⟨(), (by simp only[go_sem, hn_g3, hn_g6, hzl, y1, y2, hzl, y3, ↓hlen, hn_g12, hn_g]<;>and_intros<;>first|exact True.intro|(with_reducible rfl)|exact c_int (by omega)|rfl), List.Sublist.cons _ (List.Sublist.cons_cons _ (List.Sublist.cons _ (List.Sublist.refl _))), hn3⟩
                  · repeat first|apply wa7|(refine wb1 rfl fun R r=>?_;simp only[go_sem, hn_g3, hn_g6, hzl, y1, y2, hzl, y3, ↓hlen, hn_g12, hn_g];with_reducible refine r _ _ ?_;clear r R)
                    refine aw_stop ?_
                    refine awN_step [0, 5, 6] [0] (by kernel_rfl) (by kernel_rfl) (by simp) (by rfl) ⟨⟨_, rfl, ?_⟩, trivial⟩
                    repeat first|apply wa7|(refine wb1 rfl fun R r=>?_;simp only[go_sem, hn_g3, hn_g6, hzl, y1, y2, hzl, y3, ↓hlen, hn_g12, hn_g];with_reducible refine r _ _ ?_;clear r R)
                    refine aw_stop ?_
                    refine awN_step [5, 6] [5] (by kernel_rfl) (by kernel_rfl) (by simp) (by rfl) ⟨⟨_, rfl, ?_⟩, trivial⟩
                    refine aw_store rfl rfl rfl rfl (by simp only[go_sem, hn_g3, hn_g6, hzl, y1, y2, hzl, y3, ↓hlen, hn_g12, hn_g]<;>rfl) (by simp only[go_sem, hn_g3, hn_g6, hzl, y1, y2, hzl, y3, ↓hlen, hn_g12, hn_g]<;>rfl) (by simp only[go_sem, hn_g3, hn_g6, hzl, y1, y2, hzl, y3, ↓hlen, hn_g12, hn_g]<;>rfl) (by simp only[go_sem, hn_g3, hn_g6, hzl, y1, y2, hzl, y3, ↓hlen, hn_g12, hn_g]<;>rfl) (fun _ e => by cases e) (by first | rfl | exact solid_gs3 | exact solid_gs2) (by rfl) (by first|omega|simp) rfl ?_
                    (try simp only[go_sem, hn_g3, hn_g6, hzl, y1, y2, hzl, y3, ↓hlen, hn_g12, hn_g])
                    repeat first|apply wa7|(refine wb1 rfl fun R r=>?_;simp only[go_sem, hn_g3, hn_g6, hzl, y1, y2, hzl, y3, ↓hlen, hn_g12, hn_g];with_reducible refine r _ _ ?_;clear r R)
                    refine aw_stop ?_
                    refine awN_step [6] [6] (by kernel_rfl) (by kernel_rfl) (by simp) (by rfl) ⟨⟨_, rfl, ?_⟩, trivial⟩
                    repeat first|apply wa7|(refine wb1 rfl fun R r=>?_;simp only[go_sem, hn_g3, hn_g6, hzl, y1, y2, hzl, y3, ↓hlen, hn_g12, hn_g];with_reducible refine r _ _ ?_;clear r R)
                    refine aw_stop ?_
                    refine awN_nil ?_
                    exact aw_stop ⟨(), (by simp only[go_sem, hn_g3, hn_g6, hzl, y1, y2, hzl, y3, ↓hlen, hn_g12, hn_g]<;>and_intros<;>first|exact True.intro|(with_reducible rfl)|exact c_int (by omega)|rfl), List.Sublist.cons _ (List.Sublist.cons_cons _ (List.Sublist.cons _ (List.Sublist.refl _))), hn3⟩
          rintro _ _
          refine aw_keep [(6, .c (.optr g6 0)), (7, .c (.int .i64 (1 + ((i + 1 : Nat) : Int))))] ((g6, .cells 33 2 (ofL [gs (some g) 3 (i + 1), .int .i64 rt])) :: gh (some g) 88 ((i + 1) * 3) (dnsF (B.1 ++ [⟨v, A.2, B.2⟩]))) (by simp only[go_sem, hn_g3, hn_g6, hzl, y1, y2, hzl, y3, ↓hlen, hn_g12, hn_g]<;>and_intros<;>first|exact True.intro|(with_reducible rfl)|exact c_int (by omega)|rfl) (List.Sublist.refl _) ?_
          refine aw_rethw (h' := gh (some g) 88 ((i + 1) * 3) (dnsF (B.1 ++ [⟨v, A.2, B.2⟩]))) rfl (List.Sublist.cons _ (List.Sublist.refl _)) (fun R hR => ?_)
          simp only [go_sem, hn_g3, hn_g6, hzl, y1, y2, hzl, y3, ↓hlen, hn_g12, hn_g]
          refine hR _ rfl ?_
          clear hR R
          rw [hA, hmk]
          have e12 : (2 : Int) + (B.1.length : Int) = 1 + ((i + 1 : Nat) : Int) := by omega
          exact ⟨some g, i + 1, by rw [List.length_append, List.length_singleton]; omega, by omega, some_ne, by rw [e12]; rfl, rfl⟩
set_option maxRecDepth 100000 in
set_option maxHeartbeats 3200000 in
theorem makeR_fa (l : List Nat) (hm : ∀ x ∈ l, x < 16777216) (hl : l.length ≤ 1000000) : Fa Tryz.prog 20 [.c (is false (zL l))] (.agg (zdc true ⟨(addZ 24 [] l 0).1, (addZ 24 [] l 0).2⟩)) := by
  refine fa_of_body Tryz.func20 rfl rfl (by simp [Tryz.ntmps20]) fun C hC => ?_
  simp only [initS, Nat.reduceAdd]
  refine xG ?_
  refine xA fun g2 hn_g2=>?_
  refine yG hn_g2 ?_
  refine yA hn_g2 fun g3 hn_g3=>?_
  refine yG (oj hn_g2 hn_g3) ?_
  refine yW (hs := by first | exact rfl | exact solid_gs2) (oj hn_g2 hn_g3) ?_
  refine yS (oj hn_g2 hn_g3) ?_
  refine yG (oj hn_g2 hn_g3) ?_
  refine aw_callh (hc := []) (hr := [(g3, AObj.cells 33 2 (ofL [.nils, .int .i64 0])), (g2, AObj.cells 33 2 (ofL [.nils, .int .i64 0]))]) (zadd_ok 24 0 l [] 0 none 0 rfl hm hl rfl (by omega) (fun _ => rfl)) rfl rfl rfl (.refl _) (zL (oj hn_g2 hn_g3)) ?_
  generalize addZ 24 [] l 0 = A at *
  rintro _ _ ⟨og, n, hn, _, hog, rfl, rfl⟩ hk
  refine aw_perm (List.perm_append_comm (l₂ := [(g3, AObj.cells 33 2 (ofL [.nils, .int .i64 0])), (g2, AObj.cells 33 2 (ofL [.nils, .int .i64 0]))])) ?_
  simp only [List.cons_append, List.nil_append]
  refine yS (oj hn_g2 hn_g3) ?_
  refine yG (oj hn_g2 hn_g3) ?_
  refine yW (hs := by first | exact rfl | exact solid_gs2) (oj hn_g2 hn_g3) ?_
  refine yS (oj hn_g2 hn_g3) ?_
  refine yG (oj hn_g2 hn_g3) ?_
  refine yW (hs := by first | exact rfl | exact solid_gs2) (oj hn_g2 hn_g3) ?_
  refine yS (oj hn_g2 hn_g3) ?_
  refine aw_perm (.cons _ (List.perm_append_comm (l₁ := [(g2, AObj.cells 33 2 (ofL [.nils, .int .i64 0]))]))) ?_
  refine aw_frzG (j0 := 0) (og := og) (s := 3) (n := n) (fp := dnsF A.1) (f' := ofL [.row true 3 n (dnsF A.1), .int .i64 A.2]) rfl rfl (fun j hj hne => ?_) hog (fun g _ => hC g) ?_
  · match j, hj, hne with
    | 0, _, hne => exact absurd rfl hne
    | 1, _, _ => rfl
  refine yS (oj hn_g2 hn_g3) ?_
  refine yG (oj hn_g2 hn_g3) ?_
  refine yW (hs := by first | exact rfl | exact solid_gs2) (oj hn_g2 hn_g3) ?_
  refine yS (oj hn_g2 hn_g3) ?_
  refine yG (oj hn_g2 hn_g3) ?_
  refine yT hC (oj hn_g2 hn_g3) ?_
  subst hn
  exact .one (.agg ⟨ler_dns, .int _ _, trivial⟩)
end Go.Proofs.YtcoflhkcpnoaaaaGreat
