/- Blocks of one proof, laid one behind the other by a program (merge2.py). -/
import Derived.Test.YtcoflhkcpnoaaaaGreatM28
import Derived.Test.YtcoflhkcpnoaaaaGreatM30
set_option linter.unusedSimpArgs false
set_option linter.unusedVariables false
namespace Go.AI
section
variable {E : Env} {K : List It} {σ σ' : Sl} {h : Heap} {all rest : List Oper} {o o1 o2 : Oper}
theorem le_gs {pre : Heap} {og : Option Nat} {e s n : Nat} {f f' : Nat → CV} (hog : og = none → n = 0) (hn : ∀ g, og = some g → g ∉ pre.keys) (hf : ∀ j, j < n * s → LeC (pre ++ gh og e (n * s) f) (f j) (f' j)) : LeC (pre ++ gh og e (n * s) f) (gs og s n) (.row false s n f') := by
  cases og with
  | none => rw [hog rfl]; exact .nils
  | some g => exact .osl (Heap.get_app (hn g rfl)) (by omega) (fun j hj => by rw [Nat.zero_add]; exact hf j hj)
end
end Go.AI
namespace Go.AI
theorem ler_gsi {pre : Heap} {og : Option Nat} {e n : Nat} {t : Bool} {zs : List Int} (hog : og = none → n = 0) (hn : ∀ g, og = some g → g ∉ pre.keys) (hl : zs.length = n) : LeR (pre ++ gh og e n (isF zs)) (gs og 1 n) (is t zs) := by
  subst hl
  have := ler_gs (pre := pre) (og := og) (e := e) (s := 1) (n := zs.length) (t := t) (f := isF zs) (f' := isF zs) hog hn (fun j _ => .int _ _)
  simpa only [Nat.mul_one] using this
end Go.AI
namespace Go.PN
open Go.AI
theorem le_gsi {pre : Heap} {og : Option Nat} {e n : Nat} {zs : List Int} (hog : og = none → n = 0) (hn : ∀ g, og = some g → g ∉ pre.keys) (hl : zs.length = n) : LeC (pre ++ gh og e n (isF zs)) (gs og 1 n) (is false zs) := by
  subst hl
  have := le_gs (pre := pre) (og := og) (e := e) (s := 1) (n := zs.length) (f := isF zs) (f' := isF zs) hog hn (fun j _ => .refl _)
  simpa only [Nat.mul_one] using this
end Go.PN

namespace Go.PN
open Go.AI
theorem sort_snoc (xs : List Nat) (x : Nat) : sortN (xs ++ [x]) = insN x (sortN xs) := by unfold sortN; rw [List.foldl_append]; rfl
end Go.PN
namespace Go.PN
open Go.AI
theorem is_zpush {l : List Nat} {n : Nat} (hn : l.length = n) (x : Nat) : ∀ j, j < (n + 1) * 1 → appF (isF (zL l)) (n * 1) (ofL [.int .i64 (x : Int)]) j = isF (zL (l ++ [x])) j := by
  have := is_push (zs := zL l) (n := n) (by rw [zL_len]; exact hn) (x : Int)
  rwa [zL_push] at this
end Go.PN
namespace Go.Proofs.YtcoflhkcpnoaaaaGreat
open Go.AI Go.PN
attribute [local irreducible] aw Fa Fh DrK
set_option maxHeartbeats 800000 in
theorem before_fa (a b : Nat) (ha : a < 16777216) (hb : b < 16777216) : Fa Tryz.prog 73 [.c (.int .i64 a), .c (.int .i64 b)] (.c (.bool (keyLt a b))) := by
  refine fa_of_body Tryz.func73 rfl rfl (by simp [Tryz.ntmps73]) fun C hC => ?_
  simp only [initS, Nat.reduceAdd]
  refine xG ?_
  refine xC (bitsR_fa a ha) ?_
  refine xG ?_
  refine xC (bitsR_fa b hb) ?_
  refine xG ?_
  have e1 : decide ((popN a : Int) < (popN b : Int)) = decide (popN a < popN b) := decide_eq_decide.2 (by omega)
  have e2 : ((popN a : Int) == (popN b : Int)) = decide (popN a = popN b) := by rw [Bool.eq_iff_iff]; simp only [beq_iff_eq, decide_eq_true_eq]; omega
  have e3 : decide ((a : Int) < (b : Int)) = decide (a < b) := decide_eq_decide.2 (by omega)
  unfold keyLt
  rw [e1]
  cases h1 : decide (popN a < popN b)
  · refine yG (oj e2 e3) ?_
    cases h2 : decide (popN a = popN b)
    · refine yG (oj e2 e3) ?_
      refine yT hC (oj e2 e3) ?_
      exact .one (.c (ler_bool rfl))
    · refine yG (oj e2 e3) ?_
      refine yT hC (oj e2 e3) ?_
      exact .one (.c (ler_bool (by first | rfl | (rw [e3]; rfl))))
  · refine yG (oj e2 e3) ?_
    refine yT hC (oj e2 e3) ?_
    exact .one (.c (ler_bool rfl))
end Go.Proofs.YtcoflhkcpnoaaaaGreat
namespace Go.PN
open Go.AI Go.Proofs.YtcoflhkcpnoaaaaGreat
theorem find_eq {x k : Nat} {l : List Nat} (hk : k ≤ l.length) (hb : ∀ j, j < k → keyLt (l.getD j 0) x = true) (he : k < l.length → keyLt (l.getD k 0) x = false) : (l.findIdx fun y => !keyLt y x) = k := by
  rcases Nat.lt_trichotomy (l.findIdx fun y => !keyLt y x) k with h | h | h
  · have hl : (l.findIdx fun y => !keyLt y x) < l.length := by omega
    have h1 := List.findIdx_getElem (p := fun y => !keyLt y x) (xs := l) (w := hl)
    have h2 := hb _ h
    rw [List.getD_eq_getElem?_getD, List.getElem?_eq_getElem hl] at h2
    simp only [Option.getD_some] at h2
    rw [h2] at h1
    cases h1
  · exact h
  · have hl : k < l.length := Nat.lt_of_lt_of_le h List.findIdx_le_length
    have h1 := List.not_of_lt_findIdx (p := fun y => !keyLt y x) (xs := l) (i := k) h
    have h2 := he hl
    rw [List.getD_eq_getElem?_getD, List.getElem?_eq_getElem hl] at h2
    simp only [Option.getD_some] at h2
    rw [h2] at h1
    simp at h1
theorem getDN' (l : List Nat) (i : Nat) (h : i < l.length) (d : Nat) : l.getD i d = l.getD i 0 := by
  rw [List.getD_eq_getElem?_getD, List.getD_eq_getElem?_getD, List.getElem?_eq_getElem h]; rfl
theorem shift_end {x at' m : Nat} {out : List Nat} {zs : List Int} (hm : out.length = m) (hl : zs.length = m + 1) (ha : at' ≤ m) (h1 : ∀ j, j < at' → zs.getD j 0 = (out.getD j 0 : Nat)) (h2 : ∀ j, at' < j → j ≤ m → zs.getD j 0 = (out.getD (j - 1) 0 : Nat)) :
    zs.set at' (x : Int) = zL (insA x out at') := by
  refine ints_extZ ?_ fun j hj => ?_
  · rw [List.length_set, zL_len, hl]
    unfold insA
    rw [List.length_append, List.length_cons, List.length_take, List.length_drop]
    omega
  · rw [List.length_set] at hj
    rw [zL_get]
    unfold insA
    have htl : (out.take at').length = at' := by rw [List.length_take]; omega
    rcases Nat.lt_trichotomy j at' with h | h | h
    · rw [getZset' (by omega), h1 j h, List.getD_eq_getElem?_getD (l := _ ++ _), List.getElem?_append_left (by omega), List.getElem?_take, if_pos h, ← List.getD_eq_getElem?_getD]
    · subst h
      rw [getZset (by omega), List.getD_eq_getElem?_getD, List.getElem?_append_right (by omega), htl, Nat.sub_self]; rfl
    · rw [getZset' (by omega), h2 j h (by omega), List.getD_eq_getElem?_getD (l := _ ++ _), List.getElem?_append_right (by omega), htl]
      obtain ⟨q, hq⟩ : ∃ q, j - at' = q + 1 := ⟨j - at' - 1, by omega⟩
      rw [hq, List.getElem?_cons_succ, List.getElem?_drop, ← List.getD_eq_getElem?_getD]
      congr 2
      omega
end Go.PN
namespace Go.Proofs.YtcoflhkcpnoaaaaGreat
open Go.AI Go.PN
attribute [local irreducible] aw Fa Fh DrK
theorem sortN_len (xs : List Nat) : (sortN xs).length ≤ xs.length := by
  have h : ∀ (xs acc : List Nat), (xs.foldl (fun acc x => insN x acc) acc).length ≤ acc.length + xs.length := by
    intro xs
    induction xs with
    | nil => intro acc; simp
    | cons x xs ih =>
      intro acc
      have := ih (insN x acc)
      have hl : (insN x acc).length ≤ acc.length + 1 := by
        unfold insN
        split
        · omega
        · unfold insA
          rw [List.length_append, List.length_cons, List.length_take, List.length_drop]
          omega
      simp only [List.foldl_cons, List.length_cons]
      omega
  have := h xs []
  unfold sortN
  simpa using this
set_option maxRecDepth 100000 in
set_option maxHeartbeats 6400000 in
theorem sortR_fa (l : List Nat) (hl : l.length ≤ 68719476736) (hm : ∀ x ∈ l, x < 16777216) : Fa Tryz.prog 38 [.c (is false (zL l))] (.c (is true (zL (sortN l)))) := by
  have hzl := zL_len l
  refine fa_of_body Tryz.func38 rfl rfl (by simp [Tryz.ntmps38]) fun C hC => ?_
  simp only [initS, Nat.reduceAdd]
  refine xG ?_
  refine aw_lp (fun x : Option Nat × Nat => [(0, .c (is false (zL l))), (3, .c (gs x.1 1 (sortN (l.take x.2)).length)), (4, .c (.int .i64 x.2))]) (fun x => [] ++ gh x.1 3 (sortN (l.take x.2)).length (isF (zL (sortN (l.take x.2))))) (fun x => (x.1 = none → (sortN (l.take x.2)).length = 0) ∧ x.2 ≤ l.length) (fun x => l.length - x.2) (none, 0) eB zZ ⟨fun _ => rfl, Nat.zero_le _⟩ ?_
  rintro ⟨og, i⟩ ⟨hog, hi⟩
  dsimp only at hog hi ⊢
  have hsl := sortN_len (l.take i)
  rw [List.length_take] at hsl
  have hlen := lenCV_gs (s := 1) hog
  repeat first|apply wa1|apply wa2|apply wa3|apply wa4|apply wa5 rfl|apply wa6|apply wa7|(refine wb1 rfl fun R r=>?_;simp only[go_sem, hzl, ↓hlen];with_reducible refine r _ _ ?_;clear r R)
  refine aw_cond (by simp only[go_sem, hzl, ↓hlen]<;>rfl) (fun h1 => ?_) (fun h1 => ?_)
  · have hin : i < l.length := by have := of_decide_eq_true h1; omega
    have hx : l.getD i 0 < 16777216 := hm _ (by rw [List.getD_eq_getElem?_getD, List.getElem?_eq_getElem hin]; exact List.getElem_mem _)
    have e1 := zL_get l i
    have hsnoc : sortN (l.take (i + 1)) = insN (l.getD i 0) (sortN (l.take i)) := by rw [ltake hin, sort_snoc]
    have hmo : ∀ y ∈ sortN (l.take i), y < 16777216 := fun y hy => hm y (List.mem_of_mem_take (sort_mem.1 hy))
    generalize hx0 : l.getD i 0 = x at *
    generalize ho : sortN (l.take i) = out at *
    have hgo : ∀ j, j < out.length → out.getD j 0 < 16777216 := fun j hj => hmo _ (by rw [List.getD_eq_getElem?_getD, List.getElem?_eq_getElem hj]; exact List.getElem_mem _)
    repeat first|apply wa1|apply wa2|apply wa3|apply wa4|apply wa5 rfl|apply wa6|apply wa7|(refine wb1 rfl fun R r=>?_;simp only[go_sem, hzl, ↓hlen];with_reducible refine r _ _ ?_;clear r R)
    refine aw_lp (fun k : Nat => [(0, .c (is false (zL l))), (3, .c (gs og 1 out.length)), (4, .c (.int .i64 i)), (5, .c (.int .i64 k))]) (fun _ => [] ++ gh og 3 out.length (isF (zL out))) (fun k => k ≤ out.length ∧ ∀ j, j < k → keyLt (out.getD j 0) x = true) (fun k => out.length - k) 0 (by simp only[go_sem, hzl, ↓hlen]<;>and_intros<;>first|exact True.intro|(with_reducible rfl)|exact c_int (by omega)|rfl) (List.Sublist.refl _) ⟨Nat.zero_le _, fun j hj => by omega⟩ ?_
    rintro k ⟨hk, hbk⟩
    by_cases hlt : k < out.length
    · obtain ⟨g, rfl⟩ : ∃ g, og = some g := by
        cases og with
        | none => have := hog rfl; omega
        | some g => exact ⟨g, rfl⟩
      have t1 : decide ((k : Int) < (out.length : Int)) = true := decide_eq_true (by omega)
      have e2 := zL_get out k
      have hy := hgo k hlt
      simp only [gs, gh, List.nil_append]
      repeat first|apply wa1|apply wa2|apply wa3|apply wa4|apply wa5 rfl|apply wa6|apply wa7|(refine wb1 rfl fun R r=>?_;simp only[go_sem, hzl, ↓hlen, t1, e1, e2];with_reducible refine r _ _ ?_;clear r R)
      refine aw_dr 15 ty_mixed (by kernel_rfl) ?_
      repeat first|apply wa1|apply wa2|apply wa3|apply wa4|apply wa5 rfl|apply wa6|apply wa7|(refine wb1 rfl fun R r=>?_;simp only[go_sem, hzl, ↓hlen, t1, e1, e2];with_reducible refine r _ _ ?_;clear r R)|apply wa8|(refine wd1 rfl fun R r=>?_;simp only[go_sem, hzl, ↓hlen, t1, e1, e2];with_reducible refine r _ _ ?_;clear r R)
      refine drk_call (before_fa (out.getD k 0) x hy hx) rfl rfl rfl (by first|exact True.intro|simp only[go_sem, hzl, ↓hlen, t1, e1, e2]<;>and_intros<;>first|exact True.intro|exact .c (.refl _)|exact .c wl2|exact .agg (lel_refl _)|exact .agg (by simp only[LeL];and_intros<;>first|exact True.intro|exact .refl _|exact wl2)|exact .c .nils) ?_
      (try simp only[go_sem, hzl, ↓hlen, t1, e1, e2])
      repeat first|apply wa1|apply wa2|apply wa3|apply wa4|apply wa5 rfl|apply wa6|apply wa7|(refine wb1 rfl fun R r=>?_;simp only[go_sem, hzl, ↓hlen, t1, e1, e2];with_reducible refine r _ _ ?_;clear r R)|apply wa8|(refine wd1 rfl fun R r=>?_;simp only[go_sem, hzl, ↓hlen, t1, e1, e2];with_reducible refine r _ _ ?_;clear r R)
      refine aw_cond (by simp only[go_sem, hzl, ↓hlen, t1, e1, e2]<;>rfl) (fun h2 => ?_) (fun h2 => ?_)
      · repeat first|apply wa1|apply wa2|apply wa3|apply wa4|apply wa5 rfl|apply wa6|apply wa7|(refine wb1 rfl fun R r=>?_;simp only[go_sem, hzl, ↓hlen, t1, e1, e2];with_reducible refine r _ _ ?_;clear r R)|apply wa8|(refine wd1 rfl fun R r=>?_;simp only[go_sem, hzl, ↓hlen, t1, e1, e2];with_reducible refine r _ _ ?_;clear r R)
        refine aw_stop ⟨k + 1, by omega, (by simp only[go_sem, hzl, ↓hlen, t1, e1, e2]<;>and_intros<;>first|exact True.intro|(with_reducible rfl)|exact c_int (by omega)|rfl), (List.Sublist.refl _), by omega, fun j hj => ?_⟩
        by_cases e : j = k
        · subst e; exact h2
        · exact hbk j (by omega)
      · have hfi := find_eq (x := x) hk hbk (fun _ => h2)
        have z1 : ((out.getD k 0 : Nat) : Int) = (x : Int) ∨ ¬ ((out.getD k 0 : Nat) : Int) = (x : Int) := Classical.em _
        rcases z1 with z1 | z1
        · have y1 := ieq_t z1
          repeat first|apply wa1|apply wa2|apply wa3|apply wa4|apply wa5 rfl|apply wa6|apply wa7|(refine wb1 rfl fun R r=>?_;simp only[go_sem, hzl, ↓hlen, t1, e1, e2, y1];with_reducible refine r _ _ ?_;clear r R)|apply wa8|(refine wd1 rfl fun R r=>?_;simp only[go_sem, hzl, ↓hlen, t1, e1, e2, y1];with_reducible refine r _ _ ?_;clear r R)
          refine aw_dr 15 ty_mixed (by kernel_rfl) ?_
          repeat first|apply wa1|apply wa2|apply wa3|apply wa4|apply wa5 rfl|apply wa6|apply wa7|(refine wb1 rfl fun R r=>?_;simp only[go_sem, hzl, ↓hlen, t1, e1, e2, y1];with_reducible refine r _ _ ?_;clear r R)|apply wa8|(refine wd1 rfl fun R r=>?_;simp only[go_sem, hzl, ↓hlen, t1, e1, e2, y1];with_reducible refine r _ _ ?_;clear r R)
          refine aw_condT (by simp only[go_sem, hzl, ↓hlen, t1, e1, e2, y1]<;>rfl) ?_
          have hins : insN x out = out := by
            unfold insN
            rw [hfi, if_pos ⟨by rw [getDN' out k hlt]; omega, hlt⟩]
          repeat first|apply wa1|apply wa2|apply wa3|apply wa4|apply wa5 rfl|apply wa6|apply wa7|(refine wb1 rfl fun R r=>?_;simp only[go_sem, hzl, ↓hlen, t1, e1, e2, y1];with_reducible refine r _ _ ?_;clear r R)|apply wa8|(refine wd1 rfl fun R r=>?_;simp only[go_sem, hzl, ↓hlen, t1, e1, e2, y1];with_reducible refine r _ _ ?_;clear r R)
          refine aw_stop ⟨(some g, i + 1), by dsimp only; omega, by dsimp only; rw [hsnoc, hins]; exact (by simp only[go_sem, hzl, ↓hlen, t1, e1, e2, y1]<;>and_intros<;>first|exact True.intro|(with_reducible rfl)|exact c_int (by omega)|rfl), by dsimp only; rw [hsnoc, hins]; exact (List.Sublist.refl _), by dsimp only; rw [hsnoc, hins]; exact hog, by dsimp only; omega⟩
        · have y1 := ieq_f z1
          repeat first|apply wa1|apply wa2|apply wa3|apply wa4|apply wa5 rfl|apply wa6|apply wa7|(refine wb1 rfl fun R r=>?_;simp only[go_sem, hzl, ↓hlen, t1, e1, e2, y1];with_reducible refine r _ _ ?_;clear r R)|apply wa8|(refine wd1 rfl fun R r=>?_;simp only[go_sem, hzl, ↓hlen, t1, e1, e2, y1];with_reducible refine r _ _ ?_;clear r R)
          refine aw_dr 15 ty_mixed (by kernel_rfl) ?_
          repeat first|apply wa1|apply wa2|apply wa3|apply wa4|apply wa5 rfl|apply wa6|apply wa7|(refine wb1 rfl fun R r=>?_;simp only[go_sem, hzl, ↓hlen, t1, e1, e2, y1];with_reducible refine r _ _ ?_;clear r R)|apply wa8|(refine wd1 rfl fun R r=>?_;simp only[go_sem, hzl, ↓hlen, t1, e1, e2, y1];with_reducible refine r _ _ ?_;clear r R)
          refine aw_condF (by simp only[go_sem, hzl, ↓hlen, t1, e1, e2, y1]<;>rfl) ?_
          have hins : insN x out = insA x out k := by
            unfold insN
            rw [hfi, if_neg (fun h => z1 (by have := h.1; rw [getDN' out k hlt] at this; omega))]
          refine aw_keep [(0, .c (is false (zL l))), (3, .c (gs (some g) 1 out.length)), (4, .c (.int .i64 i)), (5, .c (.int .i64 k))] ([] ++ gh (some g) 3 out.length (isF (zL out))) (by simp only[go_sem, hzl, ↓hlen, t1, e1, e2, y1]<;>and_intros<;>first|exact True.intro|(with_reducible rfl)|exact c_int (by omega)|rfl) (List.Sublist.refl _) ?_
          repeat first|apply wa1|apply wa2|apply wa3|apply wa4|apply wa5 rfl|apply wa6|apply wa7|(refine wb1 rfl fun R r=>?_;simp only[go_sem, hzl, ↓hlen, t1, e1, e2, y1];with_reducible refine r _ _ ?_;clear r R)|apply wa8|(refine wd1 rfl fun R r=>?_;simp only[go_sem, hzl, ↓hlen, t1, e1, e2, y1];with_reducible refine r _ _ ?_;clear r R)
          refine aw_push (pre := []) rfl rfl rfl rfl rfl rfl rfl (by simp only[go_sem, hzl, ↓hlen, t1, e1, e2, y1]<;>rfl) (by simp only[go_sem, hzl, ↓hlen, t1, e1, e2, y1]<;>rfl) (by rfl) (by omega) (by omega) (by simp only[go_sem, hzl, ↓hlen, t1, e1, e2, y1]<;>rfl) (by omega) (by exact hog) (by simp only[go_sem, hzl, ↓hlen, t1, e1, e2, y1]<;>rfl) (by rfl) (by rfl) (by first | rfl | simp only [Nat.mul_one, List.nil_append, List.cons_append] <;> rfl) (by unfold maxLen; omega) (by omega) (by exact is_zpush rfl x) fun gN hn_gN => ?_
          replace hn_gN := Heap.ne_of hn_gN
          first | dsimp only [Heap.ne, gh] at hn_gN | dsimp only [Heap.ne] at hn_gN | skip
          (try simp only[go_sem, hzl, ↓hlen, t1, e1, e2, y1, hn_gN])
          simp only [gs, gh]
          repeat first|apply wa1|apply wa2|apply wa3|apply wa4|apply wa5 rfl|apply wa6|apply wa7|(refine wb1 rfl fun R r=>?_;simp only[go_sem, hzl, ↓hlen, t1, e1, e2, y1, hn_gN];with_reducible refine r _ _ ?_;clear r R)|apply wa8|(refine wd1 rfl fun R r=>?_;simp only[go_sem, hzl, ↓hlen, t1, e1, e2, y1, hn_gN];with_reducible refine r _ _ ?_;clear r R)
          refine aw_lp (fun y : Nat × List Int => [(0, .c (is false (zL l))), (3, .c (.osl gN 1 0 (out.length + 1))), (4, .c (.int .i64 i)), (5, .c (.int .i64 k)), (6, .c (.int .i64 y.1))]) (fun y => [(gN, .cells 3 (out.length + 1) (isF y.2))]) (fun y => k ≤ y.1 ∧ y.1 ≤ out.length ∧ y.2.length = out.length + 1 ∧ (∀ j, j < out.length → j ≤ y.1 → y.2.getD j 0 = (out.getD j 0 : Nat)) ∧ (∀ j, y.1 < j → j ≤ out.length → y.2.getD j 0 = (out.getD (j - 1) 0 : Nat))) (fun y => y.1) (out.length, zL (out ++ [x])) (by simp only[go_sem, hzl, ↓hlen, t1, e1, e2, y1, hn_gN]<;>and_intros<;>first|exact True.intro|(with_reducible rfl)|exact c_int (by omega)|rfl) (List.Sublist.refl _) ⟨hk, Nat.le_refl _, by rw [zL_len, List.length_append, List.length_singleton], fun j hj _ => by rw [zL_get, List.getD_eq_getElem?_getD, List.getElem?_append_left hj, ← List.getD_eq_getElem?_getD], fun j hj hj2 => by dsimp only at hj; omega⟩ ?_
          rintro ⟨q, zs⟩ ⟨q1, q2, q3, q4, q5⟩
          dsimp only at q1 q2 q3 q4 q5 ⊢
          repeat first|apply wa1|apply wa2|apply wa3|apply wa4|apply wa5 rfl|apply wa6|apply wa7|(refine wb1 rfl fun R r=>?_;simp only[go_sem, hzl, ↓hlen, t1, e1, e2, y1, hn_gN];with_reducible refine r _ _ ?_;clear r R)
          refine aw_cond (by simp only[go_sem, hzl, ↓hlen, t1, e1, e2, y1, hn_gN]<;>rfl) (fun h3 => ?_) (fun h3 => ?_)
          · have h3' : k < q := by have := of_decide_eq_true h3; omega
            have e5 : ((q : Int) - 1).toNat = q - 1 := by omega
            repeat first|apply wa1|apply wa2|apply wa3|apply wa4|apply wa5 rfl|apply wa6|apply wa7|(refine wb1 rfl fun R r=>?_;simp only[go_sem, hzl, ↓hlen, t1, e1, e2, y1, hn_gN, e5];with_reducible refine r _ _ ?_;clear r R)
            refine aw_store rfl rfl rfl rfl (by simp only[go_sem, hzl, ↓hlen, t1, e1, e2, y1, hn_gN, e5]<;>rfl) (by simp only[go_sem, hzl, ↓hlen, t1, e1, e2, y1, hn_gN, e5]<;>rfl) (by simp only[go_sem, hzl, ↓hlen, t1, e1, e2, y1, hn_gN, e5]<;>rfl) (by simp only[go_sem, hzl, ↓hlen, t1, e1, e2, y1, hn_gN, e5]<;>rfl) (fun _ e => by cases e) (by rfl) (by rfl) (by first|omega|simp) rfl ?_
            (try simp only[go_sem, hzl, ↓hlen, t1, e1, e2, y1, hn_gN, e5])
            rw [updF_is (by omega)]
            repeat first|apply wa1|apply wa2|apply wa3|apply wa4|apply wa5 rfl|apply wa6|apply wa7|(refine wb1 rfl fun R r=>?_;simp only[go_sem, hzl, ↓hlen, t1, e1, e2, y1, hn_gN, e5];with_reducible refine r _ _ ?_;clear r R)
            refine aw_stop ⟨(q - 1, zs.set q (zs.getD (q - 1) 0)), by dsimp only; omega, (by simp only[go_sem, hzl, ↓hlen, t1, e1, e2, y1, hn_gN, e5]<;>and_intros<;>first|exact True.intro|(with_reducible rfl)|exact c_int (by omega)|rfl), (List.Sublist.refl _), by dsimp only; omega, by dsimp only; omega, by dsimp only; rw [List.length_set]; exact q3, fun j hj hj2 => ?_, fun j hj hj2 => ?_⟩
            · dsimp only at hj2 ⊢
              rw [getZset' (by omega)]
              exact q4 j hj (by omega)
            · dsimp only at hj ⊢
              by_cases e : j = q
              · subst e
                rw [getZset (by omega), q4 (j - 1) (by omega) (by omega)]
              · rw [getZset' e]
                exact q5 j (by omega) hj2
          · have h3' : q = k := by have := of_decide_eq_false h3; omega
            subst h3'
            repeat first|apply wa1|apply wa2|apply wa3|apply wa4|apply wa5 rfl|apply wa6|apply wa7|(refine wb1 rfl fun R r=>?_;simp only[go_sem, hzl, ↓hlen, t1, e1, e2, y1, hn_gN];with_reducible refine r _ _ ?_;clear r R)
            refine aw_store rfl rfl rfl rfl (by simp only[go_sem, hzl, ↓hlen, t1, e1, e2, y1, hn_gN]<;>rfl) (by simp only[go_sem, hzl, ↓hlen, t1, e1, e2, y1, hn_gN]<;>rfl) (by simp only[go_sem, hzl, ↓hlen, t1, e1, e2, y1, hn_gN]<;>rfl) (by simp only[go_sem, hzl, ↓hlen, t1, e1, e2, y1, hn_gN]<;>rfl) (fun _ e => by cases e) (by rfl) (by rfl) (by first|omega|simp) rfl ?_
            (try simp only[go_sem, hzl, ↓hlen, t1, e1, e2, y1, hn_gN])
            rw [updF_is (by omega), shift_end (x := x) rfl q3 hk (fun j hj => q4 j (by omega) (by omega)) q5]
            repeat first|apply wa1|apply wa2|apply wa3|apply wa4|apply wa5 rfl|apply wa6|apply wa7|(refine wb1 rfl fun R r=>?_;simp only[go_sem, hzl, ↓hlen, t1, e1, e2, y1, hn_gN];with_reducible refine r _ _ ?_;clear r R)
            have hil : (insA x out q).length = out.length + 1 := by
              unfold insA
              rw [List.length_append, List.length_cons, List.length_take, List.length_drop]; omega
            refine aw_stop ⟨(some gN, i + 1), by dsimp only; omega, by dsimp only; rw [hsnoc, hins, hil]; exact (by simp only[go_sem, hzl, ↓hlen, t1, e1, e2, y1, hn_gN]<;>and_intros<;>first|exact True.intro|(with_reducible rfl)|exact c_int (by omega)|rfl), by dsimp only; rw [hsnoc, hins, hil]; exact (List.Sublist.refl _), some_ne, by dsimp only; omega⟩
    · have hke : k = out.length := by omega
      have t1 : decide ((k : Int) < (out.length : Int)) = false := decide_eq_false (by omega)
      have hins : insN x out = insA x out k := by
        have hfi := find_eq (x := x) hk hbk (fun h => absurd h hlt)
        unfold insN
        rw [hfi, if_neg (fun h => hlt h.2)]
      repeat first|apply wa1|apply wa2|apply wa3|apply wa4|apply wa5 rfl|apply wa6|apply wa7|(refine wb1 rfl fun R r=>?_;simp only[go_sem, hzl, ↓hlen, t1, e1];with_reducible refine r _ _ ?_;clear r R)
      refine aw_dr 15 ty_mixed (by kernel_rfl) ?_
      repeat first|apply wa1|apply wa2|apply wa3|apply wa4|apply wa5 rfl|apply wa6|apply wa7|(refine wb1 rfl fun R r=>?_;simp only[go_sem, hzl, ↓hlen, t1, e1];with_reducible refine r _ _ ?_;clear r R)|apply wa8|(refine wd1 rfl fun R r=>?_;simp only[go_sem, hzl, ↓hlen, t1, e1];with_reducible refine r _ _ ?_;clear r R)
      refine aw_condF (by simp only[go_sem, hzl, ↓hlen, t1, e1]<;>rfl) ?_
      repeat first|apply wa1|apply wa2|apply wa3|apply wa4|apply wa5 rfl|apply wa6|apply wa7|(refine wb1 rfl fun R r=>?_;simp only[go_sem, hzl, ↓hlen, t1, e1];with_reducible refine r _ _ ?_;clear r R)|apply wa8|(refine wd1 rfl fun R r=>?_;simp only[go_sem, hzl, ↓hlen, t1, e1];with_reducible refine r _ _ ?_;clear r R)
      refine aw_dr 15 ty_mixed (by kernel_rfl) ?_
      repeat first|apply wa1|apply wa2|apply wa3|apply wa4|apply wa5 rfl|apply wa6|apply wa7|(refine wb1 rfl fun R r=>?_;simp only[go_sem, hzl, ↓hlen, t1, e1];with_reducible refine r _ _ ?_;clear r R)|apply wa8|(refine wd1 rfl fun R r=>?_;simp only[go_sem, hzl, ↓hlen, t1, e1];with_reducible refine r _ _ ?_;clear r R)
      refine aw_condF (by simp only[go_sem, hzl, ↓hlen, t1, e1]<;>rfl) ?_
      repeat first|apply wa1|apply wa2|apply wa3|apply wa4|apply wa5 rfl|apply wa6|apply wa7|(refine wb1 rfl fun R r=>?_;simp only[go_sem, hzl, ↓hlen, t1, e1];with_reducible refine r _ _ ?_;clear r R)|apply wa8|(refine wd1 rfl fun R r=>?_;simp only[go_sem, hzl, ↓hlen, t1, e1];with_reducible refine r _ _ ?_;clear r R)
      refine aw_push (pre := []) rfl rfl rfl rfl rfl rfl rfl (by simp only[go_sem, hzl, ↓hlen, t1, e1]<;>rfl) (by simp only[go_sem, hzl, ↓hlen, t1, e1]<;>rfl) (by rfl) (by omega) (by omega) (by simp only[go_sem, hzl, ↓hlen, t1, e1]<;>rfl) (by omega) (by exact hog) (by simp only[go_sem, hzl, ↓hlen, t1, e1]<;>rfl) (by rfl) (by rfl) (by first | rfl | simp only [Nat.mul_one, List.nil_append, List.cons_append] <;> rfl) (by unfold maxLen; omega) (by omega) (by exact is_zpush rfl x) fun gN hn_gN => ?_
      replace hn_gN := Heap.ne_of hn_gN
      first | dsimp only [Heap.ne, gh] at hn_gN | dsimp only [Heap.ne] at hn_gN | skip
      (try simp only[go_sem, hzl, ↓hlen, t1, e1, hn_gN])
      simp only [gs, gh]
      repeat first|apply wa1|apply wa2|apply wa3|apply wa4|apply wa5 rfl|apply wa6|apply wa7|(refine wb1 rfl fun R r=>?_;simp only[go_sem, hzl, ↓hlen, t1, e1, hn_gN];with_reducible refine r _ _ ?_;clear r R)|apply wa8|(refine wd1 rfl fun R r=>?_;simp only[go_sem, hzl, ↓hlen, t1, e1, hn_gN];with_reducible refine r _ _ ?_;clear r R)
      refine aw_lp (fun y : Nat × List Int => [(0, .c (is false (zL l))), (3, .c (.osl gN 1 0 (out.length + 1))), (4, .c (.int .i64 i)), (5, .c (.int .i64 k)), (6, .c (.int .i64 y.1))]) (fun y => [(gN, .cells 3 (out.length + 1) (isF y.2))]) (fun y => k ≤ y.1 ∧ y.1 ≤ out.length ∧ y.2.length = out.length + 1 ∧ (∀ j, j < out.length → j ≤ y.1 → y.2.getD j 0 = (out.getD j 0 : Nat)) ∧ (∀ j, y.1 < j → j ≤ out.length → y.2.getD j 0 = (out.getD (j - 1) 0 : Nat))) (fun y => y.1) (out.length, zL (out ++ [x])) (by simp only[go_sem, hzl, ↓hlen, t1, e1, hn_gN]<;>and_intros<;>first|exact True.intro|(with_reducible rfl)|exact c_int (by omega)|rfl) (List.Sublist.refl _) ⟨hk, Nat.le_refl _, by rw [zL_len, List.length_append, List.length_singleton], fun j hj _ => by rw [zL_get, List.getD_eq_getElem?_getD, List.getElem?_append_left hj, ← List.getD_eq_getElem?_getD], fun j hj hj2 => by dsimp only at hj; omega⟩ ?_
      rintro ⟨q, zs⟩ ⟨q1, q2, q3, q4, q5⟩
      dsimp only at q1 q2 q3 q4 q5 ⊢
      repeat first|apply wa1|apply wa2|apply wa3|apply wa4|apply wa5 rfl|apply wa6|apply wa7|(refine wb1 rfl fun R r=>?_;simp only[go_sem, hzl, ↓hlen, t1, e1, hn_gN];with_reducible refine r _ _ ?_;clear r R)|apply wa8|(refine wd1 rfl fun R r=>?_;simp only[go_sem, hzl, ↓hlen, t1, e1, hn_gN];with_reducible refine r _ _ ?_;clear r R)
      refine aw_cond (by simp only[go_sem, hzl, ↓hlen, t1, e1, hn_gN]<;>rfl) (fun h3 => ?_) (fun h3 => ?_)
      · have h3' : k < q := by have := of_decide_eq_true h3; omega
        have e5 : ((q : Int) - 1).toNat = q - 1 := by omega
        repeat first|apply wa1|apply wa2|apply wa3|apply wa4|apply wa5 rfl|apply wa6|apply wa7|(refine wb1 rfl fun R r=>?_;simp only[go_sem, hzl, ↓hlen, t1, e1, hn_gN, e5];with_reducible refine r _ _ ?_;clear r R)
        refine aw_store rfl rfl rfl rfl (by simp only[go_sem, hzl, ↓hlen, t1, e1, hn_gN, e5]<;>rfl) (by simp only[go_sem, hzl, ↓hlen, t1, e1, hn_gN, e5]<;>rfl) (by simp only[go_sem, hzl, ↓hlen, t1, e1, hn_gN, e5]<;>rfl) (by simp only[go_sem, hzl, ↓hlen, t1, e1, hn_gN, e5]<;>rfl) (fun _ e => by cases e) (by rfl) (by rfl) (by first|omega|simp) rfl ?_
        (try simp only[go_sem, hzl, ↓hlen, t1, e1, hn_gN, e5])
        rw [updF_is (by omega)]
        repeat first|apply wa1|apply wa2|apply wa3|apply wa4|apply wa5 rfl|apply wa6|apply wa7|(refine wb1 rfl fun R r=>?_;simp only[go_sem, hzl, ↓hlen, t1, e1, hn_gN, e5];with_reducible refine r _ _ ?_;clear r R)
        refine aw_stop ⟨(q - 1, zs.set q (zs.getD (q - 1) 0)), by dsimp only; omega, (by simp only[go_sem, hzl, ↓hlen, t1, e1, hn_gN, e5]<;>and_intros<;>first|exact True.intro|(with_reducible rfl)|exact c_int (by omega)|rfl), (List.Sublist.refl _), by dsimp only; omega, by dsimp only; omega, by dsimp only; rw [List.length_set]; exact q3, fun j hj hj2 => ?_, fun j hj hj2 => ?_⟩
        · dsimp only at hj2 ⊢
          rw [getZset' (by omega)]
          exact q4 j hj (by omega)
        · dsimp only at hj ⊢
          by_cases e : j = q
          · subst e
            rw [getZset (by omega), q4 (j - 1) (by omega) (by omega)]
          · rw [getZset' e]
            exact q5 j (by omega) hj2
      · have h3' : q = k := by have := of_decide_eq_false h3; omega
        subst h3'
        repeat first|apply wa1|apply wa2|apply wa3|apply wa4|apply wa5 rfl|apply wa6|apply wa7|(refine wb1 rfl fun R r=>?_;simp only[go_sem, hzl, ↓hlen, t1, e1, hn_gN];with_reducible refine r _ _ ?_;clear r R)
        refine aw_store rfl rfl rfl rfl (by simp only[go_sem, hzl, ↓hlen, t1, e1, hn_gN]<;>rfl) (by simp only[go_sem, hzl, ↓hlen, t1, e1, hn_gN]<;>rfl) (by simp only[go_sem, hzl, ↓hlen, t1, e1, hn_gN]<;>rfl) (by simp only[go_sem, hzl, ↓hlen, t1, e1, hn_gN]<;>rfl) (fun _ e => by cases e) (by rfl) (by rfl) (by first|omega|simp) rfl ?_
        (try simp only[go_sem, hzl, ↓hlen, t1, e1, hn_gN])
        rw [updF_is (by omega), shift_end (x := x) rfl q3 hk (fun j hj => q4 j (by omega) (by omega)) q5]
        repeat first|apply wa1|apply wa2|apply wa3|apply wa4|apply wa5 rfl|apply wa6|apply wa7|(refine wb1 rfl fun R r=>?_;simp only[go_sem, hzl, ↓hlen, t1, e1, hn_gN];with_reducible refine r _ _ ?_;clear r R)
        have hil : (insA x out q).length = out.length + 1 := by
          unfold insA
          rw [List.length_append, List.length_cons, List.length_take, List.length_drop]; omega
        refine aw_stop ⟨(some gN, i + 1), by dsimp only; omega, by dsimp only; rw [hsnoc, hins, hil]; exact (by simp only[go_sem, hzl, ↓hlen, t1, e1, hn_gN]<;>and_intros<;>first|exact True.intro|(with_reducible rfl)|exact c_int (by omega)|rfl), by dsimp only; rw [hsnoc, hins, hil]; exact (List.Sublist.refl _), some_ne, by dsimp only; omega⟩
  · have hin : i = l.length := by have := of_decide_eq_false h1; omega
    subst hin
    rw [List.take_length] at hog ⊢
    repeat first|apply wa1|apply wa2|apply wa3|apply wa4|apply wa5 rfl|apply wa6|apply wa7|(refine wb1 rfl fun R r=>?_;simp only[go_sem, hzl, ↓hlen];with_reducible refine r _ _ ?_;clear r R)
    (refine aw_retq hC rfl fun R r=>?_;simp only[go_sem, hzl, ↓hlen];refine r _ rfl ?_;clear r R)
    exact .one (.c (ler_gsi (pre := []) hog (fun _ _ => by simp [Heap.keys]) (zL_len _)))
end Go.Proofs.YtcoflhkcpnoaaaaGreat
namespace Go.PN
open Go.AI
theorem least_step (tb : List Bool) (s k : Nat) : leastT tb s (k + 1) = (leastT tb s k && (!subT k s || !tb.getD k false)) := by
  unfold leastT
  rw [List.range_succ, List.all_append, Bool.and_assoc]
  simp
theorem sol_stepN (tb : List Bool) (k : Nat) : solN tb (k + 1) = if leastT tb k k then solN tb k ++ [k] else solN tb k := by
  unfold solN
  rw [List.range_succ, List.filter_append]
  by_cases h : leastT tb k k = true
  · rw [if_pos h, List.filter_cons_of_pos (p := fun s => leastT tb s s) h]; rfl
  · rw [if_neg h, List.filter_cons_of_neg (p := fun s => leastT tb s s) h]; simp
theorem sol_len_le (tb : List Bool) (k : Nat) : (solN tb k).length ≤ k := Nat.le_trans (List.length_filter_le _ _) (by rw [List.length_range]; exact Nat.le_refl _)
theorem sol_ltN {tb : List Bool} {k x : Nat} (h : x ∈ solN tb k) : x < k := List.mem_range.1 (List.mem_filter.1 h).1
end Go.PN
namespace Go.Proofs.YtcoflhkcpnoaaaaGreat
open Go.AI Go.PN
attribute [local irreducible] aw Fa Fh DrK
set_option maxHeartbeats 1600000 in
theorem solR_fa (tb : List Bool) (hl : tb.length ≤ 1000000) : Fa Tryz.prog 18 [.c (bs false tb)] (.c (is true (zL (sortN (solN tb tb.length))))) := by
  refine fa_of_body Tryz.func18 rfl rfl (by simp [Tryz.ntmps18]) fun C hC => ?_
  simp only [initS, Nat.reduceAdd]
  refine xG ?_
  refine aw_lp (fun x : Option Nat × Nat => [(0, .c (bs false tb)), (3, .c (gs x.1 1 (solN tb x.2).length)), (4, .c (.int .i64 x.2))]) (fun x => [] ++ gh x.1 3 (solN tb x.2).length (isF (zL (solN tb x.2)))) (fun x => (x.1 = none → (solN tb x.2).length = 0) ∧ x.2 ≤ tb.length) (fun x => tb.length - x.2) (none, 0) eB zZ ⟨fun _ => rfl, Nat.zero_le _⟩ ?_
  rintro ⟨og, s⟩ ⟨hog, hs⟩
  dsimp only at hog hs ⊢
  have hle := sol_len_le tb s
  refine xG ?_
  refine xF (fun h1=>?_) fun h1=>?_
  · have hin : s < tb.length := by have := of_decide_eq_true h1; omega
    have l0 : tb.getD s false = leastT tb s 0 := by unfold leastT; simp
    have hst := sol_stepN tb s
    refine xG ?_
    rw [l0]
    refine aw_lp (fun u : Nat => [(0, .c (bs false tb)), (3, .c (gs og 1 (solN tb s).length)), (4, .c (.int .i64 s)), (5, .c (.bool (leastT tb s u))), (6, .c (.int .i64 u))]) (fun _ => [] ++ gh og 3 (solN tb s).length (isF (zL (solN tb s)))) (fun u => u ≤ s) (fun u => s - u) 0 eB zZ (Nat.zero_le _) ?_
    rintro u hu
    refine xG ?_
    refine xF (fun h2=>?_) fun h2=>?_
    · have hiu : u < s := by have := of_decide_eq_true h2; omega
      have e1 : (andNotZ .i64 (u : Int) (s : Int) == 0) = subT u s := andNot_subT _ _ (by omega) (by omega)
      have nx := least_step tb s u
      refine yG e1 ?_
      cases hb : leastT tb s u
      · rw [hb, Bool.false_and] at nx
        refine yS e1 ?_
        refine yG e1 ?_
        exact aw_stop ⟨u + 1, by omega, by rw [nx]; exact (zB e1), zZ, by omega⟩
      · rw [hb, Bool.true_and] at nx
        refine yS e1 ?_
        refine yG e1 ?_
        refine aw_split 28 (zE e1) (fun hm => ?_) (fun hm => ?_) <;> refine yS e1 ?_
        · rw [bne, e1] at hm
          rw [hm, Bool.true_or] at nx
          refine yG e1 ?_
          exact aw_stop ⟨u + 1, by omega, by rw [nx]; exact (zB e1), zZ, by omega⟩
        · rw [bne, e1] at hm
          rw [hm, Bool.false_or] at nx
          refine yG e1 ?_
          exact aw_stop ⟨u + 1, by omega, by rw [nx]; exact (zB e1), zZ, by omega⟩
    · have hiu : u = s := by have := of_decide_eq_false h2; omega
      subst hiu
      refine xG ?_
      refine xF (fun h3=>?_) fun h3=>?_
      · rw [if_pos h3] at hst
        refine xG ?_
        refine aw_push (pre := []) rfl rfl rfl rfl rfl rfl rfl eE eE (by rfl) (by omega) (by omega) eE (by omega) (by exact hog) eE (by rfl) (by rfl) (by first | rfl | simp only [Nat.mul_one, List.nil_append, List.cons_append] <;> rfl) (by unfold maxLen; omega) (by omega) (by exact is_zpush rfl _) fun g hn_g => ?_
        replace hn_g := Heap.ne_of hn_g
        first | dsimp only [Heap.ne, gh] at hn_g | dsimp only [Heap.ne] at hn_g | skip
        refine yS hn_g ?_
        refine yG hn_g ?_
        refine aw_stop ⟨(some g, u + 1), by dsimp only; omega, by dsimp only; rw [hst, List.length_append, List.length_singleton]; exact (zB hn_g), by dsimp only; rw [hst, List.length_append, List.length_singleton]; exact zZ, some_ne, by dsimp only; omega⟩
      · rw [if_neg (by rw [h3]; simp)] at hst
        refine xG ?_
        refine aw_stop ⟨(og, u + 1), by dsimp only; omega, by dsimp only; rw [hst]; exact eB, by dsimp only; rw [hst]; exact zZ, by dsimp only; rw [hst]; exact hog, by dsimp only; omega⟩
  · have hin : s = tb.length := by have := of_decide_eq_false h1; omega
    subst hin
    refine xG ?_
    refine aw_callq (sortR_fa (solN tb tb.length) (by omega) (fun x hx => by have := sol_ltN hx; omega)) rfl rfl rfl (by refine xS ?_; exact .c (le_gsi (pre := []) hog (fun _ _ => by simp [Heap.keys]) (zL_len _))) ?_
    refine xS ?_
    refine xG ?_
    refine xT hC ?_
    exact .one (.c (ler_is))
end Go.Proofs.YtcoflhkcpnoaaaaGreat
