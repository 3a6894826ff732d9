/- Blocks of one proof, laid one behind the other by a program (merge2.py). -/
import Derived.Test.YtcoflhkcpnoaaaaGreatM25
import Derived.Test.YtcoflhkcpnoaaaaGreatM28
set_option linter.unusedSimpArgs false
set_option linter.unusedVariables false
namespace Go.AI
section
variable {E : Env} {K : List It} {σ σ' : Sl} {h : Heap} {all rest : List Oper} {o : Oper}
def isSlice : CV → Bool
  | .nils => true
  | .osl _ _ _ _ => true
  | _ => false
theorem aw_append0 {t e size bytes : Nat} {f2 : Nat → CV} {s x : Operand} {cs cx : CV} (hop : o.op = .call { callee := .builtin .append, args := #[s, x], argTypes := #[t, t] }) (hw : wantA all σ o = some true) (hd : dstOk E.N o.dst = true)
    (ht : tElem E.P t = some (e, size, bytes)) (hs : ev σ s = .c cs) (hsl : isSlice cs = true) (hx : ev σ x = .c cx) (hsrc : Src h size cx 0 f2) (hσ : σ.setO o.dst (.c cs) = σ')
    (kk : aw E (.ops all rest :: K) σ' h) : aw E (.ops all (o :: rest) :: K) σ h := by
  subst hσ
  refine aw_step hw (fun a w st => ?_) kk
  have r1 := ev_rep st s
  have r2 := ev_rep st x
  rw [hs] at r1
  rw [hx] at r2
  obtain ⟨B, d, hv2, _⟩ := hsrc.cells st.heap r2
  have hv1 : ∃ A n c, a.eval s = .slice A n c ∧ n ≤ c := by
    cases cs <;> simp only [isSlice, reduceCtorEq] at hsl
    · obtain ⟨A, hv⟩ := r1; exact ⟨A, 0, 0, hv, Nat.le_refl _⟩
    · obtain ⟨c, hv, hle, _⟩ := r1; exact ⟨_, _, c, hv, hle⟩
  obtain ⟨A, n, c, hv1, hnc⟩ := hv1
  refine ⟨a.eval s, w, .inl (exec_append hop ?_), st.put hd r1⟩
  rw [hv1, hv2]
  exact run_append_zero ht hnc
end
end Go.AI
namespace Go.PN
open Go.AI
def maskB (n : Int) : Bool := decide (n ≥ 0) && decide (n < 16777216)
end Go.PN

namespace Go.Proofs.YtcoflhkcpnoaaaaGreat
open Go.AI Go.PN
attribute [local irreducible] aw Fa Fh DrK
set_option maxHeartbeats 400000 in
theorem maskR_fa (n : Int) : Fa Tryz.prog 67 [.c (.int .i64 n)] (.c (.bool (maskB n))) := by
  unfold maskB
  refine fa_of_body Tryz.func67 rfl rfl (by simp [Tryz.ntmps67]) fun C hC => ?_
  simp only [initS, Nat.reduceAdd]
  refine xG ?_
  refine aw_split 5 eE (fun hb => ?_) (fun hb => ?_) <;> refine xS ?_
  · refine xG ?_
    refine xT hC ?_
    refine .one (.c (ler_bool ?_))
    rw [hb, Bool.true_and, Bool.eq_iff_iff]
    simp only [decide_eq_true_eq]
    omega
  · refine xG ?_
    refine xT hC ?_
    exact .one (.c (ler_bool (by rw [hb]; rfl)))
end Go.Proofs.YtcoflhkcpnoaaaaGreat
namespace Go.Proofs.YtcoflhkcpnoaaaaGreat
open Go.AI Go.PN
attribute [local irreducible] aw Fa Fh DrK
def lcode (l : List Int) : Int := if 1024 < l.length then 4 else if l.all maskB then 0 else 3
set_option maxHeartbeats 800000 in
theorem checkList_fa (l : List Int) (hl : l.length ≤ 68719476736) : Fa Tryz.prog 66 [.c (is false l)] (.c (.int .i64 (lcode l))) := by
  unfold lcode
  refine fa_of_body Tryz.func66 rfl rfl (by simp [Tryz.ntmps66]) fun C hC => ?_
  simp only [initS, Nat.reduceAdd]
  refine xG ?_
  refine xF (fun hb=>?_) fun hb=>?_
  · have hb' := of_decide_eq_true hb
    rw [if_pos (by omega)]
    refine xG ?_
    refine xT hC ?_
    exact .one (.c (ler_int rfl))
  have hb' := of_decide_eq_false hb
  rw [if_neg (by omega)]
  refine xG ?_
  refine aw_lp (fun i : Nat => [(0, .c (is false l)), (3, .c (.int .i64 i))]) (fun _ => []) (fun i => i ≤ l.length ∧ ∀ j, j < i → maskB (l.getD j 0) = true) (fun i => l.length - i) 0 eB zZ ⟨Nat.zero_le _, fun j hj => by omega⟩ ?_
  rintro i ⟨hi, hs⟩
  refine xG ?_
  refine xF (fun h1=>?_) fun h1=>?_
  · have hin : i < l.length := by have := of_decide_eq_true h1; omega
    refine xG ?_
    refine xC (maskR_fa (l.getD i 0)) ?_
    refine xG ?_
    refine xF (fun h2=>?_) fun h2=>?_
    · have h2' : maskB (l.getD i 0) = false := by simpa using h2
      refine xG ?_
      refine xT hC ?_
      rw [if_neg]
      · exact .one (.c (ler_int rfl))
      · intro h
        have := List.all_eq_true.1 h (l.getD i 0) (by rw [getDZ hin]; exact List.getElem_mem _)
        rw [h2'] at this; cases this
    · have h2' : maskB (l.getD i 0) = true := by simpa using h2
      refine xG ?_
      refine aw_stop ⟨i + 1, by omega, eB, zZ, by omega, fun j hj => ?_⟩
      by_cases e : j = i
      · subst e; exact h2'
      · exact hs j (by omega)
  · have hin : i = l.length := by have := of_decide_eq_false h1; omega
    subst hin
    refine xG ?_
    refine xT hC ?_
    rw [if_pos]
    · exact .one (.c (ler_int rfl))
    · refine List.all_eq_true.2 fun x hx => ?_
      obtain ⟨j, hj, e⟩ := List.getElem_of_mem hx
      have := hs j hj
      rwa [getDZ hj, e] at this
def failsB (l : List Nat) (s : Nat) : Bool := l.any fun t => subT t s
set_option maxHeartbeats 800000 in
theorem failsR_fa (l : List Nat) (s : Nat) (hl : l.length ≤ 68719476736) (hm : ∀ x ∈ l, x < 16777216) (hs : s < 16777216) : Fa Tryz.prog 30 [.c (is false (zL l)), .c (.int .i64 s)] (.c (.bool (failsB l s))) := by
  have hzl := zL_len l
  refine fa_of_body Tryz.func30 rfl rfl (by simp [Tryz.ntmps30]) fun C hC => ?_
  simp only [initS, Nat.reduceAdd]
  refine xG ?_
  refine aw_lp (fun i : Nat => [(0, .c (is false (zL l))), (1, .c (.int .i64 s)), (5, .c (.int .i64 i))]) (fun _ => []) (fun i => i ≤ l.length ∧ ∀ j, j < i → subT (l.getD j 0) s = false) (fun i => l.length - i) 0 eB zZ ⟨Nat.zero_le _, fun j hj => by omega⟩ ?_
  rintro i ⟨hi, hf⟩
  refine yG hzl ?_
  refine yF hzl (fun h1=>?_) fun h1=>?_
  · have hin : i < l.length := by have := of_decide_eq_true h1; omega
    have hx : l.getD i 0 < 16777216 := hm _ (by rw [List.getD_eq_getElem?_getD, List.getElem?_eq_getElem hin]; exact List.getElem_mem _)
    have e1 : (andNotZ .i64 ((zL l).getD i 0) (s : Int) == 0) = subT (l.getD i 0) s := by rw [zL_get]; exact andNot_subT _ _ (by omega) (by omega)
    refine yG (oj hzl e1) ?_
    refine yF (oj hzl e1) (fun h2=>?_) fun h2=>?_
    · refine yG (oj hzl e1) ?_
      refine yT hC (oj hzl e1) ?_
      refine .one (.c (ler_bool ?_))
      refine (List.any_eq_true (p := fun t => subT t s).2 ⟨l.getD i 0, ?_, h2⟩).symm
      rw [List.getD_eq_getElem?_getD, List.getElem?_eq_getElem hin]
      exact List.getElem_mem _
    · refine yG (oj hzl e1) ?_
      refine aw_stop ⟨i + 1, by omega, (zB (oj hzl e1)), zZ, by omega, fun j hj => ?_⟩
      by_cases e : j = i
      · subst e; exact h2
      · exact hf j (by omega)
  · have hin : i = l.length := by have := of_decide_eq_false h1; omega
    subst hin
    refine yG hzl ?_
    refine yT hC hzl ?_
    refine .one (.c (ler_bool ?_))
    cases hfa : failsB l s
    · rfl
    · obtain ⟨x, hx, hxs⟩ := List.any_eq_true.1 hfa
      obtain ⟨j, hj, e⟩ := List.getElem_of_mem hx
      have := hf j hj
      rw [List.getD_eq_getElem?_getD, List.getElem?_eq_getElem hj] at this
      simp only [Option.getD_some, e] at this
      rw [this] at hxs; cases hxs
end Go.Proofs.YtcoflhkcpnoaaaaGreat
namespace Go.Proofs.YtcoflhkcpnoaaaaGreat
open Go.AI Go.PN
attribute [local irreducible] aw Fa Fh DrK
def fcodeL (l : List Int) (s : Int) : Int := if lcode l ≠ 0 then lcode l else if maskB s then 0 else 3
set_option maxHeartbeats 800000 in
theorem checkFails_fa (l : List Int) (s : Int) (hl : l.length ≤ 68719476736) : Fa Tryz.prog 29 [.c (is false l), .c (.int .i64 s)] (.c (.int .i64 (fcodeL l s))) := by
  unfold fcodeL
  refine fa_of_body Tryz.func29 rfl rfl (by simp [Tryz.ntmps29]) fun C hC => ?_
  simp only [initS, Nat.reduceAdd]
  refine xG ?_
  refine xC (checkList_fa l hl) ?_
  refine xG ?_
  refine xF (fun h1=>?_) fun h1=>?_
  · have h1' : lcode l ≠ 0 := by simpa using h1
    rw [if_pos h1']
    refine xG ?_
    refine xT hC ?_
    exact .one (.c (ler_int rfl))
  have h1' : lcode l = 0 := by simpa using h1
  rw [if_neg (by simpa using h1')]
  refine xG ?_
  refine xC (maskR_fa s) ?_
  refine xG ?_
  refine xF (fun h2=>?_) fun h2=>?_
  · have h2' : maskB s = false := by simpa using h2
    rw [h2']
    refine xG ?_
    refine xT hC ?_
    exact .one (.c (ler_int rfl))
  · have h2' : maskB s = true := by simpa using h2
    rw [h2']
    refine xG ?_
    refine xT hC ?_
    exact .one (.c (ler_int rfl))
end Go.Proofs.YtcoflhkcpnoaaaaGreat
namespace Go.PN
open Go.AI Go.Proofs.YtcoflhkcpnoaaaaGreat
theorem mask_nat {x : Int} (h : maskB x = true) : 0 ≤ x ∧ x < 16777216 := by
  unfold maskB at h
  rw [Bool.and_eq_true] at h
  exact ⟨by have := of_decide_eq_true h.1; omega, of_decide_eq_true h.2⟩
theorem zL_toNat {l : List Int} (h : ∀ x ∈ l, 0 ≤ x) : zL (l.map Int.toNat) = l := by
  unfold zL
  rw [List.map_map]
  conv => rhs; rw [← List.map_id l]
  exact List.map_congr_left fun x hx => by show ((x.toNat : Nat) : Int) = x; have := h x hx; omega
theorem lcode_small {l : List Int} (hl : l.length ≤ 1024) : lcode l = if l.all maskB then 0 else 3 := by
  unfold lcode
  rw [if_neg (show ¬ 1024 < l.length by omega)]
theorem fcode_bad {l : List Int} {s : Int} (hl : l.length ≤ 1024) {x : Int} (hx : x ∈ s :: l) (hm : maskB x = false) : fcodeL l s = 3 := by
  have e := lcode_small hl
  rcases List.mem_cons.1 hx with h | h
  · subst h
    cases ha : l.all maskB with
    | true =>
      rw [ha] at e
      unfold fcodeL
      rw [e, hm]; rfl
    | false =>
      rw [ha] at e
      unfold fcodeL
      rw [e]; rfl
  · have : l.all maskB = false := List.all_eq_false.2 ⟨x, h, by rw [hm]; simp⟩
    rw [this] at e
    unfold fcodeL
    rw [e]; rfl
theorem fcode_ok {l : List Int} {s : Int} (hl : l.length ≤ 1024) (h : ∀ x ∈ s :: l, maskB x = true) : fcodeL l s = 0 := by
  have e := lcode_small hl
  rw [List.all_eq_true.2 fun x hx => h x (List.mem_cons_of_mem _ hx)] at e
  unfold fcodeL
  rw [e, h s (List.mem_cons_self ..)]; rfl
theorem fcode_large {l : List Int} {s : Int} (hl : 1024 < l.length) : fcodeL l s = 4 := by
  have e : lcode l = 4 := by unfold lcode; rw [if_pos hl]
  unfold fcodeL
  rw [e]; rfl
theorem fails_step {l : List Nat} {i s : Nat} (hi : i < l.length) : failsB (l.take (i + 1)) s = (failsB (l.take i) s || subT (l.getD i 0) s) := by
  unfold failsB
  rw [ltake hi, List.any_append]
  simp
end Go.PN
namespace Go.Proofs.YtcoflhkcpnoaaaaGreat
open Go.AI Go.PN
attribute [local irreducible] aw Fa Fh DrK
def failsV (l : List Int) (s : Int) : Bool := if fcodeL l s = 0 then failsB (l.map Int.toNat) s.toNat else false
set_option maxRecDepth 100000 in
set_option maxHeartbeats 3200000 in
theorem cFails_fa (l : List Int) (s : Int) (hl : l.length ≤ 68719476736) : Fa Tryz.prog 28 [.c (is false l), .c (.int .i64 s)] (.tup [.c (.bool (failsV l s)), .c (errA (fcodeL l s))]) := by
  unfold failsV
  refine fa_of_body Tryz.func28 rfl rfl (by simp [Tryz.ntmps28]) fun C hC => ?_
  simp only [initS, Nat.reduceAdd]
  refine xG ?_
  by_cases hb : 1024 < l.length
  · have e1 : decide ((l.length : Int) > 1024) = true := decide_eq_true (by omega)
    rw [fcode_large hb]
    refine yS e1 ?_
    refine yG e1 ?_
    refine yP e1 ?_
    refine yG e1 ?_
    refine yT hC e1 ?_
    exact .tup ⟨.c (ler_bool rfl), .c (ler_errN rfl (by decide)), trivial⟩
  have e1 : decide ((l.length : Int) > 1024) = false := decide_eq_false (by omega)
  refine yS e1 ?_
  refine yG e1 ?_
  refine yN e1 ?_
  apply aw_skip
  apply aw_seq
  apply aw_region
  refine yH e1 ?_
  apply aw_seq
  apply aw_seq
  have hb' : l.length ≤ 1024 := by omega
  refine aw_cut (fun g : Nat => [(0, .c (is false l)), (1, .c (.int .i64 s)), (6, .c (.bool false)), (18, .c (.osl g 1 0 (l.length + 1))), (19, .c (.int .i64 ((l.length + 1 : Nat) : Int))), (20, .c (.int .i64 0))]) (fun g => [(g, .cells 3 (l.length + 1) (isF (s :: l)))]) (fun _ => (0 : Nat) = 0) ?_ ?_
  · refine yG e1 ?_
    refine aw_buildSlice (xs := [.tmp 15]) (cells := [.int .i64 s]) rfl rfl rfl (zE e1) (by refine yS e1 ?_; rfl) rfl (by omega) (by omega) (by intro x hx; simp only [List.mem_singleton] at hx; subst hx; exact ⟨rfl, rfl, rfl⟩) rfl fun g hg => ?_
    refine yS e1 ?_
    refine yG e1 ?_
    rcases Nat.eq_zero_or_pos l.length with h0 | h0
    · obtain rfl := List.length_eq_zero_iff.1 h0
      refine aw_append0 (cs := .osl g 1 0 1) (cx := is false []) (f2 := isF []) rfl rfl rfl (zE e1) (zE e1) rfl (zE e1) .row rfl ?_
      refine yS e1 ?_
      refine yG e1 ?_
      refine aw_conv1 (f' := isF [s]) (fun j hj => by match j, hj with | 0, _ => rfl) ?_
      exact aw_stop ⟨g, (zB e1), zZ⟩
    · refine aw_append (g := g) (n := 1) (k := l.length) (m := 1) (size := 1) (z := [.int .i64 0]) (f := ofL [.int .i64 s]) (f2 := isF l) (h2 := []) (cx := is false l) rfl rfl rfl (zE e1) (zE e1) rfl (by omega) (zE e1) (zE e1) (by omega) (zE e1) .row (fun j hj => rfl) h0 (by unfold maxLen; omega) (by omega) (zE e1) fun g' hg' => ?_
      refine yS e1 ?_
      refine yG e1 ?_
      have hcf : ∀ j, j < 1 + l.length → appF (ofL [.int .i64 s]) 1 (isF l) j = isF (s :: l) j := fun j hj => by
        unfold appF
        cases j with
        | zero => rfl
        | succ j => rw [if_neg (by omega), show j + 1 - 1 = j from by omega]; rfl
      refine aw_conv1 hcf ?_
      refine aw_stop ⟨g', ?_, ?_⟩
      · rw [Nat.add_comm l.length 1]; exact (zB e1)
      · rw [Nat.add_comm 1 l.length]; exact zZ
  rintro g _
  refine yG e1 ?_
  refine aw_lp (fun i : Nat => [(0, .c (is false l)), (1, .c (.int .i64 s)), (6, .c (.bool false)), (18, .c (.osl g 1 0 (l.length + 1))), (19, .c (.int .i64 ((l.length + 1 : Nat) : Int))), (20, .c (.int .i64 i))]) (fun _ => [(g, .cells 3 (l.length + 1) (isF (s :: l)))]) (fun i => i ≤ l.length + 1 ∧ ∀ j, j < i → maskB ((s :: l).getD j 0) = true) (fun i => l.length + 1 - i) 0 (zB e1) zZ ⟨Nat.zero_le _, fun j hj => by omega⟩ ?_
  rintro i ⟨hi, hm⟩
  refine yG e1 ?_
  refine yF e1 (fun h1=>?_) fun h1=>?_
  · have hin : i < l.length + 1 := by have := of_decide_eq_true h1; omega
    have hmem : (s :: l).getD i 0 ∈ s :: l := by
      rw [getDZ (by simpa using hin)]; exact List.getElem_mem _
    refine yG e1 ?_
    generalize hx0 : (s :: l).getD i 0 = x at *
    have bad : maskB x = false → fcodeL l s = 3 := fun h => fcode_bad hb' hmem h
    by_cases h2 : x < 0
    · have e2 : decide (x < 0) = true := decide_eq_true h2
      have e3 := bad (by unfold maskB; rw [decide_eq_false (show ¬ x ≥ 0 by omega)]; rfl)
      rw [e3]
      refine yS (oj e1 e2) ?_
      refine yG (oj e1 e2) ?_
      refine yP (oj e1 e2) ?_
      refine yG (oj e1 e2) ?_
      refine yT hC (oj e1 e2) ?_
      exact .tup ⟨.c (ler_bool rfl), .c (ler_errN rfl (by decide)), trivial⟩
    · have e2 : decide (x < 0) = false := decide_eq_false h2
      refine yS (oj e1 e2) ?_
      refine yG (oj e1 e2) ?_
      by_cases h3 : x ≥ 16777216
      · have e3 : decide (x ≥ 16777216) = true := decide_eq_true h3
        have e4 := bad (by unfold maskB; rw [decide_eq_false (show ¬ x < 16777216 by omega)]; simp)
        rw [e4]
        refine yS (oj e1 (oj e2 e3)) ?_
        refine yG (oj e1 (oj e2 e3)) ?_
        refine yP (oj e1 (oj e2 e3)) ?_
        refine yG (oj e1 (oj e2 e3)) ?_
        refine yT hC (oj e1 (oj e2 e3)) ?_
        exact .tup ⟨.c (ler_bool rfl), .c (ler_errN rfl (by decide)), trivial⟩
      · have e3 : decide (x ≥ 16777216) = false := decide_eq_false h3
        refine yS (oj e1 (oj e2 e3)) ?_
        refine yG (oj e1 (oj e2 e3)) ?_
        refine yN (oj e1 (oj e2 e3)) ?_
        refine yG (oj e1 (oj e2 e3)) ?_
        refine aw_stop ⟨i + 1, by omega, (zB (oj e1 (oj e2 e3))), zZ, by omega, fun j hj => ?_⟩
        by_cases e : j = i
        · subst e
          rw [hx0]
          unfold maskB
          rw [decide_eq_true (show x ≥ 0 by omega), decide_eq_true (show x < 16777216 by omega)]
          rfl
        · exact hm j (by omega)
  · have hin : i = l.length + 1 := by have := of_decide_eq_false h1; omega
    subst hin
    have hall : ∀ x ∈ s :: l, maskB x = true := fun x hx => by
      obtain ⟨j, hj, e⟩ := List.getElem_of_mem hx
      have := hm j (by simpa using hj)
      rwa [getDZ hj, e] at this
    have hs := mask_nat (hall s (List.mem_cons_self ..))
    have hlm : ∀ x ∈ l, 0 ≤ x ∧ x < 16777216 := fun x hx => mask_nat (hall x (List.mem_cons_of_mem _ hx))
    have hz := zL_toNat fun x hx => (hlm x hx).1
    have hmN : ∀ x ∈ l.map Int.toNat, x < 16777216 := fun x hx => by
      obtain ⟨y, hy, rfl⟩ := List.mem_map.1 hx
      have := hlm y hy; omega
    rw [fcode_ok hb' hall, if_pos rfl]
    have hll : (l.map Int.toNat).length = l.length := List.length_map _
    clear hm hi hall hlm
    generalize l.map Int.toNat = m at *
    subst hz
    obtain ⟨st, rfl⟩ : ∃ st : Nat, s = st := ⟨s.toNat, by omega⟩
    have hzl := zL_len m
    rw [show ((st : Nat) : Int).toNat = st from rfl]
    refine yG e1 ?_
    refine aw_lp (fun i : Nat => [(1, .c (.int .i64 st)), (6, .c (.bool (failsB (m.take i) st))), (32, .c (is false (zL m))), (33, .c (.int .i64 m.length)), (34, .c (.int .i64 i))]) (fun _ => []) (fun i => i ≤ m.length) (fun i => m.length - i) 0 (by simp only [← hzl]; exact (zB e1)) (List.nil_sublist _) (Nat.zero_le _) ?_
    rintro i hi
    refine yG e1 ?_
    refine yF e1 (fun h1=>?_) fun h1=>?_
    · have hin : i < m.length := by have := of_decide_eq_true h1; omega
      have hx : m.getD i 0 < 16777216 := hmN _ (by rw [List.getD_eq_getElem?_getD, List.getElem?_eq_getElem hin]; exact List.getElem_mem _)
      have e1 : (andNotZ .i64 ((zL m).getD i 0) (st : Int) == 0) = subT (m.getD i 0) st := by rw [zL_get]; exact andNot_subT _ _ (by omega) (by omega)
      have nx := fails_step (s := st) hin
      refine yG (oj e1 e1) ?_
      cases hf : failsB (m.take i) st
      · rw [hf, Bool.false_or] at nx
        refine yS (oj e1 e1) ?_
        refine yG (oj e1 e1) ?_
        exact aw_stop ⟨i + 1, by omega, by rw [nx]; exact (zB (oj e1 e1)), List.nil_sublist _, by omega⟩
      · rw [hf, Bool.true_or] at nx
        refine yS (oj e1 e1) ?_
        refine yG (oj e1 e1) ?_
        exact aw_stop ⟨i + 1, by omega, by rw [nx]; exact (zB (oj e1 e1)), List.nil_sublist _, by omega⟩
    · have hin : i = m.length := by have := of_decide_eq_false h1; omega
      subst hin
      rw [List.take_length]
      refine yG e1 ?_
      refine yT hC e1 ?_
      exact .tup ⟨.c (ler_bool rfl), .c (ler_err0 rfl), trivial⟩
end Go.Proofs.YtcoflhkcpnoaaaaGreat
namespace Go.PN
open Go.AI Go.Proofs.YtcoflhkcpnoaaaaGreat
theorem fcode_zero {l : List Int} {s : Int} (h : fcodeL l s = 0) : (∀ x ∈ s :: l, maskB x = true) ∧ l.length ≤ 1024 := by
  have hl : l.length ≤ 1024 := by
    refine Nat.le_of_not_lt fun hb => ?_
    rw [fcode_large hb] at h; cases h
  refine ⟨fun x hx => ?_, hl⟩
  cases hm : maskB x with
  | true => rfl
  | false => rw [fcode_bad hl hx hm] at h; cases h
end Go.PN
namespace Go.Proofs.YtcoflhkcpnoaaaaGreat
open Go.AI Go.PN
attribute [local irreducible] aw Fa Fh DrK
set_option maxRecDepth 100000 in
set_option maxHeartbeats 1600000 in
theorem lawCFails_fa (l : List Int) (s : Int) (hl : l.length ≤ 68719476736) : Fa Tryz.prog 5 [.c (is false l), .c (.int .i64 s)] (.c (.bool true)) := by
  refine fa_of_body Tryz.func5 rfl rfl (by simp [Tryz.ntmps5]) fun C hC => ?_
  simp only [initS, Nat.reduceAdd]
  apply aw_seq
  apply aw_region
  refine xH ?_
  apply aw_seq
  refine aw_cut (fun _ : Unit => [(0, .c (is false l)), (1, .c (.int .i64 s))]) (fun _ => []) (fun _ => (0 : Nat) = 0) ?_ ?_
  · refine xG ?_
    refine xC (awake33_fa) ?_
    refine xG ?_
    refine aw_split 14 eE (fun h1 => ?_) (fun h1 => ?_) <;> refine xS ?_
    · refine xG ?_
      refine aw_cond eE (fun h2 => ?_) (fun h2 => ?_)
      · refine xG ?_
        refine xC (awake33_fa) ?_
        refine xG ?_
        refine xT hC ?_
        exact .one (.c (.bool _))
      · refine xG ?_
        first | exact aw_stop ⟨(), eB, zZ, rfl⟩ | exact aw_stop ⟨(), eB, zZ⟩
    · refine xG ?_
      refine xN ?_
      refine xG ?_
      first | exact aw_stop ⟨(), eB, zZ, rfl⟩ | exact aw_stop ⟨(), eB, zZ⟩
  rintro _ _
  refine xG ?_
  refine xC (cFails_fa l s hl) ?_
  refine xG ?_
  refine xC (checkFails_fa l s hl) ?_
  by_cases h0 : fcodeL l s = 0
  · have z0 := ieq_t h0
    obtain ⟨hall, hb⟩ := fcode_zero h0
    have hs := mask_nat (hall s (List.mem_cons_self ..))
    have hlm : ∀ x ∈ l, 0 ≤ x ∧ x < 16777216 := fun x hx => mask_nat (hall x (List.mem_cons_of_mem _ hx))
    have hz := zL_toNat fun x hx => (hlm x hx).1
    have hmN : ∀ x ∈ l.map Int.toNat, x < 16777216 := fun x hx => by
      obtain ⟨y, hy, rfl⟩ := List.mem_map.1 hx
      have := hlm y hy; omega
    have hR := failsR_fa (l.map Int.toNat) s.toNat (by rw [List.length_map]; omega) hmN (by omega)
    rw [hz, show ((s.toNat : Nat) : Int) = s from by omega] at hR
    have hv : failsV l s = failsB (l.map Int.toNat) s.toNat := by unfold failsV; rw [if_pos h0]
    refine yS z0 ?_
    refine yG z0 ?_
    refine yN z0 ?_
    refine yG z0 ?_
    refine yC z0 (hR) ?_
    refine yG z0 ?_
    refine yT hC z0 ?_
    exact .one (.c (ler_bool (by rw [hv]; simp)))
  · have z0 := ieq_f h0
    have hv : failsV l s = false := by unfold failsV; rw [if_neg h0]
    rw [hv]
    refine yS z0 ?_
    refine yG z0 ?_
    refine yP z0 ?_
    refine yG z0 ?_
    refine yC z0 (num_fa (fcodeL l s)) ?_
    refine yG z0 ?_
    refine yT hC z0 ?_
    exact .one (.c (ler_bool (by simp)))
end Go.Proofs.YtcoflhkcpnoaaaaGreat
