/- Blocks of one proof, laid one behind the other by a program (merge2.py). -/
import Derived.Test.YtcoflhkcpnoaaaaGreatDoorM16
import Derived.Deep.AppendSrc
import Derived.Lib.UnsafeStr
import Derived.Lib.Builder
import Derived.Laws.IdiomStrings
import Derived.Laws.Externs
set_option linter.unusedSimpArgs false
set_option linter.unusedVariables false
namespace Go.PN
open Go.AI
def arityB (kind : Int) (n : Nat) : Bool := if kind = 0 then decide ((n : Int) = 0) else if kind = 1 then decide ((n : Int) = 1) else decide ((n : Int) ≥ 1) && decide ((n : Int) ≤ 16)
def argOk (f : FM) (i : Nat) (a : Int) : Bool := decide (0 ≤ a) && decide (a < f.vars + i)
def kcode (x : FN) : Int := if x.kind = 0 then (if x.k ≠ 0 ∧ x.k ≠ 1 then 3 else 0) else if x.kind = 4 then (if x.k < 1 ∨ (x.args.length : Int) < x.k then 3 else 0) else if x.k ≠ 0 then 2 else 0
def fncode (f : FM) (i : Nat) : Int :=
  if (f.nodes.getD i fn0).kind < 0 ∨ 5 < (f.nodes.getD i fn0).kind then 7 else if !arityB (f.nodes.getD i fn0).kind (f.nodes.getD i fn0).args.length then 11
  else if !(f.nodes.getD i fn0).args.all (argOk f i) then 10 else kcode (f.nodes.getD i fn0)
def ffirst (f : FM) : Nat → Nat → Int
  | _, 0 => 0
  | i, k + 1 => if fncode f i ≠ 0 then fncode f i else ffirst f (i + 1) k
def fvalidB (f : FM) (a : Int) : Bool := decide (f.vars ≥ 0) && (decide (a ≥ 0) && (decide (a < f.vars) || decide (a - f.vars < f.nodes.length)))
def fcode (f : FM) : Int := if f.vars < 0 ∨ 24 < f.vars then 3 else if 128 < f.nodes.length then 4 else if ffirst f 0 f.nodes.length ≠ 0 then ffirst f 0 f.nodes.length else if fvalidB f f.top then 0 else 10
theorem ffirst_step {f : FM} {i n : Nat} (h : i < n) (h0 : fncode f i = 0) : ffirst f i (n - i) = ffirst f (i + 1) (n - (i + 1)) := by
  obtain ⟨k, hk⟩ : ∃ k, n - i = k + 1 := ⟨n - i - 1, by omega⟩
  rw [hk, ffirst, if_neg (by simp [h0]), show n - (i + 1) = k from by omega]
theorem ffirst_at {f : FM} {i n : Nat} (h : i < n) (h0 : fncode f i ≠ 0) : ffirst f i (n - i) = fncode f i := by
  obtain ⟨k, hk⟩ : ∃ k, n - i = k + 1 := ⟨n - i - 1, by omega⟩
  rw [hk, ffirst, if_pos h0]
theorem ffirst_zero {f : FM} : ∀ (k i : Nat), ffirst f i k = 0 → ∀ j, i ≤ j → j < i + k → fncode f j = 0
  | 0, i, _, j, h1, h2 => by omega
  | k + 1, i, h, j, h1, h2 => by
    rw [ffirst] at h
    split at h
    · rename_i hn; exact absurd h hn
    · rename_i hn
      rcases Nat.eq_or_lt_of_le h1 with e | e
      · rw [← e]; simpa using hn
      · exact ffirst_zero k (i + 1) h j (by omega) (by omega)
theorem all_take {p : Int → Bool} {l : List Int} (h : ∀ j, j < l.length → p (l.getD j 0) = true) : l.all p = true := by
  rw [List.all_eq_true]
  intro x hx
  obtain ⟨j, hj, rfl⟩ := List.mem_iff_getElem.1 hx
  have := h j hj
  rwa [List.getD_eq_getElem?_getD, List.getElem?_eq_getElem hj] at this
theorem all_not {p : Int → Bool} {l : List Int} {j : Nat} (hj : j < l.length) (h : p (l.getD j 0) = false) : l.all p = false := by
  rw [Bool.eq_false_iff]
  intro ha
  rw [List.all_eq_true] at ha
  have := ha l[j] (List.getElem_mem hj)
  rw [List.getD_eq_getElem?_getD, List.getElem?_eq_getElem hj] at h
  rw [show (some l[j]).getD 0 = l[j] from rfl] at h
  rw [h] at this
  cases this
end Go.PN
namespace Go.Proofs.YtcoflhkcpnoaaaaGreatDoor
open Go.AI Go.PN
attribute [local irreducible] aw Fa Fh DrK
set_option maxHeartbeats 800000 in
theorem arguments_fa (kind : Int) (n : Nat) : Fa Tryz.prog 122 [.c (.int .i64 kind), .c (.int .i64 n)] (.c (.bool (arityB kind n))) := by
  refine fa_of_body Tryz.func122 rfl rfl (by simp [Tryz.ntmps122]) fun C hC => ?_
  simp only [initS, Nat.reduceAdd]
  refine xG ?_
  refine xF (fun h0=>?_) fun h0=>?_
  · have h0' : kind = 0 := eq_of_beq h0
    refine xG ?_
    refine xT hC ?_
    refine .one (.c (ler_bool ?_))
    unfold arityB
    rw [if_pos h0']
    rw [Bool.eq_iff_iff]; simp
  have h0' : ¬ kind = 0 := by simpa using h0
  refine xG ?_
  refine xF (fun h1=>?_) fun h1=>?_
  · have h1' : kind = 1 := eq_of_beq h1
    refine xG ?_
    refine xT hC ?_
    refine .one (.c (ler_bool ?_))
    unfold arityB
    rw [if_neg h0', if_pos h1']
    rw [Bool.eq_iff_iff]; simp
  have h1' : ¬ kind = 1 := by simpa using h1
  refine xG ?_
  refine aw_split 16 eE (fun h2 => ?_) (fun h2 => ?_) <;> refine xS ?_
  · refine xG ?_
    refine xT hC ?_
    refine .one (.c (ler_bool ?_))
    unfold arityB
    rw [if_neg h0', if_neg h1', h2]; rfl
  · refine xG ?_
    refine xT hC ?_
    refine .one (.c (ler_bool ?_))
    unfold arityB
    rw [if_neg h0', if_neg h1', h2]; rfl
set_option maxHeartbeats 800000 in
theorem fvalid_fa (f : FM) (a : Int) (hv : f.vars ≤ 1000) (ha0 : -9223372036854775808 ≤ a) (ha : a ≤ 9223372036854775807) : Fa Tryz.prog 82 [.agg (fmc false f), .c (.int .i64 a)] (.c (.bool (fvalidB f a))) := by
  refine fa_of_body Tryz.func82 rfl rfl (by simp [Tryz.ntmps82]) fun C hC => ?_
  simp only [initS, Nat.reduceAdd]
  refine xG ?_
  refine xB fun g2 hn_g2=>?_
  refine yG hn_g2 ?_
  refine aw_split 8 (zE hn_g2) (fun h0 => ?_) (fun h0 => ?_) <;> refine yS hn_g2 ?_
  · have h0' := of_decide_eq_true h0
    refine yG hn_g2 ?_
    refine aw_split 12 (zE hn_g2) (fun h1 => ?_) (fun h1 => ?_) <;> refine yS hn_g2 ?_
    · have h1' := of_decide_eq_true h1
      refine yG hn_g2 ?_
      refine aw_split 17 (zE hn_g2) (fun h2 => ?_) (fun h2 => ?_) <;> refine yS hn_g2 ?_
      · refine yG hn_g2 ?_
        refine yT hC hn_g2 ?_
        refine .one (.c (ler_bool ?_))
        unfold fvalidB
        rw [h0, h1, h2]; rfl
      · refine yG hn_g2 ?_
        refine yT hC hn_g2 ?_
        refine .one (.c (ler_bool ?_))
        unfold fvalidB
        rw [h0, h1, h2]; rfl
    · refine yG hn_g2 ?_
      refine yT hC hn_g2 ?_
      refine .one (.c (ler_bool ?_))
      unfold fvalidB
      rw [h0, h1]; rfl
  · refine yG hn_g2 ?_
    refine yT hC hn_g2 ?_
    refine .one (.c (ler_bool ?_))
    unfold fvalidB
    rw [h0]; rfl
set_option maxRecDepth 100000 in
set_option maxHeartbeats 3200000 in
theorem fcheckNode_fa (f : FM) (i : Nat) (hi : i < f.nodes.length) (hv0 : 0 ≤ f.vars) (hv : f.vars ≤ 1000) (hil : i ≤ 1000000) (hal : (f.nodes.getD i fn0).args.length ≤ 1099511627776) :
    Fa Tryz.prog 81 [.agg (fmc false f), .c (.int .i64 i)] (.c (errA (fncode f i))) := by
  unfold fncode
  refine fa_of_body Tryz.func81 rfl rfl (by simp [Tryz.ntmps81]) fun C hC => ?_
  simp only [initS, Nat.reduceAdd]
  refine xG ?_
  refine xB fun g2 hn_g2=>?_
  refine yG hn_g2 ?_
  generalize hx : f.nodes.getD i fn0 = x at *
  refine yA (oj hn_g2 hx) fun g5 hn_g5=>?_
  refine yG (oj hn_g2 (oj hx hn_g5)) ?_
  refine yW (oj hn_g2 (oj hx hn_g5)) ?_
  refine yS (oj hn_g2 (oj hx hn_g5)) ?_
  refine yG (oj hn_g2 (oj hx hn_g5)) ?_
  refine aw_split 16 (zE (oj hn_g2 (oj hx hn_g5))) (fun h1 => ?_) (fun h1 => ?_) <;> refine yS (oj hn_g2 (oj hx hn_g5)) ?_
  · have h1' := of_decide_eq_true h1
    rw [if_pos (.inl h1')]
    refine yG (oj hn_g2 (oj hx hn_g5)) ?_
    refine yP (oj hn_g2 (oj hx hn_g5)) ?_
    refine yG (oj hn_g2 (oj hx hn_g5)) ?_
    refine yT hC (oj hn_g2 (oj hx hn_g5)) ?_
    exact .one (.c (ler_errN rfl (by decide)))
  have h1' := of_decide_eq_false h1
  refine yG (oj hn_g2 (oj hx hn_g5)) ?_
  refine yF (oj hn_g2 (oj hx hn_g5)) (fun h2=>?_) fun h2=>?_
  · have h2' := of_decide_eq_true h2
    rw [if_pos (.inr (by omega))]
    refine yG (oj hn_g2 (oj hx hn_g5)) ?_
    refine yT hC (oj hn_g2 (oj hx hn_g5)) ?_
    exact .one (.c (ler_errN rfl (by decide)))
  have h2' := of_decide_eq_false h2
  rw [if_neg (by omega)]
  refine yG (oj hn_g2 (oj hx hn_g5)) ?_
  refine yC (oj hn_g2 (oj hx hn_g5)) (arguments_fa x.kind x.args.length) ?_
  refine yG (oj hn_g2 (oj hx hn_g5)) ?_
  refine yF (oj hn_g2 (oj hx hn_g5)) (fun h3=>?_) fun h3=>?_
  · rw [if_pos h3]
    refine yG (oj hn_g2 (oj hx hn_g5)) ?_
    refine yT hC (oj hn_g2 (oj hx hn_g5)) ?_
    exact .one (.c (ler_errN rfl (by decide)))
  rw [if_neg (by rw [h3]; simp)]
  refine yG (oj hn_g2 (oj hx hn_g5)) ?_
  refine aw_lp (fun j : Nat => [(1, .c (.int .i64 i)), (2, .c (.optr g2 0)), (5, .c (.optr g5 0)), (31, .c (is true x.args)), (32, .c (.int .i64 x.args.length)), (33, .c (.int .i64 j))]) (fun _ => [(g5, .cells 63 3 (ofL [.int .i64 x.kind, .int .i64 x.k, is true x.args])), (g2, .cells 24 3 (ofL (fmc false f)))]) (fun j => j ≤ x.args.length ∧ ∀ q, q < j → argOk f i (x.args.getD q 0) = true) (fun j => x.args.length - j) 0 (zB (oj hn_g2 (oj hx hn_g5))) zZ ⟨Nat.zero_le _, fun q hq => by omega⟩ ?_
  rintro j ⟨hj, hq⟩
  refine yG (oj hn_g2 (oj hx hn_g5)) ?_
  refine yF (oj hn_g2 (oj hx hn_g5)) (fun h4=>?_) fun h4=>?_
  · have h4' : j < x.args.length := by have := of_decide_eq_true h4; omega
    refine yG (oj hn_g2 (oj hx hn_g5)) ?_
    refine aw_split 39 (zE (oj hn_g2 (oj hx hn_g5))) (fun h5 => ?_) (fun h5 => ?_) <;> refine yS (oj hn_g2 (oj hx hn_g5)) ?_
    · have h5' := of_decide_eq_true h5
      rw [if_pos (by rw [all_not h4' (by unfold argOk; rw [decide_eq_false (by omega)]; rfl)]; rfl)]
      refine yG (oj hn_g2 (oj hx hn_g5)) ?_
      refine yP (oj hn_g2 (oj hx hn_g5)) ?_
      refine yG (oj hn_g2 (oj hx hn_g5)) ?_
      refine yT hC (oj hn_g2 (oj hx hn_g5)) ?_
      exact .one (.c (ler_errN rfl (by decide)))
    have h5' := of_decide_eq_false h5
    refine yG (oj hn_g2 (oj hx hn_g5)) ?_
    refine yF (oj hn_g2 (oj hx hn_g5)) (fun h6=>?_) fun h6=>?_
    · have h6' := of_decide_eq_true h6
      rw [if_pos (by rw [all_not h4' (by unfold argOk; rw [decide_eq_false (show ¬ x.args.getD j 0 < f.vars + i by omega), Bool.and_false])]; rfl)]
      refine yG (oj hn_g2 (oj hx hn_g5)) ?_
      refine yT hC (oj hn_g2 (oj hx hn_g5)) ?_
      exact .one (.c (ler_errN rfl (by decide)))
    have h6' := of_decide_eq_false h6
    refine yG (oj hn_g2 (oj hx hn_g5)) ?_
    refine aw_stop ⟨j + 1, by omega, (zB (oj hn_g2 (oj hx hn_g5))), zZ, by omega, fun q hql => ?_⟩
    by_cases e : q = j
    · subst e
      unfold argOk
      rw [decide_eq_true (by omega), decide_eq_true (by omega)]; rfl
    · exact hq q (by omega)
  have h4' : j = x.args.length := by have := of_decide_eq_false h4; omega
  subst h4'
  rw [if_neg (by rw [all_take hq]; simp)]
  unfold kcode
  refine yG (oj hn_g2 (oj hx hn_g5)) ?_
  refine yF (oj hn_g2 (oj hx hn_g5)) (fun k0=>?_) fun k0=>?_
  · have k0' : x.kind = 0 := eq_of_beq k0
    rw [if_pos k0']
    refine yG (oj hn_g2 (oj hx hn_g5)) ?_
    by_cases z0 : x.k = 0
    · have zz := ieq_t z0
      rw [if_neg (by omega)]
      refine yG (oj hn_g2 (oj hx (oj hn_g5 zz))) ?_
      refine yN (oj hn_g2 (oj hx (oj hn_g5 zz))) ?_
      refine yG (oj hn_g2 (oj hx (oj hn_g5 zz))) ?_
      refine yT hC (oj hn_g2 (oj hx (oj hn_g5 zz))) ?_
      exact .one (.c (ler_err0 rfl))
    · have zz := ieq_f z0
      refine yG (oj hn_g2 (oj hx (oj hn_g5 zz))) ?_
      refine yF (oj hn_g2 (oj hx (oj hn_g5 zz))) (fun k1=>?_) fun k1=>?_
      · have k1' : ¬ x.k = 1 := by simpa using k1
        rw [if_pos ⟨z0, k1'⟩]
        refine yG (oj hn_g2 (oj hx (oj hn_g5 zz))) ?_
        refine yT hC (oj hn_g2 (oj hx (oj hn_g5 zz))) ?_
        exact .one (.c (ler_errN rfl (by decide)))
      · have k1' : x.k = 1 := by simpa using k1
        rw [if_neg (by omega)]
        refine yG (oj hn_g2 (oj hx (oj hn_g5 zz))) ?_
        refine yT hC (oj hn_g2 (oj hx (oj hn_g5 zz))) ?_
        exact .one (.c (ler_err0 rfl))
  have k0' : ¬ x.kind = 0 := by simpa using k0
  rw [if_neg k0']
  refine yG (oj hn_g2 (oj hx hn_g5)) ?_
  refine yF (oj hn_g2 (oj hx hn_g5)) (fun k4=>?_) fun k4=>?_
  · have k4' : x.kind = 4 := eq_of_beq k4
    rw [if_pos k4']
    refine yG (oj hn_g2 (oj hx hn_g5)) ?_
    refine aw_split 71 (zE (oj hn_g2 (oj hx hn_g5))) (fun q1 => ?_) (fun q1 => ?_) <;> refine yS (oj hn_g2 (oj hx hn_g5)) ?_
    · have q1' := of_decide_eq_true q1
      rw [if_pos (.inl q1')]
      refine yG (oj hn_g2 (oj hx hn_g5)) ?_
      refine yP (oj hn_g2 (oj hx hn_g5)) ?_
      refine yG (oj hn_g2 (oj hx hn_g5)) ?_
      refine yT hC (oj hn_g2 (oj hx hn_g5)) ?_
      exact .one (.c (ler_errN rfl (by decide)))
    have q1' := of_decide_eq_false q1
    refine yG (oj hn_g2 (oj hx hn_g5)) ?_
    refine yF (oj hn_g2 (oj hx hn_g5)) (fun q2=>?_) fun q2=>?_
    · have q2' := of_decide_eq_true q2
      rw [if_pos (.inr (by omega))]
      refine yG (oj hn_g2 (oj hx hn_g5)) ?_
      refine yT hC (oj hn_g2 (oj hx hn_g5)) ?_
      exact .one (.c (ler_errN rfl (by decide)))
    · have q2' := of_decide_eq_false q2
      rw [if_neg (by omega)]
      refine yG (oj hn_g2 (oj hx hn_g5)) ?_
      refine yT hC (oj hn_g2 (oj hx hn_g5)) ?_
      exact .one (.c (ler_err0 rfl))
  have k4' : ¬ x.kind = 4 := by simpa using k4
  rw [if_neg k4']
  refine yG (oj hn_g2 (oj hx hn_g5)) ?_
  refine yF (oj hn_g2 (oj hx hn_g5)) (fun z1=>?_) fun z1=>?_
  · have z1' : ¬ x.k = 0 := by simpa using z1
    rw [if_pos z1']
    refine yG (oj hn_g2 (oj hx hn_g5)) ?_
    refine yT hC (oj hn_g2 (oj hx hn_g5)) ?_
    exact .one (.c (ler_errN rfl (by decide)))
  · have z1' : x.k = 0 := by simpa using z1
    rw [if_neg (by omega)]
    refine yG (oj hn_g2 (oj hx hn_g5)) ?_
    refine yT hC (oj hn_g2 (oj hx hn_g5)) ?_
    exact .one (.c (ler_err0 rfl))
end Go.Proofs.YtcoflhkcpnoaaaaGreatDoor
namespace Go.Proofs.YtcoflhkcpnoaaaaGreatDoor
open Go.AI Go.PN
attribute [local irreducible] aw Fa Fh DrK
def ArgsOk (f : FM) : Prop := ∀ x ∈ f.nodes, x.args.length ≤ 1099511627776
theorem ArgsOk.at {f : FM} (h : ArgsOk f) (i : Nat) : (f.nodes.getD i fn0).args.length ≤ 1099511627776 := by
  by_cases hi : i < f.nodes.length
  · rw [getFN hi]; exact h _ (List.getElem_mem hi)
  · rw [List.getD_eq_getElem?_getD, List.getElem?_eq_none (by omega)]; show 0 ≤ _; omega
set_option maxRecDepth 100000 in
set_option maxHeartbeats 3200000 in
theorem fcheck_fa (f : FM) (hn : f.nodes.length ≤ 1099511627776) (ha : ArgsOk f) (ht0 : -9223372036854775808 ≤ f.top) (ht : f.top ≤ 9223372036854775807) : Fa Tryz.prog 48 [.agg (fmc false f)] (.c (errA (fcode f))) := by
  unfold fcode
  refine fa_of_body Tryz.func48 rfl rfl (by simp [Tryz.ntmps48]) fun C hC => ?_
  simp only [initS, Nat.reduceAdd]
  refine xG ?_
  refine xB fun g1 hn_g1=>?_
  refine yG hn_g1 ?_
  refine aw_split 8 (zE hn_g1) (fun h1 => ?_) (fun h1 => ?_) <;> refine yS hn_g1 ?_
  · have h1' := of_decide_eq_true h1
    rw [if_pos (.inl h1')]
    refine yG hn_g1 ?_
    refine yP hn_g1 ?_
    refine yG hn_g1 ?_
    refine yT hC hn_g1 ?_
    exact .one (.c (ler_errN rfl (by decide)))
  have h1' := of_decide_eq_false h1
  refine yG hn_g1 ?_
  refine yF hn_g1 (fun h2=>?_) fun h2=>?_
  · have h2' := of_decide_eq_true h2
    rw [if_pos (.inr (by omega))]
    refine yG hn_g1 ?_
    refine yT hC hn_g1 ?_
    exact .one (.c (ler_errN rfl (by decide)))
  have h2' := of_decide_eq_false h2
  rw [if_neg (by omega)]
  refine yG hn_g1 ?_
  refine yF hn_g1 (fun h3=>?_) fun h3=>?_
  · have h3' := of_decide_eq_true h3
    rw [if_pos (by omega)]
    refine yG hn_g1 ?_
    refine yT hC hn_g1 ?_
    exact .one (.c (ler_errN rfl (by decide)))
  have h3' := of_decide_eq_false h3
  rw [if_neg (by omega)]
  refine yG hn_g1 ?_
  refine aw_lp (fun i : Nat => [(1, .c (.optr g1 0)), (21, .c (.int .i64 f.nodes.length)), (22, .c (.int .i64 i))]) (fun _ => [(g1, .cells 24 3 (ofL (fmc false f)))]) (fun i => i ≤ f.nodes.length ∧ ffirst f 0 f.nodes.length = ffirst f i (f.nodes.length - i)) (fun i => f.nodes.length - i) 0 (zB hn_g1) zZ ⟨Nat.zero_le _, rfl⟩ ?_
  rintro i ⟨hi, hf⟩
  refine yG hn_g1 ?_
  refine yF hn_g1 (fun h4=>?_) fun h4=>?_
  · have h4' : i < f.nodes.length := by have := of_decide_eq_true h4; omega
    refine yG hn_g1 ?_
    refine yC hn_g1 (fcheckNode_fa f i h4' ?_ ?_ ?_ (ha.at i)) ?_
    · omega
    · omega
    · omega
    refine yG hn_g1 ?_
    refine yF hn_g1 (fun h5=>?_) fun h5=>?_
    · have h5' : ¬ fncode f i = 0 := by simpa using h5
      rw [hf, ffirst_at h4' h5', if_pos h5']
      refine yG hn_g1 ?_
      refine yT hC hn_g1 ?_
      exact .one (.c ler_err)
    · have h5' : fncode f i = 0 := by simpa using h5
      refine yG hn_g1 ?_
      exact aw_stop ⟨i + 1, by omega, (zB hn_g1), zZ, by omega, by rw [hf]; exact ffirst_step h4' h5'⟩
  have h4' : i = f.nodes.length := by have := of_decide_eq_false h4; omega
  subst h4'
  rw [hf, Nat.sub_self, if_neg (by rw [ffirst]; simp)]
  refine yG hn_g1 ?_
  refine yC hn_g1 (fvalid_fa f f.top ?_ ht0 ht) ?_
  · omega
  refine yG hn_g1 ?_
  refine yF hn_g1 (fun h6=>?_) fun h6=>?_
  · have h6' : fvalidB f f.top = false := by simpa using h6
    rw [h6', if_neg (by simp)]
    refine yG hn_g1 ?_
    refine yT hC hn_g1 ?_
    exact .one (.c (ler_errN rfl (by decide)))
  · have h6' : fvalidB f f.top = true := by simpa using h6
    rw [h6', if_pos rfl]
    refine yG hn_g1 ?_
    refine yT hC hn_g1 ?_
    exact .one (.c (ler_err0 rfl))
set_option maxRecDepth 100000 in
set_option maxHeartbeats 3200000 in
theorem fnodeR_fa (f : FM) (i : Nat) (hi : i < f.nodes.length) (hv0 : 0 ≤ f.vars) (hv : f.vars ≤ 1000) (hil : i ≤ 1000000) (hal : (f.nodes.getD i fn0).args.length ≤ 1099511627776) :
    Fa Tryz.prog 35 [.agg (fmc false f), .c (.int .i64 i)] (.c (.int .i64 (fncode f i))) := by
  unfold fncode
  refine fa_of_body Tryz.func35 rfl rfl (by simp [Tryz.ntmps35]) fun C hC => ?_
  simp only [initS, Nat.reduceAdd]
  refine xG ?_
  refine xB fun g2 hn_g2=>?_
  refine yG hn_g2 ?_
  generalize hx : f.nodes.getD i fn0 = x at *
  refine yA (oj hn_g2 hx) fun g5 hn_g5=>?_
  refine yG (oj hn_g2 (oj hx hn_g5)) ?_
  refine yW (oj hn_g2 (oj hx hn_g5)) ?_
  refine yS (oj hn_g2 (oj hx hn_g5)) ?_
  refine yH (oj hn_g2 (oj hx hn_g5)) ?_
  apply aw_seq
  apply aw_region
  refine yH (oj hn_g2 (oj hx hn_g5)) ?_
  apply aw_seq
  refine aw_cut (fun y : Nat × Nat => [(1, .c (.int .i64 i)), (2, .c (.optr g2 0)), (5, .c (.optr g5 0)), (6, .c (.int .i64 y.1)), (7, .c (.int .i64 y.2))]) (fun _ => [(g5, .cells 63 3 (ofL [.int .i64 x.kind, .int .i64 x.k, is true x.args])), (g2, .cells 24 3 (ofL (fmc false f)))]) (fun y => (0 ≤ x.kind ∧ x.kind ≤ 5) ∧ arityB x.kind x.args.length = (decide (y.1 ≤ x.args.length) && decide (x.args.length ≤ y.2))) ?_ ?_
  · refine yG (oj hn_g2 (oj hx hn_g5)) ?_
    refine yF (oj hn_g2 (oj hx hn_g5)) (fun k0=>?_) fun k0=>?_
    · have k' : x.kind = 0 := eq_of_beq k0
      refine yG (oj hn_g2 (oj hx hn_g5)) ?_
      refine aw_stop ⟨(0, 0), (zB (oj hn_g2 (oj hx hn_g5))), zZ, by omega, ?_⟩
      unfold arityB
      rw [if_pos k', Bool.eq_iff_iff]; simp
    have k0' : ¬ x.kind = 0 := by simpa using k0
    refine yG (oj hn_g2 (oj hx hn_g5)) ?_
    refine yF (oj hn_g2 (oj hx hn_g5)) (fun k1=>?_) fun k1=>?_
    · have k' : x.kind = 1 := eq_of_beq k1
      refine yG (oj hn_g2 (oj hx hn_g5)) ?_
      refine aw_stop ⟨(1, 1), (zB (oj hn_g2 (oj hx hn_g5))), zZ, by omega, ?_⟩
      unfold arityB
      rw [if_neg k0', if_pos k', Bool.eq_iff_iff]
      simp only [decide_eq_true_eq, Bool.and_eq_true]
      omega
    have k1' : ¬ x.kind = 1 := by simpa using k1
    have hfin : 0 ≤ x.kind → x.kind ≤ 5 → (0 ≤ x.kind ∧ x.kind ≤ 5) ∧ arityB x.kind x.args.length = (decide (1 ≤ x.args.length) && decide (x.args.length ≤ 16)) := fun h1 h2 => by
      refine ⟨⟨h1, h2⟩, ?_⟩
      unfold arityB
      rw [if_neg k0', if_neg k1', Bool.eq_iff_iff]
      simp only [decide_eq_true_eq, Bool.and_eq_true]
      omega
    refine yG (oj hn_g2 (oj hx hn_g5)) ?_
    refine yF (oj hn_g2 (oj hx hn_g5)) (fun k2=>?_) fun k2=>?_
    · have k' : x.kind = 2 := eq_of_beq k2
      refine yG (oj hn_g2 (oj hx (oj hn_g5 k2))) ?_
      refine yP (oj hn_g2 (oj hx (oj hn_g5 k2))) ?_
      refine yG (oj hn_g2 (oj hx (oj hn_g5 k2))) ?_
      exact aw_stop ⟨(1, 16), (zB (oj hn_g2 (oj hx (oj hn_g5 k2)))), zZ, hfin (by omega) (by omega)⟩
    have k2' : ¬ x.kind = 2 := by simpa using k2
    refine yG (oj hn_g2 (oj hx hn_g5)) ?_
    refine yF (oj hn_g2 (oj hx hn_g5)) (fun k3=>?_) fun k3=>?_
    · have k' : x.kind = 3 := eq_of_beq k3
      refine yG (oj hn_g2 (oj hx (oj hn_g5 k3))) ?_
      refine yP (oj hn_g2 (oj hx (oj hn_g5 k3))) ?_
      refine yG (oj hn_g2 (oj hx (oj hn_g5 k3))) ?_
      exact aw_stop ⟨(1, 16), (zB (oj hn_g2 (oj hx (oj hn_g5 k3)))), zZ, hfin (by omega) (by omega)⟩
    have k3' : ¬ x.kind = 3 := by simpa using k3
    refine yG (oj hn_g2 (oj hx hn_g5)) ?_
    refine yF (oj hn_g2 (oj hx hn_g5)) (fun k4=>?_) fun k4=>?_
    · have k' : x.kind = 4 := eq_of_beq k4
      refine yG (oj hn_g2 (oj hx (oj hn_g5 k4))) ?_
      refine yP (oj hn_g2 (oj hx (oj hn_g5 k4))) ?_
      refine yG (oj hn_g2 (oj hx (oj hn_g5 k4))) ?_
      exact aw_stop ⟨(1, 16), (zB (oj hn_g2 (oj hx (oj hn_g5 k4)))), zZ, hfin (by omega) (by omega)⟩
    have k4' : ¬ x.kind = 4 := by simpa using k4
    refine yG (oj hn_g2 (oj hx hn_g5)) ?_
    refine yF (oj hn_g2 (oj hx hn_g5)) (fun k5=>?_) fun k5=>?_
    · have k' : x.kind = 5 := eq_of_beq k5
      refine yG (oj hn_g2 (oj hx hn_g5)) ?_
      exact aw_stop ⟨(1, 16), (zB (oj hn_g2 (oj hx hn_g5))), zZ, hfin (by omega) (by omega)⟩
    have k5' : ¬ x.kind = 5 := by simpa using k5
    rw [if_pos (by omega)]
    refine yG (oj hn_g2 (oj hx hn_g5)) ?_
    refine yT hC (oj hn_g2 (oj hx hn_g5)) ?_
    exact .one (.c (.int _ _))
  rintro ⟨least, most⟩ ⟨hkind, har⟩
  dsimp only at hkind har ⊢
  rw [if_neg (by omega)]
  refine yG (oj hn_g2 (oj hx hn_g5)) ?_
  refine aw_split 31 (zE (oj hn_g2 (oj hx hn_g5))) (fun a1 => ?_) (fun a1 => ?_) <;> refine yS (oj hn_g2 (oj hx hn_g5)) ?_
  · have a1' := of_decide_eq_true a1
    rw [if_pos (by rw [har, decide_eq_false (show ¬ least ≤ x.args.length by omega)]; rfl)]
    refine yG (oj hn_g2 (oj hx hn_g5)) ?_
    refine yP (oj hn_g2 (oj hx hn_g5)) ?_
    refine yG (oj hn_g2 (oj hx hn_g5)) ?_
    refine yT hC (oj hn_g2 (oj hx hn_g5)) ?_
    exact .one (.c (.int _ _))
  have a1' := of_decide_eq_false a1
  refine yG (oj hn_g2 (oj hx hn_g5)) ?_
  refine yF (oj hn_g2 (oj hx hn_g5)) (fun a2=>?_) fun a2=>?_
  · have a2' := of_decide_eq_true a2
    rw [if_pos (by rw [har, decide_eq_false (show ¬ x.args.length ≤ most by omega), Bool.and_false]; rfl)]
    refine yG (oj hn_g2 (oj hx hn_g5)) ?_
    refine yT hC (oj hn_g2 (oj hx hn_g5)) ?_
    exact .one (.c (.int _ _))
  have a2' := of_decide_eq_false a2
  rw [if_neg (by rw [har, decide_eq_true (show least ≤ x.args.length by omega), decide_eq_true (show x.args.length ≤ most by omega)]; simp)]
  refine yG (oj hn_g2 (oj hx hn_g5)) ?_
  refine aw_lp (fun j : Nat => [(1, .c (.int .i64 i)), (2, .c (.optr g2 0)), (5, .c (.optr g5 0)), (39, .c (is true x.args)), (40, .c (.int .i64 x.args.length)), (41, .c (.int .i64 j))]) (fun _ => [(g5, .cells 63 3 (ofL [.int .i64 x.kind, .int .i64 x.k, is true x.args])), (g2, .cells 24 3 (ofL (fmc false f)))]) (fun j => j ≤ x.args.length ∧ ∀ q, q < j → argOk f i (x.args.getD q 0) = true) (fun j => x.args.length - j) 0 (zB (oj hn_g2 (oj hx hn_g5))) zZ ⟨Nat.zero_le _, fun q hq => by omega⟩ ?_
  rintro j ⟨hj, hq⟩
  refine yG (oj hn_g2 (oj hx hn_g5)) ?_
  refine yF (oj hn_g2 (oj hx hn_g5)) (fun h4=>?_) fun h4=>?_
  · have h4' : j < x.args.length := by have := of_decide_eq_true h4; omega
    refine yG (oj hn_g2 (oj hx hn_g5)) ?_
    refine aw_split 47 (zE (oj hn_g2 (oj hx hn_g5))) (fun h5 => ?_) (fun h5 => ?_) <;> refine yS (oj hn_g2 (oj hx hn_g5)) ?_
    · have h5' := of_decide_eq_true h5
      rw [if_pos (by rw [all_not h4' (by unfold argOk; rw [decide_eq_false (by omega)]; rfl)]; rfl)]
      refine yG (oj hn_g2 (oj hx hn_g5)) ?_
      refine yP (oj hn_g2 (oj hx hn_g5)) ?_
      refine yG (oj hn_g2 (oj hx hn_g5)) ?_
      refine yT hC (oj hn_g2 (oj hx hn_g5)) ?_
      exact .one (.c (.int _ _))
    have h5' := of_decide_eq_false h5
    refine yG (oj hn_g2 (oj hx hn_g5)) ?_
    refine yF (oj hn_g2 (oj hx hn_g5)) (fun h6=>?_) fun h6=>?_
    · have h6' := of_decide_eq_true h6
      rw [if_pos (by rw [all_not h4' (by unfold argOk; rw [decide_eq_false (show ¬ x.args.getD j 0 < f.vars + i by omega), Bool.and_false])]; rfl)]
      refine yG (oj hn_g2 (oj hx hn_g5)) ?_
      refine yT hC (oj hn_g2 (oj hx hn_g5)) ?_
      exact .one (.c (.int _ _))
    have h6' := of_decide_eq_false h6
    refine yG (oj hn_g2 (oj hx hn_g5)) ?_
    refine aw_stop ⟨j + 1, by omega, (zB (oj hn_g2 (oj hx hn_g5))), zZ, by omega, fun q hql => ?_⟩
    by_cases e : q = j
    · subst e
      unfold argOk
      rw [decide_eq_true (by omega), decide_eq_true (by omega)]; rfl
    · exact hq q (by omega)
  have h4' : j = x.args.length := by have := of_decide_eq_false h4; omega
  subst h4'
  rw [if_neg (by rw [all_take hq]; simp)]
  unfold kcode
  refine yG (oj hn_g2 (oj hx hn_g5)) ?_
  refine yF (oj hn_g2 (oj hx hn_g5)) (fun k0=>?_) fun k0=>?_
  · have k0' : x.kind = 0 := eq_of_beq k0
    rw [if_pos k0']
    refine yG (oj hn_g2 (oj hx hn_g5)) ?_
    by_cases z0 : x.k = 0
    · have zz := ieq_t z0
      rw [if_neg (by omega)]
      refine yG (oj hn_g2 (oj hx (oj hn_g5 zz))) ?_
      refine yN (oj hn_g2 (oj hx (oj hn_g5 zz))) ?_
      refine yG (oj hn_g2 (oj hx (oj hn_g5 zz))) ?_
      refine yT hC (oj hn_g2 (oj hx (oj hn_g5 zz))) ?_
      exact .one (.c (.int _ _))
    · have zz := ieq_f z0
      refine yG (oj hn_g2 (oj hx (oj hn_g5 zz))) ?_
      refine yF (oj hn_g2 (oj hx (oj hn_g5 zz))) (fun k1=>?_) fun k1=>?_
      · have k1' : ¬ x.k = 1 := by simpa using k1
        rw [if_pos ⟨z0, k1'⟩]
        refine yG (oj hn_g2 (oj hx (oj hn_g5 zz))) ?_
        refine yT hC (oj hn_g2 (oj hx (oj hn_g5 zz))) ?_
        exact .one (.c (.int _ _))
      · have k1' : x.k = 1 := by simpa using k1
        rw [if_neg (by omega)]
        refine yG (oj hn_g2 (oj hx (oj hn_g5 zz))) ?_
        refine yT hC (oj hn_g2 (oj hx (oj hn_g5 zz))) ?_
        exact .one (.c (.int _ _))
  have k0' : ¬ x.kind = 0 := by simpa using k0
  rw [if_neg k0']
  refine yG (oj hn_g2 (oj hx hn_g5)) ?_
  refine yF (oj hn_g2 (oj hx hn_g5)) (fun k4=>?_) fun k4=>?_
  · have k4' : x.kind = 4 := eq_of_beq k4
    rw [if_pos k4']
    refine yG (oj hn_g2 (oj hx hn_g5)) ?_
    refine aw_split 76 (zE (oj hn_g2 (oj hx hn_g5))) (fun q1 => ?_) (fun q1 => ?_) <;> refine yS (oj hn_g2 (oj hx hn_g5)) ?_
    · have q1' := of_decide_eq_true q1
      rw [if_pos (.inl q1')]
      refine yG (oj hn_g2 (oj hx hn_g5)) ?_
      refine yP (oj hn_g2 (oj hx hn_g5)) ?_
      refine yG (oj hn_g2 (oj hx hn_g5)) ?_
      refine yT hC (oj hn_g2 (oj hx hn_g5)) ?_
      exact .one (.c (.int _ _))
    have q1' := of_decide_eq_false q1
    refine yG (oj hn_g2 (oj hx hn_g5)) ?_
    refine yF (oj hn_g2 (oj hx hn_g5)) (fun q2=>?_) fun q2=>?_
    · have q2' := of_decide_eq_true q2
      rw [if_pos (.inr (by omega))]
      refine yG (oj hn_g2 (oj hx hn_g5)) ?_
      refine yT hC (oj hn_g2 (oj hx hn_g5)) ?_
      exact .one (.c (.int _ _))
    · have q2' := of_decide_eq_false q2
      rw [if_neg (by omega)]
      refine yG (oj hn_g2 (oj hx hn_g5)) ?_
      refine yT hC (oj hn_g2 (oj hx hn_g5)) ?_
      exact .one (.c (.int _ _))
  have k4' : ¬ x.kind = 4 := by simpa using k4
  rw [if_neg k4']
  refine yG (oj hn_g2 (oj hx hn_g5)) ?_
  refine yF (oj hn_g2 (oj hx hn_g5)) (fun z1=>?_) fun z1=>?_
  · have z1' : ¬ x.k = 0 := by simpa using z1
    rw [if_pos z1']
    refine yG (oj hn_g2 (oj hx hn_g5)) ?_
    refine yT hC (oj hn_g2 (oj hx hn_g5)) ?_
    exact .one (.c (.int _ _))
  · have z1' : x.k = 0 := by simpa using z1
    rw [if_neg (by omega)]
    refine yG (oj hn_g2 (oj hx hn_g5)) ?_
    refine yT hC (oj hn_g2 (oj hx hn_g5)) ?_
    exact .one (.c (.int _ _))
set_option maxHeartbeats 800000 in
theorem fvalidR_fa (f : FM) (a : Int) (hv : f.vars ≤ 1000) (ha0 : -9223372036854775808 ≤ a) (ha : a ≤ 9223372036854775807) : Fa Tryz.prog 36 [.agg (fmc false f), .c (.int .i64 a)] (.c (.bool (fvalidB f a))) := by
  refine fa_of_body Tryz.func36 rfl rfl (by simp [Tryz.ntmps36]) fun C hC => ?_
  simp only [initS, Nat.reduceAdd]
  refine xG ?_
  refine xB fun g2 hn_g2=>?_
  refine yG hn_g2 ?_
  refine aw_split 8 (zE hn_g2) (fun h0 => ?_) (fun h0 => ?_) <;> refine yS hn_g2 ?_
  · have h0' := of_decide_eq_true h0
    refine yG hn_g2 ?_
    refine aw_split 12 (zE hn_g2) (fun h1 => ?_) (fun h1 => ?_) <;> refine yS hn_g2 ?_
    · have h1' := of_decide_eq_true h1
      refine yG hn_g2 ?_
      refine aw_split 17 (zE hn_g2) (fun h2 => ?_) (fun h2 => ?_) <;> refine yS hn_g2 ?_
      · refine yG hn_g2 ?_
        refine yT hC hn_g2 ?_
        refine .one (.c (ler_bool ?_))
        unfold fvalidB
        rw [h0, h1, h2]; rfl
      · refine yG hn_g2 ?_
        refine yT hC hn_g2 ?_
        refine .one (.c (ler_bool ?_))
        unfold fvalidB
        rw [h0, h1, h2]; rfl
    · refine yG hn_g2 ?_
      refine yT hC hn_g2 ?_
      refine .one (.c (ler_bool ?_))
      unfold fvalidB
      rw [h0, h1]; rfl
  · refine yG hn_g2 ?_
    refine yT hC hn_g2 ?_
    refine .one (.c (ler_bool ?_))
    unfold fvalidB
    rw [h0]; rfl
set_option maxRecDepth 100000 in
set_option maxHeartbeats 3200000 in
theorem fcheckR_fa (f : FM) (hn : f.nodes.length ≤ 1099511627776) (ha : ArgsOk f) (ht0 : -9223372036854775808 ≤ f.top) (ht : f.top ≤ 9223372036854775807) : Fa Tryz.prog 10 [.agg (fmc false f)] (.c (.int .i64 (fcode f))) := by
  unfold fcode
  refine fa_of_body Tryz.func10 rfl rfl (by simp [Tryz.ntmps10]) fun C hC => ?_
  simp only [initS, Nat.reduceAdd]
  refine xG ?_
  refine xB fun g1 hn_g1=>?_
  refine yG hn_g1 ?_
  refine aw_split 8 (zE hn_g1) (fun h1 => ?_) (fun h1 => ?_) <;> refine yS hn_g1 ?_
  · have h1' := of_decide_eq_true h1
    rw [if_pos (.inl h1')]
    refine yG hn_g1 ?_
    refine yP hn_g1 ?_
    refine yG hn_g1 ?_
    refine yT hC hn_g1 ?_
    exact .one (.c (.int _ _))
  have h1' := of_decide_eq_false h1
  refine yG hn_g1 ?_
  refine yF hn_g1 (fun h2=>?_) fun h2=>?_
  · have h2' := of_decide_eq_true h2
    rw [if_pos (.inr (by omega))]
    refine yG hn_g1 ?_
    refine yT hC hn_g1 ?_
    exact .one (.c (.int _ _))
  have h2' := of_decide_eq_false h2
  rw [if_neg (by omega)]
  refine yG hn_g1 ?_
  refine yF hn_g1 (fun h3=>?_) fun h3=>?_
  · have h3' := of_decide_eq_true h3
    rw [if_pos (by omega)]
    refine yG hn_g1 ?_
    refine yT hC hn_g1 ?_
    exact .one (.c (.int _ _))
  have h3' := of_decide_eq_false h3
  rw [if_neg (by omega)]
  refine yG hn_g1 ?_
  refine aw_lp (fun i : Nat => [(1, .c (.optr g1 0)), (19, .c (.int .i64 f.nodes.length)), (20, .c (.int .i64 i))]) (fun _ => [(g1, .cells 24 3 (ofL (fmc false f)))]) (fun i => i ≤ f.nodes.length ∧ ffirst f 0 f.nodes.length = ffirst f i (f.nodes.length - i)) (fun i => f.nodes.length - i) 0 (zB hn_g1) zZ ⟨Nat.zero_le _, rfl⟩ ?_
  rintro i ⟨hi, hf⟩
  refine yG hn_g1 ?_
  refine yF hn_g1 (fun h4=>?_) fun h4=>?_
  · have h4' : i < f.nodes.length := by have := of_decide_eq_true h4; omega
    refine yG hn_g1 ?_
    refine yC hn_g1 (fnodeR_fa f i h4' ?_ ?_ ?_ (ha.at i)) ?_
    · omega
    · omega
    · omega
    refine yG hn_g1 ?_
    refine yF hn_g1 (fun h5=>?_) fun h5=>?_
    · have h5' : ¬ fncode f i = 0 := by simpa using h5
      rw [hf, ffirst_at h4' h5', if_pos h5']
      refine yG hn_g1 ?_
      refine yT hC hn_g1 ?_
      exact .one (.c (.int _ _))
    · have h5' : fncode f i = 0 := by simpa using h5
      refine yG hn_g1 ?_
      exact aw_stop ⟨i + 1, by omega, (zB hn_g1), zZ, by omega, by rw [hf]; exact ffirst_step h4' h5'⟩
  have h4' : i = f.nodes.length := by have := of_decide_eq_false h4; omega
  subst h4'
  rw [hf, Nat.sub_self, if_neg (by rw [ffirst]; simp)]
  refine yG hn_g1 ?_
  refine yC hn_g1 (fvalidR_fa f f.top ?_ ht0 ht) ?_
  · omega
  refine yG hn_g1 ?_
  refine yF hn_g1 (fun h6=>?_) fun h6=>?_
  · have h6' : fvalidB f f.top = false := by simpa using h6
    rw [h6', if_neg (by simp)]
    refine yG hn_g1 ?_
    refine yT hC hn_g1 ?_
    exact .one (.c (.int _ _))
  · have h6' : fvalidB f f.top = true := by simpa using h6
    rw [h6', if_pos rfl]
    refine yG hn_g1 ?_
    refine yT hC hn_g1 ?_
    exact .one (.c (.int _ _))
end Go.Proofs.YtcoflhkcpnoaaaaGreatDoor
namespace Go.Proofs.YtcoflhkcpnoaaaaGreatDoor
open Go.AI Go.PN Go.ChangeShapes Go.WideShapes Go.RowKit
theorem i64_ge {x : Int} (h : (Lit.int .i64 x).wf = true) : -9223372036854775808 ≤ x := by
  have hb : -9223372036854775808 ≤ x ∧ x ≤ 9223372036854775807 := by simpa [Lit.wf, IntKind.min, IntKind.max, IntKind.signed, IntKind.bits] using h
  exact hb.1
theorem i64_le {x : Int} (h : (Lit.int .i64 x).wf = true) : x ≤ 9223372036854775807 := by
  have hb : -9223372036854775808 ≤ x ∧ x ≤ 9223372036854775807 := by simpa [Lit.wf, IntKind.min, IntKind.max, IntKind.signed, IntKind.bits] using h
  exact hb.2
theorem rdr_args : Rdr Tryz.prog 61 (fun xs : List Int => [is true xs]) (fun xs n => xs.length ≤ n) :=
  (rdr_slice (0 : Int) true Tryz.underlying61 (s := 1) (by kernel_rfl) (by omega) (fun _ _ _ h _ => h) (rdr_int Tryz.underlying3)).to id (fun ys => by
    show [CV.row true 1 ys.length _] = [CV.row true 1 ys.length _]
    congr 2
    funext j
    show _ = ofL [CV.int .i64 (ys.getD (j / 1) 0)] (j % 1)
    rw [Nat.div_one, Nat.mod_one]
    rfl) (fun _ _ h => h.1)
theorem rdr_fnode : Rdr Tryz.prog 63 (fun r : FN => [CV.int .i64 r.kind, .int .i64 r.k, is true r.args]) (fun r n => r.args.length ≤ n) := by
  have r := rdr_struct3 Tryz.underlying63 (s0 := 1) (s1 := 1) (s2 := 1) (by kernel_rfl) (by kernel_rfl) (by kernel_rfl) (by kernel_rfl) rfl rfl rfl (rdr_int Tryz.underlying3) (rdr_int Tryz.underlying3) rdr_args (fun _ _ _ h _ => h) (fun _ _ _ h _ => h) (fun _ _ _ h hm => Nat.le_trans h hm)
  exact r.to (fun y => ⟨y.1, y.2.1, y.2.2⟩) (fun _ => rfl) (fun _ _ h => h.2.2)
theorem rdr_fnodes : Rdr Tryz.prog 22 (fun p : List FN => [fns false p]) (fun p n => p.length ≤ n ∧ ∀ x ∈ p, x.args.length ≤ n) :=
  (rdr_slice (B := fun (r : FN) n => r.args.length ≤ n) fn0 false Tryz.underlying22 (s := 3) (by kernel_rfl) (by omega) (fun _ _ _ h hm => Nat.le_trans h hm) rdr_fnode).to id (fun _ => rfl) (fun _ _ h => h)
theorem rdr_formula : Rdr Tryz.prog 24 (fun f : FM => fmc false f) (fun f n => f.nodes.length ≤ n ∧ (∀ x ∈ f.nodes, x.args.length ≤ n) ∧ (Lit.int .i64 f.top).wf = true) := by
  have r := rdr_struct3 Tryz.underlying24 (s0 := 1) (s1 := 1) (s2 := 1) (by kernel_rfl) (by kernel_rfl) (by kernel_rfl) (by kernel_rfl) rfl rfl rfl (rdr_int Tryz.underlying3) rdr_fnodes (rdr_int Tryz.underlying3) (fun _ _ _ h _ => h) (fun _ _ _ h hm => ⟨Nat.le_trans h.1 hm, fun x hx => Nat.le_trans (h.2 x hx) hm⟩) (fun _ _ _ h _ => h)
  exact r.to (fun y => ⟨y.1, y.2.1, y.2.2⟩) (fun _ => rfl) (fun _ _ h => ⟨h.2.1.1, h.2.1.2, h.2.2⟩)
theorem args_ok {f : FM} {n : Nat} (h : ∀ x ∈ f.nodes, x.args.length ≤ n) (hn : n ≤ 1099511627776) : ArgsOk f := fun x hx => Nat.le_trans (h x hx) hn
end Go.Proofs.YtcoflhkcpnoaaaaGreatDoor
namespace Go.AI
def byF (l : List UInt8) (j : Nat) : CV := .int .u8 ((l.getD j 0).toNat : Int)
theorem byF_rep {S : Bool → Nat → Prop} {w : World} {l : List UInt8} {j : Nat} (h : j < l.length) {u : Value} (hr : RepC S w (byF l j) u) : u = .int .u8 ((l[j]).toNat : Int) := by
  have : u = .int .u8 ((l.getD j 0).toNat : Int) := hr
  rw [this, List.getD_eq_getElem?_getD, List.getElem?_eq_getElem h]; rfl
section
variable {P : Program} {h : Heap} {ρ : Operand → AV}
theorem POk.lenStr {t : TypeId} {x : Operand} {s : ByteArray} (ht : P.underlying t = some .string) (hx : ρ x = .c (.str s)) : POk P h ρ (.call { callee := .builtin .len, args := #[x], argTypes := #[t] }) (.c (.int .i64 s.size)) := fun S w e _ ho _ => by
  have h2 : e x = .string s := by have := ho x (by simp [Op.operands, Call.operands]); rw [hx] at this; exact this
  exact ⟨.int .i64 s.size, fun o hop => by simp [execOp, hop, resolve, invoke, Go.builtin, Builtin.len_, h2, run_underlying ht, goInt], rfl⟩
theorem POk.bytesStr {s d el ty : TypeId} {x : Operand} {g m : Nat} {f : Nat → CV} {l : List UInt8} (hs : P.underlying s = some (.slice el)) (he : P.underlying el = some (.int .u8)) (hd : P.underlying d = some .string) (hx : ρ x = .c (.osl g 1 0 l.length))
    (hg : h.get g = some (.cells ty m f)) (hm : l.length ≤ m) (hf : ∀ j, j < l.length → f j = byF l j) : POk P h ρ (.convert s d x) (.c (.str ⟨l.toArray⟩)) := fun S w e _ ho hh => by
  have h2 := ho x (by simp [Op.operands])
  rw [hx] at h2
  obtain ⟨c, hv, _, _, _⟩ := h2
  obtain ⟨cs, hb, hn, hj⟩ := hh _ _ (Heap.get_mem hg)
  refine ⟨.string ⟨l.toArray⟩, fun o hop => ?_, rfl⟩
  have := run_convert_bytes_back (P := P) w s d el ⟨g, 0, none⟩ c l hs he hd (fun j hjl => by
    obtain ⟨u, hu, hr⟩ := hj j (by omega)
    rw [hf j hjl] at hr
    rw [add_mk, cell_own hb, Nat.zero_add, hu, byF_rep hjl hr])
  simp [execOp, hop, hv, this]
theorem POk.sliceArr {t el ty : TypeId} {x : Operand} {g n m : Nat} {f : Nat → CV} (ht : P.underlying t = some (.array n el)) (hz : P.cellsOf el = 1) (hi : (P.info? el).isSome = true) (hx : ρ x = .c (.optr g 0)) (hg : h.get g = some (.cells ty m f)) (hm : n ≤ m) (h63 : n ≤ maxLen) :
    POk P h ρ (.slice t x none none none) (.c (.osl g 1 0 n)) := fun S w e _ ho hh => by
  have h2 : e x = .pointer (some ⟨g, 0, none⟩) := by have := ho x (by simp [Op.operands]); rw [hx] at this; exact this
  obtain ⟨cs, hb, hn, hj⟩ := hh _ _ (Heap.get_mem hg)
  obtain ⟨i, hi'⟩ := Option.isSome_iff_exists.1 hi
  refine ⟨.slice (some ⟨g, 0, none⟩) n n, fun o hop => ?_, n, rfl, Nat.le_refl _, h63, cs, ty, ⟨_, hb⟩, by omega⟩
  by_cases h0 : n = 0
  · simp [execOp, hop, h2, Instr.sliceAt, run_underlying ht, Instr.sureAddr, Instr.sliceBounds, sizeOf, typeInfo, hi', h0]
  · have h0' : ¬ 0 = n := fun e => h0 e.symm
    simp [execOp, hop, h2, Instr.sliceAt, run_underlying ht, Instr.sureAddr, Instr.sliceBounds, sizeOf, typeInfo, hi', h0]
    exact add_mk g 0 0
theorem run_equalIn_pn (d : Nat) {t el : TypeId} (ht : P.underlying t = some (.pointer el)) (w : World) : (Op.equalIn (d + 1) t (.pointer none) (.pointer none)).run P w = .ok true w := by
  simp [Op.equalIn, run_underlying ht]
theorem run_equalIn_pa (d : Nat) {t el : TypeId} (ht : P.underlying t = some (.pointer el)) (a : Addr) (w : World) : (Op.equalIn (d + 1) t (.pointer (some a)) (.pointer none)).run P w = .ok false w := by
  simp [Op.equalIn, run_underlying ht]
theorem run_eqGuard_ptr (op : BinOp) (t : TypeId) (x y : Operand) (a b : Option Addr) (w : World) : (eqGuard op t x y (.pointer a) (.pointer b)).run P w = .ok () w := by
  unfold eqGuard
  cases op <;> simp
theorem POk.eqPtr {t t' : TypeId} {x y : Operand} {a : CV} {b : Bool} {el : TypeId} (ht : P.underlying t = some (.pointer el)) (hx : ρ x = .c a) (hy : ρ y = .c (.raw (.pointer none))) (ha : (a = .raw (.pointer none) ∧ b = true) ∨ ∃ g, a = .optr g 0 ∧ b = false) : POk P h ρ (.binOp .eql t x y t') (.c (.bool b)) := fun S w e _ ho _ => by
  have h1 := ho x (by simp [Op.operands])
  have h2 := ho y (by simp [Op.operands])
  rw [hx] at h1
  rw [hy] at h2
  have h2' : e y = .pointer none := h2
  rcases ha with ⟨rfl, rfl⟩ | ⟨g, rfl, rfl⟩
  · have h1' : e x = .pointer none := h1
    refine ⟨.bool true, fun o hop => exec_bin hop (by rw [h1', h2']; exact run_eqGuard_ptr ..) ?_, rfl⟩
    rw [h1', h2']
    simp only [Go.binOp]
    simp [Op.equal, Op.maxDepth, run_equalIn_pn 9999 ht]
  · have h1' : e x = .pointer (some ⟨g, 0, none⟩) := h1
    refine ⟨.bool false, fun o hop => exec_bin hop (by rw [h1', h2']; exact run_eqGuard_ptr ..) ?_, rfl⟩
    rw [h1', h2']
    simp only [Go.binOp]
    simp [Op.equal, Op.maxDepth, run_equalIn_pa 9999 ht]
theorem POk.neqPtr {t t' : TypeId} {x y : Operand} {g : Nat} {el : TypeId} {j : TypeInfo} (ht : P.underlying t = some (.pointer el)) (hj : P.info? el = some j) (hx : ρ x = .c (.optr g 0)) (hy : ρ y = .c (.optr g 0)) : POk P h ρ (.binOp .neq t x y t') (.c (.bool false)) := fun S w e _ ho _ => by
  have h1 : e x = .pointer (some ⟨g, 0, none⟩) := by have := ho x (by simp [Op.operands]); rw [hx] at this; exact this
  have h2 : e y = .pointer (some ⟨g, 0, none⟩) := by have := ho y (by simp [Op.operands]); rw [hy] at this; exact this
  exact ⟨.bool false, fun o hop => exec_bin hop (by rw [h1, h2]; exact run_eqGuard_ptr ..) (by rw [h1, h2]; exact Lib.run_neq_ptr_same w _ ht hj), rfl⟩
theorem POk.toUnsafe {s d t ty : TypeId} {x : Operand} {g m : Nat} {f : Nat → CV} {j : TypeInfo} (hs : P.underlying s = some (.pointer t)) (hd : P.underlying d = some .unsafePointer) (hj : P.info? t = some j) (hj0 : j.size ≠ 0) (hx : ρ x = .c (.optr g 0)) (hg : h.get g = some (.cells ty m f)) (hm : 0 < m) :
    POk P h ρ (.convert s d x) (.c (.optr g 0)) := fun S w e _ ho hh => by
  have h2 : e x = .pointer (some ⟨g, 0, none⟩) := by have := ho x (by simp [Op.operands]); rw [hx] at this; exact this
  obtain ⟨cs, hb, hn, _⟩ := hh _ _ (Heap.get_mem hg)
  have hsh : w.shape? g = some (ty, cs.size) := by simp [World.shape?, hb]
  refine ⟨_, fun o hop => ?_, rfl⟩
  have := Lib.run_to_unsafe (P := P) w ⟨g, 0, none⟩ hs hd hj hj0 hsh (by show 0 < cs.size; omega)
  simp [execOp, hop, h2, this]
theorem liesAt_self {e : TypeId} {n count : Nat} (hc : P.cellsOf e = n) (hn : 0 < n) (h1 : 1 ≤ count) : liesAt P P.depth e count 0 e 1 = true := by
  have hd : P.depth = (2 * (P.types.size + Made.depth) + 1) + 1 := rfl
  rw [hd]
  simp only [liesAt, Bool.or_eq_true]
  left
  rw [hd]
  simp [rowAt, hc, sameLayout]
  omega
theorem POk.fromUnsafe {s d u : TypeId} {x : Operand} {g m n : Nat} {f : Nat → CV} {j : TypeInfo} (hs : P.underlying s = some .unsafePointer) (hd : P.underlying d = some (.pointer u)) (hj : P.info? u = some j) (hc : P.cellsOf u = n) (hn0 : 0 < n) (hx : ρ x = .c (.optr g 0)) (hg : h.get g = some (.cells u m f)) (hm : n ≤ m) :
    POk P h ρ (.convert s d x) (.c (.optr g 0)) := fun S w e _ ho hh => by
  have h2 : e x = .pointer (some ⟨g, 0, none⟩) := by have := ho x (by simp [Op.operands]); rw [hx] at this; exact this
  obtain ⟨cs, hb, hn, _⟩ := hh _ _ (Heap.get_mem hg)
  have hsh : w.shape? g = some (u, cs.size) := by simp [World.shape?, hb]
  refine ⟨_, fun o hop => ?_, rfl⟩
  have := Lib.run_from_unsafe (P := P) w ⟨g, 0, none⟩ hs hd hj hsh (liesAt_self hc hn0 (by rw [hc]; exact (Nat.le_div_iff_mul_le hn0).2 (by omega)))
  simp [execOp, hop, h2, this]
theorem POk.noEscape {f : FuncId} {fn : Func} {x : Operand} {ts : Array TypeId} {a : CV} (hf : P.funcs[f]? = some fn) (hname : (fn.name == "runtime.NumGoroutine") = false) (hb : fn.body.isNone = true) (hn : Extern.findNext fn = none) (he : Extern.find fn = some Extern.AbiNoEscape.same) (hk : ρ (.func f) = .c (.raw (.func (.func f) #[] #[]))) (hx : ρ x = .c a) :
    POk P h ρ (.call { callee := .value (.func f), args := #[x], argTypes := ts }) (.c a) := fun S w e _ ho _ => by
  have h1 := ho x (by simp [Op.operands, Call.operands])
  rw [hx] at h1
  refine ⟨e x, fun o hop => ?_, h1⟩
  have := run_callFunc_extern (P := P) hf hname hb hn he #[e x] w
  rw [Lib.run_noEscape] at this
  have h3 := ho (.func f) (by simp [Op.operands, Call.operands])
  rw [hk] at h3
  have h3' : e (.func f) = .func (.func f) #[] #[] := h3
  simp [execOp, hop, resolve, invoke, h3', Deferred.ofValue, this, Result.andThen]
theorem POk.sliceData {t : TypeId} {x : Operand} {g n : Nat} (hx : ρ x = .c (.osl g 1 0 n)) (hn : 0 < n) : POk P h ρ (.call { callee := .builtin .unsafeSliceData, args := #[x], argTypes := #[t] }) (.c (.optr g 0)) := fun S w e _ ho _ => by
  have h2 := ho x (by simp [Op.operands, Call.operands])
  rw [hx] at h2
  obtain ⟨c, hv, hnc, _⟩ := h2
  refine ⟨_, fun o hop => ?_, rfl⟩
  have := Lib.run_unsafeSliceData_row (P := P) (w := w) #[t] o.type ⟨g, 0, none⟩ n c (by omega)
  simp [execOp, hop, resolve, invoke, Go.builtin, hv, this]
theorem POk.sliceDataN {t : TypeId} {x : Operand} (hx : ρ x = .c (.raw (.slice none 0 0))) : POk P h ρ (.call { callee := .builtin .unsafeSliceData, args := #[x], argTypes := #[t] }) (.c (.raw (.pointer none))) := fun S w e _ ho _ => by
  have h2 := ho x (by simp [Op.operands, Call.operands])
  rw [hx] at h2
  have hv : e x = .slice none 0 0 := h2
  refine ⟨_, fun o hop => ?_, rfl⟩
  have := Lib.run_unsafeSliceData_nil (P := P) (w := w) #[t] o.type 0 0
  simp [execOp, hop, resolve, invoke, Go.builtin, hv, this]
end
end Go.AI
namespace Go.AI
def gsR (og : Option Nat) (n : Nat) : CV := match og with
  | none => .raw (.slice none 0 0)
  | some g => .osl g 1 0 n
theorem byteCells_get (s : ByteArray) (j : Nat) (h : j < s.size) : (byteCells s)[j]? = some (.int .u8 ((s.data.toList.getD j 0).toNat : Int)) := by
  have h' : j < s.data.toList.length := by rw [Array.length_toList]; exact h
  unfold byteCells
  rw [List.getElem?_map, List.getElem?_eq_getElem h', List.getD_eq_getElem?_getD, List.getElem?_eq_getElem h']
  rfl
theorem append_str_own {P : Program} {w : World} {t tx ty e bytes n c g : Nat} {z : List CV} {cs : Array Value} {s : ByteArray} (ht : tElem P t = some (e, 1, bytes)) (htx : P.underlying tx = some .string) (hz : tZero P e = some z) (hzl : z.length = 1)
    (hb : w.heap[g]? = some (.cells cs e (0, 0))) (hcs : c ≤ cs.size) (hnc : n ≤ c) (hcm : c ≤ maxLen) (h63 : n + s.size ≤ maxLen) (hby : (n + s.size) * bytes ≤ 140737488355328) :
    ∃ g' c' w' cs', (Builtin.append_ #[t, tx] ty #[.slice (some ⟨g, 0, none⟩) n c, .string s]).run P w = .ok (.slice (some ⟨g', 0, none⟩) (n + s.size) c') w' ∧ w'.heap[g']? = some (.cells cs' e (0, 0)) ∧ c' ≤ cs'.size ∧ n + s.size ≤ c' ∧ c' ≤ maxLen ∧
      (∀ j, j < n → cs'[j]? = cs[j]?) ∧ (∀ j, j < s.size → cs'[n + j]? = (byteCells s)[j]?) ∧ (g' = g ∨ g' = w.heap.size) ∧ Fr (fun b => b = g) w w' := by
  obtain ⟨hu, inf, hi, hsz, hbb⟩ := tElem_spec ht
  obtain ⟨i', zv, hi', hzv, rfl⟩ := tZero_spec hz
  rw [hi] at hi'
  injection hi' with hi'
  subst hi'
  subst hbb
  have hzs : zv.cells.size = 1 := by simpa using hzl
  have h63' : n + s.size ≤ 9223372036854775807 := by simp only [maxLen] at h63; omega
  have hnl := byteCells_length s
  have h1 : ∀ u ∈ byteCells s, u.oneCell' = true := (Go.Src.ofString (P := P) w htx s).one
  by_cases hroom : n + s.size ≤ c
  · have hfit : n + (byteCells s).length ≤ cs.size := by rw [hnl]; omega
    have hst := run_storeCells_at P g n e (byteCells s) 0 cs w hb (by simpa using hfit) h1
    simp only [Nat.add_zero] at hst
    have hf := firstCells_string (P := P) s w
    have hr : (Builtin.append_ #[t, tx] ty #[.slice (some ⟨g, 0, none⟩) n c, .string s]).run P w = .ok (.slice (some ⟨g, 0, none⟩) (n + s.size) c) (w.setRow g (cs.toList.take n ++ byteCells s ++ cs.toList.drop (n + (byteCells s).length)).toArray) := by
      simp [Builtin.append_, run_underlying hu, run_underlying htx, sizeOf, typeInfo, hi, hsz, Builtin.lenOf, hroom, hf, Addr.add_lit, hst]
    refine ⟨g, c, _, _, hr, setRow_heap w g cs _ e _ hb, ?_, hroom, hcm, fun j hj => ?_, fun j hj => ?_, .inl rfl, Fr.setRow hb ?_⟩
    · refine Nat.le_trans hcs ?_; simp only [List.size_toArray, List.length_append, List.length_take, List.length_drop, Array.length_toList]; omega
    · simp only [List.getElem?_toArray, List.append_assoc]
      rw [List.getElem?_append_left (by simp; omega), List.getElem?_take]
      simp [hj]
    · simp only [List.getElem?_toArray, List.append_assoc]
      rw [List.getElem?_append_right (by simp; omega), List.getElem?_append_left (by simp; omega)]
      simp [Nat.min_eq_left (show n ≤ cs.size by omega)]
    · simp only [List.size_toArray, List.length_append, List.length_take, List.length_drop, Array.length_toList]; omega
  · have hold : ∀ j v, (cs.toList.take n)[j]? = some v → w.drew.cell? ((⟨g, 0, none⟩ : Addr).add j) = some v := by
      intro j v hv
      rw [show w.drew.cell? ((⟨g, 0, none⟩ : Addr).add j) = w.cell? ((⟨g, 0, none⟩ : Addr).add j) from rfl, add_mk, cell_own hb, Nat.zero_add]
      rw [List.getElem?_take] at hv
      split at hv
      · simpa using hv
      · cases hv
    have hol : (cs.toList.take n).length = n := by simp; omega
    have hfc := run_firstCells_some (P := P) w.drew 1 n ⟨g, 0, none⟩ n c (cs.toList.take n) (by rw [hol, Nat.mul_one]) hold
    have hS : Go.Src P inf.size tx (.string s) s.size (byteCells s) w := by rw [hsz]; exact Go.Src.ofString w htx s
    have hr := run_append_grow_src (P := P) w t tx ty e inf zv hu hi hzv (some ⟨g, 0, none⟩) n c _ (by rw [hsz]; exact hfc) (.string s) s.size _ hS (by omega) (by omega) (growslice_fits (by omega) hby)
    have hge := grownCap_ge w (n + s.size) c e
    refine ⟨w.heap.size, _, _, _, hr, heap_alloc_new w.drew _, ?_, hge, grownCap_le_maxLen w (n + s.size) c e h63, fun j hj => ?_, fun j hj => ?_, .inr rfl, ?_⟩
    · refine Nat.le_of_eq ?_
      simp only [Array.size_append, List.size_toArray, List.length_append, size_zeroCells, hzs, hol, hnl, Nat.mul_one]
      omega
    · rw [Array.getElem?_append_left (by simp; omega)]
      simp only [List.getElem?_toArray]
      rw [List.getElem?_append_left (by rw [hol]; exact hj), List.getElem?_take]
      simp [hj]
    · rw [Array.getElem?_append_left (by simp [hnl]; omega)]
      simp only [List.getElem?_toArray]
      rw [List.getElem?_append_right (by rw [hol]; omega), hol]
      simp
    · exact (Fr.drew (fun b => b = g) w (w.drawn + 1)).trans (Fr.alloc (fun _ => False) w.drew _) (fun x hx _ => hx.elim)
theorem append_str_new {P : Program} {w : World} {t tx ty e bytes : Nat} {z : List CV} {s : ByteArray} (ht : tElem P t = some (e, 1, bytes)) (htx : P.underlying tx = some .string) (hz : tZero P e = some z) (hzl : z.length = 1) (hk : 0 < s.size) (h63 : s.size ≤ maxLen) (hby : s.size * bytes ≤ 140737488355328) :
    ∃ c' w' cs', (Builtin.append_ #[t, tx] ty #[.slice none 0 0, .string s]).run P w = .ok (.slice (some ⟨w.heap.size, 0, none⟩) s.size c') w' ∧ w'.heap[w.heap.size]? = some (.cells cs' e (0, 0)) ∧ c' ≤ cs'.size ∧ s.size ≤ c' ∧ c' ≤ maxLen ∧
      (∀ j, j < s.size → cs'[j]? = (byteCells s)[j]?) ∧ Fr (fun _ => False) w w' := by
  obtain ⟨hu, inf, hi, hsz, hbb⟩ := tElem_spec ht
  obtain ⟨i', zv, hi', hzv, rfl⟩ := tZero_spec hz
  rw [hi] at hi'
  injection hi' with hi'
  subst hi'
  subst hbb
  have hzs : zv.cells.size = 1 := by simpa using hzl
  have hnl := byteCells_length s
  have h63' : s.size ≤ 9223372036854775807 := by simp only [maxLen] at h63; omega
  have hS : Go.Src P inf.size tx (.string s) s.size (byteCells s) w := by rw [hsz]; exact Go.Src.ofString w htx s
  have hr := run_append_grow_src (P := P) w t tx ty e inf zv hu hi hzv none 0 0 [] (by rw [hsz]; exact run_firstCells_none w.drew 1 0 0 0) (.string s) s.size _ hS (by omega) (by omega) (growslice_fits (by omega) (by simpa using hby))
  rw [Nat.zero_add] at hr
  have hge := grownCap_ge w s.size 0 e
  refine ⟨_, _, _, hr, heap_alloc_new w.drew _, ?_, hge, grownCap_le_maxLen w s.size 0 e h63, fun j hj => ?_, ?_⟩
  · refine Nat.le_of_eq ?_
    simp only [Array.size_append, List.size_toArray, List.length_append, List.length_nil, size_zeroCells, hzs, hnl, Nat.mul_one]
    omega
  · rw [Array.getElem?_append_left (by simp [hnl]; omega)]
    simp
  · exact (Fr.drew (fun _ => False) w (w.drawn + 1)).trans (Fr.alloc (fun _ => False) w.drew _) (fun x hx _ => hx.elim)
theorem append_str_none {P : Program} {w : World} {t tx ty e bytes : Nat} {s : ByteArray} (ht : tElem P t = some (e, 1, bytes)) (htx : P.underlying tx = some .string) (hk : s.size = 0) :
    (Builtin.append_ #[t, tx] ty #[.slice none 0 0, .string s]).run P w = .ok (.slice none 0 0) w := by
  obtain ⟨hu, inf, hi, hsz, hbb⟩ := tElem_spec ht
  have hf := firstCells_string (P := P) s w
  rw [hk] at hf
  simp [Builtin.append_, run_underlying hu, run_underlying htx, sizeOf, typeInfo, hi, hsz, Builtin.lenOf, hk, hf]
section
variable {E : Env} {K : List It} {σ σ' : Sl} {h : Heap} {all rest : List Oper} {o : Oper}
theorem exec_appendS {P : Program} {o : Oper} {s x : Operand} {t tx : TypeId} {e : Operand → Value} {w w' : World} {v : Value} (hop : o.op = .call { callee := .builtin .append, args := #[s, x], argTypes := #[t, tx] })
    (hr : (Builtin.append_ #[t, tx] o.type #[e s, e x]).run P w = .ok v w') : (execOp e o).run P w = .ok (.value v) w' := by
  simp only [execOp, hop, resolve, invoke, Go.builtin, Sem.run_bind, Sem.run_pure, Result.andThen_ok, List.map_toArray, List.map_cons, List.map_nil, hr]
theorem aw_appendStr {t tx e bytes n : Nat} {z : List CV} {og : Option Nat} {f : Nat → CV} {pre : Heap} {s x : Operand} {bs : ByteArray} (hop : o.op = .call { callee := .builtin .append, args := #[s, x], argTypes := #[t, tx] }) (hw : wantA all σ o = some true) (hd : dstOk E.N o.dst = true)
    (ht : tElem E.P t = some (e, 1, bytes)) (htx : E.P.underlying tx = some .string) (hz : tZero E.P e = some z) (hzl : z.length = 1) (hs : ev σ s = .c (gsR og n)) (hx : ev σ x = .c (.str bs)) (hog : og = none → n = 0) (hh : h = pre ++ gh og e n f)
    (h63 : n + bs.size ≤ maxLen) (hby : (n + bs.size) * bytes ≤ 140737488355328)
    (kk : ∀ og', (og' = none → n + bs.size = 0) → (∀ g', og' = some g' → og = some g' ∨ g' ∉ h.keys) → aw E (.ops all rest :: K) (σ.setO o.dst (.c (gsR og' (n + bs.size)))) (pre ++ gh og' e (n + bs.size) (appF f n (byF bs.data.toList)))) : aw E (.ops all (o :: rest) :: K) σ h := by
  have hsz' : bs.data.toList.length = bs.size := by rw [Array.length_toList]; rfl
  cases og with
  | none =>
    have hn := hog rfl
    subst hn
    by_cases hk : bs.size = 0
    · refine aw_step (σ' := σ.setO o.dst (.c (gsR none (0 + bs.size)))) (h' := pre ++ gh none e (0 + bs.size) (appF f 0 (byF bs.data.toList))) hw (fun a w st => ?_) (kk none (fun _ => by omega) (fun g' e => by cases e))
      have r1 := ev_rep st s
      have r2 := ev_rep st x
      rw [hs] at r1
      rw [hx] at r2
      have v1 : a.eval s = .slice none 0 0 := r1
      have v2 : a.eval x = .string bs := r2
      refine ⟨.slice none 0 0, w, .inl (exec_appendS hop (by rw [v1, v2]; exact append_str_none ht htx hk)), ?_⟩
      subst hh
      exact st.put hd (r := .c (gsR none (0 + bs.size))) (v := .slice none 0 0) rfl
    · have hp : h = pre := by rw [hh]; simp [gh]
      subst hp
      refine aw_new (r := fun g => .c (gsR (some g) (0 + bs.size))) (ob := .cells e (0 + bs.size) (appF f 0 (byF bs.data.toList))) hw hd (fun a w st => ?_) fun g' hg' => ?_
      · have r1 := ev_rep st s
        have r2 := ev_rep st x
        rw [hs] at r1
        rw [hx] at r2
        have v1 : a.eval s = .slice none 0 0 := r1
        have v2 : a.eval x = .string bs := r2
        obtain ⟨c', w', cs', hrun, hb', hcs', hle', hcm', hnew, hfr⟩ := append_str_new (P := E.P) (w := w) (ty := o.type) (s := bs) ht htx hz hzl (by omega) (by omega) (by simpa using hby)
        have hlt : w.heap.size < w'.heap.size := (Array.getElem?_eq_some_iff.1 hb').1
        refine ⟨_, w', exec_appendS hop (by rw [v1, v2]; exact hrun), hfr, hlt, ⟨cs', hb', by omega, fun j hjl => ?_⟩, c', by rw [Nat.zero_add], by omega, hcm', cs', e, ⟨_, hb'⟩, by omega⟩
        have hjl' : j < bs.size := by omega
        rw [hnew j hjl', byteCells_get bs j hjl']
        refine ⟨_, rfl, ?_⟩
        unfold appF
        rw [if_neg (by omega), Nat.sub_zero]
        rfl
      · refine aw_perm (h' := h ++ [(g', .cells e (0 + bs.size) (appF f 0 (byF bs.data.toList)))]) (List.perm_append_singleton _ _).symm ?_
        exact kk (some g') (fun e => by cases e) (fun g2 e => by cases e; exact .inr hg')
  | some g =>
    refine aw_nd fun hnd => ?_
    have hnp : g ∉ pre.keys := fun hm => by
      rw [hh] at hnd
      simp only [Heap.keys, gh, List.map_append, List.map_cons, List.map_nil] at hnd
      exact (List.nodup_append.1 hnd).2.2 g hm g (by simp) rfl
    have hget : h.get g = some (.cells e n f) := by rw [hh]; exact Heap.get_app hnp
    have hdel : h.del g = pre := by rw [hh]; exact Heap.del_app hnp
    intro a w st
    have r1 := ev_rep st s
    have r2 := ev_rep st x
    rw [hs] at r1
    rw [hx] at r2
    have v2 : a.eval x = .string bs := r2
    obtain ⟨c, hv1, hnc, hcm, cs0, ty0, ⟨_, hb0⟩, hcs0⟩ := r1
    obtain ⟨cs, hb, hn, hj⟩ := st.heap g _ (Heap.get_mem hget)
    rw [hb] at hb0
    injection hb0 with hb0
    injection hb0 with hb0 _
    subst hb0
    obtain ⟨g', c', w', cs', hrun, hb', hcs', hle', hcm', hold, hnew, hat, hfr⟩ := append_str_own (P := E.P) (w := w) (ty := o.type) (s := bs) ht htx hz hzl hb (by simpa using hcs0) hnc hcm h63 hby
    obtain ⟨st', hnot⟩ := st.replace (ob' := .cells e (n + bs.size) (appF f n (byF bs.data.toList))) hget hfr hat (fun kp => ⟨cs', hb', by omega, fun j hjl => by
      unfold appF
      by_cases hjn : j < n
      · rw [if_pos hjn, hold j hjn]
        obtain ⟨u, hu, hr⟩ := hj j (by omega)
        exact ⟨u, hu, hr.keep kp⟩
      · rw [if_neg hjn]
        have hjk : j - n < bs.size := by omega
        have := hnew (j - n) hjk
        rw [show n + (j - n) = j from by omega] at this
        rw [this, byteCells_get bs _ hjk]
        exact ⟨_, rfl, rfl⟩⟩)
    rw [hdel] at st' hnot
    have st2 := st'.put hd (r := .c (gsR (some g') (n + bs.size))) (v := .slice (some ⟨g', 0, none⟩) (n + bs.size) c') ⟨c', rfl, hle', hcm', cs', e, ⟨_, hb'⟩, by omega⟩
    have hk' := aw_perm (E := E) (List.perm_append_singleton _ _).symm (kk (some g') (fun e => by cases e) (fun g2 e => by
      cases e
      rcases hat with rfl | rfl
      · exact .inl rfl
      · exact .inr fun hm => Nat.lt_irrefl _ (st.klt hm))) _ _ st2
    show wpList _ _ _ _ _ _
    unfold wpList
    rw [if_pos (st.wanted hw)]
    refine .inl ?_
    unfold Oper.wp
    rw [exec_appendS hop (by rw [hv1, v2]; exact hrun)]
    exact hk'
end
end Go.AI
