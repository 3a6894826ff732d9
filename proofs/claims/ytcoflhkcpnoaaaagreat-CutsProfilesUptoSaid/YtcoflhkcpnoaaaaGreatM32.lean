/- Blocks of one proof, laid one behind the other by a program (merge2.py). -/
import Derived.Test.YtcoflhkcpnoaaaaGreatM26
set_option linter.unusedSimpArgs false
set_option linter.unusedVariables false
namespace Go.Proofs.YtcoflhkcpnoaaaaGreat
open Go.AI Go.PN
attribute [local irreducible] aw Fa Fh DrK
theorem place_none {l : List Int} {n : Int} (h : ∀ j, j < l.length → l.getD j 0 ≠ n) : placeZ l n = -1 := by
  unfold placeZ
  rw [if_neg]
  intro hm
  obtain ⟨k, hk, e⟩ := List.mem_iff_getElem.1 hm
  exact h k hk (by rw [getDZ hk, e])
set_option maxHeartbeats 400000 in
theorem place_fa (l : List Int) (n : Int) (hl : l.length ≤ 1099511627776) : Fa Tryz.prog 72 [.c (is false l), .c (.int .i64 n)] (.c (.int .i64 (placeZ l n))) := by
  refine fa_of_body Tryz.func72 rfl rfl (by simp [Tryz.ntmps72]) fun C hC => ?_
  simp only [initS, Nat.reduceAdd]
  refine xG ?_
  refine aw_lp (fun i : Nat => [(0, .c (is false l)), (1, .c (.int .i64 n)), (5, .c (.int .i64 i))]) (fun _ => []) (fun i => i ≤ l.length ∧ ∀ j, j < i → l.getD j 0 ≠ n) (fun i => l.length - i) 0 eB zZ ⟨Nat.zero_le _, fun j hj => by omega⟩ ?_
  rintro i ⟨hi, hs⟩
  refine xG ?_
  refine xF (fun hb=>?_) fun hb=>?_
  · have hin : i < l.length := by have := of_decide_eq_true hb; omega
    refine xG ?_
    refine xF (fun hc=>?_) fun hc=>?_
    · refine xG ?_
      refine xT hC ?_
      exact .one (.c (ler_int (place_at hin (eq_of_beq hc) hs).symm))
    · have hne : l.getD i 0 ≠ n := fun e => by rw [e] at hc; simp at hc
      refine xG ?_
      refine aw_stop ⟨i + 1, by omega, eB, zZ, by omega, fun j hj => ?_⟩
      by_cases hji : j = i
      · rw [hji]; exact hne
      · exact hs j (by omega)
  · have hin : i = l.length := by have := of_decide_eq_false hb; omega
    subst hin
    refine xG ?_
    refine xT hC ?_
    exact .one (.c (ler_int (place_none hs).symm))
end Go.Proofs.YtcoflhkcpnoaaaaGreat
