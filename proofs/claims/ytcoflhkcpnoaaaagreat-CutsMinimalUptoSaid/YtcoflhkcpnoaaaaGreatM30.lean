/- Blocks of one proof, laid one behind the other by a program (merge2.py). -/
import Derived.Test.YtcoflhkcpnoaaaaGreatM25
import Derived.Test.YtcoflhkcpnoaaaaGreatM26
set_option linter.unusedSimpArgs false
set_option linter.unusedVariables false
namespace Go.PN
open Go.AI
theorem pop_zero : popN 0 = 0 := rfl
end Go.PN
namespace Go.PN
open Go.AI
theorem shr1 (x : Nat) : shrZ .i64 (x : Int) 1 = ((x / 2 : Nat) : Int) := by
  have := shrZ_nat x 1 (by omega)
  simpa using this
end Go.PN
namespace Go.Proofs.YtcoflhkcpnoaaaaGreat
open Go.AI Go.PN
attribute [local irreducible] aw Fa Fh DrK
set_option maxHeartbeats 800000 in
theorem bitsR_fa (x : Nat) (hx : x < 16777216) : Fa Tryz.prog 37 [.c (.int .i64 x)] (.c (.int .i64 (popN x))) := by
  refine fa_of_body Tryz.func37 rfl rfl (by simp [Tryz.ntmps37]) fun C hC => ?_
  simp only [initS, Nat.reduceAdd]
  refine xG ?_
  refine aw_lp (fun p : Nat × Nat => [(0, .c (.int .i64 p.1)), (3, .c (.int .i64 p.2))]) (fun _ => []) (fun p => p.1 ≤ x ∧ p.2 + p.1 ≤ x ∧ p.2 + popN p.1 = popN x) (fun p => p.1) (x, 0) eB zZ ⟨Nat.le_refl _, by simp, by simp⟩ ?_
  rintro ⟨y, c⟩ ⟨h1, h2, h3⟩
  dsimp only at h1 h2 h3 ⊢
  have e1 := and_one_nat y (by omega)
  have e2 := shr1 y
  refine yG (oj e1 e2) ?_
  refine yF (oj e1 e2) (fun hb=>?_) fun hb=>?_
  · have hb' := of_decide_eq_true hb
    refine yG (oj e1 e2) ?_
    have hp := pop_half y
    refine aw_stop ⟨(y / 2, c + y % 2), by dsimp only; omega, (zB (oj e1 e2)), zZ, by dsimp only; omega, by dsimp only; omega, by dsimp only; omega⟩
  · have hb' := of_decide_eq_false hb
    have : y = 0 := by omega
    subst this
    refine yG (oj e1 e2) ?_
    refine yT hC (oj e1 e2) ?_
    rw [pop_zero] at h3
    exact .one (.c (ler_int (by omega)))
end Go.Proofs.YtcoflhkcpnoaaaaGreat
namespace Go.Proofs.YtcoflhkcpnoaaaaGreat
open Go.AI Go.PN
attribute [local irreducible] aw Fa Fh DrK
theorem lt24 {n x : Nat} (hn : n ≤ 24) (h : x < 2 ^ n) : x < 16777216 := Nat.lt_of_lt_of_le h (Nat.pow_le_pow_right (n := 2) (by omega) hn)
end Go.Proofs.YtcoflhkcpnoaaaaGreat
