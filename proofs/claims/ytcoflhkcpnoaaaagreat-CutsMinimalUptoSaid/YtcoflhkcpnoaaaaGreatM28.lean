/- Blocks of one proof, laid one behind the other by a program (merge2.py). -/
import Derived.Test.YtcoflhkcpnoaaaaGreatM22
set_option linter.unusedSimpArgs false
set_option linter.unusedVariables false
namespace Go.Proofs.YtcoflhkcpnoaaaaGreat
open Go.AI Go.PN
attribute [local irreducible] aw Fa Fh DrK
set_option maxHeartbeats 400000 in
theorem num_fa (c : Int) : Fa Tryz.prog 23 [.c (errA c)] (.c (.int .i64 c)) := by
  by_cases h : c = 0
  · have e : errA c = .nilI := by unfold errA errC; rw [if_pos h]
    rw [e]
    refine fa_of_body Tryz.func23 rfl rfl (by simp [Tryz.ntmps23]) fun C hC => ?_
    simp only [initS, Nat.reduceAdd]
    refine xG ?_
    refine xP ?_
    refine xG ?_
    refine xT hC ?_
    exact .one (.c (ler_int h.symm))
  · have e : errA c = .ifc 63 (.int .i64 c) := by unfold errA errC; rw [if_neg h]
    rw [e]
    refine fa_of_body Tryz.func23 rfl rfl (by simp [Tryz.ntmps23]) fun C hC => ?_
    simp only [initS, Nat.reduceAdd]
    refine xG ?_
    refine xN ?_
    refine xG ?_
    refine xP ?_
    refine xG ?_
    refine xT hC ?_
    exact .one (.c (.int _ _))
end Go.Proofs.YtcoflhkcpnoaaaaGreat
namespace Go.PN
open Go.AI
theorem andNot_subT (u m : Nat) (hu : u < 9223372036854775808) (hm : m < 9223372036854775808) : (andNotZ .i64 (u : Int) (m : Int) == 0) = subT u m := by
  unfold subT
  rw [andNotZ_eq]
  show (IntKind.i64.wrap (((BitVec.ofInt 64 (u : Int) &&& ~~~BitVec.ofInt 64 (m : Int)).toNat : Nat) : Int) == 0) = _
  have e : ∀ i, (BitVec.ofInt 64 (u : Int) &&& ~~~BitVec.ofInt 64 (m : Int)).toNat.testBit i = (u.testBit i && !m.testBit i) := fun i => by
    rw [BitVec.testBit_toNat, BitVec.getLsbD_and, BitVec.getLsbD_not, BitVec.ofInt_natCast, BitVec.ofInt_natCast, BitVec.getLsbD_ofNat, BitVec.getLsbD_ofNat]
    by_cases h : i < 64
    · rw [decide_eq_true h]; simp
    · have : u.testBit i = false := Nat.testBit_lt_two_pow (Nat.lt_of_lt_of_le hu (by
        have : 2 ^ 63 ≤ 2 ^ i := Nat.pow_le_pow_right (by omega) (by omega)
        exact this))
      rw [this]; simp [h]
  have hlt : (BitVec.ofInt 64 (u : Int) &&& ~~~BitVec.ofInt 64 (m : Int)).toNat < 2 ^ 63 := Nat.lt_pow_two_of_testBit _ fun i hi => by
    rw [e, Nat.testBit_lt_two_pow (Nat.lt_of_lt_of_le hu (Nat.pow_le_pow_right (by omega) hi : 2 ^ 63 ≤ 2 ^ i))]; rfl
  generalize (BitVec.ofInt 64 (u : Int) &&& ~~~BitVec.ofInt 64 (m : Int)).toNat = z at *
  rw [show IntKind.i64.wrap (z : Int) = (z : Int) from by rw [IntKind.wrap_i64]; omega]
  by_cases h : u &&& m = u
  · have hz : z = 0 := Nat.eq_of_testBit_eq fun i => by
      rw [e, Nat.zero_testBit]
      have := congrArg (fun x => x.testBit i) h
      simp only [Nat.testBit_and] at this
      cases a : u.testBit i
      · rfl
      · rw [a] at this; simp at this; rw [this]; rfl
    rw [decide_eq_true h, hz]; rfl
  · rw [decide_eq_false h]
    have hz : z ≠ 0 := fun hz => h (Nat.eq_of_testBit_eq fun i => by
      have := e i
      rw [hz, Nat.zero_testBit] at this
      rw [Nat.testBit_and]
      cases a : u.testBit i
      · rfl
      · rw [a] at this; simpa using this.symm)
    simpa using hz
theorem ltake {l : List Nat} {k : Nat} (hk : k < l.length) : l.take (k + 1) = l.take k ++ [l.getD k 0] := by
  rw [List.take_succ_eq_append_getElem hk, List.getD_eq_getElem?_getD, List.getElem?_eq_getElem hk]; rfl
end Go.PN

