/- Blocks of one proof, laid one behind the other by a program (merge2.py). -/
import Derived.Test.YtcoflhkcpnoaaaaGreatQ01
set_option linter.unusedSimpArgs false
set_option linter.unusedVariables false
namespace Go.Proofs.YtcoflhkcpnoaaaaGreat
open Go.AI Go.PN
attribute [local irreducible] aw Fa Fh DrK
theorem setB_lt {m s i : Nat} {b : Bool} (hs : s < 2 ^ m) (hi : i < m) : setB s i b < 2 ^ m := Nat.lt_pow_two_of_testBit _ fun j hj => by
  rw [setB_bit, if_neg (by omega)]
  exact Nat.testBit_lt_two_pow (Nat.lt_of_lt_of_le hs (Nat.pow_le_pow_right (by omega) hj))
end Go.Proofs.YtcoflhkcpnoaaaaGreat
namespace Go.PN
open Go.AI
theorem sort_self {xs : List Nat} (h : Srt xs) : sortN xs = xs := srt_ext (sort_srt xs) h fun _ => sort_mem
end Go.PN
namespace Go.PN
open Go.AI Go.Proofs.YtcoflhkcpnoaaaaGreat
theorem andNot_is (u m z : Nat) (hu : u < 9223372036854775808) (hz : ∀ i, z.testBit i = (u.testBit i && !m.testBit i)) : andNotZ .i64 (u : Int) (m : Int) = (z : Int) := by
  rw [andNotZ_eq]
  show IntKind.i64.wrap (((BitVec.ofInt 64 (u : Int) &&& ~~~BitVec.ofInt 64 (m : Int)).toNat : Nat) : Int) = _
  have e : ∀ i, (BitVec.ofInt 64 (u : Int) &&& ~~~BitVec.ofInt 64 (m : Int)).toNat.testBit i = (u.testBit i && !m.testBit i) := fun i => by
    rw [BitVec.testBit_toNat, BitVec.getLsbD_and, BitVec.getLsbD_not, BitVec.ofInt_natCast, BitVec.ofInt_natCast, BitVec.getLsbD_ofNat, BitVec.getLsbD_ofNat]
    by_cases h : i < 64
    · rw [decide_eq_true h]; simp
    · have : u.testBit i = false := Nat.testBit_lt_two_pow (Nat.lt_of_lt_of_le hu (by
        have : 2 ^ 63 ≤ 2 ^ i := Nat.pow_le_pow_right (by omega) (by omega)
        exact this))
      rw [this]; simp [h]
  have ez : (BitVec.ofInt 64 (u : Int) &&& ~~~BitVec.ofInt 64 (m : Int)).toNat = z := Nat.eq_of_testBit_eq fun i => by rw [e, hz]
  rw [ez]
  have hlt : z < 2 ^ 63 := Nat.lt_pow_two_of_testBit _ fun i hi => by
    rw [hz, Nat.testBit_lt_two_pow (Nat.lt_of_lt_of_le hu (Nat.pow_le_pow_right (by omega) hi : 2 ^ 63 ≤ 2 ^ i))]; rfl
  rw [IntKind.wrap_i64]; omega
theorem bit_ne (x n : Nat) : (((x / 2 ^ n % 2 : Nat) : Int) == 0) = !x.testBit n := by
  rw [Nat.testBit_eq_decide_div_mod_eq, Bool.eq_iff_iff]
  simp only [beq_iff_eq, Bool.not_eq_true', decide_eq_false_iff_not]
  omega
theorem off_bit {x k : Nat} : ∀ i, (setB x k false).testBit i = (x.testBit i && !(2 ^ k).testBit i) := fun i => by
  rw [setB_bit, Nat.testBit_two_pow]
  by_cases h : i = k
  · subst h; simp
  · rw [if_neg h, decide_eq_false (fun e => h e.symm)]; simp
theorem min_off {f : Nat → Bool} {x k : Nat} (hm : MinT f x) (hb : x.testBit k = true) : f (setB x k false) = false := by
  cases hf : f (setB x k false) with
  | false => rfl
  | true =>
    have := hm.2 (setB x k false) (fun j hj => by
      rw [off_bit, Bool.and_eq_true] at hj; exact hj.1) hf
    have h2 := congrArg (fun y => y.testBit k) this
    simp only [setB_bit, if_true, hb] at h2
    cases h2
end Go.PN
namespace Go.Proofs.YtcoflhkcpnoaaaaGreat
open Go.AI Go.PN
attribute [local irreducible] aw Fa Fh DrK
set_option maxRecDepth 100000 in
set_option maxHeartbeats 6400000 in
theorem lawCMinimal_fa (f : FM) (o : List Int) (hn : f.nodes.length ≤ 1099511627776) (ha : ArgsOk f) (ht0 : -9223372036854775808 ≤ f.top) (ht : f.top ≤ 9223372036854775807) (hol : o.length ≤ 1099511627776) :
    Fa Tryz.prog 8 [.agg (fmc false f), .c (is false o)] (.c (.bool true)) := by
  refine fa_of_body Tryz.func8 rfl rfl (by simp [Tryz.ntmps8]) fun C hC => ?_
  simp only [initS, Nat.reduceAdd]
  refine xG ?_
  refine xB fun g2 hn_g2=>?_
  refine yG hn_g2 ?_
  refine yC hn_g2 (awake33_fa) ?_
  refine yG hn_g2 ?_
  refine yC hn_g2 (valid33_fa f o hn ha ht0 ht hol) ?_
  cases hv : valid33 f o
  · refine yS hn_g2 ?_
    refine yG hn_g2 ?_
    refine yP hn_g2 ?_
    refine yG hn_g2 ?_
    refine yC hn_g2 (awake33_fa) ?_
    refine yG hn_g2 ?_
    refine yT hC hn_g2 ?_
    exact .one (.c (.bool _))
  obtain ⟨h100, hk, h10⟩ := valid_of hv
  have ok := fr_ok hk.c
  have v0 := ok.v0
  have n128 := ok.n128
  have e0 := shl_one f.vars.toNat (by omega)
  rw [show ((f.vars.toNat : Nat) : Int) = f.vars from by omega] at e0
  refine yS hn_g2 ?_
  refine yG hn_g2 ?_
  refine yN hn_g2 ?_
  refine yG hn_g2 ?_
  refine aw_callh (hc := []) (hr := [(g2, .cells 50 3 (ofL (fmc false f)))]) (Cuts_fh f o hk h10 hn ha) rfl rfl rfl (.refl _) (zL hn_g2) ?_
  rintro _ _ ⟨rfl, l, hcl, hll, hlt, rfl⟩ _
  have hlt24 : ∀ x ∈ l, x < 16777216 := fun x hx => lt24 (by omega) (hlt x hx)
  have hsr := sortR_fa l (by omega) hlt24
  rw [sort_self hcl.1] at hsr
  have hin := ints_fa (zL l) (zL l) (by rw [zL_len]; omega)
  rw [decide_eq_true rfl] at hin
  have hzl := zL_len l
  refine yS (oj hn_g2 (oj e0 hzl)) ?_
  refine yG (oj hn_g2 (oj e0 hzl)) ?_
  refine yC (oj hn_g2 (oj e0 hzl)) (hsr) ?_
  refine yG (oj hn_g2 (oj e0 hzl)) ?_
  refine yC (oj hn_g2 (oj e0 hzl)) (hin) ?_
  refine yG (oj hn_g2 (oj e0 hzl)) ?_
  refine yN (oj hn_g2 (oj e0 hzl)) ?_
  refine yG (oj hn_g2 (oj e0 hzl)) ?_
  refine aw_lp (fun i : Nat => [(2, .c (.optr g2 0)), (5, .c (is true (zL l))), (7, .c (.int .i64 i))]) (fun _ => [(g2, .cells 50 3 (ofL (fmc false f)))]) (fun i => i ≤ l.length) (fun i => l.length - i) 0 (zB (oj hn_g2 (oj e0 hzl))) zZ (Nat.zero_le _) ?_
  rintro i hi
  refine yG (oj hn_g2 (oj e0 hzl)) ?_
  refine yF (oj hn_g2 (oj e0 hzl)) (fun h1=>?_) fun h1=>?_
  · have hii : i < l.length := by have := of_decide_eq_true h1; omega
    have hx : l.getD i 0 ∈ l := by rw [List.getD_eq_getElem?_getD, List.getElem?_eq_getElem hii]; exact List.getElem_mem _
    have e1 := zL_get l i
    have hxl := hlt _ hx
    have hmx := (hcl.2 _).1 hx
    generalize hx0 : l.getD i 0 = x at *
    have e2 : decide ((x : Int) < 0) = false := decide_eq_false (by omega)
    have e3 : decide ((x : Int) ≥ ((2 ^ f.vars.toNat : Nat) : Int)) = false := decide_eq_false (by omega)
    have hV := fval_fa f x hn ha hk.c hxl
    rw [show valF f x f.top = true from hmx.1] at hV
    refine yG (oj hn_g2 (oj e0 (oj hzl (oj e1 (oj e2 e3))))) ?_
    refine aw_dr 15 ty_mixed (by kernel_rfl) ?_
    refine yG (oj hn_g2 (oj e0 (oj hzl (oj e1 (oj e2 e3))))) ?_
    refine yN (oj hn_g2 (oj e0 (oj hzl (oj e1 (oj e2 e3))))) ?_
    refine yG (oj hn_g2 (oj e0 (oj hzl (oj e1 (oj e2 e3))))) ?_
    refine aw_dr 11 ty_mixed (by kernel_rfl) ?_
    refine yG (oj hn_g2 (oj e0 (oj hzl (oj e1 (oj e2 e3))))) ?_
    refine yD (oj hn_g2 (oj e0 (oj hzl (oj e1 (oj e2 e3))))) (hV) ?_
    refine yG (oj hn_g2 (oj e0 (oj hzl (oj e1 (oj e2 e3))))) ?_
    refine yN (oj hn_g2 (oj e0 (oj hzl (oj e1 (oj e2 e3))))) ?_
    refine yG (oj hn_g2 (oj e0 (oj hzl (oj e1 (oj e2 e3))))) ?_
    refine aw_lp (fun k : Nat => [(2, .c (.optr g2 0)), (5, .c (is true (zL l))), (7, .c (.int .i64 i)), (10, .c (.int .i64 k))]) (fun _ => [(g2, .cells 50 3 (ofL (fmc false f)))]) (fun k => k ≤ f.vars.toNat) (fun k => f.vars.toNat - k) 0 (zB (oj hn_g2 (oj e0 (oj hzl (oj e1 (oj e2 e3)))))) zZ (Nat.zero_le _) ?_
    rintro k hkk
    refine yG (oj hn_g2 (oj e0 (oj hzl (oj e1 (oj e2 e3))))) ?_
    refine yF (oj hn_g2 (oj e0 (oj hzl (oj e1 (oj e2 e3))))) (fun h2=>?_) fun h2=>?_
    · have hkn : k < f.vars.toNat := by have := of_decide_eq_true h2; omega
      have b1 := shrZ_nat x k (by omega)
      have b2 := and_one_nat (x / 2 ^ k) (Nat.lt_of_le_of_lt (Nat.div_le_self _ _) (by have := hlt24 x hx; omega))
      have b3 := bit_ne x k
      refine yG (oj hn_g2 (oj e0 (oj hzl (oj e1 (oj e2 (oj e3 (oj b1 (oj b2 b3)))))))) ?_
      cases hb : x.testBit k
      · refine yS (oj hn_g2 (oj e0 (oj hzl (oj e1 (oj e2 (oj e3 (oj b1 (oj b2 b3)))))))) ?_
        refine yG (oj hn_g2 (oj e0 (oj hzl (oj e1 (oj e2 (oj e3 (oj b1 (oj b2 b3)))))))) ?_
        refine yP (oj hn_g2 (oj e0 (oj hzl (oj e1 (oj e2 (oj e3 (oj b1 (oj b2 b3)))))))) ?_
        refine yG (oj hn_g2 (oj e0 (oj hzl (oj e1 (oj e2 (oj e3 (oj b1 (oj b2 b3)))))))) ?_
        exact aw_stop ⟨k + 1, by omega, (zB (oj hn_g2 (oj e0 (oj hzl (oj e1 (oj e2 (oj e3 (oj b1 (oj b2 b3))))))))), zZ, by omega⟩
      · have c1 := shl_one k (by omega)
        have c2 := andNot_is x (2 ^ k) (setB x k false) (by have := hlt24 x hx; omega) off_bit
        have hW := fval_fa f (setB x k false) hn ha hk.c (setB_lt hxl hkn)
        rw [show valF f (setB x k false) f.top = false from min_off hmx hb] at hW
        refine yS (oj hn_g2 (oj e0 (oj hzl (oj e1 (oj e2 (oj e3 (oj b1 (oj b2 (oj b3 (oj c1 c2)))))))))) ?_
        refine yG (oj hn_g2 (oj e0 (oj hzl (oj e1 (oj e2 (oj e3 (oj b1 (oj b2 (oj b3 (oj c1 c2)))))))))) ?_
        refine yN (oj hn_g2 (oj e0 (oj hzl (oj e1 (oj e2 (oj e3 (oj b1 (oj b2 (oj b3 (oj c1 c2)))))))))) ?_
        refine yG (oj hn_g2 (oj e0 (oj hzl (oj e1 (oj e2 (oj e3 (oj b1 (oj b2 (oj b3 (oj c1 c2)))))))))) ?_
        refine aw_dr 14 ty_mixed (by kernel_rfl) ?_
        refine yG (oj hn_g2 (oj e0 (oj hzl (oj e1 (oj e2 (oj e3 (oj b1 (oj b2 (oj b3 (oj c1 c2)))))))))) ?_
        refine yD (oj hn_g2 (oj e0 (oj hzl (oj e1 (oj e2 (oj e3 (oj b1 (oj b2 (oj b3 (oj c1 c2)))))))))) (hW) ?_
        refine yG (oj hn_g2 (oj e0 (oj hzl (oj e1 (oj e2 (oj e3 (oj b1 (oj b2 (oj b3 (oj c1 c2)))))))))) ?_
        refine yN (oj hn_g2 (oj e0 (oj hzl (oj e1 (oj e2 (oj e3 (oj b1 (oj b2 (oj b3 (oj c1 c2)))))))))) ?_
        refine yG (oj hn_g2 (oj e0 (oj hzl (oj e1 (oj e2 (oj e3 (oj b1 (oj b2 (oj b3 (oj c1 c2)))))))))) ?_
        exact aw_stop ⟨k + 1, by omega, (zB (oj hn_g2 (oj e0 (oj hzl (oj e1 (oj e2 (oj e3 (oj b1 (oj b2 (oj b3 (oj c1 c2))))))))))), zZ, by omega⟩
    · have hkn : k = f.vars.toNat := by have := of_decide_eq_false h2; omega
      subst hkn
      refine yG (oj hn_g2 (oj e0 (oj hzl (oj e1 (oj e2 e3))))) ?_
      exact aw_stop ⟨i + 1, by omega, (zB (oj hn_g2 (oj e0 (oj hzl (oj e1 (oj e2 e3)))))), zZ, by omega⟩
  · have hii : i = l.length := by have := of_decide_eq_false h1; omega
    subst hii
    refine yG (oj hn_g2 (oj e0 hzl)) ?_
    refine yT hC (oj hn_g2 (oj e0 hzl)) ?_
    exact .one (.c (.bool _))
end Go.Proofs.YtcoflhkcpnoaaaaGreat
