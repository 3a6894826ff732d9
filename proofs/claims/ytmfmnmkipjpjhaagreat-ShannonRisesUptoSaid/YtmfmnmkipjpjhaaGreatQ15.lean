/- Texts of one proof, laid one behind the other by a program (merge.py): PCub, Cub, Shan1, PSum, Shan2, POrd. -/
import Derived.Test.YtmfmnmkipjpjhaaGreatQ14
import Derived.Test.YtmfmnmkipjpjhaaGreatQ02
set_option linter.unusedSimpArgs false
set_option linter.unusedVariables false
/- Masks, cubes, weights. No program in sight. -/
namespace Go.PN
open Go.AI
/-- Is it a mask? -/
def maskB (n : Int) : Bool := decide (n ≥ 0) && decide (n < 16777216)
/-- The number of the error of a cube. -/
noncomputable def ccode (y n : Int) : Int := if !maskB y || !maskB n then 3 else if andZ .i64 y n ≠ 0 then 6 else 0
theorem andZ_nat (x y : Nat) (hx : x < 9223372036854775808) (hy : y < 9223372036854775808) : andZ .i64 (x : Int) (y : Int) = ((x &&& y : Nat) : Int) := by
  rw [andZ_eq]
  show IntKind.i64.wrap (((BitVec.ofInt 64 (x : Int) &&& BitVec.ofInt 64 (y : Int)).toNat : Nat) : Int) = _
  have : (BitVec.ofInt 64 (x : Int) &&& BitVec.ofInt 64 (y : Int)).toNat = x &&& y := by
    rw [BitVec.toNat_and]
    have e1 : ∀ z : Nat, z < 9223372036854775808 → (BitVec.ofInt 64 (z : Int)).toNat = z := fun z hz => by rw [BitVec.ofInt_natCast, BitVec.toNat_ofNat]; omega
    rw [e1 x hx, e1 y hy]
  have hlt : x &&& y < 9223372036854775808 := Nat.lt_of_le_of_lt Nat.and_le_left hx
  rw [this, IntKind.wrap_i64]; omega
theorem orZ_nat (x y : Nat) (hx : x < 9223372036854775808) (hy : y < 9223372036854775808) : orZ .i64 (x : Int) (y : Int) = ((x ||| y : Nat) : Int) := by
  rw [orZ_eq]
  show IntKind.i64.wrap (((BitVec.ofInt 64 (x : Int) ||| BitVec.ofInt 64 (y : Int)).toNat : Nat) : Int) = _
  have : (BitVec.ofInt 64 (x : Int) ||| BitVec.ofInt 64 (y : Int)).toNat = x ||| y := by
    rw [BitVec.toNat_or]
    have e1 : ∀ z : Nat, z < 9223372036854775808 → (BitVec.ofInt 64 (z : Int)).toNat = z := fun z hz => by rw [BitVec.ofInt_natCast, BitVec.toNat_ofNat]; omega
    rw [e1 x hx, e1 y hy]
  have hlt : x ||| y < 2 ^ 63 := Nat.or_lt_two_pow hx hy
  rw [this, IntKind.wrap_i64]; omega
theorem and_one_nat (x : Nat) (hx : x < 9223372036854775808) : andZ .i64 (x : Int) 1 = ((x % 2 : Nat) : Int) := by
  have := andZ_nat x 1 hx (by omega)
  rw [Nat.and_one_is_mod] at this
  exact this
theorem shrZ_nat (x n : Nat) (hn : n ≤ 64) : shrZ .i64 (x : Int) (n : Int) = ((x / 2 ^ n : Nat) : Int) := by
  rw [shrZ_eq]
  have h1 : min (n : Int).toNat IntKind.i64.bits = n := by show min (n : Int).toNat 64 = n; omega
  rw [h1, Int.fdiv_eq_ediv_of_nonneg _ (by exact Int.le_of_lt (Int.pow_pos (by omega)))]
  rw [Int.natCast_ediv, Int.natCast_pow]; rfl
theorem shl_one (n : Nat) (hn : n < 63) : shlZ .i64 1 (n : Int) = ((2 ^ n : Nat) : Int) := by
  rw [shlZ_eq]
  have h1 : min (n : Int).toNat IntKind.i64.bits = n := by show min (n : Int).toNat 64 = n; omega
  have h2 : 2 ^ n < 9223372036854775808 := by
    have h3 : 2 ^ n < 2 ^ 63 := Nat.pow_lt_pow_right (by omega) hn
    have h4 : (2 : Nat) ^ 63 = 9223372036854775808 := by decide
    rw [h4] at h3; exact h3
  rw [h1, Int.one_mul, wrap_inRange (k := .i64)]
  · rw [Int.natCast_pow]; rfl
  · simp only [inRange]
    have : ((2 : Int) ^ n) = ((2 ^ n : Nat) : Int) := by rw [Int.natCast_pow]; rfl
    rw [this]
    generalize 2 ^ n = z at h2
    omega
/-- One bit of a number, as the program asks for it. -/
theorem bit_eq (x n : Nat) : (((x / 2 ^ n % 2 : Nat) : Int) == 1) = x.testBit n := by
  rw [Nat.testBit_eq_decide_div_mod_eq, Bool.eq_iff_iff]
  simp only [beq_iff_eq, decide_eq_true_eq]
  omega
theorem and_pow_zero (x n : Nat) : x &&& 2 ^ n = 0 ↔ x.testBit n = false := by
  constructor
  · intro h
    have h1 : (x &&& 2 ^ n).testBit n = false := by rw [h]; simp
    rw [Nat.testBit_and, Nat.testBit_two_pow_self, Bool.and_true] at h1
    exact h1
  · intro h
    apply Nat.eq_of_testBit_eq
    intro j
    rw [Nat.testBit_and, Nat.zero_testBit, Nat.testBit_two_pow]
    by_cases e : n = j
    · subst e; simp [h]
    · simp [e]
theorem bit_and (x n : Nat) : (((x &&& 2 ^ n : Nat) : Int) != 0) = x.testBit n := by
  have h := and_pow_zero x n
  rw [Bool.eq_iff_iff]
  simp only [bne_iff_ne, ne_eq]
  constructor
  · intro h1
    cases hb : x.testBit n with
    | true => rfl
    | false => exact absurd (by have := h.2 hb; omega) h1
  · intro h1 h2
    have := h.1 (by omega)
    rw [h1] at this; cases this
/-- A factor of a weight. -/
def wfac (y n i : Nat) (q : Rat) : Rat := (if y.testBit i then q else 1) * (if n.testBit i then 1 - q else 1)
def wtTo (y n : Nat) (ps : List RD) : Nat → Rat
  | 0 => 1
  | k + 1 => wtTo y n ps k * wfac y n k (ps.getD k rd0).q
theorem fits_one : fits (1 : Rat) 1 := ⟨by simp, by simp⟩
theorem getD_wf {ps : List RD} {L : Nat} (h : ∀ r ∈ ps, r.wf L) (i : Nat) : (ps.getD i rd0).wf L := by
  rw [List.getD_eq_getElem?_getD]
  cases hi : ps[i]? with
  | none => simp only [Option.getD_none, rd0]; exact ⟨by simp, by simp, by simp, by simp⟩
  | some r => exact h r (List.mem_of_getElem? hi)
theorem fits_wt {y n : Nat} {ps : List RD} {L : Nat} (hL : 1 ≤ L) (h : ∀ r ∈ ps, r.wf L) : ∀ k, fits (wtTo y n ps k) ((2 * L + 2) * k + 1)
  | 0 => by rw [Nat.mul_zero, Nat.zero_add]; exact fits_one
  | k + 1 => by
    have h1 := fits_wt (y := y) (n := n) hL h k
    have h2 := RD.fits (getD_wf h k) hL
    have h3 := fits_sub fits_one h2
    have h4 : fits (wfac y n k (ps.getD k rd0).q) (2 * L + 2) := by
      unfold wfac
      refine fits_mono (fits_mul (L := L) (M := 1 + L + 1) ?_ ?_) (by omega)
      · split
        · exact h2
        · exact fits_mono fits_one hL
      · split
        · exact h3
        · exact fits_mono fits_one (by omega)
    refine fits_mono (fits_mul h1 h4) ?_
    rw [Nat.mul_add]; omega
end Go.PN
namespace Go.AI
theorem updF_ofL {xs bs : List CV} (h : xs.length = bs.length) : updF (ofL xs) 0 bs = ofL bs := by
  funext j
  by_cases hj : j < bs.length
  · have := updF_in bs (ofL xs) 0 j hj
    rw [Nat.zero_add] at this
    exact this
  · rw [updF_out _ _ _ _ (by omega), ofL_at, ofL_at, List.getElem?_eq_none (by omega), List.getElem?_eq_none (by omega)]
@[go_sem ↓] theorem updF_1 (a b : CV) : updF (ofL [a]) 0 [b] = ofL [b] := updF_ofL rfl
@[go_sem ↓] theorem updF_2 (a b c d : CV) : updF (ofL [a, b]) 0 [c, d] = ofL [c, d] := updF_ofL rfl
@[go_sem ↓] theorem updF_3 (a b c x y z : CV) : updF (ofL [a, b, c]) 0 [x, y, z] = ofL [x, y, z] := updF_ofL rfl
end Go.AI

/- cube: mask, Check, Weight; faultlineref12: Mask, Check, Weight. -/
namespace Go.Proofs.YtmfmnmkipjpjhaaGreat
open Go.AI Go.PN
attribute [local irreducible] aw Fa Fh DrK
set_option maxHeartbeats 400000 in
theorem mask_fa (n : Int) : Fa Tryz.prog 80 [.c (.int .i64 n)] (.c (.bool (maskB n))) := by
  unfold maskB
  refine fa_of_body Tryz.func80 rfl rfl (by simp [Tryz.ntmps80]) fun C hC => ?_
  simp only [initS, Nat.reduceAdd]
  refine xG ?_
  refine aw_split 5 eE (fun hb => ?_) (fun hb => ?_) <;> refine xS ?_
  · refine xG ?_
    refine xT hC ?_
    exact .one (.c (ler_bool (by rw [hb]; rfl)))
  · refine xG ?_
    refine xT hC ?_
    exact .one (.c (ler_bool (by rw [hb]; rfl)))
theorem ccode_m {y n : Int} (h : maskB y = false ∨ maskB n = false) : ccode y n = 3 := by
  unfold ccode
  rw [if_pos]
  rcases h with h | h <;> simp [h]
theorem ccode_t {y n : Int} (h1 : maskB y = true) (h2 : maskB n = true) (h : (andZ .i64 y n != 0) = true) : ccode y n = 6 := by
  unfold ccode
  rw [if_neg (by simp [h1, h2]), if_pos (by simpa using h)]
theorem ccode_0 {y n : Int} (h1 : maskB y = true) (h2 : maskB n = true) (h : (andZ .i64 y n != 0) = false) : ccode y n = 0 := by
  unfold ccode
  rw [if_neg (by simp [h1, h2]), if_neg (by simpa using h)]
theorem not_t {b : Bool} (h : (!b) = true) : b = false := by cases b <;> simp_all
theorem not_f {b : Bool} (h : (!b) = false) : b = true := by cases b <;> simp_all
set_option maxHeartbeats 800000 in
theorem ccheck_fa (y n : Int) : Fa Tryz.prog 43 [.agg [.int .i64 y, .int .i64 n]] (.c (errA (ccode y n))) := by
  refine fa_of_body Tryz.func43 rfl rfl (by simp [Tryz.ntmps43]) fun C hC => ?_
  simp only [initS, Nat.reduceAdd]
  refine xG ?_
  refine xB fun g1 hn_g1=>?_
  refine yG hn_g1 ?_
  refine yC hn_g1 (mask_fa y) ?_
  refine yG hn_g1 ?_
  refine aw_split 8 (zE hn_g1) (fun h1 => ?_) (fun h1 => ?_) <;> refine yS hn_g1 ?_
  · refine yG hn_g1 ?_
    refine yP hn_g1 ?_
    refine yG hn_g1 ?_
    refine yT hC hn_g1 ?_
    rw [ccode_m (.inl (not_t h1))]
    exact .one (.c (ler_errN rfl (by omega)))
  · refine yG hn_g1 ?_
    refine yC hn_g1 (mask_fa n) ?_
    refine yG hn_g1 ?_
    refine yF hn_g1 (fun h2=>?_) fun h2=>?_
    · refine yG hn_g1 ?_
      refine yT hC hn_g1 ?_
      rw [ccode_m (.inr (not_t h2))]
      exact .one (.c (ler_errN rfl (by omega)))
    · refine yG hn_g1 ?_
      refine yF hn_g1 (fun h3=>?_) fun h3=>?_
      · refine yG hn_g1 ?_
        refine yT hC hn_g1 ?_
        rw [ccode_t (not_f h1) (not_f h2) h3]
        exact .one (.c (ler_errN rfl (by omega)))
      · refine yG hn_g1 ?_
        refine yT hC hn_g1 ?_
        exact .one (.c (ler_err0 (ccode_0 (not_f h1) (not_f h2) h3)))
theorem one_wf' {L : Nat} (h : 1 ≤ L) : (rd ((1 : Int) : Rat)).wf L := rd_wf (fits_mono (L := 1) ⟨by simp, by simp⟩ h)
theorem cast1 : ((1 : Int) : Rat) = 1 := rfl
set_option maxHeartbeats 1600000 in
theorem weightR_fa (y n : Nat) (ps : List RD) (hy : y < 9223372036854775808) (hn : n < 9223372036854775808) (L : Nat) (hL : 1 ≤ L) (hL2 : L ≤ 1000000) (hp : ∀ r ∈ ps, r.wf L) (hl : ps.length ≤ 64) :
    Fa Tryz.prog 75 [.agg [.int .i64 y, .int .i64 n], .c (rats false ps)] (.agg (rdc (rd (wtTo y n ps ps.length)))) := by
  refine fa_of_body Tryz.func75 rfl rfl (by simp [Tryz.ntmps75]) fun C hC => ?_
  simp only [initS, Nat.reduceAdd]
  refine xG ?_
  refine xB fun g2 hn_g2=>?_
  refine yA hn_g2 fun g4 hn_g4=>?_
  refine yG (oj hn_g2 hn_g4) ?_
  refine yC (oj hn_g2 hn_g4) (sof_fa 1 ?_ ?_) ?_
  · omega
  · omega
  refine yA (oj hn_g2 hn_g4) fun g5 hn_g5=>?_
  refine yG (oj hn_g2 (oj hn_g4 hn_g5)) ?_
  refine yW (oj hn_g2 (oj hn_g4 hn_g5)) ?_
  refine yS (oj hn_g2 (oj hn_g4 hn_g5)) ?_
  refine yG (oj hn_g2 (oj hn_g4 hn_g5)) ?_
  refine aw_lp (fun k : Nat => [(1, .c (rats false ps)), (2, .c (.optr g2 0)), (4, .c (.optr g4 0)), (5, .c (.optr g5 0)), (6, .c (.int .i64 k))]) (fun k => [(g5, .cells 35 3 (ofL (rdc (rd (wtTo y n ps k))))), (g4, .cells 35 3 (ofL [.bool false, .nils, .nils])), (g2, .cells 57 2 (ofL [.int .i64 (y : Int), .int .i64 (n : Int)]))])
    (fun k => k ≤ ps.length) (fun k => ps.length - k) 0 (zB (oj hn_g2 (oj hn_g4 hn_g5))) zZ (Nat.zero_le _) ?_
  rintro k hk
  have hfk := fits_wt (y := y) (n := n) hL hp k
  have hbk : (2 * L + 2) * k + 1 ≤ 200000000 := by
    have := Nat.mul_le_mul (show 2 * L + 2 ≤ 2000002 from by omega) (show k ≤ 64 from by omega)
    omega
  refine yG (oj hn_g2 (oj hn_g4 hn_g5)) ?_
  refine yF (oj hn_g2 (oj hn_g4 hn_g5)) (fun hb=>?_) fun hb=>?_
  · have hin : k < ps.length := by have := of_decide_eq_true hb; omega
    have hpk := getD_wf hp k
    have hwk : (rd (wtTo y n ps k)).wf 1073741824 := rd_wf (fits_mono hfk (by omega))
    apply aw_skip
    apply aw_seq
    apply aw_block
    apply aw_seq
    have b1 := shrZ_nat y k (by omega)
    have b2 := and_one_nat (y / 2 ^ k) (Nat.lt_of_le_of_lt (Nat.div_le_self _ _) hy)
    have b3 := bit_eq y k
    have c1 := shrZ_nat n k (by omega)
    have c2 := and_one_nat (n / 2 ^ k) (Nat.lt_of_le_of_lt (Nat.div_le_self _ _) hn)
    have c3 := bit_eq n k
    refine aw_cut (fun q : Rat => [(1, .c (rats false ps)), (2, .c (.optr g2 0)), (4, .c (.optr g4 0)), (5, .c (.optr g5 0)), (6, .c (.int .i64 k))]) (fun q => [(g5, .cells 35 3 (ofL (rdc (rd q)))), (g4, .cells 35 3 (ofL [.bool false, .nils, .nils])), (g2, .cells 57 2 (ofL [.int .i64 (y : Int), .int .i64 (n : Int)]))])
      (fun q => q = wtTo y n ps k * (if y.testBit k then (ps.getD k rd0).q else 1)) ?_ ?_
    · refine yG (oj hn_g2 (oj hn_g4 (oj hn_g5 (oj b1 (oj b2 (oj b3 (oj c1 (oj c2 c3)))))))) ?_
      refine yF (oj hn_g2 (oj hn_g4 (oj hn_g5 (oj b1 (oj b2 (oj b3 (oj c1 (oj c2 c3)))))))) (fun hc=>?_) fun hc=>?_
      · refine yG (oj hn_g2 (oj hn_g4 (oj hn_g5 (oj b1 (oj b2 (oj b3 (oj c1 (oj c2 c3)))))))) ?_
        refine aw_dr 6 ty_mixed (by kernel_rfl) ?_
        refine yG (oj hn_g2 (oj hn_g4 (oj hn_g5 (oj b1 (oj b2 (oj b3 (oj c1 (oj c2 c3)))))))) ?_
        refine yD (oj hn_g2 (oj hn_g4 (oj hn_g5 (oj b1 (oj b2 (oj b3 (oj c1 (oj c2 c3)))))))) (smul_fa _ _ hwk ?_) ?_
        · exact wf_mono hpk (by omega)
        rw [rd_q]
        refine yG (oj hn_g2 (oj hn_g4 (oj hn_g5 (oj b1 (oj b2 (oj b3 (oj c1 (oj c2 c3)))))))) ?_
        refine yW (oj hn_g2 (oj hn_g4 (oj hn_g5 (oj b1 (oj b2 (oj b3 (oj c1 (oj c2 c3)))))))) ?_
        refine yS (oj hn_g2 (oj hn_g4 (oj hn_g5 (oj b1 (oj b2 (oj b3 (oj c1 (oj c2 c3)))))))) ?_
        refine yG (oj hn_g2 (oj hn_g4 (oj hn_g5 (oj b1 (oj b2 (oj b3 (oj c1 (oj c2 c3)))))))) ?_
        exact aw_stop ⟨_, (zB (oj hn_g2 (oj hn_g4 (oj hn_g5 (oj b1 (oj b2 (oj b3 (oj c1 (oj c2 c3))))))))), zZ, by rw [hc, if_pos rfl]⟩
      · refine yG (oj hn_g2 (oj hn_g4 (oj hn_g5 (oj b1 (oj b2 (oj b3 (oj c1 (oj c2 c3)))))))) ?_
        exact aw_stop ⟨_, (zB (oj hn_g2 (oj hn_g4 (oj hn_g5 (oj b1 (oj b2 (oj b3 (oj c1 (oj c2 c3))))))))), zZ, by rw [hc, if_neg (by simp), Rat.mul_one]⟩
    rintro q hq
    have hfq : fits q 300000000 := by
      rw [hq]
      refine fits_mono (fits_mul (M := L) hfk ?_) (by omega)
      split
      · exact RD.fits hpk hL
      · exact fits_mono fits_one hL
    refine yG (oj hn_g2 (oj hn_g4 (oj hn_g5 (oj b1 (oj b2 (oj b3 (oj c1 (oj c2 c3)))))))) ?_
    refine yF (oj hn_g2 (oj hn_g4 (oj hn_g5 (oj b1 (oj b2 (oj b3 (oj c1 (oj c2 c3)))))))) (fun hc=>?_) fun hc=>?_
    · refine yG (oj hn_g2 (oj hn_g4 (oj hn_g5 (oj b1 (oj b2 (oj b3 (oj c1 (oj c2 c3)))))))) ?_
      refine aw_dr 8 ty_mixed (by kernel_rfl) ?_
      refine yG (oj hn_g2 (oj hn_g4 (oj hn_g5 (oj b1 (oj b2 (oj b3 (oj c1 (oj c2 c3)))))))) ?_
      refine yD (oj hn_g2 (oj hn_g4 (oj hn_g5 (oj b1 (oj b2 (oj b3 (oj c1 (oj c2 c3)))))))) (sof_fa 1 ?_ ?_) ?_
      · omega
      · omega
      refine yG (oj hn_g2 (oj hn_g4 (oj hn_g5 (oj b1 (oj b2 (oj b3 (oj c1 (oj c2 c3)))))))) ?_
      refine yD (oj hn_g2 (oj hn_g4 (oj hn_g5 (oj b1 (oj b2 (oj b3 (oj c1 (oj c2 c3)))))))) (ssub_fa _ _ (one_wf' ?_) ?_) ?_
      · omega
      · exact wf_mono hpk (by omega)
      rw [rd_q, cast1]
      refine yG (oj hn_g2 (oj hn_g4 (oj hn_g5 (oj b1 (oj b2 (oj b3 (oj c1 (oj c2 c3)))))))) ?_
      refine yD (oj hn_g2 (oj hn_g4 (oj hn_g5 (oj b1 (oj b2 (oj b3 (oj c1 (oj c2 c3)))))))) (smul_fa _ _ ?_ ?_) ?_
      · exact rd_wf (fits_mono hfq (by omega))
      · exact rd_wf (fits_mono (fits_sub fits_one (RD.fits hpk hL)) (by omega))
      rw [rd_q, rd_q]
      refine yG (oj hn_g2 (oj hn_g4 (oj hn_g5 (oj b1 (oj b2 (oj b3 (oj c1 (oj c2 c3)))))))) ?_
      refine yW (oj hn_g2 (oj hn_g4 (oj hn_g5 (oj b1 (oj b2 (oj b3 (oj c1 (oj c2 c3)))))))) ?_
      refine yS (oj hn_g2 (oj hn_g4 (oj hn_g5 (oj b1 (oj b2 (oj b3 (oj c1 (oj c2 c3)))))))) ?_
      refine yG (oj hn_g2 (oj hn_g4 (oj hn_g5 (oj b1 (oj b2 (oj b3 (oj c1 (oj c2 c3)))))))) ?_
      have e : wtTo y n ps (k + 1) = q * (1 - (ps.getD k rd0).q) := by
        rw [wtTo, wfac, hc, if_pos rfl, ← Rat.mul_assoc, ← hq]
      rw [← e]
      exact aw_stop ⟨k + 1, by omega, (zB (oj hn_g2 (oj hn_g4 (oj hn_g5 (oj b1 (oj b2 (oj b3 (oj c1 (oj c2 c3))))))))), zZ, by omega⟩
    · refine yG (oj hn_g2 (oj hn_g4 (oj hn_g5 (oj b1 (oj b2 (oj b3 (oj c1 (oj c2 c3)))))))) ?_
      have e : wtTo y n ps (k + 1) = q := by
        rw [wtTo, wfac, hc, if_neg (c := false = true) (by simp), Rat.mul_one, ← hq]
      rw [← e]
      exact aw_stop ⟨k + 1, by omega, (zB (oj hn_g2 (oj hn_g4 (oj hn_g5 (oj b1 (oj b2 (oj b3 (oj c1 (oj c2 c3))))))))), zZ, by omega⟩
  · have hin : k = ps.length := by have := of_decide_eq_false hb; omega
    subst hin
    refine yG (oj hn_g2 (oj hn_g4 hn_g5)) ?_
    refine yW (oj hn_g2 (oj hn_g4 hn_g5)) ?_
    refine yS (oj hn_g2 (oj hn_g4 hn_g5)) ?_
    refine yG (oj hn_g2 (oj hn_g4 hn_g5)) ?_
    refine yT hC (oj hn_g2 (oj hn_g4 hn_g5)) ?_
    exact ler_rd rfl
end Go.Proofs.YtmfmnmkipjpjhaaGreat

/- shannon: of, node, values; faultlineref37: value, Node, Values. -/
namespace Go.AI
open Go.PN
section
variable {E : Env} {K : List It} {σ σ' : Sl} {h : Heap}
/-- Of the first block less is known. -/
theorem aw_less {g n n' : Nat} {ty : TypeId} {f f' : Nat → CV} {h : Heap} (hn : n' ≤ n) (hf : ∀ j, j < n' → f j = f' j) (k : aw E K σ ((g, .cells ty n' f') :: h)) : aw E K σ ((g, .cells ty n f) :: h) := fun a w s => by
  refine k a w ⟨s.size, s.defers, s.slots, fun g' o' hm => ?_, s.nodup, s.keys, s.frame⟩
  rcases List.mem_cons.1 hm with e | hm
  · injection e with e1 e2
    subst e1 e2
    obtain ⟨cs, hb, hc, hj⟩ := s.heap _ _ (List.mem_cons_self ..)
    exact ⟨cs, hb, by omega, fun j hjl => by rw [← hf j hjl]; exact hj j (by omega)⟩
  · exact s.heap g' o' (List.mem_cons_of_mem _ hm)
end
theorem rats_push {vs : List RD} {n : Nat} (hn : vs.length = n) (v : RD) : ∀ j, j < (n + 1) * 3 → appF (ratsF vs) (n * 3) (ofL [.bool v.neg, ws true v.num, ws true v.den]) j = ratsF (vs ++ [v]) j := lf_push (c := fun r : RD => [CV.bool r.neg, ws true r.num, ws true r.den]) hn v (by omega)
theorem le_gsr {pre : Heap} {og : Option Nat} {e n : Nat} {vs : List RD} (hog : og = none → n = 0) (hn : ∀ g, og = some g → g ∉ pre.keys) (hl : vs.length = n) : LeC (pre ++ gh og e (n * 3) (ratsF vs)) (gs og 3 n) (rats false vs) := by
  subst hl
  exact le_gs hog hn (fun j _ => .refl _)
theorem ler_gsr {pre : Heap} {og : Option Nat} {e n : Nat} {t : Bool} {vs : List RD} (hog : og = none → n = 0) (hn : ∀ g, og = some g → g ∉ pre.keys) (hl : vs.length = n) : LeR (pre ++ gh og e (n * 3) (ratsF vs)) (gs og 3 n) (rats t vs) := by
  subst hl
  exact ler_gs hog hn (lf_ler (by omega) fun x _ k hk => by match k, hk with | 0, _ => exact .bool _ | 1, _ => exact ler_ws | 2, _ => exact ler_ws)
end Go.AI
namespace Go.PN
open Go.AI
/-- The value of a reference, by the values of the nodes. -/
def refRD (v : List RD) (r : Int) : RD := if r < 2 then rd (r : Rat) else v.getD (r - 2).toNat rd0
/-- The value of a node. -/
def nodeQ (p v : List RD) (n : DN) : Rat := (1 - (p.getD n.v.toNat rd0).q) * (refRD v n.lo).q + (p.getD n.v.toNat rd0).q * (refRD v n.hi).q
def valsL (p : List RD) : List DN → List RD → List RD
  | [], v => v
  | n :: ns, v => valsL p ns (v ++ [rd (nodeQ p v n)])
/-- A node can be looked at when there are k values and m events. -/
structure NodeOk (m k : Nat) (n : DN) : Prop where
  v0 : 0 ≤ n.v
  v1 : n.v < m
  l0 : 0 ≤ n.lo
  l1 : n.lo < k + 2
  h0 : 0 ≤ n.hi
  h1 : n.hi < k + 2
theorem ref_wf {v : List RD} {r : Int} {L : Nat} (hL : 1 ≤ L) (hv : ∀ x ∈ v, x.wf L) (h0 : 0 ≤ r) : (refRD v r).wf L := by
  unfold refRD
  split
  · have : r = 0 ∨ r = 1 := by omega
    rcases this with rfl | rfl
    · exact rd_wf (fits_mono (L := 1) ⟨by simp, by simp⟩ hL)
    · exact rd_wf (fits_mono (L := 1) ⟨by simp, by simp⟩ hL)
  · exact getD_wf hv _
end Go.PN
namespace Go.Proofs.YtmfmnmkipjpjhaaGreat
open Go.AI Go.PN
attribute [local irreducible] aw Fa Fh DrK
set_option maxHeartbeats 800000 in
theorem of_fa' (v : List RD) (r : Int) (h0 : 0 ≤ r) (h1 : r < v.length + 2) (h2 : v.length ≤ 1099511627776) : Fa Tryz.prog 30 [.c (rats false v), .c (.int .i64 r)] (.agg (rdc (refRD v r))) := by
  refine fa_of_body Tryz.func30 rfl rfl (by simp [Tryz.ntmps30]) fun C hC => ?_
  simp only [initS, Nat.reduceAdd]
  refine xG ?_
  refine xA fun g4 hn_g4=>?_
  refine yG hn_g4 ?_
  refine yF hn_g4 (fun hb=>?_) fun hb=>?_
  · have hb' := of_decide_eq_true hb
    refine yG hn_g4 ?_
    refine yC hn_g4 (rof_fa r ?_ ?_) ?_
    · omega
    · omega
    refine yG hn_g4 ?_
    refine yW hn_g4 ?_
    refine yS hn_g4 ?_
    refine yG hn_g4 ?_
    refine yT hC hn_g4 ?_
    exact ler_rd (by rw [refRD, if_pos hb'])
  · have hb' := of_decide_eq_false hb
    refine yG hn_g4 ?_
    refine yW hn_g4 ?_
    refine yS hn_g4 ?_
    refine yG hn_g4 ?_
    refine yT hC hn_g4 ?_
    exact ler_rd (by rw [refRD, if_neg hb'])
abbrev dnc (n : DN) : List CV := [.int .i64 n.v, .int .i64 n.lo, .int .i64 n.hi]
set_option maxHeartbeats 1600000 in
theorem node_fa (n : DN) (p v : List RD) (L : Nat) (hL : 1 ≤ L) (hL2 : L ≤ 100000000) (hp : ∀ x ∈ p, x.wf L) (hv : ∀ x ∈ v, x.wf L) (hn : NodeOk p.length v.length n) (hvl : v.length ≤ 1099511627776) :
    Fa Tryz.prog 66 [.agg (dnc n), .c (rats false p), .c (rats false v)] (.agg (rdc (rd (nodeQ p v n)))) := by
  obtain ⟨v0, v1, l0, l1, h0, h1⟩ := hn
  have w1 := getD_wf hp n.v.toNat
  have w2 := ref_wf hL hv l0
  have w3 := ref_wf hL hv h0
  have f1 := RD.fits w1 hL
  have f2 := RD.fits w2 hL
  have f3 := RD.fits w3 hL
  have f4 := fits_sub fits_one f1
  have f5 := fits_mul f4 f2
  have f6 := fits_mul f1 f3
  refine fa_of_body Tryz.func66 rfl rfl (by simp [Tryz.ntmps66]) fun C hC => ?_
  simp only [initS, Nat.reduceAdd]
  refine xG ?_
  refine xB fun g3 hn_g3=>?_
  refine yA hn_g3 fun g6 hn_g6=>?_
  refine yG (oj hn_g3 hn_g6) ?_
  refine yA (oj hn_g3 hn_g6) fun g7 hn_g7=>?_
  refine yG (oj hn_g3 (oj hn_g6 hn_g7)) ?_
  refine yW (oj hn_g3 (oj hn_g6 hn_g7)) ?_
  refine yS (oj hn_g3 (oj hn_g6 hn_g7)) ?_
  refine yG (oj hn_g3 (oj hn_g6 hn_g7)) ?_
  refine aw_dr 15 ty_mixed (by kernel_rfl) ?_
  refine yG (oj hn_g3 (oj hn_g6 hn_g7)) ?_
  refine yD (oj hn_g3 (oj hn_g6 hn_g7)) (rof_fa 1 ?_ ?_) ?_
  · omega
  · omega
  refine yG (oj hn_g3 (oj hn_g6 hn_g7)) ?_
  refine yD (oj hn_g3 (oj hn_g6 hn_g7)) (rsub_fa _ _ (one_wf' ?_) ?_) ?_
  · omega
  · exact wf_mono w1 (by omega)
  rw [rd_q, cast1]
  refine yG (oj hn_g3 (oj hn_g6 hn_g7)) ?_
  refine yD (oj hn_g3 (oj hn_g6 hn_g7)) (of_fa' v n.lo l0 ?_ hvl) ?_
  · omega
  refine yG (oj hn_g3 (oj hn_g6 hn_g7)) ?_
  refine yD (oj hn_g3 (oj hn_g6 hn_g7)) (rmul_fa _ _ ?_ ?_) ?_
  · exact rd_wf (fits_mono f4 (by omega))
  · exact wf_mono w2 (by omega)
  rw [rd_q]
  refine yG (oj hn_g3 (oj hn_g6 hn_g7)) ?_
  refine yD (oj hn_g3 (oj hn_g6 hn_g7)) (of_fa' v n.hi h0 ?_ hvl) ?_
  · omega
  refine yG (oj hn_g3 (oj hn_g6 hn_g7)) ?_
  refine yD (oj hn_g3 (oj hn_g6 hn_g7)) (rmul_fa _ _ ?_ ?_) ?_
  · exact wf_mono w1 (by omega)
  · exact wf_mono w3 (by omega)
  refine yG (oj hn_g3 (oj hn_g6 hn_g7)) ?_
  refine yD (oj hn_g3 (oj hn_g6 hn_g7)) (radd_fa _ _ ?_ ?_) ?_
  · exact rd_wf (fits_mono f5 (by omega))
  · exact rd_wf (fits_mono f6 (by omega))
  rw [rd_q, rd_q]
  refine yG (oj hn_g3 (oj hn_g6 hn_g7)) ?_
  refine yW (oj hn_g3 (oj hn_g6 hn_g7)) ?_
  refine yS (oj hn_g3 (oj hn_g6 hn_g7)) ?_
  refine yG (oj hn_g3 (oj hn_g6 hn_g7)) ?_
  refine yT hC (oj hn_g3 (oj hn_g6 hn_g7)) ?_
  exact ler_rd rfl
theorem vals_take {p : List RD} {ns : List DN} {k : Nat} (hk : k < ns.length) : valsL p (ns.take (k + 1)) [] = valsL p (ns.take k) [] ++ [rd (nodeQ p (valsL p (ns.take k) []) (ns.getD k dn0))] := by
  have key : ∀ (l m : List DN) (v : List RD), valsL p (l ++ m) v = valsL p m (valsL p l v) := by
    intro l
    induction l with
    | nil => intro m v; rfl
    | cons a l ih => intro m v; simp only [List.cons_append, valsL]; exact ih m _
  rw [List.take_succ_eq_append_getElem hk, key]
  have : ns.getD k dn0 = ns[k] := by rw [List.getD_eq_getElem?_getD, List.getElem?_eq_getElem hk]; rfl
  rw [this]; rfl
theorem vals_len {p : List RD} : ∀ (ns : List DN) (v : List RD), (valsL p ns v).length = v.length + ns.length
  | [], v => by simp [valsL]
  | n :: ns, v => by rw [valsL, vals_len ns]; simp; omega
set_option maxHeartbeats 1600000 in
theorem values_fa (d : DG) (p : List RD) (L : Nat) (hL : 1 ≤ L) (hL2 : L ≤ 100000000) (hp : ∀ x ∈ p, x.wf L) (hv : ∀ k, k ≤ d.nodes.length → ∀ x ∈ valsL p (d.nodes.take k) [], x.wf L) (hn : ∀ i, i < d.nodes.length → NodeOk p.length i (d.nodes.getD i dn0)) (hnl : d.nodes.length ≤ 10000) :
    Fa Tryz.prog 31 [.agg (dgc false d), .c (rats false p)] (.c (rats true (valsL p d.nodes []))) := by
  refine fa_of_body Tryz.func31 rfl rfl (by simp [Tryz.ntmps31]) fun C hC => ?_
  simp only [initS, Nat.reduceAdd]
  refine xG ?_
  refine xB fun g2 hn_g2=>?_
  refine yG hn_g2 ?_
  refine aw_make (n := 0) (c := d.nodes.length) (size := 3) (z := [.bool false, .nils, .nils]) rfl rfl rfl (zE hn_g2) (zE hn_g2) rfl (by omega) (zE hn_g2) (zE hn_g2) rfl rfl (by omega) (by omega) (by omega) fun g hg => ?_
  refine yS hn_g2 ?_
  refine aw_less (n' := 0) (f' := ratsF []) (by omega) (fun j hj => by omega) ?_
  replace hg := Heap.ne_of hg
  dsimp only [Heap.ne] at hg
  refine yG (oj hn_g2 hg) ?_
  refine aw_weak (σ' := [(1, .c (rats false p)), (5, .c (gs (some g) 3 0)), (13, .c (dns false d.nodes)), (14, .c (.int .i64 d.nodes.length)), (15, .c (.int .i64 0))]) (h' := gh (some g) 35 (0 * 3) (ratsF [])) (Sl.sub_le (zB (oj hn_g2 hg))) (List.Sublist.cons_cons _ (List.nil_sublist _)) ?_
  refine aw_lp (fun x : Nat × Nat × List RD => [(1, .c (rats false p)), (5, .c (gs (some x.1) 3 x.2.1)), (13, .c (dns false d.nodes)), (14, .c (.int .i64 d.nodes.length)), (15, .c (.int .i64 x.2.1))]) (fun x => gh (some x.1) 35 (x.2.1 * 3) (ratsF x.2.2))
    (fun x => x.2.1 ≤ d.nodes.length ∧ x.2.2.length = x.2.1 ∧ x.2.2 = valsL p (d.nodes.take x.2.1) []) (fun x => d.nodes.length - x.2.1) (g, 0, []) (zB (oj hn_g2 hg)) zZ ⟨Nat.zero_le _, rfl, by simp [valsL]⟩ ?_
  rintro ⟨g', k, vs⟩ ⟨hk, hvl, hvs⟩
  dsimp only at hk hvl hvs ⊢
  refine yG (oj hn_g2 hg) ?_
  refine yF (oj hn_g2 hg) (fun hb=>?_) fun hb=>?_
  · have hin : k < d.nodes.length := by have := of_decide_eq_true hb; omega
    have hvw : ∀ x ∈ vs, x.wf L := by rw [hvs]; exact hv k hk
    have hno : NodeOk p.length vs.length (d.nodes.getD k dn0) := by rw [hvl]; exact hn k hin
    refine yG (oj hn_g2 hg) ?_
    refine yA (oj hn_g2 hg) fun g7 hn_g7=>?_
    refine yG (oj hn_g2 (oj hg hn_g7)) ?_
    refine yW (oj hn_g2 (oj hg hn_g7)) ?_
    refine yS (oj hn_g2 (oj hg hn_g7)) ?_
    refine yG (oj hn_g2 (oj hg hn_g7)) ?_
    refine aw_callq (node_fa (d.nodes.getD k dn0) p vs L hL hL2 hp hvw hno (by omega)) rfl rfl rfl (by refine yS (oj hn_g2 (oj hg hn_g7)) ?_; exact ⟨.agg (lel_refl _), .c (.refl _), .c (le_gsr (pre := [(g7, _)]) some_ne (fun g e => by cases e; simp only [Heap.keys, List.map_cons, List.map_nil, List.mem_singleton]; exact (of_eq_false hn_g7.1.2)) hvl)⟩) ?_
    refine yS (oj hn_g2 (oj hg hn_g7)) ?_
    refine yG (oj hn_g2 (oj hg hn_g7)) ?_
    refine aw_push (pre := [(g7, .cells 104 3 (ofL (dnc (d.nodes.getD k dn0))))]) rfl rfl rfl rfl rfl rfl rfl (zE (oj hn_g2 (oj hg hn_g7))) (zE (oj hn_g2 (oj hg hn_g7))) (by rfl) (by omega) (by omega) (zE (oj hn_g2 (oj hg hn_g7))) (by omega) (by exact some_ne) (zE (oj hn_g2 (oj hg hn_g7))) (by rfl) (by rfl) (by first | rfl | simp only [Nat.mul_one, List.nil_append, List.cons_append] <;> rfl) (by unfold maxLen; omega) (by omega) (by exact rats_push hvl _) fun g1 hn_g1 => ?_
    replace hn_g1 := Heap.ne_of hn_g1
    first | dsimp only [Heap.ne, gh] at hn_g1 | dsimp only [Heap.ne] at hn_g1 | skip
    refine yS (oj hn_g2 (oj hg (oj hn_g7 hn_g1))) ?_
    refine yG (oj hn_g2 (oj hg (oj hn_g7 hn_g1))) ?_
    have e := vals_take (p := p) hin
    rw [← hvs] at e
    refine aw_stop ⟨(g1, k + 1, vs ++ [rd (nodeQ p vs (d.nodes.getD k dn0))]), by dsimp only; omega, (zB (oj hn_g2 (oj hg (oj hn_g7 hn_g1)))), List.Sublist.cons _ (List.Sublist.refl _), by dsimp only; omega, by simp; omega, e.symm⟩
  · have hin : k = d.nodes.length := by have := of_decide_eq_false hb; omega
    subst hin
    refine yG (oj hn_g2 hg) ?_
    refine yT hC (oj hn_g2 hg) ?_
    rw [List.take_length] at hvs
    rw [← hvs]
    exact .one (.c (ler_gsr (pre := []) some_ne (fun _ _ => by simp [Heap.keys]) hvl))
end Go.Proofs.YtmfmnmkipjpjhaaGreat

/- The values of a diagram's function, and the sum over its true states. No program in sight. -/
namespace Go.PN
open Go.AI
def evalF (ns : List DN) (s : Nat) : Nat → Int → Bool
  | 0, r => decide (r = 1)
  | k + 1, r => if r ≤ 1 then decide (r = 1) else evalF ns s k (if s.testBit (ns.getD (r - 2).toNat dn0).v.toNat then (ns.getD (r - 2).toNat dn0).hi else (ns.getD (r - 2).toNat dn0).lo)
/-- The value of a reference in a state. -/
def evalD (ns : List DN) (s : Nat) (r : Int) : Bool := evalF ns s r.toNat r
/-- Each node looks back. -/
def NsOk (m : Nat) (ns : List DN) : Prop := ∀ i, i < ns.length → NodeOk m i (ns.getD i dn0)
def kid (ns : List DN) (s : Nat) (r : Int) : Int := if s.testBit (ns.getD (r - 2).toNat dn0).v.toNat then (ns.getD (r - 2).toNat dn0).hi else (ns.getD (r - 2).toNat dn0).lo
theorem kid_lt {m : Nat} {ns : List DN} (h : NsOk m ns) {s : Nat} {r : Int} (h2 : 2 ≤ r) (hr : r < ns.length + 2) : 0 ≤ kid ns s r ∧ kid ns s r < r := by
  have := h (r - 2).toNat (by omega)
  obtain ⟨_, _, l0, l1, h0, h1⟩ := this
  unfold kid
  split <;> omega
theorem evalF_fuel {m : Nat} {ns : List DN} (h : NsOk m ns) {s : Nat} : ∀ (k : Nat) (r : Int), 0 ≤ r → r < ns.length + 2 → r.toNat ≤ k → evalF ns s k r = evalF ns s r.toNat r
  | 0, r, h0, _, hk => by rw [show r.toNat = 0 from by omega]
  | k + 1, r, h0, hr, hk => by
    by_cases h1 : r ≤ 1
    · rw [evalF, if_pos h1]
      cases hrn : r.toNat with
      | zero => rfl
      | succ j => rw [evalF, if_pos h1]
    · obtain ⟨j, hj⟩ : ∃ j, r.toNat = j + 1 := ⟨r.toNat - 1, by omega⟩
      rw [hj, evalF, if_neg h1, evalF, if_neg h1]
      have hkid := kid_lt h (s := s) (by omega) hr
      show evalF ns s k (kid ns s r) = evalF ns s j (kid ns s r)
      rw [evalF_fuel h k _ hkid.1 (by omega) (by omega), evalF_fuel h j _ hkid.1 (by omega) (by omega)]
termination_by k => k
decreasing_by all_goals omega
theorem evalD_leaf {ns : List DN} {s : Nat} {r : Int} (h1 : r ≤ 1) : evalD ns s r = decide (r = 1) := by
  unfold evalD
  cases hrn : r.toNat with
  | zero => rfl
  | succ j => rw [evalF, if_pos h1]
theorem evalD_step {m : Nat} {ns : List DN} (h : NsOk m ns) {s : Nat} {r : Int} (h2 : 2 ≤ r) (hr : r < ns.length + 2) : evalD ns s r = evalD ns s (kid ns s r) := by
  unfold evalD
  obtain ⟨j, hj⟩ : ∃ j, r.toNat = j + 1 := ⟨r.toNat - 1, by omega⟩
  rw [hj, evalF, if_neg (by omega)]
  have hkid := kid_lt h (s := s) h2 hr
  show evalF ns s j (kid ns s r) = _
  exact evalF_fuel h j _ hkid.1 (by omega) (by omega)
/-- The table of a diagram. -/
def tabL (d : DG) : List Bool := (List.range (2 ^ d.order.length)).map fun s => evalD d.nodes s d.root
/-- The probability of a state. -/
def stQ (ps : List RD) (s : Nat) : Rat := wtTo s (2 ^ ps.length - 1 - s) ps ps.length
def sumQ (ps : List RD) (tb : List Bool) : Nat → Rat
  | 0 => 0
  | k + 1 => if tb.getD k false then sumQ ps tb k + stQ ps k else sumQ ps tb k
theorem fits_zero : fits (0 : Rat) 1 := ⟨by simp, by simp⟩
theorem fits_sum {ps : List RD} {tb : List Bool} {L : Nat} (hL : 1 ≤ L) (h : ∀ r ∈ ps, r.wf L) : ∀ k, fits (sumQ ps tb k) (((2 * L + 2) * ps.length + 2) * k + 1)
  | 0 => by rw [Nat.mul_zero, Nat.zero_add]; exact fits_zero
  | k + 1 => by
    have h1 := fits_sum (tb := tb) hL h k
    unfold sumQ
    split
    · refine fits_mono (fits_add h1 (fits_wt hL h _)) ?_
      rw [Nat.mul_add]; omega
    · refine fits_mono h1 ?_
      rw [Nat.mul_add]; omega
theorem pow_lt_63 {n : Nat} (h : n < 63) : 2 ^ n < 9223372036854775808 := by
  have h3 : 2 ^ n < 2 ^ 63 := Nat.pow_lt_pow_right (by omega) h
  have h4 : (2 : Nat) ^ 63 = 9223372036854775808 := by decide
  rw [h4] at h3; exact h3
end Go.PN
namespace Go.AI
section
variable {E : Env} {K : List It} {σ : Sl}
/-- The first block, told otherwise. -/
theorem aw_convR {g n : Nat} {ty : TypeId} {f f' : Nat → CV} {h : Heap} (hf : ∀ j, j < n → ∀ S w u, RepC S w (f j) u → RepC S w (f' j) u) (k : aw E K σ ((g, .cells ty n f') :: h)) : aw E K σ ((g, .cells ty n f) :: h) := fun a w s => by
  refine k a w ⟨s.size, s.defers, s.slots, fun g' o' hm => ?_, s.nodup, s.keys, s.frame⟩
  rcases List.mem_cons.1 hm with e | hm
  · injection e with e1 e2
    subst e1 e2
    obtain ⟨cs, hb, hc, hj⟩ := s.heap _ _ (List.mem_cons_self ..)
    exact ⟨cs, hb, hc, fun j hjl => by obtain ⟨u, hu, hr⟩ := hj j hjl; exact ⟨u, hu, hf j hjl _ _ _ hr⟩⟩
  · exact s.heap g' o' (List.mem_cons_of_mem _ hm)
end
theorem repC_nil {S : Bool → Nat → Prop} {w : World} {u : Value} {t : Bool} {s : Nat} {f : Nat → CV} (h : RepC S w .nils u) : RepC S w (.row t s 0 f) u := by
  obtain ⟨A, hv⟩ := h
  exact ⟨A, 0, hv, Nat.le_refl _, fun h0 => by simp at h0⟩
theorem zero_rd : ∀ j, j < 3 → ∀ S w u, RepC S w (ofL [CV.bool false, .nils, .nils] j) u → RepC S w (ofL [CV.bool (Go.PN.rd 0).neg, ws true (Go.PN.rd 0).num, ws true (Go.PN.rd 0).den] j) u := by
  rw [Go.PN.rd_zero]
  intro j hj S w u h
  match j, hj with
  | 0, _ => exact h
  | 1, _ => exact repC_nil h
  | 2, _ => exact repC_nil h
theorem bs_push {zs : List Bool} {n : Nat} (hn : zs.length = n) (x : Bool) : ∀ j, j < (n + 1) * 1 → appF (bsF zs) (n * 1) (ofL [.bool x]) j = bsF (zs ++ [x]) j := fun j hj => by
  subst hn
  unfold appF
  by_cases h : j < zs.length * 1
  · rw [if_pos h]
    show CV.bool (zs.getD j false) = CV.bool ((zs ++ [x]).getD j false)
    rw [List.getD_eq_getElem?_getD, List.getD_eq_getElem?_getD, List.getElem?_append_left (by omega)]
  · have : j = zs.length := by omega
    subst this
    rw [if_neg h]
    show ofL [CV.bool x] (zs.length - zs.length * 1) = CV.bool ((zs ++ [x]).getD zs.length false)
    rw [Nat.mul_one, Nat.sub_self, List.getD_eq_getElem?_getD, List.getElem?_append_right (Nat.le_refl _), Nat.sub_self]
    rfl
theorem is_push {zs : List Int} {n : Nat} (hn : zs.length = n) (x : Int) : ∀ j, j < (n + 1) * 1 → appF (isF zs) (n * 1) (ofL [.int .i64 x]) j = isF (zs ++ [x]) j := fun j hj => by
  subst hn
  unfold appF
  by_cases h : j < zs.length * 1
  · rw [if_pos h]
    show CV.int .i64 (zs.getD j 0) = CV.int .i64 ((zs ++ [x]).getD j 0)
    rw [List.getD_eq_getElem?_getD, List.getD_eq_getElem?_getD, List.getElem?_append_left (by omega)]
  · have : j = zs.length := by omega
    subst this
    rw [if_neg h]
    show ofL [CV.int .i64 x] (zs.length - zs.length * 1) = CV.int .i64 ((zs ++ [x]).getD zs.length 0)
    rw [Nat.mul_one, Nat.sub_self, List.getD_eq_getElem?_getD, List.getElem?_append_right (Nat.le_refl _), Nat.sub_self]
    rfl
theorem ler_gsb {pre : Heap} {og : Option Nat} {e n : Nat} {t : Bool} {zs : List Bool} (hog : og = none → n = 0) (hn : ∀ g, og = some g → g ∉ pre.keys) (hl : zs.length = n) : LeR (pre ++ gh og e n (bsF zs)) (gs og 1 n) (bs t zs) := by
  subst hl
  have := ler_gs (pre := pre) (og := og) (e := e) (s := 1) (n := zs.length) (t := t) (f := bsF zs) (f' := bsF zs) hog hn (fun j _ => .bool _)
  simpa only [Nat.mul_one] using this
end Go.AI

/- faultlineref15: value, Value, Table; faultlineref37: State, Table, Probability. -/
namespace Go.Proofs.YtmfmnmkipjpjhaaGreat
open Go.AI Go.PN
attribute [local irreducible] aw Fa Fh DrK
set_option maxHeartbeats 800000 in
theorem state_fa (ps : List RD) (s : Nat) (hs : s < 2 ^ ps.length) (L : Nat) (hL : 1 ≤ L) (hL2 : L ≤ 1000000) (hp : ∀ r ∈ ps, r.wf L) (hl : ps.length ≤ 30) :
    Fa Tryz.prog 35 [.c (rats false ps), .c (.int .i64 s)] (.agg (rdc (rd (stQ ps s)))) := by
  have h63 := pow_lt_63 (n := ps.length) (by omega)
  have e1 := shl_one ps.length (by omega)
  have e2 : ((2 ^ ps.length : Nat) : Int) - 1 - (s : Int) = ((2 ^ ps.length - 1 - s : Nat) : Int) := by omega
  refine fa_of_body Tryz.func35 rfl rfl (by simp [Tryz.ntmps35]) fun C hC => ?_
  simp only [initS, Nat.reduceAdd]
  refine xG ?_
  refine xA fun g4 hn_g4=>?_
  refine yG (oj hn_g4 e1) ?_
  rw [e2]
  refine yC (oj hn_g4 e1) (weightR_fa s (2 ^ ps.length - 1 - s) ps ?_ ?_ L hL hL2 hp ?_) ?_
  · omega
  · omega
  · omega
  refine yG (oj hn_g4 e1) ?_
  refine yW (oj hn_g4 e1) ?_
  refine yS (oj hn_g4 e1) ?_
  refine yG (oj hn_g4 e1) ?_
  refine yT hC (oj hn_g4 e1) ?_
  exact ler_rd rfl
set_option maxHeartbeats 1600000 in
theorem table37_fa (tb : List Bool) (ps : List RD) (L : Nat) (hL : 1 ≤ L) (hL2 : L ≤ 1000) (hp : ∀ r ∈ ps, r.wf L) (hl : ps.length ≤ 12) (ht : tb.length = 2 ^ ps.length) :
    Fa Tryz.prog 13 [.c (bs false tb), .c (rats false ps)] (.agg (rdc (rd (sumQ ps tb tb.length)))) := by
  have hp12 : 2 ^ ps.length ≤ 4096 := by
    have h3 : 2 ^ ps.length ≤ 2 ^ 12 := Nat.pow_le_pow_right (by omega) hl
    have h4 : (2 : Nat) ^ 12 = 4096 := by decide
    omega
  refine fa_of_body Tryz.func13 rfl rfl (by simp [Tryz.ntmps13]) fun C hC => ?_
  simp only [initS, Nat.reduceAdd]
  refine xG ?_
  refine xA fun g4 hn_g4=>?_
  refine yG hn_g4 ?_
  refine yA hn_g4 fun g5 hn_g5=>?_
  refine yG (oj hn_g4 hn_g5) ?_
  refine yW (oj hn_g4 hn_g5) ?_
  refine yS (oj hn_g4 hn_g5) ?_
  refine yG (oj hn_g4 hn_g5) ?_
  refine aw_convR zero_rd ?_
  refine aw_lp (fun k : Nat => [(0, .c (bs false tb)), (1, .c (rats false ps)), (4, .c (.optr g4 0)), (5, .c (.optr g5 0)), (6, .c (.int .i64 k))]) (fun k => [(g5, .cells 35 3 (ofL (rdc (rd (sumQ ps tb k))))), (g4, .cells 35 3 (ofL [.bool false, .nils, .nils]))])
    (fun k => k ≤ tb.length) (fun k => tb.length - k) 0 (zB (oj hn_g4 hn_g5)) zZ (Nat.zero_le _) ?_
  rintro k hk
  have hfk := fits_sum (tb := tb) hL hp k
  have hbk : ((2 * L + 2) * ps.length + 2) * k + 1 ≤ 200000000 := by
    have h1 := Nat.mul_le_mul (show 2 * L + 2 ≤ 2002 from by omega) (show ps.length ≤ 12 from hl)
    have h2 := Nat.mul_le_mul (show (2 * L + 2) * ps.length + 2 ≤ 24026 from by omega) (show k ≤ 4096 from by omega)
    omega
  refine yG (oj hn_g4 hn_g5) ?_
  refine yF (oj hn_g4 hn_g5) (fun hb=>?_) fun hb=>?_
  · have hin : k < tb.length := by have := of_decide_eq_true hb; omega
    have hfs : fits (stQ ps k) 100000 := by
      refine fits_mono (fits_wt hL hp _) ?_
      have h1 := Nat.mul_le_mul (show 2 * L + 2 ≤ 2002 from by omega) (show ps.length ≤ 12 from hl)
      omega
    refine yG (oj hn_g4 hn_g5) ?_
    refine yF (oj hn_g4 hn_g5) (fun hc=>?_) fun hc=>?_
    · refine yG (oj hn_g4 hn_g5) ?_
      refine aw_dr 5 ty_mixed (by kernel_rfl) ?_
      refine yG (oj hn_g4 hn_g5) ?_
      refine yD (oj hn_g4 hn_g5) (state_fa ps k ?_ L hL ?_ hp ?_) ?_
      · omega
      · omega
      · omega
      refine yG (oj hn_g4 hn_g5) ?_
      refine yD (oj hn_g4 hn_g5) (sadd_fa _ _ ?_ ?_) ?_
      · exact rd_wf (fits_mono hfk (by omega))
      · exact rd_wf (fits_mono hfs (by omega))
      rw [rd_q, rd_q]
      refine yG (oj hn_g4 hn_g5) ?_
      refine yW (oj hn_g4 hn_g5) ?_
      refine yS (oj hn_g4 hn_g5) ?_
      refine yG (oj hn_g4 hn_g5) ?_
      have e : sumQ ps tb (k + 1) = sumQ ps tb k + stQ ps k := by rw [sumQ, if_pos hc]
      rw [← e]
      exact aw_stop ⟨k + 1, by omega, (zB (oj hn_g4 hn_g5)), zZ, by omega⟩
    · refine yG (oj hn_g4 hn_g5) ?_
      have e : sumQ ps tb (k + 1) = sumQ ps tb k := by rw [sumQ, if_neg (by rw [hc]; simp)]
      rw [← e]
      exact aw_stop ⟨k + 1, by omega, (zB (oj hn_g4 hn_g5)), zZ, by omega⟩
  · have hin : k = tb.length := by have := of_decide_eq_false hb; omega
    subst hin
    refine yG (oj hn_g4 hn_g5) ?_
    refine yW (oj hn_g4 hn_g5) ?_
    refine yS (oj hn_g4 hn_g5) ?_
    refine yG (oj hn_g4 hn_g5) ?_
    refine yT hC (oj hn_g4 hn_g5) ?_
    exact ler_rd rfl
end Go.Proofs.YtmfmnmkipjpjhaaGreat

/- Orders: the first error, places. No program in sight. -/
namespace Go.PN
def oscan (vars : Int) (seen : List Int) : List Int → Int
  | [] => 0
  | x :: xs => if x < 0 ∨ vars ≤ x then 3 else if x ∈ seen then 6 else oscan vars (seen ++ [x]) xs
/-- The number of the first error of an order. -/
def ocode (o : List Int) (vars : Int) : Int := if vars < 0 ∨ 24 < vars then 3 else if (o.length : Int) ≠ vars then 11 else oscan vars [] o
def placeZ (l : List Int) (n : Int) : Int := if n ∈ l then (l.idxOf n : Int) else -1

theorem getDZ {xs : List Int} {i : Nat} (h : i < xs.length) : xs.getD i 0 = xs[i] := by
  rw [List.getD_eq_getElem?_getD, List.getElem?_eq_getElem h]; rfl
theorem oscan_step {vars : Int} {o : List Int} {i : Nat} (h : i < o.length) : oscan vars (o.take i) (o.drop i) = if o.getD i 0 < 0 ∨ vars ≤ o.getD i 0 then 3 else if o.getD i 0 ∈ o.take i then 6 else oscan vars (o.take (i + 1)) (o.drop (i + 1)) := by
  rw [List.drop_eq_getElem_cons h, oscan, getDZ h, List.take_succ_eq_append_getElem h]
theorem take_memZ {o : List Int} {i : Nat} {x : Int} : x ∈ o.take i ↔ ∃ k, k < i ∧ k < o.length ∧ o.getD k 0 = x := by
  constructor
  · intro h
    obtain ⟨k, hk, e⟩ := List.mem_iff_getElem.1 h
    simp only [List.length_take] at hk
    refine ⟨k, by omega, by omega, ?_⟩
    rw [getDZ (by omega), ← e, List.getElem_take]
  · rintro ⟨k, h1, h2, rfl⟩
    rw [getDZ h2]
    exact List.mem_iff_getElem.2 ⟨k, by simp; omega, by rw [List.getElem_take]⟩
/-- What an order without error is. -/
structure Perm0 (o : List Int) : Prop where
  range : ∀ x ∈ o, 0 ≤ x ∧ x < o.length
  nodup : o.Nodup
theorem oscan_ok {vars : Int} : ∀ (o seen : List Int), oscan vars seen o = 0 → seen.Nodup → (∀ x ∈ o, 0 ≤ x ∧ x < vars) ∧ (seen ++ o).Nodup
  | [], seen, _, hs => ⟨by simp, by simpa using hs⟩
  | x :: o, seen, h, hs => by
    rw [oscan] at h
    split at h
    · cases h
    · split at h
      · cases h
      · rename_i h1 h2
        have hn : (seen ++ [x]).Nodup := by
          rw [List.nodup_append]
          exact ⟨hs, by simp, fun a ha b hb e => h2 (by simp only [List.mem_singleton] at hb; rw [← hb, ← e]; exact ha)⟩
        obtain ⟨h3, h4⟩ := oscan_ok o (seen ++ [x]) h hn
        refine ⟨fun y hy => ?_, by simpa using h4⟩
        rcases List.mem_cons.1 hy with rfl | hy
        · omega
        · exact h3 y hy
theorem ocode_ok {o : List Int} (h : ocode o o.length = 0) : Perm0 o ∧ o.length ≤ 24 := by
  unfold ocode at h
  split at h
  · cases h
  · rename_i h1
    rw [if_neg (by simp)] at h
    obtain ⟨h2, h3⟩ := oscan_ok o [] h (by simp)
    exact ⟨⟨h2, by simpa using h3⟩, by omega⟩
theorem nodup_le : ∀ {l m : List Int}, l.Nodup → (∀ x ∈ l, x ∈ m) → l.length ≤ m.length
  | [], m, _, _ => by simp
  | a :: l, m, hn, hs => by
    simp only [List.nodup_cons] at hn
    have ha := hs a (by simp)
    have := nodup_le (l := l) (m := m.erase a) hn.2 fun x hx => (List.mem_erase_of_ne (fun e => hn.1 (by rw [← e]; exact hx))).2 (hs x (by simp [hx]))
    rw [List.length_erase_of_mem ha] at this
    have : 0 < m.length := List.length_pos_of_mem ha
    simp only [List.length_cons]
    omega
theorem Perm0.all {o : List Int} (h : Perm0 o) {j : Nat} (hj : j < o.length) : (j : Int) ∈ o := by
  by_cases hm : (j : Int) ∈ o
  · exact hm
  · exfalso
    have := nodup_le (l := (j : Int) :: o) (m := (List.range o.length).map (fun k : Nat => (k : Int))) (by simp only [List.nodup_cons]; exact ⟨hm, h.nodup⟩) (fun x hx => by
      rw [List.mem_map]
      rcases List.mem_cons.1 hx with rfl | hx
      · exact ⟨j, by simpa using hj, rfl⟩
      · obtain ⟨h1, h2⟩ := h.range x hx
        exact ⟨x.toNat, by simp; omega, by omega⟩)
    simp at this
    omega
theorem place_get {o : List Int} (hn : o.Nodup) {k : Nat} (hk : k < o.length) : placeZ o (o.getD k 0) = k := by
  unfold placeZ
  rw [getDZ hk, if_pos (List.getElem_mem hk)]
  congr 1
  exact hn.idxOf_getElem k hk
/-- The places of the events. -/
def placesL (o : List Int) : List Int := (List.range o.length).map fun j : Nat => placeZ o (j : Int)
theorem placesL_len (o : List Int) : (placesL o).length = o.length := by simp [placesL]
theorem placesL_get {o : List Int} {j : Nat} (hj : j < o.length) : (placesL o).getD j 0 = placeZ o j := by
  rw [getDZ (by rw [placesL_len]; exact hj)]
  simp [placesL]
theorem places_end {o zs : List Int} (h : Perm0 o) (hl : zs.length = o.length) (hz : ∀ k, k < o.length → zs.getD (o.getD k 0).toNat 0 = k) : zs = placesL o := by
  apply List.ext_getElem (by rw [placesL_len]; exact hl)
  intro j h1 h2
  rw [← getDZ h1, ← getDZ h2, placesL_get (by omega)]
  have hm := h.all (j := j) (by omega)
  obtain ⟨k, hk, e⟩ := List.mem_iff_getElem.1 hm
  have h3 := hz k hk
  rw [getDZ hk, e] at h3
  have h4 := place_get h.nodup hk
  rw [getDZ hk, e] at h4
  rw [h4, ← h3]; simp
end Go.PN
