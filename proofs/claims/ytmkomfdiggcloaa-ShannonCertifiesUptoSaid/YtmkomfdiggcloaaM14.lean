/- Texts of one proof, laid one behind the other by a program (merge.py): PCub, Cub, Cub2, Shan1. -/
import Derived.Test.YtmkomfdiggcloaaM13
set_option linter.unusedSimpArgs false
set_option linter.unusedVariables false
/- Masks, cubes, weights. No program in sight. -/
namespace Go.PN
open Go.AI
/-- Is it a mask? -/
def maskB (n : Int) : Bool := decide (n ≥ 0) && decide (n < 16777216)
/-- The number of the error of a cube. -/
noncomputable def ccode (y n : Int) : Int := if !maskB y || !maskB n then 3 else if andZ .i64 y n ≠ 0 then 6 else 0
theorem andZ_nat (x y : Nat) (hx : x < 9223372036854775808) (hy : y < 9223372036854775808) : andZ .i64 (x : Int) (y : Int) = ((x &&& y : Nat) : Int) := by
  rw [andZ_eq]
  show IntKind.i64.wrap (((BitVec.ofInt 64 (x : Int) &&& BitVec.ofInt 64 (y : Int)).toNat : Nat) : Int) = _
  have : (BitVec.ofInt 64 (x : Int) &&& BitVec.ofInt 64 (y : Int)).toNat = x &&& y := by
    rw [BitVec.toNat_and]
    have e1 : ∀ z : Nat, z < 9223372036854775808 → (BitVec.ofInt 64 (z : Int)).toNat = z := fun z hz => by rw [BitVec.ofInt_natCast, BitVec.toNat_ofNat]; omega
    rw [e1 x hx, e1 y hy]
  have hlt : x &&& y < 9223372036854775808 := Nat.lt_of_le_of_lt Nat.and_le_left hx
  rw [this, IntKind.wrap_i64]; omega
theorem orZ_nat (x y : Nat) (hx : x < 9223372036854775808) (hy : y < 9223372036854775808) : orZ .i64 (x : Int) (y : Int) = ((x ||| y : Nat) : Int) := by
  rw [orZ_eq]
  show IntKind.i64.wrap (((BitVec.ofInt 64 (x : Int) ||| BitVec.ofInt 64 (y : Int)).toNat : Nat) : Int) = _
  have : (BitVec.ofInt 64 (x : Int) ||| BitVec.ofInt 64 (y : Int)).toNat = x ||| y := by
    rw [BitVec.toNat_or]
    have e1 : ∀ z : Nat, z < 9223372036854775808 → (BitVec.ofInt 64 (z : Int)).toNat = z := fun z hz => by rw [BitVec.ofInt_natCast, BitVec.toNat_ofNat]; omega
    rw [e1 x hx, e1 y hy]
  have hlt : x ||| y < 2 ^ 63 := Nat.or_lt_two_pow hx hy
  rw [this, IntKind.wrap_i64]; omega
theorem and_one_nat (x : Nat) (hx : x < 9223372036854775808) : andZ .i64 (x : Int) 1 = ((x % 2 : Nat) : Int) := by
  have := andZ_nat x 1 hx (by omega)
  rw [Nat.and_one_is_mod] at this
  exact this
theorem shrZ_nat (x n : Nat) (hn : n ≤ 64) : shrZ .i64 (x : Int) (n : Int) = ((x / 2 ^ n : Nat) : Int) := by
  rw [shrZ_eq]
  have h1 : min (n : Int).toNat IntKind.i64.bits = n := by show min (n : Int).toNat 64 = n; omega
  rw [h1, Int.fdiv_eq_ediv_of_nonneg _ (by exact Int.le_of_lt (Int.pow_pos (by omega)))]
  rw [Int.natCast_ediv, Int.natCast_pow]; rfl
theorem shl_one (n : Nat) (hn : n < 63) : shlZ .i64 1 (n : Int) = ((2 ^ n : Nat) : Int) := by
  rw [shlZ_eq]
  have h1 : min (n : Int).toNat IntKind.i64.bits = n := by show min (n : Int).toNat 64 = n; omega
  have h2 : 2 ^ n < 9223372036854775808 := by
    have h3 : 2 ^ n < 2 ^ 63 := Nat.pow_lt_pow_right (by omega) hn
    have h4 : (2 : Nat) ^ 63 = 9223372036854775808 := by decide
    rw [h4] at h3; exact h3
  rw [h1, Int.one_mul, wrap_inRange (k := .i64)]
  · rw [Int.natCast_pow]; rfl
  · simp only [inRange]
    have : ((2 : Int) ^ n) = ((2 ^ n : Nat) : Int) := by rw [Int.natCast_pow]; rfl
    rw [this]
    generalize 2 ^ n = z at h2
    omega
/-- One bit of a number, as the program asks for it. -/
theorem bit_eq (x n : Nat) : (((x / 2 ^ n % 2 : Nat) : Int) == 1) = x.testBit n := by
  rw [Nat.testBit_eq_decide_div_mod_eq, Bool.eq_iff_iff]
  simp only [beq_iff_eq, decide_eq_true_eq]
  omega
theorem and_pow_zero (x n : Nat) : x &&& 2 ^ n = 0 ↔ x.testBit n = false := by
  constructor
  · intro h
    have h1 : (x &&& 2 ^ n).testBit n = false := by rw [h]; simp
    rw [Nat.testBit_and, Nat.testBit_two_pow_self, Bool.and_true] at h1
    exact h1
  · intro h
    apply Nat.eq_of_testBit_eq
    intro j
    rw [Nat.testBit_and, Nat.zero_testBit, Nat.testBit_two_pow]
    by_cases e : n = j
    · subst e; simp [h]
    · simp [e]
theorem bit_and (x n : Nat) : (((x &&& 2 ^ n : Nat) : Int) != 0) = x.testBit n := by
  have h := and_pow_zero x n
  rw [Bool.eq_iff_iff]
  simp only [bne_iff_ne, ne_eq]
  constructor
  · intro h1
    cases hb : x.testBit n with
    | true => rfl
    | false => exact absurd (by have := h.2 hb; omega) h1
  · intro h1 h2
    have := h.1 (by omega)
    rw [h1] at this; cases this
/-- A factor of a weight. -/
def wfac (y n i : Nat) (q : Rat) : Rat := (if y.testBit i then q else 1) * (if n.testBit i then 1 - q else 1)
def wtTo (y n : Nat) (ps : List RD) : Nat → Rat
  | 0 => 1
  | k + 1 => wtTo y n ps k * wfac y n k (ps.getD k rd0).q
theorem fits_one : fits (1 : Rat) 1 := ⟨by simp, by simp⟩
theorem getD_wf {ps : List RD} {L : Nat} (h : ∀ r ∈ ps, r.wf L) (i : Nat) : (ps.getD i rd0).wf L := by
  rw [List.getD_eq_getElem?_getD]
  cases hi : ps[i]? with
  | none => simp only [Option.getD_none, rd0]; exact ⟨by simp, by simp, by simp, by simp⟩
  | some r => exact h r (List.mem_of_getElem? hi)
theorem fits_wt {y n : Nat} {ps : List RD} {L : Nat} (hL : 1 ≤ L) (h : ∀ r ∈ ps, r.wf L) : ∀ k, fits (wtTo y n ps k) ((2 * L + 2) * k + 1)
  | 0 => by rw [Nat.mul_zero, Nat.zero_add]; exact fits_one
  | k + 1 => by
    have h1 := fits_wt (y := y) (n := n) hL h k
    have h2 := RD.fits (getD_wf h k) hL
    have h3 := fits_sub fits_one h2
    have h4 : fits (wfac y n k (ps.getD k rd0).q) (2 * L + 2) := by
      unfold wfac
      refine fits_mono (fits_mul (L := L) (M := 1 + L + 1) ?_ ?_) (by omega)
      · split
        · exact h2
        · exact fits_mono fits_one hL
      · split
        · exact h3
        · exact fits_mono fits_one (by omega)
    refine fits_mono (fits_mul h1 h4) ?_
    rw [Nat.mul_add]; omega
end Go.PN
namespace Go.AI
theorem updF_ofL {xs bs : List CV} (h : xs.length = bs.length) : updF (ofL xs) 0 bs = ofL bs := by
  funext j
  by_cases hj : j < bs.length
  · have := updF_in bs (ofL xs) 0 j hj
    rw [Nat.zero_add] at this
    exact this
  · rw [updF_out _ _ _ _ (by omega), ofL_at, ofL_at, List.getElem?_eq_none (by omega), List.getElem?_eq_none (by omega)]
@[go_sem ↓] theorem updF_1 (a b : CV) : updF (ofL [a]) 0 [b] = ofL [b] := updF_ofL rfl
@[go_sem ↓] theorem updF_2 (a b c d : CV) : updF (ofL [a, b]) 0 [c, d] = ofL [c, d] := updF_ofL rfl
@[go_sem ↓] theorem updF_3 (a b c x y z : CV) : updF (ofL [a, b, c]) 0 [x, y, z] = ofL [x, y, z] := updF_ofL rfl
end Go.AI

/- cube: mask, Check, Weight; faultlineref12: Mask, Check, Weight. -/
namespace Go.Proofs.Ytmkomfdiggcloaa
open Go.AI Go.PN
attribute [local irreducible] aw Fa Fh DrK
set_option maxHeartbeats 400000 in
theorem mask_fa (n : Int) : Fa Try.prog 48 [.c (.int .i64 n)] (.c (.bool (maskB n))) := by
  unfold maskB
  refine fa_of_body Try.func48 rfl rfl (by simp [Try.ntmps48]) fun C hC => ?_
  simp only [initS, Nat.reduceAdd]
  repeat first|apply wa1|apply wa2|apply wa3|apply wa4|apply wa5 rfl|apply wa6|apply wa7|(refine wb1 rfl fun R r=>?_;simp only[go_sem];with_reducible refine r _ _ ?_;clear r R)
  refine aw_split 5 (by simp only[go_sem]<;>rfl) (fun hb => ?_) (fun hb => ?_) <;> (try simp only[go_sem])
  · repeat first|apply wa1|apply wa2|apply wa3|apply wa4|apply wa5 rfl|apply wa6|apply wa7|(refine wb1 rfl fun R r=>?_;simp only[go_sem];with_reducible refine r _ _ ?_;clear r R)
    (refine aw_retq hC rfl fun R r=>?_;simp only[go_sem];refine r _ rfl ?_;clear r R)
    exact .one (.c (ler_bool (by rw [hb]; rfl)))
  · repeat first|apply wa1|apply wa2|apply wa3|apply wa4|apply wa5 rfl|apply wa6|apply wa7|(refine wb1 rfl fun R r=>?_;simp only[go_sem];with_reducible refine r _ _ ?_;clear r R)
    (refine aw_retq hC rfl fun R r=>?_;simp only[go_sem];refine r _ rfl ?_;clear r R)
    exact .one (.c (ler_bool (by rw [hb]; rfl)))
theorem ccode_m {y n : Int} (h : maskB y = false ∨ maskB n = false) : ccode y n = 3 := by
  unfold ccode
  rw [if_pos]
  rcases h with h | h <;> simp [h]
theorem ccode_t {y n : Int} (h1 : maskB y = true) (h2 : maskB n = true) (h : (andZ .i64 y n != 0) = true) : ccode y n = 6 := by
  unfold ccode
  rw [if_neg (by simp [h1, h2]), if_pos (by simpa using h)]
theorem ccode_0 {y n : Int} (h1 : maskB y = true) (h2 : maskB n = true) (h : (andZ .i64 y n != 0) = false) : ccode y n = 0 := by
  unfold ccode
  rw [if_neg (by simp [h1, h2]), if_neg (by simpa using h)]
theorem not_t {b : Bool} (h : (!b) = true) : b = false := by cases b <;> simp_all
theorem not_f {b : Bool} (h : (!b) = false) : b = true := by cases b <;> simp_all
set_option maxHeartbeats 800000 in
theorem ccheck_fa (y n : Int) : Fa Try.prog 28 [.agg [.int .i64 y, .int .i64 n]] (.c (errA (ccode y n))) := by
  refine fa_of_body Try.func28 rfl rfl (by simp [Try.ntmps28]) fun C hC => ?_
  simp only [initS, Nat.reduceAdd]
  repeat first|apply wa1|apply wa2|apply wa3|apply wa4|apply wa5 rfl|apply wa6|apply wa7|(refine wb1 rfl fun R r=>?_;simp only[go_sem];with_reducible refine r _ _ ?_;clear r R)
  refine aw_box rfl rfl rfl (by simp only[go_sem]<;>rfl) (fun _ e => by cases e) rfl fun g1 hn_g1 => ?_
  replace hn_g1 := Heap.ne_of hn_g1
  first | dsimp only [Heap.ne, gh] at hn_g1 | dsimp only [Heap.ne] at hn_g1 | skip
  (try simp only[go_sem, hn_g1])
  repeat first|apply wa1|apply wa2|apply wa3|apply wa4|apply wa5 rfl|apply wa6|apply wa7|(refine wb1 rfl fun R r=>?_;simp only[go_sem, hn_g1];with_reducible refine r _ _ ?_;clear r R)
  refine aw_callq (mask_fa y) rfl rfl rfl (by first|exact True.intro|simp only[go_sem, hn_g1]<;>and_intros<;>first|exact True.intro|exact .c (.refl _)|exact .c wl2|exact .agg (lel_refl _)|exact .agg (by simp only[LeL];and_intros<;>first|exact True.intro|exact .refl _|exact wl2)|exact .c .nils) ?_
  (try simp only[go_sem, hn_g1])
  repeat first|apply wa1|apply wa2|apply wa3|apply wa4|apply wa5 rfl|apply wa6|apply wa7|(refine wb1 rfl fun R r=>?_;simp only[go_sem, hn_g1];with_reducible refine r _ _ ?_;clear r R)
  refine aw_split 8 (by simp only[go_sem, hn_g1]<;>rfl) (fun h1 => ?_) (fun h1 => ?_) <;> (try simp only[go_sem, hn_g1])
  · repeat first|apply wa1|apply wa2|apply wa3|apply wa4|apply wa5 rfl|apply wa6|apply wa7|(refine wb1 rfl fun R r=>?_;simp only[go_sem, hn_g1];with_reducible refine r _ _ ?_;clear r R)
    refine aw_condT (by simp only[go_sem, hn_g1]<;>rfl) ?_
    repeat first|apply wa1|apply wa2|apply wa3|apply wa4|apply wa5 rfl|apply wa6|apply wa7|(refine wb1 rfl fun R r=>?_;simp only[go_sem, hn_g1];with_reducible refine r _ _ ?_;clear r R)
    (refine aw_retq hC rfl fun R r=>?_;simp only[go_sem, hn_g1];refine r _ rfl ?_;clear r R)
    rw [ccode_m (.inl (not_t h1))]
    exact .one (.c (ler_errN rfl (by omega)))
  · repeat first|apply wa1|apply wa2|apply wa3|apply wa4|apply wa5 rfl|apply wa6|apply wa7|(refine wb1 rfl fun R r=>?_;simp only[go_sem, hn_g1];with_reducible refine r _ _ ?_;clear r R)
    refine aw_callq (mask_fa n) rfl rfl rfl (by first|exact True.intro|simp only[go_sem, hn_g1]<;>and_intros<;>first|exact True.intro|exact .c (.refl _)|exact .c wl2|exact .agg (lel_refl _)|exact .agg (by simp only[LeL];and_intros<;>first|exact True.intro|exact .refl _|exact wl2)|exact .c .nils) ?_
    (try simp only[go_sem, hn_g1])
    repeat first|apply wa1|apply wa2|apply wa3|apply wa4|apply wa5 rfl|apply wa6|apply wa7|(refine wb1 rfl fun R r=>?_;simp only[go_sem, hn_g1];with_reducible refine r _ _ ?_;clear r R)
    refine aw_cond (by simp only[go_sem, hn_g1]<;>rfl) (fun h2 => ?_) (fun h2 => ?_)
    · repeat first|apply wa1|apply wa2|apply wa3|apply wa4|apply wa5 rfl|apply wa6|apply wa7|(refine wb1 rfl fun R r=>?_;simp only[go_sem, hn_g1];with_reducible refine r _ _ ?_;clear r R)
      (refine aw_retq hC rfl fun R r=>?_;simp only[go_sem, hn_g1];refine r _ rfl ?_;clear r R)
      rw [ccode_m (.inr (not_t h2))]
      exact .one (.c (ler_errN rfl (by omega)))
    · repeat first|apply wa1|apply wa2|apply wa3|apply wa4|apply wa5 rfl|apply wa6|apply wa7|(refine wb1 rfl fun R r=>?_;simp only[go_sem, hn_g1];with_reducible refine r _ _ ?_;clear r R)
      refine aw_cond (by simp only[go_sem, hn_g1]<;>rfl) (fun h3 => ?_) (fun h3 => ?_)
      · repeat first|apply wa1|apply wa2|apply wa3|apply wa4|apply wa5 rfl|apply wa6|apply wa7|(refine wb1 rfl fun R r=>?_;simp only[go_sem, hn_g1];with_reducible refine r _ _ ?_;clear r R)
        (refine aw_retq hC rfl fun R r=>?_;simp only[go_sem, hn_g1];refine r _ rfl ?_;clear r R)
        rw [ccode_t (not_f h1) (not_f h2) h3]
        exact .one (.c (ler_errN rfl (by omega)))
      · repeat first|apply wa1|apply wa2|apply wa3|apply wa4|apply wa5 rfl|apply wa6|apply wa7|(refine wb1 rfl fun R r=>?_;simp only[go_sem, hn_g1];with_reducible refine r _ _ ?_;clear r R)
        (refine aw_retq hC rfl fun R r=>?_;simp only[go_sem, hn_g1];refine r _ rfl ?_;clear r R)
        exact .one (.c (ler_err0 (ccode_0 (not_f h1) (not_f h2) h3)))
theorem one_wf' {L : Nat} (h : 1 ≤ L) : (rd ((1 : Int) : Rat)).wf L := rd_wf (fits_mono (L := 1) ⟨by simp, by simp⟩ h)
theorem cast1 : ((1 : Int) : Rat) = 1 := rfl
end Go.Proofs.Ytmkomfdiggcloaa

/- cube: Weight. -/
namespace Go.Proofs.Ytmkomfdiggcloaa
open Go.AI Go.PN
attribute [local irreducible] aw Fa Fh DrK
theorem ccode_and {y n : Nat} (hy : y < 16777216) (hn : n < 16777216) (h : ccode y n = 0) : y &&& n = 0 := by
  unfold ccode at h
  split at h
  · cases h
  · split at h
    · cases h
    · rename_i h1
      rw [andZ_nat y n (by omega) (by omega)] at h1
      omega
theorem no_both {y n : Nat} (h : y &&& n = 0) {i : Nat} (hy : y.testBit i = true) : n.testBit i = false := by
  have := congrArg (fun z => z.testBit i) h
  simp only [Nat.testBit_and, Nat.zero_testBit, hy, Bool.true_and] at this
  exact this
set_option maxRecDepth 100000 in
set_option maxHeartbeats 3200000 in
theorem weight_fa (y n : Nat) (ps : List RD) (hy : y < 16777216) (hn : n < 16777216) (hcc : ccode y n = 0) (L : Nat) (hL : 1 ≤ L) (hL2 : L ≤ 1000000) (hp : ∀ r ∈ ps, r.wf L) (hl : ps.length ≤ 24) (hpr : ∀ r ∈ ps, r.prob = true) :
    Fa Try.prog 29 [.agg [.int .i64 y, .int .i64 n], .c (rats false ps)] (.tup [.agg (rdc (if (y ||| n) / 2 ^ ps.length = 0 then rd (wtTo y n ps ps.length) else rd0)), .c (errA (if (y ||| n) / 2 ^ ps.length = 0 then 0 else 10))]) := by
  have hdis := ccode_and hy hn hcc
  refine fa_of_body Try.func29 rfl rfl (by simp [Try.ntmps29]) fun C hC => ?_
  simp only [initS, Nat.reduceAdd]
  repeat first|apply wa1|apply wa2|apply wa3|apply wa4|apply wa5 rfl|apply wa6|apply wa7|(refine wb1 rfl fun R r=>?_;simp only[go_sem];with_reducible refine r _ _ ?_;clear r R)
  refine aw_box rfl rfl rfl (by simp only[go_sem]<;>rfl) (fun _ e => by cases e) rfl fun g2 hn_g2 => ?_
  replace hn_g2 := Heap.ne_of hn_g2
  first | dsimp only [Heap.ne, gh] at hn_g2 | dsimp only [Heap.ne] at hn_g2 | skip
  (try simp only[go_sem, hn_g2])
  refine aw_alloc rfl rfl rfl (by simp only[go_sem, hn_g2]<;>rfl) fun g4 hn_g4 => ?_
  replace hn_g4 := Heap.ne_of hn_g4
  first | dsimp only [Heap.ne, gh] at hn_g4 | dsimp only [Heap.ne] at hn_g4 | skip
  (try simp only[go_sem, hn_g2, hn_g4])
  repeat first|apply wa1|apply wa2|apply wa3|apply wa4|apply wa5 rfl|apply wa6|apply wa7|(refine wb1 rfl fun R r=>?_;simp only[go_sem, hn_g2, hn_g4];with_reducible refine r _ _ ?_;clear r R)
  refine aw_callq (ccheck_fa y n) rfl rfl rfl (by first|exact True.intro|simp only[go_sem, hn_g2, hn_g4]<;>and_intros<;>first|exact True.intro|exact .c (.refl _)|exact .c wl2|exact .agg (lel_refl _)|exact .agg (by simp only[LeL];and_intros<;>first|exact True.intro|exact .refl _|exact wl2)|exact .c .nils) ?_
  (try simp only[go_sem, hn_g2, hn_g4])
  rw [hcc]
  have e0 : (decide ((0 : Int) = 0)) = true := rfl
  repeat first|apply wa1|apply wa2|apply wa3|apply wa4|apply wa5 rfl|apply wa6|apply wa7|(refine wb1 rfl fun R r=>?_;simp only[go_sem, hn_g2, hn_g4, e0];with_reducible refine r _ _ ?_;clear r R)
  refine aw_condF (by simp only[go_sem, hn_g2, hn_g4, e0]<;>rfl) ?_
  repeat first|apply wa1|apply wa2|apply wa3|apply wa4|apply wa5 rfl|apply wa6|apply wa7|(refine wb1 rfl fun R r=>?_;simp only[go_sem, hn_g2, hn_g4, e0];with_reducible refine r _ _ ?_;clear r R)
  have e24 : decide ((ps.length : Int) > 24) = false := decide_eq_false (by omega)
  repeat first|apply wa1|apply wa2|apply wa3|apply wa4|apply wa5 rfl|apply wa6|apply wa7|(refine wb1 rfl fun R r=>?_;simp only[go_sem, hn_g2, hn_g4, e0, e24];with_reducible refine r _ _ ?_;clear r R)
  refine aw_condF (by simp only[go_sem, hn_g2, hn_g4, e0, e24]<;>rfl) ?_
  repeat first|apply wa7|(refine wb1 rfl fun R r=>?_;simp only[go_sem, hn_g2, hn_g4, e0, e24];with_reducible refine r _ _ ?_;clear r R)
  apply aw_skip
  apply aw_seq
  refine aw_cut (fun _ : Unit => [(1, .c (rats false ps)), (2, .c (.optr g2 0)), (4, .c (.optr g4 0))]) (fun _ => [(g4, .cells 31 3 (ofL [.bool false, .nils, .nils])), (g2, .cells 41 2 (ofL [.int .i64 (y : Int), .int .i64 (n : Int)]))]) (fun _ => ps.length ≤ 24) ?_ ?_
  · as_aux_lemma =>
    repeat first|apply wa1|apply wa2|apply wa3|apply wa4|apply wa5 rfl|apply wa6|apply wa7|(refine wb1 rfl fun R r=>?_;simp only[go_sem, hn_g2, hn_g4, e0, e24];with_reducible refine r _ _ ?_;clear r R)|apply wa8|(refine wd1 rfl fun R r=>?_;simp only[go_sem, hn_g2, hn_g4, e0, e24];with_reducible refine r _ _ ?_;clear r R)
    refine aw_lp (fun i : Nat => [(1, .c (rats false ps)), (2, .c (.optr g2 0)), (4, .c (.optr g4 0)), (25, .c (rats false ps)), (26, .c (.int .i64 ps.length)), (27, .c (.int .i64 i))]) (fun _ => [(g4, .cells 31 3 (ofL [.bool false, .nils, .nils])), (g2, .cells 41 2 (ofL [.int .i64 (y : Int), .int .i64 (n : Int)]))]) (fun i => i ≤ ps.length) (fun i => ps.length - i) 0 (by simp only[go_sem, hn_g2, hn_g4, e0, e24]<;>and_intros<;>first|exact True.intro|(with_reducible rfl)|exact c_int (by omega)|rfl) (List.Sublist.refl _) (Nat.zero_le _) ?_
    rintro i hi
    repeat first|apply wa1|apply wa2|apply wa3|apply wa4|apply wa5 rfl|apply wa6|apply wa7|(refine wb1 rfl fun R r=>?_;simp only[go_sem, hn_g2, hn_g4, e0, e24];with_reducible refine r _ _ ?_;clear r R)|apply wa8|(refine wd1 rfl fun R r=>?_;simp only[go_sem, hn_g2, hn_g4, e0, e24];with_reducible refine r _ _ ?_;clear r R)
    refine aw_cond (by simp only[go_sem, hn_g2, hn_g4, e0, e24]<;>rfl) (fun hb => ?_) (fun hb => ?_)
    · have hin : i < ps.length := by have := of_decide_eq_true hb; omega
      have hpi := hpr (ps.getD i rd0) (by rw [List.getD_eq_getElem?_getD, List.getElem?_eq_getElem hin]; exact List.getElem_mem hin)
      repeat first|apply wa1|apply wa2|apply wa3|apply wa4|apply wa5 rfl|apply wa6|apply wa7|(refine wb1 rfl fun R r=>?_;simp only[go_sem, hn_g2, hn_g4, e0, e24];with_reducible refine r _ _ ?_;clear r R)|apply wa8|(refine wd1 rfl fun R r=>?_;simp only[go_sem, hn_g2, hn_g4, e0, e24];with_reducible refine r _ _ ?_;clear r R)
      refine aw_alloc rfl rfl rfl (by simp only[go_sem, hn_g2, hn_g4, e0, e24]<;>rfl) fun g8 hn_g8 => ?_
      replace hn_g8 := Heap.ne_of hn_g8
      first | dsimp only [Heap.ne, gh] at hn_g8 | dsimp only [Heap.ne] at hn_g8 | skip
      (try simp only[go_sem, hn_g2, hn_g4, e0, e24, hn_g8])
      repeat first|apply wa1|apply wa2|apply wa3|apply wa4|apply wa5 rfl|apply wa6|apply wa7|(refine wb1 rfl fun R r=>?_;simp only[go_sem, hn_g2, hn_g4, e0, e24, hn_g8];with_reducible refine r _ _ ?_;clear r R)|apply wa8|(refine wd1 rfl fun R r=>?_;simp only[go_sem, hn_g2, hn_g4, e0, e24, hn_g8];with_reducible refine r _ _ ?_;clear r R)
      refine aw_store rfl rfl rfl rfl (by simp only[go_sem, hn_g2, hn_g4, e0, e24, hn_g8]<;>rfl) (by simp only[go_sem, hn_g2, hn_g4, e0, e24, hn_g8]<;>rfl) (by simp only[go_sem, hn_g2, hn_g4, e0, e24, hn_g8]<;>rfl) (by simp only[go_sem, hn_g2, hn_g4, e0, e24, hn_g8]<;>rfl) (fun _ e => by cases e) (by rfl) (by rfl) (by first|omega|simp) rfl ?_
      (try simp only[go_sem, hn_g2, hn_g4, e0, e24, hn_g8])
      repeat first|apply wa1|apply wa2|apply wa3|apply wa4|apply wa5 rfl|apply wa6|apply wa7|(refine wb1 rfl fun R r=>?_;simp only[go_sem, hn_g2, hn_g4, e0, e24, hn_g8];with_reducible refine r _ _ ?_;clear r R)
      refine aw_callq (rprob_fa (ps.getD i rd0) ?_) rfl rfl rfl (by first|exact True.intro|simp only[go_sem, hn_g2, hn_g4, e0, e24, hn_g8]<;>and_intros<;>first|exact True.intro|exact .c (.refl _)|exact .c wl2|exact .agg (lel_refl _)|exact .agg (by simp only[LeL];and_intros<;>first|exact True.intro|exact .refl _|exact wl2)|exact .c .nils) ?_
      · exact wf_mono (getD_wf hp i) (by omega)
      (try simp only[go_sem, hn_g2, hn_g4, e0, e24, hn_g8])
      rw [hpi]
      repeat first|apply wa1|apply wa2|apply wa3|apply wa4|apply wa5 rfl|apply wa6|apply wa7|(refine wb1 rfl fun R r=>?_;simp only[go_sem, hn_g2, hn_g4, e0, e24, hn_g8];with_reducible refine r _ _ ?_;clear r R)
      refine aw_condF (by simp only[go_sem, hn_g2, hn_g4, e0, e24, hn_g8]<;>rfl) ?_
      repeat first|apply wa1|apply wa2|apply wa3|apply wa4|apply wa5 rfl|apply wa6|apply wa7|(refine wb1 rfl fun R r=>?_;simp only[go_sem, hn_g2, hn_g4, e0, e24, hn_g8];with_reducible refine r _ _ ?_;clear r R)
      exact aw_stop ⟨i + 1, by omega, (by simp only[go_sem, hn_g2, hn_g4, e0, e24, hn_g8]<;>and_intros<;>first|exact True.intro|(with_reducible rfl)|exact c_int (by omega)|rfl), List.Sublist.cons _ (List.Sublist.refl _), by omega⟩
    · repeat first|apply wa1|apply wa2|apply wa3|apply wa4|apply wa5 rfl|apply wa6|apply wa7|(refine wb1 rfl fun R r=>?_;simp only[go_sem, hn_g2, hn_g4, e0, e24];with_reducible refine r _ _ ?_;clear r R)
      exact aw_stop ⟨(), (by simp only[go_sem, hn_g2, hn_g4, e0, e24]<;>and_intros<;>first|exact True.intro|(with_reducible rfl)|exact c_int (by omega)|rfl), (List.Sublist.refl _), hl⟩
  as_aux_lemma =>
  rintro _ _
  have b1 := orZ_nat y n (by omega) (by omega)
  have b2 := shrZ_nat (y ||| n) ps.length (by omega)
  repeat first|apply wa1|apply wa2|apply wa3|apply wa4|apply wa5 rfl|apply wa6|apply wa7|(refine wb1 rfl fun R r=>?_;simp only[go_sem, hn_g2, hn_g4, e0, e24, b1, b2];with_reducible refine r _ _ ?_;clear r R)
  refine aw_cond (by simp only[go_sem, hn_g2, hn_g4, e0, e24, b1, b2]<;>rfl) (fun hx => ?_) (fun hx => ?_)
  · have hx' : (y ||| n) / 2 ^ ps.length ≠ 0 := fun e => by rw [e] at hx; simp at hx
    rw [if_neg hx', if_neg hx']
    repeat first|apply wa1|apply wa2|apply wa3|apply wa4|apply wa5 rfl|apply wa6|apply wa7|(refine wb1 rfl fun R r=>?_;simp only[go_sem, hn_g2, hn_g4, e0, e24, b1, b2];with_reducible refine r _ _ ?_;clear r R)
    refine aw_store rfl rfl rfl rfl (by simp only[go_sem, hn_g2, hn_g4, e0, e24, b1, b2]<;>rfl) (by simp only[go_sem, hn_g2, hn_g4, e0, e24, b1, b2]<;>rfl) (by simp only[go_sem, hn_g2, hn_g4, e0, e24, b1, b2]<;>rfl) (by simp only[go_sem, hn_g2, hn_g4, e0, e24, b1, b2]<;>rfl) (fun _ e => by cases e) (by rfl) (by rfl) (by first|omega|simp) rfl ?_
    (try simp only[go_sem, hn_g2, hn_g4, e0, e24, b1, b2])
    repeat first|apply wa1|apply wa2|apply wa3|apply wa4|apply wa5 rfl|apply wa6|apply wa7|(refine wb1 rfl fun R r=>?_;simp only[go_sem, hn_g2, hn_g4, e0, e24, b1, b2];with_reducible refine r _ _ ?_;clear r R)
    (refine aw_retq hC rfl fun R r=>?_;simp only[go_sem, hn_g2, hn_g4, e0, e24, b1, b2];refine r _ rfl ?_;clear r R)
    exact .tup ⟨.agg ⟨.bool _, .nils, .nils, trivial⟩, .c (ler_errN rfl (by omega)), trivial⟩
  have hx' : (y ||| n) / 2 ^ ps.length = 0 := by
    have : ((((y ||| n) / 2 ^ ps.length : Nat) : Int) == 0) = true := by simpa [bne] using hx
    have := eq_of_beq this; omega
  rw [if_pos hx', if_pos hx']
  repeat first|apply wa1|apply wa2|apply wa3|apply wa4|apply wa5 rfl|apply wa6|apply wa7|(refine wb1 rfl fun R r=>?_;simp only[go_sem, hn_g2, hn_g4, e0, e24, b1, b2];with_reducible refine r _ _ ?_;clear r R)
  refine aw_callq (rof_fa 1 ?_ ?_) rfl rfl rfl (by first|exact True.intro|simp only[go_sem, hn_g2, hn_g4, e0, e24, b1, b2]<;>and_intros<;>first|exact True.intro|exact .c (.refl _)|exact .c wl2|exact .agg (lel_refl _)|exact .agg (by simp only[LeL];and_intros<;>first|exact True.intro|exact .refl _|exact wl2)|exact .c .nils) ?_
  · omega
  · omega
  (try simp only[go_sem, hn_g2, hn_g4, e0, e24, b1, b2])
  refine aw_alloc rfl rfl rfl (by simp only[go_sem, hn_g2, hn_g4, e0, e24, b1, b2]<;>rfl) fun g9 hn_g9 => ?_
  replace hn_g9 := Heap.ne_of hn_g9
  first | dsimp only [Heap.ne, gh] at hn_g9 | dsimp only [Heap.ne] at hn_g9 | skip
  (try simp only[go_sem, hn_g2, hn_g4, e0, e24, b1, b2, hn_g9])
  repeat first|apply wa1|apply wa2|apply wa3|apply wa4|apply wa5 rfl|apply wa6|apply wa7|(refine wb1 rfl fun R r=>?_;simp only[go_sem, hn_g2, hn_g4, e0, e24, b1, b2, hn_g9];with_reducible refine r _ _ ?_;clear r R)
  refine aw_store rfl rfl rfl rfl (by simp only[go_sem, hn_g2, hn_g4, e0, e24, b1, b2, hn_g9]<;>rfl) (by simp only[go_sem, hn_g2, hn_g4, e0, e24, b1, b2, hn_g9]<;>rfl) (by simp only[go_sem, hn_g2, hn_g4, e0, e24, b1, b2, hn_g9]<;>rfl) (by simp only[go_sem, hn_g2, hn_g4, e0, e24, b1, b2, hn_g9]<;>rfl) (fun _ e => by cases e) (by rfl) (by rfl) (by first|omega|simp) rfl ?_
  (try simp only[go_sem, hn_g2, hn_g4, e0, e24, b1, b2, hn_g9])
  repeat first|apply wa1|apply wa2|apply wa3|apply wa4|apply wa5 rfl|apply wa6|apply wa7|(refine wb1 rfl fun R r=>?_;simp only[go_sem, hn_g2, hn_g4, e0, e24, b1, b2, hn_g9];with_reducible refine r _ _ ?_;clear r R)
  refine aw_alloc rfl rfl rfl (by simp only[go_sem, hn_g2, hn_g4, e0, e24, b1, b2, hn_g9]<;>rfl) fun g10 hn_g10 => ?_
  replace hn_g10 := Heap.ne_of hn_g10
  first | dsimp only [Heap.ne, gh] at hn_g10 | dsimp only [Heap.ne] at hn_g10 | skip
  (try simp only[go_sem, hn_g2, hn_g4, e0, e24, b1, b2, hn_g9, hn_g10])
  repeat first|apply wa1|apply wa2|apply wa3|apply wa4|apply wa5 rfl|apply wa6|apply wa7|(refine wb1 rfl fun R r=>?_;simp only[go_sem, hn_g2, hn_g4, e0, e24, b1, b2, hn_g9, hn_g10];with_reducible refine r _ _ ?_;clear r R)
  refine aw_store rfl rfl rfl rfl (by simp only[go_sem, hn_g2, hn_g4, e0, e24, b1, b2, hn_g9, hn_g10]<;>rfl) (by simp only[go_sem, hn_g2, hn_g4, e0, e24, b1, b2, hn_g9, hn_g10]<;>rfl) (by simp only[go_sem, hn_g2, hn_g4, e0, e24, b1, b2, hn_g9, hn_g10]<;>rfl) (by simp only[go_sem, hn_g2, hn_g4, e0, e24, b1, b2, hn_g9, hn_g10]<;>rfl) (fun _ e => by cases e) (by rfl) (by rfl) (by first|omega|simp) rfl ?_
  (try simp only[go_sem, hn_g2, hn_g4, e0, e24, b1, b2, hn_g9, hn_g10])
  repeat first|apply wa1|apply wa2|apply wa3|apply wa4|apply wa5 rfl|apply wa6|apply wa7|(refine wb1 rfl fun R r=>?_;simp only[go_sem, hn_g2, hn_g4, e0, e24, b1, b2, hn_g9, hn_g10];with_reducible refine r _ _ ?_;clear r R)
  refine aw_lp (fun k : Nat => [(2, .c (.optr g2 0)), (4, .c (.optr g4 0)), (9, .c (.optr g9 0)), (10, .c (.optr g10 0)), (50, .c (rats false ps)), (51, .c (.int .i64 ps.length)), (52, .c (.int .i64 k))]) (fun k => [(g10, .cells 31 3 (ofL (rdc (rd (wtTo y n ps k))))), (g9, .cells 31 3 (ofL (rdc (rd ((1 : Int) : Rat))))), (g4, .cells 31 3 (ofL [.bool false, .nils, .nils])), (g2, .cells 41 2 (ofL [.int .i64 (y : Int), .int .i64 (n : Int)]))])
    (fun k => k ≤ ps.length) (fun k => ps.length - k) 0 (by simp only[go_sem, hn_g2, hn_g4, e0, e24, b1, b2, hn_g9, hn_g10]<;>and_intros<;>first|exact True.intro|(with_reducible rfl)|exact c_int (by omega)|rfl) (List.Sublist.refl _) (Nat.zero_le _) ?_
  as_aux_lemma =>
  rintro k hk
  have hfk := fits_wt (y := y) (n := n) hL hp k
  have hbk : (2 * L + 2) * k + 1 ≤ 200000000 := by
    have := Nat.mul_le_mul (show 2 * L + 2 ≤ 2000002 from by omega) (show k ≤ 64 from by omega)
    omega
  have hwk : (rd (wtTo y n ps k)).wf 1073741824 := rd_wf (fits_mono hfk (by omega))
  repeat first|apply wa1|apply wa2|apply wa3|apply wa4|apply wa5 rfl|apply wa6|apply wa7|(refine wb1 rfl fun R r=>?_;simp only[go_sem, hn_g2, hn_g4, e0, e24, b1, b2, hn_g9, hn_g10];with_reducible refine r _ _ ?_;clear r R)
  refine aw_cond (by simp only[go_sem, hn_g2, hn_g4, e0, e24, b1, b2, hn_g9, hn_g10]<;>rfl) (fun hb => ?_) (fun hb => ?_)
  · have hin : k < ps.length := by have := of_decide_eq_true hb; omega
    have hpk := getD_wf hp k
    have p2 : 2 ^ k < 9223372036854775808 := by
      have h3 : 2 ^ k < 2 ^ 63 := Nat.pow_lt_pow_right (by omega) (by omega)
      have h4 : (2 : Nat) ^ 63 = 9223372036854775808 := by decide
      rw [h4] at h3; exact h3
    have c1 := shl_one k (by omega)
    have c2 := andZ_nat y (2 ^ k) (by omega) p2
    have c3 := bit_and y k
    have c4 := andZ_nat n (2 ^ k) (by omega) p2
    have c5 := bit_and n k
    repeat first|apply wa1|apply wa2|apply wa3|apply wa4|apply wa5 rfl|apply wa6|apply wa7|(refine wb1 rfl fun R r=>?_;simp only[go_sem, hn_g2, hn_g4, e0, e24, b1, b2, hn_g9, hn_g10];with_reducible refine r _ _ ?_;clear r R)
    refine aw_alloc rfl rfl rfl (by simp only[go_sem, hn_g2, hn_g4, e0, e24, b1, b2, hn_g9, hn_g10]<;>rfl) fun g12 hn_g12 => ?_
    replace hn_g12 := Heap.ne_of hn_g12
    first | dsimp only [Heap.ne, gh] at hn_g12 | dsimp only [Heap.ne] at hn_g12 | skip
    (try simp only[go_sem, hn_g2, hn_g4, e0, e24, b1, b2, hn_g9, hn_g10, hn_g12])
    repeat first|apply wa1|apply wa2|apply wa3|apply wa4|apply wa5 rfl|apply wa6|apply wa7|(refine wb1 rfl fun R r=>?_;simp only[go_sem, hn_g2, hn_g4, e0, e24, b1, b2, hn_g9, hn_g10, hn_g12];with_reducible refine r _ _ ?_;clear r R)
    refine aw_store rfl rfl rfl rfl (by simp only[go_sem, hn_g2, hn_g4, e0, e24, b1, b2, hn_g9, hn_g10, hn_g12]<;>rfl) (by simp only[go_sem, hn_g2, hn_g4, e0, e24, b1, b2, hn_g9, hn_g10, hn_g12]<;>rfl) (by simp only[go_sem, hn_g2, hn_g4, e0, e24, b1, b2, hn_g9, hn_g10, hn_g12]<;>rfl) (by simp only[go_sem, hn_g2, hn_g4, e0, e24, b1, b2, hn_g9, hn_g10, hn_g12]<;>rfl) (fun _ e => by cases e) (by rfl) (by rfl) (by first|omega|simp) rfl ?_
    (try simp only[go_sem, hn_g2, hn_g4, e0, e24, b1, b2, hn_g9, hn_g10, hn_g12])
    repeat first|apply wa1|apply wa2|apply wa3|apply wa4|apply wa5 rfl|apply wa6|apply wa7|(refine wb1 rfl fun R r=>?_;simp only[go_sem, hn_g2, hn_g4, e0, e24, b1, b2, hn_g9, hn_g10, hn_g12, c1, c2, c3, c4, c5];with_reducible refine r _ _ ?_;clear r R)
    refine aw_cond (by simp only[go_sem, hn_g2, hn_g4, e0, e24, b1, b2, hn_g9, hn_g10, hn_g12, c1, c2, c3, c4, c5]<;>rfl) (fun hc => ?_) (fun hc => ?_)
    · have hnb := no_both hdis hc
      repeat first|apply wa1|apply wa2|apply wa3|apply wa4|apply wa5 rfl|apply wa6|apply wa7|(refine wb1 rfl fun R r=>?_;simp only[go_sem, hn_g2, hn_g4, e0, e24, b1, b2, hn_g9, hn_g10, hn_g12, c1, c2, c3, c4, c5];with_reducible refine r _ _ ?_;clear r R)
      refine aw_callq (rmul_fa _ _ hwk ?_) rfl rfl rfl (by first|exact True.intro|simp only[go_sem, hn_g2, hn_g4, e0, e24, b1, b2, hn_g9, hn_g10, hn_g12, c1, c2, c3, c4, c5]<;>and_intros<;>first|exact True.intro|exact .c (.refl _)|exact .c wl2|exact .agg (lel_refl _)|exact .agg (by simp only[LeL];and_intros<;>first|exact True.intro|exact .refl _|exact wl2)|exact .c .nils) ?_
      · exact wf_mono hpk (by omega)
      (try simp only[go_sem, hn_g2, hn_g4, e0, e24, b1, b2, hn_g9, hn_g10, hn_g12, c1, c2, c3, c4, c5])
      rw [rd_q]
      repeat first|apply wa1|apply wa2|apply wa3|apply wa4|apply wa5 rfl|apply wa6|apply wa7|(refine wb1 rfl fun R r=>?_;simp only[go_sem, hn_g2, hn_g4, e0, e24, b1, b2, hn_g9, hn_g10, hn_g12, c1, c2, c3, c4, c5];with_reducible refine r _ _ ?_;clear r R)
      refine aw_store rfl rfl rfl rfl (by simp only[go_sem, hn_g2, hn_g4, e0, e24, b1, b2, hn_g9, hn_g10, hn_g12, c1, c2, c3, c4, c5]<;>rfl) (by simp only[go_sem, hn_g2, hn_g4, e0, e24, b1, b2, hn_g9, hn_g10, hn_g12, c1, c2, c3, c4, c5]<;>rfl) (by simp only[go_sem, hn_g2, hn_g4, e0, e24, b1, b2, hn_g9, hn_g10, hn_g12, c1, c2, c3, c4, c5]<;>rfl) (by simp only[go_sem, hn_g2, hn_g4, e0, e24, b1, b2, hn_g9, hn_g10, hn_g12, c1, c2, c3, c4, c5]<;>rfl) (fun _ e => by cases e) (by rfl) (by rfl) (by first|omega|simp) rfl ?_
      (try simp only[go_sem, hn_g2, hn_g4, e0, e24, b1, b2, hn_g9, hn_g10, hn_g12, c1, c2, c3, c4, c5])
      repeat first|apply wa1|apply wa2|apply wa3|apply wa4|apply wa5 rfl|apply wa6|apply wa7|(refine wb1 rfl fun R r=>?_;simp only[go_sem, hn_g2, hn_g4, e0, e24, b1, b2, hn_g9, hn_g10, hn_g12, c1, c2, c3, c4, c5];with_reducible refine r _ _ ?_;clear r R)
      have e : wtTo y n ps (k + 1) = wtTo y n ps k * (ps.getD k rd0).q := by
        rw [wtTo, wfac, hc, hnb, if_pos rfl, if_neg (c := false = true) (by simp), Rat.mul_one]
      rw [← e]
      exact aw_stop ⟨k + 1, by omega, (by simp only[go_sem, hn_g2, hn_g4, e0, e24, b1, b2, hn_g9, hn_g10, hn_g12, c1, c2, c3, c4, c5]<;>and_intros<;>first|exact True.intro|(with_reducible rfl)|exact c_int (by omega)|rfl), List.Sublist.cons _ (List.Sublist.refl _), by omega⟩
    · repeat first|apply wa1|apply wa2|apply wa3|apply wa4|apply wa5 rfl|apply wa6|apply wa7|(refine wb1 rfl fun R r=>?_;simp only[go_sem, hn_g2, hn_g4, e0, e24, b1, b2, hn_g9, hn_g10, hn_g12, c1, c2, c3, c4, c5];with_reducible refine r _ _ ?_;clear r R)
      refine aw_cond (by simp only[go_sem, hn_g2, hn_g4, e0, e24, b1, b2, hn_g9, hn_g10, hn_g12, c1, c2, c3, c4, c5]<;>rfl) (fun hd => ?_) (fun hd => ?_)
      · repeat first|apply wa1|apply wa2|apply wa3|apply wa4|apply wa5 rfl|apply wa6|apply wa7|(refine wb1 rfl fun R r=>?_;simp only[go_sem, hn_g2, hn_g4, e0, e24, b1, b2, hn_g9, hn_g10, hn_g12, c1, c2, c3, c4, c5];with_reducible refine r _ _ ?_;clear r R)
        refine aw_dr 5 ty_mixed (by kernel_rfl) ?_
        repeat first|apply wa1|apply wa2|apply wa3|apply wa4|apply wa5 rfl|apply wa6|apply wa7|(refine wb1 rfl fun R r=>?_;simp only[go_sem, hn_g2, hn_g4, e0, e24, b1, b2, hn_g9, hn_g10, hn_g12, c1, c2, c3, c4, c5];with_reducible refine r _ _ ?_;clear r R)|apply wa8|(refine wd1 rfl fun R r=>?_;simp only[go_sem, hn_g2, hn_g4, e0, e24, b1, b2, hn_g9, hn_g10, hn_g12, c1, c2, c3, c4, c5];with_reducible refine r _ _ ?_;clear r R)
        refine drk_call (rsub_fa _ _ (one_wf' ?_) ?_) rfl rfl rfl (by first|exact True.intro|simp only[go_sem, hn_g2, hn_g4, e0, e24, b1, b2, hn_g9, hn_g10, hn_g12, c1, c2, c3, c4, c5]<;>and_intros<;>first|exact True.intro|exact .c (.refl _)|exact .c wl2|exact .agg (lel_refl _)|exact .agg (by simp only[LeL];and_intros<;>first|exact True.intro|exact .refl _|exact wl2)|exact .c .nils) ?_
        · omega
        · exact wf_mono hpk (by omega)
        (try simp only[go_sem, hn_g2, hn_g4, e0, e24, b1, b2, hn_g9, hn_g10, hn_g12, c1, c2, c3, c4, c5])
        rw [rd_q, cast1]
        repeat first|apply wa1|apply wa2|apply wa3|apply wa4|apply wa5 rfl|apply wa6|apply wa7|(refine wb1 rfl fun R r=>?_;simp only[go_sem, hn_g2, hn_g4, e0, e24, b1, b2, hn_g9, hn_g10, hn_g12, c1, c2, c3, c4, c5];with_reducible refine r _ _ ?_;clear r R)|apply wa8|(refine wd1 rfl fun R r=>?_;simp only[go_sem, hn_g2, hn_g4, e0, e24, b1, b2, hn_g9, hn_g10, hn_g12, c1, c2, c3, c4, c5];with_reducible refine r _ _ ?_;clear r R)
        refine drk_call (rmul_fa _ _ hwk ?_) rfl rfl rfl (by first|exact True.intro|simp only[go_sem, hn_g2, hn_g4, e0, e24, b1, b2, hn_g9, hn_g10, hn_g12, c1, c2, c3, c4, c5]<;>and_intros<;>first|exact True.intro|exact .c (.refl _)|exact .c wl2|exact .agg (lel_refl _)|exact .agg (by simp only[LeL];and_intros<;>first|exact True.intro|exact .refl _|exact wl2)|exact .c .nils) ?_
        · exact rd_wf (fits_mono (fits_sub fits_one (RD.fits hpk hL)) (by omega))
        (try simp only[go_sem, hn_g2, hn_g4, e0, e24, b1, b2, hn_g9, hn_g10, hn_g12, c1, c2, c3, c4, c5])
        rw [rd_q, rd_q]
        repeat first|apply wa1|apply wa2|apply wa3|apply wa4|apply wa5 rfl|apply wa6|apply wa7|(refine wb1 rfl fun R r=>?_;simp only[go_sem, hn_g2, hn_g4, e0, e24, b1, b2, hn_g9, hn_g10, hn_g12, c1, c2, c3, c4, c5];with_reducible refine r _ _ ?_;clear r R)|apply wa8|(refine wd1 rfl fun R r=>?_;simp only[go_sem, hn_g2, hn_g4, e0, e24, b1, b2, hn_g9, hn_g10, hn_g12, c1, c2, c3, c4, c5];with_reducible refine r _ _ ?_;clear r R)
        refine aw_store rfl rfl rfl rfl (by simp only[go_sem, hn_g2, hn_g4, e0, e24, b1, b2, hn_g9, hn_g10, hn_g12, c1, c2, c3, c4, c5]<;>rfl) (by simp only[go_sem, hn_g2, hn_g4, e0, e24, b1, b2, hn_g9, hn_g10, hn_g12, c1, c2, c3, c4, c5]<;>rfl) (by simp only[go_sem, hn_g2, hn_g4, e0, e24, b1, b2, hn_g9, hn_g10, hn_g12, c1, c2, c3, c4, c5]<;>rfl) (by simp only[go_sem, hn_g2, hn_g4, e0, e24, b1, b2, hn_g9, hn_g10, hn_g12, c1, c2, c3, c4, c5]<;>rfl) (fun _ e => by cases e) (by rfl) (by rfl) (by first|omega|simp) rfl ?_
        (try simp only[go_sem, hn_g2, hn_g4, e0, e24, b1, b2, hn_g9, hn_g10, hn_g12, c1, c2, c3, c4, c5])
        repeat first|apply wa1|apply wa2|apply wa3|apply wa4|apply wa5 rfl|apply wa6|apply wa7|(refine wb1 rfl fun R r=>?_;simp only[go_sem, hn_g2, hn_g4, e0, e24, b1, b2, hn_g9, hn_g10, hn_g12, c1, c2, c3, c4, c5];with_reducible refine r _ _ ?_;clear r R)|apply wa8|(refine wd1 rfl fun R r=>?_;simp only[go_sem, hn_g2, hn_g4, e0, e24, b1, b2, hn_g9, hn_g10, hn_g12, c1, c2, c3, c4, c5];with_reducible refine r _ _ ?_;clear r R)
        have e : wtTo y n ps (k + 1) = wtTo y n ps k * (1 - (ps.getD k rd0).q) := by
          rw [wtTo, wfac, hc, hd, if_pos rfl, if_neg (c := false = true) (by simp), Rat.one_mul]
        rw [← e]
        exact aw_stop ⟨k + 1, by omega, (by simp only[go_sem, hn_g2, hn_g4, e0, e24, b1, b2, hn_g9, hn_g10, hn_g12, c1, c2, c3, c4, c5]<;>and_intros<;>first|exact True.intro|(with_reducible rfl)|exact c_int (by omega)|rfl), List.Sublist.cons _ (List.Sublist.refl _), by omega⟩
      · repeat first|apply wa1|apply wa2|apply wa3|apply wa4|apply wa5 rfl|apply wa6|apply wa7|(refine wb1 rfl fun R r=>?_;simp only[go_sem, hn_g2, hn_g4, e0, e24, b1, b2, hn_g9, hn_g10, hn_g12, c1, c2, c3, c4, c5];with_reducible refine r _ _ ?_;clear r R)|apply wa8|(refine wd1 rfl fun R r=>?_;simp only[go_sem, hn_g2, hn_g4, e0, e24, b1, b2, hn_g9, hn_g10, hn_g12, c1, c2, c3, c4, c5];with_reducible refine r _ _ ?_;clear r R)
        have e : wtTo y n ps (k + 1) = wtTo y n ps k := by
          rw [wtTo, wfac, hc, hd, if_neg (c := false = true) (by simp), if_neg (c := false = true) (by simp), Rat.mul_one, Rat.mul_one]
        rw [← e]
        exact aw_stop ⟨k + 1, by omega, (by simp only[go_sem, hn_g2, hn_g4, e0, e24, b1, b2, hn_g9, hn_g10, hn_g12, c1, c2, c3, c4, c5]<;>and_intros<;>first|exact True.intro|(with_reducible rfl)|exact c_int (by omega)|rfl), List.Sublist.cons _ (List.Sublist.refl _), by omega⟩
  · have hin : k = ps.length := by have := of_decide_eq_false hb; omega
    subst hin
    repeat first|apply wa1|apply wa2|apply wa3|apply wa4|apply wa5 rfl|apply wa6|apply wa7|(refine wb1 rfl fun R r=>?_;simp only[go_sem, hn_g2, hn_g4, e0, e24, b1, b2, hn_g9, hn_g10];with_reducible refine r _ _ ?_;clear r R)
    refine aw_store rfl rfl rfl rfl (by simp only[go_sem, hn_g2, hn_g4, e0, e24, b1, b2, hn_g9, hn_g10]<;>rfl) (by simp only[go_sem, hn_g2, hn_g4, e0, e24, b1, b2, hn_g9, hn_g10]<;>rfl) (by simp only[go_sem, hn_g2, hn_g4, e0, e24, b1, b2, hn_g9, hn_g10]<;>rfl) (by simp only[go_sem, hn_g2, hn_g4, e0, e24, b1, b2, hn_g9, hn_g10]<;>rfl) (fun _ e => by cases e) (by rfl) (by rfl) (by first|omega|simp) rfl ?_
    (try simp only[go_sem, hn_g2, hn_g4, e0, e24, b1, b2, hn_g9, hn_g10])
    repeat first|apply wa1|apply wa2|apply wa3|apply wa4|apply wa5 rfl|apply wa6|apply wa7|(refine wb1 rfl fun R r=>?_;simp only[go_sem, hn_g2, hn_g4, e0, e24, b1, b2, hn_g9, hn_g10];with_reducible refine r _ _ ?_;clear r R)
    (refine aw_retq hC rfl fun R r=>?_;simp only[go_sem, hn_g2, hn_g4, e0, e24, b1, b2, hn_g9, hn_g10];refine r _ rfl ?_;clear r R)
    exact .tup ⟨.agg lerl_rd, .c (ler_err0 rfl), trivial⟩
end Go.Proofs.Ytmkomfdiggcloaa

/- shannon: of, node, values; faultlineref37: value, Node, Values. -/
namespace Go.AI
open Go.PN
section
variable {E : Env} {K : List It} {σ σ' : Sl} {h : Heap}
/-- Of the first block less is known. -/
theorem aw_less {g n n' : Nat} {ty : TypeId} {f f' : Nat → CV} {h : Heap} (hn : n' ≤ n) (hf : ∀ j, j < n' → f j = f' j) (k : aw E K σ ((g, .cells ty n' f') :: h)) : aw E K σ ((g, .cells ty n f) :: h) := fun a w s => by
  refine k a w ⟨s.size, s.defers, s.slots, fun g' o' hm => ?_, s.nodup, s.keys, s.frame⟩
  rcases List.mem_cons.1 hm with e | hm
  · injection e with e1 e2
    subst e1 e2
    obtain ⟨cs, hb, hc, hj⟩ := s.heap _ _ (List.mem_cons_self ..)
    exact ⟨cs, hb, by omega, fun j hjl => by rw [← hf j hjl]; exact hj j (by omega)⟩
  · exact s.heap g' o' (List.mem_cons_of_mem _ hm)
end
theorem rats_push {vs : List RD} {n : Nat} (hn : vs.length = n) (v : RD) : ∀ j, j < (n + 1) * 3 → appF (ratsF vs) (n * 3) (ofL [.bool v.neg, ws true v.num, ws true v.den]) j = ratsF (vs ++ [v]) j := lf_push (c := fun r : RD => [CV.bool r.neg, ws true r.num, ws true r.den]) hn v (by omega)
theorem le_gsr {pre : Heap} {og : Option Nat} {e n : Nat} {vs : List RD} (hog : og = none → n = 0) (hn : ∀ g, og = some g → g ∉ pre.keys) (hl : vs.length = n) : LeC (pre ++ gh og e (n * 3) (ratsF vs)) (gs og 3 n) (rats false vs) := by
  subst hl
  exact le_gs hog hn (fun j _ => .refl _)
theorem ler_gsr {pre : Heap} {og : Option Nat} {e n : Nat} {t : Bool} {vs : List RD} (hog : og = none → n = 0) (hn : ∀ g, og = some g → g ∉ pre.keys) (hl : vs.length = n) : LeR (pre ++ gh og e (n * 3) (ratsF vs)) (gs og 3 n) (rats t vs) := by
  subst hl
  exact ler_gs hog hn (lf_ler (by omega) fun x _ k hk => by match k, hk with | 0, _ => exact .bool _ | 1, _ => exact ler_ws | 2, _ => exact ler_ws)
end Go.AI
namespace Go.PN
open Go.AI
/-- The value of a reference, by the values of the nodes. -/
def refRD (v : List RD) (r : Int) : RD := if r < 2 then rd (r : Rat) else v.getD (r - 2).toNat rd0
/-- The value of a node. -/
def nodeQ (p v : List RD) (n : DN) : Rat := (1 - (p.getD n.v.toNat rd0).q) * (refRD v n.lo).q + (p.getD n.v.toNat rd0).q * (refRD v n.hi).q
def valsL (p : List RD) : List DN → List RD → List RD
  | [], v => v
  | n :: ns, v => valsL p ns (v ++ [rd (nodeQ p v n)])
/-- A node can be looked at when there are k values and m events. -/
structure NodeOk (m k : Nat) (n : DN) : Prop where
  v0 : 0 ≤ n.v
  v1 : n.v < m
  l0 : 0 ≤ n.lo
  l1 : n.lo < k + 2
  h0 : 0 ≤ n.hi
  h1 : n.hi < k + 2
theorem ref_wf {v : List RD} {r : Int} {L : Nat} (hL : 1 ≤ L) (hv : ∀ x ∈ v, x.wf L) (h0 : 0 ≤ r) : (refRD v r).wf L := by
  unfold refRD
  split
  · have : r = 0 ∨ r = 1 := by omega
    rcases this with rfl | rfl
    · exact rd_wf (fits_mono (L := 1) ⟨by simp, by simp⟩ hL)
    · exact rd_wf (fits_mono (L := 1) ⟨by simp, by simp⟩ hL)
  · exact getD_wf hv _
theorem fits_node {p v : List RD} {n : DN} {L : Nat} (hL : 1 ≤ L) (hp : ∀ x ∈ p, x.wf L) (hv : ∀ x ∈ v, x.wf L) (h0 : 0 ≤ n.lo) (h1 : 0 ≤ n.hi) : fits (nodeQ p v n) (7 * L) := by
  have f1 := RD.fits (getD_wf hp n.v.toNat) hL
  have f2 := RD.fits (ref_wf hL hv h0) hL
  have f3 := RD.fits (ref_wf hL hv h1) hL
  exact fits_mono (fits_add (fits_mul (fits_sub fits_one f1) f2) (fits_mul f1 f3)) (by omega)
end Go.PN
namespace Go.Proofs.Ytmkomfdiggcloaa
open Go.AI Go.PN
attribute [local irreducible] aw Fa Fh DrK
set_option maxHeartbeats 800000 in
theorem of_fa' (v : List RD) (r : Int) (h0 : 0 ≤ r) (h1 : r < v.length + 2) (h2 : v.length ≤ 1099511627776) : Fa Try.prog 26 [.c (rats false v), .c (.int .i64 r)] (.agg (rdc (refRD v r))) := by
  refine fa_of_body Try.func26 rfl rfl (by simp [Try.ntmps26]) fun C hC => ?_
  simp only [initS, Nat.reduceAdd]
  repeat first|apply wa1|apply wa2|apply wa3|apply wa4|apply wa5 rfl|apply wa6|apply wa7|(refine wb1 rfl fun R r=>?_;simp only[go_sem];with_reducible refine r _ _ ?_;clear r R)
  refine aw_alloc rfl rfl rfl (by simp only[go_sem]<;>rfl) fun g4 hn_g4 => ?_
  replace hn_g4 := Heap.ne_of hn_g4
  first | dsimp only [Heap.ne, gh] at hn_g4 | dsimp only [Heap.ne] at hn_g4 | skip
  (try simp only[go_sem, hn_g4])
  repeat first|apply wa1|apply wa2|apply wa3|apply wa4|apply wa5 rfl|apply wa6|apply wa7|(refine wb1 rfl fun R r=>?_;simp only[go_sem, hn_g4];with_reducible refine r _ _ ?_;clear r R)
  refine aw_cond (by simp only[go_sem, hn_g4]<;>rfl) (fun hb => ?_) (fun hb => ?_)
  · have hb' := of_decide_eq_true hb
    repeat first|apply wa1|apply wa2|apply wa3|apply wa4|apply wa5 rfl|apply wa6|apply wa7|(refine wb1 rfl fun R r=>?_;simp only[go_sem, hn_g4];with_reducible refine r _ _ ?_;clear r R)
    refine aw_callq (rof_fa r ?_ ?_) rfl rfl rfl (by first|exact True.intro|simp only[go_sem, hn_g4]<;>and_intros<;>first|exact True.intro|exact .c (.refl _)|exact .c wl2|exact .agg (lel_refl _)|exact .agg (by simp only[LeL];and_intros<;>first|exact True.intro|exact .refl _|exact wl2)|exact .c .nils) ?_
    · omega
    · omega
    (try simp only[go_sem, hn_g4])
    repeat first|apply wa1|apply wa2|apply wa3|apply wa4|apply wa5 rfl|apply wa6|apply wa7|(refine wb1 rfl fun R r=>?_;simp only[go_sem, hn_g4];with_reducible refine r _ _ ?_;clear r R)
    refine aw_store rfl rfl rfl rfl (by simp only[go_sem, hn_g4]<;>rfl) (by simp only[go_sem, hn_g4]<;>rfl) (by simp only[go_sem, hn_g4]<;>rfl) (by simp only[go_sem, hn_g4]<;>rfl) (fun _ e => by cases e) (by rfl) (by rfl) (by first|omega|simp) rfl ?_
    (try simp only[go_sem, hn_g4])
    repeat first|apply wa1|apply wa2|apply wa3|apply wa4|apply wa5 rfl|apply wa6|apply wa7|(refine wb1 rfl fun R r=>?_;simp only[go_sem, hn_g4];with_reducible refine r _ _ ?_;clear r R)
    (refine aw_retq hC rfl fun R r=>?_;simp only[go_sem, hn_g4];refine r _ rfl ?_;clear r R)
    exact ler_rd (by rw [refRD, if_pos hb'])
  · have hb' := of_decide_eq_false hb
    repeat first|apply wa1|apply wa2|apply wa3|apply wa4|apply wa5 rfl|apply wa6|apply wa7|(refine wb1 rfl fun R r=>?_;simp only[go_sem, hn_g4];with_reducible refine r _ _ ?_;clear r R)
    refine aw_store rfl rfl rfl rfl (by simp only[go_sem, hn_g4]<;>rfl) (by simp only[go_sem, hn_g4]<;>rfl) (by simp only[go_sem, hn_g4]<;>rfl) (by simp only[go_sem, hn_g4]<;>rfl) (fun _ e => by cases e) (by rfl) (by rfl) (by first|omega|simp) rfl ?_
    (try simp only[go_sem, hn_g4])
    repeat first|apply wa1|apply wa2|apply wa3|apply wa4|apply wa5 rfl|apply wa6|apply wa7|(refine wb1 rfl fun R r=>?_;simp only[go_sem, hn_g4];with_reducible refine r _ _ ?_;clear r R)
    (refine aw_retq hC rfl fun R r=>?_;simp only[go_sem, hn_g4];refine r _ rfl ?_;clear r R)
    exact ler_rd (by rw [refRD, if_neg hb'])
abbrev dnc (n : DN) : List CV := [.int .i64 n.v, .int .i64 n.lo, .int .i64 n.hi]
set_option maxHeartbeats 1600000 in
theorem node_fa (n : DN) (p v : List RD) (L : Nat) (hL : 1 ≤ L) (hL2 : L ≤ 100000000) (hp : ∀ x ∈ p, x.wf L) (hv : ∀ x ∈ v, x.wf L) (hn : NodeOk p.length v.length n) (hvl : v.length ≤ 1099511627776) :
    Fa Try.prog 39 [.agg (dnc n), .c (rats false p), .c (rats false v)] (.agg (rdc (rd (nodeQ p v n)))) := by
  obtain ⟨v0, v1, l0, l1, h0, h1⟩ := hn
  have w1 := getD_wf hp n.v.toNat
  have w2 := ref_wf hL hv l0
  have w3 := ref_wf hL hv h0
  have f1 := RD.fits w1 hL
  have f2 := RD.fits w2 hL
  have f3 := RD.fits w3 hL
  have f4 := fits_sub fits_one f1
  have f5 := fits_mul f4 f2
  have f6 := fits_mul f1 f3
  refine fa_of_body Try.func39 rfl rfl (by simp [Try.ntmps39]) fun C hC => ?_
  simp only [initS, Nat.reduceAdd]
  repeat first|apply wa1|apply wa2|apply wa3|apply wa4|apply wa5 rfl|apply wa6|apply wa7|(refine wb1 rfl fun R r=>?_;simp only[go_sem];with_reducible refine r _ _ ?_;clear r R)
  refine aw_box rfl rfl rfl (by simp only[go_sem]<;>rfl) (fun _ e => by cases e) rfl fun g3 hn_g3 => ?_
  replace hn_g3 := Heap.ne_of hn_g3
  first | dsimp only [Heap.ne, gh] at hn_g3 | dsimp only [Heap.ne] at hn_g3 | skip
  (try simp only[go_sem, hn_g3])
  refine aw_alloc rfl rfl rfl (by simp only[go_sem, hn_g3]<;>rfl) fun g6 hn_g6 => ?_
  replace hn_g6 := Heap.ne_of hn_g6
  first | dsimp only [Heap.ne, gh] at hn_g6 | dsimp only [Heap.ne] at hn_g6 | skip
  (try simp only[go_sem, hn_g3, hn_g6])
  repeat first|apply wa1|apply wa2|apply wa3|apply wa4|apply wa5 rfl|apply wa6|apply wa7|(refine wb1 rfl fun R r=>?_;simp only[go_sem, hn_g3, hn_g6];with_reducible refine r _ _ ?_;clear r R)
  refine aw_alloc rfl rfl rfl (by simp only[go_sem, hn_g3, hn_g6]<;>rfl) fun g7 hn_g7 => ?_
  replace hn_g7 := Heap.ne_of hn_g7
  first | dsimp only [Heap.ne, gh] at hn_g7 | dsimp only [Heap.ne] at hn_g7 | skip
  (try simp only[go_sem, hn_g3, hn_g6, hn_g7])
  repeat first|apply wa1|apply wa2|apply wa3|apply wa4|apply wa5 rfl|apply wa6|apply wa7|(refine wb1 rfl fun R r=>?_;simp only[go_sem, hn_g3, hn_g6, hn_g7];with_reducible refine r _ _ ?_;clear r R)
  refine aw_store rfl rfl rfl rfl (by simp only[go_sem, hn_g3, hn_g6, hn_g7]<;>rfl) (by simp only[go_sem, hn_g3, hn_g6, hn_g7]<;>rfl) (by simp only[go_sem, hn_g3, hn_g6, hn_g7]<;>rfl) (by simp only[go_sem, hn_g3, hn_g6, hn_g7]<;>rfl) (fun _ e => by cases e) (by rfl) (by rfl) (by first|omega|simp) rfl ?_
  (try simp only[go_sem, hn_g3, hn_g6, hn_g7])
  repeat first|apply wa1|apply wa2|apply wa3|apply wa4|apply wa5 rfl|apply wa6|apply wa7|(refine wb1 rfl fun R r=>?_;simp only[go_sem, hn_g3, hn_g6, hn_g7];with_reducible refine r _ _ ?_;clear r R)
  refine aw_dr 15 ty_mixed (by kernel_rfl) ?_
  repeat first|apply wa1|apply wa2|apply wa3|apply wa4|apply wa5 rfl|apply wa6|apply wa7|(refine wb1 rfl fun R r=>?_;simp only[go_sem, hn_g3, hn_g6, hn_g7];with_reducible refine r _ _ ?_;clear r R)|apply wa8|(refine wd1 rfl fun R r=>?_;simp only[go_sem, hn_g3, hn_g6, hn_g7];with_reducible refine r _ _ ?_;clear r R)
  refine drk_call (rof_fa 1 ?_ ?_) rfl rfl rfl (by first|exact True.intro|simp only[go_sem, hn_g3, hn_g6, hn_g7]<;>and_intros<;>first|exact True.intro|exact .c (.refl _)|exact .c wl2|exact .agg (lel_refl _)|exact .agg (by simp only[LeL];and_intros<;>first|exact True.intro|exact .refl _|exact wl2)|exact .c .nils) ?_
  · omega
  · omega
  (try simp only[go_sem, hn_g3, hn_g6, hn_g7])
  repeat first|apply wa1|apply wa2|apply wa3|apply wa4|apply wa5 rfl|apply wa6|apply wa7|(refine wb1 rfl fun R r=>?_;simp only[go_sem, hn_g3, hn_g6, hn_g7];with_reducible refine r _ _ ?_;clear r R)|apply wa8|(refine wd1 rfl fun R r=>?_;simp only[go_sem, hn_g3, hn_g6, hn_g7];with_reducible refine r _ _ ?_;clear r R)
  refine drk_call (rsub_fa _ _ (one_wf' ?_) ?_) rfl rfl rfl (by first|exact True.intro|simp only[go_sem, hn_g3, hn_g6, hn_g7]<;>and_intros<;>first|exact True.intro|exact .c (.refl _)|exact .c wl2|exact .agg (lel_refl _)|exact .agg (by simp only[LeL];and_intros<;>first|exact True.intro|exact .refl _|exact wl2)|exact .c .nils) ?_
  · omega
  · exact wf_mono w1 (by omega)
  (try simp only[go_sem, hn_g3, hn_g6, hn_g7])
  rw [rd_q, cast1]
  repeat first|apply wa1|apply wa2|apply wa3|apply wa4|apply wa5 rfl|apply wa6|apply wa7|(refine wb1 rfl fun R r=>?_;simp only[go_sem, hn_g3, hn_g6, hn_g7];with_reducible refine r _ _ ?_;clear r R)|apply wa8|(refine wd1 rfl fun R r=>?_;simp only[go_sem, hn_g3, hn_g6, hn_g7];with_reducible refine r _ _ ?_;clear r R)
  refine drk_call (of_fa' v n.lo l0 ?_ hvl) rfl rfl rfl (by first|exact True.intro|simp only[go_sem, hn_g3, hn_g6, hn_g7]<;>and_intros<;>first|exact True.intro|exact .c (.refl _)|exact .c wl2|exact .agg (lel_refl _)|exact .agg (by simp only[LeL];and_intros<;>first|exact True.intro|exact .refl _|exact wl2)|exact .c .nils) ?_
  · omega
  (try simp only[go_sem, hn_g3, hn_g6, hn_g7])
  repeat first|apply wa1|apply wa2|apply wa3|apply wa4|apply wa5 rfl|apply wa6|apply wa7|(refine wb1 rfl fun R r=>?_;simp only[go_sem, hn_g3, hn_g6, hn_g7];with_reducible refine r _ _ ?_;clear r R)|apply wa8|(refine wd1 rfl fun R r=>?_;simp only[go_sem, hn_g3, hn_g6, hn_g7];with_reducible refine r _ _ ?_;clear r R)
  refine drk_call (rmul_fa _ _ ?_ ?_) rfl rfl rfl (by first|exact True.intro|simp only[go_sem, hn_g3, hn_g6, hn_g7]<;>and_intros<;>first|exact True.intro|exact .c (.refl _)|exact .c wl2|exact .agg (lel_refl _)|exact .agg (by simp only[LeL];and_intros<;>first|exact True.intro|exact .refl _|exact wl2)|exact .c .nils) ?_
  · exact rd_wf (fits_mono f4 (by omega))
  · exact wf_mono w2 (by omega)
  (try simp only[go_sem, hn_g3, hn_g6, hn_g7])
  rw [rd_q]
  repeat first|apply wa1|apply wa2|apply wa3|apply wa4|apply wa5 rfl|apply wa6|apply wa7|(refine wb1 rfl fun R r=>?_;simp only[go_sem, hn_g3, hn_g6, hn_g7];with_reducible refine r _ _ ?_;clear r R)|apply wa8|(refine wd1 rfl fun R r=>?_;simp only[go_sem, hn_g3, hn_g6, hn_g7];with_reducible refine r _ _ ?_;clear r R)
  refine drk_call (of_fa' v n.hi h0 ?_ hvl) rfl rfl rfl (by first|exact True.intro|simp only[go_sem, hn_g3, hn_g6, hn_g7]<;>and_intros<;>first|exact True.intro|exact .c (.refl _)|exact .c wl2|exact .agg (lel_refl _)|exact .agg (by simp only[LeL];and_intros<;>first|exact True.intro|exact .refl _|exact wl2)|exact .c .nils) ?_
  · omega
  (try simp only[go_sem, hn_g3, hn_g6, hn_g7])
  repeat first|apply wa1|apply wa2|apply wa3|apply wa4|apply wa5 rfl|apply wa6|apply wa7|(refine wb1 rfl fun R r=>?_;simp only[go_sem, hn_g3, hn_g6, hn_g7];with_reducible refine r _ _ ?_;clear r R)|apply wa8|(refine wd1 rfl fun R r=>?_;simp only[go_sem, hn_g3, hn_g6, hn_g7];with_reducible refine r _ _ ?_;clear r R)
  refine drk_call (rmul_fa _ _ ?_ ?_) rfl rfl rfl (by first|exact True.intro|simp only[go_sem, hn_g3, hn_g6, hn_g7]<;>and_intros<;>first|exact True.intro|exact .c (.refl _)|exact .c wl2|exact .agg (lel_refl _)|exact .agg (by simp only[LeL];and_intros<;>first|exact True.intro|exact .refl _|exact wl2)|exact .c .nils) ?_
  · exact wf_mono w1 (by omega)
  · exact wf_mono w3 (by omega)
  (try simp only[go_sem, hn_g3, hn_g6, hn_g7])
  repeat first|apply wa1|apply wa2|apply wa3|apply wa4|apply wa5 rfl|apply wa6|apply wa7|(refine wb1 rfl fun R r=>?_;simp only[go_sem, hn_g3, hn_g6, hn_g7];with_reducible refine r _ _ ?_;clear r R)|apply wa8|(refine wd1 rfl fun R r=>?_;simp only[go_sem, hn_g3, hn_g6, hn_g7];with_reducible refine r _ _ ?_;clear r R)
  refine drk_call (radd_fa _ _ ?_ ?_) rfl rfl rfl (by first|exact True.intro|simp only[go_sem, hn_g3, hn_g6, hn_g7]<;>and_intros<;>first|exact True.intro|exact .c (.refl _)|exact .c wl2|exact .agg (lel_refl _)|exact .agg (by simp only[LeL];and_intros<;>first|exact True.intro|exact .refl _|exact wl2)|exact .c .nils) ?_
  · exact rd_wf (fits_mono f5 (by omega))
  · exact rd_wf (fits_mono f6 (by omega))
  (try simp only[go_sem, hn_g3, hn_g6, hn_g7])
  rw [rd_q, rd_q]
  repeat first|apply wa1|apply wa2|apply wa3|apply wa4|apply wa5 rfl|apply wa6|apply wa7|(refine wb1 rfl fun R r=>?_;simp only[go_sem, hn_g3, hn_g6, hn_g7];with_reducible refine r _ _ ?_;clear r R)|apply wa8|(refine wd1 rfl fun R r=>?_;simp only[go_sem, hn_g3, hn_g6, hn_g7];with_reducible refine r _ _ ?_;clear r R)
  refine aw_store rfl rfl rfl rfl (by simp only[go_sem, hn_g3, hn_g6, hn_g7]<;>rfl) (by simp only[go_sem, hn_g3, hn_g6, hn_g7]<;>rfl) (by simp only[go_sem, hn_g3, hn_g6, hn_g7]<;>rfl) (by simp only[go_sem, hn_g3, hn_g6, hn_g7]<;>rfl) (fun _ e => by cases e) (by rfl) (by rfl) (by first|omega|simp) rfl ?_
  (try simp only[go_sem, hn_g3, hn_g6, hn_g7])
  repeat first|apply wa1|apply wa2|apply wa3|apply wa4|apply wa5 rfl|apply wa6|apply wa7|(refine wb1 rfl fun R r=>?_;simp only[go_sem, hn_g3, hn_g6, hn_g7];with_reducible refine r _ _ ?_;clear r R)|apply wa8|(refine wd1 rfl fun R r=>?_;simp only[go_sem, hn_g3, hn_g6, hn_g7];with_reducible refine r _ _ ?_;clear r R)
  (refine aw_retq hC rfl fun R r=>?_;simp only[go_sem, hn_g3, hn_g6, hn_g7];refine r _ rfl ?_;clear r R)
  exact ler_rd rfl
theorem vals_take {p : List RD} {ns : List DN} {k : Nat} (hk : k < ns.length) : valsL p (ns.take (k + 1)) [] = valsL p (ns.take k) [] ++ [rd (nodeQ p (valsL p (ns.take k) []) (ns.getD k dn0))] := by
  have key : ∀ (l m : List DN) (v : List RD), valsL p (l ++ m) v = valsL p m (valsL p l v) := by
    intro l
    induction l with
    | nil => intro m v; rfl
    | cons a l ih => intro m v; simp only [List.cons_append, valsL]; exact ih m _
  rw [List.take_succ_eq_append_getElem hk, key]
  have : ns.getD k dn0 = ns[k] := by rw [List.getD_eq_getElem?_getD, List.getElem?_eq_getElem hk]; rfl
  rw [this]; rfl
theorem vals_len {p : List RD} : ∀ (ns : List DN) (v : List RD), (valsL p ns v).length = v.length + ns.length
  | [], v => by simp [valsL]
  | n :: ns, v => by rw [valsL, vals_len ns]; simp; omega
set_option maxHeartbeats 1600000 in
theorem values_fa (d : DG) (p : List RD) (L : Nat) (hL : 1 ≤ L) (hL2 : L ≤ 100000000) (hp : ∀ x ∈ p, x.wf L) (hv : ∀ k, k ≤ d.nodes.length → ∀ x ∈ valsL p (d.nodes.take k) [], x.wf L) (hn : ∀ i, i < d.nodes.length → NodeOk p.length i (d.nodes.getD i dn0)) (hnl : d.nodes.length ≤ 10000) :
    Fa Try.prog 27 [.agg (dgc false d), .c (rats false p)] (.c (rats true (valsL p d.nodes []))) := by
  refine fa_of_body Try.func27 rfl rfl (by simp [Try.ntmps27]) fun C hC => ?_
  simp only [initS, Nat.reduceAdd]
  repeat first|apply wa1|apply wa2|apply wa3|apply wa4|apply wa5 rfl|apply wa6|apply wa7|(refine wb1 rfl fun R r=>?_;simp only[go_sem];with_reducible refine r _ _ ?_;clear r R)
  refine aw_box rfl rfl rfl (by simp only[go_sem]<;>rfl) (fun _ e => by cases e) rfl fun g2 hn_g2 => ?_
  replace hn_g2 := Heap.ne_of hn_g2
  first | dsimp only [Heap.ne, gh] at hn_g2 | dsimp only [Heap.ne] at hn_g2 | skip
  (try simp only[go_sem, hn_g2])
  repeat first|apply wa1|apply wa2|apply wa3|apply wa4|apply wa5 rfl|apply wa6|apply wa7|(refine wb1 rfl fun R r=>?_;simp only[go_sem, hn_g2];with_reducible refine r _ _ ?_;clear r R)
  refine aw_make (n := 0) (c := d.nodes.length) (size := 3) (z := [.bool false, .nils, .nils]) rfl rfl rfl (by simp only[go_sem, hn_g2]<;>rfl) (by simp only[go_sem, hn_g2]<;>rfl) rfl (by omega) (by simp only[go_sem, hn_g2]<;>rfl) (by simp only[go_sem, hn_g2]<;>rfl) rfl rfl (by omega) (by omega) (by omega) fun g hg => ?_
  (try simp only[go_sem, hn_g2])
  refine aw_less (n' := 0) (f' := ratsF []) (by omega) (fun j hj => by omega) ?_
  replace hg := Heap.ne_of hg
  dsimp only [Heap.ne] at hg
  repeat first|apply wa1|apply wa2|apply wa3|apply wa4|apply wa5 rfl|apply wa6|apply wa7|(refine wb1 rfl fun R r=>?_;simp only[go_sem, hn_g2, hg];with_reducible refine r _ _ ?_;clear r R)
  refine aw_weak (σ' := [(1, .c (rats false p)), (5, .c (gs (some g) 3 0)), (13, .c (dns false d.nodes)), (14, .c (.int .i64 d.nodes.length)), (15, .c (.int .i64 0))]) (h' := gh (some g) 31 (0 * 3) (ratsF [])) (Sl.sub_le (by simp only[go_sem, hn_g2, hg]<;>and_intros<;>first|exact True.intro|(with_reducible rfl)|exact c_int (by omega)|rfl)) (List.Sublist.cons_cons _ (List.nil_sublist _)) ?_
  refine aw_lp (fun x : Nat × Nat × List RD => [(1, .c (rats false p)), (5, .c (gs (some x.1) 3 x.2.1)), (13, .c (dns false d.nodes)), (14, .c (.int .i64 d.nodes.length)), (15, .c (.int .i64 x.2.1))]) (fun x => gh (some x.1) 31 (x.2.1 * 3) (ratsF x.2.2))
    (fun x => x.2.1 ≤ d.nodes.length ∧ x.2.2.length = x.2.1 ∧ x.2.2 = valsL p (d.nodes.take x.2.1) []) (fun x => d.nodes.length - x.2.1) (g, 0, []) (by simp only[go_sem, hn_g2, hg]<;>and_intros<;>first|exact True.intro|(with_reducible rfl)|exact c_int (by omega)|rfl) (List.Sublist.refl _) ⟨Nat.zero_le _, rfl, by simp [valsL]⟩ ?_
  rintro ⟨g', k, vs⟩ ⟨hk, hvl, hvs⟩
  dsimp only at hk hvl hvs ⊢
  repeat first|apply wa1|apply wa2|apply wa3|apply wa4|apply wa5 rfl|apply wa6|apply wa7|(refine wb1 rfl fun R r=>?_;simp only[go_sem, hn_g2, hg];with_reducible refine r _ _ ?_;clear r R)
  refine aw_cond (by simp only[go_sem, hn_g2, hg]<;>rfl) (fun hb => ?_) (fun hb => ?_)
  · have hin : k < d.nodes.length := by have := of_decide_eq_true hb; omega
    have hvw : ∀ x ∈ vs, x.wf L := by rw [hvs]; exact hv k hk
    have hno : NodeOk p.length vs.length (d.nodes.getD k dn0) := by rw [hvl]; exact hn k hin
    repeat first|apply wa1|apply wa2|apply wa3|apply wa4|apply wa5 rfl|apply wa6|apply wa7|(refine wb1 rfl fun R r=>?_;simp only[go_sem, hn_g2, hg];with_reducible refine r _ _ ?_;clear r R)
    refine aw_alloc rfl rfl rfl (by simp only[go_sem, hn_g2, hg]<;>rfl) fun g7 hn_g7 => ?_
    replace hn_g7 := Heap.ne_of hn_g7
    first | dsimp only [Heap.ne, gh] at hn_g7 | dsimp only [Heap.ne] at hn_g7 | skip
    (try simp only[go_sem, hn_g2, hg, hn_g7])
    repeat first|apply wa1|apply wa2|apply wa3|apply wa4|apply wa5 rfl|apply wa6|apply wa7|(refine wb1 rfl fun R r=>?_;simp only[go_sem, hn_g2, hg, hn_g7];with_reducible refine r _ _ ?_;clear r R)
    refine aw_store rfl rfl rfl rfl (by simp only[go_sem, hn_g2, hg, hn_g7]<;>rfl) (by simp only[go_sem, hn_g2, hg, hn_g7]<;>rfl) (by simp only[go_sem, hn_g2, hg, hn_g7]<;>rfl) (by simp only[go_sem, hn_g2, hg, hn_g7]<;>rfl) (fun _ e => by cases e) (by rfl) (by rfl) (by first|omega|simp) rfl ?_
    (try simp only[go_sem, hn_g2, hg, hn_g7])
    repeat first|apply wa1|apply wa2|apply wa3|apply wa4|apply wa5 rfl|apply wa6|apply wa7|(refine wb1 rfl fun R r=>?_;simp only[go_sem, hn_g2, hg, hn_g7];with_reducible refine r _ _ ?_;clear r R)
    refine aw_callq (node_fa (d.nodes.getD k dn0) p vs L hL hL2 hp hvw hno (by omega)) rfl rfl rfl (by (try simp only[go_sem, hn_g2, hg, hn_g7]); exact ⟨.agg (lel_refl _), .c (.refl _), .c (le_gsr (pre := [(g7, _)]) some_ne (fun g e => by cases e; simp only [Heap.keys, List.map_cons, List.map_nil, List.mem_singleton]; exact hn_g7.1.2) hvl)⟩) ?_
    (try simp only[go_sem, hn_g2, hg, hn_g7])
    repeat first|apply wa1|apply wa2|apply wa3|apply wa4|apply wa5 rfl|apply wa6|apply wa7|(refine wb1 rfl fun R r=>?_;simp only[go_sem, hn_g2, hg, hn_g7];with_reducible refine r _ _ ?_;clear r R)
    refine aw_push (pre := [(g7, .cells 72 3 (ofL (dnc (d.nodes.getD k dn0))))]) rfl rfl rfl rfl rfl rfl rfl (by simp only[go_sem, hn_g2, hg, hn_g7]<;>rfl) (by simp only[go_sem, hn_g2, hg, hn_g7]<;>rfl) (by rfl) (by omega) (by omega) (by simp only[go_sem, hn_g2, hg, hn_g7]<;>rfl) (by omega) (by exact some_ne) (by simp only[go_sem, hn_g2, hg, hn_g7]<;>rfl) (by rfl) (by rfl) (by first | rfl | simp only [Nat.mul_one, List.nil_append, List.cons_append] <;> rfl) (by unfold maxLen; omega) (by omega) (by exact rats_push hvl _) fun g1 hn_g1 => ?_
    replace hn_g1 := Heap.ne_of hn_g1
    first | dsimp only [Heap.ne, gh] at hn_g1 | dsimp only [Heap.ne] at hn_g1 | skip
    (try simp only[go_sem, hn_g2, hg, hn_g7, hn_g1])
    repeat first|apply wa1|apply wa2|apply wa3|apply wa4|apply wa5 rfl|apply wa6|apply wa7|(refine wb1 rfl fun R r=>?_;simp only[go_sem, hn_g2, hg, hn_g7, hn_g1];with_reducible refine r _ _ ?_;clear r R)
    have e := vals_take (p := p) hin
    rw [← hvs] at e
    refine aw_stop ⟨(g1, k + 1, vs ++ [rd (nodeQ p vs (d.nodes.getD k dn0))]), by dsimp only; omega, (by simp only[go_sem, hn_g2, hg, hn_g7, hn_g1]<;>and_intros<;>first|exact True.intro|(with_reducible rfl)|exact c_int (by omega)|rfl), List.Sublist.cons _ (List.Sublist.refl _), by dsimp only; omega, by simp; omega, e.symm⟩
  · have hin : k = d.nodes.length := by have := of_decide_eq_false hb; omega
    subst hin
    repeat first|apply wa1|apply wa2|apply wa3|apply wa4|apply wa5 rfl|apply wa6|apply wa7|(refine wb1 rfl fun R r=>?_;simp only[go_sem, hn_g2, hg];with_reducible refine r _ _ ?_;clear r R)
    (refine aw_retq hC rfl fun R r=>?_;simp only[go_sem, hn_g2, hg];refine r _ rfl ?_;clear r R)
    rw [List.take_length] at hvs
    rw [← hvs]
    exact .one (.c (ler_gsr (pre := []) some_ne (fun _ _ => by simp [Heap.keys]) hvl))
end Go.Proofs.Ytmkomfdiggcloaa
