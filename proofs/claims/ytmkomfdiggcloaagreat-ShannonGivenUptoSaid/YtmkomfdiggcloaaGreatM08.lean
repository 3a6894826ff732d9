/- Texts of one proof, laid one behind the other by a program (merge.py): Rat1, Rat2, Rat3. -/
import Derived.Test.YtmkomfdiggcloaaGreatM06
import Derived.Test.YtmkomfdiggcloaaGreatM07
set_option linter.unusedSimpArgs false
set_option linter.unusedVariables false
/- rational: one, plain, Valid, parts, form. -/
namespace Go.Proofs.YtmkomfdiggcloaaGreat
open Go.AI Go.PN
attribute [local irreducible] aw Fa Fh DrK

/-- The cells of a fraction. -/
abbrev rdc (r : RD) : List CV := [.bool r.neg, ws true r.num, ws true r.den]

theorem cmp_one {n : Nat} : (cmpN n (val [1]) == 0) = decide (n = 1) := by
  have : val [1] = 1 := rfl
  rw [this]
  unfold cmpN
  by_cases h : n = 1
  · subst h; rfl
  · have : ¬ (n = 1) := h
    simp only [this, decide_false, if_false]
    by_cases h0 : n < 1 <;> simp [h0]
theorem plain_eq {xs : List Nat} (h0 : 0 < xs.length) : plainB xs = (((xs.getD (xs.length - 1) 0 : Nat) : Int) != 0) := by
  simp only [plainB, h0, decide_true, Bool.true_and, bne]
  congr 1
  rw [Bool.eq_iff_iff]; simp
theorem plain_no {xs : List Nat} (h0 : ¬ 0 < xs.length) : plainB xs = false := by simp [plainB, h0]

set_option maxHeartbeats 400000 in
theorem one_fa : Fa Tryz.prog 122 [] (.c (ws true [1])) := by
  refine fa_of_body Tryz.func122 rfl rfl (by simp [Tryz.ntmps122]) fun C hC => ?_
  simp only [initS]
  repeat first|apply wa1|apply wa2|apply wa3|apply wa4|apply wa5 rfl|apply wa6|apply wa7|(refine wb1 rfl fun R r=>?_;simp only[go_sem];with_reducible refine r _ _ ?_;clear r R)
  refine aw_buildSlice (xs := [.const (.int .u32 1)]) (cells := [.int .u32 1]) rfl rfl rfl ty_e_ws (by rw [envP, ty_z_u32]; rfl) rfl (by omega) (by omega) (by intro x hx; simp only [List.mem_cons, List.not_mem_nil, or_false] at hx; subst hx; exact ⟨rfl, rfl, rfl⟩) rfl fun g hg => ?_
  (try simp only[go_sem])
  repeat first|apply wa1|apply wa2|apply wa3|apply wa4|apply wa5 rfl|apply wa6|apply wa7|(refine wb1 rfl fun R r=>?_;simp only[go_sem];with_reducible refine r _ _ ?_;clear r R)
  (refine aw_retq hC rfl fun R r=>?_;simp only[go_sem];refine r _ rfl ?_;clear r R)
  exact .one (.c (ler_oslws (by simp only[go_sem]<;>rfl) (by omega) rfl (fun j hj => by match j, hj with | 0, _ => rfl)))
set_option maxHeartbeats 400000 in
theorem plain_fa (xs : List Nat) (hlx : xs.length ≤ 68719476738) : Fa Tryz.prog 159 [.c (ws false xs)] (.c (.bool (plainB xs))) := by
  refine fa_of_body Tryz.func159 rfl rfl (by simp [Tryz.ntmps159]) fun C hC => ?_
  simp only [initS, Nat.reduceAdd]
  repeat first|apply wa1|apply wa2|apply wa3|apply wa4|apply wa5 rfl|apply wa6|apply wa7|(refine wb1 rfl fun R r=>?_;simp only[go_sem];with_reducible refine r _ _ ?_;clear r R)
  refine aw_split 6 (by simp only[go_sem]<;>rfl) (fun hb => ?_) (fun hb => ?_) <;> (try simp only[go_sem])
  · have h0 : 0 < xs.length := by have := of_decide_eq_true hb; omega
    repeat first|apply wa1|apply wa2|apply wa3|apply wa4|apply wa5 rfl|apply wa6|apply wa7|(refine wb1 rfl fun R r=>?_;simp only[go_sem];with_reducible refine r _ _ ?_;clear r R)
    (refine aw_retq hC rfl fun R r=>?_;simp only[go_sem];refine r _ rfl ?_;clear r R)
    exact .one (.c (ler_bool (plain_eq h0).symm))
  · have h0 : ¬ 0 < xs.length := by have := of_decide_eq_false hb; omega
    repeat first|apply wa1|apply wa2|apply wa3|apply wa4|apply wa5 rfl|apply wa6|apply wa7|(refine wb1 rfl fun R r=>?_;simp only[go_sem];with_reducible refine r _ _ ?_;clear r R)
    (refine aw_retq hC rfl fun R r=>?_;simp only[go_sem];refine r _ rfl ?_;clear r R)
    exact .one (.c (ler_bool (plain_no h0).symm))
theorem valid_zero {r : RD} (h1 : ((r.num.length : Int) == 0) = true) (h2 : ((r.den.length : Int) == 0) = true) : (!r.neg) = r.valid := by
  have h1' : r.num.length = 0 := by have := eq_of_beq h1; omega
  have h2' : r.den.length = 0 := by have := eq_of_beq h2; omega
  simp [RD.valid, h1', h2']
theorem valid_else {r : RD} (h : ((r.num.length : Int) == 0) = false ∨ ((r.den.length : Int) == 0) = false) : r.valid = (plainB r.num && plainB r.den && decide (Nat.gcd (val r.num) (val r.den) = 1)) := by
  unfold RD.valid
  rw [if_neg]
  rintro ⟨h1, h2⟩
  rcases h with h | h
  · rw [h1] at h; cases h
  · rw [h2] at h; cases h
set_option maxHeartbeats 1600000 in
theorem rvalid_fa (r : RD) (hw : r.wf 68719476736) : Fa Tryz.prog 125 [.agg (rdc r)] (.c (.bool r.valid)) := by
  have hp1 : r.num.length ≤ 68719476738 := by have := hw.2.2.1; omega
  have hp2 : r.den.length ≤ 68719476738 := by have := hw.2.2.2; omega
  have hg : (words (Nat.gcd (val r.num) (val r.den))).length ≤ 68719476736 := by
    by_cases h : val r.num = 0
    · rw [h, Nat.gcd_zero_left]; exact Nat.le_trans (words_val_len _ hw.2.1) hw.2.2.2
    · exact Nat.le_trans (words_len_mono (Nat.gcd_le_left _ (Nat.pos_of_ne_zero h))) (Nat.le_trans (words_val_len _ hw.1) hw.2.2.1)
  refine fa_of_body Tryz.func125 rfl rfl (by simp [Tryz.ntmps125]) fun C hC => ?_
  simp only [initS, Nat.reduceAdd]
  repeat first|apply wa1|apply wa2|apply wa3|apply wa4|apply wa5 rfl|apply wa6|apply wa7|(refine wb1 rfl fun R r=>?_;simp only[go_sem];with_reducible refine r _ _ ?_;clear r R)
  refine aw_box rfl rfl rfl (by simp only[go_sem]<;>rfl) (fun _ e => by cases e) rfl fun g1 hn_g1 => ?_
  replace hn_g1 := Heap.ne_of hn_g1
  first | dsimp only [Heap.ne, gh] at hn_g1 | dsimp only [Heap.ne] at hn_g1 | skip
  (try simp only[go_sem, hn_g1])
  repeat first|apply wa7|(refine wb1 rfl fun R r=>?_;simp only[go_sem, hn_g1];with_reducible refine r _ _ ?_;clear r R)
  apply aw_seq
  refine aw_cut (fun _ : Unit => [(1, .c (.optr g1 0))]) (fun _ => [(g1, .cells 33 3 (ofL (rdc r)))]) (fun _ => ((r.num.length : Int) == 0) = false ∨ ((r.den.length : Int) == 0) = false) ?_ ?_
  · repeat first|apply wa1|apply wa2|apply wa3|apply wa4|apply wa5 rfl|apply wa6|apply wa7|(refine wb1 rfl fun R r=>?_;simp only[go_sem, hn_g1];with_reducible refine r _ _ ?_;clear r R)
    refine aw_split 7 (by simp only[go_sem, hn_g1]<;>rfl) (fun hb => ?_) (fun hb => ?_) <;> (try simp only[go_sem, hn_g1])
    · repeat first|apply wa1|apply wa2|apply wa3|apply wa4|apply wa5 rfl|apply wa6|apply wa7|(refine wb1 rfl fun R r=>?_;simp only[go_sem, hn_g1];with_reducible refine r _ _ ?_;clear r R)
      refine aw_cond (by simp only[go_sem, hn_g1]<;>rfl) (fun hd => ?_) (fun hd => ?_)
      · repeat first|apply wa1|apply wa2|apply wa3|apply wa4|apply wa5 rfl|apply wa6|apply wa7|(refine wb1 rfl fun R r=>?_;simp only[go_sem, hn_g1];with_reducible refine r _ _ ?_;clear r R)
        (refine aw_retq hC rfl fun R r=>?_;simp only[go_sem, hn_g1];refine r _ rfl ?_;clear r R)
        exact .one (.c (ler_bool (valid_zero hb hd)))
      · repeat first|apply wa1|apply wa2|apply wa3|apply wa4|apply wa5 rfl|apply wa6|apply wa7|(refine wb1 rfl fun R r=>?_;simp only[go_sem, hn_g1];with_reducible refine r _ _ ?_;clear r R)
        exact aw_stop ⟨(), (by simp only[go_sem, hn_g1]<;>and_intros<;>first|exact True.intro|(with_reducible rfl)|exact c_int (by omega)|rfl), (List.Sublist.refl _), .inr hd⟩
    · repeat first|apply wa1|apply wa2|apply wa3|apply wa4|apply wa5 rfl|apply wa6|apply wa7|(refine wb1 rfl fun R r=>?_;simp only[go_sem, hn_g1];with_reducible refine r _ _ ?_;clear r R)
      refine aw_condF (by simp only[go_sem, hn_g1]<;>rfl) ?_
      repeat first|apply wa1|apply wa2|apply wa3|apply wa4|apply wa5 rfl|apply wa6|apply wa7|(refine wb1 rfl fun R r=>?_;simp only[go_sem, hn_g1];with_reducible refine r _ _ ?_;clear r R)
      exact aw_stop ⟨(), (by simp only[go_sem, hn_g1]<;>and_intros<;>first|exact True.intro|(with_reducible rfl)|exact c_int (by omega)|rfl), (List.Sublist.refl _), .inl hb⟩
  rintro _ hd
  rw [valid_else hd]
  repeat first|apply wa1|apply wa2|apply wa3|apply wa4|apply wa5 rfl|apply wa6|apply wa7|(refine wb1 rfl fun R r=>?_;simp only[go_sem, hn_g1];with_reducible refine r _ _ ?_;clear r R)
  refine aw_callq (plain_fa r.num hp1) rfl rfl rfl (by first|exact True.intro|simp only[go_sem, hn_g1]<;>and_intros<;>first|exact True.intro|exact .c (.refl _)|exact .c wl2|exact .agg (lel_refl _)|exact .agg (by simp only[LeL];and_intros<;>first|exact True.intro|exact .refl _|exact wl2)|exact .c .nils) ?_
  (try simp only[go_sem, hn_g1])
  repeat first|apply wa1|apply wa2|apply wa3|apply wa4|apply wa5 rfl|apply wa6|apply wa7|(refine wb1 rfl fun R r=>?_;simp only[go_sem, hn_g1];with_reducible refine r _ _ ?_;clear r R)
  refine aw_split 19 (by simp only[go_sem, hn_g1]<;>rfl) (fun h1 => ?_) (fun h1 => ?_) <;> (try simp only[go_sem, hn_g1])
  · repeat first|apply wa1|apply wa2|apply wa3|apply wa4|apply wa5 rfl|apply wa6|apply wa7|(refine wb1 rfl fun R r=>?_;simp only[go_sem, hn_g1];with_reducible refine r _ _ ?_;clear r R)
    refine aw_callq (plain_fa r.den hp2) rfl rfl rfl (by first|exact True.intro|simp only[go_sem, hn_g1]<;>and_intros<;>first|exact True.intro|exact .c (.refl _)|exact .c wl2|exact .agg (lel_refl _)|exact .agg (by simp only[LeL];and_intros<;>first|exact True.intro|exact .refl _|exact wl2)|exact .c .nils) ?_
    (try simp only[go_sem, hn_g1])
    repeat first|apply wa1|apply wa2|apply wa3|apply wa4|apply wa5 rfl|apply wa6|apply wa7|(refine wb1 rfl fun R r=>?_;simp only[go_sem, hn_g1];with_reducible refine r _ _ ?_;clear r R)
    refine aw_split 24 (by simp only[go_sem, hn_g1]<;>rfl) (fun h2 => ?_) (fun h2 => ?_) <;> (try simp only[go_sem, hn_g1])
    · repeat first|apply wa1|apply wa2|apply wa3|apply wa4|apply wa5 rfl|apply wa6|apply wa7|(refine wb1 rfl fun R r=>?_;simp only[go_sem, hn_g1];with_reducible refine r _ _ ?_;clear r R)
      refine aw_callq (gcd_fa _ _ hw.1 hw.2.1 hw.2.2.1 hw.2.2.2) rfl rfl rfl (by first|exact True.intro|simp only[go_sem, hn_g1]<;>and_intros<;>first|exact True.intro|exact .c (.refl _)|exact .c wl2|exact .agg (lel_refl _)|exact .agg (by simp only[LeL];and_intros<;>first|exact True.intro|exact .refl _|exact wl2)|exact .c .nils) ?_
      (try simp only[go_sem, hn_g1])
      repeat first|apply wa1|apply wa2|apply wa3|apply wa4|apply wa5 rfl|apply wa6|apply wa7|(refine wb1 rfl fun R r=>?_;simp only[go_sem, hn_g1];with_reducible refine r _ _ ?_;clear r R)
      refine aw_callq (one_fa) rfl rfl rfl (by first|exact True.intro|simp only[go_sem, hn_g1]<;>and_intros<;>first|exact True.intro|exact .c (.refl _)|exact .c wl2|exact .agg (lel_refl _)|exact .agg (by simp only[LeL];and_intros<;>first|exact True.intro|exact .refl _|exact wl2)|exact .c .nils) ?_
      (try simp only[go_sem, hn_g1])
      repeat first|apply wa1|apply wa2|apply wa3|apply wa4|apply wa5 rfl|apply wa6|apply wa7|(refine wb1 rfl fun R r=>?_;simp only[go_sem, hn_g1];with_reducible refine r _ _ ?_;clear r R)
      refine aw_callq (cmp_fa _ [1] (words_lt _) ?_ hg ?_) rfl rfl rfl (by first|exact True.intro|simp only[go_sem, hn_g1]<;>and_intros<;>first|exact True.intro|exact .c (.refl _)|exact .c wl2|exact .agg (lel_refl _)|exact .agg (by simp only[LeL];and_intros<;>first|exact True.intro|exact .refl _|exact wl2)|exact .c .nils) ?_
      · simp
      · simp
      (try simp only[go_sem, hn_g1])
      repeat first|apply wa1|apply wa2|apply wa3|apply wa4|apply wa5 rfl|apply wa6|apply wa7|(refine wb1 rfl fun R r=>?_;simp only[go_sem, hn_g1];with_reducible refine r _ _ ?_;clear r R)
      (refine aw_retq hC rfl fun R r=>?_;simp only[go_sem, hn_g1];refine r _ rfl ?_;clear r R)
      refine .one (.c (ler_bool ?_))
      rw [h1, h2, val_words, cmp_one]; rfl
    · repeat first|apply wa1|apply wa2|apply wa3|apply wa4|apply wa5 rfl|apply wa6|apply wa7|(refine wb1 rfl fun R r=>?_;simp only[go_sem, hn_g1];with_reducible refine r _ _ ?_;clear r R)
      (refine aw_retq hC rfl fun R r=>?_;simp only[go_sem, hn_g1];refine r _ rfl ?_;clear r R)
      refine .one (.c (ler_bool ?_))
      rw [h2, Bool.and_false, Bool.false_and]
  · repeat first|apply wa1|apply wa2|apply wa3|apply wa4|apply wa5 rfl|apply wa6|apply wa7|(refine wb1 rfl fun R r=>?_;simp only[go_sem, hn_g1];with_reducible refine r _ _ ?_;clear r R)
    (refine aw_retq hC rfl fun R r=>?_;simp only[go_sem, hn_g1];refine r _ rfl ?_;clear r R)
    refine .one (.c (ler_bool ?_))
    rw [h1, Bool.false_and, Bool.false_and]
end Go.Proofs.YtmkomfdiggcloaaGreat

/- rational: parts, form, size, Of, Neg, Sign, Add, Sub, Mul, Cmp, Prob. -/
namespace Go.Proofs.YtmkomfdiggcloaaGreat
open Go.AI Go.PN
attribute [local irreducible] aw Fa Fh DrK
theorem words_mul_len (m n : Nat) : (words (m * n)).length ≤ (words m).length + (words n).length := words_len_le (pow_mul_lt (words_pow_lt m) (words_pow_lt n))
theorem words_add_len {m n k : Nat} (hm : (words m).length ≤ k) (hn : (words n).length ≤ k) : (words (m + n)).length ≤ k + 1 := by
  have h1 := Nat.lt_of_lt_of_le (words_pow_lt m) (Nat.pow_le_pow_right (show 0 < 4294967296 by omega) hm)
  have h2 := Nat.lt_of_lt_of_le (words_pow_lt n) (Nat.pow_le_pow_right (show 0 < 4294967296 by omega) hn)
  refine words_len_le ?_
  rw [Nat.pow_succ]
  omega
theorem mulW (a b : Nat) (ha : (words a).length ≤ 68719476736) (hb : (words b).length ≤ 68719476736) : Fa Tryz.prog 154 [.c (ws false (words a)), .c (ws false (words b))] (.c (ws true (words (a * b)))) := by
  have := mul_fa (words a) (words b) (words_lt a) (words_lt b) ha hb
  rwa [val_words, val_words] at this
theorem addW (a b : Nat) (ha : (words a).length ≤ 68719476736) (hb : (words b).length ≤ 68719476736) : Fa Tryz.prog 162 [.c (ws false (words a)), .c (ws false (words b))] (.c (ws true (words (a + b)))) := by
  have := add_fa (words a) (words b) (words_lt a) (words_lt b) ha hb
  rwa [val_words, val_words] at this
theorem subW (a b : Nat) (ha : (words a).length ≤ 68719476736) (hb : (words b).length ≤ 68719476736) (h : b ≤ a) : Fa Tryz.prog 163 [.c (ws false (words a)), .c (ws false (words b))] (.tup [.c (ws true (words (a - b))), .c .nilI]) := by
  have := sub_fa (words a) (words b) (words_lt a) (words_lt b) ha hb (by rw [val_words, val_words]; exact h)
  rwa [val_words, val_words] at this
theorem cmpW (a b : Nat) (ha : (words a).length ≤ 68719476736) (hb : (words b).length ≤ 68719476736) : Fa Tryz.prog 126 [.c (ws false (words a)), .c (ws false (words b))] (.c (.int .i64 (cmpN a b))) := by
  have := cmp_fa (words a) (words b) (words_lt a) (words_lt b) ha hb
  rwa [val_words, val_words] at this
theorem gcdW (a b : Nat) (ha : (words a).length ≤ 68719476736) (hb : (words b).length ≤ 68719476736) : Fa Tryz.prog 156 [.c (ws false (words a)), .c (ws false (words b))] (.c (ws true (words (Nat.gcd a b)))) := by
  have := gcd_fa (words a) (words b) (words_lt a) (words_lt b) ha hb
  rwa [val_words, val_words] at this
theorem divW (a b : Nat) (ha : (words a).length ≤ 68719476736) (hb : (words b).length ≤ 68719476736) (h : b ≠ 0) : Fa Tryz.prog 157 [.c (ws false (words a)), .c (ws false (words b))] (.tup [.c (ws true (words (a / b))), .c (ws true (words (a % b))), .c .nilI]) := by
  have := div_fa (words a) (words b) (words_lt a) (words_lt b) ha hb (by rw [val_words]; exact h)
  rwa [val_words, val_words] at this
theorem bitsW (a : Nat) (ha : (words a).length ≤ 68719476736) : Fa Tryz.prog 155 [.c (ws false (words a))] (.c (.int .i64 (bitlen a : Nat))) := by
  have := bits_fa (words a) (words_lt a) ha
  rwa [val_words] at this

theorem some_of {r : RD} (h1 : r.valid = true) (h2 : ((r.num.length : Int) == 0) = false) : r.some = true := by
  have : r.num.length ≠ 0 := fun e => by rw [e] at h2; cases h2
  simp [RD.some, h1, this]
theorem none_of {r : RD} (h : r.valid = false ∨ ((r.num.length : Int) == 0) = true) : r.some = false := by
  rcases h with h | h
  · simp [RD.some, h]
  · have : r.num.length = 0 := by have := eq_of_beq h; omega
    simp [RD.some, this]
theorem wf_mono {r : RD} {L M : Nat} (h : r.wf L) (hm : L ≤ M) : r.wf M := ⟨h.1, h.2.1, Nat.le_trans h.2.2.1 hm, Nat.le_trans h.2.2.2 hm⟩

/-- The bound that all contracts on fractions ask for. -/
def RB : Nat := 1073741824
theorem rb_le : RB ≤ 68719476736 := by unfold RB; omega

abbrev partsAV (r : RD) : AV := .tup [.c (.bool r.ps), .c (ws true (words r.pn)), .c (ws true (words r.pd))]
set_option maxHeartbeats 1600000 in
theorem rparts_fa (r : RD) (hw : r.wf 1073741824) : Fa Tryz.prog 119 [.agg (rdc r)] (partsAV r) := by
  refine fa_of_body Tryz.func119 rfl rfl (by simp [Tryz.ntmps119]) fun C hC => ?_
  simp only [initS, Nat.reduceAdd]
  repeat first|apply wa1|apply wa2|apply wa3|apply wa4|apply wa5 rfl|apply wa6|apply wa7|(refine wb1 rfl fun R r=>?_;simp only[go_sem];with_reducible refine r _ _ ?_;clear r R)
  refine aw_box rfl rfl rfl (by simp only[go_sem]<;>rfl) (fun _ e => by cases e) rfl fun g1 hn_g1 => ?_
  replace hn_g1 := Heap.ne_of hn_g1
  first | dsimp only [Heap.ne, gh] at hn_g1 | dsimp only [Heap.ne] at hn_g1 | skip
  (try simp only[go_sem, hn_g1])
  repeat first|apply wa1|apply wa2|apply wa3|apply wa4|apply wa5 rfl|apply wa6|apply wa7|(refine wb1 rfl fun R r=>?_;simp only[go_sem, hn_g1];with_reducible refine r _ _ ?_;clear r R)
  refine aw_callq (rvalid_fa r (wf_mono hw ?_)) rfl rfl rfl (by first|exact True.intro|simp only[go_sem, hn_g1]<;>and_intros<;>first|exact True.intro|exact .c (.refl _)|exact .c wl2|exact .agg (lel_refl _)|exact .agg (by simp only[LeL];and_intros<;>first|exact True.intro|exact .refl _|exact wl2)|exact .c .nils) ?_
  · omega
  (try simp only[go_sem, hn_g1])
  repeat first|apply wa1|apply wa2|apply wa3|apply wa4|apply wa5 rfl|apply wa6|apply wa7|(refine wb1 rfl fun R r=>?_;simp only[go_sem, hn_g1];with_reducible refine r _ _ ?_;clear r R)
  refine aw_split 8 (by simp only[go_sem, hn_g1]<;>rfl) (fun hv => ?_) (fun hv => ?_) <;> (try simp only[go_sem, hn_g1])
  · have hs := RD.pn_none (none_of (r := r) (.inl (by simpa using hv)))
    repeat first|apply wa1|apply wa2|apply wa3|apply wa4|apply wa5 rfl|apply wa6|apply wa7|(refine wb1 rfl fun R r=>?_;simp only[go_sem, hn_g1];with_reducible refine r _ _ ?_;clear r R)
    refine aw_condT (by simp only[go_sem, hn_g1]<;>rfl) ?_
    repeat first|apply wa1|apply wa2|apply wa3|apply wa4|apply wa5 rfl|apply wa6|apply wa7|(refine wb1 rfl fun R r=>?_;simp only[go_sem, hn_g1];with_reducible refine r _ _ ?_;clear r R)
    refine aw_callq (one_fa) rfl rfl rfl (by first|exact True.intro|simp only[go_sem, hn_g1]<;>and_intros<;>first|exact True.intro|exact .c (.refl _)|exact .c wl2|exact .agg (lel_refl _)|exact .agg (by simp only[LeL];and_intros<;>first|exact True.intro|exact .refl _|exact wl2)|exact .c .nils) ?_
    (try simp only[go_sem, hn_g1])
    repeat first|apply wa1|apply wa2|apply wa3|apply wa4|apply wa5 rfl|apply wa6|apply wa7|(refine wb1 rfl fun R r=>?_;simp only[go_sem, hn_g1];with_reducible refine r _ _ ?_;clear r R)
    (refine aw_retq hC rfl fun R r=>?_;simp only[go_sem, hn_g1];refine r _ rfl ?_;clear r R)
    refine .tup ⟨.c (ler_bool hs.2.2.symm), .c ?_, .c ?_, trivial⟩
    · rw [hs.1]; exact .nils
    · rw [hs.2.1]; exact ler_ws
  · have hv' : r.valid = true := by simpa using hv
    repeat first|apply wa1|apply wa2|apply wa3|apply wa4|apply wa5 rfl|apply wa6|apply wa7|(refine wb1 rfl fun R r=>?_;simp only[go_sem, hn_g1];with_reducible refine r _ _ ?_;clear r R)
    refine aw_cond (by simp only[go_sem, hn_g1]<;>rfl) (fun hn => ?_) (fun hn => ?_)
    · have hs := RD.pn_none (none_of (r := r) (.inr hn))
      repeat first|apply wa1|apply wa2|apply wa3|apply wa4|apply wa5 rfl|apply wa6|apply wa7|(refine wb1 rfl fun R r=>?_;simp only[go_sem, hn_g1];with_reducible refine r _ _ ?_;clear r R)
      refine aw_callq (one_fa) rfl rfl rfl (by first|exact True.intro|simp only[go_sem, hn_g1]<;>and_intros<;>first|exact True.intro|exact .c (.refl _)|exact .c wl2|exact .agg (lel_refl _)|exact .agg (by simp only[LeL];and_intros<;>first|exact True.intro|exact .refl _|exact wl2)|exact .c .nils) ?_
      (try simp only[go_sem, hn_g1])
      repeat first|apply wa1|apply wa2|apply wa3|apply wa4|apply wa5 rfl|apply wa6|apply wa7|(refine wb1 rfl fun R r=>?_;simp only[go_sem, hn_g1];with_reducible refine r _ _ ?_;clear r R)
      (refine aw_retq hC rfl fun R r=>?_;simp only[go_sem, hn_g1];refine r _ rfl ?_;clear r R)
      refine .tup ⟨.c (ler_bool hs.2.2.symm), .c ?_, .c ?_, trivial⟩
      · rw [hs.1]; exact .nils
      · rw [hs.2.1]; exact ler_ws
    · have hs := RD.pn_words hw (some_of hv' hn)
      repeat first|apply wa1|apply wa2|apply wa3|apply wa4|apply wa5 rfl|apply wa6|apply wa7|(refine wb1 rfl fun R r=>?_;simp only[go_sem, hn_g1];with_reducible refine r _ _ ?_;clear r R)
      refine aw_dr 9 ty_mixed (by kernel_rfl) ?_
      repeat first|apply wa1|apply wa2|apply wa3|apply wa4|apply wa5 rfl|apply wa6|apply wa7|(refine wb1 rfl fun R r=>?_;simp only[go_sem, hn_g1];with_reducible refine r _ _ ?_;clear r R)|apply wa8|(refine wd1 rfl fun R r=>?_;simp only[go_sem, hn_g1];with_reducible refine r _ _ ?_;clear r R)
      (refine aw_retq hC rfl fun R r=>?_;simp only[go_sem, hn_g1];refine r _ rfl ?_;clear r R)
      refine .tup ⟨.c (ler_bool hs.2.2.symm), .c ?_, .c ?_, trivial⟩
      · rw [hs.1]; exact ler_ws
      · rw [hs.2.1]; exact ler_ws

theorem lerl_rd {h : Heap} {r : RD} : LeRL h (rdc r) (rdc r) := ⟨.bool _, ler_ws, ler_ws, trivial⟩
theorem ler_rd {h : Heap} {r s : RD} (e : r = s) : LeRA h (.agg (rdc r)) (.agg (rdc s)) := by subst e; exact .one (.agg lerl_rd)
set_option maxHeartbeats 1600000 in
theorem rform_fa (neg : Bool) (n d : Nat) (hn : (words n).length ≤ 68719476736) (hd : (words d).length ≤ 68719476736) (h0 : d ≠ 0) :
    Fa Tryz.prog 120 [.c (.bool neg), .c (ws false (words n)), .c (ws false (words d))] (.agg (rdc (rd (sq neg n d)))) := by
  refine fa_of_body Tryz.func120 rfl rfl (by simp [Tryz.ntmps120]) fun C hC => ?_
  simp only [initS, Nat.reduceAdd]
  repeat first|apply wa1|apply wa2|apply wa3|apply wa4|apply wa5 rfl|apply wa6|apply wa7|(refine wb1 rfl fun R r=>?_;simp only[go_sem];with_reducible refine r _ _ ?_;clear r R)
  refine aw_alloc rfl rfl rfl (by simp only[go_sem]<;>rfl) fun g6 hn_g6 => ?_
  replace hn_g6 := Heap.ne_of hn_g6
  first | dsimp only [Heap.ne, gh] at hn_g6 | dsimp only [Heap.ne] at hn_g6 | skip
  (try simp only[go_sem, hn_g6])
  repeat first|apply wa1|apply wa2|apply wa3|apply wa4|apply wa5 rfl|apply wa6|apply wa7|(refine wb1 rfl fun R r=>?_;simp only[go_sem, hn_g6];with_reducible refine r _ _ ?_;clear r R)
  refine aw_callq (bitsW n hn) rfl rfl rfl (by first|exact True.intro|simp only[go_sem, hn_g6]<;>and_intros<;>first|exact True.intro|exact .c (.refl _)|exact .c wl2|exact .agg (lel_refl _)|exact .agg (by simp only[LeL];and_intros<;>first|exact True.intro|exact .refl _|exact wl2)|exact .c .nils) ?_
  (try simp only[go_sem, hn_g6])
  repeat first|apply wa1|apply wa2|apply wa3|apply wa4|apply wa5 rfl|apply wa6|apply wa7|(refine wb1 rfl fun R r=>?_;simp only[go_sem, hn_g6];with_reducible refine r _ _ ?_;clear r R)
  refine aw_cond (by simp only[go_sem, hn_g6]<;>rfl) (fun hb => ?_) (fun hb => ?_)
  · have hz : n = 0 := bitlen_zero.1 (by have := eq_of_beq hb; omega)
    repeat first|apply wa1|apply wa2|apply wa3|apply wa4|apply wa5 rfl|apply wa6|apply wa7|(refine wb1 rfl fun R r=>?_;simp only[go_sem, hn_g6];with_reducible refine r _ _ ?_;clear r R)
    refine aw_store rfl rfl rfl rfl (by simp only[go_sem, hn_g6]<;>rfl) (by simp only[go_sem, hn_g6]<;>rfl) (by simp only[go_sem, hn_g6]<;>rfl) (by simp only[go_sem, hn_g6]<;>rfl) (fun _ e => by cases e) (by rfl) (by rfl) (by first|omega|simp) rfl ?_
    (try simp only[go_sem, hn_g6])
    repeat first|apply wa1|apply wa2|apply wa3|apply wa4|apply wa5 rfl|apply wa6|apply wa7|(refine wb1 rfl fun R r=>?_;simp only[go_sem, hn_g6];with_reducible refine r _ _ ?_;clear r R)
    (refine aw_retq hC rfl fun R r=>?_;simp only[go_sem, hn_g6];refine r _ rfl ?_;clear r R)
    rw [hz, sq_zero, rd_zero]
    exact .one (.agg ⟨.bool _, .nils, .nils, trivial⟩)
  · have hz : n ≠ 0 := fun e => by rw [e] at hb; cases hb
    have hg : Nat.gcd n d ≠ 0 := fun e => h0 (Nat.eq_zero_of_gcd_eq_zero_right e)
    have hgl : (words (Nat.gcd n d)).length ≤ 68719476736 := Nat.le_trans (words_len_mono (Nat.gcd_le_left _ (Nat.pos_of_ne_zero hz))) hn
    repeat first|apply wa1|apply wa2|apply wa3|apply wa4|apply wa5 rfl|apply wa6|apply wa7|(refine wb1 rfl fun R r=>?_;simp only[go_sem, hn_g6];with_reducible refine r _ _ ?_;clear r R)
    refine aw_callq (gcdW n d hn hd) rfl rfl rfl (by first|exact True.intro|simp only[go_sem, hn_g6]<;>and_intros<;>first|exact True.intro|exact .c (.refl _)|exact .c wl2|exact .agg (lel_refl _)|exact .agg (by simp only[LeL];and_intros<;>first|exact True.intro|exact .refl _|exact wl2)|exact .c .nils) ?_
    (try simp only[go_sem, hn_g6])
    repeat first|apply wa1|apply wa2|apply wa3|apply wa4|apply wa5 rfl|apply wa6|apply wa7|(refine wb1 rfl fun R r=>?_;simp only[go_sem, hn_g6];with_reducible refine r _ _ ?_;clear r R)
    refine aw_callq (divW n (Nat.gcd n d) hn hgl hg) rfl rfl rfl (by first|exact True.intro|simp only[go_sem, hn_g6]<;>and_intros<;>first|exact True.intro|exact .c (.refl _)|exact .c wl2|exact .agg (lel_refl _)|exact .agg (by simp only[LeL];and_intros<;>first|exact True.intro|exact .refl _|exact wl2)|exact .c .nils) ?_
    (try simp only[go_sem, hn_g6])
    repeat first|apply wa1|apply wa2|apply wa3|apply wa4|apply wa5 rfl|apply wa6|apply wa7|(refine wb1 rfl fun R r=>?_;simp only[go_sem, hn_g6];with_reducible refine r _ _ ?_;clear r R)
    refine aw_callq (divW d (Nat.gcd n d) hd hgl hg) rfl rfl rfl (by first|exact True.intro|simp only[go_sem, hn_g6]<;>and_intros<;>first|exact True.intro|exact .c (.refl _)|exact .c wl2|exact .agg (lel_refl _)|exact .agg (by simp only[LeL];and_intros<;>first|exact True.intro|exact .refl _|exact wl2)|exact .c .nils) ?_
    (try simp only[go_sem, hn_g6])
    repeat first|apply wa1|apply wa2|apply wa3|apply wa4|apply wa5 rfl|apply wa6|apply wa7|(refine wb1 rfl fun R r=>?_;simp only[go_sem, hn_g6];with_reducible refine r _ _ ?_;clear r R)
    refine aw_store rfl rfl rfl rfl (by simp only[go_sem, hn_g6]<;>rfl) (by simp only[go_sem, hn_g6]<;>rfl) (by simp only[go_sem, hn_g6]<;>rfl) (by simp only[go_sem, hn_g6]<;>rfl) (fun _ e => by cases e) (by rfl) (by rfl) (by first|omega|simp) rfl ?_
    (try simp only[go_sem, hn_g6])
    repeat first|apply wa1|apply wa2|apply wa3|apply wa4|apply wa5 rfl|apply wa6|apply wa7|(refine wb1 rfl fun R r=>?_;simp only[go_sem, hn_g6];with_reducible refine r _ _ ?_;clear r R)
    (refine aw_retq hC rfl fun R r=>?_;simp only[go_sem, hn_g6];refine r _ rfl ?_;clear r R)
    rw [rd_sq hz h0]
    exact .one (.agg ⟨.bool _, ler_ws, ler_ws, trivial⟩)
end Go.Proofs.YtmkomfdiggcloaaGreat

/- rational: size, Of, Neg, Sign, Add, Sub, Mul, Cmp, Prob. -/
namespace Go.Proofs.YtmkomfdiggcloaaGreat
open Go.AI Go.PN
attribute [local irreducible] aw Fa Fh DrK
theorem words_min : words 9223372036854775808 = [0, 2147483648] := by
  rw [words_cons (by omega), words_cons (by omega), show (9223372036854775808 / 4294967296 / 4294967296 : Nat) = 0 from rfl, words_zero]
theorem int_neg {n : Int} (h0 : -9223372036854775808 < n) (h1 : n ≤ 9223372036854775807) : wrapZ .i64 (0 - n) = -n := by
  rw [wrapZ_eq, wrap_inRange (k := .i64) (by simp only [inRange]; omega)]; omega
theorem words_small {n : Nat} (h : n ≤ 9223372036854775808) : (words n).length ≤ 2 := words_len_le (Nat.lt_of_le_of_lt h (by decide))

set_option maxHeartbeats 800000 in
theorem rsize_fa (n : Int) (h0 : -9223372036854775808 ≤ n) (h1 : n ≤ 9223372036854775807) : Fa Tryz.prog 121 [.c (.int .i64 n)] (.c (ws true (words n.natAbs))) := by
  refine fa_of_body Tryz.func121 rfl rfl (by simp [Tryz.ntmps121]) fun C hC => ?_
  simp only [initS, Nat.reduceAdd]
  repeat first|apply wa1|apply wa2|apply wa3|apply wa4|apply wa5 rfl|apply wa6|apply wa7|(refine wb1 rfl fun R r=>?_;simp only[go_sem];with_reducible refine r _ _ ?_;clear r R)
  refine aw_cond (by simp only[go_sem]<;>rfl) (fun hb => ?_) (fun hb => ?_)
  · have hn : n = -9223372036854775808 := eq_of_beq hb
    repeat first|apply wa1|apply wa2|apply wa3|apply wa4|apply wa5 rfl|apply wa6|apply wa7|(refine wb1 rfl fun R r=>?_;simp only[go_sem];with_reducible refine r _ _ ?_;clear r R)
    refine aw_buildSlice (xs := [.const (.int .u32 0), .const (.int .u32 2147483648)]) (cells := [.int .u32 0, .int .u32 2147483648]) rfl rfl rfl ty_e_ws (by rw [envP, ty_z_u32]; rfl) rfl (by omega) (by omega) (by intro x hx; simp only [List.mem_cons, List.not_mem_nil, or_false] at hx; rcases hx with rfl | rfl <;> exact ⟨rfl, rfl, rfl⟩) rfl fun g hg => ?_
    (try simp only[go_sem])
    repeat first|apply wa1|apply wa2|apply wa3|apply wa4|apply wa5 rfl|apply wa6|apply wa7|(refine wb1 rfl fun R r=>?_;simp only[go_sem];with_reducible refine r _ _ ?_;clear r R)
    (refine aw_retq hC rfl fun R r=>?_;simp only[go_sem];refine r _ rfl ?_;clear r R)
    subst hn
    rw [show ((-9223372036854775808 : Int).natAbs) = 9223372036854775808 from rfl, words_min]
    exact .one (.c (ler_oslws (by simp only[go_sem]<;>rfl) (by simp) rfl (fun j hj => by match j, hj with | 0, _ => rfl | 1, _ => rfl)))
  · have hn : n ≠ -9223372036854775808 := fun e => by rw [e] at hb; cases hb
    repeat first|apply wa1|apply wa2|apply wa3|apply wa4|apply wa5 rfl|apply wa6|apply wa7|(refine wb1 rfl fun R r=>?_;simp only[go_sem];with_reducible refine r _ _ ?_;clear r R)
    rw [int_neg (by omega) h1]
    have hm : (if -n > n then -n else n) = (n.natAbs : Int) := by split <;> omega
    rw [hm]
    refine aw_callq (of_fa (n.natAbs : Int) ?_ ?_) rfl rfl rfl (by first|exact True.intro|simp only[go_sem]<;>and_intros<;>first|exact True.intro|exact .c (.refl _)|exact .c wl2|exact .agg (lel_refl _)|exact .agg (by simp only[LeL];and_intros<;>first|exact True.intro|exact .refl _|exact wl2)|exact .c .nils) ?_
    · omega
    · omega
    (try simp only[go_sem])
    repeat first|apply wa1|apply wa2|apply wa3|apply wa4|apply wa5 rfl|apply wa6|apply wa7|(refine wb1 rfl fun R r=>?_;simp only[go_sem];with_reducible refine r _ _ ?_;clear r R)
    (refine aw_retq hC rfl fun R r=>?_;simp only[go_sem];refine r _ rfl ?_;clear r R)
    exact .one (.c ler_ws)

/-- A whole number. -/
theorem sq_int (n : Int) : sq (decide (n < 0)) n.natAbs 1 = (n : Rat) := by
  unfold sq sgn
  rw [Rat.mkRat_one]
  congr 1
  split
  · rename_i h; simp only [decide_eq_true_eq] at h; omega
  · rename_i h; simp only [decide_eq_true_eq] at h; omega
set_option maxHeartbeats 800000 in
theorem rof_fa (n : Int) (h0 : -9223372036854775808 ≤ n) (h1 : n ≤ 9223372036854775807) : Fa Tryz.prog 67 [.c (.int .i64 n)] (.agg (rdc (rd (n : Rat)))) := by
  have hl := words_small (n := n.natAbs) (by omega)
  refine fa_of_body Tryz.func67 rfl rfl (by simp [Tryz.ntmps67]) fun C hC => ?_
  simp only [initS, Nat.reduceAdd]
  repeat first|apply wa1|apply wa2|apply wa3|apply wa4|apply wa5 rfl|apply wa6|apply wa7|(refine wb1 rfl fun R r=>?_;simp only[go_sem];with_reducible refine r _ _ ?_;clear r R)
  refine aw_alloc rfl rfl rfl (by simp only[go_sem]<;>rfl) fun g2 hn_g2 => ?_
  replace hn_g2 := Heap.ne_of hn_g2
  first | dsimp only [Heap.ne, gh] at hn_g2 | dsimp only [Heap.ne] at hn_g2 | skip
  (try simp only[go_sem, hn_g2])
  repeat first|apply wa1|apply wa2|apply wa3|apply wa4|apply wa5 rfl|apply wa6|apply wa7|(refine wb1 rfl fun R r=>?_;simp only[go_sem, hn_g2];with_reducible refine r _ _ ?_;clear r R)
  refine aw_callq (rsize_fa n h0 h1) rfl rfl rfl (by first|exact True.intro|simp only[go_sem, hn_g2]<;>and_intros<;>first|exact True.intro|exact .c (.refl _)|exact .c wl2|exact .agg (lel_refl _)|exact .agg (by simp only[LeL];and_intros<;>first|exact True.intro|exact .refl _|exact wl2)|exact .c .nils) ?_
  (try simp only[go_sem, hn_g2])
  repeat first|apply wa1|apply wa2|apply wa3|apply wa4|apply wa5 rfl|apply wa6|apply wa7|(refine wb1 rfl fun R r=>?_;simp only[go_sem, hn_g2];with_reducible refine r _ _ ?_;clear r R)
  refine aw_callq (one_fa) rfl rfl rfl (by first|exact True.intro|simp only[go_sem, hn_g2]<;>and_intros<;>first|exact True.intro|exact .c (.refl _)|exact .c wl2|exact .agg (lel_refl _)|exact .agg (by simp only[LeL];and_intros<;>first|exact True.intro|exact .refl _|exact wl2)|exact .c .nils) ?_
  (try simp only[go_sem, hn_g2])
  repeat first|apply wa1|apply wa2|apply wa3|apply wa4|apply wa5 rfl|apply wa6|apply wa7|(refine wb1 rfl fun R r=>?_;simp only[go_sem, hn_g2];with_reducible refine r _ _ ?_;clear r R)
  rw [show ([1] : List Nat) = words 1 from words_one.symm]
  refine aw_callq (rform_fa _ n.natAbs 1 ?_ ?_ ?_) rfl rfl rfl (by first|exact True.intro|simp only[go_sem, hn_g2]<;>and_intros<;>first|exact True.intro|exact .c (.refl _)|exact .c wl2|exact .agg (lel_refl _)|exact .agg (by simp only[LeL];and_intros<;>first|exact True.intro|exact .refl _|exact wl2)|exact .c .nils) ?_
  · omega
  · rw [words_one]; simp
  · omega
  (try simp only[go_sem, hn_g2])
  repeat first|apply wa1|apply wa2|apply wa3|apply wa4|apply wa5 rfl|apply wa6|apply wa7|(refine wb1 rfl fun R r=>?_;simp only[go_sem, hn_g2];with_reducible refine r _ _ ?_;clear r R)
  refine aw_store rfl rfl rfl rfl (by simp only[go_sem, hn_g2]<;>rfl) (by simp only[go_sem, hn_g2]<;>rfl) (by simp only[go_sem, hn_g2]<;>rfl) (by simp only[go_sem, hn_g2]<;>rfl) (fun _ e => by cases e) (by rfl) (by rfl) (by first|omega|simp) rfl ?_
  (try simp only[go_sem, hn_g2])
  repeat first|apply wa1|apply wa2|apply wa3|apply wa4|apply wa5 rfl|apply wa6|apply wa7|(refine wb1 rfl fun R r=>?_;simp only[go_sem, hn_g2];with_reducible refine r _ _ ?_;clear r R)
  (refine aw_retq hC rfl fun R r=>?_;simp only[go_sem, hn_g2];refine r _ rfl ?_;clear r R)
  exact ler_rd (by rw [sq_int])

set_option maxHeartbeats 800000 in
theorem rneg_fa (r : RD) (hw : r.wf 1073741824) : Fa Tryz.prog 133 [.agg (rdc r)] (.agg (rdc (rd (-r.q)))) := by
  obtain ⟨hl1, hl2⟩ := RD.p_len hw (by omega)
  refine fa_of_body Tryz.func133 rfl rfl (by simp [Tryz.ntmps133]) fun C hC => ?_
  simp only [initS, Nat.reduceAdd]
  repeat first|apply wa1|apply wa2|apply wa3|apply wa4|apply wa5 rfl|apply wa6|apply wa7|(refine wb1 rfl fun R r=>?_;simp only[go_sem];with_reducible refine r _ _ ?_;clear r R)
  refine aw_box rfl rfl rfl (by simp only[go_sem]<;>rfl) (fun _ e => by cases e) rfl fun g1 hn_g1 => ?_
  replace hn_g1 := Heap.ne_of hn_g1
  first | dsimp only [Heap.ne, gh] at hn_g1 | dsimp only [Heap.ne] at hn_g1 | skip
  (try simp only[go_sem, hn_g1])
  refine aw_alloc rfl rfl rfl (by simp only[go_sem, hn_g1]<;>rfl) fun g2 hn_g2 => ?_
  replace hn_g2 := Heap.ne_of hn_g2
  first | dsimp only [Heap.ne, gh] at hn_g2 | dsimp only [Heap.ne] at hn_g2 | skip
  (try simp only[go_sem, hn_g1, hn_g2])
  repeat first|apply wa1|apply wa2|apply wa3|apply wa4|apply wa5 rfl|apply wa6|apply wa7|(refine wb1 rfl fun R r=>?_;simp only[go_sem, hn_g1, hn_g2];with_reducible refine r _ _ ?_;clear r R)
  refine aw_callq (rparts_fa r hw) rfl rfl rfl (by first|exact True.intro|simp only[go_sem, hn_g1, hn_g2]<;>and_intros<;>first|exact True.intro|exact .c (.refl _)|exact .c wl2|exact .agg (lel_refl _)|exact .agg (by simp only[LeL];and_intros<;>first|exact True.intro|exact .refl _|exact wl2)|exact .c .nils) ?_
  (try simp only[go_sem, hn_g1, hn_g2])
  repeat first|apply wa1|apply wa2|apply wa3|apply wa4|apply wa5 rfl|apply wa6|apply wa7|(refine wb1 rfl fun R r=>?_;simp only[go_sem, hn_g1, hn_g2];with_reducible refine r _ _ ?_;clear r R)
  refine aw_callq (rform_fa _ r.pn r.pd ?_ ?_ (RD.pd_ne hw)) rfl rfl rfl (by first|exact True.intro|simp only[go_sem, hn_g1, hn_g2]<;>and_intros<;>first|exact True.intro|exact .c (.refl _)|exact .c wl2|exact .agg (lel_refl _)|exact .agg (by simp only[LeL];and_intros<;>first|exact True.intro|exact .refl _|exact wl2)|exact .c .nils) ?_
  · omega
  · omega
  (try simp only[go_sem, hn_g1, hn_g2])
  repeat first|apply wa1|apply wa2|apply wa3|apply wa4|apply wa5 rfl|apply wa6|apply wa7|(refine wb1 rfl fun R r=>?_;simp only[go_sem, hn_g1, hn_g2];with_reducible refine r _ _ ?_;clear r R)
  refine aw_store rfl rfl rfl rfl (by simp only[go_sem, hn_g1, hn_g2]<;>rfl) (by simp only[go_sem, hn_g1, hn_g2]<;>rfl) (by simp only[go_sem, hn_g1, hn_g2]<;>rfl) (by simp only[go_sem, hn_g1, hn_g2]<;>rfl) (fun _ e => by cases e) (by rfl) (by rfl) (by first|omega|simp) rfl ?_
  (try simp only[go_sem, hn_g1, hn_g2])
  repeat first|apply wa1|apply wa2|apply wa3|apply wa4|apply wa5 rfl|apply wa6|apply wa7|(refine wb1 rfl fun R r=>?_;simp only[go_sem, hn_g1, hn_g2];with_reducible refine r _ _ ?_;clear r R)
  (refine aw_retq hC rfl fun R r=>?_;simp only[go_sem, hn_g1, hn_g2];refine r _ rfl ?_;clear r R)
  exact ler_rd (by rw [sq_neg]; rfl)

theorem sign_zero {r : RD} {L : Nat} (hw : r.wf L) (h : (((words r.pn).length : Int) == 0) = true) : 0 = signQ r.q := by
  have h1 : r.pn = 0 := words_eq_nil.1 (List.length_eq_zero_iff.1 (by have := eq_of_beq h; omega))
  unfold RD.q
  rw [h1, sq_zero]; rfl
theorem sign_some {r : RD} {L : Nat} (hw : r.wf L) (h : (((words r.pn).length : Int) == 0) = false) : signQ r.q = if r.ps then -1 else 1 := by
  have h1 : r.pn ≠ 0 := fun e => by rw [e, words_zero] at h; cases h
  unfold signQ RD.q
  rw [if_neg (sq_ne h1 (RD.pd_ne hw))]
  have := sq_lt (neg := r.ps) h1 (RD.pd_ne hw)
  simp only [this]
set_option maxHeartbeats 800000 in
theorem rsign_fa (r : RD) (hw : r.wf 1073741824) : Fa Tryz.prog 65 [.agg (rdc r)] (.c (.int .i64 (signQ r.q))) := by
  refine fa_of_body Tryz.func65 rfl rfl (by simp [Tryz.ntmps65]) fun C hC => ?_
  simp only [initS, Nat.reduceAdd]
  repeat first|apply wa1|apply wa2|apply wa3|apply wa4|apply wa5 rfl|apply wa6|apply wa7|(refine wb1 rfl fun R r=>?_;simp only[go_sem];with_reducible refine r _ _ ?_;clear r R)
  refine aw_box rfl rfl rfl (by simp only[go_sem]<;>rfl) (fun _ e => by cases e) rfl fun g1 hn_g1 => ?_
  replace hn_g1 := Heap.ne_of hn_g1
  first | dsimp only [Heap.ne, gh] at hn_g1 | dsimp only [Heap.ne] at hn_g1 | skip
  (try simp only[go_sem, hn_g1])
  repeat first|apply wa1|apply wa2|apply wa3|apply wa4|apply wa5 rfl|apply wa6|apply wa7|(refine wb1 rfl fun R r=>?_;simp only[go_sem, hn_g1];with_reducible refine r _ _ ?_;clear r R)
  refine aw_callq (rparts_fa r hw) rfl rfl rfl (by first|exact True.intro|simp only[go_sem, hn_g1]<;>and_intros<;>first|exact True.intro|exact .c (.refl _)|exact .c wl2|exact .agg (lel_refl _)|exact .agg (by simp only[LeL];and_intros<;>first|exact True.intro|exact .refl _|exact wl2)|exact .c .nils) ?_
  (try simp only[go_sem, hn_g1])
  repeat first|apply wa1|apply wa2|apply wa3|apply wa4|apply wa5 rfl|apply wa6|apply wa7|(refine wb1 rfl fun R r=>?_;simp only[go_sem, hn_g1];with_reducible refine r _ _ ?_;clear r R)
  refine aw_cond (by simp only[go_sem, hn_g1]<;>rfl) (fun hb => ?_) (fun hb => ?_)
  · repeat first|apply wa1|apply wa2|apply wa3|apply wa4|apply wa5 rfl|apply wa6|apply wa7|(refine wb1 rfl fun R r=>?_;simp only[go_sem, hn_g1];with_reducible refine r _ _ ?_;clear r R)
    (refine aw_retq hC rfl fun R r=>?_;simp only[go_sem, hn_g1];refine r _ rfl ?_;clear r R)
    exact .one (.c (ler_int (sign_zero hw hb)))
  · repeat first|apply wa1|apply wa2|apply wa3|apply wa4|apply wa5 rfl|apply wa6|apply wa7|(refine wb1 rfl fun R r=>?_;simp only[go_sem, hn_g1];with_reducible refine r _ _ ?_;clear r R)
    refine aw_cond (by simp only[go_sem, hn_g1]<;>rfl) (fun hp => ?_) (fun hp => ?_)
    · repeat first|apply wa1|apply wa2|apply wa3|apply wa4|apply wa5 rfl|apply wa6|apply wa7|(refine wb1 rfl fun R r=>?_;simp only[go_sem, hn_g1];with_reducible refine r _ _ ?_;clear r R)
      (refine aw_retq hC rfl fun R r=>?_;simp only[go_sem, hn_g1];refine r _ rfl ?_;clear r R)
      refine .one (.c (ler_int ?_))
      rw [sign_some hw hb, hp]; rfl
    · repeat first|apply wa1|apply wa2|apply wa3|apply wa4|apply wa5 rfl|apply wa6|apply wa7|(refine wb1 rfl fun R r=>?_;simp only[go_sem, hn_g1];with_reducible refine r _ _ ?_;clear r R)
      (refine aw_retq hC rfl fun R r=>?_;simp only[go_sem, hn_g1];refine r _ rfl ?_;clear r R)
      refine .one (.c (ler_int ?_))
      rw [sign_some hw hb, hp]; rfl

theorem not_of_bne {a b : Bool} (h : (a == b) = false) : b = !a := by cases a <;> cases b <;> simp_all
set_option maxHeartbeats 1600000 in
theorem radd_fa (a b : RD) (ha : a.wf 1073741824) (hb : b.wf 1073741824) : Fa Tryz.prog 130 [.agg (rdc a), .agg (rdc b)] (.agg (rdc (rd (a.q + b.q)))) := by
  obtain ⟨l1, l2⟩ := RD.p_len ha (by omega)
  obtain ⟨l3, l4⟩ := RD.p_len hb (by omega)
  have d1 := RD.pd_ne ha
  have d2 := RD.pd_ne hb
  have dd : a.pd * b.pd ≠ 0 := Nat.mul_ne_zero d1 d2
  have m1 := words_mul_len a.pn b.pd
  have m2 := words_mul_len b.pn a.pd
  have m3 := words_mul_len a.pd b.pd
  have m4 := words_add_len (m := a.pn * b.pd) (n := b.pn * a.pd) (k := 2147483648) (by omega) (by omega)
  refine fa_of_body Tryz.func130 rfl rfl (by simp [Tryz.ntmps130]) fun C hC => ?_
  simp only [initS, Nat.reduceAdd]
  repeat first|apply wa1|apply wa2|apply wa3|apply wa4|apply wa5 rfl|apply wa6|apply wa7|(refine wb1 rfl fun R r=>?_;simp only[go_sem];with_reducible refine r _ _ ?_;clear r R)
  refine aw_box rfl rfl rfl (by simp only[go_sem]<;>rfl) (fun _ e => by cases e) rfl fun g2 hn_g2 => ?_
  replace hn_g2 := Heap.ne_of hn_g2
  first | dsimp only [Heap.ne, gh] at hn_g2 | dsimp only [Heap.ne] at hn_g2 | skip
  (try simp only[go_sem, hn_g2])
  refine aw_box rfl rfl rfl (by simp only[go_sem, hn_g2]<;>rfl) (fun _ e => by cases e) rfl fun g3 hn_g3 => ?_
  replace hn_g3 := Heap.ne_of hn_g3
  first | dsimp only [Heap.ne, gh] at hn_g3 | dsimp only [Heap.ne] at hn_g3 | skip
  (try simp only[go_sem, hn_g2, hn_g3])
  refine aw_alloc rfl rfl rfl (by simp only[go_sem, hn_g2, hn_g3]<;>rfl) fun g4 hn_g4 => ?_
  replace hn_g4 := Heap.ne_of hn_g4
  first | dsimp only [Heap.ne, gh] at hn_g4 | dsimp only [Heap.ne] at hn_g4 | skip
  (try simp only[go_sem, hn_g2, hn_g3, hn_g4])
  repeat first|apply wa1|apply wa2|apply wa3|apply wa4|apply wa5 rfl|apply wa6|apply wa7|(refine wb1 rfl fun R r=>?_;simp only[go_sem, hn_g2, hn_g3, hn_g4];with_reducible refine r _ _ ?_;clear r R)
  refine aw_callq (rparts_fa a ha) rfl rfl rfl (by first|exact True.intro|simp only[go_sem, hn_g2, hn_g3, hn_g4]<;>and_intros<;>first|exact True.intro|exact .c (.refl _)|exact .c wl2|exact .agg (lel_refl _)|exact .agg (by simp only[LeL];and_intros<;>first|exact True.intro|exact .refl _|exact wl2)|exact .c .nils) ?_
  (try simp only[go_sem, hn_g2, hn_g3, hn_g4])
  repeat first|apply wa1|apply wa2|apply wa3|apply wa4|apply wa5 rfl|apply wa6|apply wa7|(refine wb1 rfl fun R r=>?_;simp only[go_sem, hn_g2, hn_g3, hn_g4];with_reducible refine r _ _ ?_;clear r R)
  refine aw_callq (rparts_fa b hb) rfl rfl rfl (by first|exact True.intro|simp only[go_sem, hn_g2, hn_g3, hn_g4]<;>and_intros<;>first|exact True.intro|exact .c (.refl _)|exact .c wl2|exact .agg (lel_refl _)|exact .agg (by simp only[LeL];and_intros<;>first|exact True.intro|exact .refl _|exact wl2)|exact .c .nils) ?_
  (try simp only[go_sem, hn_g2, hn_g3, hn_g4])
  repeat first|apply wa1|apply wa2|apply wa3|apply wa4|apply wa5 rfl|apply wa6|apply wa7|(refine wb1 rfl fun R r=>?_;simp only[go_sem, hn_g2, hn_g3, hn_g4];with_reducible refine r _ _ ?_;clear r R)
  refine aw_callq (mulW a.pn b.pd ?_ ?_) rfl rfl rfl (by first|exact True.intro|simp only[go_sem, hn_g2, hn_g3, hn_g4]<;>and_intros<;>first|exact True.intro|exact .c (.refl _)|exact .c wl2|exact .agg (lel_refl _)|exact .agg (by simp only[LeL];and_intros<;>first|exact True.intro|exact .refl _|exact wl2)|exact .c .nils) ?_
  · omega
  · omega
  (try simp only[go_sem, hn_g2, hn_g3, hn_g4])
  repeat first|apply wa1|apply wa2|apply wa3|apply wa4|apply wa5 rfl|apply wa6|apply wa7|(refine wb1 rfl fun R r=>?_;simp only[go_sem, hn_g2, hn_g3, hn_g4];with_reducible refine r _ _ ?_;clear r R)
  refine aw_callq (mulW b.pn a.pd ?_ ?_) rfl rfl rfl (by first|exact True.intro|simp only[go_sem, hn_g2, hn_g3, hn_g4]<;>and_intros<;>first|exact True.intro|exact .c (.refl _)|exact .c wl2|exact .agg (lel_refl _)|exact .agg (by simp only[LeL];and_intros<;>first|exact True.intro|exact .refl _|exact wl2)|exact .c .nils) ?_
  · omega
  · omega
  (try simp only[go_sem, hn_g2, hn_g3, hn_g4])
  repeat first|apply wa1|apply wa2|apply wa3|apply wa4|apply wa5 rfl|apply wa6|apply wa7|(refine wb1 rfl fun R r=>?_;simp only[go_sem, hn_g2, hn_g3, hn_g4];with_reducible refine r _ _ ?_;clear r R)
  refine aw_callq (mulW a.pd b.pd ?_ ?_) rfl rfl rfl (by first|exact True.intro|simp only[go_sem, hn_g2, hn_g3, hn_g4]<;>and_intros<;>first|exact True.intro|exact .c (.refl _)|exact .c wl2|exact .agg (lel_refl _)|exact .agg (by simp only[LeL];and_intros<;>first|exact True.intro|exact .refl _|exact wl2)|exact .c .nils) ?_
  · omega
  · omega
  (try simp only[go_sem, hn_g2, hn_g3, hn_g4])
  repeat first|apply wa1|apply wa2|apply wa3|apply wa4|apply wa5 rfl|apply wa6|apply wa7|(refine wb1 rfl fun R r=>?_;simp only[go_sem, hn_g2, hn_g3, hn_g4];with_reducible refine r _ _ ?_;clear r R)
  refine aw_cond (by simp only[go_sem, hn_g2, hn_g3, hn_g4]<;>rfl) (fun hs => ?_) (fun hs => ?_)
  · have hs' : a.ps = b.ps := eq_of_beq hs
    repeat first|apply wa1|apply wa2|apply wa3|apply wa4|apply wa5 rfl|apply wa6|apply wa7|(refine wb1 rfl fun R r=>?_;simp only[go_sem, hn_g2, hn_g3, hn_g4];with_reducible refine r _ _ ?_;clear r R)
    refine aw_callq (addW _ _ ?_ ?_) rfl rfl rfl (by first|exact True.intro|simp only[go_sem, hn_g2, hn_g3, hn_g4]<;>and_intros<;>first|exact True.intro|exact .c (.refl _)|exact .c wl2|exact .agg (lel_refl _)|exact .agg (by simp only[LeL];and_intros<;>first|exact True.intro|exact .refl _|exact wl2)|exact .c .nils) ?_
    · omega
    · omega
    (try simp only[go_sem, hn_g2, hn_g3, hn_g4])
    repeat first|apply wa1|apply wa2|apply wa3|apply wa4|apply wa5 rfl|apply wa6|apply wa7|(refine wb1 rfl fun R r=>?_;simp only[go_sem, hn_g2, hn_g3, hn_g4];with_reducible refine r _ _ ?_;clear r R)
    refine aw_callq (rform_fa _ _ _ ?_ ?_ dd) rfl rfl rfl (by first|exact True.intro|simp only[go_sem, hn_g2, hn_g3, hn_g4]<;>and_intros<;>first|exact True.intro|exact .c (.refl _)|exact .c wl2|exact .agg (lel_refl _)|exact .agg (by simp only[LeL];and_intros<;>first|exact True.intro|exact .refl _|exact wl2)|exact .c .nils) ?_
    · omega
    · omega
    (try simp only[go_sem, hn_g2, hn_g3, hn_g4])
    repeat first|apply wa1|apply wa2|apply wa3|apply wa4|apply wa5 rfl|apply wa6|apply wa7|(refine wb1 rfl fun R r=>?_;simp only[go_sem, hn_g2, hn_g3, hn_g4];with_reducible refine r _ _ ?_;clear r R)
    refine aw_store rfl rfl rfl rfl (by simp only[go_sem, hn_g2, hn_g3, hn_g4]<;>rfl) (by simp only[go_sem, hn_g2, hn_g3, hn_g4]<;>rfl) (by simp only[go_sem, hn_g2, hn_g3, hn_g4]<;>rfl) (by simp only[go_sem, hn_g2, hn_g3, hn_g4]<;>rfl) (fun _ e => by cases e) (by rfl) (by rfl) (by first|omega|simp) rfl ?_
    (try simp only[go_sem, hn_g2, hn_g3, hn_g4])
    repeat first|apply wa1|apply wa2|apply wa3|apply wa4|apply wa5 rfl|apply wa6|apply wa7|(refine wb1 rfl fun R r=>?_;simp only[go_sem, hn_g2, hn_g3, hn_g4];with_reducible refine r _ _ ?_;clear r R)
    (refine aw_retq hC rfl fun R r=>?_;simp only[go_sem, hn_g2, hn_g3, hn_g4];refine r _ rfl ?_;clear r R)
    refine ler_rd ?_
    rw [sq_add_same _ d1 d2]
    unfold RD.q; rw [hs']
  · have hs' : b.ps = !a.ps := not_of_bne hs
    repeat first|apply wa1|apply wa2|apply wa3|apply wa4|apply wa5 rfl|apply wa6|apply wa7|(refine wb1 rfl fun R r=>?_;simp only[go_sem, hn_g2, hn_g3, hn_g4];with_reducible refine r _ _ ?_;clear r R)
    refine aw_callq (cmpW _ _ ?_ ?_) rfl rfl rfl (by first|exact True.intro|simp only[go_sem, hn_g2, hn_g3, hn_g4]<;>and_intros<;>first|exact True.intro|exact .c (.refl _)|exact .c wl2|exact .agg (lel_refl _)|exact .agg (by simp only[LeL];and_intros<;>first|exact True.intro|exact .refl _|exact wl2)|exact .c .nils) ?_
    · omega
    · omega
    (try simp only[go_sem, hn_g2, hn_g3, hn_g4])
    repeat first|apply wa1|apply wa2|apply wa3|apply wa4|apply wa5 rfl|apply wa6|apply wa7|(refine wb1 rfl fun R r=>?_;simp only[go_sem, hn_g2, hn_g3, hn_g4];with_reducible refine r _ _ ?_;clear r R)
    refine aw_cond (by simp only[go_sem, hn_g2, hn_g3, hn_g4]<;>rfl) (fun hc => ?_) (fun hc => ?_)
    · have hle : b.pn * a.pd ≤ a.pn * b.pd := by
        have := of_decide_eq_true hc
        unfold cmpN at this
        split at this
        · omega
        · omega
      have hl5 := words_len_mono (Nat.sub_le (a.pn * b.pd) (b.pn * a.pd))
      repeat first|apply wa1|apply wa2|apply wa3|apply wa4|apply wa5 rfl|apply wa6|apply wa7|(refine wb1 rfl fun R r=>?_;simp only[go_sem, hn_g2, hn_g3, hn_g4];with_reducible refine r _ _ ?_;clear r R)
      refine aw_callq (subW _ _ ?_ ?_ hle) rfl rfl rfl (by first|exact True.intro|simp only[go_sem, hn_g2, hn_g3, hn_g4]<;>and_intros<;>first|exact True.intro|exact .c (.refl _)|exact .c wl2|exact .agg (lel_refl _)|exact .agg (by simp only[LeL];and_intros<;>first|exact True.intro|exact .refl _|exact wl2)|exact .c .nils) ?_
      · omega
      · omega
      (try simp only[go_sem, hn_g2, hn_g3, hn_g4])
      repeat first|apply wa1|apply wa2|apply wa3|apply wa4|apply wa5 rfl|apply wa6|apply wa7|(refine wb1 rfl fun R r=>?_;simp only[go_sem, hn_g2, hn_g3, hn_g4];with_reducible refine r _ _ ?_;clear r R)
      refine aw_callq (rform_fa _ _ _ ?_ ?_ dd) rfl rfl rfl (by first|exact True.intro|simp only[go_sem, hn_g2, hn_g3, hn_g4]<;>and_intros<;>first|exact True.intro|exact .c (.refl _)|exact .c wl2|exact .agg (lel_refl _)|exact .agg (by simp only[LeL];and_intros<;>first|exact True.intro|exact .refl _|exact wl2)|exact .c .nils) ?_
      · omega
      · omega
      (try simp only[go_sem, hn_g2, hn_g3, hn_g4])
      repeat first|apply wa1|apply wa2|apply wa3|apply wa4|apply wa5 rfl|apply wa6|apply wa7|(refine wb1 rfl fun R r=>?_;simp only[go_sem, hn_g2, hn_g3, hn_g4];with_reducible refine r _ _ ?_;clear r R)
      refine aw_store rfl rfl rfl rfl (by simp only[go_sem, hn_g2, hn_g3, hn_g4]<;>rfl) (by simp only[go_sem, hn_g2, hn_g3, hn_g4]<;>rfl) (by simp only[go_sem, hn_g2, hn_g3, hn_g4]<;>rfl) (by simp only[go_sem, hn_g2, hn_g3, hn_g4]<;>rfl) (fun _ e => by cases e) (by rfl) (by rfl) (by first|omega|simp) rfl ?_
      (try simp only[go_sem, hn_g2, hn_g3, hn_g4])
      repeat first|apply wa1|apply wa2|apply wa3|apply wa4|apply wa5 rfl|apply wa6|apply wa7|(refine wb1 rfl fun R r=>?_;simp only[go_sem, hn_g2, hn_g3, hn_g4];with_reducible refine r _ _ ?_;clear r R)
      (refine aw_retq hC rfl fun R r=>?_;simp only[go_sem, hn_g2, hn_g3, hn_g4];refine r _ rfl ?_;clear r R)
      refine ler_rd ?_
      rw [sq_add_ge _ d1 d2 hle]
      unfold RD.q; rw [hs']
    · have hle : a.pn * b.pd ≤ b.pn * a.pd := by
        have := of_decide_eq_false hc
        unfold cmpN at this
        split at this
        · omega
        · split at this <;> omega
      have hl5 := words_len_mono (Nat.sub_le (b.pn * a.pd) (a.pn * b.pd))
      repeat first|apply wa1|apply wa2|apply wa3|apply wa4|apply wa5 rfl|apply wa6|apply wa7|(refine wb1 rfl fun R r=>?_;simp only[go_sem, hn_g2, hn_g3, hn_g4];with_reducible refine r _ _ ?_;clear r R)
      refine aw_callq (subW _ _ ?_ ?_ hle) rfl rfl rfl (by first|exact True.intro|simp only[go_sem, hn_g2, hn_g3, hn_g4]<;>and_intros<;>first|exact True.intro|exact .c (.refl _)|exact .c wl2|exact .agg (lel_refl _)|exact .agg (by simp only[LeL];and_intros<;>first|exact True.intro|exact .refl _|exact wl2)|exact .c .nils) ?_
      · omega
      · omega
      (try simp only[go_sem, hn_g2, hn_g3, hn_g4])
      repeat first|apply wa1|apply wa2|apply wa3|apply wa4|apply wa5 rfl|apply wa6|apply wa7|(refine wb1 rfl fun R r=>?_;simp only[go_sem, hn_g2, hn_g3, hn_g4];with_reducible refine r _ _ ?_;clear r R)
      refine aw_callq (rform_fa _ _ _ ?_ ?_ dd) rfl rfl rfl (by first|exact True.intro|simp only[go_sem, hn_g2, hn_g3, hn_g4]<;>and_intros<;>first|exact True.intro|exact .c (.refl _)|exact .c wl2|exact .agg (lel_refl _)|exact .agg (by simp only[LeL];and_intros<;>first|exact True.intro|exact .refl _|exact wl2)|exact .c .nils) ?_
      · omega
      · omega
      (try simp only[go_sem, hn_g2, hn_g3, hn_g4])
      repeat first|apply wa1|apply wa2|apply wa3|apply wa4|apply wa5 rfl|apply wa6|apply wa7|(refine wb1 rfl fun R r=>?_;simp only[go_sem, hn_g2, hn_g3, hn_g4];with_reducible refine r _ _ ?_;clear r R)
      refine aw_store rfl rfl rfl rfl (by simp only[go_sem, hn_g2, hn_g3, hn_g4]<;>rfl) (by simp only[go_sem, hn_g2, hn_g3, hn_g4]<;>rfl) (by simp only[go_sem, hn_g2, hn_g3, hn_g4]<;>rfl) (by simp only[go_sem, hn_g2, hn_g3, hn_g4]<;>rfl) (fun _ e => by cases e) (by rfl) (by rfl) (by first|omega|simp) rfl ?_
      (try simp only[go_sem, hn_g2, hn_g3, hn_g4])
      repeat first|apply wa1|apply wa2|apply wa3|apply wa4|apply wa5 rfl|apply wa6|apply wa7|(refine wb1 rfl fun R r=>?_;simp only[go_sem, hn_g2, hn_g3, hn_g4];with_reducible refine r _ _ ?_;clear r R)
      (refine aw_retq hC rfl fun R r=>?_;simp only[go_sem, hn_g2, hn_g3, hn_g4];refine r _ rfl ?_;clear r R)
      refine ler_rd ?_
      rw [hs', sq_add_lt _ d1 d2 hle]
      unfold RD.q; rw [hs']
set_option maxHeartbeats 800000 in
theorem rmul_fa (a b : RD) (ha : a.wf 1073741824) (hb : b.wf 1073741824) : Fa Tryz.prog 118 [.agg (rdc a), .agg (rdc b)] (.agg (rdc (rd (a.q * b.q)))) := by
  obtain ⟨l1, l2⟩ := RD.p_len ha (by omega)
  obtain ⟨l3, l4⟩ := RD.p_len hb (by omega)
  have d1 := RD.pd_ne ha
  have d2 := RD.pd_ne hb
  have dd : a.pd * b.pd ≠ 0 := Nat.mul_ne_zero d1 d2
  have m1 := words_mul_len a.pn b.pn
  have m3 := words_mul_len a.pd b.pd
  refine fa_of_body Tryz.func118 rfl rfl (by simp [Tryz.ntmps118]) fun C hC => ?_
  simp only [initS, Nat.reduceAdd]
  repeat first|apply wa1|apply wa2|apply wa3|apply wa4|apply wa5 rfl|apply wa6|apply wa7|(refine wb1 rfl fun R r=>?_;simp only[go_sem];with_reducible refine r _ _ ?_;clear r R)
  refine aw_box rfl rfl rfl (by simp only[go_sem]<;>rfl) (fun _ e => by cases e) rfl fun g2 hn_g2 => ?_
  replace hn_g2 := Heap.ne_of hn_g2
  first | dsimp only [Heap.ne, gh] at hn_g2 | dsimp only [Heap.ne] at hn_g2 | skip
  (try simp only[go_sem, hn_g2])
  refine aw_box rfl rfl rfl (by simp only[go_sem, hn_g2]<;>rfl) (fun _ e => by cases e) rfl fun g3 hn_g3 => ?_
  replace hn_g3 := Heap.ne_of hn_g3
  first | dsimp only [Heap.ne, gh] at hn_g3 | dsimp only [Heap.ne] at hn_g3 | skip
  (try simp only[go_sem, hn_g2, hn_g3])
  refine aw_alloc rfl rfl rfl (by simp only[go_sem, hn_g2, hn_g3]<;>rfl) fun g4 hn_g4 => ?_
  replace hn_g4 := Heap.ne_of hn_g4
  first | dsimp only [Heap.ne, gh] at hn_g4 | dsimp only [Heap.ne] at hn_g4 | skip
  (try simp only[go_sem, hn_g2, hn_g3, hn_g4])
  repeat first|apply wa1|apply wa2|apply wa3|apply wa4|apply wa5 rfl|apply wa6|apply wa7|(refine wb1 rfl fun R r=>?_;simp only[go_sem, hn_g2, hn_g3, hn_g4];with_reducible refine r _ _ ?_;clear r R)
  refine aw_callq (rparts_fa a ha) rfl rfl rfl (by first|exact True.intro|simp only[go_sem, hn_g2, hn_g3, hn_g4]<;>and_intros<;>first|exact True.intro|exact .c (.refl _)|exact .c wl2|exact .agg (lel_refl _)|exact .agg (by simp only[LeL];and_intros<;>first|exact True.intro|exact .refl _|exact wl2)|exact .c .nils) ?_
  (try simp only[go_sem, hn_g2, hn_g3, hn_g4])
  repeat first|apply wa1|apply wa2|apply wa3|apply wa4|apply wa5 rfl|apply wa6|apply wa7|(refine wb1 rfl fun R r=>?_;simp only[go_sem, hn_g2, hn_g3, hn_g4];with_reducible refine r _ _ ?_;clear r R)
  refine aw_callq (rparts_fa b hb) rfl rfl rfl (by first|exact True.intro|simp only[go_sem, hn_g2, hn_g3, hn_g4]<;>and_intros<;>first|exact True.intro|exact .c (.refl _)|exact .c wl2|exact .agg (lel_refl _)|exact .agg (by simp only[LeL];and_intros<;>first|exact True.intro|exact .refl _|exact wl2)|exact .c .nils) ?_
  (try simp only[go_sem, hn_g2, hn_g3, hn_g4])
  repeat first|apply wa1|apply wa2|apply wa3|apply wa4|apply wa5 rfl|apply wa6|apply wa7|(refine wb1 rfl fun R r=>?_;simp only[go_sem, hn_g2, hn_g3, hn_g4];with_reducible refine r _ _ ?_;clear r R)
  refine aw_callq (mulW _ _ ?_ ?_) rfl rfl rfl (by first|exact True.intro|simp only[go_sem, hn_g2, hn_g3, hn_g4]<;>and_intros<;>first|exact True.intro|exact .c (.refl _)|exact .c wl2|exact .agg (lel_refl _)|exact .agg (by simp only[LeL];and_intros<;>first|exact True.intro|exact .refl _|exact wl2)|exact .c .nils) ?_
  · omega
  · omega
  (try simp only[go_sem, hn_g2, hn_g3, hn_g4])
  repeat first|apply wa1|apply wa2|apply wa3|apply wa4|apply wa5 rfl|apply wa6|apply wa7|(refine wb1 rfl fun R r=>?_;simp only[go_sem, hn_g2, hn_g3, hn_g4];with_reducible refine r _ _ ?_;clear r R)
  refine aw_callq (mulW _ _ ?_ ?_) rfl rfl rfl (by first|exact True.intro|simp only[go_sem, hn_g2, hn_g3, hn_g4]<;>and_intros<;>first|exact True.intro|exact .c (.refl _)|exact .c wl2|exact .agg (lel_refl _)|exact .agg (by simp only[LeL];and_intros<;>first|exact True.intro|exact .refl _|exact wl2)|exact .c .nils) ?_
  · omega
  · omega
  (try simp only[go_sem, hn_g2, hn_g3, hn_g4])
  repeat first|apply wa1|apply wa2|apply wa3|apply wa4|apply wa5 rfl|apply wa6|apply wa7|(refine wb1 rfl fun R r=>?_;simp only[go_sem, hn_g2, hn_g3, hn_g4];with_reducible refine r _ _ ?_;clear r R)
  refine aw_callq (rform_fa _ _ _ ?_ ?_ dd) rfl rfl rfl (by first|exact True.intro|simp only[go_sem, hn_g2, hn_g3, hn_g4]<;>and_intros<;>first|exact True.intro|exact .c (.refl _)|exact .c wl2|exact .agg (lel_refl _)|exact .agg (by simp only[LeL];and_intros<;>first|exact True.intro|exact .refl _|exact wl2)|exact .c .nils) ?_
  · omega
  · omega
  (try simp only[go_sem, hn_g2, hn_g3, hn_g4])
  repeat first|apply wa1|apply wa2|apply wa3|apply wa4|apply wa5 rfl|apply wa6|apply wa7|(refine wb1 rfl fun R r=>?_;simp only[go_sem, hn_g2, hn_g3, hn_g4];with_reducible refine r _ _ ?_;clear r R)
  refine aw_store rfl rfl rfl rfl (by simp only[go_sem, hn_g2, hn_g3, hn_g4]<;>rfl) (by simp only[go_sem, hn_g2, hn_g3, hn_g4]<;>rfl) (by simp only[go_sem, hn_g2, hn_g3, hn_g4]<;>rfl) (by simp only[go_sem, hn_g2, hn_g3, hn_g4]<;>rfl) (fun _ e => by cases e) (by rfl) (by rfl) (by first|omega|simp) rfl ?_
  (try simp only[go_sem, hn_g2, hn_g3, hn_g4])
  repeat first|apply wa1|apply wa2|apply wa3|apply wa4|apply wa5 rfl|apply wa6|apply wa7|(refine wb1 rfl fun R r=>?_;simp only[go_sem, hn_g2, hn_g3, hn_g4];with_reducible refine r _ _ ?_;clear r R)
  (refine aw_retq hC rfl fun R r=>?_;simp only[go_sem, hn_g2, hn_g3, hn_g4];refine r _ rfl ?_;clear r R)
  exact ler_rd (by rw [sq_mul]; rfl)
theorem neg_wf {r : RD} (hw : r.wf 1073741824) : (rd (-r.q)).wf 1073741824 := rd_wf (fits_neg (RD.fits hw (by omega)))
set_option maxHeartbeats 800000 in
theorem rsub_fa (a b : RD) (ha : a.wf 1073741824) (hb : b.wf 1073741824) : Fa Tryz.prog 85 [.agg (rdc a), .agg (rdc b)] (.agg (rdc (rd (a.q - b.q)))) := by
  refine fa_of_body Tryz.func85 rfl rfl (by simp [Tryz.ntmps85]) fun C hC => ?_
  simp only [initS, Nat.reduceAdd]
  repeat first|apply wa1|apply wa2|apply wa3|apply wa4|apply wa5 rfl|apply wa6|apply wa7|(refine wb1 rfl fun R r=>?_;simp only[go_sem];with_reducible refine r _ _ ?_;clear r R)
  refine aw_box rfl rfl rfl (by simp only[go_sem]<;>rfl) (fun _ e => by cases e) rfl fun g2 hn_g2 => ?_
  replace hn_g2 := Heap.ne_of hn_g2
  first | dsimp only [Heap.ne, gh] at hn_g2 | dsimp only [Heap.ne] at hn_g2 | skip
  (try simp only[go_sem, hn_g2])
  refine aw_box rfl rfl rfl (by simp only[go_sem, hn_g2]<;>rfl) (fun _ e => by cases e) rfl fun g3 hn_g3 => ?_
  replace hn_g3 := Heap.ne_of hn_g3
  first | dsimp only [Heap.ne, gh] at hn_g3 | dsimp only [Heap.ne] at hn_g3 | skip
  (try simp only[go_sem, hn_g2, hn_g3])
  refine aw_alloc rfl rfl rfl (by simp only[go_sem, hn_g2, hn_g3]<;>rfl) fun g4 hn_g4 => ?_
  replace hn_g4 := Heap.ne_of hn_g4
  first | dsimp only [Heap.ne, gh] at hn_g4 | dsimp only [Heap.ne] at hn_g4 | skip
  (try simp only[go_sem, hn_g2, hn_g3, hn_g4])
  repeat first|apply wa1|apply wa2|apply wa3|apply wa4|apply wa5 rfl|apply wa6|apply wa7|(refine wb1 rfl fun R r=>?_;simp only[go_sem, hn_g2, hn_g3, hn_g4];with_reducible refine r _ _ ?_;clear r R)
  refine aw_dr 4 ty_mixed (by kernel_rfl) ?_
  repeat first|apply wa1|apply wa2|apply wa3|apply wa4|apply wa5 rfl|apply wa6|apply wa7|(refine wb1 rfl fun R r=>?_;simp only[go_sem, hn_g2, hn_g3, hn_g4];with_reducible refine r _ _ ?_;clear r R)|apply wa8|(refine wd1 rfl fun R r=>?_;simp only[go_sem, hn_g2, hn_g3, hn_g4];with_reducible refine r _ _ ?_;clear r R)
  refine drk_call (rneg_fa b hb) rfl rfl rfl (by first|exact True.intro|simp only[go_sem, hn_g2, hn_g3, hn_g4]<;>and_intros<;>first|exact True.intro|exact .c (.refl _)|exact .c wl2|exact .agg (lel_refl _)|exact .agg (by simp only[LeL];and_intros<;>first|exact True.intro|exact .refl _|exact wl2)|exact .c .nils) ?_
  (try simp only[go_sem, hn_g2, hn_g3, hn_g4])
  repeat first|apply wa1|apply wa2|apply wa3|apply wa4|apply wa5 rfl|apply wa6|apply wa7|(refine wb1 rfl fun R r=>?_;simp only[go_sem, hn_g2, hn_g3, hn_g4];with_reducible refine r _ _ ?_;clear r R)|apply wa8|(refine wd1 rfl fun R r=>?_;simp only[go_sem, hn_g2, hn_g3, hn_g4];with_reducible refine r _ _ ?_;clear r R)
  refine drk_call (radd_fa a (rd (-b.q)) ha (neg_wf hb)) rfl rfl rfl (by first|exact True.intro|simp only[go_sem, hn_g2, hn_g3, hn_g4]<;>and_intros<;>first|exact True.intro|exact .c (.refl _)|exact .c wl2|exact .agg (lel_refl _)|exact .agg (by simp only[LeL];and_intros<;>first|exact True.intro|exact .refl _|exact wl2)|exact .c .nils) ?_
  (try simp only[go_sem, hn_g2, hn_g3, hn_g4])
  repeat first|apply wa1|apply wa2|apply wa3|apply wa4|apply wa5 rfl|apply wa6|apply wa7|(refine wb1 rfl fun R r=>?_;simp only[go_sem, hn_g2, hn_g3, hn_g4];with_reducible refine r _ _ ?_;clear r R)|apply wa8|(refine wd1 rfl fun R r=>?_;simp only[go_sem, hn_g2, hn_g3, hn_g4];with_reducible refine r _ _ ?_;clear r R)
  refine aw_store rfl rfl rfl rfl (by simp only[go_sem, hn_g2, hn_g3, hn_g4]<;>rfl) (by simp only[go_sem, hn_g2, hn_g3, hn_g4]<;>rfl) (by simp only[go_sem, hn_g2, hn_g3, hn_g4]<;>rfl) (by simp only[go_sem, hn_g2, hn_g3, hn_g4]<;>rfl) (fun _ e => by cases e) (by rfl) (by rfl) (by first|omega|simp) rfl ?_
  (try simp only[go_sem, hn_g2, hn_g3, hn_g4])
  repeat first|apply wa1|apply wa2|apply wa3|apply wa4|apply wa5 rfl|apply wa6|apply wa7|(refine wb1 rfl fun R r=>?_;simp only[go_sem, hn_g2, hn_g3, hn_g4];with_reducible refine r _ _ ?_;clear r R)|apply wa8|(refine wd1 rfl fun R r=>?_;simp only[go_sem, hn_g2, hn_g3, hn_g4];with_reducible refine r _ _ ?_;clear r R)
  (refine aw_retq hC rfl fun R r=>?_;simp only[go_sem, hn_g2, hn_g3, hn_g4];refine r _ rfl ?_;clear r R)
  exact ler_rd (by rw [rd_q, Rat.sub_eq_add_neg])
end Go.Proofs.YtmkomfdiggcloaaGreat
