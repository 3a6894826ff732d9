/- Texts of one proof, laid one behind the other by a program (merge.py): Ref5. -/
import Derived.Test.YtmkomfdiggcloaaGreatM11
set_option linter.unusedSimpArgs false
set_option linter.unusedVariables false
/- faultlineref02: Valid, Parts, From, size, Make, Of, Neg. -/
namespace Go.Proofs.YtmkomfdiggcloaaGreat
open Go.AI Go.PN
attribute [local irreducible] aw Fa Fh DrK
theorem bitlen_one {n : Nat} : ((bitlen n : Int) == 1) = decide (n = 1) := by
  rw [Bool.eq_iff_iff]
  simp only [beq_iff_eq, decide_eq_true_eq]
  unfold bitlen
  constructor
  · intro h
    split at h
    · omega
    · rename_i h0
      have h1 : Nat.log2 n = 0 := by omega
      have h2 := (Nat.log2_lt h0 (k := 1)).1 (by omega)
      omega
  · intro h; subst h; rfl
theorem len_ne {xs : List Nat} (h : xs.length ≠ 0) : ((xs.length : Int) == 0) = false := by
  rw [beq_eq_false_iff_ne]; omega
theorem len_eq {xs : List Nat} (h : xs.length = 0) : ((xs.length : Int) == 0) = true := by rw [h]; rfl
set_option maxHeartbeats 1600000 in
theorem svalid_fa (r : RD) (hw : r.wf 34359738368) : Fa Tryz.prog 99 [.agg (rdc r)] (.c (.bool r.valid)) := by
  have hl1 := hw.2.2.1
  have hl2 := hw.2.2.2
  refine fa_of_body Tryz.func99 rfl rfl (by simp [Tryz.ntmps99]) fun C hC => ?_
  simp only [initS, Nat.reduceAdd]
  repeat first|apply wa1|apply wa2|apply wa3|apply wa4|apply wa5 rfl|apply wa6|apply wa7|(refine wb1 rfl fun R r=>?_;simp only[go_sem];with_reducible refine r _ _ ?_;clear r R)
  refine aw_box rfl rfl rfl (by simp only[go_sem]<;>rfl) (fun _ e => by cases e) rfl fun g1 hn_g1 => ?_
  replace hn_g1 := Heap.ne_of hn_g1
  first | dsimp only [Heap.ne, gh] at hn_g1 | dsimp only [Heap.ne] at hn_g1 | skip
  (try simp only[go_sem, hn_g1])
  repeat first|apply wa1|apply wa2|apply wa3|apply wa4|apply wa5 rfl|apply wa6|apply wa7|(refine wb1 rfl fun R r=>?_;simp only[go_sem, hn_g1];with_reducible refine r _ _ ?_;clear r R)
  refine aw_dr 8 ty_mixed (by kernel_rfl) ?_
  repeat first|apply wa1|apply wa2|apply wa3|apply wa4|apply wa5 rfl|apply wa6|apply wa7|(refine wb1 rfl fun R r=>?_;simp only[go_sem, hn_g1];with_reducible refine r _ _ ?_;clear r R)|apply wa8|(refine wd1 rfl fun R r=>?_;simp only[go_sem, hn_g1];with_reducible refine r _ _ ?_;clear r R)
  by_cases hn : r.num.length = 0
  · have hn' := len_eq hn
    by_cases hd : r.den.length = 0
    · have hd' := len_eq hd
      repeat first|apply wa1|apply wa2|apply wa3|apply wa4|apply wa5 rfl|apply wa6|apply wa7|(refine wb1 rfl fun R r=>?_;simp only[go_sem, hn_g1, hn', hd'];with_reducible refine r _ _ ?_;clear r R)|apply wa8|(refine wd1 rfl fun R r=>?_;simp only[go_sem, hn_g1, hn', hd'];with_reducible refine r _ _ ?_;clear r R)
      refine aw_condT (by simp only[go_sem, hn_g1, hn', hd']<;>rfl) ?_
      repeat first|apply wa1|apply wa2|apply wa3|apply wa4|apply wa5 rfl|apply wa6|apply wa7|(refine wb1 rfl fun R r=>?_;simp only[go_sem, hn_g1, hn', hd'];with_reducible refine r _ _ ?_;clear r R)|apply wa8|(refine wd1 rfl fun R r=>?_;simp only[go_sem, hn_g1, hn', hd'];with_reducible refine r _ _ ?_;clear r R)
      (refine aw_retq hC rfl fun R r=>?_;simp only[go_sem, hn_g1, hn', hd'];refine r _ rfl ?_;clear r R)
      exact .one (.c (ler_bool (valid_zero hn' hd')))
    · have hd' := len_ne hd
      repeat first|apply wa1|apply wa2|apply wa3|apply wa4|apply wa5 rfl|apply wa6|apply wa7|(refine wb1 rfl fun R r=>?_;simp only[go_sem, hn_g1, hn', hd'];with_reducible refine r _ _ ?_;clear r R)
      refine aw_condT (by simp only[go_sem, hn_g1, hn', hd']<;>rfl) ?_
      repeat first|apply wa1|apply wa2|apply wa3|apply wa4|apply wa5 rfl|apply wa6|apply wa7|(refine wb1 rfl fun R r=>?_;simp only[go_sem, hn_g1, hn', hd'];with_reducible refine r _ _ ?_;clear r R)
      (refine aw_retq hC rfl fun R r=>?_;simp only[go_sem, hn_g1, hn', hd'];refine r _ rfl ?_;clear r R)
      refine .one (.c (ler_bool ?_))
      rw [valid_else (.inr hd'), plain_no (by omega), Bool.false_and, Bool.false_and]
  · have hn' := len_ne hn
    by_cases hd : r.den.length = 0
    · have hd' := len_eq hd
      repeat first|apply wa1|apply wa2|apply wa3|apply wa4|apply wa5 rfl|apply wa6|apply wa7|(refine wb1 rfl fun R r=>?_;simp only[go_sem, hn_g1, hn', hd'];with_reducible refine r _ _ ?_;clear r R)
      refine aw_condT (by simp only[go_sem, hn_g1, hn', hd']<;>rfl) ?_
      repeat first|apply wa1|apply wa2|apply wa3|apply wa4|apply wa5 rfl|apply wa6|apply wa7|(refine wb1 rfl fun R r=>?_;simp only[go_sem, hn_g1, hn', hd'];with_reducible refine r _ _ ?_;clear r R)
      (refine aw_retq hC rfl fun R r=>?_;simp only[go_sem, hn_g1, hn', hd'];refine r _ rfl ?_;clear r R)
      refine .one (.c (ler_bool ?_))
      rw [valid_else (.inl hn'), plain_no (xs := r.den) (by omega), Bool.and_false, Bool.false_and]
    · have hd' := len_ne hd
      repeat first|apply wa1|apply wa2|apply wa3|apply wa4|apply wa5 rfl|apply wa6|apply wa7|(refine wb1 rfl fun R r=>?_;simp only[go_sem, hn_g1, hn', hd'];with_reducible refine r _ _ ?_;clear r R)
      refine aw_condF (by simp only[go_sem, hn_g1, hn', hd']<;>rfl) ?_
      repeat first|apply wa1|apply wa2|apply wa3|apply wa4|apply wa5 rfl|apply wa6|apply wa7|(refine wb1 rfl fun R r=>?_;simp only[go_sem, hn_g1, hn', hd'];with_reducible refine r _ _ ?_;clear r R)
      rw [valid_else (.inl hn'), plain_eq (xs := r.num) (by omega), plain_eq (xs := r.den) (by omega)]
      refine aw_split 35 (by simp only[go_sem, hn_g1, hn', hd']<;>rfl) (fun h1 => ?_) (fun h1 => ?_) <;> (try simp only[go_sem, hn_g1, hn', hd'])
      · repeat first|apply wa1|apply wa2|apply wa3|apply wa4|apply wa5 rfl|apply wa6|apply wa7|(refine wb1 rfl fun R r=>?_;simp only[go_sem, hn_g1, hn', hd'];with_reducible refine r _ _ ?_;clear r R)
        refine aw_split 44 (by simp only[go_sem, hn_g1, hn', hd']<;>rfl) (fun h2 => ?_) (fun h2 => ?_) <;> (try simp only[go_sem, hn_g1, hn', hd'])
        · repeat first|apply wa1|apply wa2|apply wa3|apply wa4|apply wa5 rfl|apply wa6|apply wa7|(refine wb1 rfl fun R r=>?_;simp only[go_sem, hn_g1, hn', hd'];with_reducible refine r _ _ ?_;clear r R)
          refine aw_callq (qgcd_fa _ _ hw.1 hw.2.1 ?_ ?_) rfl rfl rfl (by first|exact True.intro|simp only[go_sem, hn_g1, hn', hd']<;>and_intros<;>first|exact True.intro|exact .c (.refl _)|exact .c wl2|exact .agg (lel_refl _)|exact .agg (by simp only[LeL];and_intros<;>first|exact True.intro|exact .refl _|exact wl2)|exact .c .nils) ?_
          · omega
          · omega
          (try simp only[go_sem, hn_g1, hn', hd'])
          repeat first|apply wa1|apply wa2|apply wa3|apply wa4|apply wa5 rfl|apply wa6|apply wa7|(refine wb1 rfl fun R r=>?_;simp only[go_sem, hn_g1, hn', hd'];with_reducible refine r _ _ ?_;clear r R)
          have hg : (words (Nat.gcd (val r.num) (val r.den))).length ≤ 68719476736 := by
            by_cases h : val r.num = 0
            · rw [h, Nat.gcd_zero_left]; have := words_val_len _ hw.2.1; omega
            · have h3 := words_len_mono (Nat.gcd_le_left (val r.den) (Nat.pos_of_ne_zero h)); have := words_val_len _ hw.1; omega
          refine aw_callq (qbits_fa _ (words_lt _) hg) rfl rfl rfl (by first|exact True.intro|simp only[go_sem, hn_g1, hn', hd']<;>and_intros<;>first|exact True.intro|exact .c (.refl _)|exact .c wl2|exact .agg (lel_refl _)|exact .agg (by simp only[LeL];and_intros<;>first|exact True.intro|exact .refl _|exact wl2)|exact .c .nils) ?_
          (try simp only[go_sem, hn_g1, hn', hd'])
          rw [val_words]
          repeat first|apply wa1|apply wa2|apply wa3|apply wa4|apply wa5 rfl|apply wa6|apply wa7|(refine wb1 rfl fun R r=>?_;simp only[go_sem, hn_g1, hn', hd'];with_reducible refine r _ _ ?_;clear r R)
          (refine aw_retq hC rfl fun R r=>?_;simp only[go_sem, hn_g1, hn', hd'];refine r _ rfl ?_;clear r R)
          refine .one (.c (ler_bool ?_))
          rw [h1, h2, bitlen_one]; rfl
        · repeat first|apply wa1|apply wa2|apply wa3|apply wa4|apply wa5 rfl|apply wa6|apply wa7|(refine wb1 rfl fun R r=>?_;simp only[go_sem, hn_g1, hn', hd'];with_reducible refine r _ _ ?_;clear r R)
          (refine aw_retq hC rfl fun R r=>?_;simp only[go_sem, hn_g1, hn', hd'];refine r _ rfl ?_;clear r R)
          refine .one (.c (ler_bool ?_))
          rw [h2, Bool.and_false, Bool.false_and]
      · repeat first|apply wa1|apply wa2|apply wa3|apply wa4|apply wa5 rfl|apply wa6|apply wa7|(refine wb1 rfl fun R r=>?_;simp only[go_sem, hn_g1, hn', hd'];with_reducible refine r _ _ ?_;clear r R)
        (refine aw_retq hC rfl fun R r=>?_;simp only[go_sem, hn_g1, hn', hd'];refine r _ rfl ?_;clear r R)
        refine .one (.c (ler_bool ?_))
        rw [h1, Bool.false_and, Bool.false_and]
theorem ler_one {h : Heap} {t : Bool} {g : Nat} {ty : TypeId} (hg : h.get g = some (.cells ty 1 (ofL [.int .u32 1]))) : LeR h (.osl g 1 0 1) (ws t [1]) :=
  ler_oslws hg (by omega) rfl (fun j hj => by match j, hj with | 0, _ => rfl)
set_option maxHeartbeats 1600000 in
theorem sparts_fa (r : RD) (hw : r.wf 1073741824) : Fa Tryz.prog 100 [.agg (rdc r)] (partsAV r) := by
  refine fa_of_body Tryz.func100 rfl rfl (by simp [Tryz.ntmps100]) fun C hC => ?_
  simp only [initS, Nat.reduceAdd]
  repeat first|apply wa1|apply wa2|apply wa3|apply wa4|apply wa5 rfl|apply wa6|apply wa7|(refine wb1 rfl fun R r=>?_;simp only[go_sem];with_reducible refine r _ _ ?_;clear r R)
  refine aw_box rfl rfl rfl (by simp only[go_sem]<;>rfl) (fun _ e => by cases e) rfl fun g1 hn_g1 => ?_
  replace hn_g1 := Heap.ne_of hn_g1
  first | dsimp only [Heap.ne, gh] at hn_g1 | dsimp only [Heap.ne] at hn_g1 | skip
  (try simp only[go_sem, hn_g1])
  repeat first|apply wa1|apply wa2|apply wa3|apply wa4|apply wa5 rfl|apply wa6|apply wa7|(refine wb1 rfl fun R r=>?_;simp only[go_sem, hn_g1];with_reducible refine r _ _ ?_;clear r R)
  refine aw_callq (svalid_fa r (wf_mono hw ?_)) rfl rfl rfl (by first|exact True.intro|simp only[go_sem, hn_g1]<;>and_intros<;>first|exact True.intro|exact .c (.refl _)|exact .c wl2|exact .agg (lel_refl _)|exact .agg (by simp only[LeL];and_intros<;>first|exact True.intro|exact .refl _|exact wl2)|exact .c .nils) ?_
  · omega
  (try simp only[go_sem, hn_g1])
  repeat first|apply wa1|apply wa2|apply wa3|apply wa4|apply wa5 rfl|apply wa6|apply wa7|(refine wb1 rfl fun R r=>?_;simp only[go_sem, hn_g1];with_reducible refine r _ _ ?_;clear r R)
  refine aw_split 8 (by simp only[go_sem, hn_g1]<;>rfl) (fun hv => ?_) (fun hv => ?_) <;> (try simp only[go_sem, hn_g1])
  · have hs := RD.pn_none (none_of (r := r) (.inl (by simpa using hv)))
    repeat first|apply wa1|apply wa2|apply wa3|apply wa4|apply wa5 rfl|apply wa6|apply wa7|(refine wb1 rfl fun R r=>?_;simp only[go_sem, hn_g1];with_reducible refine r _ _ ?_;clear r R)
    refine aw_condT (by simp only[go_sem, hn_g1]<;>rfl) ?_
    repeat first|apply wa1|apply wa2|apply wa3|apply wa4|apply wa5 rfl|apply wa6|apply wa7|(refine wb1 rfl fun R r=>?_;simp only[go_sem, hn_g1];with_reducible refine r _ _ ?_;clear r R)
    refine aw_buildSlice (xs := [.const (.int .u32 1)]) (cells := [.int .u32 1]) rfl rfl rfl ty_e_ws (by rw [envP, ty_z_u32]; rfl) rfl (by omega) (by omega) (by intro x hx; simp only [List.mem_cons, List.not_mem_nil, or_false] at hx; subst hx; exact ⟨rfl, rfl, rfl⟩) rfl fun g hg => ?_
    replace hg := Heap.ne_of hg
    dsimp only [Heap.ne] at hg
    (try simp only[go_sem, hn_g1, hg])
    repeat first|apply wa1|apply wa2|apply wa3|apply wa4|apply wa5 rfl|apply wa6|apply wa7|(refine wb1 rfl fun R r=>?_;simp only[go_sem, hn_g1, hg];with_reducible refine r _ _ ?_;clear r R)
    (refine aw_retq hC rfl fun R r=>?_;simp only[go_sem, hn_g1, hg];refine r _ rfl ?_;clear r R)
    refine .tup ⟨.c (ler_bool hs.2.2.symm), .c ?_, .c ?_, trivial⟩
    · rw [hs.1]; exact .nils
    · rw [hs.2.1]; exact ler_one (by simp only[go_sem, hn_g1, hg]<;>rfl)
  · have hv' : r.valid = true := by simpa using hv
    repeat first|apply wa1|apply wa2|apply wa3|apply wa4|apply wa5 rfl|apply wa6|apply wa7|(refine wb1 rfl fun R r=>?_;simp only[go_sem, hn_g1];with_reducible refine r _ _ ?_;clear r R)
    refine aw_cond (by simp only[go_sem, hn_g1]<;>rfl) (fun hn => ?_) (fun hn => ?_)
    · have hs := RD.pn_none (none_of (r := r) (.inr hn))
      repeat first|apply wa1|apply wa2|apply wa3|apply wa4|apply wa5 rfl|apply wa6|apply wa7|(refine wb1 rfl fun R r=>?_;simp only[go_sem, hn_g1];with_reducible refine r _ _ ?_;clear r R)
      refine aw_buildSlice (xs := [.const (.int .u32 1)]) (cells := [.int .u32 1]) rfl rfl rfl ty_e_ws (by rw [envP, ty_z_u32]; rfl) rfl (by omega) (by omega) (by intro x hx; simp only [List.mem_cons, List.not_mem_nil, or_false] at hx; subst hx; exact ⟨rfl, rfl, rfl⟩) rfl fun g hg => ?_
      replace hg := Heap.ne_of hg
      dsimp only [Heap.ne] at hg
      (try simp only[go_sem, hn_g1, hg])
      repeat first|apply wa1|apply wa2|apply wa3|apply wa4|apply wa5 rfl|apply wa6|apply wa7|(refine wb1 rfl fun R r=>?_;simp only[go_sem, hn_g1, hg];with_reducible refine r _ _ ?_;clear r R)
      (refine aw_retq hC rfl fun R r=>?_;simp only[go_sem, hn_g1, hg];refine r _ rfl ?_;clear r R)
      refine .tup ⟨.c (ler_bool hs.2.2.symm), .c ?_, .c ?_, trivial⟩
      · rw [hs.1]; exact .nils
      · rw [hs.2.1]; exact ler_one (by simp only[go_sem, hn_g1, hg]<;>rfl)
    · have hs := RD.pn_words hw (some_of hv' hn)
      repeat first|apply wa1|apply wa2|apply wa3|apply wa4|apply wa5 rfl|apply wa6|apply wa7|(refine wb1 rfl fun R r=>?_;simp only[go_sem, hn_g1];with_reducible refine r _ _ ?_;clear r R)
      refine aw_dr 9 ty_mixed (by kernel_rfl) ?_
      repeat first|apply wa1|apply wa2|apply wa3|apply wa4|apply wa5 rfl|apply wa6|apply wa7|(refine wb1 rfl fun R r=>?_;simp only[go_sem, hn_g1];with_reducible refine r _ _ ?_;clear r R)|apply wa8|(refine wd1 rfl fun R r=>?_;simp only[go_sem, hn_g1];with_reducible refine r _ _ ?_;clear r R)
      (refine aw_retq hC rfl fun R r=>?_;simp only[go_sem, hn_g1];refine r _ rfl ?_;clear r R)
      refine .tup ⟨.c (ler_bool hs.2.2.symm), .c ?_, .c ?_, trivial⟩
      · rw [hs.1]; exact ler_ws
      · rw [hs.2.1]; exact ler_ws
set_option maxHeartbeats 1600000 in
theorem sfrom_fa (neg : Bool) (xs ys : List Nat) (hx : ∀ x ∈ xs, x < 4294967296) (hy : ∀ x ∈ ys, x < 4294967296) (hlx : xs.length ≤ 34359738368) (hly : ys.length ≤ 34359738368) (h0 : val ys ≠ 0) :
    Fa Tryz.prog 102 [.c (.bool neg), .c (ws false xs), .c (ws false ys)] (.tup [.agg (rdc (rd (sq neg (val xs) (val ys)))), .c (.int .i64 0)]) := by
  refine fa_of_body Tryz.func102 rfl rfl (by simp [Tryz.ntmps102]) fun C hC => ?_
  simp only [initS, Nat.reduceAdd]
  repeat first|apply wa1|apply wa2|apply wa3|apply wa4|apply wa5 rfl|apply wa6|apply wa7|(refine wb1 rfl fun R r=>?_;simp only[go_sem];with_reducible refine r _ _ ?_;clear r R)
  refine aw_alloc rfl rfl rfl (by simp only[go_sem]<;>rfl) fun g6 hn_g6 => ?_
  replace hn_g6 := Heap.ne_of hn_g6
  first | dsimp only [Heap.ne, gh] at hn_g6 | dsimp only [Heap.ne] at hn_g6 | skip
  (try simp only[go_sem, hn_g6])
  repeat first|apply wa1|apply wa2|apply wa3|apply wa4|apply wa5 rfl|apply wa6|apply wa7|(refine wb1 rfl fun R r=>?_;simp only[go_sem, hn_g6];with_reducible refine r _ _ ?_;clear r R)
  refine aw_callq (qbits_fa ys hy ?_) rfl rfl rfl (by first|exact True.intro|simp only[go_sem, hn_g6]<;>and_intros<;>first|exact True.intro|exact .c (.refl _)|exact .c wl2|exact .agg (lel_refl _)|exact .agg (by simp only[LeL];and_intros<;>first|exact True.intro|exact .refl _|exact wl2)|exact .c .nils) ?_
  · omega
  (try simp only[go_sem, hn_g6])
  repeat first|apply wa1|apply wa2|apply wa3|apply wa4|apply wa5 rfl|apply wa6|apply wa7|(refine wb1 rfl fun R r=>?_;simp only[go_sem, hn_g6];with_reducible refine r _ _ ?_;clear r R)
  refine aw_cond (by simp only[go_sem, hn_g6]<;>rfl) (fun hb => ?_) (fun hb => ?_)
  · exact absurd (bitlen_zero.1 (by have := eq_of_beq hb; omega)) h0
  repeat first|apply wa1|apply wa2|apply wa3|apply wa4|apply wa5 rfl|apply wa6|apply wa7|(refine wb1 rfl fun R r=>?_;simp only[go_sem, hn_g6];with_reducible refine r _ _ ?_;clear r R)
  refine aw_callq (qbits_fa xs hx ?_) rfl rfl rfl (by first|exact True.intro|simp only[go_sem, hn_g6]<;>and_intros<;>first|exact True.intro|exact .c (.refl _)|exact .c wl2|exact .agg (lel_refl _)|exact .agg (by simp only[LeL];and_intros<;>first|exact True.intro|exact .refl _|exact wl2)|exact .c .nils) ?_
  · omega
  (try simp only[go_sem, hn_g6])
  repeat first|apply wa1|apply wa2|apply wa3|apply wa4|apply wa5 rfl|apply wa6|apply wa7|(refine wb1 rfl fun R r=>?_;simp only[go_sem, hn_g6];with_reducible refine r _ _ ?_;clear r R)
  refine aw_cond (by simp only[go_sem, hn_g6]<;>rfl) (fun hc => ?_) (fun hc => ?_)
  · have hz : val xs = 0 := bitlen_zero.1 (by have := eq_of_beq hc; omega)
    repeat first|apply wa1|apply wa2|apply wa3|apply wa4|apply wa5 rfl|apply wa6|apply wa7|(refine wb1 rfl fun R r=>?_;simp only[go_sem, hn_g6];with_reducible refine r _ _ ?_;clear r R)
    refine aw_store rfl rfl rfl rfl (by simp only[go_sem, hn_g6]<;>rfl) (by simp only[go_sem, hn_g6]<;>rfl) (by simp only[go_sem, hn_g6]<;>rfl) (by simp only[go_sem, hn_g6]<;>rfl) (fun _ e => by cases e) (by rfl) (by rfl) (by first|omega|simp) rfl ?_
    (try simp only[go_sem, hn_g6])
    repeat first|apply wa1|apply wa2|apply wa3|apply wa4|apply wa5 rfl|apply wa6|apply wa7|(refine wb1 rfl fun R r=>?_;simp only[go_sem, hn_g6];with_reducible refine r _ _ ?_;clear r R)
    (refine aw_retq hC rfl fun R r=>?_;simp only[go_sem, hn_g6];refine r _ rfl ?_;clear r R)
    rw [hz, sq_zero, rd_zero]
    exact .tup ⟨.agg ⟨.bool _, .nils, .nils, trivial⟩, .c (.int _ _), trivial⟩
  · have hz : val xs ≠ 0 := fun e => by rw [e] at hc; cases hc
    have hg : Nat.gcd (val xs) (val ys) ≠ 0 := fun e => h0 (Nat.eq_zero_of_gcd_eq_zero_right e)
    have hgl : (words (Nat.gcd (val xs) (val ys))).length ≤ 34359738368 := by
      have h3 := words_len_mono (Nat.gcd_le_left (val ys) (Nat.pos_of_ne_zero hz)); have := words_val_len _ hx; omega
    repeat first|apply wa1|apply wa2|apply wa3|apply wa4|apply wa5 rfl|apply wa6|apply wa7|(refine wb1 rfl fun R r=>?_;simp only[go_sem, hn_g6];with_reducible refine r _ _ ?_;clear r R)
    refine aw_callq (qgcd_fa xs ys hx hy hlx hly) rfl rfl rfl (by first|exact True.intro|simp only[go_sem, hn_g6]<;>and_intros<;>first|exact True.intro|exact .c (.refl _)|exact .c wl2|exact .agg (lel_refl _)|exact .agg (by simp only[LeL];and_intros<;>first|exact True.intro|exact .refl _|exact wl2)|exact .c .nils) ?_
    (try simp only[go_sem, hn_g6])
    repeat first|apply wa1|apply wa2|apply wa3|apply wa4|apply wa5 rfl|apply wa6|apply wa7|(refine wb1 rfl fun R r=>?_;simp only[go_sem, hn_g6];with_reducible refine r _ _ ?_;clear r R)
    refine aw_callq (qdiv_fa xs (words (Nat.gcd (val xs) (val ys))) hx (words_lt _) hlx hgl ?_) rfl rfl rfl (by first|exact True.intro|simp only[go_sem, hn_g6]<;>and_intros<;>first|exact True.intro|exact .c (.refl _)|exact .c wl2|exact .agg (lel_refl _)|exact .agg (by simp only[LeL];and_intros<;>first|exact True.intro|exact .refl _|exact wl2)|exact .c .nils) ?_
    · rw [val_words]; exact hg
    (try simp only[go_sem, hn_g6])
    rw [val_words]
    repeat first|apply wa1|apply wa2|apply wa3|apply wa4|apply wa5 rfl|apply wa6|apply wa7|(refine wb1 rfl fun R r=>?_;simp only[go_sem, hn_g6];with_reducible refine r _ _ ?_;clear r R)
    refine aw_callq (qdiv_fa ys (words (Nat.gcd (val xs) (val ys))) hy (words_lt _) hly hgl ?_) rfl rfl rfl (by first|exact True.intro|simp only[go_sem, hn_g6]<;>and_intros<;>first|exact True.intro|exact .c (.refl _)|exact .c wl2|exact .agg (lel_refl _)|exact .agg (by simp only[LeL];and_intros<;>first|exact True.intro|exact .refl _|exact wl2)|exact .c .nils) ?_
    · rw [val_words]; exact hg
    (try simp only[go_sem, hn_g6])
    rw [val_words]
    repeat first|apply wa1|apply wa2|apply wa3|apply wa4|apply wa5 rfl|apply wa6|apply wa7|(refine wb1 rfl fun R r=>?_;simp only[go_sem, hn_g6];with_reducible refine r _ _ ?_;clear r R)
    refine aw_store rfl rfl rfl rfl (by simp only[go_sem, hn_g6]<;>rfl) (by simp only[go_sem, hn_g6]<;>rfl) (by simp only[go_sem, hn_g6]<;>rfl) (by simp only[go_sem, hn_g6]<;>rfl) (fun _ e => by cases e) (by rfl) (by rfl) (by first|omega|simp) rfl ?_
    (try simp only[go_sem, hn_g6])
    repeat first|apply wa1|apply wa2|apply wa3|apply wa4|apply wa5 rfl|apply wa6|apply wa7|(refine wb1 rfl fun R r=>?_;simp only[go_sem, hn_g6];with_reducible refine r _ _ ?_;clear r R)
    (refine aw_retq hC rfl fun R r=>?_;simp only[go_sem, hn_g6];refine r _ rfl ?_;clear r R)
    rw [rd_sq hz h0]
    exact .tup ⟨.agg ⟨.bool _, ler_ws, ler_ws, trivial⟩, .c (.int _ _), trivial⟩
theorem sfromW (neg : Bool) (n d : Nat) (hn : (words n).length ≤ 34359738368) (hd : (words d).length ≤ 34359738368) (h0 : d ≠ 0) :
    Fa Tryz.prog 102 [.c (.bool neg), .c (ws false (words n)), .c (ws false (words d))] (.tup [.agg (rdc (rd (sq neg n d))), .c (.int .i64 0)]) := by
  have := sfrom_fa neg (words n) (words d) (words_lt n) (words_lt d) hn hd (by rw [val_words]; exact h0)
  rwa [val_words, val_words] at this

/-- The two words of a number below 2^64. -/
def two (u : Nat) : List Nat := [u % 4294967296, u / 4294967296]
theorem two_val (u : Nat) : val (two u) = u := by simp only [two, val]; omega
theorem two_lt {u : Nat} (h : u < 18446744073709551616) : ∀ x ∈ two u, x < 4294967296 := fun x hx => by
  simp only [two, List.mem_cons, List.not_mem_nil, or_false] at hx
  rcases hx with rfl | rfl <;> omega
theorem wrap_u64_neg {n : Int} (h0 : -9223372036854775808 ≤ n) (h1 : n < 0) : wrapZ .u64 (0 - wrapZ .u64 n) = (n.natAbs : Int) := by
  rw [wrapZ_eq, wrapZ_eq, IntKind.wrap_u64, IntKind.wrap_u64]; omega
theorem wrap_u64_pos {n : Int} (h0 : 0 ≤ n) (h1 : n ≤ 9223372036854775807) : wrapZ .u64 n = (n.natAbs : Int) := by
  rw [wrapZ_eq, IntKind.wrap_u64]; omega
set_option maxHeartbeats 1600000 in
theorem ssize_fa (n : Int) (h0 : -9223372036854775808 ≤ n) (h1 : n ≤ 9223372036854775807) : Fa Tryz.prog 143 [.c (.int .i64 n)] (.c (ws true (two n.natAbs))) := by
  refine fa_of_body Tryz.func143 rfl rfl (by simp [Tryz.ntmps143]) fun C hC => ?_
  simp only [initS, Nat.reduceAdd]
  apply aw_seq
  apply aw_region
  repeat first|apply wa7|(refine wb1 rfl fun R r=>?_;simp only[go_sem];with_reducible refine r _ _ ?_;clear r R)
  apply aw_seq
  apply aw_region
  repeat first|apply wa7|(refine wb1 rfl fun R r=>?_;simp only[go_sem];with_reducible refine r _ _ ?_;clear r R)
  apply aw_seq
  refine aw_cut (fun _ : Unit => [(3, .c (.int .u64 n.natAbs))]) (fun _ => []) (fun _ => n ≤ 9223372036854775807) ?_ ?_
  · repeat first|apply wa1|apply wa2|apply wa3|apply wa4|apply wa5 rfl|apply wa6|apply wa7|(refine wb1 rfl fun R r=>?_;simp only[go_sem];with_reducible refine r _ _ ?_;clear r R)
    refine aw_cond (by simp only[go_sem]<;>rfl) (fun hb => ?_) (fun hb => ?_)
    · have hn : n < 0 := of_decide_eq_true hb
      have e1 := wrap_u64_neg h0 hn
      repeat first|apply wa1|apply wa2|apply wa3|apply wa4|apply wa5 rfl|apply wa6|apply wa7|(refine wb1 rfl fun R r=>?_;simp only[go_sem, e1];with_reducible refine r _ _ ?_;clear r R)
      exact aw_stop ⟨(), (by simp only[go_sem, e1]<;>and_intros<;>first|exact True.intro|(with_reducible rfl)|exact c_int (by omega)|rfl), (List.Sublist.refl _), h1⟩
    · have hn : 0 ≤ n := by have := of_decide_eq_false hb; omega
      have e1 := wrap_u64_pos hn h1
      repeat first|apply wa1|apply wa2|apply wa3|apply wa4|apply wa5 rfl|apply wa6|apply wa7|(refine wb1 rfl fun R r=>?_;simp only[go_sem, e1];with_reducible refine r _ _ ?_;clear r R)
      exact aw_stop ⟨(), (by simp only[go_sem, e1]<;>and_intros<;>first|exact True.intro|(with_reducible rfl)|exact c_int (by omega)|rfl), (List.Sublist.refl _), h1⟩
  rintro _ _
  have hu : n.natAbs < 18446744073709551616 := by omega
  generalize n.natAbs = u at hu ⊢
  have e1 := wrap_u32_nat u
  have e2 := nat_div_32 u
  have e3 : wrapZ .u32 ((u / 4294967296 : Nat) : Int) = ((u / 4294967296 : Nat) : Int) := by rw [wrap_u32_nat, Nat.mod_eq_of_lt (by omega)]
  repeat first|apply wa1|apply wa2|apply wa3|apply wa4|apply wa5 rfl|apply wa6|apply wa7|(refine wb1 rfl fun R r=>?_;simp only[go_sem, e1, e2, e3];with_reducible refine r _ _ ?_;clear r R)
  refine aw_buildSlice (xs := [.tmp 11, .tmp 14]) (cells := [.int .u32 (u % 4294967296 : Nat), .int .u32 (u / 4294967296 : Nat)]) rfl rfl rfl ty_e_ws (by rw [envP, ty_z_u32]; rfl) rfl (by omega) (by omega) (by intro x hx; simp only [List.mem_cons, List.not_mem_nil, or_false] at hx; rcases hx with rfl | rfl <;> exact ⟨rfl, rfl, rfl⟩) rfl fun g hg => ?_
  (try simp only[go_sem, e1, e2, e3])
  repeat first|apply wa1|apply wa2|apply wa3|apply wa4|apply wa5 rfl|apply wa6|apply wa7|(refine wb1 rfl fun R r=>?_;simp only[go_sem, e1, e2, e3];with_reducible refine r _ _ ?_;clear r R)
  (refine aw_retq hC rfl fun R r=>?_;simp only[go_sem, e1, e2, e3];refine r _ rfl ?_;clear r R)
  exact .one (.c (ler_oslws (by simp only[go_sem, e1, e2, e3]<;>rfl) (by simp) rfl (fun j hj => by match j, hj with | 0, _ => rfl | 1, _ => rfl)))
theorem inv_neg' (d : Rat) : (-d)⁻¹ = - d⁻¹ := by
  by_cases h : d = 0
  · subst h; rw [Rat.neg_zero, Rat.inv_zero, Rat.neg_zero]
  · have h1 : d * d⁻¹ = 1 := Rat.mul_inv_cancel d h
    have h2 : (-d) * (-d)⁻¹ = 1 := Rat.mul_inv_cancel (-d) (by grind)
    grind
/-- n / d. -/
theorem sq_make (n d : Int) : sq (decide (n < 0) != decide (d < 0)) n.natAbs d.natAbs = (n : Rat) / (d : Rat) := by
  have e : ∀ m : Int, ((m.natAbs : Int) = m ∧ ¬ m < 0) ∨ ((m.natAbs : Int) = -m ∧ m < 0) := fun m => by omega
  unfold sq
  rw [Rat.mkRat_eq_div]
  have hs : ((sgn (decide (n < 0) != decide (d < 0)) n.natAbs : Int) : Rat) / ((d.natAbs : Nat) : Rat) = (n : Rat) / (d : Rat) := by
    have hd : ((d.natAbs : Nat) : Rat) = ((d.natAbs : Int) : Rat) := rfl
    rw [hd]
    unfold sgn
    rcases e n with ⟨h1, h2⟩ | ⟨h1, h2⟩ <;> rcases e d with ⟨h3, h4⟩ | ⟨h3, h4⟩
    · simp only [h2, h4, decide_false, bne_self_eq_false, Bool.false_eq_true, if_false, h1, h3]
    · simp only [h2, h4, decide_false, decide_true, bne, h1, h3]
      simp only [show (false == true) = false from rfl, Bool.not_false, if_true]
      rw [Rat.intCast_neg, Rat.intCast_neg, Rat.div_def, Rat.div_def, inv_neg']
      grind
    · simp only [h2, h4, decide_false, decide_true, bne, h1, h3]
      simp only [show (true == false) = false from rfl, Bool.not_false, if_true]
      rw [Int.neg_neg]
    · simp only [h2, h4, decide_true, bne_self_eq_false, Bool.false_eq_true, if_false, h1, h3]
      rw [Rat.intCast_neg, Rat.intCast_neg, Rat.div_def, Rat.div_def, inv_neg']
      grind
  exact hs
end Go.Proofs.YtmkomfdiggcloaaGreat
