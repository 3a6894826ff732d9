/- Texts of one proof, laid one behind the other by a program (merge.py): Ref6, Prob. -/
import Derived.Test.YtmkomfdiggcloaaM11
set_option linter.unusedSimpArgs false
set_option linter.unusedVariables false
/- faultlineref02: Make, Of, Neg, Add, Sub, Mul, Sign, Cmp, Prob; rational: Cmp, Prob. -/
namespace Go.Proofs.Ytmkomfdiggcloaa
open Go.AI Go.PN
attribute [local irreducible] aw Fa Fh DrK
set_option maxHeartbeats 1600000 in
theorem smake_fa (n d : Int) (h0 : -9223372036854775808 ≤ n) (h1 : n ≤ 9223372036854775807) (h2 : -9223372036854775808 ≤ d) (h3 : d ≤ 9223372036854775807) (hd : d ≠ 0) :
    Fa Try.prog 23 [.c (.int .i64 n), .c (.int .i64 d)] (.tup [.agg (rdc (rd ((n : Rat) / (d : Rat)))), .c (.int .i64 0)]) := by
  refine fa_of_body Try.func23 rfl rfl (by simp [Try.ntmps23]) fun C hC => ?_
  simp only [initS, Nat.reduceAdd]
  repeat first|apply wa1|apply wa2|apply wa3|apply wa4|apply wa5 rfl|apply wa6|apply wa7|(refine wb1 rfl fun R r=>?_;simp only[go_sem];with_reducible refine r _ _ ?_;clear r R)
  refine aw_alloc rfl rfl rfl (by simp only[go_sem]<;>rfl) fun g4 hn_g4 => ?_
  replace hn_g4 := Heap.ne_of hn_g4
  first | dsimp only [Heap.ne, gh] at hn_g4 | dsimp only [Heap.ne] at hn_g4 | skip
  (try simp only[go_sem, hn_g4])
  repeat first|apply wa1|apply wa2|apply wa3|apply wa4|apply wa5 rfl|apply wa6|apply wa7|(refine wb1 rfl fun R r=>?_;simp only[go_sem, hn_g4];with_reducible refine r _ _ ?_;clear r R)
  refine aw_callq (ssize_fa n h0 h1) rfl rfl rfl (by first|exact True.intro|simp only[go_sem, hn_g4]<;>and_intros<;>first|exact True.intro|exact .c (.refl _)|exact .c wl2|exact .agg (lel_refl _)|exact .agg (by simp only[LeL];and_intros<;>first|exact True.intro|exact .refl _|exact wl2)|exact .c .nils) ?_
  (try simp only[go_sem, hn_g4])
  repeat first|apply wa1|apply wa2|apply wa3|apply wa4|apply wa5 rfl|apply wa6|apply wa7|(refine wb1 rfl fun R r=>?_;simp only[go_sem, hn_g4];with_reducible refine r _ _ ?_;clear r R)
  refine aw_callq (ssize_fa d h2 h3) rfl rfl rfl (by first|exact True.intro|simp only[go_sem, hn_g4]<;>and_intros<;>first|exact True.intro|exact .c (.refl _)|exact .c wl2|exact .agg (lel_refl _)|exact .agg (by simp only[LeL];and_intros<;>first|exact True.intro|exact .refl _|exact wl2)|exact .c .nils) ?_
  (try simp only[go_sem, hn_g4])
  repeat first|apply wa1|apply wa2|apply wa3|apply wa4|apply wa5 rfl|apply wa6|apply wa7|(refine wb1 rfl fun R r=>?_;simp only[go_sem, hn_g4];with_reducible refine r _ _ ?_;clear r R)
  refine aw_callq (sfrom_fa _ (two n.natAbs) (two d.natAbs) (two_lt ?_) (two_lt ?_) ?_ ?_ ?_) rfl rfl rfl (by first|exact True.intro|simp only[go_sem, hn_g4]<;>and_intros<;>first|exact True.intro|exact .c (.refl _)|exact .c wl2|exact .agg (lel_refl _)|exact .agg (by simp only[LeL];and_intros<;>first|exact True.intro|exact .refl _|exact wl2)|exact .c .nils) ?_
  · omega
  · omega
  · simp [two]
  · simp [two]
  · rw [two_val]; omega
  (try simp only[go_sem, hn_g4])
  rw [two_val, two_val, sq_make]
  repeat first|apply wa1|apply wa2|apply wa3|apply wa4|apply wa5 rfl|apply wa6|apply wa7|(refine wb1 rfl fun R r=>?_;simp only[go_sem, hn_g4];with_reducible refine r _ _ ?_;clear r R)
  refine aw_store rfl rfl rfl rfl (by simp only[go_sem, hn_g4]<;>rfl) (by simp only[go_sem, hn_g4]<;>rfl) (by simp only[go_sem, hn_g4]<;>rfl) (by simp only[go_sem, hn_g4]<;>rfl) (fun _ e => by cases e) (by rfl) (by rfl) (by first|omega|simp) rfl ?_
  (try simp only[go_sem, hn_g4])
  repeat first|apply wa1|apply wa2|apply wa3|apply wa4|apply wa5 rfl|apply wa6|apply wa7|(refine wb1 rfl fun R r=>?_;simp only[go_sem, hn_g4];with_reducible refine r _ _ ?_;clear r R)
  (refine aw_retq hC rfl fun R r=>?_;simp only[go_sem, hn_g4];refine r _ rfl ?_;clear r R)
  exact .tup ⟨.agg lerl_rd, .c (.int _ _), trivial⟩
set_option maxHeartbeats 1600000 in
theorem sof_fa (n : Int) (h0 : -9223372036854775808 ≤ n) (h1 : n ≤ 9223372036854775807) : Fa Try.prog 8 [.c (.int .i64 n)] (.agg (rdc (rd (n : Rat)))) := by
  refine fa_of_body Try.func8 rfl rfl (by simp [Try.ntmps8]) fun C hC => ?_
  simp only [initS, Nat.reduceAdd]
  repeat first|apply wa1|apply wa2|apply wa3|apply wa4|apply wa5 rfl|apply wa6|apply wa7|(refine wb1 rfl fun R r=>?_;simp only[go_sem];with_reducible refine r _ _ ?_;clear r R)
  refine aw_alloc rfl rfl rfl (by simp only[go_sem]<;>rfl) fun g2 hn_g2 => ?_
  replace hn_g2 := Heap.ne_of hn_g2
  first | dsimp only [Heap.ne, gh] at hn_g2 | dsimp only [Heap.ne] at hn_g2 | skip
  (try simp only[go_sem, hn_g2])
  repeat first|apply wa1|apply wa2|apply wa3|apply wa4|apply wa5 rfl|apply wa6|apply wa7|(refine wb1 rfl fun R r=>?_;simp only[go_sem, hn_g2];with_reducible refine r _ _ ?_;clear r R)
  refine aw_callq (smake_fa n 1 h0 h1 ?_ ?_ ?_) rfl rfl rfl (by first|exact True.intro|simp only[go_sem, hn_g2]<;>and_intros<;>first|exact True.intro|exact .c (.refl _)|exact .c wl2|exact .agg (lel_refl _)|exact .agg (by simp only[LeL];and_intros<;>first|exact True.intro|exact .refl _|exact wl2)|exact .c .nils) ?_
  · omega
  · omega
  · omega
  (try simp only[go_sem, hn_g2])
  repeat first|apply wa1|apply wa2|apply wa3|apply wa4|apply wa5 rfl|apply wa6|apply wa7|(refine wb1 rfl fun R r=>?_;simp only[go_sem, hn_g2];with_reducible refine r _ _ ?_;clear r R)
  refine aw_alloc rfl rfl rfl (by simp only[go_sem, hn_g2]<;>rfl) fun g3 hn_g3 => ?_
  replace hn_g3 := Heap.ne_of hn_g3
  first | dsimp only [Heap.ne, gh] at hn_g3 | dsimp only [Heap.ne] at hn_g3 | skip
  (try simp only[go_sem, hn_g2, hn_g3])
  repeat first|apply wa1|apply wa2|apply wa3|apply wa4|apply wa5 rfl|apply wa6|apply wa7|(refine wb1 rfl fun R r=>?_;simp only[go_sem, hn_g2, hn_g3];with_reducible refine r _ _ ?_;clear r R)
  refine aw_store rfl rfl rfl rfl (by simp only[go_sem, hn_g2, hn_g3]<;>rfl) (by simp only[go_sem, hn_g2, hn_g3]<;>rfl) (by simp only[go_sem, hn_g2, hn_g3]<;>rfl) (by simp only[go_sem, hn_g2, hn_g3]<;>rfl) (fun _ e => by cases e) (by rfl) (by rfl) (by first|omega|simp) rfl ?_
  (try simp only[go_sem, hn_g2, hn_g3])
  repeat first|apply wa1|apply wa2|apply wa3|apply wa4|apply wa5 rfl|apply wa6|apply wa7|(refine wb1 rfl fun R r=>?_;simp only[go_sem, hn_g2, hn_g3];with_reducible refine r _ _ ?_;clear r R)
  refine aw_store rfl rfl rfl rfl (by simp only[go_sem, hn_g2, hn_g3]<;>rfl) (by simp only[go_sem, hn_g2, hn_g3]<;>rfl) (by simp only[go_sem, hn_g2, hn_g3]<;>rfl) (by simp only[go_sem, hn_g2, hn_g3]<;>rfl) (fun _ e => by cases e) (by rfl) (by rfl) (by first|omega|simp) rfl ?_
  (try simp only[go_sem, hn_g2, hn_g3])
  repeat first|apply wa1|apply wa2|apply wa3|apply wa4|apply wa5 rfl|apply wa6|apply wa7|(refine wb1 rfl fun R r=>?_;simp only[go_sem, hn_g2, hn_g3];with_reducible refine r _ _ ?_;clear r R)
  (refine aw_retq hC rfl fun R r=>?_;simp only[go_sem, hn_g2, hn_g3];refine r _ rfl ?_;clear r R)
  exact ler_rd (by congr 1; rw [Rat.intCast_one]; grind)
set_option maxHeartbeats 1600000 in
theorem sneg_fa (r : RD) (hw : r.wf 1073741824) : Fa Try.prog 22 [.agg (rdc r)] (.agg (rdc (rd (-r.q)))) := by
  obtain ⟨hl1, hl2⟩ := RD.p_len hw (by omega)
  refine fa_of_body Try.func22 rfl rfl (by simp [Try.ntmps22]) fun C hC => ?_
  simp only [initS, Nat.reduceAdd]
  repeat first|apply wa1|apply wa2|apply wa3|apply wa4|apply wa5 rfl|apply wa6|apply wa7|(refine wb1 rfl fun R r=>?_;simp only[go_sem];with_reducible refine r _ _ ?_;clear r R)
  refine aw_box rfl rfl rfl (by simp only[go_sem]<;>rfl) (fun _ e => by cases e) rfl fun g1 hn_g1 => ?_
  replace hn_g1 := Heap.ne_of hn_g1
  first | dsimp only [Heap.ne, gh] at hn_g1 | dsimp only [Heap.ne] at hn_g1 | skip
  (try simp only[go_sem, hn_g1])
  refine aw_alloc rfl rfl rfl (by simp only[go_sem, hn_g1]<;>rfl) fun g2 hn_g2 => ?_
  replace hn_g2 := Heap.ne_of hn_g2
  first | dsimp only [Heap.ne, gh] at hn_g2 | dsimp only [Heap.ne] at hn_g2 | skip
  (try simp only[go_sem, hn_g1, hn_g2])
  repeat first|apply wa1|apply wa2|apply wa3|apply wa4|apply wa5 rfl|apply wa6|apply wa7|(refine wb1 rfl fun R r=>?_;simp only[go_sem, hn_g1, hn_g2];with_reducible refine r _ _ ?_;clear r R)
  refine aw_callq (sparts_fa r hw) rfl rfl rfl (by first|exact True.intro|simp only[go_sem, hn_g1, hn_g2]<;>and_intros<;>first|exact True.intro|exact .c (.refl _)|exact .c wl2|exact .agg (lel_refl _)|exact .agg (by simp only[LeL];and_intros<;>first|exact True.intro|exact .refl _|exact wl2)|exact .c .nils) ?_
  (try simp only[go_sem, hn_g1, hn_g2])
  repeat first|apply wa1|apply wa2|apply wa3|apply wa4|apply wa5 rfl|apply wa6|apply wa7|(refine wb1 rfl fun R r=>?_;simp only[go_sem, hn_g1, hn_g2];with_reducible refine r _ _ ?_;clear r R)
  refine aw_callq (sfromW _ r.pn r.pd ?_ ?_ (RD.pd_ne hw)) rfl rfl rfl (by first|exact True.intro|simp only[go_sem, hn_g1, hn_g2]<;>and_intros<;>first|exact True.intro|exact .c (.refl _)|exact .c wl2|exact .agg (lel_refl _)|exact .agg (by simp only[LeL];and_intros<;>first|exact True.intro|exact .refl _|exact wl2)|exact .c .nils) ?_
  · omega
  · omega
  (try simp only[go_sem, hn_g1, hn_g2])
  repeat first|apply wa1|apply wa2|apply wa3|apply wa4|apply wa5 rfl|apply wa6|apply wa7|(refine wb1 rfl fun R r=>?_;simp only[go_sem, hn_g1, hn_g2];with_reducible refine r _ _ ?_;clear r R)
  refine aw_alloc rfl rfl rfl (by simp only[go_sem, hn_g1, hn_g2]<;>rfl) fun g6 hn_g6 => ?_
  replace hn_g6 := Heap.ne_of hn_g6
  first | dsimp only [Heap.ne, gh] at hn_g6 | dsimp only [Heap.ne] at hn_g6 | skip
  (try simp only[go_sem, hn_g1, hn_g2, hn_g6])
  repeat first|apply wa1|apply wa2|apply wa3|apply wa4|apply wa5 rfl|apply wa6|apply wa7|(refine wb1 rfl fun R r=>?_;simp only[go_sem, hn_g1, hn_g2, hn_g6];with_reducible refine r _ _ ?_;clear r R)
  refine aw_store rfl rfl rfl rfl (by simp only[go_sem, hn_g1, hn_g2, hn_g6]<;>rfl) (by simp only[go_sem, hn_g1, hn_g2, hn_g6]<;>rfl) (by simp only[go_sem, hn_g1, hn_g2, hn_g6]<;>rfl) (by simp only[go_sem, hn_g1, hn_g2, hn_g6]<;>rfl) (fun _ e => by cases e) (by rfl) (by rfl) (by first|omega|simp) rfl ?_
  (try simp only[go_sem, hn_g1, hn_g2, hn_g6])
  repeat first|apply wa1|apply wa2|apply wa3|apply wa4|apply wa5 rfl|apply wa6|apply wa7|(refine wb1 rfl fun R r=>?_;simp only[go_sem, hn_g1, hn_g2, hn_g6];with_reducible refine r _ _ ?_;clear r R)
  refine aw_store rfl rfl rfl rfl (by simp only[go_sem, hn_g1, hn_g2, hn_g6]<;>rfl) (by simp only[go_sem, hn_g1, hn_g2, hn_g6]<;>rfl) (by simp only[go_sem, hn_g1, hn_g2, hn_g6]<;>rfl) (by simp only[go_sem, hn_g1, hn_g2, hn_g6]<;>rfl) (fun _ e => by cases e) (by rfl) (by rfl) (by first|omega|simp) rfl ?_
  (try simp only[go_sem, hn_g1, hn_g2, hn_g6])
  repeat first|apply wa1|apply wa2|apply wa3|apply wa4|apply wa5 rfl|apply wa6|apply wa7|(refine wb1 rfl fun R r=>?_;simp only[go_sem, hn_g1, hn_g2, hn_g6];with_reducible refine r _ _ ?_;clear r R)
  (refine aw_retq hC rfl fun R r=>?_;simp only[go_sem, hn_g1, hn_g2, hn_g6];refine r _ rfl ?_;clear r R)
  exact ler_rd (by rw [sq_neg]; rfl)
set_option maxHeartbeats 1600000 in
theorem ssign_fa (r : RD) (hw : r.wf 1073741824) : Fa Try.prog 9 [.agg (rdc r)] (.c (.int .i64 (signQ r.q))) := by
  refine fa_of_body Try.func9 rfl rfl (by simp [Try.ntmps9]) fun C hC => ?_
  simp only [initS, Nat.reduceAdd]
  repeat first|apply wa1|apply wa2|apply wa3|apply wa4|apply wa5 rfl|apply wa6|apply wa7|(refine wb1 rfl fun R r=>?_;simp only[go_sem];with_reducible refine r _ _ ?_;clear r R)
  refine aw_box rfl rfl rfl (by simp only[go_sem]<;>rfl) (fun _ e => by cases e) rfl fun g1 hn_g1 => ?_
  replace hn_g1 := Heap.ne_of hn_g1
  first | dsimp only [Heap.ne, gh] at hn_g1 | dsimp only [Heap.ne] at hn_g1 | skip
  (try simp only[go_sem, hn_g1])
  repeat first|apply wa1|apply wa2|apply wa3|apply wa4|apply wa5 rfl|apply wa6|apply wa7|(refine wb1 rfl fun R r=>?_;simp only[go_sem, hn_g1];with_reducible refine r _ _ ?_;clear r R)
  refine aw_callq (sparts_fa r hw) rfl rfl rfl (by first|exact True.intro|simp only[go_sem, hn_g1]<;>and_intros<;>first|exact True.intro|exact .c (.refl _)|exact .c wl2|exact .agg (lel_refl _)|exact .agg (by simp only[LeL];and_intros<;>first|exact True.intro|exact .refl _|exact wl2)|exact .c .nils) ?_
  (try simp only[go_sem, hn_g1])
  repeat first|apply wa1|apply wa2|apply wa3|apply wa4|apply wa5 rfl|apply wa6|apply wa7|(refine wb1 rfl fun R r=>?_;simp only[go_sem, hn_g1];with_reducible refine r _ _ ?_;clear r R)
  refine aw_cond (by simp only[go_sem, hn_g1]<;>rfl) (fun hb => ?_) (fun hb => ?_)
  · repeat first|apply wa1|apply wa2|apply wa3|apply wa4|apply wa5 rfl|apply wa6|apply wa7|(refine wb1 rfl fun R r=>?_;simp only[go_sem, hn_g1];with_reducible refine r _ _ ?_;clear r R)
    (refine aw_retq hC rfl fun R r=>?_;simp only[go_sem, hn_g1];refine r _ rfl ?_;clear r R)
    exact .one (.c (ler_int (sign_zero hw hb)))
  · repeat first|apply wa1|apply wa2|apply wa3|apply wa4|apply wa5 rfl|apply wa6|apply wa7|(refine wb1 rfl fun R r=>?_;simp only[go_sem, hn_g1];with_reducible refine r _ _ ?_;clear r R)
    refine aw_cond (by simp only[go_sem, hn_g1]<;>rfl) (fun hp => ?_) (fun hp => ?_)
    · repeat first|apply wa1|apply wa2|apply wa3|apply wa4|apply wa5 rfl|apply wa6|apply wa7|(refine wb1 rfl fun R r=>?_;simp only[go_sem, hn_g1];with_reducible refine r _ _ ?_;clear r R)
      (refine aw_retq hC rfl fun R r=>?_;simp only[go_sem, hn_g1];refine r _ rfl ?_;clear r R)
      refine .one (.c (ler_int ?_))
      rw [sign_some hw hb, hp]; rfl
    · repeat first|apply wa1|apply wa2|apply wa3|apply wa4|apply wa5 rfl|apply wa6|apply wa7|(refine wb1 rfl fun R r=>?_;simp only[go_sem, hn_g1];with_reducible refine r _ _ ?_;clear r R)
      (refine aw_retq hC rfl fun R r=>?_;simp only[go_sem, hn_g1];refine r _ rfl ?_;clear r R)
      refine .one (.c (ler_int ?_))
      rw [sign_some hw hb, hp]; rfl
theorem qmulW (a b : Nat) (ha : (words a).length ≤ 68719476736) (hb : (words b).length ≤ 68719476736) : Fa Try.prog 33 [.c (ws false (words a)), .c (ws false (words b))] (.c (ws true (words (a * b)))) := by
  have := qmul_fa (words a) (words b) (words_lt a) (words_lt b) ha hb
  rwa [val_words, val_words] at this
theorem qaddW (a b : Nat) (ha : (words a).length ≤ 68719476736) (hb : (words b).length ≤ 68719476736) : Fa Try.prog 35 [.c (ws false (words a)), .c (ws false (words b))] (.c (ws true (words (a + b)))) := by
  have := qadd_fa (words a) (words b) (words_lt a) (words_lt b) ha hb
  rwa [val_words, val_words] at this
theorem qsubW (a b : Nat) (ha : (words a).length ≤ 68719476736) (hb : (words b).length ≤ 68719476736) (h : b ≤ a) : Fa Try.prog 37 [.c (ws false (words a)), .c (ws false (words b))] (.tup [.c (ws true (words (a - b))), .c (.int .i64 0)]) := by
  have := qsub_fa (words a) (words b) (words_lt a) (words_lt b) ha hb (by rw [val_words, val_words]; exact h)
  rwa [val_words, val_words] at this
theorem qcmpW (a b : Nat) (ha : (words a).length ≤ 68719476736) (hb : (words b).length ≤ 68719476736) : Fa Try.prog 36 [.c (ws false (words a)), .c (ws false (words b))] (.c (.int .i64 (cmpN a b))) := by
  have := qcmp_fa (words a) (words b) (words_lt a) (words_lt b) ha hb
  rwa [val_words, val_words] at this
set_option maxHeartbeats 1600000 in
theorem sadd_fa (a b : RD) (ha : a.wf 1073741824) (hb : b.wf 1073741824) : Fa Try.prog 13 [.agg (rdc a), .agg (rdc b)] (.agg (rdc (rd (a.q + b.q)))) := by
  obtain ⟨l1, l2⟩ := RD.p_len ha (by omega)
  obtain ⟨l3, l4⟩ := RD.p_len hb (by omega)
  have d1 := RD.pd_ne ha
  have d2 := RD.pd_ne hb
  have dd : a.pd * b.pd ≠ 0 := Nat.mul_ne_zero d1 d2
  have m1 := words_mul_len a.pn b.pd
  have m2 := words_mul_len b.pn a.pd
  have m3 := words_mul_len a.pd b.pd
  have m4 := words_add_len (m := a.pn * b.pd) (n := b.pn * a.pd) (k := 2147483648) (by omega) (by omega)
  refine fa_of_body Try.func13 rfl rfl (by simp [Try.ntmps13]) fun C hC => ?_
  simp only [initS, Nat.reduceAdd]
  repeat first|apply wa1|apply wa2|apply wa3|apply wa4|apply wa5 rfl|apply wa6|apply wa7|(refine wb1 rfl fun R r=>?_;simp only[go_sem];with_reducible refine r _ _ ?_;clear r R)
  refine aw_box rfl rfl rfl (by simp only[go_sem]<;>rfl) (fun _ e => by cases e) rfl fun g2 hn_g2 => ?_
  replace hn_g2 := Heap.ne_of hn_g2
  first | dsimp only [Heap.ne, gh] at hn_g2 | dsimp only [Heap.ne] at hn_g2 | skip
  (try simp only[go_sem, hn_g2])
  refine aw_box rfl rfl rfl (by simp only[go_sem, hn_g2]<;>rfl) (fun _ e => by cases e) rfl fun g3 hn_g3 => ?_
  replace hn_g3 := Heap.ne_of hn_g3
  first | dsimp only [Heap.ne, gh] at hn_g3 | dsimp only [Heap.ne] at hn_g3 | skip
  (try simp only[go_sem, hn_g2, hn_g3])
  refine aw_alloc rfl rfl rfl (by simp only[go_sem, hn_g2, hn_g3]<;>rfl) fun g4 hn_g4 => ?_
  replace hn_g4 := Heap.ne_of hn_g4
  first | dsimp only [Heap.ne, gh] at hn_g4 | dsimp only [Heap.ne] at hn_g4 | skip
  (try simp only[go_sem, hn_g2, hn_g3, hn_g4])
  repeat first|apply wa1|apply wa2|apply wa3|apply wa4|apply wa5 rfl|apply wa6|apply wa7|(refine wb1 rfl fun R r=>?_;simp only[go_sem, hn_g2, hn_g3, hn_g4];with_reducible refine r _ _ ?_;clear r R)
  refine aw_callq (sparts_fa a ha) rfl rfl rfl (by first|exact True.intro|simp only[go_sem, hn_g2, hn_g3, hn_g4]<;>and_intros<;>first|exact True.intro|exact .c (.refl _)|exact .c wl2|exact .agg (lel_refl _)|exact .agg (by simp only[LeL];and_intros<;>first|exact True.intro|exact .refl _|exact wl2)|exact .c .nils) ?_
  (try simp only[go_sem, hn_g2, hn_g3, hn_g4])
  repeat first|apply wa1|apply wa2|apply wa3|apply wa4|apply wa5 rfl|apply wa6|apply wa7|(refine wb1 rfl fun R r=>?_;simp only[go_sem, hn_g2, hn_g3, hn_g4];with_reducible refine r _ _ ?_;clear r R)
  refine aw_callq (sparts_fa b hb) rfl rfl rfl (by first|exact True.intro|simp only[go_sem, hn_g2, hn_g3, hn_g4]<;>and_intros<;>first|exact True.intro|exact .c (.refl _)|exact .c wl2|exact .agg (lel_refl _)|exact .agg (by simp only[LeL];and_intros<;>first|exact True.intro|exact .refl _|exact wl2)|exact .c .nils) ?_
  (try simp only[go_sem, hn_g2, hn_g3, hn_g4])
  repeat first|apply wa1|apply wa2|apply wa3|apply wa4|apply wa5 rfl|apply wa6|apply wa7|(refine wb1 rfl fun R r=>?_;simp only[go_sem, hn_g2, hn_g3, hn_g4];with_reducible refine r _ _ ?_;clear r R)
  refine aw_callq (qmulW a.pn b.pd ?_ ?_) rfl rfl rfl (by first|exact True.intro|simp only[go_sem, hn_g2, hn_g3, hn_g4]<;>and_intros<;>first|exact True.intro|exact .c (.refl _)|exact .c wl2|exact .agg (lel_refl _)|exact .agg (by simp only[LeL];and_intros<;>first|exact True.intro|exact .refl _|exact wl2)|exact .c .nils) ?_
  · omega
  · omega
  (try simp only[go_sem, hn_g2, hn_g3, hn_g4])
  repeat first|apply wa1|apply wa2|apply wa3|apply wa4|apply wa5 rfl|apply wa6|apply wa7|(refine wb1 rfl fun R r=>?_;simp only[go_sem, hn_g2, hn_g3, hn_g4];with_reducible refine r _ _ ?_;clear r R)
  refine aw_callq (qmulW b.pn a.pd ?_ ?_) rfl rfl rfl (by first|exact True.intro|simp only[go_sem, hn_g2, hn_g3, hn_g4]<;>and_intros<;>first|exact True.intro|exact .c (.refl _)|exact .c wl2|exact .agg (lel_refl _)|exact .agg (by simp only[LeL];and_intros<;>first|exact True.intro|exact .refl _|exact wl2)|exact .c .nils) ?_
  · omega
  · omega
  (try simp only[go_sem, hn_g2, hn_g3, hn_g4])
  repeat first|apply wa1|apply wa2|apply wa3|apply wa4|apply wa5 rfl|apply wa6|apply wa7|(refine wb1 rfl fun R r=>?_;simp only[go_sem, hn_g2, hn_g3, hn_g4];with_reducible refine r _ _ ?_;clear r R)
  refine aw_callq (qmulW a.pd b.pd ?_ ?_) rfl rfl rfl (by first|exact True.intro|simp only[go_sem, hn_g2, hn_g3, hn_g4]<;>and_intros<;>first|exact True.intro|exact .c (.refl _)|exact .c wl2|exact .agg (lel_refl _)|exact .agg (by simp only[LeL];and_intros<;>first|exact True.intro|exact .refl _|exact wl2)|exact .c .nils) ?_
  · omega
  · omega
  (try simp only[go_sem, hn_g2, hn_g3, hn_g4])
  repeat first|apply wa1|apply wa2|apply wa3|apply wa4|apply wa5 rfl|apply wa6|apply wa7|(refine wb1 rfl fun R r=>?_;simp only[go_sem, hn_g2, hn_g3, hn_g4];with_reducible refine r _ _ ?_;clear r R)
  refine aw_cond (by simp only[go_sem, hn_g2, hn_g3, hn_g4]<;>rfl) (fun hs => ?_) (fun hs => ?_)
  · have hs' : a.ps = b.ps := eq_of_beq hs
    repeat first|apply wa1|apply wa2|apply wa3|apply wa4|apply wa5 rfl|apply wa6|apply wa7|(refine wb1 rfl fun R r=>?_;simp only[go_sem, hn_g2, hn_g3, hn_g4];with_reducible refine r _ _ ?_;clear r R)
    refine aw_callq (qaddW _ _ ?_ ?_) rfl rfl rfl (by first|exact True.intro|simp only[go_sem, hn_g2, hn_g3, hn_g4]<;>and_intros<;>first|exact True.intro|exact .c (.refl _)|exact .c wl2|exact .agg (lel_refl _)|exact .agg (by simp only[LeL];and_intros<;>first|exact True.intro|exact .refl _|exact wl2)|exact .c .nils) ?_
    · omega
    · omega
    (try simp only[go_sem, hn_g2, hn_g3, hn_g4])
    repeat first|apply wa1|apply wa2|apply wa3|apply wa4|apply wa5 rfl|apply wa6|apply wa7|(refine wb1 rfl fun R r=>?_;simp only[go_sem, hn_g2, hn_g3, hn_g4];with_reducible refine r _ _ ?_;clear r R)
    refine aw_callq (sfromW _ _ _ ?_ ?_ dd) rfl rfl rfl (by first|exact True.intro|simp only[go_sem, hn_g2, hn_g3, hn_g4]<;>and_intros<;>first|exact True.intro|exact .c (.refl _)|exact .c wl2|exact .agg (lel_refl _)|exact .agg (by simp only[LeL];and_intros<;>first|exact True.intro|exact .refl _|exact wl2)|exact .c .nils) ?_
    · omega
    · omega
    (try simp only[go_sem, hn_g2, hn_g3, hn_g4])
    repeat first|apply wa1|apply wa2|apply wa3|apply wa4|apply wa5 rfl|apply wa6|apply wa7|(refine wb1 rfl fun R r=>?_;simp only[go_sem, hn_g2, hn_g3, hn_g4];with_reducible refine r _ _ ?_;clear r R)
    refine aw_alloc rfl rfl rfl (by simp only[go_sem, hn_g2, hn_g3, hn_g4]<;>rfl) fun g14 hn_g14 => ?_
    replace hn_g14 := Heap.ne_of hn_g14
    first | dsimp only [Heap.ne, gh] at hn_g14 | dsimp only [Heap.ne] at hn_g14 | skip
    (try simp only[go_sem, hn_g2, hn_g3, hn_g4, hn_g14])
    repeat first|apply wa1|apply wa2|apply wa3|apply wa4|apply wa5 rfl|apply wa6|apply wa7|(refine wb1 rfl fun R r=>?_;simp only[go_sem, hn_g2, hn_g3, hn_g4, hn_g14];with_reducible refine r _ _ ?_;clear r R)
    refine aw_store rfl rfl rfl rfl (by simp only[go_sem, hn_g2, hn_g3, hn_g4, hn_g14]<;>rfl) (by simp only[go_sem, hn_g2, hn_g3, hn_g4, hn_g14]<;>rfl) (by simp only[go_sem, hn_g2, hn_g3, hn_g4, hn_g14]<;>rfl) (by simp only[go_sem, hn_g2, hn_g3, hn_g4, hn_g14]<;>rfl) (fun _ e => by cases e) (by rfl) (by rfl) (by first|omega|simp) rfl ?_
    (try simp only[go_sem, hn_g2, hn_g3, hn_g4, hn_g14])
    repeat first|apply wa1|apply wa2|apply wa3|apply wa4|apply wa5 rfl|apply wa6|apply wa7|(refine wb1 rfl fun R r=>?_;simp only[go_sem, hn_g2, hn_g3, hn_g4, hn_g14];with_reducible refine r _ _ ?_;clear r R)
    refine aw_store rfl rfl rfl rfl (by simp only[go_sem, hn_g2, hn_g3, hn_g4, hn_g14]<;>rfl) (by simp only[go_sem, hn_g2, hn_g3, hn_g4, hn_g14]<;>rfl) (by simp only[go_sem, hn_g2, hn_g3, hn_g4, hn_g14]<;>rfl) (by simp only[go_sem, hn_g2, hn_g3, hn_g4, hn_g14]<;>rfl) (fun _ e => by cases e) (by rfl) (by rfl) (by first|omega|simp) rfl ?_
    (try simp only[go_sem, hn_g2, hn_g3, hn_g4, hn_g14])
    repeat first|apply wa1|apply wa2|apply wa3|apply wa4|apply wa5 rfl|apply wa6|apply wa7|(refine wb1 rfl fun R r=>?_;simp only[go_sem, hn_g2, hn_g3, hn_g4, hn_g14];with_reducible refine r _ _ ?_;clear r R)
    (refine aw_retq hC rfl fun R r=>?_;simp only[go_sem, hn_g2, hn_g3, hn_g4, hn_g14];refine r _ rfl ?_;clear r R)
    refine ler_rd ?_
    rw [sq_add_same _ d1 d2]
    unfold RD.q; rw [hs']
  · have hs' : b.ps = !a.ps := not_of_bne hs
    repeat first|apply wa1|apply wa2|apply wa3|apply wa4|apply wa5 rfl|apply wa6|apply wa7|(refine wb1 rfl fun R r=>?_;simp only[go_sem, hn_g2, hn_g3, hn_g4];with_reducible refine r _ _ ?_;clear r R)
    refine aw_callq (qcmpW _ _ ?_ ?_) rfl rfl rfl (by first|exact True.intro|simp only[go_sem, hn_g2, hn_g3, hn_g4]<;>and_intros<;>first|exact True.intro|exact .c (.refl _)|exact .c wl2|exact .agg (lel_refl _)|exact .agg (by simp only[LeL];and_intros<;>first|exact True.intro|exact .refl _|exact wl2)|exact .c .nils) ?_
    · omega
    · omega
    (try simp only[go_sem, hn_g2, hn_g3, hn_g4])
    repeat first|apply wa1|apply wa2|apply wa3|apply wa4|apply wa5 rfl|apply wa6|apply wa7|(refine wb1 rfl fun R r=>?_;simp only[go_sem, hn_g2, hn_g3, hn_g4];with_reducible refine r _ _ ?_;clear r R)
    refine aw_cond (by simp only[go_sem, hn_g2, hn_g3, hn_g4]<;>rfl) (fun hc => ?_) (fun hc => ?_)
    · have hle : a.pn * b.pd ≤ b.pn * a.pd := by
        have := of_decide_eq_true hc
        unfold cmpN at this
        split at this
        · omega
        · split at this <;> omega
      have hl5 := words_len_mono (Nat.sub_le (b.pn * a.pd) (a.pn * b.pd))
      repeat first|apply wa1|apply wa2|apply wa3|apply wa4|apply wa5 rfl|apply wa6|apply wa7|(refine wb1 rfl fun R r=>?_;simp only[go_sem, hn_g2, hn_g3, hn_g4];with_reducible refine r _ _ ?_;clear r R)
      refine aw_callq (qsubW _ _ ?_ ?_ hle) rfl rfl rfl (by first|exact True.intro|simp only[go_sem, hn_g2, hn_g3, hn_g4]<;>and_intros<;>first|exact True.intro|exact .c (.refl _)|exact .c wl2|exact .agg (lel_refl _)|exact .agg (by simp only[LeL];and_intros<;>first|exact True.intro|exact .refl _|exact wl2)|exact .c .nils) ?_
      · omega
      · omega
      (try simp only[go_sem, hn_g2, hn_g3, hn_g4])
      repeat first|apply wa1|apply wa2|apply wa3|apply wa4|apply wa5 rfl|apply wa6|apply wa7|(refine wb1 rfl fun R r=>?_;simp only[go_sem, hn_g2, hn_g3, hn_g4];with_reducible refine r _ _ ?_;clear r R)
      refine aw_callq (sfromW _ _ _ ?_ ?_ dd) rfl rfl rfl (by first|exact True.intro|simp only[go_sem, hn_g2, hn_g3, hn_g4]<;>and_intros<;>first|exact True.intro|exact .c (.refl _)|exact .c wl2|exact .agg (lel_refl _)|exact .agg (by simp only[LeL];and_intros<;>first|exact True.intro|exact .refl _|exact wl2)|exact .c .nils) ?_
      · omega
      · omega
      (try simp only[go_sem, hn_g2, hn_g3, hn_g4])
      repeat first|apply wa1|apply wa2|apply wa3|apply wa4|apply wa5 rfl|apply wa6|apply wa7|(refine wb1 rfl fun R r=>?_;simp only[go_sem, hn_g2, hn_g3, hn_g4];with_reducible refine r _ _ ?_;clear r R)
      refine aw_alloc rfl rfl rfl (by simp only[go_sem, hn_g2, hn_g3, hn_g4]<;>rfl) fun g18 hn_g18 => ?_
      replace hn_g18 := Heap.ne_of hn_g18
      first | dsimp only [Heap.ne, gh] at hn_g18 | dsimp only [Heap.ne] at hn_g18 | skip
      (try simp only[go_sem, hn_g2, hn_g3, hn_g4, hn_g18])
      repeat first|apply wa1|apply wa2|apply wa3|apply wa4|apply wa5 rfl|apply wa6|apply wa7|(refine wb1 rfl fun R r=>?_;simp only[go_sem, hn_g2, hn_g3, hn_g4, hn_g18];with_reducible refine r _ _ ?_;clear r R)
      refine aw_store rfl rfl rfl rfl (by simp only[go_sem, hn_g2, hn_g3, hn_g4, hn_g18]<;>rfl) (by simp only[go_sem, hn_g2, hn_g3, hn_g4, hn_g18]<;>rfl) (by simp only[go_sem, hn_g2, hn_g3, hn_g4, hn_g18]<;>rfl) (by simp only[go_sem, hn_g2, hn_g3, hn_g4, hn_g18]<;>rfl) (fun _ e => by cases e) (by rfl) (by rfl) (by first|omega|simp) rfl ?_
      (try simp only[go_sem, hn_g2, hn_g3, hn_g4, hn_g18])
      repeat first|apply wa1|apply wa2|apply wa3|apply wa4|apply wa5 rfl|apply wa6|apply wa7|(refine wb1 rfl fun R r=>?_;simp only[go_sem, hn_g2, hn_g3, hn_g4, hn_g18];with_reducible refine r _ _ ?_;clear r R)
      refine aw_store rfl rfl rfl rfl (by simp only[go_sem, hn_g2, hn_g3, hn_g4, hn_g18]<;>rfl) (by simp only[go_sem, hn_g2, hn_g3, hn_g4, hn_g18]<;>rfl) (by simp only[go_sem, hn_g2, hn_g3, hn_g4, hn_g18]<;>rfl) (by simp only[go_sem, hn_g2, hn_g3, hn_g4, hn_g18]<;>rfl) (fun _ e => by cases e) (by rfl) (by rfl) (by first|omega|simp) rfl ?_
      (try simp only[go_sem, hn_g2, hn_g3, hn_g4, hn_g18])
      repeat first|apply wa1|apply wa2|apply wa3|apply wa4|apply wa5 rfl|apply wa6|apply wa7|(refine wb1 rfl fun R r=>?_;simp only[go_sem, hn_g2, hn_g3, hn_g4, hn_g18];with_reducible refine r _ _ ?_;clear r R)
      (refine aw_retq hC rfl fun R r=>?_;simp only[go_sem, hn_g2, hn_g3, hn_g4, hn_g18];refine r _ rfl ?_;clear r R)
      refine ler_rd ?_
      rw [hs', sq_add_lt _ d1 d2 hle]
      unfold RD.q; rw [hs']
    · have hle : b.pn * a.pd ≤ a.pn * b.pd := by
        have := of_decide_eq_false hc
        unfold cmpN at this
        split at this
        · omega
        · omega
      have hl5 := words_len_mono (Nat.sub_le (a.pn * b.pd) (b.pn * a.pd))
      repeat first|apply wa1|apply wa2|apply wa3|apply wa4|apply wa5 rfl|apply wa6|apply wa7|(refine wb1 rfl fun R r=>?_;simp only[go_sem, hn_g2, hn_g3, hn_g4];with_reducible refine r _ _ ?_;clear r R)
      refine aw_callq (qsubW _ _ ?_ ?_ hle) rfl rfl rfl (by first|exact True.intro|simp only[go_sem, hn_g2, hn_g3, hn_g4]<;>and_intros<;>first|exact True.intro|exact .c (.refl _)|exact .c wl2|exact .agg (lel_refl _)|exact .agg (by simp only[LeL];and_intros<;>first|exact True.intro|exact .refl _|exact wl2)|exact .c .nils) ?_
      · omega
      · omega
      (try simp only[go_sem, hn_g2, hn_g3, hn_g4])
      repeat first|apply wa1|apply wa2|apply wa3|apply wa4|apply wa5 rfl|apply wa6|apply wa7|(refine wb1 rfl fun R r=>?_;simp only[go_sem, hn_g2, hn_g3, hn_g4];with_reducible refine r _ _ ?_;clear r R)
      refine aw_callq (sfromW _ _ _ ?_ ?_ dd) rfl rfl rfl (by first|exact True.intro|simp only[go_sem, hn_g2, hn_g3, hn_g4]<;>and_intros<;>first|exact True.intro|exact .c (.refl _)|exact .c wl2|exact .agg (lel_refl _)|exact .agg (by simp only[LeL];and_intros<;>first|exact True.intro|exact .refl _|exact wl2)|exact .c .nils) ?_
      · omega
      · omega
      (try simp only[go_sem, hn_g2, hn_g3, hn_g4])
      repeat first|apply wa1|apply wa2|apply wa3|apply wa4|apply wa5 rfl|apply wa6|apply wa7|(refine wb1 rfl fun R r=>?_;simp only[go_sem, hn_g2, hn_g3, hn_g4];with_reducible refine r _ _ ?_;clear r R)
      refine aw_alloc rfl rfl rfl (by simp only[go_sem, hn_g2, hn_g3, hn_g4]<;>rfl) fun g18 hn_g18 => ?_
      replace hn_g18 := Heap.ne_of hn_g18
      first | dsimp only [Heap.ne, gh] at hn_g18 | dsimp only [Heap.ne] at hn_g18 | skip
      (try simp only[go_sem, hn_g2, hn_g3, hn_g4, hn_g18])
      repeat first|apply wa1|apply wa2|apply wa3|apply wa4|apply wa5 rfl|apply wa6|apply wa7|(refine wb1 rfl fun R r=>?_;simp only[go_sem, hn_g2, hn_g3, hn_g4, hn_g18];with_reducible refine r _ _ ?_;clear r R)
      refine aw_store rfl rfl rfl rfl (by simp only[go_sem, hn_g2, hn_g3, hn_g4, hn_g18]<;>rfl) (by simp only[go_sem, hn_g2, hn_g3, hn_g4, hn_g18]<;>rfl) (by simp only[go_sem, hn_g2, hn_g3, hn_g4, hn_g18]<;>rfl) (by simp only[go_sem, hn_g2, hn_g3, hn_g4, hn_g18]<;>rfl) (fun _ e => by cases e) (by rfl) (by rfl) (by first|omega|simp) rfl ?_
      (try simp only[go_sem, hn_g2, hn_g3, hn_g4, hn_g18])
      repeat first|apply wa1|apply wa2|apply wa3|apply wa4|apply wa5 rfl|apply wa6|apply wa7|(refine wb1 rfl fun R r=>?_;simp only[go_sem, hn_g2, hn_g3, hn_g4, hn_g18];with_reducible refine r _ _ ?_;clear r R)
      refine aw_store rfl rfl rfl rfl (by simp only[go_sem, hn_g2, hn_g3, hn_g4, hn_g18]<;>rfl) (by simp only[go_sem, hn_g2, hn_g3, hn_g4, hn_g18]<;>rfl) (by simp only[go_sem, hn_g2, hn_g3, hn_g4, hn_g18]<;>rfl) (by simp only[go_sem, hn_g2, hn_g3, hn_g4, hn_g18]<;>rfl) (fun _ e => by cases e) (by rfl) (by rfl) (by first|omega|simp) rfl ?_
      (try simp only[go_sem, hn_g2, hn_g3, hn_g4, hn_g18])
      repeat first|apply wa1|apply wa2|apply wa3|apply wa4|apply wa5 rfl|apply wa6|apply wa7|(refine wb1 rfl fun R r=>?_;simp only[go_sem, hn_g2, hn_g3, hn_g4, hn_g18];with_reducible refine r _ _ ?_;clear r R)
      (refine aw_retq hC rfl fun R r=>?_;simp only[go_sem, hn_g2, hn_g3, hn_g4, hn_g18];refine r _ rfl ?_;clear r R)
      refine ler_rd ?_
      rw [sq_add_ge _ d1 d2 hle]
      unfold RD.q; rw [hs']
set_option maxHeartbeats 1600000 in
theorem smul_fa (a b : RD) (ha : a.wf 1073741824) (hb : b.wf 1073741824) : Fa Try.prog 14 [.agg (rdc a), .agg (rdc b)] (.agg (rdc (rd (a.q * b.q)))) := by
  obtain ⟨l1, l2⟩ := RD.p_len ha (by omega)
  obtain ⟨l3, l4⟩ := RD.p_len hb (by omega)
  have d1 := RD.pd_ne ha
  have d2 := RD.pd_ne hb
  have dd : a.pd * b.pd ≠ 0 := Nat.mul_ne_zero d1 d2
  have m1 := words_mul_len a.pn b.pn
  have m3 := words_mul_len a.pd b.pd
  refine fa_of_body Try.func14 rfl rfl (by simp [Try.ntmps14]) fun C hC => ?_
  simp only [initS, Nat.reduceAdd]
  repeat first|apply wa1|apply wa2|apply wa3|apply wa4|apply wa5 rfl|apply wa6|apply wa7|(refine wb1 rfl fun R r=>?_;simp only[go_sem];with_reducible refine r _ _ ?_;clear r R)
  refine aw_box rfl rfl rfl (by simp only[go_sem]<;>rfl) (fun _ e => by cases e) rfl fun g2 hn_g2 => ?_
  replace hn_g2 := Heap.ne_of hn_g2
  first | dsimp only [Heap.ne, gh] at hn_g2 | dsimp only [Heap.ne] at hn_g2 | skip
  (try simp only[go_sem, hn_g2])
  refine aw_box rfl rfl rfl (by simp only[go_sem, hn_g2]<;>rfl) (fun _ e => by cases e) rfl fun g3 hn_g3 => ?_
  replace hn_g3 := Heap.ne_of hn_g3
  first | dsimp only [Heap.ne, gh] at hn_g3 | dsimp only [Heap.ne] at hn_g3 | skip
  (try simp only[go_sem, hn_g2, hn_g3])
  refine aw_alloc rfl rfl rfl (by simp only[go_sem, hn_g2, hn_g3]<;>rfl) fun g4 hn_g4 => ?_
  replace hn_g4 := Heap.ne_of hn_g4
  first | dsimp only [Heap.ne, gh] at hn_g4 | dsimp only [Heap.ne] at hn_g4 | skip
  (try simp only[go_sem, hn_g2, hn_g3, hn_g4])
  repeat first|apply wa1|apply wa2|apply wa3|apply wa4|apply wa5 rfl|apply wa6|apply wa7|(refine wb1 rfl fun R r=>?_;simp only[go_sem, hn_g2, hn_g3, hn_g4];with_reducible refine r _ _ ?_;clear r R)
  refine aw_callq (sparts_fa a ha) rfl rfl rfl (by first|exact True.intro|simp only[go_sem, hn_g2, hn_g3, hn_g4]<;>and_intros<;>first|exact True.intro|exact .c (.refl _)|exact .c wl2|exact .agg (lel_refl _)|exact .agg (by simp only[LeL];and_intros<;>first|exact True.intro|exact .refl _|exact wl2)|exact .c .nils) ?_
  (try simp only[go_sem, hn_g2, hn_g3, hn_g4])
  repeat first|apply wa1|apply wa2|apply wa3|apply wa4|apply wa5 rfl|apply wa6|apply wa7|(refine wb1 rfl fun R r=>?_;simp only[go_sem, hn_g2, hn_g3, hn_g4];with_reducible refine r _ _ ?_;clear r R)
  refine aw_callq (sparts_fa b hb) rfl rfl rfl (by first|exact True.intro|simp only[go_sem, hn_g2, hn_g3, hn_g4]<;>and_intros<;>first|exact True.intro|exact .c (.refl _)|exact .c wl2|exact .agg (lel_refl _)|exact .agg (by simp only[LeL];and_intros<;>first|exact True.intro|exact .refl _|exact wl2)|exact .c .nils) ?_
  (try simp only[go_sem, hn_g2, hn_g3, hn_g4])
  repeat first|apply wa1|apply wa2|apply wa3|apply wa4|apply wa5 rfl|apply wa6|apply wa7|(refine wb1 rfl fun R r=>?_;simp only[go_sem, hn_g2, hn_g3, hn_g4];with_reducible refine r _ _ ?_;clear r R)
  refine aw_callq (qmulW _ _ ?_ ?_) rfl rfl rfl (by first|exact True.intro|simp only[go_sem, hn_g2, hn_g3, hn_g4]<;>and_intros<;>first|exact True.intro|exact .c (.refl _)|exact .c wl2|exact .agg (lel_refl _)|exact .agg (by simp only[LeL];and_intros<;>first|exact True.intro|exact .refl _|exact wl2)|exact .c .nils) ?_
  · omega
  · omega
  (try simp only[go_sem, hn_g2, hn_g3, hn_g4])
  repeat first|apply wa1|apply wa2|apply wa3|apply wa4|apply wa5 rfl|apply wa6|apply wa7|(refine wb1 rfl fun R r=>?_;simp only[go_sem, hn_g2, hn_g3, hn_g4];with_reducible refine r _ _ ?_;clear r R)
  refine aw_callq (qmulW _ _ ?_ ?_) rfl rfl rfl (by first|exact True.intro|simp only[go_sem, hn_g2, hn_g3, hn_g4]<;>and_intros<;>first|exact True.intro|exact .c (.refl _)|exact .c wl2|exact .agg (lel_refl _)|exact .agg (by simp only[LeL];and_intros<;>first|exact True.intro|exact .refl _|exact wl2)|exact .c .nils) ?_
  · omega
  · omega
  (try simp only[go_sem, hn_g2, hn_g3, hn_g4])
  repeat first|apply wa1|apply wa2|apply wa3|apply wa4|apply wa5 rfl|apply wa6|apply wa7|(refine wb1 rfl fun R r=>?_;simp only[go_sem, hn_g2, hn_g3, hn_g4];with_reducible refine r _ _ ?_;clear r R)
  refine aw_callq (sfromW _ _ _ ?_ ?_ dd) rfl rfl rfl (by first|exact True.intro|simp only[go_sem, hn_g2, hn_g3, hn_g4]<;>and_intros<;>first|exact True.intro|exact .c (.refl _)|exact .c wl2|exact .agg (lel_refl _)|exact .agg (by simp only[LeL];and_intros<;>first|exact True.intro|exact .refl _|exact wl2)|exact .c .nils) ?_
  · omega
  · omega
  (try simp only[go_sem, hn_g2, hn_g3, hn_g4])
  repeat first|apply wa1|apply wa2|apply wa3|apply wa4|apply wa5 rfl|apply wa6|apply wa7|(refine wb1 rfl fun R r=>?_;simp only[go_sem, hn_g2, hn_g3, hn_g4];with_reducible refine r _ _ ?_;clear r R)
  refine aw_alloc rfl rfl rfl (by simp only[go_sem, hn_g2, hn_g3, hn_g4]<;>rfl) fun g11 hn_g11 => ?_
  replace hn_g11 := Heap.ne_of hn_g11
  first | dsimp only [Heap.ne, gh] at hn_g11 | dsimp only [Heap.ne] at hn_g11 | skip
  (try simp only[go_sem, hn_g2, hn_g3, hn_g4, hn_g11])
  repeat first|apply wa1|apply wa2|apply wa3|apply wa4|apply wa5 rfl|apply wa6|apply wa7|(refine wb1 rfl fun R r=>?_;simp only[go_sem, hn_g2, hn_g3, hn_g4, hn_g11];with_reducible refine r _ _ ?_;clear r R)
  refine aw_store rfl rfl rfl rfl (by simp only[go_sem, hn_g2, hn_g3, hn_g4, hn_g11]<;>rfl) (by simp only[go_sem, hn_g2, hn_g3, hn_g4, hn_g11]<;>rfl) (by simp only[go_sem, hn_g2, hn_g3, hn_g4, hn_g11]<;>rfl) (by simp only[go_sem, hn_g2, hn_g3, hn_g4, hn_g11]<;>rfl) (fun _ e => by cases e) (by rfl) (by rfl) (by first|omega|simp) rfl ?_
  (try simp only[go_sem, hn_g2, hn_g3, hn_g4, hn_g11])
  repeat first|apply wa1|apply wa2|apply wa3|apply wa4|apply wa5 rfl|apply wa6|apply wa7|(refine wb1 rfl fun R r=>?_;simp only[go_sem, hn_g2, hn_g3, hn_g4, hn_g11];with_reducible refine r _ _ ?_;clear r R)
  refine aw_store rfl rfl rfl rfl (by simp only[go_sem, hn_g2, hn_g3, hn_g4, hn_g11]<;>rfl) (by simp only[go_sem, hn_g2, hn_g3, hn_g4, hn_g11]<;>rfl) (by simp only[go_sem, hn_g2, hn_g3, hn_g4, hn_g11]<;>rfl) (by simp only[go_sem, hn_g2, hn_g3, hn_g4, hn_g11]<;>rfl) (fun _ e => by cases e) (by rfl) (by rfl) (by first|omega|simp) rfl ?_
  (try simp only[go_sem, hn_g2, hn_g3, hn_g4, hn_g11])
  repeat first|apply wa1|apply wa2|apply wa3|apply wa4|apply wa5 rfl|apply wa6|apply wa7|(refine wb1 rfl fun R r=>?_;simp only[go_sem, hn_g2, hn_g3, hn_g4, hn_g11];with_reducible refine r _ _ ?_;clear r R)
  (refine aw_retq hC rfl fun R r=>?_;simp only[go_sem, hn_g2, hn_g3, hn_g4, hn_g11];refine r _ rfl ?_;clear r R)
  exact ler_rd (by rw [sq_mul]; rfl)
set_option maxHeartbeats 800000 in
theorem ssub_fa (a b : RD) (ha : a.wf 1073741824) (hb : b.wf 1073741824) : Fa Try.prog 7 [.agg (rdc a), .agg (rdc b)] (.agg (rdc (rd (a.q - b.q)))) := by
  refine fa_of_body Try.func7 rfl rfl (by simp [Try.ntmps7]) fun C hC => ?_
  simp only [initS, Nat.reduceAdd]
  repeat first|apply wa1|apply wa2|apply wa3|apply wa4|apply wa5 rfl|apply wa6|apply wa7|(refine wb1 rfl fun R r=>?_;simp only[go_sem];with_reducible refine r _ _ ?_;clear r R)
  refine aw_box rfl rfl rfl (by simp only[go_sem]<;>rfl) (fun _ e => by cases e) rfl fun g2 hn_g2 => ?_
  replace hn_g2 := Heap.ne_of hn_g2
  first | dsimp only [Heap.ne, gh] at hn_g2 | dsimp only [Heap.ne] at hn_g2 | skip
  (try simp only[go_sem, hn_g2])
  refine aw_box rfl rfl rfl (by simp only[go_sem, hn_g2]<;>rfl) (fun _ e => by cases e) rfl fun g3 hn_g3 => ?_
  replace hn_g3 := Heap.ne_of hn_g3
  first | dsimp only [Heap.ne, gh] at hn_g3 | dsimp only [Heap.ne] at hn_g3 | skip
  (try simp only[go_sem, hn_g2, hn_g3])
  refine aw_alloc rfl rfl rfl (by simp only[go_sem, hn_g2, hn_g3]<;>rfl) fun g4 hn_g4 => ?_
  replace hn_g4 := Heap.ne_of hn_g4
  first | dsimp only [Heap.ne, gh] at hn_g4 | dsimp only [Heap.ne] at hn_g4 | skip
  (try simp only[go_sem, hn_g2, hn_g3, hn_g4])
  repeat first|apply wa1|apply wa2|apply wa3|apply wa4|apply wa5 rfl|apply wa6|apply wa7|(refine wb1 rfl fun R r=>?_;simp only[go_sem, hn_g2, hn_g3, hn_g4];with_reducible refine r _ _ ?_;clear r R)
  refine aw_dr 4 ty_mixed (by kernel_rfl) ?_
  repeat first|apply wa1|apply wa2|apply wa3|apply wa4|apply wa5 rfl|apply wa6|apply wa7|(refine wb1 rfl fun R r=>?_;simp only[go_sem, hn_g2, hn_g3, hn_g4];with_reducible refine r _ _ ?_;clear r R)|apply wa8|(refine wd1 rfl fun R r=>?_;simp only[go_sem, hn_g2, hn_g3, hn_g4];with_reducible refine r _ _ ?_;clear r R)
  refine drk_call (sneg_fa b hb) rfl rfl rfl (by first|exact True.intro|simp only[go_sem, hn_g2, hn_g3, hn_g4]<;>and_intros<;>first|exact True.intro|exact .c (.refl _)|exact .c wl2|exact .agg (lel_refl _)|exact .agg (by simp only[LeL];and_intros<;>first|exact True.intro|exact .refl _|exact wl2)|exact .c .nils) ?_
  (try simp only[go_sem, hn_g2, hn_g3, hn_g4])
  repeat first|apply wa1|apply wa2|apply wa3|apply wa4|apply wa5 rfl|apply wa6|apply wa7|(refine wb1 rfl fun R r=>?_;simp only[go_sem, hn_g2, hn_g3, hn_g4];with_reducible refine r _ _ ?_;clear r R)|apply wa8|(refine wd1 rfl fun R r=>?_;simp only[go_sem, hn_g2, hn_g3, hn_g4];with_reducible refine r _ _ ?_;clear r R)
  refine drk_call (sadd_fa a (rd (-b.q)) ha (neg_wf hb)) rfl rfl rfl (by first|exact True.intro|simp only[go_sem, hn_g2, hn_g3, hn_g4]<;>and_intros<;>first|exact True.intro|exact .c (.refl _)|exact .c wl2|exact .agg (lel_refl _)|exact .agg (by simp only[LeL];and_intros<;>first|exact True.intro|exact .refl _|exact wl2)|exact .c .nils) ?_
  (try simp only[go_sem, hn_g2, hn_g3, hn_g4])
  repeat first|apply wa1|apply wa2|apply wa3|apply wa4|apply wa5 rfl|apply wa6|apply wa7|(refine wb1 rfl fun R r=>?_;simp only[go_sem, hn_g2, hn_g3, hn_g4];with_reducible refine r _ _ ?_;clear r R)|apply wa8|(refine wd1 rfl fun R r=>?_;simp only[go_sem, hn_g2, hn_g3, hn_g4];with_reducible refine r _ _ ?_;clear r R)
  refine aw_store rfl rfl rfl rfl (by simp only[go_sem, hn_g2, hn_g3, hn_g4]<;>rfl) (by simp only[go_sem, hn_g2, hn_g3, hn_g4]<;>rfl) (by simp only[go_sem, hn_g2, hn_g3, hn_g4]<;>rfl) (by simp only[go_sem, hn_g2, hn_g3, hn_g4]<;>rfl) (fun _ e => by cases e) (by rfl) (by rfl) (by first|omega|simp) rfl ?_
  (try simp only[go_sem, hn_g2, hn_g3, hn_g4])
  repeat first|apply wa1|apply wa2|apply wa3|apply wa4|apply wa5 rfl|apply wa6|apply wa7|(refine wb1 rfl fun R r=>?_;simp only[go_sem, hn_g2, hn_g3, hn_g4];with_reducible refine r _ _ ?_;clear r R)|apply wa8|(refine wd1 rfl fun R r=>?_;simp only[go_sem, hn_g2, hn_g3, hn_g4];with_reducible refine r _ _ ?_;clear r R)
  (refine aw_retq hC rfl fun R r=>?_;simp only[go_sem, hn_g2, hn_g3, hn_g4];refine r _ rfl ?_;clear r R)
  exact ler_rd (by rw [rd_q, Rat.sub_eq_add_neg])
/-- Sums of fractions that are not too long are not too long. -/
theorem sub_wf {a b : RD} {L : Nat} (hL : 1 ≤ L) (ha : a.wf L) (hb : b.wf L) (h : 2 * L + 1 ≤ 1073741824) : (rd (a.q - b.q)).wf 1073741824 :=
  rd_wf (fits_mono (fits_sub (RD.fits ha hL) (RD.fits hb hL)) (by omega))
set_option maxHeartbeats 800000 in
theorem scmp_fa (a b : RD) (ha : a.wf 500000000) (hb : b.wf 500000000) : Fa Try.prog 12 [.agg (rdc a), .agg (rdc b)] (.c (.int .i64 (signQ (a.q - b.q)))) := by
  refine fa_of_body Try.func12 rfl rfl (by simp [Try.ntmps12]) fun C hC => ?_
  simp only [initS, Nat.reduceAdd]
  repeat first|apply wa1|apply wa2|apply wa3|apply wa4|apply wa5 rfl|apply wa6|apply wa7|(refine wb1 rfl fun R r=>?_;simp only[go_sem];with_reducible refine r _ _ ?_;clear r R)
  refine aw_box rfl rfl rfl (by simp only[go_sem]<;>rfl) (fun _ e => by cases e) rfl fun g2 hn_g2 => ?_
  replace hn_g2 := Heap.ne_of hn_g2
  first | dsimp only [Heap.ne, gh] at hn_g2 | dsimp only [Heap.ne] at hn_g2 | skip
  (try simp only[go_sem, hn_g2])
  refine aw_box rfl rfl rfl (by simp only[go_sem, hn_g2]<;>rfl) (fun _ e => by cases e) rfl fun g3 hn_g3 => ?_
  replace hn_g3 := Heap.ne_of hn_g3
  first | dsimp only [Heap.ne, gh] at hn_g3 | dsimp only [Heap.ne] at hn_g3 | skip
  (try simp only[go_sem, hn_g2, hn_g3])
  repeat first|apply wa1|apply wa2|apply wa3|apply wa4|apply wa5 rfl|apply wa6|apply wa7|(refine wb1 rfl fun R r=>?_;simp only[go_sem, hn_g2, hn_g3];with_reducible refine r _ _ ?_;clear r R)
  refine aw_callq (ssub_fa a b (wf_mono ha ?_) (wf_mono hb ?_)) rfl rfl rfl (by first|exact True.intro|simp only[go_sem, hn_g2, hn_g3]<;>and_intros<;>first|exact True.intro|exact .c (.refl _)|exact .c wl2|exact .agg (lel_refl _)|exact .agg (by simp only[LeL];and_intros<;>first|exact True.intro|exact .refl _|exact wl2)|exact .c .nils) ?_
  · omega
  · omega
  (try simp only[go_sem, hn_g2, hn_g3])
  repeat first|apply wa1|apply wa2|apply wa3|apply wa4|apply wa5 rfl|apply wa6|apply wa7|(refine wb1 rfl fun R r=>?_;simp only[go_sem, hn_g2, hn_g3];with_reducible refine r _ _ ?_;clear r R)
  refine aw_callq (ssign_fa _ ?_) rfl rfl rfl (by first|exact True.intro|simp only[go_sem, hn_g2, hn_g3]<;>and_intros<;>first|exact True.intro|exact .c (.refl _)|exact .c wl2|exact .agg (lel_refl _)|exact .agg (by simp only[LeL];and_intros<;>first|exact True.intro|exact .refl _|exact wl2)|exact .c .nils) ?_
  · exact sub_wf (by omega) ha hb (by omega)
  (try simp only[go_sem, hn_g2, hn_g3])
  rw [rd_q]
  repeat first|apply wa1|apply wa2|apply wa3|apply wa4|apply wa5 rfl|apply wa6|apply wa7|(refine wb1 rfl fun R r=>?_;simp only[go_sem, hn_g2, hn_g3];with_reducible refine r _ _ ?_;clear r R)
  (refine aw_retq hC rfl fun R r=>?_;simp only[go_sem, hn_g2, hn_g3];refine r _ rfl ?_;clear r R)
  exact .one (.c (.int _ _))
set_option maxHeartbeats 800000 in
theorem rcmp_fa (a b : RD) (ha : a.wf 500000000) (hb : b.wf 500000000) : Fa Try.prog 38 [.agg (rdc a), .agg (rdc b)] (.c (.int .i64 (signQ (a.q - b.q)))) := by
  refine fa_of_body Try.func38 rfl rfl (by simp [Try.ntmps38]) fun C hC => ?_
  simp only [initS, Nat.reduceAdd]
  repeat first|apply wa1|apply wa2|apply wa3|apply wa4|apply wa5 rfl|apply wa6|apply wa7|(refine wb1 rfl fun R r=>?_;simp only[go_sem];with_reducible refine r _ _ ?_;clear r R)
  refine aw_box rfl rfl rfl (by simp only[go_sem]<;>rfl) (fun _ e => by cases e) rfl fun g2 hn_g2 => ?_
  replace hn_g2 := Heap.ne_of hn_g2
  first | dsimp only [Heap.ne, gh] at hn_g2 | dsimp only [Heap.ne] at hn_g2 | skip
  (try simp only[go_sem, hn_g2])
  refine aw_box rfl rfl rfl (by simp only[go_sem, hn_g2]<;>rfl) (fun _ e => by cases e) rfl fun g3 hn_g3 => ?_
  replace hn_g3 := Heap.ne_of hn_g3
  first | dsimp only [Heap.ne, gh] at hn_g3 | dsimp only [Heap.ne] at hn_g3 | skip
  (try simp only[go_sem, hn_g2, hn_g3])
  repeat first|apply wa1|apply wa2|apply wa3|apply wa4|apply wa5 rfl|apply wa6|apply wa7|(refine wb1 rfl fun R r=>?_;simp only[go_sem, hn_g2, hn_g3];with_reducible refine r _ _ ?_;clear r R)
  refine aw_callq (rsub_fa a b (wf_mono ha ?_) (wf_mono hb ?_)) rfl rfl rfl (by first|exact True.intro|simp only[go_sem, hn_g2, hn_g3]<;>and_intros<;>first|exact True.intro|exact .c (.refl _)|exact .c wl2|exact .agg (lel_refl _)|exact .agg (by simp only[LeL];and_intros<;>first|exact True.intro|exact .refl _|exact wl2)|exact .c .nils) ?_
  · omega
  · omega
  (try simp only[go_sem, hn_g2, hn_g3])
  repeat first|apply wa1|apply wa2|apply wa3|apply wa4|apply wa5 rfl|apply wa6|apply wa7|(refine wb1 rfl fun R r=>?_;simp only[go_sem, hn_g2, hn_g3];with_reducible refine r _ _ ?_;clear r R)
  refine aw_callq (rsign_fa _ ?_) rfl rfl rfl (by first|exact True.intro|simp only[go_sem, hn_g2, hn_g3]<;>and_intros<;>first|exact True.intro|exact .c (.refl _)|exact .c wl2|exact .agg (lel_refl _)|exact .agg (by simp only[LeL];and_intros<;>first|exact True.intro|exact .refl _|exact wl2)|exact .c .nils) ?_
  · exact sub_wf (by omega) ha hb (by omega)
  (try simp only[go_sem, hn_g2, hn_g3])
  rw [rd_q]
  repeat first|apply wa1|apply wa2|apply wa3|apply wa4|apply wa5 rfl|apply wa6|apply wa7|(refine wb1 rfl fun R r=>?_;simp only[go_sem, hn_g2, hn_g3];with_reducible refine r _ _ ?_;clear r R)
  (refine aw_retq hC rfl fun R r=>?_;simp only[go_sem, hn_g2, hn_g3];refine r _ rfl ?_;clear r R)
  exact .one (.c (.int _ _))
end Go.Proofs.Ytmkomfdiggcloaa

/- Prob, of the program and of the reference. -/
namespace Go.PN
/-- Is it a probability? -/
def RD.prob (r : RD) : Bool := r.valid && decide (0 ≤ r.q) && decide (r.q ≤ 1)
theorem signQ_ge (x : Rat) : decide (signQ x ≥ 0) = decide (0 ≤ x) := by
  unfold signQ
  by_cases h0 : x = 0
  · subst h0; simp
  · rw [if_neg h0]
    by_cases h1 : x < 0
    · rw [if_pos h1]
      have : ¬ (0 ≤ x) := Rat.not_le.2 h1
      simp [this]
    · rw [if_neg h1]
      have : 0 ≤ x := Rat.not_lt.1 h1
      simp [this]
theorem signQ_le (x : Rat) : decide (signQ x ≤ 0) = decide (x ≤ 0) := by
  unfold signQ
  by_cases h0 : x = 0
  · subst h0; simp
  · rw [if_neg h0]
    by_cases h1 : x < 0
    · rw [if_pos h1]
      have : x ≤ 0 := Rat.le_of_lt h1
      simp [this]
    · rw [if_neg h1]
      have : ¬ x ≤ 0 := fun h => by
        have := Rat.not_lt.1 h1
        exact h0 (Rat.le_antisymm h this)
      simp [this]
theorem sub_le_iff (x : Rat) : decide (x - 1 ≤ 0) = decide (x ≤ 1) := by
  rw [Bool.eq_iff_iff]; simp only [decide_eq_true_eq]; constructor <;> intro h <;> grind
theorem sq_le_one {n d : Nat} (hd : d ≠ 0) : sq false n d ≤ 1 ↔ n ≤ d := by
  unfold sq sgn
  simp only [Bool.false_eq_true, if_false]
  rw [Rat.mkRat_eq_div]
  have hd0 : (0 : Rat) < (d : Rat) := by
    have : ((0 : Nat) : Rat) < (d : Rat) := Rat.natCast_lt_natCast.2 (by omega)
    exact this
  have hne : (d : Rat) ≠ 0 := fun e => by rw [e] at hd0; exact Rat.lt_irrefl hd0
  have hx : ((n : Int) : Rat) / (d : Rat) * (d : Rat) = (n : Rat) := by
    have h1 : ((n : Int) : Rat) = (n : Rat) := rfl
    rw [h1, Rat.div_def, Rat.mul_assoc, Rat.inv_mul_cancel _ hne, Rat.mul_one]
  generalize ((n : Int) : Rat) / (d : Rat) = x at hx
  constructor
  · intro h
    have h1 := Rat.mul_le_mul_of_nonneg_right h (Rat.le_of_lt hd0)
    rw [hx, Rat.one_mul] at h1
    exact Rat.natCast_le_natCast.1 h1
  · intro h
    have h1 : (n : Rat) ≤ (d : Rat) := Rat.natCast_le_natCast.2 h
    rw [← hx] at h1
    refine Rat.not_lt.1 fun hlt => ?_
    have h2 := Rat.mul_lt_mul_of_pos_right hlt hd0
    rw [Rat.one_mul] at h2
    exact absurd h1 (Rat.not_le.2 h2)
theorem prob_eq {r : RD} {L : Nat} (hw : r.wf L) (hv : r.valid = true) : ((!r.neg) && decide (cmpN (val r.num) (val r.den) ≤ 0)) = (decide (0 ≤ r.q) && decide (r.q ≤ 1)) := by
  cases hs : r.some with
  | false =>
    have hn : r.num.length = 0 := by
      simp only [RD.some, hv, Bool.true_and, decide_eq_false_iff_not, ne_eq, Classical.not_not] at hs
      exact hs
    have hq : r.q = 0 := by unfold RD.q RD.pn; simp [hs, sq_zero]
    have hv' := hv
    unfold RD.valid at hv'
    split at hv'
    · rename_i h
      have h1 : r.num = [] := List.length_eq_zero_iff.1 h.1
      have h2 : r.den = [] := List.length_eq_zero_iff.1 h.2
      rw [hq, h1, h2]
      simp only [Bool.not_eq_true'] at hv'
      simp [hv', val, cmpN]
      decide
    · simp [plainB, hn] at hv'
  | true =>
    obtain ⟨h1, h2, h3, h4, h5⟩ := RD.some_spec hw hs
    have hq : r.q = sq r.neg (val r.num) (val r.den) := by unfold RD.q RD.ps RD.pn RD.pd; simp [hs]
    rw [hq]
    have hneg := sq_lt (neg := r.neg) h3 h4
    cases hb : r.neg with
    | true =>
      rw [hb] at hneg
      have : ¬ (0 ≤ sq true (val r.num) (val r.den)) := Rat.not_le.2 (hneg.2 rfl)
      simp [this]
    | false =>
      rw [hb] at hneg
      have hge : 0 ≤ sq false (val r.num) (val r.den) := Rat.not_lt.1 fun h => by cases hneg.1 h
      have hle := sq_le_one (n := val r.num) h4
      have hc : cmpN (val r.num) (val r.den) ≤ 0 ↔ val r.num ≤ val r.den := by
        unfold cmpN
        split
        · constructor <;> intro _ <;> omega
        · split <;> constructor <;> intro _ <;> omega
      simp only [hge, decide_true, Bool.true_and, Bool.not_false, hle, hc]
end Go.PN
namespace Go.Proofs.Ytmkomfdiggcloaa
open Go.AI Go.PN
attribute [local irreducible] aw Fa Fh DrK
set_option maxHeartbeats 800000 in
theorem rprob_fa (r : RD) (hw : r.wf 1073741824) : Fa Try.prog 49 [.agg (rdc r)] (.c (.bool r.prob)) := by
  have h1 := hw.2.2.1
  have h2 := hw.2.2.2
  refine fa_of_body Try.func49 rfl rfl (by simp [Try.ntmps49]) fun C hC => ?_
  simp only [initS, Nat.reduceAdd]
  repeat first|apply wa1|apply wa2|apply wa3|apply wa4|apply wa5 rfl|apply wa6|apply wa7|(refine wb1 rfl fun R r=>?_;simp only[go_sem];with_reducible refine r _ _ ?_;clear r R)
  refine aw_box rfl rfl rfl (by simp only[go_sem]<;>rfl) (fun _ e => by cases e) rfl fun g1 hn_g1 => ?_
  replace hn_g1 := Heap.ne_of hn_g1
  first | dsimp only [Heap.ne, gh] at hn_g1 | dsimp only [Heap.ne] at hn_g1 | skip
  (try simp only[go_sem, hn_g1])
  repeat first|apply wa1|apply wa2|apply wa3|apply wa4|apply wa5 rfl|apply wa6|apply wa7|(refine wb1 rfl fun R r=>?_;simp only[go_sem, hn_g1];with_reducible refine r _ _ ?_;clear r R)
  refine aw_callq (rvalid_fa r (wf_mono hw ?_)) rfl rfl rfl (by first|exact True.intro|simp only[go_sem, hn_g1]<;>and_intros<;>first|exact True.intro|exact .c (.refl _)|exact .c wl2|exact .agg (lel_refl _)|exact .agg (by simp only[LeL];and_intros<;>first|exact True.intro|exact .refl _|exact wl2)|exact .c .nils) ?_
  · omega
  (try simp only[go_sem, hn_g1])
  repeat first|apply wa1|apply wa2|apply wa3|apply wa4|apply wa5 rfl|apply wa6|apply wa7|(refine wb1 rfl fun R r=>?_;simp only[go_sem, hn_g1];with_reducible refine r _ _ ?_;clear r R)
  unfold RD.prob
  refine aw_split 5 (by simp only[go_sem, hn_g1]<;>rfl) (fun hv => ?_) (fun hv => ?_) <;> (try simp only[go_sem, hn_g1])
  · have hp := prob_eq hw hv
    repeat first|apply wa1|apply wa2|apply wa3|apply wa4|apply wa5 rfl|apply wa6|apply wa7|(refine wb1 rfl fun R r=>?_;simp only[go_sem, hn_g1];with_reducible refine r _ _ ?_;clear r R)
    refine aw_split 10 (by simp only[go_sem, hn_g1]<;>rfl) (fun hn => ?_) (fun hn => ?_) <;> (try simp only[go_sem, hn_g1])
    · repeat first|apply wa1|apply wa2|apply wa3|apply wa4|apply wa5 rfl|apply wa6|apply wa7|(refine wb1 rfl fun R r=>?_;simp only[go_sem, hn_g1];with_reducible refine r _ _ ?_;clear r R)
      refine aw_callq (cmp_fa _ _ hw.1 hw.2.1 ?_ ?_) rfl rfl rfl (by first|exact True.intro|simp only[go_sem, hn_g1]<;>and_intros<;>first|exact True.intro|exact .c (.refl _)|exact .c wl2|exact .agg (lel_refl _)|exact .agg (by simp only[LeL];and_intros<;>first|exact True.intro|exact .refl _|exact wl2)|exact .c .nils) ?_
      · omega
      · omega
      (try simp only[go_sem, hn_g1])
      repeat first|apply wa1|apply wa2|apply wa3|apply wa4|apply wa5 rfl|apply wa6|apply wa7|(refine wb1 rfl fun R r=>?_;simp only[go_sem, hn_g1];with_reducible refine r _ _ ?_;clear r R)
      (refine aw_retq hC rfl fun R r=>?_;simp only[go_sem, hn_g1];refine r _ rfl ?_;clear r R)
      refine .one (.c (ler_bool ?_))
      rw [hv, Bool.true_and, ← hp, hn, Bool.true_and]
    · repeat first|apply wa1|apply wa2|apply wa3|apply wa4|apply wa5 rfl|apply wa6|apply wa7|(refine wb1 rfl fun R r=>?_;simp only[go_sem, hn_g1];with_reducible refine r _ _ ?_;clear r R)
      (refine aw_retq hC rfl fun R r=>?_;simp only[go_sem, hn_g1];refine r _ rfl ?_;clear r R)
      refine .one (.c (ler_bool ?_))
      rw [hv, Bool.true_and, ← hp, hn, Bool.false_and]
  · repeat first|apply wa1|apply wa2|apply wa3|apply wa4|apply wa5 rfl|apply wa6|apply wa7|(refine wb1 rfl fun R r=>?_;simp only[go_sem, hn_g1];with_reducible refine r _ _ ?_;clear r R)
    (refine aw_retq hC rfl fun R r=>?_;simp only[go_sem, hn_g1];refine r _ rfl ?_;clear r R)
    refine .one (.c (ler_bool ?_))
    rw [hv, Bool.false_and, Bool.false_and]
theorem one_wf : (rd ((1 : Int) : Rat)).wf 500000000 := rd_wf (fits_mono (L := 1) ⟨by simp, by simp⟩ (by omega))
set_option maxHeartbeats 800000 in
theorem sprob_fa (r : RD) (hw : r.wf 500000000) : Fa Try.prog 67 [.agg (rdc r)] (.c (.bool r.prob)) := by
  have h1 := hw.2.2.1
  have h2 := hw.2.2.2
  refine fa_of_body Try.func67 rfl rfl (by simp [Try.ntmps67]) fun C hC => ?_
  simp only [initS, Nat.reduceAdd]
  repeat first|apply wa1|apply wa2|apply wa3|apply wa4|apply wa5 rfl|apply wa6|apply wa7|(refine wb1 rfl fun R r=>?_;simp only[go_sem];with_reducible refine r _ _ ?_;clear r R)
  refine aw_box rfl rfl rfl (by simp only[go_sem]<;>rfl) (fun _ e => by cases e) rfl fun g1 hn_g1 => ?_
  replace hn_g1 := Heap.ne_of hn_g1
  first | dsimp only [Heap.ne, gh] at hn_g1 | dsimp only [Heap.ne] at hn_g1 | skip
  (try simp only[go_sem, hn_g1])
  repeat first|apply wa1|apply wa2|apply wa3|apply wa4|apply wa5 rfl|apply wa6|apply wa7|(refine wb1 rfl fun R r=>?_;simp only[go_sem, hn_g1];with_reducible refine r _ _ ?_;clear r R)
  refine aw_dr 14 ty_mixed (by kernel_rfl) ?_
  repeat first|apply wa1|apply wa2|apply wa3|apply wa4|apply wa5 rfl|apply wa6|apply wa7|(refine wb1 rfl fun R r=>?_;simp only[go_sem, hn_g1];with_reducible refine r _ _ ?_;clear r R)|apply wa8|(refine wd1 rfl fun R r=>?_;simp only[go_sem, hn_g1];with_reducible refine r _ _ ?_;clear r R)
  refine drk_call (svalid_fa r (wf_mono hw ?_)) rfl rfl rfl (by first|exact True.intro|simp only[go_sem, hn_g1]<;>and_intros<;>first|exact True.intro|exact .c (.refl _)|exact .c wl2|exact .agg (lel_refl _)|exact .agg (by simp only[LeL];and_intros<;>first|exact True.intro|exact .refl _|exact wl2)|exact .c .nils) ?_
  · omega
  (try simp only[go_sem, hn_g1])
  repeat first|apply wa1|apply wa2|apply wa3|apply wa4|apply wa5 rfl|apply wa6|apply wa7|(refine wb1 rfl fun R r=>?_;simp only[go_sem, hn_g1];with_reducible refine r _ _ ?_;clear r R)|apply wa8|(refine wd1 rfl fun R r=>?_;simp only[go_sem, hn_g1];with_reducible refine r _ _ ?_;clear r R)
  unfold RD.prob
  refine drk_split 5 (by simp only[go_sem, hn_g1]<;>rfl) (fun hv => ?_) (fun hv => ?_) <;> (try simp only[go_sem, hn_g1])
  · repeat first|apply wa1|apply wa2|apply wa3|apply wa4|apply wa5 rfl|apply wa6|apply wa7|(refine wb1 rfl fun R r=>?_;simp only[go_sem, hn_g1];with_reducible refine r _ _ ?_;clear r R)|apply wa8|(refine wd1 rfl fun R r=>?_;simp only[go_sem, hn_g1];with_reducible refine r _ _ ?_;clear r R)
    refine drk_call (ssign_fa r (wf_mono hw ?_)) rfl rfl rfl (by first|exact True.intro|simp only[go_sem, hn_g1]<;>and_intros<;>first|exact True.intro|exact .c (.refl _)|exact .c wl2|exact .agg (lel_refl _)|exact .agg (by simp only[LeL];and_intros<;>first|exact True.intro|exact .refl _|exact wl2)|exact .c .nils) ?_
    · omega
    (try simp only[go_sem, hn_g1])
    repeat first|apply wa1|apply wa2|apply wa3|apply wa4|apply wa5 rfl|apply wa6|apply wa7|(refine wb1 rfl fun R r=>?_;simp only[go_sem, hn_g1];with_reducible refine r _ _ ?_;clear r R)|apply wa8|(refine wd1 rfl fun R r=>?_;simp only[go_sem, hn_g1];with_reducible refine r _ _ ?_;clear r R)
    refine drk_split 10 (by simp only[go_sem, hn_g1]<;>rfl) (fun hn => ?_) (fun hn => ?_) <;> (try simp only[go_sem, hn_g1])
    · repeat first|apply wa1|apply wa2|apply wa3|apply wa4|apply wa5 rfl|apply wa6|apply wa7|(refine wb1 rfl fun R r=>?_;simp only[go_sem, hn_g1];with_reducible refine r _ _ ?_;clear r R)|apply wa8|(refine wd1 rfl fun R r=>?_;simp only[go_sem, hn_g1];with_reducible refine r _ _ ?_;clear r R)
      refine drk_call (sof_fa 1 ?_ ?_) rfl rfl rfl (by first|exact True.intro|simp only[go_sem, hn_g1]<;>and_intros<;>first|exact True.intro|exact .c (.refl _)|exact .c wl2|exact .agg (lel_refl _)|exact .agg (by simp only[LeL];and_intros<;>first|exact True.intro|exact .refl _|exact wl2)|exact .c .nils) ?_
      · omega
      · omega
      (try simp only[go_sem, hn_g1])
      repeat first|apply wa1|apply wa2|apply wa3|apply wa4|apply wa5 rfl|apply wa6|apply wa7|(refine wb1 rfl fun R r=>?_;simp only[go_sem, hn_g1];with_reducible refine r _ _ ?_;clear r R)|apply wa8|(refine wd1 rfl fun R r=>?_;simp only[go_sem, hn_g1];with_reducible refine r _ _ ?_;clear r R)
      refine drk_call (scmp_fa r (rd ((1 : Int) : Rat)) hw one_wf) rfl rfl rfl (by first|exact True.intro|simp only[go_sem, hn_g1]<;>and_intros<;>first|exact True.intro|exact .c (.refl _)|exact .c wl2|exact .agg (lel_refl _)|exact .agg (by simp only[LeL];and_intros<;>first|exact True.intro|exact .refl _|exact wl2)|exact .c .nils) ?_
      (try simp only[go_sem, hn_g1])
      rw [rd_q, Rat.intCast_one]
      repeat first|apply wa1|apply wa2|apply wa3|apply wa4|apply wa5 rfl|apply wa6|apply wa7|(refine wb1 rfl fun R r=>?_;simp only[go_sem, hn_g1];with_reducible refine r _ _ ?_;clear r R)|apply wa8|(refine wd1 rfl fun R r=>?_;simp only[go_sem, hn_g1];with_reducible refine r _ _ ?_;clear r R)
      (refine aw_retq hC rfl fun R r=>?_;simp only[go_sem, hn_g1];refine r _ rfl ?_;clear r R)
      refine .one (.c (ler_bool ?_))
      rw [signQ_ge] at hn
      rw [hv, hn, signQ_le, sub_le_iff]; rfl
    · repeat first|apply wa1|apply wa2|apply wa3|apply wa4|apply wa5 rfl|apply wa6|apply wa7|(refine wb1 rfl fun R r=>?_;simp only[go_sem, hn_g1];with_reducible refine r _ _ ?_;clear r R)|apply wa8|(refine wd1 rfl fun R r=>?_;simp only[go_sem, hn_g1];with_reducible refine r _ _ ?_;clear r R)
      (refine aw_retq hC rfl fun R r=>?_;simp only[go_sem, hn_g1];refine r _ rfl ?_;clear r R)
      refine .one (.c (ler_bool ?_))
      rw [signQ_ge] at hn
      rw [hn, Bool.and_false, Bool.false_and]
  · repeat first|apply wa1|apply wa2|apply wa3|apply wa4|apply wa5 rfl|apply wa6|apply wa7|(refine wb1 rfl fun R r=>?_;simp only[go_sem, hn_g1];with_reducible refine r _ _ ?_;clear r R)|apply wa8|(refine wd1 rfl fun R r=>?_;simp only[go_sem, hn_g1];with_reducible refine r _ _ ?_;clear r R)
    (refine aw_retq hC rfl fun R r=>?_;simp only[go_sem, hn_g1];refine r _ rfl ?_;clear r R)
    refine .one (.c (ler_bool ?_))
    rw [hv, Bool.false_and, Bool.false_and]
end Go.Proofs.Ytmkomfdiggcloaa
