/- Texts of one proof, laid one behind the other by a program (merge.py): Ref3, PDiv3, AiDrawA. -/
import Derived.Test.YtmkomfdiggcloaaGreatM09
import Derived.Test.YtmkomfdiggcloaaGreatM07
set_option linter.unusedSimpArgs false
set_option linter.unusedVariables false
/- faultlineref01: Bits, up, down. -/
namespace Go.Proofs.YtmkomfdiggcloaaGreat
open Go.AI Go.PN
attribute [local irreducible] aw Fa Fh DrK
theorem bitlen_top {n m : Nat} (h1 : 2 ^ m ≤ n) (h2 : n < 2 ^ (m + 1)) : bitlen n = m + 1 := by
  have := bitlen_div h1
  have h3 : n / 2 ^ m = 1 := by
    rw [Nat.pow_succ] at h2
    exact Nat.div_eq_of_lt_le (by omega) (by omega)
  rw [this, h3]; rfl
theorem shr_u32 (x n : Nat) (hn : n ≤ 32) : shrZ .u32 (x : Int) (n : Int) = ((x / 2 ^ n : Nat) : Int) := by
  rw [shrZ_eq]
  have h1 : min (n : Int).toNat IntKind.u32.bits = n := by show min (n : Int).toNat 32 = n; omega
  rw [h1, Int.fdiv_eq_ediv_of_nonneg _ (by exact Int.le_of_lt (Int.pow_pos (by omega)))]
  rw [Int.natCast_ediv, Int.natCast_pow]; rfl
theorem and_u32_1 (x : Nat) (hx : x < 4294967296) : andZ .u32 (x : Int) 1 = ((x % 2 : Nat) : Int) := by
  rw [andZ_eq]
  show IntKind.u32.wrap (((BitVec.ofInt 32 (x : Int) &&& BitVec.ofInt 32 1).toNat : Nat) : Int) = _
  have : (BitVec.ofInt 32 (x : Int) &&& BitVec.ofInt 32 1).toNat = x % 2 := by
    rw [BitVec.toNat_and]
    have e1 : (BitVec.ofInt 32 (x : Int)).toNat = x := by rw [BitVec.ofInt_natCast, BitVec.toNat_ofNat]; omega
    have e2 : (BitVec.ofInt 32 1).toNat = 1 := rfl
    rw [e1, e2, Nat.and_one_is_mod]
  rw [this, IntKind.wrap_u32]; omega
theorem bit_step {x k : Nat} : x % 2 ^ (k + 1) = x % 2 ^ k + 2 ^ k * (x / 2 ^ k % 2) := by
  rw [Nat.pow_succ, Nat.mod_mul]
theorem bits_some {V i x k : Nat} (hV : V < 4294967296 ^ i) (hb : x / 2 ^ k % 2 = 1) : bitlen (V + 4294967296 ^ i * (x % 2 ^ (k + 1))) = 32 * i + k + 1 := by
  have hp : (4294967296 : Nat) ^ i = 2 ^ (32 * i) := by rw [Nat.pow_mul]
  rw [bit_step, hb, Nat.mul_one]
  have hm : x % 2 ^ k < 2 ^ k := Nat.mod_lt _ (Nat.two_pow_pos k)
  rw [hp] at hV ⊢
  have e1 : 2 ^ (32 * i + k) = 2 ^ (32 * i) * 2 ^ k := Nat.pow_add ..
  refine bitlen_top ?_ ?_
  · rw [e1, Nat.mul_add]; omega
  · rw [Nat.pow_succ, e1, Nat.mul_add]
    have := Nat.mul_le_mul_left (2 ^ (32 * i)) (show x % 2 ^ k + 1 ≤ 2 ^ k from hm)
    rw [Nat.mul_add, Nat.mul_one] at this
    omega
set_option maxHeartbeats 1600000 in
theorem qbits_fa (xs : List Nat) (hx : ∀ x ∈ xs, x < 4294967296) (hlx : xs.length ≤ 68719476736) : Fa Tryz.prog 144 [.c (ws false xs)] (.c (.int .i64 (bitlen (val xs) : Nat))) := by
  refine fa_of_body Tryz.func144 rfl rfl (by simp [Tryz.ntmps144]) fun C hC => ?_
  simp only [initS, Nat.reduceAdd]
  repeat first|apply wa1|apply wa2|apply wa3|apply wa4|apply wa5 rfl|apply wa6|apply wa7|(refine wb1 rfl fun R r=>?_;simp only[go_sem];with_reducible refine r _ _ ?_;clear r R)
  refine aw_lp (fun i : Nat => [(3, .c (.int .i64 (bitlen (val (xs.take i)) : Nat))), (7, .c (ws false xs)), (8, .c (.int .i64 xs.length)), (9, .c (.int .i64 i))]) (fun _ => []) (fun i => i ≤ xs.length) (fun i => xs.length - i) 0 (by simp only[go_sem]<;>and_intros<;>first|exact True.intro|(with_reducible rfl)|exact c_int (by omega)|rfl) (List.Sublist.refl _) (Nat.zero_le _) ?_
  rintro i hi
  repeat first|apply wa1|apply wa2|apply wa3|apply wa4|apply wa5 rfl|apply wa6|apply wa7|(refine wb1 rfl fun R r=>?_;simp only[go_sem];with_reducible refine r _ _ ?_;clear r R)
  refine aw_cond (by simp only[go_sem]<;>rfl) (fun hb => ?_) (fun hb => ?_)
  · have hin : i < xs.length := by have := of_decide_eq_true hb; omega
    have hxi := getD_lt hx i
    have hvt := val_take_lt xs hx i (by omega)
    repeat first|apply wa1|apply wa2|apply wa3|apply wa4|apply wa5 rfl|apply wa6|apply wa7|(refine wb1 rfl fun R r=>?_;simp only[go_sem];with_reducible refine r _ _ ?_;clear r R)
    generalize hxx : xs.getD i 0 = x at *
    refine aw_lp (fun k : Nat => [(3, .c (.int .i64 (bitlen (val (xs.take i) + 4294967296 ^ i * (x % 2 ^ k)) : Nat))), (4, .c (.int .i64 i)), (5, .c (.int .u32 x)), (7, .c (ws false xs)), (8, .c (.int .i64 xs.length)), (9, .c (.int .i64 i)), (14, .c (.int .i64 k))]) (fun _ => []) (fun k => k ≤ 32) (fun k => 32 - k) 0 (by (try simp only[go_sem]); and_intros <;> first | exact True.intro | rfl | (rw [Nat.pow_zero, Nat.mod_one, Nat.mul_zero, Nat.add_zero])) (List.Sublist.refl _) (Nat.zero_le _) ?_
    rintro k hk
    repeat first|apply wa1|apply wa2|apply wa3|apply wa4|apply wa5 rfl|apply wa6|apply wa7|(refine wb1 rfl fun R r=>?_;simp only[go_sem];with_reducible refine r _ _ ?_;clear r R)
    refine aw_cond (by simp only[go_sem]<;>rfl) (fun hb => ?_) (fun hb => ?_)
    · have hk' : k < 32 := by have := of_decide_eq_true hb; omega
      have hd : x / 2 ^ k < 4294967296 := Nat.lt_of_le_of_lt (Nat.div_le_self _ _) hxi
      have e1 := shr_u32 x k (by omega)
      have e2 := and_u32_1 (x / 2 ^ k) hd
      repeat first|apply wa1|apply wa2|apply wa3|apply wa4|apply wa5 rfl|apply wa6|apply wa7|(refine wb1 rfl fun R r=>?_;simp only[go_sem, e1, e2];with_reducible refine r _ _ ?_;clear r R)
      refine aw_cond (by simp only[go_sem, e1, e2]<;>rfl) (fun hc => ?_) (fun hc => ?_)
      · have hc' : x / 2 ^ k % 2 = 1 := by have := eq_of_beq hc; omega
        repeat first|apply wa1|apply wa2|apply wa3|apply wa4|apply wa5 rfl|apply wa6|apply wa7|(refine wb1 rfl fun R r=>?_;simp only[go_sem, e1, e2];with_reducible refine r _ _ ?_;clear r R)
        refine aw_stop ⟨k + 1, by omega, (by (try simp only[go_sem, e1, e2]); and_intros <;> first | exact True.intro | rfl | exact c_int (by rw [bits_some hvt hc']; omega)), (List.Sublist.refl _), by omega⟩
      · have hc' : x / 2 ^ k % 2 = 0 := by
          have h1 : ¬ (((x / 2 ^ k % 2 : Nat) : Int) = 1) := fun e => by rw [e] at hc; cases hc
          omega
        repeat first|apply wa1|apply wa2|apply wa3|apply wa4|apply wa5 rfl|apply wa6|apply wa7|(refine wb1 rfl fun R r=>?_;simp only[go_sem, e1, e2];with_reducible refine r _ _ ?_;clear r R)
        refine aw_stop ⟨k + 1, by omega, (by (try simp only[go_sem, e1, e2]); and_intros <;> first | exact True.intro | rfl | (rw [bit_step, hc', Nat.mul_zero, Nat.add_zero])), (List.Sublist.refl _), by omega⟩
    · have hk' : k = 32 := by have := of_decide_eq_false hb; omega
      subst hk'
      repeat first|apply wa1|apply wa2|apply wa3|apply wa4|apply wa5 rfl|apply wa6|apply wa7|(refine wb1 rfl fun R r=>?_;simp only[go_sem];with_reducible refine r _ _ ?_;clear r R)
      refine aw_stop ⟨i + 1, by omega, (by (try simp only[go_sem]); and_intros <;> first | exact True.intro | rfl | (rw [val_take_succ, hxx, Nat.mod_eq_of_lt (show x < 2 ^ 32 from hxi)])), (List.Sublist.refl _), by omega⟩
  · have hin : i = xs.length := by have := of_decide_eq_false hb; omega
    subst hin
    repeat first|apply wa1|apply wa2|apply wa3|apply wa4|apply wa5 rfl|apply wa6|apply wa7|(refine wb1 rfl fun R r=>?_;simp only[go_sem];with_reducible refine r _ _ ?_;clear r R)
    (refine aw_retq hC rfl fun R r=>?_;simp only[go_sem];refine r _ rfl ?_;clear r R)
    rw [List.take_length]
    exact .one (.c (.int _ _))

theorem up_step {xs zs : List Nat} {i s c : Nat} (h : val zs + 4294967296 ^ i * c = val (xs.take i) * 2 ^ s) (hl : zs.length = i) :
    val (zs ++ [(c + xs.getD i 0 * 2 ^ s) % 4294967296]) + 4294967296 ^ (i + 1) * ((c + xs.getD i 0 * 2 ^ s) / 4294967296) = val (xs.take (i + 1)) * 2 ^ s := by
  rw [val_append, hl, val_take_succ]
  simp only [val, Nat.mul_zero, Nat.add_zero]
  have e := Nat.mod_add_div (c + xs.getD i 0 * 2 ^ s) 4294967296
  generalize (c + xs.getD i 0 * 2 ^ s) % 4294967296 = v at *
  generalize (c + xs.getD i 0 * 2 ^ s) / 4294967296 = d at *
  rw [Nat.add_mul, ← h, Nat.pow_succ, Nat.mul_assoc, Nat.mul_assoc, Nat.add_assoc, ← Nat.mul_add, e, Nat.mul_add, Nat.add_assoc]
theorem or_carry {c x s : Nat} (hc : c < 2 ^ s) : c ||| x * 2 ^ s = c + x * 2 ^ s := by
  rw [Nat.or_comm, Nat.mul_comm, ← Nat.two_pow_add_eq_or_of_lt hc, Nat.add_comm]
theorem up_carry {c x s : Nat} (hc : c < 2 ^ s) (hx : x < 4294967296) : (c + x * 2 ^ s) / 4294967296 < 2 ^ s := by
  rw [Nat.div_lt_iff_lt_mul (by omega)]
  have := Nat.mul_le_mul_right (2 ^ s) (show x + 1 ≤ 4294967296 from hx)
  rw [Nat.add_mul, Nat.one_mul] at this
  rw [Nat.mul_comm (2 ^ s)]
  omega
theorem up_lt {c x s : Nat} (hc : c < 2 ^ s) (hx : x < 4294967296) (hs : s < 32) : c + x * 2 ^ s < 18446744073709551616 := by
  have h1 := Nat.mul_le_mul_right (2 ^ s) (show x + 1 ≤ 4294967296 from hx)
  rw [Nat.add_mul, Nat.one_mul] at h1
  have h2 := Nat.mul_le_mul_left 4294967296 (pow_lt_32 (show s ≤ 32 from by omega))
  omega
set_option maxHeartbeats 1600000 in
theorem qup_fa (xs : List Nat) (s : Nat) (hx : ∀ x ∈ xs, x < 4294967296) (hlx : xs.length ≤ 68719476736) (hs : s < 32) : Fa Tryz.prog 172 [.c (ws false xs), .c (.int .i64 s)] (.c (ws true (words (val xs * 2 ^ s)))) := by
  refine fa_of_body Tryz.func172 rfl rfl (by simp [Tryz.ntmps172]) fun C hC => ?_
  simp only [initS, Nat.reduceAdd]
  repeat first|apply wa1|apply wa2|apply wa3|apply wa4|apply wa5 rfl|apply wa6|apply wa7|(refine wb1 rfl fun R r=>?_;simp only[go_sem];with_reducible refine r _ _ ?_;clear r R)
  refine aw_lp (fun x : Option Nat × Nat × Nat × List Nat => [(1, .c (.int .i64 s)), (5, .c (gs x.1 1 x.2.1)), (6, .c (.int .u64 x.2.2.1)), (9, .c (ws false xs)), (10, .c (.int .i64 xs.length)), (11, .c (.int .i64 x.2.1))]) (fun x => gh x.1 146 x.2.1 (wf x.2.2.2))
    (fun x => (x.1 = none → x.2.1 = 0) ∧ x.2.1 ≤ xs.length ∧ x.2.2.1 < 2 ^ s ∧ x.2.2.2.length = x.2.1 ∧ (∀ y ∈ x.2.2.2, y < 4294967296) ∧ val x.2.2.2 + 4294967296 ^ x.2.1 * x.2.2.1 = val (xs.take x.2.1) * 2 ^ s) (fun x => xs.length - x.2.1) (none, 0, 0, []) (by simp only[go_sem]<;>and_intros<;>first|exact True.intro|(with_reducible rfl)|exact c_int (by omega)|rfl) (List.Sublist.refl _)
    ⟨fun _ => rfl, Nat.zero_le _, Nat.two_pow_pos s, rfl, by simp, by simp [val]⟩ ?_
  rintro ⟨og, i, c, zs⟩ ⟨hog, hi, hc, hzl, hz, hv⟩
  dsimp only at hog hi hc hzl hz hv ⊢
  have hp := pow_lt_32 (show s ≤ 32 from by omega)
  repeat first|apply wa1|apply wa2|apply wa3|apply wa4|apply wa5 rfl|apply wa6|apply wa7|(refine wb1 rfl fun R r=>?_;simp only[go_sem];with_reducible refine r _ _ ?_;clear r R)
  refine aw_cond (by simp only[go_sem]<;>rfl) (fun hb => ?_) (fun hb => ?_)
  · have hin : i < xs.length := by have := of_decide_eq_true hb; omega
    have hxi := getD_lt hx i
    have hlt := up_lt hc hxi hs
    have e1 := shl_u64 (xs.getD i 0) s hxi (by omega)
    have e2 : orZ .u64 (c : Int) ((xs.getD i 0 * 2 ^ s : Nat) : Int) = ((c + xs.getD i 0 * 2 ^ s : Nat) : Int) := by
      rw [or_u64 _ _ (by omega) (by omega), or_carry hc]
    have e3 := wrap_u32_nat (c + xs.getD i 0 * 2 ^ s)
    have e4 := nat_div_32 (c + xs.getD i 0 * 2 ^ s)
    have hst := up_step (xs := xs) hv hzl
    have hcc := up_carry hc hxi
    repeat first|apply wa1|apply wa2|apply wa3|apply wa4|apply wa5 rfl|apply wa6|apply wa7|(refine wb1 rfl fun R r=>?_;simp only[go_sem, e1, e2, e3, e4];with_reducible refine r _ _ ?_;clear r R)
    refine aw_push (pre := []) rfl rfl rfl rfl rfl rfl rfl (by simp only[go_sem, e1, e2, e3, e4]<;>rfl) (by simp only[go_sem, e1, e2, e3, e4]<;>rfl) (by rfl) (by omega) (by omega) (by simp only[go_sem, e1, e2, e3, e4]<;>rfl) (by omega) (by exact hog) (by simp only[go_sem, e1, e2, e3, e4]<;>rfl) (by rfl) (by rfl) (by first | rfl | simp only [Nat.mul_one, List.nil_append, List.cons_append] <;> rfl) (by unfold maxLen; omega) (by omega) (by exact wf_push hzl _) fun g hn_g => ?_
    replace hn_g := Heap.ne_of hn_g
    first | dsimp only [Heap.ne, gh] at hn_g | dsimp only [Heap.ne] at hn_g | skip
    (try simp only[go_sem, e1, e2, e3, e4, hn_g])
    repeat first|apply wa1|apply wa2|apply wa3|apply wa4|apply wa5 rfl|apply wa6|apply wa7|(refine wb1 rfl fun R r=>?_;simp only[go_sem, e1, e2, e3, e4, hn_g];with_reducible refine r _ _ ?_;clear r R)
    refine aw_stop ⟨(some g, i + 1, (c + xs.getD i 0 * 2 ^ s) / 4294967296, zs ++ [(c + xs.getD i 0 * 2 ^ s) % 4294967296]), by dsimp only; omega, (by simp only[go_sem, e1, e2, e3, e4, hn_g]<;>and_intros<;>first|exact True.intro|(with_reducible rfl)|exact c_int (by omega)|rfl), (List.Sublist.refl _), some_ne, by dsimp only; omega, hcc, by simp; omega, push_lt hz (by omega), hst⟩
  · have hin : i = xs.length := by have := of_decide_eq_false hb; omega
    subst hin
    have e3 : wrapZ .u32 (c : Int) = (c : Int) := by rw [wrap_u32_nat, Nat.mod_eq_of_lt (by omega)]
    repeat first|apply wa1|apply wa2|apply wa3|apply wa4|apply wa5 rfl|apply wa6|apply wa7|(refine wb1 rfl fun R r=>?_;simp only[go_sem, e3];with_reducible refine r _ _ ?_;clear r R)
    refine aw_push (pre := []) rfl rfl rfl rfl rfl rfl rfl (by simp only[go_sem, e3]<;>rfl) (by simp only[go_sem, e3]<;>rfl) (by rfl) (by omega) (by omega) (by simp only[go_sem, e3]<;>rfl) (by omega) (by exact hog) (by simp only[go_sem, e3]<;>rfl) (by rfl) (by rfl) (by first | rfl | simp only [Nat.mul_one, List.nil_append, List.cons_append] <;> rfl) (by unfold maxLen; omega) (by omega) (by exact wf_push hzl _) fun g hn_g => ?_
    replace hn_g := Heap.ne_of hn_g
    first | dsimp only [Heap.ne, gh] at hn_g | dsimp only [Heap.ne] at hn_g | skip
    (try simp only[go_sem, e3, hn_g])
    repeat first|apply wa1|apply wa2|apply wa3|apply wa4|apply wa5 rfl|apply wa6|apply wa7|(refine wb1 rfl fun R r=>?_;simp only[go_sem, e3, hn_g];with_reducible refine r _ _ ?_;clear r R)
    refine aw_callq (qtrim_fa (zs ++ [c]) (push_lt hz (by omega)) (by simp; omega)) rfl rfl rfl ⟨.c (le_gsw some_ne (by simp; omega)), trivial⟩ ?_
    (try simp only[go_sem, e3, hn_g])
    repeat first|apply wa1|apply wa2|apply wa3|apply wa4|apply wa5 rfl|apply wa6|apply wa7|(refine wb1 rfl fun R r=>?_;simp only[go_sem, e3, hn_g];with_reducible refine r _ _ ?_;clear r R)
    (refine aw_retq hC rfl fun R r=>?_;simp only[go_sem, e3, hn_g];refine r _ rfl ?_;clear r R)
    rw [val_append, hzl]
    simp only [val, Nat.mul_zero, Nat.add_zero]
    rw [hv, List.take_length]
    exact .one (.c ler_ws)
theorem rgt_take {s : Nat} {xs zs : List Nat} {i : Nat} (hi : i < xs.length) (hl : zs = (rgt s xs).take i) : zs ++ [(xs.getD i 0 + xs.getD (i + 1) 0 * 4294967296) / 2 ^ s % 4294967296] = (rgt s xs).take (i + 1) := by
  rw [← rgt_getD s xs i hi, hl]
  have hil : i < (rgt s xs).length := by rw [rgt_length]; exact hi
  rw [List.take_succ_eq_append_getElem hil]
  congr 2
  rw [List.getD_eq_getElem?_getD, List.getElem?_eq_getElem hil]; rfl
set_option maxHeartbeats 1600000 in
theorem qdown_fa (xs : List Nat) (s : Nat) (hx : ∀ x ∈ xs, x < 4294967296) (hlx : xs.length ≤ 68719476736) (hs : s < 32) : Fa Tryz.prog 173 [.c (ws false xs), .c (.int .i64 s)] (.c (ws true (words (val xs / 2 ^ s)))) := by
  refine fa_of_body Tryz.func173 rfl rfl (by simp [Tryz.ntmps173]) fun C hC => ?_
  simp only [initS, Nat.reduceAdd]
  repeat first|apply wa1|apply wa2|apply wa3|apply wa4|apply wa5 rfl|apply wa6|apply wa7|(refine wb1 rfl fun R r=>?_;simp only[go_sem];with_reducible refine r _ _ ?_;clear r R)
  refine aw_lp (fun x : Option Nat × Nat × List Nat => [(0, .c (ws false xs)), (1, .c (.int .i64 s)), (5, .c (gs x.1 1 x.2.1)), (7, .c (ws false xs)), (8, .c (.int .i64 xs.length)), (9, .c (.int .i64 x.2.1))]) (fun x => gh x.1 146 x.2.1 (wf x.2.2))
    (fun x => (x.1 = none → x.2.1 = 0) ∧ x.2.1 ≤ xs.length ∧ x.2.2 = (rgt s xs).take x.2.1) (fun x => xs.length - x.2.1) (none, 0, []) (by simp only[go_sem]<;>and_intros<;>first|exact True.intro|(with_reducible rfl)|exact c_int (by omega)|rfl) (List.Sublist.refl _)
    ⟨fun _ => rfl, Nat.zero_le _, by simp⟩ ?_
  rintro ⟨og, i, zs⟩ ⟨hog, hi, hzs⟩
  dsimp only at hog hi hzs ⊢
  have hzl : zs.length = i := by rw [hzs, List.length_take, rgt_length]; omega
  repeat first|apply wa1|apply wa2|apply wa3|apply wa4|apply wa5 rfl|apply wa6|apply wa7|(refine wb1 rfl fun R r=>?_;simp only[go_sem];with_reducible refine r _ _ ?_;clear r R)
  refine aw_cond (by simp only[go_sem]<;>rfl) (fun hb => ?_) (fun hb => ?_)
  · have hin : i < xs.length := by have := of_decide_eq_true hb; omega
    have hxi := getD_lt hx i
    have hxj := getD_lt hx (i + 1)
    repeat first|apply wa1|apply wa2|apply wa3|apply wa4|apply wa5 rfl|apply wa6|apply wa7|(refine wb1 rfl fun R r=>?_;simp only[go_sem];with_reducible refine r _ _ ?_;clear r R)
    refine aw_callq (qword_fa xs i hx) rfl rfl rfl (by first|exact True.intro|simp only[go_sem]<;>and_intros<;>first|exact True.intro|exact .c (.refl _)|exact .c wl2|exact .agg (lel_refl _)|exact .agg (by simp only[LeL];and_intros<;>first|exact True.intro|exact .refl _|exact wl2)|exact .c .nils) ?_
    (try simp only[go_sem])
    repeat first|apply wa1|apply wa2|apply wa3|apply wa4|apply wa5 rfl|apply wa6|apply wa7|(refine wb1 rfl fun R r=>?_;simp only[go_sem];with_reducible refine r _ _ ?_;clear r R)
    refine aw_callq (qword_fa xs (i + 1) hx) rfl rfl rfl (by first|exact True.intro|simp only[go_sem]<;>and_intros<;>first|exact True.intro|exact .c (.refl _)|exact .c wl2|exact .agg (lel_refl _)|exact .agg (by simp only[LeL];and_intros<;>first|exact True.intro|exact .refl _|exact wl2)|exact .c .nils) ?_
    (try simp only[go_sem])
    have e1 := shl_u64_32 (xs.getD (i + 1) 0) hxj
    have e2 := or_u64_join' (xs.getD (i + 1) 0) (xs.getD i 0) hxj hxi
    have e3 := shr_u64 (xs.getD (i + 1) 0 * 4294967296 + xs.getD i 0) s (by omega)
    have e4 := wrap_u32_nat ((xs.getD (i + 1) 0 * 4294967296 + xs.getD i 0) / 2 ^ s)
    have e5 := rgt_take (s := s) hin hzs
    rw [Nat.add_comm (xs.getD i 0)] at e5
    repeat first|apply wa1|apply wa2|apply wa3|apply wa4|apply wa5 rfl|apply wa6|apply wa7|(refine wb1 rfl fun R r=>?_;simp only[go_sem, e1, e2, e3, e4];with_reducible refine r _ _ ?_;clear r R)
    refine aw_push (pre := []) rfl rfl rfl rfl rfl rfl rfl (by simp only[go_sem, e1, e2, e3, e4]<;>rfl) (by simp only[go_sem, e1, e2, e3, e4]<;>rfl) (by rfl) (by omega) (by omega) (by simp only[go_sem, e1, e2, e3, e4]<;>rfl) (by omega) (by exact hog) (by simp only[go_sem, e1, e2, e3, e4]<;>rfl) (by rfl) (by rfl) (by first | rfl | simp only [Nat.mul_one, List.nil_append, List.cons_append] <;> rfl) (by unfold maxLen; omega) (by omega) (by exact wf_push hzl _) fun g hn_g => ?_
    replace hn_g := Heap.ne_of hn_g
    first | dsimp only [Heap.ne, gh] at hn_g | dsimp only [Heap.ne] at hn_g | skip
    (try simp only[go_sem, e1, e2, e3, e4, hn_g])
    repeat first|apply wa1|apply wa2|apply wa3|apply wa4|apply wa5 rfl|apply wa6|apply wa7|(refine wb1 rfl fun R r=>?_;simp only[go_sem, e1, e2, e3, e4, hn_g];with_reducible refine r _ _ ?_;clear r R)
    refine aw_stop ⟨(some g, i + 1, zs ++ [(xs.getD (i + 1) 0 * 4294967296 + xs.getD i 0) / 2 ^ s % 4294967296]), by dsimp only; omega, (by simp only[go_sem, e1, e2, e3, e4, hn_g]<;>and_intros<;>first|exact True.intro|(with_reducible rfl)|exact c_int (by omega)|rfl), (List.Sublist.refl _), some_ne, by dsimp only; omega, e5⟩
  · have hin : i = xs.length := by have := of_decide_eq_false hb; omega
    subst hin
    rw [List.take_of_length_le (by rw [rgt_length]; omega)] at hzs
    repeat first|apply wa1|apply wa2|apply wa3|apply wa4|apply wa5 rfl|apply wa6|apply wa7|(refine wb1 rfl fun R r=>?_;simp only[go_sem];with_reducible refine r _ _ ?_;clear r R)
    refine aw_callq (qtrim_fa zs (by rw [hzs]; exact rgt_lt s xs) (by omega)) rfl rfl rfl ⟨.c (le_gsw hog hzl), trivial⟩ ?_
    (try simp only[go_sem])
    repeat first|apply wa1|apply wa2|apply wa3|apply wa4|apply wa5 rfl|apply wa6|apply wa7|(refine wb1 rfl fun R r=>?_;simp only[go_sem];with_reducible refine r _ _ ?_;clear r R)
    (refine aw_retq hC rfl fun R r=>?_;simp only[go_sem];refine r _ rfl ?_;clear r R)
    rw [hzs, rgt_val (by omega) xs hx]
    exact .one (.c ler_ws)
end Go.Proofs.YtmkomfdiggcloaaGreat

/- The estimates of the reference's division. -/
namespace Go.PN
theorem pow32 (k : Nat) : (0 : Nat) < 4294967296 ^ k := Nat.pow_pos (by omega)
/-- The guess from the top words is not too small. -/
theorem ref_guess {R V rt bt D : Nat} (hR : R < (rt + 1) * D) (hV : bt * D ≤ V) (hb : 0 < bt) (hV0 : 0 < V) : R / V ≤ rt / bt := by
  rw [Nat.le_div_iff_mul_le hb]
  have h1 : R / V * V ≤ R := Nat.div_mul_le_self R V
  have h2 : R / V * bt * D < (rt + 1) * D := by
    refine Nat.lt_of_le_of_lt ?_ hR
    refine Nat.le_trans ?_ h1
    rw [Nat.mul_assoc]
    exact Nat.mul_le_mul_left _ hV
  have h3 : R / V * bt < rt + 1 := Nat.lt_of_mul_lt_mul_right h2
  omega
theorem top_lt (xs : List Nat) (hx : ∀ x ∈ xs, x < 4294967296) (n : Nat) (hl : xs.length ≤ n + 2) : val xs < (xs.getD (n + 1) 0 * 4294967296 + xs.getD n 0 + 1) * 4294967296 ^ n := by
  have h1 : val xs = val (xs.take (n + 2)) := by rw [List.take_of_length_le hl]
  have h2 := val_take_succ xs (n + 1)
  have h3 := val_take_succ xs n
  have h4 : val (xs.take n) < 4294967296 ^ n := by
    by_cases hc : n ≤ xs.length
    · exact val_take_lt xs hx n hc
    · rw [List.take_of_length_le (by omega)]
      exact Nat.lt_of_lt_of_le (val_lt xs hx) (Nat.pow_le_pow_right (by omega) (by omega))
  rw [h1, show n + 2 = n + 1 + 1 from rfl, h2, h3, Nat.pow_succ]
  generalize 4294967296 ^ n = D at *
  generalize xs.getD (n + 1) 0 = a
  generalize xs.getD n 0 = b
  rw [Nat.add_mul, Nat.add_mul, Nat.one_mul, Nat.mul_assoc a, Nat.mul_comm D b, Nat.mul_comm (D * 4294967296) a, Nat.mul_comm D 4294967296]
  omega
theorem top_le (ys : List Nat) (n : Nat) : ys.getD n 0 * 4294967296 ^ n ≤ val (ys.take (n + 1)) := by
  rw [val_take_succ, Nat.mul_comm]; omega
/-- One word more, from the top. -/
theorem ref_next {A V m r : Nat} (hV : 0 < V) (hr : r = A / 4294967296 ^ (m + 1) % V) : (A / 4294967296 ^ m % 4294967296 + 4294967296 * r) % V = A / 4294967296 ^ m % V ∧ A / 4294967296 ^ m / V = (A / 4294967296 ^ m % 4294967296 + 4294967296 * r) / V + 4294967296 * (A / 4294967296 ^ (m + 1) / V) := by
  have e : A / 4294967296 ^ (m + 1) = A / 4294967296 ^ m / 4294967296 := by rw [Nat.pow_succ, Nat.div_div_eq_div_mul]
  rw [e] at hr ⊢
  generalize A / 4294967296 ^ m = T at *
  have h1 := Nat.div_add_mod T 4294967296
  have h2 := Nat.div_add_mod (T / 4294967296) V
  rw [← hr] at h2
  generalize T / 4294967296 / V = q at *
  have h3 : T = (T % 4294967296 + 4294967296 * r) + V * (4294967296 * q) := by
    have : 4294967296 * (V * q + r) = 4294967296 * (T / 4294967296) := by rw [h2]
    rw [Nat.mul_add, ← Nat.mul_assoc, Nat.mul_comm 4294967296 V, Nat.mul_assoc] at this
    omega
  constructor
  · conv => rhs; rw [h3]
    rw [Nat.add_mul_mod_self_left]
  · conv => lhs; rw [h3]
    rw [Nat.add_mul_div_left _ _ hV]
theorem word_at (xs : List Nat) (hx : ∀ x ∈ xs, x < 4294967296) (m : Nat) : val xs / 4294967296 ^ m % 4294967296 = xs.getD m 0 := by
  by_cases hm : m < xs.length
  · have h1 := val_split xs m (by omega)
    have h2 := val_take_lt xs hx m (by omega)
    rw [h1, Nat.add_mul_div_left _ _ (pow32 m), Nat.div_eq_of_lt h2, Nat.zero_add, val_drop, Nat.add_mul_mod_self_left]
    exact Nat.mod_eq_of_lt (getD_lt hx m)
  · have h1 := Nat.lt_of_lt_of_le (val_lt xs hx) (Nat.pow_le_pow_right (show 0 < 4294967296 by omega) (show xs.length ≤ m by omega))
    rw [Nat.div_eq_of_lt h1, getD_ge (by omega)]
theorem drop_val (xs : List Nat) (hx : ∀ x ∈ xs, x < 4294967296) (m : Nat) (hm : m ≤ xs.length) : val (xs.drop m) = val xs / 4294967296 ^ m := by
  have h1 := val_split xs m hm
  have h2 := val_take_lt xs hx m hm
  rw [h1, Nat.add_mul_div_left _ _ (pow32 m), Nat.div_eq_of_lt h2, Nat.zero_add]
theorem val_set_drop {qs : List Nat} {m v : Nat} (hm : m < qs.length) : val ((qs.set m v).drop m) = v + 4294967296 * val (qs.drop (m + 1)) := by
  rw [drop_set hm]; rfl
/-- The shift that makes the top bit 1. -/
theorem shift_len {b n s : Nat} (hl : (words b).length = n + 1) (hs : (words b).getD n 0 * 2 ^ s < 4294967296) : (words (b * 2 ^ s)).length = n + 1 := by
  have hb0 : b ≠ 0 := fun e => by rw [e, words_zero] at hl; cases hl
  have hv := val_words b
  have h1 : val ((words b).take (n + 1)) = b := by rw [List.take_of_length_le (by omega), hv]
  rw [val_take_succ] at h1
  have h2 := val_take_lt (words b) (words_lt b) n (by omega)
  have hle : b * 2 ^ s < 4294967296 ^ (n + 1) := by
    have h3 : b < 4294967296 ^ n * ((words b).getD n 0 + 1) := by rw [Nat.mul_add, Nat.mul_one]; omega
    have h4 : b * 2 ^ s < 4294967296 ^ n * ((words b).getD n 0 + 1) * 2 ^ s := Nat.mul_lt_mul_of_pos_right h3 (Nat.two_pow_pos s)
    refine Nat.lt_of_lt_of_le h4 ?_
    rw [Nat.mul_assoc, Nat.pow_succ]
    refine Nat.mul_le_mul_left _ ?_
    have h5 : ((words b).getD n 0 + 1) * 2 ^ s ≤ 4294967296 := by
      by_cases hs32 : s ≤ 32
      · have h6 := two_pow_split hs32
        rw [h6] at hs ⊢
        rw [Nat.mul_comm (2 ^ s) (2 ^ (32 - s))] at hs ⊢
        have := Nat.lt_of_mul_lt_mul_right hs
        exact Nat.mul_le_mul_right _ this
      · have h7 : (words b).getD n 0 ≠ 0 := by
          have := (words_plain b).resolve_left (fun e => hb0 (words_eq_nil.1 e))
          rwa [hl] at this
        exfalso
        have h8 : (2 : Nat) ^ 32 ≤ 2 ^ s := Nat.pow_le_pow_right (by omega) (by omega)
        have h9 := Nat.mul_le_mul (show 1 ≤ (words b).getD n 0 by omega) h8
        omega
    exact h5
  have hge : b ≤ b * 2 ^ s := Nat.le_mul_of_pos_right _ (Nat.two_pow_pos s)
  have := words_len_mono hge
  have := words_len_le hle
  omega
theorem and_top_zero {y : Nat} (hy : y < 4294967296) (h : y &&& 2147483648 = 0) : y < 2147483648 := by
  have h1 : (y &&& 2147483648).testBit 31 = false := by rw [h]; simp
  rw [Nat.testBit_and, show (2147483648 : Nat).testBit 31 = true from by decide, Bool.and_true, Nat.testBit_eq_decide_div_mod_eq] at h1
  simp at h1
  omega
end Go.PN

/- Regions that draw their order and make blocks of the call's own on the way; the last operations may be ordered through others. -/
namespace Go.AI

/-- An operation that makes a block: its place, its slot, what the slot and the block hold. -/
structure Al where
  i : Nat
  d : Nat
  rf : Nat → AV
  ob : AObj

/-- The slots of the blocks made so far. -/
def addA : List Al → (Nat → Bool) → (Nat → Nat) → Sl → Sl
  | [], _, _, σ => σ
  | x :: al, L, γ, σ => if L x.i then (addA al L γ σ).set x.d (x.rf (γ x.i)) else addA al L γ σ
/-- The blocks made so far. -/
def extA : List Al → (Nat → Bool) → (Nat → Nat) → Heap
  | [], _, _ => []
  | x :: al, L, γ => if L x.i then (γ x.i, x.ob) :: extA al L γ else extA al L γ

theorem addA_congr {L L' : Nat → Bool} {γ γ' : Nat → Nat} {σ : Sl} : ∀ {al : List Al}, (∀ x ∈ al, L x.i = L' x.i ∧ γ x.i = γ' x.i) → addA al L γ σ = addA al L' γ' σ
  | [], _ => rfl
  | x :: al, h => by
    have h1 := h x (List.mem_cons_self ..)
    simp only [addA, h1.1, h1.2, addA_congr (al := al) fun y hy => h y (List.mem_cons_of_mem _ hy)]
theorem extA_congr {L L' : Nat → Bool} {γ γ' : Nat → Nat} : ∀ {al : List Al}, (∀ x ∈ al, L x.i = L' x.i ∧ γ x.i = γ' x.i) → extA al L γ = extA al L' γ'
  | [], _ => rfl
  | x :: al, h => by
    have h1 := h x (List.mem_cons_self ..)
    simp only [extA, h1.1, h1.2, extA_congr (al := al) fun y hy => h y (List.mem_cons_of_mem _ hy)]
theorem addA_out {L : Nat → Bool} {γ : Nat → Nat} {σ : Sl} {t : Nat} : ∀ {al : List Al}, (∀ x ∈ al, L x.i = true → x.d ≠ t) → (addA al L γ σ).get t = σ.get t
  | [], _ => rfl
  | x :: al, h => by
    have ih := addA_out (L := L) (γ := γ) (σ := σ) (t := t) (al := al) fun y hy => h y (List.mem_cons_of_mem _ hy)
    simp only [addA]
    split
    · rename_i hL
      rw [Sl.get_set, if_neg (h x (List.mem_cons_self ..) hL)]; exact ih
    · exact ih
theorem addA_in {L : Nat → Bool} {γ : Nat → Nat} {σ : Sl} {x : Al} : ∀ {al : List Al}, x ∈ al → L x.i = true → (∀ y ∈ al, y.d = x.d → y = x) → (addA al L γ σ).get x.d = x.rf (γ x.i)
  | [], hm, _, _ => by simp at hm
  | y :: al, hm, hL, hu => by
    by_cases e : y.d = x.d
    · have := hu y (List.mem_cons_self ..) e
      subst this
      simp only [addA, hL, if_true, Sl.get_set]
    · have hm' : x ∈ al := (List.mem_cons.1 hm).resolve_left (fun h => e (by rw [h]))
      have ih := addA_in (γ := γ) (σ := σ) hm' hL fun z hz => hu z (List.mem_cons_of_mem _ hz)
      simp only [addA]
      split
      · rw [Sl.get_set, if_neg e]; exact ih
      · exact ih
theorem extA_new {L : Nat → Bool} {γ : Nat → Nat} {x : Al} {g : Nat} : ∀ {al : List Al}, x ∈ al → L x.i = false → (al.map (·.i)).Nodup →
    (extA al (fun j => if j = x.i then true else L j) (fun j => if j = x.i then g else γ j)).Perm ((g, x.ob) :: extA al L γ)
  | [], hm, _, _ => by simp at hm
  | y :: al, hm, hL, hn => by
    simp only [List.map_cons, List.nodup_cons] at hn
    by_cases e : y.i = x.i
    · have hxy : x = y := by
        rcases List.mem_cons.1 hm with h | h
        · exact h
        · exact absurd (List.mem_map.2 ⟨x, h, rfl⟩) (e ▸ hn.1)
      subst hxy
      have : extA al (fun j => if j = x.i then true else L j) (fun j => if j = x.i then g else γ j) = extA al L γ := extA_congr fun z hz => by
        have hne : z.i ≠ x.i := fun h => hn.1 (List.mem_map.2 ⟨z, hz, h⟩)
        simp [hne]
      simp only [extA, if_true, hL, this]
      exact .refl _
    · have hm' : x ∈ al := (List.mem_cons.1 hm).resolve_left (fun h => e (by rw [h]))
      have ih := extA_new (L := L) (γ := γ) (g := g) hm' hL hn.2
      simp only [extA, e, if_false]
      split
      · exact (List.Perm.cons _ ih).trans (List.Perm.swap _ _ _)
      · exact ih

theorem St.perm {N : Nat} {C : Ctx} {σ : Sl} {h h' : Heap} {a : Act} {w : World} (hp : h.Perm h') (s : St N C σ h a w) : St N C σ h' a w := by
  have hkk : ∀ b, b ∈ h.keys ↔ b ∈ h'.keys := keysPerm hp
  have kp : Keeps (Stab C h w) (Stab C h' w) w w := ⟨fun t b hb => ⟨hb.1, hb.2.1, fun hm => hb.2.2 ((hkk b).2 hm)⟩, fun _ _ _ => rfl, fun _ _ e => e⟩
  exact ⟨s.size, s.defers, fun t => Rep.keep kp (s.slots t), fun g o hm => ORep.keep kp rfl (s.heap g o (hp.mem_iff.2 hm)), nodupPerm hp s.nodup, fun g hg => s.keys g ((hkk g).2 hg), s.frame⟩

/-- Operation o comes after operation j, through others or not. -/
def edgeT (l : List Oper) : Nat → Oper → Nat → Bool
  | 0, o, j => edge o j
  | k + 1, o, j => edge o j || o.after.any fun e => Region.binds .any e && (match l[e.on]? with | some p => edgeT l k p j | none => false)
def tailT (l : List Oper) (n : Nat) : Bool := l.zipIdx.all fun (o, i) => decide (i < n) || (List.range i).all fun j => edgeT l 6 o j

section
variable {E : Env} {K : List It} {σ σ' : Sl} {h : Heap} {l : List Oper} {o : Oper}

theorem edgeT_listed {L : Nat → Bool} (hcl : ∀ i o, l[i]? = some o → L i = true → ∀ e ∈ o.after, Region.binds .any e = true → L e.on = true) : ∀ (k : Nat) (o : Oper) (j : Nat), (∀ e ∈ o.after, Region.binds .any e = true → L e.on = true) → edgeT l k o j = true → L j = true
  | 0, o, j, hp, he => by
    obtain ⟨e, he', hon, hb⟩ := edge_mem he
    rw [← hon]; exact hp e he' hb
  | k + 1, o, j, hp, he => by
    simp only [edgeT, Bool.or_eq_true] at he
    rcases he with he | he
    · obtain ⟨e, he', hon, hb⟩ := edge_mem he
      rw [← hon]; exact hp e he' hb
    · rw [Array.any_eq_true] at he
      obtain ⟨i, hi, h1⟩ := he
      simp only [Bool.and_eq_true] at h1
      obtain ⟨hb, h2⟩ := h1
      have hl := hp _ (Array.getElem_mem hi) hb
      split at h2
      · rename_i p hpp
        exact edgeT_listed hcl k p j (hcl _ p hpp hl) h2
      · cases h2
theorem tailT_edge {n : Nat} (ht : tailT l n = true) {i : Nat} {o : Oper} (ho : l[i]? = some o) (hn : n ≤ i) {j : Nat} (hj : j < i) : edgeT l 6 o j = true := by
  unfold tailT at ht
  rw [List.all_eq_true] at ht
  have := ht (o, i) (by rw [List.mem_zipIdx_iff_getElem?]; exact ho)
  simp only [Bool.or_eq_true, decide_eq_true_eq, List.all_eq_true, List.mem_range] at this
  exact this.resolve_left (by omega) j hj

theorem tailT_any {n : Nat} (hok : lexOk l = true) (ht : tailT l n = true) {Q : Exit → Act → World → Prop} : ∀ (fuel i : Nat) (listed : Array Bool) (a : Act) (w : World), n ≤ i → i + fuel = l.length → listed.size = l.length → (∀ j, j < l.length → listed.getD j false = decide (j < i)) →
    wpList E.P l.toArray Q (l.drop i) a w → wpAny E.P .any l.toArray Q fuel listed a w
  | 0, i, listed, a, w, _, hf, hs, hl, k => by
    have : l.drop i = [] := List.drop_eq_nil_of_le (by omega)
    rw [this] at k
    refine ⟨?_, k⟩
    rw [List.eq_nil_iff_forall_not_mem]
    intro j hj
    obtain ⟨h1, h2, _⟩ := (mem_ready hs).1 hj
    rw [hl j h1] at h2
    simp at h2
    omega
  | fuel + 1, i, listed, a, w, hn, hf, hs, hl, k => by
    have hi : i < l.length := by omega
    have ho : l[i]? = some l[i] := List.getElem?_eq_getElem hi
    have hcl : ∀ q o, l[q]? = some o → listed.getD q false = true → ∀ e ∈ o.after, Region.binds .any e = true → listed.getD e.on false = true := fun q o hq hlq e he hb => by
      have hql : q < l.length := (List.getElem?_eq_some_iff.1 hq).1
      rw [hl q hql] at hlq
      have := lex_back hok hq he hb
      simp only [decide_eq_true_eq] at hlq
      rw [hl e.on (by omega)]; simp; omega
    have hready : i ∈ Region.ready .any l.toArray listed := (mem_ready hs).2 ⟨hi, by rw [hl i hi]; simp, fun o ho' e he hb => by
      have := lex_back hok ho' he hb
      rw [hl e.on (by omega)]; simpa using this⟩
    refine ⟨fun e => by rw [e] at hready; simp at hready, fun j hj => ?_⟩
    obtain ⟨h1, h2, h3⟩ := (mem_ready hs).1 hj
    have hji : j = i := by
      rw [hl j h1] at h2
      simp only [decide_eq_false_iff_not, Nat.not_lt] at h2
      rcases Nat.lt_or_ge i j with hlt | hge
      · have := edgeT_listed (L := fun q => listed.getD q false) hcl 6 _ i (h3 _ (List.getElem?_eq_getElem h1)) (tailT_edge ht (List.getElem?_eq_getElem h1) (by omega) hlt)
        simp only [hl i hi] at this
        simp at this
      · omega
    subst hji
    rw [List.drop_eq_getElem_cons hi] at k
    unfold wpOp
    rw [show l.toArray[j]? = some l[j] from by simp [hi]]
    have hstep : ∀ a w, wpList E.P l.toArray Q (l.drop (j + 1)) a w → wpAny E.P .any l.toArray Q fuel (listed.setIfInBounds j true) a w := fun a w k' =>
      tailT_any hok ht fuel (j + 1) _ a w (by omega) (by omega) (by simpa using hs) (fun q hq => by
        rw [getD_set (by omega), hl q hq]
        by_cases h : q = j
        · subst h; simp
        · rw [if_neg h]; congr 1; simp; omega) k'
    simp only [wpList] at k
    simp only
    split
    · rename_i hw
      rw [if_pos hw] at k
      exact k.imp (Oper.wp_mono hstep) id
    · rename_i hw
      rw [if_neg hw] at k
      exact hstep _ _ k

/-- o yields r, whatever blocks of the call's own there are besides. -/
def CalmX (E : Env) (h : Heap) (l : List Oper) (σ : Sl) (o : Oper) (r : AV) : Prop :=
  dstOk E.N o.dst = true ∧ ∀ (σ' : Sl) (ext : Heap) (a : Act) (w : World) (Q : Exit → Act → World → Prop), (∀ t ∈ looks l o, σ'.get t = σ.get t) → St E.N E.C σ' (ext ++ h) a w →
    if Region.wanted o (yielded l.toArray a.tmps) then o.wp E.P a w (fun a' w' => St E.N E.C (σ'.setO o.dst r) (ext ++ h) a' w') Q else r = .c .any
/-- o makes a block. -/
def NewX (E : Env) (h : Heap) (l : List Oper) (σ : Sl) (o : Oper) (rf : Nat → AV) (ob : AObj) : Prop :=
  dstOk E.N o.dst = true ∧ ∀ (σ' : Sl) (ext : Heap) (a : Act) (w : World) (Q : Exit → Act → World → Prop), (∀ t ∈ looks l o, σ'.get t = σ.get t) → St E.N E.C σ' (ext ++ h) a w →
    Region.wanted o (yielded l.toArray a.tmps) = true ∧ o.wp E.P a w (fun a' w' => ∃ g, St E.N E.C (σ'.setO o.dst (rf g)) ((g, ob) :: (ext ++ h)) a' w') Q

/-- The operations in the order of the text. -/
inductive DrX (E : Env) (h : Heap) (l : List Oper) : Nat → List (Oper × AV) → Sl → Sl → List Al → Prop
  | nil {i : Nat} {σ : Sl} : DrX E h l i [] σ σ []
  | calm {i : Nat} {o : Oper} {r : AV} {ps : List (Oper × AV)} {σ σ' : Sl} {al : List Al} : CalmX E h l σ o r → DrX E h l (i + 1) ps (σ.setO o.dst r) σ' al → DrX E h l i ((o, r) :: ps) σ σ' al
  | new {i d : Nat} {o : Oper} {rf : Nat → AV} {ob : AObj} {ps : List (Oper × AV)} {σ σ' : Sl} {al : List Al} : o.dst = some d → NewX E h l σ o rf ob → DrX E h l (i + 1) ps (σ.setO o.dst (.c .any)) σ' al → DrX E h l i ((o, .c .any) :: ps) σ σ' (⟨i, d, rf, ob⟩ :: al)

theorem sigL_zero : ∀ (ps : List (Oper × AV)) (n : Nat) (σ : Sl), sigL ps ((List.range n).map (fun _ => false)) σ = σ := by
  intro ps
  induction ps with
  | nil => intro n σ; simp [sigL]
  | cons p ps ih2 =>
    intro n σ
    cases n with
    | zero => simp [sigL]
    | succ n =>
      obtain ⟨q, r⟩ := p
      simp only [List.range_succ_eq_map, List.map_cons, List.map_map, sigL]
      exact ih2 n σ

theorem DrX.at_ {i : Nat} {ps : List (Oper × AV)} {al : List Al} (d : DrX E h l i ps σ σ' al) : ∀ (j : Nat) (o : Oper) (r : AV), ps[j]? = some (o, r) →
    (CalmX E h l (sigL ps ((List.range ps.length).map fun q => decide (q < j)) σ) o r ∧ ∀ x ∈ al, x.i ≠ i + j) ∨
    (r = .c .any ∧ ∃ x ∈ al, x.i = i + j ∧ o.dst = some x.d ∧ NewX E h l (sigL ps ((List.range ps.length).map fun q => decide (q < j)) σ) o x.rf x.ob) := by
  have low : ∀ {i : Nat} {ps : List (Oper × AV)} {σ σ' : Sl} {al : List Al}, DrX E h l i ps σ σ' al → ∀ x ∈ al, i ≤ x.i := by
    intro i ps σ σ' al d
    induction d with
    | nil => intro x hx; simp at hx
    | calm _ _ ih => intro x hx; have := ih x hx; omega
    | new _ _ _ ih =>
      intro x hx
      rcases List.mem_cons.1 hx with rfl | hx
      · exact Nat.le_refl _
      · have := ih x hx; omega
  induction d with
  | nil => intro j o r hp; simp at hp
  | @calm i o' r' ps σ σ' al hc hd ih =>
    intro j o r hp
    simp only [List.length_cons, List.range_succ_eq_map, List.map_cons, List.map_map, sigL]
    cases j with
    | zero =>
      simp only [List.getElem?_cons_zero, Option.some.injEq, Prod.mk.injEq] at hp
      obtain ⟨rfl, rfl⟩ := hp
      left
      have e : ((fun q => decide (q < 0)) ∘ Nat.succ) = fun _ => false := by funext q; simp [Function.comp]
      simp only [Nat.lt_irrefl, decide_false, e]
      exact ⟨by rw [sigL_zero]; exact hc, fun x hx => by have := low hd x hx; omega⟩
    | succ j =>
      have := ih j o r (by simpa using hp)
      have e : ((fun q => decide (q < j + 1)) ∘ Nat.succ) = fun q => decide (q < j) := by funext q; simp [Function.comp]
      rw [e]
      rw [show i + (j + 1) = i + 1 + j from by omega]
      simpa using this
  | @new i d o' rf ob ps σ σ' al hod hn hd ih =>
    intro j o r hp
    simp only [List.length_cons, List.range_succ_eq_map, List.map_cons, List.map_map, sigL]
    cases j with
    | zero =>
      simp only [List.getElem?_cons_zero, Option.some.injEq, Prod.mk.injEq] at hp
      obtain ⟨rfl, rfl⟩ := hp
      right
      have e : ((fun q => decide (q < 0)) ∘ Nat.succ) = fun _ => false := by funext q; simp [Function.comp]
      simp only [Nat.lt_irrefl, decide_false, e]
      refine ⟨trivial, _, List.mem_cons_self .., rfl, hod, ?_⟩
      rw [sigL_zero]; exact hn
    | succ j =>
      have := ih j o r (by simpa using hp)
      have e : ((fun q => decide (q < j + 1)) ∘ Nat.succ) = fun q => decide (q < j) := by funext q; simp [Function.comp]
      rw [e]
      rw [show i + (j + 1) = i + 1 + j from by omega]
      rcases this with ⟨h1, h2⟩ | ⟨h1, x, hx, h2⟩
      · left
        refine ⟨by simpa using h1, fun x hx => ?_⟩
        rcases List.mem_cons.1 hx with rfl | hx
        · simp only; omega
        · exact h2 x hx
      · right
        exact ⟨h1, x, List.mem_cons_of_mem _ hx, by simpa using h2⟩
theorem DrX.end_ {i : Nat} {ps : List (Oper × AV)} {al : List Al} (d : DrX E h l i ps σ σ' al) : σ' = sigL ps ((List.range ps.length).map fun _ => true) σ := by
  induction d with
  | nil => rfl
  | calm _ _ ih =>
    simp only [List.length_cons, List.range_succ_eq_map, List.map_cons, List.map_map, sigL, if_true]
    exact ih
  | new _ _ _ ih =>
    simp only [List.length_cons, List.range_succ_eq_map, List.map_cons, List.map_map, sigL, if_true]
    exact ih
theorem DrX.al_ {i : Nat} {ps : List (Oper × AV)} {al : List Al} (d : DrX E h l i ps σ σ' al) : (∀ x ∈ al, i ≤ x.i ∧ x.i < i + ps.length ∧ ∃ p, ps[x.i - i]? = some p ∧ p.1.dst = some x.d) ∧ (al.map (·.i)).Nodup := by
  induction d with
  | nil => exact ⟨fun x hx => by simp at hx, by simp⟩
  | @calm i o' r' ps σ σ' al hc hd ih =>
    refine ⟨fun x hx => ?_, ih.2⟩
    obtain ⟨h1, h2, p, h3, h4⟩ := ih.1 x hx
    refine ⟨by omega, by simp only [List.length_cons]; omega, p, ?_, h4⟩
    rw [show x.i - i = (x.i - (i + 1)) + 1 from by omega]
    simpa using h3
  | @new i d o' rf ob ps σ σ' al hod hn hd ih =>
    refine ⟨fun x hx => ?_, ?_⟩
    · rcases List.mem_cons.1 hx with rfl | hx
      · exact ⟨Nat.le_refl _, by simp, (o', .c .any), by simp, hod⟩
      · obtain ⟨h1, h2, p, h3, h4⟩ := ih.1 x hx
        refine ⟨by omega, by simp only [List.length_cons]; omega, p, ?_, h4⟩
        rw [show x.i - i = (x.i - (i + 1)) + 1 from by omega]
        simpa using h3
    · simp only [List.map_cons, List.nodup_cons]
      refine ⟨fun hm => ?_, ih.2⟩
      obtain ⟨x, hx, he⟩ := List.mem_map.1 hm
      have := (ih.1 x hx).1
      omega

theorem drawX_any {n : Nat} {ps : List (Oper × AV)} {al : List Al} (hok : lexOk l = true) (ht : tailT l n = true) (hn : n ≤ l.length) (hps : ps.map (·.1) = l.take n) (d : DrX E h l 0 ps σ σ' al) (hnl : ∀ x ∈ al, ∀ i o, i < n → l[i]? = some o → x.d ∉ looks l o) {Q : Exit → Act → World → Prop}
    (k : ∀ γ a w, St E.N E.C (addA al (fun _ => true) γ σ') (extA al (fun _ => true) γ ++ h) a w → wpList E.P l.toArray Q (l.drop n) a w) : ∀ (u : Nat) (listed : Array Bool) (γ : Nat → Nat) (a : Act) (w : World), unl (fun j => listed.getD j false) n = u → listed.size = l.length →
    (∀ i o, l[i]? = some o → listed.getD i false = true → ∀ e ∈ o.after, Region.binds .any e = true → listed.getD e.on false = true) → (∀ j, n ≤ j → j < l.length → listed.getD j false = false) →
    St E.N E.C (addA al (fun j => listed.getD j false) γ (sigL ps (marks n listed) σ)) (extA al (fun j => listed.getD j false) γ ++ h) a w → wpAny E.P .any l.toArray Q (u + (l.length - n)) listed a w := by
  have hpl : ps.length = n := by have := congrArg List.length hps; simp at this; omega
  have hpi : ∀ (j : Nat) (p : Oper × AV), ps[j]? = some p → l[j]? = some p.1 ∧ j < n := by
    intro j p hp
    have hj : j < ps.length := (List.getElem?_eq_some_iff.1 hp).1
    have h1 : (ps.map (·.1))[j]? = some p.1 := by simp [hp]
    rw [hps, List.getElem?_take] at h1
    split at h1
    · exact ⟨h1, by omega⟩
    · cases h1
  obtain ⟨hal, hnd⟩ := d.al_
  have halp : ∀ x ∈ al, x.i < n ∧ ∃ p, ps[x.i]? = some p ∧ p.1.dst = some x.d := fun x hx => by
    obtain ⟨_, h2, p, h3, h4⟩ := hal x hx
    exact ⟨by omega, p, by simpa using h3, h4⟩
  -- two blocks have two slots; a slot is written once
  have hone : ∀ x ∈ al, ∀ (j : Nat) (p : Oper × AV), ps[j]? = some p → p.1.dst = some x.d → j = x.i := fun x hx j p hp hd => by
    obtain ⟨hxn, q, hq, hqd⟩ := halp x hx
    rcases Nat.decEq j x.i with hne | he
    · exact absurd hd ((lex_pair hok (hpi j p hp).1 (hpi x.i q hq).1 hqd).2 (fun e => hne e.symm))
    · exact he
  have huniq : ∀ x ∈ al, ∀ y ∈ al, y.d = x.d → y = x := fun x hx y hy e => by
    obtain ⟨_, q, hq, hqd⟩ := halp y hy
    have hi := hone x hx y.i q hq (by rw [hqd, e])
    have : ∀ (l : List Al), (l.map (·.i)).Nodup → x ∈ l → y ∈ l → y = x := by
      intro l
      induction l with
      | nil => intro _ hm; simp at hm
      | cons z l ih =>
        intro hnd h1 h2
        simp only [List.map_cons, List.nodup_cons] at hnd
        rcases List.mem_cons.1 h1 with e1 | m1 <;> rcases List.mem_cons.1 h2 with e2 | m2
        · rw [e1, e2]
        · exact absurd (List.mem_map.2 ⟨y, m2, by rw [hi, e1]⟩) hnd.1
        · exact absurd (List.mem_map.2 ⟨x, m1, by rw [← hi, e2]⟩) hnd.1
        · exact ih hnd.2 m1 m2
    exact this al hnd hx hy
  intro u
  induction u with
  | zero =>
    intro listed γ a w hu hs _ htl st
    have hall := unl_zero n hu
    rw [Nat.zero_add]
    refine tailT_any hok ht (l.length - n) n listed a w (Nat.le_refl _) (by omega) hs (fun j hj => ?_) (k γ a w ?_)
    · rcases Nat.lt_or_ge j n with h1 | h1
      · rw [hall j h1]; simp [h1]
      · rw [htl j h1 hj]; simp; omega
    · have e : marks n listed = (List.range ps.length).map fun _ => true := by
        unfold marks
        rw [hpl]
        exact List.map_congr_left fun j hj => hall j (by simpa using hj)
      have hc : ∀ x ∈ al, (fun j => listed.getD j false) x.i = (fun _ => true) x.i ∧ γ x.i = γ x.i := fun x hx => ⟨hall x.i (halp x hx).1, rfl⟩
      rw [d.end_, ← e, ← addA_congr (L := fun j => listed.getD j false) (L' := fun _ => true) (γ := γ) (γ' := γ) hc, ← extA_congr (L := fun j => listed.getD j false) (L' := fun _ => true) (γ := γ) (γ' := γ) hc]
      exact st
  | succ u ih =>
    intro listed γ a w hu hs hcl htl st
    rw [show u + 1 + (l.length - n) = (u + (l.length - n)) + 1 from by omega]
    obtain ⟨j0, hj0, hj1, hj2⟩ := unl_pos (L := fun j => listed.getD j false) n (by omega)
    have hready : j0 ∈ Region.ready .any l.toArray listed := (mem_ready hs).2 ⟨by omega, hj1, fun o ho e he hb => hj2 _ (lex_back hok ho he hb)⟩
    refine ⟨fun e => by rw [e] at hready; simp at hready, fun i hi => ?_⟩
    obtain ⟨h1, h2, h3⟩ := (mem_ready hs).1 hi
    have ho : l[i]? = some l[i] := List.getElem?_eq_getElem h1
    have hin : i < n := by
      rcases Nat.lt_or_ge i n with hlt | hge
      · exact hlt
      · have := edgeT_listed (L := fun q => listed.getD q false) hcl 6 _ j0 (h3 _ ho) (tailT_edge ht ho hge (show j0 < i from by omega))
        simp only [hj1] at this
        cases this
    have hpi' : ps[i]? = some ps[i] := List.getElem?_eq_getElem (by omega)
    obtain ⟨hp1, _⟩ := hpi i _ hpi'
    rw [ho] at hp1
    injection hp1 with hp1
    have hat := d.at_ i ps[i].1 ps[i].2 hpi'
    rw [Nat.zero_add] at hat
    -- the slots that it looks at hold what they hold in the text's order
    have hsame : ∀ t ∈ looks l ps[i].1, (addA al (fun j => listed.getD j false) γ (sigL ps (marks n listed) σ)).get t = (sigL ps ((List.range ps.length).map fun j => decide (j < i)) σ).get t := by
      intro t htl'
      rw [addA_out fun x hx _ e => hnl x hx i l[i] hin ho (by rw [hp1, e]; exact htl')]
      by_cases hex : ∃ (j : Nat) (p : Oper × AV), ps[j]? = some p ∧ j < i ∧ p.1.dst = some t
      · obtain ⟨j, p, hp, hji, hdt⟩ := hex
        obtain ⟨hlp, hjn⟩ := hpi j p hp
        have huniq : ∀ (j' : Nat) (p' : Oper × AV), j' ≠ j → ps[j']? = some p' → p'.1.dst ≠ some t := fun j' p' hne hp' =>
          (lex_pair hok (hpi j' p' hp').1 hlp hdt).2 (fun e => hne e.symm)
        obtain ⟨e, he, hon, hb⟩ := edge_mem (((lex_pair hok (by rw [← hp1]; exact ho) hlp hdt).1 htl').1 hji)
        have hlj : listed.getD j false = true := by rw [← hon]; exact h3 _ ho e (by rw [hp1]; exact he) hb
        rw [sigL_get_some ps _ σ t j p.1 p.2 hp (by rw [marks_get hjn, hlj]) hdt huniq,
          sigL_get_some ps _ σ t j p.1 p.2 hp (by simp [show j < ps.length from by omega, hji]) hdt huniq]
      · rw [sigL_get_none ps _ σ t (fun j p hp hb hdt => ?_), sigL_get_none ps _ σ t (fun j p hp hb hdt => ?_)]
        · have hjl : j < ps.length := (List.getElem?_eq_some_iff.1 hp).1
          simp [hjl] at hb
          exact hex ⟨j, p, hp, hb, hdt⟩
        · obtain ⟨hlp, hjn⟩ := hpi j p hp
          rw [marks_get hjn] at hb
          injection hb with hb
          rcases Nat.lt_trichotomy j i with hlt | heq | hgt
          · exact hex ⟨j, p, hp, hlt, hdt⟩
          · subst heq; rw [h2] at hb; cases hb
          · obtain ⟨e, he, hon, hb'⟩ := edge_mem (((lex_pair hok (by rw [← hp1]; exact ho) hlp hdt).1 htl').2 hgt)
            have := hcl j _ hlp hb e he hb'
            rw [hon, h2] at this
            cases this
    have his : i < listed.size := by omega
    -- what the slots hold when it has run
    have hsig : ∀ t, (sigL ps (marks n (listed.setIfInBounds i true)) σ).get t = ((sigL ps (marks n listed) σ).setO ps[i].1.dst ps[i].2).get t := by
      intro t
      rw [setO_get]
      by_cases hdt : ps[i].1.dst = some t
      · rw [if_pos hdt]
        have huniq : ∀ (j' : Nat) (p' : Oper × AV), j' ≠ i → ps[j']? = some p' → p'.1.dst ≠ some t := fun j' p' hne hp' =>
          (lex_pair hok (hpi j' p' hp').1 (hpi i _ hpi').1 hdt).2 (fun e => hne e.symm)
        exact sigL_get_some ps _ σ t i ps[i].1 ps[i].2 hpi' (by rw [marks_get hin, getD_set his, if_pos rfl]) hdt huniq
      · rw [if_neg hdt]
        by_cases hex : ∃ (j : Nat) (p : Oper × AV), ps[j]? = some p ∧ listed.getD j false = true ∧ p.1.dst = some t
        · obtain ⟨j, p, hp, hlj, hdt'⟩ := hex
          obtain ⟨hlp, hjn⟩ := hpi j p hp
          have huniq : ∀ (j' : Nat) (p' : Oper × AV), j' ≠ j → ps[j']? = some p' → p'.1.dst ≠ some t := fun j' p' hne hp' =>
            (lex_pair hok (hpi j' p' hp').1 hlp hdt').2 (fun e => hne e.symm)
          rw [sigL_get_some ps _ σ t j p.1 p.2 hp (by rw [marks_get hjn, getD_set his]; split <;> first | rfl | rw [hlj]) hdt' huniq,
            sigL_get_some ps _ σ t j p.1 p.2 hp (by rw [marks_get hjn, hlj]) hdt' huniq]
        · rw [sigL_get_none ps _ σ t (fun j p hp hb hdt' => ?_), sigL_get_none ps _ σ t (fun j p hp hb hdt' => ?_)]
          · obtain ⟨_, hjn⟩ := hpi j p hp
            rw [marks_get hjn] at hb
            injection hb with hb
            exact hex ⟨j, p, hp, hb, hdt'⟩
          · obtain ⟨_, hjn⟩ := hpi j p hp
            rw [marks_get hjn, getD_set his] at hb
            injection hb with hb
            split at hb
            · rename_i hji; subst hji; rw [hpi'] at hp; injection hp with hp; subst hp; exact hdt hdt'
            · exact hex ⟨j, p, hp, hb, hdt'⟩
    have hL : (fun j => (listed.setIfInBounds i true).getD j false) = fun j => if j = i then true else listed.getD j false := funext fun j => getD_set his
    have hgo : ∀ (γ' : Nat → Nat) a' w', St E.N E.C (addA al (fun j => if j = i then true else listed.getD j false) γ' (sigL ps (marks n (listed.setIfInBounds i true)) σ)) (extA al (fun j => if j = i then true else listed.getD j false) γ' ++ h) a' w' → wpAny E.P .any l.toArray Q (u + (l.length - n)) (listed.setIfInBounds i true) a' w' := by
      intro γ' a' w' st'
      refine ih _ γ' a' w' ?_ (by simpa using hs) (fun q o hq hlq e he hb => ?_) (fun j hj hjl => ?_) (by rw [hL]; exact st')
      · rw [hL]
        have := unl_set (L := fun j => listed.getD j false) n hin h2
        omega
      · rw [getD_set his] at hlq ⊢
        by_cases hqi : q = i
        · subst hqi
          by_cases hei : e.on = q
          · rw [if_pos hei]
          · rw [if_neg hei]; exact h3 o hq e he hb
        · rw [if_neg hqi] at hlq
          have := hcl q o hq hlq e he hb
          by_cases hei : e.on = i
          · rw [if_pos hei]
          · rw [if_neg hei]; exact this
      · rw [getD_set his, if_neg (by omega)]; exact htl j hj hjl
    unfold wpOp
    rw [show l.toArray[i]? = some l[i] from by simp [h1]]
    simp only
    rw [hp1]
    rcases hat with ⟨⟨hd, hc⟩, hno⟩ | ⟨hany, x, hx, hxi, hxd, hd, hc⟩
    · -- nothing is made
      have hnext : ∀ a' w', St E.N E.C ((addA al (fun j => listed.getD j false) γ (sigL ps (marks n listed) σ)).setO ps[i].1.dst ps[i].2) (extA al (fun j => listed.getD j false) γ ++ h) a' w' → wpAny E.P .any l.toArray Q (u + (l.length - n)) (listed.setIfInBounds i true) a' w' := by
        intro a' w' st'
        refine hgo γ a' w' ?_
        have hcg : ∀ x ∈ al, (fun j => if j = i then true else listed.getD j false) x.i = (fun j => listed.getD j false) x.i ∧ γ x.i = γ x.i := fun x hx => ⟨by simp [hno x hx], rfl⟩
        rw [extA_congr (L := fun j => if j = i then true else listed.getD j false) (L' := fun j => listed.getD j false) (γ := γ) (γ' := γ) hcg, addA_congr (L := fun j => if j = i then true else listed.getD j false) (L' := fun j => listed.getD j false) (γ := γ) (γ' := γ) hcg]
        refine St.weak st' (fun t => .inr ?_) (List.Sublist.refl _)
        by_cases hex : ∃ x ∈ al, listed.getD x.i false = true ∧ x.d = t
        · obtain ⟨x, hx, hlx, rfl⟩ := hex
          rw [addA_in hx hlx (huniq x hx), setO_get, if_neg (fun e => hno x hx (hone x hx i _ hpi' e).symm), addA_in hx hlx (huniq x hx)]
        · have hout : ∀ x ∈ al, (fun j => listed.getD j false) x.i = true → x.d ≠ t := fun x hx hlx e => hex ⟨x, hx, hlx, e⟩
          rw [addA_out hout, hsig, setO_get, setO_get, addA_out hout]
      have hcalm := hc _ _ a w Q hsame st
      split
      · rename_i hw
        rw [if_pos hw] at hcalm
        exact .inl (Oper.wp_mono hnext hcalm)
      · rename_i hw
        rw [if_neg hw] at hcalm
        have st2 := st.put hd (r := .c .any) (v := undef) trivial
        rw [← hcalm] at st2
        exact hnext _ _ st2
    · -- a block is made
      obtain ⟨hw, hnew⟩ := hc _ _ a w Q hsame st
      rw [if_pos hw]
      refine .inl (Oper.wp_mono ?_ hnew)
      rintro a' w' ⟨g, st'⟩
      refine hgo (fun j => if j = i then g else γ j) a' w' ?_
      have hli : listed.getD x.i false = false := by rw [hxi]; exact h2
      have hperm := extA_new (L := fun j => listed.getD j false) (γ := γ) (g := g) hx hli hnd
      rw [hxi] at hperm
      refine St.perm (h := ((g, x.ob) :: (extA al (fun j => listed.getD j false) γ ++ h))) ?_ ?_
      · rw [← List.cons_append]
        exact (hperm.append_right h).symm
      refine St.weak st' (fun t => .inr ?_) (List.Sublist.refl _)
      by_cases hxt : x.d = t
      · subst hxt
        have := addA_in (L := fun j => if j = i then true else listed.getD j false) (γ := fun j => if j = i then g else γ j) (σ := sigL ps (marks n (listed.setIfInBounds i true)) σ) hx (by simp [hxi]) (huniq x hx)
        rw [this, setO_get, if_pos hxd]
        simp [hxi]
      · rw [setO_get, if_neg (fun e => hxt (by rw [hxd] at e; injection e))]
        by_cases hex : ∃ y ∈ al, listed.getD y.i false = true ∧ y.d = t
        · obtain ⟨y, hy, hly, rfl⟩ := hex
          have hyi : y.i ≠ i := fun e => by rw [e, h2] at hly; cases hly
          have e1 := addA_in (L := fun j => if j = i then true else listed.getD j false) (γ := fun j => if j = i then g else γ j) (σ := sigL ps (marks n (listed.setIfInBounds i true)) σ) hy (by simp [hyi, hly]) (huniq y hy)
          rw [e1, addA_in hy hly (huniq y hy)]
          simp [hyi]
        · have hout : ∀ y ∈ al, (fun j => listed.getD j false) y.i = true → y.d ≠ t := fun y hy hly e => hex ⟨y, hy, hly, e⟩
          have hout' : ∀ y ∈ al, (fun j => if j = i then true else listed.getD j false) y.i = true → y.d ≠ t := fun y hy hly e => by
            by_cases hyi : y.i = i
            · have : y = x := by
                obtain ⟨_, q, hq, hqd⟩ := halp y hy
                rw [hyi, hpi'] at hq
                injection hq with hq
                rw [← hq, hxd] at hqd
                injection hqd with hqd
                exact huniq x hx y hy hqd.symm
              exact hxt (by rw [← this]; exact e)
            · simp only [hyi, if_false] at hly
              exact hout y hy hly e
          rw [addA_out hout', hsig, setO_get, if_neg (fun e => hxt (by rw [hxd] at e; injection e)), addA_out hout]
end
end Go.AI
