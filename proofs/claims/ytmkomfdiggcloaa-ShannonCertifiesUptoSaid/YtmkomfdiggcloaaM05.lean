/- Texts of one proof, laid one behind the other by a program (merge.py): Nat4, AiBits, Nat5, PDiv, Nat6, Nat7. -/
import Derived.Test.YtmkomfdiggcloaaM04
import Derived.Test.YtmkomfdiggcloaaM03
set_option linter.unusedSimpArgs false
set_option linter.unusedVariables false
/- natural: Sub, Mul. -/
namespace Go.Proofs.Ytmkomfdiggcloaa
open Go.AI Go.PN
attribute [local irreducible] aw Fa Fh DrK
theorem wrap_subD {x y b : Nat} (hx : x < 4294967296) (hy : y < 4294967296) (hb : b ≤ 1) : wrapZ .u64 (wrapZ .u64 ((x : Int) - (y : Int)) - (b : Int)) = ((subD x y b : Nat) : Int) := by
  rw [wrapZ_eq, wrapZ_eq, IntKind.wrap_u64, IntKind.wrap_u64]; unfold subD
  rcases Nat.lt_or_ge x y with h | h
  · have e : ((x : Int) - y) % 18446744073709551616 = x - y + 18446744073709551616 := by omega
    rw [e]; omega
  · have e : ((x : Int) - y) % 18446744073709551616 = x - y := by omega
    rw [e]; omega
set_option maxHeartbeats 800000 in
theorem sub_fa (xs ys : List Nat) (hx : ∀ x ∈ xs, x < 4294967296) (hy : ∀ x ∈ ys, x < 4294967296) (hlx : xs.length ≤ 68719476736) (hly : ys.length ≤ 68719476736) (hle : val ys ≤ val xs) :
    Fa Try.prog 84 [.c (ws false xs), .c (ws false ys)] (.tup [.c (ws true (words (val xs - val ys))), .c .nilI]) := by
  refine fa_of_body Try.func84 rfl rfl (by simp [Try.ntmps84]) fun C hC => ?_
  simp only [initS, Nat.reduceAdd]
  repeat first|apply wa1|apply wa2|apply wa3|apply wa4|apply wa5 rfl|apply wa6|apply wa7|(refine wb0 rfl fun R r=>?_;simp only[go_sem];with_reducible refine r _ _ ?_;clear r R)
  refine aw_callq (cmp_fa xs ys hx hy hlx hly) rfl rfl rfl (by first|exact True.intro|simp only[go_sem]<;>and_intros<;>first|exact True.intro|exact .c (.refl _)|exact .c wl2|exact .agg (lel_refl _)|exact .agg (by simp only[LeL];and_intros<;>first|exact True.intro|exact .refl _|exact wl2)|exact .c .nils) ?_
  (try simp only[go_sem])
  repeat first|apply wa1|apply wa2|apply wa3|apply wa4|apply wa5 rfl|apply wa6|apply wa7|(refine wb0 rfl fun R r=>?_;simp only[go_sem];with_reducible refine r _ _ ?_;clear r R)
  refine aw_cond (by simp only[go_sem]<;>rfl) (fun hb => ?_) (fun _ => ?_)
  · have := of_decide_eq_true hb
    unfold cmpN at this
    split at this
    · omega
    · split at this <;> omega
  repeat first|apply wa1|apply wa2|apply wa3|apply wa4|apply wa5 rfl|apply wa6|apply wa7|(refine wb0 rfl fun R r=>?_;simp only[go_sem];with_reducible refine r _ _ ?_;clear r R)
  refine aw_make (n := xs.length) (c := xs.length) rfl rfl rfl ty_e_ws ty_z_u32 rfl (by omega) (by simp only[go_sem]<;>rfl) (by simp only[go_sem]<;>rfl) rfl rfl (by omega) (by omega) (by omega) fun g hg => ?_
  rw [make_wf xs.length]
  (try simp only[go_sem])
  repeat first|apply wa1|apply wa2|apply wa3|apply wa4|apply wa5 rfl|apply wa6|apply wa7|(refine wb0 rfl fun R r=>?_;simp only[go_sem];with_reducible refine r _ _ ?_;clear r R)
  refine aw_lp (fun x : Nat × Nat × List Nat => [(0, .c (ws false xs)), (1, .c (ws false ys)), (6, .c (.osl g 1 0 xs.length)), (7, .c (.int .u64 x.2.1)), (19, .c (.int .i64 xs.length)), (20, .c (.int .i64 x.1))]) (fun x => [(g, .cells 85 xs.length (wf x.2.2))])
    (fun x => x.1 ≤ xs.length ∧ x.2.1 ≤ 1 ∧ x.2.2.length = xs.length ∧ (∀ y ∈ x.2.2, y < 4294967296) ∧ val (x.2.2.take x.1) + val (ys.take x.1) = val (xs.take x.1) + 4294967296 ^ x.1 * x.2.1) (fun x => xs.length - x.1) (0, 0, List.replicate xs.length 0) (by simp only[go_sem]<;>and_intros<;>first|exact True.intro|(with_reducible rfl)|exact c_int (by omega)|rfl) (List.Sublist.refl _)
    ⟨Nat.zero_le _, Nat.zero_le _, by simp, replicate_lt _, by simp [val]⟩ ?_
  rintro ⟨i, b, zs⟩ ⟨hi, hbb, hzl, hz, hv⟩
  dsimp only at hi hbb hzl hz hv ⊢
  repeat first|apply wa1|apply wa2|apply wa3|apply wa4|apply wa5 rfl|apply wa6|apply wa7|(refine wb0 rfl fun R r=>?_;simp only[go_sem];with_reducible refine r _ _ ?_;clear r R)
  refine aw_cond (by simp only[go_sem]<;>rfl) (fun hb => ?_) (fun hb => ?_)
  · have hin : i < xs.length := by have := of_decide_eq_true hb; omega
    have hxi := getD_lt hx i
    have hyi := getD_lt hy i
    repeat first|apply wa1|apply wa2|apply wa3|apply wa4|apply wa5 rfl|apply wa6|apply wa7|(refine wb0 rfl fun R r=>?_;simp only[go_sem];with_reducible refine r _ _ ?_;clear r R)
    refine aw_callq (word_fa xs i hx) rfl rfl rfl (by first|exact True.intro|simp only[go_sem]<;>and_intros<;>first|exact True.intro|exact .c (.refl _)|exact .c wl2|exact .agg (lel_refl _)|exact .agg (by simp only[LeL];and_intros<;>first|exact True.intro|exact .refl _|exact wl2)|exact .c .nils) ?_
    (try simp only[go_sem])
    repeat first|apply wa1|apply wa2|apply wa3|apply wa4|apply wa5 rfl|apply wa6|apply wa7|(refine wb0 rfl fun R r=>?_;simp only[go_sem];with_reducible refine r _ _ ?_;clear r R)
    refine aw_callq (word_fa ys i hy) rfl rfl rfl (by first|exact True.intro|simp only[go_sem]<;>and_intros<;>first|exact True.intro|exact .c (.refl _)|exact .c wl2|exact .agg (lel_refl _)|exact .agg (by simp only[LeL];and_intros<;>first|exact True.intro|exact .refl _|exact wl2)|exact .c .nils) ?_
    (try simp only[go_sem])
    (refine aw_1q false rfl (fun R hR => ?_); simp only [go_sem]; (with_reducible refine hR _ _ ?_ ?_); (focus (((try simp only [inRange]) <;> and_intros <;> first | exact True.intro | omega | trivial); done)); clear hR R)
    repeat first|apply wa1|apply wa2|apply wa3|apply wa4|apply wa5 rfl|apply wa6|apply wa7|(refine wb0 rfl fun R r=>?_;simp only[go_sem];with_reducible refine r _ _ ?_;clear r R)
    (refine aw_1q false rfl (fun R hR => ?_); simp only [go_sem]; (with_reducible refine hR _ _ ?_ ?_); (focus (((try simp only [inRange]) <;> and_intros <;> first | exact True.intro | omega | trivial); done)); clear hR R)
    rw [wrap_subD hxi hyi hbb]
    obtain ⟨st1, st2⟩ := sub_step (zs := zs) (by omega) hxi hyi hbb hv
    generalize subD (xs.getD i 0) (ys.getD i 0) b = D at st1 st2 ⊢
    obtain ⟨v, b2, e1, e2, hvl, st⟩ : ∃ v b2 : Nat, wrapZ .u32 (D : Int) = (v : Int) ∧ shrZ .u64 (D : Int) 63 = (b2 : Int) ∧ v < 4294967296 ∧ (val ((zs.set i v).take (i + 1)) + val (ys.take (i + 1)) = val (xs.take (i + 1)) + 4294967296 ^ (i + 1) * b2 ∧ b2 ≤ 1) :=
      ⟨_, _, wrap_u32_nat D, shr63_nat D, Nat.mod_lt _ (by omega), st1, st2⟩
    clear st1 st2
    repeat first|apply wa1|apply wa2|apply wa3|apply wa4|apply wa5 rfl|apply wa6|apply wa7|(refine wb0 rfl fun R r=>?_;simp only[go_sem];with_reducible refine r _ _ ?_;clear r R)
    rw [e1]
    refine aw_store rfl rfl rfl rfl (by simp only[go_sem]<;>rfl) (by simp only[go_sem]<;>rfl) (by simp only[go_sem]<;>rfl) (by simp only[go_sem]<;>rfl) (fun _ e => by cases e) (by rfl) (by rfl) (by first|omega|simp) rfl ?_
    (try simp only[go_sem])
    rw [updF_wf (by omega)]
    apply aw_ops_nil
    apply aw_region
    (refine wb0 rfl fun R r=>?_;simp only[go_sem];with_reducible refine r _ _ ?_;clear r R)
    (refine wb0 rfl fun R r=>?_;simp only[go_sem];with_reducible refine r _ _ ?_;clear r R)
    rw [e2]
    repeat first|apply wa1|apply wa2|apply wa3|apply wa4|apply wa5 rfl|apply wa6|apply wa7|(refine wb0 rfl fun R r=>?_;simp only[go_sem];with_reducible refine r _ _ ?_;clear r R)
    refine aw_stop ⟨(i + 1, b2, zs.set i v), by dsimp only; omega, (by simp only[go_sem]<;>and_intros<;>first|exact True.intro|(with_reducible rfl)|exact c_int (by omega)|rfl), (List.Sublist.refl _), by dsimp only; omega, st.2, by simpa using hzl, set_lt hz hvl, st.1⟩
  · have hin : i = xs.length := by have := of_decide_eq_false hb; omega
    subst hin
    repeat first|apply wa1|apply wa2|apply wa3|apply wa4|apply wa5 rfl|apply wa6|apply wa7|(refine wb0 rfl fun R r=>?_;simp only[go_sem];with_reducible refine r _ _ ?_;clear r R)
    refine aw_callq (trim_fa zs hz (by omega)) rfl rfl rfl (by (try simp only[go_sem]); exact ⟨.c (lec_oslws (by simp only[go_sem]<;>rfl) (by omega) (by omega) (fun j _ => by rw [Nat.zero_add]; rfl)), trivial⟩) ?_
    (try simp only[go_sem])
    repeat first|apply wa1|apply wa2|apply wa3|apply wa4|apply wa5 rfl|apply wa6|apply wa7|(refine wb0 rfl fun R r=>?_;simp only[go_sem];with_reducible refine r _ _ ?_;clear r R)
    (refine aw_retq hC rfl fun R r=>?_;simp only[go_sem];refine r _ rfl ?_;clear r R)
    rw [sub_end hx hz hzl hle hv]
    exact .tup ⟨.c ler_ws, .c .nilI, trivial⟩

set_option maxHeartbeats 1600000 in
theorem mul_fa (xs ys : List Nat) (hx : ∀ x ∈ xs, x < 4294967296) (hy : ∀ x ∈ ys, x < 4294967296) (hlx : xs.length ≤ 68719476736) (hly : ys.length ≤ 68719476736) :
    Fa Try.prog 75 [.c (ws false xs), .c (ws false ys)] (.c (ws true (words (val xs * val ys)))) := by
  refine fa_of_body Try.func75 rfl rfl (by simp [Try.ntmps75]) fun C hC => ?_
  simp only [initS, Nat.reduceAdd]
  repeat first|apply wa1|apply wa2|apply wa3|apply wa4|apply wa5 rfl|apply wa6|apply wa7|(refine wb0 rfl fun R r=>?_;simp only[go_sem];with_reducible refine r _ _ ?_;clear r R)
  have hn0 : (xs.length : Int) + (ys.length : Int) = ((xs.length + ys.length : Nat) : Int) := by omega
  rw [hn0]
  generalize hn : xs.length + ys.length = n
  refine aw_make (n := n) (c := n) rfl rfl rfl ty_e_ws ty_z_u32 rfl (by omega) (by simp only[go_sem]<;>rfl) (by simp only[go_sem]<;>rfl) rfl rfl (by omega) (by omega) (by omega) fun g hg => ?_
  rw [make_wf n]
  (try simp only[go_sem])
  repeat first|apply wa1|apply wa2|apply wa3|apply wa4|apply wa5 rfl|apply wa6|apply wa7|(refine wb0 rfl fun R r=>?_;simp only[go_sem];with_reducible refine r _ _ ?_;clear r R)
  refine aw_lp (fun x : Nat × List Nat => [(0, .c (ws false xs)), (1, .c (ws false ys)), (5, .c (.osl g 1 0 n)), (17, .c (ws false xs)), (18, .c (.int .i64 xs.length)), (19, .c (.int .i64 x.1))]) (fun x => [(g, .cells 85 n (wf x.2))])
    (fun x => x.1 ≤ xs.length ∧ x.2.length = n ∧ (∀ y ∈ x.2, y < 4294967296) ∧ val x.2 = val (xs.take x.1) * val ys) (fun x => xs.length - x.1) (0, List.replicate n 0) (by simp only[go_sem]<;>and_intros<;>first|exact True.intro|(with_reducible rfl)|exact c_int (by omega)|rfl) (List.Sublist.refl _)
    ⟨Nat.zero_le _, by simp, replicate_lt _, by simp [val, val_replicate]⟩ ?_
  rintro ⟨i, z0⟩ ⟨hi, hzl0, hz0, hv0⟩
  dsimp only at hi hzl0 hz0 hv0 ⊢
  repeat first|apply wa1|apply wa2|apply wa3|apply wa4|apply wa5 rfl|apply wa6|apply wa7|(refine wb0 rfl fun R r=>?_;simp only[go_sem];with_reducible refine r _ _ ?_;clear r R)
  refine aw_cond (by simp only[go_sem]<;>rfl) (fun hb => ?_) (fun hb => ?_)
  · have hin : i < xs.length := by have := of_decide_eq_true hb; omega
    have hxi := getD_lt hx i
    have hz0' : val z0 < 4294967296 ^ (i + ys.length) := by
      rw [hv0, Nat.pow_add]
      exact Nat.mul_lt_mul_of_lt_of_lt (val_take_lt xs hx i (by omega)) (val_lt ys hy)
    repeat first|apply wa1|apply wa2|apply wa3|apply wa4|apply wa5 rfl|apply wa6|apply wa7|(refine wb0 rfl fun R r=>?_;simp only[go_sem];with_reducible refine r _ _ ?_;clear r R)
    generalize hxx : xs.getD i 0 = x at *
    refine aw_lp (fun s : Nat × Nat × List Nat => [(0, .c (ws false xs)), (1, .c (ws false ys)), (5, .c (.osl g 1 0 n)), (6, .c (.int .i64 i)), (7, .c (.int .u32 x)), (8, .c (.int .u64 s.2.1)), (17, .c (ws false xs)), (18, .c (.int .i64 xs.length)), (19, .c (.int .i64 i)), (24, .c (ws false ys)), (25, .c (.int .i64 ys.length)), (26, .c (.int .i64 s.1))]) (fun s => [(g, .cells 85 n (wf s.2.2))])
      (fun s => s.1 ≤ ys.length ∧ s.2.1 < 4294967296 ∧ s.2.2.length = n ∧ (∀ y ∈ s.2.2, y < 4294967296) ∧ (∀ j, i + s.1 ≤ j → s.2.2.getD j 0 = z0.getD j 0) ∧ val s.2.2 + 4294967296 ^ (i + s.1) * s.2.1 = val z0 + 4294967296 ^ i * (x * val (ys.take s.1))) (fun s => ys.length - s.1) (0, 0, z0) (by simp only[go_sem]<;>and_intros<;>first|exact True.intro|(with_reducible rfl)|exact c_int (by omega)|rfl) (List.Sublist.refl _)
      ⟨Nat.zero_le _, by simp, hzl0, hz0, fun _ _ => rfl, by simp [val]⟩ ?_
    rintro ⟨k, c, zs⟩ ⟨hk, hc, hzl, hz, hzz, hv⟩
    dsimp only at hk hc hzl hz hzz hv ⊢
    repeat first|apply wa1|apply wa2|apply wa3|apply wa4|apply wa5 rfl|apply wa6|apply wa7|(refine wb0 rfl fun R r=>?_;simp only[go_sem];with_reducible refine r _ _ ?_;clear r R)
    refine aw_cond (by simp only[go_sem]<;>rfl) (fun hb => ?_) (fun hb => ?_)
    · have hkn : k < ys.length := by have := of_decide_eq_true hb; omega
      have hyk := getD_lt hy k
      have hzk := getD_lt hz (i + k)
      have hst := mul_step (ys := ys) (x := x) (zs := zs) (c := c) (by omega) hv
      have hmb := mul_bound hxi hyk
      have hmb2 : (0 : Int) ≤ (x : Int) * ((ys.getD k 0 : Nat) : Int) ∧ (x : Int) * ((ys.getD k 0 : Nat) : Int) ≤ 18446744065119617025 := by rw [← Int.natCast_mul]; omega
      repeat first|apply wa1|apply wa2|apply wa3|apply wa4|apply wa5 rfl|apply wa6|apply wa7|(refine wb0 rfl fun R r=>?_;simp only[go_sem];with_reducible refine r _ _ ?_;clear r R)
      have ew : (c : Int) + ((x : Int) * ((ys.getD k 0 : Nat) : Int) + ((zs.getD (i + k) 0 : Nat) : Int)) = ((c + (x * ys.getD k 0 + zs.getD (i + k) 0) : Nat) : Int) := by simp
      rw [ew, wrap_u32_nat]
      refine aw_store rfl rfl rfl rfl (by simp only[go_sem]<;>rfl) (by simp only[go_sem]<;>rfl) (by simp only[go_sem]<;>rfl) (by simp only[go_sem]<;>rfl) (fun _ e => by cases e) (by rfl) (by rfl) (by first|omega|simp) rfl ?_
      (try simp only[go_sem])
      rw [updF_wf (by omega)]
      repeat first|apply wa1|apply wa2|apply wa3|apply wa4|apply wa5 rfl|apply wa6|apply wa7|(refine wb0 rfl fun R r=>?_;simp only[go_sem];with_reducible refine r _ _ ?_;clear r R)
      refine aw_stop ⟨(k + 1, (c + (x * ys.getD k 0 + zs.getD (i + k) 0)) / 4294967296, zs.set (i + k) ((c + (x * ys.getD k 0 + zs.getD (i + k) 0)) % 4294967296)), by dsimp only; omega, (by simp only[go_sem]<;>and_intros<;>first|exact True.intro|(with_reducible rfl)|exact c_int (by omega)|rfl), (List.Sublist.refl _), by dsimp only; omega, by dsimp only; omega, by simpa using hzl, set_lt hz (by omega), fun j hj => ?_, hst⟩
      dsimp only at hj ⊢
      rw [Go.PN.getD_set_ne (by omega)]
      exact hzz j (by omega)
    · have hkn : k = ys.length := by have := of_decide_eq_false hb; omega
      subst hkn
      repeat first|apply wa1|apply wa2|apply wa3|apply wa4|apply wa5 rfl|apply wa6|apply wa7|(refine wb0 rfl fun R r=>?_;simp only[go_sem];with_reducible refine r _ _ ?_;clear r R)
      rw [wrap_u32_nat, Nat.mod_eq_of_lt hc]
      refine aw_store rfl rfl rfl rfl (by simp only[go_sem]<;>rfl) (by simp only[go_sem]<;>rfl) (by simp only[go_sem]<;>rfl) (by simp only[go_sem]<;>rfl) (fun _ e => by cases e) (by rfl) (by rfl) (by first|omega|simp) rfl ?_
      (try simp only[go_sem])
      rw [updF_wf (by omega)]
      repeat first|apply wa1|apply wa2|apply wa3|apply wa4|apply wa5 rfl|apply wa6|apply wa7|(refine wb0 rfl fun R r=>?_;simp only[go_sem];with_reducible refine r _ _ ?_;clear r R)
      have h0 : zs.getD (i + ys.length) 0 = 0 := by rw [hzz _ (Nat.le_refl _)]; exact getD_zero_of_lt hz0' (Nat.le_refl _)
      have h1 := val_set (zs := zs) (j := i + ys.length) (v := c) (by omega)
      rw [h0, Nat.mul_zero, Nat.add_zero, hv, List.take_length, hv0] at h1
      refine aw_stop ⟨(i + 1, zs.set (i + ys.length) c), by dsimp only; omega, (by simp only[go_sem]<;>and_intros<;>first|exact True.intro|(with_reducible rfl)|exact c_int (by omega)|rfl), (List.Sublist.refl _), by dsimp only; omega, by simpa using hzl, set_lt hz hc, ?_⟩
      dsimp only
      rw [h1, val_take_succ, hxx, Nat.add_mul, Nat.mul_assoc]
  · have hin : i = xs.length := by have := of_decide_eq_false hb; omega
    subst hin
    repeat first|apply wa1|apply wa2|apply wa3|apply wa4|apply wa5 rfl|apply wa6|apply wa7|(refine wb0 rfl fun R r=>?_;simp only[go_sem];with_reducible refine r _ _ ?_;clear r R)
    refine aw_callq (trim_fa z0 hz0 (by omega)) rfl rfl rfl (by (try simp only[go_sem]); exact ⟨.c (lec_oslws (by simp only[go_sem]<;>rfl) (by omega) (by omega) (fun j _ => by rw [Nat.zero_add]; rfl)), trivial⟩) ?_
    (try simp only[go_sem])
    repeat first|apply wa1|apply wa2|apply wa3|apply wa4|apply wa5 rfl|apply wa6|apply wa7|(refine wb0 rfl fun R r=>?_;simp only[go_sem];with_reducible refine r _ _ ?_;clear r R)
    (refine aw_retq hC rfl fun R r=>?_;simp only[go_sem];refine r _ rfl ?_;clear r R)
    rw [hv0, List.take_length]
    exact .one (.c ler_ws)
end Go.Proofs.Ytmkomfdiggcloaa

/- Bits, shifts, quotients on numbers that are not below 0. -/
namespace Go.AI
theorem ofInt64 (a : Nat) : (BitVec.ofInt 64 (a : Int)).toNat = a % 18446744073709551616 := by
  rw [BitVec.ofInt_natCast, BitVec.toNat_ofNat]
theorem or_u64 (a b : Nat) (ha : a < 18446744073709551616) (hb : b < 18446744073709551616) : orZ .u64 (a : Int) (b : Int) = ((a ||| b : Nat) : Int) := by
  have hx : a ||| b < 2 ^ 64 := Nat.or_lt_two_pow (by omega) (by omega)
  rw [orZ_eq]
  show IntKind.u64.wrap (((BitVec.ofInt 64 (a : Int)) ||| (BitVec.ofInt 64 (b : Int))).toNat : Int) = _
  rw [BitVec.toNat_or, ofInt64, ofInt64, Nat.mod_eq_of_lt ha, Nat.mod_eq_of_lt hb, IntKind.wrap_u64]
  omega
theorem or_join (x y : Nat) (hy : y < 4294967296) : x * 4294967296 ||| y = x * 4294967296 + y := by
  have := Nat.two_pow_add_eq_or_of_lt (i := 32) (b := y) (by omega) x
  rw [Nat.mul_comm x, ← this]
theorem or_u64_join (x y : Nat) (hx : x < 4294967296) (hy : y < 4294967296) : orZ .u64 ((x * 4294967296 : Nat) : Int) (y : Int) = ((x * 4294967296 + y : Nat) : Int) := by
  rw [or_u64 _ _ (by omega) (by omega), or_join x y hy]
/-- Two words as one number. -/
def j32 (x y : Nat) : Nat := x * 4294967296 + y
theorem or_u64_j32 (x y : Nat) (hx : x < 4294967296) (hy : y < 4294967296) : orZ .u64 ((x * 4294967296 : Nat) : Int) (y : Int) = ((j32 x y : Nat) : Int) := or_u64_join x y hx hy
theorem or_u64_join' (x y : Nat) (hx : x < 4294967296) (hy : y < 4294967296) : orZ .u64 (y : Int) ((x * 4294967296 : Nat) : Int) = ((x * 4294967296 + y : Nat) : Int) := by
  rw [or_u64 _ _ (by omega) (by omega), Nat.or_comm, or_join x y hy]
theorem or_u32 (a b : Nat) (ha : a < 4294967296) (hb : b < 4294967296) : orZ .u32 (a : Int) (b : Int) = ((a ||| b : Nat) : Int) := by
  have hx : a ||| b < 2 ^ 32 := Nat.or_lt_two_pow (by omega) (by omega)
  rw [orZ_eq]
  show IntKind.u32.wrap (((BitVec.ofInt 32 (a : Int)) ||| (BitVec.ofInt 32 (b : Int))).toNat : Int) = _
  rw [BitVec.toNat_or, BitVec.ofInt_natCast, BitVec.ofInt_natCast, BitVec.toNat_ofNat, BitVec.toNat_ofNat, Nat.mod_eq_of_lt (by omega), Nat.mod_eq_of_lt (by omega), IntKind.wrap_u32]
  omega
theorem shl_u64_32 (x : Nat) (hx : x < 4294967296) : shlZ .u64 (x : Int) 32 = ((x * 4294967296 : Nat) : Int) := by
  rw [shlZ_eq]
  show IntKind.u64.wrap ((x : Int) * 4294967296) = _
  rw [IntKind.wrap_u64]; omega
theorem nat_div_32 (y : Nat) : (y : Int) / 4294967296 = ((y / 4294967296 : Nat) : Int) := by omega
theorem pow_lt_32 {n : Nat} (hn : n ≤ 32) : 2 ^ n ≤ 4294967296 := Nat.pow_le_pow_right (n := 2) (by omega) hn
theorem shl_u64 (x n : Nat) (hx : x < 4294967296) (hn : n ≤ 32) : shlZ .u64 (x : Int) (n : Int) = ((x * 2 ^ n : Nat) : Int) := by
  have h1 := pow_lt_32 hn
  have h2 : x * 2 ^ n ≤ 4294967295 * 4294967296 := Nat.mul_le_mul (by omega) h1
  rw [shlZ_eq]
  show IntKind.u64.wrap ((x : Int) * 2 ^ (min (n : Int).toNat 64)) = _
  rw [Int.toNat_natCast, Nat.min_eq_left (by omega), IntKind.wrap_u64]
  have e : (x : Int) * 2 ^ n = ((x * 2 ^ n : Nat) : Int) := by simp
  rw [e]
  omega
theorem shr_u64 (x n : Nat) (hn : n ≤ 64) : shrZ .u64 (x : Int) (n : Int) = ((x / 2 ^ n : Nat) : Int) := by
  rw [shrZ_eq]
  show (x : Int).fdiv (2 ^ (min (n : Int).toNat 64)) = _
  rw [Int.toNat_natCast, Nat.min_eq_left hn]
  have e : (2 : Int) ^ n = ((2 ^ n : Nat) : Int) := by simp
  rw [e, Int.fdiv_eq_ediv_of_nonneg _ (Int.natCast_nonneg _)]
  rfl
theorem quo_u64 (a b : Nat) (ha : a < 18446744073709551616) : quoZ .u64 (a : Int) (b : Int) = ((a / b : Nat) : Int) := by
  rw [quoZ_eq]
  show IntKind.u64.wrap ((a : Int).tdiv b) = _
  have h := Nat.div_le_self a b
  have e : (a : Int).tdiv (b : Int) = ((a / b : Nat) : Int) := rfl
  rw [e, IntKind.wrap_u64]
  generalize a / b = q at *
  omega
theorem rem_nat (a b : Nat) : remZ (a : Int) (b : Int) = ((a % b : Nat) : Int) := by rw [remZ_eq]; exact Int.ofNat_tmod a b
end Go.AI

/- natural: small. -/
namespace Go.Proofs.Ytmkomfdiggcloaa
open Go.AI Go.PN
attribute [local irreducible] aw Fa Fh DrK
set_option maxHeartbeats 1600000 in
theorem small_fa (xs : List Nat) (b : Nat) (hx : ∀ x ∈ xs, x < 4294967296) (hlx : xs.length ≤ 68719476736) (hb0 : 0 < b) (hb : b < 4294967296) :
    Fa Try.prog 96 [.c (ws false xs), .c (.int .u32 b)] (.tup [.c (ws true (words (val xs / b))), .c (.int .u32 (val xs % b : Nat))]) := by
  refine fa_of_body Try.func96 rfl rfl (by simp [Try.ntmps96]) fun C hC => ?_
  simp only [initS, Nat.reduceAdd]
  repeat first|apply wa1|apply wa2|apply wa3|apply wa4|apply wa5 rfl|apply wa6|apply wa7|(refine wb0 rfl fun R r=>?_;simp only[go_sem];with_reducible refine r _ _ ?_;clear r R)
  refine aw_make (n := xs.length) (c := xs.length) rfl rfl rfl ty_e_ws ty_z_u32 rfl (by omega) (by simp only[go_sem]<;>rfl) (by simp only[go_sem]<;>rfl) rfl rfl (by omega) (by omega) (by omega) fun g hg => ?_
  rw [make_wf xs.length]
  (try simp only[go_sem])
  repeat first|apply wa1|apply wa2|apply wa3|apply wa4|apply wa5 rfl|apply wa6|apply wa7|(refine wb0 rfl fun R r=>?_;simp only[go_sem];with_reducible refine r _ _ ?_;clear r R)
  refine aw_lp (fun x : Nat × Nat × List Nat => [(0, .c (ws false xs)), (1, .c (.int .u32 b)), (6, .c (.osl g 1 0 xs.length)), (7, .c (.int .u64 x.2.1)), (8, .c (.int .i64 ((x.1 : Int) - 1)))]) (fun x => [(g, .cells 85 xs.length (wf x.2.2))])
    (fun x => x.1 ≤ xs.length ∧ x.2.1 < b ∧ x.2.2.length = xs.length ∧ (∀ y ∈ x.2.2, y < 4294967296) ∧ val (xs.drop x.1) = b * val (x.2.2.drop x.1) + x.2.1) (fun x => x.1) (xs.length, 0, List.replicate xs.length 0) (by simp only[go_sem]<;>and_intros<;>first|exact True.intro|(with_reducible rfl)|exact c_int (by omega)|rfl) (List.Sublist.refl _)
    ⟨Nat.le_refl _, hb0, by simp, replicate_lt _, by simp [val]⟩ ?_
  rintro ⟨m, r, zs⟩ ⟨hm, hr, hzl, hz, hv⟩
  dsimp only at hm hr hzl hz hv ⊢
  repeat first|apply wa1|apply wa2|apply wa3|apply wa4|apply wa5 rfl|apply wa6|apply wa7|(refine wb0 rfl fun R r=>?_;simp only[go_sem];with_reducible refine r _ _ ?_;clear r R)
  refine aw_cond (by simp only[go_sem]<;>rfl) (fun hb1 => ?_) (fun hb1 => ?_)
  · have hm1 : 1 ≤ m := by have := of_decide_eq_true hb1; omega
    have e1 : ((m : Int) - 1).toNat = m - 1 := by omega
    have hxi := getD_lt hx (m - 1)
    have hst := small_step (xs := xs) (zs := zs) (m := m - 1) (r := r) hb0 (by omega) (by rw [show m - 1 + 1 = m from by omega]; exact hv)
    repeat first|apply wa1|apply wa2|apply wa3|apply wa4|apply wa5 rfl|apply wa6|apply wa7|(refine wb0 rfl fun R r=>?_;simp only[go_sem];with_reducible refine r _ _ ?_;clear r R)
    rw [shl_u64_32 r (by omega), or_u64_join r _ (by omega) hxi]
    have hs : r * 4294967296 + xs.getD (m - 1) 0 < b * 4294967296 := by
      have : (r + 1) * 4294967296 ≤ b * 4294967296 := Nat.mul_le_mul_right _ hr
      omega
    have hq : (r * 4294967296 + xs.getD (m - 1) 0) / b < 4294967296 := Nat.div_lt_of_lt_mul hs
    have hrm : (r * 4294967296 + xs.getD (m - 1) 0) % b < b := Nat.mod_lt _ hb0
    have hsl : r * 4294967296 + xs.getD (m - 1) 0 < 18446744073709551616 := by omega
    generalize r * 4294967296 + xs.getD (m - 1) 0 = s at hs hq hrm hsl hst ⊢
    repeat first|apply wa1|apply wa2|apply wa3|apply wa4|apply wa5 rfl|apply wa6|apply wa7|(refine wb0 rfl fun R r=>?_;simp only[go_sem];with_reducible refine r _ _ ?_;clear r R)
    rw [quo_u64 s b hsl, wrap_u32_nat, Nat.mod_eq_of_lt hq]
    refine aw_store rfl rfl rfl rfl (by simp only[go_sem]<;>rfl) (by simp only[go_sem]<;>rfl) (by simp only[go_sem]<;>rfl) (by simp only[go_sem]<;>rfl) (fun _ e => by cases e) (by rfl) (by rfl) (by first|omega|simp) rfl ?_
    (try simp only[go_sem])
    rw [updF_wf (by omega)]
    repeat first|apply wa1|apply wa2|apply wa3|apply wa4|apply wa5 rfl|apply wa6|apply wa7|(refine wb0 rfl fun R r=>?_;simp only[go_sem];with_reducible refine r _ _ ?_;clear r R)
    rw [rem_nat]
    refine aw_stop ⟨(m - 1, s % b, zs.set (m - 1) (s / b)), by dsimp only; omega, (by simp only[go_sem]<;>and_intros<;>first|exact True.intro|(with_reducible rfl)|exact c_int (by omega)|rfl), (List.Sublist.refl _), by dsimp only; omega, hrm, by simpa using hzl, set_lt hz hq, hst⟩
  · have hm0 : m = 0 := by have := of_decide_eq_false hb1; omega
    subst hm0
    repeat first|apply wa1|apply wa2|apply wa3|apply wa4|apply wa5 rfl|apply wa6|apply wa7|(refine wb0 rfl fun R r=>?_;simp only[go_sem];with_reducible refine r _ _ ?_;clear r R)
    refine aw_callq (trim_fa zs hz (by omega)) rfl rfl rfl (by (try simp only[go_sem]); exact ⟨.c (lec_oslws (by simp only[go_sem]<;>rfl) (by omega) (by omega) (fun j _ => by rw [Nat.zero_add]; rfl)), trivial⟩) ?_
    (try simp only[go_sem])
    repeat first|apply wa1|apply wa2|apply wa3|apply wa4|apply wa5 rfl|apply wa6|apply wa7|(refine wb0 rfl fun R r=>?_;simp only[go_sem];with_reducible refine r _ _ ?_;clear r R)
    (refine aw_retq hC rfl fun R r=>?_;simp only[go_sem];refine r _ rfl ?_;clear r R)
    simp only [List.drop_zero] at hv
    have e1 : val xs / b = val zs := by rw [hv, Nat.mul_add_div hb0, Nat.div_eq_of_lt hr, Nat.add_zero]
    have e2 : val xs % b = r := by rw [hv, Nat.mul_add_mod, Nat.mod_eq_of_lt hr]
    rw [e1, e2, wrap_u32_nat, Nat.mod_eq_of_lt (by omega)]
    exact .tup ⟨.c ler_ws, .c (.int _ _), trivial⟩
end Go.Proofs.Ytmkomfdiggcloaa

/- Long division, in plain numbers: shifts, the estimate of a digit, one step, the end. -/
namespace Go.PN

theorem getD_replicate (n j : Nat) : (List.replicate n 0).getD j 0 = 0 := by
  rw [List.getD_eq_getElem?_getD, List.getElem?_replicate]; split <;> rfl
theorem two_pow_split {n : Nat} (hn : n ≤ 32) : (4294967296 : Nat) = 2 ^ n * 2 ^ (32 - n) := by
  rw [← Nat.pow_add, show n + (32 - n) = 32 from by omega]
theorem shl_mod (x n : Nat) (hn : n ≤ 32) : x * 2 ^ n % 4294967296 = 2 ^ n * (x % 2 ^ (32 - n)) := by
  rw [two_pow_split hn, Nat.mul_comm x, Nat.mul_mod_mul_left]
theorem or_low {z x n : Nat} (hn : n ≤ 32) (hz : z < 2 ^ n) : z ||| x * 2 ^ n % 4294967296 = z + x * 2 ^ n % 4294967296 := by
  rw [shl_mod x n hn, Nat.or_comm, ← Nat.two_pow_add_eq_or_of_lt hz, Nat.add_comm]
theorem or_low_lt {z x n : Nat} (hn : n ≤ 32) (hz : z < 2 ^ n) : z + x * 2 ^ n % 4294967296 < 4294967296 := by
  rw [shl_mod x n hn]
  have h1 : x % 2 ^ (32 - n) + 1 ≤ 2 ^ (32 - n) := Nat.mod_lt _ (Nat.two_pow_pos _)
  have h2 := Nat.mul_le_mul_left (2 ^ n) h1
  rw [← two_pow_split hn, Nat.mul_add] at h2
  omega
theorem shl_hi {x n : Nat} (hx : x < 4294967296) : x * 2 ^ n / 4294967296 < 2 ^ n := by
  rw [Nat.div_lt_iff_lt_mul (by omega), Nat.mul_comm (2 ^ n)]
  exact Nat.mul_lt_mul_of_pos_right hx (Nat.two_pow_pos _)

theorem left_step {xs zs : List Nat} {i n : Nat} (hi : i + 1 < zs.length) (h0 : zs.getD (i + 1) 0 = 0) (h : val zs = val (xs.take i) * 2 ^ n) :
    val ((zs.set i (zs.getD i 0 + xs.getD i 0 * 2 ^ n % 4294967296)).set (i + 1) (xs.getD i 0 * 2 ^ n / 4294967296)) = val (xs.take (i + 1)) * 2 ^ n := by
  have h1 := val_set (zs := zs) (j := i) (v := zs.getD i 0 + xs.getD i 0 * 2 ^ n % 4294967296) (by omega)
  have h2 := val_set (zs := zs.set i (zs.getD i 0 + xs.getD i 0 * 2 ^ n % 4294967296)) (j := i + 1) (v := xs.getD i 0 * 2 ^ n / 4294967296) (by simpa using hi)
  rw [getD_set_ne (by omega), h0] at h2
  rw [val_take_succ, Nat.add_mul, ← h]
  generalize hy : xs.getD i 0 * 2 ^ n = y at h1 h2 ⊢
  have h3 : 4294967296 ^ i * xs.getD i 0 * 2 ^ n = 4294967296 ^ i * y := by rw [Nat.mul_assoc, hy]
  have h4 : 4294967296 ^ i * y = 4294967296 ^ i * (y % 4294967296) + 4294967296 ^ (i + 1) * (y / 4294967296) := by
    rw [Nat.pow_succ, Nat.mul_assoc, ← Nat.mul_add]; congr 1; omega
  rw [Nat.mul_add] at h1
  rw [h3, h4]
  omega

/-- The words of a number shifted down. -/
def rgt (n : Nat) : List Nat → List Nat
  | [] => []
  | x :: xs => (x + xs.getD 0 0 * 4294967296) / 2 ^ n % 4294967296 :: rgt n xs
theorem rgt_length (n : Nat) : ∀ xs, (rgt n xs).length = xs.length
  | [] => rfl
  | _ :: xs => by simp [rgt, rgt_length n xs]
theorem rgt_getD (n : Nat) (xs : List Nat) : ∀ (i : Nat), i < xs.length → (rgt n xs).getD i 0 = (xs.getD i 0 + xs.getD (i + 1) 0 * 4294967296) / 2 ^ n % 4294967296 := by
  induction xs with
  | nil => intro i h; simp at h
  | cons x xs ih =>
    intro i h
    cases i with
    | zero => simp only [rgt, List.getD_cons_zero, List.getD_cons_succ]
    | succ i =>
      simp only [rgt, List.getD_cons_succ]
      exact ih i (by simpa using h)
theorem rgt_lt (n : Nat) (xs : List Nat) : ∀ x ∈ rgt n xs, x < 4294967296 := by
  induction xs with
  | nil => intro x h; simp [rgt] at h
  | cons y xs ih =>
    intro x h
    simp only [rgt, List.mem_cons] at h
    rcases h with h | h
    · rw [h]; exact Nat.mod_lt _ (by omega)
    · exact ih x h
theorem rgt_val {n : Nat} (hn : n ≤ 32) (xs : List Nat) : (∀ x ∈ xs, x < 4294967296) → val (rgt n xs) = val xs / 2 ^ n := by
  induction xs with
  | nil => intro _; simp [rgt, val]
  | cons x xs ih0 =>
    intro hx
    have ih := ih0 (fun y hy => hx y (List.mem_cons_of_mem _ hy))
    have hxx := hx x (by simp)
    have hV : val xs = xs.getD 0 0 + 4294967296 * val (xs.drop 1) := by have := val_drop xs 0; simpa using this
    simp only [rgt, val, ih]
    generalize hx' : xs.getD 0 0 = x' at hV ⊢
    generalize val (xs.drop 1) = r at hV
    generalize hVv : val xs = V at hV ⊢
    have hN : 0 < 2 ^ n := Nat.two_pow_pos n
    have hB := two_pow_split hn
    have hM : 0 < 2 ^ (32 - n) := Nat.two_pow_pos _
    generalize 2 ^ n = N at hN hB ⊢
    generalize 2 ^ (32 - n) = M at hB hM
    have e1 : x' % N = V % N := by rw [hV, hB, Nat.mul_assoc, Nat.add_mul_mod_self_left]
    have e2 : (x + x' * 4294967296) / N = (x + x' % N * 4294967296) / N + x' / N * 4294967296 := by
      have hq : x' = N * (x' / N) + x' % N := (Nat.div_add_mod x' N).symm
      have : x + x' * 4294967296 = (x + x' % N * 4294967296) + N * (x' / N * 4294967296) := by
        conv => lhs; rw [hq]
        rw [Nat.add_mul, Nat.mul_assoc]; omega
      rw [this, Nat.add_mul_div_left _ _ hN]
    have e3 : (x + 4294967296 * V) / N = (x + V % N * 4294967296) / N + V / N * 4294967296 := by
      have hq : V = N * (V / N) + V % N := (Nat.div_add_mod V N).symm
      have : x + 4294967296 * V = (x + V % N * 4294967296) + N * (V / N * 4294967296) := by
        conv => lhs; rw [hq]
        rw [Nat.mul_add, ← Nat.mul_assoc, Nat.mul_comm 4294967296 N, Nat.mul_assoc, Nat.mul_comm 4294967296 (V / N), Nat.mul_comm 4294967296 (V % N)]; omega
      rw [this, Nat.add_mul_div_left _ _ hN]
    have hs : (x + x' % N * 4294967296) / N < 4294967296 := by
      rw [Nat.div_lt_iff_lt_mul hN]
      have h1 : x' % N + 1 ≤ N := Nat.mod_lt _ hN
      have h2 := Nat.mul_le_mul_right 4294967296 h1
      rw [Nat.mul_comm 4294967296 N]
      omega
    rw [e2, Nat.add_mul_mod_self_right, Nat.mod_eq_of_lt hs, e3, e1]
    omega

/-- take: one word. -/
theorem take_step {us vs zs : List Nat} {i c b n : Nat} (hi : i < zs.length) (hu : us.getD i 0 < 4294967296) (hb : b ≤ 1) (h : val (zs.take i) + n * val (vs.take i) = val (us.take i) + 4294967296 ^ i * (c + b)) :
    val ((zs.set i (subD (us.getD i 0) ((c + n * vs.getD i 0) % 4294967296) b % 4294967296)).take (i + 1)) + n * val (vs.take (i + 1)) =
      val (us.take (i + 1)) + 4294967296 ^ (i + 1) * ((c + n * vs.getD i 0) / 4294967296 + subD (us.getD i 0) ((c + n * vs.getD i 0) % 4294967296) b / 9223372036854775808) ∧
      subD (us.getD i 0) ((c + n * vs.getD i 0) % 4294967296) b / 9223372036854775808 ≤ 1 := by
  rw [val_set_take hi, val_take_succ vs, val_take_succ us, Nat.mul_add, Nat.pow_succ]
  have e0 : n * (4294967296 ^ i * vs.getD i 0) = 4294967296 ^ i * (n * vs.getD i 0) := by rw [← Nat.mul_assoc, Nat.mul_comm n, Nat.mul_assoc]
  rw [e0]
  generalize hU : us.getD i 0 = u at *
  generalize hV : n * vs.getD i 0 = p at *
  generalize hP : 4294967296 ^ i = P at *
  have hm : (c + p) % 4294967296 < 4294967296 := Nat.mod_lt _ (by omega)
  have hdm := Nat.div_add_mod (c + p) 4294967296
  generalize (c + p) % 4294967296 = l at *
  generalize (c + p) / 4294967296 = q at *
  refine ⟨?_, by unfold subD; omega⟩
  have key : u + 4294967296 * (subD u l b / 9223372036854775808) = subD u l b % 4294967296 + l + b := by unfold subD; omega
  generalize subD u l b % 4294967296 = d at *
  generalize subD u l b / 9223372036854775808 = b' at *
  have k2 := congrArg (P * ·) key
  simp only [Nat.mul_add] at k2
  have k3 := congrArg (P * ·) hdm
  simp only [Nat.mul_add] at k3
  simp only [Nat.mul_add] at h ⊢
  rw [Nat.mul_assoc P 4294967296 q, Nat.mul_assoc P 4294967296 b']
  omega
theorem take_carry {c n y : Nat} (hc : c < 4294967296) (hn : n < 4294967296) (hy : y < 4294967296) : c + n * y < 18446744073709551616 ∧ (c + n * y) / 4294967296 < 4294967296 := by
  have := mul_bound hn hy
  omega

/-- THE ESTIMATE of a digit. W: the window; V: the divisor; D: what stands below the two top words. -/
theorem guess_down {V W D v1 v2 head w2 wr g rest : Nat} (hV : (v1 * 4294967296 + v2) * D ≤ V) (hW : W = (head * 4294967296 + w2) * D + wr) (hr : wr < D) (hg : g * v1 + rest = head) (hc : rest * 4294967296 + w2 < g * v2) : W < g * V := by
  have h1 : head * 4294967296 + w2 + 1 ≤ g * (v1 * 4294967296 + v2) := by
    rw [← hg, Nat.mul_add, ← Nat.mul_assoc, Nat.add_mul]; omega
  have h2 : (head * 4294967296 + w2 + 1) * D ≤ g * V := by
    refine Nat.le_trans (Nat.mul_le_mul_right D h1) ?_
    rw [Nat.mul_assoc]
    exact Nat.mul_le_mul_left g hV
  rw [Nat.add_mul, Nat.one_mul] at h2
  omega
theorem guess_up {V W D v1 v2 head w2 wr g rest vr : Nat} (hV : V = (v1 * 4294967296 + v2) * D + vr) (hvr : vr < D) (hv1 : 1 ≤ v1) (hW : W = (head * 4294967296 + w2) * D + wr) (hg : g * v1 + rest = head) (hlt : g < 4294967296) (hc : g * v2 ≤ rest * 4294967296 + w2) : g * V < W + V := by
  have h1 : g * (v1 * 4294967296 + v2) ≤ head * 4294967296 + w2 := by
    rw [← hg, Nat.mul_add, ← Nat.mul_assoc, Nat.add_mul]; omega
  have h2 : g * ((v1 * 4294967296 + v2) * D) ≤ (head * 4294967296 + w2) * D := by
    rw [← Nat.mul_assoc]; exact Nat.mul_le_mul_right D h1
  have h3 : g * vr ≤ 4294967296 * D := Nat.mul_le_mul (Nat.le_of_lt hlt) (Nat.le_of_lt hvr)
  have h4 : 4294967296 * D ≤ (v1 * 4294967296 + v2) * D := Nat.mul_le_mul_right D (by omega)
  have hD : 0 < D := by omega
  have h5 : g * vr < 4294967296 * D ∨ D = 0 := by
    rcases Nat.eq_zero_or_pos g with h | h
    · subst h; left; omega
    · left
      have : g * vr < g * D := Nat.mul_lt_mul_of_pos_left hvr h
      have h6 : g * D ≤ 4294967296 * D := Nat.mul_le_mul_right D (Nat.le_of_lt hlt)
      omega
  have h7 : g * V = g * ((v1 * 4294967296 + v2) * D) + g * vr := by rw [hV, Nat.mul_add]
  omega
theorem guess_small {v1 head u1 g rest : Nat} (hh : head ≤ v1 * 4294967296 + u1) (hu : u1 < 4294967296) (hg : g * v1 + rest = head) (hr : 4294967296 ≤ rest) : g < 4294967296 := by
  rcases Nat.lt_or_ge g 4294967296 with h | h
  · exact h
  · have h2 := Nat.mul_le_mul_right v1 h
    rw [Nat.mul_comm 4294967296 v1] at h2
    omega


/-- A window of a number, replaced. -/
def win (ys : List Nat) (off : Nat) (zs : List Nat) : List Nat := ys.take off ++ (zs ++ ys.drop (off + zs.length))
theorem win_length {ys zs : List Nat} {off : Nat} (h : off + zs.length ≤ ys.length) : (win ys off zs).length = ys.length := by
  simp [win]; omega
theorem win_getD {ys zs : List Nat} {off i : Nat} (h : off ≤ ys.length) (hi : i < zs.length) : (win ys off zs).getD (off + i) 0 = zs.getD i 0 := by
  unfold win
  rw [List.getD_eq_getElem?_getD, List.getElem?_append_right (by simp; omega), List.getElem?_append_left (by simp; omega), List.getD_eq_getElem?_getD]
  congr 2; simp; omega
theorem win_set {ys zs : List Nat} {off i v : Nat} (h : off ≤ ys.length) (hi : i < zs.length) : (win ys off zs).set (off + i) v = win ys off (zs.set i v) := by
  unfold win
  rw [List.set_append, if_neg (by simp; omega), List.set_append, if_pos (by simp; omega)]
  simp only [List.length_set, List.length_take]
  rw [show off + i - min off ys.length = i from by omega]
theorem win_self {ys : List Nat} {off L : Nat} (h : off + L ≤ ys.length) : win ys off ((ys.drop off).take L) = ys := by
  unfold win
  rw [show off + ((ys.drop off).take L).length = off + L from by simp; omega, ← List.drop_drop, List.take_append_drop, List.take_append_drop]
theorem val_win {ys zs : List Nat} {off : Nat} (h : off ≤ ys.length) : val (win ys off zs) = val (ys.take off) + 4294967296 ^ off * (val zs + 4294967296 ^ zs.length * val (ys.drop (off + zs.length))) := by
  unfold win
  rw [val_append, val_append, List.length_take, Nat.min_eq_left h]
theorem win_lt {ys zs : List Nat} {off : Nat} (hy : ∀ x ∈ ys, x < 4294967296) (hz : ∀ x ∈ zs, x < 4294967296) : ∀ x ∈ win ys off zs, x < 4294967296 := fun x hx => by
  unfold win at hx
  simp only [List.mem_append] at hx
  rcases hx with h | h | h
  · exact hy x (List.mem_of_mem_take h)
  · exact hz x h
  · exact hy x (List.mem_of_mem_drop h)
end Go.PN

/- natural: left, right. -/
namespace Go.Proofs.Ytmkomfdiggcloaa
open Go.AI Go.PN
attribute [local irreducible] aw Fa Fh DrK
set_option maxHeartbeats 1600000 in
theorem left_fh (xs : List Nat) (n : Nat) (hx : ∀ x ∈ xs, x < 4294967296) (hlx : xs.length ≤ 68719476736) (hn : n < 32) :
    Fh Try.prog 98 [] [.c (ws false xs), .c (.int .i64 n)] (fun r h => ∃ g zs, r = .c (.osl g 1 0 (xs.length + 1)) ∧ h = [(g, .cells 85 (xs.length + 1) (wf zs))] ∧ zs.length = xs.length + 1 ∧ (∀ y ∈ zs, y < 4294967296) ∧ val zs = val xs * 2 ^ n) := by
  refine fh_of_body Try.func98 rfl rfl (by simp [Try.ntmps98]) fun C hC => ?_
  simp only [initS, Nat.reduceAdd]
  repeat first|apply wa1|apply wa2|apply wa3|apply wa4|apply wa5 rfl|apply wa6|apply wa7|(refine wb0 rfl fun R r=>?_;simp only[go_sem];with_reducible refine r _ _ ?_;clear r R)
  refine aw_make (n := xs.length + 1) (c := xs.length + 1) rfl rfl rfl ty_e_ws ty_z_u32 rfl (by omega) (by simp only[go_sem]<;>rfl) (by simp only[go_sem]<;>rfl) rfl rfl (by omega) (by omega) (by omega) fun g hg => ?_
  rw [make_wf (xs.length + 1)]
  (try simp only[go_sem])
  repeat first|apply wa1|apply wa2|apply wa3|apply wa4|apply wa5 rfl|apply wa6|apply wa7|(refine wb0 rfl fun R r=>?_;simp only[go_sem];with_reducible refine r _ _ ?_;clear r R)
  refine aw_lp (fun x : Nat × List Nat => [(0, .c (ws false xs)), (1, .c (.int .i64 n)), (5, .c (.osl g 1 0 (xs.length + 1))), (13, .c (ws false xs)), (14, .c (.int .i64 xs.length)), (15, .c (.int .i64 x.1))]) (fun x => [(g, .cells 85 (xs.length + 1) (wf x.2))])
    (fun x => x.1 ≤ xs.length ∧ x.2.length = xs.length + 1 ∧ (∀ y ∈ x.2, y < 4294967296) ∧ x.2.getD x.1 0 < 2 ^ n ∧ (∀ j, x.1 < j → x.2.getD j 0 = 0) ∧ val x.2 = val (xs.take x.1) * 2 ^ n) (fun x => xs.length - x.1) (0, List.replicate (xs.length + 1) 0) (by simp only[go_sem]<;>and_intros<;>first|exact True.intro|(with_reducible rfl)|exact c_int (by omega)|rfl) (List.Sublist.refl _)
    ⟨by omega, by simp, replicate_lt _, by rw [getD_replicate]; exact Nat.two_pow_pos n, fun j _ => getD_replicate _ _, by simp [val_replicate, val]⟩ ?_
  rintro ⟨i, zs⟩ ⟨hi, hzl, hz, hlow, hhi, hv⟩
  dsimp only at hi hzl hz hlow hhi hv ⊢
  repeat first|apply wa1|apply wa2|apply wa3|apply wa4|apply wa5 rfl|apply wa6|apply wa7|(refine wb0 rfl fun R r=>?_;simp only[go_sem];with_reducible refine r _ _ ?_;clear r R)
  refine aw_cond (by simp only[go_sem]<;>rfl) (fun hb1 => ?_) (fun hb1 => ?_)
  · have hi1 : i < xs.length := by have := of_decide_eq_true hb1; omega
    have hxi := getD_lt hx i
    repeat first|apply wa1|apply wa2|apply wa3|apply wa4|apply wa5 rfl|apply wa6|apply wa7|(refine wb0 rfl fun R r=>?_;simp only[go_sem];with_reducible refine r _ _ ?_;clear r R)
    rw [shl_u64 _ n hxi (by omega)]
    repeat first|apply wa1|apply wa2|apply wa3|apply wa4|apply wa5 rfl|apply wa6|apply wa7|(refine wb0 rfl fun R r=>?_;simp only[go_sem];with_reducible refine r _ _ ?_;clear r R)
    have hml : xs.getD i 0 * 2 ^ n % 4294967296 < 4294967296 := Nat.mod_lt _ (by omega)
    rw [wrap_u32_nat, or_u32 _ _ (by have := getD_lt hz i; omega) hml, or_low (by omega) hlow]
    have hvl := or_low_lt (x := xs.getD i 0) (by omega) hlow
    have hst := left_step (xs := xs) (zs := zs) (i := i) (n := n) (by omega) (hhi _ (by omega)) hv
    have hhl := shl_hi (n := n) hxi
    have hp32 : 2 ^ n ≤ 4294967296 := pow_lt_32 (by omega)
    refine aw_store rfl rfl rfl rfl (by simp only[go_sem]<;>rfl) (by simp only[go_sem]<;>rfl) (by simp only[go_sem]<;>rfl) (by simp only[go_sem]<;>rfl) (fun _ e => by cases e) (by rfl) (by rfl) (by first|omega|simp) rfl ?_
    (try simp only[go_sem])
    rw [updF_wf (by omega)]
    repeat first|apply wa1|apply wa2|apply wa3|apply wa4|apply wa5 rfl|apply wa6|apply wa7|(refine wb0 rfl fun R r=>?_;simp only[go_sem];with_reducible refine r _ _ ?_;clear r R)
    rw [nat_div_32, wrap_u32_nat, Nat.mod_eq_of_lt (show xs.getD i 0 * 2 ^ n / 4294967296 < 4294967296 from by omega)]
    refine aw_store rfl rfl rfl rfl (by simp only[go_sem]<;>rfl) (by simp only[go_sem]<;>rfl) (by simp only[go_sem]<;>rfl) (by simp only[go_sem]<;>rfl) (fun _ e => by cases e) (by rfl) (by rfl) (by first|omega|simp) rfl ?_
    (try simp only[go_sem])
    rw [updF_wf (by simp; omega)]
    repeat first|apply wa1|apply wa2|apply wa3|apply wa4|apply wa5 rfl|apply wa6|apply wa7|(refine wb0 rfl fun R r=>?_;simp only[go_sem];with_reducible refine r _ _ ?_;clear r R)
    refine aw_stop ⟨(i + 1, _), by dsimp only; omega, (by simp only[go_sem]<;>and_intros<;>first|exact True.intro|(with_reducible rfl)|exact c_int (by omega)|rfl), (List.Sublist.refl _), by dsimp only; omega, by simpa using hzl, set_lt (set_lt hz hvl) (by omega), ?_, fun j hj => ?_, hst⟩
    · dsimp only
      rw [PN.getD_set (by simp; omega)]; exact hhl
    · dsimp only at hj ⊢
      rw [PN.getD_set_ne (by omega), PN.getD_set_ne (by omega)]; exact hhi j (by omega)
  · have hi1 : i = xs.length := by have := of_decide_eq_false hb1; omega
    subst hi1
    repeat first|apply wa1|apply wa2|apply wa3|apply wa4|apply wa5 rfl|apply wa6|apply wa7|(refine wb0 rfl fun R r=>?_;simp only[go_sem];with_reducible refine r _ _ ?_;clear r R)
    (refine aw_rethq rfl fun R r=>?_;simp only[go_sem];refine r _ rfl ?_;clear r R)
    exact ⟨g, zs, rfl, rfl, hzl, hz, by rw [hv, List.take_length]⟩

set_option maxHeartbeats 1600000 in
theorem right_fa (xs : List Nat) (n : Nat) (hx : ∀ x ∈ xs, x < 4294967296) (hlx : xs.length ≤ 68719476738) (hn : n < 32) :
    Fa Try.prog 101 [.c (ws false xs), .c (.int .i64 n)] (.c (ws true (rgt n xs))) := by
  refine fa_of_body Try.func101 rfl rfl (by simp [Try.ntmps101]) fun C hC => ?_
  simp only [initS, Nat.reduceAdd]
  repeat first|apply wa1|apply wa2|apply wa3|apply wa4|apply wa5 rfl|apply wa6|apply wa7|(refine wb0 rfl fun R r=>?_;simp only[go_sem];with_reducible refine r _ _ ?_;clear r R)
  refine aw_make (n := xs.length) (c := xs.length) rfl rfl rfl ty_e_ws ty_z_u32 rfl (by omega) (by simp only[go_sem]<;>rfl) (by simp only[go_sem]<;>rfl) rfl rfl (by omega) (by omega) (by omega) fun g hg => ?_
  rw [make_wf xs.length]
  (try simp only[go_sem])
  repeat first|apply wa1|apply wa2|apply wa3|apply wa4|apply wa5 rfl|apply wa6|apply wa7|(refine wb0 rfl fun R r=>?_;simp only[go_sem];with_reducible refine r _ _ ?_;clear r R)
  refine aw_lp (fun x : Nat × List Nat => [(0, .c (ws false xs)), (1, .c (.int .i64 n)), (5, .c (.osl g 1 0 xs.length)), (11, .c (.int .i64 xs.length)), (12, .c (.int .i64 x.1))]) (fun x => [(g, .cells 85 xs.length (wf x.2))])
    (fun x => x.1 ≤ xs.length ∧ x.2.length = xs.length ∧ (∀ j, j < x.1 → x.2.getD j 0 = (rgt n xs).getD j 0)) (fun x => xs.length - x.1) (0, List.replicate xs.length 0) (by simp only[go_sem]<;>and_intros<;>first|exact True.intro|(with_reducible rfl)|exact c_int (by omega)|rfl) (List.Sublist.refl _)
    ⟨by omega, by simp, fun j hj => by dsimp only at hj; omega⟩ ?_
  rintro ⟨i, zs⟩ ⟨hi, hzl, hv⟩
  dsimp only at hi hzl hv ⊢
  repeat first|apply wa1|apply wa2|apply wa3|apply wa4|apply wa5 rfl|apply wa6|apply wa7|(refine wb0 rfl fun R r=>?_;simp only[go_sem];with_reducible refine r _ _ ?_;clear r R)
  refine aw_cond (by simp only[go_sem]<;>rfl) (fun hb1 => ?_) (fun hb1 => ?_)
  · have hi1 : i < xs.length := by have := of_decide_eq_true hb1; omega
    have hxi := getD_lt hx i
    have hxj := getD_lt hx (i + 1)
    repeat first|apply wa1|apply wa2|apply wa3|apply wa4|apply wa5 rfl|apply wa6|apply wa7|(refine wb0 rfl fun R r=>?_;simp only[go_sem];with_reducible refine r _ _ ?_;clear r R)
    refine aw_callq (word_fa xs i hx) rfl rfl rfl (by first|exact True.intro|simp only[go_sem]<;>and_intros<;>first|exact True.intro|exact .c (.refl _)|exact .c wl2|exact .agg (lel_refl _)|exact .agg (by simp only[LeL];and_intros<;>first|exact True.intro|exact .refl _|exact wl2)|exact .c .nils) ?_
    (try simp only[go_sem])
    repeat first|apply wa1|apply wa2|apply wa3|apply wa4|apply wa5 rfl|apply wa6|apply wa7|(refine wb0 rfl fun R r=>?_;simp only[go_sem];with_reducible refine r _ _ ?_;clear r R)
    refine aw_callq (word_fa xs (i + 1) hx) rfl rfl rfl (by first|exact True.intro|simp only[go_sem]<;>and_intros<;>first|exact True.intro|exact .c (.refl _)|exact .c wl2|exact .agg (lel_refl _)|exact .agg (by simp only[LeL];and_intros<;>first|exact True.intro|exact .refl _|exact wl2)|exact .c .nils) ?_
    (try simp only[go_sem])
    repeat first|apply wa1|apply wa2|apply wa3|apply wa4|apply wa5 rfl|apply wa6|apply wa7|(refine wb0 rfl fun R r=>?_;simp only[go_sem];with_reducible refine r _ _ ?_;clear r R)
    rw [shl_u64_32 _ hxj, or_u64_join' _ _ hxj hxi]
    repeat first|apply wa1|apply wa2|apply wa3|apply wa4|apply wa5 rfl|apply wa6|apply wa7|(refine wb0 rfl fun R r=>?_;simp only[go_sem];with_reducible refine r _ _ ?_;clear r R)
    rw [shr_u64 _ n (by omega), wrap_u32_nat]
    have hr := rgt_getD n xs i hi1
    rw [Nat.add_comm (xs.getD i 0)] at hr
    refine aw_store rfl rfl rfl rfl (by simp only[go_sem]<;>rfl) (by simp only[go_sem]<;>rfl) (by simp only[go_sem]<;>rfl) (by simp only[go_sem]<;>rfl) (fun _ e => by cases e) (by rfl) (by rfl) (by first|omega|simp) rfl ?_
    (try simp only[go_sem])
    rw [updF_wf (by omega)]
    repeat first|apply wa1|apply wa2|apply wa3|apply wa4|apply wa5 rfl|apply wa6|apply wa7|(refine wb0 rfl fun R r=>?_;simp only[go_sem];with_reducible refine r _ _ ?_;clear r R)
    refine aw_stop ⟨(i + 1, _), by dsimp only; omega, (by simp only[go_sem]<;>and_intros<;>first|exact True.intro|(with_reducible rfl)|exact c_int (by omega)|rfl), (List.Sublist.refl _), by dsimp only; omega, by simpa using hzl, fun j hj => ?_⟩
    dsimp only at hj ⊢
    by_cases e : j = i
    · rw [e, PN.getD_set (by omega), hr]
    · rw [PN.getD_set_ne (by omega)]; exact hv j (by omega)
  · have hi1 : i = xs.length := by have := of_decide_eq_false hb1; omega
    subst hi1
    repeat first|apply wa1|apply wa2|apply wa3|apply wa4|apply wa5 rfl|apply wa6|apply wa7|(refine wb0 rfl fun R r=>?_;simp only[go_sem];with_reducible refine r _ _ ?_;clear r R)
    (refine aw_retq hC rfl fun R r=>?_;simp only[go_sem];refine r _ rfl ?_;clear r R)
    refine .one (.c (ler_oslws (by simp only[go_sem]<;>rfl) (by omega) (rgt_length n xs).symm (fun j hj => ?_)))
    rw [Nat.zero_add, wf_at, hv j hj]
end Go.Proofs.Ytmkomfdiggcloaa

/- natural: take, give. -/
namespace Go.Proofs.Ytmkomfdiggcloaa
open Go.AI Go.PN
attribute [local irreducible] aw Fa Fh DrK
set_option maxHeartbeats 1600000 in
theorem take_fh (g off L n : Nat) (ys us vs : List Nat) (hus : us = (ys.drop off).take L) (hL : off + L ≤ ys.length) (hy : ∀ x ∈ ys, x < 4294967296) (hv : ∀ x ∈ vs, x < 4294967296) (hly : ys.length ≤ 68719476738) (hn : n < 4294967296) (hvl : vs.length < L) :
    Fh Try.prog 99 [(g, .cells 85 ys.length (wf ys))] [.c (.osl g 1 off L), .c (ws false vs), .c (.int .u64 n)]
      (fun r h => ∃ (b : Nat) (zs : List Nat), r = .c (.bool ((b : Int) == 1)) ∧ h = [(g, .cells 85 ys.length (wf (win ys off zs)))] ∧ zs.length = L ∧ (∀ y ∈ zs, y < 4294967296) ∧ b ≤ 1 ∧ val zs + n * val vs = val us + 4294967296 ^ L * b) := by
  refine fh_of_body Try.func99 rfl rfl (by simp [Try.ntmps99]) fun C hC => ?_
  have hu : ∀ x ∈ us, x < 4294967296 := fun x hx => hy x (List.mem_of_mem_drop (List.mem_of_mem_take (hus ▸ hx)))
  have hul : us.length = L := by rw [hus]; simp; omega
  have hself : win ys off us = ys := by rw [hus]; exact win_self hL
  simp only [initS, Nat.reduceAdd]
  repeat first|apply wa1|apply wa2|apply wa3|apply wa4|apply wa5 rfl|apply wa6|apply wa7|(refine wb0 rfl fun R r=>?_;simp only[go_sem];with_reducible refine r _ _ ?_;clear r R)
  refine aw_lp (fun x : Nat × Nat × Nat × List Nat => [(0, .c (.osl g 1 off L)), (1, .c (ws false vs)), (2, .c (.int .u64 n)), (7, .c (.int .u64 x.2.1)), (8, .c (.int .u64 x.2.2.1)), (12, .c (.int .i64 L)), (13, .c (.int .i64 x.1))]) (fun x => [(g, .cells 85 ys.length (wf (win ys off x.2.2.2)))])
    (fun x => x.1 ≤ L ∧ x.2.1 < 4294967296 ∧ x.2.2.1 ≤ 1 ∧ x.2.2.2.length = L ∧ (∀ y ∈ x.2.2.2, y < 4294967296) ∧ (∀ j, x.1 ≤ j → x.2.2.2.getD j 0 = us.getD j 0) ∧ (vs.length < x.1 → x.2.1 = 0) ∧ val (x.2.2.2.take x.1) + n * val (vs.take x.1) = val (us.take x.1) + 4294967296 ^ x.1 * (x.2.1 + x.2.2.1)) (fun x => L - x.1) (0, 0, 0, us) (by simp only[go_sem]<;>and_intros<;>first|exact True.intro|(with_reducible rfl)|exact c_int (by omega)|rfl) (by rw [hself]; exact (List.Sublist.refl _))
    ⟨Nat.zero_le _, by simp, Nat.zero_le _, hul, hu, fun _ _ => rfl, fun _ => rfl, by simp [val]⟩ ?_
  rintro ⟨i, c, b, zs⟩ ⟨hi, hc, hbb, hzl, hz, hsame, hc0, hval⟩
  dsimp only at hi hc hbb hzl hz hsame hc0 hval ⊢
  repeat first|apply wa1|apply wa2|apply wa3|apply wa4|apply wa5 rfl|apply wa6|apply wa7|(refine wb0 rfl fun R r=>?_;simp only[go_sem];with_reducible refine r _ _ ?_;clear r R)
  refine aw_cond (by simp only[go_sem]<;>rfl) (fun hb => ?_) (fun hb => ?_)
  · have hin : i < L := by have := of_decide_eq_true hb; omega
    have hui := getD_lt hu i
    have hvi := getD_lt hv i
    have hwi : (win ys off zs).getD (off + i) 0 = us.getD i 0 := by rw [win_getD (by omega) (by omega), hsame i (Nat.le_refl _)]
    obtain ⟨hcl, hcq⟩ := take_carry hc hn hvi
    repeat first|apply wa1|apply wa2|apply wa3|apply wa4|apply wa5 rfl|apply wa6|apply wa7|(refine wb0 rfl fun R r=>?_;simp only[go_sem];with_reducible refine r _ _ ?_;clear r R)
    refine aw_callq (word_fa vs i hv) rfl rfl rfl (by first|exact True.intro|simp only[go_sem]<;>and_intros<;>first|exact True.intro|exact .c (.refl _)|exact .c wl2|exact .agg (lel_refl _)|exact .agg (by simp only[LeL];and_intros<;>first|exact True.intro|exact .refl _|exact wl2)|exact .c .nils) ?_
    (try simp only[go_sem])
    repeat first|apply wa1|apply wa2|apply wa3|apply wa4|apply wa5 rfl|apply wa6|apply wa7|(refine wb0 rfl fun R r=>?_;simp only[go_sem];with_reducible refine r _ _ ?_;clear r R)
    obtain ⟨st1, st2⟩ := take_step (zs := zs) (n := n) (vs := vs) (by omega) hui hbb hval
    have hT : (c : Int) + (n : Int) * ((vs.getD i 0 : Nat) : Int) = ((c + n * vs.getD i 0 : Nat) : Int) := by rw [Int.natCast_add, Int.natCast_mul]
    have hc2 : vs.length < i + 1 → (c + n * vs.getD i 0) / 4294967296 = 0 := fun hlt => by rw [getD_ge (by omega)]; omega
    rw [hwi, hT]
    generalize c + n * vs.getD i 0 = T at hcl hcq st1 st2 hc2 ⊢
    have hTm : T % 4294967296 < 4294967296 := Nat.mod_lt _ (by omega)
    rw [wrap_u32_nat]
    (refine wb0 rfl fun R r=>?_;simp only[go_sem];with_reducible refine r _ _ ?_;clear r R)
    (refine aw_1q false rfl (fun R hR => ?_); simp only [go_sem]; (with_reducible refine hR _ _ ?_ ?_); (focus (((try simp only [inRange]) <;> and_intros <;> first | exact True.intro | omega | trivial); done)); clear hR R)
    (refine wb0 rfl fun R r=>?_;simp only[go_sem];with_reducible refine r _ _ ?_;clear r R)
    (refine aw_1q false rfl (fun R hR => ?_); simp only [go_sem]; (with_reducible refine hR _ _ ?_ ?_); (focus (((try simp only [inRange]) <;> and_intros <;> first | exact True.intro | omega | trivial); done)); clear hR R)
    rw [wrap_subD hui hTm hbb]
    generalize subD (us.getD i 0) (T % 4294967296) b = D at st1 st2 ⊢
    obtain ⟨v, b2, e1, e2, hvl, st⟩ : ∃ v b2 : Nat, wrapZ .u32 (D : Int) = (v : Int) ∧ shrZ .u64 (D : Int) 63 = (b2 : Int) ∧ v < 4294967296 ∧ (val ((zs.set i v).take (i + 1)) + n * val (vs.take (i + 1)) = val (us.take (i + 1)) + 4294967296 ^ (i + 1) * (T / 4294967296 + b2) ∧ b2 ≤ 1) :=
      ⟨_, _, wrap_u32_nat D, shr63_nat D, Nat.mod_lt _ (by omega), st1, st2⟩
    clear st1 st2
    repeat first|apply wa1|apply wa2|apply wa3|apply wa4|apply wa5 rfl|apply wa6|apply wa7|(refine wb0 rfl fun R r=>?_;simp only[go_sem];with_reducible refine r _ _ ?_;clear r R)
    rw [e1]
    refine aw_store rfl rfl rfl rfl (by simp only[go_sem]<;>rfl) (by simp only[go_sem]<;>rfl) (by simp only[go_sem]<;>rfl) (by simp only[go_sem]<;>rfl) (fun _ e => by cases e) (by rfl) (by rfl) (by first|omega|simp) rfl ?_
    (try simp only[go_sem])
    rw [updF_wf (by rw [win_length (by omega)]; omega), win_set (by omega) (by omega)]
    repeat first|apply wa1|apply wa2|apply wa3|apply wa4|apply wa5 rfl|apply wa6|apply wa7|(refine wb0 rfl fun R r=>?_;simp only[go_sem];with_reducible refine r _ _ ?_;clear r R)
    rw [e2, nat_div_32]
    refine aw_stop ⟨(i + 1, T / 4294967296, b2, zs.set i v), by dsimp only; omega, (by simp only[go_sem]<;>and_intros<;>first|exact True.intro|(with_reducible rfl)|exact c_int (by omega)|rfl), (List.Sublist.refl _), by dsimp only; omega, hcq, st.2, by simpa using hzl, set_lt hz hvl, fun j hj => ?_, hc2, st.1⟩
    dsimp only at hj ⊢
    rw [PN.getD_set_ne (by omega)]; exact hsame j (by omega)
  · have hin : i = L := by have := of_decide_eq_false hb; omega
    subst hin
    repeat first|apply wa1|apply wa2|apply wa3|apply wa4|apply wa5 rfl|apply wa6|apply wa7|(refine wb0 rfl fun R r=>?_;simp only[go_sem];with_reducible refine r _ _ ?_;clear r R)
    (refine aw_rethq rfl fun R r=>?_;simp only[go_sem];refine r _ rfl ?_;clear r R)
    rw [hc0 hvl, List.take_of_length_le (show zs.length ≤ i from by omega), List.take_of_length_le (show vs.length ≤ i from by omega), List.take_of_length_le (show us.length ≤ i from by omega), Nat.zero_add] at hval
    exact ⟨b, zs, rfl, rfl, hzl, hz, hbb, hval⟩

set_option maxHeartbeats 1600000 in
theorem give_fh (g off L : Nat) (ys us vs : List Nat) (hus : us = (ys.drop off).take L) (hL : off + L ≤ ys.length) (hy : ∀ x ∈ ys, x < 4294967296) (hv : ∀ x ∈ vs, x < 4294967296) (hly : ys.length ≤ 68719476738) (hvl : vs.length < L) :
    Fh Try.prog 100 [(g, .cells 85 ys.length (wf ys))] [.c (.osl g 1 off L), .c (ws false vs)]
      (fun r h => ∃ (c : Nat) (zs : List Nat), r = .tup [] ∧ h = [(g, .cells 85 ys.length (wf (win ys off zs)))] ∧ zs.length = L ∧ (∀ y ∈ zs, y < 4294967296) ∧ val zs + 4294967296 ^ L * c = val us + val vs) := by
  refine fh_of_body Try.func100 rfl rfl (by simp [Try.ntmps100]) fun C hC => ?_
  have hu : ∀ x ∈ us, x < 4294967296 := fun x hx => hy x (List.mem_of_mem_drop (List.mem_of_mem_take (hus ▸ hx)))
  have hul : us.length = L := by rw [hus]; simp; omega
  have hself : win ys off us = ys := by rw [hus]; exact win_self hL
  simp only [initS, Nat.reduceAdd]
  repeat first|apply wa1|apply wa2|apply wa3|apply wa4|apply wa5 rfl|apply wa6|apply wa7|(refine wb0 rfl fun R r=>?_;simp only[go_sem];with_reducible refine r _ _ ?_;clear r R)
  refine aw_lp (fun x : Nat × Nat × List Nat => [(0, .c (.osl g 1 off L)), (1, .c (ws false vs)), (4, .c (.int .u64 x.2.1)), (7, .c (.int .i64 L)), (8, .c (.int .i64 x.1))]) (fun x => [(g, .cells 85 ys.length (wf (win ys off x.2.2)))])
    (fun x => x.1 ≤ L ∧ x.2.1 ≤ 1 ∧ x.2.2.length = L ∧ (∀ y ∈ x.2.2, y < 4294967296) ∧ (∀ j, x.1 ≤ j → x.2.2.getD j 0 = us.getD j 0) ∧ val (x.2.2.take x.1) + 4294967296 ^ x.1 * x.2.1 = val (us.take x.1) + val (vs.take x.1)) (fun x => L - x.1) (0, 0, us) (by simp only[go_sem]<;>and_intros<;>first|exact True.intro|(with_reducible rfl)|exact c_int (by omega)|rfl) (by rw [hself]; exact (List.Sublist.refl _))
    ⟨Nat.zero_le _, Nat.zero_le _, hul, hu, fun _ _ => rfl, by simp [val]⟩ ?_
  rintro ⟨i, c, zs⟩ ⟨hi, hc, hzl, hz, hsame, hval⟩
  dsimp only at hi hc hzl hz hsame hval ⊢
  repeat first|apply wa1|apply wa2|apply wa3|apply wa4|apply wa5 rfl|apply wa6|apply wa7|(refine wb0 rfl fun R r=>?_;simp only[go_sem];with_reducible refine r _ _ ?_;clear r R)
  refine aw_cond (by simp only[go_sem]<;>rfl) (fun hb => ?_) (fun hb => ?_)
  · have hin : i < L := by have := of_decide_eq_true hb; omega
    have hui := getD_lt hu i
    have hvi := getD_lt hv i
    have hwi : (win ys off zs).getD (off + i) 0 = us.getD i 0 := by rw [win_getD (by omega) (by omega), hsame i (Nat.le_refl _)]
    repeat first|apply wa1|apply wa2|apply wa3|apply wa4|apply wa5 rfl|apply wa6|apply wa7|(refine wb0 rfl fun R r=>?_;simp only[go_sem];with_reducible refine r _ _ ?_;clear r R)
    refine aw_dr 12 ty_mixed (by kernel_rfl) ?_
    (refine wd0 rfl fun R r=>?_;simp only[go_sem];with_reducible refine r _ _ ?_;clear r R)
    (refine wd0 rfl fun R r=>?_;simp only[go_sem];with_reducible refine r _ _ ?_;clear r R)
    (refine wd0 rfl fun R r=>?_;simp only[go_sem];with_reducible refine r _ _ ?_;clear r R)
    (refine wd0 rfl fun R r=>?_;simp only[go_sem];with_reducible refine r _ _ ?_;clear r R)
    (refine wd0 rfl fun R r=>?_;simp only[go_sem];with_reducible refine r _ _ ?_;clear r R)
    rw [hwi]
    repeat first|apply wa1|apply wa2|apply wa3|apply wa4|apply wa5 rfl|apply wa6|apply wa7|(refine wb0 rfl fun R r=>?_;simp only[go_sem];with_reducible refine r _ _ ?_;clear r R)|apply wa8|(refine wd0 rfl fun R r=>?_;simp only[go_sem];with_reducible refine r _ _ ?_;clear r R)
    refine drk_call (word_fa vs i hv) rfl rfl rfl (by first|exact True.intro|simp only[go_sem]<;>and_intros<;>first|exact True.intro|exact .c (.refl _)|exact .c wl2|exact .agg (lel_refl _)|exact .agg (by simp only[LeL];and_intros<;>first|exact True.intro|exact .refl _|exact wl2)|exact .c .nils) ?_
    (try simp only[go_sem])
    repeat first|apply wa1|apply wa2|apply wa3|apply wa4|apply wa5 rfl|apply wa6|apply wa7|(refine wb0 rfl fun R r=>?_;simp only[go_sem];with_reducible refine r _ _ ?_;clear r R)|apply wa8|(refine wd0 rfl fun R r=>?_;simp only[go_sem];with_reducible refine r _ _ ?_;clear r R)
    have ew : wrapZ .u32 ((c : Int) + (((us.getD i 0 : Nat) : Int) + ((vs.getD i 0 : Nat) : Int))) = (((c + (us.getD i 0 + vs.getD i 0)) % 4294967296 : Nat) : Int) := by rw [wrapZ_eq, IntKind.wrap_u32]; omega
    rw [ew]
    refine aw_store rfl rfl rfl rfl (by simp only[go_sem]<;>rfl) (by simp only[go_sem]<;>rfl) (by simp only[go_sem]<;>rfl) (by simp only[go_sem]<;>rfl) (fun _ e => by cases e) (by rfl) (by rfl) (by first|omega|simp) rfl ?_
    (try simp only[go_sem])
    rw [updF_wf (by rw [win_length (by omega)]; omega), win_set (by omega) (by omega)]
    repeat first|apply wa1|apply wa2|apply wa3|apply wa4|apply wa5 rfl|apply wa6|apply wa7|(refine wb0 rfl fun R r=>?_;simp only[go_sem];with_reducible refine r _ _ ?_;clear r R)|apply wa8|(refine wd0 rfl fun R r=>?_;simp only[go_sem];with_reducible refine r _ _ ?_;clear r R)
    refine aw_stop ⟨(i + 1, (c + (us.getD i 0 + vs.getD i 0)) / 4294967296, zs.set i ((c + (us.getD i 0 + vs.getD i 0)) % 4294967296)), by dsimp only; omega, (by simp only[go_sem]<;>and_intros<;>first|exact True.intro|(with_reducible rfl)|exact c_int (by omega)|rfl), (List.Sublist.refl _), by dsimp only; omega, by dsimp only; omega, by simpa using hzl, set_lt hz (by omega), fun j hj => ?_, add_step (by omega) hval⟩
    dsimp only at hj ⊢
    rw [PN.getD_set_ne (by omega)]; exact hsame j (by omega)
  · have hin : i = L := by have := of_decide_eq_false hb; omega
    subst hin
    repeat first|apply wa1|apply wa2|apply wa3|apply wa4|apply wa5 rfl|apply wa6|apply wa7|(refine wb0 rfl fun R r=>?_;simp only[go_sem];with_reducible refine r _ _ ?_;clear r R)
    (refine aw_endhq rfl fun R r=>?_;simp only[go_sem];refine r _ rfl ?_;clear r R)
    rw [List.take_of_length_le (show zs.length ≤ i from by omega), List.take_of_length_le (show vs.length ≤ i from by omega), List.take_of_length_le (show us.length ≤ i from by omega)] at hval
    exact ⟨c, zs, rfl, rfl, hzl, hz, hval⟩
end Go.Proofs.Ytmkomfdiggcloaa
