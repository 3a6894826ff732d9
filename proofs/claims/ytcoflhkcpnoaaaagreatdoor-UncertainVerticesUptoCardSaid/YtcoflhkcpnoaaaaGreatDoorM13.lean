/- Blocks of one proof, laid one behind the other by a program (merge2.py). -/
import Derived.Test.YtcoflhkcpnoaaaaGreatDoorM11
import Derived.Test.YtcoflhkcpnoaaaaGreatDoorM12
set_option linter.unusedSimpArgs false
set_option linter.unusedVariables false
namespace Go.Proofs.YtcoflhkcpnoaaaaGreatDoor
open Go.AI Go.PN
attribute [local irreducible] aw Fa Fh DrK
attribute [local irreducible] DrB
theorem shl_u32 (x s : Nat) (hs : s ≤ 32) : shlZ .u32 (x : Int) (s : Int) = ((x * 2 ^ s % 4294967296 : Nat) : Int) := by
  rw [shlZ_eq]
  have h1 : min (s : Int).toNat IntKind.u32.bits = s := by show min (s : Int).toNat 32 = s; omega
  rw [h1, IntKind.wrap_u32, Int.natCast_emod, Int.natCast_mul, Int.natCast_pow]; rfl
theorem and_u32 (x y : Nat) (hx : x < 4294967296) (hy : y < 4294967296) : andZ .u32 (x : Int) (y : Int) = ((x &&& y : Nat) : Int) := by
  rw [andZ_eq]
  show IntKind.u32.wrap (((BitVec.ofInt 32 (x : Int) &&& BitVec.ofInt 32 (y : Int)).toNat : Nat) : Int) = _
  have : (BitVec.ofInt 32 (x : Int) &&& BitVec.ofInt 32 (y : Int)).toNat = x &&& y := by
    rw [BitVec.toNat_and]
    have e1 : ∀ z : Nat, z < 4294967296 → (BitVec.ofInt 32 (z : Int)).toNat = z := fun z hz => by rw [BitVec.ofInt_natCast, BitVec.toNat_ofNat]; omega
    rw [e1 x hx, e1 y hy]
  have hlt : x &&& y < 4294967296 := Nat.lt_of_le_of_lt Nat.and_le_left hx
  rw [this, IntKind.wrap_u32]; omega
theorem and_u32_top (x : Nat) (hx : x < 4294967296) : andZ .u32 (x : Int) 2147483648 = ((x &&& 2147483648 : Nat) : Int) := and_u32 x 2147483648 hx (by omega)
theorem drop_f (xs : List Nat) (m j : Nat) : xs.getD (m + j) 0 = (xs.drop m).getD j 0 := by
  rw [List.getD_eq_getElem?_getD, List.getD_eq_getElem?_getD, List.getElem?_drop]
theorem mul_div_pow (a b s : Nat) : a * 2 ^ s / (b * 2 ^ s) = a / b := Nat.mul_div_mul_right a b (Nat.two_pow_pos s)
theorem mod_div_pow (a b s : Nat) : a * 2 ^ s % (b * 2 ^ s) / 2 ^ s = a % b := by
  rw [Nat.mul_mod_mul_right, Nat.mul_div_cancel _ (Nat.two_pow_pos s)]
theorem make_wf' (n : Nat) : (fun j => ([CV.int .u32 0][j % 1]?).getD .any) = wf (List.replicate n 0) := by
  funext j
  show _ = CV.int .u32 ((List.replicate n 0).getD j 0 : Nat)
  rw [Nat.mod_one, List.getD_eq_getElem?_getD, List.getElem?_replicate]
  split <;> rfl
theorem drop_row (xs : List Nat) (m : Nat) : (CV.row true 1 (xs.length - m) fun j => .int .u32 ((xs.getD (m + j) 0 : Nat) : Int)) = ws true (xs.drop m) := by
  simp only [drop_f]
  show _ = CV.row true 1 (xs.drop m).length _
  rw [List.length_drop]
theorem cons_f (x : Nat) (rs : List Nat) : ∀ j, appF (ofL [.int .u32 (x : Int)]) 1 (fun j => .int .u32 ((rs.getD j 0 : Nat) : Int)) j = CV.int .u32 (((x :: rs).getD j 0 : Nat) : Int)
  | 0 => rfl
  | j + 1 => by simp [appF]
set_option maxRecDepth 100000 in
set_option maxHeartbeats 3200000 in
theorem qdiv_fa (xs ys : List Nat) (hx : ∀ x ∈ xs, x < 4294967296) (hy : ∀ x ∈ ys, x < 4294967296) (hlx : xs.length ≤ 34359738368) (hly : ys.length ≤ 34359738368) (h0 : val ys ≠ 0) :
    Fa Tryz.prog 119 [.c (ws false xs), .c (ws false ys)] (.tup [.c (ws true (words (val xs / val ys))), .c (ws true (words (val xs % val ys))), .c (.int .i64 0)]) := by
  refine fa_of_body Tryz.func119 rfl rfl (by simp [Tryz.ntmps119]) fun C hC => ?_
  simp only [initS, Nat.reduceAdd]
  refine xG ?_
  refine xC (qtrim_fa ys hy ?_) ?_
  · omega
  generalize hb0 : val ys = b at h0
  have hbl : (words b).length ≤ 34359738368 := by rw [← hb0]; exact Nat.le_trans (words_val_len ys hy) hly
  have hbw := words_lt b
  obtain ⟨n, hn⟩ : ∃ n, (words b).length = n + 1 := ⟨(words b).length - 1, by have : (words b).length ≠ 0 := fun e => h0 (words_eq_nil.1 (List.length_eq_zero_iff.1 e)); omega⟩
  have htop : (words b).getD n 0 ≠ 0 := by
    have := (words_plain b).resolve_left (fun e => h0 (words_eq_nil.1 e))
    rwa [hn] at this
  have htl := getD_lt hbw n
  refine xG ?_
  refine xF (fun hb=>?_) fun hb=>?_
  · have := eq_of_beq hb; omega
  refine xH ?_
  apply aw_skip
  apply aw_seq
  apply aw_region
  refine xH ?_
  apply aw_seq
  refine aw_cut (fun s : Nat => [(0, .c (ws false xs)), (1, .c (ws true (words b))), (7, .c (.int .i64 ((n + 1 : Nat) : Int))), (8, .c (.int .i64 s))]) (fun _ => []) (fun s => (words b).getD n 0 * 2 ^ s < 4294967296 ∧ s < 32) ?_ ?_
  · as_aux_lemma =>
    apply aw_block
    have hnl : ((words b).length : Int) = ((n + 1 : Nat) : Int) := by rw [hn]
    refine aw_lp (fun s : Nat => [(0, .c (ws false xs)), (1, .c (ws true (words b))), (7, .c (.int .i64 ((n + 1 : Nat) : Int))), (8, .c (.int .i64 s))]) (fun _ => []) (fun s => (words b).getD n 0 * 2 ^ s < 4294967296 ∧ s < 32) (fun s => 32 - s) 0 (zB hnl) zZ ⟨by simpa using htl, by omega⟩ ?_
    rintro s ⟨hs1, hs2⟩
    have e1 := shl_u32 ((words b).getD n 0) s (by omega)
    rw [Nat.mod_eq_of_lt hs1] at e1
    have e2 := and_u32_top _ hs1
    have e3 : (((n + 1 : Nat) : Int) - 1).toNat = n := by omega
    refine yG (oj hnl (oj e1 (oj e2 e3))) ?_
    refine yF (oj hnl (oj e1 (oj e2 e3))) (fun hc=>?_) fun hc=>?_
    · have hc' : (words b).getD n 0 * 2 ^ s &&& 2147483648 = 0 := by have := eq_of_beq hc; omega
      have hlt := and_top_zero hs1 hc'
      have hs3 : s < 31 := by
        rcases Nat.lt_or_ge s 31 with h | h
        · exact h
        · exfalso
          have h8 : (2 : Nat) ^ 31 ≤ 2 ^ s := Nat.pow_le_pow_right (by omega) h
          have h9 := Nat.mul_le_mul (show 1 ≤ (words b).getD n 0 by omega) h8
          omega
      refine yG (oj hnl (oj e1 (oj e2 e3))) ?_
      refine aw_stop ⟨s + 1, by omega, (zB (oj hnl (oj e1 (oj e2 e3)))), zZ, ?_, by omega⟩
      rw [Nat.pow_succ, ← Nat.mul_assoc]; omega
    · refine yG (oj hnl (oj e1 (oj e2 e3))) ?_
      exact aw_stop ⟨s, (zB (oj hnl (oj e1 (oj e2 e3)))), zZ, hs1, hs2⟩
  as_aux_lemma =>
  rintro s ⟨hs1, hs2⟩
  have hVl := shift_len hn hs1
  refine xG ?_
  refine xC (qup_fa xs s hx ?_ hs2) ?_
  · omega
  refine xG ?_
  refine xC (qup_fa (words b) s hbw ?_ hs2) ?_
  · omega
  rw [val_words]
  have hq1 := (mul_div_pow (val xs) b s).symm
  have hq2 := (mod_div_pow (val xs) b s).symm
  have hV0 : b * 2 ^ s ≠ 0 := Nat.mul_ne_zero h0 (Nat.pos_iff_ne_zero.1 (Nat.two_pow_pos s))
  have hAl : (words (val xs * 2 ^ s)).length ≤ 34359738369 := by
    have h0 : (words (val xs * 2 ^ s)).length ≤ xs.length + 1 := by
      refine words_len_le ?_
      rw [Nat.pow_succ]
      have h2 : 2 ^ s ≤ 4294967296 := pow_lt_32 (by omega)
      exact Nat.lt_of_lt_of_le (Nat.mul_lt_mul_of_pos_right (val_lt xs hx) (Nat.two_pow_pos s)) (Nat.mul_le_mul_left _ h2)
    omega
  rw [hq1, hq2]
  clear hq1 hq2
  generalize hA : val xs * 2 ^ s = A at hAl ⊢
  generalize hV : b * 2 ^ s = V at hVl hV0 ⊢
  have hn9 : n ≤ 34359738368 := by omega
  clear htop htl hbl hbw hs1 hA hV hb0 hb h0 hn
  have hVpos : 0 < V := Nat.pos_of_ne_zero hV0
  have hAw := words_lt A
  have hVw := words_lt V
  have hVlo : 4294967296 ^ n ≤ V := by have := words_pow_le hV0; rwa [hVl] at this
  have hVhi : V < 4294967296 ^ (n + 1) := by have := words_pow_lt V; rwa [hVl] at this
  have hAhi := words_pow_lt A
  generalize hla : (words A).length = la at hAl hAhi
  refine xH ?_
  apply aw_seq
  refine aw_drB 13 ty_mixed (by kernel_rfl) ?_
  repeat first | (refine drb_2q true rfl (fun R hR => ?_); simp only [go_sem]; (with_reducible refine hR _ _ ?_ ?_); (focus (((try simp only [inRange]) <;> and_intros <;> first | exact True.intro | omega | trivial); done)); clear hR R) | fail
  refine drb_new rfl (NewX.make (n := la) (c := la) rfl rfl rfl ty_e_ws ty_z_u32 rfl (by omega) eE eE (by rw [hla]) (by rw [hla]) (by omega) (by omega) (by omega)) (by kernel_rfl) ?_
  refine xS ?_
  refine drb_calm (CalmX.empty rfl rfl rfl ty_e_ws) ?_
  refine xS ?_
  have hmx : (if ((words A).length : Int) - ((n + 1 : Nat) : Int) + 1 > 0 then ((words A).length : Int) - ((n + 1 : Nat) : Int) + 1 else 0) = ((la - n : Nat) : Int) := by rw [hla]; split <;> omega
  repeat first | (refine drb_2q true rfl (fun R hR => ?_); simp only [go_sem, hmx]; (with_reducible refine hR _ _ ?_ ?_); (focus (((try simp only [inRange]) <;> and_intros <;> first | exact True.intro | omega | trivial); done)); clear hR R) | fail
  refine drb_calm (CalmX.copy rfl rfl rfl ty_e_ws ty_z_u32 rfl (by omega) (zE hmx) (zE hmx) .row (by unfold maxLen; omega) (by omega)) ?_
  refine yS hmx ?_
  refine drb_nil fun γ => ?_
  refine yS hmx ?_
  rw [make_wf' la]
  generalize γ 2 = gq
  rw [drop_row]
  have hr0 := drop_val (words A) hAw (la - n) (by omega)
  rw [val_words] at hr0
  have hrV : A / 4294967296 ^ (la - n) < V := by
    refine Nat.lt_of_lt_of_le ((Nat.div_lt_iff_lt_mul (pow32 _)).2 ?_) hVlo
    rw [← Nat.pow_add]
    exact Nat.lt_of_lt_of_le hAhi (Nat.pow_le_pow_right (by omega) (by omega))
  have hrw : ∀ x ∈ (words A).drop (la - n), x < 4294967296 := fun x hx => hAw x (List.mem_of_mem_drop hx)
  have hrl : ((words A).drop (la - n)).length ≤ n + 1 := by rw [List.length_drop]; omega
  generalize (words A).drop (la - n) = rs0 at hr0 hrw hrl ⊢
  refine yG hmx ?_
  refine aw_lp (fun x : Int × Nat × List Nat × List Nat => [(0, .c (ws true (words A))), (1, .c (ws true (words V))), (7, .c (.int .i64 ((n + 1 : Nat) : Int))), (8, .c (.int .i64 s)), (9, .c (.osl gq 1 0 la)), (10, .c (ws true x.2.2.1)), (11, .c (.int .i64 x.1))]) (fun x => [(gq, .cells 106 la (wf x.2.2.2))])
    (fun x => x.2.1 = (x.1 + 1).toNat ∧ x.1 < 34359738370 ∧ -34359738370 < x.1 ∧ x.2.1 ≤ la ∧ val x.2.2.1 = A / 4294967296 ^ x.2.1 % V ∧ (∀ y ∈ x.2.2.1, y < 4294967296) ∧ x.2.2.1.length ≤ n + 1 ∧ x.2.2.2.length = la ∧ (∀ y ∈ x.2.2.2, y < 4294967296) ∧ val (x.2.2.2.drop x.2.1) = A / 4294967296 ^ x.2.1 / V) (fun x => x.2.1) ((la : Int) - ((n + 1 : Nat) : Int), la - n, rs0, List.replicate la 0) (zB hmx) zZ
    ⟨by dsimp only; omega, by dsimp only; omega, by dsimp only; omega, by dsimp only; omega, by dsimp only; rw [hr0, Nat.mod_eq_of_lt hrV], hrw, hrl, by simp, replicate_lt _, by dsimp only; rw [Nat.div_eq_of_lt hrV]; exact val_zero fun x hx => (List.mem_replicate.1 (List.mem_of_mem_drop hx)).2⟩ ?_
  clear hr0 hrV hrw hrl
  clear rs0
  as_aux_lemma =>
  rintro ⟨v, m, rs, qs⟩ ⟨hm, hv1, hv2, hml, hrs, hrw, hrl, hql, hqw, hqs⟩
  dsimp only at hm hv1 hv2 hml hrs hrw hrl hql hqw hqs ⊢
  refine yG hmx ?_
  refine yF hmx (fun hb=>?_) fun hb=>?_
  · have hv0 : 0 ≤ v := of_decide_eq_true hb
    obtain ⟨k, rfl⟩ : ∃ k : Nat, v = k := ⟨v.toNat, by omega⟩
    have hmk : m = k + 1 := by omega
    subst hmk
    have hwk := word_at (words A) hAw k
    rw [val_words] at hwk
    have hak := getD_lt hAw k
    obtain ⟨nx1, nx2⟩ := ref_next (A := A) (m := k) hVpos hrs
    rw [hwk] at nx1 nx2
    apply aw_skip
    apply aw_seq
    apply aw_block
    apply aw_seq
    have hRl : ((words A).getD k 0 :: rs).length ≤ n + 2 := by simp; omega
    have hRw : ∀ x ∈ (words A).getD k 0 :: rs, x < 4294967296 := fun x hx => by
      rcases List.mem_cons.1 hx with rfl | hx
      · exact hak
      · exact hrw x hx
    refine aw_cut (fun _ : Unit => [(0, .c (ws true (words A))), (1, .c (ws true (words V))), (7, .c (.int .i64 ((n + 1 : Nat) : Int))), (8, .c (.int .i64 s)), (9, .c (.osl gq 1 0 la)), (10, .c (ws true (words ((words A).getD k 0 + 4294967296 * val rs)))), (11, .c (.int .i64 k))]) (fun _ => [(gq, .cells 106 la (wf qs))]) (fun _ => k < la) ?_ ?_
    · as_aux_lemma =>
      apply aw_region
      refine yH hmx ?_
      refine aw_buildSlice (xs := [.tmp 61]) (cells := [.int .u32 ((words A).getD k 0 : Nat)]) rfl rfl rfl ty_e_ws (by rw [envP, ty_z_u32]; rfl) rfl (by omega) (by omega) (by intro x hx; simp only [List.mem_singleton] at hx; subst hx; exact ⟨rfl, rfl, rfl⟩) (zE hmx) fun g hg => ?_
      replace hg := Heap.ne_of hg
      dsimp only [Heap.ne] at hg
      refine yS (oj hmx hg) ?_
      refine yH (oj hmx hg) ?_
      by_cases hr0 : 0 < rs.length
      · refine aw_append rfl rfl rfl ty_e_ws ty_z_u32 rfl (by omega) (zE (oj hmx hg)) (zE (oj hmx hg)) (by omega) (zE (oj hmx hg)) .row (fun _ _ => rfl) hr0 (by unfold maxLen; omega) (by omega) (zE (oj hmx hg)) fun g' hg' => ?_
        replace hg' := Heap.ne_of hg'
        dsimp only [Heap.ne] at hg'
        refine yS (oj hmx (oj hg hg')) ?_
        refine yH (oj hmx (oj hg hg')) ?_
        refine aw_callq (qtrim_fa ((words A).getD k 0 :: rs) hRw (by omega)) rfl rfl rfl (by refine yS (oj hmx (oj hg hg')) ?_; exact .c (lec_oslws (zE (oj hmx (oj hg hg'))) (by omega) (by simp; omega) (fun j _ => by rw [Nat.zero_add]; exact cons_f _ _ j))) ?_
        refine yS (oj hmx (oj hg hg')) ?_
        refine yH (oj hmx (oj hg hg')) ?_
        exact aw_stop ⟨(), (zB (oj hmx (oj hg hg'))), List.Sublist.cons _ (List.Sublist.refl _), by omega⟩
      · have hrn : rs = [] := List.length_eq_zero_iff.1 (by omega)
        subst hrn
        refine aw_append0 rfl rfl rfl ty_e_ws (zE (oj hmx hg)) rfl (zE (oj hmx hg)) .row (zE (oj hmx hg)) ?_
        refine yS (oj hmx hg) ?_
        refine yH (oj hmx hg) ?_
        refine aw_callq (qtrim_fa ((words A).getD k 0 :: []) hRw (by omega)) rfl rfl rfl (by refine yS (oj hmx hg) ?_; exact .c (lec_oslws (zE (oj hmx hg)) (by omega) rfl (fun j hj => by match j, hj with | 0, _ => rfl))) ?_
        refine yS (oj hmx hg) ?_
        refine yH (oj hmx hg) ?_
        exact aw_stop ⟨(), (zB (oj hmx hg)), List.Sublist.cons _ (List.Sublist.refl _), by omega⟩
    as_aux_lemma =>
    rintro _ hkl
    have hRV : val ((words A).getD k 0 :: rs) < V * 4294967296 := by
      simp only [val]
      rw [hrs]
      have := Nat.mod_lt (A / 4294967296 ^ (k + 1)) hVpos
      omega
    have hRv : val ((words A).getD k 0 :: rs) = (words A).getD k 0 + 4294967296 * val rs := rfl
    rw [hRv] at hRV
    generalize hR : (words A).getD k 0 + 4294967296 * val rs = R at nx1 nx2 hRV ⊢
    have hRwl : (words R).length ≤ n + 2 := by
      rw [← hR, ← hRv]; exact Nat.le_trans (words_val_len _ hRw) hRl
    have hRww := words_lt R
    have hw1 := getD_lt hRww (n + 1)
    have hw2 := getD_lt hRww n
    have hw3 := getD_lt hVw n
    have hVtop : (words V).getD n 0 ≠ 0 := by
      have := (words_plain V).resolve_left (fun e => hV0 (words_eq_nil.1 e))
      rwa [hVl] at this
    have hg0 : R / V ≤ ((words R).getD (n + 1) 0 * 4294967296 + (words R).getD n 0) / (words V).getD n 0 := by
      refine ref_guess (D := 4294967296 ^ n) ?_ ?_ (by omega) hVpos
      · have := top_lt (words R) hRww n hRwl
        rwa [val_words] at this
      · have := top_le (words V) n
        rwa [List.take_of_length_le (by omega), val_words] at this
    have hg1 : R / V ≤ 4294967295 := by
      have : R / V < 4294967296 := (Nat.div_lt_iff_lt_mul hVpos).2 (by rw [Nat.mul_comm]; exact hRV)
      omega
    have e3 : (((n + 1 : Nat) : Int) - 1) = (n : Int) := by omega
    refine yG hmx ?_
    refine yC hmx (qword_fa (words R) (n + 1) hRww) ?_
    refine yG (oj hmx e3) ?_
    refine yC (oj hmx e3) (qword_fa (words R) n hRww) ?_
    as_aux_lemma =>
    have e4 := shl_u64_32 ((words R).getD (n + 1) 0) hw1
    have e5 := or_u64_j32 ((words R).getD (n + 1) 0) ((words R).getD n 0) hw1 hw2
    refine yG (oj hmx (oj e3 (oj e4 e5))) ?_
    as_aux_lemma =>
    refine yC (oj hmx (oj e3 (oj e4 e5))) (qword_fa (words V) n hVw) ?_
    have hjl : j32 ((words R).getD (n + 1) 0) ((words R).getD n 0) < 18446744073709551616 := by unfold j32; omega
    have e6 := quo_u64 (j32 ((words R).getD (n + 1) 0) ((words R).getD n 0)) ((words V).getD n 0) hjl
    replace hg0 : R / V ≤ j32 ((words R).getD (n + 1) 0) ((words R).getD n 0) / (words V).getD n 0 := hg0
    refine yO (oj hmx (oj e3 (oj e4 (oj e5 e6)))) ?_
    generalize j32 ((words R).getD (n + 1) 0) ((words R).getD n 0) / (words V).getD n 0 = G at hg0 ⊢
    have e7 : (if (4294967295 : Int) < (G : Int) then (4294967295 : Int) else (G : Int)) = ((min G 4294967295 : Nat) : Int) := by split <;> omega
    as_aux_lemma =>
    refine yO (oj hmx (oj e3 (oj e4 (oj e5 e6)))) ?_
    rw [e7]
    have hgl : min G 4294967295 < 4294967296 := by omega
    replace hg0 : R / V ≤ min G 4294967295 := by omega
    generalize min G 4294967295 = g0 at hgl hg0 ⊢
    have e8 : wrapZ .u32 (g0 : Int) = (g0 : Int) := by rw [wrap_u32_nat, Nat.mod_eq_of_lt hgl]
    as_aux_lemma =>
    refine yG (oj hmx (oj e3 (oj e4 (oj e5 (oj e6 e8))))) ?_
    as_aux_lemma =>
    refine aw_buildSlice (xs := [.tmp 83]) (cells := [.int .u32 (g0 : Nat)]) rfl rfl rfl ty_e_ws (by rw [envP, ty_z_u32]; rfl) rfl (by omega) (by omega) (by intro x hx; simp only [List.mem_singleton] at hx; subst hx; exact ⟨rfl, rfl, rfl⟩) (zE (oj hmx (oj e3 (oj e4 (oj e5 (oj e6 e8)))))) fun g hg => ?_
    replace hg := Heap.ne_of hg
    dsimp only [Heap.ne] at hg
    refine yS (oj hmx (oj e3 (oj e4 (oj e5 (oj e6 (oj e8 hg)))))) ?_
    refine yG (oj hmx (oj e3 (oj e4 (oj e5 (oj e6 (oj e8 hg)))))) ?_
    as_aux_lemma =>
    refine aw_callq (qmul_fa (words V) [g0] hVw (by intro x hx; simp only [List.mem_singleton] at hx; subst hx; exact hgl) (by omega) (by simp)) rfl rfl rfl (by refine yS (oj hmx (oj e3 (oj e4 (oj e5 (oj e6 (oj e8 hg)))))) ?_; exact ⟨.c (le_ws (by simp)), .c (lec_oslws (zE (oj hmx (oj e3 (oj e4 (oj e5 (oj e6 (oj e8 hg))))))) (by simp) rfl (fun j hj => by match j, hj with | 0, _ => rfl))⟩) ?_
    rw [val_words, val_one]
    refine yS (oj hmx (oj e3 (oj e4 (oj e5 (oj e6 (oj e8 hg)))))) ?_
    refine yH (oj hmx (oj e3 (oj e4 (oj e5 (oj e6 (oj e8 hg)))))) ?_
    apply aw_seq
    refine aw_cut (fun _ : Unit => [(0, .c (ws true (words A))), (1, .c (ws true (words V))), (7, .c (.int .i64 ((n + 1 : Nat) : Int))), (8, .c (.int .i64 s)), (9, .c (.osl gq 1 0 la)), (10, .c (ws true (words R))), (11, .c (.int .i64 k)), (12, .c (.int .u64 (R / V : Nat))), (13, .c (ws true (words (V * (R / V)))))]) (fun _ => [(gq, .cells 106 la (wf qs))]) (fun _ => k < la) ?_ ?_
    · as_aux_lemma =>
      apply aw_block
      refine aw_lp (fun q : Nat => [(0, .c (ws true (words A))), (1, .c (ws true (words V))), (7, .c (.int .i64 ((n + 1 : Nat) : Int))), (8, .c (.int .i64 s)), (9, .c (.osl gq 1 0 la)), (10, .c (ws true (words R))), (11, .c (.int .i64 k)), (12, .c (.int .u64 q)), (13, .c (ws true (words (V * q))))]) (fun _ => [(gq, .cells 106 la (wf qs))]) (fun q => R / V ≤ q ∧ q < 4294967296) (fun q => q) g0 (zB (oj hmx (oj e3 (oj e4 (oj e5 (oj e6 (oj e8 hg))))))) (List.Sublist.cons _ (List.Sublist.refl _)) ⟨hg0, hgl⟩ ?_
      rintro q ⟨hq1, hq2⟩
      have hpl : (words (V * q)).length ≤ 34359738380 := by
        have h1 := words_mul_len V q
        have h2 : (words q).length ≤ 2 := words_small (by omega)
        omega
      refine yG (oj hmx (oj e3 (oj e4 (oj e5 (oj e6 (oj e8 hg)))))) ?_
      refine yC (oj hmx (oj e3 (oj e4 (oj e5 (oj e6 (oj e8 hg)))))) (qcmp_fa (words (V * q)) (words R) (words_lt _) hRww ?_ ?_) ?_
      · omega
      · omega
      rw [val_words, val_words]
      refine yG (oj hmx (oj e3 (oj e4 (oj e5 (oj e6 (oj e8 hg)))))) ?_
      refine yF (oj hmx (oj e3 (oj e4 (oj e5 (oj e6 (oj e8 hg)))))) (fun hc=>?_) fun hc=>?_
      · have hgt : R < V * q := by
          have := of_decide_eq_true hc
          unfold cmpN at this
          split at this
          · omega
          · split at this <;> omega
        have hq0 : R / V < q := (Nat.div_lt_iff_lt_mul hVpos).2 (by rw [Nat.mul_comm]; exact hgt)
        have hsub : V * q - V = V * (q - 1) := by rw [Nat.mul_sub, Nat.mul_one]
        have hq9 : 0 < q := Nat.lt_of_le_of_lt (Nat.zero_le _) hq0
        have hge : V ≤ V * q := Nat.le_mul_of_pos_right _ hq9
        have e9 : ((q : Int) - 1) = ((q - 1 : Nat) : Int) := by omega
        refine yG (oj hmx (oj e3 (oj e4 (oj e5 (oj e6 (oj e8 (oj hg e9))))))) ?_
        refine yC (oj hmx (oj e3 (oj e4 (oj e5 (oj e6 (oj e8 (oj hg e9))))))) (qsub_fa (words (V * q)) (words V) (words_lt _) hVw ?_ ?_ ?_) ?_
        · omega
        · omega
        · rw [val_words, val_words]; exact hge
        rw [val_words, val_words, hsub]
        refine yG (oj hmx (oj e3 (oj e4 (oj e5 (oj e6 (oj e8 (oj hg e9))))))) ?_
        exact aw_stop ⟨q - 1, by omega, (zB (oj hmx (oj e3 (oj e4 (oj e5 (oj e6 (oj e8 (oj hg e9)))))))), zZ, Nat.le_sub_one_of_lt hq0, by omega⟩
      · have hle : V * q ≤ R := by
          have := of_decide_eq_false hc
          unfold cmpN at this
          split at this
          · omega
          · split at this <;> omega
        have hqe : q = R / V := Nat.le_antisymm ((Nat.le_div_iff_mul_le hVpos).2 (by rw [Nat.mul_comm]; exact hle)) hq1
        subst hqe
        refine yG (oj hmx (oj e3 (oj e4 (oj e5 (oj e6 (oj e8 hg)))))) ?_
        exact aw_stop ⟨(), (zB (oj hmx (oj e3 (oj e4 (oj e5 (oj e6 (oj e8 hg))))))), zZ, hkl⟩
    as_aux_lemma =>
    rintro _ _
    have hmd := Nat.div_add_mod R V
    have hml2 := Nat.mod_lt R hVpos
    have hpl : (words (V * (R / V))).length ≤ n + 2 := Nat.le_trans (words_len_mono (Nat.mul_div_le R V)) hRwl
    refine yG (oj hmx (oj e3 (oj e4 (oj e5 (oj e6 (oj e8 hg)))))) ?_
    refine yC (oj hmx (oj e3 (oj e4 (oj e5 (oj e6 (oj e8 hg)))))) (qsub_fa (words R) (words (V * (R / V))) hRww (words_lt _) ?_ ?_ ?_) ?_
    · omega
    · omega
    · rw [val_words, val_words]; omega
    rw [val_words, val_words, show R - V * (R / V) = R % V from by omega]
    have e8 : wrapZ .u32 ((R / V : Nat) : Int) = ((R / V : Nat) : Int) := by rw [wrap_u32_nat, Nat.mod_eq_of_lt (by omega)]
    refine yG (oj hmx (oj e3 (oj e4 (oj e5 (oj e6 (oj e8 (oj hg e8))))))) ?_
    refine yW (oj hmx (oj e3 (oj e4 (oj e5 (oj e6 (oj e8 (oj hg e8))))))) ?_
    refine yS (oj hmx (oj e3 (oj e4 (oj e5 (oj e6 (oj e8 (oj hg e8))))))) ?_
    rw [updF_wf (by omega)]
    refine yG (oj hmx (oj e3 (oj e4 (oj e5 (oj e6 (oj e8 (oj hg e8))))))) ?_
    have hrm : (words (R % V)).length ≤ n + 1 := words_len_le (Nat.lt_trans hml2 hVhi)
    refine aw_stop ⟨((k : Int) - 1, k, words (R % V), qs.set k (R / V)), by dsimp only; omega, (zB (oj hmx (oj e3 (oj e4 (oj e5 (oj e6 (oj e8 (oj hg e8)))))))), zZ, by dsimp only; omega, by dsimp only; omega, by dsimp only; omega, by dsimp only; omega, by dsimp only; rw [val_words, nx1], words_lt _, hrm, by simpa using hql, set_lt hqw (by omega), ?_⟩
    dsimp only
    rw [val_set_drop (by omega), hqs, nx2]
  · have hm0 : m = 0 := by have := of_decide_eq_false hb; omega
    subst hm0
    rw [List.drop_zero, Nat.pow_zero, Nat.div_one] at hqs
    rw [Nat.pow_zero, Nat.div_one] at hrs
    refine yG hmx ?_
    refine aw_callq (qtrim_fa qs hqw (by omega)) rfl rfl rfl (by refine yS hmx ?_; exact .c (lec_oslws (zE hmx) (by omega) (by omega) (fun j _ => by rw [Nat.zero_add]; rfl))) ?_
    refine yS hmx ?_
    refine yG hmx ?_
    refine yC hmx (qdown_fa rs s hrw ?_ hs2) ?_
    · omega
    refine yG hmx ?_
    refine yT hC hmx ?_
    rw [hqs, hrs]
    exact .tup ⟨.c ler_ws, .c ler_ws, .c (.int _ _), trivial⟩
set_option maxHeartbeats 1600000 in
theorem qgcd_fa (xs ys : List Nat) (hx : ∀ x ∈ xs, x < 4294967296) (hy : ∀ x ∈ ys, x < 4294967296) (hlx : xs.length ≤ 34359738368) (hly : ys.length ≤ 34359738368) :
    Fa Tryz.prog 118 [.c (ws false xs), .c (ws false ys)] (.c (ws true (words (Nat.gcd (val xs) (val ys))))) := by
  refine fa_of_body Tryz.func118 rfl rfl (by simp [Tryz.ntmps118]) fun C hC => ?_
  simp only [initS, Nat.reduceAdd]
  refine xG ?_
  refine xC (qtrim_fa xs hx ?_) ?_
  · omega
  refine xG ?_
  refine xC (qtrim_fa ys hy ?_) ?_
  · omega
  have hla : (words (val xs)).length ≤ 34359738368 := Nat.le_trans (words_val_len xs hx) hlx
  have hlb : (words (val ys)).length ≤ 34359738368 := Nat.le_trans (words_val_len ys hy) hly
  refine xI ?_
  apply aw_block
  refine aw_lp (fun x : Nat × Nat => [(0, .c (ws true (words x.1))), (1, .c (ws true (words x.2)))]) (fun _ => []) (fun x => (words x.1).length ≤ 34359738368 ∧ (words x.2).length ≤ 34359738368 ∧ Nat.gcd x.1 x.2 = Nat.gcd (val xs) (val ys)) (fun x => x.2) (val xs, val ys) eB zZ ⟨hla, hlb, rfl⟩ ?_
  rintro ⟨a, b⟩ ⟨hla, hlb, hg⟩
  dsimp only at hla hlb hg ⊢
  refine xG ?_
  refine xF (fun hb=>?_) fun hb=>?_
  · have hb0 : b ≠ 0 := fun e => by have := of_decide_eq_true hb; rw [e, words_zero] at this; simp at this
    refine xG ?_
    refine xC (qdiv_fa (words a) (words b) (words_lt a) (words_lt b) hla hlb ?_) ?_
    · rw [val_words]; exact hb0
    rw [val_words, val_words]
    refine xG ?_
    have hlt : a % b < b := Nat.mod_lt _ (Nat.pos_of_ne_zero hb0)
    refine aw_stop ⟨(b, a % b), hlt, eB, zZ, hlb, Nat.le_trans (words_len_mono (Nat.le_of_lt hlt)) hlb, ?_⟩
    dsimp only
    rw [← hg, Nat.gcd_comm a b, Nat.gcd_rec b a, Nat.gcd_comm]
  · have hb0 : b = 0 := by
      have := of_decide_eq_false hb
      exact words_eq_nil.1 (List.length_eq_zero_iff.1 (by omega))
    subst hb0
    refine xG ?_
    refine xT hC ?_
    rw [← hg, Nat.gcd_zero_right]
    exact .one (.c ler_ws)
end Go.Proofs.YtcoflhkcpnoaaaaGreatDoor
namespace Go.Proofs.YtcoflhkcpnoaaaaGreatDoor
open Go.AI Go.PN
attribute [local irreducible] aw Fa Fh DrK
theorem bitlen_one {n : Nat} : ((bitlen n : Int) == 1) = decide (n = 1) := by
  rw [Bool.eq_iff_iff]
  simp only [beq_iff_eq, decide_eq_true_eq]
  unfold bitlen
  constructor
  · intro h
    split at h
    · omega
    · rename_i h0
      have h1 : Nat.log2 n = 0 := by omega
      have h2 := (Nat.log2_lt h0 (k := 1)).1 (by omega)
      omega
  · intro h; subst h; rfl
theorem len_ne {xs : List Nat} (h : xs.length ≠ 0) : ((xs.length : Int) == 0) = false := by
  rw [beq_eq_false_iff_ne]; omega
theorem len_eq {xs : List Nat} (h : xs.length = 0) : ((xs.length : Int) == 0) = true := by rw [h]; rfl
set_option maxHeartbeats 1600000 in
theorem svalid_fa (r : RD) (hw : r.wf 34359738368) : Fa Tryz.prog 112 [.agg (rdc r)] (.c (.bool r.valid)) := by
  have hl1 := hw.2.2.1
  have hl2 := hw.2.2.2
  refine fa_of_body Tryz.func112 rfl rfl (by simp [Tryz.ntmps112]) fun C hC => ?_
  simp only [initS, Nat.reduceAdd]
  refine xG ?_
  refine xB fun g1 hn_g1=>?_
  refine yG hn_g1 ?_
  refine aw_dr 8 ty_mixed (by kernel_rfl) ?_
  refine yG hn_g1 ?_
  by_cases hn : r.num.length = 0
  · have hn' := len_eq hn
    by_cases hd : r.den.length = 0
    · have hd' := len_eq hd
      refine yG (oj hn_g1 (oj hn' hd')) ?_
      refine yP (oj hn_g1 (oj hn' hd')) ?_
      refine yG (oj hn_g1 (oj hn' hd')) ?_
      refine yT hC (oj hn_g1 (oj hn' hd')) ?_
      exact .one (.c (ler_bool (valid_zero hn' hd')))
    · have hd' := len_ne hd
      refine yG (oj hn_g1 (oj hn' hd')) ?_
      refine yP (oj hn_g1 (oj hn' hd')) ?_
      refine yG (oj hn_g1 (oj hn' hd')) ?_
      refine yT hC (oj hn_g1 (oj hn' hd')) ?_
      refine .one (.c (ler_bool ?_))
      rw [valid_else (.inr hd'), plain_no (by omega), Bool.false_and, Bool.false_and]
  · have hn' := len_ne hn
    by_cases hd : r.den.length = 0
    · have hd' := len_eq hd
      refine yG (oj hn_g1 (oj hn' hd')) ?_
      refine yP (oj hn_g1 (oj hn' hd')) ?_
      refine yG (oj hn_g1 (oj hn' hd')) ?_
      refine yT hC (oj hn_g1 (oj hn' hd')) ?_
      refine .one (.c (ler_bool ?_))
      rw [valid_else (.inl hn'), plain_no (xs := r.den) (by omega), Bool.and_false, Bool.false_and]
    · have hd' := len_ne hd
      refine yG (oj hn_g1 (oj hn' hd')) ?_
      refine yN (oj hn_g1 (oj hn' hd')) ?_
      refine yG (oj hn_g1 (oj hn' hd')) ?_
      rw [valid_else (.inl hn'), plain_eq (xs := r.num) (by omega), plain_eq (xs := r.den) (by omega)]
      refine aw_split 35 (zE (oj hn_g1 (oj hn' hd'))) (fun h1 => ?_) (fun h1 => ?_) <;> refine yS (oj hn_g1 (oj hn' hd')) ?_
      · refine yG (oj hn_g1 (oj hn' hd')) ?_
        refine aw_split 44 (zE (oj hn_g1 (oj hn' hd'))) (fun h2 => ?_) (fun h2 => ?_) <;> refine yS (oj hn_g1 (oj hn' hd')) ?_
        · refine yG (oj hn_g1 (oj hn' hd')) ?_
          refine yC (oj hn_g1 (oj hn' hd')) (qgcd_fa _ _ hw.1 hw.2.1 ?_ ?_) ?_
          · omega
          · omega
          refine yG (oj hn_g1 (oj hn' hd')) ?_
          have hg : (words (Nat.gcd (val r.num) (val r.den))).length ≤ 68719476736 := by
            by_cases h : val r.num = 0
            · rw [h, Nat.gcd_zero_left]; have := words_val_len _ hw.2.1; omega
            · have h3 := words_len_mono (Nat.gcd_le_left (val r.den) (Nat.pos_of_ne_zero h)); have := words_val_len _ hw.1; omega
          refine yC (oj hn_g1 (oj hn' hd')) (qbits_fa _ (words_lt _) hg) ?_
          rw [val_words]
          refine yG (oj hn_g1 (oj hn' hd')) ?_
          refine yT hC (oj hn_g1 (oj hn' hd')) ?_
          refine .one (.c (ler_bool ?_))
          rw [h1, h2, bitlen_one]; rfl
        · refine yG (oj hn_g1 (oj hn' hd')) ?_
          refine yT hC (oj hn_g1 (oj hn' hd')) ?_
          refine .one (.c (ler_bool ?_))
          rw [h2, Bool.and_false, Bool.false_and]
      · refine yG (oj hn_g1 (oj hn' hd')) ?_
        refine yT hC (oj hn_g1 (oj hn' hd')) ?_
        refine .one (.c (ler_bool ?_))
        rw [h1, Bool.false_and, Bool.false_and]
theorem ler_one {h : Heap} {t : Bool} {g : Nat} {ty : TypeId} (hg : h.get g = some (.cells ty 1 (ofL [.int .u32 1]))) : LeR h (.osl g 1 0 1) (ws t [1]) :=
  ler_oslws hg (by omega) rfl (fun j hj => by match j, hj with | 0, _ => rfl)
set_option maxHeartbeats 1600000 in
theorem sparts_fa (r : RD) (hw : r.wf 1073741824) : Fa Tryz.prog 76 [.agg (rdc r)] (partsAV r) := by
  refine fa_of_body Tryz.func76 rfl rfl (by simp [Tryz.ntmps76]) fun C hC => ?_
  simp only [initS, Nat.reduceAdd]
  refine xG ?_
  refine xB fun g1 hn_g1=>?_
  refine yG hn_g1 ?_
  refine yC hn_g1 (svalid_fa r (wf_mono hw ?_)) ?_
  · omega
  refine yG hn_g1 ?_
  refine aw_split 8 (zE hn_g1) (fun hv => ?_) (fun hv => ?_) <;> refine yS hn_g1 ?_
  · have hs := RD.pn_none (none_of (r := r) (.inl (by simpa using hv)))
    refine yG hn_g1 ?_
    refine yP hn_g1 ?_
    refine yG hn_g1 ?_
    refine aw_buildSlice (xs := [.const (.int .u32 1)]) (cells := [.int .u32 1]) rfl rfl rfl ty_e_ws (by rw [envP, ty_z_u32]; rfl) rfl (by omega) (by omega) (by intro x hx; simp only [List.mem_cons, List.not_mem_nil, or_false] at hx; subst hx; exact ⟨rfl, rfl, rfl⟩) rfl fun g hg => ?_
    replace hg := Heap.ne_of hg
    dsimp only [Heap.ne] at hg
    refine yS (oj hn_g1 hg) ?_
    refine yG (oj hn_g1 hg) ?_
    refine yT hC (oj hn_g1 hg) ?_
    refine .tup ⟨.c (ler_bool hs.2.2.symm), .c ?_, .c ?_, trivial⟩
    · rw [hs.1]; exact .nils
    · rw [hs.2.1]; exact ler_one (zE (oj hn_g1 hg))
  · have hv' : r.valid = true := by simpa using hv
    refine yG hn_g1 ?_
    refine yF hn_g1 (fun hn=>?_) fun hn=>?_
    · have hs := RD.pn_none (none_of (r := r) (.inr hn))
      refine yG hn_g1 ?_
      refine aw_buildSlice (xs := [.const (.int .u32 1)]) (cells := [.int .u32 1]) rfl rfl rfl ty_e_ws (by rw [envP, ty_z_u32]; rfl) rfl (by omega) (by omega) (by intro x hx; simp only [List.mem_cons, List.not_mem_nil, or_false] at hx; subst hx; exact ⟨rfl, rfl, rfl⟩) rfl fun g hg => ?_
      replace hg := Heap.ne_of hg
      dsimp only [Heap.ne] at hg
      refine yS (oj hn_g1 hg) ?_
      refine yG (oj hn_g1 hg) ?_
      refine yT hC (oj hn_g1 hg) ?_
      refine .tup ⟨.c (ler_bool hs.2.2.symm), .c ?_, .c ?_, trivial⟩
      · rw [hs.1]; exact .nils
      · rw [hs.2.1]; exact ler_one (zE (oj hn_g1 hg))
    · have hs := RD.pn_words hw (some_of hv' hn)
      refine yG hn_g1 ?_
      refine aw_dr 9 ty_mixed (by kernel_rfl) ?_
      refine yG hn_g1 ?_
      refine yT hC hn_g1 ?_
      refine .tup ⟨.c (ler_bool hs.2.2.symm), .c ?_, .c ?_, trivial⟩
      · rw [hs.1]; exact ler_ws
      · rw [hs.2.1]; exact ler_ws
set_option maxHeartbeats 1600000 in
theorem sfrom_fa (neg : Bool) (xs ys : List Nat) (hx : ∀ x ∈ xs, x < 4294967296) (hy : ∀ x ∈ ys, x < 4294967296) (hlx : xs.length ≤ 34359738368) (hly : ys.length ≤ 34359738368) (h0 : val ys ≠ 0) :
    Fa Tryz.prog 74 [.c (.bool neg), .c (ws false xs), .c (ws false ys)] (.tup [.agg (rdc (rd (sq neg (val xs) (val ys)))), .c (.int .i64 0)]) := by
  refine fa_of_body Tryz.func74 rfl rfl (by simp [Tryz.ntmps74]) fun C hC => ?_
  simp only [initS, Nat.reduceAdd]
  refine xG ?_
  refine xA fun g6 hn_g6=>?_
  refine yG hn_g6 ?_
  refine yC hn_g6 (qbits_fa ys hy ?_) ?_
  · omega
  refine yG hn_g6 ?_
  refine yF hn_g6 (fun hb=>?_) fun hb=>?_
  · exact absurd (bitlen_zero.1 (by have := eq_of_beq hb; omega)) h0
  refine yG hn_g6 ?_
  refine yC hn_g6 (qbits_fa xs hx ?_) ?_
  · omega
  refine yG hn_g6 ?_
  refine yF hn_g6 (fun hc=>?_) fun hc=>?_
  · have hz : val xs = 0 := bitlen_zero.1 (by have := eq_of_beq hc; omega)
    refine yG hn_g6 ?_
    refine yW hn_g6 ?_
    refine yS hn_g6 ?_
    refine yG hn_g6 ?_
    refine yT hC hn_g6 ?_
    rw [hz, sq_zero, rd_zero]
    exact .tup ⟨.agg ⟨.bool _, .nils, .nils, trivial⟩, .c (.int _ _), trivial⟩
  · have hz : val xs ≠ 0 := fun e => by rw [e] at hc; cases hc
    have hg : Nat.gcd (val xs) (val ys) ≠ 0 := fun e => h0 (Nat.eq_zero_of_gcd_eq_zero_right e)
    have hgl : (words (Nat.gcd (val xs) (val ys))).length ≤ 34359738368 := by
      have h3 := words_len_mono (Nat.gcd_le_left (val ys) (Nat.pos_of_ne_zero hz)); have := words_val_len _ hx; omega
    refine yG hn_g6 ?_
    refine yC hn_g6 (qgcd_fa xs ys hx hy hlx hly) ?_
    refine yG hn_g6 ?_
    refine yC hn_g6 (qdiv_fa xs (words (Nat.gcd (val xs) (val ys))) hx (words_lt _) hlx hgl ?_) ?_
    · rw [val_words]; exact hg
    rw [val_words]
    refine yG hn_g6 ?_
    refine yC hn_g6 (qdiv_fa ys (words (Nat.gcd (val xs) (val ys))) hy (words_lt _) hly hgl ?_) ?_
    · rw [val_words]; exact hg
    rw [val_words]
    refine yG hn_g6 ?_
    refine yW hn_g6 ?_
    refine yS hn_g6 ?_
    refine yG hn_g6 ?_
    refine yT hC hn_g6 ?_
    rw [rd_sq hz h0]
    exact .tup ⟨.agg ⟨.bool _, ler_ws, ler_ws, trivial⟩, .c (.int _ _), trivial⟩
theorem sfromW (neg : Bool) (n d : Nat) (hn : (words n).length ≤ 34359738368) (hd : (words d).length ≤ 34359738368) (h0 : d ≠ 0) :
    Fa Tryz.prog 74 [.c (.bool neg), .c (ws false (words n)), .c (ws false (words d))] (.tup [.agg (rdc (rd (sq neg n d))), .c (.int .i64 0)]) := by
  have := sfrom_fa neg (words n) (words d) (words_lt n) (words_lt d) hn hd (by rw [val_words]; exact h0)
  rwa [val_words, val_words] at this
def two (u : Nat) : List Nat := [u % 4294967296, u / 4294967296]
theorem two_val (u : Nat) : val (two u) = u := by simp only [two, val]; omega
theorem two_lt {u : Nat} (h : u < 18446744073709551616) : ∀ x ∈ two u, x < 4294967296 := fun x hx => by
  simp only [two, List.mem_cons, List.not_mem_nil, or_false] at hx
  rcases hx with rfl | rfl <;> omega
theorem wrap_u64_neg {n : Int} (h0 : -9223372036854775808 ≤ n) (h1 : n < 0) : wrapZ .u64 (0 - wrapZ .u64 n) = (n.natAbs : Int) := by
  rw [wrapZ_eq, wrapZ_eq, IntKind.wrap_u64, IntKind.wrap_u64]; omega
theorem wrap_u64_pos {n : Int} (h0 : 0 ≤ n) (h1 : n ≤ 9223372036854775807) : wrapZ .u64 n = (n.natAbs : Int) := by
  rw [wrapZ_eq, IntKind.wrap_u64]; omega
set_option maxHeartbeats 1600000 in
theorem ssize_fa (n : Int) (h0 : -9223372036854775808 ≤ n) (h1 : n ≤ 9223372036854775807) : Fa Tryz.prog 75 [.c (.int .i64 n)] (.c (ws true (two n.natAbs))) := by
  refine fa_of_body Tryz.func75 rfl rfl (by simp [Tryz.ntmps75]) fun C hC => ?_
  simp only [initS, Nat.reduceAdd]
  apply aw_seq
  apply aw_region
  refine xH ?_
  apply aw_seq
  apply aw_region
  refine xH ?_
  apply aw_seq
  refine aw_cut (fun _ : Unit => [(3, .c (.int .u64 n.natAbs))]) (fun _ => []) (fun _ => n ≤ 9223372036854775807) ?_ ?_
  · refine xG ?_
    refine xF (fun hb=>?_) fun hb=>?_
    · have hn : n < 0 := of_decide_eq_true hb
      have e1 := wrap_u64_neg h0 hn
      refine yG e1 ?_
      exact aw_stop ⟨(), (zB e1), zZ, h1⟩
    · have hn : 0 ≤ n := by have := of_decide_eq_false hb; omega
      have e1 := wrap_u64_pos hn h1
      refine yG e1 ?_
      exact aw_stop ⟨(), (zB e1), zZ, h1⟩
  rintro _ _
  have hu : n.natAbs < 18446744073709551616 := by omega
  generalize n.natAbs = u at hu ⊢
  have e1 := wrap_u32_nat u
  have e2 := nat_div_32 u
  have e3 : wrapZ .u32 ((u / 4294967296 : Nat) : Int) = ((u / 4294967296 : Nat) : Int) := by rw [wrap_u32_nat, Nat.mod_eq_of_lt (by omega)]
  refine yG (oj e1 (oj e2 e3)) ?_
  refine aw_buildSlice (xs := [.tmp 11, .tmp 14]) (cells := [.int .u32 (u % 4294967296 : Nat), .int .u32 (u / 4294967296 : Nat)]) rfl rfl rfl ty_e_ws (by rw [envP, ty_z_u32]; rfl) rfl (by omega) (by omega) (by intro x hx; simp only [List.mem_cons, List.not_mem_nil, or_false] at hx; rcases hx with rfl | rfl <;> exact ⟨rfl, rfl, rfl⟩) rfl fun g hg => ?_
  refine yS (oj e1 (oj e2 e3)) ?_
  refine yG (oj e1 (oj e2 e3)) ?_
  refine yT hC (oj e1 (oj e2 e3)) ?_
  exact .one (.c (ler_oslws (zE (oj e1 (oj e2 e3))) (by simp) rfl (fun j hj => by match j, hj with | 0, _ => rfl | 1, _ => rfl)))
theorem inv_neg' (d : Rat) : (-d)⁻¹ = - d⁻¹ := by
  by_cases h : d = 0
  · subst h; rw [Rat.neg_zero, Rat.inv_zero, Rat.neg_zero]
  · have h1 : d * d⁻¹ = 1 := Rat.mul_inv_cancel d h
    have h2 : (-d) * (-d)⁻¹ = 1 := Rat.mul_inv_cancel (-d) (by grind)
    grind
theorem sq_make (n d : Int) : sq (decide (n < 0) != decide (d < 0)) n.natAbs d.natAbs = (n : Rat) / (d : Rat) := by
  have e : ∀ m : Int, ((m.natAbs : Int) = m ∧ ¬ m < 0) ∨ ((m.natAbs : Int) = -m ∧ m < 0) := fun m => by omega
  unfold sq
  rw [Rat.mkRat_eq_div]
  have hs : ((sgn (decide (n < 0) != decide (d < 0)) n.natAbs : Int) : Rat) / ((d.natAbs : Nat) : Rat) = (n : Rat) / (d : Rat) := by
    have hd : ((d.natAbs : Nat) : Rat) = ((d.natAbs : Int) : Rat) := rfl
    rw [hd]
    unfold sgn
    rcases e n with ⟨h1, h2⟩ | ⟨h1, h2⟩ <;> rcases e d with ⟨h3, h4⟩ | ⟨h3, h4⟩
    · simp only [h2, h4, decide_false, bne_self_eq_false, Bool.false_eq_true, if_false, h1, h3]
    · simp only [h2, h4, decide_false, decide_true, bne, h1, h3]
      simp only [show (false == true) = false from rfl, Bool.not_false, if_true]
      rw [Rat.intCast_neg, Rat.intCast_neg, Rat.div_def, Rat.div_def, inv_neg']
      grind
    · simp only [h2, h4, decide_false, decide_true, bne, h1, h3]
      simp only [show (true == false) = false from rfl, Bool.not_false, if_true]
      rw [Int.neg_neg]
    · simp only [h2, h4, decide_true, bne_self_eq_false, Bool.false_eq_true, if_false, h1, h3]
      rw [Rat.intCast_neg, Rat.intCast_neg, Rat.div_def, Rat.div_def, inv_neg']
      grind
  exact hs
end Go.Proofs.YtcoflhkcpnoaaaaGreatDoor
namespace Go.Proofs.YtcoflhkcpnoaaaaGreatDoor
open Go.AI Go.PN
attribute [local irreducible] aw Fa Fh DrK
set_option maxHeartbeats 1600000 in
theorem smake_fa (n d : Int) (h0 : -9223372036854775808 ≤ n) (h1 : n ≤ 9223372036854775807) (h2 : -9223372036854775808 ≤ d) (h3 : d ≤ 9223372036854775807) (hd : d ≠ 0) :
    Fa Tryz.prog 44 [.c (.int .i64 n), .c (.int .i64 d)] (.tup [.agg (rdc (rd ((n : Rat) / (d : Rat)))), .c (.int .i64 0)]) := by
  refine fa_of_body Tryz.func44 rfl rfl (by simp [Tryz.ntmps44]) fun C hC => ?_
  simp only [initS, Nat.reduceAdd]
  refine xG ?_
  refine xA fun g4 hn_g4=>?_
  refine yG hn_g4 ?_
  refine yC hn_g4 (ssize_fa n h0 h1) ?_
  refine yG hn_g4 ?_
  refine yC hn_g4 (ssize_fa d h2 h3) ?_
  refine yG hn_g4 ?_
  refine yC hn_g4 (sfrom_fa _ (two n.natAbs) (two d.natAbs) (two_lt ?_) (two_lt ?_) ?_ ?_ ?_) ?_
  · omega
  · omega
  · simp [two]
  · simp [two]
  · rw [two_val]; omega
  rw [two_val, two_val, sq_make]
  refine yG hn_g4 ?_
  refine yW hn_g4 ?_
  refine yS hn_g4 ?_
  refine yG hn_g4 ?_
  refine yT hC hn_g4 ?_
  exact .tup ⟨.agg lerl_rd, .c (.int _ _), trivial⟩
set_option maxHeartbeats 1600000 in
theorem sof_fa (n : Int) (h0 : -9223372036854775808 ≤ n) (h1 : n ≤ 9223372036854775807) : Fa Tryz.prog 66 [.c (.int .i64 n)] (.agg (rdc (rd (n : Rat)))) := by
  refine fa_of_body Tryz.func66 rfl rfl (by simp [Tryz.ntmps66]) fun C hC => ?_
  simp only [initS, Nat.reduceAdd]
  refine xG ?_
  refine xA fun g2 hn_g2=>?_
  refine yG hn_g2 ?_
  refine yC hn_g2 (smake_fa n 1 h0 h1 ?_ ?_ ?_) ?_
  · omega
  · omega
  · omega
  refine yG hn_g2 ?_
  refine yA hn_g2 fun g3 hn_g3=>?_
  refine yG (oj hn_g2 hn_g3) ?_
  refine yW (oj hn_g2 hn_g3) ?_
  refine yS (oj hn_g2 hn_g3) ?_
  refine yG (oj hn_g2 hn_g3) ?_
  refine yW (oj hn_g2 hn_g3) ?_
  refine yS (oj hn_g2 hn_g3) ?_
  refine yG (oj hn_g2 hn_g3) ?_
  refine yT hC (oj hn_g2 hn_g3) ?_
  exact ler_rd (by congr 1; rw [Rat.intCast_one]; grind)
set_option maxHeartbeats 1600000 in
theorem sneg_fa (r : RD) (hw : r.wf 1073741824) : Fa Tryz.prog 73 [.agg (rdc r)] (.agg (rdc (rd (-r.q)))) := by
  obtain ⟨hl1, hl2⟩ := RD.p_len hw (by omega)
  refine fa_of_body Tryz.func73 rfl rfl (by simp [Tryz.ntmps73]) fun C hC => ?_
  simp only [initS, Nat.reduceAdd]
  refine xG ?_
  refine xB fun g1 hn_g1=>?_
  refine yA hn_g1 fun g2 hn_g2=>?_
  refine yG (oj hn_g1 hn_g2) ?_
  refine yC (oj hn_g1 hn_g2) (sparts_fa r hw) ?_
  refine yG (oj hn_g1 hn_g2) ?_
  refine yC (oj hn_g1 hn_g2) (sfromW _ r.pn r.pd ?_ ?_ (RD.pd_ne hw)) ?_
  · omega
  · omega
  refine yG (oj hn_g1 hn_g2) ?_
  refine yA (oj hn_g1 hn_g2) fun g6 hn_g6=>?_
  refine yG (oj hn_g1 (oj hn_g2 hn_g6)) ?_
  refine yW (oj hn_g1 (oj hn_g2 hn_g6)) ?_
  refine yS (oj hn_g1 (oj hn_g2 hn_g6)) ?_
  refine yG (oj hn_g1 (oj hn_g2 hn_g6)) ?_
  refine yW (oj hn_g1 (oj hn_g2 hn_g6)) ?_
  refine yS (oj hn_g1 (oj hn_g2 hn_g6)) ?_
  refine yG (oj hn_g1 (oj hn_g2 hn_g6)) ?_
  refine yT hC (oj hn_g1 (oj hn_g2 hn_g6)) ?_
  exact ler_rd (by rw [sq_neg]; rfl)
set_option maxHeartbeats 1600000 in
theorem ssign_fa (r : RD) (hw : r.wf 1073741824) : Fa Tryz.prog 69 [.agg (rdc r)] (.c (.int .i64 (signQ r.q))) := by
  refine fa_of_body Tryz.func69 rfl rfl (by simp [Tryz.ntmps69]) fun C hC => ?_
  simp only [initS, Nat.reduceAdd]
  refine xG ?_
  refine xB fun g1 hn_g1=>?_
  refine yG hn_g1 ?_
  refine yC hn_g1 (sparts_fa r hw) ?_
  refine yG hn_g1 ?_
  refine yF hn_g1 (fun hb=>?_) fun hb=>?_
  · refine yG hn_g1 ?_
    refine yT hC hn_g1 ?_
    exact .one (.c (ler_int (sign_zero hw hb)))
  · refine yG hn_g1 ?_
    refine yF hn_g1 (fun hp=>?_) fun hp=>?_
    · refine yG hn_g1 ?_
      refine yT hC hn_g1 ?_
      refine .one (.c (ler_int ?_))
      rw [sign_some hw hb, hp]; rfl
    · refine yG hn_g1 ?_
      refine yT hC hn_g1 ?_
      refine .one (.c (ler_int ?_))
      rw [sign_some hw hb, hp]; rfl
theorem qmulW (a b : Nat) (ha : (words a).length ≤ 68719476736) (hb : (words b).length ≤ 68719476736) : Fa Tryz.prog 77 [.c (ws false (words a)), .c (ws false (words b))] (.c (ws true (words (a * b)))) := by
  have := qmul_fa (words a) (words b) (words_lt a) (words_lt b) ha hb
  rwa [val_words, val_words] at this
theorem qaddW (a b : Nat) (ha : (words a).length ≤ 68719476736) (hb : (words b).length ≤ 68719476736) : Fa Tryz.prog 78 [.c (ws false (words a)), .c (ws false (words b))] (.c (ws true (words (a + b)))) := by
  have := qadd_fa (words a) (words b) (words_lt a) (words_lt b) ha hb
  rwa [val_words, val_words] at this
theorem qsubW (a b : Nat) (ha : (words a).length ≤ 68719476736) (hb : (words b).length ≤ 68719476736) (h : b ≤ a) : Fa Tryz.prog 80 [.c (ws false (words a)), .c (ws false (words b))] (.tup [.c (ws true (words (a - b))), .c (.int .i64 0)]) := by
  have := qsub_fa (words a) (words b) (words_lt a) (words_lt b) ha hb (by rw [val_words, val_words]; exact h)
  rwa [val_words, val_words] at this
theorem qcmpW (a b : Nat) (ha : (words a).length ≤ 68719476736) (hb : (words b).length ≤ 68719476736) : Fa Tryz.prog 79 [.c (ws false (words a)), .c (ws false (words b))] (.c (.int .i64 (cmpN a b))) := by
  have := qcmp_fa (words a) (words b) (words_lt a) (words_lt b) ha hb
  rwa [val_words, val_words] at this
set_option maxHeartbeats 1600000 in
theorem sadd_fa (a b : RD) (ha : a.wf 1073741824) (hb : b.wf 1073741824) : Fa Tryz.prog 45 [.agg (rdc a), .agg (rdc b)] (.agg (rdc (rd (a.q + b.q)))) := by
  obtain ⟨l1, l2⟩ := RD.p_len ha (by omega)
  obtain ⟨l3, l4⟩ := RD.p_len hb (by omega)
  have d1 := RD.pd_ne ha
  have d2 := RD.pd_ne hb
  have dd : a.pd * b.pd ≠ 0 := Nat.mul_ne_zero d1 d2
  have m1 := words_mul_len a.pn b.pd
  have m2 := words_mul_len b.pn a.pd
  have m3 := words_mul_len a.pd b.pd
  have m4 := words_add_len (m := a.pn * b.pd) (n := b.pn * a.pd) (k := 2147483648) (by omega) (by omega)
  refine fa_of_body Tryz.func45 rfl rfl (by simp [Tryz.ntmps45]) fun C hC => ?_
  simp only [initS, Nat.reduceAdd]
  refine xG ?_
  refine xB fun g2 hn_g2=>?_
  refine yB hn_g2 fun g3 hn_g3=>?_
  refine yA (oj hn_g2 hn_g3) fun g4 hn_g4=>?_
  refine yG (oj hn_g2 (oj hn_g3 hn_g4)) ?_
  refine yC (oj hn_g2 (oj hn_g3 hn_g4)) (sparts_fa a ha) ?_
  refine yG (oj hn_g2 (oj hn_g3 hn_g4)) ?_
  refine yC (oj hn_g2 (oj hn_g3 hn_g4)) (sparts_fa b hb) ?_
  refine yG (oj hn_g2 (oj hn_g3 hn_g4)) ?_
  refine yC (oj hn_g2 (oj hn_g3 hn_g4)) (qmulW a.pn b.pd ?_ ?_) ?_
  · omega
  · omega
  refine yG (oj hn_g2 (oj hn_g3 hn_g4)) ?_
  refine yC (oj hn_g2 (oj hn_g3 hn_g4)) (qmulW b.pn a.pd ?_ ?_) ?_
  · omega
  · omega
  refine yG (oj hn_g2 (oj hn_g3 hn_g4)) ?_
  refine yC (oj hn_g2 (oj hn_g3 hn_g4)) (qmulW a.pd b.pd ?_ ?_) ?_
  · omega
  · omega
  refine yG (oj hn_g2 (oj hn_g3 hn_g4)) ?_
  refine yF (oj hn_g2 (oj hn_g3 hn_g4)) (fun hs=>?_) fun hs=>?_
  · have hs' : a.ps = b.ps := eq_of_beq hs
    refine yG (oj hn_g2 (oj hn_g3 hn_g4)) ?_
    refine yC (oj hn_g2 (oj hn_g3 hn_g4)) (qaddW _ _ ?_ ?_) ?_
    · omega
    · omega
    refine yG (oj hn_g2 (oj hn_g3 hn_g4)) ?_
    refine yC (oj hn_g2 (oj hn_g3 hn_g4)) (sfromW _ _ _ ?_ ?_ dd) ?_
    · omega
    · omega
    refine yG (oj hn_g2 (oj hn_g3 hn_g4)) ?_
    refine yA (oj hn_g2 (oj hn_g3 hn_g4)) fun g14 hn_g14=>?_
    refine yG (oj hn_g2 (oj hn_g3 (oj hn_g4 hn_g14))) ?_
    refine yW (oj hn_g2 (oj hn_g3 (oj hn_g4 hn_g14))) ?_
    refine yS (oj hn_g2 (oj hn_g3 (oj hn_g4 hn_g14))) ?_
    refine yG (oj hn_g2 (oj hn_g3 (oj hn_g4 hn_g14))) ?_
    refine yW (oj hn_g2 (oj hn_g3 (oj hn_g4 hn_g14))) ?_
    refine yS (oj hn_g2 (oj hn_g3 (oj hn_g4 hn_g14))) ?_
    refine yG (oj hn_g2 (oj hn_g3 (oj hn_g4 hn_g14))) ?_
    refine yT hC (oj hn_g2 (oj hn_g3 (oj hn_g4 hn_g14))) ?_
    refine ler_rd ?_
    rw [sq_add_same _ d1 d2]
    unfold RD.q; rw [hs']
  · have hs' : b.ps = !a.ps := not_of_bne hs
    refine yG (oj hn_g2 (oj hn_g3 hn_g4)) ?_
    refine yC (oj hn_g2 (oj hn_g3 hn_g4)) (qcmpW _ _ ?_ ?_) ?_
    · omega
    · omega
    refine yG (oj hn_g2 (oj hn_g3 hn_g4)) ?_
    refine yF (oj hn_g2 (oj hn_g3 hn_g4)) (fun hc=>?_) fun hc=>?_
    · have hle : a.pn * b.pd ≤ b.pn * a.pd := by
        have := of_decide_eq_true hc
        unfold cmpN at this
        split at this
        · omega
        · split at this <;> omega
      have hl5 := words_len_mono (Nat.sub_le (b.pn * a.pd) (a.pn * b.pd))
      refine yG (oj hn_g2 (oj hn_g3 hn_g4)) ?_
      refine yC (oj hn_g2 (oj hn_g3 hn_g4)) (qsubW _ _ ?_ ?_ hle) ?_
      · omega
      · omega
      refine yG (oj hn_g2 (oj hn_g3 hn_g4)) ?_
      refine yC (oj hn_g2 (oj hn_g3 hn_g4)) (sfromW _ _ _ ?_ ?_ dd) ?_
      · omega
      · omega
      refine yG (oj hn_g2 (oj hn_g3 hn_g4)) ?_
      refine yA (oj hn_g2 (oj hn_g3 hn_g4)) fun g18 hn_g18=>?_
      refine yG (oj hn_g2 (oj hn_g3 (oj hn_g4 hn_g18))) ?_
      refine yW (oj hn_g2 (oj hn_g3 (oj hn_g4 hn_g18))) ?_
      refine yS (oj hn_g2 (oj hn_g3 (oj hn_g4 hn_g18))) ?_
      refine yG (oj hn_g2 (oj hn_g3 (oj hn_g4 hn_g18))) ?_
      refine yW (oj hn_g2 (oj hn_g3 (oj hn_g4 hn_g18))) ?_
      refine yS (oj hn_g2 (oj hn_g3 (oj hn_g4 hn_g18))) ?_
      refine yG (oj hn_g2 (oj hn_g3 (oj hn_g4 hn_g18))) ?_
      refine yT hC (oj hn_g2 (oj hn_g3 (oj hn_g4 hn_g18))) ?_
      refine ler_rd ?_
      rw [hs', sq_add_lt _ d1 d2 hle]
      unfold RD.q; rw [hs']
    · have hle : b.pn * a.pd ≤ a.pn * b.pd := by
        have := of_decide_eq_false hc
        unfold cmpN at this
        split at this
        · omega
        · omega
      have hl5 := words_len_mono (Nat.sub_le (a.pn * b.pd) (b.pn * a.pd))
      refine yG (oj hn_g2 (oj hn_g3 hn_g4)) ?_
      refine yC (oj hn_g2 (oj hn_g3 hn_g4)) (qsubW _ _ ?_ ?_ hle) ?_
      · omega
      · omega
      refine yG (oj hn_g2 (oj hn_g3 hn_g4)) ?_
      refine yC (oj hn_g2 (oj hn_g3 hn_g4)) (sfromW _ _ _ ?_ ?_ dd) ?_
      · omega
      · omega
      refine yG (oj hn_g2 (oj hn_g3 hn_g4)) ?_
      refine yA (oj hn_g2 (oj hn_g3 hn_g4)) fun g18 hn_g18=>?_
      refine yG (oj hn_g2 (oj hn_g3 (oj hn_g4 hn_g18))) ?_
      refine yW (oj hn_g2 (oj hn_g3 (oj hn_g4 hn_g18))) ?_
      refine yS (oj hn_g2 (oj hn_g3 (oj hn_g4 hn_g18))) ?_
      refine yG (oj hn_g2 (oj hn_g3 (oj hn_g4 hn_g18))) ?_
      refine yW (oj hn_g2 (oj hn_g3 (oj hn_g4 hn_g18))) ?_
      refine yS (oj hn_g2 (oj hn_g3 (oj hn_g4 hn_g18))) ?_
      refine yG (oj hn_g2 (oj hn_g3 (oj hn_g4 hn_g18))) ?_
      refine yT hC (oj hn_g2 (oj hn_g3 (oj hn_g4 hn_g18))) ?_
      refine ler_rd ?_
      rw [sq_add_ge _ d1 d2 hle]
      unfold RD.q; rw [hs']
set_option maxHeartbeats 800000 in
theorem ssub_fa (a b : RD) (ha : a.wf 1073741824) (hb : b.wf 1073741824) : Fa Tryz.prog 47 [.agg (rdc a), .agg (rdc b)] (.agg (rdc (rd (a.q - b.q)))) := by
  refine fa_of_body Tryz.func47 rfl rfl (by simp [Tryz.ntmps47]) fun C hC => ?_
  simp only [initS, Nat.reduceAdd]
  refine xG ?_
  refine xB fun g2 hn_g2=>?_
  refine yB hn_g2 fun g3 hn_g3=>?_
  refine yA (oj hn_g2 hn_g3) fun g4 hn_g4=>?_
  refine yG (oj hn_g2 (oj hn_g3 hn_g4)) ?_
  refine aw_dr 4 ty_mixed (by kernel_rfl) ?_
  refine yG (oj hn_g2 (oj hn_g3 hn_g4)) ?_
  refine yD (oj hn_g2 (oj hn_g3 hn_g4)) (sneg_fa b hb) ?_
  refine yG (oj hn_g2 (oj hn_g3 hn_g4)) ?_
  refine yD (oj hn_g2 (oj hn_g3 hn_g4)) (sadd_fa a (rd (-b.q)) ha (neg_wf hb)) ?_
  refine yG (oj hn_g2 (oj hn_g3 hn_g4)) ?_
  refine yW (oj hn_g2 (oj hn_g3 hn_g4)) ?_
  refine yS (oj hn_g2 (oj hn_g3 hn_g4)) ?_
  refine yG (oj hn_g2 (oj hn_g3 hn_g4)) ?_
  refine yT hC (oj hn_g2 (oj hn_g3 hn_g4)) ?_
  exact ler_rd (by rw [rd_q, Rat.sub_eq_add_neg])
theorem sub_wf {a b : RD} {L : Nat} (hL : 1 ≤ L) (ha : a.wf L) (hb : b.wf L) (h : 2 * L + 1 ≤ 1073741824) : (rd (a.q - b.q)).wf 1073741824 :=
  rd_wf (fits_mono (fits_sub (RD.fits ha hL) (RD.fits hb hL)) (by omega))
set_option maxHeartbeats 800000 in
theorem scmp_fa (a b : RD) (ha : a.wf 500000000) (hb : b.wf 500000000) : Fa Tryz.prog 39 [.agg (rdc a), .agg (rdc b)] (.c (.int .i64 (signQ (a.q - b.q)))) := by
  refine fa_of_body Tryz.func39 rfl rfl (by simp [Tryz.ntmps39]) fun C hC => ?_
  simp only [initS, Nat.reduceAdd]
  refine xG ?_
  refine xB fun g2 hn_g2=>?_
  refine yB hn_g2 fun g3 hn_g3=>?_
  refine yG (oj hn_g2 hn_g3) ?_
  refine yC (oj hn_g2 hn_g3) (ssub_fa a b (wf_mono ha ?_) (wf_mono hb ?_)) ?_
  · omega
  · omega
  refine yG (oj hn_g2 hn_g3) ?_
  refine yC (oj hn_g2 hn_g3) (ssign_fa _ ?_) ?_
  · exact sub_wf (by omega) ha hb (by omega)
  rw [rd_q]
  refine yG (oj hn_g2 hn_g3) ?_
  refine yT hC (oj hn_g2 hn_g3) ?_
  exact .one (.c (.int _ _))
set_option maxHeartbeats 800000 in
theorem rcmp_fa (a b : RD) (ha : a.wf 500000000) (hb : b.wf 500000000) : Fa Tryz.prog 24 [.agg (rdc a), .agg (rdc b)] (.c (.int .i64 (signQ (a.q - b.q)))) := by
  refine fa_of_body Tryz.func24 rfl rfl (by simp [Tryz.ntmps24]) fun C hC => ?_
  simp only [initS, Nat.reduceAdd]
  refine xG ?_
  refine xB fun g2 hn_g2=>?_
  refine yB hn_g2 fun g3 hn_g3=>?_
  refine yG (oj hn_g2 hn_g3) ?_
  refine yC (oj hn_g2 hn_g3) (rsub_fa a b (wf_mono ha ?_) (wf_mono hb ?_)) ?_
  · omega
  · omega
  refine yG (oj hn_g2 hn_g3) ?_
  refine yC (oj hn_g2 hn_g3) (rsign_fa _ ?_) ?_
  · exact sub_wf (by omega) ha hb (by omega)
  rw [rd_q]
  refine yG (oj hn_g2 hn_g3) ?_
  refine yT hC (oj hn_g2 hn_g3) ?_
  exact .one (.c (.int _ _))
end Go.Proofs.YtcoflhkcpnoaaaaGreatDoor
namespace Go.AI
open Go.PN
def isF (xs : List Int) (j : Nat) : CV := .int .i64 (xs.getD j 0)
@[go_sem] theorem isF_at (xs : List Int) (j : Nat) : isF xs j = .int .i64 (xs.getD j 0) := rfl
abbrev is (t : Bool) (xs : List Int) : CV := .row t 1 xs.length (isF xs)
def bsF (xs : List Bool) (j : Nat) : CV := .bool (xs.getD j false)
@[go_sem] theorem bsF_at (xs : List Bool) (j : Nat) : bsF xs j = .bool (xs.getD j false) := rfl
abbrev bs (t : Bool) (xs : List Bool) : CV := .row t 1 xs.length (bsF xs)
def rd0 : RD := ⟨false, [], []⟩
def ratsF (ps : List RD) : Nat → CV := lf 3 (fun r : RD => [CV.bool r.neg, ws true r.num, ws true r.den]) rd0 ps
@[go_sem] theorem ratsF_0 (ps : List RD) (i : Nat) : ratsF ps (i * 3) = .bool (ps.getD i rd0).neg := by
  have := lf_at (s := 3) (c := fun r : RD => [CV.bool r.neg, ws true r.num, ws true r.den]) (d := rd0) (xs := ps) (i := i) (k := 0) (by omega)
  exact this
@[go_sem] theorem ratsF_1 (ps : List RD) (i : Nat) : ratsF ps (i * 3 + 1) = ws true (ps.getD i rd0).num := by
  have := lf_at (s := 3) (c := fun r : RD => [CV.bool r.neg, ws true r.num, ws true r.den]) (d := rd0) (xs := ps) (i := i) (k := 1) (by omega)
  exact this
@[go_sem] theorem ratsF_2 (ps : List RD) (i : Nat) : ratsF ps (i * 3 + 2) = ws true (ps.getD i rd0).den := by
  have := lf_at (s := 3) (c := fun r : RD => [CV.bool r.neg, ws true r.num, ws true r.den]) (d := rd0) (xs := ps) (i := i) (k := 2) (by omega)
  exact this
abbrev rats (t : Bool) (ps : List RD) : CV := .row t 3 ps.length (ratsF ps)
structure DN where
  v : Int
  lo : Int
  hi : Int
  deriving DecidableEq
def dn0 : DN := ⟨0, 0, 0⟩
def dnsF (ns : List DN) : Nat → CV := lf 3 (fun r : DN => [CV.int .i64 r.v, .int .i64 r.lo, .int .i64 r.hi]) dn0 ns
@[go_sem] theorem dnsF_0 (ps : List DN) (i : Nat) : dnsF ps (i * 3) = .int .i64 (ps.getD i dn0).v := by
  have := lf_at (s := 3) (c := fun r : DN => [CV.int .i64 r.v, .int .i64 r.lo, .int .i64 r.hi]) (d := dn0) (xs := ps) (i := i) (k := 0) (by omega)
  exact this
@[go_sem] theorem dnsF_1 (ps : List DN) (i : Nat) : dnsF ps (i * 3 + 1) = .int .i64 (ps.getD i dn0).lo := by
  have := lf_at (s := 3) (c := fun r : DN => [CV.int .i64 r.v, .int .i64 r.lo, .int .i64 r.hi]) (d := dn0) (xs := ps) (i := i) (k := 1) (by omega)
  exact this
@[go_sem] theorem dnsF_2 (ps : List DN) (i : Nat) : dnsF ps (i * 3 + 2) = .int .i64 (ps.getD i dn0).hi := by
  have := lf_at (s := 3) (c := fun r : DN => [CV.int .i64 r.v, .int .i64 r.lo, .int .i64 r.hi]) (d := dn0) (xs := ps) (i := i) (k := 2) (by omega)
  exact this
abbrev dns (t : Bool) (ns : List DN) : CV := .row t 3 ns.length (dnsF ns)
structure DG where
  order : List Int
  nodes : List DN
  root : Int
abbrev dgc (t : Bool) (d : DG) : List CV := [is t d.order, dns t d.nodes, .int .i64 d.root]
structure FN where
  kind : Int
  k : Int
  args : List Int
def fn0 : FN := ⟨0, 0, []⟩
def fnsF (ns : List FN) : Nat → CV := lf 3 (fun r : FN => [CV.int .i64 r.kind, .int .i64 r.k, is true r.args]) fn0 ns
@[go_sem] theorem fnsF_0 (ps : List FN) (i : Nat) : fnsF ps (i * 3) = .int .i64 (ps.getD i fn0).kind := by
  have := lf_at (s := 3) (c := fun r : FN => [CV.int .i64 r.kind, .int .i64 r.k, is true r.args]) (d := fn0) (xs := ps) (i := i) (k := 0) (by omega)
  exact this
@[go_sem] theorem fnsF_1 (ps : List FN) (i : Nat) : fnsF ps (i * 3 + 1) = .int .i64 (ps.getD i fn0).k := by
  have := lf_at (s := 3) (c := fun r : FN => [CV.int .i64 r.kind, .int .i64 r.k, is true r.args]) (d := fn0) (xs := ps) (i := i) (k := 1) (by omega)
  exact this
@[go_sem] theorem fnsF_2 (ps : List FN) (i : Nat) : fnsF ps (i * 3 + 2) = is true (ps.getD i fn0).args := by
  have := lf_at (s := 3) (c := fun r : FN => [CV.int .i64 r.kind, .int .i64 r.k, is true r.args]) (d := fn0) (xs := ps) (i := i) (k := 2) (by omega)
  exact this
abbrev fns (t : Bool) (ns : List FN) : CV := .row t 3 ns.length (fnsF ns)
structure FM where
  vars : Int
  nodes : List FN
  top : Int
abbrev fmc (t : Bool) (f : FM) : List CV := [.int .i64 f.vars, fns t f.nodes, .int .i64 f.top]
def errC (T : TypeId) (c : Int) : CV := if c = 0 then .nilI else .ifc T (.int .i64 c)
@[go_sem] theorem errC_solid (T : TypeId) (c : Int) : (errC T c).solid = true := by unfold errC; split <;> rfl
theorem binAV_errE {P : Program} {nw : Bool} {t T : TypeId} {y : Operand} {c : Int} (hy : isNil y = true) : binAV P nw .eql t y (.c (errC T c)) (.c .nilI) = some (tIfc P t = true, .c (.bool (decide (c = 0)))) := by
  unfold errC
  split
  · rename_i h; simp [binAV, hy, nilAV, h]
  · rename_i h; simp [binAV, hy, nilAV, h]
theorem binAV_errN {P : Program} {nw : Bool} {t T : TypeId} {y : Operand} {c : Int} (hy : isNil y = true) : binAV P nw .neq t y (.c (errC T c)) (.c .nilI) = some (tIfc P t = true, .c (.bool (!decide (c = 0)))) := by
  unfold errC
  split
  · rename_i h; simp [binAV, hy, nilAV, h]
  · rename_i h; simp [binAV, hy, nilAV, h]
@[go_sem ↓] theorem binAV_errE' (P : Program) (nw : Bool) (t T : TypeId) (c : Int) : binAV P nw .eql t (.const .nilIface) (.c (errC T c)) (.c .nilI) = some (tIfc P t = true, .c (.bool (decide (c = 0)))) := binAV_errE rfl
@[go_sem ↓] theorem binAV_errN' (P : Program) (nw : Bool) (t T : TypeId) (c : Int) : binAV P nw .neq t (.const .nilIface) (.c (errC T c)) (.c .nilI) = some (tIfc P t = true, .c (.bool (!decide (c = 0)))) := binAV_errN rfl
theorem ler_err {h : Heap} {T : TypeId} {c : Int} : LeR h (errC T c) (errC T c) := by unfold errC; split; exact .nilI; exact .ifc (.int _ _)
theorem ler_err0 {h : Heap} {T : TypeId} {c : Int} (e : c = 0) : LeR h .nilI (errC T c) := by unfold errC; rw [if_pos e]; exact .nilI
theorem ler_errN {h : Heap} {T : TypeId} {n c : Int} (e : n = c) (h0 : c ≠ 0) : LeR h (.ifc T (.int .i64 n)) (errC T c) := by unfold errC; rw [if_neg h0, e]; exact .ifc (.int _ _)
theorem lf_ler {α : Type} {h : Heap} {s : Nat} {c : α → List CV} {d : α} {xs : List α} (hs : 0 < s) (hc : ∀ x ∈ xs, ∀ k, k < s → LeR h (ofL (c x) k) (ofL (c x) k)) : ∀ j, j < xs.length * s → LeR h (lf s c d xs j) (lf s c d xs j) := fun j hj => by
  unfold lf
  have h1 : j / s < xs.length := (Nat.div_lt_iff_lt_mul hs).2 hj
  rw [List.getD_eq_getElem?_getD, List.getElem?_eq_getElem h1]
  exact hc _ (List.getElem_mem h1) _ (Nat.mod_lt _ hs)
end Go.AI
namespace Go.Proofs.YtcoflhkcpnoaaaaGreatDoor
open Go.AI Go.PN
attribute [local irreducible] aw Fa Fh DrK
abbrev errA (c : Int) : CV := errC 53 c
instance : DecidableEq RD := fun a b => decidable_of_iff (a.neg = b.neg ∧ a.num = b.num ∧ a.den = b.den) (by cases a; cases b; simp)
end Go.Proofs.YtcoflhkcpnoaaaaGreatDoor
