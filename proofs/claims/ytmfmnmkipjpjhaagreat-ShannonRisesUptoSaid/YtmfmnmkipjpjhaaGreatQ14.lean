/- Texts of one proof, laid one behind the other by a program (merge.py): Ref5, Ref6, Data, Glue, Prob. -/
import Derived.Test.YtmfmnmkipjpjhaaGreatQ13
import Derived.Test.YtmfmnmkipjpjhaaGreatRows
import Derived.WalkKit
import Derived.ProofKit
import Derived.OpenShut
import Derived.JoinedCond
import Derived.Carry
set_option linter.unusedSimpArgs false
set_option linter.unusedVariables false
/- faultlineref02: Valid, Parts, From, size, Make, Of, Neg. -/
namespace Go.Proofs.YtmfmnmkipjpjhaaGreat
open Go.AI Go.PN
attribute [local irreducible] aw Fa Fh DrK
theorem bitlen_one {n : Nat} : ((bitlen n : Int) == 1) = decide (n = 1) := by
  rw [Bool.eq_iff_iff]
  simp only [beq_iff_eq, decide_eq_true_eq]
  unfold bitlen
  constructor
  · intro h
    split at h
    · omega
    · rename_i h0
      have h1 : Nat.log2 n = 0 := by omega
      have h2 := (Nat.log2_lt h0 (k := 1)).1 (by omega)
      omega
  · intro h; subst h; rfl
theorem len_ne {xs : List Nat} (h : xs.length ≠ 0) : ((xs.length : Int) == 0) = false := by
  rw [beq_eq_false_iff_ne]; omega
theorem len_eq {xs : List Nat} (h : xs.length = 0) : ((xs.length : Int) == 0) = true := by rw [h]; rfl
set_option maxHeartbeats 1600000 in
theorem svalid_fa (r : RD) (hw : r.wf 34359738368) : Fa Tryz.prog 67 [.agg (rdc r)] (.c (.bool r.valid)) := by
  have hl1 := hw.2.2.1
  have hl2 := hw.2.2.2
  refine fa_of_body Tryz.func67 rfl rfl (by simp [Tryz.ntmps67]) fun C hC => ?_
  simp only [initS, Nat.reduceAdd]
  refine xG ?_
  refine xB fun g1 hn_g1=>?_
  refine yG hn_g1 ?_
  refine aw_dr 8 ty_mixed (by kernel_rfl) ?_
  refine yG hn_g1 ?_
  by_cases hn : r.num.length = 0
  · have hn' := len_eq hn
    by_cases hd : r.den.length = 0
    · have hd' := len_eq hd
      refine yG (oj hn_g1 (oj hn' hd')) ?_
      refine yP (oj hn_g1 (oj hn' hd')) ?_
      refine yG (oj hn_g1 (oj hn' hd')) ?_
      refine yT hC (oj hn_g1 (oj hn' hd')) ?_
      exact .one (.c (ler_bool (valid_zero hn' hd')))
    · have hd' := len_ne hd
      refine yG (oj hn_g1 (oj hn' hd')) ?_
      refine yP (oj hn_g1 (oj hn' hd')) ?_
      refine yG (oj hn_g1 (oj hn' hd')) ?_
      refine yT hC (oj hn_g1 (oj hn' hd')) ?_
      refine .one (.c (ler_bool ?_))
      rw [valid_else (.inr hd'), plain_no (by omega), Bool.false_and, Bool.false_and]
  · have hn' := len_ne hn
    by_cases hd : r.den.length = 0
    · have hd' := len_eq hd
      refine yG (oj hn_g1 (oj hn' hd')) ?_
      refine yP (oj hn_g1 (oj hn' hd')) ?_
      refine yG (oj hn_g1 (oj hn' hd')) ?_
      refine yT hC (oj hn_g1 (oj hn' hd')) ?_
      refine .one (.c (ler_bool ?_))
      rw [valid_else (.inl hn'), plain_no (xs := r.den) (by omega), Bool.and_false, Bool.false_and]
    · have hd' := len_ne hd
      refine yG (oj hn_g1 (oj hn' hd')) ?_
      refine yN (oj hn_g1 (oj hn' hd')) ?_
      refine yG (oj hn_g1 (oj hn' hd')) ?_
      rw [valid_else (.inl hn'), plain_eq (xs := r.num) (by omega), plain_eq (xs := r.den) (by omega)]
      refine aw_split 35 (zE (oj hn_g1 (oj hn' hd'))) (fun h1 => ?_) (fun h1 => ?_) <;> refine yS (oj hn_g1 (oj hn' hd')) ?_
      · refine yG (oj hn_g1 (oj hn' hd')) ?_
        refine aw_split 44 (zE (oj hn_g1 (oj hn' hd'))) (fun h2 => ?_) (fun h2 => ?_) <;> refine yS (oj hn_g1 (oj hn' hd')) ?_
        · refine yG (oj hn_g1 (oj hn' hd')) ?_
          refine yC (oj hn_g1 (oj hn' hd')) (qgcd_fa _ _ hw.1 hw.2.1 ?_ ?_) ?_
          · omega
          · omega
          refine yG (oj hn_g1 (oj hn' hd')) ?_
          have hg : (words (Nat.gcd (val r.num) (val r.den))).length ≤ 68719476736 := by
            by_cases h : val r.num = 0
            · rw [h, Nat.gcd_zero_left]; have := words_val_len _ hw.2.1; omega
            · have h3 := words_len_mono (Nat.gcd_le_left (val r.den) (Nat.pos_of_ne_zero h)); have := words_val_len _ hw.1; omega
          refine yC (oj hn_g1 (oj hn' hd')) (qbits_fa _ (words_lt _) hg) ?_
          rw [val_words]
          refine yG (oj hn_g1 (oj hn' hd')) ?_
          refine yT hC (oj hn_g1 (oj hn' hd')) ?_
          refine .one (.c (ler_bool ?_))
          rw [h1, h2, bitlen_one]; rfl
        · refine yG (oj hn_g1 (oj hn' hd')) ?_
          refine yT hC (oj hn_g1 (oj hn' hd')) ?_
          refine .one (.c (ler_bool ?_))
          rw [h2, Bool.and_false, Bool.false_and]
      · refine yG (oj hn_g1 (oj hn' hd')) ?_
        refine yT hC (oj hn_g1 (oj hn' hd')) ?_
        refine .one (.c (ler_bool ?_))
        rw [h1, Bool.false_and, Bool.false_and]
theorem ler_one {h : Heap} {t : Bool} {g : Nat} {ty : TypeId} (hg : h.get g = some (.cells ty 1 (ofL [.int .u32 1]))) : LeR h (.osl g 1 0 1) (ws t [1]) :=
  ler_oslws hg (by omega) rfl (fun j hj => by match j, hj with | 0, _ => rfl)
set_option maxHeartbeats 1600000 in
theorem sparts_fa (r : RD) (hw : r.wf 1073741824) : Fa Tryz.prog 69 [.agg (rdc r)] (partsAV r) := by
  refine fa_of_body Tryz.func69 rfl rfl (by simp [Tryz.ntmps69]) fun C hC => ?_
  simp only [initS, Nat.reduceAdd]
  refine xG ?_
  refine xB fun g1 hn_g1=>?_
  refine yG hn_g1 ?_
  refine yC hn_g1 (svalid_fa r (wf_mono hw ?_)) ?_
  · omega
  refine yG hn_g1 ?_
  refine aw_split 8 (zE hn_g1) (fun hv => ?_) (fun hv => ?_) <;> refine yS hn_g1 ?_
  · have hs := RD.pn_none (none_of (r := r) (.inl (by simpa using hv)))
    refine yG hn_g1 ?_
    refine yP hn_g1 ?_
    refine yG hn_g1 ?_
    refine aw_buildSlice (xs := [.const (.int .u32 1)]) (cells := [.int .u32 1]) rfl rfl rfl ty_e_ws (by rw [envP, ty_z_u32]; rfl) rfl (by omega) (by omega) (by intro x hx; simp only [List.mem_cons, List.not_mem_nil, or_false] at hx; subst hx; exact ⟨rfl, rfl, rfl⟩) rfl fun g hg => ?_
    replace hg := Heap.ne_of hg
    dsimp only [Heap.ne] at hg
    refine yS (oj hn_g1 hg) ?_
    refine yG (oj hn_g1 hg) ?_
    refine yT hC (oj hn_g1 hg) ?_
    refine .tup ⟨.c (ler_bool hs.2.2.symm), .c ?_, .c ?_, trivial⟩
    · rw [hs.1]; exact .nils
    · rw [hs.2.1]; exact ler_one (zE (oj hn_g1 hg))
  · have hv' : r.valid = true := by simpa using hv
    refine yG hn_g1 ?_
    refine yF hn_g1 (fun hn=>?_) fun hn=>?_
    · have hs := RD.pn_none (none_of (r := r) (.inr hn))
      refine yG hn_g1 ?_
      refine aw_buildSlice (xs := [.const (.int .u32 1)]) (cells := [.int .u32 1]) rfl rfl rfl ty_e_ws (by rw [envP, ty_z_u32]; rfl) rfl (by omega) (by omega) (by intro x hx; simp only [List.mem_cons, List.not_mem_nil, or_false] at hx; subst hx; exact ⟨rfl, rfl, rfl⟩) rfl fun g hg => ?_
      replace hg := Heap.ne_of hg
      dsimp only [Heap.ne] at hg
      refine yS (oj hn_g1 hg) ?_
      refine yG (oj hn_g1 hg) ?_
      refine yT hC (oj hn_g1 hg) ?_
      refine .tup ⟨.c (ler_bool hs.2.2.symm), .c ?_, .c ?_, trivial⟩
      · rw [hs.1]; exact .nils
      · rw [hs.2.1]; exact ler_one (zE (oj hn_g1 hg))
    · have hs := RD.pn_words hw (some_of hv' hn)
      refine yG hn_g1 ?_
      refine aw_dr 9 ty_mixed (by kernel_rfl) ?_
      refine yG hn_g1 ?_
      refine yT hC hn_g1 ?_
      refine .tup ⟨.c (ler_bool hs.2.2.symm), .c ?_, .c ?_, trivial⟩
      · rw [hs.1]; exact ler_ws
      · rw [hs.2.1]; exact ler_ws
set_option maxHeartbeats 1600000 in
theorem sfrom_fa (neg : Bool) (xs ys : List Nat) (hx : ∀ x ∈ xs, x < 4294967296) (hy : ∀ x ∈ ys, x < 4294967296) (hlx : xs.length ≤ 34359738368) (hly : ys.length ≤ 34359738368) (h0 : val ys ≠ 0) :
    Fa Tryz.prog 71 [.c (.bool neg), .c (ws false xs), .c (ws false ys)] (.tup [.agg (rdc (rd (sq neg (val xs) (val ys)))), .c (.int .i64 0)]) := by
  refine fa_of_body Tryz.func71 rfl rfl (by simp [Tryz.ntmps71]) fun C hC => ?_
  simp only [initS, Nat.reduceAdd]
  refine xG ?_
  refine xA fun g6 hn_g6=>?_
  refine yG hn_g6 ?_
  refine yC hn_g6 (qbits_fa ys hy ?_) ?_
  · omega
  refine yG hn_g6 ?_
  refine yF hn_g6 (fun hb=>?_) fun hb=>?_
  · exact absurd (bitlen_zero.1 (by have := eq_of_beq hb; omega)) h0
  refine yG hn_g6 ?_
  refine yC hn_g6 (qbits_fa xs hx ?_) ?_
  · omega
  refine yG hn_g6 ?_
  refine yF hn_g6 (fun hc=>?_) fun hc=>?_
  · have hz : val xs = 0 := bitlen_zero.1 (by have := eq_of_beq hc; omega)
    refine yG hn_g6 ?_
    refine yW hn_g6 ?_
    refine yS hn_g6 ?_
    refine yG hn_g6 ?_
    refine yT hC hn_g6 ?_
    rw [hz, sq_zero, rd_zero]
    exact .tup ⟨.agg ⟨.bool _, .nils, .nils, trivial⟩, .c (.int _ _), trivial⟩
  · have hz : val xs ≠ 0 := fun e => by rw [e] at hc; cases hc
    have hg : Nat.gcd (val xs) (val ys) ≠ 0 := fun e => h0 (Nat.eq_zero_of_gcd_eq_zero_right e)
    have hgl : (words (Nat.gcd (val xs) (val ys))).length ≤ 34359738368 := by
      have h3 := words_len_mono (Nat.gcd_le_left (val ys) (Nat.pos_of_ne_zero hz)); have := words_val_len _ hx; omega
    refine yG hn_g6 ?_
    refine yC hn_g6 (qgcd_fa xs ys hx hy hlx hly) ?_
    refine yG hn_g6 ?_
    refine yC hn_g6 (qdiv_fa xs (words (Nat.gcd (val xs) (val ys))) hx (words_lt _) hlx hgl ?_) ?_
    · rw [val_words]; exact hg
    rw [val_words]
    refine yG hn_g6 ?_
    refine yC hn_g6 (qdiv_fa ys (words (Nat.gcd (val xs) (val ys))) hy (words_lt _) hly hgl ?_) ?_
    · rw [val_words]; exact hg
    rw [val_words]
    refine yG hn_g6 ?_
    refine yW hn_g6 ?_
    refine yS hn_g6 ?_
    refine yG hn_g6 ?_
    refine yT hC hn_g6 ?_
    rw [rd_sq hz h0]
    exact .tup ⟨.agg ⟨.bool _, ler_ws, ler_ws, trivial⟩, .c (.int _ _), trivial⟩
theorem sfromW (neg : Bool) (n d : Nat) (hn : (words n).length ≤ 34359738368) (hd : (words d).length ≤ 34359738368) (h0 : d ≠ 0) :
    Fa Tryz.prog 71 [.c (.bool neg), .c (ws false (words n)), .c (ws false (words d))] (.tup [.agg (rdc (rd (sq neg n d))), .c (.int .i64 0)]) := by
  have := sfrom_fa neg (words n) (words d) (words_lt n) (words_lt d) hn hd (by rw [val_words]; exact h0)
  rwa [val_words, val_words] at this

/-- The two words of a number below 2^64. -/
def two (u : Nat) : List Nat := [u % 4294967296, u / 4294967296]
theorem two_val (u : Nat) : val (two u) = u := by simp only [two, val]; omega
theorem two_lt {u : Nat} (h : u < 18446744073709551616) : ∀ x ∈ two u, x < 4294967296 := fun x hx => by
  simp only [two, List.mem_cons, List.not_mem_nil, or_false] at hx
  rcases hx with rfl | rfl <;> omega
theorem wrap_u64_neg {n : Int} (h0 : -9223372036854775808 ≤ n) (h1 : n < 0) : wrapZ .u64 (0 - wrapZ .u64 n) = (n.natAbs : Int) := by
  rw [wrapZ_eq, wrapZ_eq, IntKind.wrap_u64, IntKind.wrap_u64]; omega
theorem wrap_u64_pos {n : Int} (h0 : 0 ≤ n) (h1 : n ≤ 9223372036854775807) : wrapZ .u64 n = (n.natAbs : Int) := by
  rw [wrapZ_eq, IntKind.wrap_u64]; omega
set_option maxHeartbeats 1600000 in
theorem ssize_fa (n : Int) (h0 : -9223372036854775808 ≤ n) (h1 : n ≤ 9223372036854775807) : Fa Tryz.prog 87 [.c (.int .i64 n)] (.c (ws true (two n.natAbs))) := by
  refine fa_of_body Tryz.func87 rfl rfl (by simp [Tryz.ntmps87]) fun C hC => ?_
  simp only [initS, Nat.reduceAdd]
  apply aw_seq
  apply aw_region
  refine xH ?_
  apply aw_seq
  apply aw_region
  refine xH ?_
  apply aw_seq
  refine aw_cut (fun _ : Unit => [(3, .c (.int .u64 n.natAbs))]) (fun _ => []) (fun _ => n ≤ 9223372036854775807) ?_ ?_
  · refine xG ?_
    refine xF (fun hb=>?_) fun hb=>?_
    · have hn : n < 0 := of_decide_eq_true hb
      have e1 := wrap_u64_neg h0 hn
      refine yG e1 ?_
      exact aw_stop ⟨(), (zB e1), zZ, h1⟩
    · have hn : 0 ≤ n := by have := of_decide_eq_false hb; omega
      have e1 := wrap_u64_pos hn h1
      refine yG e1 ?_
      exact aw_stop ⟨(), (zB e1), zZ, h1⟩
  rintro _ _
  have hu : n.natAbs < 18446744073709551616 := by omega
  generalize n.natAbs = u at hu ⊢
  have e1 := wrap_u32_nat u
  have e2 := nat_div_32 u
  have e3 : wrapZ .u32 ((u / 4294967296 : Nat) : Int) = ((u / 4294967296 : Nat) : Int) := by rw [wrap_u32_nat, Nat.mod_eq_of_lt (by omega)]
  refine yG (oj e1 (oj e2 e3)) ?_
  refine aw_buildSlice (xs := [.tmp 11, .tmp 14]) (cells := [.int .u32 (u % 4294967296 : Nat), .int .u32 (u / 4294967296 : Nat)]) rfl rfl rfl ty_e_ws (by rw [envP, ty_z_u32]; rfl) rfl (by omega) (by omega) (by intro x hx; simp only [List.mem_cons, List.not_mem_nil, or_false] at hx; rcases hx with rfl | rfl <;> exact ⟨rfl, rfl, rfl⟩) rfl fun g hg => ?_
  refine yS (oj e1 (oj e2 e3)) ?_
  refine yG (oj e1 (oj e2 e3)) ?_
  refine yT hC (oj e1 (oj e2 e3)) ?_
  exact .one (.c (ler_oslws (zE (oj e1 (oj e2 e3))) (by simp) rfl (fun j hj => by match j, hj with | 0, _ => rfl | 1, _ => rfl)))
theorem inv_neg' (d : Rat) : (-d)⁻¹ = - d⁻¹ := by
  by_cases h : d = 0
  · subst h; rw [Rat.neg_zero, Rat.inv_zero, Rat.neg_zero]
  · have h1 : d * d⁻¹ = 1 := Rat.mul_inv_cancel d h
    have h2 : (-d) * (-d)⁻¹ = 1 := Rat.mul_inv_cancel (-d) (by grind)
    grind
/-- n / d. -/
theorem sq_make (n d : Int) : sq (decide (n < 0) != decide (d < 0)) n.natAbs d.natAbs = (n : Rat) / (d : Rat) := by
  have e : ∀ m : Int, ((m.natAbs : Int) = m ∧ ¬ m < 0) ∨ ((m.natAbs : Int) = -m ∧ m < 0) := fun m => by omega
  unfold sq
  rw [Rat.mkRat_eq_div]
  have hs : ((sgn (decide (n < 0) != decide (d < 0)) n.natAbs : Int) : Rat) / ((d.natAbs : Nat) : Rat) = (n : Rat) / (d : Rat) := by
    have hd : ((d.natAbs : Nat) : Rat) = ((d.natAbs : Int) : Rat) := rfl
    rw [hd]
    unfold sgn
    rcases e n with ⟨h1, h2⟩ | ⟨h1, h2⟩ <;> rcases e d with ⟨h3, h4⟩ | ⟨h3, h4⟩
    · simp only [h2, h4, decide_false, bne_self_eq_false, Bool.false_eq_true, if_false, h1, h3]
    · simp only [h2, h4, decide_false, decide_true, bne, h1, h3]
      simp only [show (false == true) = false from rfl, Bool.not_false, if_true]
      rw [Rat.intCast_neg, Rat.intCast_neg, Rat.div_def, Rat.div_def, inv_neg']
      grind
    · simp only [h2, h4, decide_false, decide_true, bne, h1, h3]
      simp only [show (true == false) = false from rfl, Bool.not_false, if_true]
      rw [Int.neg_neg]
    · simp only [h2, h4, decide_true, bne_self_eq_false, Bool.false_eq_true, if_false, h1, h3]
      rw [Rat.intCast_neg, Rat.intCast_neg, Rat.div_def, Rat.div_def, inv_neg']
      grind
  exact hs
end Go.Proofs.YtmfmnmkipjpjhaaGreat

/- faultlineref02: Make, Of, Neg, Add, Sub, Mul, Sign, Cmp, Prob; rational: Cmp, Prob. -/
namespace Go.Proofs.YtmfmnmkipjpjhaaGreat
open Go.AI Go.PN
attribute [local irreducible] aw Fa Fh DrK
set_option maxHeartbeats 1600000 in
theorem smake_fa (n d : Int) (h0 : -9223372036854775808 ≤ n) (h1 : n ≤ 9223372036854775807) (h2 : -9223372036854775808 ≤ d) (h3 : d ≤ 9223372036854775807) (hd : d ≠ 0) :
    Fa Tryz.prog 48 [.c (.int .i64 n), .c (.int .i64 d)] (.tup [.agg (rdc (rd ((n : Rat) / (d : Rat)))), .c (.int .i64 0)]) := by
  refine fa_of_body Tryz.func48 rfl rfl (by simp [Tryz.ntmps48]) fun C hC => ?_
  simp only [initS, Nat.reduceAdd]
  refine xG ?_
  refine xA fun g4 hn_g4=>?_
  refine yG hn_g4 ?_
  refine yC hn_g4 (ssize_fa n h0 h1) ?_
  refine yG hn_g4 ?_
  refine yC hn_g4 (ssize_fa d h2 h3) ?_
  refine yG hn_g4 ?_
  refine yC hn_g4 (sfrom_fa _ (two n.natAbs) (two d.natAbs) (two_lt ?_) (two_lt ?_) ?_ ?_ ?_) ?_
  · omega
  · omega
  · simp [two]
  · simp [two]
  · rw [two_val]; omega
  rw [two_val, two_val, sq_make]
  refine yG hn_g4 ?_
  refine yW hn_g4 ?_
  refine yS hn_g4 ?_
  refine yG hn_g4 ?_
  refine yT hC hn_g4 ?_
  exact .tup ⟨.agg lerl_rd, .c (.int _ _), trivial⟩
set_option maxHeartbeats 1600000 in
theorem sof_fa (n : Int) (h0 : -9223372036854775808 ≤ n) (h1 : n ≤ 9223372036854775807) : Fa Tryz.prog 68 [.c (.int .i64 n)] (.agg (rdc (rd (n : Rat)))) := by
  refine fa_of_body Tryz.func68 rfl rfl (by simp [Tryz.ntmps68]) fun C hC => ?_
  simp only [initS, Nat.reduceAdd]
  refine xG ?_
  refine xA fun g2 hn_g2=>?_
  refine yG hn_g2 ?_
  refine yC hn_g2 (smake_fa n 1 h0 h1 ?_ ?_ ?_) ?_
  · omega
  · omega
  · omega
  refine yG hn_g2 ?_
  refine yA hn_g2 fun g3 hn_g3=>?_
  refine yG (oj hn_g2 hn_g3) ?_
  refine yW (oj hn_g2 hn_g3) ?_
  refine yS (oj hn_g2 hn_g3) ?_
  refine yG (oj hn_g2 hn_g3) ?_
  refine yW (oj hn_g2 hn_g3) ?_
  refine yS (oj hn_g2 hn_g3) ?_
  refine yG (oj hn_g2 hn_g3) ?_
  refine yT hC (oj hn_g2 hn_g3) ?_
  exact ler_rd (by congr 1; rw [Rat.intCast_one]; grind)
set_option maxHeartbeats 1600000 in
theorem sneg_fa (r : RD) (hw : r.wf 1073741824) : Fa Tryz.prog 38 [.agg (rdc r)] (.agg (rdc (rd (-r.q)))) := by
  obtain ⟨hl1, hl2⟩ := RD.p_len hw (by omega)
  refine fa_of_body Tryz.func38 rfl rfl (by simp [Tryz.ntmps38]) fun C hC => ?_
  simp only [initS, Nat.reduceAdd]
  refine xG ?_
  refine xB fun g1 hn_g1=>?_
  refine yA hn_g1 fun g2 hn_g2=>?_
  refine yG (oj hn_g1 hn_g2) ?_
  refine yC (oj hn_g1 hn_g2) (sparts_fa r hw) ?_
  refine yG (oj hn_g1 hn_g2) ?_
  refine yC (oj hn_g1 hn_g2) (sfromW _ r.pn r.pd ?_ ?_ (RD.pd_ne hw)) ?_
  · omega
  · omega
  refine yG (oj hn_g1 hn_g2) ?_
  refine yA (oj hn_g1 hn_g2) fun g6 hn_g6=>?_
  refine yG (oj hn_g1 (oj hn_g2 hn_g6)) ?_
  refine yW (oj hn_g1 (oj hn_g2 hn_g6)) ?_
  refine yS (oj hn_g1 (oj hn_g2 hn_g6)) ?_
  refine yG (oj hn_g1 (oj hn_g2 hn_g6)) ?_
  refine yW (oj hn_g1 (oj hn_g2 hn_g6)) ?_
  refine yS (oj hn_g1 (oj hn_g2 hn_g6)) ?_
  refine yG (oj hn_g1 (oj hn_g2 hn_g6)) ?_
  refine yT hC (oj hn_g1 (oj hn_g2 hn_g6)) ?_
  exact ler_rd (by rw [sq_neg]; rfl)
set_option maxHeartbeats 1600000 in
theorem ssign_fa (r : RD) (hw : r.wf 1073741824) : Fa Tryz.prog 39 [.agg (rdc r)] (.c (.int .i64 (signQ r.q))) := by
  refine fa_of_body Tryz.func39 rfl rfl (by simp [Tryz.ntmps39]) fun C hC => ?_
  simp only [initS, Nat.reduceAdd]
  refine xG ?_
  refine xB fun g1 hn_g1=>?_
  refine yG hn_g1 ?_
  refine yC hn_g1 (sparts_fa r hw) ?_
  refine yG hn_g1 ?_
  refine yF hn_g1 (fun hb=>?_) fun hb=>?_
  · refine yG hn_g1 ?_
    refine yT hC hn_g1 ?_
    exact .one (.c (ler_int (sign_zero hw hb)))
  · refine yG hn_g1 ?_
    refine yF hn_g1 (fun hp=>?_) fun hp=>?_
    · refine yG hn_g1 ?_
      refine yT hC hn_g1 ?_
      refine .one (.c (ler_int ?_))
      rw [sign_some hw hb, hp]; rfl
    · refine yG hn_g1 ?_
      refine yT hC hn_g1 ?_
      refine .one (.c (ler_int ?_))
      rw [sign_some hw hb, hp]; rfl
theorem qmulW (a b : Nat) (ha : (words a).length ≤ 68719476736) (hb : (words b).length ≤ 68719476736) : Fa Tryz.prog 70 [.c (ws false (words a)), .c (ws false (words b))] (.c (ws true (words (a * b)))) := by
  have := qmul_fa (words a) (words b) (words_lt a) (words_lt b) ha hb
  rwa [val_words, val_words] at this
theorem qaddW (a b : Nat) (ha : (words a).length ≤ 68719476736) (hb : (words b).length ≤ 68719476736) : Fa Tryz.prog 72 [.c (ws false (words a)), .c (ws false (words b))] (.c (ws true (words (a + b)))) := by
  have := qadd_fa (words a) (words b) (words_lt a) (words_lt b) ha hb
  rwa [val_words, val_words] at this
theorem qsubW (a b : Nat) (ha : (words a).length ≤ 68719476736) (hb : (words b).length ≤ 68719476736) (h : b ≤ a) : Fa Tryz.prog 74 [.c (ws false (words a)), .c (ws false (words b))] (.tup [.c (ws true (words (a - b))), .c (.int .i64 0)]) := by
  have := qsub_fa (words a) (words b) (words_lt a) (words_lt b) ha hb (by rw [val_words, val_words]; exact h)
  rwa [val_words, val_words] at this
theorem qcmpW (a b : Nat) (ha : (words a).length ≤ 68719476736) (hb : (words b).length ≤ 68719476736) : Fa Tryz.prog 73 [.c (ws false (words a)), .c (ws false (words b))] (.c (.int .i64 (cmpN a b))) := by
  have := qcmp_fa (words a) (words b) (words_lt a) (words_lt b) ha hb
  rwa [val_words, val_words] at this
set_option maxHeartbeats 1600000 in
theorem sadd_fa (a b : RD) (ha : a.wf 1073741824) (hb : b.wf 1073741824) : Fa Tryz.prog 34 [.agg (rdc a), .agg (rdc b)] (.agg (rdc (rd (a.q + b.q)))) := by
  obtain ⟨l1, l2⟩ := RD.p_len ha (by omega)
  obtain ⟨l3, l4⟩ := RD.p_len hb (by omega)
  have d1 := RD.pd_ne ha
  have d2 := RD.pd_ne hb
  have dd : a.pd * b.pd ≠ 0 := Nat.mul_ne_zero d1 d2
  have m1 := words_mul_len a.pn b.pd
  have m2 := words_mul_len b.pn a.pd
  have m3 := words_mul_len a.pd b.pd
  have m4 := words_add_len (m := a.pn * b.pd) (n := b.pn * a.pd) (k := 2147483648) (by omega) (by omega)
  refine fa_of_body Tryz.func34 rfl rfl (by simp [Tryz.ntmps34]) fun C hC => ?_
  simp only [initS, Nat.reduceAdd]
  refine xG ?_
  refine xB fun g2 hn_g2=>?_
  refine yB hn_g2 fun g3 hn_g3=>?_
  refine yA (oj hn_g2 hn_g3) fun g4 hn_g4=>?_
  refine yG (oj hn_g2 (oj hn_g3 hn_g4)) ?_
  refine yC (oj hn_g2 (oj hn_g3 hn_g4)) (sparts_fa a ha) ?_
  refine yG (oj hn_g2 (oj hn_g3 hn_g4)) ?_
  refine yC (oj hn_g2 (oj hn_g3 hn_g4)) (sparts_fa b hb) ?_
  refine yG (oj hn_g2 (oj hn_g3 hn_g4)) ?_
  refine yC (oj hn_g2 (oj hn_g3 hn_g4)) (qmulW a.pn b.pd ?_ ?_) ?_
  · omega
  · omega
  refine yG (oj hn_g2 (oj hn_g3 hn_g4)) ?_
  refine yC (oj hn_g2 (oj hn_g3 hn_g4)) (qmulW b.pn a.pd ?_ ?_) ?_
  · omega
  · omega
  refine yG (oj hn_g2 (oj hn_g3 hn_g4)) ?_
  refine yC (oj hn_g2 (oj hn_g3 hn_g4)) (qmulW a.pd b.pd ?_ ?_) ?_
  · omega
  · omega
  refine yG (oj hn_g2 (oj hn_g3 hn_g4)) ?_
  refine yF (oj hn_g2 (oj hn_g3 hn_g4)) (fun hs=>?_) fun hs=>?_
  · have hs' : a.ps = b.ps := eq_of_beq hs
    refine yG (oj hn_g2 (oj hn_g3 hn_g4)) ?_
    refine yC (oj hn_g2 (oj hn_g3 hn_g4)) (qaddW _ _ ?_ ?_) ?_
    · omega
    · omega
    refine yG (oj hn_g2 (oj hn_g3 hn_g4)) ?_
    refine yC (oj hn_g2 (oj hn_g3 hn_g4)) (sfromW _ _ _ ?_ ?_ dd) ?_
    · omega
    · omega
    refine yG (oj hn_g2 (oj hn_g3 hn_g4)) ?_
    refine yA (oj hn_g2 (oj hn_g3 hn_g4)) fun g14 hn_g14=>?_
    refine yG (oj hn_g2 (oj hn_g3 (oj hn_g4 hn_g14))) ?_
    refine yW (oj hn_g2 (oj hn_g3 (oj hn_g4 hn_g14))) ?_
    refine yS (oj hn_g2 (oj hn_g3 (oj hn_g4 hn_g14))) ?_
    refine yG (oj hn_g2 (oj hn_g3 (oj hn_g4 hn_g14))) ?_
    refine yW (oj hn_g2 (oj hn_g3 (oj hn_g4 hn_g14))) ?_
    refine yS (oj hn_g2 (oj hn_g3 (oj hn_g4 hn_g14))) ?_
    refine yG (oj hn_g2 (oj hn_g3 (oj hn_g4 hn_g14))) ?_
    refine yT hC (oj hn_g2 (oj hn_g3 (oj hn_g4 hn_g14))) ?_
    refine ler_rd ?_
    rw [sq_add_same _ d1 d2]
    unfold RD.q; rw [hs']
  · have hs' : b.ps = !a.ps := not_of_bne hs
    refine yG (oj hn_g2 (oj hn_g3 hn_g4)) ?_
    refine yC (oj hn_g2 (oj hn_g3 hn_g4)) (qcmpW _ _ ?_ ?_) ?_
    · omega
    · omega
    refine yG (oj hn_g2 (oj hn_g3 hn_g4)) ?_
    refine yF (oj hn_g2 (oj hn_g3 hn_g4)) (fun hc=>?_) fun hc=>?_
    · have hle : a.pn * b.pd ≤ b.pn * a.pd := by
        have := of_decide_eq_true hc
        unfold cmpN at this
        split at this
        · omega
        · split at this <;> omega
      have hl5 := words_len_mono (Nat.sub_le (b.pn * a.pd) (a.pn * b.pd))
      refine yG (oj hn_g2 (oj hn_g3 hn_g4)) ?_
      refine yC (oj hn_g2 (oj hn_g3 hn_g4)) (qsubW _ _ ?_ ?_ hle) ?_
      · omega
      · omega
      refine yG (oj hn_g2 (oj hn_g3 hn_g4)) ?_
      refine yC (oj hn_g2 (oj hn_g3 hn_g4)) (sfromW _ _ _ ?_ ?_ dd) ?_
      · omega
      · omega
      refine yG (oj hn_g2 (oj hn_g3 hn_g4)) ?_
      refine yA (oj hn_g2 (oj hn_g3 hn_g4)) fun g18 hn_g18=>?_
      refine yG (oj hn_g2 (oj hn_g3 (oj hn_g4 hn_g18))) ?_
      refine yW (oj hn_g2 (oj hn_g3 (oj hn_g4 hn_g18))) ?_
      refine yS (oj hn_g2 (oj hn_g3 (oj hn_g4 hn_g18))) ?_
      refine yG (oj hn_g2 (oj hn_g3 (oj hn_g4 hn_g18))) ?_
      refine yW (oj hn_g2 (oj hn_g3 (oj hn_g4 hn_g18))) ?_
      refine yS (oj hn_g2 (oj hn_g3 (oj hn_g4 hn_g18))) ?_
      refine yG (oj hn_g2 (oj hn_g3 (oj hn_g4 hn_g18))) ?_
      refine yT hC (oj hn_g2 (oj hn_g3 (oj hn_g4 hn_g18))) ?_
      refine ler_rd ?_
      rw [hs', sq_add_lt _ d1 d2 hle]
      unfold RD.q; rw [hs']
    · have hle : b.pn * a.pd ≤ a.pn * b.pd := by
        have := of_decide_eq_false hc
        unfold cmpN at this
        split at this
        · omega
        · omega
      have hl5 := words_len_mono (Nat.sub_le (a.pn * b.pd) (b.pn * a.pd))
      refine yG (oj hn_g2 (oj hn_g3 hn_g4)) ?_
      refine yC (oj hn_g2 (oj hn_g3 hn_g4)) (qsubW _ _ ?_ ?_ hle) ?_
      · omega
      · omega
      refine yG (oj hn_g2 (oj hn_g3 hn_g4)) ?_
      refine yC (oj hn_g2 (oj hn_g3 hn_g4)) (sfromW _ _ _ ?_ ?_ dd) ?_
      · omega
      · omega
      refine yG (oj hn_g2 (oj hn_g3 hn_g4)) ?_
      refine yA (oj hn_g2 (oj hn_g3 hn_g4)) fun g18 hn_g18=>?_
      refine yG (oj hn_g2 (oj hn_g3 (oj hn_g4 hn_g18))) ?_
      refine yW (oj hn_g2 (oj hn_g3 (oj hn_g4 hn_g18))) ?_
      refine yS (oj hn_g2 (oj hn_g3 (oj hn_g4 hn_g18))) ?_
      refine yG (oj hn_g2 (oj hn_g3 (oj hn_g4 hn_g18))) ?_
      refine yW (oj hn_g2 (oj hn_g3 (oj hn_g4 hn_g18))) ?_
      refine yS (oj hn_g2 (oj hn_g3 (oj hn_g4 hn_g18))) ?_
      refine yG (oj hn_g2 (oj hn_g3 (oj hn_g4 hn_g18))) ?_
      refine yT hC (oj hn_g2 (oj hn_g3 (oj hn_g4 hn_g18))) ?_
      refine ler_rd ?_
      rw [sq_add_ge _ d1 d2 hle]
      unfold RD.q; rw [hs']
set_option maxHeartbeats 1600000 in
theorem smul_fa (a b : RD) (ha : a.wf 1073741824) (hb : b.wf 1073741824) : Fa Tryz.prog 111 [.agg (rdc a), .agg (rdc b)] (.agg (rdc (rd (a.q * b.q)))) := by
  obtain ⟨l1, l2⟩ := RD.p_len ha (by omega)
  obtain ⟨l3, l4⟩ := RD.p_len hb (by omega)
  have d1 := RD.pd_ne ha
  have d2 := RD.pd_ne hb
  have dd : a.pd * b.pd ≠ 0 := Nat.mul_ne_zero d1 d2
  have m1 := words_mul_len a.pn b.pn
  have m3 := words_mul_len a.pd b.pd
  refine fa_of_body Tryz.func111 rfl rfl (by simp [Tryz.ntmps111]) fun C hC => ?_
  simp only [initS, Nat.reduceAdd]
  refine xG ?_
  refine xB fun g2 hn_g2=>?_
  refine yB hn_g2 fun g3 hn_g3=>?_
  refine yA (oj hn_g2 hn_g3) fun g4 hn_g4=>?_
  refine yG (oj hn_g2 (oj hn_g3 hn_g4)) ?_
  refine yC (oj hn_g2 (oj hn_g3 hn_g4)) (sparts_fa a ha) ?_
  refine yG (oj hn_g2 (oj hn_g3 hn_g4)) ?_
  refine yC (oj hn_g2 (oj hn_g3 hn_g4)) (sparts_fa b hb) ?_
  refine yG (oj hn_g2 (oj hn_g3 hn_g4)) ?_
  refine yC (oj hn_g2 (oj hn_g3 hn_g4)) (qmulW _ _ ?_ ?_) ?_
  · omega
  · omega
  refine yG (oj hn_g2 (oj hn_g3 hn_g4)) ?_
  refine yC (oj hn_g2 (oj hn_g3 hn_g4)) (qmulW _ _ ?_ ?_) ?_
  · omega
  · omega
  refine yG (oj hn_g2 (oj hn_g3 hn_g4)) ?_
  refine yC (oj hn_g2 (oj hn_g3 hn_g4)) (sfromW _ _ _ ?_ ?_ dd) ?_
  · omega
  · omega
  refine yG (oj hn_g2 (oj hn_g3 hn_g4)) ?_
  refine yA (oj hn_g2 (oj hn_g3 hn_g4)) fun g11 hn_g11=>?_
  refine yG (oj hn_g2 (oj hn_g3 (oj hn_g4 hn_g11))) ?_
  refine yW (oj hn_g2 (oj hn_g3 (oj hn_g4 hn_g11))) ?_
  refine yS (oj hn_g2 (oj hn_g3 (oj hn_g4 hn_g11))) ?_
  refine yG (oj hn_g2 (oj hn_g3 (oj hn_g4 hn_g11))) ?_
  refine yW (oj hn_g2 (oj hn_g3 (oj hn_g4 hn_g11))) ?_
  refine yS (oj hn_g2 (oj hn_g3 (oj hn_g4 hn_g11))) ?_
  refine yG (oj hn_g2 (oj hn_g3 (oj hn_g4 hn_g11))) ?_
  refine yT hC (oj hn_g2 (oj hn_g3 (oj hn_g4 hn_g11))) ?_
  exact ler_rd (by rw [sq_mul]; rfl)
set_option maxHeartbeats 800000 in
theorem ssub_fa (a b : RD) (ha : a.wf 1073741824) (hb : b.wf 1073741824) : Fa Tryz.prog 40 [.agg (rdc a), .agg (rdc b)] (.agg (rdc (rd (a.q - b.q)))) := by
  refine fa_of_body Tryz.func40 rfl rfl (by simp [Tryz.ntmps40]) fun C hC => ?_
  simp only [initS, Nat.reduceAdd]
  refine xG ?_
  refine xB fun g2 hn_g2=>?_
  refine yB hn_g2 fun g3 hn_g3=>?_
  refine yA (oj hn_g2 hn_g3) fun g4 hn_g4=>?_
  refine yG (oj hn_g2 (oj hn_g3 hn_g4)) ?_
  refine aw_dr 4 ty_mixed (by kernel_rfl) ?_
  refine yG (oj hn_g2 (oj hn_g3 hn_g4)) ?_
  refine yD (oj hn_g2 (oj hn_g3 hn_g4)) (sneg_fa b hb) ?_
  refine yG (oj hn_g2 (oj hn_g3 hn_g4)) ?_
  refine yD (oj hn_g2 (oj hn_g3 hn_g4)) (sadd_fa a (rd (-b.q)) ha (neg_wf hb)) ?_
  refine yG (oj hn_g2 (oj hn_g3 hn_g4)) ?_
  refine yW (oj hn_g2 (oj hn_g3 hn_g4)) ?_
  refine yS (oj hn_g2 (oj hn_g3 hn_g4)) ?_
  refine yG (oj hn_g2 (oj hn_g3 hn_g4)) ?_
  refine yT hC (oj hn_g2 (oj hn_g3 hn_g4)) ?_
  exact ler_rd (by rw [rd_q, Rat.sub_eq_add_neg])
/-- Sums of fractions that are not too long are not too long. -/
theorem sub_wf {a b : RD} {L : Nat} (hL : 1 ≤ L) (ha : a.wf L) (hb : b.wf L) (h : 2 * L + 1 ≤ 1073741824) : (rd (a.q - b.q)).wf 1073741824 :=
  rd_wf (fits_mono (fits_sub (RD.fits ha hL) (RD.fits hb hL)) (by omega))
set_option maxHeartbeats 800000 in
theorem scmp_fa (a b : RD) (ha : a.wf 500000000) (hb : b.wf 500000000) : Fa Tryz.prog 18 [.agg (rdc a), .agg (rdc b)] (.c (.int .i64 (signQ (a.q - b.q)))) := by
  refine fa_of_body Tryz.func18 rfl rfl (by simp [Tryz.ntmps18]) fun C hC => ?_
  simp only [initS, Nat.reduceAdd]
  refine xG ?_
  refine xB fun g2 hn_g2=>?_
  refine yB hn_g2 fun g3 hn_g3=>?_
  refine yG (oj hn_g2 hn_g3) ?_
  refine yC (oj hn_g2 hn_g3) (ssub_fa a b (wf_mono ha ?_) (wf_mono hb ?_)) ?_
  · omega
  · omega
  refine yG (oj hn_g2 hn_g3) ?_
  refine yC (oj hn_g2 hn_g3) (ssign_fa _ ?_) ?_
  · exact sub_wf (by omega) ha hb (by omega)
  rw [rd_q]
  refine yG (oj hn_g2 hn_g3) ?_
  refine yT hC (oj hn_g2 hn_g3) ?_
  exact .one (.c (.int _ _))
end Go.Proofs.YtmfmnmkipjpjhaaGreat

/- How the program's data are told: lists of ints, bools, fractions, nodes; diagrams, cubes, formulas; errors. -/
namespace Go.AI
open Go.PN
/-- Ints. -/
def isF (xs : List Int) (j : Nat) : CV := .int .i64 (xs.getD j 0)
@[go_sem] theorem isF_at (xs : List Int) (j : Nat) : isF xs j = .int .i64 (xs.getD j 0) := rfl
abbrev is (t : Bool) (xs : List Int) : CV := .row t 1 xs.length (isF xs)
def bsF (xs : List Bool) (j : Nat) : CV := .bool (xs.getD j false)
@[go_sem] theorem bsF_at (xs : List Bool) (j : Nat) : bsF xs j = .bool (xs.getD j false) := rfl
abbrev bs (t : Bool) (xs : List Bool) : CV := .row t 1 xs.length (bsF xs)
/-- Fractions. -/
def rd0 : RD := ⟨false, [], []⟩
def ratsF (ps : List RD) : Nat → CV := lf 3 (fun r : RD => [CV.bool r.neg, ws true r.num, ws true r.den]) rd0 ps
@[go_sem] theorem ratsF_0 (ps : List RD) (i : Nat) : ratsF ps (i * 3) = .bool (ps.getD i rd0).neg := by
  have := lf_at (s := 3) (c := fun r : RD => [CV.bool r.neg, ws true r.num, ws true r.den]) (d := rd0) (xs := ps) (i := i) (k := 0) (by omega)
  exact this
@[go_sem] theorem ratsF_1 (ps : List RD) (i : Nat) : ratsF ps (i * 3 + 1) = ws true (ps.getD i rd0).num := by
  have := lf_at (s := 3) (c := fun r : RD => [CV.bool r.neg, ws true r.num, ws true r.den]) (d := rd0) (xs := ps) (i := i) (k := 1) (by omega)
  exact this
@[go_sem] theorem ratsF_2 (ps : List RD) (i : Nat) : ratsF ps (i * 3 + 2) = ws true (ps.getD i rd0).den := by
  have := lf_at (s := 3) (c := fun r : RD => [CV.bool r.neg, ws true r.num, ws true r.den]) (d := rd0) (xs := ps) (i := i) (k := 2) (by omega)
  exact this
abbrev rats (t : Bool) (ps : List RD) : CV := .row t 3 ps.length (ratsF ps)
/-- Nodes of diagrams. -/
structure DN where
  v : Int
  lo : Int
  hi : Int
  deriving DecidableEq
def dn0 : DN := ⟨0, 0, 0⟩
def dnsF (ns : List DN) : Nat → CV := lf 3 (fun r : DN => [CV.int .i64 r.v, .int .i64 r.lo, .int .i64 r.hi]) dn0 ns
@[go_sem] theorem dnsF_0 (ps : List DN) (i : Nat) : dnsF ps (i * 3) = .int .i64 (ps.getD i dn0).v := by
  have := lf_at (s := 3) (c := fun r : DN => [CV.int .i64 r.v, .int .i64 r.lo, .int .i64 r.hi]) (d := dn0) (xs := ps) (i := i) (k := 0) (by omega)
  exact this
@[go_sem] theorem dnsF_1 (ps : List DN) (i : Nat) : dnsF ps (i * 3 + 1) = .int .i64 (ps.getD i dn0).lo := by
  have := lf_at (s := 3) (c := fun r : DN => [CV.int .i64 r.v, .int .i64 r.lo, .int .i64 r.hi]) (d := dn0) (xs := ps) (i := i) (k := 1) (by omega)
  exact this
@[go_sem] theorem dnsF_2 (ps : List DN) (i : Nat) : dnsF ps (i * 3 + 2) = .int .i64 (ps.getD i dn0).hi := by
  have := lf_at (s := 3) (c := fun r : DN => [CV.int .i64 r.v, .int .i64 r.lo, .int .i64 r.hi]) (d := dn0) (xs := ps) (i := i) (k := 2) (by omega)
  exact this
abbrev dns (t : Bool) (ns : List DN) : CV := .row t 3 ns.length (dnsF ns)
/-- Diagrams. -/
structure DG where
  order : List Int
  nodes : List DN
  root : Int
abbrev dgc (t : Bool) (d : DG) : List CV := [is t d.order, dns t d.nodes, .int .i64 d.root]
/-- Nodes of formulas. -/
structure FN where
  kind : Int
  k : Int
  args : List Int
def fn0 : FN := ⟨0, 0, []⟩
def fnsF (ns : List FN) : Nat → CV := lf 3 (fun r : FN => [CV.int .i64 r.kind, .int .i64 r.k, is true r.args]) fn0 ns
@[go_sem] theorem fnsF_0 (ps : List FN) (i : Nat) : fnsF ps (i * 3) = .int .i64 (ps.getD i fn0).kind := by
  have := lf_at (s := 3) (c := fun r : FN => [CV.int .i64 r.kind, .int .i64 r.k, is true r.args]) (d := fn0) (xs := ps) (i := i) (k := 0) (by omega)
  exact this
@[go_sem] theorem fnsF_1 (ps : List FN) (i : Nat) : fnsF ps (i * 3 + 1) = .int .i64 (ps.getD i fn0).k := by
  have := lf_at (s := 3) (c := fun r : FN => [CV.int .i64 r.kind, .int .i64 r.k, is true r.args]) (d := fn0) (xs := ps) (i := i) (k := 1) (by omega)
  exact this
@[go_sem] theorem fnsF_2 (ps : List FN) (i : Nat) : fnsF ps (i * 3 + 2) = is true (ps.getD i fn0).args := by
  have := lf_at (s := 3) (c := fun r : FN => [CV.int .i64 r.kind, .int .i64 r.k, is true r.args]) (d := fn0) (xs := ps) (i := i) (k := 2) (by omega)
  exact this
abbrev fns (t : Bool) (ns : List FN) : CV := .row t 3 ns.length (fnsF ns)
structure FM where
  vars : Int
  nodes : List FN
  top : Int
abbrev fmc (t : Bool) (f : FM) : List CV := [.int .i64 f.vars, fns t f.nodes, .int .i64 f.top]

/-- An error, by its number: 0 is none; T is the type of errors. -/
def errC (T : TypeId) (c : Int) : CV := if c = 0 then .nilI else .ifc T (.int .i64 c)
@[go_sem] theorem errC_solid (T : TypeId) (c : Int) : (errC T c).solid = true := by unfold errC; split <;> rfl
theorem binAV_errE {P : Program} {nw : Bool} {t T : TypeId} {y : Operand} {c : Int} (hy : isNil y = true) : binAV P nw .eql t y (.c (errC T c)) (.c .nilI) = some (tIfc P t = true, .c (.bool (decide (c = 0)))) := by
  unfold errC
  split
  · rename_i h; simp [binAV, hy, nilAV, h]
  · rename_i h; simp [binAV, hy, nilAV, h]
theorem binAV_errN {P : Program} {nw : Bool} {t T : TypeId} {y : Operand} {c : Int} (hy : isNil y = true) : binAV P nw .neq t y (.c (errC T c)) (.c .nilI) = some (tIfc P t = true, .c (.bool (!decide (c = 0)))) := by
  unfold errC
  split
  · rename_i h; simp [binAV, hy, nilAV, h]
  · rename_i h; simp [binAV, hy, nilAV, h]
@[go_sem ↓] theorem binAV_errE' (P : Program) (nw : Bool) (t T : TypeId) (c : Int) : binAV P nw .eql t (.const .nilIface) (.c (errC T c)) (.c .nilI) = some (tIfc P t = true, .c (.bool (decide (c = 0)))) := binAV_errE rfl
@[go_sem ↓] theorem binAV_errN' (P : Program) (nw : Bool) (t T : TypeId) (c : Int) : binAV P nw .neq t (.const .nilIface) (.c (errC T c)) (.c .nilI) = some (tIfc P t = true, .c (.bool (!decide (c = 0)))) := binAV_errN rfl
theorem ler_err {h : Heap} {T : TypeId} {c : Int} : LeR h (errC T c) (errC T c) := by unfold errC; split; exact .nilI; exact .ifc (.int _ _)
theorem ler_err0 {h : Heap} {T : TypeId} {c : Int} (e : c = 0) : LeR h .nilI (errC T c) := by unfold errC; rw [if_pos e]; exact .nilI
theorem ler_errN {h : Heap} {T : TypeId} {n c : Int} (e : n = c) (h0 : c ≠ 0) : LeR h (.ifc T (.int .i64 n)) (errC T c) := by unfold errC; rw [if_neg h0, e]; exact .ifc (.int _ _)
theorem ler_is {h : Heap} {t : Bool} {xs : List Int} : LeR h (is true xs) (is t xs) := .row fun _ _ => .int _ _
theorem lf_ler {α : Type} {h : Heap} {s : Nat} {c : α → List CV} {d : α} {xs : List α} (hs : 0 < s) (hc : ∀ x ∈ xs, ∀ k, k < s → LeR h (ofL (c x) k) (ofL (c x) k)) : ∀ j, j < xs.length * s → LeR h (lf s c d xs j) (lf s c d xs j) := fun j hj => by
  unfold lf
  have h1 : j / s < xs.length := (Nat.div_lt_iff_lt_mul hs).2 hj
  rw [List.getD_eq_getElem?_getD, List.getElem?_eq_getElem h1]
  exact hc _ (List.getElem_mem h1) _ (Nat.mod_lt _ hs)
theorem ler_rats {h : Heap} {t : Bool} {ps : List RD} : LeR h (rats true ps) (rats t ps) :=
  .row (lf_ler (by omega) fun x _ k hk => by match k, hk with | 0, _ => exact .bool _ | 1, _ => exact ler_ws | 2, _ => exact ler_ws)
theorem ler_dns {h : Heap} {t : Bool} {ps : List DN} : LeR h (dns true ps) (dns t ps) :=
  .row (lf_ler (by omega) fun x _ k hk => by match k, hk with | 0, _ => exact .int _ _ | 1, _ => exact .int _ _ | 2, _ => exact .int _ _)
end Go.AI
namespace Go.Proofs.YtmfmnmkipjpjhaaGreat
open Go.AI Go.PN
attribute [local irreducible] aw Fa Fh DrK
abbrev errA (c : Int) : CV := errC 70 c
set_option maxHeartbeats 400000 in
theorem num_fa (c : Int) : Fa Tryz.prog 11 [.c (errA c)] (.c (.int .i64 c)) := by
  by_cases h : c = 0
  · have e : errA c = .nilI := by unfold errA errC; rw [if_pos h]
    rw [e]
    refine fa_of_body Tryz.func11 rfl rfl (by simp [Tryz.ntmps11]) fun C hC => ?_
    simp only [initS, Nat.reduceAdd]
    refine xG ?_
    refine xP ?_
    refine xG ?_
    refine xT hC ?_
    exact .one (.c (ler_int h.symm))
  · have e : errA c = .ifc 70 (.int .i64 c) := by unfold errA errC; rw [if_neg h]
    rw [e]
    refine fa_of_body Tryz.func11 rfl rfl (by simp [Tryz.ntmps11]) fun C hC => ?_
    simp only [initS, Nat.reduceAdd]
    refine xG ?_
    refine xN ?_
    refine xG ?_
    refine xP ?_
    refine xG ?_
    refine xT hC ?_
    exact .one (.c (.int _ _))
theorem list_ext {xs ys : List Nat} (hl : xs.length = ys.length) (h : ∀ j, j < xs.length → xs.getD j 0 = ys.getD j 0) : xs = ys := by
  apply List.ext_getElem hl
  intro i h1 h2
  have := h i h1
  rw [List.getD_eq_getElem?_getD, List.getD_eq_getElem?_getD, List.getElem?_eq_getElem h1, List.getElem?_eq_getElem h2] at this
  exact this
set_option maxHeartbeats 800000 in
theorem words_fa (xs ys : List Nat) (hl : xs.length ≤ 68719476736) : Fa Tryz.prog 33 [.c (ws false xs), .c (ws false ys)] (.c (.bool (decide (xs = ys)))) := by
  refine fa_of_body Tryz.func33 rfl rfl (by simp [Tryz.ntmps33]) fun C hC => ?_
  simp only [initS, Nat.reduceAdd]
  refine xG ?_
  refine xF (fun hb=>?_) fun hb=>?_
  · refine xG ?_
    refine xT hC ?_
    refine .one (.c (ler_bool ?_))
    have : xs ≠ ys := fun e => by rw [e] at hb; simp at hb
    simp [this]
  · have hlen : xs.length = ys.length := by
      have : ((xs.length : Int) == (ys.length : Int)) = true := by simpa [bne] using hb
      have := eq_of_beq this; omega
    refine xG ?_
    refine aw_lp (fun i : Nat => [(0, .c (ws false xs)), (1, .c (ws false ys)), (12, .c (.int .i64 xs.length)), (13, .c (.int .i64 i))]) (fun _ => []) (fun i => i ≤ xs.length ∧ ∀ j, j < i → xs.getD j 0 = ys.getD j 0) (fun i => xs.length - i) 0 eB zZ ⟨Nat.zero_le _, fun j hj => by omega⟩ ?_
    rintro i ⟨hi, hs⟩
    refine xG ?_
    refine xF (fun hb=>?_) fun hb=>?_
    · have hin : i < xs.length := by have := of_decide_eq_true hb; omega
      refine xG ?_
      refine aw_dr 9 ty_mixed (by kernel_rfl) ?_
      refine xG ?_
      refine xF (fun hc=>?_) fun hc=>?_
      · refine xG ?_
        refine xT hC ?_
        refine .one (.c (ler_bool ?_))
        have : xs ≠ ys := fun e => by rw [e] at hc; simp at hc
        simp [this]
      · have he : xs.getD i 0 = ys.getD i 0 := by
          have : (((xs.getD i 0 : Nat) : Int) == ((ys.getD i 0 : Nat) : Int)) = true := by simpa [bne] using hc
          have := eq_of_beq this; omega
        refine xG ?_
        refine aw_stop ⟨i + 1, by omega, eB, zZ, by omega, fun j hj => ?_⟩
        by_cases hji : j = i
        · rw [hji]; exact he
        · exact hs j (by omega)
    · have hin : i = xs.length := by have := of_decide_eq_false hb; omega
      subst hin
      refine xG ?_
      refine xT hC ?_
      refine .one (.c (ler_bool ?_))
      have : xs = ys := list_ext hlen hs
      simp [this]
instance : DecidableEq RD := fun a b => decidable_of_iff (a.neg = b.neg ∧ a.num = b.num ∧ a.den = b.den) (by cases a; cases b; simp)
set_option maxHeartbeats 800000 in
theorem ratEq_fa (a b : RD) (hw : a.wf 68719476736) : Fa Tryz.prog 12 [.agg (rdc a), .agg (rdc b)] (.c (.bool (decide (a = b)))) := by
  have he : decide (a = b) = (decide (a.neg = b.neg) && (decide (a.num = b.num) && decide (a.den = b.den))) := by
    rw [Bool.eq_iff_iff]
    simp only [decide_eq_true_eq, Bool.and_eq_true]
    cases a; cases b; simp
  rw [he]
  refine fa_of_body Tryz.func12 rfl rfl (by simp [Tryz.ntmps12]) fun C hC => ?_
  simp only [initS, Nat.reduceAdd]
  refine xG ?_
  refine xB fun g2 hn_g2=>?_
  refine yB hn_g2 fun g3 hn_g3=>?_
  refine yG (oj hn_g2 hn_g3) ?_
  refine aw_split 10 (zE (oj hn_g2 hn_g3)) (fun h1 => ?_) (fun h1 => ?_) <;> refine yS (oj hn_g2 hn_g3) ?_
  · have h1' : a.neg = b.neg := eq_of_beq h1
    refine yG (oj hn_g2 hn_g3) ?_
    refine yC (oj hn_g2 hn_g3) (words_fa _ _ hw.2.2.1) ?_
    refine yG (oj hn_g2 hn_g3) ?_
    refine aw_split 17 (zE (oj hn_g2 hn_g3)) (fun h2 => ?_) (fun h2 => ?_) <;> refine yS (oj hn_g2 hn_g3) ?_
    · refine yG (oj hn_g2 hn_g3) ?_
      refine yC (oj hn_g2 hn_g3) (words_fa _ _ hw.2.2.2) ?_
      refine yG (oj hn_g2 hn_g3) ?_
      refine yT hC (oj hn_g2 hn_g3) ?_
      exact .one (.c (ler_bool (by rw [h2, h1']; simp)))
    · refine yG (oj hn_g2 hn_g3) ?_
      refine yT hC (oj hn_g2 hn_g3) ?_
      exact .one (.c (ler_bool (by rw [h2]; simp)))
  · have h1' : a.neg ≠ b.neg := fun e => by rw [e] at h1; simp at h1
    refine yG (oj hn_g2 hn_g3) ?_
    refine yT hC (oj hn_g2 hn_g3) ?_
    exact .one (.c (ler_bool (by simp [h1'])))
theorem rdec_eq {a b : RD} (h : a = b) : decide (a = b) = true := by simp [h]
set_option maxHeartbeats 400000 in
theorem zero37_fa (a : RD) (hw : a.wf 68719476736) : Fa Tryz.prog 10 [.agg (rdc a)] (.c (.bool (decide (a = rd0)))) := by
  refine fa_of_body Tryz.func10 rfl rfl (by simp [Tryz.ntmps10]) fun C hC => ?_
  simp only [initS, Nat.reduceAdd]
  refine xG ?_
  refine xB fun g1 hn_g1=>?_
  refine yG hn_g1 ?_
  refine aw_callq (ratEq_fa a rd0 hw) rfl rfl rfl (by refine yS hn_g1 ?_; exact ⟨.agg (lel_refl _), .agg ⟨.refl _, .nils, .nils, trivial⟩⟩) ?_
  refine yS hn_g1 ?_
  refine yG hn_g1 ?_
  refine yT hC hn_g1 ?_
  exact .one (.c (.bool _))
set_option maxHeartbeats 800000 in
theorem part37_fa (n d : Int) (h0 : -9223372036854775808 ≤ n) (h1 : n ≤ 9223372036854775807) (h2 : -9223372036854775808 ≤ d) (h3 : d ≤ 9223372036854775807) (hd : d ≠ 0) :
    Fa Tryz.prog 22 [.c (.int .i64 n), .c (.int .i64 d)] (.agg (rdc (rd ((n : Rat) / (d : Rat))))) := by
  refine fa_of_body Tryz.func22 rfl rfl (by simp [Tryz.ntmps22]) fun C hC => ?_
  simp only [initS, Nat.reduceAdd]
  refine xG ?_
  refine xA fun g4 hn_g4=>?_
  refine yG hn_g4 ?_
  refine yC hn_g4 (smake_fa n d h0 h1 h2 h3 hd) ?_
  refine yG hn_g4 ?_
  refine yA hn_g4 fun g5 hn_g5=>?_
  refine yG (oj hn_g4 hn_g5) ?_
  refine yW (oj hn_g4 hn_g5) ?_
  refine yS (oj hn_g4 hn_g5) ?_
  refine yG (oj hn_g4 hn_g5) ?_
  refine yW (oj hn_g4 hn_g5) ?_
  refine yS (oj hn_g4 hn_g5) ?_
  refine yG (oj hn_g4 hn_g5) ?_
  refine yT hC (oj hn_g4 hn_g5) ?_
  exact ler_rd rfl
end Go.Proofs.YtmfmnmkipjpjhaaGreat

/- From the readings of the arguments to abstract values, and from a contract to what the statement asks behind the call. -/
namespace Go.AI
open Go.PN
/-- All blocks that are there. -/
def AllB (w : World) : Bool → Nat → Prop := fun _ b => b < w.heap.size
/-- The arguments and the result, and that nothing old has changed. -/
theorem Fa.below {P : Program} {f : FuncId} {args : List AV} {b : Bool} (hf : Fa P f args (.c (.bool b))) {w : World} {vs : List Value} (hr : RepT (AllB w) w args vs) :
    Calls P f vs.toArray w fun e w' => e = .returned (.bool b) ∧ RowKit.Below w.heap.size w w' := by
  refine (hf.2 (AllB w) w vs (fun _ h => h) (fun _ _ h => h) hr).mono ?_
  rintro e w' ⟨v, rfl, hv, hfr⟩
  have hv' : v = .bool b := hv
  subst hv'
  exact ⟨rfl, hfr.os, hfr.tape, hfr.output, hfr.size, fun k hk => hfr.block k hk (fun x => x)⟩
end Go.AI
namespace Go.Proofs.YtmfmnmkipjpjhaaGreat
open Go.AI Go.PN Go.ChangeShapes
section
variable {P : Program}
/-- Cells of type t read as things y, whose abstract cells are c y; of y holds B y with the bulk of what is read. -/
def Rdr (P : Program) (t : TypeId) {α : Type} (c : α → List CV) (B : α → Nat → Prop) : Prop :=
  ∀ (H : Type) (enc : TypeId × Value → H) (w : World) (fuel : Nat) (cs : List Value) (x : DataW H × List MemPlace), DataW.trod enc P w 0 (fun _ => true) true fuel t cs = some x → ∃ y, RepL (AllB w) w (c y) cs ∧ B y (Rows.uptoBulk x.1)
theorem rdr_int {t : TypeId} {k : IntKind} (ht : P.underlying t = some (.int k)) : Rdr P t (fun n : Int => [.int k n]) (fun n _ => (Lit.int k n).wf = true) := fun H enc w fuel cs x h => by
  obtain ⟨n, rfl, rfl, hw⟩ := DataW.trod_int ht h
  exact ⟨n, ⟨rfl, trivial⟩, hw⟩
theorem rdr_word {t : TypeId} (ht : P.underlying t = some (.int .u32)) : Rdr P t (fun n : Nat => [.int .u32 n]) (fun n _ => n < 4294967296) := fun H enc w fuel cs x h => by
  obtain ⟨n, rfl, rfl, hw⟩ := DataW.trod_int ht h
  have hb : 0 ≤ n ∧ n ≤ 4294967295 := by simpa [Lit.wf, IntKind.min, IntKind.max, IntKind.signed, IntKind.bits] using hw
  refine ⟨n.toNat, ⟨?_, trivial⟩, by omega⟩
  show Value.int .u32 n = Value.int .u32 ((n.toNat : Nat) : Int)
  rw [show ((n.toNat : Nat) : Int) = n from by omega]
theorem rdr_bool {t : TypeId} (ht : P.underlying t = some .bool) : Rdr P t (fun b : Bool => [.bool b]) (fun _ _ => True) := fun H enc w fuel cs x h => by
  obtain ⟨n, rfl, rfl⟩ := DataW.trod_bool ht h
  exact ⟨n, ⟨rfl, trivial⟩, trivial⟩
theorem bulk_mem {H : Type} {d : DataW H} : ∀ {l : List (DataW H)}, d ∈ l → Rows.uptoBulk d ≤ Rows.uptoBulkAll l
  | x :: r, h => by
    simp only [Rows.uptoBulkAll]
    cases List.mem_cons.1 h with
    | inl e => subst e; omega
    | inr e => have := bulk_mem e; omega
theorem bulk_one {H : Type} (d : DataW H) : 1 ≤ Rows.uptoBulk d := by
  cases d with
  | lit l => cases l <;> simp [Rows.uptoBulk]
  | nil => simp [Rows.uptoBulk]
  | ptr d => simp [Rows.uptoBulk]
  | slice elems spare => simp [Rows.uptoBulk]
  | agg parts => simp [Rows.uptoBulk]
  | iface t d => simp [Rows.uptoBulk]
  | map entries => simp [Rows.uptoBulk]
  | held h => simp [Rows.uptoBulk]
theorem bulk_len {H : Type} : ∀ (l : List (DataW H)), l.length ≤ Rows.uptoBulkAll l
  | [] => by simp [Rows.uptoBulkAll]
  | x :: r => by have := bulk_one x; have := bulk_len r; simp only [Rows.uptoBulkAll, List.length_cons]; omega
/-- A slice of such things. -/
theorem rdr_slice {t e : TypeId} {α : Type} {c : α → List CV} {B : α → Nat → Prop} {s : Nat} (z : α) (tg : Bool) (ht : P.underlying t = some (.slice e)) (hs : P.cellsOf e = s) (hs0 : 0 < s) (hB : ∀ y m n, B y m → m ≤ n → B y n) (hr : Rdr P e c B) :
    Rdr P t (fun ys : List α => [CV.row tg s ys.length (lf s c z ys)]) (fun ys n => ys.length ≤ n ∧ ∀ y ∈ ys, B y n) := fun H enc w fuel cs x h => by
  rcases DataW.trod_slice ht h with ⟨rfl, rfl⟩ | ⟨a, len, cap, elems, rest, n, rfl, rfl, rfl, _, hlc, _, hlen, hel, _, _⟩
  · exact ⟨[], ⟨⟨none, 0, rfl, Nat.le_refl _, fun h0 => by simp at h0⟩, trivial⟩, by simp, by simp⟩
  · have key : ∀ i, ∃ y : α, i < len → ∃ d ∈ elems.map (·.1), B y (Rows.uptoBulk d) ∧ ∀ k, k < s → ∃ u, w.cell? (a.add (i * s + k)) = some u ∧ RepC (AllB w) w (ofL (c y) k) u := by
      intro i
      by_cases hi : i < len
      · have h1 := hel i hi
        have h2 : i < elems.length := by omega
        rw [List.getElem?_eq_getElem h2, hs] at h1
        obtain ⟨us, hus, htr⟩ := Option.bind_eq_some_iff.1 h1
        obtain ⟨y, hy, hb⟩ := hr H enc w n us _ htr
        obtain ⟨_, hul, hue⟩ := World.cells?_some hus
        refine ⟨y, fun _ => ⟨_, List.mem_map.2 ⟨_, List.getElem_mem h2, rfl⟩, hb, fun k hk => ?_⟩⟩
        have hlen2 := hy.length
        obtain ⟨u, hu, hru⟩ := hy.get k ((c y)[k]'(by omega)) (List.getElem?_eq_getElem (by omega))
        refine ⟨u, ?_, by rw [ofL_get (c y) k _ (List.getElem?_eq_getElem (by omega))]; exact hru⟩
        rw [← add_add]
        exact (hue k hk).trans hu
      · exact ⟨z, fun h => absurd h hi⟩
    obtain ⟨g, hg⟩ : ∃ g : Nat → α, ∀ i, i < len → ∃ d ∈ elems.map (·.1), B (g i) (Rows.uptoBulk d) ∧ ∀ k, k < s → ∃ u, w.cell? (a.add (i * s + k)) = some u ∧ RepC (AllB w) w (ofL (c (g i)) k) u := ⟨fun i => Classical.choose (key i), fun i => Classical.choose_spec (key i)⟩
    have hbl : ∀ d ∈ elems.map (·.1), Rows.uptoBulk d ≤ Rows.uptoBulk (.slice (elems.map (·.1)) (rest.map (·.1))) := fun d hd => by
      have := bulk_mem hd
      simp only [Rows.uptoBulk]; omega
    refine ⟨(List.range len).map g, ⟨⟨some a, cap, by simp, by simpa using hlc, fun h0 => ⟨a, rfl, ?_, fun j hj => ?_⟩⟩, trivial⟩, ?_, fun y hy => ?_⟩
    · simp only [List.length_map, List.length_range] at h0
      have hl0 : 0 < len := Nat.pos_of_ne_zero (fun e => by subst e; simp at h0)
      obtain ⟨_, _, _, hk⟩ := hg 0 hl0
      obtain ⟨u, hu, _⟩ := hk 0 hs0
      have hb := AI.block_add a (0 * s + 0)
      unfold World.cell? at hu
      rw [hb] at hu
      show a.block < w.heap.size
      by_cases hlt : a.block < w.heap.size
      · exact hlt
      · rw [Array.getElem?_eq_none (by omega)] at hu
        cases hu
    · simp only [List.length_map, List.length_range] at hj
      have hi : j / s < len := (Nat.div_lt_iff_lt_mul hs0).2 hj
      obtain ⟨_, _, _, hk⟩ := hg (j / s) hi
      obtain ⟨u, hu, hru⟩ := hk (j % s) (Nat.mod_lt _ hs0)
      refine ⟨u, ?_, ?_⟩
      · rw [Nat.mul_comm, Nat.div_add_mod] at hu; exact hu
      · unfold lf
        rw [List.getD_eq_getElem?_getD]
        simpa [hi] using hru
    · rw [List.length_map, List.length_range]
      have := bulk_len (elems.map (·.1))
      simp only [Rows.uptoBulk]
      rw [List.length_map] at this
      omega
    · obtain ⟨i, hi, rfl⟩ := List.mem_map.1 hy
      obtain ⟨d, hd, hb, _⟩ := hg i (List.mem_range.1 hi)
      exact hB _ _ _ hb (hbl d hd)
/-- Structs of two and of three fields, laid one behind the other. -/
theorem rdr_struct3 {t : TypeId} {f0 f1 f2 : Field} {α β γ : Type} {c0 : α → List CV} {c1 : β → List CV} {c2 : γ → List CV} {B0 : α → Nat → Prop} {B1 : β → Nat → Prop} {B2 : γ → Nat → Prop} {s0 s1 s2 : Nat}
    (ht : P.underlying t = some (.struct #[f0, f1, f2])) (hz0 : P.cellsOf f0.type = s0) (hz1 : P.cellsOf f1.type = s1) (hz2 : P.cellsOf f2.type = s2) (hz : P.cellsOf t = s0 + s1 + s2) (ho0 : f0.offset = 0) (ho1 : f1.offset = s0) (ho2 : f2.offset = s0 + s1)
    (h0 : Rdr P f0.type c0 B0) (h1 : Rdr P f1.type c1 B1) (h2 : Rdr P f2.type c2 B2) (hB0 : ∀ y m n, B0 y m → m ≤ n → B0 y n) (hB1 : ∀ y m n, B1 y m → m ≤ n → B1 y n) (hB2 : ∀ y m n, B2 y m → m ≤ n → B2 y n) :
    Rdr P t (fun y : α × β × γ => c0 y.1 ++ (c1 y.2.1 ++ c2 y.2.2)) (fun y n => B0 y.1 n ∧ B1 y.2.1 n ∧ B2 y.2.2 n) := fun H enc w fuel cs x h => by
  obtain ⟨xs, n, _, rfl, hl, hlen, hf⟩ := DataW.trod_struct ht h
  match xs, hlen with
  | [x0, x1, x2], _ =>
    have g0 := hf 0 f0 rfl
    have g1 := hf 1 f1 rfl
    have g2 := hf 2 f2 rfl
    rw [ho0, hz0] at g0
    rw [ho1, hz1] at g1
    rw [ho2, hz2] at g2
    obtain ⟨y0, r0, b0⟩ := h0 H enc w n _ x0 g0
    obtain ⟨y1, r1, b1⟩ := h1 H enc w n _ x1 g1
    obtain ⟨y2, r2, b2⟩ := h2 H enc w n _ x2 g2
    refine ⟨(y0, y1, y2), ?_, hB0 _ _ _ b0 ?_, hB1 _ _ _ b1 ?_, hB2 _ _ _ b2 ?_⟩
    · have e : cs = (cs.drop 0).take s0 ++ ((cs.drop s0).take s1 ++ (cs.drop (s0 + s1)).take s2) := by
        rw [List.drop_zero]
        conv => lhs; rw [← List.take_append_drop s0 cs]
        congr 1
        conv => lhs; rw [← List.take_append_drop s1 (cs.drop s0)]
        congr 1
        rw [List.drop_drop, List.take_of_length_le]
        rw [List.length_drop]; omega
      rw [e]
      exact r0.append (r1.append r2)
    · simp only [Rows.uptoBulk, List.map_cons, List.map_nil, Rows.uptoBulkAll]; omega
    · simp only [Rows.uptoBulk, List.map_cons, List.map_nil, Rows.uptoBulkAll]; omega
    · simp only [Rows.uptoBulk, List.map_cons, List.map_nil, Rows.uptoBulkAll]; omega
/-- The same things, told otherwise. -/
theorem Rdr.to {t : TypeId} {α β : Type} {c : α → List CV} {c' : β → List CV} {B : α → Nat → Prop} {B' : β → Nat → Prop} (hr : Rdr P t c B) (f : α → β) (hc : ∀ y, c' (f y) = c y) (hB : ∀ y n, B y n → B' (f y) n) : Rdr P t c' B' := fun H enc w fuel cs x h => by
  obtain ⟨y, h1, h2⟩ := hr H enc w fuel cs x h
  exact ⟨f y, by rw [hc]; exact h1, hB _ _ h2⟩
end
end Go.Proofs.YtmfmnmkipjpjhaaGreat

/- Prob, of the program and of the reference. -/
namespace Go.PN
/-- Is it a probability? -/
def RD.prob (r : RD) : Bool := r.valid && decide (0 ≤ r.q) && decide (r.q ≤ 1)
theorem signQ_ge (x : Rat) : decide (signQ x ≥ 0) = decide (0 ≤ x) := by
  unfold signQ
  by_cases h0 : x = 0
  · subst h0; simp
  · rw [if_neg h0]
    by_cases h1 : x < 0
    · rw [if_pos h1]
      have : ¬ (0 ≤ x) := Rat.not_le.2 h1
      simp [this]
    · rw [if_neg h1]
      have : 0 ≤ x := Rat.not_lt.1 h1
      simp [this]
theorem signQ_le (x : Rat) : decide (signQ x ≤ 0) = decide (x ≤ 0) := by
  unfold signQ
  by_cases h0 : x = 0
  · subst h0; simp
  · rw [if_neg h0]
    by_cases h1 : x < 0
    · rw [if_pos h1]
      have : x ≤ 0 := Rat.le_of_lt h1
      simp [this]
    · rw [if_neg h1]
      have : ¬ x ≤ 0 := fun h => by
        have := Rat.not_lt.1 h1
        exact h0 (Rat.le_antisymm h this)
      simp [this]
theorem sub_le_iff (x : Rat) : decide (x - 1 ≤ 0) = decide (x ≤ 1) := by
  rw [Bool.eq_iff_iff]; simp only [decide_eq_true_eq]; constructor <;> intro h <;> grind
theorem sq_le_one {n d : Nat} (hd : d ≠ 0) : sq false n d ≤ 1 ↔ n ≤ d := by
  unfold sq sgn
  simp only [Bool.false_eq_true, if_false]
  rw [Rat.mkRat_eq_div]
  have hd0 : (0 : Rat) < (d : Rat) := by
    have : ((0 : Nat) : Rat) < (d : Rat) := Rat.natCast_lt_natCast.2 (by omega)
    exact this
  have hne : (d : Rat) ≠ 0 := fun e => by rw [e] at hd0; exact Rat.lt_irrefl hd0
  have hx : ((n : Int) : Rat) / (d : Rat) * (d : Rat) = (n : Rat) := by
    have h1 : ((n : Int) : Rat) = (n : Rat) := rfl
    rw [h1, Rat.div_def, Rat.mul_assoc, Rat.inv_mul_cancel _ hne, Rat.mul_one]
  generalize ((n : Int) : Rat) / (d : Rat) = x at hx
  constructor
  · intro h
    have h1 := Rat.mul_le_mul_of_nonneg_right h (Rat.le_of_lt hd0)
    rw [hx, Rat.one_mul] at h1
    exact Rat.natCast_le_natCast.1 h1
  · intro h
    have h1 : (n : Rat) ≤ (d : Rat) := Rat.natCast_le_natCast.2 h
    rw [← hx] at h1
    refine Rat.not_lt.1 fun hlt => ?_
    have h2 := Rat.mul_lt_mul_of_pos_right hlt hd0
    rw [Rat.one_mul] at h2
    exact absurd h1 (Rat.not_le.2 h2)
theorem prob_eq {r : RD} {L : Nat} (hw : r.wf L) (hv : r.valid = true) : ((!r.neg) && decide (cmpN (val r.num) (val r.den) ≤ 0)) = (decide (0 ≤ r.q) && decide (r.q ≤ 1)) := by
  cases hs : r.some with
  | false =>
    have hn : r.num.length = 0 := by
      simp only [RD.some, hv, Bool.true_and, decide_eq_false_iff_not, ne_eq, Classical.not_not] at hs
      exact hs
    have hq : r.q = 0 := by unfold RD.q RD.pn; simp [hs, sq_zero]
    have hv' := hv
    unfold RD.valid at hv'
    split at hv'
    · rename_i h
      have h1 : r.num = [] := List.length_eq_zero_iff.1 h.1
      have h2 : r.den = [] := List.length_eq_zero_iff.1 h.2
      rw [hq, h1, h2]
      simp only [Bool.not_eq_true'] at hv'
      simp [hv', val, cmpN]
      decide
    · simp [plainB, hn] at hv'
  | true =>
    obtain ⟨h1, h2, h3, h4, h5⟩ := RD.some_spec hw hs
    have hq : r.q = sq r.neg (val r.num) (val r.den) := by unfold RD.q RD.ps RD.pn RD.pd; simp [hs]
    rw [hq]
    have hneg := sq_lt (neg := r.neg) h3 h4
    cases hb : r.neg with
    | true =>
      rw [hb] at hneg
      have : ¬ (0 ≤ sq true (val r.num) (val r.den)) := Rat.not_le.2 (hneg.2 rfl)
      simp [this]
    | false =>
      rw [hb] at hneg
      have hge : 0 ≤ sq false (val r.num) (val r.den) := Rat.not_lt.1 fun h => by cases hneg.1 h
      have hle := sq_le_one (n := val r.num) h4
      have hc : cmpN (val r.num) (val r.den) ≤ 0 ↔ val r.num ≤ val r.den := by
        unfold cmpN
        split
        · constructor <;> intro _ <;> omega
        · split <;> constructor <;> intro _ <;> omega
      simp only [hge, decide_true, Bool.true_and, Bool.not_false, hle, hc]
end Go.PN
namespace Go.Proofs.YtmfmnmkipjpjhaaGreat
open Go.AI Go.PN
attribute [local irreducible] aw Fa Fh DrK
set_option maxHeartbeats 800000 in
theorem rprob_fa (r : RD) (hw : r.wf 1073741824) : Fa Tryz.prog 56 [.agg (rdc r)] (.c (.bool r.prob)) := by
  have h1 := hw.2.2.1
  have h2 := hw.2.2.2
  refine fa_of_body Tryz.func56 rfl rfl (by simp [Tryz.ntmps56]) fun C hC => ?_
  simp only [initS, Nat.reduceAdd]
  refine xG ?_
  refine xB fun g1 hn_g1=>?_
  refine yG hn_g1 ?_
  refine yC hn_g1 (rvalid_fa r (wf_mono hw ?_)) ?_
  · omega
  refine yG hn_g1 ?_
  unfold RD.prob
  refine aw_split 5 (zE hn_g1) (fun hv => ?_) (fun hv => ?_) <;> refine yS hn_g1 ?_
  · have hp := prob_eq hw hv
    refine yG hn_g1 ?_
    refine aw_split 10 (zE hn_g1) (fun hn => ?_) (fun hn => ?_) <;> refine yS hn_g1 ?_
    · refine yG hn_g1 ?_
      refine yC hn_g1 (cmp_fa _ _ hw.1 hw.2.1 ?_ ?_) ?_
      · omega
      · omega
      refine yG hn_g1 ?_
      refine yT hC hn_g1 ?_
      refine .one (.c (ler_bool ?_))
      rw [hv, Bool.true_and, ← hp, hn, Bool.true_and]
    · refine yG hn_g1 ?_
      refine yT hC hn_g1 ?_
      refine .one (.c (ler_bool ?_))
      rw [hv, Bool.true_and, ← hp, hn, Bool.false_and]
  · refine yG hn_g1 ?_
    refine yT hC hn_g1 ?_
    refine .one (.c (ler_bool ?_))
    rw [hv, Bool.false_and, Bool.false_and]
theorem one_wf : (rd ((1 : Int) : Rat)).wf 500000000 := rd_wf (fits_mono (L := 1) ⟨by simp, by simp⟩ (by omega))
set_option maxHeartbeats 800000 in
theorem sprob_fa (r : RD) (hw : r.wf 500000000) : Fa Tryz.prog 32 [.agg (rdc r)] (.c (.bool r.prob)) := by
  have h1 := hw.2.2.1
  have h2 := hw.2.2.2
  refine fa_of_body Tryz.func32 rfl rfl (by simp [Tryz.ntmps32]) fun C hC => ?_
  simp only [initS, Nat.reduceAdd]
  refine xG ?_
  refine xB fun g1 hn_g1=>?_
  refine yG hn_g1 ?_
  refine aw_dr 14 ty_mixed (by kernel_rfl) ?_
  refine yG hn_g1 ?_
  refine yD hn_g1 (svalid_fa r (wf_mono hw ?_)) ?_
  · omega
  refine yG hn_g1 ?_
  unfold RD.prob
  refine drk_split 5 (zE hn_g1) (fun hv => ?_) (fun hv => ?_) <;> refine yS hn_g1 ?_
  · refine yG hn_g1 ?_
    refine yD hn_g1 (ssign_fa r (wf_mono hw ?_)) ?_
    · omega
    refine yG hn_g1 ?_
    refine drk_split 10 (zE hn_g1) (fun hn => ?_) (fun hn => ?_) <;> refine yS hn_g1 ?_
    · refine yG hn_g1 ?_
      refine yD hn_g1 (sof_fa 1 ?_ ?_) ?_
      · omega
      · omega
      refine yG hn_g1 ?_
      refine yD hn_g1 (scmp_fa r (rd ((1 : Int) : Rat)) hw one_wf) ?_
      rw [rd_q, Rat.intCast_one]
      refine yG hn_g1 ?_
      refine yT hC hn_g1 ?_
      refine .one (.c (ler_bool ?_))
      rw [signQ_ge] at hn
      rw [hv, hn, signQ_le, sub_le_iff]; rfl
    · refine yG hn_g1 ?_
      refine yT hC hn_g1 ?_
      refine .one (.c (ler_bool ?_))
      rw [signQ_ge] at hn
      rw [hn, Bool.and_false, Bool.false_and]
  · refine yG hn_g1 ?_
    refine yT hC hn_g1 ?_
    refine .one (.c (ler_bool ?_))
    rw [hv, Bool.false_and, Bool.false_and]
end Go.Proofs.YtmfmnmkipjpjhaaGreat
