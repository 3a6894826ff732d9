/- Texts of one proof, laid one behind the other by a program (merge.py): Nat8, PDiv2, Nat9, Nat10. -/
import Derived.Test.YtmkomfdiggcloaaM05
set_option linter.unusedSimpArgs false
set_option linter.unusedVariables false
/- math/bits: Len32, LeadingZeros32; natural: Bits. -/
namespace Go.AI
/-- The number of bits. -/
def bitlen (n : Nat) : Nat := if n = 0 then 0 else Nat.log2 n + 1
theorem POk.indexStr {P : Program} {h : Heap} {ρ : Operand → AV} {t : TypeId} {x ix : Operand} {s : ByteArray} {k : IntKind} {i : Nat} {b : UInt8} (ht : P.underlying t = some .string) (hx : ρ x = .c (.str s)) (hi : ρ ix = .c (.int k (i : Int))) (hb : s[i]? = some b) :
    POk P h ρ (.index t x ix) (.c (.int .u8 (b.toNat : Nat))) := fun S w e _ ho _ => by
  have h1 : e x = .string s := by have := ho x (by simp [Op.operands]); rw [hx] at this; exact this
  have h2 : e ix = .int k i := by have := ho ix (by simp [Op.operands]); rw [hi] at this; exact this
  refine ⟨.int .u8 (b.toNat : Nat), fun o hop => ?_, rfl⟩
  simp [execOp, hop, h1, h2, Instr.index, asIntOf, run_underlying ht, hb]
theorem aw_idx {E : Env} {K : List It} {σ : Sl} {h : Heap} {all rest : List Oper} {o : Oper} {t : TypeId} {x ix : Operand} {s : ByteArray} {k : IntKind} {i : Nat} (hop : o.op = .index t x ix) (hw : wantA all σ o = some true) (hd : dstOk E.N o.dst = true) (ht : E.P.underlying t = some .string)
    (hx : ev σ x = .c (.str s)) (hi : ev σ ix = .c (.int k (i : Int))) (htab : ∀ j, j < 256 → (s[j]?).map UInt8.toNat = some (bitlen j)) (hlt : i < 256) (kk : aw E (.ops all rest :: K) (σ.setO o.dst (.c (.int .u8 (bitlen i : Nat)))) h) : aw E (.ops all (o :: rest) :: K) σ h := by
  have h1 := htab i hlt
  cases hs : s[i]? with
  | none => rw [hs] at h1; cases h1
  | some b =>
    rw [hs] at h1
    injection h1 with h1
    rw [← h1] at kk
    exact aw_pure hw (by rw [hop]; exact POk.indexStr ht hx hi hs) hd rfl kk
theorem shr_u32_16 (x : Nat) : shrZ .u32 (x : Int) 16 = ((x / 65536 : Nat) : Int) := by
  rw [shrZ_eq]
  show (x : Int).fdiv 65536 = _
  rw [Int.fdiv_eq_ediv_of_nonneg _ (by omega)]; omega
theorem shr_u32_8 (x : Nat) : shrZ .u32 (x : Int) 8 = ((x / 256 : Nat) : Int) := by
  rw [shrZ_eq]
  show (x : Int).fdiv 256 = _
  rw [Int.fdiv_eq_ediv_of_nonneg _ (by omega)]; omega
theorem bitlen_div {x k : Nat} (hx : 2 ^ k ≤ x) : bitlen x = k + bitlen (x / 2 ^ k) := by
  have hp := Nat.two_pow_pos k
  have h0 : x ≠ 0 := by omega
  have h1 : x / 2 ^ k ≠ 0 := by have := Nat.div_pos hx hp; omega
  unfold bitlen
  rw [if_neg h0, if_neg h1]
  have : Nat.log2 x = Nat.log2 (x / 2 ^ k) + k := by
    clear h1
    induction k generalizing x with
    | zero => simp
    | succ k ih =>
      have e2 : 2 ≤ x := by have : 2 ^ 1 ≤ 2 ^ (k + 1) := Nat.pow_le_pow_right (by omega) (by omega); omega
      rw [Nat.log2_def, if_pos e2]
      have hk : 2 ^ k ≤ x / 2 := by rw [Nat.pow_succ] at hx; omega
      rw [ih hk (Nat.two_pow_pos k) (by have := Nat.two_pow_pos k; omega), Nat.div_div_eq_div_mul, Nat.pow_succ, Nat.mul_comm 2]
      omega
  omega
end Go.AI
namespace Go.Proofs.Ytmkomfdiggcloaa
open Go.AI Go.PN
attribute [local irreducible] aw Fa Fh DrK
theorem ty_str : Try.prog.underlying 9 = some .string := by kernel_rfl
@[go_sem] theorem ty_i_u8 : tInt Try.prog 5 = some .u8 := by kernel_rfl
theorem wrap_u8_nat {n : Nat} (h : n < 256) : wrapZ .u8 (n : Int) = (n : Int) := by
  rw [wrapZ_eq]; exact wrap_inRange (k := .u8) ⟨by omega, by omega⟩
theorem bitlen_le8 : ∀ j, j < 256 → bitlen j ≤ 8 := by decide +kernel
set_option maxHeartbeats 1600000 in
set_option maxRecDepth 10000 in
theorem len32_fa (x : Nat) (hx : x < 4294967296) : Fa Try.prog 95 [.c (.int .u32 x)] (.c (.int .i64 (bitlen x : Nat))) := by
  refine fa_of_body Try.func95 rfl rfl (by simp [Try.ntmps95]) fun C hC => ?_
  simp only [initS, Nat.reduceAdd]
  repeat first|apply wa1|apply wa2|apply wa3|apply wa4|apply wa5 rfl|apply wa6|apply wa7|(refine wb0 rfl fun R r=>?_;simp only[go_sem];with_reducible refine r _ _ ?_;clear r R)
  refine aw_cond (by simp only[go_sem]<;>rfl) (fun hb => ?_) (fun hb => ?_)
  · have hx1 : 65536 ≤ x := by have := of_decide_eq_true hb; omega
    have e1 : bitlen x = 16 + bitlen (x / 65536) := bitlen_div (k := 16) hx1
    repeat first|apply wa1|apply wa2|apply wa3|apply wa4|apply wa5 rfl|apply wa6|apply wa7|(refine wb0 rfl fun R r=>?_;simp only[go_sem];with_reducible refine r _ _ ?_;clear r R)
    rw [shr_u32_16]
    repeat first|apply wa1|apply wa2|apply wa3|apply wa4|apply wa5 rfl|apply wa6|apply wa7|(refine wb0 rfl fun R r=>?_;simp only[go_sem];with_reducible refine r _ _ ?_;clear r R)
    refine aw_cond (by simp only[go_sem]<;>rfl) (fun hb => ?_) (fun hb => ?_)
    · have hx2 : 256 ≤ x / 65536 := by have := of_decide_eq_true hb; omega
      have e2 : bitlen (x / 65536) = 8 + bitlen (x / 65536 / 256) := bitlen_div (k := 8) hx2
      have hb8 := bitlen_le8 (x / 65536 / 256) (by omega)
      repeat first|apply wa1|apply wa2|apply wa3|apply wa4|apply wa5 rfl|apply wa6|apply wa7|(refine wb0 rfl fun R r=>?_;simp only[go_sem];with_reducible refine r _ _ ?_;clear r R)
      rw [shr_u32_8]
      repeat first|apply wa1|apply wa2|apply wa3|apply wa4|apply wa5 rfl|apply wa6|apply wa7|(refine wb0 rfl fun R r=>?_;simp only[go_sem];with_reducible refine r _ _ ?_;clear r R)
      rw [wrap_u8_nat (n := x / 65536 / 256) (by omega)]
      refine aw_idx (i := x / 65536 / 256) rfl rfl rfl ty_str rfl (by simp only[go_sem]<;>rfl) (by decide +kernel) (by omega) ?_
      (try simp only[go_sem])
      repeat first|apply wa1|apply wa2|apply wa3|apply wa4|apply wa5 rfl|apply wa6|apply wa7|(refine wb0 rfl fun R r=>?_;simp only[go_sem];with_reducible refine r _ _ ?_;clear r R)
      (refine aw_retq hC rfl fun R r=>?_;simp only[go_sem];refine r _ rfl ?_;clear r R)
      exact .one (.c (ler_int (by omega)))
    · have hx2 : x / 65536 < 256 := by have := of_decide_eq_false hb; omega
      have hb8 := bitlen_le8 (x / 65536) (by omega)
      repeat first|apply wa1|apply wa2|apply wa3|apply wa4|apply wa5 rfl|apply wa6|apply wa7|(refine wb0 rfl fun R r=>?_;simp only[go_sem];with_reducible refine r _ _ ?_;clear r R)
      rw [wrap_u8_nat (n := x / 65536) (by omega)]
      refine aw_idx (i := x / 65536) rfl rfl rfl ty_str rfl (by simp only[go_sem]<;>rfl) (by decide +kernel) (by omega) ?_
      (try simp only[go_sem])
      repeat first|apply wa1|apply wa2|apply wa3|apply wa4|apply wa5 rfl|apply wa6|apply wa7|(refine wb0 rfl fun R r=>?_;simp only[go_sem];with_reducible refine r _ _ ?_;clear r R)
      (refine aw_retq hC rfl fun R r=>?_;simp only[go_sem];refine r _ rfl ?_;clear r R)
      exact .one (.c (ler_int (by omega)))
  · have hx1 : x < 65536 := by have := of_decide_eq_false hb; omega
    repeat first|apply wa1|apply wa2|apply wa3|apply wa4|apply wa5 rfl|apply wa6|apply wa7|(refine wb0 rfl fun R r=>?_;simp only[go_sem];with_reducible refine r _ _ ?_;clear r R)
    refine aw_cond (by simp only[go_sem]<;>rfl) (fun hb => ?_) (fun hb => ?_)
    · have hx2 : 256 ≤ x := by have := of_decide_eq_true hb; omega
      have e2 : bitlen x = 8 + bitlen (x / 256) := bitlen_div (k := 8) hx2
      have hb8 := bitlen_le8 (x / 256) (by omega)
      repeat first|apply wa1|apply wa2|apply wa3|apply wa4|apply wa5 rfl|apply wa6|apply wa7|(refine wb0 rfl fun R r=>?_;simp only[go_sem];with_reducible refine r _ _ ?_;clear r R)
      rw [shr_u32_8]
      repeat first|apply wa1|apply wa2|apply wa3|apply wa4|apply wa5 rfl|apply wa6|apply wa7|(refine wb0 rfl fun R r=>?_;simp only[go_sem];with_reducible refine r _ _ ?_;clear r R)
      rw [wrap_u8_nat (n := x / 256) (by omega)]
      refine aw_idx (i := x / 256) rfl rfl rfl ty_str rfl (by simp only[go_sem]<;>rfl) (by decide +kernel) (by omega) ?_
      (try simp only[go_sem])
      repeat first|apply wa1|apply wa2|apply wa3|apply wa4|apply wa5 rfl|apply wa6|apply wa7|(refine wb0 rfl fun R r=>?_;simp only[go_sem];with_reducible refine r _ _ ?_;clear r R)
      (refine aw_retq hC rfl fun R r=>?_;simp only[go_sem];refine r _ rfl ?_;clear r R)
      exact .one (.c (ler_int (by omega)))
    · have hx2 : x < 256 := by have := of_decide_eq_false hb; omega
      have hb8 := bitlen_le8 x (by omega)
      repeat first|apply wa1|apply wa2|apply wa3|apply wa4|apply wa5 rfl|apply wa6|apply wa7|(refine wb0 rfl fun R r=>?_;simp only[go_sem];with_reducible refine r _ _ ?_;clear r R)
      rw [wrap_u8_nat (n := x) (by omega)]
      refine aw_idx (i := x) rfl rfl rfl ty_str rfl (by simp only[go_sem]<;>rfl) (by decide +kernel) (by omega) ?_
      (try simp only[go_sem])
      repeat first|apply wa1|apply wa2|apply wa3|apply wa4|apply wa5 rfl|apply wa6|apply wa7|(refine wb0 rfl fun R r=>?_;simp only[go_sem];with_reducible refine r _ _ ?_;clear r R)
      (refine aw_retq hC rfl fun R r=>?_;simp only[go_sem];refine r _ rfl ?_;clear r R)
      exact .one (.c (ler_int (by omega)))

theorem bitlen_lt {x k : Nat} (h : x < 2 ^ k) : bitlen x ≤ k := by
  unfold bitlen
  split
  · omega
  · rename_i h0
    have := (Nat.log2_lt h0).2 h
    omega
set_option maxHeartbeats 1600000 in
theorem lead_fa (x : Nat) (hx : x < 4294967296) : Fa Try.prog 97 [.c (.int .u32 x)] (.c (.int .i64 (32 - bitlen x : Nat))) := by
  refine fa_of_body Try.func97 rfl rfl (by simp [Try.ntmps97]) fun C hC => ?_
  simp only [initS, Nat.reduceAdd]
  have hb : bitlen x ≤ 32 := bitlen_lt hx
  repeat first|apply wa1|apply wa2|apply wa3|apply wa4|apply wa5 rfl|apply wa6|apply wa7|(refine wb0 rfl fun R r=>?_;simp only[go_sem];with_reducible refine r _ _ ?_;clear r R)
  refine aw_callq (len32_fa x hx) rfl rfl rfl (by first|exact True.intro|simp only[go_sem]<;>and_intros<;>first|exact True.intro|exact .c (.refl _)|exact .c wl2|exact .agg (lel_refl _)|exact .agg (by simp only[LeL];and_intros<;>first|exact True.intro|exact .refl _|exact wl2)|exact .c .nils) ?_
  (try simp only[go_sem])
  repeat first|apply wa1|apply wa2|apply wa3|apply wa4|apply wa5 rfl|apply wa6|apply wa7|(refine wb0 rfl fun R r=>?_;simp only[go_sem];with_reducible refine r _ _ ?_;clear r R)
  (refine aw_retq hC rfl fun R r=>?_;simp only[go_sem];refine r _ rfl ?_;clear r R)
  exact .one (.c (ler_int (by omega)))
theorem drop_zero {xs : List Nat} {m : Nat} (h : ∀ j, m ≤ j → xs.getD j 0 = 0) : val (xs.drop m) = 0 := by
  refine val_zero fun x hx => ?_
  obtain ⟨i, hi, rfl⟩ := List.getElem_of_mem hx
  have := h (m + i) (by omega)
  rw [List.getD_eq_getElem?_getD] at this
  simp only [List.length_drop] at hi
  simpa [show m + i < xs.length from by omega] using this
theorem bits_top {xs : List Nat} {m : Nat} (hx : ∀ x ∈ xs, x < 4294967296) (hm : m < xs.length) (hz : ∀ j, m + 1 ≤ j → xs.getD j 0 = 0) (h0 : xs.getD m 0 ≠ 0) : bitlen (val xs) = 32 * m + bitlen (xs.getD m 0) := by
  have h1 := val_split xs (m + 1) (by omega)
  rw [drop_zero hz, Nat.mul_zero, Nat.add_zero, val_take_succ] at h1
  have h2 := val_take_lt xs hx m (by omega)
  have hp : 4294967296 ^ m = 2 ^ (32 * m) := by rw [Nat.pow_mul]
  rw [hp] at h1 h2
  have hle : 2 ^ (32 * m) ≤ val xs := by
    rw [h1]
    have := Nat.mul_le_mul_left (2 ^ (32 * m)) (show 1 ≤ xs.getD m 0 from by omega)
    omega
  rw [bitlen_div hle, h1, Nat.add_mul_div_left _ _ (Nat.two_pow_pos _), Nat.div_eq_of_lt h2, Nat.zero_add]
set_option maxHeartbeats 1600000 in
theorem bits_fa (xs : List Nat) (hx : ∀ x ∈ xs, x < 4294967296) (hlx : xs.length ≤ 68719476736) : Fa Try.prog 77 [.c (ws false xs)] (.c (.int .i64 (bitlen (val xs) : Nat))) := by
  refine fa_of_body Try.func77 rfl rfl (by simp [Try.ntmps77]) fun C hC => ?_
  simp only [initS, Nat.reduceAdd]
  repeat first|apply wa1|apply wa2|apply wa3|apply wa4|apply wa5 rfl|apply wa6|apply wa7|(refine wb0 rfl fun R r=>?_;simp only[go_sem];with_reducible refine r _ _ ?_;clear r R)
  refine aw_lp (fun m : Nat => [(0, .c (ws false xs)), (3, .c (.int .i64 ((m : Int) - 1)))]) (fun _ => []) (fun m => m ≤ xs.length ∧ (∀ j, m ≤ j → xs.getD j 0 = 0)) id xs.length (by simp only[go_sem]<;>and_intros<;>first|exact True.intro|(with_reducible rfl)|exact c_int (by omega)|rfl) (List.Sublist.refl _) ⟨Nat.le_refl _, fun j hj => getD_ge hj⟩ ?_
  rintro m ⟨hm, hz⟩
  repeat first|apply wa1|apply wa2|apply wa3|apply wa4|apply wa5 rfl|apply wa6|apply wa7|(refine wb0 rfl fun R r=>?_;simp only[go_sem];with_reducible refine r _ _ ?_;clear r R)
  refine aw_cond (by simp only[go_sem]<;>rfl) (fun hb => ?_) (fun hb => ?_)
  · have hm1 : 1 ≤ m := by have := of_decide_eq_true hb; omega
    have e1 : ((m : Int) - 1).toNat = m - 1 := by omega
    have hxi := getD_lt hx (m - 1)
    repeat first|apply wa1|apply wa2|apply wa3|apply wa4|apply wa5 rfl|apply wa6|apply wa7|(refine wb0 rfl fun R r=>?_;simp only[go_sem];with_reducible refine r _ _ ?_;clear r R)
    refine aw_cond (by simp only[go_sem]<;>rfl) (fun hb => ?_) (fun hb => ?_)
    · have h0 : xs.getD (m - 1) 0 ≠ 0 := by simpa using hb
      have hbt := bits_top hx (m := m - 1) (by omega) (by rw [show m - 1 + 1 = m from by omega]; exact hz) h0
      have hbl : bitlen (xs.getD (m - 1) 0) ≤ 32 := bitlen_lt hxi
      repeat first|apply wa1|apply wa2|apply wa3|apply wa4|apply wa5 rfl|apply wa6|apply wa7|(refine wb0 rfl fun R r=>?_;simp only[go_sem];with_reducible refine r _ _ ?_;clear r R)
      refine aw_callq (len32_fa _ hxi) rfl rfl rfl (by first|exact True.intro|simp only[go_sem]<;>and_intros<;>first|exact True.intro|exact .c (.refl _)|exact .c wl2|exact .agg (lel_refl _)|exact .agg (by simp only[LeL];and_intros<;>first|exact True.intro|exact .refl _|exact wl2)|exact .c .nils) ?_
      (try simp only[go_sem])
      repeat first|apply wa1|apply wa2|apply wa3|apply wa4|apply wa5 rfl|apply wa6|apply wa7|(refine wb0 rfl fun R r=>?_;simp only[go_sem];with_reducible refine r _ _ ?_;clear r R)
      (refine aw_retq hC rfl fun R r=>?_;simp only[go_sem];refine r _ rfl ?_;clear r R)
      exact .one (.c (ler_int (by omega)))
    · have h0 : xs.getD (m - 1) 0 = 0 := by simpa using hb
      repeat first|apply wa1|apply wa2|apply wa3|apply wa4|apply wa5 rfl|apply wa6|apply wa7|(refine wb0 rfl fun R r=>?_;simp only[go_sem];with_reducible refine r _ _ ?_;clear r R)
      refine aw_stop ⟨m - 1, by simp only [id]; omega, (by simp only[go_sem]<;>and_intros<;>first|exact True.intro|(with_reducible rfl)|exact c_int (by omega)|rfl), (List.Sublist.refl _), by omega, fun j hj => ?_⟩
      by_cases e : j = m - 1
      · rw [e]; exact h0
      · exact hz j (by omega)
  · have hm0 : m = 0 := by have := of_decide_eq_false hb; omega
    subst hm0
    repeat first|apply wa1|apply wa2|apply wa3|apply wa4|apply wa5 rfl|apply wa6|apply wa7|(refine wb0 rfl fun R r=>?_;simp only[go_sem];with_reducible refine r _ _ ?_;clear r R)
    (refine aw_retq hC rfl fun R r=>?_;simp only[go_sem];refine r _ rfl ?_;clear r R)
    have := drop_zero hz
    rw [List.drop_zero] at this
    exact .one (.c (ler_int (by rw [this]; rfl)))
theorem bitlen_zero {n : Nat} : bitlen n = 0 ↔ n = 0 := by
  unfold bitlen; split <;> simp [*]
end Go.Proofs.Ytmkomfdiggcloaa

/- Long division, in plain numbers: the windows, one step, the end. -/
namespace Go.PN

theorem val_one (x : Nat) : val [x] = x := by simp [val]
theorem val_cut {zs : List Nat} {m : Nat} (h : val zs < 4294967296 ^ m) : val (zs.drop m) = 0 := by
  refine val_zero fun x hx => ?_
  obtain ⟨i, hi, rfl⟩ := List.getElem_of_mem hx
  have := getD_zero_of_lt h (show m ≤ m + i from by omega)
  rw [List.getD_eq_getElem?_getD] at this
  simp only [List.length_drop] at hi
  simpa [show m + i < zs.length from by omega] using this
theorem val_take_all {zs : List Nat} {k : Nat} (h : zs.length = k) : val (zs.take k) = val zs := by rw [List.take_of_length_le (by omega)]
theorem top2 {zs : List Nat} {k : Nat} (hl : zs.length = k + 2) : val zs = (zs.getD (k + 1) 0 * 4294967296 + zs.getD k 0) * 4294967296 ^ k + val (zs.take k) := by
  rw [← val_take_all hl, val_take_succ, val_take_succ, Nat.pow_succ, Nat.add_mul, Nat.mul_assoc, Nat.mul_comm (4294967296 ^ k) (4294967296 * zs.getD (k + 1) 0), Nat.mul_comm (4294967296 ^ k) (zs.getD k 0), Nat.mul_comm 4294967296 (zs.getD (k + 1) 0)]
  omega
theorem top3 {zs : List Nat} {k : Nat} (hl : zs.length = k + 3) : val zs = ((zs.getD (k + 2) 0 * 4294967296 + zs.getD (k + 1) 0) * 4294967296 + zs.getD k 0) * 4294967296 ^ k + val (zs.take k) := by
  rw [← val_take_all hl, val_take_succ, val_take_succ, val_take_succ]
  generalize zs.getD (k + 2) 0 = a
  generalize zs.getD (k + 1) 0 = b
  generalize zs.getD k 0 = c
  simp only [Nat.pow_succ]
  generalize 4294967296 ^ k = D
  simp only [Nat.add_mul]
  have e1 : a * 4294967296 * 4294967296 * D = D * 4294967296 * 4294967296 * a := by rw [Nat.mul_comm (D * 4294967296 * 4294967296) a, Nat.mul_comm D, Nat.mul_comm (4294967296 * D), ← Nat.mul_assoc 4294967296 4294967296 D, ← Nat.mul_assoc, ← Nat.mul_assoc]
  have e2 : b * 4294967296 * D = D * 4294967296 * b := by rw [Nat.mul_comm (D * 4294967296) b, Nat.mul_comm D, ← Nat.mul_assoc]
  have e3 : c * D = D * c := Nat.mul_comm _ _
  rw [e1, e2, e3]
  omega

theorem win_getD' {us : List Nat} {j L i : Nat} (hi : i < L) : ((us.drop j).take L).getD i 0 = us.getD (j + i) 0 := by
  rw [getD_take hi, List.getD_eq_getElem?_getD, List.getD_eq_getElem?_getD, List.getElem?_drop]
theorem win_win {ys zs zs2 : List Nat} {off : Nat} (h : off + zs.length ≤ ys.length) (he : zs2.length = zs.length) : win (win ys off zs) off zs2 = win ys off zs2 := by
  unfold win
  have h1 : (ys.take off ++ (zs ++ ys.drop (off + zs.length))).take off = ys.take off := by
    rw [List.take_append_of_le_length (by simp; omega), List.take_take, Nat.min_self]
  have h2 : (ys.take off ++ (zs ++ ys.drop (off + zs.length))).drop (off + zs2.length) = ys.drop (off + zs2.length) := by
    rw [he, ← List.append_assoc, List.drop_append_of_le_length (by simp; omega), List.drop_of_length_le (by simp; omega), List.nil_append]
  rw [h1, h2]
theorem win_of_win {ys zs : List Nat} {off L : Nat} (h : off + L ≤ ys.length) (hz : zs.length = L) : zs = ((win ys off zs).drop off).take L := by
  unfold win
  rw [List.drop_append_of_le_length (by simp; omega), List.drop_of_length_le (by simp; omega), List.nil_append, List.take_append_of_le_length (by omega), List.take_of_length_le (by omega)]

/-- What the window is of the whole. -/
theorem window {us : List Nat} {j L V : Nat} (hu : ∀ x ∈ us, x < 4294967296) (hL : j + L + 1 ≤ us.length) (hV : V < 4294967296 ^ L) (hlt : val us < V * 4294967296 ^ (j + 1)) :
    val us = val (us.take j) + 4294967296 ^ j * val ((us.drop j).take (L + 1)) ∧ val (us.take j) < 4294967296 ^ j ∧ val (us.drop (j + (L + 1))) = 0 ∧ val ((us.drop j).take (L + 1)) < V * 4294967296 := by
  have h1 : val (us.drop (j + (L + 1))) = 0 := by
    refine val_cut (Nat.lt_of_lt_of_le hlt ?_)
    rw [show j + (L + 1) = L + (j + 1) from by omega, Nat.pow_add 4294967296 L (j + 1)]
    exact Nat.mul_le_mul_right _ (Nat.le_of_lt hV)
  have h2 := val_split us j (by omega)
  have h3 := val_split (us.drop j) (L + 1) (by simp; omega)
  rw [List.drop_drop, h1, Nat.mul_zero, Nat.add_zero] at h3
  rw [h3] at h2
  have h4 := val_take_lt us hu j (by omega)
  refine ⟨h2, h4, h1, ?_⟩
  rw [h2, Nat.pow_succ, Nat.mul_comm (4294967296 ^ j) 4294967296, ← Nat.mul_assoc, Nat.mul_comm (V * 4294967296)] at hlt
  exact Nat.lt_of_mul_lt_mul_left (a := 4294967296 ^ j) (by omega)
theorem head_le {W V v1 v2 vr D w0 w1 w2 wr : Nat} (hV : V = (v1 * 4294967296 + v2) * D + vr) (hv2 : v2 < 4294967296) (hvr : vr < D) (hW : W = ((w0 * 4294967296 + w1) * 4294967296 + w2) * D + wr) (hlt : W < V * 4294967296) : w0 ≤ v1 := by
  rcases Nat.lt_or_ge v1 w0 with h | h
  · exfalso
    have h1 : V + 1 ≤ (v1 + 1) * 4294967296 * D := by
      have : (v1 * 4294967296 + v2 + 1) * D ≤ (v1 + 1) * 4294967296 * D := Nat.mul_le_mul_right D (by omega)
      rw [Nat.add_mul, Nat.one_mul] at this
      omega
    have h2 : (v1 + 1) * 4294967296 * D * 4294967296 ≤ W := by
      have : (v1 + 1) * 4294967296 * 4294967296 * D ≤ ((w0 * 4294967296 + w1) * 4294967296 + w2) * D := Nat.mul_le_mul_right D (by omega)
      rw [Nat.mul_assoc _ D, Nat.mul_comm D, ← Nat.mul_assoc]
      omega
    have h3 := Nat.mul_le_mul_right 4294967296 h1
    omega
  · exact h

/-- One step: the window's rest, the digit. -/
theorem div_step {A V U lo W P z q j Q : Nat} (hU : U = lo + P * W) (hlo : lo < P) (hz : z + q * V = W) (hzV : z < V) (hA : A = U + V * (P * 4294967296 * Q)) (hP : P = 4294967296 ^ j) :
    lo + P * z < V * P ∧ A = (lo + P * z) + V * (P * (q + 4294967296 * Q)) := by
  constructor
  · have := Nat.mul_le_mul_left P (show z + 1 ≤ V from hzV)
    rw [Nat.mul_add, Nat.mul_one, Nat.mul_comm P V] at this
    omega
  · rw [hA, hU, ← hz, Nat.mul_add, Nat.mul_add, Nat.mul_add, ← Nat.mul_assoc P 4294967296 Q]
    have : P * (q * V) = V * (P * q) := by rw [← Nat.mul_assoc, Nat.mul_comm]
    omega
theorem digit_ok {W V g z P : Nat} (hV : 0 < V) (h1 : W / V ≤ g) (h2 : g * V < W + V) (h : z + g * V = W + P * 0) : z + (W / V) * V = W ∧ z < V ∧ g = W / V := by
  have hg : g ≤ W / V := (Nat.le_div_iff_mul_le hV).2 (by omega)
  have e : g = W / V := by omega
  subst e
  have := Nat.div_add_mod W V
  have h3 := Nat.mod_lt W hV
  rw [Nat.mul_comm] at this
  exact ⟨by omega, by omega, rfl⟩
theorem digit_back {W V g z z2 P c : Nat} (hV : 0 < V) (hVP : V ≤ P) (h1 : W / V ≤ g) (h2 : g * V < W + V) (hz : z < P) (hz2 : z2 < P) (h : z + g * V = W + P * 1) (hb : z2 + P * c = z + V) : 1 ≤ g ∧ z2 + (W / V) * V = W ∧ z2 < V ∧ g - 1 = W / V := by
  have hmod := Nat.div_add_mod W V
  have hlt := Nat.mod_lt W hV
  rw [Nat.mul_comm] at hmod
  have hg : W / V + 1 ≤ g := by
    rcases Nat.lt_or_ge (W / V) g with h | h'
    · exact h
    · exfalso
      have e : g = W / V := by omega
      rw [e] at h
      omega
  have hg2 : g ≤ W / V + 1 := by
    rcases Nat.lt_or_ge (W / V + 1) g with h' | h'
    · exfalso
      have := Nat.mul_le_mul_right V (show W / V + 2 ≤ g from h')
      rw [Nat.add_mul] at this
      omega
    · exact h'
  have e : g = W / V + 1 := by omega
  rw [e, Nat.add_mul, Nat.one_mul] at h
  have hc : z2 + P * c = W % V + P := by omega
  have hc1 : c = 1 := by
    rcases c with _ | _ | c
    · omega
    · rfl
    · exfalso
      have : P * (c + 1 + 1) = P * c + P + P := by rw [Nat.mul_add, Nat.mul_add]; omega
      omega
  subst hc1
  exact ⟨by rw [e]; exact Nat.le_add_left _ _, by omega, by omega, by rw [e]; rfl⟩
/-- The end. -/
theorem div_end {a b n U q : Nat} (hb : 0 < b) (hlt : U < b * 2 ^ n) (h : a * 2 ^ n = U + b * 2 ^ n * q) : q = a / b ∧ U / 2 ^ n = a % b := by
  have hp := Nat.two_pow_pos n
  have hV : 0 < b * 2 ^ n := Nat.mul_pos hb hp
  have h1 : a * 2 ^ n / (b * 2 ^ n) = q := by rw [h, Nat.add_mul_div_left _ _ hV, Nat.div_eq_of_lt hlt, Nat.zero_add]
  have h2 : a * 2 ^ n % (b * 2 ^ n) = U := by rw [h, Nat.add_mul_mod_self_left, Nat.mod_eq_of_lt hlt]
  rw [Nat.mul_div_mul_right _ _ hp] at h1
  rw [Nat.mul_mod_mul_right] at h2
  exact ⟨h1.symm, by rw [← h2, Nat.mul_div_cancel _ hp]⟩

theorem mul4 (p q B D : Nat) : p * q * B * D = p * (q * B * D) := by rw [Nat.mul_assoc, Nat.mul_assoc, Nat.mul_assoc]
theorem guess_start {V W D v1 v2 head w2 wr vr : Nat} (hV : V = (v1 * 4294967296 + v2) * D + vr) (hv1 : 0 < v1) (hW : W = (head * 4294967296 + w2) * D + wr) (hw2 : w2 < 4294967296) (hwr : wr < D) : W / V ≤ head / v1 := by
  have hD : 0 < D := by omega
  have hV0 : 0 < V := by
    have := Nat.mul_le_mul_right D (show 1 ≤ v1 * 4294967296 + v2 from by omega)
    omega
  have h1 : head + 1 ≤ (head / v1 + 1) * v1 := by
    have := Nat.div_add_mod head v1
    have h2 := Nat.mod_lt head hv1
    rw [Nat.add_mul, Nat.one_mul, Nat.mul_comm (head / v1)]
    omega
  have h2 : W < (head + 1) * 4294967296 * D := by
    have : (head * 4294967296 + w2 + 1) * D ≤ (head + 1) * 4294967296 * D := Nat.mul_le_mul_right D (by omega)
    rw [Nat.add_mul, Nat.one_mul] at this
    omega
  have h3 : (head + 1) * 4294967296 * D ≤ (head / v1 + 1) * V := by
    have e1 : (head + 1) * 4294967296 * D ≤ (head / v1 + 1) * v1 * 4294967296 * D := Nat.mul_le_mul_right D (Nat.mul_le_mul_right _ h1)
    have e0 : v1 * 4294967296 * D ≤ V := by rw [hV, Nat.add_mul, Nat.add_assoc]; exact Nat.le_add_right _ _
    have e2 := Nat.mul_le_mul_left (head / v1 + 1) e0
    rw [← mul4] at e2
    exact Nat.le_trans e1 e2
  have : W / V < head / v1 + 1 := (Nat.div_lt_iff_lt_mul hV0).2 (by omega)
  omega
theorem norm_top {bs vs : List Nat} {n k : Nat} (hb : ∀ x ∈ bs, x < 4294967296) (hl : bs.length = k + 2) (hn : n ≤ 32) (h1 : 2147483648 ≤ bs.getD (k + 1) 0 * 2 ^ n) (h2 : bs.getD (k + 1) 0 * 2 ^ n < 4294967296) (hv : ∀ x ∈ vs, x < 4294967296) (hvl : vs.length = k + 3) (hvv : val vs = val bs * 2 ^ n) :
    val (vs.take (k + 2)) = val bs * 2 ^ n ∧ 2147483648 ≤ vs.getD (k + 1) 0 ∧ val bs * 2 ^ n < 4294967296 ^ (k + 2) := by
  have hB := two_pow_split hn
  have hp := Nat.two_pow_pos n
  have e1 := val_take_succ bs (k + 1)
  rw [val_take_all hl] at e1
  have e2 := val_take_lt bs hb (k + 1) (by omega)
  generalize bs.getD (k + 1) 0 = t at *
  generalize hP : 4294967296 ^ (k + 1) = P at *
  have ht : t + 1 ≤ 2 ^ (32 - n) := by
    have : 2 ^ n * t < 2 ^ n * 2 ^ (32 - n) := by rw [Nat.mul_comm]; omega
    exact Nat.lt_of_mul_lt_mul_left this
  have hlt : val bs * 2 ^ n < P * 4294967296 := by
    have a1 : val bs < P * (t + 1) := by rw [Nat.mul_add]; omega
    have a2 := Nat.mul_lt_mul_of_pos_right a1 hp
    have a3 : P * (t + 1) * 2 ^ n ≤ P * 4294967296 := by
      rw [Nat.mul_assoc]
      refine Nat.mul_le_mul_left P ?_
      rw [hB, Nat.mul_comm]
      exact Nat.mul_le_mul_left _ ht
    omega
  have hP2 : 4294967296 ^ (k + 2) = P * 4294967296 := by rw [show k + 2 = (k + 1) + 1 from rfl, Nat.pow_succ, hP]
  have hs := val_split vs (k + 2) (by omega)
  rw [val_cut (zs := vs) (m := k + 2) (by rw [hvv, hP2]; exact hlt), Nat.mul_zero, Nat.add_zero] at hs
  refine ⟨by omega, ?_, by rw [hP2]; exact hlt⟩
  have e3 : val (vs.take (k + 2)) = val (vs.take (k + 1)) + 4294967296 ^ (k + 1) * vs.getD (k + 1) 0 := val_take_succ vs (k + 1)
  have e4 := val_take_lt vs hv (k + 1) (by omega)
  rw [hP] at e3 e4
  have hge : P * 2147483648 ≤ val bs * 2 ^ n := by
    rw [e1, Nat.add_mul, Nat.mul_assoc]
    have := Nat.mul_le_mul_left P h1
    omega
  have : P * 2147483648 < P * (vs.getD (k + 1) 0 + 1) := by
    rw [Nat.mul_add, Nat.mul_one]
    omega
  have := Nat.lt_of_mul_lt_mul_left this
  omega
theorem div_start {a b n la lb : Nat} (ha : a < 4294967296 ^ la) (hb : 4294967296 ^ (lb - 1) ≤ b) (hl : lb ≤ la) (h0 : 1 ≤ lb) : a * 2 ^ n < b * 2 ^ n * 4294967296 ^ (la + 1 - lb) := by
  have hp := Nat.two_pow_pos n
  have h1 : 4294967296 ^ la = 4294967296 ^ (lb - 1) * 4294967296 ^ (la + 1 - lb) := by rw [← Nat.pow_add]; congr 1; omega
  have h2 := Nat.mul_le_mul_right (4294967296 ^ (la + 1 - lb)) hb
  rw [← h1] at h2
  have h3 := Nat.mul_lt_mul_of_pos_right (Nat.lt_of_lt_of_le ha h2) hp
  rw [Nat.mul_right_comm]
  exact h3
end Go.PN

/- natural: Div. -/
namespace Go.Proofs.Ytmkomfdiggcloaa
open Go.AI Go.PN
attribute [local irreducible] aw Fa Fh DrK
theorem shift_top {t : Nat} (h0 : t ≠ 0) (hl : t < 4294967296) : 32 - bitlen t < 32 ∧ 2147483648 ≤ t * 2 ^ (32 - bitlen t) ∧ t * 2 ^ (32 - bitlen t) < 4294967296 := by
  have h1 : bitlen t ≤ 32 := bitlen_lt (k := 32) hl
  have h2 : bitlen t = Nat.log2 t + 1 := by unfold bitlen; rw [if_neg h0]
  have h3 := Nat.log2_self_le h0
  have h4 := Nat.lt_log2_self (n := t)
  have hk : 32 - bitlen t + bitlen t = 32 := by omega
  refine ⟨by omega, ?_, ?_⟩
  · have := Nat.mul_le_mul_right (2 ^ (32 - bitlen t)) h3
    rw [← Nat.pow_add, show t.log2 + (32 - bitlen t) = 31 from by omega] at this
    exact this
  · have := Nat.mul_lt_mul_of_pos_right h4 (Nat.two_pow_pos (32 - bitlen t))
    rw [← Nat.pow_add, show t.log2 + 1 + (32 - bitlen t) = 32 from by omega] at this
    exact this
set_option maxHeartbeats 3200000 in
set_option maxRecDepth 4000 in
theorem div_fa (xs ys : List Nat) (hx : ∀ x ∈ xs, x < 4294967296) (hy : ∀ x ∈ ys, x < 4294967296) (hlx : xs.length ≤ 68719476736) (hly : ys.length ≤ 68719476736) (h0 : val ys ≠ 0) :
    Fa Try.prog 79 [.c (ws false xs), .c (ws false ys)] (.tup [.c (ws true (words (val xs / val ys))), .c (ws true (words (val xs % val ys))), .c .nilI]) := by
  refine fa_of_body Try.func79 rfl rfl (by simp [Try.ntmps79]) fun C hC => ?_
  simp only [initS, Nat.reduceAdd]
  repeat first|apply wa1|apply wa2|apply wa3|apply wa4|apply wa5 rfl|apply wa6|apply wa7|(refine wb0 rfl fun R r=>?_;simp only[go_sem];with_reducible refine r _ _ ?_;clear r R)
  refine aw_callq (trim_fa xs hx (by omega)) rfl rfl rfl (by first|exact True.intro|simp only[go_sem]<;>and_intros<;>first|exact True.intro|exact .c (.refl _)|exact .c wl2|exact .agg (lel_refl _)|exact .agg (by simp only[LeL];and_intros<;>first|exact True.intro|exact .refl _|exact wl2)|exact .c .nils) ?_
  (try simp only[go_sem])
  repeat first|apply wa1|apply wa2|apply wa3|apply wa4|apply wa5 rfl|apply wa6|apply wa7|(refine wb0 rfl fun R r=>?_;simp only[go_sem];with_reducible refine r _ _ ?_;clear r R)
  refine aw_callq (trim_fa ys hy (by omega)) rfl rfl rfl (by first|exact True.intro|simp only[go_sem]<;>and_intros<;>first|exact True.intro|exact .c (.refl _)|exact .c wl2|exact .agg (lel_refl _)|exact .agg (by simp only[LeL];and_intros<;>first|exact True.intro|exact .refl _|exact wl2)|exact .c .nils) ?_
  (try simp only[go_sem])
  have hla : (words (val xs)).length ≤ 68719476736 := Nat.le_trans (words_val_len xs hx) hlx
  have hlb : (words (val ys)).length ≤ 68719476736 := Nat.le_trans (words_val_len ys hy) hly
  generalize val xs = a at hla ⊢
  generalize val ys = b at hlb h0 ⊢
  have hwa := words_lt a
  have hwb := words_lt b
  have hva := val_words a
  have hvb := val_words b
  have hbne : (words b).length ≠ 0 := fun e => h0 (words_eq_nil.1 (List.length_eq_zero_iff.1 e))
  repeat first|apply wa1|apply wa2|apply wa3|apply wa4|apply wa5 rfl|apply wa6|apply wa7|(refine wb0 rfl fun R r=>?_;simp only[go_sem];with_reducible refine r _ _ ?_;clear r R)
  refine aw_cond (by simp only[go_sem]<;>rfl) (fun hb => ?_) (fun _ => ?_)
  · have := eq_of_beq hb; omega
  repeat first|apply wa1|apply wa2|apply wa3|apply wa4|apply wa5 rfl|apply wa6|apply wa7|(refine wb0 rfl fun R r=>?_;simp only[go_sem];with_reducible refine r _ _ ?_;clear r R)
  refine aw_callq (cmp_fa (words a) (words b) hwa hwb hla hlb) rfl rfl rfl (by first|exact True.intro|simp only[go_sem]<;>and_intros<;>first|exact True.intro|exact .c (.refl _)|exact .c wl2|exact .agg (lel_refl _)|exact .agg (by simp only[LeL];and_intros<;>first|exact True.intro|exact .refl _|exact wl2)|exact .c .nils) ?_
  (try simp only[go_sem])
  rw [hva, hvb]
  repeat first|apply wa1|apply wa2|apply wa3|apply wa4|apply wa5 rfl|apply wa6|apply wa7|(refine wb0 rfl fun R r=>?_;simp only[go_sem];with_reducible refine r _ _ ?_;clear r R)
  refine aw_cond (by simp only[go_sem]<;>rfl) (fun hb => ?_) (fun hb => ?_)
  · have hlt : a < b := by
      have := of_decide_eq_true hb
      unfold cmpN at this
      split at this
      · assumption
      · split at this <;> omega
    repeat first|apply wa1|apply wa2|apply wa3|apply wa4|apply wa5 rfl|apply wa6|apply wa7|(refine wb0 rfl fun R r=>?_;simp only[go_sem];with_reducible refine r _ _ ?_;clear r R)
    (refine aw_retq hC rfl fun R r=>?_;simp only[go_sem];refine r _ rfl ?_;clear r R)
    rw [Nat.div_eq_of_lt hlt, Nat.mod_eq_of_lt hlt, words_zero]
    exact .tup ⟨.c .nils, .c ler_ws, .c .nilI, trivial⟩
  have hge : b ≤ a := by
    have := of_decide_eq_false hb
    unfold cmpN at this
    split at this
    · omega
    · omega
  have hlab : (words b).length ≤ (words a).length := words_len_mono hge
  repeat first|apply wa1|apply wa2|apply wa3|apply wa4|apply wa5 rfl|apply wa6|apply wa7|(refine wb0 rfl fun R r=>?_;simp only[go_sem];with_reducible refine r _ _ ?_;clear r R)
  refine aw_cond (by simp only[go_sem]<;>rfl) (fun hb => ?_) (fun hb => ?_)
  · have hl1 : (words b).length = 1 := by have := eq_of_beq hb; omega
    have hbw : b = (words b).getD 0 0 := by
      match hws : words b, hl1 with
      | [w], _ => rw [hws, val_one] at hvb; exact hvb.symm
    have hb32 := getD_lt hwb 0
    repeat first|apply wa1|apply wa2|apply wa3|apply wa4|apply wa5 rfl|apply wa6|apply wa7|(refine wb0 rfl fun R r=>?_;simp only[go_sem];with_reducible refine r _ _ ?_;clear r R)
    refine aw_callq (small_fa (words a) ((words b).getD 0 0) hwa hla (by omega) hb32) rfl rfl rfl (by first|exact True.intro|simp only[go_sem]<;>and_intros<;>first|exact True.intro|exact .c (.refl _)|exact .c wl2|exact .agg (lel_refl _)|exact .agg (by simp only[LeL];and_intros<;>first|exact True.intro|exact .refl _|exact wl2)|exact .c .nils) ?_
    (try simp only[go_sem])
    rw [hva, ← hbw]
    have hml : a % b < 4294967296 := by have := Nat.mod_lt a (show 0 < b from by omega); omega
    repeat first|apply wa1|apply wa2|apply wa3|apply wa4|apply wa5 rfl|apply wa6|apply wa7|(refine wb0 rfl fun R r=>?_;simp only[go_sem];with_reducible refine r _ _ ?_;clear r R)
    refine aw_callq (of_fa ((a % b : Nat) : Int) (by omega) (by omega)) rfl rfl rfl (by first|exact True.intro|simp only[go_sem]<;>and_intros<;>first|exact True.intro|exact .c (.refl _)|exact .c wl2|exact .agg (lel_refl _)|exact .agg (by simp only[LeL];and_intros<;>first|exact True.intro|exact .refl _|exact wl2)|exact .c .nils) ?_
    (try simp only[go_sem])
    repeat first|apply wa1|apply wa2|apply wa3|apply wa4|apply wa5 rfl|apply wa6|apply wa7|(refine wb0 rfl fun R r=>?_;simp only[go_sem];with_reducible refine r _ _ ?_;clear r R)
    (refine aw_retq hC rfl fun R r=>?_;simp only[go_sem];refine r _ rfl ?_;clear r R)
    exact .tup ⟨.c ler_ws, .c ler_ws, .c .nilI, trivial⟩
  have hl2 : (words b).length ≠ 1 := fun e => by rw [e] at hb; cases hb
  obtain ⟨k, hk⟩ : ∃ k, (words b).length = k + 2 := ⟨(words b).length - 2, by omega⟩
  have htop : (words b).getD ((words b).length - 1) 0 ≠ 0 := (words_plain b).resolve_left (fun e => by rw [e] at hbne; exact hbne rfl)
  have htl := getD_lt hwb ((words b).length - 1)
  obtain ⟨hn, hn1, hn2⟩ := shift_top htop htl
  repeat first|apply wa1|apply wa2|apply wa3|apply wa4|apply wa5 rfl|apply wa6|apply wa7|(refine wb0 rfl fun R r=>?_;simp only[go_sem];with_reducible refine r _ _ ?_;clear r R)
  refine aw_callq (lead_fa _ htl) rfl rfl rfl (by first|exact True.intro|simp only[go_sem]<;>and_intros<;>first|exact True.intro|exact .c (.refl _)|exact .c wl2|exact .agg (lel_refl _)|exact .agg (by simp only[LeL];and_intros<;>first|exact True.intro|exact .refl _|exact wl2)|exact .c .nils) ?_
  (try simp only[go_sem])
  generalize hnn : 32 - bitlen ((words b).getD ((words b).length - 1) 0) = n at hn hn1 hn2 ⊢
  repeat first|apply wa1|apply wa2|apply wa3|apply wa4|apply wa5 rfl|apply wa6|apply wa7|(refine wb0 rfl fun R r=>?_;simp only[go_sem];with_reducible refine r _ _ ?_;clear r R)
  refine aw_callh (left_fh (words b) n hwb hlb hn) rfl rfl rfl (.refl _) (by first|exact True.intro|simp only[go_sem]<;>and_intros<;>first|exact True.intro|exact .c (.refl _)|exact .c wl2|exact .agg (lel_refl _)|exact .agg (by simp only[LeL];and_intros<;>first|exact True.intro|exact .refl _|exact wl2)|exact .c .nils) ?_
  rintro r h' ⟨gv, vs, rfl, rfl, hvl, hvw, hvv⟩ hfr
  (try simp only[go_sem])
  repeat first|apply wa1|apply wa2|apply wa3|apply wa4|apply wa5 rfl|apply wa6|apply wa7|(refine wb0 rfl fun R r=>?_;simp only[go_sem];with_reducible refine r _ _ ?_;clear r R)
  have hkk : (words b).length - 1 = k + 1 := by omega
  rw [hkk] at hn1 hn2
  obtain ⟨hv1, hv2, hv3⟩ := norm_top (n := n) hwb hk (by omega) hn1 hn2 hvw (by omega) hvv
  refine aw_frzw (t := 10) (ys := vs.take (k + 2)) (by simp only[go_sem]<;>rfl) (by simp only[go_sem]<;>rfl) (by omega) (hC gv) (by simp; omega) (fun j hj => by rw [Nat.zero_add, getD_take (by omega)]) (by simp only[go_sem]<;>rfl) (by simp only[go_sem]<;>rfl) ?_
  refine aw_weak (σ' := [(0, .c (ws true (words a))), (9, .c (.int .i64 n)), (10, .c (ws true (vs.take (k + 2)))), (59, .c (ws true (words a))), (60, .c (.int .i64 n))]) (h' := []) (Sl.sub_le (by simp only[go_sem]<;>and_intros<;>first|exact True.intro|(with_reducible rfl)|exact c_int (by omega)|rfl)) (List.Sublist.refl _) ?_
  have hvvl : (vs.take (k + 2)).length = k + 2 := by simp; omega
  have hvvw : ∀ x ∈ vs.take (k + 2), x < 4294967296 := fun x hx => hvw x (List.mem_of_mem_take hx)
  rw [← getD_take (show k + 1 < k + 2 from by omega)] at hv2
  rw [hvb] at hv1 hv3
  generalize vs.take (k + 2) = v at hv1 hv2 hvvl hvvw ⊢
  refine aw_callh (left_fh (words a) n hwa hla hn) rfl rfl rfl (.refl _) (by first|exact True.intro|simp only[go_sem]<;>and_intros<;>first|exact True.intro|exact .c (.refl _)|exact .c wl2|exact .agg (lel_refl _)|exact .agg (by simp only[LeL];and_intros<;>first|exact True.intro|exact .refl _|exact wl2)|exact .c .nils) ?_
  rintro r h' ⟨gu, us, rfl, rfl, hul, huw, huv⟩ hfr
  (try simp only[go_sem])
  repeat first|apply wa1|apply wa2|apply wa3|apply wa4|apply wa5 rfl|apply wa6|apply wa7|(refine wb0 rfl fun R r=>?_;simp only[go_sem];with_reducible refine r _ _ ?_;clear r R)
  refine aw_dr 16 ty_mixed (by kernel_rfl) ?_
  have hb1 := getD_lt hvvw (v.length - 1)
  have hb2 := getD_lt hvvw (v.length - 2)
  have e2 : ((v.length : Int) - 2).toNat = v.length - 2 := by omega

  repeat first|apply wa1|apply wa3|apply wa4|apply wa5 rfl|apply wa6|apply wa7|(refine wb0 rfl fun R r=>?_;simp only[go_sem, e2];with_reducible refine r _ _ ?_;clear r R)|apply wa8|(refine wd0 rfl fun R r=>?_;simp only[go_sem, e2];with_reducible refine r _ _ ?_;clear r R)

  have hvm1 : v.length - 1 = k + 1 := by omega
  have hvm2 : v.length - 2 = k := by omega
  rw [hvm1] at hb1
  rw [hvm2] at hb2
  have eq0 : (((words a).length + 1 : Nat) : Int) - (v.length : Int) = (((words a).length + 1 - (k + 2) : Nat) : Int) := by omega
  rw [hvm1, hvm2, eq0]
  refine aw_make (n := (words a).length + 1 - (k + 2)) (c := (words a).length + 1 - (k + 2)) rfl rfl rfl ty_e_ws ty_z_u32 rfl (by omega) (by simp only[go_sem]<;>rfl) (by simp only[go_sem]<;>rfl) rfl rfl (by omega) (by omega) (by omega) fun gq hgq => ?_
  rw [make_wf ((words a).length + 1 - (k + 2))]
  have hne : ¬ gq = gu := fun e => hgq (by simp [Heap.keys, e])
  have hne2 : ¬ gu = gq := fun e => hne e.symm
  (try simp only[go_sem])
  repeat first|apply wa1|apply wa3|apply wa4|apply wa5 rfl|apply wa6|apply wa7|(refine wb0 rfl fun R r=>?_;simp only[go_sem];with_reducible refine r _ _ ?_;clear r R)
  have hst := div_start (n := n) (words_pow_lt a) (words_pow_le h0) hlab (by omega)
  rw [hva] at huv
  rw [hk, ← hv1] at hst
  rw [← huv] at hst
  rw [← hv1] at hv3
  generalize (words a).length = la at hla hlab hul eq0 hst ⊢
  apply aw_block
  generalize hlq : la + 1 - (k + 2) = lq at hst ⊢
  refine aw_lp (fun x : Nat × List Nat × List Nat => [(4, .c (.osl gq 1 0 lq)), (9, .c (.int .i64 n)), (10, .c (ws true v)), (11, .c (.osl gu 1 0 (la + 1))), (12, .c (.int .u64 (v.getD (k + 1) 0 : Nat))), (13, .c (.int .u64 (v.getD k 0 : Nat))), (14, .c (.int .i64 ((x.1 : Int) - 1)))])
    (fun x => [(gq, .cells 85 lq (wf x.2.2)), (gu, .cells 85 (la + 1) (wf x.2.1))])
    (fun x => x.1 ≤ lq ∧ x.2.1.length = la + 1 ∧ (∀ y ∈ x.2.1, y < 4294967296) ∧ x.2.2.length = lq ∧ (∀ y ∈ x.2.2, y < 4294967296) ∧ val x.2.1 < val v * 4294967296 ^ x.1 ∧ a * 2 ^ n = val x.2.1 + val v * (4294967296 ^ x.1 * val (x.2.2.drop x.1))) (fun x => x.1) (lq, us, List.replicate lq 0) (by simp only[go_sem]<;>and_intros<;>first|exact True.intro|(with_reducible rfl)|exact c_int (by omega)|rfl) (List.Sublist.refl _)
    ⟨Nat.le_refl _, hul, huw, by simp, replicate_lt _, hst, by simp [val, huv]⟩ ?_
  clear hst huv huw hul hfr hgq us
  rintro ⟨m, us, qs⟩ ⟨hm, hul, huw, hql, hqw, hlt, hA⟩
  dsimp only at hm hul huw hql hqw hlt hA ⊢
  repeat first|apply wa1|apply wa3|apply wa4|apply wa5 rfl|apply wa6|apply wa7|(refine wb0 rfl fun R r=>?_;simp only[go_sem];with_reducible refine r _ _ ?_;clear r R)
  refine aw_cond (by simp only[go_sem]<;>rfl) (fun hb => ?_) (fun hb => ?_)
  · have hm1 : 1 ≤ m := by have := of_decide_eq_true hb; omega
    obtain ⟨j, rfl⟩ : ∃ j, m = j + 1 := ⟨m - 1, by omega⟩
    have e14 : ((j + 1 : Nat) : Int) - 1 = (j : Int) := by omega
    rw [e14]
    have hLL : j + (k + 2) + 1 ≤ us.length := by omega
    obtain ⟨w1, w2, w3, w4⟩ := window (V := val v) huw hLL hv3 hlt
    have hWl : ((us.drop j).take (k + 2 + 1)).length = k + 3 := by simp; omega
    have hWw : ∀ x ∈ (us.drop j).take (k + 2 + 1), x < 4294967296 := fun x hx => huw x (List.mem_of_mem_drop (List.mem_of_mem_take hx))
    have t3 := top3 hWl
    rw [win_getD' (by omega), win_getD' (by omega), win_getD' (by omega)] at t3
    have t3l := val_take_lt _ hWw k (by omega)
    have t2 := top2 hvvl
    have t2l := val_take_lt _ hvvw k (by omega)
    have hhead := head_le t2 hb2 t2l t3 w4
    have hw0 := getD_lt huw (j + (k + 2))
    have hw1 := getD_lt huw (j + (k + 1))
    have hw2 := getD_lt huw (j + k)
    have hVpos : 0 < val v := by rw [hv1]; exact Nat.mul_pos (Nat.pos_of_ne_zero h0) (Nat.two_pow_pos n)
    have e3 : ((j : Int) + ((k + 2 : Nat) : Int) - 1).toNat = j + (k + 1) := by omega
    have e4 : ((j : Int) + ((k + 2 : Nat) : Int) - 2).toNat = j + k := by omega
    have e5 : ((j : Int) + ((k + 2 : Nat) : Int) + 1).toNat = j + (k + 3) := by omega
    apply aw_skip
    apply aw_seq
    apply aw_block
    apply aw_seq

    refine aw_dr 20 ty_mixed (by kernel_rfl) ?_
    repeat first|apply wa1|apply wa3|apply wa4|apply wa5 rfl|apply wa6|apply wa7|(refine wb0 rfl fun R r=>?_;simp only[go_sem, hvvl, e3, e4, e5, hne, hne2, Nat.add_sub_cancel_left];with_reducible refine r _ _ ?_;clear r R)|apply wa8|(refine wd0 rfl fun R r=>?_;simp only[go_sem, hvvl, e3, e4, e5, hne, hne2, Nat.add_sub_cancel_left];with_reducible refine r _ _ ?_;clear r R)
    rw [shl_u64_32 _ hw0, or_u64_j32 _ _ hw0 hw1]
    have hhl : j32 (us.getD (j + (k + 2)) 0) (us.getD (j + (k + 1)) 0) < 18446744073709551616 := by unfold j32; omega
    have hhv : j32 (us.getD (j + (k + 2)) 0) (us.getD (j + (k + 1)) 0) ≤ v.getD (k + 1) 0 * 4294967296 + us.getD (j + (k + 1)) 0 := by unfold j32; omega
    replace t3 : val ((us.drop j).take (k + 2 + 1)) = (j32 (us.getD (j + (k + 2)) 0) (us.getD (j + (k + 1)) 0) * 4294967296 + us.getD (j + k) 0) * 4294967296 ^ k + val (((us.drop j).take (k + 2 + 1)).take k) := t3
    generalize j32 (us.getD (j + (k + 2)) 0) (us.getD (j + (k + 1)) 0) = hd at t3 hhl hhv ⊢
    have gs := guess_start t2 (by omega) t3 hw2 t3l
    generalize hWv : val ((us.drop j).take (k + 2 + 1)) = W at t3 gs w1 w4
    have hhq : hd / v.getD (k + 1) 0 * v.getD (k + 1) 0 + hd % v.getD (k + 1) 0 = hd := by rw [Nat.mul_comm]; exact Nat.div_add_mod _ _
    have hhr : hd % v.getD (k + 1) 0 < v.getD (k + 1) 0 := Nat.mod_lt _ (by omega)
    refine aw_dr 8 ty_mixed (by kernel_rfl) ?_
    repeat first|apply wa1|apply wa3|apply wa4|apply wa5 rfl|apply wa6|apply wa7|(refine wb0 rfl fun R r=>?_;simp only[go_sem, hvvl, e3, e4, e5, hne, hne2, Nat.add_sub_cancel_left];with_reducible refine r _ _ ?_;clear r R)|apply wa8|(refine wd0 rfl fun R r=>?_;simp only[go_sem, hvvl, e3, e4, e5, hne, hne2, Nat.add_sub_cancel_left];with_reducible refine r _ _ ?_;clear r R)
    rw [quo_u64 _ _ hhl, rem_nat]
    refine aw_weak (σ' := [(4, .c (.osl gq 1 0 lq)), (9, .c (.int .i64 n)), (10, .c (ws true v)), (11, .c (.osl gu 1 0 (la + 1))), (12, .c (.int .u64 (v.getD (k + 1) 0 : Nat))), (13, .c (.int .u64 (v.getD k 0 : Nat))), (14, .c (.int .i64 j)), (16, .c (.int .u64 (hd / v.getD (k + 1) 0 : Nat))), (17, .c (.int .u64 (hd % v.getD (k + 1) 0 : Nat)))]) (h' := [(gq, .cells 85 lq (wf qs)), (gu, .cells 85 (la + 1) (wf us))]) (Sl.sub_le (by simp only[go_sem, hvvl, e3, e4, e5, hne, hne2, Nat.add_sub_cancel_left]<;>and_intros<;>first|exact True.intro|(with_reducible rfl)|exact c_int (by omega)|rfl)) (List.Sublist.refl _) ?_
    refine aw_cut (fun g : Nat => [(4, .c (.osl gq 1 0 lq)), (9, .c (.int .i64 n)), (10, .c (ws true v)), (11, .c (.osl gu 1 0 (la + 1))), (12, .c (.int .u64 (v.getD (k + 1) 0 : Nat))), (13, .c (.int .u64 (v.getD k 0 : Nat))), (14, .c (.int .i64 j)), (16, .c (.int .u64 g))]) (fun _ => [(gq, .cells 85 lq (wf qs)), (gu, .cells 85 (la + 1) (wf us))]) (fun g => W / val v ≤ g ∧ g * val v < W + val v ∧ g < 4294967296) ?_ ?_
    · apply aw_block
      refine aw_lp (fun x : Nat × Nat => [(4, .c (.osl gq 1 0 lq)), (9, .c (.int .i64 n)), (10, .c (ws true v)), (11, .c (.osl gu 1 0 (la + 1))), (12, .c (.int .u64 (v.getD (k + 1) 0 : Nat))), (13, .c (.int .u64 (v.getD k 0 : Nat))), (14, .c (.int .i64 j)), (16, .c (.int .u64 x.1)), (17, .c (.int .u64 x.2))]) (fun _ => [(gq, .cells 85 lq (wf qs)), (gu, .cells 85 (la + 1) (wf us))])
        (fun x => W / val v ≤ x.1 ∧ x.1 * v.getD (k + 1) 0 + x.2 = hd ∧ x.2 < 4294967296) (fun x => x.1) (hd / v.getD (k + 1) 0, hd % v.getD (k + 1) 0) (by simp only[go_sem, hvvl, e3, e4, e5, hne, hne2, Nat.add_sub_cancel_left]<;>and_intros<;>first|exact True.intro|(with_reducible rfl)|exact c_int (by omega)|rfl) (List.Sublist.refl _) ⟨gs, hhq, by dsimp only; omega⟩ ?_
      rintro ⟨g, rest⟩ ⟨hg1, hg2, hg3⟩
      dsimp only at hg1 hg2 hg3 ⊢
      apply aw_seq
      apply aw_seq
      refine aw_cut (fun tt : Bool => [(4, .c (.osl gq 1 0 lq)), (9, .c (.int .i64 n)), (10, .c (ws true v)), (11, .c (.osl gu 1 0 (la + 1))), (12, .c (.int .u64 (v.getD (k + 1) 0 : Nat))), (13, .c (.int .u64 (v.getD k 0 : Nat))), (14, .c (.int .i64 j)), (16, .c (.int .u64 g)), (17, .c (.int .u64 rest)), (133, .c (.bool tt))]) (fun _ => [(gq, .cells 85 lq (wf qs)), (gu, .cells 85 (la + 1) (wf us))])
        (fun tt => (tt = true → W / val v < g) ∧ (tt = false → g < 4294967296 ∧ g * v.getD k 0 ≤ rest * 4294967296 + us.getD (j + k) 0)) ?_ ?_
      · by_cases hgB : g < 4294967296
        · have hdec : decide ((g : Int) ≥ 4294967296) = false := by simp; omega
          have hmb := mul_bound hgB hb2

          repeat first|apply wa1|apply wa3|apply wa4|apply wa5 rfl|apply wa6|apply wa7|(refine wb0 rfl fun R r=>?_;simp only[go_sem, hvvl, e3, e4, e5, hne, hne2, Nat.add_sub_cancel_left, hdec];with_reducible refine r _ _ ?_;clear r R)
          rw [shl_u64_32 _ hg3, or_u64_j32 _ _ hg3 hw2]
          refine aw_stop ⟨_, (by simp only[go_sem, hvvl, e3, e4, e5, hne, hne2, Nat.add_sub_cancel_left, hdec]<;>and_intros<;>first|exact True.intro|(with_reducible rfl)|exact c_int (by omega)|rfl), (List.Sublist.refl _), fun h => ?_, fun h => ⟨hgB, ?_⟩⟩
          · have := of_decide_eq_true h
            unfold j32 at this
            have hlt2 := guess_down (D := 4294967296 ^ k) (V := val v) (v2 := v.getD k 0) (by rw [t2]; exact Nat.le_add_right _ _) t3 t3l hg2 (by rw [← Int.natCast_mul] at this; omega)
            exact (Nat.div_lt_iff_lt_mul hVpos).2 hlt2
          · have := of_decide_eq_false h
            unfold j32 at this
            rw [← Int.natCast_mul] at this
            omega
        · have hdec : decide ((g : Int) ≥ 4294967296) = true := by simp; omega

          repeat first|apply wa1|apply wa3|apply wa4|apply wa5 rfl|apply wa6|apply wa7|(refine wb0 rfl fun R r=>?_;simp only[go_sem, hvvl, e3, e4, e5, hne, hne2, Nat.add_sub_cancel_left, hdec];with_reducible refine r _ _ ?_;clear r R)
          refine aw_stop ⟨true, (by simp only[go_sem, hvvl, e3, e4, e5, hne, hne2, Nat.add_sub_cancel_left, hdec]<;>and_intros<;>first|exact True.intro|(with_reducible rfl)|exact c_int (by omega)|rfl), (List.Sublist.refl _), fun _ => ?_, fun h => by cases h⟩
          have : W / val v < 4294967296 := (Nat.div_lt_iff_lt_mul hVpos).2 (by rw [Nat.mul_comm]; exact w4)
          omega

      · rintro tt ⟨htt, htf⟩
        refine aw_cond (by simp only[go_sem, hvvl, e3, e4, e5, hne, hne2, Nat.add_sub_cancel_left]<;>rfl) (fun h => ?_) (fun h => ?_)
        · have hgt := htt h
          have hg0 : 0 < g := Nat.lt_of_le_of_lt (Nat.zero_le _) hgt
          have hgle : g ≤ g * v.getD (k + 1) 0 := Nat.le_mul_of_pos_right g (by omega)
          have hgm : (g - 1) * v.getD (k + 1) 0 + (rest + v.getD (k + 1) 0) = hd := by
            obtain ⟨g', rfl⟩ : ∃ g', g = g' + 1 := ⟨g - 1, by omega⟩
            rw [Nat.add_mul, Nat.one_mul] at hg2
            simp only [Nat.add_sub_cancel]
            omega
          repeat first|apply wa1|apply wa2|apply wa3|apply wa4|apply wa5 rfl|apply wa6|apply wa7|(refine wb0 rfl fun R r=>?_;simp only[go_sem, hvvl, e3, e4, e5, hne, hne2, Nat.add_sub_cancel_left];with_reducible refine r _ _ ?_;clear r R)
          have eg : (g : Int) - 1 = ((g - 1 : Nat) : Int) := by omega
          have er : (rest : Int) + ((v.getD (k + 1) 0 : Nat) : Int) = ((rest + v.getD (k + 1) 0 : Nat) : Int) := by omega
          rw [eg, er]
          refine aw_cond (by simp only[go_sem, hvvl, e3, e4, e5, hne, hne2, Nat.add_sub_cancel_left]<;>rfl) (fun h => ?_) (fun h => ?_)
          · have hr := of_decide_eq_true h
            repeat first|apply wa1|apply wa3|apply wa4|apply wa5 rfl|apply wa6|apply wa7|(refine wb0 rfl fun R r=>?_;simp only[go_sem, hvvl, e3, e4, e5, hne, hne2, Nat.add_sub_cancel_left];with_reducible refine r _ _ ?_;clear r R)
            have hgs := guess_small hhv hw1 hgm (by omega)
            refine aw_stop ⟨g - 1, (by simp only[go_sem, hvvl, e3, e4, e5, hne, hne2, Nat.add_sub_cancel_left]<;>and_intros<;>first|exact True.intro|(with_reducible rfl)|exact c_int (by omega)|rfl), (List.Sublist.refl _), by omega, ?_, hgs⟩
            refine guess_up t2 t2l (by omega) t3 hgm hgs ?_
            have m1 := mul_bound hgs hb2
            have m2 : 4294967296 * 4294967296 ≤ (rest + v.getD (k + 1) 0) * 4294967296 := Nat.mul_le_mul_right _ (by omega)
            omega
          · have hr := of_decide_eq_false h
            repeat first|apply wa1|apply wa3|apply wa4|apply wa5 rfl|apply wa6|apply wa7|(refine wb0 rfl fun R r=>?_;simp only[go_sem, hvvl, e3, e4, e5, hne, hne2, Nat.add_sub_cancel_left];with_reducible refine r _ _ ?_;clear r R)
            refine aw_stop ⟨(g - 1, rest + v.getD (k + 1) 0), by dsimp only; omega, (by simp only[go_sem, hvvl, e3, e4, e5, hne, hne2, Nat.add_sub_cancel_left]<;>and_intros<;>first|exact True.intro|(with_reducible rfl)|exact c_int (by omega)|rfl), (List.Sublist.refl _), by dsimp only; omega, hgm, by dsimp only; omega⟩
        · obtain ⟨hf1, hf2⟩ := htf h
          repeat first|apply wa1|apply wa3|apply wa4|apply wa5 rfl|apply wa6|apply wa7|(refine wb0 rfl fun R r=>?_;simp only[go_sem, hvvl, e3, e4, e5, hne, hne2, Nat.add_sub_cancel_left];with_reducible refine r _ _ ?_;clear r R)
          exact aw_stop ⟨g, (by simp only[go_sem, hvvl, e3, e4, e5, hne, hne2, Nat.add_sub_cancel_left]<;>and_intros<;>first|exact True.intro|(with_reducible rfl)|exact c_int (by omega)|rfl), (List.Sublist.refl _), hg1, guess_up t2 t2l (by omega) t3 hg2 hf1 hf2, hf1⟩
    · rintro g ⟨hg1, hg2, hg3⟩
      have hqd : W / val v < 4294967296 := (Nat.div_lt_iff_lt_mul hVpos).2 (by rw [Nat.mul_comm]; exact w4)
      apply aw_seq
      refine aw_cut (fun zs : List Nat => [(4, .c (.osl gq 1 0 lq)), (9, .c (.int .i64 n)), (10, .c (ws true v)), (11, .c (.osl gu 1 0 (la + 1))), (12, .c (.int .u64 (v.getD (k + 1) 0 : Nat))), (13, .c (.int .u64 (v.getD k 0 : Nat))), (14, .c (.int .i64 j)), (16, .c (.int .u64 (W / val v : Nat)))]) (fun zs => [(gu, .cells 85 (la + 1) (wf (win us j zs))), (gq, .cells 85 lq (wf qs))])
        (fun zs => zs.length = k + 3 ∧ (∀ y ∈ zs, y < 4294967296) ∧ val zs + (W / val v) * val v = W ∧ val zs < val v) ?_ ?_
      · repeat first|apply wa1|apply wa3|apply wa4|apply wa5 rfl|apply wa6|apply wa7|(refine wb0 rfl fun R r=>?_;simp only[go_sem, hvvl, e3, e4, e5, hne, hne2, Nat.add_sub_cancel_left];with_reducible refine r _ _ ?_;clear r R)
        have tf := take_fh gu j (k + 3) g us _ v rfl (by omega) huw hvvw (by omega) hg3 (by omega)
        rw [hul] at tf
        refine aw_callh tf rfl rfl rfl (.swap _ _ []) (by first|exact True.intro|simp only[go_sem, hvvl, e3, e4, e5, hne, hne2, Nat.add_sub_cancel_left]<;>and_intros<;>first|exact True.intro|exact .c (.refl _)|exact .c wl2|exact .agg (lel_refl _)|exact .agg (by simp only[LeL];and_intros<;>first|exact True.intro|exact .refl _|exact wl2)|exact .c .nils) ?_
        rintro r h' ⟨bb, zs, rfl, rfl, hzl, hzw, hbb, hzv⟩ hfr
        rw [hWv] at hzv
        have hzlt := val_lt zs hzw
        rw [hzl] at hzlt
        (try simp only[go_sem, hvvl, e3, e4, e5, hne, hne2, Nat.add_sub_cancel_left])
        repeat first|apply wa1|apply wa3|apply wa4|apply wa5 rfl|apply wa6|apply wa7|(refine wb0 rfl fun R r=>?_;simp only[go_sem, hvvl, e3, e4, e5, hne, hne2, Nat.add_sub_cancel_left];with_reducible refine r _ _ ?_;clear r R)
        refine aw_cond (by simp only[go_sem, hvvl, e3, e4, e5, hne, hne2, Nat.add_sub_cancel_left]<;>rfl) (fun h => ?_) (fun h => ?_)
        · have hb1' : bb = 1 := by have := eq_of_beq h; omega
          subst hb1'
          have hg0 : 1 ≤ g := by
            rcases Nat.eq_zero_or_pos g with e | e
            · exfalso; rw [e, Nat.zero_mul] at hzv; omega
            · exact e
          repeat first|apply wa1|apply wa3|apply wa4|apply wa5 rfl|apply wa6|apply wa7|(refine wb0 rfl fun R r=>?_;simp only[go_sem, hvvl, e3, e4, e5, hne, hne2, Nat.add_sub_cancel_left];with_reducible refine r _ _ ?_;clear r R)
          have eg : (g : Int) - 1 = ((g - 1 : Nat) : Int) := by omega
          rw [eg]
          have hwl : (win us j zs).length = la + 1 := by rw [win_length (by omega), hul]
          have gf := give_fh gu j (k + 3) (win us j zs) zs v (win_of_win (by omega) hzl) (by omega) (win_lt huw hzw) hvvw (by omega) (by omega)
          rw [hwl] at gf
          refine aw_callh gf rfl rfl rfl (.refl _) (by first|exact True.intro|simp only[go_sem, hvvl, e3, e4, e5, hne, hne2, Nat.add_sub_cancel_left]<;>and_intros<;>first|exact True.intro|exact .c (.refl _)|exact .c wl2|exact .agg (lel_refl _)|exact .agg (by simp only[LeL];and_intros<;>first|exact True.intro|exact .refl _|exact wl2)|exact .c .nils) ?_
          rintro r h' ⟨cc, zs2, rfl, rfl, hzl2, hzw2, hzv2⟩ hfr
          have hzlt2 := val_lt zs2 hzw2
          rw [hzl2] at hzlt2
          have hVP : val v ≤ 4294967296 ^ (k + 3) := by
            rw [Nat.pow_succ]
            omega
          obtain ⟨d1, d2, d3, d4⟩ := digit_back hVpos hVP hg1 hg2 hzlt hzlt2 hzv hzv2
          rw [win_win (by omega) (by omega), d4]
          (try simp only[go_sem, hvvl, e3, e4, e5, hne, hne2, Nat.add_sub_cancel_left])
          repeat first|apply wa1|apply wa3|apply wa4|apply wa5 rfl|apply wa6|apply wa7|(refine wb0 rfl fun R r=>?_;simp only[go_sem, hvvl, e3, e4, e5, hne, hne2, Nat.add_sub_cancel_left];with_reducible refine r _ _ ?_;clear r R)
          exact aw_stop ⟨zs2, (by simp only[go_sem, hvvl, e3, e4, e5, hne, hne2, Nat.add_sub_cancel_left]<;>and_intros<;>first|exact True.intro|(with_reducible rfl)|exact c_int (by omega)|rfl), (List.Sublist.refl _), hzl2, hzw2, d2, d3⟩
        · have hb0 : bb = 0 := by
            have : ¬ ((bb : Int) = 1) := fun e => by rw [e] at h; cases h
            omega
          subst hb0
          obtain ⟨d1, d2, d3⟩ := digit_ok hVpos hg1 hg2 hzv
          subst d3
          repeat first|apply wa1|apply wa3|apply wa4|apply wa5 rfl|apply wa6|apply wa7|(refine wb0 rfl fun R r=>?_;simp only[go_sem, hvvl, e3, e4, e5, hne, hne2, Nat.add_sub_cancel_left];with_reducible refine r _ _ ?_;clear r R)
          exact aw_stop ⟨zs, (by simp only[go_sem, hvvl, e3, e4, e5, hne, hne2, Nat.add_sub_cancel_left]<;>and_intros<;>first|exact True.intro|(with_reducible rfl)|exact c_int (by omega)|rfl), (List.Sublist.refl _), hzl, hzw, d1, d2⟩
      · rintro zs ⟨hzl, hzw, hz1, hz2⟩
        repeat first|apply wa1|apply wa3|apply wa4|apply wa5 rfl|apply wa6|apply wa7|(refine wb0 rfl fun R r=>?_;simp only[go_sem, hvvl, e3, e4, e5, hne, hne2, Nat.add_sub_cancel_left];with_reducible refine r _ _ ?_;clear r R)
        rw [wrap_u32_nat, Nat.mod_eq_of_lt hqd]
        refine aw_store rfl rfl rfl rfl (by simp only[go_sem, hvvl, e3, e4, e5, hne, hne2, Nat.add_sub_cancel_left]<;>rfl) (by simp only[go_sem, hvvl, e3, e4, e5, hne, hne2, Nat.add_sub_cancel_left]<;>rfl) (by simp only[go_sem, hvvl, e3, e4, e5, hne, hne2, Nat.add_sub_cancel_left]<;>rfl) (by simp only[go_sem, hvvl, e3, e4, e5, hne, hne2, Nat.add_sub_cancel_left]<;>rfl) (fun _ e => by cases e) (by rfl) (by rfl) (by first|omega|simp) rfl ?_
        (try simp only[go_sem, hvvl, e3, e4, e5, hne, hne2, Nat.add_sub_cancel_left])
        rw [updF_wf (by omega)]
        refine aw_perm (.swap _ _ []) ?_
        repeat first|apply wa1|apply wa3|apply wa4|apply wa5 rfl|apply wa6|apply wa7|(refine wb0 rfl fun R r=>?_;simp only[go_sem, hvvl, e3, e4, e5, hne, hne2, Nat.add_sub_cancel_left];with_reducible refine r _ _ ?_;clear r R)
        have hwv : val (win us j zs) = val (us.take j) + 4294967296 ^ j * val zs := by
          rw [val_win (by omega), hzl, w3, Nat.mul_zero, Nat.add_zero]
        have hds := drop_set (zs := qs) (i := j) (v := W / val v) (by omega)
        have hpw : 4294967296 ^ (j + 1) = 4294967296 ^ j * 4294967296 := Nat.pow_succ ..
        rw [hpw] at hA
        obtain ⟨s1, s2⟩ := div_step (A := a * 2 ^ n) w1 w2 hz1 hz2 hA rfl
        refine aw_stop ⟨(j, win us j zs, qs.set j (W / val v)), by dsimp only; omega, (by simp only[go_sem, hvvl, e3, e4, e5, hne, hne2, Nat.add_sub_cancel_left]<;>and_intros<;>first|exact True.intro|(with_reducible rfl)|exact c_int (by omega)|rfl), (List.Sublist.refl _), by dsimp only; omega, by rw [win_length (by omega)]; exact hul, win_lt huw hzw, by simpa using hql, set_lt hqw hqd, ?_, ?_⟩
        · dsimp only; rw [hwv]; exact s1
        · dsimp only; rw [hwv, hds, val]; exact s2
  · have hm0 : m = 0 := by have := of_decide_eq_false hb; omega
    subst hm0
    simp only [Nat.pow_zero, Nat.mul_one, Nat.one_mul, List.drop_zero] at hlt hA
    rw [hv1] at hlt hA
    obtain ⟨hq, hr⟩ := div_end (Nat.pos_of_ne_zero h0) hlt hA

    repeat first|apply wa1|apply wa2|apply wa3|apply wa4|apply wa5 rfl|apply wa6|apply wa7|(refine wb0 rfl fun R r=>?_;simp only[go_sem, hne, hne2];with_reducible refine r _ _ ?_;clear r R)
    refine aw_callq (trim_fa qs hqw (by omega)) rfl rfl rfl (by (try simp only[go_sem, hne, hne2]); exact ⟨.c (lec_oslws (by simp only[go_sem, hne, hne2]<;>rfl) (by omega) (by omega) (fun j _ => by rw [Nat.zero_add]; rfl)), trivial⟩) ?_
    (try simp only[go_sem, hne, hne2])
    repeat first|apply wa1|apply wa2|apply wa3|apply wa4|apply wa5 rfl|apply wa6|apply wa7|(refine wb0 rfl fun R r=>?_;simp only[go_sem, hne, hne2];with_reducible refine r _ _ ?_;clear r R)
    refine aw_callq (right_fa us n huw (by omega) hn) rfl rfl rfl (by (try simp only[go_sem, hne, hne2]); exact ⟨.c (lec_oslws (by simp only[go_sem, hne, hne2]<;>rfl) (by omega) (by omega) (fun j _ => by rw [Nat.zero_add]; rfl)), .c (.refl _), trivial⟩) ?_
    (try simp only[go_sem, hne, hne2])
    repeat first|apply wa1|apply wa2|apply wa3|apply wa4|apply wa5 rfl|apply wa6|apply wa7|(refine wb0 rfl fun R r=>?_;simp only[go_sem, hne, hne2];with_reducible refine r _ _ ?_;clear r R)
    refine aw_callq (trim_fa (rgt n us) (rgt_lt n us) (by rw [rgt_length]; omega)) rfl rfl rfl (by first|exact True.intro|simp only[go_sem, hne, hne2]<;>and_intros<;>first|exact True.intro|exact .c (.refl _)|exact .c wl2|exact .agg (lel_refl _)|exact .agg (by simp only[LeL];and_intros<;>first|exact True.intro|exact .refl _|exact wl2)|exact .c .nils) ?_
    (try simp only[go_sem, hne, hne2])
    repeat first|apply wa1|apply wa2|apply wa3|apply wa4|apply wa5 rfl|apply wa6|apply wa7|(refine wb0 rfl fun R r=>?_;simp only[go_sem, hne, hne2];with_reducible refine r _ _ ?_;clear r R)
    (refine aw_retq hC rfl fun R r=>?_;simp only[go_sem, hne, hne2];refine r _ rfl ?_;clear r R)
    rw [rgt_val (by omega) us huw, hr, hq]
    exact .tup ⟨.c ler_ws, .c ler_ws, .c .nilI, trivial⟩
end Go.Proofs.Ytmkomfdiggcloaa

/- natural: Gcd. -/
namespace Go.Proofs.Ytmkomfdiggcloaa
open Go.AI Go.PN
attribute [local irreducible] aw Fa Fh DrK
set_option maxHeartbeats 1600000 in
theorem gcd_fa (xs ys : List Nat) (hx : ∀ x ∈ xs, x < 4294967296) (hy : ∀ x ∈ ys, x < 4294967296) (hlx : xs.length ≤ 68719476736) (hly : ys.length ≤ 68719476736) :
    Fa Try.prog 78 [.c (ws false xs), .c (ws false ys)] (.c (ws true (words (Nat.gcd (val xs) (val ys))))) := by
  refine fa_of_body Try.func78 rfl rfl (by simp [Try.ntmps78]) fun C hC => ?_
  simp only [initS, Nat.reduceAdd]
  repeat first|apply wa1|apply wa2|apply wa3|apply wa4|apply wa5 rfl|apply wa6|apply wa7|(refine wb0 rfl fun R r=>?_;simp only[go_sem];with_reducible refine r _ _ ?_;clear r R)
  refine aw_callq (trim_fa xs hx (by omega)) rfl rfl rfl (by first|exact True.intro|simp only[go_sem]<;>and_intros<;>first|exact True.intro|exact .c (.refl _)|exact .c wl2|exact .agg (lel_refl _)|exact .agg (by simp only[LeL];and_intros<;>first|exact True.intro|exact .refl _|exact wl2)|exact .c .nils) ?_
  (try simp only[go_sem])
  repeat first|apply wa1|apply wa2|apply wa3|apply wa4|apply wa5 rfl|apply wa6|apply wa7|(refine wb0 rfl fun R r=>?_;simp only[go_sem];with_reducible refine r _ _ ?_;clear r R)
  refine aw_callq (trim_fa ys hy (by omega)) rfl rfl rfl (by first|exact True.intro|simp only[go_sem]<;>and_intros<;>first|exact True.intro|exact .c (.refl _)|exact .c wl2|exact .agg (lel_refl _)|exact .agg (by simp only[LeL];and_intros<;>first|exact True.intro|exact .refl _|exact wl2)|exact .c .nils) ?_
  (try simp only[go_sem])
  have hla : (words (val xs)).length ≤ 68719476736 := Nat.le_trans (words_val_len xs hx) hlx
  have hlb : (words (val ys)).length ≤ 68719476736 := Nat.le_trans (words_val_len ys hy) hly
  repeat first|apply wa1|apply wa3|apply wa4|apply wa5 rfl|apply wa6|apply wa7|(refine wb0 rfl fun R r=>?_;simp only[go_sem];with_reducible refine r _ _ ?_;clear r R)
  apply aw_block
  refine aw_lp (fun x : Nat × Nat => [(0, .c (ws true (words x.1))), (1, .c (ws true (words x.2)))]) (fun _ => []) (fun x => (words x.1).length ≤ 68719476736 ∧ (words x.2).length ≤ 68719476736 ∧ Nat.gcd x.1 x.2 = Nat.gcd (val xs) (val ys)) (fun x => x.2) (val xs, val ys) (by simp only[go_sem]<;>and_intros<;>first|exact True.intro|(with_reducible rfl)|exact c_int (by omega)|rfl) (List.Sublist.refl _) ⟨hla, hlb, rfl⟩ ?_
  rintro ⟨a, b⟩ ⟨hla, hlb, hg⟩
  dsimp only at hla hlb hg ⊢
  repeat first|apply wa1|apply wa2|apply wa3|apply wa4|apply wa5 rfl|apply wa6|apply wa7|(refine wb0 rfl fun R r=>?_;simp only[go_sem];with_reducible refine r _ _ ?_;clear r R)
  refine aw_cond (by simp only[go_sem]<;>rfl) (fun hb => ?_) (fun hb => ?_)
  · have hb0 : b ≠ 0 := fun e => by have := of_decide_eq_true hb; rw [e, words_zero] at this; simp at this
    repeat first|apply wa1|apply wa2|apply wa3|apply wa4|apply wa5 rfl|apply wa6|apply wa7|(refine wb0 rfl fun R r=>?_;simp only[go_sem];with_reducible refine r _ _ ?_;clear r R)
    refine aw_callq (div_fa (words a) (words b) (words_lt a) (words_lt b) hla hlb (by rw [val_words]; exact hb0)) rfl rfl rfl (by first|exact True.intro|simp only[go_sem]<;>and_intros<;>first|exact True.intro|exact .c (.refl _)|exact .c wl2|exact .agg (lel_refl _)|exact .agg (by simp only[LeL];and_intros<;>first|exact True.intro|exact .refl _|exact wl2)|exact .c .nils) ?_
    rw [val_words, val_words]
    (try simp only[go_sem])
    repeat first|apply wa1|apply wa2|apply wa3|apply wa4|apply wa5 rfl|apply wa6|apply wa7|(refine wb0 rfl fun R r=>?_;simp only[go_sem];with_reducible refine r _ _ ?_;clear r R)
    have hlt : a % b < b := Nat.mod_lt _ (Nat.pos_of_ne_zero hb0)
    refine aw_stop ⟨(b, a % b), hlt, (by simp only[go_sem]<;>and_intros<;>first|exact True.intro|(with_reducible rfl)|exact c_int (by omega)|rfl), (List.Sublist.refl _), hlb, Nat.le_trans (words_len_mono (Nat.le_of_lt hlt)) hlb, ?_⟩
    dsimp only
    rw [← hg, Nat.gcd_comm a b, Nat.gcd_rec b a, Nat.gcd_comm]
  · have hb0 : b = 0 := by
      have := of_decide_eq_false hb
      exact words_eq_nil.1 (List.length_eq_zero_iff.1 (by omega))
    subst hb0
    repeat first|apply wa1|apply wa2|apply wa3|apply wa4|apply wa5 rfl|apply wa6|apply wa7|(refine wb0 rfl fun R r=>?_;simp only[go_sem];with_reducible refine r _ _ ?_;clear r R)
    (refine aw_retq hC rfl fun R r=>?_;simp only[go_sem];refine r _ rfl ?_;clear r R)
    rw [← hg, Nat.gcd_zero_right]
    exact .one (.c ler_ws)
end Go.Proofs.Ytmkomfdiggcloaa
