/- Blocks of one proof, laid one behind the other by a program (merge2.py). -/
import Derived.Test.YtcoflhkcpnoaaaaGreatDoorM25
set_option linter.unusedSimpArgs false
set_option linter.unusedVariables false
namespace Go.PN
open Go.AI
def opI (s : List SD) (k : Nat) : List Int := (opTo s k).map fun x => ((x : Nat) : Int)
theorem opI_len (s : List SD) (k : Nat) : (opI s k).length = (opTo s k).length := List.length_map ..
theorem opI_get (s : List SD) (k j : Nat) : (opI s k).getD j 0 = ((opTo s k).getD j 0 : Nat) := by
  unfold opI
  rw [List.getD_eq_getElem?_getD, List.getD_eq_getElem?_getD, List.getElem?_map]
  cases (opTo s k)[j]? <;> rfl
theorem opI_yes {s : List SD} {k : Nat} (h : opB s k = true) : opI s (k + 1) = opI s k ++ [(k : Int)] := by
  unfold opI
  rw [opTo, if_pos h, List.map_append]; rfl
theorem opI_no {s : List SD} {k : Nat} (h : opB s k = false) : opI s (k + 1) = opI s k := by
  unfold opI
  rw [opTo, if_neg (by simp [h])]
theorem or_zero (x : Nat) (hx : x < 9223372036854775808) : orZ .i64 (x : Int) 0 = (x : Int) := by
  have := orZ_nat x 0 hx (by omega)
  rw [Nat.or_zero] at this
  exact this
theorem shl_zero (n : Int) : shlZ .i64 0 n = 0 := by
  rw [shlZ_eq, Int.zero_mul]; rfl
theorem mn_le_mx (g : Nat → Rat) (p : Nat → Bool) (hp : p 0 = true) (k : Nat) : mnL g p k ≤ mxL g p k := by
  obtain ⟨h1, _⟩ := mnL_spec g p k
  obtain ⟨h2, _⟩ := mxL_spec g p k
  match k with
  | 0 => exact Rat.le_refl
  | k + 1 => exact Rat.le_trans (h1 0 (by omega) hp) (h2 0 (by omega) hp)
end Go.PN
namespace Go.Proofs.YtcoflhkcpnoaaaaGreatDoor
open Go.AI Go.PN
attribute [local irreducible] aw Fa Fh DrK
noncomputable def uvS (f : FM) (s : List SD) : SD := if ucode f s = 0 then ⟨rd (vloQ f s), rd (vhiQ f s)⟩ else ⟨rd 0, rd 0⟩
theorem mnG_fits {f : FM} {s : List SD} (ok : UOk f s) (g : Nat → Nat) (p : Nat → Bool) (k : Nat) : fits (mnL (fun c => topQ f s (g c)) p k) 14000 := by
  obtain ⟨_, i, _, h⟩ := mnL_spec (fun c => topQ f s (g c)) p k
  rw [h]; exact topQ_fits ok _
theorem mxG_fits {f : FM} {s : List SD} (ok : UOk f s) (g : Nat → Nat) (p : Nat → Bool) (k : Nat) : fits (mxL (fun c => topQ f s (g c)) p k) 14000 := by
  obtain ⟨_, i, _, h⟩ := mxL_spec (fun c => topQ f s (g c)) p k
  rw [h]; exact topQ_fits ok _
def outC (c : Nat) (a b : Rat) : List CV := if c = 0 then [.bool false, .nils, .nils, .bool false, .nils, .nils] else spc ⟨rd a, rd b⟩
theorem outC_s {c : Nat} (h : c ≠ 0) (a b : Rat) : outC c a b = spc ⟨rd a, rd b⟩ := if_neg h
set_option maxRecDepth 100000 in
set_option maxHeartbeats 6400000 in
theorem uvert_fa (f : FM) (s : List SD) (hn : f.nodes.length ≤ 1099511627776) (ha : ArgsOk f) (ht0 : -9223372036854775808 ≤ f.top) (ht : f.top ≤ 9223372036854775807) (hs : ∀ y ∈ s, y.wf 16) (hl : s.length ≤ 1099511627776) (hv : fcode f = 0 → f.vars ≤ 6) :
    Fa Tryz.prog 9 [.agg (fmc false f), .c (sps false s)] (.tup [.agg (spc (uvS f s)), .c (errA (ucode f s))]) := by
  have hS : uvS f s = if ucode f s = 0 then ⟨rd (vloQ f s), rd (vhiQ f s)⟩ else ⟨rd 0, rd 0⟩ := rfl
  have hck := ucheck_fa f s hn ha ht0 ht (fun y hy => ⟨wf_mono (hs y hy).1 (by omega), wf_mono (hs y hy).2 (by omega)⟩) hl
  refine fa_of_body Tryz.func9 rfl rfl (by simp [Tryz.ntmps9]) fun C hC => ?_
  simp only [initS, Nat.reduceAdd]
  refine xG ?_
  refine xB fun g2 hn_g2=>?_
  refine yA hn_g2 fun g4 hn_g4=>?_
  refine yG (oj hn_g2 hn_g4) ?_
  refine yC (oj hn_g2 hn_g4) (hck) ?_
  refine yG (oj hn_g2 hn_g4) ?_
  refine yF (oj hn_g2 hn_g4) (fun hb=>?_) fun hb=>?_
  · have hb' : ucode f s ≠ 0 := by simpa using hb
    rw [if_neg hb'] at hS
    rw [hS]
    refine yG (oj hn_g2 hn_g4) ?_
    refine yW (oj hn_g2 hn_g4) ?_
    refine yS (oj hn_g2 hn_g4) ?_
    refine yG (oj hn_g2 hn_g4) ?_
    refine yT hC (oj hn_g2 hn_g4) ?_
    refine .tup ⟨.agg ?_, .c ler_err, trivial⟩
    show LeRL _ [.bool false, .nils, .nils, .bool false, .nils, .nils] _
    exact lerl_zero
  have hb' : ucode f s = 0 := by simpa using hb
  rw [if_pos hb'] at hS
  rw [hS, hb', show errA 0 = CV.nilI from rfl]
  have ok := uok_of hn ha hs hv hb'
  have hlen := ok.len
  have h6 := ok.v6
  refine yG (oj hn_g2 hn_g4) ?_
  refine aw_lp (fun x : Option Nat × Nat => [(1, .c (sps false s)), (2, .c (.optr g2 0)), (4, .c (.optr g4 0)), (7, .c (gs x.1 1 (opI s x.2).length)), (24, .c (sps false s)), (25, .c (.int .i64 s.length)), (26, .c (.int .i64 x.2))]) (fun x => (g4, .cells 32 6 (ofL [.bool false, .nils, .nils, .bool false, .nils, .nils])) :: (g2, .cells 24 3 (ofL (fmc false f))) :: gh x.1 3 ((opI s x.2).length * 1) (isF (opI s x.2)))
    (fun x => x.2 ≤ s.length ∧ (x.1 = none → (opI s x.2).length = 0)) (fun x => s.length - x.2) (none, 0) (zB (oj hn_g2 hn_g4)) (by refine yS (oj hn_g2 hn_g4) ?_; exact .refl _) ⟨Nat.zero_le _, fun _ => rfl⟩ ?_
  rintro ⟨og, k⟩ ⟨hk, hog⟩
  dsimp only at hk hog ⊢
  refine yG (oj hn_g2 hn_g4) ?_
  refine yF (oj hn_g2 hn_g4) (fun h1=>?_) fun h1=>?_
  · have h1' : k < s.length := by have := of_decide_eq_true h1; omega
    obtain ⟨_, hy⟩ := ok.getOk h1'
    have hob : opB s k = (signQ ((s.getD k sd0).lo.q - (s.getD k sd0).hi.q) != 0) := rfl
    have hol := opTo_len s k
    rw [← opI_len] at hol
    have ey := opI_yes (s := s) (k := k)
    have en := opI_no (s := s) (k := k)
    refine yG (oj hn_g2 hn_g4) ?_
    refine yA (oj hn_g2 hn_g4) fun g9 hn_g9=>?_
    generalize s.getD k sd0 = y at *
    have cm := rcmp_fa y.lo y.hi (wf_mono hy.1 (by omega)) (wf_mono hy.2 (by omega))
    refine yG (oj hn_g2 (oj hn_g4 hn_g9)) ?_
    refine yW (oj hn_g2 (oj hn_g4 hn_g9)) ?_
    refine yS (oj hn_g2 (oj hn_g4 hn_g9)) ?_
    refine aw_conv1 (f' := ofL (spc y)) (fun j hj => by match j, hj with | 0, _ => rfl | 1, _ => rfl | 2, _ => rfl | 3, _ => rfl | 4, _ => rfl | 5, _ => rfl) ?_
    refine yG (oj hn_g2 (oj hn_g4 hn_g9)) ?_
    refine yC (oj hn_g2 (oj hn_g4 hn_g9)) (cm) ?_
    refine yG (oj hn_g2 (oj hn_g4 hn_g9)) ?_
    refine yF (oj hn_g2 (oj hn_g4 hn_g9)) (fun hgt=>?_) fun hgt=>?_
    · rw [hgt] at hob
      have e1 := ey hob
      generalize opI s k = op at *
      refine yG (oj hn_g2 (oj hn_g4 hn_g9)) ?_
      refine aw_push (pre := [(g9, .cells 32 6 (ofL (spc y))), (g4, .cells 32 6 (ofL [.bool false, .nils, .nils, .bool false, .nils, .nils])), (g2, .cells 24 3 (ofL (fmc false f)))]) rfl rfl rfl rfl rfl rfl rfl (zE (oj hn_g2 (oj hn_g4 hn_g9))) (zE (oj hn_g2 (oj hn_g4 hn_g9))) (by rfl) (by omega) (by omega) (zE (oj hn_g2 (oj hn_g4 hn_g9))) (by omega) (by exact hog) (zE (oj hn_g2 (oj hn_g4 hn_g9))) (by rfl) (by rfl) (by first | rfl | simp only [Nat.mul_one, List.nil_append, List.cons_append] <;> rfl) (by unfold maxLen; omega) (by omega) (by exact is_push rfl (k : Int)) fun g hn_g => ?_
      replace hn_g := Heap.ne_of hn_g
      first | dsimp only [Heap.ne, gh] at hn_g | dsimp only [Heap.ne] at hn_g | skip
      refine yS (oj hn_g2 (oj hn_g4 (oj hn_g9 hn_g))) ?_
      refine yG (oj hn_g2 (oj hn_g4 (oj hn_g9 hn_g))) ?_
      rw [← e1]
      have e2 : op.length + 1 = (opI s (k + 1)).length := by rw [e1]; simp
      rw [e2]
      exact aw_stop ⟨(some g, k + 1), by dsimp only; omega, (zB (oj hn_g2 (oj hn_g4 (oj hn_g9 hn_g)))), .cons _ (.refl _), by dsimp only; omega, some_ne⟩
    · rw [hgt] at hob
      have e1 := en hob
      refine yG (oj hn_g2 (oj hn_g4 hn_g9)) ?_
      rw [← e1]
      exact aw_stop ⟨(og, k + 1), by dsimp only; omega, (zB (oj hn_g2 (oj hn_g4 hn_g9))), .cons _ (.refl _), by dsimp only; omega, by rw [e1]; exact hog⟩
  have h1' : k = s.length := by have := of_decide_eq_false h1; omega
  subst h1'
  refine aw_perm (h' := gh og 3 ((opI s s.length).length * 1) (isF (opI s s.length)) ++ [(g4, .cells 32 6 (ofL [.bool false, .nils, .nils, .bool false, .nils, .nils])), (g2, .cells 24 3 (ofL (fmc false f)))]) (List.perm_append_comm (l₁ := [_, _])) ?_
  refine aw_frzGT (t := 7) (f' := isF (opI s s.length)) hog rfl (zE (oj hn_g2 hn_g4)) (fun g _ => hC g) (fun _ _ => rfl) rfl ?_
  refine yS (oj hn_g2 hn_g4) ?_
  have hol := opTo_len s s.length
  have hmem := fun j (hj : j < (opTo s s.length).length) => (opTo_mem s s.length ((opTo s s.length).getD j 0)).1 (by rw [List.getD_eq_getElem?_getD, List.getElem?_eq_getElem hj]; exact List.getElem_mem hj)
  have hget := opI_get s s.length
  have hoil := opI_len s s.length
  have hup := upp_fits s
  have hvlo := vlo_choice ok
  have hvhi := vhi_choice ok
  have hmnf := mnG_fits ok (fun c => upp (opTo s s.length) c (opTo s s.length).length) (fun _ => true)
  have hmxf := mxG_fits ok (fun c => upp (opTo s s.length) c (opTo s s.length).length) (fun _ => true)
  generalize opI s s.length = oi at *
  generalize opTo s s.length = op at *
  have e1 : shlZ .i64 1 (oi.length : Int) = ((2 ^ op.length : Nat) : Int) := by rw [hoil]; exact shl_one op.length (by omega)
  have hp : 2 ^ op.length ≤ 64 := by
    have : 2 ^ op.length ≤ 2 ^ 6 := Nat.pow_le_pow_right (by omega) (by omega)
    omega
  have hps : 2 ^ s.length ≤ 64 := by
    have : 2 ^ s.length ≤ 2 ^ 6 := Nat.pow_le_pow_right (by omega) (by omega)
    omega
  have hp1 := two_pos op.length
  have e2 : decide ((oi.length : Int) > 10) = false := decide_eq_false (by omega)
  refine yG (oj hn_g2 (oj hn_g4 (oj e1 e2))) ?_
  refine yN (oj hn_g2 (oj hn_g4 (oj e1 e2))) ?_
  refine yG (oj hn_g2 (oj hn_g4 (oj e1 e2))) ?_
  refine yA (oj hn_g2 (oj hn_g4 (oj e1 e2))) fun g10 hn_g10=>?_
  refine yG (oj hn_g2 (oj hn_g4 (oj e1 (oj e2 hn_g10)))) ?_
  refine aw_lp (fun c : Nat => [(1, .c (sps false s)), (2, .c (.optr g2 0)), (4, .c (.optr g4 0)), (7, .c (is true oi)), (10, .c (.optr g10 0)), (49, .c (.int .i64 (2 ^ op.length : Nat))), (50, .c (.int .i64 c))]) (fun c => [(g10, .cells 32 6 (ofL (outC c (mnL (fun c => topQ f s (upp op c op.length)) (fun _ => true) c) (mxL (fun c => topQ f s (upp op c op.length)) (fun _ => true) c)))), (g4, .cells 32 6 (ofL [.bool false, .nils, .nils, .bool false, .nils, .nils])), (g2, .cells 24 3 (ofL (fmc false f)))]) (fun c => c ≤ 2 ^ op.length) (fun c => 2 ^ op.length - c) 0 (zB (oj hn_g2 (oj hn_g4 (oj e1 (oj e2 hn_g10))))) zZ (Nat.zero_le _) ?_
  rintro c hc
  refine yG (oj hn_g2 (oj hn_g4 (oj e1 (oj e2 hn_g10)))) ?_
  refine yF (oj hn_g2 (oj hn_g4 (oj e1 (oj e2 hn_g10)))) (fun h1=>?_) fun h1=>?_
  · have h1' : c < 2 ^ op.length := by have := of_decide_eq_true h1; omega
    refine yG (oj hn_g2 (oj hn_g4 (oj e1 (oj e2 hn_g10)))) ?_
    refine aw_lp (fun j : Nat => [(1, .c (sps false s)), (2, .c (.optr g2 0)), (4, .c (.optr g4 0)), (7, .c (is true oi)), (10, .c (.optr g10 0)), (11, .c (.int .i64 c)), (12, .c (.int .i64 (upp op c j))), (49, .c (.int .i64 (2 ^ op.length : Nat))), (50, .c (.int .i64 c)), (53, .c (is true oi)), (54, .c (.int .i64 oi.length)), (55, .c (.int .i64 j))]) (fun _ => [(g10, .cells 32 6 (ofL (outC c (mnL (fun c => topQ f s (upp op c op.length)) (fun _ => true) c) (mxL (fun c => topQ f s (upp op c op.length)) (fun _ => true) c)))), (g4, .cells 32 6 (ofL [.bool false, .nils, .nils, .bool false, .nils, .nils])), (g2, .cells 24 3 (ofL (fmc false f)))]) (fun j => j ≤ op.length) (fun j => op.length - j) 0 (zB (oj hn_g2 (oj hn_g4 (oj e1 (oj e2 hn_g10))))) zZ (Nat.zero_le _) ?_
    rintro j hj
    refine yG (oj hn_g2 (oj hn_g4 (oj e1 (oj e2 hn_g10)))) ?_
    refine yF (oj hn_g2 (oj hn_g4 (oj e1 (oj e2 hn_g10)))) (fun h2=>?_) fun h2=>?_
    · have h2' : j < op.length := by have := of_decide_eq_true h2; omega
      have b1 := shrZ_nat c j (by omega)
      have b2 := and_one_nat (c / 2 ^ j) (Nat.lt_of_le_of_lt (Nat.div_le_self _ _) (by omega))
      have b3 := bit_eq c j
      have b4 := hget j
      have hm := hmem j h2'
      have hu1 := hup c j (by omega)
      have b5 := shl_one (op.getD j 0) (by omega)
      have hpj : 2 ^ op.getD j 0 ≤ 64 := by
        have : 2 ^ op.getD j 0 ≤ 2 ^ 6 := Nat.pow_le_pow_right (by omega) (by omega)
        omega
      have b6 := orZ_nat (upp op c j) (2 ^ op.getD j 0) (by omega) (by omega)
      have b7 := or_zero (upp op c j) (by omega)
      have b8 := shl_zero ((op.getD j 0 : Nat) : Int)
      have eu : upp op c (j + 1) = if c.testBit j then upp op c j ||| 2 ^ op.getD j 0 else upp op c j := rfl
      cases hbit : c.testBit j
      · rw [hbit] at b3 eu
        have b9 : ((c / 2 ^ j % 2 : Nat) : Int) = 0 := by
          have := Nat.mod_lt (c / 2 ^ j) (show 0 < 2 by omega)
          have : (((c / 2 ^ j % 2 : Nat) : Int) == 1) = false := b3
          have : ((c / 2 ^ j % 2 : Nat) : Int) ≠ 1 := by simpa using this
          omega
        rw [if_neg (by simp)] at eu
        rw [b9] at b2
        refine yG (oj hn_g2 (oj hn_g4 (oj e1 (oj e2 (oj hn_g10 (oj b1 (oj b2 (oj b4 (oj b7 b8))))))))) ?_
        rw [← eu]
        exact aw_stop ⟨j + 1, by omega, (zB (oj hn_g2 (oj hn_g4 (oj e1 (oj e2 (oj hn_g10 (oj b1 (oj b2 (oj b4 (oj b7 b8)))))))))), zZ, by omega⟩
      · rw [hbit] at b3 eu
        have b9 : ((c / 2 ^ j % 2 : Nat) : Int) = 1 := by
          have : (((c / 2 ^ j % 2 : Nat) : Int) == 1) = true := b3
          simpa using this
        rw [if_pos rfl] at eu
        rw [b9] at b2
        refine yG (oj hn_g2 (oj hn_g4 (oj e1 (oj e2 (oj hn_g10 (oj b1 (oj b2 (oj b4 (oj b5 b6))))))))) ?_
        rw [← eu]
        exact aw_stop ⟨j + 1, by omega, (zB (oj hn_g2 (oj hn_g4 (oj e1 (oj e2 (oj hn_g10 (oj b1 (oj b2 (oj b4 (oj b5 b6)))))))))), zZ, by omega⟩
    have h2' : j = op.length := by have := of_decide_eq_false h2; omega
    subst h2'
    have hu1 := hup c op.length (Nat.le_refl _)
    have t1 := topE_fa ok (upp op c op.length)
    have n1 := ends_fa s (upp op c op.length) (by omega) (by omega)
    have ft := topQ_fits ok (upp op c op.length)
    have hle := mn_le_mx (fun c => topQ f s (upp op c op.length)) (fun _ => true) rfl c
    have pt := sppoint_fa (rd (topQ f s (upp op c op.length))) (wf_mono (rd_wf ft) (by omega))
    rw [rd_q] at pt
    refine yG (oj hn_g2 (oj hn_g4 (oj e1 (oj e2 hn_g10)))) ?_
    refine aw_cw ([(g2, .cells 24 3 (ofL (fmc false f)))]) [(0,0),(1,0),(2,0),(3,0),(4,0),(5,0),(6,0),(7,0),(8,1),(9,1),(10,0)] ty_mixed (by kernel_rfl) eI ?_
    refine yG (oj hn_g2 (oj hn_g4 (oj e1 (oj e2 hn_g10)))) ?_
    refine cw_callq rfl n1 rfl rfl rfl (fun _ _ => (zL (oj hn_g2 (oj hn_g4 (oj e1 (oj e2 hn_g10)))))) ?_
    refine yS (oj hn_g2 (oj hn_g4 (oj e1 (oj e2 hn_g10)))) ?_
    refine yG (oj hn_g2 (oj hn_g4 (oj e1 (oj e2 hn_g10)))) ?_
    refine cw_callq rfl t1 rfl rfl rfl (fun _ _ => (zL (oj hn_g2 (oj hn_g4 (oj e1 (oj e2 hn_g10)))))) ?_
    refine yS (oj hn_g2 (oj hn_g4 (oj e1 (oj e2 hn_g10)))) ?_
    refine yG (oj hn_g2 (oj hn_g4 (oj e1 (oj e2 hn_g10)))) ?_
    refine cw_alloc rfl rfl rfl rfl (zE (oj hn_g2 (oj hn_g4 (oj e1 (oj e2 hn_g10))))) eI (fun g15 hn_g15 => ?_) (hm := .inr ⟨rfl, rfl⟩)
    replace hn_g15 := Heap.ne_of hn_g15
    dsimp only [Heap.ne] at hn_g15
    refine yS (oj hn_g2 (oj hn_g4 (oj e1 (oj e2 (oj hn_g10 hn_g15))))) ?_
    refine cw_store rfl rfl rfl rfl rfl (zE (oj hn_g2 (oj hn_g4 (oj e1 (oj e2 (oj hn_g10 hn_g15)))))) (zE (oj hn_g2 (oj hn_g4 (oj e1 (oj e2 (oj hn_g10 hn_g15)))))) (zE (oj hn_g2 (oj hn_g4 (oj e1 (oj e2 (oj hn_g10 hn_g15)))))) (zE (oj hn_g2 (oj hn_g4 (oj e1 (oj e2 (oj hn_g10 hn_g15)))))) (fun _ e => by cases e) rfl rfl (Nat.le_refl 3) (zE (oj hn_g2 (oj hn_g4 (oj e1 (oj e2 (oj hn_g10 hn_g15)))))) eI ?_ (hm := .inr ⟨rfl, rfl⟩)
    refine yS (oj hn_g2 (oj hn_g4 (oj e1 (oj e2 (oj hn_g10 hn_g15))))) ?_
    refine yG (oj hn_g2 (oj hn_g4 (oj e1 (oj e2 (oj hn_g10 hn_g15))))) ?_
    refine yN (oj hn_g2 (oj hn_g4 (oj e1 (oj e2 (oj hn_g10 hn_g15))))) ?_
    refine yG (oj hn_g2 (oj hn_g4 (oj e1 (oj e2 (oj hn_g10 hn_g15))))) ?_
    refine yF (oj hn_g2 (oj hn_g4 (oj e1 (oj e2 (oj hn_g10 hn_g15))))) (fun hz=>?_) fun hz=>?_
    · have hz' : c = 0 := by simpa using hz
      refine yG (oj hn_g2 (oj hn_g4 (oj e1 (oj e2 (oj hn_g10 hn_g15))))) ?_
      refine yC (oj hn_g2 (oj hn_g4 (oj e1 (oj e2 (oj hn_g10 hn_g15))))) (pt) ?_
      refine yG (oj hn_g2 (oj hn_g4 (oj e1 (oj e2 (oj hn_g10 hn_g15))))) ?_
      refine yW (oj hn_g2 (oj hn_g4 (oj e1 (oj e2 (oj hn_g10 hn_g15))))) ?_
      refine yS (oj hn_g2 (oj hn_g4 (oj e1 (oj e2 (oj hn_g10 hn_g15))))) ?_
      refine aw_conv2 (f' := ofL (spc ⟨rd (mnL (fun c => topQ f s (upp op c op.length)) (fun _ => true) c), rd (mxL (fun c => topQ f s (upp op c op.length)) (fun _ => true) c)⟩)) (fun j hj => by subst hz'; match j, hj with | 0, _ => rfl | 1, _ => rfl | 2, _ => rfl | 3, _ => rfl | 4, _ => rfl | 5, _ => rfl) ?_
      refine yG (oj hn_g2 (oj hn_g4 (oj e1 (oj e2 (oj hn_g10 hn_g15))))) ?_
      have hu := sphull_fa ⟨rd (mnL (fun c => topQ f s (upp op c op.length)) (fun _ => true) c), rd (mxL (fun c => topQ f s (upp op c op.length)) (fun _ => true) c)⟩ (ptS (topQ f s (upp op c op.length))) ⟨wf_mono (rd_wf (hmnf c)) (by omega), wf_mono (rd_wf (hmxf c)) (by omega)⟩ ⟨wf_mono (rd_wf ft) (by omega), wf_mono (rd_wf ft) (by omega)⟩
      rw [rd_nlo hle, rd_nhi hle, rd_nlo Rat.le_refl, rd_nhi Rat.le_refl] at hu
      refine aw_dr 4 ty_mixed (by kernel_rfl) ?_
      refine yG (oj hn_g2 (oj hn_g4 (oj e1 (oj e2 (oj hn_g10 hn_g15))))) ?_
      refine yD (oj hn_g2 (oj hn_g4 (oj e1 (oj e2 (oj hn_g10 hn_g15))))) (pt) ?_
      refine yG (oj hn_g2 (oj hn_g4 (oj e1 (oj e2 (oj hn_g10 hn_g15))))) ?_
      refine yD (oj hn_g2 (oj hn_g4 (oj e1 (oj e2 (oj hn_g10 hn_g15))))) (hu) ?_
      refine yG (oj hn_g2 (oj hn_g4 (oj e1 (oj e2 (oj hn_g10 hn_g15))))) ?_
      refine yW (oj hn_g2 (oj hn_g4 (oj e1 (oj e2 (oj hn_g10 hn_g15))))) ?_
      refine yS (oj hn_g2 (oj hn_g4 (oj e1 (oj e2 (oj hn_g10 hn_g15))))) ?_
      refine aw_conv2 (f' := ofL (outC (c + 1) (mnL (fun c => topQ f s (upp op c op.length)) (fun _ => true) (c + 1)) (mxL (fun c => topQ f s (upp op c op.length)) (fun _ => true) (c + 1)))) (fun j hj => by match j, hj with | 0, _ => rfl | 1, _ => rfl | 2, _ => rfl | 3, _ => rfl | 4, _ => rfl | 5, _ => rfl) ?_
      refine yG (oj hn_g2 (oj hn_g4 (oj e1 (oj e2 (oj hn_g10 hn_g15))))) ?_
      exact aw_stop ⟨c + 1, by omega, (zB (oj hn_g2 (oj hn_g4 (oj e1 (oj e2 (oj hn_g10 hn_g15)))))), .cons _ (.refl _), by omega⟩
    · have hz' : c ≠ 0 := by simpa using hz
      refine aw_conv2 (f' := ofL (spc ⟨rd (mnL (fun c => topQ f s (upp op c op.length)) (fun _ => true) c), rd (mxL (fun c => topQ f s (upp op c op.length)) (fun _ => true) c)⟩)) (fun j hj => by rw [outC_s hz']) ?_
      refine yG (oj hn_g2 (oj hn_g4 (oj e1 (oj e2 (oj hn_g10 hn_g15))))) ?_
      have hu := sphull_fa ⟨rd (mnL (fun c => topQ f s (upp op c op.length)) (fun _ => true) c), rd (mxL (fun c => topQ f s (upp op c op.length)) (fun _ => true) c)⟩ (ptS (topQ f s (upp op c op.length))) ⟨wf_mono (rd_wf (hmnf c)) (by omega), wf_mono (rd_wf (hmxf c)) (by omega)⟩ ⟨wf_mono (rd_wf ft) (by omega), wf_mono (rd_wf ft) (by omega)⟩
      rw [rd_nlo hle, rd_nhi hle, rd_nlo Rat.le_refl, rd_nhi Rat.le_refl] at hu
      refine aw_dr 4 ty_mixed (by kernel_rfl) ?_
      refine yG (oj hn_g2 (oj hn_g4 (oj e1 (oj e2 (oj hn_g10 hn_g15))))) ?_
      refine yD (oj hn_g2 (oj hn_g4 (oj e1 (oj e2 (oj hn_g10 hn_g15))))) (pt) ?_
      refine yG (oj hn_g2 (oj hn_g4 (oj e1 (oj e2 (oj hn_g10 hn_g15))))) ?_
      refine yD (oj hn_g2 (oj hn_g4 (oj e1 (oj e2 (oj hn_g10 hn_g15))))) (hu) ?_
      refine yG (oj hn_g2 (oj hn_g4 (oj e1 (oj e2 (oj hn_g10 hn_g15))))) ?_
      refine yW (oj hn_g2 (oj hn_g4 (oj e1 (oj e2 (oj hn_g10 hn_g15))))) ?_
      refine yS (oj hn_g2 (oj hn_g4 (oj e1 (oj e2 (oj hn_g10 hn_g15))))) ?_
      refine aw_conv2 (f' := ofL (outC (c + 1) (mnL (fun c => topQ f s (upp op c op.length)) (fun _ => true) (c + 1)) (mxL (fun c => topQ f s (upp op c op.length)) (fun _ => true) (c + 1)))) (fun j hj => by match j, hj with | 0, _ => rfl | 1, _ => rfl | 2, _ => rfl | 3, _ => rfl | 4, _ => rfl | 5, _ => rfl) ?_
      refine yG (oj hn_g2 (oj hn_g4 (oj e1 (oj e2 (oj hn_g10 hn_g15))))) ?_
      exact aw_stop ⟨c + 1, by omega, (zB (oj hn_g2 (oj hn_g4 (oj e1 (oj e2 (oj hn_g10 hn_g15)))))), .cons _ (.refl _), by omega⟩
  have h1' : c = 2 ^ op.length := by have := of_decide_eq_false h1; omega
  subst h1'
  rw [hvlo, hvhi]
  refine aw_conv1 (f' := ofL (spc ⟨rd (vloQ f s), rd (vhiQ f s)⟩)) (fun j hj => by rw [outC_s (by omega)]) ?_
  refine yG (oj hn_g2 (oj hn_g4 (oj e1 (oj e2 hn_g10)))) ?_
  refine yW (oj hn_g2 (oj hn_g4 (oj e1 (oj e2 hn_g10)))) ?_
  refine yS (oj hn_g2 (oj hn_g4 (oj e1 (oj e2 hn_g10)))) ?_
  refine yG (oj hn_g2 (oj hn_g4 (oj e1 (oj e2 hn_g10)))) ?_
  refine yT hC (oj hn_g2 (oj hn_g4 (oj e1 (oj e2 hn_g10)))) ?_
  refine .tup ⟨.agg ?_, .c .nilI, trivial⟩
  show LeRL _ (spc ⟨rd (vloQ f s), rd (vhiQ f s)⟩) _
  exact lerl_sp
end Go.Proofs.YtcoflhkcpnoaaaaGreatDoor
namespace Go.Proofs.YtcoflhkcpnoaaaaGreatDoor
open Go.AI Go.PN
attribute [local irreducible] aw Fa Fh DrK
theorem vlo_fits {f : FM} {s : List SD} (ok : UOk f s) : fits (vloQ f s) 14000 := by
  obtain ⟨_, u, _, h⟩ := vlo_spec f s
  rw [h]; exact topQ_fits ok u
theorem vhi_fits {f : FM} {s : List SD} (ok : UOk f s) : fits (vhiQ f s) 14000 := by
  obtain ⟨_, u, _, h⟩ := vhi_spec f s
  rw [h]; exact topQ_fits ok u
end Go.Proofs.YtcoflhkcpnoaaaaGreatDoor
