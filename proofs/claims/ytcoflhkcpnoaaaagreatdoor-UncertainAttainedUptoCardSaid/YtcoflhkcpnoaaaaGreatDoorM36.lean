/- Blocks of one proof, laid one behind the other by a program (merge2.py). -/
import Derived.Test.YtcoflhkcpnoaaaaGreatDoorM31
set_option linter.unusedSimpArgs false
set_option linter.unusedVariables false
namespace Go.PN
open Go.AI
noncomputable def hitTo (g : Nat → Rat) (a : Rat) : Nat → Bool
  | 0 => false
  | k + 1 => hitTo g a k || (signQ (g k - a) == 0)
theorem hit_true {g : Nat → Rat} {a : Rat} : ∀ {k u : Nat}, u < k → a = g u → hitTo g a k = true
  | k + 1, u, h, e => by
    rw [hitTo]
    by_cases hu : u = k
    · subst hu
      rw [← e, show a - a = 0 from by grind]
      show (_ || ((signQ 0) == 0)) = true
      rw [show ((signQ 0 : Int) == 0) = true from rfl, Bool.or_true]
    · rw [hit_true (show u < k by omega) e]; rfl
end Go.PN
namespace Go.Proofs.YtcoflhkcpnoaaaaGreatDoor
open Go.AI Go.PN
attribute [local irreducible] aw Fa Fh DrK
set_option maxRecDepth 100000 in
set_option maxHeartbeats 6400000 in
theorem lawAttained_fa (f : FM) (s : List SD) (hw : SWordsOk s) (hlw : SLensOk s) (hl : s.length ≤ 1099511627776) (hn : f.nodes.length ≤ 1099511627776) (ha : ArgsOk f) (ht0 : -9223372036854775808 ≤ f.top) (ht : f.top ≤ 9223372036854775807) :
    Fa Tryz.prog 5 [.agg (fmc false f), .c (sps false s)] (.c (.bool true)) := by
  have haw := awake44_fa
  refine fa_of_body Tryz.func5 rfl rfl (by simp [Tryz.ntmps5]) fun C hC => ?_
  simp only [initS, Nat.reduceAdd]
  refine xG ?_
  refine xB fun g2 hn_g2=>?_
  refine yG hn_g2 ?_
  refine yC hn_g2 (haw) ?_
  refine yG hn_g2 ?_
  refine yC hn_g2 (heavy_fa f s hn ha hl hlw) ?_
  refine yG hn_g2 ?_
  cases hv : heavyB f s
  rotate_left
  · refine yG hn_g2 ?_
    refine yP hn_g2 ?_
    refine yG hn_g2 ?_
    refine yC hn_g2 (haw) ?_
    refine yG hn_g2 ?_
    refine yT hC hn_g2 ?_
    exact .one (.c (.bool _))
  obtain ⟨hw4', hv6⟩ := light hw hv
  have hw4 : ∀ y ∈ s, y.wf 16 := fun y hy => ⟨wf_mono (hw4' y hy).1 (by omega), wf_mono (hw4' y hy).2 (by omega)⟩
  refine yG hn_g2 ?_
  refine yC hn_g2 (ready_fa f s hn ha ht0 ht (fun y hy => ⟨wf_mono (hw4 y hy).1 ?_, wf_mono (hw4 y hy).2 ?_⟩) hl) ?_
  · omega
  · omega
  refine yG hn_g2 ?_
  cases hr : decide (ucode f s = 0)
  · refine yG hn_g2 ?_
    refine yP hn_g2 ?_
    refine yG hn_g2 ?_
    refine yC hn_g2 (haw) ?_
    refine yG hn_g2 ?_
    refine yT hC hn_g2 ?_
    exact .one (.c (.bool _))
  have hr' : ucode f s = 0 := by simpa using hr
  have ok := uok_of hn ha hw4 hv6 hr'
  have hlen := ok.len
  have h6 := ok.v6
  have um := uvert_fa f s hn ha ht0 ht hw4 hl hv6
  rw [uvS_ok hr', hr', show errA 0 = CV.nilI from rfl] at um
  have hps : 2 ^ s.length ≤ 64 := by
    have : 2 ^ s.length ≤ 2 ^ 6 := Nat.pow_le_pow_right (by omega) (by omega)
    omega
  have e1 : shlZ .i64 1 f.vars = ((2 ^ s.length : Nat) : Int) := by rw [← hlen]; exact shl_one s.length (by omega)
  have hcv := fun x h1 h2 => contains_v (f := f) (s := s) (x := x) h1 h2
  obtain ⟨l1, l2⟩ := vlo_spec f s
  obtain ⟨m1, m2⟩ := vhi_spec f s
  have fl := vlo_fits ok
  have fh := vhi_fits ok
  generalize vloQ f s = A at *
  generalize vhiQ f s = B at *
  refine yG (oj hn_g2 e1) ?_
  refine yN (oj hn_g2 e1) ?_
  refine yG (oj hn_g2 e1) ?_
  refine yC (oj hn_g2 e1) (um) ?_
  refine yG (oj hn_g2 e1) ?_
  refine yA (oj hn_g2 e1) fun g5 hn_g5=>?_
  refine yG (oj hn_g2 (oj e1 hn_g5)) ?_
  refine yW (oj hn_g2 (oj e1 hn_g5)) ?_
  refine yS (oj hn_g2 (oj e1 hn_g5)) ?_
  refine aw_conv1 (f' := ofL (spc ⟨rd A, rd B⟩)) (fun j hj => by match j, hj with | 0, _ => rfl | 1, _ => rfl | 2, _ => rfl | 3, _ => rfl | 4, _ => rfl | 5, _ => rfl) ?_
  refine yG (oj hn_g2 (oj e1 hn_g5)) ?_
  refine yN (oj hn_g2 (oj e1 hn_g5)) ?_
  refine yG (oj hn_g2 (oj e1 hn_g5)) ?_
  refine aw_lp (fun u : Nat => [(1, .c (sps false s)), (2, .c (.optr g2 0)), (5, .c (.optr g5 0)), (7, .c (.bool (hitTo (topQ f s) A u))), (8, .c (.bool (hitTo (topQ f s) B u))), (39, .c (.int .i64 (2 ^ s.length : Nat))), (40, .c (.int .i64 u))]) (fun _ => [(g5, .cells 32 6 (ofL (spc ⟨rd A, rd B⟩))), (g2, .cells 24 3 (ofL (fmc false f)))]) (fun u => u ≤ 2 ^ s.length) (fun u => 2 ^ s.length - u) 0 (zB (oj hn_g2 (oj e1 hn_g5))) zZ (Nat.zero_le _) ?_
  rintro u hu
  refine yG (oj hn_g2 (oj e1 hn_g5)) ?_
  refine yF (oj hn_g2 (oj e1 hn_g5)) (fun h1=>?_) fun h1=>?_
  · have h1' : u < 2 ^ s.length := by have := of_decide_eq_true h1; omega
    refine yG (oj hn_g2 (oj e1 hn_g5)) ?_
    refine aw_lp (fun x : Option Nat × Nat => [(1, .c (sps false s)), (2, .c (.optr g2 0)), (5, .c (.optr g5 0)), (7, .c (.bool (hitTo (topQ f s) A u))), (8, .c (.bool (hitTo (topQ f s) B u))), (9, .c (.int .i64 u)), (10, .c (gs x.1 3 x.2)), (39, .c (.int .i64 (2 ^ s.length : Nat))), (40, .c (.int .i64 u)), (43, .c (sps false s)), (44, .c (.int .i64 s.length)), (45, .c (.int .i64 x.2))]) (fun x => (g5, .cells 32 6 (ofL (spc ⟨rd A, rd B⟩))) :: (g2, .cells 24 3 (ofL (fmc false f))) :: gh x.1 30 (x.2 * 3) (ratsF (endTo s u x.2)))
      (fun x => x.2 ≤ s.length ∧ (x.1 = none → x.2 = 0)) (fun x => s.length - x.2) (none, 0) (zB (oj hn_g2 (oj e1 hn_g5))) zZ ⟨Nat.zero_le _, fun _ => rfl⟩ ?_
    rintro ⟨og, k⟩ ⟨hk, hog⟩
    dsimp only at hk hog ⊢
    refine yG (oj hn_g2 (oj e1 hn_g5)) ?_
    refine yF (oj hn_g2 (oj e1 hn_g5)) (fun h2=>?_) fun h2=>?_
    · have h2' : k < s.length := by have := of_decide_eq_true h2; omega
      have e1 := endTo_succ s u k
      have b1 := shrZ_nat u k (by omega)
      have b2 := and_one_nat (u / 2 ^ k) (Nat.lt_of_le_of_lt (Nat.div_le_self _ _) (by omega))
      have b3 := bit_eq u k
      refine yG (oj hn_g2 (oj e1 (oj hn_g5 (oj b1 (oj b2 b3))))) ?_
      refine yA (oj hn_g2 (oj e1 (oj hn_g5 (oj b1 (oj b2 b3))))) fun g12 hn_g12=>?_
      generalize s.getD k sd0 = y at *
      refine yG (oj hn_g2 (oj e1 (oj hn_g5 (oj b1 (oj b2 (oj b3 hn_g12)))))) ?_
      refine yW (oj hn_g2 (oj e1 (oj hn_g5 (oj b1 (oj b2 (oj b3 hn_g12)))))) ?_
      refine yS (oj hn_g2 (oj e1 (oj hn_g5 (oj b1 (oj b2 (oj b3 hn_g12)))))) ?_
      refine aw_conv1 (f' := ofL (spc y)) (fun j hj => by match j, hj with | 0, _ => rfl | 1, _ => rfl | 2, _ => rfl | 3, _ => rfl | 4, _ => rfl | 5, _ => rfl) ?_
      refine yG (oj hn_g2 (oj e1 (oj hn_g5 (oj b1 (oj b2 (oj b3 hn_g12)))))) ?_
      refine yF (oj hn_g2 (oj e1 (oj hn_g5 (oj b1 (oj b2 (oj b3 hn_g12)))))) (fun hb=>?_) fun hb=>?_
      · rw [if_pos hb] at e1
        refine yG (oj hn_g2 (oj e1 (oj hn_g5 (oj b1 (oj b2 (oj b3 hn_g12)))))) ?_
        refine aw_push (pre := [(g12, .cells 32 6 (ofL (spc y))), (g5, .cells 32 6 (ofL (spc ⟨rd A, rd B⟩))), (g2, .cells 24 3 (ofL (fmc false f)))]) rfl rfl rfl rfl rfl rfl rfl (zE (oj hn_g2 (oj e1 (oj hn_g5 (oj b1 (oj b2 (oj b3 hn_g12))))))) (zE (oj hn_g2 (oj e1 (oj hn_g5 (oj b1 (oj b2 (oj b3 hn_g12))))))) (by rfl) (by omega) (by omega) (zE (oj hn_g2 (oj e1 (oj hn_g5 (oj b1 (oj b2 (oj b3 hn_g12))))))) (by omega) (by exact hog) (zE (oj hn_g2 (oj e1 (oj hn_g5 (oj b1 (oj b2 (oj b3 hn_g12))))))) (by rfl) (by rfl) (by first | rfl | simp only [Nat.mul_one, List.nil_append, List.cons_append] <;> rfl) (by unfold maxLen; omega) (by omega) (by exact rats_push (endTo_len s u k) _) fun g hn_g => ?_
        replace hn_g := Heap.ne_of hn_g
        first | dsimp only [Heap.ne, gh] at hn_g | dsimp only [Heap.ne] at hn_g | skip
        refine yS (oj hn_g2 (oj e1 (oj hn_g5 (oj b1 (oj b2 (oj b3 (oj hn_g12 hn_g))))))) ?_
        refine yG (oj hn_g2 (oj e1 (oj hn_g5 (oj b1 (oj b2 (oj b3 (oj hn_g12 hn_g))))))) ?_
        rw [← e1]
        exact aw_stop ⟨(some g, k + 1), by dsimp only; omega, (zB (oj hn_g2 (oj e1 (oj hn_g5 (oj b1 (oj b2 (oj b3 (oj hn_g12 hn_g)))))))), .cons _ (.refl _), by dsimp only; omega, some_ne⟩
      · rw [if_neg (by rw [hb]; simp)] at e1
        refine yG (oj hn_g2 (oj e1 (oj hn_g5 (oj b1 (oj b2 (oj b3 hn_g12)))))) ?_
        refine aw_push (pre := [(g12, .cells 32 6 (ofL (spc y))), (g5, .cells 32 6 (ofL (spc ⟨rd A, rd B⟩))), (g2, .cells 24 3 (ofL (fmc false f)))]) rfl rfl rfl rfl rfl rfl rfl (zE (oj hn_g2 (oj e1 (oj hn_g5 (oj b1 (oj b2 (oj b3 hn_g12))))))) (zE (oj hn_g2 (oj e1 (oj hn_g5 (oj b1 (oj b2 (oj b3 hn_g12))))))) (by rfl) (by omega) (by omega) (zE (oj hn_g2 (oj e1 (oj hn_g5 (oj b1 (oj b2 (oj b3 hn_g12))))))) (by omega) (by exact hog) (zE (oj hn_g2 (oj e1 (oj hn_g5 (oj b1 (oj b2 (oj b3 hn_g12))))))) (by rfl) (by rfl) (by first | rfl | simp only [Nat.mul_one, List.nil_append, List.cons_append] <;> rfl) (by unfold maxLen; omega) (by omega) (by exact rats_push (endTo_len s u k) _) fun g hn_g => ?_
        replace hn_g := Heap.ne_of hn_g
        first | dsimp only [Heap.ne, gh] at hn_g | dsimp only [Heap.ne] at hn_g | skip
        refine yS (oj hn_g2 (oj e1 (oj hn_g5 (oj b1 (oj b2 (oj b3 (oj hn_g12 hn_g))))))) ?_
        refine yG (oj hn_g2 (oj e1 (oj hn_g5 (oj b1 (oj b2 (oj b3 (oj hn_g12 hn_g))))))) ?_
        rw [← e1]
        exact aw_stop ⟨(some g, k + 1), by dsimp only; omega, (zB (oj hn_g2 (oj e1 (oj hn_g5 (oj b1 (oj b2 (oj b3 (oj hn_g12 hn_g)))))))), .cons _ (.refl _), by dsimp only; omega, some_ne⟩
    have h2' : k = s.length := by have := of_decide_eq_false h2; omega
    subst h2'
    refine aw_perm (h' := gh og 30 (s.length * 3) (ratsF (endTo s u s.length)) ++ [(g5, .cells 32 6 (ofL (spc ⟨rd A, rd B⟩))), (g2, .cells 24 3 (ofL (fmc false f)))]) (List.perm_append_comm (l₁ := [_, _])) ?_
    refine aw_frzGT (t := 10) (f' := ratsF (endTo s u s.length)) hog (endTo_len s u s.length).symm (zE (oj hn_g2 (oj e1 hn_g5))) (fun g _ => hC g) (fun _ _ => rfl) rfl ?_
    refine yS (oj hn_g2 (oj e1 hn_g5)) ?_
    have t1 := topE_fa ok u
    have ft := topQ_fits ok u
    have hu1 := l1 u h1'
    have hu2 := m1 u h1'
    have ct := spcontains_fa ⟨rd A, rd B⟩ (rd (topQ f s u)) ⟨wf_mono (rd_wf fl) (by omega), wf_mono (rd_wf fh) (by omega)⟩ (wf_mono (rd_wf ft) (by omega))
    rw [rd_q, hcv _ hu1 hu2] at ct
    have c1 := rcmp_fa (rd (topQ f s u)) (rd A) (wf_mono (rd_wf ft) (by omega)) (wf_mono (rd_wf fl) (by omega))
    have c2 := rcmp_fa (rd (topQ f s u)) (rd B) (wf_mono (rd_wf ft) (by omega)) (wf_mono (rd_wf fh) (by omega))
    rw [rd_q, rd_q] at c1 c2
    have eA : hitTo (topQ f s) A (u + 1) = (hitTo (topQ f s) A u || (signQ (topQ f s u - A) == 0)) := rfl
    have eB : hitTo (topQ f s) B (u + 1) = (hitTo (topQ f s) B u || (signQ (topQ f s u - B) == 0)) := rfl
    refine yG (oj hn_g2 (oj e1 hn_g5)) ?_
    refine yC (oj hn_g2 (oj e1 hn_g5)) (t1) ?_
    refine yG (oj hn_g2 (oj e1 hn_g5)) ?_
    refine yA (oj hn_g2 (oj e1 hn_g5)) fun g13 hn_g13=>?_
    refine yG (oj hn_g2 (oj e1 (oj hn_g5 hn_g13))) ?_
    refine yW (oj hn_g2 (oj e1 (oj hn_g5 hn_g13))) ?_
    refine yS (oj hn_g2 (oj e1 (oj hn_g5 hn_g13))) ?_
    refine yG (oj hn_g2 (oj e1 (oj hn_g5 hn_g13))) ?_
    refine yC (oj hn_g2 (oj e1 (oj hn_g5 hn_g13))) (ct) ?_
    refine yG (oj hn_g2 (oj e1 (oj hn_g5 hn_g13))) ?_
    refine yN (oj hn_g2 (oj e1 (oj hn_g5 hn_g13))) ?_
    cases hA : hitTo (topQ f s) A u <;> cases hB : hitTo (topQ f s) B u
    · rw [hA, Bool.false_or] at eA
      rw [hB, Bool.false_or] at eB
      refine yG (oj hn_g2 (oj e1 (oj hn_g5 hn_g13))) ?_
      refine yC (oj hn_g2 (oj e1 (oj hn_g5 hn_g13))) (c1) ?_
      refine yG (oj hn_g2 (oj e1 (oj hn_g5 hn_g13))) ?_
      refine yC (oj hn_g2 (oj e1 (oj hn_g5 hn_g13))) (c2) ?_
      refine yG (oj hn_g2 (oj e1 (oj hn_g5 hn_g13))) ?_
      rw [← eA, ← eB]
      exact aw_stop ⟨u + 1, by omega, (zB (oj hn_g2 (oj e1 (oj hn_g5 hn_g13)))), .cons _ (.refl _), by omega⟩
    · rw [hA, Bool.false_or] at eA
      rw [hB, Bool.true_or] at eB
      refine yG (oj hn_g2 (oj e1 (oj hn_g5 hn_g13))) ?_
      refine yC (oj hn_g2 (oj e1 (oj hn_g5 hn_g13))) (c1) ?_
      refine yG (oj hn_g2 (oj e1 (oj hn_g5 hn_g13))) ?_
      rw [← eA]
      exact aw_stop ⟨u + 1, by omega, (zB (oj hn_g2 (oj e1 (oj hn_g5 (oj hn_g13 eB))))), .cons _ (.refl _), by omega⟩
    · rw [hA, Bool.true_or] at eA
      rw [hB, Bool.false_or] at eB
      refine yG (oj hn_g2 (oj e1 (oj hn_g5 hn_g13))) ?_
      refine yC (oj hn_g2 (oj e1 (oj hn_g5 hn_g13))) (c2) ?_
      refine yG (oj hn_g2 (oj e1 (oj hn_g5 hn_g13))) ?_
      rw [← eB]
      exact aw_stop ⟨u + 1, by omega, (zB (oj hn_g2 (oj e1 (oj hn_g5 (oj hn_g13 eA))))), .cons _ (.refl _), by omega⟩
    · rw [hA, Bool.true_or] at eA
      rw [hB, Bool.true_or] at eB
      refine yG (oj hn_g2 (oj e1 (oj hn_g5 hn_g13))) ?_
      exact aw_stop ⟨u + 1, by omega, (zB (oj hn_g2 (oj e1 (oj hn_g5 (oj hn_g13 (oj eA eB)))))), .cons _ (.refl _), by omega⟩
  have h1' : u = 2 ^ s.length := by have := of_decide_eq_false h1; omega
  subst h1'
  obtain ⟨a, a1, a2⟩ := l2
  obtain ⟨b, b1, b2⟩ := m2
  have eA := hit_true a1 a2
  have eB := hit_true b1 b2
  refine yG (oj hn_g2 (oj e1 (oj hn_g5 (oj eA eB)))) ?_
  refine yT hC (oj hn_g2 (oj e1 (oj hn_g5 (oj eA eB)))) ?_
  exact .one (.c (ler_bool rfl))
end Go.Proofs.YtcoflhkcpnoaaaaGreatDoor
