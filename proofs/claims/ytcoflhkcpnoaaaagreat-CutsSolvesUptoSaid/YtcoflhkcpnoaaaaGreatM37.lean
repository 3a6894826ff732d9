/- Blocks of one proof, laid one behind the other by a program (merge2.py). -/
import Derived.Test.YtcoflhkcpnoaaaaGreatM31
import Derived.Test.YtcoflhkcpnoaaaaGreatM32
set_option linter.unusedSimpArgs false
set_option linter.unusedVariables false
namespace Go.AI
theorem yO {F X G : Prop} (f : F) (x : X) (k : F → Hold X → G := by intro f x; (first|(refine wb1 rfl fun R r=>?_;simp only[go_sem,f];with_reducible refine r _ _ ?_;clear r R)|(refine wd1 rfl fun R r=>?_;simp only[go_sem,f];with_reducible refine r _ _ ?_;clear r R)|apply wc2|(refine wc1 rfl rfl fun R r=>?_;simp only[go_sem,f];with_reducible refine r _ _ ?_;clear r R)); exact x.out) : G := k f ⟨x⟩
end Go.AI
namespace Go.PN
open Go.AI
def tabL (d : DG) : List Bool := (List.range (2 ^ d.order.length)).map fun s => evalD d.nodes s d.root
theorem shrZ_int (x : Nat) (v : Int) (h0 : 0 ≤ v) (h1 : v ≤ 64) : shrZ .i64 (x : Int) v = ((x / 2 ^ v.toNat : Nat) : Int) := by
  have := shrZ_nat x v.toNat (by omega)
  rwa [show ((v.toNat : Nat) : Int) = v from by omega] at this
end Go.PN

namespace Go.Proofs.YtcoflhkcpnoaaaaGreat
open Go.AI Go.PN
attribute [local irreducible] aw Fa Fh DrK
set_option maxHeartbeats 1600000 in
theorem value15_fa (d : DG) (r0 : Int) (s m : Nat) (hm : m ≤ 62) (hs : s < 9223372036854775808) (hns : NsOk m d.nodes) (h0 : 0 ≤ r0) (h1 : r0 < d.nodes.length + 2) (hl : d.nodes.length ≤ 1000000) :
    Fa Tryz.prog 91 [.agg (dgc false d), .c (.int .i64 r0), .c (.int .i64 s)] (.c (.bool (evalD d.nodes s r0))) := by
  refine fa_of_body Tryz.func91 rfl rfl (by simp [Tryz.ntmps91]) fun C hC => ?_
  simp only [initS, Nat.reduceAdd]
  refine xG ?_
  refine xB fun g3 hn_g3=>?_
  refine yG hn_g3 ?_
  refine aw_lp (fun r : Int => [(1, .c (.int .i64 r)), (2, .c (.int .i64 s)), (3, .c (.optr g3 0))]) (fun _ => [(g3, .cells 25 3 (ofL (dgc false d)))]) (fun r => 0 ≤ r ∧ r < d.nodes.length + 2 ∧ evalD d.nodes s r = evalD d.nodes s r0) (fun r => r.toNat) r0 (zB hn_g3) zZ ⟨h0, h1, rfl⟩ ?_
  rintro r ⟨hr0, hr1, hre⟩
  refine yG hn_g3 ?_
  refine yF hn_g3 (fun hb=>?_) fun hb=>?_
  · have hb' : 2 ≤ r := by have := of_decide_eq_true hb; omega
    obtain ⟨v0, v1, l0, l1, h0', h1'⟩ := hns (r - 2).toNat (by omega)
    have hk := kid_lt hns (s := s) hb' hr1
    rw [evalD_step hns hb' hr1] at hre
    have b1 := shrZ_int s (d.nodes.getD (r - 2).toNat dn0).v v0 (by omega)
    have b2 := and_one_nat (s / 2 ^ (d.nodes.getD (r - 2).toNat dn0).v.toNat) (Nat.lt_of_le_of_lt (Nat.div_le_self _ _) hs)
    have b3 := bit_eq s (d.nodes.getD (r - 2).toNat dn0).v.toNat
    refine yG hn_g3 ?_
    refine yA hn_g3 fun g7 hn_g7=>?_
    refine yG (oj hn_g3 hn_g7) ?_
    refine yW (oj hn_g3 hn_g7) ?_
    refine yS (oj hn_g3 hn_g7) ?_
    refine yG (oj hn_g3 (oj hn_g7 (oj b1 (oj b2 b3)))) ?_
    refine yF (oj hn_g3 (oj hn_g7 (oj b1 (oj b2 b3)))) (fun hc=>?_) fun hc=>?_
    · have hkid : kid d.nodes s r = (d.nodes.getD (r - 2).toNat dn0).hi := by rw [kid, if_pos hc]
      rw [hkid] at hk hre
      refine yG (oj hn_g3 (oj hn_g7 (oj b1 (oj b2 b3)))) ?_
      exact aw_stop ⟨_, by omega, (zB (oj hn_g3 (oj hn_g7 (oj b1 (oj b2 b3))))), List.Sublist.cons _ (List.Sublist.refl _), hk.1, by omega, hre⟩
    · have hkid : kid d.nodes s r = (d.nodes.getD (r - 2).toNat dn0).lo := by rw [kid, if_neg (by rw [hc]; simp)]
      rw [hkid] at hk hre
      refine yG (oj hn_g3 (oj hn_g7 (oj b1 (oj b2 b3)))) ?_
      exact aw_stop ⟨_, by omega, (zB (oj hn_g3 (oj hn_g7 (oj b1 (oj b2 b3))))), List.Sublist.cons _ (List.Sublist.refl _), hk.1, by omega, hre⟩
  · have hb' : r ≤ 1 := by have := of_decide_eq_false hb; omega
    refine yG hn_g3 ?_
    refine yT hC hn_g3 ?_
    refine .one (.c (ler_bool ?_))
    rw [← hre, evalD_leaf hb', Bool.eq_iff_iff]; simp
set_option maxHeartbeats 800000 in
theorem Value15_fa (d : DG) (s m : Nat) (hm : m ≤ 62) (hs : s < 9223372036854775808) (hns : NsOk m d.nodes) (h0 : 0 ≤ d.root) (h1 : d.root < d.nodes.length + 2) (hl : d.nodes.length ≤ 1000000) :
    Fa Tryz.prog 54 [.agg (dgc false d), .c (.int .i64 s)] (.c (.bool (evalD d.nodes s d.root))) := by
  refine fa_of_body Tryz.func54 rfl rfl (by simp [Tryz.ntmps54]) fun C hC => ?_
  simp only [initS, Nat.reduceAdd]
  refine xG ?_
  refine xB fun g2 hn_g2=>?_
  refine yG hn_g2 ?_
  refine yC hn_g2 (value15_fa d d.root s m hm hs hns h0 h1 hl) ?_
  refine yG hn_g2 ?_
  refine yT hC hn_g2 ?_
  exact .one (.c (.bool _))
set_option maxHeartbeats 1600000 in
theorem table15_fa (d : DG) (m : Nat) (hm : m ≤ 62) (hns : NsOk m d.nodes) (h0 : 0 ≤ d.root) (h1 : d.root < d.nodes.length + 2) (hl : d.nodes.length ≤ 1000000) (ho : d.order.length ≤ 30) :
    Fa Tryz.prog 16 [.agg (dgc false d)] (.c (bs true (tabL d))) := by
  have hp30 : 2 ^ d.order.length ≤ 1073741824 := by
    have h3 : 2 ^ d.order.length ≤ 2 ^ 30 := Nat.pow_le_pow_right (by omega) ho
    have h4 : (2 : Nat) ^ 30 = 1073741824 := by decide
    omega
  have e1 := shl_one d.order.length (by omega)
  refine fa_of_body Tryz.func16 rfl rfl (by simp [Tryz.ntmps16]) fun C hC => ?_
  simp only [initS, Nat.reduceAdd]
  refine xG ?_
  refine xB fun g1 hn_g1=>?_
  refine yG hn_g1 ?_
  refine aw_lp (fun x : Option Nat × Nat × List Bool => [(1, .c (.optr g1 0)), (3, .c (gs x.1 1 x.2.1)), (4, .c (.int .i64 x.2.1))]) (fun x => [(g1, .cells 25 3 (ofL (dgc false d)))] ++ gh x.1 4 x.2.1 (bsF x.2.2))
    (fun x => (x.1 = none → x.2.1 = 0) ∧ (∀ g, x.1 = some g → ¬ g = g1) ∧ x.2.1 ≤ 2 ^ d.order.length ∧ x.2.2.length = x.2.1 ∧ x.2.2 = (List.range x.2.1).map (fun s => evalD d.nodes s d.root)) (fun x => 2 ^ d.order.length - x.2.1) (none, 0, []) (zB hn_g1) zZ ⟨fun _ => rfl, (fun g e => by cases e), Nat.zero_le _, rfl, rfl⟩ ?_
  rintro ⟨og, k, zs⟩ ⟨hog, hgn, hk, hzl, hzs⟩
  dsimp only at hog hgn hk hzl hzs ⊢
  refine yS (oj hn_g1 e1) ?_
  refine yG (oj hn_g1 e1) ?_
  refine yF (oj hn_g1 e1) (fun hb=>?_) fun hb=>?_
  · have hin : k < 2 ^ d.order.length := by have := of_decide_eq_true hb; omega
    refine yG (oj hn_g1 e1) ?_
    refine yC (oj hn_g1 e1) (Value15_fa d k m hm ?_ hns h0 h1 hl) ?_
    · omega
    refine yG (oj hn_g1 e1) ?_
    refine aw_push (pre := [(g1, .cells 25 3 (ofL (dgc false d)))]) rfl rfl rfl rfl rfl rfl rfl (zE (oj hn_g1 e1)) (zE (oj hn_g1 e1)) (by rfl) (by omega) (by omega) (zE (oj hn_g1 e1)) (by omega) (by exact hog) (zE (oj hn_g1 e1)) (by rfl) (by rfl) (by first | rfl | simp only [Nat.mul_one, List.nil_append, List.cons_append] <;> rfl) (by unfold maxLen; omega) (by omega) (by exact bs_push hzl _) fun g9 hn_g9 => ?_
    replace hn_g9 := Heap.ne_of hn_g9
    first | dsimp only [Heap.ne, gh] at hn_g9 | dsimp only [Heap.ne] at hn_g9 | skip
    refine yS (oj hn_g1 (oj e1 hn_g9)) ?_
    refine yG (oj hn_g1 (oj e1 hn_g9)) ?_
    refine aw_stop ⟨(some g9, k + 1, zs ++ [evalD d.nodes k d.root]), by dsimp only; omega, (zB (oj hn_g1 (oj e1 hn_g9))), zZ, some_ne, (fun g e => by cases e; exact (of_eq_false hn_g9.1.1)), by dsimp only; omega, by simp; omega, ?_⟩
    dsimp only
    rw [List.range_succ, List.map_append, ← hzs]; rfl
  · have hin : k = 2 ^ d.order.length := by have := of_decide_eq_false hb; omega
    subst hin
    refine yG (oj hn_g1 e1) ?_
    refine yT hC (oj hn_g1 e1) ?_
    rw [tabL, ← hzs]
    exact .one (.c (ler_gsb (pre := [(g1, _)]) hog (fun g e => by simp only [Heap.keys, List.map_cons, List.map_nil, List.mem_singleton]; exact hgn g e) hzl))
end Go.Proofs.YtcoflhkcpnoaaaaGreat
namespace Go.Proofs.YtcoflhkcpnoaaaaGreat
open Go.AI Go.PN
attribute [local irreducible] aw Fa Fh DrK
set_option maxHeartbeats 800000 in
theorem behind_fa (d : DG) (r e : Int) (h0 : 0 ≤ r) (h1 : r < d.nodes.length + 2) (hl : d.order.length ≤ 1099511627776) (hl2 : d.nodes.length ≤ 1099511627776) : Fa Tryz.prog 90 [.agg (dgc false d), .c (.int .i64 r), .c (.int .i64 e)] (.c (.bool (behindB d r e))) := by
  unfold behindB
  refine fa_of_body Tryz.func90 rfl rfl (by simp [Tryz.ntmps90]) fun C hC => ?_
  simp only [initS, Nat.reduceAdd]
  refine xG ?_
  refine xB fun g3 hn_g3=>?_
  refine yG hn_g3 ?_
  refine aw_dr 20 ty_mixed (by kernel_rfl) ?_
  refine yG hn_g3 ?_
  refine drk_split 9 (zE hn_g3) (fun hb => ?_) (fun hb => ?_) <;> refine yS hn_g3 ?_
  · refine yG hn_g3 ?_
    refine yT hC hn_g3 ?_
    exact .one (.c (ler_bool (by rw [hb]; rfl)))
  · have hb' := of_decide_eq_false hb
    refine yG hn_g3 ?_
    refine yD hn_g3 (place_fa d.order _ hl) ?_
    refine yG hn_g3 ?_
    refine yD hn_g3 (place_fa d.order e hl) ?_
    refine yG hn_g3 ?_
    refine yT hC hn_g3 ?_
    exact .one (.c (ler_bool (by rw [hb]; rfl)))
set_option maxRecDepth 100000 in
set_option maxHeartbeats 3200000 in
theorem nodeR_fa (d : DG) (i : Nat) (hi : i < d.nodes.length) (hl : d.order.length ≤ 1099511627776) (hl2 : d.nodes.length ≤ 1099511627776) : Fa Tryz.prog 52 [.agg (dgc false d), .c (.int .i64 i)] (.c (.int .i64 (ncode d i))) := by
  have n10 : nrange d i (d.nodes.getD i dn0) → ncode d i = 10 := fun h => by unfold ncode; rw [if_pos h]
  refine fa_of_body Tryz.func52 rfl rfl (by simp [Tryz.ntmps52]) fun C hC => ?_
  simp only [initS, Nat.reduceAdd]
  refine xG ?_
  refine xB fun g2 hn_g2=>?_
  refine yG hn_g2 ?_
  refine yA hn_g2 fun g5 hn_g5=>?_
  refine yG (oj hn_g2 hn_g5) ?_
  refine yW (oj hn_g2 hn_g5) ?_
  refine yS (oj hn_g2 hn_g5) ?_
  generalize hx : d.nodes.getD i dn0 = x at n10
  refine yG (oj hn_g2 hn_g5) ?_
  refine aw_split 15 (zE (oj hn_g2 hn_g5)) (fun a1 => ?_) (fun a1 => ?_) <;> refine yS (oj hn_g2 hn_g5) ?_
  · refine yG (oj hn_g2 hn_g5) ?_
    refine yP (oj hn_g2 hn_g5) ?_
    refine yG (oj hn_g2 hn_g5) ?_
    refine yT hC (oj hn_g2 hn_g5) ?_
    exact .one (.c (ler_int (n10 (.inl (of_decide_eq_true a1))).symm))
  refine yG (oj hn_g2 hn_g5) ?_
  refine aw_split 23 (zE (oj hn_g2 hn_g5)) (fun a2 => ?_) (fun a2 => ?_) <;> refine yS (oj hn_g2 hn_g5) ?_
  · refine yG (oj hn_g2 hn_g5) ?_
    refine yP (oj hn_g2 hn_g5) ?_
    refine yG (oj hn_g2 hn_g5) ?_
    refine yT hC (oj hn_g2 hn_g5) ?_
    exact .one (.c (ler_int (n10 (.inr (.inl (of_decide_eq_true a2)))).symm))
  refine yG (oj hn_g2 hn_g5) ?_
  refine aw_split 28 (zE (oj hn_g2 hn_g5)) (fun a3 => ?_) (fun a3 => ?_) <;> refine yS (oj hn_g2 hn_g5) ?_
  · refine yG (oj hn_g2 hn_g5) ?_
    refine yP (oj hn_g2 hn_g5) ?_
    refine yG (oj hn_g2 hn_g5) ?_
    refine yT hC (oj hn_g2 hn_g5) ?_
    exact .one (.c (ler_int (n10 (.inr (.inr (.inl (of_decide_eq_true a3))))).symm))
  refine yG (oj hn_g2 hn_g5) ?_
  refine aw_split 35 (zE (oj hn_g2 hn_g5)) (fun a4 => ?_) (fun a4 => ?_) <;> refine yS (oj hn_g2 hn_g5) ?_
  · refine yG (oj hn_g2 hn_g5) ?_
    refine yP (oj hn_g2 hn_g5) ?_
    refine yG (oj hn_g2 hn_g5) ?_
    refine yT hC (oj hn_g2 hn_g5) ?_
    exact .one (.c (ler_int (n10 (.inr (.inr (.inr (.inl (of_decide_eq_true a4)))))).symm))
  refine yG (oj hn_g2 hn_g5) ?_
  refine aw_split 40 (zE (oj hn_g2 hn_g5)) (fun a5 => ?_) (fun a5 => ?_) <;> refine yS (oj hn_g2 hn_g5) ?_
  · refine yG (oj hn_g2 hn_g5) ?_
    refine yP (oj hn_g2 hn_g5) ?_
    refine yG (oj hn_g2 hn_g5) ?_
    refine yT hC (oj hn_g2 hn_g5) ?_
    exact .one (.c (ler_int (n10 (.inr (.inr (.inr (.inr (.inl (of_decide_eq_true a5))))))).symm))
  refine yG (oj hn_g2 hn_g5) ?_
  refine yF (oj hn_g2 hn_g5) (fun a6=>?_) fun a6=>?_
  · refine yG (oj hn_g2 hn_g5) ?_
    refine yT hC (oj hn_g2 hn_g5) ?_
    exact .one (.c (ler_int (n10 (.inr (.inr (.inr (.inr (.inr (of_decide_eq_true a6))))))).symm))
  have hnr : ¬ nrange d i x := by
    unfold nrange
    have b1 := of_decide_eq_false a1
    have b2 := of_decide_eq_false a2
    have b3 := of_decide_eq_false a3
    have b4 := of_decide_eq_false a4
    have b5 := of_decide_eq_false a5
    have b6 := of_decide_eq_false a6
    omega
  clear a1 a2 a3 a4 a5 a6 n10
  have hno := nok_of (d := d) (i := i) (by rw [hx]; exact hnr)
  rw [hx] at hno
  obtain ⟨v0, v1, l0, l1, h0, h1⟩ := hno
  have hcode : ncode d i = if x.lo = x.hi then 2 else if !(behindB d x.lo x.v) || !(behindB d x.hi x.v) then 13 else if x ∈ d.nodes.take i then 6 else 0 := by
    unfold ncode; rw [hx, if_neg hnr]
  rw [hcode]
  clear hcode
  refine yG (oj hn_g2 hn_g5) ?_
  refine yF (oj hn_g2 hn_g5) (fun c1=>?_) fun c1=>?_
  · have c1' := eq_of_beq c1
    refine yG (oj hn_g2 hn_g5) ?_
    refine yT hC (oj hn_g2 hn_g5) ?_
    exact .one (.c (ler_int (by rw [if_pos c1'])))
  have c1' : ¬ x.lo = x.hi := fun e => by rw [e] at c1; simp at c1
  rw [if_neg c1']
  refine yG (oj hn_g2 hn_g5) ?_
  refine yC (oj hn_g2 hn_g5) (behind_fa d x.lo x.v l0 ?_ hl hl2) ?_
  · omega
  refine yG (oj hn_g2 hn_g5) ?_
  refine aw_split 59 (zE (oj hn_g2 hn_g5)) (fun c2 => ?_) (fun c2 => ?_) <;> refine yS (oj hn_g2 hn_g5) ?_
  · refine yG (oj hn_g2 hn_g5) ?_
    refine yP (oj hn_g2 hn_g5) ?_
    refine yG (oj hn_g2 hn_g5) ?_
    refine yT hC (oj hn_g2 hn_g5) ?_
    exact .one (.c (ler_int (by rw [c2]; rfl)))
  refine yG (oj hn_g2 hn_g5) ?_
  refine yC (oj hn_g2 hn_g5) (behind_fa d x.hi x.v h0 ?_ hl hl2) ?_
  · omega
  refine yG (oj hn_g2 hn_g5) ?_
  refine yF (oj hn_g2 hn_g5) (fun c3=>?_) fun c3=>?_
  · refine yG (oj hn_g2 hn_g5) ?_
    refine yT hC (oj hn_g2 hn_g5) ?_
    exact .one (.c (ler_int (by rw [c2, c3]; rfl)))
  rw [c2, c3, if_neg (by simp)]
  refine yG (oj hn_g2 hn_g5) ?_
  as_aux_lemma =>
  refine aw_lp (fun k : Nat => [(1, .c (.int .i64 i)), (2, .c (.optr g2 0)), (5, .c (.optr g5 0)), (6, .c (.int .i64 k))]) (fun _ => [(g5, .cells 88 3 (ofL (dnc x))), (g2, .cells 25 3 (ofL (dgc false d)))]) (fun k => k ≤ i ∧ ∀ j, j < k → d.nodes.getD j dn0 ≠ x) (fun k => i - k) 0 (zB (oj hn_g2 hn_g5)) zZ ⟨Nat.zero_le _, fun j hj => by omega⟩ ?_
  rintro k ⟨hk, hs⟩
  refine yG (oj hn_g2 hn_g5) ?_
  refine yF (oj hn_g2 hn_g5) (fun hb=>?_) fun hb=>?_
  · have hki : k < i := by have := of_decide_eq_true hb; omega
    refine yG (oj hn_g2 hn_g5) ?_
    refine aw_dr 7 ty_mixed (by kernel_rfl) ?_
    refine yG (oj hn_g2 hn_g5) ?_
    refine yF (oj hn_g2 hn_g5) (fun he=>?_) fun he=>?_
    · rw [eqDN] at he
      have he' := of_decide_eq_true he
      refine yG (oj hn_g2 hn_g5) ?_
      refine yT hC (oj hn_g2 hn_g5) ?_
      exact .one (.c (ler_int (by rw [if_pos (take_memN.2 ⟨k, hki, by omega, he'⟩)])))
    · rw [eqDN] at he
      have he' := of_decide_eq_false he
      refine yG (oj hn_g2 hn_g5) ?_
      refine aw_stop ⟨k + 1, by omega, (zB (oj hn_g2 hn_g5)), zZ, by omega, fun j hj => ?_⟩
      by_cases hjk : j = k
      · rw [hjk]; exact he'
      · exact hs j (by omega)
  · have hki : k = i := by have := of_decide_eq_false hb; omega
    subst hki
    refine yG (oj hn_g2 hn_g5) ?_
    refine yT hC (oj hn_g2 hn_g5) ?_
    exact .one (.c (ler_int (by rw [if_neg (fun hm => by obtain ⟨j, h1, _, h3⟩ := take_memN.1 hm; exact hs j h1 h3)])))
end Go.Proofs.YtcoflhkcpnoaaaaGreat
namespace Go.PN
open Go.AI
theorem place_ge {l : List Int} {n : Int} : decide (placeZ l n ≥ 0) = decide (n ∈ l) := by
  unfold placeZ
  by_cases h : n ∈ l <;> simp [h]
theorem gh_nd {o : AObj} {g3 : Nat} {og : Option Nat} {e n : Nat} {f : Nat → CV} (h : Heap.keys ((g3, o) :: gh og e n f) |>.Nodup) : ∀ g, og = some g → ¬ g = g3 := by
  rintro g rfl rfl
  simp [Heap.keys, gh] at h
end Go.PN
namespace Go.Proofs.YtcoflhkcpnoaaaaGreat
open Go.AI Go.PN
attribute [local irreducible] aw Fa Fh DrK
set_option maxRecDepth 100000 in
set_option maxHeartbeats 1600000 in
theorem number_fh (d : DG) (hns : NsOk d.order.length d.nodes) (hnl : d.nodes.length ≤ 1000000) : ∀ (k : Nat) (r : Int) (b : List Int) (og : Option Nat) (n : Nat), r.toNat ≤ k → 0 ≤ r → r < d.nodes.length + 2 → b.Nodup → (∀ x ∈ b, 2 ≤ x ∧ x < d.nodes.length + 2) → b.length = n → (og = none → n = 0) →
    Fh Tryz.prog 53 (gh og 3 n (isF b)) [.agg (dgc false d), .c (.int .i64 r), .c (gs og 1 n)]
      (fun res h => ∃ og' n', (numF d.nodes k r b).length = n' ∧ (og' = none → n' = 0) ∧ res = .c (gs og' 1 n') ∧ h = gh og' 3 n' (isF (numF d.nodes k r b))) := by
  intro k
  induction k with
  | zero =>
    intro r b og n hk h0 hr hbn hbr hbl hog
    have hr0 : r = 0 := by omega
    subst hr0
    refine fh_of_body Tryz.func53 rfl rfl (by simp [Tryz.ntmps53]) fun C hC => ?_
    simp only [initS, Nat.reduceAdd]
    refine xG ?_
    refine xB fun g3 hn_g3=>?_
    refine yG hn_g3 ?_
    refine aw_split 10 (zE hn_g3) (fun hb => ?_) (fun hb => ?_) <;> refine yS hn_g3 ?_
    · refine yG hn_g3 ?_
      refine yP hn_g3 ?_
      refine yG hn_g3 ?_
      refine aw_keep [(6, .c (gs og 1 n))] (gh og 3 n (isF b)) (zB hn_g3) (List.Sublist.cons _ (List.Sublist.refl _)) ?_
      refine yU hn_g3 ?_
      exact ⟨og, n, hbl, hog, rfl, rfl⟩
    · exact absurd hb (by decide)
  | succ k ih =>
    intro r b og n hk h0 hr hbn hbr hbl hog
    have hnb := nodup_range hbn hbr
    refine fh_of_body Tryz.func53 rfl rfl (by simp [Tryz.ntmps53]) fun C hC => ?_
    simp only [initS, Nat.reduceAdd]
    refine xG ?_
    refine xB fun g3 hn_g3=>?_
    refine yG hn_g3 ?_
    refine aw_split 10 (zE hn_g3) (fun hb => ?_) (fun hb => ?_) <;> refine yS hn_g3 ?_
    · have hb' := of_decide_eq_true hb
      refine yG hn_g3 ?_
      refine yP hn_g3 ?_
      refine yG hn_g3 ?_
      refine aw_keep [(6, .c (gs og 1 n))] (gh og 3 n (isF b)) (zB hn_g3) (List.Sublist.cons _ (List.Sublist.refl _)) ?_
      refine yU hn_g3 ?_
      rw [numF, if_pos (.inl hb')]
      exact ⟨og, n, hbl, hog, rfl, rfl⟩
    · have hb' := of_decide_eq_false hb
      refine aw_nd fun hnd => ?_
      replace hnd := gh_nd hnd
      have hp3 : ∀ g, og = some g → g ∉ Heap.keys [(g3, AObj.cells 25 3 (ofL (dgc false d)))] := fun g e => by simp only [Heap.keys, List.map_cons, List.map_nil, List.mem_singleton]; exact hnd g e
      refine yG hn_g3 ?_
      refine aw_callq (place_fa b r (by omega)) rfl rfl rfl (by refine yS hn_g3 ?_; exact ⟨.c (le_gsi (pre := [(g3, _)]) hog hp3 hbl), .c (.refl _)⟩) ?_
      refine yS hn_g3 ?_
      refine yG hn_g3 ?_
      refine yF hn_g3 (fun hm=>?_) fun hm=>?_
      · rw [place_ge] at hm
        have hm' := of_decide_eq_true hm
        refine yG hn_g3 ?_
        refine aw_keep [(6, .c (gs og 1 n))] (gh og 3 n (isF b)) (zB hn_g3) (List.Sublist.cons _ (List.Sublist.refl _)) ?_
        refine yU hn_g3 ?_
        rw [numF, if_pos (.inr hm')]
        exact ⟨og, n, hbl, hog, rfl, rfl⟩
      · rw [place_ge] at hm
        have hm' := of_decide_eq_false hm
        have hc : ¬ (r < 2 ∨ r ∈ b) := by rintro (h | h); exact hb' h; exact hm' h
        rw [numF, if_neg hc]
        obtain ⟨v0, v1, l0, l1, q0, q1⟩ := hns (r - 2).toNat (by omega)
        obtain ⟨a1, a2, a3⟩ := numF_bd hns k (d.nodes.getD (r - 2).toNat dn0).lo b (by omega) hbn hbr
        obtain ⟨b1, b2, b3⟩ := numF_bd hns k (d.nodes.getD (r - 2).toNat dn0).hi _ (by omega) a1 a2
        have hnc := nodup_range b1 b2
        refine yG hn_g3 ?_
        refine yA hn_g3 fun g7 hn_g7=>?_
        refine yG (oj hn_g3 hn_g7) ?_
        refine yW (oj hn_g3 hn_g7) ?_
        refine yS (oj hn_g3 hn_g7) ?_
        generalize d.nodes.getD (r - 2).toNat dn0 = x at *
        refine yG (oj hn_g3 hn_g7) ?_
        refine aw_callh (hr := [(g7, AObj.cells 88 3 (ofL (dnc x))), (g3, AObj.cells 25 3 (ofL (dgc false d)))]) (ih x.lo b og n (by omega) l0 (by omega) hbn hbr hbl hog) rfl rfl rfl (List.perm_append_comm (l₁ := [(g7, AObj.cells 88 3 (ofL (dnc x))), (g3, AObj.cells 25 3 (ofL (dgc false d)))])) (zL (oj hn_g3 hn_g7)) ?_
        rintro _ _ ⟨og2, n2, hn2, hog2, rfl, rfl⟩ hk2
        refine yS (oj hn_g3 hn_g7) ?_
        refine aw_perm (List.perm_append_comm (l₂ := [(g7, AObj.cells 88 3 (ofL (dnc x))), (g3, AObj.cells 25 3 (ofL (dgc false d)))])) ?_
        refine yG (oj hn_g3 hn_g7) ?_
        refine aw_callh (hr := [(g7, AObj.cells 88 3 (ofL (dnc x))), (g3, AObj.cells 25 3 (ofL (dgc false d)))]) (ih x.hi _ og2 n2 (by omega) q0 (by omega) a1 a2 hn2 hog2) rfl rfl rfl (List.perm_append_comm (l₁ := [(g7, AObj.cells 88 3 (ofL (dnc x))), (g3, AObj.cells 25 3 (ofL (dgc false d)))])) (zL (oj hn_g3 hn_g7)) ?_
        rintro _ _ ⟨og3, n3, hn3, hog3, rfl, rfl⟩ hk3
        refine yS (oj hn_g3 hn_g7) ?_
        refine aw_perm (List.perm_append_comm (l₂ := [(g7, AObj.cells 88 3 (ofL (dnc x))), (g3, AObj.cells 25 3 (ofL (dgc false d)))])) ?_
        refine yG (oj hn_g3 hn_g7) ?_
        refine aw_push (pre := [(g7, AObj.cells 88 3 (ofL (dnc x))), (g3, AObj.cells 25 3 (ofL (dgc false d)))]) rfl rfl rfl rfl rfl rfl rfl (zE (oj hn_g3 hn_g7)) (zE (oj hn_g3 hn_g7)) (by rfl) (by omega) (by omega) (zE (oj hn_g3 hn_g7)) (by omega) (by exact hog3) (zE (oj hn_g3 hn_g7)) (by rfl) (by rfl) (by first | rfl | simp only [Nat.mul_one, List.nil_append, List.cons_append] <;> rfl) (by unfold maxLen; omega) (by omega) (by exact is_push hn3 _) fun g1 hn_g1 => ?_
        replace hn_g1 := Heap.ne_of hn_g1
        first | dsimp only [Heap.ne, gh] at hn_g1 | dsimp only [Heap.ne] at hn_g1 | skip
        refine yS (oj hn_g3 (oj hn_g7 hn_g1)) ?_
        refine yG (oj hn_g3 (oj hn_g7 hn_g1)) ?_
        refine aw_keep [(6, .c (gs (some g1) 1 (n3 + 1)))] (gh (some g1) 3 (n3 + 1) (isF (numF d.nodes k x.hi (numF d.nodes k x.lo b) ++ [r]))) (zB (oj hn_g3 (oj hn_g7 hn_g1))) (List.Sublist.cons _ (List.Sublist.cons _ (List.Sublist.refl _))) ?_
        refine yU (oj hn_g3 (oj hn_g7 hn_g1)) ?_
        exact ⟨some g1, n3 + 1, by simp [hn3], fun e => (by cases e), rfl, rfl⟩
end Go.Proofs.YtcoflhkcpnoaaaaGreat
namespace Go.PN
open Go.AI
theorem numsL_at {n i : Nat} (h : i < n) : (numsL n).getD i 0 = i + 2 := by
  rw [List.getD_eq_getElem?_getD]
  simp [numsL, h]
theorem listZ_ext {xs ys : List Int} (hl : xs.length = ys.length) (h : ∀ j, j < xs.length → xs.getD j 0 = ys.getD j 0) : xs = ys := by
  refine List.ext_getElem hl fun j h1 h2 => ?_
  have := h j h1
  rw [getDZ h1, getDZ h2] at this
  exact this
end Go.PN
namespace Go.Proofs.YtcoflhkcpnoaaaaGreat
open Go.AI Go.PN
attribute [local irreducible] aw Fa Fh DrK
set_option maxRecDepth 100000 in
set_option maxHeartbeats 1600000 in
theorem dcheckR_fa (d : DG) (hl : d.order.length ≤ 1099511627776) (hl2 : d.nodes.length ≤ 1099511627776) : Fa Tryz.prog 15 [.agg (dgc false d)] (.c (.int .i64 (dcode d))) := by
  unfold dcode
  refine fa_of_body Tryz.func15 rfl rfl (by simp [Tryz.ntmps15]) fun C hC => ?_
  simp only [initS, Nat.reduceAdd]
  refine xG ?_
  refine xB fun g1 hn_g1=>?_
  refine yG hn_g1 ?_
  refine yC hn_g1 (ocheckR_fa d.order d.order.length hl) ?_
  refine yG hn_g1 ?_
  refine yF hn_g1 (fun hb=>?_) fun hb=>?_
  · have hb' : ocode d.order d.order.length ≠ 0 := by simpa using hb
    refine yG hn_g1 ?_
    refine yT hC hn_g1 ?_
    exact .one (.c (ler_int (by rw [if_pos hb'])))
  · have hb' : ¬ ocode d.order d.order.length ≠ 0 := by simpa using hb
    rw [if_neg hb']
    refine yG hn_g1 ?_
    refine yF hn_g1 (fun hc=>?_) fun hc=>?_
    · have hc' := of_decide_eq_true hc
      refine yG hn_g1 ?_
      refine yT hC hn_g1 ?_
      exact .one (.c (ler_int (by rw [if_pos (by omega)])))
    · have hc' := of_decide_eq_false hc
      rw [if_neg (by omega)]
      refine yG hn_g1 ?_
      refine aw_lp (fun x : Nat => [(1, .c (.optr g1 0)), (4, .c (.int .i64 x))]) (fun x => [(g1, .cells 25 3 (ofL (dgc false d)))]) (fun x => x ≤ d.nodes.length ∧ (∀ j, j < x → ncode d j = 0) ∧ nfirst d x (d.nodes.length - x) = nfirst d 0 d.nodes.length) (fun x => d.nodes.length - x) 0 (zB hn_g1) zZ ⟨Nat.zero_le _, by omega, rfl⟩ ?_
      rintro i ⟨hi, hz, hf⟩
      refine yG hn_g1 ?_
      refine yF hn_g1 (fun h1=>?_) fun h1=>?_
      · have h1' : i < d.nodes.length := by have := of_decide_eq_true h1; omega
        refine yG hn_g1 ?_
        refine yC hn_g1 (nodeR_fa d i h1' hl hl2) ?_
        refine yG hn_g1 ?_
        refine yF hn_g1 (fun h2=>?_) fun h2=>?_
        · have h2' : ncode d i ≠ 0 := by simpa using h2
          refine yG hn_g1 ?_
          refine yT hC hn_g1 ?_
          rw [nfirst_at h1' h2'] at hf
          exact .one (.c (ler_int (by rw [← hf, if_pos h2'])))
        · have h2' : ncode d i = 0 := by simpa using h2
          refine yG hn_g1 ?_
          rw [nfirst_step h1' h2'] at hf
          refine aw_stop ⟨i + 1, by omega, (zB hn_g1), zZ, by omega, fun j hj => ?_, hf⟩
          rcases Nat.lt_succ_iff_lt_or_eq.1 hj with h | h
          · exact hz j h
          · rw [h]; exact h2'
      · have h1' : i = d.nodes.length := by have := of_decide_eq_false h1; omega
        subst h1'
        have hns := nok_all hz
        rw [Nat.sub_self, nfirst] at hf
        rw [← hf, if_neg (by simp)]
        refine yG hn_g1 ?_
        refine aw_split 37 (zE hn_g1) (fun h3 => ?_) (fun h3 => ?_) <;> refine yS hn_g1 ?_
        · have h3' := of_decide_eq_true h3
          refine yG hn_g1 ?_
          refine yP hn_g1 ?_
          refine yG hn_g1 ?_
          refine yT hC hn_g1 ?_
          exact .one (.c (ler_int (by rw [if_pos (.inl h3')])))
        · have h3' := of_decide_eq_false h3
          refine yG hn_g1 ?_
          refine yF hn_g1 (fun h4=>?_) fun h4=>?_
          · have h4' := of_decide_eq_true h4
            refine yG hn_g1 ?_
            refine yT hC hn_g1 ?_
            exact .one (.c (ler_int (by rw [if_pos (.inr h4')])))
          · have h4' := of_decide_eq_false h4
            rw [if_neg (by omega)]
            refine yG hn_g1 ?_
            refine aw_callh (hr := [(g1, AObj.cells 25 3 (ofL (dgc false d)))]) (number_fh d hns (by omega) d.root.toNat d.root [] none 0 (Nat.le_refl _) (by omega) (by omega) (by simp) (by simp) rfl (fun _ => rfl)) rfl rfl rfl (List.Perm.refl _) (zL hn_g1) ?_
            obtain ⟨a1, a2, a3⟩ := numF_bd hns d.root.toNat d.root [] (by omega) (by simp) (by simp)
            have hnl := nodup_range a1 a2
            generalize numF d.nodes d.root.toNat d.root [] = nl at *
            rintro _ _ ⟨og, n, hn, hog, rfl, rfl⟩ hk2
            subst hn
            refine yS hn_g1 ?_
            refine yH hn_g1 ?_
            refine aw_perm (List.perm_append_comm (l₂ := [(g1, AObj.cells 25 3 (ofL (dgc false d)))])) ?_
            refine aw_frzg (t := 6) (n := nl.length) (s := 1) (e := 3) (f := isF nl) (pre := [(g1, AObj.cells 25 3 (ofL (dgc false d)))]) (zE hn_g1) hog (by simp only [Nat.mul_one]) (fun g e hm => ?_) hC rfl ?_
            · subst e
              exact hk2 g (by simp [Heap.keys, gh]) hm
            refine yS hn_g1 ?_
            refine yG hn_g1 ?_
            refine yF hn_g1 (fun h5=>?_) fun h5=>?_
            · have h5' : ¬ nl.length = d.nodes.length := by have h5 := h5; simp at h5; omega
              refine yG hn_g1 ?_
              refine yT hC hn_g1 ?_
              exact .one (.c (ler_int (by rw [if_neg (fun e => h5' (by rw [e, numsL_len]))])))
            · have h5' : nl.length = d.nodes.length := by have h5 := h5; simp at h5; omega
              refine yG hn_g1 ?_
              refine aw_lp (fun x : Nat => [(6, .c (is true nl)), (7, .c (.int .i64 x))]) (fun x => []) (fun x => x ≤ nl.length ∧ (∀ j, j < x → nl.getD j 0 = j + 2)) (fun x => nl.length - x) 0 (zB hn_g1) (List.nil_sublist _) ⟨Nat.zero_le _, by omega⟩ ?_
              rintro i ⟨hi, hs⟩
              refine yG hn_g1 ?_
              refine yF hn_g1 (fun h6=>?_) fun h6=>?_
              · have h6' : i < nl.length := by have := of_decide_eq_true h6; omega
                refine yG hn_g1 ?_
                refine yF hn_g1 (fun h7=>?_) fun h7=>?_
                · have h7' : ¬ nl.getD i 0 = 2 + (i : Int) := by simpa using h7
                  refine yG hn_g1 ?_
                  refine yT hC hn_g1 ?_
                  exact .one (.c (ler_int (by rw [if_neg (fun e => h7' (by rw [e, numsL_at (by omega)]; omega))])))
                · have h7' : nl.getD i 0 = 2 + (i : Int) := by simpa using h7
                  refine yG hn_g1 ?_
                  refine aw_stop ⟨i + 1, by omega, (zB hn_g1), zZ, by omega, fun j hj => ?_⟩
                  rcases Nat.lt_succ_iff_lt_or_eq.1 hj with h | h
                  · exact hs j h
                  · rw [h, h7']; omega
              · have h6' : i = nl.length := by have := of_decide_eq_false h6; omega
                subst h6'
                refine yG hn_g1 ?_
                refine yT hC hn_g1 ?_
                refine .one (.c (ler_int ?_))
                rw [if_pos (listZ_ext (by rw [numsL_len, h5']) fun j hj => by rw [hs j hj, numsL_at (by omega)])]
end Go.Proofs.YtcoflhkcpnoaaaaGreat
namespace Go.AI
section
variable {E : Env} {K : List It} {σ σ' : Sl} {h : Heap} {all rest : List Oper} {o : Oper}
theorem aw_skipU (hw : wantA all σ o = some false) (hd : dstOk E.N o.dst = true) (k : aw E (.ops all rest :: K) (σ.setO o.dst (.c (.raw undef))) h) : aw E (.ops all (o :: rest) :: K) σ h := fun a w s => by
  show wpList _ _ _ _ _ _
  unfold wpList
  rw [if_neg (by rw [s.wanted hw]; simp)]
  exact k _ _ (s.put hd (r := .c (.raw undef)) rfl)
theorem aw_skipN {j t : Nat} {want : Bool} (hg : o.guard = some (j, want)) (hj : (all[j]?).bind (·.dst) = some t) (ht : σ.get t = .c (.raw undef)) (hd : dstOk E.N o.dst = true) (k : aw E (.ops all rest :: K) (σ.setO o.dst (.c .any)) h) : aw E (.ops all (o :: rest) :: K) σ h := fun a w s => by
  have hnw : Region.wanted o (yielded all.toArray a.tmps) = false := by
    unfold Region.wanted
    rw [hg]
    show (yielded all.toArray a.tmps j == some want) = false
    have hy : yielded all.toArray a.tmps j = none := by
      unfold yielded
      have h1 : ((all.toArray[j]?).bind (·.dst)) = some t := by simpa using hj
      rw [h1]
      have h2 := s.slots t
      rw [ht] at h2
      have h3 : a.tmps.getD t undef = undef := h2
      simp only [Option.bind_some]
      rw [Array.getD_eq_getD_getElem?] at h3
      cases h4 : a.tmps[t]? with
      | none => rfl
      | some v =>
        rw [h4] at h3
        have h5 : v = undef := h3
        subst h5
        rfl
    rw [hy]; rfl
  show wpList _ _ _ _ _ _
  unfold wpList
  rw [if_neg (by rw [hnw]; simp)]
  exact k _ _ (s.put hd (r := .c .any) trivial)
end
end Go.AI

namespace Go.Proofs.YtcoflhkcpnoaaaaGreat
open Go.AI Go.PN Go.ChangeShapes Go.WideShapes Go.RowKit
theorem rdr_dnode : Rdr Tryz.prog 88 (fun r : DN => [CV.int .i64 r.v, .int .i64 r.lo, .int .i64 r.hi]) (fun _ _ => True) := by
  have r := rdr_struct3 Tryz.underlying88 (s0 := 1) (s1 := 1) (s2 := 1) (by kernel_rfl) (by kernel_rfl) (by kernel_rfl) (by kernel_rfl) rfl rfl rfl (rdr_int Tryz.underlying3) (rdr_int Tryz.underlying3) (rdr_int Tryz.underlying3) (fun _ _ _ h _ => h) (fun _ _ _ h _ => h) (fun _ _ _ h _ => h)
  exact r.to (fun y => ⟨y.1, y.2.1, y.2.2⟩) (fun _ => rfl) (fun _ _ _ => trivial)
theorem rdr_dnodes : Rdr Tryz.prog 23 (fun p : List DN => [dns false p]) (fun p n => p.length ≤ n) :=
  (rdr_slice dn0 false Tryz.underlying23 (s := 3) (by kernel_rfl) (by omega) (fun _ _ _ h _ => h) rdr_dnode).to id (fun _ => rfl) (fun _ _ h => h.1)
theorem rdr_diagram : Rdr Tryz.prog 25 (fun d : DG => dgc false d) (fun d n => d.order.length ≤ n ∧ d.nodes.length ≤ n) := by
  have r := rdr_struct3 Tryz.underlying25 (s0 := 1) (s1 := 1) (s2 := 1) (by kernel_rfl) (by kernel_rfl) (by kernel_rfl) (by kernel_rfl) rfl rfl rfl rdr_ints rdr_dnodes (rdr_int Tryz.underlying3) (fun _ _ _ h hm => ⟨Nat.le_trans h.1 hm, h.2⟩) (fun _ _ _ h hm => Nat.le_trans h hm) (fun _ _ _ h _ => h)
  exact r.to (fun y => ⟨y.1, y.2.1, y.2.2⟩) (fun _ => rfl) (fun _ _ h => ⟨h.1.1, h.2.1⟩)
end Go.Proofs.YtcoflhkcpnoaaaaGreat
namespace Go.PN
open Go.AI
def addZ : Nat → List DN → List Nat → Nat → List DN × Int
  | 0, os, l, _ => if l = [] then (os, 0) else (os, 1)
  | k + 1, os, l, v => if l = [] then (os, 0) else
      mkZ (addZ k (addZ k os (l.filter fun s => !s.testBit v) (v + 1)).1 (l.filter fun s => s.testBit v) (v + 1)).1 v (addZ k os (l.filter fun s => !s.testBit v) (v + 1)).2 (addZ k (addZ k os (l.filter fun s => !s.testBit v) (v + 1)).1 (l.filter fun s => s.testBit v) (v + 1)).2
theorem high_zero (s : Nat) : highN 0 s = s := by unfold highN; simp
theorem mem_ne {n : Nat} {ns : List DN} (h : ZTab n ns) : ∀ r, RefOk ns r → r ≠ 0 → ∃ s, memZ ns r s = true := by
  refine h.ind (fun r h0 h1 hne => ⟨0, by rw [mem_leaf h1, decide_eq_true (show r = 1 by omega)]; rfl⟩) fun r h2 hr il ih _ => ?_
  have hi : (r - 2).toNat < ns.length := by unfold RefOk at hr; omega
  obtain ⟨k1, k2⟩ := h.kids hi
  obtain ⟨s, hs⟩ := ih (h _ hi).hi
  have hb := (h _ hi).bh
  refine ⟨s ^^^ 2 ^ (ns.getD (r - 2).toNat dn0).v.toNat, ?_⟩
  have hsb : s.testBit (ns.getD (r - 2).toNat dn0).v.toNat = false := by
    cases hq : s.testBit (ns.getD (r - 2).toNat dn0).v.toNat
    · rfl
    · have := mem_bits h _ k2 s hs _ hq
      have := (h _ hi).nk.v0
      omega
  rw [mem_step h h2 hr, if_pos (by rw [xor_bit, hsb]; simp), Nat.xor_assoc, Nat.xor_self, Nat.xor_zero]
  exact hs
theorem high_split {v s t : Nat} : highN (v + 1) s = t ↔ (highN v s = if s.testBit v then t ^^^ 2 ^ v else t) ∧ t.testBit v = false := by
  constructor
  · rintro rfl
    have hv : (highN (v + 1) s).testBit v = false := by rw [high_bit, decide_eq_false (by omega)]; rfl
    refine ⟨Nat.eq_of_testBit_eq fun j => ?_, hv⟩
    rw [high_bit]
    by_cases e : v = j
    · subst e
      cases hb : s.testBit v
      · simp [hv]
      · simp [xor_bit, hv]
    · cases hb : s.testBit v
      · simp only [Bool.false_eq_true, if_false, high_bit]
        by_cases hj : v ≤ j
        · rw [decide_eq_true hj, decide_eq_true (show v + 1 ≤ j by omega)]
        · rw [decide_eq_false hj, decide_eq_false (show ¬ v + 1 ≤ j by omega)]
      · simp only [if_true]
        rw [xor_ne e, high_bit]
        by_cases hj : v ≤ j
        · rw [decide_eq_true hj, decide_eq_true (show v + 1 ≤ j by omega)]
        · rw [decide_eq_false hj, decide_eq_false (show ¬ v + 1 ≤ j by omega)]
  · rintro ⟨h1, h2⟩
    refine Nat.eq_of_testBit_eq fun j => ?_
    have h3 := congrArg (fun x => x.testBit j) h1
    simp only [high_bit] at h3
    rw [high_bit]
    by_cases e : v = j
    · subst e; rw [h2, decide_eq_false (by omega)]; rfl
    · have h4 : (if s.testBit v = true then t ^^^ 2 ^ v else t).testBit j = t.testBit j := by
        split
        · exact xor_ne e
        · rfl
      rw [h4] at h3
      rw [← h3]
      by_cases hj : v ≤ j
      · rw [decide_eq_true hj, decide_eq_true (show v + 1 ≤ j by omega)]
      · rw [decide_eq_false hj, decide_eq_false (show ¬ v + 1 ≤ j by omega)]
theorem addZ_run {ns : List DN} (ht : ZTab 24 ns) : ∀ (k v : Nat) (l : List Nat) (r : Int) (rs : List Int) (os : List DN), v + k = 24 → RefOk ns r → (v : Int) ≤ evZ 24 ns r → (∀ t, memZ ns r t = true ↔ ∃ s ∈ l, highN v s = t) → ExOk ns rs os →
    ∃ rs', ZEx 24 ns rs os rs' (addZ k os l v).1 r (addZ k os l v).2
  | 0, v, l, r, rs, os, hk, hr, hv, hm, hx => by
    have hr2 : r < 2 := by
      refine Classical.byContradiction fun h => ?_
      have := (evZ_le ht hr).2.2 (by omega)
      omega
    rw [addZ]
    by_cases hl : l = []
    · subst hl
      rw [if_pos rfl]
      have : r = 0 := by
        refine Classical.byContradiction fun h => ?_
        obtain ⟨s, hs⟩ := mem_ne ht r hr h
        obtain ⟨_, h1, _⟩ := (hm s).1 hs
        cases h1
      subst this
      exact ⟨rs, zex_same hx rfl⟩
    · rw [if_neg hl]
      obtain ⟨s, hs⟩ := List.exists_mem_of_ne_nil l hl
      have := (hm _).2 ⟨s, hs, rfl⟩
      rw [mem_leaf (by omega)] at this
      simp only [Bool.and_eq_true, decide_eq_true_eq] at this
      rw [this.1]
      exact ⟨rs, zex_same hx rfl⟩
  | k + 1, v, l, r, rs, os, hk, hr, hv, hm, hx => by
    rw [addZ]
    by_cases hl : l = []
    · subst hl
      rw [if_pos rfl]
      have : r = 0 := by
        refine Classical.byContradiction fun h => ?_
        obtain ⟨s, hs⟩ := mem_ne ht r hr h
        obtain ⟨_, h1, _⟩ := (hm s).1 hs
        cases h1
      subst this
      exact ⟨rs, zex_same hx rfl⟩
    rw [if_neg hl]
    have kz := kidsZ_ok ht hr (v := v) (by omega) (by omega) hv
    have hml : ∀ t, memZ ns (kidsZ 24 ns r v).1 t = true ↔ ∃ s ∈ l.filter (fun s => !s.testBit v), highN (v + 1) s = t := fun t => by
      constructor
      · intro h
        have hb : t.testBit v = false := by
          cases hq : t.testBit v
          · rfl
          · have := mem_bits ht _ kz.ra t h _ hq; have := kz.ea; omega
        have := kz.mem t
        rw [Int.toNat_natCast, hb, if_neg (by simp), h] at this
        obtain ⟨s, s1, s2⟩ := (hm t).1 this
        have sb : s.testBit v = false := by
          have := high_bit v s v
          rw [s2, hb] at this
          simpa using this.symm
        exact ⟨s, List.mem_filter.2 ⟨s1, by simp [sb]⟩, high_split.2 ⟨by rw [sb, if_neg (by simp)]; exact s2, hb⟩⟩
      · rintro ⟨s, s1, s2⟩
        obtain ⟨s3, s4⟩ := List.mem_filter.1 s1
        obtain ⟨h1, h2⟩ := high_split.1 s2
        have sb : s.testBit v = false := by simpa using s4
        rw [sb, if_neg (by simp)] at h1
        have := (hm t).2 ⟨s, s3, h1⟩
        rwa [kz.mem, Int.toNat_natCast, h2, if_neg (by simp)] at this
    have hmh : ∀ t, memZ ns (kidsZ 24 ns r v).2 t = true ↔ ∃ s ∈ l.filter (fun s => s.testBit v), highN (v + 1) s = t := fun t => by
      constructor
      · intro h
        have hb : t.testBit v = false := by
          cases hq : t.testBit v
          · rfl
          · have := mem_bits ht _ kz.rb t h _ hq; have := kz.eb; omega
        have := kz.mem (t ^^^ 2 ^ v)
        rw [Int.toNat_natCast, if_pos (by rw [xor_bit, hb]; simp), Nat.xor_assoc, Nat.xor_self, Nat.xor_zero, h] at this
        obtain ⟨s, s1, s2⟩ := (hm _).1 this
        have sb : s.testBit v = true := by
          have := high_bit v s v
          rw [s2, xor_bit, hb] at this
          simpa using this.symm
        exact ⟨s, List.mem_filter.2 ⟨s1, sb⟩, high_split.2 ⟨by rw [sb, if_pos rfl]; exact s2, hb⟩⟩
      · rintro ⟨s, s1, s2⟩
        obtain ⟨s3, s4⟩ := List.mem_filter.1 s1
        obtain ⟨h1, h2⟩ := high_split.1 s2
        rw [s4, if_pos rfl] at h1
        have := (hm _).2 ⟨s, s3, h1⟩
        rwa [kz.mem, Int.toNat_natCast, if_pos (by rw [xor_bit, h2]; simp), Nat.xor_assoc, Nat.xor_self, Nat.xor_zero] at this
    have ih := addZ_run ht k (v + 1)
    obtain ⟨rs1, x1⟩ := ih _ _ rs os (by omega) kz.ra (by have := kz.ea; omega) hml hx
    obtain ⟨rs2, x2⟩ := ih _ _ rs1 _ (by omega) kz.rb (by have := kz.eb; omega) hmh x1.ok
    generalize addZ k os (l.filter fun s => !s.testBit v) (v + 1) = A at *
    generalize addZ k A.1 (l.filter fun s => s.testBit v) (v + 1) = B at *
    by_cases he : evZ 24 ns r = v
    · have h2 : 2 ≤ r := ev_two ht hr (by omega)
      have hi : (r - 2).toNat < ns.length := by unfold RefOk at hr; omega
      have hkz : kidsZ 24 ns r v = ((ns.getD (r - 2).toNat dn0).lo, (ns.getD (r - 2).toNat dn0).hi) := by unfold kidsZ; rw [if_neg (by simpa using he)]
      rw [evZ_node h2] at he
      rw [hkz] at x1 x2
      dsimp only at x1 x2
      have hb0 : B.2 ≠ 0 := fun e => by
        have := x2.ref
        rw [e] at this
        exact (ht _ hi).hi (exR_inj this (show exR rs2 0 = some 0 from rfl))
      unfold mkZ
      rw [if_neg hb0]
      cases hex : exR rs r with
      | some x =>
        obtain ⟨j, hj, er, rfl⟩ := hx.find h2 hex
        obtain ⟨lo, hi', e1, e2, e3⟩ := hx.node j hj
        rw [er] at e1 e2 e3
        have d1 := x1.run.det (.same (exR_take e1))
        obtain ⟨rfl, hA, hA2⟩ := d1
        rw [hA] at x2
        have d2 := x2.run.det (.same (exR_take e2))
        obtain ⟨rfl, hB, hB2⟩ := d2
        rw [hB, hA2, hB2]
        have hmem : (⟨(v : Int), lo, hi'⟩ : DN) ∈ os := by
          rw [← he, ← e3]
          rw [List.getD_eq_getElem?_getD, List.getElem?_eq_getElem (by rw [hx.len]; exact hj)]
          exact List.getElem_mem _
        cases hf : findN ⟨(v : Int), lo, hi'⟩ os 0 with
        | none => exact absurd hmem (findN_none hf)
        | some i =>
          obtain ⟨_, i2, i3⟩ := findN_some hf
          rw [Nat.sub_zero] at i3
          have hl := hx.len
          have : i = j := hx.inj ht (by omega) hj (by rw [i3, e3, he])
          subst this
          exact ⟨_, zex_same hx hex⟩
      | none =>
        have hnew : r ∉ rs := fun hmm => by
          unfold exR at hex
          rw [if_neg (by omega), if_pos hmm] at hex
          cases hex
        obtain ⟨hout, z⟩ := zex_node ht h2 hr.2 hnew x1 x2
        have hl := x2.ok.len
        cases hf : findN ⟨(v : Int), A.2, B.2⟩ B.1 0 with
        | some i =>
          obtain ⟨_, i2, i3⟩ := findN_some hf
          rw [Nat.sub_zero] at i3
          -- then the node would be out
          exfalso
          obtain ⟨lo, hi', f1, f2, f3⟩ := x2.ok.node i (by omega)
          rw [i3] at f3
          injection f3 with ev el eh
          have hrl : exR rs2 (ns.getD (r - 2).toNat dn0).lo = some A.2 := by
            obtain ⟨zs, ez⟩ := x2.pre
            rw [ez]; exact exR_app x1.ref
          have q1 := exR_inj (exR_take f1) (by rw [← el]; exact hrl)
          have q2 := exR_inj (exR_take f2) (by rw [← eh]; exact x2.ref)
          have hb := x2.ok.ref (show i < rs2.length by omega)
          have same : ns.getD (rs2.getD i 0 - 2).toNat dn0 = ns.getD (r - 2).toNat dn0 := by
            cases hA : ns.getD (rs2.getD i 0 - 2).toNat dn0
            cases hB : ns.getD (r - 2).toNat dn0
            rw [hA, hB] at q1 q2
            rw [hA] at ev
            rw [hB] at he
            dsimp only at q1 q2 ev he
            rw [q1, q2, ← ev, he]
          have hik : (rs2.getD i 0 - 2).toNat < ns.length := by omega
          have hrr : rs2.getD i 0 = r := by
            refine Classical.byContradiction fun hne => ?_
            rcases Nat.lt_or_gt_of_ne (show (rs2.getD i 0 - 2).toNat ≠ (r - 2).toNat from fun e => hne (by omega)) with hl | hl
            · refine (ht _ hi).new ?_
              rw [← same]
              exact take_memN.2 ⟨_, hl, hik, rfl⟩
            · refine (ht _ hik).new ?_
              rw [same]
              exact take_memN.2 ⟨_, hl, hi, rfl⟩
          refine hout ?_
          rw [← hrr, getDZ (by omega)]
          exact List.getElem_mem _
        | none =>
          rw [he] at z
          refine ⟨rs2 ++ [r], ?_⟩
          rw [show (2 : Int) + (B.1.length : Int) = (rs2.length : Int) + 2 from by omega]
          exact z
    · have hkz : kidsZ 24 ns r v = (r, 0) := by unfold kidsZ; rw [if_pos he]
      rw [hkz] at x1 x2
      dsimp only at x1 x2
      have d2 := x2.run.det (.same (show exR rs1 0 = some 0 from rfl))
      obtain ⟨rfl, hB, hB2⟩ := d2
      unfold mkZ
      rw [if_pos hB2, hB]
      exact ⟨rs2, x1⟩
theorem addZ_out {n : Nat} {F : Nat → Bool} {z : ZD} (h : ZOut n F z) (hn : n ≤ 24) {l : List Nat} (hl : ∀ s, F s = true ↔ s ∈ l) : addZ 24 [] l 0 = (z.nodes, z.root) := by
  have ht := h.tab.mono hn
  obtain ⟨rs, x⟩ := addZ_run ht 24 0 l z.root [] [] rfl h.ref (evZ_le ht h.ref).1 (fun t => by
    rw [h.mem, hl]
    constructor
    · exact fun e => ⟨t, e, high_zero t⟩
    · rintro ⟨s, h1, h2⟩
      rw [high_zero] at h2
      subst h2; exact h1) (ExOk.nil _)
  obtain ⟨rs', h'⟩ := h.again
  obtain ⟨_, e1, e2⟩ := x.run.det h'
  exact Prod.ext e1 e2
end Go.PN
namespace Go.AI
section
variable {E : Env} {K : List It} {σ σ' : Sl} {h : Heap}
theorem aw_frzGT {t s n n' : Nat} {og : Option Nat} {ty : TypeId} {f f' : Nat → CV} (hog : og = none → n = 0) (hnn : n = n') (ht : σ.get t = .c (gs og s n)) (hn : ∀ g, og = some g → ¬ E.C.own0 g) (hf : ∀ j, j < n * s → f j = f' j) (hσ : σ.set t (.c (.row true s n' f')) = σ') (k : aw E K σ' h) : aw E K σ (gh og ty (n * s) f ++ h) := by
  subst hnn
  cases og with
  | none =>
    have h0 := hog rfl
    subst h0
    refine aw_conv (t := t) (v := .c (.row true s 0 f')) (fun S w u hr => ?_) hσ k
    rw [ht] at hr
    exact repC_nil hr
  | some g =>
    refine aw_frzT (t := t) (g := g) (s := s) (off := 0) (n := n) (m := n * s) (ty := ty) (f := f) f' ht ?_ (by omega) (hn g rfl) (fun j hj => by rw [Nat.zero_add]; exact hf j hj) hσ ?_ k
    · show Heap.get ((g, _) :: h) g = _
      simp [Heap.get]
    · show Heap.del ((g, _) :: h) g = _
      simp [Heap.del]
end
end Go.AI
namespace Go.PN
open Go.AI
theorem keysR {A B : Heap} (h : (A ++ B).keys.Nodup) : B.keys.Nodup := ((List.sublist_append_right A B).map _).nodup h
end Go.PN
namespace Go.Proofs.YtcoflhkcpnoaaaaGreat
open Go.AI Go.PN
attribute [local irreducible] aw Fa Fh DrK
set_option maxRecDepth 100000 in
set_option maxHeartbeats 1600000 in
theorem cnat_err (d : DG) (h0 : ¬ dcode d = 0) (hl : d.order.length ≤ 1099511627776) (hl2 : d.nodes.length ≤ 1099511627776) : Fh Tryz.prog 42 [] [.agg (dgc false d)] (fun x h => x = .tup [.c (.raw (.pointer none)), .c (.int .i64 0), .c (errA (dcode d))] ∧ h = []) := by
  have z0 := ieq_f h0
  refine fh_of_body Tryz.func42 rfl rfl (by simp [Tryz.ntmps42]) fun C hC => ?_
  simp only [initS, Nat.reduceAdd]
  refine yG z0 ?_
  refine yB z0 fun g1 hn_g1=>?_
  refine yG (oj z0 hn_g1) ?_
  refine aw_callq (dcheck_fa d hl hl2) rfl rfl rfl (zL (oj z0 hn_g1)) ?_
  refine yS (oj z0 hn_g1) ?_
  refine yG (oj z0 hn_g1) ?_
  refine yP (oj z0 hn_g1) ?_
  refine yG (oj z0 hn_g1) ?_
  refine aw_rethw (h' := []) rfl (List.nil_sublist _) (fun R hR => ?_)
  simp only [go_sem, z0, hn_g1]
  refine hR _ rfl ?_
  clear hR R
  exact ⟨rfl, rfl⟩
set_option maxRecDepth 100000 in
set_option maxHeartbeats 1600000 in
theorem csol_err (d : DG) (h0 : ¬ dcode d = 0) (hl : d.order.length ≤ 1099511627776) (hl2 : d.nodes.length ≤ 1099511627776) : Fh Tryz.prog 13 [] [.agg (dgc false d)] (fun x h => x = .tup [.agg [.nils, .int .i64 0], .c (errA (dcode d))] ∧ h = []) := by
  have z0 := ieq_f h0
  refine fh_of_body Tryz.func13 rfl rfl (by simp [Tryz.ntmps13]) fun C hC => ?_
  simp only [initS, Nat.reduceAdd]
  refine yG z0 ?_
  refine yB z0 fun g1 hn_g1=>?_
  refine yG (oj z0 hn_g1) ?_
  refine yA (oj z0 hn_g1) fun g2 hn_g2=>?_
  refine yG (oj z0 (oj hn_g1 hn_g2)) ?_
  refine aw_callh (hc := []) (hr := [(g2, .cells 33 2 (ofL [.nils, .int .i64 0])), (g1, .cells 25 3 (ofL (dgc false d)))]) (cnat_err d h0 hl hl2) rfl rfl rfl (.refl _) (zL (oj z0 (oj hn_g1 hn_g2))) ?_
  rintro _ _ ⟨rfl, rfl⟩ _
  refine yS (oj z0 (oj hn_g1 hn_g2)) ?_
  refine yG (oj z0 (oj hn_g1 hn_g2)) ?_
  refine yP (oj z0 (oj hn_g1 hn_g2)) ?_
  refine yG (oj z0 (oj hn_g1 hn_g2)) ?_
  refine yW (oj z0 (oj hn_g1 hn_g2)) ?_
  refine yS (oj z0 (oj hn_g1 hn_g2)) ?_
  refine yG (oj z0 (oj hn_g1 hn_g2)) ?_
  refine aw_rethw (h' := []) rfl (List.nil_sublist _) (fun R hR => ?_)
  simp only [go_sem, z0, hn_g1, hn_g2]
  refine hR _ rfl ?_
  clear hR R
  exact ⟨rfl, rfl⟩
end Go.Proofs.YtcoflhkcpnoaaaaGreat
namespace Go.Proofs.YtcoflhkcpnoaaaaGreat
open Go.AI Go.PN
attribute [local irreducible] aw Fa Fh DrK
set_option maxHeartbeats 1600000 in
theorem profR_fa (l : List Nat) (n : Nat) (hn : n ≤ 24) (hl : l.length ≤ 68719476736) (hm : ∀ x ∈ l, x < 16777216 ∧ popN x ≤ n) : Fa Tryz.prog 22 [.c (is false (zL l)), .c (.int .i64 n)] (.c (is true (profN l n))) := by
  have hzl := zL_len l
  refine fa_of_body Tryz.func22 rfl rfl (by simp [Tryz.ntmps22]) fun C hC => ?_
  simp only [initS, Nat.reduceAdd]
  refine xG ?_
  refine aw_make (n := n + 1) (c := n + 1) (size := 1) (z := [.int .i64 0]) rfl rfl rfl eE eE rfl (by omega) eE eE (by omega) (by omega) (by omega) (by omega) (by omega) fun g hg => ?_
  rw [make_is (n + 1)]
  refine xS ?_
  refine xG ?_
  refine aw_lp (fun x : Nat × List Int => [(0, .c (is false (zL l))), (5, .c (.osl g 1 0 (n + 1))), (6, .c (.int .i64 x.1))]) (fun x => [(g, .cells 3 (n + 1) (isF x.2))])
    (fun x => x.1 ≤ l.length ∧ x.2.length = n + 1 ∧ ∀ j, j < n + 1 → x.2.getD j 0 = (cntJ (l.take x.1) j : Nat)) (fun x => l.length - x.1) (0, List.replicate (n + 1) 0) eB zZ ⟨Nat.zero_le _, by simp, fun k hk => by
    have e : (List.replicate (n + 1) (0 : Int)).getD k 0 = 0 := by rw [List.getD_eq_getElem?_getD, List.getElem?_replicate]; split <;> rfl
    rw [e]; rfl⟩ ?_
  rintro ⟨i, zs⟩ ⟨hi, hzl2, hz⟩
  dsimp only at hi hzl2 hz ⊢
  refine yG hzl ?_
  refine yF hzl (fun h1=>?_) fun h1=>?_
  · have hin : i < l.length := by have := of_decide_eq_true h1; omega
    have hx := hm (l.getD i 0) (by rw [List.getD_eq_getElem?_getD, List.getElem?_eq_getElem hin]; exact List.getElem_mem _)
    have e1 := zL_get l i
    have hc := cntJ_le (l.take i) (popN (l.getD i 0))
    rw [List.length_take] at hc
    have e2 := hz (popN (l.getD i 0)) (by omega)
    refine yG (oj hzl (oj e1 e2)) ?_
    refine yC (oj hzl (oj e1 e2)) (bitsR_fa (l.getD i 0) hx.1) ?_
    refine yG (oj hzl (oj e1 e2)) ?_
    refine yW (oj hzl (oj e1 e2)) ?_
    refine yS (oj hzl (oj e1 e2)) ?_
    rw [updF_is (by omega)]
    refine yG (oj hzl (oj e1 e2)) ?_
    refine aw_stop ⟨(i + 1, zs.set (popN (l.getD i 0)) ((cntJ (l.take i) (popN (l.getD i 0)) : Int) + 1)), by dsimp only; omega, (zB (oj hzl (oj e1 e2))), zZ, by dsimp only; omega, by simpa using hzl2, fun j hj => ?_⟩
    dsimp only at hj ⊢
    rw [ltake hin, cntJ_snoc]
    by_cases e : j = popN (l.getD i 0)
    · subst e; rw [getZset (by omega), if_pos rfl]; omega
    · rw [getZset' e, hz j hj, if_neg (fun h => e h.symm)]; omega
  · have hin : i = l.length := by have := of_decide_eq_false h1; omega
    subst hin
    refine yG hzl ?_
    refine yT hC hzl ?_
    rw [List.take_length] at hz
    rw [← prof_end hzl2 hz]
    exact .one (.c (ler_oslis (zE hzl) hzl2.symm))
end Go.Proofs.YtcoflhkcpnoaaaaGreat
namespace Go.PN
open Go.AI Go.Proofs.YtcoflhkcpnoaaaaGreat
def sameZ (a b : ZD) : Bool := decide (a.nodes = b.nodes ∧ a.root = b.root)
end Go.PN
namespace Go.Proofs.YtcoflhkcpnoaaaaGreat
open Go.AI Go.PN
attribute [local irreducible] aw Fa Fh DrK
set_option maxHeartbeats 1600000 in
theorem sameR_fa (a b : ZD) (hl : a.nodes.length ≤ 68719476736) (hl2 : b.nodes.length ≤ 68719476736) : Fa Tryz.prog 19 [.agg (zdc false a), .agg (zdc false b)] (.c (.bool (sameZ a b))) := by
  unfold sameZ
  refine fa_of_body Tryz.func19 rfl rfl (by simp [Tryz.ntmps19]) fun C hC => ?_
  simp only [initS, Nat.reduceAdd]
  refine xG ?_
  refine xB fun g2 hn_g2=>?_
  refine yG hn_g2 ?_
  refine yB hn_g2 fun g3 hn_g3=>?_
  refine yG (oj hn_g2 hn_g3) ?_
  have z1 : a.root = b.root ∨ ¬ a.root = b.root := Classical.em _
  rcases z1 with z1 | z1
  · have y1 := ieq_t z1
    have z2 : (a.nodes.length : Int) = b.nodes.length ∨ ¬ (a.nodes.length : Int) = b.nodes.length := Classical.em _
    rcases z2 with z2 | z2
    · have y2 := ieq_t z2
      have z2' : a.nodes.length = b.nodes.length := by omega
      refine yG (oj hn_g2 (oj hn_g3 (oj y1 y2))) ?_
      refine yN (oj hn_g2 (oj hn_g3 (oj y1 y2))) ?_
      refine yG (oj hn_g2 (oj hn_g3 (oj y1 y2))) ?_
      refine aw_lp (fun i : Nat => [(2, .c (.optr g2 0)), (3, .c (.optr g3 0)), (5, .c (.int .i64 i))]) (fun _ => [(g3, .cells 33 2 (ofL (zdc false b))), (g2, .cells 33 2 (ofL (zdc false a)))]) (fun i => i ≤ a.nodes.length ∧ ∀ j, j < i → a.nodes.getD j dn0 = b.nodes.getD j dn0) (fun i => a.nodes.length - i) 0 (zB (oj hn_g2 (oj hn_g3 (oj y1 y2)))) zZ ⟨Nat.zero_le _, fun j hj => by omega⟩ ?_
      rintro i ⟨hi, hs⟩
      refine yG (oj hn_g2 (oj hn_g3 (oj y1 y2))) ?_
      refine yF (oj hn_g2 (oj hn_g3 (oj y1 y2))) (fun h1=>?_) fun h1=>?_
      · have hin : i < a.nodes.length := by have := of_decide_eq_true h1; omega
        refine yG (oj hn_g2 (oj hn_g3 (oj y1 y2))) ?_
        refine aw_dr 11 ty_mixed (by kernel_rfl) ?_
        refine yG (oj hn_g2 (oj hn_g3 (oj y1 y2))) ?_
        refine yF (oj hn_g2 (oj hn_g3 (oj y1 y2))) (fun h2=>?_) fun h2=>?_
        · have h2' : ¬ a.nodes.getD i dn0 = b.nodes.getD i dn0 := by
            rw [eqDN] at h2
            simpa using h2
          refine yG (oj hn_g2 (oj hn_g3 (oj y1 y2))) ?_
          refine yT hC (oj hn_g2 (oj hn_g3 (oj y1 y2))) ?_
          exact .one (.c (ler_bool (by rw [decide_eq_false]; rintro ⟨h, _⟩; exact h2' (by rw [h]))))
        · have h2' : a.nodes.getD i dn0 = b.nodes.getD i dn0 := by
            rw [eqDN] at h2
            simpa using h2
          refine yG (oj hn_g2 (oj hn_g3 (oj y1 y2))) ?_
          refine aw_stop ⟨i + 1, by omega, (zB (oj hn_g2 (oj hn_g3 (oj y1 y2)))), zZ, by omega, fun j hj => ?_⟩
          by_cases e : j = i
          · subst e; exact h2'
          · exact hs j (by omega)
      · have hin : i = a.nodes.length := by have := of_decide_eq_false h1; omega
        subst hin
        refine yG (oj hn_g2 (oj hn_g3 (oj y1 y2))) ?_
        refine yT hC (oj hn_g2 (oj hn_g3 (oj y1 y2))) ?_
        exact .one (.c (ler_bool (by rw [decide_eq_true]; exact ⟨dn_ext z2' hs, z1⟩)))
    · have y2 := ieq_f z2
      refine yG (oj hn_g2 (oj hn_g3 (oj y1 y2))) ?_
      refine yP (oj hn_g2 (oj hn_g3 (oj y1 y2))) ?_
      refine yG (oj hn_g2 (oj hn_g3 (oj y1 y2))) ?_
      refine yT hC (oj hn_g2 (oj hn_g3 (oj y1 y2))) ?_
      exact .one (.c (ler_bool (by rw [decide_eq_false]; rintro ⟨h, _⟩; exact z2 (by rw [h]))))
  · have y1 := ieq_f z1
    refine yG (oj hn_g2 (oj hn_g3 y1)) ?_
    refine yP (oj hn_g2 (oj hn_g3 y1)) ?_
    refine yG (oj hn_g2 (oj hn_g3 y1)) ?_
    refine yT hC (oj hn_g2 (oj hn_g3 y1)) ?_
    exact .one (.c (ler_bool (by rw [decide_eq_false]; rintro ⟨_, h⟩; exact z1 h)))
end Go.Proofs.YtcoflhkcpnoaaaaGreat
