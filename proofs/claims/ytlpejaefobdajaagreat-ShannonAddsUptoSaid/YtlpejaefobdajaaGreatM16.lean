/- Texts of one proof, laid one behind the other by a program (merge.py): PSum, Shan2, POrd, Ord, Dia1. -/
import Derived.Test.YtlpejaefobdajaaGreatM15
import Derived.Test.YtlpejaefobdajaaGreatM02
set_option linter.unusedSimpArgs false
set_option linter.unusedVariables false
/- The values of a diagram's function, and the sum over its true states. No program in sight. -/
namespace Go.PN
open Go.AI
def evalF (ns : List DN) (s : Nat) : Nat → Int → Bool
  | 0, r => decide (r = 1)
  | k + 1, r => if r ≤ 1 then decide (r = 1) else evalF ns s k (if s.testBit (ns.getD (r - 2).toNat dn0).v.toNat then (ns.getD (r - 2).toNat dn0).hi else (ns.getD (r - 2).toNat dn0).lo)
/-- The value of a reference in a state. -/
def evalD (ns : List DN) (s : Nat) (r : Int) : Bool := evalF ns s r.toNat r
/-- Each node looks back. -/
def NsOk (m : Nat) (ns : List DN) : Prop := ∀ i, i < ns.length → NodeOk m i (ns.getD i dn0)
def kid (ns : List DN) (s : Nat) (r : Int) : Int := if s.testBit (ns.getD (r - 2).toNat dn0).v.toNat then (ns.getD (r - 2).toNat dn0).hi else (ns.getD (r - 2).toNat dn0).lo
theorem kid_lt {m : Nat} {ns : List DN} (h : NsOk m ns) {s : Nat} {r : Int} (h2 : 2 ≤ r) (hr : r < ns.length + 2) : 0 ≤ kid ns s r ∧ kid ns s r < r := by
  have := h (r - 2).toNat (by omega)
  obtain ⟨_, _, l0, l1, h0, h1⟩ := this
  unfold kid
  split <;> omega
theorem evalF_fuel {m : Nat} {ns : List DN} (h : NsOk m ns) {s : Nat} : ∀ (k : Nat) (r : Int), 0 ≤ r → r < ns.length + 2 → r.toNat ≤ k → evalF ns s k r = evalF ns s r.toNat r
  | 0, r, h0, _, hk => by rw [show r.toNat = 0 from by omega]
  | k + 1, r, h0, hr, hk => by
    by_cases h1 : r ≤ 1
    · rw [evalF, if_pos h1]
      cases hrn : r.toNat with
      | zero => rfl
      | succ j => rw [evalF, if_pos h1]
    · obtain ⟨j, hj⟩ : ∃ j, r.toNat = j + 1 := ⟨r.toNat - 1, by omega⟩
      rw [hj, evalF, if_neg h1, evalF, if_neg h1]
      have hkid := kid_lt h (s := s) (by omega) hr
      show evalF ns s k (kid ns s r) = evalF ns s j (kid ns s r)
      rw [evalF_fuel h k _ hkid.1 (by omega) (by omega), evalF_fuel h j _ hkid.1 (by omega) (by omega)]
termination_by k => k
decreasing_by all_goals omega
theorem evalD_leaf {ns : List DN} {s : Nat} {r : Int} (h1 : r ≤ 1) : evalD ns s r = decide (r = 1) := by
  unfold evalD
  cases hrn : r.toNat with
  | zero => rfl
  | succ j => rw [evalF, if_pos h1]
theorem evalD_step {m : Nat} {ns : List DN} (h : NsOk m ns) {s : Nat} {r : Int} (h2 : 2 ≤ r) (hr : r < ns.length + 2) : evalD ns s r = evalD ns s (kid ns s r) := by
  unfold evalD
  obtain ⟨j, hj⟩ : ∃ j, r.toNat = j + 1 := ⟨r.toNat - 1, by omega⟩
  rw [hj, evalF, if_neg (by omega)]
  have hkid := kid_lt h (s := s) h2 hr
  show evalF ns s j (kid ns s r) = _
  exact evalF_fuel h j _ hkid.1 (by omega) (by omega)
/-- The table of a diagram. -/
def tabL (d : DG) : List Bool := (List.range (2 ^ d.order.length)).map fun s => evalD d.nodes s d.root
/-- The probability of a state. -/
def stQ (ps : List RD) (s : Nat) : Rat := wtTo s (2 ^ ps.length - 1 - s) ps ps.length
def sumQ (ps : List RD) (tb : List Bool) : Nat → Rat
  | 0 => 0
  | k + 1 => if tb.getD k false then sumQ ps tb k + stQ ps k else sumQ ps tb k
theorem fits_zero : fits (0 : Rat) 1 := ⟨by simp, by simp⟩
theorem fits_sum {ps : List RD} {tb : List Bool} {L : Nat} (hL : 1 ≤ L) (h : ∀ r ∈ ps, r.wf L) : ∀ k, fits (sumQ ps tb k) (((2 * L + 2) * ps.length + 2) * k + 1)
  | 0 => by rw [Nat.mul_zero, Nat.zero_add]; exact fits_zero
  | k + 1 => by
    have h1 := fits_sum (tb := tb) hL h k
    unfold sumQ
    split
    · refine fits_mono (fits_add h1 (fits_wt hL h _)) ?_
      rw [Nat.mul_add]; omega
    · refine fits_mono h1 ?_
      rw [Nat.mul_add]; omega
theorem shrZ_int (x : Nat) (v : Int) (h0 : 0 ≤ v) (h1 : v ≤ 64) : shrZ .i64 (x : Int) v = ((x / 2 ^ v.toNat : Nat) : Int) := by
  have := shrZ_nat x v.toNat (by omega)
  rwa [show ((v.toNat : Nat) : Int) = v from by omega] at this
theorem pow_lt_63 {n : Nat} (h : n < 63) : 2 ^ n < 9223372036854775808 := by
  have h3 : 2 ^ n < 2 ^ 63 := Nat.pow_lt_pow_right (by omega) h
  have h4 : (2 : Nat) ^ 63 = 9223372036854775808 := by decide
  rw [h4] at h3; exact h3
end Go.PN
namespace Go.AI
section
variable {E : Env} {K : List It} {σ : Sl}
/-- The first block, told otherwise. -/
theorem aw_convR {g n : Nat} {ty : TypeId} {f f' : Nat → CV} {h : Heap} (hf : ∀ j, j < n → ∀ S w u, RepC S w (f j) u → RepC S w (f' j) u) (k : aw E K σ ((g, .cells ty n f') :: h)) : aw E K σ ((g, .cells ty n f) :: h) := fun a w s => by
  refine k a w ⟨s.size, s.defers, s.slots, fun g' o' hm => ?_, s.nodup, s.keys, s.frame⟩
  rcases List.mem_cons.1 hm with e | hm
  · injection e with e1 e2
    subst e1 e2
    obtain ⟨cs, hb, hc, hj⟩ := s.heap _ _ (List.mem_cons_self ..)
    exact ⟨cs, hb, hc, fun j hjl => by obtain ⟨u, hu, hr⟩ := hj j hjl; exact ⟨u, hu, hf j hjl _ _ _ hr⟩⟩
  · exact s.heap g' o' (List.mem_cons_of_mem _ hm)
end
theorem repC_nil {S : Bool → Nat → Prop} {w : World} {u : Value} {t : Bool} {s : Nat} {f : Nat → CV} (h : RepC S w .nils u) : RepC S w (.row t s 0 f) u := by
  obtain ⟨A, hv⟩ := h
  exact ⟨A, 0, hv, Nat.le_refl _, fun h0 => by simp at h0⟩
theorem zero_rd : ∀ j, j < 3 → ∀ S w u, RepC S w (ofL [CV.bool false, .nils, .nils] j) u → RepC S w (ofL [CV.bool (Go.PN.rd 0).neg, ws true (Go.PN.rd 0).num, ws true (Go.PN.rd 0).den] j) u := by
  rw [Go.PN.rd_zero]
  intro j hj S w u h
  match j, hj with
  | 0, _ => exact h
  | 1, _ => exact repC_nil h
  | 2, _ => exact repC_nil h
theorem bs_push {zs : List Bool} {n : Nat} (hn : zs.length = n) (x : Bool) : ∀ j, j < (n + 1) * 1 → appF (bsF zs) (n * 1) (ofL [.bool x]) j = bsF (zs ++ [x]) j := fun j hj => by
  subst hn
  unfold appF
  by_cases h : j < zs.length * 1
  · rw [if_pos h]
    show CV.bool (zs.getD j false) = CV.bool ((zs ++ [x]).getD j false)
    rw [List.getD_eq_getElem?_getD, List.getD_eq_getElem?_getD, List.getElem?_append_left (by omega)]
  · have : j = zs.length := by omega
    subst this
    rw [if_neg h]
    show ofL [CV.bool x] (zs.length - zs.length * 1) = CV.bool ((zs ++ [x]).getD zs.length false)
    rw [Nat.mul_one, Nat.sub_self, List.getD_eq_getElem?_getD, List.getElem?_append_right (Nat.le_refl _), Nat.sub_self]
    rfl
theorem is_push {zs : List Int} {n : Nat} (hn : zs.length = n) (x : Int) : ∀ j, j < (n + 1) * 1 → appF (isF zs) (n * 1) (ofL [.int .i64 x]) j = isF (zs ++ [x]) j := fun j hj => by
  subst hn
  unfold appF
  by_cases h : j < zs.length * 1
  · rw [if_pos h]
    show CV.int .i64 (zs.getD j 0) = CV.int .i64 ((zs ++ [x]).getD j 0)
    rw [List.getD_eq_getElem?_getD, List.getD_eq_getElem?_getD, List.getElem?_append_left (by omega)]
  · have : j = zs.length := by omega
    subst this
    rw [if_neg h]
    show ofL [CV.int .i64 x] (zs.length - zs.length * 1) = CV.int .i64 ((zs ++ [x]).getD zs.length 0)
    rw [Nat.mul_one, Nat.sub_self, List.getD_eq_getElem?_getD, List.getElem?_append_right (Nat.le_refl _), Nat.sub_self]
    rfl
theorem ler_gsb {pre : Heap} {og : Option Nat} {e n : Nat} {t : Bool} {zs : List Bool} (hog : og = none → n = 0) (hn : ∀ g, og = some g → g ∉ pre.keys) (hl : zs.length = n) : LeR (pre ++ gh og e n (bsF zs)) (gs og 1 n) (bs t zs) := by
  subst hl
  have := ler_gs (pre := pre) (og := og) (e := e) (s := 1) (n := zs.length) (t := t) (f := bsF zs) (f' := bsF zs) hog hn (fun j _ => .bool _)
  simpa only [Nat.mul_one] using this
theorem ler_gsi {pre : Heap} {og : Option Nat} {e n : Nat} {t : Bool} {zs : List Int} (hog : og = none → n = 0) (hn : ∀ g, og = some g → g ∉ pre.keys) (hl : zs.length = n) : LeR (pre ++ gh og e n (isF zs)) (gs og 1 n) (is t zs) := by
  subst hl
  have := ler_gs (pre := pre) (og := og) (e := e) (s := 1) (n := zs.length) (t := t) (f := isF zs) (f' := isF zs) hog hn (fun j _ => .int _ _)
  simpa only [Nat.mul_one] using this
end Go.AI

/- faultlineref15: value, Value, Table; faultlineref37: State, Table, Probability. -/
namespace Go.Proofs.YtlpejaefobdajaaGreat
open Go.AI Go.PN
attribute [local irreducible] aw Fa Fh DrK
set_option maxHeartbeats 1600000 in
theorem value15_fa (d : DG) (r0 : Int) (s m : Nat) (hm : m ≤ 62) (hs : s < 9223372036854775808) (hns : NsOk m d.nodes) (h0 : 0 ≤ r0) (h1 : r0 < d.nodes.length + 2) (hl : d.nodes.length ≤ 1000000) :
    Fa Tryz.prog 180 [.agg (dgc false d), .c (.int .i64 r0), .c (.int .i64 s)] (.c (.bool (evalD d.nodes s r0))) := by
  refine fa_of_body Tryz.func180 rfl rfl (by simp [Tryz.ntmps180]) fun C hC => ?_
  simp only [initS, Nat.reduceAdd]
  refine xG ?_
  refine xB fun g3 hn_g3=>?_
  refine yG hn_g3 ?_
  refine aw_lp (fun r : Int => [(1, .c (.int .i64 r)), (2, .c (.int .i64 s)), (3, .c (.optr g3 0))]) (fun _ => [(g3, .cells 25 3 (ofL (dgc false d)))]) (fun r => 0 ≤ r ∧ r < d.nodes.length + 2 ∧ evalD d.nodes s r = evalD d.nodes s r0) (fun r => r.toNat) r0 (zB hn_g3) zZ ⟨h0, h1, rfl⟩ ?_
  rintro r ⟨hr0, hr1, hre⟩
  refine yG hn_g3 ?_
  refine yF hn_g3 (fun hb=>?_) fun hb=>?_
  · have hb' : 2 ≤ r := by have := of_decide_eq_true hb; omega
    obtain ⟨v0, v1, l0, l1, h0', h1'⟩ := hns (r - 2).toNat (by omega)
    have hk := kid_lt hns (s := s) hb' hr1
    rw [evalD_step hns hb' hr1] at hre
    have b1 := shrZ_int s (d.nodes.getD (r - 2).toNat dn0).v v0 (by omega)
    have b2 := and_one_nat (s / 2 ^ (d.nodes.getD (r - 2).toNat dn0).v.toNat) (Nat.lt_of_le_of_lt (Nat.div_le_self _ _) hs)
    have b3 := bit_eq s (d.nodes.getD (r - 2).toNat dn0).v.toNat
    refine yG hn_g3 ?_
    refine yA hn_g3 fun g7 hn_g7=>?_
    refine yG (oj hn_g3 hn_g7) ?_
    refine yW (oj hn_g3 hn_g7) ?_
    refine yS (oj hn_g3 hn_g7) ?_
    refine yG (oj hn_g3 (oj hn_g7 (oj b1 (oj b2 b3)))) ?_
    refine yF (oj hn_g3 (oj hn_g7 (oj b1 (oj b2 b3)))) (fun hc=>?_) fun hc=>?_
    · have hkid : kid d.nodes s r = (d.nodes.getD (r - 2).toNat dn0).hi := by rw [kid, if_pos hc]
      rw [hkid] at hk hre
      refine yG (oj hn_g3 (oj hn_g7 (oj b1 (oj b2 b3)))) ?_
      exact aw_stop ⟨_, by omega, (zB (oj hn_g3 (oj hn_g7 (oj b1 (oj b2 b3))))), List.Sublist.cons _ (List.Sublist.refl _), hk.1, by omega, hre⟩
    · have hkid : kid d.nodes s r = (d.nodes.getD (r - 2).toNat dn0).lo := by rw [kid, if_neg (by rw [hc]; simp)]
      rw [hkid] at hk hre
      refine yG (oj hn_g3 (oj hn_g7 (oj b1 (oj b2 b3)))) ?_
      exact aw_stop ⟨_, by omega, (zB (oj hn_g3 (oj hn_g7 (oj b1 (oj b2 b3))))), List.Sublist.cons _ (List.Sublist.refl _), hk.1, by omega, hre⟩
  · have hb' : r ≤ 1 := by have := of_decide_eq_false hb; omega
    refine yG hn_g3 ?_
    refine yT hC hn_g3 ?_
    refine .one (.c (ler_bool ?_))
    rw [← hre, evalD_leaf hb', Bool.eq_iff_iff]; simp
set_option maxHeartbeats 800000 in
theorem Value15_fa (d : DG) (s m : Nat) (hm : m ≤ 62) (hs : s < 9223372036854775808) (hns : NsOk m d.nodes) (h0 : 0 ≤ d.root) (h1 : d.root < d.nodes.length + 2) (hl : d.nodes.length ≤ 1000000) :
    Fa Tryz.prog 135 [.agg (dgc false d), .c (.int .i64 s)] (.c (.bool (evalD d.nodes s d.root))) := by
  refine fa_of_body Tryz.func135 rfl rfl (by simp [Tryz.ntmps135]) fun C hC => ?_
  simp only [initS, Nat.reduceAdd]
  refine xG ?_
  refine xB fun g2 hn_g2=>?_
  refine yG hn_g2 ?_
  refine yC hn_g2 (value15_fa d d.root s m hm hs hns h0 h1 hl) ?_
  refine yG hn_g2 ?_
  refine yT hC hn_g2 ?_
  exact .one (.c (.bool _))
set_option maxHeartbeats 1600000 in
theorem table15_fa (d : DG) (m : Nat) (hm : m ≤ 62) (hns : NsOk m d.nodes) (h0 : 0 ≤ d.root) (h1 : d.root < d.nodes.length + 2) (hl : d.nodes.length ≤ 1000000) (ho : d.order.length ≤ 30) :
    Fa Tryz.prog 79 [.agg (dgc false d)] (.c (bs true (tabL d))) := by
  have hp30 : 2 ^ d.order.length ≤ 1073741824 := by
    have h3 : 2 ^ d.order.length ≤ 2 ^ 30 := Nat.pow_le_pow_right (by omega) ho
    have h4 : (2 : Nat) ^ 30 = 1073741824 := by decide
    omega
  have e1 := shl_one d.order.length (by omega)
  refine fa_of_body Tryz.func79 rfl rfl (by simp [Tryz.ntmps79]) fun C hC => ?_
  simp only [initS, Nat.reduceAdd]
  refine xG ?_
  refine xB fun g1 hn_g1=>?_
  refine yG hn_g1 ?_
  refine aw_lp (fun x : Option Nat × Nat × List Bool => [(1, .c (.optr g1 0)), (3, .c (gs x.1 1 x.2.1)), (4, .c (.int .i64 x.2.1))]) (fun x => [(g1, .cells 25 3 (ofL (dgc false d)))] ++ gh x.1 4 x.2.1 (bsF x.2.2))
    (fun x => (x.1 = none → x.2.1 = 0) ∧ (∀ g, x.1 = some g → ¬ g = g1) ∧ x.2.1 ≤ 2 ^ d.order.length ∧ x.2.2.length = x.2.1 ∧ x.2.2 = (List.range x.2.1).map (fun s => evalD d.nodes s d.root)) (fun x => 2 ^ d.order.length - x.2.1) (none, 0, []) (zB hn_g1) zZ ⟨fun _ => rfl, (fun g e => by cases e), Nat.zero_le _, rfl, rfl⟩ ?_
  rintro ⟨og, k, zs⟩ ⟨hog, hgn, hk, hzl, hzs⟩
  dsimp only at hog hgn hk hzl hzs ⊢
  refine yS (oj hn_g1 e1) ?_
  refine yG (oj hn_g1 e1) ?_
  refine yF (oj hn_g1 e1) (fun hb=>?_) fun hb=>?_
  · have hin : k < 2 ^ d.order.length := by have := of_decide_eq_true hb; omega
    refine yG (oj hn_g1 e1) ?_
    refine yC (oj hn_g1 e1) (Value15_fa d k m hm ?_ hns h0 h1 hl) ?_
    · omega
    refine yG (oj hn_g1 e1) ?_
    refine aw_push (pre := [(g1, .cells 25 3 (ofL (dgc false d)))]) rfl rfl rfl rfl rfl rfl rfl (zE (oj hn_g1 e1)) (zE (oj hn_g1 e1)) (by rfl) (by omega) (by omega) (zE (oj hn_g1 e1)) (by omega) (by exact hog) (zE (oj hn_g1 e1)) (by rfl) (by rfl) (by first | rfl | simp only [Nat.mul_one, List.nil_append, List.cons_append] <;> rfl) (by unfold maxLen; omega) (by omega) (by exact bs_push hzl _) fun g9 hn_g9 => ?_
    replace hn_g9 := Heap.ne_of hn_g9
    first | dsimp only [Heap.ne, gh] at hn_g9 | dsimp only [Heap.ne] at hn_g9 | skip
    refine yS (oj hn_g1 (oj e1 hn_g9)) ?_
    refine yG (oj hn_g1 (oj e1 hn_g9)) ?_
    refine aw_stop ⟨(some g9, k + 1, zs ++ [evalD d.nodes k d.root]), by dsimp only; omega, (zB (oj hn_g1 (oj e1 hn_g9))), zZ, some_ne, (fun g e => by cases e; exact (of_eq_false hn_g9.1.1)), by dsimp only; omega, by simp; omega, ?_⟩
    dsimp only
    rw [List.range_succ, List.map_append, ← hzs]; rfl
  · have hin : k = 2 ^ d.order.length := by have := of_decide_eq_false hb; omega
    subst hin
    refine yG (oj hn_g1 e1) ?_
    refine yT hC (oj hn_g1 e1) ?_
    rw [tabL, ← hzs]
    exact .one (.c (ler_gsb (pre := [(g1, _)]) hog (fun g e => by simp only [Heap.keys, List.map_cons, List.map_nil, List.mem_singleton]; exact hgn g e) hzl))
set_option maxHeartbeats 800000 in
theorem state_fa (ps : List RD) (s : Nat) (hs : s < 2 ^ ps.length) (L : Nat) (hL : 1 ≤ L) (hL2 : L ≤ 1000000) (hp : ∀ r ∈ ps, r.wf L) (hl : ps.length ≤ 30) :
    Fa Tryz.prog 117 [.c (rats false ps), .c (.int .i64 s)] (.agg (rdc (rd (stQ ps s)))) := by
  have h63 := pow_lt_63 (n := ps.length) (by omega)
  have e1 := shl_one ps.length (by omega)
  have e2 : ((2 ^ ps.length : Nat) : Int) - 1 - (s : Int) = ((2 ^ ps.length - 1 - s : Nat) : Int) := by omega
  refine fa_of_body Tryz.func117 rfl rfl (by simp [Tryz.ntmps117]) fun C hC => ?_
  simp only [initS, Nat.reduceAdd]
  refine xG ?_
  refine xA fun g4 hn_g4=>?_
  refine yG (oj hn_g4 e1) ?_
  rw [e2]
  refine yC (oj hn_g4 e1) (weightR_fa s (2 ^ ps.length - 1 - s) ps ?_ ?_ L hL hL2 hp ?_) ?_
  · omega
  · omega
  · omega
  refine yG (oj hn_g4 e1) ?_
  refine yW (oj hn_g4 e1) ?_
  refine yS (oj hn_g4 e1) ?_
  refine yG (oj hn_g4 e1) ?_
  refine yT hC (oj hn_g4 e1) ?_
  exact ler_rd rfl
set_option maxHeartbeats 1600000 in
theorem table37_fa (tb : List Bool) (ps : List RD) (L : Nat) (hL : 1 ≤ L) (hL2 : L ≤ 1000) (hp : ∀ r ∈ ps, r.wf L) (hl : ps.length ≤ 12) (ht : tb.length = 2 ^ ps.length) :
    Fa Tryz.prog 57 [.c (bs false tb), .c (rats false ps)] (.agg (rdc (rd (sumQ ps tb tb.length)))) := by
  have hp12 : 2 ^ ps.length ≤ 4096 := by
    have h3 : 2 ^ ps.length ≤ 2 ^ 12 := Nat.pow_le_pow_right (by omega) hl
    have h4 : (2 : Nat) ^ 12 = 4096 := by decide
    omega
  refine fa_of_body Tryz.func57 rfl rfl (by simp [Tryz.ntmps57]) fun C hC => ?_
  simp only [initS, Nat.reduceAdd]
  refine xG ?_
  refine xA fun g4 hn_g4=>?_
  refine yG hn_g4 ?_
  refine yA hn_g4 fun g5 hn_g5=>?_
  refine yG (oj hn_g4 hn_g5) ?_
  refine yW (oj hn_g4 hn_g5) ?_
  refine yS (oj hn_g4 hn_g5) ?_
  refine yG (oj hn_g4 hn_g5) ?_
  refine aw_convR zero_rd ?_
  refine aw_lp (fun k : Nat => [(0, .c (bs false tb)), (1, .c (rats false ps)), (4, .c (.optr g4 0)), (5, .c (.optr g5 0)), (6, .c (.int .i64 k))]) (fun k => [(g5, .cells 33 3 (ofL (rdc (rd (sumQ ps tb k))))), (g4, .cells 33 3 (ofL [.bool false, .nils, .nils]))])
    (fun k => k ≤ tb.length) (fun k => tb.length - k) 0 (zB (oj hn_g4 hn_g5)) zZ (Nat.zero_le _) ?_
  rintro k hk
  have hfk := fits_sum (tb := tb) hL hp k
  have hbk : ((2 * L + 2) * ps.length + 2) * k + 1 ≤ 200000000 := by
    have h1 := Nat.mul_le_mul (show 2 * L + 2 ≤ 2002 from by omega) (show ps.length ≤ 12 from hl)
    have h2 := Nat.mul_le_mul (show (2 * L + 2) * ps.length + 2 ≤ 24026 from by omega) (show k ≤ 4096 from by omega)
    omega
  refine yG (oj hn_g4 hn_g5) ?_
  refine yF (oj hn_g4 hn_g5) (fun hb=>?_) fun hb=>?_
  · have hin : k < tb.length := by have := of_decide_eq_true hb; omega
    have hfs : fits (stQ ps k) 100000 := by
      refine fits_mono (fits_wt hL hp _) ?_
      have h1 := Nat.mul_le_mul (show 2 * L + 2 ≤ 2002 from by omega) (show ps.length ≤ 12 from hl)
      omega
    refine yG (oj hn_g4 hn_g5) ?_
    refine yF (oj hn_g4 hn_g5) (fun hc=>?_) fun hc=>?_
    · refine yG (oj hn_g4 hn_g5) ?_
      refine aw_dr 5 ty_mixed (by kernel_rfl) ?_
      refine yG (oj hn_g4 hn_g5) ?_
      refine yD (oj hn_g4 hn_g5) (state_fa ps k ?_ L hL ?_ hp ?_) ?_
      · omega
      · omega
      · omega
      refine yG (oj hn_g4 hn_g5) ?_
      refine yD (oj hn_g4 hn_g5) (sadd_fa _ _ ?_ ?_) ?_
      · exact rd_wf (fits_mono hfk (by omega))
      · exact rd_wf (fits_mono hfs (by omega))
      rw [rd_q, rd_q]
      refine yG (oj hn_g4 hn_g5) ?_
      refine yW (oj hn_g4 hn_g5) ?_
      refine yS (oj hn_g4 hn_g5) ?_
      refine yG (oj hn_g4 hn_g5) ?_
      have e : sumQ ps tb (k + 1) = sumQ ps tb k + stQ ps k := by rw [sumQ, if_pos hc]
      rw [← e]
      exact aw_stop ⟨k + 1, by omega, (zB (oj hn_g4 hn_g5)), zZ, by omega⟩
    · refine yG (oj hn_g4 hn_g5) ?_
      have e : sumQ ps tb (k + 1) = sumQ ps tb k := by rw [sumQ, if_neg (by rw [hc]; simp)]
      rw [← e]
      exact aw_stop ⟨k + 1, by omega, (zB (oj hn_g4 hn_g5)), zZ, by omega⟩
  · have hin : k = tb.length := by have := of_decide_eq_false hb; omega
    subst hin
    refine yG (oj hn_g4 hn_g5) ?_
    refine yW (oj hn_g4 hn_g5) ?_
    refine yS (oj hn_g4 hn_g5) ?_
    refine yG (oj hn_g4 hn_g5) ?_
    refine yT hC (oj hn_g4 hn_g5) ?_
    exact ler_rd rfl
theorem tabL_len (d : DG) : (tabL d).length = 2 ^ d.order.length := by simp [tabL]
set_option maxHeartbeats 800000 in
theorem prob37_fa (d : DG) (ps : List RD) (m : Nat) (hm : m ≤ 62) (hns : NsOk m d.nodes) (h0 : 0 ≤ d.root) (h1 : d.root < d.nodes.length + 2) (hl : d.nodes.length ≤ 1000000) (L : Nat) (hL : 1 ≤ L) (hL2 : L ≤ 1000) (hp : ∀ r ∈ ps, r.wf L) (hpl : ps.length ≤ 12) (hpo : ps.length = d.order.length) :
    Fa Tryz.prog 88 [.agg (dgc false d), .c (rats false ps)] (.agg (rdc (rd (sumQ ps (tabL d) (2 ^ ps.length))))) := by
  refine fa_of_body Tryz.func88 rfl rfl (by simp [Tryz.ntmps88]) fun C hC => ?_
  simp only [initS, Nat.reduceAdd]
  refine xG ?_
  refine xB fun g2 hn_g2=>?_
  refine yA hn_g2 fun g4 hn_g4=>?_
  refine yG (oj hn_g2 hn_g4) ?_
  refine yC (oj hn_g2 hn_g4) (table15_fa d m hm hns h0 h1 hl ?_) ?_
  · omega
  refine yG (oj hn_g2 hn_g4) ?_
  refine yC (oj hn_g2 hn_g4) (table37_fa (tabL d) ps L hL hL2 hp hpl ?_) ?_
  · rw [tabL_len, hpo]
  rw [tabL_len, ← hpo]
  refine yG (oj hn_g2 hn_g4) ?_
  refine yW (oj hn_g2 hn_g4) ?_
  refine yS (oj hn_g2 hn_g4) ?_
  refine yG (oj hn_g2 hn_g4) ?_
  refine yT hC (oj hn_g2 hn_g4) ?_
  exact ler_rd rfl
end Go.Proofs.YtlpejaefobdajaaGreat

/- Orders: the first error, places. No program in sight. -/
namespace Go.PN
def oscan (vars : Int) (seen : List Int) : List Int → Int
  | [] => 0
  | x :: xs => if x < 0 ∨ vars ≤ x then 3 else if x ∈ seen then 6 else oscan vars (seen ++ [x]) xs
/-- The number of the first error of an order. -/
def ocode (o : List Int) (vars : Int) : Int := if vars < 0 ∨ 24 < vars then 3 else if (o.length : Int) ≠ vars then 11 else oscan vars [] o
def placeZ (l : List Int) (n : Int) : Int := if n ∈ l then (l.idxOf n : Int) else -1

theorem getDZ {xs : List Int} {i : Nat} (h : i < xs.length) : xs.getD i 0 = xs[i] := by
  rw [List.getD_eq_getElem?_getD, List.getElem?_eq_getElem h]; rfl
theorem oscan_step {vars : Int} {o : List Int} {i : Nat} (h : i < o.length) : oscan vars (o.take i) (o.drop i) = if o.getD i 0 < 0 ∨ vars ≤ o.getD i 0 then 3 else if o.getD i 0 ∈ o.take i then 6 else oscan vars (o.take (i + 1)) (o.drop (i + 1)) := by
  rw [List.drop_eq_getElem_cons h, oscan, getDZ h, List.take_succ_eq_append_getElem h]
theorem take_memZ {o : List Int} {i : Nat} {x : Int} : x ∈ o.take i ↔ ∃ k, k < i ∧ k < o.length ∧ o.getD k 0 = x := by
  constructor
  · intro h
    obtain ⟨k, hk, e⟩ := List.mem_iff_getElem.1 h
    simp only [List.length_take] at hk
    refine ⟨k, by omega, by omega, ?_⟩
    rw [getDZ (by omega), ← e, List.getElem_take]
  · rintro ⟨k, h1, h2, rfl⟩
    rw [getDZ h2]
    exact List.mem_iff_getElem.2 ⟨k, by simp; omega, by rw [List.getElem_take]⟩
/-- What an order without error is. -/
structure Perm0 (o : List Int) : Prop where
  range : ∀ x ∈ o, 0 ≤ x ∧ x < o.length
  nodup : o.Nodup
theorem oscan_ok {vars : Int} : ∀ (o seen : List Int), oscan vars seen o = 0 → seen.Nodup → (∀ x ∈ o, 0 ≤ x ∧ x < vars) ∧ (seen ++ o).Nodup
  | [], seen, _, hs => ⟨by simp, by simpa using hs⟩
  | x :: o, seen, h, hs => by
    rw [oscan] at h
    split at h
    · cases h
    · split at h
      · cases h
      · rename_i h1 h2
        have hn : (seen ++ [x]).Nodup := by
          rw [List.nodup_append]
          exact ⟨hs, by simp, fun a ha b hb e => h2 (by simp only [List.mem_singleton] at hb; rw [← hb, ← e]; exact ha)⟩
        obtain ⟨h3, h4⟩ := oscan_ok o (seen ++ [x]) h hn
        refine ⟨fun y hy => ?_, by simpa using h4⟩
        rcases List.mem_cons.1 hy with rfl | hy
        · omega
        · exact h3 y hy
theorem ocode_ok {o : List Int} (h : ocode o o.length = 0) : Perm0 o ∧ o.length ≤ 24 := by
  unfold ocode at h
  split at h
  · cases h
  · rename_i h1
    rw [if_neg (by simp)] at h
    obtain ⟨h2, h3⟩ := oscan_ok o [] h (by simp)
    exact ⟨⟨h2, by simpa using h3⟩, by omega⟩
theorem nodup_le : ∀ {l m : List Int}, l.Nodup → (∀ x ∈ l, x ∈ m) → l.length ≤ m.length
  | [], m, _, _ => by simp
  | a :: l, m, hn, hs => by
    simp only [List.nodup_cons] at hn
    have ha := hs a (by simp)
    have := nodup_le (l := l) (m := m.erase a) hn.2 fun x hx => (List.mem_erase_of_ne (fun e => hn.1 (by rw [← e]; exact hx))).2 (hs x (by simp [hx]))
    rw [List.length_erase_of_mem ha] at this
    have : 0 < m.length := List.length_pos_of_mem ha
    simp only [List.length_cons]
    omega
theorem Perm0.all {o : List Int} (h : Perm0 o) {j : Nat} (hj : j < o.length) : (j : Int) ∈ o := by
  by_cases hm : (j : Int) ∈ o
  · exact hm
  · exfalso
    have := nodup_le (l := (j : Int) :: o) (m := (List.range o.length).map (fun k : Nat => (k : Int))) (by simp only [List.nodup_cons]; exact ⟨hm, h.nodup⟩) (fun x hx => by
      rw [List.mem_map]
      rcases List.mem_cons.1 hx with rfl | hx
      · exact ⟨j, by simpa using hj, rfl⟩
      · obtain ⟨h1, h2⟩ := h.range x hx
        exact ⟨x.toNat, by simp; omega, by omega⟩)
    simp at this
    omega
theorem place_get {o : List Int} (hn : o.Nodup) {k : Nat} (hk : k < o.length) : placeZ o (o.getD k 0) = k := by
  unfold placeZ
  rw [getDZ hk, if_pos (List.getElem_mem hk)]
  congr 1
  exact hn.idxOf_getElem k hk
/-- The places of the events. -/
def placesL (o : List Int) : List Int := (List.range o.length).map fun j : Nat => placeZ o (j : Int)
theorem placesL_len (o : List Int) : (placesL o).length = o.length := by simp [placesL]
theorem placesL_get {o : List Int} {j : Nat} (hj : j < o.length) : (placesL o).getD j 0 = placeZ o j := by
  rw [getDZ (by rw [placesL_len]; exact hj)]
  simp [placesL]
theorem places_end {o zs : List Int} (h : Perm0 o) (hl : zs.length = o.length) (hz : ∀ k, k < o.length → zs.getD (o.getD k 0).toNat 0 = k) : zs = placesL o := by
  apply List.ext_getElem (by rw [placesL_len]; exact hl)
  intro j h1 h2
  rw [← getDZ h1, ← getDZ h2, placesL_get (by omega)]
  have hm := h.all (j := j) (by omega)
  obtain ⟨k, hk, e⟩ := List.mem_iff_getElem.1 hm
  have h3 := hz k hk
  rw [getDZ hk, e] at h3
  have h4 := place_get h.nodup hk
  rw [getDZ hk, e] at h4
  rw [h4, ← h3]; simp
end Go.PN

/- faultlineref14: Place, Check; order: Check, places, Positions. -/
namespace Go.AI
open Go.PN
theorem updF_is {zs : List Int} {i : Nat} {v : Int} (hi : i < zs.length) : updF (isF zs) i [.int .i64 v] = isF (zs.set i v) := by
  funext j
  simp only [updF]
  by_cases e : j = i
  · subst e; simp [hi, isF]
  · rw [if_neg e]
    show CV.int .i64 (zs.getD j 0) = CV.int .i64 ((zs.set i v).getD j 0)
    rw [List.getD_eq_getElem?_getD, List.getD_eq_getElem?_getD, List.getElem?_set_ne (fun h => e h.symm)]
theorem updF_bs {zs : List Bool} {i : Nat} {v : Bool} (hi : i < zs.length) : updF (bsF zs) i [.bool v] = bsF (zs.set i v) := by
  funext j
  simp only [updF]
  by_cases e : j = i
  · subst e; simp [hi, bsF]
  · rw [if_neg e]
    show CV.bool (zs.getD j false) = CV.bool ((zs.set i v).getD j false)
    rw [List.getD_eq_getElem?_getD, List.getD_eq_getElem?_getD, List.getElem?_set_ne (fun h => e h.symm)]
theorem make_is (n : Nat) : (fun j => ofL [CV.int .i64 0] (j % 1)) = isF (List.replicate n 0) := by
  funext j
  show ofL [CV.int .i64 0] (j % 1) = CV.int .i64 ((List.replicate n 0).getD j 0)
  rw [Nat.mod_one, List.getD_eq_getElem?_getD, List.getElem?_replicate]
  split <;> rfl
theorem make_bs (n : Nat) : (fun j => ofL [CV.bool false] (j % 1)) = bsF (List.replicate n false) := by
  funext j
  show ofL [CV.bool false] (j % 1) = CV.bool ((List.replicate n false).getD j false)
  rw [Nat.mod_one, List.getD_eq_getElem?_getD, List.getElem?_replicate]
  split <;> rfl
theorem ler_oslis {h : Heap} {t : Bool} {g n : Nat} {ty : TypeId} {ys : List Int} (hg : h.get g = some (.cells ty n (isF ys))) (hn : n = ys.length) : LeR h (.osl g 1 0 n) (is t ys) := by
  subst hn
  exact .osl hg (by omega) (fun j _ => by rw [Nat.zero_add]; exact .int _ _)
end Go.AI
namespace Go.Proofs.YtlpejaefobdajaaGreat
open Go.AI Go.PN
attribute [local irreducible] aw Fa Fh DrK
theorem place_none {l : List Int} {n : Int} (h : ∀ j, j < l.length → l.getD j 0 ≠ n) : placeZ l n = -1 := by
  unfold placeZ
  rw [if_neg]
  intro hm
  obtain ⟨k, hk, e⟩ := List.mem_iff_getElem.1 hm
  exact h k hk (by rw [getDZ hk, e])
theorem place_at {l : List Int} {n : Int} {i : Nat} (hi : i < l.length) (he : l.getD i 0 = n) (h : ∀ j, j < i → l.getD j 0 ≠ n) : placeZ l n = i := by
  unfold placeZ
  have hm : n ∈ l := by rw [← he, getDZ hi]; exact List.getElem_mem hi
  rw [if_pos hm]
  congr 1
  have h1 : l.idxOf n < l.length := List.idxOf_lt_length_of_mem hm
  have h2 : l[l.idxOf n] = n := List.getElem_idxOf h1
  rcases Nat.lt_trichotomy (l.idxOf n) i with hlt | heq | hgt
  · exact absurd (by rw [getDZ h1]; exact h2) (h _ hlt)
  · exact heq
  · have := List.not_of_lt_findIdx (p := fun x => x == n) (xs := l) (i := i) hgt
    rw [getDZ hi] at he
    simp [he] at this
set_option maxHeartbeats 400000 in
theorem place_fa (l : List Int) (n : Int) (hl : l.length ≤ 1099511627776) : Fa Tryz.prog 134 [.c (is false l), .c (.int .i64 n)] (.c (.int .i64 (placeZ l n))) := by
  refine fa_of_body Tryz.func134 rfl rfl (by simp [Tryz.ntmps134]) fun C hC => ?_
  simp only [initS, Nat.reduceAdd]
  refine xG ?_
  refine aw_lp (fun i : Nat => [(0, .c (is false l)), (1, .c (.int .i64 n)), (5, .c (.int .i64 i))]) (fun _ => []) (fun i => i ≤ l.length ∧ ∀ j, j < i → l.getD j 0 ≠ n) (fun i => l.length - i) 0 eB zZ ⟨Nat.zero_le _, fun j hj => by omega⟩ ?_
  rintro i ⟨hi, hs⟩
  refine xG ?_
  refine xF (fun hb=>?_) fun hb=>?_
  · have hin : i < l.length := by have := of_decide_eq_true hb; omega
    refine xG ?_
    refine xF (fun hc=>?_) fun hc=>?_
    · refine xG ?_
      refine xT hC ?_
      exact .one (.c (ler_int (place_at hin (eq_of_beq hc) hs).symm))
    · have hne : l.getD i 0 ≠ n := fun e => by rw [e] at hc; simp at hc
      refine xG ?_
      refine aw_stop ⟨i + 1, by omega, eB, zZ, by omega, fun j hj => ?_⟩
      by_cases hji : j = i
      · rw [hji]; exact hne
      · exact hs j (by omega)
  · have hin : i = l.length := by have := of_decide_eq_false hb; omega
    subst hin
    refine xG ?_
    refine xT hC ?_
    exact .one (.c (ler_int (place_none hs).symm))
set_option maxHeartbeats 1600000 in
theorem ocheckR_fa (o : List Int) (vars : Int) (hl : o.length ≤ 1099511627776) : Fa Tryz.prog 47 [.c (is false o), .c (.int .i64 vars)] (.c (.int .i64 (ocode o vars))) := by
  refine fa_of_body Tryz.func47 rfl rfl (by simp [Tryz.ntmps47]) fun C hC => ?_
  simp only [initS, Nat.reduceAdd]
  refine xG ?_
  by_cases hv0 : vars < 0
  · have e1 : decide (vars < 0) = true := by simp [hv0]
    refine yG e1 ?_
    refine yP e1 ?_
    refine yG e1 ?_
    refine yT hC e1 ?_
    exact .one (.c (ler_int (by unfold ocode; rw [if_pos (.inl hv0)])))
  have e1 : decide (vars < 0) = false := by simp [hv0]
  refine yG e1 ?_
  refine yF e1 (fun hb=>?_) fun hb=>?_
  · have := of_decide_eq_true hb
    refine yG e1 ?_
    refine yT hC e1 ?_
    exact .one (.c (ler_int (by unfold ocode; rw [if_pos (.inr (by omega))])))
  have hv24 : vars ≤ 24 := by have := of_decide_eq_false hb; omega
  refine yG e1 ?_
  refine yF e1 (fun hc=>?_) fun hc=>?_
  · have hne : (o.length : Int) ≠ vars := fun e => by rw [e] at hc; simp at hc
    refine yG e1 ?_
    refine yT hC e1 ?_
    exact .one (.c (ler_int (by unfold ocode; rw [if_neg (by omega), if_pos hne])))
  have hlen : (o.length : Int) = vars := by
    have : ((o.length : Int) == vars) = true := by simpa [bne] using hc
    exact eq_of_beq this
  have hcode : ocode o vars = oscan vars [] o := by unfold ocode; rw [if_neg (by omega), if_neg (by omega)]
  rw [hcode]
  refine yG e1 ?_
  refine aw_lp (fun i : Nat => [(0, .c (is false o)), (1, .c (.int .i64 vars)), (5, .c (.int .i64 i))]) (fun _ => []) (fun i => i ≤ o.length ∧ oscan vars (o.take i) (o.drop i) = oscan vars [] o) (fun i => o.length - i) 0 (zB e1) zZ ⟨Nat.zero_le _, by simp⟩ ?_
  rintro i ⟨hi, hs⟩
  refine yG e1 ?_
  refine yF e1 (fun hb1=>?_) fun hb1=>?_
  · have hin : i < o.length := by have := of_decide_eq_true hb1; omega
    rw [oscan_step hin] at hs
    refine yG e1 ?_
    by_cases hx0 : o.getD i 0 < 0
    · have e2 : decide (o.getD i 0 < 0) = true := decide_eq_true hx0
      refine yG (oj e1 e2) ?_
      refine yP (oj e1 e2) ?_
      refine yG (oj e1 e2) ?_
      refine yT hC (oj e1 e2) ?_
      exact .one (.c (ler_int (by rw [← hs, if_pos (.inl hx0)])))
    have e2 : decide (o.getD i 0 < 0) = false := decide_eq_false hx0
    refine yG (oj e1 e2) ?_
    refine yF (oj e1 e2) (fun hx1=>?_) fun hx1=>?_
    · have hx1' := of_decide_eq_true hx1
      refine yG (oj e1 e2) ?_
      refine yT hC (oj e1 e2) ?_
      exact .one (.c (ler_int (by rw [← hs, if_pos (.inr hx1')])))
    have hx1' : ¬ vars ≤ o.getD i 0 := of_decide_eq_false hx1
    rw [if_neg (by omega)] at hs
    refine yG (oj e1 e2) ?_
    refine aw_lp (fun k : Nat => [(0, .c (is false o)), (1, .c (.int .i64 vars)), (5, .c (.int .i64 i)), (6, .c (.int .i64 k))]) (fun _ => []) (fun k => k ≤ i ∧ ∀ j, j < k → o.getD j 0 ≠ o.getD i 0) (fun k => i - k) 0 (zB (oj e1 e2)) zZ ⟨Nat.zero_le _, fun j hj => by omega⟩ ?_
    rintro k ⟨hk, hks⟩
    refine yG (oj e1 e2) ?_
    refine yF (oj e1 e2) (fun hb2=>?_) fun hb2=>?_
    · have hki : k < i := by have := of_decide_eq_true hb2; omega
      refine yG (oj e1 e2) ?_
      refine aw_dr 9 ty_mixed (by kernel_rfl) ?_
      refine yG (oj e1 e2) ?_
      refine yF (oj e1 e2) (fun he=>?_) fun he=>?_
      · have he' := eq_of_beq he
        refine yG (oj e1 e2) ?_
        refine yT hC (oj e1 e2) ?_
        exact .one (.c (ler_int (by rw [← hs, if_pos (take_memZ.2 ⟨k, hki, by omega, he'⟩)])))
      · have hne : o.getD k 0 ≠ o.getD i 0 := fun e => by rw [e] at he; simp at he
        refine yG (oj e1 e2) ?_
        refine aw_stop ⟨k + 1, by omega, (zB (oj e1 e2)), zZ, by omega, fun j hj => ?_⟩
        by_cases hji : j = k
        · rw [hji]; exact hne
        · exact hks j (by omega)
    · have hki : k = i := by have := of_decide_eq_false hb2; omega
      subst hki
      rw [if_neg (fun hm => by obtain ⟨j, h1, _, h3⟩ := take_memZ.1 hm; exact hks j h1 h3)] at hs
      refine yG (oj e1 e2) ?_
      exact aw_stop ⟨k + 1, by omega, (zB (oj e1 e2)), zZ, by omega, hs⟩
  · have hin : i = o.length := by have := of_decide_eq_false hb1; omega
    subst hin
    refine yG e1 ?_
    refine yT hC e1 ?_
    exact .one (.c (ler_int (by rw [← hs, List.drop_length]; rfl)))
set_option maxHeartbeats 1600000 in
theorem ocheck_fa (o : List Int) (vars : Int) (hl : o.length ≤ 1099511627776) : Fa Tryz.prog 104 [.c (is false o), .c (.int .i64 vars)] (.c (errA (ocode o vars))) := by
  refine fa_of_body Tryz.func104 rfl rfl (by simp [Tryz.ntmps104]) fun C hC => ?_
  simp only [initS, Nat.reduceAdd]
  refine xG ?_
  by_cases hv0 : vars < 0
  · have e1 : decide (vars < 0) = true := by simp [hv0]
    refine yG e1 ?_
    refine yP e1 ?_
    refine yG e1 ?_
    refine yT hC e1 ?_
    exact .one (.c (ler_errN (by unfold ocode; rw [if_pos (.inl hv0)]) (by unfold ocode; rw [if_pos (.inl hv0)]; omega)))
  have e1 : decide (vars < 0) = false := by simp [hv0]
  refine yG e1 ?_
  refine yF e1 (fun hb=>?_) fun hb=>?_
  · have := of_decide_eq_true hb
    refine yG e1 ?_
    refine yT hC e1 ?_
    exact .one (.c (ler_errN (by unfold ocode; rw [if_pos (.inr (by omega))]) (by unfold ocode; rw [if_pos (.inr (by omega))]; omega)))
  have hv24 : vars ≤ 24 := by have := of_decide_eq_false hb; omega
  refine yG e1 ?_
  refine yF e1 (fun hc=>?_) fun hc=>?_
  · have hne : (o.length : Int) ≠ vars := fun e => by rw [e] at hc; simp at hc
    refine yG e1 ?_
    refine yT hC e1 ?_
    exact .one (.c (ler_errN (by unfold ocode; rw [if_neg (by omega), if_pos hne]) (by unfold ocode; rw [if_neg (by omega), if_pos hne]; omega)))
  have hlen : (o.length : Int) = vars := by
    have : ((o.length : Int) == vars) = true := by simpa [bne] using hc
    exact eq_of_beq this
  have hcode : ocode o vars = oscan vars [] o := by unfold ocode; rw [if_neg (by omega), if_neg (by omega)]
  rw [hcode]
  refine yG e1 ?_
  refine aw_make (n := o.length) (c := o.length) (size := 1) (z := [.bool false]) rfl rfl rfl (zE e1) (zE e1) rfl (by omega) (zE e1) (zE e1) hlen.symm hlen.symm (by omega) (by omega) (by omega) fun g hg => ?_
  rw [make_bs o.length]
  refine yS e1 ?_
  refine yG e1 ?_
  refine aw_lp (fun x : Nat × List Bool => [(1, .c (.int .i64 vars)), (5, .c (.osl g 1 0 o.length)), (24, .c (is false o)), (25, .c (.int .i64 o.length)), (26, .c (.int .i64 x.1))]) (fun x => [(g, .cells 4 o.length (bsF x.2))])
    (fun x => x.1 ≤ o.length ∧ oscan vars (o.take x.1) (o.drop x.1) = oscan vars [] o ∧ x.2.length = o.length ∧ ∀ j : Nat, j < o.length → (x.2.getD j false = decide ((j : Int) ∈ o.take x.1))) (fun x => o.length - x.1) (0, List.replicate o.length false) (zB e1) zZ ⟨Nat.zero_le _, by simp, by simp, fun j hj => by rw [List.getD_eq_getElem?_getD, List.getElem?_replicate]; simp [hj]⟩ ?_
  rintro ⟨i, zs⟩ ⟨hi, hs, hzl, hz⟩
  dsimp only at hi hs hzl hz ⊢
  refine yG e1 ?_
  refine yF e1 (fun hb1=>?_) fun hb1=>?_
  · have hin : i < o.length := by have := of_decide_eq_true hb1; omega
    rw [oscan_step hin] at hs
    refine yG e1 ?_
    by_cases hx0 : o.getD i 0 < 0
    · have e2 : decide (o.getD i 0 < 0) = true := decide_eq_true hx0
      refine yG (oj e1 e2) ?_
      refine yP (oj e1 e2) ?_
      refine yG (oj e1 e2) ?_
      refine yT hC (oj e1 e2) ?_
      rw [if_pos (.inl hx0)] at hs
      exact .one (.c (ler_errN hs (by omega)))
    have e2 : decide (o.getD i 0 < 0) = false := decide_eq_false hx0
    refine yG (oj e1 e2) ?_
    refine yF (oj e1 e2) (fun hx1=>?_) fun hx1=>?_
    · have hx1' := of_decide_eq_true hx1
      refine yG (oj e1 e2) ?_
      refine yT hC (oj e1 e2) ?_
      rw [if_pos (.inr hx1')] at hs
      exact .one (.c (ler_errN hs (by omega)))
    have hx1' : ¬ vars ≤ o.getD i 0 := of_decide_eq_false hx1
    rw [if_neg (by omega)] at hs
    have hzi := hz (o.getD i 0).toNat (by omega)
    rw [show (((o.getD i 0).toNat : Nat) : Int) = o.getD i 0 from by omega] at hzi
    refine yG (oj e1 e2) ?_
    refine yF (oj e1 e2) (fun ht=>?_) fun ht=>?_
    · rw [ht] at hzi
      have hm := of_decide_eq_true hzi.symm
      refine yG (oj e1 e2) ?_
      refine yT hC (oj e1 e2) ?_
      rw [if_pos hm] at hs
      exact .one (.c (ler_errN hs (by omega)))
    · rw [ht] at hzi
      have hm := of_decide_eq_false hzi.symm
      rw [if_neg hm] at hs
      refine yG (oj e1 e2) ?_
      refine yW (oj e1 e2) ?_
      refine yS (oj e1 e2) ?_
      rw [updF_bs (by omega)]
      refine yG (oj e1 e2) ?_
      refine aw_stop ⟨(i + 1, zs.set (o.getD i 0).toNat true), by dsimp only; omega, (zB (oj e1 e2)), zZ, by dsimp only; omega, hs, by simpa using hzl, fun j hj => ?_⟩
      dsimp only
      rw [List.take_succ_eq_append_getElem hin, List.getD_eq_getElem?_getD]
      by_cases hje : j = (o.getD i 0).toNat
      · subst hje
        rw [List.getElem?_set_self (by omega)]
        have : (((o.getD i 0).toNat : Nat) : Int) ∈ o.take i ++ [o[i]] := by
          rw [← getDZ hin, show (((o.getD i 0).toNat : Nat) : Int) = o.getD i 0 from by omega]; simp
        exact (decide_eq_true this).symm
      · rw [List.getElem?_set_ne (fun e => hje e.symm), ← List.getD_eq_getElem?_getD, hz j hj]
        have : ((j : Int) ∈ o.take i ++ [o[i]]) ↔ (j : Int) ∈ o.take i := by
          rw [← getDZ hin]
          simp only [List.mem_append, List.mem_singleton]
          exact ⟨fun h => h.resolve_right (by omega), .inl⟩
        simp only [this]
  · have hin : i = o.length := by have := of_decide_eq_false hb1; omega
    subst hin
    refine yG e1 ?_
    refine yT hC e1 ?_
    exact .one (.c (ler_err0 (by rw [← hs, List.drop_length]; rfl)))
set_option maxHeartbeats 800000 in
theorem places_fa (o : List Int) (ho : Perm0 o) (hl : o.length ≤ 24) : Fa Tryz.prog 175 [.c (is false o)] (.c (is true (placesL o))) := by
  refine fa_of_body Tryz.func175 rfl rfl (by simp [Tryz.ntmps175]) fun C hC => ?_
  simp only [initS, Nat.reduceAdd]
  refine xG ?_
  refine aw_make (n := o.length) (c := o.length) (size := 1) (z := [.int .i64 0]) rfl rfl rfl eE eE rfl (by omega) eE eE rfl rfl (by omega) (by omega) (by omega) fun g hg => ?_
  rw [make_is o.length]
  refine xS ?_
  refine xG ?_
  refine aw_lp (fun x : Nat × List Int => [(3, .c (.osl g 1 0 o.length)), (9, .c (is false o)), (10, .c (.int .i64 o.length)), (11, .c (.int .i64 x.1))]) (fun x => [(g, .cells 3 o.length (isF x.2))])
    (fun x => x.1 ≤ o.length ∧ x.2.length = o.length ∧ ∀ k, k < x.1 → x.2.getD (o.getD k 0).toNat 0 = k) (fun x => o.length - x.1) (0, List.replicate o.length 0) eB zZ ⟨Nat.zero_le _, by simp, fun k hk => by omega⟩ ?_
  rintro ⟨i, zs⟩ ⟨hi, hzl, hz⟩
  dsimp only at hi hzl hz ⊢
  refine xG ?_
  refine xF (fun hb1=>?_) fun hb1=>?_
  · have hin : i < o.length := by have := of_decide_eq_true hb1; omega
    have hr := ho.range (o.getD i 0) (by rw [getDZ hin]; exact List.getElem_mem hin)
    refine xG ?_
    refine xW ?_
    refine xS ?_
    rw [updF_is (by omega)]
    refine xG ?_
    refine aw_stop ⟨(i + 1, zs.set (o.getD i 0).toNat i), by dsimp only; omega, eB, zZ, by dsimp only; omega, by simpa using hzl, fun k hk => ?_⟩
    dsimp only at hk ⊢
    rw [List.getD_eq_getElem?_getD]
    by_cases hki : k = i
    · subst hki
      rw [List.getElem?_set_self (by omega)]; rfl
    · have hrk := ho.range (o.getD k 0) (by rw [getDZ (by omega)]; exact List.getElem_mem _)
      rw [List.getElem?_set_ne, ← List.getD_eq_getElem?_getD, hz k (by omega)]
      intro e
      have e2 : o.getD i 0 = o.getD k 0 := by omega
      have p1 := place_get ho.nodup hin
      have p2 := place_get ho.nodup (show k < o.length from by omega)
      rw [e2, p2] at p1
      omega
  · have hin : i = o.length := by have := of_decide_eq_false hb1; omega
    subst hin
    refine xG ?_
    refine xT hC ?_
    rw [← places_end ho hzl hz]
    exact .one (.c (ler_oslis eE hzl.symm))
set_option maxHeartbeats 800000 in
theorem positions_fa (o : List Int) (hl : o.length ≤ 1099511627776) : Fa Tryz.prog 126 [.c (is false o)] (.tup [.c (is true (if ocode o o.length = 0 then placesL o else [])), .c (errA (ocode o o.length))]) := by
  refine fa_of_body Tryz.func126 rfl rfl (by simp [Tryz.ntmps126]) fun C hC => ?_
  simp only [initS, Nat.reduceAdd]
  refine xG ?_
  refine xC (ocheck_fa o o.length hl) ?_
  refine xG ?_
  refine xF (fun hb=>?_) fun hb=>?_
  · have hne : ocode o o.length ≠ 0 := by simpa using hb
    refine xG ?_
    refine xT hC ?_
    rw [if_neg hne]
    exact .tup ⟨.c .nils, .c ler_err, trivial⟩
  · have he : ocode o o.length = 0 := by simpa using hb
    obtain ⟨h1, h2⟩ := ocode_ok he
    refine xG ?_
    refine xC (places_fa o h1 h2) ?_
    refine xG ?_
    refine xT hC ?_
    rw [if_pos he]
    exact .tup ⟨.c ler_is, .c (ler_err0 he), trivial⟩
end Go.Proofs.YtlpejaefobdajaaGreat

/- faultlineref15: behind, node. -/
namespace Go.PN
open Go.AI
def behindB (d : DG) (r e : Int) : Bool := decide (r < 2) || decide (placeZ d.order (d.nodes.getD (r - 2).toNat dn0).v > placeZ d.order e)
/-- Out of range? -/
def nrange (d : DG) (i : Nat) (x : DN) : Prop := x.v < 0 ∨ (d.order.length : Int) ≤ x.v ∨ x.lo < 0 ∨ (i : Int) + 1 < x.lo ∨ x.hi < 0 ∨ (i : Int) + 1 < x.hi
instance (d : DG) (i : Nat) (x : DN) : Decidable (nrange d i x) := by unfold nrange; infer_instance
/-- The number of the error of node i. -/
def ncode (d : DG) (i : Nat) : Int :=
  if nrange d i (d.nodes.getD i dn0) then 10 else if (d.nodes.getD i dn0).lo = (d.nodes.getD i dn0).hi then 2
  else if !(behindB d (d.nodes.getD i dn0).lo (d.nodes.getD i dn0).v) || !(behindB d (d.nodes.getD i dn0).hi (d.nodes.getD i dn0).v) then 13
  else if d.nodes.getD i dn0 ∈ d.nodes.take i then 6 else 0
theorem getDN {xs : List DN} {i : Nat} (h : i < xs.length) : xs.getD i dn0 = xs[i] := by
  rw [List.getD_eq_getElem?_getD, List.getElem?_eq_getElem h]; rfl
theorem take_memN {o : List DN} {i : Nat} {x : DN} : x ∈ o.take i ↔ ∃ k, k < i ∧ k < o.length ∧ o.getD k dn0 = x := by
  constructor
  · intro h
    obtain ⟨k, hk, e⟩ := List.mem_iff_getElem.1 h
    simp only [List.length_take] at hk
    refine ⟨k, by omega, by omega, ?_⟩
    rw [getDN (by omega), ← e, List.getElem_take]
  · rintro ⟨k, h1, h2, rfl⟩
    rw [getDN h2]
    exact List.mem_iff_getElem.2 ⟨k, by simp; omega, by rw [List.getElem_take]⟩
theorem nok_of {d : DG} {i : Nat} (h : ¬ nrange d i (d.nodes.getD i dn0)) : NodeOk d.order.length i (d.nodes.getD i dn0) := by
  unfold nrange at h
  constructor <;> omega
theorem eqDN (a b : DN) : ((a.v == b.v) && ((a.lo == b.lo) && (a.hi == b.hi))) = decide (a = b) := by
  cases a; cases b
  rw [Bool.eq_iff_iff]
  simp [DN.mk.injEq]
end Go.PN
namespace Go.Proofs.YtlpejaefobdajaaGreat
open Go.AI Go.PN
attribute [local irreducible] aw Fa Fh DrK
set_option maxHeartbeats 800000 in
theorem behind_fa (d : DG) (r e : Int) (h0 : 0 ≤ r) (h1 : r < d.nodes.length + 2) (hl : d.order.length ≤ 1099511627776) (hl2 : d.nodes.length ≤ 1099511627776) : Fa Tryz.prog 133 [.agg (dgc false d), .c (.int .i64 r), .c (.int .i64 e)] (.c (.bool (behindB d r e))) := by
  unfold behindB
  refine fa_of_body Tryz.func133 rfl rfl (by simp [Tryz.ntmps133]) fun C hC => ?_
  simp only [initS, Nat.reduceAdd]
  refine xG ?_
  refine xB fun g3 hn_g3=>?_
  refine yG hn_g3 ?_
  refine aw_dr 20 ty_mixed (by kernel_rfl) ?_
  refine yG hn_g3 ?_
  refine drk_split 9 (zE hn_g3) (fun hb => ?_) (fun hb => ?_) <;> refine yS hn_g3 ?_
  · refine yG hn_g3 ?_
    refine yT hC hn_g3 ?_
    exact .one (.c (ler_bool (by rw [hb]; rfl)))
  · have hb' := of_decide_eq_false hb
    refine yG hn_g3 ?_
    refine yD hn_g3 (place_fa d.order _ hl) ?_
    refine yG hn_g3 ?_
    refine yD hn_g3 (place_fa d.order e hl) ?_
    refine yG hn_g3 ?_
    refine yT hC hn_g3 ?_
    exact .one (.c (ler_bool (by rw [hb]; rfl)))
set_option maxRecDepth 100000 in
set_option maxHeartbeats 3200000 in
theorem nodeR_fa (d : DG) (i : Nat) (hi : i < d.nodes.length) (hl : d.order.length ≤ 1099511627776) (hl2 : d.nodes.length ≤ 1099511627776) : Fa Tryz.prog 74 [.agg (dgc false d), .c (.int .i64 i)] (.c (.int .i64 (ncode d i))) := by
  have n10 : nrange d i (d.nodes.getD i dn0) → ncode d i = 10 := fun h => by unfold ncode; rw [if_pos h]
  refine fa_of_body Tryz.func74 rfl rfl (by simp [Tryz.ntmps74]) fun C hC => ?_
  simp only [initS, Nat.reduceAdd]
  refine xG ?_
  refine xB fun g2 hn_g2=>?_
  refine yG hn_g2 ?_
  refine yA hn_g2 fun g5 hn_g5=>?_
  refine yG (oj hn_g2 hn_g5) ?_
  refine yW (oj hn_g2 hn_g5) ?_
  refine yS (oj hn_g2 hn_g5) ?_
  generalize hx : d.nodes.getD i dn0 = x at n10
  refine yG (oj hn_g2 hn_g5) ?_
  refine aw_split 15 (zE (oj hn_g2 hn_g5)) (fun a1 => ?_) (fun a1 => ?_) <;> refine yS (oj hn_g2 hn_g5) ?_
  · refine yG (oj hn_g2 hn_g5) ?_
    refine yP (oj hn_g2 hn_g5) ?_
    refine yG (oj hn_g2 hn_g5) ?_
    refine yT hC (oj hn_g2 hn_g5) ?_
    exact .one (.c (ler_int (n10 (.inl (of_decide_eq_true a1))).symm))
  refine yG (oj hn_g2 hn_g5) ?_
  refine aw_split 23 (zE (oj hn_g2 hn_g5)) (fun a2 => ?_) (fun a2 => ?_) <;> refine yS (oj hn_g2 hn_g5) ?_
  · refine yG (oj hn_g2 hn_g5) ?_
    refine yP (oj hn_g2 hn_g5) ?_
    refine yG (oj hn_g2 hn_g5) ?_
    refine yT hC (oj hn_g2 hn_g5) ?_
    exact .one (.c (ler_int (n10 (.inr (.inl (of_decide_eq_true a2)))).symm))
  refine yG (oj hn_g2 hn_g5) ?_
  refine aw_split 28 (zE (oj hn_g2 hn_g5)) (fun a3 => ?_) (fun a3 => ?_) <;> refine yS (oj hn_g2 hn_g5) ?_
  · refine yG (oj hn_g2 hn_g5) ?_
    refine yP (oj hn_g2 hn_g5) ?_
    refine yG (oj hn_g2 hn_g5) ?_
    refine yT hC (oj hn_g2 hn_g5) ?_
    exact .one (.c (ler_int (n10 (.inr (.inr (.inl (of_decide_eq_true a3))))).symm))
  refine yG (oj hn_g2 hn_g5) ?_
  refine aw_split 35 (zE (oj hn_g2 hn_g5)) (fun a4 => ?_) (fun a4 => ?_) <;> refine yS (oj hn_g2 hn_g5) ?_
  · refine yG (oj hn_g2 hn_g5) ?_
    refine yP (oj hn_g2 hn_g5) ?_
    refine yG (oj hn_g2 hn_g5) ?_
    refine yT hC (oj hn_g2 hn_g5) ?_
    exact .one (.c (ler_int (n10 (.inr (.inr (.inr (.inl (of_decide_eq_true a4)))))).symm))
  refine yG (oj hn_g2 hn_g5) ?_
  refine aw_split 40 (zE (oj hn_g2 hn_g5)) (fun a5 => ?_) (fun a5 => ?_) <;> refine yS (oj hn_g2 hn_g5) ?_
  · refine yG (oj hn_g2 hn_g5) ?_
    refine yP (oj hn_g2 hn_g5) ?_
    refine yG (oj hn_g2 hn_g5) ?_
    refine yT hC (oj hn_g2 hn_g5) ?_
    exact .one (.c (ler_int (n10 (.inr (.inr (.inr (.inr (.inl (of_decide_eq_true a5))))))).symm))
  refine yG (oj hn_g2 hn_g5) ?_
  refine yF (oj hn_g2 hn_g5) (fun a6=>?_) fun a6=>?_
  · refine yG (oj hn_g2 hn_g5) ?_
    refine yT hC (oj hn_g2 hn_g5) ?_
    exact .one (.c (ler_int (n10 (.inr (.inr (.inr (.inr (.inr (of_decide_eq_true a6))))))).symm))
  have hnr : ¬ nrange d i x := by
    unfold nrange
    have b1 := of_decide_eq_false a1
    have b2 := of_decide_eq_false a2
    have b3 := of_decide_eq_false a3
    have b4 := of_decide_eq_false a4
    have b5 := of_decide_eq_false a5
    have b6 := of_decide_eq_false a6
    omega
  clear a1 a2 a3 a4 a5 a6 n10
  have hno := nok_of (d := d) (i := i) (by rw [hx]; exact hnr)
  rw [hx] at hno
  obtain ⟨v0, v1, l0, l1, h0, h1⟩ := hno
  have hcode : ncode d i = if x.lo = x.hi then 2 else if !(behindB d x.lo x.v) || !(behindB d x.hi x.v) then 13 else if x ∈ d.nodes.take i then 6 else 0 := by
    unfold ncode; rw [hx, if_neg hnr]
  rw [hcode]
  clear hcode
  refine yG (oj hn_g2 hn_g5) ?_
  refine yF (oj hn_g2 hn_g5) (fun c1=>?_) fun c1=>?_
  · have c1' := eq_of_beq c1
    refine yG (oj hn_g2 hn_g5) ?_
    refine yT hC (oj hn_g2 hn_g5) ?_
    exact .one (.c (ler_int (by rw [if_pos c1'])))
  have c1' : ¬ x.lo = x.hi := fun e => by rw [e] at c1; simp at c1
  rw [if_neg c1']
  refine yG (oj hn_g2 hn_g5) ?_
  refine yC (oj hn_g2 hn_g5) (behind_fa d x.lo x.v l0 ?_ hl hl2) ?_
  · omega
  refine yG (oj hn_g2 hn_g5) ?_
  refine aw_split 59 (zE (oj hn_g2 hn_g5)) (fun c2 => ?_) (fun c2 => ?_) <;> refine yS (oj hn_g2 hn_g5) ?_
  · refine yG (oj hn_g2 hn_g5) ?_
    refine yP (oj hn_g2 hn_g5) ?_
    refine yG (oj hn_g2 hn_g5) ?_
    refine yT hC (oj hn_g2 hn_g5) ?_
    exact .one (.c (ler_int (by rw [c2]; rfl)))
  refine yG (oj hn_g2 hn_g5) ?_
  refine yC (oj hn_g2 hn_g5) (behind_fa d x.hi x.v h0 ?_ hl hl2) ?_
  · omega
  refine yG (oj hn_g2 hn_g5) ?_
  refine yF (oj hn_g2 hn_g5) (fun c3=>?_) fun c3=>?_
  · refine yG (oj hn_g2 hn_g5) ?_
    refine yT hC (oj hn_g2 hn_g5) ?_
    exact .one (.c (ler_int (by rw [c2, c3]; rfl)))
  rw [c2, c3, if_neg (by simp)]
  refine yG (oj hn_g2 hn_g5) ?_
  as_aux_lemma =>
  refine aw_lp (fun k : Nat => [(1, .c (.int .i64 i)), (2, .c (.optr g2 0)), (5, .c (.optr g5 0)), (6, .c (.int .i64 k))]) (fun _ => [(g5, .cells 139 3 (ofL (dnc x))), (g2, .cells 25 3 (ofL (dgc false d)))]) (fun k => k ≤ i ∧ ∀ j, j < k → d.nodes.getD j dn0 ≠ x) (fun k => i - k) 0 (zB (oj hn_g2 hn_g5)) zZ ⟨Nat.zero_le _, fun j hj => by omega⟩ ?_
  rintro k ⟨hk, hs⟩
  refine yG (oj hn_g2 hn_g5) ?_
  refine yF (oj hn_g2 hn_g5) (fun hb=>?_) fun hb=>?_
  · have hki : k < i := by have := of_decide_eq_true hb; omega
    refine yG (oj hn_g2 hn_g5) ?_
    refine aw_dr 7 ty_mixed (by kernel_rfl) ?_
    refine yG (oj hn_g2 hn_g5) ?_
    refine yF (oj hn_g2 hn_g5) (fun he=>?_) fun he=>?_
    · rw [eqDN] at he
      have he' := of_decide_eq_true he
      refine yG (oj hn_g2 hn_g5) ?_
      refine yT hC (oj hn_g2 hn_g5) ?_
      exact .one (.c (ler_int (by rw [if_pos (take_memN.2 ⟨k, hki, by omega, he'⟩)])))
    · rw [eqDN] at he
      have he' := of_decide_eq_false he
      refine yG (oj hn_g2 hn_g5) ?_
      refine aw_stop ⟨k + 1, by omega, (zB (oj hn_g2 hn_g5)), zZ, by omega, fun j hj => ?_⟩
      by_cases hjk : j = k
      · rw [hjk]; exact he'
      · exact hs j (by omega)
  · have hki : k = i := by have := of_decide_eq_false hb; omega
    subst hki
    refine yG (oj hn_g2 hn_g5) ?_
    refine yT hC (oj hn_g2 hn_g5) ?_
    exact .one (.c (ler_int (by rw [if_neg (fun hm => by obtain ⟨j, h1, _, h3⟩ := take_memN.1 hm; exact hs j h1 h3)])))
end Go.Proofs.YtlpejaefobdajaaGreat
