/- Texts of one proof, laid one behind the other by a program (merge.py): Shan7, Law3. -/
import Derived.Test.YtmkomfdiggcloaaGreatM21
set_option linter.unusedSimpArgs false
set_option linter.unusedVariables false
/- faultlinebase.Rats; Accepts of shannon and of the reference. -/
namespace Go.PN
open Go.AI
theorem getRD {xs : List RD} {i : Nat} (h : i < xs.length) : xs.getD i rd0 = xs[i] := by
  rw [List.getD_eq_getElem?_getD, List.getElem?_eq_getElem h]; rfl
theorem ratL_ext {xs ys : List RD} (hl : xs.length = ys.length) (h : ∀ j, j < xs.length → xs.getD j rd0 = ys.getD j rd0) : xs = ys := by
  refine List.ext_getElem hl fun j h1 h2 => ?_
  have := h j h1
  rw [getRD h1, getRD h2] at this
  exact this
/-- The number of the error of Accepts. -/
def acode (d : DG) (p v : List RD) : Int := if dpcode d p ≠ 0 then dpcode d p else if v.length ≠ d.nodes.length then 11 else 0
/-- Do the values answer the equations of the nodes? -/
def accB (p v : List RD) (ns : List DN) : Bool := (List.range ns.length).all fun i => decide ((v.getD i rd0).q = nodeQ p v (ns.getD i dn0))
theorem accB_true {p v : List RD} {ns : List DN} (h : ∀ j, j < ns.length → (v.getD j rd0).q = nodeQ p v (ns.getD j dn0)) : accB p v ns = true := by
  unfold accB
  rw [List.all_eq_true]
  intro j hj
  exact decide_eq_true (h j (List.mem_range.1 hj))
theorem accB_false {p v : List RD} {ns : List DN} {j : Nat} (hj : j < ns.length) (h : (v.getD j rd0).q ≠ nodeQ p v (ns.getD j dn0)) : accB p v ns = false := by
  cases hb : accB p v ns with
  | false => rfl
  | true =>
    unfold accB at hb
    rw [List.all_eq_true] at hb
    exact absurd (of_decide_eq_true (hb j (List.mem_range.2 hj))) h
theorem signQ_zero {x y : Rat} : (signQ (x - y) != 0) = !decide (x = y) := by
  have h0 : signQ (x - y) = 0 ↔ x = y := by
    unfold signQ
    constructor
    · intro h
      split at h
      · rename_i h1; grind
      · split at h <;> cases h
    · intro h; rw [if_pos (by grind)]
  by_cases h : x = y
  · rw [h0.2 h]; simp [h]
  · have : signQ (x - y) ≠ 0 := fun e => h (h0.1 e)
    simp [h, this]
end Go.PN
namespace Go.Proofs.YtmkomfdiggcloaaGreat
open Go.AI Go.PN
attribute [local irreducible] aw Fa Fh DrK
theorem nodeok_mono {m k k' : Nat} {n : DN} (h : NodeOk m k n) (hk : k ≤ k') : NodeOk m k' n := by
  obtain ⟨h1, h2, h3, h4, h5, h6⟩ := h
  exact ⟨h1, h2, h3, by omega, h5, by omega⟩
set_option maxHeartbeats 1600000 in
theorem rats_fa (xs ys : List RD) (hw : ∀ x ∈ xs, x.wf 68719476736) (hl : xs.length ≤ 1099511627776) : Fa Tryz.prog 27 [.c (rats false xs), .c (rats false ys)] (.c (.bool (decide (xs = ys)))) := by
  refine fa_of_body Tryz.func27 rfl rfl (by simp [Tryz.ntmps27]) fun C hC => ?_
  simp only [initS, Nat.reduceAdd]
  repeat first|apply wa1|apply wa2|apply wa3|apply wa4|apply wa5 rfl|apply wa6|apply wa7|(refine wb1 rfl fun R r=>?_;simp only[go_sem];with_reducible refine r _ _ ?_;clear r R)
  refine aw_cond (by simp only[go_sem]<;>rfl) (fun hb => ?_) (fun hb => ?_)
  · repeat first|apply wa1|apply wa2|apply wa3|apply wa4|apply wa5 rfl|apply wa6|apply wa7|(refine wb1 rfl fun R r=>?_;simp only[go_sem];with_reducible refine r _ _ ?_;clear r R)
    (refine aw_retq hC rfl fun R r=>?_;simp only[go_sem];refine r _ rfl ?_;clear r R)
    refine .one (.c (ler_bool ?_))
    have : xs ≠ ys := fun e => by rw [e] at hb; simp at hb
    simp [this]
  · have hlen : xs.length = ys.length := by
      have : ((xs.length : Int) == (ys.length : Int)) = true := by simpa [bne] using hb
      have := eq_of_beq this; omega
    repeat first|apply wa1|apply wa2|apply wa3|apply wa4|apply wa5 rfl|apply wa6|apply wa7|(refine wb1 rfl fun R r=>?_;simp only[go_sem];with_reducible refine r _ _ ?_;clear r R)
    refine aw_lp (fun i : Nat => [(0, .c (rats false xs)), (1, .c (rats false ys)), (12, .c (.int .i64 xs.length)), (13, .c (.int .i64 i))]) (fun _ => []) (fun i => i ≤ xs.length ∧ ∀ j, j < i → xs.getD j rd0 = ys.getD j rd0) (fun i => xs.length - i) 0 (by simp only[go_sem]<;>and_intros<;>first|exact True.intro|(with_reducible rfl)|exact c_int (by omega)|rfl) (List.Sublist.refl _) ⟨Nat.zero_le _, fun j hj => by omega⟩ ?_
    rintro i ⟨hi, hs⟩
    repeat first|apply wa1|apply wa2|apply wa3|apply wa4|apply wa5 rfl|apply wa6|apply wa7|(refine wb1 rfl fun R r=>?_;simp only[go_sem];with_reducible refine r _ _ ?_;clear r R)
    refine aw_cond (by simp only[go_sem]<;>rfl) (fun hb => ?_) (fun hb => ?_)
    · have hin : i < xs.length := by have := of_decide_eq_true hb; omega
      repeat first|apply wa1|apply wa2|apply wa3|apply wa4|apply wa5 rfl|apply wa6|apply wa7|(refine wb1 rfl fun R r=>?_;simp only[go_sem];with_reducible refine r _ _ ?_;clear r R)
      refine aw_dr 10 ty_mixed (by kernel_rfl) ?_
      repeat first|apply wa1|apply wa2|apply wa3|apply wa4|apply wa5 rfl|apply wa6|apply wa7|(refine wb1 rfl fun R r=>?_;simp only[go_sem];with_reducible refine r _ _ ?_;clear r R)|apply wa8|(refine wd1 rfl fun R r=>?_;simp only[go_sem];with_reducible refine r _ _ ?_;clear r R)
      refine drk_call (ratEq_fa (xs.getD i rd0) (ys.getD i rd0) ?_) rfl rfl rfl (by first|exact True.intro|simp only[go_sem]<;>and_intros<;>first|exact True.intro|exact .c (.refl _)|exact .c wl2|exact .agg (lel_refl _)|exact .agg (by simp only[LeL];and_intros<;>first|exact True.intro|exact .refl _|exact wl2)|exact .c .nils) ?_
      · rw [getRD hin]; exact hw _ (List.getElem_mem hin)
      (try simp only[go_sem])
      repeat first|apply wa1|apply wa2|apply wa3|apply wa4|apply wa5 rfl|apply wa6|apply wa7|(refine wb1 rfl fun R r=>?_;simp only[go_sem];with_reducible refine r _ _ ?_;clear r R)|apply wa8|(refine wd1 rfl fun R r=>?_;simp only[go_sem];with_reducible refine r _ _ ?_;clear r R)
      refine aw_cond (by simp only[go_sem]<;>rfl) (fun hc => ?_) (fun hc => ?_)
      · have hc' : xs.getD i rd0 ≠ ys.getD i rd0 := by simpa using hc
        repeat first|apply wa1|apply wa2|apply wa3|apply wa4|apply wa5 rfl|apply wa6|apply wa7|(refine wb1 rfl fun R r=>?_;simp only[go_sem];with_reducible refine r _ _ ?_;clear r R)|apply wa8|(refine wd1 rfl fun R r=>?_;simp only[go_sem];with_reducible refine r _ _ ?_;clear r R)
        (refine aw_retq hC rfl fun R r=>?_;simp only[go_sem];refine r _ rfl ?_;clear r R)
        refine .one (.c (ler_bool ?_))
        have : xs ≠ ys := fun e => hc' (by rw [e])
        simp [this]
      · have hc' : xs.getD i rd0 = ys.getD i rd0 := by simpa using hc
        repeat first|apply wa1|apply wa2|apply wa3|apply wa4|apply wa5 rfl|apply wa6|apply wa7|(refine wb1 rfl fun R r=>?_;simp only[go_sem];with_reducible refine r _ _ ?_;clear r R)|apply wa8|(refine wd1 rfl fun R r=>?_;simp only[go_sem];with_reducible refine r _ _ ?_;clear r R)
        refine aw_stop ⟨i + 1, by omega, (by simp only[go_sem]<;>and_intros<;>first|exact True.intro|(with_reducible rfl)|exact c_int (by omega)|rfl), (List.Sublist.refl _), by omega, fun j hj => ?_⟩
        by_cases hji : j = i
        · rw [hji]; exact hc'
        · exact hs j (by omega)
    · have hin : i = xs.length := by have := of_decide_eq_false hb; omega
      subst hin
      repeat first|apply wa1|apply wa2|apply wa3|apply wa4|apply wa5 rfl|apply wa6|apply wa7|(refine wb1 rfl fun R r=>?_;simp only[go_sem];with_reducible refine r _ _ ?_;clear r R)
      (refine aw_retq hC rfl fun R r=>?_;simp only[go_sem];refine r _ rfl ?_;clear r R)
      refine .one (.c (ler_bool ?_))
      have : xs = ys := ratL_ext hlen hs
      simp [this]
set_option maxRecDepth 100000 in
set_option maxHeartbeats 1600000 in
theorem saccepts_fa (d : DG) (p v : List RD) (hs : Small d p) (hvl : v.length ≤ 1099511627776) (hv : dpcode d p = 0 → v.length = d.nodes.length → ∀ x ∈ v, x.wf 1000000) : Fa Tryz.prog 29 [.agg (dgc false d), .c (rats false p), .c (rats false v)] (.tup [.c (.bool (decide (acode d p v = 0) && accB p v d.nodes)), .c (errA (acode d p v))]) := by
  have s1 := hs.l
  have s2 := hs.o
  have s3 := hs.n
  refine fa_of_body Tryz.func29 rfl rfl (by simp [Tryz.ntmps29]) fun C hC => ?_
  simp only [initS, Nat.reduceAdd]
  repeat first|apply wa1|apply wa2|apply wa3|apply wa4|apply wa5 rfl|apply wa6|apply wa7|(refine wb1 rfl fun R r=>?_;simp only[go_sem];with_reducible refine r _ _ ?_;clear r R)
  refine aw_box rfl rfl rfl (by simp only[go_sem]<;>rfl) (fun _ e => by cases e) rfl fun g3 hn_g3 => ?_
  replace hn_g3 := Heap.ne_of hn_g3
  first | dsimp only [Heap.ne, gh] at hn_g3 | dsimp only [Heap.ne] at hn_g3 | skip
  (try simp only[go_sem, hn_g3])
  repeat first|apply wa1|apply wa2|apply wa3|apply wa4|apply wa5 rfl|apply wa6|apply wa7|(refine wb1 rfl fun R r=>?_;simp only[go_sem, hn_g3];with_reducible refine r _ _ ?_;clear r R)
  refine aw_callq (scheckD_fa d p hs.w5 ?_ ?_ ?_) rfl rfl rfl (by first|exact True.intro|simp only[go_sem, hn_g3]<;>and_intros<;>first|exact True.intro|exact .c (.refl _)|exact .c wl2|exact .agg (lel_refl _)|exact .agg (by simp only[LeL];and_intros<;>first|exact True.intro|exact .refl _|exact wl2)|exact .c .nils) ?_
  · omega
  · omega
  · omega
  (try simp only[go_sem, hn_g3])
  repeat first|apply wa1|apply wa2|apply wa3|apply wa4|apply wa5 rfl|apply wa6|apply wa7|(refine wb1 rfl fun R r=>?_;simp only[go_sem, hn_g3];with_reducible refine r _ _ ?_;clear r R)
  refine aw_cond (by simp only[go_sem, hn_g3]<;>rfl) (fun hb => ?_) (fun hb => ?_)
  · have hb' : dpcode d p ≠ 0 := by simpa using hb
    have ha : acode d p v = dpcode d p := by unfold acode; rw [if_pos hb']
    repeat first|apply wa1|apply wa2|apply wa3|apply wa4|apply wa5 rfl|apply wa6|apply wa7|(refine wb1 rfl fun R r=>?_;simp only[go_sem, hn_g3];with_reducible refine r _ _ ?_;clear r R)
    (refine aw_retq hC rfl fun R r=>?_;simp only[go_sem, hn_g3];refine r _ rfl ?_;clear r R)
    rw [ha, decide_eq_false hb', Bool.false_and]
    exact .tup ⟨.c (.bool _), .c ler_err, trivial⟩
  · have hb' : dpcode d p = 0 := by simpa using hb
    obtain ⟨ok, hpl, _⟩ := dp_ok hb'
    have k1 := ok.n4096
    repeat first|apply wa1|apply wa2|apply wa3|apply wa4|apply wa5 rfl|apply wa6|apply wa7|(refine wb1 rfl fun R r=>?_;simp only[go_sem, hn_g3];with_reducible refine r _ _ ?_;clear r R)
    refine aw_cond (by simp only[go_sem, hn_g3]<;>rfl) (fun hc => ?_) (fun hc => ?_)
    · have hc' : v.length ≠ d.nodes.length := fun e => by rw [e] at hc; simp at hc
      have ha : acode d p v = 11 := by unfold acode; rw [if_neg (by simp [hb']), if_pos hc']
      repeat first|apply wa1|apply wa2|apply wa3|apply wa4|apply wa5 rfl|apply wa6|apply wa7|(refine wb1 rfl fun R r=>?_;simp only[go_sem, hn_g3];with_reducible refine r _ _ ?_;clear r R)
      (refine aw_retq hC rfl fun R r=>?_;simp only[go_sem, hn_g3];refine r _ rfl ?_;clear r R)
      rw [ha, decide_eq_false (by omega), Bool.false_and]
      exact .tup ⟨.c (.bool _), .c (ler_errN rfl (by omega)), trivial⟩
    · have hc' : v.length = d.nodes.length := by
        have : ((v.length : Int) == (d.nodes.length : Int)) = true := by simpa [bne] using hc
        have := eq_of_beq this; omega
      have ha : acode d p v = 0 := by unfold acode; rw [if_neg (by simp [hb']), if_neg (by simp [hc'])]
      have hvw := hv hb' hc'
      rw [ha, decide_eq_true rfl, Bool.true_and]
      repeat first|apply wa1|apply wa2|apply wa3|apply wa4|apply wa5 rfl|apply wa6|apply wa7|(refine wb1 rfl fun R r=>?_;simp only[go_sem, hn_g3];with_reducible refine r _ _ ?_;clear r R)
      refine aw_lp (fun i : Nat => [(1, .c (rats false p)), (2, .c (rats false v)), (25, .c (dns false d.nodes)), (26, .c (.int .i64 d.nodes.length)), (27, .c (.int .i64 i))]) (fun _ => []) (fun i => i ≤ d.nodes.length ∧ ∀ j, j < i → (v.getD j rd0).q = nodeQ p v (d.nodes.getD j dn0)) (fun i => d.nodes.length - i) 0 (by simp only[go_sem, hn_g3]<;>and_intros<;>first|exact True.intro|(with_reducible rfl)|exact c_int (by omega)|rfl) (List.nil_sublist _) ⟨Nat.zero_le _, fun j hj => by omega⟩ ?_
      rintro i ⟨hi, hq⟩
      repeat first|apply wa1|apply wa2|apply wa3|apply wa4|apply wa5 rfl|apply wa6|apply wa7|(refine wb1 rfl fun R r=>?_;simp only[go_sem, hn_g3];with_reducible refine r _ _ ?_;clear r R)
      refine aw_cond (by simp only[go_sem, hn_g3]<;>rfl) (fun h1 => ?_) (fun h1 => ?_)
      · have h1' : i < d.nodes.length := by have := of_decide_eq_true h1; omega
        have hni := nodeok_mono (ns_len ok hpl i h1') (show i ≤ v.length from by omega)
        have hwn : (rd (nodeQ p v (d.nodes.getD i dn0))).wf 500000000 := rd_wf (fits_mono (fits_node (L := 1000000) (by omega) (fun r hr => wf_mono (hs.w r hr) (by omega)) hvw hni.l0 hni.h0) (by omega))
        repeat first|apply wa1|apply wa2|apply wa3|apply wa4|apply wa5 rfl|apply wa6|apply wa7|(refine wb1 rfl fun R r=>?_;simp only[go_sem, hn_g3];with_reducible refine r _ _ ?_;clear r R)
        refine aw_alloc rfl rfl rfl (by simp only[go_sem, hn_g3]<;>rfl) fun g10 hn_g10 => ?_
        replace hn_g10 := Heap.ne_of hn_g10
        first | dsimp only [Heap.ne, gh] at hn_g10 | dsimp only [Heap.ne] at hn_g10 | skip
        (try simp only[go_sem, hn_g3, hn_g10])
        repeat first|apply wa1|apply wa2|apply wa3|apply wa4|apply wa5 rfl|apply wa6|apply wa7|(refine wb1 rfl fun R r=>?_;simp only[go_sem, hn_g3, hn_g10];with_reducible refine r _ _ ?_;clear r R)
        refine aw_store rfl rfl rfl rfl (by simp only[go_sem, hn_g3, hn_g10]<;>rfl) (by simp only[go_sem, hn_g3, hn_g10]<;>rfl) (by simp only[go_sem, hn_g3, hn_g10]<;>rfl) (by simp only[go_sem, hn_g3, hn_g10]<;>rfl) (fun _ e => by cases e) (by rfl) (by rfl) (by first|omega|simp) rfl ?_
        (try simp only[go_sem, hn_g3, hn_g10])
        repeat first|apply wa1|apply wa2|apply wa3|apply wa4|apply wa5 rfl|apply wa6|apply wa7|(refine wb1 rfl fun R r=>?_;simp only[go_sem, hn_g3, hn_g10];with_reducible refine r _ _ ?_;clear r R)
        refine aw_dr 10 ty_mixed (by kernel_rfl) ?_
        repeat first|apply wa1|apply wa2|apply wa3|apply wa4|apply wa5 rfl|apply wa6|apply wa7|(refine wb1 rfl fun R r=>?_;simp only[go_sem, hn_g3, hn_g10];with_reducible refine r _ _ ?_;clear r R)|apply wa8|(refine wd1 rfl fun R r=>?_;simp only[go_sem, hn_g3, hn_g10];with_reducible refine r _ _ ?_;clear r R)
        refine drk_call (node_fa (d.nodes.getD i dn0) p v 1000000 ?_ ?_ (fun r hr => wf_mono (hs.w r hr) ?_) hvw hni hvl) rfl rfl rfl (by first|exact True.intro|simp only[go_sem, hn_g3, hn_g10]<;>and_intros<;>first|exact True.intro|exact .c (.refl _)|exact .c wl2|exact .agg (lel_refl _)|exact .agg (by simp only[LeL];and_intros<;>first|exact True.intro|exact .refl _|exact wl2)|exact .c .nils) ?_
        · omega
        · omega
        · omega
        (try simp only[go_sem, hn_g3, hn_g10])
        repeat first|apply wa1|apply wa2|apply wa3|apply wa4|apply wa5 rfl|apply wa6|apply wa7|(refine wb1 rfl fun R r=>?_;simp only[go_sem, hn_g3, hn_g10];with_reducible refine r _ _ ?_;clear r R)|apply wa8|(refine wd1 rfl fun R r=>?_;simp only[go_sem, hn_g3, hn_g10];with_reducible refine r _ _ ?_;clear r R)
        refine drk_call (rcmp_fa (v.getD i rd0) (rd (nodeQ p v (d.nodes.getD i dn0))) (wf_mono (hvw _ ?_) ?_) hwn) rfl rfl rfl (by first|exact True.intro|simp only[go_sem, hn_g3, hn_g10]<;>and_intros<;>first|exact True.intro|exact .c (.refl _)|exact .c wl2|exact .agg (lel_refl _)|exact .agg (by simp only[LeL];and_intros<;>first|exact True.intro|exact .refl _|exact wl2)|exact .c .nils) ?_
        · rw [getRD (by omega)]; exact List.getElem_mem _
        · omega
        (try simp only[go_sem, hn_g3, hn_g10])
        rw [rd_q]
        repeat first|apply wa1|apply wa2|apply wa3|apply wa4|apply wa5 rfl|apply wa6|apply wa7|(refine wb1 rfl fun R r=>?_;simp only[go_sem, hn_g3, hn_g10, signQ_zero];with_reducible refine r _ _ ?_;clear r R)|apply wa8|(refine wd1 rfl fun R r=>?_;simp only[go_sem, hn_g3, hn_g10, signQ_zero];with_reducible refine r _ _ ?_;clear r R)
        refine aw_cond (by simp only[go_sem, hn_g3, hn_g10, signQ_zero]<;>rfl) (fun h2 => ?_) (fun h2 => ?_)
        · have h2' : (v.getD i rd0).q ≠ nodeQ p v (d.nodes.getD i dn0) := by simpa using h2
          repeat first|apply wa1|apply wa2|apply wa3|apply wa4|apply wa5 rfl|apply wa6|apply wa7|(refine wb1 rfl fun R r=>?_;simp only[go_sem, hn_g3, hn_g10, signQ_zero];with_reducible refine r _ _ ?_;clear r R)|apply wa8|(refine wd1 rfl fun R r=>?_;simp only[go_sem, hn_g3, hn_g10, signQ_zero];with_reducible refine r _ _ ?_;clear r R)
          (refine aw_retq hC rfl fun R r=>?_;simp only[go_sem, hn_g3, hn_g10, signQ_zero];refine r _ rfl ?_;clear r R)
          rw [accB_false h1' h2']
          exact .tup ⟨.c (.bool _), .c (ler_err0 rfl), trivial⟩
        · have h2' : (v.getD i rd0).q = nodeQ p v (d.nodes.getD i dn0) := by simpa using h2
          repeat first|apply wa1|apply wa2|apply wa3|apply wa4|apply wa5 rfl|apply wa6|apply wa7|(refine wb1 rfl fun R r=>?_;simp only[go_sem, hn_g3, hn_g10, signQ_zero];with_reducible refine r _ _ ?_;clear r R)|apply wa8|(refine wd1 rfl fun R r=>?_;simp only[go_sem, hn_g3, hn_g10, signQ_zero];with_reducible refine r _ _ ?_;clear r R)
          refine aw_stop ⟨i + 1, by omega, (by simp only[go_sem, hn_g3, hn_g10, signQ_zero]<;>and_intros<;>first|exact True.intro|(with_reducible rfl)|exact c_int (by omega)|rfl), List.nil_sublist _, by omega, fun j hj => ?_⟩
          by_cases hji : j = i
          · rw [hji]; exact h2'
          · exact hq j (by omega)
      · have h1' : i = d.nodes.length := by have := of_decide_eq_false h1; omega
        subst h1'
        repeat first|apply wa1|apply wa2|apply wa3|apply wa4|apply wa5 rfl|apply wa6|apply wa7|(refine wb1 rfl fun R r=>?_;simp only[go_sem, hn_g3];with_reducible refine r _ _ ?_;clear r R)
        (refine aw_retq hC rfl fun R r=>?_;simp only[go_sem, hn_g3];refine r _ rfl ?_;clear r R)
        rw [accB_true hq]
        exact .tup ⟨.c (.bool _), .c (ler_err0 rfl), trivial⟩
set_option maxRecDepth 100000 in
set_option maxHeartbeats 1600000 in
theorem accepts37_fa (d : DG) (p v : List RD) (hs : Small d p) (hdp : dpcode d p = 0) (hvl : v.length = d.nodes.length) (hvw : ∀ x ∈ v, x.wf 1000000) : Fa Tryz.prog 30 [.agg (dgc false d), .c (rats false p), .c (rats false v)] (.c (.bool (accB p v d.nodes))) := by
  have s1 := hs.l
  obtain ⟨ok, hpl, _⟩ := dp_ok hdp
  have k1 := ok.n4096
  refine fa_of_body Tryz.func30 rfl rfl (by simp [Tryz.ntmps30]) fun C hC => ?_
  simp only [initS, Nat.reduceAdd]
  repeat first|apply wa1|apply wa2|apply wa3|apply wa4|apply wa5 rfl|apply wa6|apply wa7|(refine wb1 rfl fun R r=>?_;simp only[go_sem];with_reducible refine r _ _ ?_;clear r R)
  refine aw_box rfl rfl rfl (by simp only[go_sem]<;>rfl) (fun _ e => by cases e) rfl fun g3 hn_g3 => ?_
  replace hn_g3 := Heap.ne_of hn_g3
  first | dsimp only [Heap.ne, gh] at hn_g3 | dsimp only [Heap.ne] at hn_g3 | skip
  (try simp only[go_sem, hn_g3])
  repeat first|apply wa1|apply wa2|apply wa3|apply wa4|apply wa5 rfl|apply wa6|apply wa7|(refine wb1 rfl fun R r=>?_;simp only[go_sem, hn_g3];with_reducible refine r _ _ ?_;clear r R)
  refine aw_lp (fun i : Nat => [(1, .c (rats false p)), (2, .c (rats false v)), (3, .c (.optr g3 0)), (7, .c (.int .i64 i))]) (fun _ => [(g3, .cells 25 3 (ofL (dgc false d)))]) (fun i => i ≤ d.nodes.length ∧ ∀ j, j < i → (v.getD j rd0).q = nodeQ p v (d.nodes.getD j dn0)) (fun i => d.nodes.length - i) 0 (by simp only[go_sem, hn_g3]<;>and_intros<;>first|exact True.intro|(with_reducible rfl)|exact c_int (by omega)|rfl) (List.Sublist.refl _) ⟨Nat.zero_le _, fun j hj => by omega⟩ ?_
  rintro i ⟨hi, hq⟩
  repeat first|apply wa1|apply wa2|apply wa3|apply wa4|apply wa5 rfl|apply wa6|apply wa7|(refine wb1 rfl fun R r=>?_;simp only[go_sem, hn_g3];with_reducible refine r _ _ ?_;clear r R)
  refine aw_cond (by simp only[go_sem, hn_g3]<;>rfl) (fun h1 => ?_) (fun h1 => ?_)
  · have h1' : i < d.nodes.length := by have := of_decide_eq_true h1; omega
    have hni := nodeok_mono (ns_len ok hpl i h1') (show i ≤ v.length from by omega)
    have hwn : (rd (nodeQ p v (d.nodes.getD i dn0))).wf 500000000 := rd_wf (fits_mono (fits_node (L := 1000000) (by omega) (fun r hr => wf_mono (hs.w r hr) (by omega)) hvw hni.l0 hni.h0) (by omega))
    repeat first|apply wa1|apply wa2|apply wa3|apply wa4|apply wa5 rfl|apply wa6|apply wa7|(refine wb1 rfl fun R r=>?_;simp only[go_sem, hn_g3];with_reducible refine r _ _ ?_;clear r R)
    refine aw_dr 11 ty_mixed (by kernel_rfl) ?_
    repeat first|apply wa1|apply wa2|apply wa3|apply wa4|apply wa5 rfl|apply wa6|apply wa7|(refine wb1 rfl fun R r=>?_;simp only[go_sem, hn_g3];with_reducible refine r _ _ ?_;clear r R)|apply wa8|(refine wd1 rfl fun R r=>?_;simp only[go_sem, hn_g3];with_reducible refine r _ _ ?_;clear r R)
    refine drk_call (node37_fa d p v i h1' 1000000 ?_ ?_ (fun r hr => wf_mono (hs.w r hr) ?_) hvw hni ?_) rfl rfl rfl (by first|exact True.intro|simp only[go_sem, hn_g3]<;>and_intros<;>first|exact True.intro|exact .c (.refl _)|exact .c wl2|exact .agg (lel_refl _)|exact .agg (by simp only[LeL];and_intros<;>first|exact True.intro|exact .refl _|exact wl2)|exact .c .nils) ?_
    · omega
    · omega
    · omega
    · omega
    (try simp only[go_sem, hn_g3])
    repeat first|apply wa1|apply wa2|apply wa3|apply wa4|apply wa5 rfl|apply wa6|apply wa7|(refine wb1 rfl fun R r=>?_;simp only[go_sem, hn_g3];with_reducible refine r _ _ ?_;clear r R)|apply wa8|(refine wd1 rfl fun R r=>?_;simp only[go_sem, hn_g3];with_reducible refine r _ _ ?_;clear r R)
    refine drk_call (scmp_fa (v.getD i rd0) (rd (nodeQ p v (d.nodes.getD i dn0))) (wf_mono (hvw _ ?_) ?_) hwn) rfl rfl rfl (by first|exact True.intro|simp only[go_sem, hn_g3]<;>and_intros<;>first|exact True.intro|exact .c (.refl _)|exact .c wl2|exact .agg (lel_refl _)|exact .agg (by simp only[LeL];and_intros<;>first|exact True.intro|exact .refl _|exact wl2)|exact .c .nils) ?_
    · rw [getRD (by omega)]; exact List.getElem_mem _
    · omega
    (try simp only[go_sem, hn_g3])
    rw [rd_q]
    repeat first|apply wa1|apply wa2|apply wa3|apply wa4|apply wa5 rfl|apply wa6|apply wa7|(refine wb1 rfl fun R r=>?_;simp only[go_sem, hn_g3, signQ_zero];with_reducible refine r _ _ ?_;clear r R)|apply wa8|(refine wd1 rfl fun R r=>?_;simp only[go_sem, hn_g3, signQ_zero];with_reducible refine r _ _ ?_;clear r R)
    refine aw_cond (by simp only[go_sem, hn_g3, signQ_zero]<;>rfl) (fun h2 => ?_) (fun h2 => ?_)
    · have h2' : (v.getD i rd0).q ≠ nodeQ p v (d.nodes.getD i dn0) := by simpa using h2
      repeat first|apply wa1|apply wa2|apply wa3|apply wa4|apply wa5 rfl|apply wa6|apply wa7|(refine wb1 rfl fun R r=>?_;simp only[go_sem, hn_g3, signQ_zero];with_reducible refine r _ _ ?_;clear r R)|apply wa8|(refine wd1 rfl fun R r=>?_;simp only[go_sem, hn_g3, signQ_zero];with_reducible refine r _ _ ?_;clear r R)
      (refine aw_retq hC rfl fun R r=>?_;simp only[go_sem, hn_g3, signQ_zero];refine r _ rfl ?_;clear r R)
      rw [accB_false h1' h2']
      exact .one (.c (.bool _))
    · have h2' : (v.getD i rd0).q = nodeQ p v (d.nodes.getD i dn0) := by simpa using h2
      repeat first|apply wa1|apply wa2|apply wa3|apply wa4|apply wa5 rfl|apply wa6|apply wa7|(refine wb1 rfl fun R r=>?_;simp only[go_sem, hn_g3, signQ_zero];with_reducible refine r _ _ ?_;clear r R)|apply wa8|(refine wd1 rfl fun R r=>?_;simp only[go_sem, hn_g3, signQ_zero];with_reducible refine r _ _ ?_;clear r R)
      refine aw_stop ⟨i + 1, by omega, (by simp only[go_sem, hn_g3, signQ_zero]<;>and_intros<;>first|exact True.intro|(with_reducible rfl)|exact c_int (by omega)|rfl), (List.Sublist.refl _), by omega, fun j hj => ?_⟩
      by_cases hji : j = i
      · rw [hji]; exact h2'
      · exact hq j (by omega)
  · have h1' : i = d.nodes.length := by have := of_decide_eq_false h1; omega
    subst h1'
    repeat first|apply wa1|apply wa2|apply wa3|apply wa4|apply wa5 rfl|apply wa6|apply wa7|(refine wb1 rfl fun R r=>?_;simp only[go_sem, hn_g3];with_reducible refine r _ _ ?_;clear r R)
    (refine aw_retq hC rfl fun R r=>?_;simp only[go_sem, hn_g3];refine r _ rfl ?_;clear r R)
    rw [accB_true hq]
    exact .one (.c (.bool _))
end Go.Proofs.YtmkomfdiggcloaaGreat

/- faultlinelaw37.ShannonComputes, ShannonAccepts, once awake answers true. -/
namespace Go.Proofs.YtmkomfdiggcloaaGreat
open Go.AI Go.PN
attribute [local irreducible] aw Fa Fh DrK
noncomputable abbrev prR (d : DG) (p : List RD) : RD := if dpcode d p = 0 then rd (sumQ p (tabL d) (2 ^ p.length)) else rd0
theorem pr_fits {d : DG} {p : List RD} (hs : Small d p) : (prR d p).wf 68719476736 := by
  unfold prR
  split
  · rename_i h
    have h6 := hs.o6 h
    obtain ⟨ok, hpl, _⟩ := dp_ok h
    refine rd_wf (fits_mono (fits_sum (L := 4) (by omega) hs.w _) ?_)
    have h3 : 2 ^ p.length ≤ 2 ^ 6 := Nat.pow_le_pow_right (by omega) (by omega)
    have h4 := Nat.mul_le_mul (show (2 * 4 + 2) * p.length + 2 ≤ 62 from by omega) h3
    omega
  · exact rd0_wf
theorem dlen0 (xs : List RD) (h : xs = []) : ((xs.length : Int) == 0) = true := by rw [h]; rfl
set_option maxRecDepth 100000 in
set_option maxHeartbeats 3200000 in
theorem lawComputes_fa (haw : Fa Tryz.prog 13 [] (.c (.bool true))) (d : DG) (p : List RD) (hw : WordsOk p) (hl : p.length ≤ 1099511627776) (hl1 : d.order.length ≤ 1099511627776) (hl2 : d.nodes.length ≤ 1099511627776) :
    Fa Tryz.prog 4 [.agg (dgc false d), .c (rats false p)] (.c (.bool true)) := by
  refine fa_of_body Tryz.func4 rfl rfl (by simp [Tryz.ntmps4]) fun C hC => ?_
  simp only [initS, Nat.reduceAdd]
  repeat first|apply wa1|apply wa2|apply wa3|apply wa4|apply wa5 rfl|apply wa6|apply wa7|(refine wb1 rfl fun R r=>?_;simp only[go_sem];with_reducible refine r _ _ ?_;clear r R)
  refine aw_box rfl rfl rfl (by simp only[go_sem]<;>rfl) (fun _ e => by cases e) rfl fun g2 hn_g2 => ?_
  replace hn_g2 := Heap.ne_of hn_g2
  first | dsimp only [Heap.ne, gh] at hn_g2 | dsimp only [Heap.ne] at hn_g2 | skip
  (try simp only[go_sem, hn_g2])
  repeat first|apply wa1|apply wa2|apply wa3|apply wa4|apply wa5 rfl|apply wa6|apply wa7|(refine wb1 rfl fun R r=>?_;simp only[go_sem, hn_g2];with_reducible refine r _ _ ?_;clear r R)
  refine aw_callq (haw) rfl rfl rfl (by first|exact True.intro|simp only[go_sem, hn_g2]<;>and_intros<;>first|exact True.intro|exact .c (.refl _)|exact .c wl2|exact .agg (lel_refl _)|exact .agg (by simp only[LeL];and_intros<;>first|exact True.intro|exact .refl _|exact wl2)|exact .c .nils) ?_
  (try simp only[go_sem, hn_g2])
  repeat first|apply wa1|apply wa2|apply wa3|apply wa4|apply wa5 rfl|apply wa6|apply wa7|(refine wb1 rfl fun R r=>?_;simp only[go_sem, hn_g2];with_reducible refine r _ _ ?_;clear r R)
  refine aw_callq (large_fa d p hl hl1 hl2) rfl rfl rfl (by first|exact True.intro|simp only[go_sem, hn_g2]<;>and_intros<;>first|exact True.intro|exact .c (.refl _)|exact .c wl2|exact .agg (lel_refl _)|exact .agg (by simp only[LeL];and_intros<;>first|exact True.intro|exact .refl _|exact wl2)|exact .c .nils) ?_
  (try simp only[go_sem, hn_g2])
  repeat first|apply wa1|apply wa2|apply wa3|apply wa4|apply wa5 rfl|apply wa6|apply wa7|(refine wb1 rfl fun R r=>?_;simp only[go_sem, hn_g2];with_reducible refine r _ _ ?_;clear r R)
  refine aw_cond (by simp only[go_sem, hn_g2]<;>rfl) (fun hb => ?_) (fun hb => ?_)
  · repeat first|apply wa1|apply wa2|apply wa3|apply wa4|apply wa5 rfl|apply wa6|apply wa7|(refine wb1 rfl fun R r=>?_;simp only[go_sem, hn_g2];with_reducible refine r _ _ ?_;clear r R)
    refine aw_callq (haw) rfl rfl rfl (by first|exact True.intro|simp only[go_sem, hn_g2]<;>and_intros<;>first|exact True.intro|exact .c (.refl _)|exact .c wl2|exact .agg (lel_refl _)|exact .agg (by simp only[LeL];and_intros<;>first|exact True.intro|exact .refl _|exact wl2)|exact .c .nils) ?_
    (try simp only[go_sem, hn_g2])
    repeat first|apply wa1|apply wa2|apply wa3|apply wa4|apply wa5 rfl|apply wa6|apply wa7|(refine wb1 rfl fun R r=>?_;simp only[go_sem, hn_g2];with_reducible refine r _ _ ?_;clear r R)
    (refine aw_retq hC rfl fun R r=>?_;simp only[go_sem, hn_g2];refine r _ rfl ?_;clear r R)
    exact .one (.c (.bool _))
  · have hs := small_of hw hl2 hb
    have s1 := hs.l
    have s2 := hs.o
    repeat first|apply wa1|apply wa2|apply wa3|apply wa4|apply wa5 rfl|apply wa6|apply wa7|(refine wb1 rfl fun R r=>?_;simp only[go_sem, hn_g2];with_reducible refine r _ _ ?_;clear r R)
    refine aw_callq (sprobability_fa d p hs) rfl rfl rfl (by first|exact True.intro|simp only[go_sem, hn_g2]<;>and_intros<;>first|exact True.intro|exact .c (.refl _)|exact .c wl2|exact .agg (lel_refl _)|exact .agg (by simp only[LeL];and_intros<;>first|exact True.intro|exact .refl _|exact wl2)|exact .c .nils) ?_
    (try simp only[go_sem, hn_g2])
    repeat first|apply wa1|apply wa2|apply wa3|apply wa4|apply wa5 rfl|apply wa6|apply wa7|(refine wb1 rfl fun R r=>?_;simp only[go_sem, hn_g2];with_reducible refine r _ _ ?_;clear r R)
    refine aw_alloc rfl rfl rfl (by simp only[go_sem, hn_g2]<;>rfl) fun g5 hn_g5 => ?_
    replace hn_g5 := Heap.ne_of hn_g5
    first | dsimp only [Heap.ne, gh] at hn_g5 | dsimp only [Heap.ne] at hn_g5 | skip
    (try simp only[go_sem, hn_g2, hn_g5])
    repeat first|apply wa1|apply wa2|apply wa3|apply wa4|apply wa5 rfl|apply wa6|apply wa7|(refine wb1 rfl fun R r=>?_;simp only[go_sem, hn_g2, hn_g5];with_reducible refine r _ _ ?_;clear r R)
    refine aw_store rfl rfl rfl rfl (by simp only[go_sem, hn_g2, hn_g5]<;>rfl) (by simp only[go_sem, hn_g2, hn_g5]<;>rfl) (by simp only[go_sem, hn_g2, hn_g5]<;>rfl) (by simp only[go_sem, hn_g2, hn_g5]<;>rfl) (fun _ e => by cases e) (by rfl) (by rfl) (by first|omega|simp) rfl ?_
    (try simp only[go_sem, hn_g2, hn_g5])
    repeat first|apply wa1|apply wa2|apply wa3|apply wa4|apply wa5 rfl|apply wa6|apply wa7|(refine wb1 rfl fun R r=>?_;simp only[go_sem, hn_g2, hn_g5];with_reducible refine r _ _ ?_;clear r R)
    refine aw_callq (svalues_fa d p hs) rfl rfl rfl (by first|exact True.intro|simp only[go_sem, hn_g2, hn_g5]<;>and_intros<;>first|exact True.intro|exact .c (.refl _)|exact .c wl2|exact .agg (lel_refl _)|exact .agg (by simp only[LeL];and_intros<;>first|exact True.intro|exact .refl _|exact wl2)|exact .c .nils) ?_
    (try simp only[go_sem, hn_g2, hn_g5])
    repeat first|apply wa1|apply wa2|apply wa3|apply wa4|apply wa5 rfl|apply wa6|apply wa7|(refine wb1 rfl fun R r=>?_;simp only[go_sem, hn_g2, hn_g5];with_reducible refine r _ _ ?_;clear r R)
    refine aw_dr 12 ty_mixed (by kernel_rfl) ?_
    repeat first|apply wa1|apply wa2|apply wa3|apply wa4|apply wa5 rfl|apply wa6|apply wa7|(refine wb1 rfl fun R r=>?_;simp only[go_sem, hn_g2, hn_g5];with_reducible refine r _ _ ?_;clear r R)|apply wa8|(refine wd1 rfl fun R r=>?_;simp only[go_sem, hn_g2, hn_g5];with_reducible refine r _ _ ?_;clear r R)
    refine drk_call (scheck_fa p d.order.length hs.w5 ?_) rfl rfl rfl (by first|exact True.intro|simp only[go_sem, hn_g2, hn_g5]<;>and_intros<;>first|exact True.intro|exact .c (.refl _)|exact .c wl2|exact .agg (lel_refl _)|exact .agg (by simp only[LeL];and_intros<;>first|exact True.intro|exact .refl _|exact wl2)|exact .c .nils) ?_
    · omega
    (try simp only[go_sem, hn_g2, hn_g5])
    repeat first|apply wa1|apply wa2|apply wa3|apply wa4|apply wa5 rfl|apply wa6|apply wa7|(refine wb1 rfl fun R r=>?_;simp only[go_sem, hn_g2, hn_g5];with_reducible refine r _ _ ?_;clear r R)|apply wa8|(refine wd1 rfl fun R r=>?_;simp only[go_sem, hn_g2, hn_g5];with_reducible refine r _ _ ?_;clear r R)
    refine drk_call (num_fa (pcode p d.order.length)) rfl rfl rfl (by first|exact True.intro|simp only[go_sem, hn_g2, hn_g5]<;>and_intros<;>first|exact True.intro|exact .c (.refl _)|exact .c wl2|exact .agg (lel_refl _)|exact .agg (by simp only[LeL];and_intros<;>first|exact True.intro|exact .refl _|exact wl2)|exact .c .nils) ?_
    (try simp only[go_sem, hn_g2, hn_g5])
    repeat first|apply wa1|apply wa2|apply wa3|apply wa4|apply wa5 rfl|apply wa6|apply wa7|(refine wb1 rfl fun R r=>?_;simp only[go_sem, hn_g2, hn_g5];with_reducible refine r _ _ ?_;clear r R)|apply wa8|(refine wd1 rfl fun R r=>?_;simp only[go_sem, hn_g2, hn_g5];with_reducible refine r _ _ ?_;clear r R)
    refine drk_call (check37_fa p d.order.length hs.w5 ?_) rfl rfl rfl (by first|exact True.intro|simp only[go_sem, hn_g2, hn_g5]<;>and_intros<;>first|exact True.intro|exact .c (.refl _)|exact .c wl2|exact .agg (lel_refl _)|exact .agg (by simp only[LeL];and_intros<;>first|exact True.intro|exact .refl _|exact wl2)|exact .c .nils) ?_
    · omega
    (try simp only[go_sem, hn_g2, hn_g5])
    have e1 : (pcode p d.order.length != pcode p d.order.length) = false := by simp
    repeat first|apply wa1|apply wa2|apply wa3|apply wa4|apply wa5 rfl|apply wa6|apply wa7|(refine wb1 rfl fun R r=>?_;simp only[go_sem, hn_g2, hn_g5, e1];with_reducible refine r _ _ ?_;clear r R)|apply wa8|(refine wd1 rfl fun R r=>?_;simp only[go_sem, hn_g2, hn_g5, e1];with_reducible refine r _ _ ?_;clear r R)
    refine aw_condF (by simp only[go_sem, hn_g2, hn_g5, e1]<;>rfl) ?_
    repeat first|apply wa1|apply wa2|apply wa3|apply wa4|apply wa5 rfl|apply wa6|apply wa7|(refine wb1 rfl fun R r=>?_;simp only[go_sem, hn_g2, hn_g5, e1];with_reducible refine r _ _ ?_;clear r R)|apply wa8|(refine wd1 rfl fun R r=>?_;simp only[go_sem, hn_g2, hn_g5, e1];with_reducible refine r _ _ ?_;clear r R)
    refine aw_callq (checkDiagram_fa d p hs.w5 ?_ ?_ ?_) rfl rfl rfl (by first|exact True.intro|simp only[go_sem, hn_g2, hn_g5, e1]<;>and_intros<;>first|exact True.intro|exact .c (.refl _)|exact .c wl2|exact .agg (lel_refl _)|exact .agg (by simp only[LeL];and_intros<;>first|exact True.intro|exact .refl _|exact wl2)|exact .c .nils) ?_
    · omega
    · omega
    · omega
    (try simp only[go_sem, hn_g2, hn_g5, e1])
    repeat first|apply wa1|apply wa2|apply wa3|apply wa4|apply wa5 rfl|apply wa6|apply wa7|(refine wb1 rfl fun R r=>?_;simp only[go_sem, hn_g2, hn_g5, e1];with_reducible refine r _ _ ?_;clear r R)|apply wa8|(refine wd1 rfl fun R r=>?_;simp only[go_sem, hn_g2, hn_g5, e1];with_reducible refine r _ _ ?_;clear r R)
    refine aw_cond (by simp only[go_sem, hn_g2, hn_g5, e1]<;>rfl) (fun hdp => ?_) (fun hdp => ?_)
    · have hdp' : dpcode d p ≠ 0 := by simpa using hdp
      have hz0 : decide (prR d p = rd0) = true := by unfold prR; rw [if_neg hdp']; simp
      have hz1 := dlen0 (if dpcode d p = 0 then valsL p d.nodes [] else []) (by rw [if_neg hdp'])
      have hz2 : (dpcode d p == dpcode d p) = true := by simp
      repeat first|apply wa1|apply wa2|apply wa3|apply wa4|apply wa5 rfl|apply wa6|apply wa7|(refine wb1 rfl fun R r=>?_;simp only[go_sem, hn_g2, hn_g5, e1, hz1, hz2];with_reducible refine r _ _ ?_;clear r R)
      refine aw_callq (zero37_fa (prR d p) (pr_fits hs)) rfl rfl rfl (by first|exact True.intro|simp only[go_sem, hn_g2, hn_g5, e1, hz1, hz2]<;>and_intros<;>first|exact True.intro|exact .c (.refl _)|exact .c wl2|exact .agg (lel_refl _)|exact .agg (by simp only[LeL];and_intros<;>first|exact True.intro|exact .refl _|exact wl2)|exact .c .nils) ?_
      (try simp only[go_sem, hn_g2, hn_g5, e1, hz1, hz2])
      rw [hz0]
      repeat first|apply wa1|apply wa2|apply wa3|apply wa4|apply wa5 rfl|apply wa6|apply wa7|(refine wb1 rfl fun R r=>?_;simp only[go_sem, hn_g2, hn_g5, e1, hz1, hz2];with_reducible refine r _ _ ?_;clear r R)
      refine aw_callq (num_fa (dpcode d p)) rfl rfl rfl (by first|exact True.intro|simp only[go_sem, hn_g2, hn_g5, e1, hz1, hz2]<;>and_intros<;>first|exact True.intro|exact .c (.refl _)|exact .c wl2|exact .agg (lel_refl _)|exact .agg (by simp only[LeL];and_intros<;>first|exact True.intro|exact .refl _|exact wl2)|exact .c .nils) ?_
      (try simp only[go_sem, hn_g2, hn_g5, e1, hz1, hz2])
      repeat first|apply wa1|apply wa2|apply wa3|apply wa4|apply wa5 rfl|apply wa6|apply wa7|(refine wb1 rfl fun R r=>?_;simp only[go_sem, hn_g2, hn_g5, e1, hz1, hz2];with_reducible refine r _ _ ?_;clear r R)
      refine aw_callq (num_fa (dpcode d p)) rfl rfl rfl (by first|exact True.intro|simp only[go_sem, hn_g2, hn_g5, e1, hz1, hz2]<;>and_intros<;>first|exact True.intro|exact .c (.refl _)|exact .c wl2|exact .agg (lel_refl _)|exact .agg (by simp only[LeL];and_intros<;>first|exact True.intro|exact .refl _|exact wl2)|exact .c .nils) ?_
      (try simp only[go_sem, hn_g2, hn_g5, e1, hz1, hz2])
      repeat first|apply wa1|apply wa2|apply wa3|apply wa4|apply wa5 rfl|apply wa6|apply wa7|(refine wb1 rfl fun R r=>?_;simp only[go_sem, hn_g2, hn_g5, e1, hz1, hz2];with_reducible refine r _ _ ?_;clear r R)
      (refine aw_retq hC rfl fun R r=>?_;simp only[go_sem, hn_g2, hn_g5, e1, hz1, hz2];refine r _ rfl ?_;clear r R)
      exact .one (.c (.bool _))
    · have hdp' : dpcode d p = 0 := by simpa using hdp
      obtain ⟨ok, hpl, hpr⟩ := dp_ok hdp'
      have h6 := hs.o6 hdp'
      have k1 := ok.n4096
      have hv1 : (if dpcode d p = 0 then valsL p d.nodes [] else []) = valsL p d.nodes [] := by rw [if_pos hdp']
      have hvw := vals_wf ok hpl (L := 4) (by omega) hs.w (Bl46 h6)
      have hq : prR d p = rd (sumQ p (tabL d) (2 ^ p.length)) := by unfold prR; rw [if_pos hdp']
      have e2 : decide (dpcode d p = 0) = true := by simp [hdp']
      repeat first|apply wa1|apply wa2|apply wa3|apply wa4|apply wa5 rfl|apply wa6|apply wa7|(refine wb1 rfl fun R r=>?_;simp only[go_sem, hn_g2, hn_g5, e1, e2];with_reducible refine r _ _ ?_;clear r R)
      refine aw_dr 21 ty_mixed (by kernel_rfl) ?_
      repeat first|apply wa1|apply wa2|apply wa3|apply wa4|apply wa5 rfl|apply wa6|apply wa7|(refine wb1 rfl fun R r=>?_;simp only[go_sem, hn_g2, hn_g5, e1, e2];with_reducible refine r _ _ ?_;clear r R)|apply wa8|(refine wd1 rfl fun R r=>?_;simp only[go_sem, hn_g2, hn_g5, e1, e2];with_reducible refine r _ _ ?_;clear r R)
      refine drk_call (prob37_fa d p d.order.length ?_ ok.ns ok.r0 ?_ ?_ 4 ?_ ?_ hs.w ?_ hpl) rfl rfl rfl (by first|exact True.intro|simp only[go_sem, hn_g2, hn_g5, e1, e2]<;>and_intros<;>first|exact True.intro|exact .c (.refl _)|exact .c wl2|exact .agg (lel_refl _)|exact .agg (by simp only[LeL];and_intros<;>first|exact True.intro|exact .refl _|exact wl2)|exact .c .nils) ?_
      · omega
      · have := ok.r1; omega
      · omega
      · omega
      · omega
      · omega
      (try simp only[go_sem, hn_g2, hn_g5, e1, e2])
      repeat first|apply wa1|apply wa2|apply wa3|apply wa4|apply wa5 rfl|apply wa6|apply wa7|(refine wb1 rfl fun R r=>?_;simp only[go_sem, hn_g2, hn_g5, e1, e2];with_reducible refine r _ _ ?_;clear r R)|apply wa8|(refine wd1 rfl fun R r=>?_;simp only[go_sem, hn_g2, hn_g5, e1, e2];with_reducible refine r _ _ ?_;clear r R)
      refine drk_call (ratEq_fa (prR d p) (rd (sumQ p (tabL d) (2 ^ p.length))) (pr_fits hs)) rfl rfl rfl (by first|exact True.intro|simp only[go_sem, hn_g2, hn_g5, e1, e2]<;>and_intros<;>first|exact True.intro|exact .c (.refl _)|exact .c wl2|exact .agg (lel_refl _)|exact .agg (by simp only[LeL];and_intros<;>first|exact True.intro|exact .refl _|exact wl2)|exact .c .nils) ?_
      (try simp only[go_sem, hn_g2, hn_g5, e1, e2])
      rw [rdec_eq hq]
      repeat first|apply wa1|apply wa2|apply wa3|apply wa4|apply wa5 rfl|apply wa6|apply wa7|(refine wb1 rfl fun R r=>?_;simp only[go_sem, hn_g2, hn_g5, e1, e2];with_reducible refine r _ _ ?_;clear r R)|apply wa8|(refine wd1 rfl fun R r=>?_;simp only[go_sem, hn_g2, hn_g5, e1, e2];with_reducible refine r _ _ ?_;clear r R)
      refine drk_call (values37_fa d p 1000 ?_ ?_ (fun r hr => wf_mono (hs.w r hr) ?_) hvw (ns_len ok hpl) ?_) rfl rfl rfl (by first|exact True.intro|simp only[go_sem, hn_g2, hn_g5, e1, e2]<;>and_intros<;>first|exact True.intro|exact .c (.refl _)|exact .c wl2|exact .agg (lel_refl _)|exact .agg (by simp only[LeL];and_intros<;>first|exact True.intro|exact .refl _|exact wl2)|exact .c .nils) ?_
      · omega
      · omega
      · omega
      · omega
      (try simp only[go_sem, hn_g2, hn_g5, e1, e2])
      repeat first|apply wa1|apply wa2|apply wa3|apply wa4|apply wa5 rfl|apply wa6|apply wa7|(refine wb1 rfl fun R r=>?_;simp only[go_sem, hn_g2, hn_g5, e1, e2];with_reducible refine r _ _ ?_;clear r R)|apply wa8|(refine wd1 rfl fun R r=>?_;simp only[go_sem, hn_g2, hn_g5, e1, e2];with_reducible refine r _ _ ?_;clear r R)
      refine drk_call (rats_fa (if dpcode d p = 0 then valsL p d.nodes [] else []) (valsL p d.nodes []) ?_ ?_) rfl rfl rfl (by first|exact True.intro|simp only[go_sem, hn_g2, hn_g5, e1, e2]<;>and_intros<;>first|exact True.intro|exact .c (.refl _)|exact .c wl2|exact .agg (lel_refl _)|exact .agg (by simp only[LeL];and_intros<;>first|exact True.intro|exact .refl _|exact wl2)|exact .c .nils) ?_
      · rw [hv1]; intro x hx; exact wf_mono (hvw d.nodes.length (Nat.le_refl _) x (by rw [List.take_length]; exact hx)) (by omega)
      · rw [hv1, vlen]; omega
      (try simp only[go_sem, hn_g2, hn_g5, e1, e2])
      rw [decide_eq_true hv1]
      repeat first|apply wa1|apply wa2|apply wa3|apply wa4|apply wa5 rfl|apply wa6|apply wa7|(refine wb1 rfl fun R r=>?_;simp only[go_sem, hn_g2, hn_g5, e1, e2];with_reducible refine r _ _ ?_;clear r R)|apply wa8|(refine wd1 rfl fun R r=>?_;simp only[go_sem, hn_g2, hn_g5, e1, e2];with_reducible refine r _ _ ?_;clear r R)
      (refine aw_retq hC rfl fun R r=>?_;simp only[go_sem, hn_g2, hn_g5, e1, e2];refine r _ rfl ?_;clear r R)
      exact .one (.c (.bool _))
theorem nodes300 {d : DG} {p : List RD} (h : largeB d p = false) (h0 : d.nodes.length ≤ 4096) : d.nodes.length ≤ 300 := by
  unfold largeB largeA at h
  simp only [Bool.or_eq_false_iff, Bool.and_eq_false_iff, decide_eq_false_iff_not] at h
  omega
abbrev dg0 : DG := ⟨[], [], 0⟩
set_option maxRecDepth 100000 in
set_option maxHeartbeats 3200000 in
theorem lawAccepts_fa (haw : Fa Tryz.prog 13 [] (.c (.bool true))) (d : DG) (p v : List RD) (hw : WordsOk p) (hwv : WordsOk v) (hl : p.length ≤ 1099511627776) (hlv : v.length ≤ 1099511627776) (hl1 : d.order.length ≤ 1099511627776) (hl2 : d.nodes.length ≤ 1099511627776) :
    Fa Tryz.prog 5 [.agg (dgc false d), .c (rats false p), .c (rats false v)] (.c (.bool true)) := by
  refine fa_of_body Tryz.func5 rfl rfl (by simp [Tryz.ntmps5]) fun C hC => ?_
  simp only [initS, Nat.reduceAdd]
  apply aw_seq
  apply aw_region
  refine aw_box rfl rfl rfl (by simp only[go_sem]<;>rfl) (fun _ e => by cases e) rfl fun g3 hn_g3 => ?_
  replace hn_g3 := Heap.ne_of hn_g3
  first | dsimp only [Heap.ne, gh] at hn_g3 | dsimp only [Heap.ne] at hn_g3 | skip
  (try simp only[go_sem, hn_g3])
  repeat first|apply wa7|(refine wb1 rfl fun R r=>?_;simp only[go_sem, hn_g3];with_reducible refine r _ _ ?_;clear r R)
  apply aw_seq
  refine aw_cut (fun _ : Unit => [(1, .c (rats false p)), (2, .c (rats false v)), (3, .c (.optr g3 0))]) (fun _ => [(g3, .cells 25 3 (ofL (dgc false d)))]) (fun _ => largeB d p = false ∧ (largeB dg0 v = false ∨ ¬ v.length ≤ 300)) ?_ ?_
  · repeat first|apply wa1|apply wa2|apply wa3|apply wa4|apply wa5 rfl|apply wa6|apply wa7|(refine wb1 rfl fun R r=>?_;simp only[go_sem, hn_g3];with_reducible refine r _ _ ?_;clear r R)
    refine aw_callq (haw) rfl rfl rfl (by first|exact True.intro|simp only[go_sem, hn_g3]<;>and_intros<;>first|exact True.intro|exact .c (.refl _)|exact .c wl2|exact .agg (lel_refl _)|exact .agg (by simp only[LeL];and_intros<;>first|exact True.intro|exact .refl _|exact wl2)|exact .c .nils) ?_
    (try simp only[go_sem, hn_g3])
    repeat first|apply wa1|apply wa2|apply wa3|apply wa4|apply wa5 rfl|apply wa6|apply wa7|(refine wb1 rfl fun R r=>?_;simp only[go_sem, hn_g3];with_reducible refine r _ _ ?_;clear r R)
    refine aw_callq (large_fa d p hl hl1 hl2) rfl rfl rfl (by first|exact True.intro|simp only[go_sem, hn_g3]<;>and_intros<;>first|exact True.intro|exact .c (.refl _)|exact .c wl2|exact .agg (lel_refl _)|exact .agg (by simp only[LeL];and_intros<;>first|exact True.intro|exact .refl _|exact wl2)|exact .c .nils) ?_
    (try simp only[go_sem, hn_g3])
    repeat first|apply wa1|apply wa2|apply wa3|apply wa4|apply wa5 rfl|apply wa6|apply wa7|(refine wb1 rfl fun R r=>?_;simp only[go_sem, hn_g3];with_reducible refine r _ _ ?_;clear r R)
    refine aw_split 17 (by simp only[go_sem, hn_g3]<;>rfl) (fun hb => ?_) (fun hb => ?_) <;> (try simp only[go_sem, hn_g3])
    · iterate 3 (refine wb1 rfl fun R r=>?_;simp only[go_sem, hn_g3];with_reducible refine r _ _ ?_;clear r R)
      refine aw_skipU (by simp only[go_sem, hn_g3]<;>rfl) rfl ?_
      (try simp only[go_sem, hn_g3])
      iterate 3 (refine aw_skipN rfl rfl (by simp only[go_sem, hn_g3]<;>rfl) rfl ?_; (try simp only[go_sem, hn_g3]))
      repeat first|apply wa1|apply wa2|apply wa3|apply wa4|apply wa5 rfl|apply wa6|apply wa7|(refine wb1 rfl fun R r=>?_;simp only[go_sem, hn_g3];with_reducible refine r _ _ ?_;clear r R)|apply wa8|(refine wd1 rfl fun R r=>?_;simp only[go_sem, hn_g3];with_reducible refine r _ _ ?_;clear r R)
      refine aw_condT (by simp only[go_sem, hn_g3]<;>rfl) ?_
      repeat first|apply wa1|apply wa2|apply wa3|apply wa4|apply wa5 rfl|apply wa6|apply wa7|(refine wb1 rfl fun R r=>?_;simp only[go_sem, hn_g3];with_reducible refine r _ _ ?_;clear r R)|apply wa8|(refine wd1 rfl fun R r=>?_;simp only[go_sem, hn_g3];with_reducible refine r _ _ ?_;clear r R)
      refine aw_callq (haw) rfl rfl rfl (by first|exact True.intro|simp only[go_sem, hn_g3]<;>and_intros<;>first|exact True.intro|exact .c (.refl _)|exact .c wl2|exact .agg (lel_refl _)|exact .agg (by simp only[LeL];and_intros<;>first|exact True.intro|exact .refl _|exact wl2)|exact .c .nils) ?_
      (try simp only[go_sem, hn_g3])
      repeat first|apply wa1|apply wa2|apply wa3|apply wa4|apply wa5 rfl|apply wa6|apply wa7|(refine wb1 rfl fun R r=>?_;simp only[go_sem, hn_g3];with_reducible refine r _ _ ?_;clear r R)|apply wa8|(refine wd1 rfl fun R r=>?_;simp only[go_sem, hn_g3];with_reducible refine r _ _ ?_;clear r R)
      (refine aw_retq hC rfl fun R r=>?_;simp only[go_sem, hn_g3];refine r _ rfl ?_;clear r R)
      exact .one (.c (.bool _))
    · repeat first|apply wa1|apply wa2|apply wa3|apply wa4|apply wa5 rfl|apply wa6|apply wa7|(refine wb1 rfl fun R r=>?_;simp only[go_sem, hn_g3];with_reducible refine r _ _ ?_;clear r R)|apply wa8|(refine wd1 rfl fun R r=>?_;simp only[go_sem, hn_g3];with_reducible refine r _ _ ?_;clear r R)
      refine aw_callq (large_fa dg0 v hlv (by simp) (by simp)) rfl rfl rfl (by (try simp only[go_sem, hn_g3]); exact ⟨.agg ⟨.nils, .nils, .refl _, trivial⟩, .c (.refl _)⟩) ?_
      (try simp only[go_sem, hn_g3])
      repeat first|apply wa1|apply wa2|apply wa3|apply wa4|apply wa5 rfl|apply wa6|apply wa7|(refine wb1 rfl fun R r=>?_;simp only[go_sem, hn_g3];with_reducible refine r _ _ ?_;clear r R)|apply wa8|(refine wd1 rfl fun R r=>?_;simp only[go_sem, hn_g3];with_reducible refine r _ _ ?_;clear r R)
      refine aw_split 21 (by simp only[go_sem, hn_g3]<;>rfl) (fun hc => ?_) (fun hc => ?_) <;> (try simp only[go_sem, hn_g3])
      · repeat first|apply wa1|apply wa2|apply wa3|apply wa4|apply wa5 rfl|apply wa6|apply wa7|(refine wb1 rfl fun R r=>?_;simp only[go_sem, hn_g3];with_reducible refine r _ _ ?_;clear r R)|apply wa8|(refine wd1 rfl fun R r=>?_;simp only[go_sem, hn_g3];with_reducible refine r _ _ ?_;clear r R)
        refine aw_cond (by simp only[go_sem, hn_g3]<;>rfl) (fun hd => ?_) (fun hd => ?_)
        · repeat first|apply wa1|apply wa2|apply wa3|apply wa4|apply wa5 rfl|apply wa6|apply wa7|(refine wb1 rfl fun R r=>?_;simp only[go_sem, hn_g3];with_reducible refine r _ _ ?_;clear r R)
          refine aw_callq (haw) rfl rfl rfl (by first|exact True.intro|simp only[go_sem, hn_g3]<;>and_intros<;>first|exact True.intro|exact .c (.refl _)|exact .c wl2|exact .agg (lel_refl _)|exact .agg (by simp only[LeL];and_intros<;>first|exact True.intro|exact .refl _|exact wl2)|exact .c .nils) ?_
          (try simp only[go_sem, hn_g3])
          repeat first|apply wa1|apply wa2|apply wa3|apply wa4|apply wa5 rfl|apply wa6|apply wa7|(refine wb1 rfl fun R r=>?_;simp only[go_sem, hn_g3];with_reducible refine r _ _ ?_;clear r R)
          (refine aw_retq hC rfl fun R r=>?_;simp only[go_sem, hn_g3];refine r _ rfl ?_;clear r R)
          exact .one (.c (.bool _))
        · repeat first|apply wa1|apply wa2|apply wa3|apply wa4|apply wa5 rfl|apply wa6|apply wa7|(refine wb1 rfl fun R r=>?_;simp only[go_sem, hn_g3];with_reducible refine r _ _ ?_;clear r R)
          exact aw_stop ⟨(), (by simp only[go_sem, hn_g3]<;>and_intros<;>first|exact True.intro|(with_reducible rfl)|exact c_int (by omega)|rfl), (List.Sublist.refl _), hb, .inr (by have := of_decide_eq_false hd; omega)⟩
      · repeat first|apply wa1|apply wa2|apply wa3|apply wa4|apply wa5 rfl|apply wa6|apply wa7|(refine wb1 rfl fun R r=>?_;simp only[go_sem, hn_g3];with_reducible refine r _ _ ?_;clear r R)
        refine aw_condF (by simp only[go_sem, hn_g3]<;>rfl) ?_
        repeat first|apply wa1|apply wa2|apply wa3|apply wa4|apply wa5 rfl|apply wa6|apply wa7|(refine wb1 rfl fun R r=>?_;simp only[go_sem, hn_g3];with_reducible refine r _ _ ?_;clear r R)
        exact aw_stop ⟨(), (by simp only[go_sem, hn_g3]<;>and_intros<;>first|exact True.intro|(with_reducible rfl)|exact c_int (by omega)|rfl), (List.Sublist.refl _), hb, .inl hc⟩
  · rintro _ ⟨hb, hv0⟩
    have hs := small_of hw hl2 hb
    have s1 := hs.l
    have s2 := hs.o
    have hvw : dpcode d p = 0 → v.length = d.nodes.length → ∀ x ∈ v, x.wf 1000000 := fun h0 hvl => by
      obtain ⟨ok, _, _⟩ := dp_ok h0
      have := nodes300 hb ok.n4096
      have hf : largeB dg0 v = false := hv0.resolve_right (by omega)
      exact fun x hx => wf_mono ((small_of hwv (by simp) hf).w x hx) (by omega)
    repeat first|apply wa1|apply wa2|apply wa3|apply wa4|apply wa5 rfl|apply wa6|apply wa7|(refine wb1 rfl fun R r=>?_;simp only[go_sem, hn_g3];with_reducible refine r _ _ ?_;clear r R)
    refine aw_callq (saccepts_fa d p v hs hlv hvw) rfl rfl rfl (by first|exact True.intro|simp only[go_sem, hn_g3]<;>and_intros<;>first|exact True.intro|exact .c (.refl _)|exact .c wl2|exact .agg (lel_refl _)|exact .agg (by simp only[LeL];and_intros<;>first|exact True.intro|exact .refl _|exact wl2)|exact .c .nils) ?_
    (try simp only[go_sem, hn_g3])
    repeat first|apply wa1|apply wa2|apply wa3|apply wa4|apply wa5 rfl|apply wa6|apply wa7|(refine wb1 rfl fun R r=>?_;simp only[go_sem, hn_g3];with_reducible refine r _ _ ?_;clear r R)
    refine aw_callq (checkDiagram_fa d p hs.w5 ?_ ?_ ?_) rfl rfl rfl (by first|exact True.intro|simp only[go_sem, hn_g3]<;>and_intros<;>first|exact True.intro|exact .c (.refl _)|exact .c wl2|exact .agg (lel_refl _)|exact .agg (by simp only[LeL];and_intros<;>first|exact True.intro|exact .refl _|exact wl2)|exact .c .nils) ?_
    · omega
    · omega
    · omega
    (try simp only[go_sem, hn_g3])
    repeat first|apply wa1|apply wa2|apply wa3|apply wa4|apply wa5 rfl|apply wa6|apply wa7|(refine wb1 rfl fun R r=>?_;simp only[go_sem, hn_g3];with_reducible refine r _ _ ?_;clear r R)
    refine aw_split 40 (by simp only[go_sem, hn_g3]<;>rfl) (fun hdp => ?_) (fun hdp => ?_) <;> (try simp only[go_sem, hn_g3])
    · have hdp' : dpcode d p = 0 := by simpa using hdp
      repeat first|apply wa1|apply wa2|apply wa3|apply wa4|apply wa5 rfl|apply wa6|apply wa7|(refine wb1 rfl fun R r=>?_;simp only[go_sem, hn_g3];with_reducible refine r _ _ ?_;clear r R)
      refine aw_cond (by simp only[go_sem, hn_g3]<;>rfl) (fun hln => ?_) (fun hln => ?_)
      · have hln' : v.length ≠ d.nodes.length := fun e => by rw [e] at hln; simp at hln
        have ha : acode d p v = 11 := by unfold acode; rw [if_neg (by simp [hdp']), if_pos hln']
        have e3 : (decide (acode d p v = 0) && accB p v d.nodes) = false := by simp [ha]
        rw [e3, ha]
        repeat first|apply wa1|apply wa2|apply wa3|apply wa4|apply wa5 rfl|apply wa6|apply wa7|(refine wb1 rfl fun R r=>?_;simp only[go_sem, hn_g3];with_reducible refine r _ _ ?_;clear r R)
        refine aw_condT (by simp only[go_sem, hn_g3]<;>rfl) ?_
        repeat first|apply wa1|apply wa2|apply wa3|apply wa4|apply wa5 rfl|apply wa6|apply wa7|(refine wb1 rfl fun R r=>?_;simp only[go_sem, hn_g3];with_reducible refine r _ _ ?_;clear r R)
        refine aw_callq (num_fa 11) rfl rfl rfl (by first|exact True.intro|simp only[go_sem, hn_g3]<;>and_intros<;>first|exact True.intro|exact .c (.refl _)|exact .c wl2|exact .agg (lel_refl _)|exact .agg (by simp only[LeL];and_intros<;>first|exact True.intro|exact .refl _|exact wl2)|exact .c .nils) ?_
        (try simp only[go_sem, hn_g3])
        repeat first|apply wa1|apply wa2|apply wa3|apply wa4|apply wa5 rfl|apply wa6|apply wa7|(refine wb1 rfl fun R r=>?_;simp only[go_sem, hn_g3];with_reducible refine r _ _ ?_;clear r R)
        (refine aw_retq hC rfl fun R r=>?_;simp only[go_sem, hn_g3];refine r _ rfl ?_;clear r R)
        exact .one (.c (.bool _))
      · have hln' : v.length = d.nodes.length := by
          have : ((v.length : Int) == (d.nodes.length : Int)) = true := by simpa [bne] using hln
          have := eq_of_beq this; omega
        have ha : acode d p v = 0 := by unfold acode; rw [if_neg (by simp [hdp']), if_neg (by simp [hln'])]
        have e1 : (dpcode d p != 0) = false := by simp [hdp']
        have e2 : (accB p v d.nodes == accB p v d.nodes) = true := by simp
        have e3 : (decide (acode d p v = 0) && accB p v d.nodes) = accB p v d.nodes := by simp [ha]
        have e4 : decide (acode d p v = 0) = true := by simp [ha]
        rw [e3]
        repeat first|apply wa1|apply wa2|apply wa3|apply wa4|apply wa5 rfl|apply wa6|apply wa7|(refine wb1 rfl fun R r=>?_;simp only[go_sem, hn_g3, e1, e2, e4];with_reducible refine r _ _ ?_;clear r R)
        refine aw_condF (by simp only[go_sem, hn_g3, e1, e2, e4]<;>rfl) ?_
        repeat first|apply wa1|apply wa2|apply wa3|apply wa4|apply wa5 rfl|apply wa6|apply wa7|(refine wb1 rfl fun R r=>?_;simp only[go_sem, hn_g3, e1, e2, e4];with_reducible refine r _ _ ?_;clear r R)
        refine aw_callq (accepts37_fa d p v hs hdp' hln' (hvw hdp' hln')) rfl rfl rfl (by first|exact True.intro|simp only[go_sem, hn_g3, e1, e2, e4]<;>and_intros<;>first|exact True.intro|exact .c (.refl _)|exact .c wl2|exact .agg (lel_refl _)|exact .agg (by simp only[LeL];and_intros<;>first|exact True.intro|exact .refl _|exact wl2)|exact .c .nils) ?_
        (try simp only[go_sem, hn_g3, e1, e2, e4])
        repeat first|apply wa1|apply wa2|apply wa3|apply wa4|apply wa5 rfl|apply wa6|apply wa7|(refine wb1 rfl fun R r=>?_;simp only[go_sem, hn_g3, e1, e2, e4];with_reducible refine r _ _ ?_;clear r R)
        (refine aw_retq hC rfl fun R r=>?_;simp only[go_sem, hn_g3, e1, e2, e4];refine r _ rfl ?_;clear r R)
        exact .one (.c (.bool _))
    · have hdp' : dpcode d p ≠ 0 := by simpa using hdp
      have ha : acode d p v = dpcode d p := by unfold acode; rw [if_pos hdp']
      have e1 : (dpcode d p != 0) = true := by simpa using hdp'
      have e3 : (decide (dpcode d p = 0) && accB p v d.nodes) = false := by simp [hdp']
      have e2 : (dpcode d p == dpcode d p) = true := by simp
      rw [ha, e3]
      repeat first|apply wa1|apply wa2|apply wa3|apply wa4|apply wa5 rfl|apply wa6|apply wa7|(refine wb1 rfl fun R r=>?_;simp only[go_sem, hn_g3, e1, e2];with_reducible refine r _ _ ?_;clear r R)
      refine aw_condF (by simp only[go_sem, hn_g3, e1, e2]<;>rfl) ?_
      repeat first|apply wa1|apply wa2|apply wa3|apply wa4|apply wa5 rfl|apply wa6|apply wa7|(refine wb1 rfl fun R r=>?_;simp only[go_sem, hn_g3, e1, e2];with_reducible refine r _ _ ?_;clear r R)
      refine aw_condT (by simp only[go_sem, hn_g3, e1, e2]<;>rfl) ?_
      repeat first|apply wa1|apply wa2|apply wa3|apply wa4|apply wa5 rfl|apply wa6|apply wa7|(refine wb1 rfl fun R r=>?_;simp only[go_sem, hn_g3, e1, e2];with_reducible refine r _ _ ?_;clear r R)
      refine aw_callq (num_fa (dpcode d p)) rfl rfl rfl (by first|exact True.intro|simp only[go_sem, hn_g3, e1, e2]<;>and_intros<;>first|exact True.intro|exact .c (.refl _)|exact .c wl2|exact .agg (lel_refl _)|exact .agg (by simp only[LeL];and_intros<;>first|exact True.intro|exact .refl _|exact wl2)|exact .c .nils) ?_
      (try simp only[go_sem, hn_g3, e1, e2])
      repeat first|apply wa1|apply wa2|apply wa3|apply wa4|apply wa5 rfl|apply wa6|apply wa7|(refine wb1 rfl fun R r=>?_;simp only[go_sem, hn_g3, e1, e2];with_reducible refine r _ _ ?_;clear r R)
      (refine aw_retq hC rfl fun R r=>?_;simp only[go_sem, hn_g3, e1, e2];refine r _ rfl ?_;clear r R)
      exact .one (.c (.bool _))
end Go.Proofs.YtmkomfdiggcloaaGreat
