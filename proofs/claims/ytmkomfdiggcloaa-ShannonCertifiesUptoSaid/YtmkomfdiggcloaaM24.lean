/- Texts of one proof, laid one behind the other by a program (merge.py): Law5. -/
import Derived.Test.YtmkomfdiggcloaaM23
set_option linter.unusedSimpArgs false
set_option linter.unusedVariables false
/- faultlinelaw37.ShannonCertifies. -/
namespace Go.Proofs.Ytmkomfdiggcloaa
open Go.AI Go.PN
theorem vals_split (p : List RD) (ns : List DN) : ∀ (j k : Nat), k + j = ns.length → ∃ xs, valsL p ns [] = valsL p (ns.take k) [] ++ xs
  | 0, k, h => ⟨[], by rw [List.append_nil, List.take_of_length_le (by omega)]⟩
  | j + 1, k, h => by
    obtain ⟨xs, e⟩ := vals_split p ns j (k + 1) (by omega)
    rw [vals_take (by omega)] at e
    exact ⟨_, by rw [e, List.append_assoc]⟩
theorem ref_ext {v xs : List RD} {r : Int} (h0 : 0 ≤ r) (h : r < v.length + 2) : refRD (v ++ xs) r = refRD v r := by
  unfold refRD
  split
  · rfl
  · rw [List.getD_eq_getElem?_getD, List.getD_eq_getElem?_getD, List.getElem?_append_left (by omega)]
theorem ref_set {v : List RD} {y : RD} {i : Nat} {r : Int} (h : r < i + 2) : refRD (v.set i y) r = refRD v r := by
  unfold refRD
  split
  · rfl
  · rw [List.getD_eq_getElem?_getD, List.getD_eq_getElem?_getD, List.getElem?_set_ne (by omega)]
/-- The values answer the equations of the nodes. -/
theorem vals_eq {m : Nat} {p : List RD} {ns : List DN} (h : NsOk m ns) {k : Nat} (hk : k < ns.length) : ((valsL p ns []).getD k rd0).q = nodeQ p (valsL p ns []) (ns.getD k dn0) := by
  obtain ⟨xs, e⟩ := vals_split p ns (ns.length - (k + 1)) (k + 1) (by omega)
  rw [vals_take hk] at e
  have hl : (valsL p (ns.take k) []).length = k := by rw [vals_len]; simp; omega
  obtain ⟨_, _, l0, l1, h0, h1⟩ := h k hk
  have e2 : nodeQ p (valsL p ns []) (ns.getD k dn0) = nodeQ p (valsL p (ns.take k) []) (ns.getD k dn0) := by
    unfold nodeQ
    rw [e, List.append_assoc, ref_ext l0 (by omega), ref_ext h0 (by omega)]
  rw [e2, e, List.append_assoc, List.getD_eq_getElem?_getD, List.getElem?_append_right (by omega), hl, Nat.sub_self]
  show (rd _).q = _
  rw [rd_q]
theorem acc_vals {m : Nat} {p : List RD} {ns : List DN} (h : NsOk m ns) : accB p (valsL p ns []) ns = true := accB_true fun _ hj => vals_eq h hj
theorem acc_set {m : Nat} {p v : List RD} {ns : List DN} (h : NsOk m ns) (ha : ∀ j, j < ns.length → (v.getD j rd0).q = nodeQ p v (ns.getD j dn0)) {i : Nat} (hi : i < ns.length) (hl : v.length = ns.length) {q : Rat} (hq : q ≠ (v.getD i rd0).q) : accB p (v.set i (rd q)) ns = false := by
  refine accB_false hi ?_
  obtain ⟨_, _, l0, l1, h0, h1⟩ := h i hi
  have e : nodeQ p (v.set i (rd q)) (ns.getD i dn0) = nodeQ p v (ns.getD i dn0) := by
    unfold nodeQ
    rw [ref_set l1, ref_set h1]
  rw [e, ← ha i hi, List.getD_eq_getElem?_getD, List.getElem?_set_self (by omega)]
  show (rd q).q ≠ _
  rw [rd_q]
  exact hq
end Go.Proofs.Ytmkomfdiggcloaa
namespace Go.Proofs.Ytmkomfdiggcloaa
open Go.AI Go.PN
attribute [local irreducible] aw Fa Fh DrK
theorem le_oslr {h : Heap} {g n : Nat} {ty : TypeId} {W : List RD} (hg : h.get g = some (.cells ty (n * 3) (ratsF W))) (hn : n = W.length) : LeC h (.osl g 3 0 n) (rats false W) := by
  subst hn
  exact .osl hg (by omega) (fun j _ => by rw [Nat.zero_add]; exact .refl _)
theorem u8_ge {n : Int} (h : (Lit.int .u8 n).wf = true) : 0 ≤ n := by
  have : 0 ≤ n ∧ n ≤ 255 := by simpa [Lit.wf, IntKind.min, IntKind.max, IntKind.signed, IntKind.bits] using h
  exact this.1
theorem u8_le {n : Int} (h : (Lit.int .u8 n).wf = true) : n ≤ 255 := by
  have : 0 ≤ n ∧ n ≤ 255 := by simpa [Lit.wf, IntKind.min, IntKind.max, IntKind.signed, IntKind.bits] using h
  exact this.2
set_option maxRecDepth 100000 in
set_option maxHeartbeats 3200000 in
theorem lawCertifies_fa (haw : Fa Try.prog 5 [] (.c (.bool true))) (d : DG) (p : List RD) (u : Int) (hu0 : 0 ≤ u) (hu1 : u ≤ 255) (hw : WordsOk p) (hl : p.length ≤ 1099511627776) (hl1 : d.order.length ≤ 1099511627776) (hl2 : d.nodes.length ≤ 1099511627776) :
    Fa Try.prog 4 [.agg (dgc false d), .c (rats false p), .c (.int .u8 u)] (.c (.bool true)) := by
  refine fa_of_body Try.func4 rfl rfl (by simp [Try.ntmps4]) fun C hC => ?_
  simp only [initS, Nat.reduceAdd]
  repeat first|apply wa1|apply wa2|apply wa3|apply wa4|apply wa5 rfl|apply wa6|apply wa7|(refine wb1 rfl fun R r=>?_;simp only[go_sem];with_reducible refine r _ _ ?_;clear r R)
  refine aw_box rfl rfl rfl (by simp only[go_sem]<;>rfl) (fun _ e => by cases e) rfl fun g3 hn_g3 => ?_
  replace hn_g3 := Heap.ne_of hn_g3
  first | dsimp only [Heap.ne, gh] at hn_g3 | dsimp only [Heap.ne] at hn_g3 | skip
  (try simp only[go_sem, hn_g3])
  repeat first|apply wa1|apply wa2|apply wa3|apply wa4|apply wa5 rfl|apply wa6|apply wa7|(refine wb1 rfl fun R r=>?_;simp only[go_sem, hn_g3];with_reducible refine r _ _ ?_;clear r R)
  refine aw_callq (haw) rfl rfl rfl (by first|exact True.intro|simp only[go_sem, hn_g3]<;>and_intros<;>first|exact True.intro|exact .c (.refl _)|exact .c wl2|exact .agg (lel_refl _)|exact .agg (by simp only[LeL];and_intros<;>first|exact True.intro|exact .refl _|exact wl2)|exact .c .nils) ?_
  (try simp only[go_sem, hn_g3])
  repeat first|apply wa1|apply wa2|apply wa3|apply wa4|apply wa5 rfl|apply wa6|apply wa7|(refine wb1 rfl fun R r=>?_;simp only[go_sem, hn_g3];with_reducible refine r _ _ ?_;clear r R)
  refine aw_callq (valid37_fa d p hw hl hl1 hl2) rfl rfl rfl (by first|exact True.intro|simp only[go_sem, hn_g3]<;>and_intros<;>first|exact True.intro|exact .c (.refl _)|exact .c wl2|exact .agg (lel_refl _)|exact .agg (by simp only[LeL];and_intros<;>first|exact True.intro|exact .refl _|exact wl2)|exact .c .nils) ?_
  (try simp only[go_sem, hn_g3])
  repeat first|apply wa1|apply wa2|apply wa3|apply wa4|apply wa5 rfl|apply wa6|apply wa7|(refine wb1 rfl fun R r=>?_;simp only[go_sem, hn_g3];with_reducible refine r _ _ ?_;clear r R)
  refine aw_cond (by simp only[go_sem, hn_g3]<;>rfl) (fun hv => ?_) (fun hv => ?_)
  · repeat first|apply wa1|apply wa2|apply wa3|apply wa4|apply wa5 rfl|apply wa6|apply wa7|(refine wb1 rfl fun R r=>?_;simp only[go_sem, hn_g3];with_reducible refine r _ _ ?_;clear r R)
    refine aw_callq (haw) rfl rfl rfl (by first|exact True.intro|simp only[go_sem, hn_g3]<;>and_intros<;>first|exact True.intro|exact .c (.refl _)|exact .c wl2|exact .agg (lel_refl _)|exact .agg (by simp only[LeL];and_intros<;>first|exact True.intro|exact .refl _|exact wl2)|exact .c .nils) ?_
    (try simp only[go_sem, hn_g3])
    repeat first|apply wa1|apply wa2|apply wa3|apply wa4|apply wa5 rfl|apply wa6|apply wa7|(refine wb1 rfl fun R r=>?_;simp only[go_sem, hn_g3];with_reducible refine r _ _ ?_;clear r R)
    (refine aw_retq hC rfl fun R r=>?_;simp only[go_sem, hn_g3];refine r _ rfl ?_;clear r R)
    exact .one (.c (.bool _))
  obtain ⟨hb, hdp⟩ := valid_ok (show validB d p = true from by simpa using hv)
  have hs := small_of hw hl2 hb
  obtain ⟨ok, hpl, hpr⟩ := dp_ok hdp
  have h6 := hs.o6 hdp
  have k1 := ok.n4096
  have hpr1 := sprobability_fa d p hs
  rw [if_pos hdp, hdp, ← plain_law ok hpl] at hpr1
  have hva := svalues_fa d p hs
  rw [if_pos hdp, hdp] at hva
  change Fa Try.prog _ _ (.tup [_, .c .nilI]) at hpr1
  change Fa Try.prog _ _ (.tup [_, .c .nilI]) at hva
  have hvw : ∀ x ∈ valsL p d.nodes [], x.wf 1000 := fun x hx => vals_wf ok hpl (L := 4) (by omega) hs.w (Bl46 h6) d.nodes.length (Nat.le_refl _) x (by rw [List.take_length]; exact hx)
  have hvl : (valsL p d.nodes []).length = d.nodes.length := vlen
  have hve : ∀ j, j < d.nodes.length → ((valsL p d.nodes []).getD j rd0).q = nodeQ p (valsL p d.nodes []) (d.nodes.getD j dn0) := fun j hj => vals_eq ok.ns hj
  have hrw : (refRD (valsL p d.nodes []) d.root).wf 1000 := ref_wf (by omega) hvw ok.r0
  generalize valsL p d.nodes [] = V at *
  have hac : ∀ W : List RD, W.length = d.nodes.length → (∀ x ∈ W, x.wf 1000000) → Fa Try.prog 16 [.agg (dgc false d), .c (rats false p), .c (rats false W)] (.tup [.c (.bool (accB p W d.nodes)), .c .nilI]) := fun W hW hWw => by
    have h1 := saccepts_fa d p W hs (by omega) (fun _ _ => hWw)
    have h2 : acode d p W = 0 := by unfold acode; rw [if_neg (fun h => h hdp), if_neg (by simp [hW])]
    rw [h2, decide_eq_true rfl, Bool.true_and] at h1
    exact h1
  have hacV := hac V hvl (fun x hx => wf_mono (hvw x hx) (by omega))
  rw [accB_true hve] at hacV
  have hln : ((V.length : Int) != (d.nodes.length : Int)) = false := by rw [hvl]; simp
  repeat first|apply wa1|apply wa2|apply wa3|apply wa4|apply wa5 rfl|apply wa6|apply wa7|(refine wb1 rfl fun R r=>?_;simp only[go_sem, hn_g3, hln];with_reducible refine r _ _ ?_;clear r R)
  refine aw_callq (hpr1) rfl rfl rfl (by first|exact True.intro|simp only[go_sem, hn_g3, hln]<;>and_intros<;>first|exact True.intro|exact .c (.refl _)|exact .c wl2|exact .agg (lel_refl _)|exact .agg (by simp only[LeL];and_intros<;>first|exact True.intro|exact .refl _|exact wl2)|exact .c .nils) ?_
  (try simp only[go_sem, hn_g3, hln])
  repeat first|apply wa1|apply wa2|apply wa3|apply wa4|apply wa5 rfl|apply wa6|apply wa7|(refine wb1 rfl fun R r=>?_;simp only[go_sem, hn_g3, hln];with_reducible refine r _ _ ?_;clear r R)
  refine aw_alloc rfl rfl rfl (by simp only[go_sem, hn_g3, hln]<;>rfl) fun g7 hn_g7 => ?_
  replace hn_g7 := Heap.ne_of hn_g7
  first | dsimp only [Heap.ne, gh] at hn_g7 | dsimp only [Heap.ne] at hn_g7 | skip
  (try simp only[go_sem, hn_g3, hln, hn_g7])
  repeat first|apply wa1|apply wa2|apply wa3|apply wa4|apply wa5 rfl|apply wa6|apply wa7|(refine wb1 rfl fun R r=>?_;simp only[go_sem, hn_g3, hln, hn_g7];with_reducible refine r _ _ ?_;clear r R)
  refine aw_store rfl rfl rfl rfl (by simp only[go_sem, hn_g3, hln, hn_g7]<;>rfl) (by simp only[go_sem, hn_g3, hln, hn_g7]<;>rfl) (by simp only[go_sem, hn_g3, hln, hn_g7]<;>rfl) (by simp only[go_sem, hn_g3, hln, hn_g7]<;>rfl) (fun _ e => by cases e) (by rfl) (by rfl) (by first|omega|simp) rfl ?_
  (try simp only[go_sem, hn_g3, hln, hn_g7])
  repeat first|apply wa1|apply wa2|apply wa3|apply wa4|apply wa5 rfl|apply wa6|apply wa7|(refine wb1 rfl fun R r=>?_;simp only[go_sem, hn_g3, hln, hn_g7];with_reducible refine r _ _ ?_;clear r R)
  refine aw_callq (hva) rfl rfl rfl (by first|exact True.intro|simp only[go_sem, hn_g3, hln, hn_g7]<;>and_intros<;>first|exact True.intro|exact .c (.refl _)|exact .c wl2|exact .agg (lel_refl _)|exact .agg (by simp only[LeL];and_intros<;>first|exact True.intro|exact .refl _|exact wl2)|exact .c .nils) ?_
  (try simp only[go_sem, hn_g3, hln, hn_g7])
  repeat first|apply wa1|apply wa2|apply wa3|apply wa4|apply wa5 rfl|apply wa6|apply wa7|(refine wb1 rfl fun R r=>?_;simp only[go_sem, hn_g3, hln, hn_g7];with_reducible refine r _ _ ?_;clear r R)
  refine aw_condF (by simp only[go_sem, hn_g3, hln, hn_g7]<;>rfl) ?_
  repeat first|apply wa1|apply wa2|apply wa3|apply wa4|apply wa5 rfl|apply wa6|apply wa7|(refine wb1 rfl fun R r=>?_;simp only[go_sem, hn_g3, hln, hn_g7];with_reducible refine r _ _ ?_;clear r R)
  refine aw_callq (hacV) rfl rfl rfl (by first|exact True.intro|simp only[go_sem, hn_g3, hln, hn_g7]<;>and_intros<;>first|exact True.intro|exact .c (.refl _)|exact .c wl2|exact .agg (lel_refl _)|exact .agg (by simp only[LeL];and_intros<;>first|exact True.intro|exact .refl _|exact wl2)|exact .c .nils) ?_
  (try simp only[go_sem, hn_g3, hln, hn_g7])
  repeat first|apply wa1|apply wa2|apply wa3|apply wa4|apply wa5 rfl|apply wa6|apply wa7|(refine wb1 rfl fun R r=>?_;simp only[go_sem, hn_g3, hln, hn_g7];with_reducible refine r _ _ ?_;clear r R)
  refine aw_condF (by simp only[go_sem, hn_g3, hln, hn_g7]<;>rfl) ?_
  repeat first|apply wa1|apply wa2|apply wa3|apply wa4|apply wa5 rfl|apply wa6|apply wa7|(refine wb1 rfl fun R r=>?_;simp only[go_sem, hn_g3, hln, hn_g7];with_reducible refine r _ _ ?_;clear r R)
  refine aw_cond (by simp only[go_sem, hn_g3, hln, hn_g7]<;>rfl) (fun hr => ?_) (fun hr => ?_)
  · have hr' := of_decide_eq_true hr
    have k0 := ok.r0
    have e : refRD V d.root = rd ((d.root : Int) : Rat) := by unfold refRD; rw [if_pos hr']
    repeat first|apply wa1|apply wa2|apply wa3|apply wa4|apply wa5 rfl|apply wa6|apply wa7|(refine wb1 rfl fun R r=>?_;simp only[go_sem, hn_g3, hln, hn_g7];with_reducible refine r _ _ ?_;clear r R)
    refine aw_dr 6 ty_mixed (by kernel_rfl) ?_
    repeat first|apply wa1|apply wa2|apply wa3|apply wa4|apply wa5 rfl|apply wa6|apply wa7|(refine wb1 rfl fun R r=>?_;simp only[go_sem, hn_g3, hln, hn_g7];with_reducible refine r _ _ ?_;clear r R)|apply wa8|(refine wd1 rfl fun R r=>?_;simp only[go_sem, hn_g3, hln, hn_g7];with_reducible refine r _ _ ?_;clear r R)
    refine drk_call (sof_fa d.root ?_ ?_) rfl rfl rfl (by first|exact True.intro|simp only[go_sem, hn_g3, hln, hn_g7]<;>and_intros<;>first|exact True.intro|exact .c (.refl _)|exact .c wl2|exact .agg (lel_refl _)|exact .agg (by simp only[LeL];and_intros<;>first|exact True.intro|exact .refl _|exact wl2)|exact .c .nils) ?_
    · omega
    · omega
    (try simp only[go_sem, hn_g3, hln, hn_g7])
    repeat first|apply wa1|apply wa2|apply wa3|apply wa4|apply wa5 rfl|apply wa6|apply wa7|(refine wb1 rfl fun R r=>?_;simp only[go_sem, hn_g3, hln, hn_g7];with_reducible refine r _ _ ?_;clear r R)|apply wa8|(refine wd1 rfl fun R r=>?_;simp only[go_sem, hn_g3, hln, hn_g7];with_reducible refine r _ _ ?_;clear r R)
    refine drk_call (scmp_fa (refRD V d.root) (rd ((d.root : Int) : Rat)) (wf_mono hrw ?_) ?_) rfl rfl rfl (by first|exact True.intro|simp only[go_sem, hn_g3, hln, hn_g7]<;>and_intros<;>first|exact True.intro|exact .c (.refl _)|exact .c wl2|exact .agg (lel_refl _)|exact .agg (by simp only[LeL];and_intros<;>first|exact True.intro|exact .refl _|exact wl2)|exact .c .nils) ?_
    · omega
    · rw [← e]; exact wf_mono hrw (by omega)
    (try simp only[go_sem, hn_g3, hln, hn_g7])
    have hse : (signQ ((refRD V d.root).q - (rd ((d.root : Int) : Rat)).q) == 0) = true := by rw [e, Rat.sub_self]; rfl
    repeat first|apply wa1|apply wa2|apply wa3|apply wa4|apply wa5 rfl|apply wa6|apply wa7|(refine wb1 rfl fun R r=>?_;simp only[go_sem, hn_g3, hln, hn_g7, hse];with_reducible refine r _ _ ?_;clear r R)|apply wa8|(refine wd1 rfl fun R r=>?_;simp only[go_sem, hn_g3, hln, hn_g7, hse];with_reducible refine r _ _ ?_;clear r R)
    (refine aw_retq hC rfl fun R r=>?_;simp only[go_sem, hn_g3, hln, hn_g7, hse];refine r _ rfl ?_;clear r R)
    exact .one (.c (.bool _))
  have hr' := of_decide_eq_false hr
  have k2 := ok.r1
  have e : refRD V d.root = V.getD (d.root - 2).toNat rd0 := by unfold refRD; rw [if_neg hr']
  repeat first|apply wa1|apply wa2|apply wa3|apply wa4|apply wa5 rfl|apply wa6|apply wa7|(refine wb1 rfl fun R r=>?_;simp only[go_sem, hn_g3, hln, hn_g7];with_reducible refine r _ _ ?_;clear r R)|apply wa8|(refine wd1 rfl fun R r=>?_;simp only[go_sem, hn_g3, hln, hn_g7];with_reducible refine r _ _ ?_;clear r R)
  refine aw_dr 9 ty_mixed (by kernel_rfl) ?_
  repeat first|apply wa1|apply wa2|apply wa3|apply wa4|apply wa5 rfl|apply wa6|apply wa7|(refine wb1 rfl fun R r=>?_;simp only[go_sem, hn_g3, hln, hn_g7];with_reducible refine r _ _ ?_;clear r R)|apply wa8|(refine wd1 rfl fun R r=>?_;simp only[go_sem, hn_g3, hln, hn_g7];with_reducible refine r _ _ ?_;clear r R)
  refine drk_call (scmp_fa (refRD V d.root) (V.getD (d.root - 2).toNat rd0) (wf_mono hrw ?_) ?_) rfl rfl rfl (by first|exact True.intro|simp only[go_sem, hn_g3, hln, hn_g7]<;>and_intros<;>first|exact True.intro|exact .c (.refl _)|exact .c wl2|exact .agg (lel_refl _)|exact .agg (by simp only[LeL];and_intros<;>first|exact True.intro|exact .refl _|exact wl2)|exact .c .nils) ?_
  · omega
  · rw [← e]; exact wf_mono hrw (by omega)
  (try simp only[go_sem, hn_g3, hln, hn_g7])
  have hse : (signQ ((refRD V d.root).q - (V.getD (d.root - 2).toNat rd0).q) != 0) = false := by rw [e, Rat.sub_self]; rfl
  repeat first|apply wa1|apply wa2|apply wa3|apply wa4|apply wa5 rfl|apply wa6|apply wa7|(refine wb1 rfl fun R r=>?_;simp only[go_sem, hn_g3, hln, hn_g7, hse];with_reducible refine r _ _ ?_;clear r R)|apply wa8|(refine wd1 rfl fun R r=>?_;simp only[go_sem, hn_g3, hln, hn_g7, hse];with_reducible refine r _ _ ?_;clear r R)
  refine aw_condF (by simp only[go_sem, hn_g3, hln, hn_g7, hse]<;>rfl) ?_
  have hV0 : 0 < V.length := by omega
  obtain ⟨U, rfl⟩ : ∃ U : Nat, u = U := ⟨u.toNat, by omega⟩
  have hwu : wrapZ .i64 (U : Int) = U := by rw [wrapZ_eq, wrap_i64 (by omega) (by omega)]
  have hrm := rem_nat U V.length
  have hix := Nat.mod_lt U hV0
  generalize U % V.length = i at *
  repeat first|apply wa1|apply wa2|apply wa3|apply wa4|apply wa5 rfl|apply wa6|apply wa7|(refine wb1 rfl fun R r=>?_;simp only[go_sem, hn_g3, hln, hn_g7, hse, hwu, hrm];with_reducible refine r _ _ ?_;clear r R)|apply wa8|(refine wd1 rfl fun R r=>?_;simp only[go_sem, hn_g3, hln, hn_g7, hse, hwu, hrm];with_reducible refine r _ _ ?_;clear r R)
  refine aw_buildSlice (xs := []) (cells := []) rfl rfl rfl (by simp only[go_sem, hn_g3, hln, hn_g7, hse, hwu, hrm]<;>rfl) (by (try simp only[go_sem, hn_g3, hln, hn_g7, hse, hwu, hrm]); rfl) rfl (by omega) (by omega) (by simp) rfl fun gE hn_gE => ?_
  refine aw_conv1 (f' := ratsF []) (fun j hj => absurd hj (by omega)) ?_
  replace hn_gE := Heap.ne_of hn_gE
  dsimp only [Heap.ne] at hn_gE
  (try simp only[go_sem, hn_g3, hln, hn_g7, hse, hwu, hrm, hn_gE])
  repeat first|apply wa1|apply wa2|apply wa3|apply wa4|apply wa5 rfl|apply wa6|apply wa7|(refine wb1 rfl fun R r=>?_;simp only[go_sem, hn_g3, hln, hn_g7, hse, hwu, hrm, hn_gE];with_reducible refine r _ _ ?_;clear r R)
  refine aw_append (size := 3) (z := [.bool false, .nils, .nils]) rfl rfl rfl (by simp only[go_sem, hn_g3, hln, hn_g7, hse, hwu, hrm, hn_gE]<;>rfl) (by simp only[go_sem, hn_g3, hln, hn_g7, hse, hwu, hrm, hn_gE]<;>rfl) rfl (by omega) (by simp only[go_sem, hn_g3, hln, hn_g7, hse, hwu, hrm, hn_gE]<;>rfl) (by simp only[go_sem, hn_g3, hln, hn_g7, hse, hwu, hrm, hn_gE]<;>rfl) (by omega) (by simp only[go_sem, hn_g3, hln, hn_g7, hse, hwu, hrm, hn_gE]<;>rfl) .row (fun j hj => ratsF_solid V j hj) hV0 (by unfold maxLen; omega) (by omega) (by simp only[go_sem, hn_g3, hln, hn_g7, hse, hwu, hrm, hn_gE]<;>rfl) fun gw hn_gw => ?_
  (try simp only[go_sem, hn_g3, hln, hn_g7, hse, hwu, hrm, hn_gE])
  have hf : appF (ratsF []) 0 (ratsF V) = ratsF V := by funext j; simp [appF]
  rw [hf]
  replace hn_gw := Heap.ne_of hn_gw
  dsimp only [Heap.ne] at hn_gw
  have hiw : (V.getD i rd0).wf 1000 := getD_wf hvw i
  have h3f : fits (((1 : Int) : Rat) / ((3 : Int) : Rat)) 1 := ⟨by decide +kernel, by decide +kernel⟩
  have hyf : fits ((V.getD i rd0).q + ((1 : Int) : Rat) / ((3 : Int) : Rat)) 1002 := fits_mono (fits_add (RD.fits hiw (by omega)) h3f) (by omega)
  repeat first|apply wa1|apply wa2|apply wa3|apply wa4|apply wa5 rfl|apply wa6|apply wa7|(refine wb1 rfl fun R r=>?_;simp only[go_sem, hn_g3, hln, hn_g7, hse, hwu, hrm, hn_gE, hn_gw];with_reducible refine r _ _ ?_;clear r R)
  refine aw_dr 8 ty_mixed (by kernel_rfl) ?_
  repeat first|apply wa1|apply wa2|apply wa3|apply wa4|apply wa5 rfl|apply wa6|apply wa7|(refine wb1 rfl fun R r=>?_;simp only[go_sem, hn_g3, hln, hn_g7, hse, hwu, hrm, hn_gE, hn_gw];with_reducible refine r _ _ ?_;clear r R)|apply wa8|(refine wd1 rfl fun R r=>?_;simp only[go_sem, hn_g3, hln, hn_g7, hse, hwu, hrm, hn_gE, hn_gw];with_reducible refine r _ _ ?_;clear r R)
  refine drk_call (part37_fa 1 3 ?_ ?_ ?_ ?_ ?_) rfl rfl rfl (by first|exact True.intro|simp only[go_sem, hn_g3, hln, hn_g7, hse, hwu, hrm, hn_gE, hn_gw]<;>and_intros<;>first|exact True.intro|exact .c (.refl _)|exact .c wl2|exact .agg (lel_refl _)|exact .agg (by simp only[LeL];and_intros<;>first|exact True.intro|exact .refl _|exact wl2)|exact .c .nils) ?_
  · omega
  · omega
  · omega
  · omega
  · omega
  (try simp only[go_sem, hn_g3, hln, hn_g7, hse, hwu, hrm, hn_gE, hn_gw])
  repeat first|apply wa1|apply wa2|apply wa3|apply wa4|apply wa5 rfl|apply wa6|apply wa7|(refine wb1 rfl fun R r=>?_;simp only[go_sem, hn_g3, hln, hn_g7, hse, hwu, hrm, hn_gE, hn_gw];with_reducible refine r _ _ ?_;clear r R)|apply wa8|(refine wd1 rfl fun R r=>?_;simp only[go_sem, hn_g3, hln, hn_g7, hse, hwu, hrm, hn_gE, hn_gw];with_reducible refine r _ _ ?_;clear r R)
  refine drk_call (sadd_fa (V.getD i rd0) (rd (((1 : Int) : Rat) / ((3 : Int) : Rat))) (wf_mono hiw ?_) (rd_wf (fits_mono h3f ?_))) rfl rfl rfl (by first|exact True.intro|simp only[go_sem, hn_g3, hln, hn_g7, hse, hwu, hrm, hn_gE, hn_gw]<;>and_intros<;>first|exact True.intro|exact .c (.refl _)|exact .c wl2|exact .agg (lel_refl _)|exact .agg (by simp only[LeL];and_intros<;>first|exact True.intro|exact .refl _|exact wl2)|exact .c .nils) ?_
  · omega
  · omega
  (try simp only[go_sem, hn_g3, hln, hn_g7, hse, hwu, hrm, hn_gE, hn_gw])
  rw [rd_q]
  have hne : (V.getD i rd0).q + ((1 : Int) : Rat) / ((3 : Int) : Rat) ≠ (V.getD i rd0).q := by
    intro h
    have h2 : ((1 : Int) : Rat) / ((3 : Int) : Rat) = 0 := by grind
    exact absurd h2 (by decide +kernel)
  have hWf := acc_set ok.ns hve (show i < d.nodes.length from by omega) hvl hne
  generalize (V.getD i rd0).q + ((1 : Int) : Rat) / ((3 : Int) : Rat) = y at *
  have hacW := hac (V.set i (rd y)) (by rw [List.length_set]; exact hvl) (fun x hx => by
    rcases List.mem_or_eq_of_mem_set hx with h | h
    · exact wf_mono (hvw x h) (by omega)
    · rw [h]; exact rd_wf (fits_mono hyf (by omega)))
  rw [hWf] at hacW
  repeat first|apply wa1|apply wa2|apply wa3|apply wa4|apply wa5 rfl|apply wa6|apply wa7|(refine wb1 rfl fun R r=>?_;simp only[go_sem, hn_g3, hln, hn_g7, hse, hwu, hrm, hn_gE, hn_gw];with_reducible refine r _ _ ?_;clear r R)|apply wa8|(refine wd1 rfl fun R r=>?_;simp only[go_sem, hn_g3, hln, hn_g7, hse, hwu, hrm, hn_gE, hn_gw];with_reducible refine r _ _ ?_;clear r R)
  refine aw_store rfl rfl rfl rfl (by simp only[go_sem, hn_g3, hln, hn_g7, hse, hwu, hrm, hn_gE, hn_gw]<;>rfl) (by simp only[go_sem, hn_g3, hln, hn_g7, hse, hwu, hrm, hn_gE, hn_gw]<;>rfl) (by simp only[go_sem, hn_g3, hln, hn_g7, hse, hwu, hrm, hn_gE, hn_gw]<;>rfl) (by simp only[go_sem, hn_g3, hln, hn_g7, hse, hwu, hrm, hn_gE, hn_gw]<;>rfl) (fun _ e => by cases e) (by rfl) (by rfl) (by first|omega|simp) rfl ?_
  (try simp only[go_sem, hn_g3, hln, hn_g7, hse, hwu, hrm, hn_gE, hn_gw])
  rw [ratsF_upd (by omega)]
  repeat first|apply wa1|apply wa2|apply wa3|apply wa4|apply wa5 rfl|apply wa6|apply wa7|(refine wb1 rfl fun R r=>?_;simp only[go_sem, hn_g3, hln, hn_g7, hse, hwu, hrm, hn_gE, hn_gw];with_reducible refine r _ _ ?_;clear r R)
  refine aw_callq hacW rfl rfl rfl (by (try simp only[go_sem, hn_g3, hln, hn_g7, hse, hwu, hrm, hn_gE, hn_gw]); exact ⟨.agg (lel_refl _), .c (.refl _), .c (le_oslr (by simp only[go_sem, hn_g3, hln, hn_g7, hse, hwu, hrm, hn_gE, hn_gw]<;>rfl) (by rw [List.length_set]))⟩) ?_
  (try simp only[go_sem, hn_g3, hln, hn_g7, hse, hwu, hrm, hn_gE, hn_gw])
  repeat first|apply wa1|apply wa2|apply wa3|apply wa4|apply wa5 rfl|apply wa6|apply wa7|(refine wb1 rfl fun R r=>?_;simp only[go_sem, hn_g3, hln, hn_g7, hse, hwu, hrm, hn_gE, hn_gw];with_reducible refine r _ _ ?_;clear r R)
  (refine aw_retq hC rfl fun R r=>?_;simp only[go_sem, hn_g3, hln, hn_g7, hse, hwu, hrm, hn_gE, hn_gw];refine r _ rfl ?_;clear r R)
  exact .one (.c (.bool _))
end Go.Proofs.Ytmkomfdiggcloaa
