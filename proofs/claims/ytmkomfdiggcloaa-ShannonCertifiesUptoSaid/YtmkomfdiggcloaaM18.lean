/- Texts of one proof, laid one behind the other by a program (merge.py): Shan5, Shan6, Law1. -/
import Derived.Test.YtmkomfdiggcloaaM17
set_option linter.unusedSimpArgs false
set_option linter.unusedVariables false
/- shannon: check, Probability, Values. -/
namespace Go.Proofs.Ytmkomfdiggcloaa
open Go.AI Go.PN
attribute [local irreducible] aw Fa Fh DrK
set_option maxHeartbeats 800000 in
theorem scheckD_fa (d : DG) (p : List RD) (hw : ∀ r ∈ p, r.wf 500000000) (hl : p.length ≤ 1099511627776) (hl1 : d.order.length ≤ 1099511627776) (hl2 : d.nodes.length ≤ 1099511627776) : Fa Try.prog 25 [.agg (dgc false d), .c (rats false p)] (.c (errA (dpcode d p))) := by
  unfold dpcode
  refine fa_of_body Try.func25 rfl rfl (by simp [Try.ntmps25]) fun C hC => ?_
  simp only [initS, Nat.reduceAdd]
  repeat first|apply wa1|apply wa2|apply wa3|apply wa4|apply wa5 rfl|apply wa6|apply wa7|(refine wb1 rfl fun R r=>?_;simp only[go_sem];with_reducible refine r _ _ ?_;clear r R)
  refine aw_box rfl rfl rfl (by simp only[go_sem]<;>rfl) (fun _ e => by cases e) rfl fun g2 hn_g2 => ?_
  replace hn_g2 := Heap.ne_of hn_g2
  first | dsimp only [Heap.ne, gh] at hn_g2 | dsimp only [Heap.ne] at hn_g2 | skip
  (try simp only[go_sem, hn_g2])
  repeat first|apply wa1|apply wa2|apply wa3|apply wa4|apply wa5 rfl|apply wa6|apply wa7|(refine wb1 rfl fun R r=>?_;simp only[go_sem, hn_g2];with_reducible refine r _ _ ?_;clear r R)
  refine aw_callq (dcheck_fa d hl1 hl2) rfl rfl rfl (by first|exact True.intro|simp only[go_sem, hn_g2]<;>and_intros<;>first|exact True.intro|exact .c (.refl _)|exact .c wl2|exact .agg (lel_refl _)|exact .agg (by simp only[LeL];and_intros<;>first|exact True.intro|exact .refl _|exact wl2)|exact .c .nils) ?_
  (try simp only[go_sem, hn_g2])
  repeat first|apply wa1|apply wa2|apply wa3|apply wa4|apply wa5 rfl|apply wa6|apply wa7|(refine wb1 rfl fun R r=>?_;simp only[go_sem, hn_g2];with_reducible refine r _ _ ?_;clear r R)
  refine aw_cond (by simp only[go_sem, hn_g2]<;>rfl) (fun hb => ?_) (fun hb => ?_)
  · have hb' : dcode d ≠ 0 := by simpa using hb
    rw [if_pos hb']
    repeat first|apply wa1|apply wa2|apply wa3|apply wa4|apply wa5 rfl|apply wa6|apply wa7|(refine wb1 rfl fun R r=>?_;simp only[go_sem, hn_g2];with_reducible refine r _ _ ?_;clear r R)
    (refine aw_retq hC rfl fun R r=>?_;simp only[go_sem, hn_g2];refine r _ rfl ?_;clear r R)
    exact .one (.c ler_err)
  · have hb' : dcode d = 0 := by simpa using hb
    rw [if_neg (by simp [hb'])]
    repeat first|apply wa1|apply wa2|apply wa3|apply wa4|apply wa5 rfl|apply wa6|apply wa7|(refine wb1 rfl fun R r=>?_;simp only[go_sem, hn_g2];with_reducible refine r _ _ ?_;clear r R)
    refine aw_callq (scheck_fa p d.order.length hw hl) rfl rfl rfl (by first|exact True.intro|simp only[go_sem, hn_g2]<;>and_intros<;>first|exact True.intro|exact .c (.refl _)|exact .c wl2|exact .agg (lel_refl _)|exact .agg (by simp only[LeL];and_intros<;>first|exact True.intro|exact .refl _|exact wl2)|exact .c .nils) ?_
    (try simp only[go_sem, hn_g2])
    repeat first|apply wa1|apply wa2|apply wa3|apply wa4|apply wa5 rfl|apply wa6|apply wa7|(refine wb1 rfl fun R r=>?_;simp only[go_sem, hn_g2];with_reducible refine r _ _ ?_;clear r R)
    (refine aw_retq hC rfl fun R r=>?_;simp only[go_sem, hn_g2];refine r _ rfl ?_;clear r R)
    exact .one (.c ler_err)
theorem dp_ok {d : DG} {p : List RD} (h : dpcode d p = 0) : DgOk d ∧ p.length = d.order.length ∧ ∀ r ∈ p, r.prob = true := by
  unfold dpcode at h
  split at h
  · rename_i h1; exact absurd h h1
  · rename_i h1
    unfold pcode at h
    split at h
    · cases h
    · rename_i h2
      split at h
      · rename_i h3
        exact ⟨dg_ok (by simpa using h1), by omega, fun r hr => List.all_eq_true.1 h3 r hr⟩
      · cases h
/-- What is needed of the inputs of a law. -/
structure Small (d : DG) (p : List RD) : Prop where
  w : ∀ r ∈ p, r.wf 4
  l : p.length ≤ 100
  o : d.order.length ≤ 100
  n : d.nodes.length ≤ 1099511627776
  o6 : dpcode d p = 0 → d.order.length ≤ 6
theorem Small.w5 {d : DG} {p : List RD} (h : Small d p) : ∀ r ∈ p, r.wf 500000000 := fun r hr => wf_mono (h.w r hr) (by omega)
theorem ns_len {m : Nat} {d : DG} (ok : DgOk d) (hm : m = d.order.length) : ∀ i, i < d.nodes.length → NodeOk m i (d.nodes.getD i dn0) := by subst hm; exact ok.ns
theorem vlen {ps : List RD} {ns : List DN} : (valsL ps ns []).length = ns.length := by rw [vals_len]; simp
set_option maxRecDepth 100000 in
set_option maxHeartbeats 1600000 in
theorem sprobability_fa (d : DG) (p : List RD) (hs : Small d p) : Fa Try.prog 10 [.agg (dgc false d), .c (rats false p)] (.tup [.agg (rdc (if dpcode d p = 0 then rd (sumQ p (tabL d) (2 ^ p.length)) else rd0)), .c (errA (dpcode d p))]) := by
  have s1 := hs.l
  have s2 := hs.o
  have s3 := hs.n
  refine fa_of_body Try.func10 rfl rfl (by simp [Try.ntmps10]) fun C hC => ?_
  simp only [initS, Nat.reduceAdd]
  repeat first|apply wa1|apply wa2|apply wa3|apply wa4|apply wa5 rfl|apply wa6|apply wa7|(refine wb1 rfl fun R r=>?_;simp only[go_sem];with_reducible refine r _ _ ?_;clear r R)
  refine aw_box rfl rfl rfl (by simp only[go_sem]<;>rfl) (fun _ e => by cases e) rfl fun g2 hn_g2 => ?_
  replace hn_g2 := Heap.ne_of hn_g2
  first | dsimp only [Heap.ne, gh] at hn_g2 | dsimp only [Heap.ne] at hn_g2 | skip
  (try simp only[go_sem, hn_g2])
  refine aw_alloc rfl rfl rfl (by simp only[go_sem, hn_g2]<;>rfl) fun g4 hn_g4 => ?_
  replace hn_g4 := Heap.ne_of hn_g4
  first | dsimp only [Heap.ne, gh] at hn_g4 | dsimp only [Heap.ne] at hn_g4 | skip
  (try simp only[go_sem, hn_g2, hn_g4])
  repeat first|apply wa1|apply wa2|apply wa3|apply wa4|apply wa5 rfl|apply wa6|apply wa7|(refine wb1 rfl fun R r=>?_;simp only[go_sem, hn_g2, hn_g4];with_reducible refine r _ _ ?_;clear r R)
  refine aw_callq (scheckD_fa d p hs.w5 ?_ ?_ ?_) rfl rfl rfl (by first|exact True.intro|simp only[go_sem, hn_g2, hn_g4]<;>and_intros<;>first|exact True.intro|exact .c (.refl _)|exact .c wl2|exact .agg (lel_refl _)|exact .agg (by simp only[LeL];and_intros<;>first|exact True.intro|exact .refl _|exact wl2)|exact .c .nils) ?_
  · omega
  · omega
  · omega
  (try simp only[go_sem, hn_g2, hn_g4])
  repeat first|apply wa1|apply wa2|apply wa3|apply wa4|apply wa5 rfl|apply wa6|apply wa7|(refine wb1 rfl fun R r=>?_;simp only[go_sem, hn_g2, hn_g4];with_reducible refine r _ _ ?_;clear r R)
  refine aw_cond (by simp only[go_sem, hn_g2, hn_g4]<;>rfl) (fun hb => ?_) (fun hb => ?_)
  · have hb' : dpcode d p ≠ 0 := by simpa using hb
    rw [if_neg hb']
    repeat first|apply wa1|apply wa2|apply wa3|apply wa4|apply wa5 rfl|apply wa6|apply wa7|(refine wb1 rfl fun R r=>?_;simp only[go_sem, hn_g2, hn_g4];with_reducible refine r _ _ ?_;clear r R)
    refine aw_store rfl rfl rfl rfl (by simp only[go_sem, hn_g2, hn_g4]<;>rfl) (by simp only[go_sem, hn_g2, hn_g4]<;>rfl) (by simp only[go_sem, hn_g2, hn_g4]<;>rfl) (by simp only[go_sem, hn_g2, hn_g4]<;>rfl) (fun _ e => by cases e) (by rfl) (by rfl) (by first|omega|simp) rfl ?_
    (try simp only[go_sem, hn_g2, hn_g4])
    repeat first|apply wa1|apply wa2|apply wa3|apply wa4|apply wa5 rfl|apply wa6|apply wa7|(refine wb1 rfl fun R r=>?_;simp only[go_sem, hn_g2, hn_g4];with_reducible refine r _ _ ?_;clear r R)
    (refine aw_retq hC rfl fun R r=>?_;simp only[go_sem, hn_g2, hn_g4];refine r _ rfl ?_;clear r R)
    exact .tup ⟨.agg ⟨.bool _, .nils, .nils, trivial⟩, .c ler_err, trivial⟩
  · have hb' : dpcode d p = 0 := by simpa using hb
    obtain ⟨ok, hpl, _⟩ := dp_ok hb'
    have h6 := hs.o6 hb'
    rw [if_pos hb', ← plain_law ok hpl]
    have k1 := ok.n4096
    have k2 := ok.r1
    have k3 := vlen (ps := p) (ns := d.nodes)
    repeat first|apply wa1|apply wa2|apply wa3|apply wa4|apply wa5 rfl|apply wa6|apply wa7|(refine wb1 rfl fun R r=>?_;simp only[go_sem, hn_g2, hn_g4];with_reducible refine r _ _ ?_;clear r R)
    refine aw_dr 6 ty_mixed (by kernel_rfl) ?_
    repeat first|apply wa1|apply wa2|apply wa3|apply wa4|apply wa5 rfl|apply wa6|apply wa7|(refine wb1 rfl fun R r=>?_;simp only[go_sem, hn_g2, hn_g4];with_reducible refine r _ _ ?_;clear r R)|apply wa8|(refine wd1 rfl fun R r=>?_;simp only[go_sem, hn_g2, hn_g4];with_reducible refine r _ _ ?_;clear r R)
    refine drk_call (values_fa d p 1000 ?_ ?_ (fun r hr => wf_mono (hs.w r hr) ?_) (vals_wf ok hpl (L := 4) ?_ hs.w (Bl46 h6)) (ns_len ok hpl) ?_) rfl rfl rfl (by first|exact True.intro|simp only[go_sem, hn_g2, hn_g4]<;>and_intros<;>first|exact True.intro|exact .c (.refl _)|exact .c wl2|exact .agg (lel_refl _)|exact .agg (by simp only[LeL];and_intros<;>first|exact True.intro|exact .refl _|exact wl2)|exact .c .nils) ?_
    · omega
    · omega
    · omega
    · omega
    · omega
    (try simp only[go_sem, hn_g2, hn_g4])
    repeat first|apply wa1|apply wa2|apply wa3|apply wa4|apply wa5 rfl|apply wa6|apply wa7|(refine wb1 rfl fun R r=>?_;simp only[go_sem, hn_g2, hn_g4];with_reducible refine r _ _ ?_;clear r R)|apply wa8|(refine wd1 rfl fun R r=>?_;simp only[go_sem, hn_g2, hn_g4];with_reducible refine r _ _ ?_;clear r R)
    refine drk_call (of_fa' (valsL p d.nodes []) d.root ok.r0 ?_ ?_) rfl rfl rfl (by first|exact True.intro|simp only[go_sem, hn_g2, hn_g4]<;>and_intros<;>first|exact True.intro|exact .c (.refl _)|exact .c wl2|exact .agg (lel_refl _)|exact .agg (by simp only[LeL];and_intros<;>first|exact True.intro|exact .refl _|exact wl2)|exact .c .nils) ?_
    · omega
    · omega
    (try simp only[go_sem, hn_g2, hn_g4])
    repeat first|apply wa1|apply wa2|apply wa3|apply wa4|apply wa5 rfl|apply wa6|apply wa7|(refine wb1 rfl fun R r=>?_;simp only[go_sem, hn_g2, hn_g4];with_reducible refine r _ _ ?_;clear r R)|apply wa8|(refine wd1 rfl fun R r=>?_;simp only[go_sem, hn_g2, hn_g4];with_reducible refine r _ _ ?_;clear r R)
    refine aw_store rfl rfl rfl rfl (by simp only[go_sem, hn_g2, hn_g4]<;>rfl) (by simp only[go_sem, hn_g2, hn_g4]<;>rfl) (by simp only[go_sem, hn_g2, hn_g4]<;>rfl) (by simp only[go_sem, hn_g2, hn_g4]<;>rfl) (fun _ e => by cases e) (by rfl) (by rfl) (by first|omega|simp) rfl ?_
    (try simp only[go_sem, hn_g2, hn_g4])
    repeat first|apply wa1|apply wa2|apply wa3|apply wa4|apply wa5 rfl|apply wa6|apply wa7|(refine wb1 rfl fun R r=>?_;simp only[go_sem, hn_g2, hn_g4];with_reducible refine r _ _ ?_;clear r R)|apply wa8|(refine wd1 rfl fun R r=>?_;simp only[go_sem, hn_g2, hn_g4];with_reducible refine r _ _ ?_;clear r R)
    (refine aw_retq hC rfl fun R r=>?_;simp only[go_sem, hn_g2, hn_g4];refine r _ rfl ?_;clear r R)
    exact .tup ⟨.agg lerl_rd, .c (ler_err0 hb'), trivial⟩
set_option maxHeartbeats 1600000 in
theorem svalues_fa (d : DG) (p : List RD) (hs : Small d p) : Fa Try.prog 15 [.agg (dgc false d), .c (rats false p)] (.tup [.c (rats true (if dpcode d p = 0 then valsL p d.nodes [] else [])), .c (errA (dpcode d p))]) := by
  have s1 := hs.l
  have s2 := hs.o
  have s3 := hs.n
  refine fa_of_body Try.func15 rfl rfl (by simp [Try.ntmps15]) fun C hC => ?_
  simp only [initS, Nat.reduceAdd]
  repeat first|apply wa1|apply wa2|apply wa3|apply wa4|apply wa5 rfl|apply wa6|apply wa7|(refine wb1 rfl fun R r=>?_;simp only[go_sem];with_reducible refine r _ _ ?_;clear r R)
  refine aw_box rfl rfl rfl (by simp only[go_sem]<;>rfl) (fun _ e => by cases e) rfl fun g2 hn_g2 => ?_
  replace hn_g2 := Heap.ne_of hn_g2
  first | dsimp only [Heap.ne, gh] at hn_g2 | dsimp only [Heap.ne] at hn_g2 | skip
  (try simp only[go_sem, hn_g2])
  repeat first|apply wa1|apply wa2|apply wa3|apply wa4|apply wa5 rfl|apply wa6|apply wa7|(refine wb1 rfl fun R r=>?_;simp only[go_sem, hn_g2];with_reducible refine r _ _ ?_;clear r R)
  refine aw_callq (scheckD_fa d p hs.w5 ?_ ?_ ?_) rfl rfl rfl (by first|exact True.intro|simp only[go_sem, hn_g2]<;>and_intros<;>first|exact True.intro|exact .c (.refl _)|exact .c wl2|exact .agg (lel_refl _)|exact .agg (by simp only[LeL];and_intros<;>first|exact True.intro|exact .refl _|exact wl2)|exact .c .nils) ?_
  · omega
  · omega
  · omega
  (try simp only[go_sem, hn_g2])
  repeat first|apply wa1|apply wa2|apply wa3|apply wa4|apply wa5 rfl|apply wa6|apply wa7|(refine wb1 rfl fun R r=>?_;simp only[go_sem, hn_g2];with_reducible refine r _ _ ?_;clear r R)
  refine aw_cond (by simp only[go_sem, hn_g2]<;>rfl) (fun hb => ?_) (fun hb => ?_)
  · have hb' : dpcode d p ≠ 0 := by simpa using hb
    rw [if_neg hb']
    repeat first|apply wa1|apply wa2|apply wa3|apply wa4|apply wa5 rfl|apply wa6|apply wa7|(refine wb1 rfl fun R r=>?_;simp only[go_sem, hn_g2];with_reducible refine r _ _ ?_;clear r R)
    (refine aw_retq hC rfl fun R r=>?_;simp only[go_sem, hn_g2];refine r _ rfl ?_;clear r R)
    exact .tup ⟨.c .nils, .c ler_err, trivial⟩
  · have hb' : dpcode d p = 0 := by simpa using hb
    obtain ⟨ok, hpl, _⟩ := dp_ok hb'
    have h6 := hs.o6 hb'
    rw [if_pos hb']
    have k1 := ok.n4096
    repeat first|apply wa1|apply wa2|apply wa3|apply wa4|apply wa5 rfl|apply wa6|apply wa7|(refine wb1 rfl fun R r=>?_;simp only[go_sem, hn_g2];with_reducible refine r _ _ ?_;clear r R)
    refine aw_callq (values_fa d p 1000 ?_ ?_ (fun r hr => wf_mono (hs.w r hr) ?_) (vals_wf ok hpl (L := 4) ?_ hs.w (Bl46 h6)) (ns_len ok hpl) ?_) rfl rfl rfl (by first|exact True.intro|simp only[go_sem, hn_g2]<;>and_intros<;>first|exact True.intro|exact .c (.refl _)|exact .c wl2|exact .agg (lel_refl _)|exact .agg (by simp only[LeL];and_intros<;>first|exact True.intro|exact .refl _|exact wl2)|exact .c .nils) ?_
    · omega
    · omega
    · omega
    · omega
    · omega
    (try simp only[go_sem, hn_g2])
    repeat first|apply wa1|apply wa2|apply wa3|apply wa4|apply wa5 rfl|apply wa6|apply wa7|(refine wb1 rfl fun R r=>?_;simp only[go_sem, hn_g2];with_reducible refine r _ _ ?_;clear r R)
    (refine aw_retq hC rfl fun R r=>?_;simp only[go_sem, hn_g2];refine r _ rfl ?_;clear r R)
    exact .tup ⟨.c ler_rats, .c (ler_err0 hb'), trivial⟩
end Go.Proofs.Ytmkomfdiggcloaa

/- shannon.Given. -/
namespace Go.PN
open Go.AI
/-- The probabilities when the first k events have been looked at. -/
def mixL (y n : Nat) (ps : List RD) (k : Nat) : List RD := condL y n ps k ++ ps.drop k
theorem mix_len {y n : Nat} {ps : List RD} {k : Nat} (h : k ≤ ps.length) : (mixL y n ps k).length = ps.length := by
  unfold mixL; rw [List.length_append, condL_len, List.length_drop]; omega
theorem mix_step {y n : Nat} {ps : List RD} {k : Nat} (h : k < ps.length) : mixL y n ps (k + 1) = (mixL y n ps k).set k (condR y n k (ps.getD k rd0)) := by
  unfold mixL
  rw [condL, List.drop_eq_getElem_cons h, List.set_append_right _ _ (by rw [condL_len]; exact Nat.le_refl _), condL_len, Nat.sub_self, List.set_cons_zero, List.append_assoc]
  rfl
theorem mix_same {y n : Nat} {ps : List RD} {k : Nat} (h : k < ps.length) (hy : y.testBit k = false) (hn : n.testBit k = false) : mixL y n ps (k + 1) = mixL y n ps k := by
  unfold mixL
  rw [condL, List.drop_eq_getElem_cons h]
  unfold condR
  rw [if_neg (by simp [hy]), if_neg (by simp [hn]), List.getD_eq_getElem?_getD, List.getElem?_eq_getElem h]
  simp
theorem mix_end {y n : Nat} {ps : List RD} : mixL y n ps ps.length = condL y n ps ps.length := by
  unfold mixL; rw [List.drop_length, List.append_nil]
noncomputable def gvcode (d : DG) (p : List RD) (y n : Int) : Int := if dpcode d p ≠ 0 then dpcode d p else gcode p y n
noncomputable def gvR (d : DG) (p : List RD) (y n : Int) : RD := if gvcode d p y n = 0 then rd (sumQ (condL y.toNat n.toNat p p.length) (tabL d) (2 ^ p.length)) else rd0
theorem ratsF_upd {xs : List RD} {i : Nat} {v : RD} (hi : i < xs.length) : updF (ratsF xs) (i * 3) [CV.bool v.neg, ws true v.num, ws true v.den] = ratsF (xs.set i v) := lf_upd (c := fun r : RD => [CV.bool r.neg, ws true r.num, ws true r.den]) hi rfl (by omega)
end Go.PN
namespace Go.Proofs.Ytmkomfdiggcloaa
open Go.AI Go.PN
attribute [local irreducible] aw Fa Fh DrK
set_option maxRecDepth 100000 in
set_option maxHeartbeats 3200000 in
theorem sgiven_fa (d : DG) (p : List RD) (y n : Int) (hs : Small d p) : Fa Try.prog 11 [.agg (dgc false d), .c (rats false p), .agg [.int .i64 y, .int .i64 n]] (.tup [.agg (rdc (gvR d p y n)), .c (errA (gvcode d p y n))]) := by
  have s1 := hs.l
  have s2 := hs.o
  have s3 := hs.n
  have hbad : gvcode d p y n ≠ 0 → gvR d p y n = rd0 := fun h => by unfold gvR; rw [if_neg h]
  refine fa_of_body Try.func11 rfl rfl (by simp [Try.ntmps11]) fun C hC => ?_
  simp only [initS, Nat.reduceAdd]
  repeat first|apply wa1|apply wa2|apply wa3|apply wa4|apply wa5 rfl|apply wa6|apply wa7|(refine wb1 rfl fun R r=>?_;simp only[go_sem];with_reducible refine r _ _ ?_;clear r R)
  refine aw_box rfl rfl rfl (by simp only[go_sem]<;>rfl) (fun _ e => by cases e) rfl fun g3 hn_g3 => ?_
  replace hn_g3 := Heap.ne_of hn_g3
  first | dsimp only [Heap.ne, gh] at hn_g3 | dsimp only [Heap.ne] at hn_g3 | skip
  (try simp only[go_sem, hn_g3])
  repeat first|apply wa1|apply wa2|apply wa3|apply wa4|apply wa5 rfl|apply wa6|apply wa7|(refine wb1 rfl fun R r=>?_;simp only[go_sem, hn_g3];with_reducible refine r _ _ ?_;clear r R)
  refine aw_box rfl rfl rfl (by simp only[go_sem, hn_g3]<;>rfl) (fun _ e => by cases e) rfl fun g5 hn_g5 => ?_
  replace hn_g5 := Heap.ne_of hn_g5
  first | dsimp only [Heap.ne, gh] at hn_g5 | dsimp only [Heap.ne] at hn_g5 | skip
  (try simp only[go_sem, hn_g3, hn_g5])
  repeat first|apply wa1|apply wa2|apply wa3|apply wa4|apply wa5 rfl|apply wa6|apply wa7|(refine wb1 rfl fun R r=>?_;simp only[go_sem, hn_g3, hn_g5];with_reducible refine r _ _ ?_;clear r R)
  refine aw_alloc rfl rfl rfl (by simp only[go_sem, hn_g3, hn_g5]<;>rfl) fun g6 hn_g6 => ?_
  replace hn_g6 := Heap.ne_of hn_g6
  first | dsimp only [Heap.ne, gh] at hn_g6 | dsimp only [Heap.ne] at hn_g6 | skip
  (try simp only[go_sem, hn_g3, hn_g5, hn_g6])
  repeat first|apply wa1|apply wa2|apply wa3|apply wa4|apply wa5 rfl|apply wa6|apply wa7|(refine wb1 rfl fun R r=>?_;simp only[go_sem, hn_g3, hn_g5, hn_g6];with_reducible refine r _ _ ?_;clear r R)
  refine aw_callq (scheckD_fa d p hs.w5 ?_ ?_ ?_) rfl rfl rfl (by first|exact True.intro|simp only[go_sem, hn_g3, hn_g5, hn_g6]<;>and_intros<;>first|exact True.intro|exact .c (.refl _)|exact .c wl2|exact .agg (lel_refl _)|exact .agg (by simp only[LeL];and_intros<;>first|exact True.intro|exact .refl _|exact wl2)|exact .c .nils) ?_
  · omega
  · omega
  · omega
  (try simp only[go_sem, hn_g3, hn_g5, hn_g6])
  repeat first|apply wa1|apply wa2|apply wa3|apply wa4|apply wa5 rfl|apply wa6|apply wa7|(refine wb1 rfl fun R r=>?_;simp only[go_sem, hn_g3, hn_g5, hn_g6];with_reducible refine r _ _ ?_;clear r R)
  refine aw_cond (by simp only[go_sem, hn_g3, hn_g5, hn_g6]<;>rfl) (fun hb => ?_) (fun hb => ?_)
  · have hb' : dpcode d p ≠ 0 := by simpa using hb
    have hcode : gvcode d p y n = dpcode d p := by unfold gvcode; rw [if_pos hb']
    rw [hbad (by rw [hcode]; exact hb'), hcode]
    repeat first|apply wa1|apply wa2|apply wa3|apply wa4|apply wa5 rfl|apply wa6|apply wa7|(refine wb1 rfl fun R r=>?_;simp only[go_sem, hn_g3, hn_g5, hn_g6];with_reducible refine r _ _ ?_;clear r R)
    refine aw_store rfl rfl rfl rfl (by simp only[go_sem, hn_g3, hn_g5, hn_g6]<;>rfl) (by simp only[go_sem, hn_g3, hn_g5, hn_g6]<;>rfl) (by simp only[go_sem, hn_g3, hn_g5, hn_g6]<;>rfl) (by simp only[go_sem, hn_g3, hn_g5, hn_g6]<;>rfl) (fun _ e => by cases e) (by rfl) (by rfl) (by first|omega|simp) rfl ?_
    (try simp only[go_sem, hn_g3, hn_g5, hn_g6])
    repeat first|apply wa1|apply wa2|apply wa3|apply wa4|apply wa5 rfl|apply wa6|apply wa7|(refine wb1 rfl fun R r=>?_;simp only[go_sem, hn_g3, hn_g5, hn_g6];with_reducible refine r _ _ ?_;clear r R)
    (refine aw_retq hC rfl fun R r=>?_;simp only[go_sem, hn_g3, hn_g5, hn_g6];refine r _ rfl ?_;clear r R)
    exact .tup ⟨.agg ⟨.bool _, .nils, .nils, trivial⟩, .c ler_err, trivial⟩
  · have hb' : dpcode d p = 0 := by simpa using hb
    obtain ⟨ok, hpl, hpr⟩ := dp_ok hb'
    have h6 := hs.o6 hb'
    have hcode : gvcode d p y n = gcode p y n := by unfold gvcode; rw [if_neg (by simp [hb'])]
    repeat first|apply wa1|apply wa2|apply wa3|apply wa4|apply wa5 rfl|apply wa6|apply wa7|(refine wb1 rfl fun R r=>?_;simp only[go_sem, hn_g3, hn_g5, hn_g6];with_reducible refine r _ _ ?_;clear r R)
    refine aw_callq (ccheck_fa y n) rfl rfl rfl (by first|exact True.intro|simp only[go_sem, hn_g3, hn_g5, hn_g6]<;>and_intros<;>first|exact True.intro|exact .c (.refl _)|exact .c wl2|exact .agg (lel_refl _)|exact .agg (by simp only[LeL];and_intros<;>first|exact True.intro|exact .refl _|exact wl2)|exact .c .nils) ?_
    (try simp only[go_sem, hn_g3, hn_g5, hn_g6])
    repeat first|apply wa1|apply wa2|apply wa3|apply wa4|apply wa5 rfl|apply wa6|apply wa7|(refine wb1 rfl fun R r=>?_;simp only[go_sem, hn_g3, hn_g5, hn_g6];with_reducible refine r _ _ ?_;clear r R)
    refine aw_cond (by simp only[go_sem, hn_g3, hn_g5, hn_g6]<;>rfl) (fun hc => ?_) (fun hc => ?_)
    · have hc' : ccode y n ≠ 0 := by simpa using hc
      have hcode2 : gcode p y n = ccode y n := by unfold gcode; rw [if_pos hc']
      rw [hbad (by rw [hcode, hcode2]; exact hc'), hcode, hcode2]
      repeat first|apply wa1|apply wa2|apply wa3|apply wa4|apply wa5 rfl|apply wa6|apply wa7|(refine wb1 rfl fun R r=>?_;simp only[go_sem, hn_g3, hn_g5, hn_g6];with_reducible refine r _ _ ?_;clear r R)
      refine aw_store rfl rfl rfl rfl (by simp only[go_sem, hn_g3, hn_g5, hn_g6]<;>rfl) (by simp only[go_sem, hn_g3, hn_g5, hn_g6]<;>rfl) (by simp only[go_sem, hn_g3, hn_g5, hn_g6]<;>rfl) (by simp only[go_sem, hn_g3, hn_g5, hn_g6]<;>rfl) (fun _ e => by cases e) (by rfl) (by rfl) (by first|omega|simp) rfl ?_
      (try simp only[go_sem, hn_g3, hn_g5, hn_g6])
      repeat first|apply wa1|apply wa2|apply wa3|apply wa4|apply wa5 rfl|apply wa6|apply wa7|(refine wb1 rfl fun R r=>?_;simp only[go_sem, hn_g3, hn_g5, hn_g6];with_reducible refine r _ _ ?_;clear r R)
      (refine aw_retq hC rfl fun R r=>?_;simp only[go_sem, hn_g3, hn_g5, hn_g6];refine r _ rfl ?_;clear r R)
      exact .tup ⟨.agg ⟨.bool _, .nils, .nils, trivial⟩, .c ler_err, trivial⟩
    · have hc' : ccode y n = 0 := by simpa using hc
      obtain ⟨a, b, rfl, rfl, ha, hbb⟩ := ccode_nat hc'
      have hcode2 : gcode p a b = if (a ||| b) / 2 ^ p.length ≠ 0 then 10 else if wtTo a b p p.length = 0 then 8 else 0 := by
        unfold gcode; rw [if_neg (by simp [hc']), Int.toNat_natCast, Int.toNat_natCast]
      repeat first|apply wa1|apply wa2|apply wa3|apply wa4|apply wa5 rfl|apply wa6|apply wa7|(refine wb1 rfl fun R r=>?_;simp only[go_sem, hn_g3, hn_g5, hn_g6];with_reducible refine r _ _ ?_;clear r R)
      refine aw_callq (weight_fa a b p ha hbb hc' 4 ?_ ?_ hs.w ?_ hpr) rfl rfl rfl (by first|exact True.intro|simp only[go_sem, hn_g3, hn_g5, hn_g6]<;>and_intros<;>first|exact True.intro|exact .c (.refl _)|exact .c wl2|exact .agg (lel_refl _)|exact .agg (by simp only[LeL];and_intros<;>first|exact True.intro|exact .refl _|exact wl2)|exact .c .nils) ?_
      · omega
      · omega
      · omega
      (try simp only[go_sem, hn_g3, hn_g5, hn_g6])
      repeat first|apply wa1|apply wa2|apply wa3|apply wa4|apply wa5 rfl|apply wa6|apply wa7|(refine wb1 rfl fun R r=>?_;simp only[go_sem, hn_g3, hn_g5, hn_g6];with_reducible refine r _ _ ?_;clear r R)
      refine aw_alloc rfl rfl rfl (by simp only[go_sem, hn_g3, hn_g5, hn_g6]<;>rfl) fun g10 hn_g10 => ?_
      replace hn_g10 := Heap.ne_of hn_g10
      first | dsimp only [Heap.ne, gh] at hn_g10 | dsimp only [Heap.ne] at hn_g10 | skip
      (try simp only[go_sem, hn_g3, hn_g5, hn_g6, hn_g10])
      repeat first|apply wa1|apply wa2|apply wa3|apply wa4|apply wa5 rfl|apply wa6|apply wa7|(refine wb1 rfl fun R r=>?_;simp only[go_sem, hn_g3, hn_g5, hn_g6, hn_g10];with_reducible refine r _ _ ?_;clear r R)
      refine aw_store rfl rfl rfl rfl (by simp only[go_sem, hn_g3, hn_g5, hn_g6, hn_g10]<;>rfl) (by simp only[go_sem, hn_g3, hn_g5, hn_g6, hn_g10]<;>rfl) (by simp only[go_sem, hn_g3, hn_g5, hn_g6, hn_g10]<;>rfl) (by simp only[go_sem, hn_g3, hn_g5, hn_g6, hn_g10]<;>rfl) (fun _ e => by cases e) (by rfl) (by rfl) (by first|omega|simp) rfl ?_
      (try simp only[go_sem, hn_g3, hn_g5, hn_g6, hn_g10])
      repeat first|apply wa1|apply wa2|apply wa3|apply wa4|apply wa5 rfl|apply wa6|apply wa7|(refine wb1 rfl fun R r=>?_;simp only[go_sem, hn_g3, hn_g5, hn_g6, hn_g10];with_reducible refine r _ _ ?_;clear r R)
      refine aw_cond (by simp only[go_sem, hn_g3, hn_g5, hn_g6, hn_g10]<;>rfl) (fun hx => ?_) (fun hx => ?_)
      · have hx' : ¬ (a ||| b) / 2 ^ p.length = 0 := fun e => by rw [if_pos e] at hx; simp at hx
        rw [if_pos hx'] at hcode2
        rw [hbad (by rw [hcode, hcode2]; decide), hcode, hcode2]
        rw [if_neg hx', if_neg hx']
        repeat first|apply wa1|apply wa2|apply wa3|apply wa4|apply wa5 rfl|apply wa6|apply wa7|(refine wb1 rfl fun R r=>?_;simp only[go_sem, hn_g3, hn_g5, hn_g6, hn_g10];with_reducible refine r _ _ ?_;clear r R)
        refine aw_store rfl rfl rfl rfl (by simp only[go_sem, hn_g3, hn_g5, hn_g6, hn_g10]<;>rfl) (by simp only[go_sem, hn_g3, hn_g5, hn_g6, hn_g10]<;>rfl) (by simp only[go_sem, hn_g3, hn_g5, hn_g6, hn_g10]<;>rfl) (by simp only[go_sem, hn_g3, hn_g5, hn_g6, hn_g10]<;>rfl) (fun _ e => by cases e) (by rfl) (by rfl) (by first|omega|simp) rfl ?_
        (try simp only[go_sem, hn_g3, hn_g5, hn_g6, hn_g10])
        repeat first|apply wa1|apply wa2|apply wa3|apply wa4|apply wa5 rfl|apply wa6|apply wa7|(refine wb1 rfl fun R r=>?_;simp only[go_sem, hn_g3, hn_g5, hn_g6, hn_g10];with_reducible refine r _ _ ?_;clear r R)
        (refine aw_retq hC rfl fun R r=>?_;simp only[go_sem, hn_g3, hn_g5, hn_g6, hn_g10];refine r _ rfl ?_;clear r R)
        exact .tup ⟨.agg ⟨.bool _, .nils, .nils, trivial⟩, .c ler_err, trivial⟩
      · have hx' : (a ||| b) / 2 ^ p.length = 0 := Classical.byContradiction fun e => by rw [if_neg e] at hx; simp at hx
        rw [if_neg (by simp [hx'])] at hcode2
        rw [if_pos hx', if_pos hx']
        have hfw : fits (wtTo a b p p.length) 10000 := by
          refine fits_mono (fits_wt (L := 4) (by omega) hs.w _) ?_
          omega
        repeat first|apply wa1|apply wa2|apply wa3|apply wa4|apply wa5 rfl|apply wa6|apply wa7|(refine wb1 rfl fun R r=>?_;simp only[go_sem, hn_g3, hn_g5, hn_g6, hn_g10];with_reducible refine r _ _ ?_;clear r R)
        refine aw_callq (rsign_fa _ ?_) rfl rfl rfl (by first|exact True.intro|simp only[go_sem, hn_g3, hn_g5, hn_g6, hn_g10]<;>and_intros<;>first|exact True.intro|exact .c (.refl _)|exact .c wl2|exact .agg (lel_refl _)|exact .agg (by simp only[LeL];and_intros<;>first|exact True.intro|exact .refl _|exact wl2)|exact .c .nils) ?_
        · exact rd_wf (fits_mono hfw (by omega))
        (try simp only[go_sem, hn_g3, hn_g5, hn_g6, hn_g10])
        rw [rd_q]
        repeat first|apply wa1|apply wa2|apply wa3|apply wa4|apply wa5 rfl|apply wa6|apply wa7|(refine wb1 rfl fun R r=>?_;simp only[go_sem, hn_g3, hn_g5, hn_g6, hn_g10];with_reducible refine r _ _ ?_;clear r R)
        refine aw_cond (by simp only[go_sem, hn_g3, hn_g5, hn_g6, hn_g10]<;>rfl) (fun hz => ?_) (fun hz => ?_)
        · rw [sgn0] at hz
          have hz' := of_decide_eq_true hz
          rw [if_pos hz'] at hcode2
          rw [hbad (by rw [hcode, hcode2]; decide), hcode, hcode2]
          repeat first|apply wa1|apply wa2|apply wa3|apply wa4|apply wa5 rfl|apply wa6|apply wa7|(refine wb1 rfl fun R r=>?_;simp only[go_sem, hn_g3, hn_g5, hn_g6, hn_g10];with_reducible refine r _ _ ?_;clear r R)
          refine aw_store rfl rfl rfl rfl (by simp only[go_sem, hn_g3, hn_g5, hn_g6, hn_g10]<;>rfl) (by simp only[go_sem, hn_g3, hn_g5, hn_g6, hn_g10]<;>rfl) (by simp only[go_sem, hn_g3, hn_g5, hn_g6, hn_g10]<;>rfl) (by simp only[go_sem, hn_g3, hn_g5, hn_g6, hn_g10]<;>rfl) (fun _ e => by cases e) (by rfl) (by rfl) (by first|omega|simp) rfl ?_
          (try simp only[go_sem, hn_g3, hn_g5, hn_g6, hn_g10])
          repeat first|apply wa1|apply wa2|apply wa3|apply wa4|apply wa5 rfl|apply wa6|apply wa7|(refine wb1 rfl fun R r=>?_;simp only[go_sem, hn_g3, hn_g5, hn_g6, hn_g10];with_reducible refine r _ _ ?_;clear r R)
          (refine aw_retq hC rfl fun R r=>?_;simp only[go_sem, hn_g3, hn_g5, hn_g6, hn_g10];refine r _ rfl ?_;clear r R)
          exact .tup ⟨.agg ⟨.bool _, .nils, .nils, trivial⟩, .c (ler_errN rfl (by omega)), trivial⟩
        · rw [sgn0] at hz
          have hz' := of_decide_eq_false hz
          rw [if_neg hz'] at hcode2
          have hgood : gvR d p a b = rd (sumQ (condL a b p p.length) (tabL d) (2 ^ p.length)) := by
            unfold gvR; rw [if_pos (by rw [hcode, hcode2]), Int.toNat_natCast, Int.toNat_natCast]
          rw [hgood, hcode, hcode2]
          repeat first|apply wa1|apply wa2|apply wa3|apply wa4|apply wa5 rfl|apply wa6|apply wa7|(refine wb1 rfl fun R r=>?_;simp only[go_sem, hn_g3, hn_g5, hn_g6, hn_g10];with_reducible refine r _ _ ?_;clear r R)
          refine aw_callh (hr := [(g10, AObj.cells 31 3 (ofL (rdc (rd (wtTo a b p p.length))))), (g6, AObj.cells 31 3 (ofL [.bool false, .nils, .nils])), (g5, AObj.cells 41 2 (ofL [.int .i64 (a : Int), .int .i64 (b : Int)])), (g3, AObj.cells 25 3 (ofL (dgc false d)))]) (clone_fh p (by omega)) rfl rfl rfl (List.Perm.refl _) (by first|exact True.intro|simp only[go_sem, hn_g3, hn_g5, hn_g6, hn_g10]<;>and_intros<;>first|exact True.intro|exact .c (.refl _)|exact .c wl2|exact .agg (lel_refl _)|exact .agg (by simp only[LeL];and_intros<;>first|exact True.intro|exact .refl _|exact wl2)|exact .c .nils) ?_
          rintro _ _ ⟨og, hog, rfl, rfl⟩ hk2
          have hgn : ∀ g, og = some g → g ∉ Heap.keys [(g10, AObj.cells 31 3 (ofL (rdc (rd (wtTo a b p p.length))))), (g6, AObj.cells 31 3 (ofL [.bool false, .nils, .nils])), (g5, AObj.cells 41 2 (ofL [.int .i64 (a : Int), .int .i64 (b : Int)])), (g3, AObj.cells 25 3 (ofL (dgc false d)))] := fun g e => by subst e; exact hk2 g (by simp [Heap.keys, gh])
          (try simp only[go_sem, hn_g3, hn_g5, hn_g6, hn_g10])
          refine aw_perm (List.perm_append_comm (l₂ := [(g10, AObj.cells 31 3 (ofL (rdc (rd (wtTo a b p p.length))))), (g6, AObj.cells 31 3 (ofL [.bool false, .nils, .nils])), (g5, AObj.cells 41 2 (ofL [.int .i64 (a : Int), .int .i64 (b : Int)])), (g3, AObj.cells 25 3 (ofL (dgc false d)))])) ?_
          have hlen := lenCV_gs (s := 3) hog
          (try simp only[go_sem, hn_g3, hn_g5, hn_g6, hn_g10, ↓hlen])
          repeat first|apply wa1|apply wa2|apply wa3|apply wa4|apply wa5 rfl|apply wa6|apply wa7|(refine wb1 rfl fun R r=>?_;simp only[go_sem, hn_g3, hn_g5, hn_g6, hn_g10, ↓hlen];with_reducible refine r _ _ ?_;clear r R)
          refine aw_lp (fun k : Nat => [(3, .c (.optr g3 0)), (5, .c (.optr g5 0)), (6, .c (.optr g6 0)), (12, .c (gs og 3 p.length)), (45, .c (.int .i64 p.length)), (46, .c (.int .i64 k))]) (fun k => [(g10, AObj.cells 31 3 (ofL (rdc (rd (wtTo a b p p.length))))), (g6, AObj.cells 31 3 (ofL [.bool false, .nils, .nils])), (g5, AObj.cells 41 2 (ofL [.int .i64 (a : Int), .int .i64 (b : Int)])), (g3, AObj.cells 25 3 (ofL (dgc false d)))] ++ gh og 31 (p.length * 3) (ratsF (mixL a b p k))) (fun k => k ≤ p.length) (fun k => p.length - k) 0 (by simp only[go_sem, hn_g3, hn_g5, hn_g6, hn_g10, ↓hlen]<;>and_intros<;>first|exact True.intro|(with_reducible rfl)|exact c_int (by omega)|rfl) (List.Sublist.refl _) (Nat.zero_le _) ?_
          rintro k hk
          have hml := mix_len (y := a) (n := b) hk
          repeat first|apply wa1|apply wa2|apply wa3|apply wa4|apply wa5 rfl|apply wa6|apply wa7|(refine wb1 rfl fun R r=>?_;simp only[go_sem, hn_g3, hn_g5, hn_g6, hn_g10, ↓hlen];with_reducible refine r _ _ ?_;clear r R)
          refine aw_cond (by simp only[go_sem, hn_g3, hn_g5, hn_g6, hn_g10, ↓hlen]<;>rfl) (fun h1 => ?_) (fun h1 => ?_)
          · have h1' : k < p.length := by have := of_decide_eq_true h1; omega
            obtain ⟨g, rfl⟩ : ∃ g, og = some g := by
              cases og with
              | none => have := hog rfl; omega
              | some g => exact ⟨g, rfl⟩
            have hg := hgn g rfl
            replace hg := Heap.ne_of hg
            dsimp only [Heap.ne] at hg
            have b1 := shrZ_nat a k (by omega)
            have b2 := and_one_nat (a / 2 ^ k) (Nat.lt_of_le_of_lt (Nat.div_le_self _ _) (by omega))
            have b3 := bit_eq a k
            have c1 := shrZ_nat b k (by omega)
            have c2 := and_one_nat (b / 2 ^ k) (Nat.lt_of_le_of_lt (Nat.div_le_self _ _) (by omega))
            have c3 := bit_eq b k
            dsimp only [gs, gh, List.cons_append, List.nil_append]
            repeat first|apply wa1|apply wa2|apply wa3|apply wa4|apply wa5 rfl|apply wa6|apply wa7|(refine wb1 rfl fun R r=>?_;simp only[go_sem, hn_g3, hn_g5, hn_g6, hn_g10, ↓hlen, hg, b1, b2, b3, c1, c2, c3];with_reducible refine r _ _ ?_;clear r R)
            refine aw_cond (by simp only[go_sem, hn_g3, hn_g5, hn_g6, hn_g10, ↓hlen, hg, b1, b2, b3, c1, c2, c3]<;>rfl) (fun h2 => ?_) (fun h2 => ?_)
            · repeat first|apply wa1|apply wa2|apply wa3|apply wa4|apply wa5 rfl|apply wa6|apply wa7|(refine wb1 rfl fun R r=>?_;simp only[go_sem, hn_g3, hn_g5, hn_g6, hn_g10, ↓hlen, hg, b1, b2, b3, c1, c2, c3];with_reducible refine r _ _ ?_;clear r R)
              refine aw_callq (rof_fa 1 ?_ ?_) rfl rfl rfl (by first|exact True.intro|simp only[go_sem, hn_g3, hn_g5, hn_g6, hn_g10, ↓hlen, hg, b1, b2, b3, c1, c2, c3]<;>and_intros<;>first|exact True.intro|exact .c (.refl _)|exact .c wl2|exact .agg (lel_refl _)|exact .agg (by simp only[LeL];and_intros<;>first|exact True.intro|exact .refl _|exact wl2)|exact .c .nils) ?_
              · omega
              · omega
              (try simp only[go_sem, hn_g3, hn_g5, hn_g6, hn_g10, ↓hlen, hg, b1, b2, b3, c1, c2, c3])
              repeat first|apply wa1|apply wa2|apply wa3|apply wa4|apply wa5 rfl|apply wa6|apply wa7|(refine wb1 rfl fun R r=>?_;simp only[go_sem, hn_g3, hn_g5, hn_g6, hn_g10, ↓hlen, hg, b1, b2, b3, c1, c2, c3];with_reducible refine r _ _ ?_;clear r R)
              refine aw_store rfl rfl rfl rfl (by simp only[go_sem, hn_g3, hn_g5, hn_g6, hn_g10, ↓hlen, hg, b1, b2, b3, c1, c2, c3]<;>rfl) (by simp only[go_sem, hn_g3, hn_g5, hn_g6, hn_g10, ↓hlen, hg, b1, b2, b3, c1, c2, c3]<;>rfl) (by simp only[go_sem, hn_g3, hn_g5, hn_g6, hn_g10, ↓hlen, hg, b1, b2, b3, c1, c2, c3]<;>rfl) (by simp only[go_sem, hn_g3, hn_g5, hn_g6, hn_g10, ↓hlen, hg, b1, b2, b3, c1, c2, c3]<;>rfl) (fun _ e => by cases e) (by rfl) (by rfl) (by first|omega|simp) rfl ?_
              (try simp only[go_sem, hn_g3, hn_g5, hn_g6, hn_g10, ↓hlen, hg, b1, b2, b3, c1, c2, c3])
              rw [ratsF_upd (by omega)]
              have e := mix_step (y := a) (n := b) h1'
              rw [condR_cast, if_pos h2] at e
              rw [← e]
              repeat first|apply wa1|apply wa2|apply wa3|apply wa4|apply wa5 rfl|apply wa6|apply wa7|(refine wb1 rfl fun R r=>?_;simp only[go_sem, hn_g3, hn_g5, hn_g6, hn_g10, ↓hlen, hg, b1, b2, b3, c1, c2, c3];with_reducible refine r _ _ ?_;clear r R)
              exact aw_stop ⟨k + 1, by omega, (by simp only[go_sem, hn_g3, hn_g5, hn_g6, hn_g10, ↓hlen, hg, b1, b2, b3, c1, c2, c3]<;>and_intros<;>first|exact True.intro|(with_reducible rfl)|exact c_int (by omega)|rfl), (List.Sublist.refl _), by omega⟩
            · repeat first|apply wa1|apply wa2|apply wa3|apply wa4|apply wa5 rfl|apply wa6|apply wa7|(refine wb1 rfl fun R r=>?_;simp only[go_sem, hn_g3, hn_g5, hn_g6, hn_g10, ↓hlen, hg, b1, b2, b3, c1, c2, c3];with_reducible refine r _ _ ?_;clear r R)
              refine aw_cond (by simp only[go_sem, hn_g3, hn_g5, hn_g6, hn_g10, ↓hlen, hg, b1, b2, b3, c1, c2, c3]<;>rfl) (fun h3 => ?_) (fun h3 => ?_)
              · repeat first|apply wa1|apply wa2|apply wa3|apply wa4|apply wa5 rfl|apply wa6|apply wa7|(refine wb1 rfl fun R r=>?_;simp only[go_sem, hn_g3, hn_g5, hn_g6, hn_g10, ↓hlen, hg, b1, b2, b3, c1, c2, c3];with_reducible refine r _ _ ?_;clear r R)
                refine aw_conv (t := 69) (v := .agg (rdc rd0)) (by (try simp only[go_sem, hn_g3, hn_g5, hn_g6, hn_g10, ↓hlen, hg, b1, b2, b3, c1, c2, c3]); exact zero_agg) rfl ?_
                (try simp only[go_sem, hn_g3, hn_g5, hn_g6, hn_g10, ↓hlen, hg, b1, b2, b3, c1, c2, c3])
                refine aw_store rfl rfl rfl rfl (by simp only[go_sem, hn_g3, hn_g5, hn_g6, hn_g10, ↓hlen, hg, b1, b2, b3, c1, c2, c3]<;>rfl) (by simp only[go_sem, hn_g3, hn_g5, hn_g6, hn_g10, ↓hlen, hg, b1, b2, b3, c1, c2, c3]<;>rfl) (by simp only[go_sem, hn_g3, hn_g5, hn_g6, hn_g10, ↓hlen, hg, b1, b2, b3, c1, c2, c3]<;>rfl) (by simp only[go_sem, hn_g3, hn_g5, hn_g6, hn_g10, ↓hlen, hg, b1, b2, b3, c1, c2, c3]<;>rfl) (fun _ e => by cases e) (by rfl) (by rfl) (by first|omega|simp) rfl ?_
                (try simp only[go_sem, hn_g3, hn_g5, hn_g6, hn_g10, ↓hlen, hg, b1, b2, b3, c1, c2, c3])
                rw [ratsF_upd (by omega)]
                have e := mix_step (y := a) (n := b) h1'
                rw [condR_cast, if_neg (by simp [h2]), if_pos h3] at e
                rw [← e]
                repeat first|apply wa1|apply wa2|apply wa3|apply wa4|apply wa5 rfl|apply wa6|apply wa7|(refine wb1 rfl fun R r=>?_;simp only[go_sem, hn_g3, hn_g5, hn_g6, hn_g10, ↓hlen, hg, b1, b2, b3, c1, c2, c3];with_reducible refine r _ _ ?_;clear r R)
                exact aw_stop ⟨k + 1, by omega, (by simp only[go_sem, hn_g3, hn_g5, hn_g6, hn_g10, ↓hlen, hg, b1, b2, b3, c1, c2, c3]<;>and_intros<;>first|exact True.intro|(with_reducible rfl)|exact c_int (by omega)|rfl), (List.Sublist.refl _), by omega⟩
              · repeat first|apply wa1|apply wa2|apply wa3|apply wa4|apply wa5 rfl|apply wa6|apply wa7|(refine wb1 rfl fun R r=>?_;simp only[go_sem, hn_g3, hn_g5, hn_g6, hn_g10, ↓hlen, hg, b1, b2, b3, c1, c2, c3];with_reducible refine r _ _ ?_;clear r R)
                rw [← mix_same h1' h2 h3]
                exact aw_stop ⟨k + 1, by omega, (by simp only[go_sem, hn_g3, hn_g5, hn_g6, hn_g10, ↓hlen, hg, b1, b2, b3, c1, c2, c3]<;>and_intros<;>first|exact True.intro|(with_reducible rfl)|exact c_int (by omega)|rfl), (List.Sublist.refl _), by omega⟩
          · have h1' : k = p.length := by have := of_decide_eq_false h1; omega
            subst h1'
            rw [mix_end]
            have k0 := condL_len a b p p.length
            have k1 := ok.n4096
            have k2 := ok.r1
            have k3 := vlen (ps := condL a b p p.length) (ns := d.nodes)
            have hcl := plain_law ok (ps := condL a b p p.length) (by omega)
            rw [k0] at hcl
            rw [← hcl]
            repeat first|apply wa1|apply wa2|apply wa3|apply wa4|apply wa5 rfl|apply wa6|apply wa7|(refine wb1 rfl fun R r=>?_;simp only[go_sem, hn_g3, hn_g5, hn_g6, hn_g10, ↓hlen];with_reducible refine r _ _ ?_;clear r R)
            refine aw_dr 6 ty_mixed (by kernel_rfl) ?_
            repeat first|apply wa1|apply wa2|apply wa3|apply wa4|apply wa5 rfl|apply wa6|apply wa7|(refine wb1 rfl fun R r=>?_;simp only[go_sem, hn_g3, hn_g5, hn_g6, hn_g10, ↓hlen];with_reducible refine r _ _ ?_;clear r R)|apply wa8|(refine wd1 rfl fun R r=>?_;simp only[go_sem, hn_g3, hn_g5, hn_g6, hn_g10, ↓hlen];with_reducible refine r _ _ ?_;clear r R)
            refine drk_call (values_fa d (condL a b p p.length) 1000 (by omega) (by omega) (fun r hr => wf_mono (condL_wf (L := 4) (by omega) hs.w _ r hr) (by omega)) (vals_wf ok (by omega) (L := 4) (by omega) (condL_wf (by omega) hs.w _) (Bl46 h6)) (ns_len ok (by omega)) (by omega)) rfl rfl rfl (by (try simp only[go_sem, hn_g3, hn_g5, hn_g6, hn_g10, ↓hlen]); exact ⟨.agg (lel_refl _), .c (le_gsr (pre := [(g10, _), (g6, _), (g5, _), (g3, _)]) hog hgn k0)⟩) ?_
            (try simp only[go_sem, hn_g3, hn_g5, hn_g6, hn_g10, ↓hlen])
            repeat first|apply wa1|apply wa2|apply wa3|apply wa4|apply wa5 rfl|apply wa6|apply wa7|(refine wb1 rfl fun R r=>?_;simp only[go_sem, hn_g3, hn_g5, hn_g6, hn_g10, ↓hlen];with_reducible refine r _ _ ?_;clear r R)|apply wa8|(refine wd1 rfl fun R r=>?_;simp only[go_sem, hn_g3, hn_g5, hn_g6, hn_g10, ↓hlen];with_reducible refine r _ _ ?_;clear r R)
            refine drk_call (of_fa' (valsL (condL a b p p.length) d.nodes []) d.root ok.r0 ?_ ?_) rfl rfl rfl (by first|exact True.intro|simp only[go_sem, hn_g3, hn_g5, hn_g6, hn_g10, ↓hlen]<;>and_intros<;>first|exact True.intro|exact .c (.refl _)|exact .c wl2|exact .agg (lel_refl _)|exact .agg (by simp only[LeL];and_intros<;>first|exact True.intro|exact .refl _|exact wl2)|exact .c .nils) ?_
            · omega
            · omega
            (try simp only[go_sem, hn_g3, hn_g5, hn_g6, hn_g10, ↓hlen])
            repeat first|apply wa1|apply wa2|apply wa3|apply wa4|apply wa5 rfl|apply wa6|apply wa7|(refine wb1 rfl fun R r=>?_;simp only[go_sem, hn_g3, hn_g5, hn_g6, hn_g10, ↓hlen];with_reducible refine r _ _ ?_;clear r R)|apply wa8|(refine wd1 rfl fun R r=>?_;simp only[go_sem, hn_g3, hn_g5, hn_g6, hn_g10, ↓hlen];with_reducible refine r _ _ ?_;clear r R)
            refine aw_store rfl rfl rfl rfl (by simp only[go_sem, hn_g3, hn_g5, hn_g6, hn_g10, ↓hlen]<;>rfl) (by simp only[go_sem, hn_g3, hn_g5, hn_g6, hn_g10, ↓hlen]<;>rfl) (by simp only[go_sem, hn_g3, hn_g5, hn_g6, hn_g10, ↓hlen]<;>rfl) (by simp only[go_sem, hn_g3, hn_g5, hn_g6, hn_g10, ↓hlen]<;>rfl) (fun _ e => by cases e) (by rfl) (by rfl) (by first|omega|simp) rfl ?_
            (try simp only[go_sem, hn_g3, hn_g5, hn_g6, hn_g10, ↓hlen])
            repeat first|apply wa1|apply wa2|apply wa3|apply wa4|apply wa5 rfl|apply wa6|apply wa7|(refine wb1 rfl fun R r=>?_;simp only[go_sem, hn_g3, hn_g5, hn_g6, hn_g10, ↓hlen];with_reducible refine r _ _ ?_;clear r R)|apply wa8|(refine wd1 rfl fun R r=>?_;simp only[go_sem, hn_g3, hn_g5, hn_g6, hn_g10, ↓hlen];with_reducible refine r _ _ ?_;clear r R)
            (refine aw_retq hC rfl fun R r=>?_;simp only[go_sem, hn_g3, hn_g5, hn_g6, hn_g10, ↓hlen];refine r _ rfl ?_;clear r R)
            exact .tup ⟨.agg lerl_rd, .c (ler_err0 rfl), trivial⟩
end Go.Proofs.Ytmkomfdiggcloaa

/- faultlinelaw37.large. -/
namespace Go.AI
section
variable {E : Env} {K : List It} {σ σ' : Sl} {h : Heap} {all rest : List Oper} {o : Oper}
/-- An operation that is left out leaves nothing. -/
theorem aw_skipU (hw : wantA all σ o = some false) (hd : dstOk E.N o.dst = true) (k : aw E (.ops all rest :: K) (σ.setO o.dst (.c (.raw undef))) h) : aw E (.ops all (o :: rest) :: K) σ h := fun a w s => by
  show wpList _ _ _ _ _ _
  unfold wpList
  rw [if_neg (by rw [s.wanted hw]; simp)]
  exact k _ _ (s.put hd (r := .c (.raw undef)) rfl)
/-- An operation that hangs on one that was left out is left out too. -/
theorem aw_skipN {j t : Nat} {want : Bool} (hg : o.guard = some (j, want)) (hj : (all[j]?).bind (·.dst) = some t) (ht : σ.get t = .c (.raw undef)) (hd : dstOk E.N o.dst = true) (k : aw E (.ops all rest :: K) (σ.setO o.dst (.c .any)) h) : aw E (.ops all (o :: rest) :: K) σ h := fun a w s => by
  have hnw : Region.wanted o (yielded all.toArray a.tmps) = false := by
    unfold Region.wanted
    rw [hg]
    show (yielded all.toArray a.tmps j == some want) = false
    have hy : yielded all.toArray a.tmps j = none := by
      unfold yielded
      have h1 : ((all.toArray[j]?).bind (·.dst)) = some t := by simpa using hj
      rw [h1]
      have h2 := s.slots t
      rw [ht] at h2
      have h3 : a.tmps.getD t undef = undef := h2
      simp only [Option.bind_some]
      rw [Array.getD_eq_getD_getElem?] at h3
      cases h4 : a.tmps[t]? with
      | none => rfl
      | some v =>
        rw [h4] at h3
        have h5 : v = undef := h3
        subst h5
        rfl
    rw [hy]; rfl
  show wpList _ _ _ _ _ _
  unfold wpList
  rw [if_neg (by rw [hnw]; simp)]
  exact k _ _ (s.put hd (r := .c .any) trivial)
end
end Go.AI
namespace Go.PN
open Go.AI
def bigR (r : RD) : Bool := decide ((r.num.length : Int) > 4) || decide ((r.den.length : Int) > 4)
def largeA (d : DG) (p : List RD) : Bool := decide ((p.length : Int) > 100) || decide ((d.order.length : Int) > 100) || (decide ((d.nodes.length : Int) > 300) && decide ((d.nodes.length : Int) ≤ 4096)) || (decide ((d.order.length : Int) > 6) && (dcode d == 0))
def largeB (d : DG) (p : List RD) : Bool := largeA d p || p.any bigR
/-- Words that are words. -/
def WordsOk (p : List RD) : Prop := ∀ r ∈ p, (∀ x ∈ r.num, x < 4294967296) ∧ (∀ x ∈ r.den, x < 4294967296)
end Go.PN
namespace Go.Proofs.Ytmkomfdiggcloaa
open Go.AI Go.PN
attribute [local irreducible] aw Fa Fh DrK
theorem small_of {d : DG} {p : List RD} (hw : WordsOk p) (hn : d.nodes.length ≤ 1099511627776) (h : largeB d p = false) : Small d p := by
  unfold largeB largeA at h
  simp only [Bool.or_eq_false_iff, Bool.and_eq_false_iff, decide_eq_false_iff_not, beq_eq_false_iff_ne] at h
  obtain ⟨⟨⟨⟨h1, h2⟩, h3⟩, h4⟩, h5⟩ := h
  have h5' : ∀ r ∈ p, bigR r = false := by
    intro r hr
    cases hb : bigR r with
    | false => rfl
    | true => rw [List.any_eq_true.2 ⟨r, hr, hb⟩] at h5; cases h5
  refine ⟨fun r hr => ?_, by omega, by omega, hn, fun h0 => ?_⟩
  · have := h5' r hr
    unfold bigR at this
    simp only [Bool.or_eq_false_iff, decide_eq_false_iff_not] at this
    exact ⟨(hw r hr).1, (hw r hr).2, by omega, by omega⟩
  · rcases h4 with h4 | h4
    · omega
    · refine absurd ?_ h4
      unfold dpcode at h0
      split at h0
      · rename_i hc; exact absurd h0 hc
      · rename_i hc; simpa using hc
set_option maxRecDepth 100000 in
set_option maxHeartbeats 1600000 in
theorem large_fa (d : DG) (p : List RD) (hl : p.length ≤ 1099511627776) (hl1 : d.order.length ≤ 1099511627776) (hl2 : d.nodes.length ≤ 1099511627776) : Fa Try.prog 20 [.agg (dgc false d), .c (rats false p)] (.c (.bool (largeB d p))) := by
  have hA : largeA d p = true → largeB d p = true := fun h => by unfold largeB; rw [h]; rfl
  refine fa_of_body Try.func20 rfl rfl (by simp [Try.ntmps20]) fun C hC => ?_
  simp only [initS, Nat.reduceAdd]
  apply aw_seq
  apply aw_region
  refine aw_box rfl rfl rfl (by simp only[go_sem]<;>rfl) (fun _ e => by cases e) rfl fun g2 hn_g2 => ?_
  replace hn_g2 := Heap.ne_of hn_g2
  first | dsimp only [Heap.ne, gh] at hn_g2 | dsimp only [Heap.ne] at hn_g2 | skip
  (try simp only[go_sem, hn_g2])
  repeat first|apply wa7|(refine wb1 rfl fun R r=>?_;simp only[go_sem, hn_g2];with_reducible refine r _ _ ?_;clear r R)
  apply aw_seq
  refine aw_cut (fun _ : Unit => [(1, .c (rats false p))]) (fun _ => []) (fun _ => largeA d p = false) ?_ ?_
  · repeat first|apply wa1|apply wa2|apply wa3|apply wa4|apply wa5 rfl|apply wa6|apply wa7|(refine wb1 rfl fun R r=>?_;simp only[go_sem, hn_g2];with_reducible refine r _ _ ?_;clear r R)
    refine aw_split 9 (by simp only[go_sem, hn_g2]<;>rfl) (fun a1 => ?_) (fun a1 => ?_) <;> (try simp only[go_sem, hn_g2])
    · rw [hA (by unfold largeA; rw [a1]; rfl)]
      iterate 10 (refine wb1 rfl fun R r=>?_;simp only[go_sem, hn_g2];with_reducible refine r _ _ ?_;clear r R)
      refine aw_skipU (by simp only[go_sem, hn_g2]<;>rfl) rfl ?_
      (try simp only[go_sem, hn_g2])
      iterate 4 (refine aw_skipN rfl rfl (by simp only[go_sem, hn_g2]<;>rfl) rfl ?_; (try simp only[go_sem, hn_g2]))
      (refine wb1 rfl fun R r=>?_;simp only[go_sem, hn_g2];with_reducible refine r _ _ ?_;clear r R)
      (refine wb1 rfl fun R r=>?_;simp only[go_sem, hn_g2];with_reducible refine r _ _ ?_;clear r R)
      (refine wb1 rfl fun R r=>?_;simp only[go_sem, hn_g2];with_reducible refine r _ _ ?_;clear r R)
      iterate 4 (refine wb1 rfl fun R r=>?_;simp only[go_sem, hn_g2];with_reducible refine r _ _ ?_;clear r R)
      refine aw_skipU (by simp only[go_sem, hn_g2]<;>rfl) rfl ?_
      (try simp only[go_sem, hn_g2])
      iterate 3 (refine aw_skipN rfl rfl (by simp only[go_sem, hn_g2]<;>rfl) rfl ?_; (try simp only[go_sem, hn_g2]))
      repeat first|apply wa1|apply wa2|apply wa3|apply wa4|apply wa5 rfl|apply wa6|apply wa7|(refine wb1 rfl fun R r=>?_;simp only[go_sem, hn_g2];with_reducible refine r _ _ ?_;clear r R)|apply wa8|(refine wd1 rfl fun R r=>?_;simp only[go_sem, hn_g2];with_reducible refine r _ _ ?_;clear r R)
      refine aw_condT (by simp only[go_sem, hn_g2]<;>rfl) ?_
      repeat first|apply wa1|apply wa2|apply wa3|apply wa4|apply wa5 rfl|apply wa6|apply wa7|(refine wb1 rfl fun R r=>?_;simp only[go_sem, hn_g2];with_reducible refine r _ _ ?_;clear r R)|apply wa8|(refine wd1 rfl fun R r=>?_;simp only[go_sem, hn_g2];with_reducible refine r _ _ ?_;clear r R)
      (refine aw_retq hC rfl fun R r=>?_;simp only[go_sem, hn_g2];refine r _ rfl ?_;clear r R)
      exact .one (.c (.bool _))
    repeat first|apply wa1|apply wa2|apply wa3|apply wa4|apply wa5 rfl|apply wa6|apply wa7|(refine wb1 rfl fun R r=>?_;simp only[go_sem, hn_g2];with_reducible refine r _ _ ?_;clear r R)|apply wa8|(refine wd1 rfl fun R r=>?_;simp only[go_sem, hn_g2];with_reducible refine r _ _ ?_;clear r R)
    refine aw_split 15 (by simp only[go_sem, hn_g2]<;>rfl) (fun a2 => ?_) (fun a2 => ?_) <;> (try simp only[go_sem, hn_g2])
    · rw [hA (by unfold largeA; rw [a1, a2]; rfl)]
      iterate 4 (refine wb1 rfl fun R r=>?_;simp only[go_sem, hn_g2];with_reducible refine r _ _ ?_;clear r R)
      refine aw_skipU (by simp only[go_sem, hn_g2]<;>rfl) rfl ?_
      (try simp only[go_sem, hn_g2])
      iterate 4 (refine aw_skipN rfl rfl (by simp only[go_sem, hn_g2]<;>rfl) rfl ?_; (try simp only[go_sem, hn_g2]))
      (refine wb1 rfl fun R r=>?_;simp only[go_sem, hn_g2];with_reducible refine r _ _ ?_;clear r R)
      (refine wb1 rfl fun R r=>?_;simp only[go_sem, hn_g2];with_reducible refine r _ _ ?_;clear r R)
      (refine wb1 rfl fun R r=>?_;simp only[go_sem, hn_g2];with_reducible refine r _ _ ?_;clear r R)
      iterate 4 (refine wb1 rfl fun R r=>?_;simp only[go_sem, hn_g2];with_reducible refine r _ _ ?_;clear r R)
      refine aw_skipU (by simp only[go_sem, hn_g2]<;>rfl) rfl ?_
      (try simp only[go_sem, hn_g2])
      iterate 3 (refine aw_skipN rfl rfl (by simp only[go_sem, hn_g2]<;>rfl) rfl ?_; (try simp only[go_sem, hn_g2]))
      repeat first|apply wa1|apply wa2|apply wa3|apply wa4|apply wa5 rfl|apply wa6|apply wa7|(refine wb1 rfl fun R r=>?_;simp only[go_sem, hn_g2];with_reducible refine r _ _ ?_;clear r R)|apply wa8|(refine wd1 rfl fun R r=>?_;simp only[go_sem, hn_g2];with_reducible refine r _ _ ?_;clear r R)
      refine aw_condT (by simp only[go_sem, hn_g2]<;>rfl) ?_
      repeat first|apply wa1|apply wa2|apply wa3|apply wa4|apply wa5 rfl|apply wa6|apply wa7|(refine wb1 rfl fun R r=>?_;simp only[go_sem, hn_g2];with_reducible refine r _ _ ?_;clear r R)|apply wa8|(refine wd1 rfl fun R r=>?_;simp only[go_sem, hn_g2];with_reducible refine r _ _ ?_;clear r R)
      (refine aw_retq hC rfl fun R r=>?_;simp only[go_sem, hn_g2];refine r _ rfl ?_;clear r R)
      exact .one (.c (.bool _))
    repeat first|apply wa1|apply wa2|apply wa3|apply wa4|apply wa5 rfl|apply wa6|apply wa7|(refine wb1 rfl fun R r=>?_;simp only[go_sem, hn_g2];with_reducible refine r _ _ ?_;clear r R)|apply wa8|(refine wd1 rfl fun R r=>?_;simp only[go_sem, hn_g2];with_reducible refine r _ _ ?_;clear r R)
    refine aw_split 20 (by simp only[go_sem, hn_g2]<;>rfl) (fun a3 => ?_) (fun a3 => ?_) <;> (try simp only[go_sem, hn_g2])
    · repeat first|apply wa1|apply wa2|apply wa3|apply wa4|apply wa5 rfl|apply wa6|apply wa7|(refine wb1 rfl fun R r=>?_;simp only[go_sem, hn_g2];with_reducible refine r _ _ ?_;clear r R)|apply wa8|(refine wd1 rfl fun R r=>?_;simp only[go_sem, hn_g2];with_reducible refine r _ _ ?_;clear r R)
      refine aw_split 27 (by simp only[go_sem, hn_g2]<;>rfl) (fun a4 => ?_) (fun a4 => ?_) <;> (try simp only[go_sem, hn_g2])
      · rw [hA (by unfold largeA; rw [a1, a2, a3, a4]; rfl)]
        iterate 4 (refine wb1 rfl fun R r=>?_;simp only[go_sem, hn_g2];with_reducible refine r _ _ ?_;clear r R)
        refine aw_skipU (by simp only[go_sem, hn_g2]<;>rfl) rfl ?_
        (try simp only[go_sem, hn_g2])
        iterate 3 (refine aw_skipN rfl rfl (by simp only[go_sem, hn_g2]<;>rfl) rfl ?_; (try simp only[go_sem, hn_g2]))
        repeat first|apply wa1|apply wa2|apply wa3|apply wa4|apply wa5 rfl|apply wa6|apply wa7|(refine wb1 rfl fun R r=>?_;simp only[go_sem, hn_g2];with_reducible refine r _ _ ?_;clear r R)|apply wa8|(refine wd1 rfl fun R r=>?_;simp only[go_sem, hn_g2];with_reducible refine r _ _ ?_;clear r R)
        refine aw_condT (by simp only[go_sem, hn_g2]<;>rfl) ?_
        repeat first|apply wa1|apply wa2|apply wa3|apply wa4|apply wa5 rfl|apply wa6|apply wa7|(refine wb1 rfl fun R r=>?_;simp only[go_sem, hn_g2];with_reducible refine r _ _ ?_;clear r R)|apply wa8|(refine wd1 rfl fun R r=>?_;simp only[go_sem, hn_g2];with_reducible refine r _ _ ?_;clear r R)
        (refine aw_retq hC rfl fun R r=>?_;simp only[go_sem, hn_g2];refine r _ rfl ?_;clear r R)
        exact .one (.c (.bool _))
      repeat first|apply wa1|apply wa2|apply wa3|apply wa4|apply wa5 rfl|apply wa6|apply wa7|(refine wb1 rfl fun R r=>?_;simp only[go_sem, hn_g2];with_reducible refine r _ _ ?_;clear r R)|apply wa8|(refine wd1 rfl fun R r=>?_;simp only[go_sem, hn_g2];with_reducible refine r _ _ ?_;clear r R)
      refine aw_split 32 (by simp only[go_sem, hn_g2]<;>rfl) (fun a5 => ?_) (fun a5 => ?_) <;> (try simp only[go_sem, hn_g2])
      · repeat first|apply wa1|apply wa2|apply wa3|apply wa4|apply wa5 rfl|apply wa6|apply wa7|(refine wb1 rfl fun R r=>?_;simp only[go_sem, hn_g2];with_reducible refine r _ _ ?_;clear r R)|apply wa8|(refine wd1 rfl fun R r=>?_;simp only[go_sem, hn_g2];with_reducible refine r _ _ ?_;clear r R)
        refine aw_callq (dcheckR_fa d hl1 hl2) rfl rfl rfl (by first|exact True.intro|simp only[go_sem, hn_g2]<;>and_intros<;>first|exact True.intro|exact .c (.refl _)|exact .c wl2|exact .agg (lel_refl _)|exact .agg (by simp only[LeL];and_intros<;>first|exact True.intro|exact .refl _|exact wl2)|exact .c .nils) ?_
        (try simp only[go_sem, hn_g2])
        repeat first|apply wa1|apply wa2|apply wa3|apply wa4|apply wa5 rfl|apply wa6|apply wa7|(refine wb1 rfl fun R r=>?_;simp only[go_sem, hn_g2];with_reducible refine r _ _ ?_;clear r R)|apply wa8|(refine wd1 rfl fun R r=>?_;simp only[go_sem, hn_g2];with_reducible refine r _ _ ?_;clear r R)
        refine aw_cond (by simp only[go_sem, hn_g2]<;>rfl) (fun a6 => ?_) (fun a6 => ?_)
        · rw [hA (by unfold largeA; rw [a1, a2, a3, a4, a5, a6]; rfl)]
          repeat first|apply wa1|apply wa2|apply wa3|apply wa4|apply wa5 rfl|apply wa6|apply wa7|(refine wb1 rfl fun R r=>?_;simp only[go_sem, hn_g2];with_reducible refine r _ _ ?_;clear r R)|apply wa8|(refine wd1 rfl fun R r=>?_;simp only[go_sem, hn_g2];with_reducible refine r _ _ ?_;clear r R)
          (refine aw_retq hC rfl fun R r=>?_;simp only[go_sem, hn_g2];refine r _ rfl ?_;clear r R)
          exact .one (.c (.bool _))
        · repeat first|apply wa1|apply wa2|apply wa3|apply wa4|apply wa5 rfl|apply wa6|apply wa7|(refine wb1 rfl fun R r=>?_;simp only[go_sem, hn_g2];with_reducible refine r _ _ ?_;clear r R)
          exact aw_stop ⟨(), (by simp only[go_sem, hn_g2]<;>and_intros<;>first|exact True.intro|(with_reducible rfl)|exact c_int (by omega)|rfl), List.nil_sublist _, by unfold largeA; rw [a1, a2, a3, a4, a5, a6]; rfl⟩
      · repeat first|apply wa1|apply wa2|apply wa3|apply wa4|apply wa5 rfl|apply wa6|apply wa7|(refine wb1 rfl fun R r=>?_;simp only[go_sem, hn_g2];with_reducible refine r _ _ ?_;clear r R)
        refine aw_condF (by simp only[go_sem, hn_g2]<;>rfl) ?_
        repeat first|apply wa1|apply wa2|apply wa3|apply wa4|apply wa5 rfl|apply wa6|apply wa7|(refine wb1 rfl fun R r=>?_;simp only[go_sem, hn_g2];with_reducible refine r _ _ ?_;clear r R)
        exact aw_stop ⟨(), (by simp only[go_sem, hn_g2]<;>and_intros<;>first|exact True.intro|(with_reducible rfl)|exact c_int (by omega)|rfl), List.nil_sublist _, by unfold largeA; rw [a1, a2, a3, a4, a5]; rfl⟩
    repeat first|apply wa1|apply wa2|apply wa3|apply wa4|apply wa5 rfl|apply wa6|apply wa7|(refine wb1 rfl fun R r=>?_;simp only[go_sem, hn_g2];with_reducible refine r _ _ ?_;clear r R)
    refine aw_split 32 (by simp only[go_sem, hn_g2]<;>rfl) (fun a5 => ?_) (fun a5 => ?_) <;> (try simp only[go_sem, hn_g2])
    · repeat first|apply wa1|apply wa2|apply wa3|apply wa4|apply wa5 rfl|apply wa6|apply wa7|(refine wb1 rfl fun R r=>?_;simp only[go_sem, hn_g2];with_reducible refine r _ _ ?_;clear r R)
      refine aw_callq (dcheckR_fa d hl1 hl2) rfl rfl rfl (by first|exact True.intro|simp only[go_sem, hn_g2]<;>and_intros<;>first|exact True.intro|exact .c (.refl _)|exact .c wl2|exact .agg (lel_refl _)|exact .agg (by simp only[LeL];and_intros<;>first|exact True.intro|exact .refl _|exact wl2)|exact .c .nils) ?_
      (try simp only[go_sem, hn_g2])
      repeat first|apply wa1|apply wa2|apply wa3|apply wa4|apply wa5 rfl|apply wa6|apply wa7|(refine wb1 rfl fun R r=>?_;simp only[go_sem, hn_g2];with_reducible refine r _ _ ?_;clear r R)
      refine aw_cond (by simp only[go_sem, hn_g2]<;>rfl) (fun a6 => ?_) (fun a6 => ?_)
      · rw [hA (by unfold largeA; rw [a1, a2, a3, a5, a6]; rfl)]
        repeat first|apply wa1|apply wa2|apply wa3|apply wa4|apply wa5 rfl|apply wa6|apply wa7|(refine wb1 rfl fun R r=>?_;simp only[go_sem, hn_g2];with_reducible refine r _ _ ?_;clear r R)
        (refine aw_retq hC rfl fun R r=>?_;simp only[go_sem, hn_g2];refine r _ rfl ?_;clear r R)
        exact .one (.c (.bool _))
      · repeat first|apply wa1|apply wa2|apply wa3|apply wa4|apply wa5 rfl|apply wa6|apply wa7|(refine wb1 rfl fun R r=>?_;simp only[go_sem, hn_g2];with_reducible refine r _ _ ?_;clear r R)
        exact aw_stop ⟨(), (by simp only[go_sem, hn_g2]<;>and_intros<;>first|exact True.intro|(with_reducible rfl)|exact c_int (by omega)|rfl), List.nil_sublist _, by unfold largeA; rw [a1, a2, a3, a5, a6]; rfl⟩
    · repeat first|apply wa1|apply wa2|apply wa3|apply wa4|apply wa5 rfl|apply wa6|apply wa7|(refine wb1 rfl fun R r=>?_;simp only[go_sem, hn_g2];with_reducible refine r _ _ ?_;clear r R)
      refine aw_condF (by simp only[go_sem, hn_g2]<;>rfl) ?_
      repeat first|apply wa1|apply wa2|apply wa3|apply wa4|apply wa5 rfl|apply wa6|apply wa7|(refine wb1 rfl fun R r=>?_;simp only[go_sem, hn_g2];with_reducible refine r _ _ ?_;clear r R)
      exact aw_stop ⟨(), (by simp only[go_sem, hn_g2]<;>and_intros<;>first|exact True.intro|(with_reducible rfl)|exact c_int (by omega)|rfl), List.nil_sublist _, by unfold largeA; rw [a1, a2, a3, a5]; rfl⟩
  rintro _ hLA
  have hB : largeB d p = p.any bigR := by unfold largeB; rw [hLA]; rfl
  rw [hB]
  repeat first|apply wa1|apply wa2|apply wa3|apply wa4|apply wa5 rfl|apply wa6|apply wa7|(refine wb1 rfl fun R r=>?_;simp only[go_sem, hn_g2];with_reducible refine r _ _ ?_;clear r R)
  refine aw_lp (fun x : Nat => [(1, .c (rats false p)), (5, .c (.int .i64 x))]) (fun x => []) (fun x => x ≤ p.length ∧ ∀ j, j < x → bigR (p.getD j rd0) = false) (fun x => p.length - x) 0 (by simp only[go_sem, hn_g2]<;>and_intros<;>first|exact True.intro|(with_reducible rfl)|exact c_int (by omega)|rfl) (List.Sublist.refl _) ⟨Nat.zero_le _, by omega⟩ ?_
  rintro i ⟨hi, hs⟩
  repeat first|apply wa1|apply wa2|apply wa3|apply wa4|apply wa5 rfl|apply wa6|apply wa7|(refine wb1 rfl fun R r=>?_;simp only[go_sem, hn_g2];with_reducible refine r _ _ ?_;clear r R)
  refine aw_cond (by simp only[go_sem, hn_g2]<;>rfl) (fun h1 => ?_) (fun h1 => ?_)
  · have h1' : i < p.length := by have := of_decide_eq_true h1; omega
    have hmem : p.getD i rd0 ∈ p := by rw [List.getD_eq_getElem?_getD, List.getElem?_eq_getElem h1']; exact List.getElem_mem h1'
    repeat first|apply wa1|apply wa2|apply wa3|apply wa4|apply wa5 rfl|apply wa6|apply wa7|(refine wb1 rfl fun R r=>?_;simp only[go_sem, hn_g2];with_reducible refine r _ _ ?_;clear r R)
    refine aw_split 51 (by simp only[go_sem, hn_g2]<;>rfl) (fun h2 => ?_) (fun h2 => ?_) <;> (try simp only[go_sem, hn_g2])
    · rw [List.any_eq_true.2 ⟨_, hmem, by unfold bigR; rw [h2]; rfl⟩]
      repeat first|apply wa1|apply wa2|apply wa3|apply wa4|apply wa5 rfl|apply wa6|apply wa7|(refine wb1 rfl fun R r=>?_;simp only[go_sem, hn_g2];with_reducible refine r _ _ ?_;clear r R)
      refine aw_condT (by simp only[go_sem, hn_g2]<;>rfl) ?_
      repeat first|apply wa1|apply wa2|apply wa3|apply wa4|apply wa5 rfl|apply wa6|apply wa7|(refine wb1 rfl fun R r=>?_;simp only[go_sem, hn_g2];with_reducible refine r _ _ ?_;clear r R)
      (refine aw_retq hC rfl fun R r=>?_;simp only[go_sem, hn_g2];refine r _ rfl ?_;clear r R)
      exact .one (.c (.bool _))
    · repeat first|apply wa1|apply wa2|apply wa3|apply wa4|apply wa5 rfl|apply wa6|apply wa7|(refine wb1 rfl fun R r=>?_;simp only[go_sem, hn_g2];with_reducible refine r _ _ ?_;clear r R)
      refine aw_cond (by simp only[go_sem, hn_g2]<;>rfl) (fun h3 => ?_) (fun h3 => ?_)
      · rw [List.any_eq_true.2 ⟨_, hmem, by unfold bigR; rw [h2, h3]; rfl⟩]
        repeat first|apply wa1|apply wa2|apply wa3|apply wa4|apply wa5 rfl|apply wa6|apply wa7|(refine wb1 rfl fun R r=>?_;simp only[go_sem, hn_g2];with_reducible refine r _ _ ?_;clear r R)
        (refine aw_retq hC rfl fun R r=>?_;simp only[go_sem, hn_g2];refine r _ rfl ?_;clear r R)
        exact .one (.c (.bool _))
      · repeat first|apply wa1|apply wa2|apply wa3|apply wa4|apply wa5 rfl|apply wa6|apply wa7|(refine wb1 rfl fun R r=>?_;simp only[go_sem, hn_g2];with_reducible refine r _ _ ?_;clear r R)
        refine aw_stop ⟨i + 1, by omega, (by simp only[go_sem, hn_g2]<;>and_intros<;>first|exact True.intro|(with_reducible rfl)|exact c_int (by omega)|rfl), (List.Sublist.refl _), by omega, fun j hj => ?_⟩
        rcases Nat.lt_succ_iff_lt_or_eq.1 hj with h | h
        · exact hs j h
        · rw [h]; unfold bigR; rw [h2, h3]; rfl
  · have h1' : i = p.length := by have := of_decide_eq_false h1; omega
    subst h1'
    repeat first|apply wa1|apply wa2|apply wa3|apply wa4|apply wa5 rfl|apply wa6|apply wa7|(refine wb1 rfl fun R r=>?_;simp only[go_sem, hn_g2];with_reducible refine r _ _ ?_;clear r R)
    (refine aw_retq hC rfl fun R r=>?_;simp only[go_sem, hn_g2];refine r _ rfl ?_;clear r R)
    refine .one (.c (ler_bool ?_))
    cases ha : p.any bigR with
    | false => rfl
    | true =>
      obtain ⟨x, hx, hxb⟩ := List.any_eq_true.1 ha
      obtain ⟨j, hj, e⟩ := List.mem_iff_getElem.1 hx
      have := hs j hj
      rw [List.getD_eq_getElem?_getD, List.getElem?_eq_getElem hj, Option.getD_some, e, hxb] at this
      cases this
end Go.Proofs.Ytmkomfdiggcloaa
