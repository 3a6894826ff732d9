/- Texts of one proof, laid one behind the other by a program (merge.py): Dia3, Shan3, Dia4, AiFun, Shan4. -/
import Derived.Test.YtmkomfdiggcloaaM15
import Derived.Laws.Cover3
set_option linter.unusedSimpArgs false
set_option linter.unusedVariables false
/- faultlineref15.Check. -/
namespace Go.PN
open Go.AI
def nfirst (d : DG) : Nat → Nat → Int
  | _, 0 => 0
  | i, k + 1 => if ncode d i ≠ 0 then ncode d i else nfirst d (i + 1) k
def numsL (n : Nat) : List Int := (List.range n).map fun (i : Nat) => (i : Int) + 2
/-- The number of the first error of a diagram. -/
def dcode (d : DG) : Int :=
  if ocode d.order d.order.length ≠ 0 then ocode d.order d.order.length else if 4096 < d.nodes.length then 4
  else if nfirst d 0 d.nodes.length ≠ 0 then nfirst d 0 d.nodes.length else if d.root < 0 ∨ 1 + (d.nodes.length : Int) < d.root then 10
  else if numF d.nodes d.root.toNat d.root [] = numsL d.nodes.length then 0 else 2
theorem nfirst_step {d : DG} {i n : Nat} (h : i < n) (h0 : ncode d i = 0) : nfirst d i (n - i) = nfirst d (i + 1) (n - (i + 1)) := by
  obtain ⟨k, hk⟩ : ∃ k, n - i = k + 1 := ⟨n - i - 1, by omega⟩
  rw [hk, nfirst, if_neg (by simp [h0]), show n - (i + 1) = k from by omega]
theorem nfirst_at {d : DG} {i n : Nat} (h : i < n) (h0 : ncode d i ≠ 0) : nfirst d i (n - i) = ncode d i := by
  obtain ⟨k, hk⟩ : ∃ k, n - i = k + 1 := ⟨n - i - 1, by omega⟩
  rw [hk, nfirst, if_pos h0]
theorem nok_all {d : DG} (h : ∀ j, j < d.nodes.length → ncode d j = 0) : NsOk d.order.length d.nodes := fun i hi => by
  refine nok_of (d := d) (i := i) fun hr => ?_
  have := h i hi
  unfold ncode at this
  rw [if_pos hr] at this
  cases this
theorem numsL_len (n : Nat) : (numsL n).length = n := by simp [numsL]
theorem numsL_at {n i : Nat} (h : i < n) : (numsL n).getD i 0 = i + 2 := by
  rw [List.getD_eq_getElem?_getD]
  simp [numsL, h]
theorem listZ_ext {xs ys : List Int} (hl : xs.length = ys.length) (h : ∀ j, j < xs.length → xs.getD j 0 = ys.getD j 0) : xs = ys := by
  refine List.ext_getElem hl fun j h1 h2 => ?_
  have := h j h1
  rw [getDZ h1, getDZ h2] at this
  exact this
end Go.PN
namespace Go.AI
section
variable {E : Env} {K : List It} {σ σ' : Sl} {h : Heap}
/-- A slice that has grown is given up. -/
theorem aw_frzg {t s n e : Nat} {og : Option Nat} {f : Nat → CV} {pre : Heap} (ht : σ.get t = .c (gs og s n)) (hog : og = none → n = 0) (hh : h = pre ++ gh og e (n * s) f) (hp : ∀ g, og = some g → g ∉ pre.keys) (hn : ∀ g, ¬ E.C.own0 g) (hσ : σ.set t (.c (.row true s n f)) = σ') (k : aw E K σ' pre) : aw E K σ h := by
  subst hσ hh
  cases og with
  | none =>
    have hn0 := hog rfl
    subst hn0
    refine aw_conv (t := t) (v := .c (.row true s 0 f)) (fun S w u hr => ?_) rfl (by simpa [gh] using k)
    rw [ht] at hr
    obtain ⟨A, hv⟩ := hr
    exact ⟨A, 0, hv, by omega, fun h0 => absurd h0 (by omega)⟩
  | some g =>
    refine aw_frz (ty := e) (m := n * s) (f := f) ht (Heap.get_app (hp g rfl)) (by omega) (hn g) rfl (Heap.del_app (hp g rfl)) ?_
    simpa only [Nat.zero_add] using k
end
end Go.AI
namespace Go.Proofs.Ytmkomfdiggcloaa
open Go.AI Go.PN
attribute [local irreducible] aw Fa Fh DrK
set_option maxRecDepth 100000 in
set_option maxHeartbeats 1600000 in
theorem dcheckR_fa (d : DG) (hl : d.order.length ≤ 1099511627776) (hl2 : d.nodes.length ≤ 1099511627776) : Fa Try.prog 42 [.agg (dgc false d)] (.c (.int .i64 (dcode d))) := by
  unfold dcode
  refine fa_of_body Try.func42 rfl rfl (by simp [Try.ntmps42]) fun C hC => ?_
  simp only [initS, Nat.reduceAdd]
  repeat first|apply wa1|apply wa2|apply wa3|apply wa4|apply wa5 rfl|apply wa6|apply wa7|(refine wb1 rfl fun R r=>?_;simp only[go_sem];with_reducible refine r _ _ ?_;clear r R)
  refine aw_box rfl rfl rfl (by simp only[go_sem]<;>rfl) (fun _ e => by cases e) rfl fun g1 hn_g1 => ?_
  replace hn_g1 := Heap.ne_of hn_g1
  first | dsimp only [Heap.ne, gh] at hn_g1 | dsimp only [Heap.ne] at hn_g1 | skip
  (try simp only[go_sem, hn_g1])
  repeat first|apply wa1|apply wa2|apply wa3|apply wa4|apply wa5 rfl|apply wa6|apply wa7|(refine wb1 rfl fun R r=>?_;simp only[go_sem, hn_g1];with_reducible refine r _ _ ?_;clear r R)
  refine aw_callq (ocheckR_fa d.order d.order.length hl) rfl rfl rfl (by first|exact True.intro|simp only[go_sem, hn_g1]<;>and_intros<;>first|exact True.intro|exact .c (.refl _)|exact .c wl2|exact .agg (lel_refl _)|exact .agg (by simp only[LeL];and_intros<;>first|exact True.intro|exact .refl _|exact wl2)|exact .c .nils) ?_
  (try simp only[go_sem, hn_g1])
  repeat first|apply wa1|apply wa2|apply wa3|apply wa4|apply wa5 rfl|apply wa6|apply wa7|(refine wb1 rfl fun R r=>?_;simp only[go_sem, hn_g1];with_reducible refine r _ _ ?_;clear r R)
  refine aw_cond (by simp only[go_sem, hn_g1]<;>rfl) (fun hb => ?_) (fun hb => ?_)
  · have hb' : ocode d.order d.order.length ≠ 0 := by simpa using hb
    repeat first|apply wa1|apply wa2|apply wa3|apply wa4|apply wa5 rfl|apply wa6|apply wa7|(refine wb1 rfl fun R r=>?_;simp only[go_sem, hn_g1];with_reducible refine r _ _ ?_;clear r R)
    (refine aw_retq hC rfl fun R r=>?_;simp only[go_sem, hn_g1];refine r _ rfl ?_;clear r R)
    exact .one (.c (ler_int (by rw [if_pos hb'])))
  · have hb' : ¬ ocode d.order d.order.length ≠ 0 := by simpa using hb
    rw [if_neg hb']
    repeat first|apply wa1|apply wa2|apply wa3|apply wa4|apply wa5 rfl|apply wa6|apply wa7|(refine wb1 rfl fun R r=>?_;simp only[go_sem, hn_g1];with_reducible refine r _ _ ?_;clear r R)
    refine aw_cond (by simp only[go_sem, hn_g1]<;>rfl) (fun hc => ?_) (fun hc => ?_)
    · have hc' := of_decide_eq_true hc
      repeat first|apply wa1|apply wa2|apply wa3|apply wa4|apply wa5 rfl|apply wa6|apply wa7|(refine wb1 rfl fun R r=>?_;simp only[go_sem, hn_g1];with_reducible refine r _ _ ?_;clear r R)
      (refine aw_retq hC rfl fun R r=>?_;simp only[go_sem, hn_g1];refine r _ rfl ?_;clear r R)
      exact .one (.c (ler_int (by rw [if_pos (by omega)])))
    · have hc' := of_decide_eq_false hc
      rw [if_neg (by omega)]
      repeat first|apply wa1|apply wa2|apply wa3|apply wa4|apply wa5 rfl|apply wa6|apply wa7|(refine wb1 rfl fun R r=>?_;simp only[go_sem, hn_g1];with_reducible refine r _ _ ?_;clear r R)
      refine aw_lp (fun x : Nat => [(1, .c (.optr g1 0)), (4, .c (.int .i64 x))]) (fun x => [(g1, .cells 25 3 (ofL (dgc false d)))]) (fun x => x ≤ d.nodes.length ∧ (∀ j, j < x → ncode d j = 0) ∧ nfirst d x (d.nodes.length - x) = nfirst d 0 d.nodes.length) (fun x => d.nodes.length - x) 0 (by simp only[go_sem, hn_g1]<;>and_intros<;>first|exact True.intro|(with_reducible rfl)|exact c_int (by omega)|rfl) (List.Sublist.refl _) ⟨Nat.zero_le _, by omega, rfl⟩ ?_
      rintro i ⟨hi, hz, hf⟩
      repeat first|apply wa1|apply wa2|apply wa3|apply wa4|apply wa5 rfl|apply wa6|apply wa7|(refine wb1 rfl fun R r=>?_;simp only[go_sem, hn_g1];with_reducible refine r _ _ ?_;clear r R)
      refine aw_cond (by simp only[go_sem, hn_g1]<;>rfl) (fun h1 => ?_) (fun h1 => ?_)
      · have h1' : i < d.nodes.length := by have := of_decide_eq_true h1; omega
        repeat first|apply wa1|apply wa2|apply wa3|apply wa4|apply wa5 rfl|apply wa6|apply wa7|(refine wb1 rfl fun R r=>?_;simp only[go_sem, hn_g1];with_reducible refine r _ _ ?_;clear r R)
        refine aw_callq (nodeR_fa d i h1' hl hl2) rfl rfl rfl (by first|exact True.intro|simp only[go_sem, hn_g1]<;>and_intros<;>first|exact True.intro|exact .c (.refl _)|exact .c wl2|exact .agg (lel_refl _)|exact .agg (by simp only[LeL];and_intros<;>first|exact True.intro|exact .refl _|exact wl2)|exact .c .nils) ?_
        (try simp only[go_sem, hn_g1])
        repeat first|apply wa1|apply wa2|apply wa3|apply wa4|apply wa5 rfl|apply wa6|apply wa7|(refine wb1 rfl fun R r=>?_;simp only[go_sem, hn_g1];with_reducible refine r _ _ ?_;clear r R)
        refine aw_cond (by simp only[go_sem, hn_g1]<;>rfl) (fun h2 => ?_) (fun h2 => ?_)
        · have h2' : ncode d i ≠ 0 := by simpa using h2
          repeat first|apply wa1|apply wa2|apply wa3|apply wa4|apply wa5 rfl|apply wa6|apply wa7|(refine wb1 rfl fun R r=>?_;simp only[go_sem, hn_g1];with_reducible refine r _ _ ?_;clear r R)
          (refine aw_retq hC rfl fun R r=>?_;simp only[go_sem, hn_g1];refine r _ rfl ?_;clear r R)
          rw [nfirst_at h1' h2'] at hf
          exact .one (.c (ler_int (by rw [← hf, if_pos h2'])))
        · have h2' : ncode d i = 0 := by simpa using h2
          repeat first|apply wa1|apply wa2|apply wa3|apply wa4|apply wa5 rfl|apply wa6|apply wa7|(refine wb1 rfl fun R r=>?_;simp only[go_sem, hn_g1];with_reducible refine r _ _ ?_;clear r R)
          rw [nfirst_step h1' h2'] at hf
          refine aw_stop ⟨i + 1, by omega, (by simp only[go_sem, hn_g1]<;>and_intros<;>first|exact True.intro|(with_reducible rfl)|exact c_int (by omega)|rfl), (List.Sublist.refl _), by omega, fun j hj => ?_, hf⟩
          rcases Nat.lt_succ_iff_lt_or_eq.1 hj with h | h
          · exact hz j h
          · rw [h]; exact h2'
      · have h1' : i = d.nodes.length := by have := of_decide_eq_false h1; omega
        subst h1'
        have hns := nok_all hz
        rw [Nat.sub_self, nfirst] at hf
        rw [← hf, if_neg (by simp)]
        repeat first|apply wa1|apply wa2|apply wa3|apply wa4|apply wa5 rfl|apply wa6|apply wa7|(refine wb1 rfl fun R r=>?_;simp only[go_sem, hn_g1];with_reducible refine r _ _ ?_;clear r R)
        refine aw_split 37 (by simp only[go_sem, hn_g1]<;>rfl) (fun h3 => ?_) (fun h3 => ?_) <;> (try simp only[go_sem, hn_g1])
        · have h3' := of_decide_eq_true h3
          repeat first|apply wa1|apply wa2|apply wa3|apply wa4|apply wa5 rfl|apply wa6|apply wa7|(refine wb1 rfl fun R r=>?_;simp only[go_sem, hn_g1];with_reducible refine r _ _ ?_;clear r R)
          refine aw_condT (by simp only[go_sem, hn_g1]<;>rfl) ?_
          repeat first|apply wa1|apply wa2|apply wa3|apply wa4|apply wa5 rfl|apply wa6|apply wa7|(refine wb1 rfl fun R r=>?_;simp only[go_sem, hn_g1];with_reducible refine r _ _ ?_;clear r R)
          (refine aw_retq hC rfl fun R r=>?_;simp only[go_sem, hn_g1];refine r _ rfl ?_;clear r R)
          exact .one (.c (ler_int (by rw [if_pos (.inl h3')])))
        · have h3' := of_decide_eq_false h3
          repeat first|apply wa1|apply wa2|apply wa3|apply wa4|apply wa5 rfl|apply wa6|apply wa7|(refine wb1 rfl fun R r=>?_;simp only[go_sem, hn_g1];with_reducible refine r _ _ ?_;clear r R)
          refine aw_cond (by simp only[go_sem, hn_g1]<;>rfl) (fun h4 => ?_) (fun h4 => ?_)
          · have h4' := of_decide_eq_true h4
            repeat first|apply wa1|apply wa2|apply wa3|apply wa4|apply wa5 rfl|apply wa6|apply wa7|(refine wb1 rfl fun R r=>?_;simp only[go_sem, hn_g1];with_reducible refine r _ _ ?_;clear r R)
            (refine aw_retq hC rfl fun R r=>?_;simp only[go_sem, hn_g1];refine r _ rfl ?_;clear r R)
            exact .one (.c (ler_int (by rw [if_pos (.inr h4')])))
          · have h4' := of_decide_eq_false h4
            rw [if_neg (by omega)]
            repeat first|apply wa1|apply wa2|apply wa3|apply wa4|apply wa5 rfl|apply wa6|apply wa7|(refine wb1 rfl fun R r=>?_;simp only[go_sem, hn_g1];with_reducible refine r _ _ ?_;clear r R)
            refine aw_callh (hr := [(g1, AObj.cells 25 3 (ofL (dgc false d)))]) (number_fh d hns (by omega) d.root.toNat d.root [] none 0 (Nat.le_refl _) (by omega) (by omega) (by simp) (by simp) rfl (fun _ => rfl)) rfl rfl rfl (List.Perm.refl _) (by first|exact True.intro|simp only[go_sem, hn_g1]<;>and_intros<;>first|exact True.intro|exact .c (.refl _)|exact .c wl2|exact .agg (lel_refl _)|exact .agg (by simp only[LeL];and_intros<;>first|exact True.intro|exact .refl _|exact wl2)|exact .c .nils) ?_
            obtain ⟨a1, a2, a3⟩ := numF_bd hns d.root.toNat d.root [] (by omega) (by simp) (by simp)
            have hnl := nodup_range a1 a2
            generalize numF d.nodes d.root.toNat d.root [] = nl at *
            rintro _ _ ⟨og, n, hn, hog, rfl, rfl⟩ hk2
            subst hn
            (try simp only[go_sem, hn_g1])
            repeat first|apply wa7|(refine wb1 rfl fun R r=>?_;simp only[go_sem, hn_g1];with_reducible refine r _ _ ?_;clear r R)
            refine aw_perm (List.perm_append_comm (l₂ := [(g1, AObj.cells 25 3 (ofL (dgc false d)))])) ?_
            refine aw_frzg (t := 6) (n := nl.length) (s := 1) (e := 3) (f := isF nl) (pre := [(g1, AObj.cells 25 3 (ofL (dgc false d)))]) (by simp only[go_sem, hn_g1]<;>rfl) hog (by simp only [Nat.mul_one]) (fun g e hm => ?_) hC rfl ?_
            · subst e
              exact hk2 g (by simp [Heap.keys, gh]) hm
            (try simp only[go_sem, hn_g1])
            repeat first|apply wa1|apply wa2|apply wa3|apply wa4|apply wa5 rfl|apply wa6|apply wa7|(refine wb1 rfl fun R r=>?_;simp only[go_sem, hn_g1];with_reducible refine r _ _ ?_;clear r R)
            refine aw_cond (by simp only[go_sem, hn_g1]<;>rfl) (fun h5 => ?_) (fun h5 => ?_)
            · have h5' : ¬ nl.length = d.nodes.length := by have h5 := h5; simp at h5; omega
              repeat first|apply wa1|apply wa2|apply wa3|apply wa4|apply wa5 rfl|apply wa6|apply wa7|(refine wb1 rfl fun R r=>?_;simp only[go_sem, hn_g1];with_reducible refine r _ _ ?_;clear r R)
              (refine aw_retq hC rfl fun R r=>?_;simp only[go_sem, hn_g1];refine r _ rfl ?_;clear r R)
              exact .one (.c (ler_int (by rw [if_neg (fun e => h5' (by rw [e, numsL_len]))])))
            · have h5' : nl.length = d.nodes.length := by have h5 := h5; simp at h5; omega
              repeat first|apply wa1|apply wa2|apply wa3|apply wa4|apply wa5 rfl|apply wa6|apply wa7|(refine wb1 rfl fun R r=>?_;simp only[go_sem, hn_g1];with_reducible refine r _ _ ?_;clear r R)
              refine aw_lp (fun x : Nat => [(6, .c (is true nl)), (7, .c (.int .i64 x))]) (fun x => []) (fun x => x ≤ nl.length ∧ (∀ j, j < x → nl.getD j 0 = j + 2)) (fun x => nl.length - x) 0 (by simp only[go_sem, hn_g1]<;>and_intros<;>first|exact True.intro|(with_reducible rfl)|exact c_int (by omega)|rfl) (List.nil_sublist _) ⟨Nat.zero_le _, by omega⟩ ?_
              rintro i ⟨hi, hs⟩
              repeat first|apply wa1|apply wa2|apply wa3|apply wa4|apply wa5 rfl|apply wa6|apply wa7|(refine wb1 rfl fun R r=>?_;simp only[go_sem, hn_g1];with_reducible refine r _ _ ?_;clear r R)
              refine aw_cond (by simp only[go_sem, hn_g1]<;>rfl) (fun h6 => ?_) (fun h6 => ?_)
              · have h6' : i < nl.length := by have := of_decide_eq_true h6; omega
                repeat first|apply wa1|apply wa2|apply wa3|apply wa4|apply wa5 rfl|apply wa6|apply wa7|(refine wb1 rfl fun R r=>?_;simp only[go_sem, hn_g1];with_reducible refine r _ _ ?_;clear r R)
                refine aw_cond (by simp only[go_sem, hn_g1]<;>rfl) (fun h7 => ?_) (fun h7 => ?_)
                · have h7' : ¬ nl.getD i 0 = 2 + (i : Int) := by simpa using h7
                  repeat first|apply wa1|apply wa2|apply wa3|apply wa4|apply wa5 rfl|apply wa6|apply wa7|(refine wb1 rfl fun R r=>?_;simp only[go_sem, hn_g1];with_reducible refine r _ _ ?_;clear r R)
                  (refine aw_retq hC rfl fun R r=>?_;simp only[go_sem, hn_g1];refine r _ rfl ?_;clear r R)
                  exact .one (.c (ler_int (by rw [if_neg (fun e => h7' (by rw [e, numsL_at (by omega)]; omega))])))
                · have h7' : nl.getD i 0 = 2 + (i : Int) := by simpa using h7
                  repeat first|apply wa1|apply wa2|apply wa3|apply wa4|apply wa5 rfl|apply wa6|apply wa7|(refine wb1 rfl fun R r=>?_;simp only[go_sem, hn_g1];with_reducible refine r _ _ ?_;clear r R)
                  refine aw_stop ⟨i + 1, by omega, (by simp only[go_sem, hn_g1]<;>and_intros<;>first|exact True.intro|(with_reducible rfl)|exact c_int (by omega)|rfl), (List.Sublist.refl _), by omega, fun j hj => ?_⟩
                  rcases Nat.lt_succ_iff_lt_or_eq.1 hj with h | h
                  · exact hs j h
                  · rw [h, h7']; omega
              · have h6' : i = nl.length := by have := of_decide_eq_false h6; omega
                subst h6'
                repeat first|apply wa1|apply wa2|apply wa3|apply wa4|apply wa5 rfl|apply wa6|apply wa7|(refine wb1 rfl fun R r=>?_;simp only[go_sem, hn_g1];with_reducible refine r _ _ ?_;clear r R)
                (refine aw_retq hC rfl fun R r=>?_;simp only[go_sem, hn_g1];refine r _ rfl ?_;clear r R)
                refine .one (.c (ler_int ?_))
                rw [if_pos (listZ_ext (by rw [numsL_len, h5']) fun j hj => by rw [hs j hj, numsL_at (by omega)])]
end Go.Proofs.Ytmkomfdiggcloaa

/- faultlineref37: Check, CheckDiagram, CheckGiven, Given. -/
namespace Go.PN
open Go.AI
/-- The number of the first error of probabilities. -/
def pcode (p : List RD) (vars : Int) : Int := if (p.length : Int) ≠ vars then 11 else if p.all RD.prob then 0 else 3
/-- Of a diagram and probabilities. -/
def dpcode (d : DG) (p : List RD) : Int := if dcode d ≠ 0 then dcode d else pcode p d.order.length
/-- Of a condition. -/
noncomputable def gcode (p : List RD) (y n : Int) : Int := if ccode y n ≠ 0 then ccode y n else if (y.toNat ||| n.toNat) / 2 ^ p.length ≠ 0 then 10 else if wtTo y.toNat n.toNat p p.length = 0 then 8 else 0
def condR (y n i : Nat) (r : RD) : RD := if y.testBit i then rd 1 else if n.testBit i then rd0 else r
/-- The probabilities under a condition. -/
def condL (y n : Nat) (ps : List RD) : Nat → List RD
  | 0 => []
  | k + 1 => condL y n ps k ++ [condR y n k (ps.getD k rd0)]
theorem condL_len (y n : Nat) (ps : List RD) : ∀ k, (condL y n ps k).length = k
  | 0 => rfl
  | k + 1 => by simp [condL, condL_len y n ps k]
theorem rd0_wf {L : Nat} : rd0.wf L := ⟨by simp [rd0], by simp [rd0], by simp [rd0], by simp [rd0]⟩
theorem rd1_wf {L : Nat} (h : 1 ≤ L) : (rd 1).wf L := rd_wf (fits_mono fits_one h)
theorem condL_wf {y n : Nat} {ps : List RD} {L : Nat} (hL : 1 ≤ L) (h : ∀ r ∈ ps, r.wf L) : ∀ k, ∀ r ∈ condL y n ps k, r.wf L
  | 0, r, hr => by simp [condL] at hr
  | k + 1, r, hr => by
    rcases List.mem_append.1 hr with hr | hr
    · exact condL_wf hL h k r hr
    · simp only [List.mem_singleton] at hr
      subst hr
      unfold condR
      split
      · exact rd1_wf hL
      · split
        · exact rd0_wf
        · exact getD_wf h k
theorem ccode_nat {y n : Int} (h : ccode y n = 0) : ∃ a b : Nat, y = a ∧ n = b ∧ a < 16777216 ∧ b < 16777216 := by
  unfold ccode at h
  split at h
  · cases h
  · rename_i h1
    simp [maskB] at h1
    exact ⟨y.toNat, n.toNat, by omega, by omega, by omega, by omega⟩
theorem sgn0 {q : Rat} : (signQ q == 0) = decide (q = 0) := by
  rw [Bool.eq_iff_iff]
  simp only [beq_iff_eq, decide_eq_true_eq]
  unfold signQ
  constructor
  · intro h
    grind
  · rintro rfl; simp
end Go.PN
namespace Go.AI
open Go.PN
theorem zero_agg : ∀ (S : Bool → Nat → Prop) (w : World) (u : Value), Rep S w (.agg [.bool false, .nils, .nils]) u → Rep S w (.agg [.bool rd0.neg, ws true rd0.num, ws true rd0.den]) u := by
  rintro S w u ⟨us, rfl, h⟩
  refine ⟨us, rfl, ?_⟩
  match us, h with
  | [a, b, c], ⟨h1, h2, h3, _⟩ => exact ⟨h1, repC_nil h2, repC_nil h3, trivial⟩
theorem le_gsr' {pre : Heap} {og : Option Nat} {e n : Nat} {ps : List RD} (hog : og = none → n = 0) (hn : ∀ g, og = some g → g ∉ pre.keys) (hl : ps.length = n) : LeC (pre ++ gh og e (n * 3) (ratsF ps)) (gs og 3 n) (rats false ps) := le_gsr hog hn hl
end Go.AI
namespace Go.Proofs.Ytmkomfdiggcloaa
open Go.AI Go.PN
attribute [local irreducible] aw Fa Fh DrK
set_option maxHeartbeats 800000 in
theorem check37_fa (p : List RD) (vars : Int) (hw : ∀ r ∈ p, r.wf 500000000) (hl : p.length ≤ 1099511627776) : Fa Try.prog 43 [.c (rats false p), .c (.int .i64 vars)] (.c (.int .i64 (pcode p vars))) := by
  unfold pcode
  refine fa_of_body Try.func43 rfl rfl (by simp [Try.ntmps43]) fun C hC => ?_
  simp only [initS, Nat.reduceAdd]
  repeat first|apply wa1|apply wa2|apply wa3|apply wa4|apply wa5 rfl|apply wa6|apply wa7|(refine wb1 rfl fun R r=>?_;simp only[go_sem];with_reducible refine r _ _ ?_;clear r R)
  refine aw_cond (by simp only[go_sem]<;>rfl) (fun hb => ?_) (fun hb => ?_)
  · have hb' : (p.length : Int) ≠ vars := by simpa using hb
    repeat first|apply wa1|apply wa2|apply wa3|apply wa4|apply wa5 rfl|apply wa6|apply wa7|(refine wb1 rfl fun R r=>?_;simp only[go_sem];with_reducible refine r _ _ ?_;clear r R)
    (refine aw_retq hC rfl fun R r=>?_;simp only[go_sem];refine r _ rfl ?_;clear r R)
    exact .one (.c (ler_int (by rw [if_pos hb'])))
  · have hb' : (p.length : Int) = vars := by simpa using hb
    rw [if_neg (by omega)]
    repeat first|apply wa1|apply wa2|apply wa3|apply wa4|apply wa5 rfl|apply wa6|apply wa7|(refine wb1 rfl fun R r=>?_;simp only[go_sem];with_reducible refine r _ _ ?_;clear r R)
    refine aw_lp (fun x : Nat => [(0, .c (rats false p)), (5, .c (.int .i64 x))]) (fun x => []) (fun x => x ≤ p.length ∧ ∀ j, j < x → (p.getD j rd0).prob = true) (fun x => p.length - x) 0 (by simp only[go_sem]<;>and_intros<;>first|exact True.intro|(with_reducible rfl)|exact c_int (by omega)|rfl) (List.Sublist.refl _) ⟨Nat.zero_le _, by omega⟩ ?_
    rintro i ⟨hi, hs⟩
    repeat first|apply wa1|apply wa2|apply wa3|apply wa4|apply wa5 rfl|apply wa6|apply wa7|(refine wb1 rfl fun R r=>?_;simp only[go_sem];with_reducible refine r _ _ ?_;clear r R)
    refine aw_cond (by simp only[go_sem]<;>rfl) (fun h1 => ?_) (fun h1 => ?_)
    · have h1' : i < p.length := by have := of_decide_eq_true h1; omega
      have hmem : p.getD i rd0 ∈ p := by rw [List.getD_eq_getElem?_getD, List.getElem?_eq_getElem h1']; exact List.getElem_mem h1'
      repeat first|apply wa1|apply wa2|apply wa3|apply wa4|apply wa5 rfl|apply wa6|apply wa7|(refine wb1 rfl fun R r=>?_;simp only[go_sem];with_reducible refine r _ _ ?_;clear r R)
      refine aw_callq (sprob_fa (p.getD i rd0) (getD_wf hw i)) rfl rfl rfl (by first|exact True.intro|simp only[go_sem]<;>and_intros<;>first|exact True.intro|exact .c (.refl _)|exact .c wl2|exact .agg (lel_refl _)|exact .agg (by simp only[LeL];and_intros<;>first|exact True.intro|exact .refl _|exact wl2)|exact .c .nils) ?_
      (try simp only[go_sem])
      repeat first|apply wa1|apply wa2|apply wa3|apply wa4|apply wa5 rfl|apply wa6|apply wa7|(refine wb1 rfl fun R r=>?_;simp only[go_sem];with_reducible refine r _ _ ?_;clear r R)
      refine aw_cond (by simp only[go_sem]<;>rfl) (fun h2 => ?_) (fun h2 => ?_)
      · have h2' : (p.getD i rd0).prob = false := by simpa using h2
        repeat first|apply wa1|apply wa2|apply wa3|apply wa4|apply wa5 rfl|apply wa6|apply wa7|(refine wb1 rfl fun R r=>?_;simp only[go_sem];with_reducible refine r _ _ ?_;clear r R)
        (refine aw_retq hC rfl fun R r=>?_;simp only[go_sem];refine r _ rfl ?_;clear r R)
        exact .one (.c (ler_int (by rw [if_neg (fun h => by rw [List.all_eq_true.1 h _ hmem] at h2'; cases h2')])))
      · have h2' : (p.getD i rd0).prob = true := by simpa using h2
        repeat first|apply wa1|apply wa2|apply wa3|apply wa4|apply wa5 rfl|apply wa6|apply wa7|(refine wb1 rfl fun R r=>?_;simp only[go_sem];with_reducible refine r _ _ ?_;clear r R)
        refine aw_stop ⟨i + 1, by omega, (by simp only[go_sem]<;>and_intros<;>first|exact True.intro|(with_reducible rfl)|exact c_int (by omega)|rfl), (List.Sublist.refl _), by omega, fun j hj => ?_⟩
        rcases Nat.lt_succ_iff_lt_or_eq.1 hj with h | h
        · exact hs j h
        · rw [h, h2']
    · have h1' : i = p.length := by have := of_decide_eq_false h1; omega
      subst h1'
      repeat first|apply wa1|apply wa2|apply wa3|apply wa4|apply wa5 rfl|apply wa6|apply wa7|(refine wb1 rfl fun R r=>?_;simp only[go_sem];with_reducible refine r _ _ ?_;clear r R)
      (refine aw_retq hC rfl fun R r=>?_;simp only[go_sem];refine r _ rfl ?_;clear r R)
      refine .one (.c (ler_int ?_))
      rw [if_pos]
      refine List.all_eq_true.2 fun x hx => ?_
      obtain ⟨j, hj, e⟩ := List.mem_iff_getElem.1 hx
      have := hs j hj
      rw [List.getD_eq_getElem?_getD, List.getElem?_eq_getElem hj, Option.getD_some, e] at this
      exact this
set_option maxHeartbeats 800000 in
theorem checkDiagram_fa (d : DG) (p : List RD) (hw : ∀ r ∈ p, r.wf 500000000) (hl : p.length ≤ 1099511627776) (hl1 : d.order.length ≤ 1099511627776) (hl2 : d.nodes.length ≤ 1099511627776) : Fa Try.prog 21 [.agg (dgc false d), .c (rats false p)] (.c (.int .i64 (dpcode d p))) := by
  unfold dpcode
  refine fa_of_body Try.func21 rfl rfl (by simp [Try.ntmps21]) fun C hC => ?_
  simp only [initS, Nat.reduceAdd]
  repeat first|apply wa1|apply wa2|apply wa3|apply wa4|apply wa5 rfl|apply wa6|apply wa7|(refine wb1 rfl fun R r=>?_;simp only[go_sem];with_reducible refine r _ _ ?_;clear r R)
  refine aw_box rfl rfl rfl (by simp only[go_sem]<;>rfl) (fun _ e => by cases e) rfl fun g2 hn_g2 => ?_
  replace hn_g2 := Heap.ne_of hn_g2
  first | dsimp only [Heap.ne, gh] at hn_g2 | dsimp only [Heap.ne] at hn_g2 | skip
  (try simp only[go_sem, hn_g2])
  repeat first|apply wa1|apply wa2|apply wa3|apply wa4|apply wa5 rfl|apply wa6|apply wa7|(refine wb1 rfl fun R r=>?_;simp only[go_sem, hn_g2];with_reducible refine r _ _ ?_;clear r R)
  refine aw_callq (dcheckR_fa d hl1 hl2) rfl rfl rfl (by first|exact True.intro|simp only[go_sem, hn_g2]<;>and_intros<;>first|exact True.intro|exact .c (.refl _)|exact .c wl2|exact .agg (lel_refl _)|exact .agg (by simp only[LeL];and_intros<;>first|exact True.intro|exact .refl _|exact wl2)|exact .c .nils) ?_
  (try simp only[go_sem, hn_g2])
  repeat first|apply wa1|apply wa2|apply wa3|apply wa4|apply wa5 rfl|apply wa6|apply wa7|(refine wb1 rfl fun R r=>?_;simp only[go_sem, hn_g2];with_reducible refine r _ _ ?_;clear r R)
  refine aw_cond (by simp only[go_sem, hn_g2]<;>rfl) (fun hb => ?_) (fun hb => ?_)
  · have hb' : dcode d ≠ 0 := by simpa using hb
    repeat first|apply wa1|apply wa2|apply wa3|apply wa4|apply wa5 rfl|apply wa6|apply wa7|(refine wb1 rfl fun R r=>?_;simp only[go_sem, hn_g2];with_reducible refine r _ _ ?_;clear r R)
    (refine aw_retq hC rfl fun R r=>?_;simp only[go_sem, hn_g2];refine r _ rfl ?_;clear r R)
    exact .one (.c (ler_int (by rw [if_pos hb'])))
  · have hb' : dcode d = 0 := by simpa using hb
    repeat first|apply wa1|apply wa2|apply wa3|apply wa4|apply wa5 rfl|apply wa6|apply wa7|(refine wb1 rfl fun R r=>?_;simp only[go_sem, hn_g2];with_reducible refine r _ _ ?_;clear r R)
    refine aw_callq (check37_fa p d.order.length hw hl) rfl rfl rfl (by first|exact True.intro|simp only[go_sem, hn_g2]<;>and_intros<;>first|exact True.intro|exact .c (.refl _)|exact .c wl2|exact .agg (lel_refl _)|exact .agg (by simp only[LeL];and_intros<;>first|exact True.intro|exact .refl _|exact wl2)|exact .c .nils) ?_
    (try simp only[go_sem, hn_g2])
    repeat first|apply wa1|apply wa2|apply wa3|apply wa4|apply wa5 rfl|apply wa6|apply wa7|(refine wb1 rfl fun R r=>?_;simp only[go_sem, hn_g2];with_reducible refine r _ _ ?_;clear r R)
    (refine aw_retq hC rfl fun R r=>?_;simp only[go_sem, hn_g2];refine r _ rfl ?_;clear r R)
    exact .one (.c (ler_int (by rw [if_neg (by simp [hb'])])))
theorem condR_cast {y n i : Nat} {r : RD} : condR y n i r = if y.testBit i then rd ((1 : Int) : Rat) else if n.testBit i then rd0 else r := rfl
end Go.Proofs.Ytmkomfdiggcloaa

/- diagram.checkNode. -/
namespace Go.PN
open Go.AI
/-- The number of the error of node i, equal nodes aside. -/
def ncodeA (d : DG) (i : Nat) : Int :=
  if nrange d i (d.nodes.getD i dn0) then 10 else if (d.nodes.getD i dn0).lo = (d.nodes.getD i dn0).hi then 2
  else if !(behindB d (d.nodes.getD i dn0).lo (d.nodes.getD i dn0).v) || !(behindB d (d.nodes.getD i dn0).hi (d.nodes.getD i dn0).v) then 13 else 0
theorem ncode_A (d : DG) (i : Nat) : ncode d i = if ncodeA d i ≠ 0 then ncodeA d i else if d.nodes.getD i dn0 ∈ d.nodes.take i then 6 else 0 := by
  unfold ncode ncodeA
  split
  · simp
  · split
    · simp
    · split
      · simp
      · simp
theorem place_nat {o : List Int} {v : Int} (h0 : 0 ≤ v) (h1 : v < o.length) : (placesL o).getD v.toNat 0 = placeZ o v := by
  rw [placesL_get (by omega)]
  congr 1
  omega
end Go.PN
namespace Go.Proofs.Ytmkomfdiggcloaa
open Go.AI Go.PN
attribute [local irreducible] aw Fa Fh DrK
set_option maxRecDepth 100000 in
set_option maxHeartbeats 3200000 in
theorem checkNode_fa (d : DG) (i : Nat) (hi : i < d.nodes.length) (hl : d.order.length ≤ 24) (hl2 : d.nodes.length ≤ 4096) (hb4 : ∀ j, j < i → NodeOk d.order.length j (d.nodes.getD j dn0)) : Fa Try.prog 69 [.agg (dgc false d), .c (is false (placesL d.order)), .c (.int .i64 i)] (.c (errA (ncodeA d i))) := by
  have n10 : nrange d i (d.nodes.getD i dn0) → ncodeA d i = 10 := fun h => by unfold ncodeA; rw [if_pos h]
  have hpl := placesL_len d.order
  refine fa_of_body Try.func69 rfl rfl (by simp [Try.ntmps69]) fun C hC => ?_
  simp only [initS, Nat.reduceAdd]
  repeat first|apply wa1|apply wa2|apply wa3|apply wa4|apply wa5 rfl|apply wa6|apply wa7|(refine wb1 rfl fun R r=>?_;simp only[go_sem];with_reducible refine r _ _ ?_;clear r R)
  refine aw_box rfl rfl rfl (by simp only[go_sem]<;>rfl) (fun _ e => by cases e) rfl fun g3 hn_g3 => ?_
  replace hn_g3 := Heap.ne_of hn_g3
  first | dsimp only [Heap.ne, gh] at hn_g3 | dsimp only [Heap.ne] at hn_g3 | skip
  (try simp only[go_sem, hn_g3])
  repeat first|apply wa1|apply wa2|apply wa3|apply wa4|apply wa5 rfl|apply wa6|apply wa7|(refine wb1 rfl fun R r=>?_;simp only[go_sem, hn_g3];with_reducible refine r _ _ ?_;clear r R)
  refine aw_alloc rfl rfl rfl (by simp only[go_sem, hn_g3]<;>rfl) fun g7 hn_g7 => ?_
  replace hn_g7 := Heap.ne_of hn_g7
  first | dsimp only [Heap.ne, gh] at hn_g7 | dsimp only [Heap.ne] at hn_g7 | skip
  (try simp only[go_sem, hn_g3, hn_g7])
  repeat first|apply wa1|apply wa2|apply wa3|apply wa4|apply wa5 rfl|apply wa6|apply wa7|(refine wb1 rfl fun R r=>?_;simp only[go_sem, hn_g3, hn_g7];with_reducible refine r _ _ ?_;clear r R)
  refine aw_store rfl rfl rfl rfl (by simp only[go_sem, hn_g3, hn_g7]<;>rfl) (by simp only[go_sem, hn_g3, hn_g7]<;>rfl) (by simp only[go_sem, hn_g3, hn_g7]<;>rfl) (by simp only[go_sem, hn_g3, hn_g7]<;>rfl) (fun _ e => by cases e) (by rfl) (by rfl) (by first|omega|simp) rfl ?_
  (try simp only[go_sem, hn_g3, hn_g7])
  generalize hx : d.nodes.getD i dn0 = x at n10
  repeat first|apply wa1|apply wa2|apply wa3|apply wa4|apply wa5 rfl|apply wa6|apply wa7|(refine wb1 rfl fun R r=>?_;simp only[go_sem, hn_g3, hn_g7];with_reducible refine r _ _ ?_;clear r R)
  refine aw_split 19 (by simp only[go_sem, hn_g3, hn_g7]<;>rfl) (fun a1 => ?_) (fun a1 => ?_) <;> (try simp only[go_sem, hn_g3, hn_g7])
  · repeat first|apply wa1|apply wa2|apply wa3|apply wa4|apply wa5 rfl|apply wa6|apply wa7|(refine wb1 rfl fun R r=>?_;simp only[go_sem, hn_g3, hn_g7];with_reducible refine r _ _ ?_;clear r R)
    refine aw_condT (by simp only[go_sem, hn_g3, hn_g7]<;>rfl) ?_
    repeat first|apply wa1|apply wa2|apply wa3|apply wa4|apply wa5 rfl|apply wa6|apply wa7|(refine wb1 rfl fun R r=>?_;simp only[go_sem, hn_g3, hn_g7];with_reducible refine r _ _ ?_;clear r R)
    (refine aw_retq hC rfl fun R r=>?_;simp only[go_sem, hn_g3, hn_g7];refine r _ rfl ?_;clear r R)
    rw [n10 (.inl (of_decide_eq_true a1))]
    exact .one (.c (ler_errN rfl (by omega)))
  repeat first|apply wa1|apply wa2|apply wa3|apply wa4|apply wa5 rfl|apply wa6|apply wa7|(refine wb1 rfl fun R r=>?_;simp only[go_sem, hn_g3, hn_g7];with_reducible refine r _ _ ?_;clear r R)
  refine aw_split 27 (by simp only[go_sem, hn_g3, hn_g7]<;>rfl) (fun a2 => ?_) (fun a2 => ?_) <;> (try simp only[go_sem, hn_g3, hn_g7])
  · repeat first|apply wa1|apply wa2|apply wa3|apply wa4|apply wa5 rfl|apply wa6|apply wa7|(refine wb1 rfl fun R r=>?_;simp only[go_sem, hn_g3, hn_g7];with_reducible refine r _ _ ?_;clear r R)
    refine aw_condT (by simp only[go_sem, hn_g3, hn_g7]<;>rfl) ?_
    repeat first|apply wa1|apply wa2|apply wa3|apply wa4|apply wa5 rfl|apply wa6|apply wa7|(refine wb1 rfl fun R r=>?_;simp only[go_sem, hn_g3, hn_g7];with_reducible refine r _ _ ?_;clear r R)
    (refine aw_retq hC rfl fun R r=>?_;simp only[go_sem, hn_g3, hn_g7];refine r _ rfl ?_;clear r R)
    rw [n10 (.inr (.inl (of_decide_eq_true a2)))]
    exact .one (.c (ler_errN rfl (by omega)))
  repeat first|apply wa1|apply wa2|apply wa3|apply wa4|apply wa5 rfl|apply wa6|apply wa7|(refine wb1 rfl fun R r=>?_;simp only[go_sem, hn_g3, hn_g7];with_reducible refine r _ _ ?_;clear r R)
  refine aw_split 35 (by simp only[go_sem, hn_g3, hn_g7]<;>rfl) (fun a3 => ?_) (fun a3 => ?_) <;> (try simp only[go_sem, hn_g3, hn_g7])
  · repeat first|apply wa1|apply wa2|apply wa3|apply wa4|apply wa5 rfl|apply wa6|apply wa7|(refine wb1 rfl fun R r=>?_;simp only[go_sem, hn_g3, hn_g7];with_reducible refine r _ _ ?_;clear r R)
    refine aw_condT (by simp only[go_sem, hn_g3, hn_g7]<;>rfl) ?_
    repeat first|apply wa1|apply wa2|apply wa3|apply wa4|apply wa5 rfl|apply wa6|apply wa7|(refine wb1 rfl fun R r=>?_;simp only[go_sem, hn_g3, hn_g7];with_reducible refine r _ _ ?_;clear r R)
    (refine aw_retq hC rfl fun R r=>?_;simp only[go_sem, hn_g3, hn_g7];refine r _ rfl ?_;clear r R)
    rw [n10 (by have := of_decide_eq_true a3; unfold nrange; split at this <;> omega)]
    exact .one (.c (ler_errN rfl (by omega)))
  repeat first|apply wa1|apply wa2|apply wa3|apply wa4|apply wa5 rfl|apply wa6|apply wa7|(refine wb1 rfl fun R r=>?_;simp only[go_sem, hn_g3, hn_g7];with_reducible refine r _ _ ?_;clear r R)
  refine aw_cond (by simp only[go_sem, hn_g3, hn_g7]<;>rfl) (fun a4 => ?_) (fun a4 => ?_)
  · repeat first|apply wa1|apply wa2|apply wa3|apply wa4|apply wa5 rfl|apply wa6|apply wa7|(refine wb1 rfl fun R r=>?_;simp only[go_sem, hn_g3, hn_g7];with_reducible refine r _ _ ?_;clear r R)
    (refine aw_retq hC rfl fun R r=>?_;simp only[go_sem, hn_g3, hn_g7];refine r _ rfl ?_;clear r R)
    rw [n10 (by have := of_decide_eq_true a4; unfold nrange; split at this <;> omega)]
    exact .one (.c (ler_errN rfl (by omega)))
  have hnr : ¬ nrange d i x := by
    unfold nrange
    have b1 := of_decide_eq_false a1
    have b2 := of_decide_eq_false a2
    have b3 := of_decide_eq_false a3
    have b4 := of_decide_eq_false a4
    split at b3 <;> split at b4 <;> omega
  clear a1 a2 a3 a4 n10
  have hno := nok_of (d := d) (i := i) (by rw [hx]; exact hnr)
  rw [hx] at hno
  obtain ⟨v0, v1, l0, l1, h0, h1⟩ := hno
  have hcode : ncodeA d i = if x.lo = x.hi then 2 else if !(behindB d x.lo x.v) || !(behindB d x.hi x.v) then 13 else 0 := by
    unfold ncodeA; rw [hx, if_neg hnr]
  rw [hcode]
  clear hcode
  repeat first|apply wa1|apply wa2|apply wa3|apply wa4|apply wa5 rfl|apply wa6|apply wa7|(refine wb1 rfl fun R r=>?_;simp only[go_sem, hn_g3, hn_g7];with_reducible refine r _ _ ?_;clear r R)
  refine aw_cond (by simp only[go_sem, hn_g3, hn_g7]<;>rfl) (fun c1 => ?_) (fun c1 => ?_)
  · have c1' := eq_of_beq c1
    repeat first|apply wa1|apply wa2|apply wa3|apply wa4|apply wa5 rfl|apply wa6|apply wa7|(refine wb1 rfl fun R r=>?_;simp only[go_sem, hn_g3, hn_g7];with_reducible refine r _ _ ?_;clear r R)
    (refine aw_retq hC rfl fun R r=>?_;simp only[go_sem, hn_g3, hn_g7];refine r _ rfl ?_;clear r R)
    rw [if_pos c1']
    exact .one (.c (ler_errN rfl (by omega)))
  have c1' : ¬ x.lo = x.hi := fun e => by rw [e] at c1; simp at c1
  rw [if_neg c1']
  repeat first|apply wa1|apply wa2|apply wa3|apply wa4|apply wa5 rfl|apply wa6|apply wa7|(refine wb1 rfl fun R r=>?_;simp only[go_sem, hn_g3, hn_g7];with_reducible refine r _ _ ?_;clear r R)
  refine aw_buildSlice (xs := [.tmp 54, .tmp 56]) (cells := [.int .i64 x.lo, .int .i64 x.hi]) rfl rfl rfl (by simp only[go_sem, hn_g3, hn_g7]<;>rfl) (by (try simp only[go_sem, hn_g3, hn_g7]); rfl) rfl (by omega) (by omega) (by intro x hx; simp only [List.mem_cons, List.not_mem_nil, or_false] at hx; rcases hx with rfl | rfl <;> exact ⟨rfl, rfl, rfl⟩) (by simp only[go_sem, hn_g3, hn_g7]<;>rfl) fun g hg => ?_
  replace hg := Heap.ne_of hg
  dsimp only [Heap.ne] at hg
  refine aw_conv1 (f' := isF [x.lo, x.hi]) (fun j hj => ?_) ?_
  · match j, hj with
    | 0, _ => rfl
    | 1, _ => rfl
  (try simp only[go_sem, hn_g3, hn_g7, hg])
  repeat first|apply wa1|apply wa2|apply wa3|apply wa4|apply wa5 rfl|apply wa6|apply wa7|(refine wb1 rfl fun R r=>?_;simp only[go_sem, hn_g3, hn_g7, hg];with_reducible refine r _ _ ?_;clear r R)
  refine aw_lp (fun k : Nat => [(1, .c (is false (placesL d.order))), (3, .c (.optr g3 0)), (7, .c (.optr g7 0)), (57, .c (.osl g 1 0 2)), (58, .c (.int .i64 2)), (59, .c (.int .i64 k))]) (fun k => [(g, .cells 3 2 (isF [x.lo, x.hi])), (g7, .cells 72 3 (ofL (dnc x))), (g3, .cells 25 3 (ofL (dgc false d)))]) (fun k => k ≤ 2 ∧ ∀ j, j < k → behindB d ([x.lo, x.hi].getD j 0) x.v = true) (fun k => 2 - k) 0 (by simp only[go_sem, hn_g3, hn_g7, hg]<;>and_intros<;>first|exact True.intro|(with_reducible rfl)|exact c_int (by omega)|rfl) (List.Sublist.refl _) ⟨Nat.zero_le _, by omega⟩ ?_
  rintro k ⟨hk, hs⟩
  repeat first|apply wa1|apply wa2|apply wa3|apply wa4|apply wa5 rfl|apply wa6|apply wa7|(refine wb1 rfl fun R r=>?_;simp only[go_sem, hn_g3, hn_g7, hg];with_reducible refine r _ _ ?_;clear r R)
  refine aw_cond (by simp only[go_sem, hn_g3, hn_g7, hg]<;>rfl) (fun hb => ?_) (fun hb => ?_)
  · have hin : k < 2 := by have := of_decide_eq_true hb; omega
    obtain ⟨r0, r1⟩ : 0 ≤ [x.lo, x.hi].getD k 0 ∧ [x.lo, x.hi].getD k 0 < (i : Int) + 2 := by
      match k, hin with
      | 0, _ => exact ⟨l0, l1⟩
      | 1, _ => exact ⟨h0, h1⟩
    have hbad : behindB d ([x.lo, x.hi].getD k 0) x.v = false → (!(behindB d x.lo x.v) || !(behindB d x.hi x.v)) = true := by
      match k, hin with
      | 0, _ => intro h; show (!(behindB d x.lo x.v) || _) = true; rw [show behindB d x.lo x.v = false from h]; rfl
      | 1, _ => intro h; rw [show behindB d x.hi x.v = false from h]; simp
    repeat first|apply wa1|apply wa2|apply wa3|apply wa4|apply wa5 rfl|apply wa6|apply wa7|(refine wb1 rfl fun R r=>?_;simp only[go_sem, hn_g3, hn_g7, hg];with_reducible refine r _ _ ?_;clear r R)
    generalize hr : [x.lo, x.hi].getD k 0 = r at r0 r1 hbad
    have pv := place_nat (o := d.order) v0 (by omega)
    refine aw_dr 20 ty_mixed (by kernel_rfl) ?_
    repeat first|apply wa1|apply wa2|apply wa3|apply wa4|apply wa5 rfl|apply wa6|apply wa7|(refine wb1 rfl fun R r=>?_;simp only[go_sem, hn_g3, hn_g7, hg];with_reducible refine r _ _ ?_;clear r R)|apply wa8|(refine wd1 rfl fun R r=>?_;simp only[go_sem, hn_g3, hn_g7, hg];with_reducible refine r _ _ ?_;clear r R)
    refine drk_split 65 (by simp only[go_sem, hn_g3, hn_g7, hg]<;>rfl) (fun h2 => ?_) (fun h2 => ?_) <;> (try simp only[go_sem, hn_g3, hn_g7, hg])
    · have h2' := of_decide_eq_true h2
      obtain ⟨w0, w1, _, _, _, _⟩ := hb4 (r - 2).toNat (by omega)
      have pw := place_nat (o := d.order) w0 (by omega)
      have hbe : behindB d r x.v = decide (placeZ d.order (d.nodes.getD (r - 2).toNat dn0).v > placeZ d.order x.v) := by
        unfold behindB
        rw [decide_eq_false (by omega), Bool.false_or]
      repeat first|apply wa1|apply wa2|apply wa3|apply wa4|apply wa5 rfl|apply wa6|apply wa7|(refine wb1 rfl fun R r=>?_;simp only[go_sem, hn_g3, hn_g7, hg, pv, pw];with_reducible refine r _ _ ?_;clear r R)|apply wa8|(refine wd1 rfl fun R r=>?_;simp only[go_sem, hn_g3, hn_g7, hg, pv, pw];with_reducible refine r _ _ ?_;clear r R)
      refine aw_cond (by simp only[go_sem, hn_g3, hn_g7, hg, pv, pw]<;>rfl) (fun h3 => ?_) (fun h3 => ?_)
      · have h3' := of_decide_eq_true h3
        repeat first|apply wa1|apply wa2|apply wa3|apply wa4|apply wa5 rfl|apply wa6|apply wa7|(refine wb1 rfl fun R r=>?_;simp only[go_sem, hn_g3, hn_g7, hg, pv, pw];with_reducible refine r _ _ ?_;clear r R)|apply wa8|(refine wd1 rfl fun R r=>?_;simp only[go_sem, hn_g3, hn_g7, hg, pv, pw];with_reducible refine r _ _ ?_;clear r R)
        (refine aw_retq hC rfl fun R r=>?_;simp only[go_sem, hn_g3, hn_g7, hg, pv, pw];refine r _ rfl ?_;clear r R)
        rw [if_pos (hbad (by rw [hbe]; exact decide_eq_false (by omega)))]
        exact .one (.c (ler_errN rfl (by omega)))
      · have h3' := of_decide_eq_false h3
        repeat first|apply wa1|apply wa2|apply wa3|apply wa4|apply wa5 rfl|apply wa6|apply wa7|(refine wb1 rfl fun R r=>?_;simp only[go_sem, hn_g3, hn_g7, hg, pv, pw];with_reducible refine r _ _ ?_;clear r R)
        refine aw_stop ⟨k + 1, by omega, (by simp only[go_sem, hn_g3, hn_g7, hg, pv, pw]<;>and_intros<;>first|exact True.intro|(with_reducible rfl)|exact c_int (by omega)|rfl), (List.Sublist.refl _), by omega, fun j hj => ?_⟩
        rcases Nat.lt_succ_iff_lt_or_eq.1 hj with h | h
        · exact hs j h
        · rw [h, hr, hbe]; exact decide_eq_true (by omega)
    · have h2' := of_decide_eq_false h2
      repeat first|apply wa1|apply wa2|apply wa3|apply wa4|apply wa5 rfl|apply wa6|apply wa7|(refine wb1 rfl fun R r=>?_;simp only[go_sem, hn_g3, hn_g7, hg];with_reducible refine r _ _ ?_;clear r R)|apply wa8|(refine wd1 rfl fun R r=>?_;simp only[go_sem, hn_g3, hn_g7, hg];with_reducible refine r _ _ ?_;clear r R)
      refine aw_condF (by simp only[go_sem, hn_g3, hn_g7, hg]<;>rfl) ?_
      repeat first|apply wa1|apply wa2|apply wa3|apply wa4|apply wa5 rfl|apply wa6|apply wa7|(refine wb1 rfl fun R r=>?_;simp only[go_sem, hn_g3, hn_g7, hg];with_reducible refine r _ _ ?_;clear r R)|apply wa8|(refine wd1 rfl fun R r=>?_;simp only[go_sem, hn_g3, hn_g7, hg];with_reducible refine r _ _ ?_;clear r R)
      refine aw_stop ⟨k + 1, by omega, (by simp only[go_sem, hn_g3, hn_g7, hg]<;>and_intros<;>first|exact True.intro|(with_reducible rfl)|exact c_int (by omega)|rfl), (List.Sublist.refl _), by omega, fun j hj => ?_⟩
      rcases Nat.lt_succ_iff_lt_or_eq.1 hj with h | h
      · exact hs j h
      · rw [h, hr]; unfold behindB; rw [decide_eq_true (by omega), Bool.true_or]
  · have hin : k = 2 := by have := of_decide_eq_false hb; omega
    subst hin
    have e1 : behindB d x.lo x.v = true := hs 0 (by omega)
    have e2 : behindB d x.hi x.v = true := hs 1 (by omega)
    repeat first|apply wa1|apply wa2|apply wa3|apply wa4|apply wa5 rfl|apply wa6|apply wa7|(refine wb1 rfl fun R r=>?_;simp only[go_sem, hn_g3, hn_g7, hg];with_reducible refine r _ _ ?_;clear r R)|apply wa8|(refine wd1 rfl fun R r=>?_;simp only[go_sem, hn_g3, hn_g7, hg];with_reducible refine r _ _ ?_;clear r R)
    (refine aw_retq hC rfl fun R r=>?_;simp only[go_sem, hn_g3, hn_g7, hg];refine r _ rfl ?_;clear r R)
    rw [e1, e2]
    exact .one (.c (ler_err0 rfl))
end Go.Proofs.Ytmkomfdiggcloaa

/- Function values, and slices against nil. -/
namespace Go.AI
section
variable {E : Env} {K : List It} {σ σ' : Sl} {h : Heap} {all rest : List Oper} {o : Oper}

/-- s == nil -/
theorem aw_eqnil {t e : TypeId} {t2 : TypeId} {x : Operand} {tg : Bool} {s n : Nat} {f : Nat → CV} (hop : o.op = .binOp .eql t x (.const (.slice none 0 0)) t2) (hw : wantA all σ o = some true) (hd : dstOk E.N o.dst = true) (ht : E.P.underlying t = some (.slice e)) (hx : ev σ x = .c (.row tg s n f)) (hs : 0 < s)
    (k : ∀ b : Bool, (b = true → n = 0) → aw E (.ops all rest :: K) (σ.setO o.dst (.c (.bool b))) h) : aw E (.ops all (o :: rest) :: K) σ h := fun a w st => by
  have h1 := ev_rep st x
  rw [hx] at h1
  obtain ⟨A, c, hv, hc, hn⟩ := h1
  show wpList _ _ _ _ _ _
  unfold wpList
  rw [if_pos (st.wanted hw)]
  refine .inl ?_
  unfold Oper.wp
  have hrun : (execOp a.eval o).run E.P w = .ok (.value (.bool A.isNone)) w := by
    have e2 : a.eval (.const (.slice none 0 0)) = .slice none 0 0 := rfl
    have h3 : (eqGuard .eql t x (.const (.slice none 0 0)) (.slice A n c) (.slice none 0 0)).run E.P w = .ok () w := by
      simp [eqGuard]
    have h4 : (binOp .eql t (.slice A n c) (.slice none 0 0)).run E.P w = .ok (.bool A.isNone) w := by
      unfold binOp
      simp [run_equal_slice_nil w t e A n c ht]
    simp only [execOp, hop, hv, e2, Sem.run_bind, h3, h4, Result.andThen_ok]
    rfl
  rw [hrun]
  refine k A.isNone (fun hb => ?_) _ _ (st.put hd rfl)
  cases A with
  | none =>
    rcases Nat.eq_zero_or_pos n with h0 | h0
    · exact h0
    · obtain ⟨ad, e, _⟩ := hn (Nat.mul_pos h0 hs)
      cases e
  | some a => cases hb

/-- Pointers to its own blocks, as a function value holds them. -/
def ptrs (gs : List Nat) : List Value := gs.map fun g => .pointer (some ⟨g, 0, none⟩)
def fnC (f : FuncId) (gs : List Nat) : CV := .raw (.func (.func f) #[] (ptrs gs).toArray)
theorem aw_makeFunc {f : FuncId} {cs : List Operand} {gs : List Nat} (hop : o.op = .makeFunc (.func f) #[] cs.toArray) (hw : wantA all σ o = some true) (hd : dstOk E.N o.dst = true) (hc : cs.map (ev σ) = gs.map fun g => .c (.optr g 0))
    (k : aw E (.ops all rest :: K) (σ.setO o.dst (.c (fnC f gs))) h) : aw E (.ops all (o :: rest) :: K) σ h := by
  refine aw_step hw (fun a w s => ?_) k
  have hev : ∀ (cs : List Operand) (gs : List Nat), cs.map (ev σ) = gs.map (fun g => AV.c (.optr g 0)) → cs.map a.eval = ptrs gs := by
    intro cs
    induction cs with
    | nil => intro gs hg; cases gs with
      | nil => rfl
      | cons g gs => cases hg
    | cons x cs ih => intro gs hg; cases gs with
      | nil => cases hg
      | cons g gs =>
        simp only [List.map_cons, List.cons.injEq] at hg
        have h1 := ev_rep s x
        rw [hg.1] at h1
        have h1' : a.eval x = .pointer (some ⟨g, 0, none⟩) := h1
        simp only [List.map_cons, ptrs]
        rw [h1', ih gs hg.2]
        rfl
  refine ⟨.func (.func f) #[] (ptrs gs).toArray, w, .inl ?_, s.put hd rfl⟩
  simp only [execOp, hop, Instr.makeFunc, List.map_toArray, hev cs gs hc]
  rfl
theorem RepT.ptrs {S : Bool → Nat → Prop} {w : World} : ∀ {A : List AV} {vs : List Value} (gs : List Nat), RepT S w A vs → RepT S w (A ++ gs.map fun g => .c (.optr g 0)) (vs ++ AI.ptrs gs)
  | [], [], gs, _ => by
    induction gs with
    | nil => trivial
    | cons g gs ih => exact ⟨rfl, ih⟩
  | _ :: _, _ :: _, gs, h => ⟨h.1, RepT.ptrs gs h.2⟩
  | [], _ :: _, _, h => h.elim
  | _ :: _, [], _, h => h.elim
/-- A call of a function value that is handed blocks. -/
theorem aw_callhv {f : FuncId} {x : Operand} {gs : List Nat} {xs : List Operand} {ts : Array TypeId} {hc hr : Heap} {args : List AV} {Q : AV → Heap → Prop} (hf : Fh E.P f hc (args ++ gs.map fun g => .c (.optr g 0)) Q) (hop : o.op = .call { callee := .value x, args := xs.toArray, argTypes := ts }) (hw : wantA all σ o = some true) (hd : dstOk E.N o.dst = true) (hx : ev σ x = .c (fnC f gs))
    (hp : h.Perm (hc ++ hr)) (le : LeA [] (xs.map (ev σ)) args) (k : ∀ r h', Q r h' → (∀ g ∈ h'.keys, g ∉ hr.keys) → aw E (.ops all rest :: K) (σ.setO o.dst r) (h' ++ hr)) : aw E (.ops all (o :: rest) :: K) σ h := fun a w s => by
  show wpList _ _ _ _ _ _
  unfold wpList
  rw [if_pos (s.wanted hw)]
  refine .inl ?_
  unfold Oper.wp
  have hv : a.eval x = .func (.func f) #[] (ptrs gs).toArray := by
    have := ev_rep s x
    rw [hx] at this
    exact this
  have hrun : (execOp a.eval o).run E.P w = .ok (.enter f (xs.map a.eval ++ ptrs gs).toArray) w := by
    simp only [execOp, hop, resolve, hv, Deferred.ofValue, invoke, Sem.run_bind]
    have := hf.1.run (#[] ++ (Array.map a.eval xs.toArray) ++ (ptrs gs).toArray) w
    simp only [Sem.run_pure, Result.andThen_ok]
    rw [show ((xs.map a.eval ++ ptrs gs).toArray) = (#[] ++ (Array.map a.eval xs.toArray) ++ (ptrs gs).toArray) from by simp]
    exact this
  rw [hrun]
  show Calls _ _ _ _ _
  refine (hf.use s hp (RepT.ptrs gs (LeA.rep0 s le))).mono ?_
  rintro e w' ⟨v, r, h', rfl, hq, hfr, s', hrep⟩
  exact k r h' hq hfr _ _ (s'.put hd hrep)
/-- A call of a function value that holds nothing. -/
theorem aw_callqv {f : FuncId} {x : Operand} {xs : List Operand} {ts : Array TypeId} {args : List AV} {r : AV} (hf : Fa E.P f args r) (hop : o.op = .call { callee := .value x, args := xs.toArray, argTypes := ts }) (hw : wantA all σ o = some true) (hd : dstOk E.N o.dst = true) (hx : ev σ x = .c (.raw (.func (.func f) #[] #[])))
    (le : LeA h (xs.map (ev σ)) args) (k : aw E (.ops all rest :: K) (σ.setO o.dst r) h) : aw E (.ops all (o :: rest) :: K) σ h := fun a w s => by
  show wpList _ _ _ _ _ _
  unfold wpList
  rw [if_pos (s.wanted hw)]
  refine .inl ?_
  unfold Oper.wp
  have hv : a.eval x = .func (.func f) #[] #[] := by
    have := ev_rep s x
    rw [hx] at this
    exact this
  have hrun : (execOp a.eval o).run E.P w = .ok (.enter f (xs.map a.eval).toArray) w := by
    simp only [execOp, hop, resolve, hv, Deferred.ofValue, invoke, Sem.run_bind]
    have := hf.1.run (#[] ++ (Array.map a.eval xs.toArray) ++ #[]) w
    simp only [Sem.run_pure, Result.andThen_ok]
    rw [show ((xs.map a.eval).toArray) = (#[] ++ (Array.map a.eval xs.toArray) ++ #[]) from by simp]
    exact this
  rw [hrun]
  show Calls _ _ _ _ _
  refine (hf.use s le).mono ?_
  rintro e w' ⟨v, rfl, hr, hfr⟩
  exact k _ _ ((s.later hfr).put hd hr)
end
end Go.AI

/- shannon.Check with slices.ContainsFunc; slices.Clone. -/
namespace Go.PN
open Go.AI
theorem first_bad : ∀ p : List RD, p.all RD.prob = true ∨ ∃ i : Nat, i < p.length ∧ (p.getD i rd0).prob = false ∧ ∀ j, j < i → (p.getD j rd0).prob = true
  | [] => .inl rfl
  | x :: p => by
    cases hx : x.prob with
    | false => exact .inr ⟨0, by simp, by simpa using hx, by omega⟩
    | true =>
      rcases first_bad p with h | ⟨i, h1, h2, h3⟩
      · exact .inl (by simp [hx] at h ⊢; exact h)
      · refine .inr ⟨i + 1, by simp; omega, by simpa using h2, fun j hj => ?_⟩
        cases j with
        | zero => simpa using hx
        | succ j => simpa using h3 j (by omega)
theorem ratsF_solid (p : List RD) (j : Nat) (hj : j < p.length * 3) : (ratsF p j).solid = true := by
  obtain ⟨i, k, hk, rfl⟩ : ∃ i k, k < 3 ∧ j = i * 3 + k := ⟨j / 3, j % 3, Nat.mod_lt _ (by omega), by omega⟩
  unfold ratsF
  rw [lf_at hk]
  match k, hk with
  | 0, _ => rfl
  | 1, _ => rfl
  | 2, _ => rfl
end Go.PN
namespace Go.Proofs.Ytmkomfdiggcloaa
open Go.AI Go.PN
attribute [local irreducible] aw Fa Fh DrK
theorem check1_fa (r : RD) (hw : r.wf 500000000) : Fa Try.prog 72 [.agg (rdc r)] (.c (.bool (!r.prob))) := by
  refine fa_of_body Try.func72 rfl rfl (by simp [Try.ntmps72]) fun C hC => ?_
  simp only [initS, Nat.reduceAdd]
  repeat first|apply wa1|apply wa2|apply wa3|apply wa4|apply wa5 rfl|apply wa6|apply wa7|(refine wb1 rfl fun R r=>?_;simp only[go_sem];with_reducible refine r _ _ ?_;clear r R)
  refine aw_box rfl rfl rfl (by simp only[go_sem]<;>rfl) (fun _ e => by cases e) rfl fun g1 hn_g1 => ?_
  replace hn_g1 := Heap.ne_of hn_g1
  first | dsimp only [Heap.ne, gh] at hn_g1 | dsimp only [Heap.ne] at hn_g1 | skip
  (try simp only[go_sem, hn_g1])
  repeat first|apply wa1|apply wa2|apply wa3|apply wa4|apply wa5 rfl|apply wa6|apply wa7|(refine wb1 rfl fun R r=>?_;simp only[go_sem, hn_g1];with_reducible refine r _ _ ?_;clear r R)
  refine aw_callq (rprob_fa r (wf_mono hw ?_)) rfl rfl rfl (by first|exact True.intro|simp only[go_sem, hn_g1]<;>and_intros<;>first|exact True.intro|exact .c (.refl _)|exact .c wl2|exact .agg (lel_refl _)|exact .agg (by simp only[LeL];and_intros<;>first|exact True.intro|exact .refl _|exact wl2)|exact .c .nils) ?_
  · omega
  (try simp only[go_sem, hn_g1])
  repeat first|apply wa1|apply wa2|apply wa3|apply wa4|apply wa5 rfl|apply wa6|apply wa7|(refine wb1 rfl fun R r=>?_;simp only[go_sem, hn_g1];with_reducible refine r _ _ ?_;clear r R)
  (refine aw_retq hC rfl fun R r=>?_;simp only[go_sem, hn_g1];refine r _ rfl ?_;clear r R)
  exact .one (.c (.bool _))
set_option maxHeartbeats 800000 in
theorem indexFunc_fa (p : List RD) (hw : ∀ r ∈ p, r.wf 500000000) (hl : p.length ≤ 1099511627776) : ∃ z : Int, (decide (z ≥ 0) = !(p.all RD.prob)) ∧ Fa Try.prog 92 [.c (rats false p), .c (.raw (.func (.func 72) #[] #[]))] (.c (.int .i64 z)) := by
  have hz : ∃ z : Int, (z = -1 ∧ p.all RD.prob = true) ∨ ∃ i : Nat, z = i ∧ i < p.length ∧ (p.getD i rd0).prob = false ∧ ∀ j, j < i → (p.getD j rd0).prob = true := by
    rcases first_bad p with h | ⟨i, h⟩
    · exact ⟨-1, .inl ⟨rfl, h⟩⟩
    · exact ⟨i, .inr ⟨i, rfl, h⟩⟩
  obtain ⟨z, hz⟩ := hz
  refine ⟨z, ?_, ?_⟩
  · rcases hz with ⟨rfl, ha⟩ | ⟨k, rfl, hk, hk1, hk2⟩
    · rw [ha]; rfl
    · rw [decide_eq_true (by omega)]
      cases ha : p.all RD.prob with
      | false => rfl
      | true =>
        have := List.all_eq_true.1 ha (p.getD k rd0) (by rw [List.getD_eq_getElem?_getD, List.getElem?_eq_getElem hk]; exact List.getElem_mem hk)
        rw [this] at hk1; cases hk1
  refine fa_of_body Try.func92 rfl rfl (by simp [Try.ntmps92]) fun C hC => ?_
  simp only [initS, Nat.reduceAdd]
  repeat first|apply wa1|apply wa2|apply wa3|apply wa4|apply wa5 rfl|apply wa6|apply wa7|(refine wb1 rfl fun R r=>?_;simp only[go_sem];with_reducible refine r _ _ ?_;clear r R)
  refine aw_lp (fun x : Nat => [(0, .c (rats false p)), (1, .c (.raw (.func (.func 72) #[] #[]))), (7, .c (.int .i64 p.length)), (8, .c (.int .i64 x))]) (fun x => []) (fun x => x ≤ p.length ∧ ∀ j, j < x → (p.getD j rd0).prob = true) (fun x => p.length - x) 0 (by simp only[go_sem]<;>and_intros<;>first|exact True.intro|(with_reducible rfl)|exact c_int (by omega)|rfl) (List.Sublist.refl _) ⟨Nat.zero_le _, by omega⟩ ?_
  rintro i ⟨hi, hs⟩
  repeat first|apply wa1|apply wa2|apply wa3|apply wa4|apply wa5 rfl|apply wa6|apply wa7|(refine wb1 rfl fun R r=>?_;simp only[go_sem];with_reducible refine r _ _ ?_;clear r R)
  refine aw_cond (by simp only[go_sem]<;>rfl) (fun h1 => ?_) (fun h1 => ?_)
  · have h1' : i < p.length := by have := of_decide_eq_true h1; omega
    repeat first|apply wa1|apply wa2|apply wa3|apply wa4|apply wa5 rfl|apply wa6|apply wa7|(refine wb1 rfl fun R r=>?_;simp only[go_sem];with_reducible refine r _ _ ?_;clear r R)
    refine aw_callqv (check1_fa (p.getD i rd0) (getD_wf hw i)) rfl rfl rfl (by simp only[go_sem]<;>rfl) (by first|exact True.intro|simp only[go_sem]<;>and_intros<;>first|exact True.intro|exact .c (.refl _)|exact .c wl2|exact .agg (lel_refl _)|exact .agg (by simp only[LeL];and_intros<;>first|exact True.intro|exact .refl _|exact wl2)|exact .c .nils) ?_
    (try simp only[go_sem])
    repeat first|apply wa1|apply wa2|apply wa3|apply wa4|apply wa5 rfl|apply wa6|apply wa7|(refine wb1 rfl fun R r=>?_;simp only[go_sem];with_reducible refine r _ _ ?_;clear r R)
    refine aw_cond (by simp only[go_sem]<;>rfl) (fun h2 => ?_) (fun h2 => ?_)
    · have h2' : (p.getD i rd0).prob = false := by simpa using h2
      repeat first|apply wa1|apply wa2|apply wa3|apply wa4|apply wa5 rfl|apply wa6|apply wa7|(refine wb1 rfl fun R r=>?_;simp only[go_sem];with_reducible refine r _ _ ?_;clear r R)
      (refine aw_retq hC rfl fun R r=>?_;simp only[go_sem];refine r _ rfl ?_;clear r R)
      refine .one (.c (ler_int ?_))
      rcases hz with ⟨_, ha⟩ | ⟨k, rfl, hk, hk1, hk2⟩
      · have := List.all_eq_true.1 ha (p.getD i rd0) (by rw [List.getD_eq_getElem?_getD, List.getElem?_eq_getElem h1']; exact List.getElem_mem h1')
        rw [this] at h2'; cases h2'
      · rcases Nat.lt_trichotomy k i with h | h | h
        · rw [hs k h] at hk1; cases hk1
        · rw [h]
        · rw [hk2 i h] at h2'; cases h2'
    · have h2' : (p.getD i rd0).prob = true := by simpa using h2
      repeat first|apply wa1|apply wa2|apply wa3|apply wa4|apply wa5 rfl|apply wa6|apply wa7|(refine wb1 rfl fun R r=>?_;simp only[go_sem];with_reducible refine r _ _ ?_;clear r R)
      refine aw_stop ⟨i + 1, by omega, (by simp only[go_sem]<;>and_intros<;>first|exact True.intro|(with_reducible rfl)|exact c_int (by omega)|rfl), (List.Sublist.refl _), by omega, fun j hj => ?_⟩
      rcases Nat.lt_succ_iff_lt_or_eq.1 hj with h | h
      · exact hs j h
      · rw [h, h2']
  · have h1' : i = p.length := by have := of_decide_eq_false h1; omega
    subst h1'
    repeat first|apply wa1|apply wa2|apply wa3|apply wa4|apply wa5 rfl|apply wa6|apply wa7|(refine wb1 rfl fun R r=>?_;simp only[go_sem];with_reducible refine r _ _ ?_;clear r R)
    (refine aw_retq hC rfl fun R r=>?_;simp only[go_sem];refine r _ rfl ?_;clear r R)
    refine .one (.c (ler_int ?_))
    rcases hz with ⟨rfl, ha⟩ | ⟨k, rfl, hk, hk1, hk2⟩
    · rfl
    · rw [hs k hk] at hk1; cases hk1
set_option maxHeartbeats 800000 in
theorem containsFunc_fa (p : List RD) (hw : ∀ r ∈ p, r.wf 500000000) (hl : p.length ≤ 1099511627776) : Fa Try.prog 71 [.c (rats false p), .c (.raw (.func (.func 72) #[] #[]))] (.c (.bool (!(p.all RD.prob)))) := by
  obtain ⟨z, hz, hf⟩ := indexFunc_fa p hw hl
  refine fa_of_body Try.func71 rfl rfl (by simp [Try.ntmps71]) fun C hC => ?_
  simp only [initS, Nat.reduceAdd]
  repeat first|apply wa1|apply wa2|apply wa3|apply wa4|apply wa5 rfl|apply wa6|apply wa7|(refine wb1 rfl fun R r=>?_;simp only[go_sem];with_reducible refine r _ _ ?_;clear r R)
  refine aw_callq (hf) rfl rfl rfl (by first|exact True.intro|simp only[go_sem]<;>and_intros<;>first|exact True.intro|exact .c (.refl _)|exact .c wl2|exact .agg (lel_refl _)|exact .agg (by simp only[LeL];and_intros<;>first|exact True.intro|exact .refl _|exact wl2)|exact .c .nils) ?_
  (try simp only[go_sem])
  repeat first|apply wa1|apply wa2|apply wa3|apply wa4|apply wa5 rfl|apply wa6|apply wa7|(refine wb1 rfl fun R r=>?_;simp only[go_sem];with_reducible refine r _ _ ?_;clear r R)
  (refine aw_retq hC rfl fun R r=>?_;simp only[go_sem];refine r _ rfl ?_;clear r R)
  exact .one (.c (ler_bool hz))
set_option maxHeartbeats 800000 in
theorem scheck_fa (p : List RD) (vars : Int) (hw : ∀ r ∈ p, r.wf 500000000) (hl : p.length ≤ 1099511627776) : Fa Try.prog 47 [.c (rats false p), .c (.int .i64 vars)] (.c (errA (pcode p vars))) := by
  unfold pcode
  refine fa_of_body Try.func47 rfl rfl (by simp [Try.ntmps47]) fun C hC => ?_
  simp only [initS, Nat.reduceAdd]
  repeat first|apply wa1|apply wa2|apply wa3|apply wa4|apply wa5 rfl|apply wa6|apply wa7|(refine wb1 rfl fun R r=>?_;simp only[go_sem];with_reducible refine r _ _ ?_;clear r R)
  refine aw_cond (by simp only[go_sem]<;>rfl) (fun hb => ?_) (fun hb => ?_)
  · have hb' : (p.length : Int) ≠ vars := by simpa using hb
    repeat first|apply wa1|apply wa2|apply wa3|apply wa4|apply wa5 rfl|apply wa6|apply wa7|(refine wb1 rfl fun R r=>?_;simp only[go_sem];with_reducible refine r _ _ ?_;clear r R)
    (refine aw_retq hC rfl fun R r=>?_;simp only[go_sem];refine r _ rfl ?_;clear r R)
    rw [if_pos hb']
    exact .one (.c (ler_errN rfl (by omega)))
  · have hb' : (p.length : Int) = vars := by simpa using hb
    rw [if_neg (by omega)]
    repeat first|apply wa1|apply wa2|apply wa3|apply wa4|apply wa5 rfl|apply wa6|apply wa7|(refine wb1 rfl fun R r=>?_;simp only[go_sem];with_reducible refine r _ _ ?_;clear r R)
    refine aw_callq (containsFunc_fa p hw hl) rfl rfl rfl (by first|exact True.intro|simp only[go_sem]<;>and_intros<;>first|exact True.intro|exact .c (.refl _)|exact .c wl2|exact .agg (lel_refl _)|exact .agg (by simp only[LeL];and_intros<;>first|exact True.intro|exact .refl _|exact wl2)|exact .c .nils) ?_
    (try simp only[go_sem])
    repeat first|apply wa1|apply wa2|apply wa3|apply wa4|apply wa5 rfl|apply wa6|apply wa7|(refine wb1 rfl fun R r=>?_;simp only[go_sem];with_reducible refine r _ _ ?_;clear r R)
    refine aw_cond (by simp only[go_sem]<;>rfl) (fun h1 => ?_) (fun h1 => ?_)
    · have h1' : ¬ p.all RD.prob = true := by simpa using h1
      repeat first|apply wa1|apply wa2|apply wa3|apply wa4|apply wa5 rfl|apply wa6|apply wa7|(refine wb1 rfl fun R r=>?_;simp only[go_sem];with_reducible refine r _ _ ?_;clear r R)
      (refine aw_retq hC rfl fun R r=>?_;simp only[go_sem];refine r _ rfl ?_;clear r R)
      rw [if_neg h1']
      exact .one (.c (ler_errN rfl (by omega)))
    · have h1' : p.all RD.prob = true := by simpa using h1
      repeat first|apply wa1|apply wa2|apply wa3|apply wa4|apply wa5 rfl|apply wa6|apply wa7|(refine wb1 rfl fun R r=>?_;simp only[go_sem];with_reducible refine r _ _ ?_;clear r R)
      (refine aw_retq hC rfl fun R r=>?_;simp only[go_sem];refine r _ rfl ?_;clear r R)
      rw [if_pos h1']
      exact .one (.c (ler_err0 rfl))
set_option maxHeartbeats 800000 in
theorem clone_fh (p : List RD) (hl : p.length ≤ 1000000) : Fh Try.prog 31 [] [.c (rats false p)] (fun r h => ∃ og, (og = none → p.length = 0) ∧ r = .c (gs og 3 p.length) ∧ h = gh og 31 (p.length * 3) (ratsF p)) := by
  refine fh_of_body Try.func31 rfl rfl (by simp [Try.ntmps31]) fun C hC => ?_
  simp only [initS, Nat.reduceAdd]
  repeat first|apply wa1|apply wa2|apply wa3|apply wa4|apply wa5 rfl|apply wa6|apply wa7|(refine wb1 rfl fun R r=>?_;simp only[go_sem];with_reducible refine r _ _ ?_;clear r R)
  refine aw_eqnil (e := 31) rfl rfl rfl (by kernel_rfl) (by simp only[go_sem]<;>rfl) (by omega) fun b hb => ?_
  (try simp only[go_sem])
  repeat first|apply wa1|apply wa2|apply wa3|apply wa4|apply wa5 rfl|apply wa6|apply wa7|(refine wb1 rfl fun R r=>?_;simp only[go_sem];with_reducible refine r _ _ ?_;clear r R)
  refine aw_cond (by simp only[go_sem]<;>rfl) (fun h1 => ?_) (fun h1 => ?_)
  · have h0 := hb h1
    repeat first|apply wa1|apply wa2|apply wa3|apply wa4|apply wa5 rfl|apply wa6|apply wa7|(refine wb1 rfl fun R r=>?_;simp only[go_sem];with_reducible refine r _ _ ?_;clear r R)
    (refine aw_rethq rfl fun R r=>?_;simp only[go_sem];refine r _ rfl ?_;clear r R)
    exact ⟨none, fun _ => h0, rfl, rfl⟩
  · repeat first|apply wa1|apply wa2|apply wa3|apply wa4|apply wa5 rfl|apply wa6|apply wa7|(refine wb1 rfl fun R r=>?_;simp only[go_sem];with_reducible refine r _ _ ?_;clear r R)
    refine aw_buildSlice (xs := []) (cells := []) rfl rfl rfl (by simp only[go_sem]<;>rfl) (by (try simp only[go_sem]); rfl) rfl (by omega) (by omega) (by simp) rfl fun g hg => ?_
    refine aw_conv1 (f' := ratsF []) (fun j hj => absurd hj (by omega)) ?_
    (try simp only[go_sem])
    repeat first|apply wa1|apply wa2|apply wa3|apply wa4|apply wa5 rfl|apply wa6|apply wa7|(refine wb1 rfl fun R r=>?_;simp only[go_sem];with_reducible refine r _ _ ?_;clear r R)
    rcases Nat.eq_zero_or_pos p.length with h0 | h0
    · have hp : p = [] := List.length_eq_zero_iff.1 h0
      subst hp
      refine aw_append0 rfl rfl rfl (by simp only[go_sem]<;>rfl) (by simp only[go_sem]<;>rfl) rfl (by simp only[go_sem]<;>rfl) .row rfl ?_
      (try simp only[go_sem])
      repeat first|apply wa1|apply wa2|apply wa3|apply wa4|apply wa5 rfl|apply wa6|apply wa7|(refine wb1 rfl fun R r=>?_;simp only[go_sem];with_reducible refine r _ _ ?_;clear r R)
      (refine aw_rethq rfl fun R r=>?_;simp only[go_sem];refine r _ rfl ?_;clear r R)
      exact ⟨some g, fun _ => trivial, rfl, rfl⟩
    · refine aw_append (size := 3) (z := [.bool false, .nils, .nils]) rfl rfl rfl (by simp only[go_sem]<;>rfl) (by simp only[go_sem]<;>rfl) rfl (by omega) (by simp only[go_sem]<;>rfl) (by simp only[go_sem]<;>rfl) (by omega) (by simp only[go_sem]<;>rfl) .row (fun j hj => ratsF_solid p j hj) h0 (by unfold maxLen; omega) (by omega) (by simp only[go_sem]<;>rfl) fun g' hg' => ?_
      (try simp only[go_sem])
      repeat first|apply wa1|apply wa2|apply wa3|apply wa4|apply wa5 rfl|apply wa6|apply wa7|(refine wb1 rfl fun R r=>?_;simp only[go_sem];with_reducible refine r _ _ ?_;clear r R)
      (refine aw_rethq rfl fun R r=>?_;simp only[go_sem];refine r _ rfl ?_;clear r R)
      have hf : appF (ratsF []) 0 (ratsF p) = ratsF p := by funext j; simp [appF]
      rw [hf]
      exact ⟨some g', (fun e => by cases e), rfl, rfl⟩
end Go.Proofs.Ytmkomfdiggcloaa
