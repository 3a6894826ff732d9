/- Blocks of one proof, laid one behind the other by a program (merge2.py). -/
import Derived.Test.YtcoflhkcpnoaaaaGreatDoorM23
set_option linter.unusedSimpArgs false
set_option linter.unusedVariables false
namespace Go.PN
open Go.AI
def spTxt (s : SD) : List UInt8 := rtxt (rd (nlo s)) ++ [46, 46] ++ rtxt (rd (nhi s))
def argS (s : SD) : SD := if validS s then s else ⟨rd 0, rd 0⟩
def containsS (s : SD) (x : Rat) : Bool := decide (signQ (nlo s - x) ≤ 0) && decide (signQ (x - nhi s) ≤ 0)
def insideS (a b : SD) : Bool := containsS b (nlo a) && containsS b (nhi a)
theorem argS_q (s : SD) : (argS s).lo.q = nlo s ∧ (argS s).hi.q = nhi s := by
  unfold argS nlo nhi
  split
  · exact ⟨rfl, rfl⟩
  · exact ⟨rd_q 0, rd_q 0⟩
theorem argS_wf {s : SD} {L : Nat} (hL : 1 ≤ L) (h : s.wf L) : (argS s).wf L := by
  unfold argS
  split
  · exact h
  · exact ⟨rd_wf (fits_mono fits_zero hL), rd_wf (fits_mono fits_zero hL)⟩
end Go.PN
namespace Go.Proofs.YtcoflhkcpnoaaaaGreatDoor
open Go.AI Go.PN
attribute [local irreducible] aw Fa Fh DrK
set_option maxRecDepth 100000 in
set_option maxHeartbeats 1600000 in
theorem sptext_fa (s : SD) (hw : s.wf 100000) : Fa Tryz.prog 23 [.agg (spc s)] (.c (.str (sB (spTxt s)))) := by
  obtain ⟨f1, f2⟩ := norm_fits (by omega) hw
  have w1 := rd_wf f1
  have w2 := rd_wf f2
  have t1 := rtext_fa _ w1
  have t2 := rtext_fa _ w2
  have l1 := rtxt_len (by omega) w1
  have l2 := rtxt_len (by omega) w2
  have n1 := norm_fa s hw
  have s1 : ∀ l : List UInt8, (sB l).size = l.length := fun _ => rfl
  unfold spTxt
  generalize rtxt (rd (nlo s)) = T1 at *
  generalize rtxt (rd (nhi s)) = T2 at *
  refine fa_of_body Tryz.func23 rfl rfl (by simp [Tryz.ntmps23]) fun C hC => ?_
  simp only [initS, Nat.reduceAdd]
  refine xG ?_
  refine xB fun g1 hn_g1=>?_
  refine yG hn_g1 ?_
  refine yC hn_g1 (n1) ?_
  refine yG hn_g1 ?_
  refine yW hn_g1 ?_
  refine yS hn_g1 ?_
  refine aw_conv1 (f' := ofL (spc (normS s))) (fun j hj => by match j, hj with | 0, _ => rfl | 1, _ => rfl | 2, _ => rfl | 3, _ => rfl | 4, _ => rfl | 5, _ => rfl) ?_
  refine yG hn_g1 ?_
  refine aw_dr 9 ty_mixed (by kernel_rfl) ?_
  refine yG hn_g1 ?_
  refine yD hn_g1 (t1) ?_
  refine yG hn_g1 ?_
  refine drk_pok (POk.addStr (a := sB T1) (b := sB [46, 46]) (by rw [s1, s1]; simp; omega) (zE hn_g1) (by rfl)) rfl rfl ?_
  rw [sb_app]
  refine yS hn_g1 ?_
  refine yG hn_g1 ?_
  refine yD hn_g1 (t2) ?_
  refine yG hn_g1 ?_
  refine drk_pok (POk.addStr (a := sB (T1 ++ [46, 46])) (b := sB T2) (by rw [s1, s1]; simp; omega) (zE hn_g1) (zE hn_g1)) rfl rfl ?_
  rw [sb_app]
  refine yS hn_g1 ?_
  refine yG hn_g1 ?_
  refine yT hC hn_g1 ?_
  exact .one (.c (.str _))
set_option maxHeartbeats 1600000 in
theorem spvalidR_fa (s : SD) (hw : s.wf 1000000) : Fa Tryz.prog 67 [.agg (spc s)] (.c (.bool (validS s))) := by
  obtain ⟨h1, h2⟩ := hw
  unfold validS
  refine fa_of_body Tryz.func67 rfl rfl (by simp [Tryz.ntmps67]) fun C hC => ?_
  simp only [initS, Nat.reduceAdd]
  refine xG ?_
  refine xB fun g1 hn_g1=>?_
  refine yG hn_g1 ?_
  refine yC hn_g1 (svalid_fa s.lo (wf_mono h1 ?_)) ?_
  · omega
  refine yG hn_g1 ?_
  refine aw_split 6 (zE hn_g1) (fun hv => ?_) (fun hv => ?_) <;> refine yS hn_g1 ?_
  · refine yG hn_g1 ?_
    refine yC hn_g1 (svalid_fa s.hi (wf_mono h2 ?_)) ?_
    · omega
    refine yG hn_g1 ?_
    refine aw_split 11 (zE hn_g1) (fun hv2 => ?_) (fun hv2 => ?_) <;> refine yS hn_g1 ?_
    · refine yG hn_g1 ?_
      refine yC hn_g1 (scmp_fa s.lo s.hi (wf_mono h1 ?_) (wf_mono h2 ?_)) ?_
      · omega
      · omega
      refine yG hn_g1 ?_
      refine yT hC hn_g1 ?_
      exact .one (.c (ler_bool (by rw [hv, hv2]; rfl)))
    · refine yG hn_g1 ?_
      refine yT hC hn_g1 ?_
      exact .one (.c (ler_bool (by rw [hv, hv2]; rfl)))
  · refine yG hn_g1 ?_
    refine aw_split 11 (zE hn_g1) (fun hv2 => ?_) (fun hv2 => ?_) <;> refine yS hn_g1 ?_
    · cases hv2
    refine yG hn_g1 ?_
    refine yT hC hn_g1 ?_
    exact .one (.c (ler_bool (by rw [hv]; rfl)))
set_option maxHeartbeats 1600000 in
theorem sparg_fa (s : SD) (hw : s.wf 100000) : Fa Tryz.prog 113 [.agg (spc s)] (.agg (spc (argS s))) := by
  unfold argS
  refine fa_of_body Tryz.func113 rfl rfl (by simp [Tryz.ntmps113]) fun C hC => ?_
  simp only [initS, Nat.reduceAdd]
  refine xG ?_
  refine xB fun g1 hn_g1=>?_
  refine yA hn_g1 fun g2 hn_g2=>?_
  refine yG (oj hn_g1 hn_g2) ?_
  refine yC (oj hn_g1 hn_g2) (spvalidR_fa s ⟨wf_mono hw.1 ?_, wf_mono hw.2 ?_⟩) ?_
  · omega
  · omega
  refine yG (oj hn_g1 hn_g2) ?_
  refine yF (oj hn_g1 hn_g2) (fun hv=>?_) fun hv=>?_
  · have hv' : validS s = false := by simpa using hv
    rw [if_neg (by rw [hv']; simp)]
    refine yG (oj hn_g1 hn_g2) ?_
    refine yW (oj hn_g1 hn_g2) ?_
    refine yS (oj hn_g1 hn_g2) ?_
    refine yG (oj hn_g1 hn_g2) ?_
    refine yT hC (oj hn_g1 hn_g2) ?_
    show LeRA _ (.agg [.bool false, .nils, .nils, .bool false, .nils, .nils]) _
    exact zero_sp
  · have hv' : validS s = true := by simpa using hv
    rw [if_pos hv']
    refine yG (oj hn_g1 hn_g2) ?_
    refine yW (oj hn_g1 hn_g2) ?_
    refine yS (oj hn_g1 hn_g2) ?_
    refine yG (oj hn_g1 hn_g2) ?_
    refine yT hC (oj hn_g1 hn_g2) ?_
    show LeRA _ (.agg (spc s)) _
    exact ler_sp rfl
set_option maxHeartbeats 1600000 in
theorem spcontainsR_fa (s : SD) (x : RD) (hw : s.wf 100000) (hx : x.wf 100000) : Fa Tryz.prog 114 [.agg (spc s), .agg (rdc x)] (.c (.bool (containsS s x.q))) := by
  obtain ⟨f1, f2⟩ := argS_wf (by omega) hw
  obtain ⟨q1, q2⟩ := argS_q s
  have n1 := sparg_fa s hw
  have h1 := scmp_fa (argS s).lo x (wf_mono f1 (by omega)) (wf_mono hx (by omega))
  have h2 := scmp_fa x (argS s).hi (wf_mono hx (by omega)) (wf_mono f2 (by omega))
  rw [q1] at h1
  rw [q2] at h2
  unfold containsS
  refine fa_of_body Tryz.func114 rfl rfl (by simp [Tryz.ntmps114]) fun C hC => ?_
  simp only [initS, Nat.reduceAdd]
  refine xG ?_
  refine xB fun g2 hn_g2=>?_
  refine yB hn_g2 fun g3 hn_g3=>?_
  refine yG (oj hn_g2 hn_g3) ?_
  refine yC (oj hn_g2 hn_g3) (n1) ?_
  refine yG (oj hn_g2 hn_g3) ?_
  refine yW (oj hn_g2 hn_g3) ?_
  refine yS (oj hn_g2 hn_g3) ?_
  refine yG (oj hn_g2 hn_g3) ?_
  refine yC (oj hn_g2 hn_g3) (h1) ?_
  refine yG (oj hn_g2 hn_g3) ?_
  refine aw_split 12 (zE (oj hn_g2 hn_g3)) (fun hc => ?_) (fun hc => ?_) <;> refine yS (oj hn_g2 hn_g3) ?_
  · refine yG (oj hn_g2 hn_g3) ?_
    refine yC (oj hn_g2 hn_g3) (h2) ?_
    refine yG (oj hn_g2 hn_g3) ?_
    refine yT hC (oj hn_g2 hn_g3) ?_
    exact .one (.c (ler_bool (by rw [hc]; rfl)))
  · refine yG (oj hn_g2 hn_g3) ?_
    refine yT hC (oj hn_g2 hn_g3) ?_
    exact .one (.c (ler_bool (by rw [hc]; rfl)))
set_option maxHeartbeats 1600000 in
theorem spinsideR_fa (a b : SD) (ha : a.wf 100000) (hb : b.wf 100000) : Fa Tryz.prog 68 [.agg (spc a), .agg (spc b)] (.c (.bool (insideS a b))) := by
  obtain ⟨f1, f2⟩ := argS_wf (by omega) ha
  obtain ⟨q1, q2⟩ := argS_q a
  have n1 := sparg_fa a ha
  have h1 := spcontainsR_fa b (argS a).lo hb f1
  have h2 := spcontainsR_fa b (argS a).hi hb f2
  rw [q1] at h1
  rw [q2] at h2
  unfold insideS
  refine fa_of_body Tryz.func68 rfl rfl (by simp [Tryz.ntmps68]) fun C hC => ?_
  simp only [initS, Nat.reduceAdd]
  refine xG ?_
  refine xB fun g2 hn_g2=>?_
  refine yB hn_g2 fun g3 hn_g3=>?_
  refine yG (oj hn_g2 hn_g3) ?_
  refine yC (oj hn_g2 hn_g3) (n1) ?_
  refine yG (oj hn_g2 hn_g3) ?_
  refine yW (oj hn_g2 hn_g3) ?_
  refine yS (oj hn_g2 hn_g3) ?_
  refine yG (oj hn_g2 hn_g3) ?_
  refine yC (oj hn_g2 hn_g3) (h1) ?_
  refine yG (oj hn_g2 hn_g3) ?_
  refine aw_split 11 (zE (oj hn_g2 hn_g3)) (fun hc => ?_) (fun hc => ?_) <;> refine yS (oj hn_g2 hn_g3) ?_
  · refine yG (oj hn_g2 hn_g3) ?_
    refine yC (oj hn_g2 hn_g3) (h2) ?_
    refine yG (oj hn_g2 hn_g3) ?_
    refine yT hC (oj hn_g2 hn_g3) ?_
    exact .one (.c (ler_bool (by rw [hc]; rfl)))
  · refine yG (oj hn_g2 hn_g3) ?_
    refine yT hC (oj hn_g2 hn_g3) ?_
    exact .one (.c (ler_bool (by rw [hc]; rfl)))
end Go.Proofs.YtcoflhkcpnoaaaaGreatDoor
namespace Go.AI
def tagsC : CV → Prop
  | .row t _ _ f => t = true ∧ ∀ j, tagsC (f j)
  | .ifc _ x => tagsC x
  | .rptr _ _ => False
  | _ => True
def tagsL : List CV → Prop
  | [] => True
  | x :: xs => tagsC x ∧ tagsL xs
def tags0 : AV → Prop
  | .c x => tagsC x
  | .agg xs => tagsL xs
  | .tup _ => False
def tagsT : List AV → Prop
  | [] => True
  | x :: xs => tags0 x ∧ tagsT xs
def tagsA : AV → Prop
  | .tup xs => tagsT xs
  | x => tags0 x
theorem tagsC_rep {S S' : Bool → Nat → Prop} {w : World} (hS : ∀ b, S true b → S' true b) : ∀ {x : CV} {v : Value}, tagsC x → RepC S w x v → RepC S' w x v := by
  intro x
  induction x with
  | any => intro v _ _; trivial
  | int k n => intro v _ hr; exact hr
  | bool b => intro v _ hr; exact hr
  | str s => intro v _ hr; exact hr
  | nilI => intro v _ hr; exact hr
  | nils => intro v _ hr; exact hr
  | ifc t x ih => intro v ht hr; obtain ⟨u, hu, hx⟩ := hr; exact ⟨u, hu, ih ht hx⟩
  | row t size n f ih =>
    intro v ht hr
    obtain ⟨rfl, ht⟩ := ht
    obtain ⟨A, c, hv, hc, hn⟩ := hr
    refine ⟨A, c, hv, hc, fun h0 => ?_⟩
    obtain ⟨ad, hA, hSb, hj⟩ := hn h0
    refine ⟨ad, hA, hS _ hSb, fun j hjl => ?_⟩
    obtain ⟨u, hu, hf⟩ := hj j hjl
    exact ⟨u, hu, ih j (ht j) hf⟩
  | osl g size off n => intro v _ hr; exact hr
  | optr g off => intro v _ hr; exact hr
  | rptr n f ih => intro v ht _; exact ht.elim
  | raw u => intro v _ hr; exact hr
theorem tagsL_rep {S S' : Bool → Nat → Prop} {w : World} (hS : ∀ b, S true b → S' true b) : ∀ {xs : List CV} {us : List Value}, tagsL xs → RepL S w xs us → RepL S' w xs us
  | [], [], _, _ => trivial
  | _ :: _, _ :: _, ht, hr => ⟨tagsC_rep hS ht.1 hr.1, tagsL_rep hS ht.2 hr.2⟩
  | [], _ :: _, _, hr => hr.elim
  | _ :: _, [], _, hr => hr.elim
theorem tags0_rep {S S' : Bool → Nat → Prop} {w : World} (hS : ∀ b, S true b → S' true b) {x : AV} {v : Value} (ht : tags0 x) (hr : Rep0 S w x v) : Rep0 S' w x v := by
  cases x with
  | c x => exact tagsC_rep hS ht hr
  | agg cs => obtain ⟨us, hv, hu⟩ := hr; exact ⟨us, hv, tagsL_rep hS ht hu⟩
  | tup xs => exact hr.elim
theorem tagsT_rep {S S' : Bool → Nat → Prop} {w : World} (hS : ∀ b, S true b → S' true b) : ∀ {xs : List AV} {us : List Value}, tagsT xs → RepT S w xs us → RepT S' w xs us
  | [], [], _, _ => trivial
  | _ :: _, _ :: _, ht, hr => ⟨tags0_rep hS ht.1 hr.1, tagsT_rep hS ht.2 hr.2⟩
  | [], _ :: _, _, hr => hr.elim
  | _ :: _, [], _, hr => hr.elim
theorem tagsA_rep {S S' : Bool → Nat → Prop} {w : World} (hS : ∀ b, S true b → S' true b) {x : AV} {v : Value} (ht : tagsA x) (hr : Rep S w x v) : Rep S' w x v := by
  cases x with
  | c x => exact tags0_rep (x := .c x) hS ht hr
  | agg cs => exact tags0_rep (x := .agg cs) hS ht hr
  | tup xs => obtain ⟨us, hv, hu⟩ := hr; exact ⟨us, hv, tagsT_rep hS ht hu⟩
theorem fa_of_fh {P : Program} {f : FuncId} {args : List AV} {Q : AV → Heap → Prop} {x : AV} (hx : tagsA x) (hf : Fh P f [] args Q) (hQ : ∀ y h, Q y h → h = [] ∧ y = x) : Fa P f args x := by
  refine ⟨hf.1, fun S w vs hS hlt hr => ?_⟩
  refine (hf.2 ⟨w, S, fun _ => False, hS, fun _ _ _ h => h, hlt⟩ vs (fun b => by simp [Heap.keys]) (by simp [Heap.keys]) (fun g o hm => by cases hm) hr).mono ?_
  rintro e w' ⟨v, r, h', he, hq, _, _, hrep, _, hfr⟩
  obtain ⟨rfl, rfl⟩ := hQ _ _ hq
  exact ⟨v, he, tagsA_rep (fun b hb => ⟨hb.1, hb.2.1⟩) hx hrep, hfr⟩
end Go.AI
namespace Go.PN
open Go.AI
def spsF (xs : List SD) : Nat → CV := lf 6 spc sd0 xs
abbrev sps (t : Bool) (xs : List SD) : CV := .row t 6 xs.length (spsF xs)
@[go_sem] theorem spsF_0 (xs : List SD) (i : Nat) : spsF xs (i * 6) = .bool (xs.getD i sd0).lo.neg := by
  have := lf_at (s := 6) (c := spc) (d := sd0) (xs := xs) (i := i) (k := 0) (by omega)
  exact this
@[go_sem] theorem spsF_1 (xs : List SD) (i : Nat) : spsF xs (i * 6 + 1) = ws true (xs.getD i sd0).lo.num := by
  have := lf_at (s := 6) (c := spc) (d := sd0) (xs := xs) (i := i) (k := 1) (by omega)
  exact this
@[go_sem] theorem spsF_2 (xs : List SD) (i : Nat) : spsF xs (i * 6 + 2) = ws true (xs.getD i sd0).lo.den := by
  have := lf_at (s := 6) (c := spc) (d := sd0) (xs := xs) (i := i) (k := 2) (by omega)
  exact this
@[go_sem] theorem spsF_3 (xs : List SD) (i : Nat) : spsF xs (i * 6 + 3) = .bool (xs.getD i sd0).hi.neg := by
  have := lf_at (s := 6) (c := spc) (d := sd0) (xs := xs) (i := i) (k := 3) (by omega)
  exact this
@[go_sem] theorem spsF_4 (xs : List SD) (i : Nat) : spsF xs (i * 6 + 4) = ws true (xs.getD i sd0).hi.num := by
  have := lf_at (s := 6) (c := spc) (d := sd0) (xs := xs) (i := i) (k := 4) (by omega)
  exact this
@[go_sem] theorem spsF_5 (xs : List SD) (i : Nat) : spsF xs (i * 6 + 5) = ws true (xs.getD i sd0).hi.den := by
  have := lf_at (s := 6) (c := spc) (d := sd0) (xs := xs) (i := i) (k := 5) (by omega)
  exact this
def endTo (s : List SD) (u : Nat) (k : Nat) : List RD := (List.range k).map fun i => if u.testBit i then (s.getD i sd0).hi else (s.getD i sd0).lo
theorem endTo_len (s : List SD) (u k : Nat) : (endTo s u k).length = k := by simp [endTo]
theorem endTo_succ (s : List SD) (u k : Nat) : endTo s u (k + 1) = endTo s u k ++ [if u.testBit k then (s.getD k sd0).hi else (s.getD k sd0).lo] := by simp [endTo, List.range_succ]
end Go.PN
namespace Go.Proofs.YtcoflhkcpnoaaaaGreatDoor
open Go.AI Go.PN
attribute [local irreducible] aw Fa Fh DrK
set_option maxRecDepth 100000 in
set_option maxHeartbeats 1600000 in
theorem ends_fa (s : List SD) (u : Nat) (hu : u < 9223372036854775808) (hl : s.length ≤ 60) : Fa Tryz.prog 32 [.c (sps false s), .c (.int .i64 u)] (.c (rats true (endTo s u s.length))) := by
  refine fa_of_body Tryz.func32 rfl rfl (by simp [Tryz.ntmps32]) fun C hC => ?_
  simp only [initS, Nat.reduceAdd]
  refine xG ?_
  refine aw_lp (fun x : Option Nat × Nat => [(1, .c (.int .i64 u)), (5, .c (gs x.1 3 x.2)), (8, .c (sps false s)), (9, .c (.int .i64 s.length)), (10, .c (.int .i64 x.2))]) (fun x => gh x.1 30 (x.2 * 3) (ratsF (endTo s u x.2)))
    (fun x => x.2 ≤ s.length ∧ (x.1 = none → x.2 = 0)) (fun x => s.length - x.2) (none, 0) eB zZ ⟨Nat.zero_le _, fun _ => rfl⟩ ?_
  rintro ⟨og, k⟩ ⟨hk, hog⟩
  dsimp only at hk hog ⊢
  refine xG ?_
  refine xF (fun h1=>?_) fun h1=>?_
  · have h1' : k < s.length := by have := of_decide_eq_true h1; omega
    have e1 := endTo_succ s u k
    have b1 := shrZ_nat u k (by omega)
    have b2 := and_one_nat (u / 2 ^ k) (Nat.lt_of_le_of_lt (Nat.div_le_self _ _) hu)
    have b3 := bit_eq u k
    refine yG (oj b1 (oj b2 b3)) ?_
    refine yA (oj b1 (oj b2 b3)) fun g7 hn_g7=>?_
    generalize s.getD k sd0 = y at *
    refine yG (oj b1 (oj b2 (oj b3 hn_g7))) ?_
    refine yW (oj b1 (oj b2 (oj b3 hn_g7))) ?_
    refine yS (oj b1 (oj b2 (oj b3 hn_g7))) ?_
    refine aw_conv1 (f' := ofL (spc y)) (fun j hj => by match j, hj with | 0, _ => rfl | 1, _ => rfl | 2, _ => rfl | 3, _ => rfl | 4, _ => rfl | 5, _ => rfl) ?_
    refine yG (oj b1 (oj b2 (oj b3 hn_g7))) ?_
    refine yF (oj b1 (oj b2 (oj b3 hn_g7))) (fun hb=>?_) fun hb=>?_
    · rw [if_pos hb] at e1
      refine yG (oj b1 (oj b2 (oj b3 hn_g7))) ?_
      refine aw_push (pre := [(g7, .cells 32 6 (ofL (spc y)))]) rfl rfl rfl rfl rfl rfl rfl (zE (oj b1 (oj b2 (oj b3 hn_g7)))) (zE (oj b1 (oj b2 (oj b3 hn_g7)))) (by rfl) (by omega) (by omega) (zE (oj b1 (oj b2 (oj b3 hn_g7)))) (by omega) (by exact hog) (zE (oj b1 (oj b2 (oj b3 hn_g7)))) (by rfl) (by rfl) (by first | rfl | simp only [Nat.mul_one, List.nil_append, List.cons_append] <;> rfl) (by unfold maxLen; omega) (by omega) (by exact rats_push (endTo_len s u k) _) fun g hn_g => ?_
      replace hn_g := Heap.ne_of hn_g
      first | dsimp only [Heap.ne, gh] at hn_g | dsimp only [Heap.ne] at hn_g | skip
      refine yS (oj b1 (oj b2 (oj b3 (oj hn_g7 hn_g)))) ?_
      refine yG (oj b1 (oj b2 (oj b3 (oj hn_g7 hn_g)))) ?_
      rw [← e1]
      exact aw_stop ⟨(some g, k + 1), by dsimp only; omega, (zB (oj b1 (oj b2 (oj b3 (oj hn_g7 hn_g))))), .cons _ (.refl _), by dsimp only; omega, some_ne⟩
    · rw [if_neg (by rw [hb]; simp)] at e1
      refine yG (oj b1 (oj b2 (oj b3 hn_g7))) ?_
      refine aw_push (pre := [(g7, .cells 32 6 (ofL (spc y)))]) rfl rfl rfl rfl rfl rfl rfl (zE (oj b1 (oj b2 (oj b3 hn_g7)))) (zE (oj b1 (oj b2 (oj b3 hn_g7)))) (by rfl) (by omega) (by omega) (zE (oj b1 (oj b2 (oj b3 hn_g7)))) (by omega) (by exact hog) (zE (oj b1 (oj b2 (oj b3 hn_g7)))) (by rfl) (by rfl) (by first | rfl | simp only [Nat.mul_one, List.nil_append, List.cons_append] <;> rfl) (by unfold maxLen; omega) (by omega) (by exact rats_push (endTo_len s u k) _) fun g hn_g => ?_
      replace hn_g := Heap.ne_of hn_g
      first | dsimp only [Heap.ne, gh] at hn_g | dsimp only [Heap.ne] at hn_g | skip
      refine yS (oj b1 (oj b2 (oj b3 (oj hn_g7 hn_g)))) ?_
      refine yG (oj b1 (oj b2 (oj b3 (oj hn_g7 hn_g)))) ?_
      rw [← e1]
      exact aw_stop ⟨(some g, k + 1), by dsimp only; omega, (zB (oj b1 (oj b2 (oj b3 (oj hn_g7 hn_g))))), .cons _ (.refl _), by dsimp only; omega, some_ne⟩
  · have h1' : k = s.length := by have := of_decide_eq_false h1; omega
    subst h1'
    refine xG ?_
    refine xT hC ?_
    exact .one (.c (ler_gsr (pre := []) hog (fun g e => by simp [Heap.keys]) (endTo_len s u _)))
end Go.Proofs.YtcoflhkcpnoaaaaGreatDoor
namespace Go.PN
open Go.AI
def okS (y : SD) : Bool := validS y && (!decide (signQ y.lo.q < 0) && !decide (signQ (y.hi.q - 1) > 0))
def scode (s : List SD) (vars : Int) : Int := if (s.length : Int) ≠ vars then 11 else if s.all okS then 0 else 3
noncomputable def ucode (f : FM) (s : List SD) : Int := if fcode f ≠ 0 then fcode f else scode s f.vars
theorem all_bad {s : List SD} {k : Nat} (h : k < s.length) (hb : okS (s.getD k sd0) = false) : s.all okS = false := by
  rw [List.getD_eq_getElem?_getD, List.getElem?_eq_getElem h] at hb
  rw [List.all_eq_false]
  exact ⟨_, List.getElem_mem h, by simpa using hb⟩
theorem all_takeS {s : List SD} {k : Nat} (h : k < s.length) (h1 : (s.take k).all okS = true) (hb : okS (s.getD k sd0) = true) : (s.take (k + 1)).all okS = true := by
  rw [List.getD_eq_getElem?_getD, List.getElem?_eq_getElem h] at hb
  rw [List.take_succ_eq_append_getElem h, List.all_append, h1]
  simpa using hb
abbrev unitS : SD := ⟨⟨false, [], []⟩, rd 1⟩
theorem ok_inside {y : SD} (hv : validS y = true) : insideS y unitS = (!decide (signQ y.lo.q < 0) && !decide (signQ (y.hi.q - 1) > 0)) := by
  have hle := valid_le hv
  have e0 : (⟨false, [], []⟩ : RD).q = 0 := rd0_q
  have hu : validS unitS = true := by
    unfold validS
    rw [signQ_le, e0, rd_q, rd_valid, show decide ((0 : Rat) - 1 ≤ 0) = true from by decide +kernel, show unitS.lo.valid = true from by decide]
    rfl
  unfold insideS containsS nlo nhi
  rw [if_pos hv, if_pos hv, if_pos hu, if_pos hu, e0, rd_q]
  rw [signQ_le, signQ_le, signQ_le, signQ_le]
  have h1 := signQ_ge y.lo.q
  have h2 := signQ_le (y.hi.q - 1)
  have e1 : decide (signQ y.lo.q < 0) = !decide (0 ≤ y.lo.q) := by
    rw [← h1]; by_cases h : signQ y.lo.q ≥ 0
    · rw [decide_eq_true h, decide_eq_false (by omega)]; rfl
    · rw [decide_eq_false h, decide_eq_true (by omega)]; rfl
  have e2 : decide (signQ (y.hi.q - 1) > 0) = !decide (y.hi.q - 1 ≤ 0) := by
    rw [← h2]; by_cases h : signQ (y.hi.q - 1) ≤ 0
    · rw [decide_eq_true h, decide_eq_false (by omega)]; rfl
    · rw [decide_eq_false h, decide_eq_true (by omega)]; rfl
  rw [e1, e2, Bool.not_not, Bool.not_not]
  by_cases a : 0 ≤ y.lo.q <;> by_cases b : y.hi.q - 1 ≤ 0
  · rw [decide_eq_true (show (0 : Rat) - y.lo.q ≤ 0 by grind), decide_eq_true (show y.lo.q - 1 ≤ 0 by grind), decide_eq_true (show (0 : Rat) - y.hi.q ≤ 0 by grind), decide_eq_true b, decide_eq_true a]; rfl
  · rw [decide_eq_false b, decide_eq_true a]; simp
  · rw [decide_eq_false (show ¬ (0 : Rat) - y.lo.q ≤ 0 by grind), decide_eq_false a]; rfl
  · rw [decide_eq_false (show ¬ (0 : Rat) - y.lo.q ≤ 0 by grind), decide_eq_false a]; rfl
theorem ok_eq (y : SD) : okS y = (validS y && insideS y unitS) := by
  unfold okS
  cases hv : validS y
  · rfl
  · rw [ok_inside hv]
theorem trim_coh (f : FM) : ∀ k, (trTo f k).all (fun x => !(decide (x.kind = 1) || decide (x.kind = 5))) = cohTo f k
  | 0 => rfl
  | k + 1 => by
    rw [trTo, cohTo, ← trim_coh f k]
    cases hm : (belL f).getD (f.vars.toNat + k) false
    · simp
    · simp
end Go.PN
namespace Go.Proofs.YtcoflhkcpnoaaaaGreatDoor
open Go.AI Go.PN
attribute [local irreducible] aw Fa Fh DrK
theorem one_q : rd ((1 : Int) : Rat) = rd 1 := by rw [Rat.intCast_one]
set_option maxRecDepth 100000 in
set_option maxHeartbeats 3200000 in
theorem ucheck_fa (f : FM) (s : List SD) (hn : f.nodes.length ≤ 1099511627776) (ha : ArgsOk f) (ht0 : -9223372036854775808 ≤ f.top) (ht : f.top ≤ 9223372036854775807) (hs : ∀ y ∈ s, y.wf 1000) (hl : s.length ≤ 1099511627776) :
    Fa Tryz.prog 31 [.agg (fmc false f), .c (sps false s)] (.c (errA (ucode f s))) := by
  refine fa_of_body Tryz.func31 rfl rfl (by simp [Tryz.ntmps31]) fun C hC => ?_
  simp only [initS, Nat.reduceAdd]
  refine xG ?_
  refine xB fun g2 hn_g2=>?_
  refine yG hn_g2 ?_
  refine yC hn_g2 (fcheck_fa f hn ha ht0 ht) ?_
  refine yG hn_g2 ?_
  refine yF hn_g2 (fun hc=>?_) fun hc=>?_
  · have hc' : fcode f ≠ 0 := by simpa using hc
    have e : ucode f s = fcode f := by unfold ucode; rw [if_pos hc']
    rw [e]
    refine yG hn_g2 ?_
    refine yT hC hn_g2 ?_
    exact .one (.c ler_err)
  have hc' : fcode f = 0 := by simpa using hc
  have v0 := (fr_ok hc').v0
  have v24 := (fr_ok hc').v24
  have e : ucode f s = scode s f.vars := by unfold ucode; rw [if_neg (by simp [hc'])]
  rw [e]
  refine yG hn_g2 ?_
  refine yF hn_g2 (fun hlen=>?_) fun hlen=>?_
  · have e : scode s f.vars = 11 := by unfold scode; rw [if_pos (by simpa using hlen)]
    rw [e]
    refine yG hn_g2 ?_
    refine yT hC hn_g2 ?_
    exact .one (.c (ler_errN rfl (by decide)))
  have hlen' : (s.length : Int) = f.vars := by simpa using hlen
  have e : scode s f.vars = if s.all okS then 0 else 3 := by unfold scode; rw [if_neg (by simpa using hlen')]
  rw [e]
  refine yG hn_g2 ?_
  refine aw_lp (fun k : Nat => [(2, .c (.optr g2 0)), (19, .c (sps false s)), (20, .c (.int .i64 s.length)), (21, .c (.int .i64 k))]) (fun _ => [(g2, .cells 24 3 (ofL (fmc false f)))]) (fun k => k ≤ s.length ∧ (s.take k).all okS = true) (fun k => s.length - k) 0 (zB hn_g2) zZ ⟨Nat.zero_le _, rfl⟩ ?_
  rintro k ⟨hk, hok⟩
  refine yG hn_g2 ?_
  refine yF hn_g2 (fun h1=>?_) fun h1=>?_
  · have h1' : k < s.length := by have := of_decide_eq_true h1; omega
    have hy : (s.getD k sd0).wf 1000 := by
      rw [List.getD_eq_getElem?_getD, List.getElem?_eq_getElem h1']
      exact hs _ (List.getElem_mem _)
    have hbad : okS (s.getD k sd0) = false → (if s.all okS then (0 : Int) else 3) = 3 := fun h => by rw [all_bad h1' h]; rfl
    have hgood := all_takeS h1' hok
    refine yG hn_g2 ?_
    refine yA hn_g2 fun g7 hn_g7=>?_
    generalize s.getD k sd0 = y at *
    have hokd : okS y = (validS y && (!decide (signQ y.lo.q < 0) && !decide (signQ (y.hi.q - 1) > 0))) := rfl
    refine yG (oj hn_g2 hn_g7) ?_
    refine yW (oj hn_g2 hn_g7) ?_
    refine yS (oj hn_g2 hn_g7) ?_
    refine aw_conv1 (f' := ofL (spc y)) (fun j hj => by match j, hj with | 0, _ => rfl | 1, _ => rfl | 2, _ => rfl | 3, _ => rfl | 4, _ => rfl | 5, _ => rfl) ?_
    refine yG (oj hn_g2 hn_g7) ?_
    refine aw_dr 16 ty_mixed (by kernel_rfl) ?_
    refine yG (oj hn_g2 hn_g7) ?_
    refine yD (oj hn_g2 hn_g7) (spvalid_fa y ⟨wf_mono hy.1 ?_, wf_mono hy.2 ?_⟩) ?_
    · omega
    · omega
    cases hv : validS y
    · rw [hv, Bool.false_and] at hokd
      refine yG (oj hn_g2 hn_g7) ?_
      rw [hbad hokd]
      refine yP (oj hn_g2 hn_g7) ?_
      refine yG (oj hn_g2 hn_g7) ?_
      refine yT hC (oj hn_g2 hn_g7) ?_
      exact .one (.c (ler_errN rfl (by decide)))
    rw [hv, Bool.true_and] at hokd
    refine yG (oj hn_g2 hn_g7) ?_
    refine yD (oj hn_g2 hn_g7) (rsign_fa y.lo (wf_mono hy.1 ?_)) ?_
    · omega
    refine yG (oj hn_g2 hn_g7) ?_
    cases hsg : decide (signQ y.lo.q < 0)
    · rw [hsg, Bool.not_false, Bool.true_and] at hokd
      refine yG (oj hn_g2 hn_g7) ?_
      refine yD (oj hn_g2 hn_g7) (rof_fa 1 ?_ ?_) ?_
      · omega
      · omega
      rw [one_q]
      refine yG (oj hn_g2 hn_g7) ?_
      have hcm := rcmp_fa y.hi (rd 1) (wf_mono hy.2 (by omega)) (rd_wf (fits_mono fits_one (by omega)))
      rw [rd_q] at hcm
      refine yD (oj hn_g2 hn_g7) (hcm) ?_
      refine yG (oj hn_g2 hn_g7) ?_
      refine yF (oj hn_g2 hn_g7) (fun hgt=>?_) fun hgt=>?_
      · rw [hgt] at hokd
        refine yG (oj hn_g2 hn_g7) ?_
        rw [hbad hokd]
        refine yT hC (oj hn_g2 hn_g7) ?_
        exact .one (.c (ler_errN rfl (by decide)))
      · rw [hgt] at hokd
        refine yG (oj hn_g2 hn_g7) ?_
        refine aw_weak (Sl.le_refl _) (List.sublist_cons_self _ _) ?_
        exact aw_stop ⟨k + 1, by omega, (zB (oj hn_g2 hn_g7)), zZ, by omega, hgood hokd⟩
    · rw [hsg] at hokd
      refine yG (oj hn_g2 hn_g7) ?_
      rw [hbad hokd]
      refine yP (oj hn_g2 hn_g7) ?_
      refine yG (oj hn_g2 hn_g7) ?_
      refine yT hC (oj hn_g2 hn_g7) ?_
      exact .one (.c (ler_errN rfl (by decide)))
  · have h1' : k = s.length := by have := of_decide_eq_false h1; omega
    subst h1'
    rw [List.take_length] at hok
    rw [if_pos hok]
    refine yG hn_g2 ?_
    refine yT hC hn_g2 ?_
    exact .one (.c (ler_err0 rfl))
set_option maxRecDepth 100000 in
set_option maxHeartbeats 3200000 in
theorem ucheckR_fa (f : FM) (s : List SD) (v0 : 0 ≤ f.vars) (v24 : f.vars ≤ 24) (hs : ∀ y ∈ s, y.wf 1000) (hl : s.length ≤ 1099511627776) :
    Fa Tryz.prog 38 [.agg (fmc false f), .c (sps false s)] (.c (.int .i64 (scode s f.vars))) := by
  have hu : unitS.wf 1000 := ⟨⟨by simp, by simp, by simp, by simp⟩, rd_wf (fits_mono fits_one (by omega))⟩
  refine fa_of_body Tryz.func38 rfl rfl (by simp [Tryz.ntmps38]) fun C hC => ?_
  simp only [initS, Nat.reduceAdd]
  refine xG ?_
  refine xB fun g2 hn_g2=>?_
  refine yG hn_g2 ?_
  refine yF hn_g2 (fun hlen=>?_) fun hlen=>?_
  · have e : scode s f.vars = 11 := by unfold scode; rw [if_pos (by simpa using hlen)]
    rw [e]
    refine yG hn_g2 ?_
    refine yT hC hn_g2 ?_
    exact .one (.c (.int _ _))
  have hlen' : (s.length : Int) = f.vars := by simpa using hlen
  have e : scode s f.vars = if s.all okS then 0 else 3 := by unfold scode; rw [if_neg (by simpa using hlen')]
  rw [e]
  refine yG hn_g2 ?_
  refine yC hn_g2 (sof_fa 1 ?_ ?_) ?_
  · omega
  · omega
  rw [one_q]
  refine yG hn_g2 ?_
  refine yA hn_g2 fun g5 hn_g5=>?_
  refine yG (oj hn_g2 hn_g5) ?_
  refine yW (oj hn_g2 hn_g5) ?_
  refine yS (oj hn_g2 hn_g5) ?_
  refine aw_convR (f' := ofL (spc unitS)) (fun j hj S w u hr => by match j, hj with | 0, _ => exact hr | 1, _ => exact repC_nil hr | 2, _ => exact repC_nil hr | 3, _ => exact hr | 4, _ => exact hr | 5, _ => exact hr) ?_
  refine yG (oj hn_g2 hn_g5) ?_
  refine aw_lp (fun k : Nat => [(2, .c (.optr g2 0)), (5, .c (.optr g5 0)), (15, .c (sps false s)), (16, .c (.int .i64 s.length)), (17, .c (.int .i64 k))]) (fun _ => [(g5, .cells 32 6 (ofL (spc unitS))), (g2, .cells 24 3 (ofL (fmc false f)))]) (fun k => k ≤ s.length ∧ (s.take k).all okS = true) (fun k => s.length - k) 0 (zB (oj hn_g2 hn_g5)) zZ ⟨Nat.zero_le _, rfl⟩ ?_
  rintro k ⟨hk, hok⟩
  refine yG (oj hn_g2 hn_g5) ?_
  refine yF (oj hn_g2 hn_g5) (fun h1=>?_) fun h1=>?_
  · have h1' : k < s.length := by have := of_decide_eq_true h1; omega
    have hy : (s.getD k sd0).wf 1000 := by
      rw [List.getD_eq_getElem?_getD, List.getElem?_eq_getElem h1']
      exact hs _ (List.getElem_mem _)
    have hbad : okS (s.getD k sd0) = false → (if s.all okS then (0 : Int) else 3) = 3 := fun h => by rw [all_bad h1' h]; rfl
    have hgood := all_takeS h1' hok
    refine yG (oj hn_g2 hn_g5) ?_
    refine yA (oj hn_g2 hn_g5) fun g7 hn_g7=>?_
    generalize s.getD k sd0 = y at *
    have hokd := ok_eq y
    refine yG (oj hn_g2 (oj hn_g5 hn_g7)) ?_
    refine yW (oj hn_g2 (oj hn_g5 hn_g7)) ?_
    refine yS (oj hn_g2 (oj hn_g5 hn_g7)) ?_
    refine aw_conv1 (f' := ofL (spc y)) (fun j hj => by match j, hj with | 0, _ => rfl | 1, _ => rfl | 2, _ => rfl | 3, _ => rfl | 4, _ => rfl | 5, _ => rfl) ?_
    refine yG (oj hn_g2 (oj hn_g5 hn_g7)) ?_
    refine yC (oj hn_g2 (oj hn_g5 hn_g7)) (spvalidR_fa y ⟨wf_mono hy.1 ?_, wf_mono hy.2 ?_⟩) ?_
    · omega
    · omega
    cases hv : validS y
    · rw [hv, Bool.false_and] at hokd
      refine yG (oj hn_g2 (oj hn_g5 hn_g7)) ?_
      rw [hbad hokd]
      refine yP (oj hn_g2 (oj hn_g5 hn_g7)) ?_
      refine yG (oj hn_g2 (oj hn_g5 hn_g7)) ?_
      refine yT hC (oj hn_g2 (oj hn_g5 hn_g7)) ?_
      exact .one (.c (.int _ _))
    rw [hv, Bool.true_and] at hokd
    refine yG (oj hn_g2 (oj hn_g5 hn_g7)) ?_
    refine yC (oj hn_g2 (oj hn_g5 hn_g7)) (spinsideR_fa y unitS ⟨wf_mono hy.1 ?_, wf_mono hy.2 ?_⟩ ⟨wf_mono hu.1 ?_, wf_mono hu.2 ?_⟩) ?_
    · omega
    · omega
    · omega
    · omega
    refine yG (oj hn_g2 (oj hn_g5 hn_g7)) ?_
    refine yF (oj hn_g2 (oj hn_g5 hn_g7)) (fun hin=>?_) fun hin=>?_
    · have hin' : insideS y unitS = false := by simpa using hin
      rw [hin'] at hokd
      refine yG (oj hn_g2 (oj hn_g5 hn_g7)) ?_
      rw [hbad hokd]
      refine yT hC (oj hn_g2 (oj hn_g5 hn_g7)) ?_
      exact .one (.c (.int _ _))
    · have hin' : insideS y unitS = true := by simpa using hin
      rw [hin'] at hokd
      refine yG (oj hn_g2 (oj hn_g5 hn_g7)) ?_
      refine aw_weak (Sl.le_refl _) (List.sublist_cons_self _ _) ?_
      exact aw_stop ⟨k + 1, by omega, (zB (oj hn_g2 (oj hn_g5 hn_g7))), zZ, by omega, hgood hokd⟩
  · have h1' : k = s.length := by have := of_decide_eq_false h1; omega
    subst h1'
    rw [List.take_length] at hok
    rw [if_pos hok]
    refine yG (oj hn_g2 hn_g5) ?_
    refine yT hC (oj hn_g2 hn_g5) ?_
    exact .one (.c (.int _ _))
set_option maxRecDepth 100000 in
set_option maxHeartbeats 1600000 in
theorem csyntax_fa (f : FM) (hn : f.nodes.length ≤ 1099511627776) (ha : ArgsOk f) (hc : fcode f = 0) : Fa Tryz.prog 20 [.agg (fmc false f)] (.tup [.c (.bool (cohTo f f.nodes.length)), .c .nilI]) := by
  have htc := trim_coh f f.nodes.length
  have n128 := (trim_ok (fr_ok hc)).n128
  rw [show trTo f f.nodes.length = (trimF f).nodes from rfl] at htc
  have htr := ftrim_fh f hn ha hc
  refine fa_of_body Tryz.func20 rfl rfl (by simp [Tryz.ntmps20]) fun C hC => ?_
  simp only [initS, Nat.reduceAdd]
  refine xG ?_
  refine xB fun g1 hn_g1=>?_
  refine yG hn_g1 ?_
  refine aw_callh (hc := []) (hr := [(g1, .cells 24 3 (ofL (fmc false f)))]) htr rfl rfl rfl (.refl _) (zL hn_g1) ?_
  rintro _ _ ⟨rfl, rfl⟩ _
  generalize trimF f = t at *
  refine yS hn_g1 ?_
  refine yG hn_g1 ?_
  refine yA hn_g1 fun g4 hn_g4=>?_
  refine yG (oj hn_g1 hn_g4) ?_
  refine yW (oj hn_g1 hn_g4) ?_
  refine yS (oj hn_g1 hn_g4) ?_
  refine yG (oj hn_g1 hn_g4) ?_
  refine yN (oj hn_g1 hn_g4) ?_
  refine yG (oj hn_g1 hn_g4) ?_
  refine aw_lp (fun k : Nat => [(17, .c (fns true t.nodes)), (18, .c (.int .i64 t.nodes.length)), (19, .c (.int .i64 k))]) (fun _ => []) (fun k => k ≤ t.nodes.length ∧ (t.nodes.take k).all (fun x => !(decide (x.kind = 1) || decide (x.kind = 5))) = true) (fun k => t.nodes.length - k) 0 (zB (oj hn_g1 hn_g4)) (List.nil_sublist _) ⟨Nat.zero_le _, rfl⟩ ?_
  rintro k ⟨hk, hok⟩
  refine yG (oj hn_g1 hn_g4) ?_
  refine yF (oj hn_g1 hn_g4) (fun h1=>?_) fun h1=>?_
  · have h1' : k < t.nodes.length := by have := of_decide_eq_true h1; omega
    have hst : (t.nodes.take (k + 1)).all (fun x => !(decide (x.kind = 1) || decide (x.kind = 5))) = !(decide ((t.nodes.getD k fn0).kind = 1) || decide ((t.nodes.getD k fn0).kind = 5)) := by
      rw [List.take_succ_eq_append_getElem h1', List.all_append, hok, List.getD_eq_getElem?_getD, List.getElem?_eq_getElem h1']
      simp
    have hbad : (decide ((t.nodes.getD k fn0).kind = 1) || decide ((t.nodes.getD k fn0).kind = 5)) = true → cohTo f f.nodes.length = false := fun h => by
      rw [← htc, List.all_eq_false]
      refine ⟨t.nodes.getD k fn0, ?_, by rw [h]; simp⟩
      rw [List.getD_eq_getElem?_getD, List.getElem?_eq_getElem h1']
      exact List.getElem_mem _
    refine yG (oj hn_g1 hn_g4) ?_
    refine yA (oj hn_g1 hn_g4) fun g7 hn_g7=>?_
    generalize t.nodes.getD k fn0 = y at *
    refine yG (oj hn_g1 (oj hn_g4 hn_g7)) ?_
    refine yW (oj hn_g1 (oj hn_g4 hn_g7)) ?_
    refine yS (oj hn_g1 (oj hn_g4 hn_g7)) ?_
    refine aw_conv1 (f' := ofL [.int .i64 y.kind, .int .i64 y.k, is true y.args]) (fun j hj => by match j, hj with | 0, _ => rfl | 1, _ => rfl | 2, _ => rfl) ?_
    refine yG (oj hn_g1 (oj hn_g4 hn_g7)) ?_
    refine aw_split 26 (zE (oj hn_g1 (oj hn_g4 hn_g7))) (fun h4 => ?_) (fun h4 => ?_) <;> refine yS (oj hn_g1 (oj hn_g4 hn_g7)) ?_
    · refine yG (oj hn_g1 (oj hn_g4 hn_g7)) ?_
      refine yP (oj hn_g1 (oj hn_g4 hn_g7)) ?_
      refine yG (oj hn_g1 (oj hn_g4 hn_g7)) ?_
      rw [hbad (by rw [show decide (y.kind = 1) = true from by simpa using h4]; rfl)]
      refine yT hC (oj hn_g1 (oj hn_g4 hn_g7)) ?_
      exact .tup ⟨.c (.bool _), .c .nilI, trivial⟩
    · have h4' : decide (y.kind = 1) = false := by simpa using h4
      refine yG (oj hn_g1 (oj hn_g4 hn_g7)) ?_
      refine yF (oj hn_g1 (oj hn_g4 hn_g7)) (fun h5=>?_) fun h5=>?_
      · refine yG (oj hn_g1 (oj hn_g4 hn_g7)) ?_
        rw [hbad (by rw [h4', show decide (y.kind = 5) = true from by simpa using h5]; rfl)]
        refine yT hC (oj hn_g1 (oj hn_g4 hn_g7)) ?_
        exact .tup ⟨.c (.bool _), .c .nilI, trivial⟩
      · refine yG (oj hn_g1 (oj hn_g4 hn_g7)) ?_
        exact aw_stop ⟨k + 1, by omega, (zB (oj hn_g1 (oj hn_g4 hn_g7))), List.nil_sublist _, by omega, by rw [hst, h4', show decide (y.kind = 5) = false from by simpa using h5]; rfl⟩
  · have h1' : k = t.nodes.length := by have := of_decide_eq_false h1; omega
    subst h1'
    rw [List.take_length] at hok
    refine yG (oj hn_g1 hn_g4) ?_
    rw [← htc, hok]
    refine yT hC (oj hn_g1 hn_g4) ?_
    exact .tup ⟨.c (.bool _), .c .nilI, trivial⟩
end Go.Proofs.YtcoflhkcpnoaaaaGreatDoor
namespace Go.PN
open Go.AI
theorem ok_prob {y : SD} (h : okS y = true) : y.lo.prob = true ∧ y.hi.prob = true := by
  unfold okS at h
  rw [Bool.and_eq_true] at h
  obtain ⟨hv, h⟩ := h
  have hle := valid_le hv
  have h1 := signQ_ge y.lo.q
  have h2 := signQ_le (y.hi.q - 1)
  simp only [Bool.and_eq_true, Bool.not_eq_true', decide_eq_false_iff_not] at h
  have a : 0 ≤ y.lo.q := by
    rw [decide_eq_true (show signQ y.lo.q ≥ 0 by omega)] at h1
    exact of_decide_eq_true h1.symm
  have b : y.hi.q - 1 ≤ 0 := by
    rw [decide_eq_true (show signQ (y.hi.q - 1) ≤ 0 by omega)] at h2
    exact of_decide_eq_true h2.symm
  unfold validS at hv
  simp only [Bool.and_eq_true] at hv
  unfold RD.prob
  rw [hv.1.1, hv.1.2, decide_eq_true a, decide_eq_true (show y.lo.q ≤ 1 by grind), decide_eq_true (show 0 ≤ y.hi.q by grind), decide_eq_true (show y.hi.q ≤ 1 by grind)]
  exact ⟨rfl, rfl⟩
noncomputable def topQ (f : FM) (s : List SD) (u : Nat) : Rat := sumQ (endTo s u s.length) (formTo f (2 ^ f.vars.toNat)) (2 ^ s.length)
end Go.PN
namespace Go.Proofs.YtcoflhkcpnoaaaaGreatDoor
open Go.AI Go.PN
attribute [local irreducible] aw Fa Fh DrK
structure UOk (f : FM) (s : List SD) : Prop where
  hn : f.nodes.length ≤ 1099511627776
  ha : ArgsOk f
  fc : fcode f = 0
  sc : scode s f.vars = 0
  v6 : f.vars ≤ 6
  w : ∀ y ∈ s, y.wf 16
theorem UOk.len {f : FM} {s : List SD} (h : UOk f s) : (s.length : Int) = f.vars := by
  have := h.sc
  unfold scode at this
  split at this
  · cases this
  · rename_i h1; exact Classical.not_not.1 h1
theorem UOk.all {f : FM} {s : List SD} (h : UOk f s) : ∀ y ∈ s, okS y = true := by
  have := h.sc
  unfold scode at this
  split at this
  · cases this
  · split at this
    · rename_i h1; exact fun y hy => List.all_eq_true.1 h1 y hy
    · cases this
theorem UOk.getOk {f : FM} {s : List SD} (h : UOk f s) {i : Nat} (hi : i < s.length) : okS (s.getD i sd0) = true ∧ (s.getD i sd0).wf 16 := by
  rw [List.getD_eq_getElem?_getD, List.getElem?_eq_getElem hi]
  exact ⟨h.all _ (List.getElem_mem hi), h.w _ (List.getElem_mem hi)⟩
theorem UOk.ends {f : FM} {s : List SD} (h : UOk f s) (u : Nat) : ∀ r ∈ endTo s u s.length, r.wf 16 ∧ r.prob = true := fun r hr => by
  obtain ⟨i, hi, rfl⟩ := List.mem_map.1 hr
  obtain ⟨h1, h2⟩ := h.getOk (List.mem_range.1 hi)
  obtain ⟨h3, h4⟩ := ok_prob h1
  split
  · exact ⟨h2.2, h4⟩
  · exact ⟨h2.1, h3⟩
theorem tags_rd (r : RD) : tagsL (rdc r) := ⟨trivial, ⟨rfl, fun _ => trivial⟩, ⟨rfl, fun _ => trivial⟩, trivial⟩
noncomputable def umonC (f : FM) (s : List SD) : Int := if ucode f s ≠ 0 then ucode f s else if cohTo f f.nodes.length then 0 else 7
noncomputable def umonS (f : FM) (s : List SD) : SD := if umonC f s = 0 then ⟨rd (topQ f s 0), rd (topQ f s (2 ^ f.vars.toNat - 1))⟩ else ⟨rd 0, rd 0⟩
theorem topQ_fits {f : FM} {s : List SD} (h : UOk f s) (u : Nat) : fits (topQ f s u) 14000 := by
  have hl := h.len
  have h6 := h.v6
  have := fits_sum (ps := endTo s u s.length) (tb := formTo f (2 ^ f.vars.toNat)) (L := 16) (by omega) (fun r hr => (h.ends u r hr).1) (2 ^ s.length)
  rw [endTo_len] at this
  refine fits_mono this ?_
  have h1 : s.length ≤ 6 := by omega
  have h2 : 2 ^ s.length ≤ 64 := by
    have : 2 ^ s.length ≤ 2 ^ 6 := Nat.pow_le_pow_right (by omega) h1
    omega
  have h3 : ((2 * 16 + 2) * s.length + 2) * 2 ^ s.length ≤ 206 * 64 := Nat.mul_le_mul (by omega) h2
  omega
theorem topE_fa {f : FM} {s : List SD} (h : UOk f s) (u : Nat) : Fa Tryz.prog 17 [.agg (fmc false f), .c (rats false (endTo s u s.length))] (.tup [.agg (rdc (rd (topQ f s u))), .c .nilI]) := by
  have hl := h.len
  have hp : pcode (endTo s u s.length) f.vars = 0 := pcode_mk (by rw [endTo_len]; exact hl) fun r hr => (h.ends u r hr).2
  refine fa_of_fh ?_ (stop_fh f (endTo s u s.length) h.hn h.ha h.fc h.v6 (fun r hr => (h.ends u r hr).1) hp (by rw [endTo_len]; exact hl)) ?_
  · exact ⟨tags_rd _, trivial, trivial⟩
  · rintro y hh ⟨rfl, D, hD, hDl, rfl⟩
    rw [endTo_len] at hDl
    refine ⟨rfl, ?_⟩
    rw [form_tab hD (by omega), endTo_len]
    rfl
end Go.Proofs.YtcoflhkcpnoaaaaGreatDoor
namespace Go.Proofs.YtcoflhkcpnoaaaaGreatDoor
open Go.AI Go.PN
attribute [local irreducible] aw Fa Fh DrK
theorem lerl_zero {h : Heap} : LeRL h [.bool false, .nils, .nils, .bool false, .nils, .nils] (spc ⟨rd 0, rd 0⟩) := by
  rw [rd_zero]
  exact ⟨.bool _, .nils, .nils, .bool _, .nils, .nils, trivial⟩
theorem uok_of {f : FM} {s : List SD} (hn : f.nodes.length ≤ 1099511627776) (ha : ArgsOk f) (hs : ∀ y ∈ s, y.wf 16) (hv : fcode f = 0 → f.vars ≤ 6) (h : ucode f s = 0) : UOk f s := by
  unfold ucode at h
  by_cases hc : fcode f ≠ 0
  · rw [if_pos hc] at h; exact absurd h hc
  · rw [if_neg hc] at h
    have hc' : fcode f = 0 := Classical.not_not.1 hc
    exact ⟨hn, ha, hc', h, hv hc', hs⟩
set_option maxRecDepth 100000 in
set_option maxHeartbeats 3200000 in
theorem umono_fa (f : FM) (s : List SD) (hn : f.nodes.length ≤ 1099511627776) (ha : ArgsOk f) (ht0 : -9223372036854775808 ≤ f.top) (ht : f.top ≤ 9223372036854775807) (hs : ∀ y ∈ s, y.wf 16) (hl : s.length ≤ 1099511627776) (hv : fcode f = 0 → f.vars ≤ 6) :
    Fa Tryz.prog 21 [.agg (fmc false f), .c (sps false s)] (.tup [.agg (spc (umonS f s)), .c (errA (umonC f s))]) := by
  have hS : umonS f s = if umonC f s = 0 then ⟨rd (topQ f s 0), rd (topQ f s (2 ^ f.vars.toNat - 1))⟩ else ⟨rd 0, rd 0⟩ := rfl
  have hcd : umonC f s = if ucode f s ≠ 0 then ucode f s else if cohTo f f.nodes.length then 0 else 7 := rfl
  have hck := ucheck_fa f s hn ha ht0 ht (fun y hy => ⟨wf_mono (hs y hy).1 (by omega), wf_mono (hs y hy).2 (by omega)⟩) hl
  refine fa_of_body Tryz.func21 rfl rfl (by simp [Tryz.ntmps21]) fun C hC => ?_
  simp only [initS, Nat.reduceAdd]
  refine xG ?_
  refine xB fun g2 hn_g2=>?_
  refine yA hn_g2 fun g4 hn_g4=>?_
  refine yG (oj hn_g2 hn_g4) ?_
  refine yC (oj hn_g2 hn_g4) (hck) ?_
  refine yG (oj hn_g2 hn_g4) ?_
  refine yF (oj hn_g2 hn_g4) (fun hb=>?_) fun hb=>?_
  · have hb' : ucode f s ≠ 0 := by simpa using hb
    rw [if_pos hb'] at hcd
    rw [hcd, if_neg hb'] at hS
    rw [hS, hcd]
    refine yG (oj hn_g2 hn_g4) ?_
    refine yW (oj hn_g2 hn_g4) ?_
    refine yS (oj hn_g2 hn_g4) ?_
    refine yG (oj hn_g2 hn_g4) ?_
    refine yT hC (oj hn_g2 hn_g4) ?_
    refine .tup ⟨.agg ?_, .c ler_err, trivial⟩
    show LeRL _ [.bool false, .nils, .nils, .bool false, .nils, .nils] _
    exact lerl_zero
  have hb' : ucode f s = 0 := by simpa using hb
  rw [if_neg (by simp [hb'])] at hcd
  have ok := uok_of hn ha hs hv hb'
  have hlen := ok.len
  have h6 := ok.v6
  have v0 := (fr_ok ok.fc).v0
  refine yG (oj hn_g2 hn_g4) ?_
  refine yC (oj hn_g2 hn_g4) (csyntax_fa f hn ha ok.fc) ?_
  refine yG (oj hn_g2 hn_g4) ?_
  cases hco : cohTo f f.nodes.length
  · rw [hco] at hcd
    replace hcd : umonC f s = 7 := hcd
    rw [hcd, if_neg (by decide)] at hS
    rw [hS, hcd]
    refine yG (oj hn_g2 hn_g4) ?_
    refine yP (oj hn_g2 hn_g4) ?_
    refine yG (oj hn_g2 hn_g4) ?_
    refine yW (oj hn_g2 hn_g4) ?_
    refine yS (oj hn_g2 hn_g4) ?_
    refine yG (oj hn_g2 hn_g4) ?_
    refine yT hC (oj hn_g2 hn_g4) ?_
    refine .tup ⟨.agg ?_, .c (ler_errN rfl (by decide)), trivial⟩
    show LeRL _ [.bool false, .nils, .nils, .bool false, .nils, .nils] _
    exact lerl_zero
  rw [hco] at hcd
  replace hcd : umonC f s = 0 := hcd
  rw [if_pos hcd] at hS
  rw [hS, hcd]
  have e1 := shl_one f.vars.toNat (by omega)
  rw [show ((f.vars.toNat : Nat) : Int) = f.vars from by omega] at e1
  have hp : 2 ^ f.vars.toNat ≤ 64 := by
    have : 2 ^ f.vars.toNat ≤ 2 ^ 6 := Nat.pow_le_pow_right (by omega) (by omega)
    omega
  have hp1 : 1 ≤ 2 ^ f.vars.toNat := Nat.one_le_two_pow
  have t1 := topE_fa ok 0
  have t2 := topE_fa ok (2 ^ f.vars.toNat - 1)
  have n1 : Fa Tryz.prog 32 [.c (sps false s), .c (.int .i64 0)] (.c (rats true (endTo s 0 s.length))) := ends_fa s 0 (by omega) (by omega)
  have n2 := ends_fa s (2 ^ f.vars.toNat - 1) (by omega) (by omega)
  generalize topQ f s 0 = X at *
  generalize topQ f s (2 ^ f.vars.toNat - 1) = Y at *
  have hsub : ((2 ^ f.vars.toNat : Nat) : Int) - 1 = ((2 ^ f.vars.toNat - 1 : Nat) : Int) := by omega
  refine yG (oj hn_g2 (oj hn_g4 e1)) ?_
  refine yN (oj hn_g2 (oj hn_g4 e1)) ?_
  refine yG (oj hn_g2 (oj hn_g4 e1)) ?_
  refine aw_cw ([(g2, .cells 24 3 (ofL (fmc false f)))]) [(0,0),(1,0),(2,0),(3,0),(4,0),(5,0),(6,0),(7,1),(8,1),(9,0)] ty_mixed (by kernel_rfl) eI ?_
  refine yG (oj hn_g2 (oj hn_g4 e1)) ?_
  refine cw_callq rfl n1 rfl rfl rfl (fun _ _ => (zL (oj hn_g2 (oj hn_g4 e1)))) ?_
  refine yS (oj hn_g2 (oj hn_g4 e1)) ?_
  refine yG (oj hn_g2 (oj hn_g4 e1)) ?_
  refine cw_callq rfl t1 rfl rfl rfl (fun _ _ => (zL (oj hn_g2 (oj hn_g4 e1)))) ?_
  refine yS (oj hn_g2 (oj hn_g4 e1)) ?_
  refine yG (oj hn_g2 (oj hn_g4 e1)) ?_
  refine cw_alloc rfl rfl rfl rfl (zE (oj hn_g2 (oj hn_g4 e1))) eI (fun g9 hn_g9 => ?_) (hm := .inr ⟨rfl, rfl⟩)
  replace hn_g9 := Heap.ne_of hn_g9
  dsimp only [Heap.ne] at hn_g9
  refine yS (oj hn_g2 (oj hn_g4 (oj e1 hn_g9))) ?_
  refine cw_store rfl rfl rfl rfl rfl (zE (oj hn_g2 (oj hn_g4 (oj e1 hn_g9)))) (zE (oj hn_g2 (oj hn_g4 (oj e1 hn_g9)))) (zE (oj hn_g2 (oj hn_g4 (oj e1 hn_g9)))) (zE (oj hn_g2 (oj hn_g4 (oj e1 hn_g9)))) (fun _ e => by cases e) rfl rfl (Nat.le_refl 3) (zE (oj hn_g2 (oj hn_g4 (oj e1 hn_g9)))) eI ?_ (hm := .inr ⟨rfl, rfl⟩)
  refine yS (oj hn_g2 (oj hn_g4 (oj e1 hn_g9))) ?_
  refine yG (oj hn_g2 (oj hn_g4 (oj e1 hn_g9))) ?_
  refine yN (oj hn_g2 (oj hn_g4 (oj e1 hn_g9))) ?_
  refine yG (oj hn_g2 (oj hn_g4 (oj e1 hn_g9))) ?_
  refine aw_cw ([(g2, .cells 24 3 (ofL (fmc false f)))]) [(0,0),(1,0),(2,0),(3,0),(4,0),(5,0),(6,0),(7,0),(8,0),(9,0),(10,0),(11,1),(12,1),(13,0)] ty_mixed (by kernel_rfl) eI ?_
  refine yG (oj hn_g2 (oj hn_g4 (oj e1 hn_g9))) ?_
  rw [hsub]
  refine cw_callq rfl n2 rfl rfl rfl (fun _ _ => (zL (oj hn_g2 (oj hn_g4 (oj e1 hn_g9))))) ?_
  refine yS (oj hn_g2 (oj hn_g4 (oj e1 hn_g9))) ?_
  refine yG (oj hn_g2 (oj hn_g4 (oj e1 hn_g9))) ?_
  refine cw_callq rfl t2 rfl rfl rfl (fun _ _ => (zL (oj hn_g2 (oj hn_g4 (oj e1 hn_g9))))) ?_
  refine yS (oj hn_g2 (oj hn_g4 (oj e1 hn_g9))) ?_
  refine yG (oj hn_g2 (oj hn_g4 (oj e1 hn_g9))) ?_
  refine cw_alloc rfl rfl rfl rfl (zE (oj hn_g2 (oj hn_g4 (oj e1 hn_g9)))) eI (fun g11 hn_g11 => ?_) (hm := .inr ⟨rfl, rfl⟩)
  replace hn_g11 := Heap.ne_of hn_g11
  dsimp only [Heap.ne] at hn_g11
  refine yS (oj hn_g2 (oj hn_g4 (oj e1 (oj hn_g9 hn_g11)))) ?_
  refine cw_store rfl rfl rfl rfl rfl (zE (oj hn_g2 (oj hn_g4 (oj e1 (oj hn_g9 hn_g11))))) (zE (oj hn_g2 (oj hn_g4 (oj e1 (oj hn_g9 hn_g11))))) (zE (oj hn_g2 (oj hn_g4 (oj e1 (oj hn_g9 hn_g11))))) (zE (oj hn_g2 (oj hn_g4 (oj e1 (oj hn_g9 hn_g11))))) (fun _ e => by cases e) rfl rfl (Nat.le_refl 3) (zE (oj hn_g2 (oj hn_g4 (oj e1 (oj hn_g9 hn_g11))))) eI ?_ (hm := .inr ⟨rfl, rfl⟩)
  refine yS (oj hn_g2 (oj hn_g4 (oj e1 (oj hn_g9 hn_g11)))) ?_
  refine yG (oj hn_g2 (oj hn_g4 (oj e1 (oj hn_g9 hn_g11)))) ?_
  refine yN (oj hn_g2 (oj hn_g4 (oj e1 (oj hn_g9 hn_g11)))) ?_
  refine yG (oj hn_g2 (oj hn_g4 (oj e1 (oj hn_g9 hn_g11)))) ?_
  refine yW (oj hn_g2 (oj hn_g4 (oj e1 (oj hn_g9 hn_g11)))) ?_
  refine yS (oj hn_g2 (oj hn_g4 (oj e1 (oj hn_g9 hn_g11)))) ?_
  refine yG (oj hn_g2 (oj hn_g4 (oj e1 (oj hn_g9 hn_g11)))) ?_
  refine yT hC (oj hn_g2 (oj hn_g4 (oj e1 (oj hn_g9 hn_g11)))) ?_
  refine .tup ⟨.agg ?_, .c .nilI, trivial⟩
  show LeRL _ (spc ⟨rd X, rd Y⟩) _
  exact lerl_sp
end Go.Proofs.YtcoflhkcpnoaaaaGreatDoor
namespace Go.Proofs.YtcoflhkcpnoaaaaGreatDoor
open Go.AI Go.PN
attribute [local irreducible] aw Fa Fh DrK
noncomputable def partQ (f : FM) (s : List SD) (i : Nat) : Rat := (rd (topQ f s (2 ^ i) - topQ f s 0)).abs
noncomputable def partC (f : FM) (s : List SD) (i : Int) : Int := if ucode f s ≠ 0 then ucode f s else if i < 0 ∨ f.vars ≤ i then 10 else 0
noncomputable def partV (f : FM) (s : List SD) (i : Int) : Rat := if partC f s i = 0 then partQ f s i.toNat else 0
theorem lerl_zero3 {h : Heap} : LeRL h [.bool false, .nils, .nils] (rdc (rd 0)) := by
  rw [rd_zero]
  exact ⟨.bool _, .nils, .nils, trivial⟩
theorem diff_fits {f : FM} {s : List SD} (ok : UOk f s) (a b : Nat) : fits (topQ f s a - topQ f s b) 29000 := fits_mono (fits_sub (topQ_fits ok a) (topQ_fits ok b)) (by omega)
set_option maxRecDepth 100000 in
set_option maxHeartbeats 3200000 in
theorem upart_fa {f : FM} {s : List SD} (ok : UOk f s) (i : Nat) (hi : i < s.length) :
    Fa Tryz.prog 60 [.agg (fmc false f), .c (sps false s), .c (.int .i64 i)] (.tup [.agg (rdc (rd (partQ f s i))), .c .nilI]) := by
  have hlen := ok.len
  have h6 := ok.v6
  have e1 := shl_one i (by omega)
  have hp : 2 ^ i ≤ 64 := by
    have : 2 ^ i ≤ 2 ^ 6 := Nat.pow_le_pow_right (by omega) (by omega)
    omega
  have t1 := topE_fa ok 0
  have t2 := topE_fa ok (2 ^ i)
  have n1 : Fa Tryz.prog 32 [.c (sps false s), .c (.int .i64 0)] (.c (rats true (endTo s 0 s.length))) := ends_fa s 0 (by omega) (by omega)
  have n2 := ends_fa s (2 ^ i) (by omega) (by omega)
  have f1 := topQ_fits ok 0
  have f2 := topQ_fits ok (2 ^ i)
  have f3 := diff_fits ok (2 ^ i) 0
  have a1 := rabs_fa (rd (topQ f s (2 ^ i) - topQ f s 0)) (wf_mono (rd_wf f3) (by omega))
  rw [show (rd (topQ f s (2 ^ i) - topQ f s 0)).abs = partQ f s i from rfl] at a1
  have s1 := rsub_fa (rd (topQ f s (2 ^ i))) (rd (topQ f s 0)) (wf_mono (rd_wf f2) (by omega)) (wf_mono (rd_wf f1) (by omega))
  rw [rd_q, rd_q] at s1
  generalize topQ f s 0 = X at *
  generalize topQ f s (2 ^ i) = Y at *
  generalize partQ f s i = Z at *
  refine fa_of_body Tryz.func60 rfl rfl (by simp [Tryz.ntmps60]) fun C hC => ?_
  simp only [initS, Nat.reduceAdd]
  refine yG e1 ?_
  refine yB e1 fun g3 hn_g3=>?_
  refine yA (oj e1 hn_g3) fun g6 hn_g6=>?_
  refine yG (oj e1 (oj hn_g3 hn_g6)) ?_
  refine aw_cw ([(g3, .cells 24 3 (ofL (fmc false f)))]) [(0,0),(1,0),(2,0),(3,0),(4,0),(5,0),(6,0),(7,1),(8,1),(9,0)] ty_mixed (by kernel_rfl) eI ?_
  refine yG (oj e1 (oj hn_g3 hn_g6)) ?_
  refine cw_callq rfl n1 rfl rfl rfl (fun _ _ => (zL (oj e1 (oj hn_g3 hn_g6)))) ?_
  refine yS (oj e1 (oj hn_g3 hn_g6)) ?_
  refine yG (oj e1 (oj hn_g3 hn_g6)) ?_
  refine cw_callq rfl t1 rfl rfl rfl (fun _ _ => (zL (oj e1 (oj hn_g3 hn_g6)))) ?_
  refine yS (oj e1 (oj hn_g3 hn_g6)) ?_
  refine yG (oj e1 (oj hn_g3 hn_g6)) ?_
  refine cw_alloc rfl rfl rfl rfl (zE (oj e1 (oj hn_g3 hn_g6))) eI (fun g8 hn_g8 => ?_) (hm := .inr ⟨rfl, rfl⟩)
  replace hn_g8 := Heap.ne_of hn_g8
  dsimp only [Heap.ne] at hn_g8
  refine yS (oj e1 (oj hn_g3 (oj hn_g6 hn_g8))) ?_
  refine cw_store rfl rfl rfl rfl rfl (zE (oj e1 (oj hn_g3 (oj hn_g6 hn_g8)))) (zE (oj e1 (oj hn_g3 (oj hn_g6 hn_g8)))) (zE (oj e1 (oj hn_g3 (oj hn_g6 hn_g8)))) (zE (oj e1 (oj hn_g3 (oj hn_g6 hn_g8)))) (fun _ e => by cases e) rfl rfl (Nat.le_refl 3) (zE (oj e1 (oj hn_g3 (oj hn_g6 hn_g8)))) eI ?_ (hm := .inr ⟨rfl, rfl⟩)
  refine yS (oj e1 (oj hn_g3 (oj hn_g6 hn_g8))) ?_
  refine yG (oj e1 (oj hn_g3 (oj hn_g6 hn_g8))) ?_
  refine yN (oj e1 (oj hn_g3 (oj hn_g6 hn_g8))) ?_
  refine yG (oj e1 (oj hn_g3 (oj hn_g6 hn_g8))) ?_
  refine aw_cw ([(g3, .cells 24 3 (ofL (fmc false f)))]) [(0,0),(1,0),(2,0),(3,0),(4,0),(5,0),(6,0),(7,0),(8,0),(9,1),(10,1),(11,0)] ty_mixed (by kernel_rfl) eI ?_
  refine yG (oj e1 (oj hn_g3 (oj hn_g6 hn_g8))) ?_
  refine cw_callq rfl n2 rfl rfl rfl (fun _ _ => (zL (oj e1 (oj hn_g3 (oj hn_g6 hn_g8))))) ?_
  refine yS (oj e1 (oj hn_g3 (oj hn_g6 hn_g8))) ?_
  refine yG (oj e1 (oj hn_g3 (oj hn_g6 hn_g8))) ?_
  refine cw_callq rfl t2 rfl rfl rfl (fun _ _ => (zL (oj e1 (oj hn_g3 (oj hn_g6 hn_g8))))) ?_
  refine yS (oj e1 (oj hn_g3 (oj hn_g6 hn_g8))) ?_
  refine yG (oj e1 (oj hn_g3 (oj hn_g6 hn_g8))) ?_
  refine cw_alloc rfl rfl rfl rfl (zE (oj e1 (oj hn_g3 (oj hn_g6 hn_g8)))) eI (fun g10 hn_g10 => ?_) (hm := .inr ⟨rfl, rfl⟩)
  replace hn_g10 := Heap.ne_of hn_g10
  dsimp only [Heap.ne] at hn_g10
  refine yS (oj e1 (oj hn_g3 (oj hn_g6 (oj hn_g8 hn_g10)))) ?_
  refine cw_store rfl rfl rfl rfl rfl (zE (oj e1 (oj hn_g3 (oj hn_g6 (oj hn_g8 hn_g10))))) (zE (oj e1 (oj hn_g3 (oj hn_g6 (oj hn_g8 hn_g10))))) (zE (oj e1 (oj hn_g3 (oj hn_g6 (oj hn_g8 hn_g10))))) (zE (oj e1 (oj hn_g3 (oj hn_g6 (oj hn_g8 hn_g10))))) (fun _ e => by cases e) rfl rfl (Nat.le_refl 3) (zE (oj e1 (oj hn_g3 (oj hn_g6 (oj hn_g8 hn_g10))))) eI ?_ (hm := .inr ⟨rfl, rfl⟩)
  refine yS (oj e1 (oj hn_g3 (oj hn_g6 (oj hn_g8 hn_g10)))) ?_
  refine yG (oj e1 (oj hn_g3 (oj hn_g6 (oj hn_g8 hn_g10)))) ?_
  refine yN (oj e1 (oj hn_g3 (oj hn_g6 (oj hn_g8 hn_g10)))) ?_
  refine yG (oj e1 (oj hn_g3 (oj hn_g6 (oj hn_g8 hn_g10)))) ?_
  refine yC (oj e1 (oj hn_g3 (oj hn_g6 (oj hn_g8 hn_g10)))) (s1) ?_
  refine yG (oj e1 (oj hn_g3 (oj hn_g6 (oj hn_g8 hn_g10)))) ?_
  refine yC (oj e1 (oj hn_g3 (oj hn_g6 (oj hn_g8 hn_g10)))) (a1) ?_
  refine yG (oj e1 (oj hn_g3 (oj hn_g6 (oj hn_g8 hn_g10)))) ?_
  refine yW (oj e1 (oj hn_g3 (oj hn_g6 (oj hn_g8 hn_g10)))) ?_
  refine yS (oj e1 (oj hn_g3 (oj hn_g6 (oj hn_g8 hn_g10)))) ?_
  refine yG (oj e1 (oj hn_g3 (oj hn_g6 (oj hn_g8 hn_g10)))) ?_
  refine yT hC (oj e1 (oj hn_g3 (oj hn_g6 (oj hn_g8 hn_g10)))) ?_
  refine .tup ⟨.agg ?_, .c .nilI, trivial⟩
  show LeRL _ (rdc (rd Z)) _
  exact lerl_rd
set_option maxRecDepth 100000 in
set_option maxHeartbeats 3200000 in
theorem uPart_fa (f : FM) (s : List SD) (i : Int) (hn : f.nodes.length ≤ 1099511627776) (ha : ArgsOk f) (ht0 : -9223372036854775808 ≤ f.top) (ht : f.top ≤ 9223372036854775807) (hs : ∀ y ∈ s, y.wf 16) (hl : s.length ≤ 1099511627776) (hv : fcode f = 0 → f.vars ≤ 6) :
    Fa Tryz.prog 29 [.agg (fmc false f), .c (sps false s), .c (.int .i64 i)] (.tup [.agg (rdc (rd (partV f s i))), .c (errA (partC f s i))]) := by
  have hV : partV f s i = if partC f s i = 0 then partQ f s i.toNat else 0 := rfl
  have hcd : partC f s i = if ucode f s ≠ 0 then ucode f s else if i < 0 ∨ f.vars ≤ i then 10 else 0 := rfl
  have hck := ucheck_fa f s hn ha ht0 ht (fun y hy => ⟨wf_mono (hs y hy).1 (by omega), wf_mono (hs y hy).2 (by omega)⟩) hl
  refine fa_of_body Tryz.func29 rfl rfl (by simp [Tryz.ntmps29]) fun C hC => ?_
  simp only [initS, Nat.reduceAdd]
  refine xG ?_
  refine xB fun g3 hn_g3=>?_
  refine yA hn_g3 fun g6 hn_g6=>?_
  refine yG (oj hn_g3 hn_g6) ?_
  refine yC (oj hn_g3 hn_g6) (hck) ?_
  refine yG (oj hn_g3 hn_g6) ?_
  refine yF (oj hn_g3 hn_g6) (fun hb=>?_) fun hb=>?_
  · have hb' : ucode f s ≠ 0 := by simpa using hb
    rw [if_pos hb'] at hcd
    rw [hcd, if_neg hb'] at hV
    rw [hV, hcd]
    refine yG (oj hn_g3 hn_g6) ?_
    refine yW (oj hn_g3 hn_g6) ?_
    refine yS (oj hn_g3 hn_g6) ?_
    refine yG (oj hn_g3 hn_g6) ?_
    refine yT hC (oj hn_g3 hn_g6) ?_
    refine .tup ⟨.agg ?_, .c ler_err, trivial⟩
    show LeRL _ [.bool false, .nils, .nils] _
    exact lerl_zero3
  have hb' : ucode f s = 0 := by simpa using hb
  rw [if_neg (by simp [hb'])] at hcd
  have ok := uok_of hn ha hs hv hb'
  have hlen := ok.len
  refine yG (oj hn_g3 hn_g6) ?_
  by_cases hi : i < 0 ∨ f.vars ≤ i
  · rw [if_pos hi] at hcd
    rw [hcd, if_neg (by decide)] at hV
    rw [hV, hcd]
    refine aw_split 18 (zE (oj hn_g3 hn_g6)) (fun h0 => ?_) (fun h0 => ?_) <;> refine yS (oj hn_g3 hn_g6) ?_
    · refine yG (oj hn_g3 hn_g6) ?_
      refine yP (oj hn_g3 hn_g6) ?_
      refine yG (oj hn_g3 hn_g6) ?_
      refine yW (oj hn_g3 hn_g6) ?_
      refine yS (oj hn_g3 hn_g6) ?_
      refine yG (oj hn_g3 hn_g6) ?_
      refine yT hC (oj hn_g3 hn_g6) ?_
      refine .tup ⟨.agg ?_, .c (ler_errN rfl (by decide)), trivial⟩
      show LeRL _ [.bool false, .nils, .nils] _
      exact lerl_zero3
    · have h0' := of_decide_eq_false h0
      refine yG (oj hn_g3 hn_g6) ?_
      refine yF (oj hn_g3 hn_g6) (fun h1=>?_) fun h1=>?_
      · refine yG (oj hn_g3 hn_g6) ?_
        refine yW (oj hn_g3 hn_g6) ?_
        refine yS (oj hn_g3 hn_g6) ?_
        refine yG (oj hn_g3 hn_g6) ?_
        refine yT hC (oj hn_g3 hn_g6) ?_
        refine .tup ⟨.agg ?_, .c (ler_errN rfl (by decide)), trivial⟩
        show LeRL _ [.bool false, .nils, .nils] _
        exact lerl_zero3
      · have h1' := of_decide_eq_false h1
        omega
  · rw [if_neg hi] at hcd
    rw [if_pos hcd] at hV
    rw [hV, hcd]
    obtain ⟨j, rfl⟩ : ∃ j : Nat, i = j := ⟨i.toNat, by omega⟩
    rw [Int.toNat_natCast]
    have hj : j < s.length := by omega
    have hu := upart_fa ok j hj
    refine aw_split 18 (zE (oj hn_g3 hn_g6)) (fun h0 => ?_) (fun h0 => ?_) <;> refine yS (oj hn_g3 hn_g6) ?_
    · have h0' := of_decide_eq_true h0
      omega
    refine yG (oj hn_g3 hn_g6) ?_
    refine yF (oj hn_g3 hn_g6) (fun h1=>?_) fun h1=>?_
    · have h1' := of_decide_eq_true h1
      omega
    refine yG (oj hn_g3 hn_g6) ?_
    refine yC (oj hn_g3 hn_g6) (hu) ?_
    refine yG (oj hn_g3 hn_g6) ?_
    refine yW (oj hn_g3 hn_g6) ?_
    refine yS (oj hn_g3 hn_g6) ?_
    refine yG (oj hn_g3 hn_g6) ?_
    refine yT hC (oj hn_g3 hn_g6) ?_
    refine .tup ⟨.agg ?_, .c .nilI, trivial⟩
    show LeRL _ (rdc (rd (partQ f s j))) _
    exact lerl_rd
end Go.Proofs.YtcoflhkcpnoaaaaGreatDoor
