/- Texts of one proof, laid one behind the other by a program (merge.py): Hvy, AiCopy, Rep1, UAwk, Law17, Glue5, Unc6. -/
import Derived.Test.YtmfmnmkipjpjhaaGreatDoorV26
import Derived.Test.YtmfmnmkipjpjhaaGreatDoorV18
import Derived.Test.YtmfmnmkipjpjhaaGreatDoorV03
import Derived.Test.YtmfmnmkipjpjhaaGreatDoorV15
import Derived.Test.YtmfmnmkipjpjhaaGreatDoorV12
import Derived.Test.YtmfmnmkipjpjhaaGreatDoorV23
import Derived.Test.YtmfmnmkipjpjhaaGreatDoorV19
import Derived.Test.YtmfmnmkipjpjhaaGreatDoorCards
import Derived.Test.YtmfmnmkipjpjhaaGreatDoorTie
import Derived.Deep.DeepHandedRow
import Derived.Lib.LaidTab
set_option linter.unusedSimpArgs false
set_option linter.unusedVariables false
/- The laws on uncertain: heavy. -/
namespace Go.PN
open Go.AI
def hvA (f : FM) (s : List SD) : Bool := (decide (f.vars > 6) && decide (f.vars ≤ 24)) || ((decide ((f.nodes.length : Int) > 14) && decide ((f.nodes.length : Int) ≤ 128)) || (decide ((f.nodes.length : Int) > 300) || decide ((s.length : Int) > 30)))
def bigS (y : SD) : Bool := decide ((y.lo.num.length : Int) > 2) || (decide ((y.lo.den.length : Int) > 2) || (decide ((y.hi.num.length : Int) > 2) || decide ((y.hi.den.length : Int) > 2)))
def argTo (f : FM) : Nat → Nat
  | 0 => 0
  | k + 1 => argTo f k + (f.nodes.getD k fn0).args.length
def heavyB (f : FM) (s : List SD) : Bool := hvA f s || (s.any bigS || decide ((argTo f f.nodes.length : Int) > 60))
end Go.PN
namespace Go.Proofs.YtmfmnmkipjpjhaaGreatDoor
open Go.AI Go.PN
attribute [local irreducible] aw Fa Fh DrK
theorem argTo_le {f : FM} (ha : ArgsOk f) : ∀ k, argTo f k ≤ 1099511627776 * k
  | 0 => Nat.le_refl _
  | k + 1 => by
    have h1 := argTo_le ha k
    have h2 := ha.at k
    rw [argTo]; omega
set_option maxRecDepth 100000 in
set_option maxHeartbeats 6400000 in
theorem heavy_fa (f : FM) (s : List SD) (hn : f.nodes.length ≤ 1099511627776) (ha : ArgsOk f) (hl : s.length ≤ 1099511627776) (hlw : ∀ y ∈ s, y.lo.num.length ≤ 1099511627776 ∧ y.lo.den.length ≤ 1099511627776 ∧ y.hi.num.length ≤ 1099511627776 ∧ y.hi.den.length ≤ 1099511627776) :
    Fa Tryz.prog 11 [.agg (fmc false f), .c (sps false s)] (.c (.bool (heavyB f s))) := by
  have hH : hvA f s = true → heavyB f s = true := fun h => by unfold heavyB; rw [h]; rfl
  have hH2 : hvA f s = false → heavyB f s = (s.any bigS || decide ((argTo f f.nodes.length : Int) > 60)) := fun h => by unfold heavyB; rw [h]; rfl
  refine fa_of_body Tryz.func11 rfl rfl (by simp [Tryz.ntmps11]) fun C hC => ?_
  simp only [initS, Nat.reduceAdd]
  apply aw_seq
  apply aw_region
  refine xB fun g2 hn_g2=>?_
  refine yH hn_g2 ?_
  apply aw_seq
  refine aw_cut (fun _ : Unit => [(1, .c (sps false s)), (2, .c (.optr g2 0))]) (fun _ => [(g2, .cells 24 3 (ofL (fmc false f)))]) (fun _ => hvA f s = false) ?_ ?_
  · refine yG hn_g2 ?_
    refine aw_split 13 (zE hn_g2) (fun a1 => ?_) (fun a1 => ?_) <;> refine yS hn_g2 ?_
    · refine yG hn_g2 ?_
      refine aw_split 18 (zE hn_g2) (fun a2 => ?_) (fun a2 => ?_) <;> refine yS hn_g2 ?_
      · skip
        rw [hH (by unfold hvA; rw [a1, a2]; simp)]
        refine yG hn_g2 ?_
        refine yP hn_g2 ?_
        refine yG hn_g2 ?_
        refine yT hC hn_g2 ?_
        exact .one (.c (.bool _))
      · skip
        refine yG hn_g2 ?_
        refine aw_split 23 (zE hn_g2) (fun b1 => ?_) (fun b1 => ?_) <;> refine yS hn_g2 ?_
        · refine yG hn_g2 ?_
          refine aw_split 30 (zE hn_g2) (fun b2 => ?_) (fun b2 => ?_) <;> refine yS hn_g2 ?_
          · skip
            rw [hH (by unfold hvA; rw [a1, a2, b1, b2]; simp)]
            refine yG hn_g2 ?_
            refine yP hn_g2 ?_
            refine yG hn_g2 ?_
            refine yT hC hn_g2 ?_
            exact .one (.c (.bool _))
          · skip
            refine yG hn_g2 ?_
            refine aw_split 36 (zE hn_g2) (fun c1 => ?_) (fun c1 => ?_) <;> refine yS hn_g2 ?_
            · skip
              rw [hH (by unfold hvA; rw [a1, a2, b1, b2, c1]; simp)]
              refine yG hn_g2 ?_
              refine yP hn_g2 ?_
              refine yG hn_g2 ?_
              refine yT hC hn_g2 ?_
              exact .one (.c (.bool _))
            refine yG hn_g2 ?_
            refine yF hn_g2 (fun d1=>?_) fun d1=>?_
            · skip
              rw [hH (by unfold hvA; rw [a1, a2, b1, b2, c1, d1]; simp)]
              refine yG hn_g2 ?_
              refine yT hC hn_g2 ?_
              exact .one (.c (.bool _))
            · refine yG hn_g2 ?_
              exact aw_stop ⟨(), (zB hn_g2), zZ, by unfold hvA; rw [a1, a2, b1, b2, c1, d1]; simp⟩
        · skip
          refine yG hn_g2 ?_
          refine aw_split 36 (zE hn_g2) (fun c1 => ?_) (fun c1 => ?_) <;> refine yS hn_g2 ?_
          · skip
            rw [hH (by unfold hvA; rw [a1, a2, b1, c1]; simp)]
            refine yG hn_g2 ?_
            refine yP hn_g2 ?_
            refine yG hn_g2 ?_
            refine yT hC hn_g2 ?_
            exact .one (.c (.bool _))
          refine yG hn_g2 ?_
          refine yF hn_g2 (fun d1=>?_) fun d1=>?_
          · skip
            rw [hH (by unfold hvA; rw [a1, a2, b1, c1, d1]; simp)]
            refine yG hn_g2 ?_
            refine yT hC hn_g2 ?_
            exact .one (.c (.bool _))
          · refine yG hn_g2 ?_
            exact aw_stop ⟨(), (zB hn_g2), zZ, by unfold hvA; rw [a1, a2, b1, c1, d1]; simp⟩
    · skip
      refine yG hn_g2 ?_
      refine aw_split 23 (zE hn_g2) (fun b1 => ?_) (fun b1 => ?_) <;> refine yS hn_g2 ?_
      · refine yG hn_g2 ?_
        refine aw_split 30 (zE hn_g2) (fun b2 => ?_) (fun b2 => ?_) <;> refine yS hn_g2 ?_
        · skip
          rw [hH (by unfold hvA; rw [a1, b1, b2]; simp)]
          refine yG hn_g2 ?_
          refine yP hn_g2 ?_
          refine yG hn_g2 ?_
          refine yT hC hn_g2 ?_
          exact .one (.c (.bool _))
        · skip
          refine yG hn_g2 ?_
          refine aw_split 36 (zE hn_g2) (fun c1 => ?_) (fun c1 => ?_) <;> refine yS hn_g2 ?_
          · skip
            rw [hH (by unfold hvA; rw [a1, b1, b2, c1]; simp)]
            refine yG hn_g2 ?_
            refine yP hn_g2 ?_
            refine yG hn_g2 ?_
            refine yT hC hn_g2 ?_
            exact .one (.c (.bool _))
          refine yG hn_g2 ?_
          refine yF hn_g2 (fun d1=>?_) fun d1=>?_
          · skip
            rw [hH (by unfold hvA; rw [a1, b1, b2, c1, d1]; simp)]
            refine yG hn_g2 ?_
            refine yT hC hn_g2 ?_
            exact .one (.c (.bool _))
          · refine yG hn_g2 ?_
            exact aw_stop ⟨(), (zB hn_g2), zZ, by unfold hvA; rw [a1, b1, b2, c1, d1]; simp⟩
      · skip
        refine yG hn_g2 ?_
        refine aw_split 36 (zE hn_g2) (fun c1 => ?_) (fun c1 => ?_) <;> refine yS hn_g2 ?_
        · skip
          rw [hH (by unfold hvA; rw [a1, b1, c1]; simp)]
          refine yG hn_g2 ?_
          refine yP hn_g2 ?_
          refine yG hn_g2 ?_
          refine yT hC hn_g2 ?_
          exact .one (.c (.bool _))
        refine yG hn_g2 ?_
        refine yF hn_g2 (fun d1=>?_) fun d1=>?_
        · skip
          rw [hH (by unfold hvA; rw [a1, b1, c1, d1]; simp)]
          refine yG hn_g2 ?_
          refine yT hC hn_g2 ?_
          exact .one (.c (.bool _))
        · refine yG hn_g2 ?_
          exact aw_stop ⟨(), (zB hn_g2), zZ, by unfold hvA; rw [a1, b1, c1, d1]; simp⟩
  rintro _ hA
  have hE := hH2 hA
  have hn300 : f.nodes.length ≤ 300 := by
    unfold hvA at hA
    simp only [Bool.or_eq_false_iff, decide_eq_false_iff_not] at hA
    omega
  have hs30 : s.length ≤ 30 := by
    unfold hvA at hA
    simp only [Bool.or_eq_false_iff, decide_eq_false_iff_not] at hA
    omega
  rw [hE]
  refine yG hn_g2 ?_
  refine aw_lp (fun k : Nat => [(1, .c (sps false s)), (5, .c (.int .i64 (argTo f k))), (42, .c (fns false f.nodes)), (43, .c (.int .i64 f.nodes.length)), (44, .c (.int .i64 k))]) (fun _ => []) (fun k => k ≤ f.nodes.length) (fun k => f.nodes.length - k) 0 (zB hn_g2) (List.nil_sublist _) (Nat.zero_le _) ?_
  rintro k hk
  have hak := argTo_le ha k
  refine yG hn_g2 ?_
  refine yF hn_g2 (fun h1=>?_) fun h1=>?_
  · have h1' : k < f.nodes.length := by have := of_decide_eq_true h1; omega
    have hst : argTo f (k + 1) = argTo f k + (f.nodes.getD k fn0).args.length := rfl
    have hal := ha.at k
    refine yG hn_g2 ?_
    refine yA hn_g2 fun g7 hn_g7=>?_
    generalize f.nodes.getD k fn0 = y at *
    refine yG (oj hn_g2 hn_g7) ?_
    refine yW (oj hn_g2 hn_g7) ?_
    refine yS (oj hn_g2 hn_g7) ?_
    refine aw_conv1 (f' := ofL [.int .i64 y.kind, .int .i64 y.k, is true y.args]) (fun j hj => by match j, hj with | 0, _ => rfl | 1, _ => rfl | 2, _ => rfl) ?_
    refine yG (oj hn_g2 hn_g7) ?_
    rw [show ((argTo f k : Nat) : Int) + ((y.args.length : Nat) : Int) = ((argTo f (k + 1) : Nat) : Int) from by rw [hst]; omega]
    exact aw_stop ⟨k + 1, by omega, (zB (oj hn_g2 hn_g7)), List.nil_sublist _, by omega⟩
  have h1' : k = f.nodes.length := by have := of_decide_eq_false h1; omega
  subst h1'
  generalize argTo f f.nodes.length = M at *
  refine yG hn_g2 ?_
  refine aw_lp (fun k : Nat => [(5, .c (.int .i64 M)), (54, .c (sps false s)), (55, .c (.int .i64 s.length)), (56, .c (.int .i64 k))]) (fun _ => []) (fun k => k ≤ s.length ∧ (s.take k).any bigS = false) (fun k => s.length - k) 0 (zB hn_g2) (List.nil_sublist _) ⟨Nat.zero_le _, rfl⟩ ?_
  rintro k ⟨hk, hok⟩
  refine yG hn_g2 ?_
  refine yF hn_g2 (fun h2=>?_) fun h2=>?_
  · have h2' : k < s.length := by have := of_decide_eq_true h2; omega
    have hst : (s.take (k + 1)).any bigS = bigS (s.getD k sd0) := by
      rw [List.take_succ_eq_append_getElem h2', List.any_append, hok, List.getD_eq_getElem?_getD, List.getElem?_eq_getElem h2']
      simp
    have hbad : bigS (s.getD k sd0) = true → (s.any bigS || decide ((M : Int) > 60)) = true := fun h => by
      rw [List.any_eq_true.2 ⟨s.getD k sd0, by rw [List.getD_eq_getElem?_getD, List.getElem?_eq_getElem h2']; exact List.getElem_mem _, h⟩]; rfl
    obtain ⟨l1, l2, l3, l4⟩ := hlw (s.getD k sd0) (by rw [List.getD_eq_getElem?_getD, List.getElem?_eq_getElem h2']; exact List.getElem_mem _)
    refine yG hn_g2 ?_
    refine yA hn_g2 fun g9 hn_g9=>?_
    generalize s.getD k sd0 = y at *
    have hbd : bigS y = (decide ((y.lo.num.length : Int) > 2) || (decide ((y.lo.den.length : Int) > 2) || (decide ((y.hi.num.length : Int) > 2) || decide ((y.hi.den.length : Int) > 2)))) := rfl
    refine yG (oj hn_g2 hn_g9) ?_
    refine yW (oj hn_g2 hn_g9) ?_
    refine yS (oj hn_g2 hn_g9) ?_
    refine aw_conv1 (f' := ofL (spc y)) (fun j hj => by match j, hj with | 0, _ => rfl | 1, _ => rfl | 2, _ => rfl | 3, _ => rfl | 4, _ => rfl | 5, _ => rfl) ?_
    refine yG (oj hn_g2 hn_g9) ?_
    refine aw_split 65 (zE (oj hn_g2 hn_g9)) (fun e1 => ?_) (fun e1 => ?_) <;> refine yS (oj hn_g2 hn_g9) ?_
    · rw [hbad (by rw [hbd, e1]; rfl)]
      refine yG (oj hn_g2 hn_g9) ?_
      refine yP (oj hn_g2 hn_g9) ?_
      refine yG (oj hn_g2 hn_g9) ?_
      refine yT hC (oj hn_g2 hn_g9) ?_
      exact .one (.c (.bool _))
    refine yG (oj hn_g2 hn_g9) ?_
    refine aw_split 72 (zE (oj hn_g2 hn_g9)) (fun e2 => ?_) (fun e2 => ?_) <;> refine yS (oj hn_g2 hn_g9) ?_
    · rw [hbad (by rw [hbd, e1, e2]; rfl)]
      refine yG (oj hn_g2 hn_g9) ?_
      refine yP (oj hn_g2 hn_g9) ?_
      refine yG (oj hn_g2 hn_g9) ?_
      refine yT hC (oj hn_g2 hn_g9) ?_
      exact .one (.c (.bool _))
    refine yG (oj hn_g2 hn_g9) ?_
    refine aw_split 79 (zE (oj hn_g2 hn_g9)) (fun e3 => ?_) (fun e3 => ?_) <;> refine yS (oj hn_g2 hn_g9) ?_
    · rw [hbad (by rw [hbd, e1, e2, e3]; rfl)]
      refine yG (oj hn_g2 hn_g9) ?_
      refine yP (oj hn_g2 hn_g9) ?_
      refine yG (oj hn_g2 hn_g9) ?_
      refine yT hC (oj hn_g2 hn_g9) ?_
      exact .one (.c (.bool _))
    refine yG (oj hn_g2 hn_g9) ?_
    refine yF (oj hn_g2 hn_g9) (fun e4=>?_) fun e4=>?_
    · rw [hbad (by rw [hbd, e1, e2, e3, e4]; rfl)]
      refine yG (oj hn_g2 hn_g9) ?_
      refine yT hC (oj hn_g2 hn_g9) ?_
      exact .one (.c (.bool _))
    · refine yG (oj hn_g2 hn_g9) ?_
      exact aw_stop ⟨k + 1, by omega, (zB (oj hn_g2 hn_g9)), List.nil_sublist _, by omega, by rw [hst, hbd, e1, e2, e3, e4]; rfl⟩
  · have h2' : k = s.length := by have := of_decide_eq_false h2; omega
    subst h2'
    rw [List.take_length] at hok
    rw [hok, Bool.false_or]
    refine yG hn_g2 ?_
    refine yT hC hn_g2 ?_
    exact .one (.c (.bool _))
end Go.Proofs.YtmfmnmkipjpjhaaGreatDoor

/- copy into a slice of one's own. -/
namespace Go.AI
section
variable {E : Env} {K : List It} {σ σ' : Sl} {h : Heap} {all rest l : List Oper} {o : Oper}
end
end Go.AI

/- rational.Make, bits.Mul of 1, slices.Repeat of one fraction. -/
namespace Go.AI
end Go.AI
namespace Go.PN
open Go.AI
end Go.PN
namespace Go.Proofs.YtmfmnmkipjpjhaaGreatDoor
open Go.AI Go.PN
attribute [local irreducible] aw Fa Fh DrK
set_option maxHeartbeats 1600000 in
theorem rmake_fa (n d : Int) (h0 : -9223372036854775808 ≤ n) (h1 : n ≤ 9223372036854775807) (h2 : -9223372036854775808 ≤ d) (h3 : d ≤ 9223372036854775807) (hd : d ≠ 0) :
    Fa Tryz.prog 37 [.c (.int .i64 n), .c (.int .i64 d)] (.tup [.agg (rdc (rd ((n : Rat) / (d : Rat)))), .c .nilI]) := by
  have l1 := words_small (n := n.natAbs) (by omega)
  have l2 := words_small (n := d.natAbs) (by omega)
  have z := ieq_f hd
  refine fa_of_body Tryz.func37 rfl rfl (by simp [Tryz.ntmps37]) fun C hC => ?_
  simp only [initS, Nat.reduceAdd]
  refine yG z ?_
  refine yA z fun g4 hn_g4=>?_
  refine yG (oj z hn_g4) ?_
  refine yN (oj z hn_g4) ?_
  refine yG (oj z hn_g4) ?_
  refine yC (oj z hn_g4) (rsize_fa n h0 h1) ?_
  refine yG (oj z hn_g4) ?_
  refine yC (oj z hn_g4) (rsize_fa d h2 h3) ?_
  refine yG (oj z hn_g4) ?_
  refine yC (oj z hn_g4) (rform_fa _ n.natAbs d.natAbs ?_ ?_ ?_) ?_
  · omega
  · omega
  · omega
  rw [sq_make]
  refine yG (oj z hn_g4) ?_
  refine yW (oj z hn_g4) ?_
  refine yS (oj z hn_g4) ?_
  refine yG (oj z hn_g4) ?_
  refine yT hC (oj z hn_g4) ?_
  exact .tup ⟨.agg lerl_rd, .c .nilI, trivial⟩
end Go.Proofs.YtmfmnmkipjpjhaaGreatDoor

/- faultlinelaw44.awake. -/
namespace Go.Proofs.YtmfmnmkipjpjhaaGreatDoor
open Go.AI Go.PN
attribute [local irreducible] aw Fa Fh DrK
theorem uF_args : ArgsOk uF := by
  intro x hx
  simp only [List.mem_singleton] at hx
  subst hx
  show 2 ≤ 1099511627776
  omega
theorem uS_wf : ∀ y ∈ uS, y.wf 4 := by
  intro y hy
  have h0 : (rd (0 : Rat)).wf 4 := rd_wf (fits_mono fits_zero (by omega))
  have h1 : (rd (1 / 2 : Rat)).wf 4 := rd_wf (fits_mono (L := 1) ⟨by decide +kernel, by decide +kernel⟩ (by omega))
  have h2 : (rd (1 / 4 : Rat)).wf 4 := rd_wf (fits_mono (L := 1) ⟨by decide +kernel, by decide +kernel⟩ (by omega))
  simp only [List.mem_cons, List.not_mem_nil, or_false] at hy
  rcases hy with rfl | rfl
  · exact ⟨h0, h1⟩
  · exact ⟨h2, h2⟩
set_option maxRecDepth 100000 in
set_option maxHeartbeats 6400000 in
theorem awake44_fa : Fa Tryz.prog 10 [] (.c (.bool true)) := by
  have m1 := rmake_fa 1 2 (by omega) (by omega) (by omega) (by omega) (by omega)
  have m2 := rmake_fa 1 4 (by omega) (by omega) (by omega) (by omega) (by omega)
  rw [show (((1 : Int) : Rat) / ((2 : Int) : Rat)) = 1 / 2 from by decide +kernel] at m1
  rw [show (((1 : Int) : Rat) / ((4 : Int) : Rat)) = 1 / 4 from by decide +kernel] at m2
  have u1 := umono_fa uF uS (by decide) uF_args (by decide) (by decide) uS_wf (by decide) (fun _ => by decide)
  have u2 := uPart_fa uF uS 0 (by decide) uF_args (by decide) (by decide) uS_wf (by decide) (fun _ => by decide)
  rw [uMonC, uMonS] at u1
  rw [uPartV.1, uPartV.2] at u2
  rw [show errA 0 = CV.nilI from rfl] at u1 u2
  have t1 := sptext_fa ⟨rd (1 / 4), rd (5 / 8)⟩ ⟨rd_wf (fits_mono (L := 1) ⟨by decide +kernel, by decide +kernel⟩ (by omega)), rd_wf (fits_mono (L := 1) ⟨by decide +kernel, by decide +kernel⟩ (by omega))⟩
  rw [uTxt] at t1
  have t2 := rtext_fa (rd (3 / 8)) (rd_wf (fits_mono (L := 1) ⟨by decide +kernel, by decide +kernel⟩ (by omega)))
  rw [uTxt38] at t2
  have q1 : strEq (sB [49, 47, 52, 46, 46, 53, 47, 56]) ⟨#[49, 47, 52, 46, 46, 53, 47, 56]⟩ = true := strEq_self _
  have q2 : strEq (sB [51, 47, 56]) ⟨#[51, 47, 56]⟩ = true := strEq_self _
  refine fa_of_body Tryz.func10 rfl rfl (by simp [Tryz.ntmps10]) fun C hC => ?_
  simp only [initS, Nat.reduceAdd]
  refine yG (oj q1 q2) ?_
  refine yC (oj q1 q2) (m1) ?_
  refine yG (oj q1 q2) ?_
  refine yA (oj q1 q2) fun g1 hn_g1=>?_
  refine yG (oj q1 (oj q2 hn_g1)) ?_
  refine yW (oj q1 (oj q2 hn_g1)) ?_
  refine yS (oj q1 (oj q2 hn_g1)) ?_
  refine yG (oj q1 (oj q2 hn_g1)) ?_
  refine yC (oj q1 (oj q2 hn_g1)) (m2) ?_
  refine yG (oj q1 (oj q2 hn_g1)) ?_
  refine yA (oj q1 (oj q2 hn_g1)) fun g3 hn_g3=>?_
  refine yG (oj q1 (oj q2 (oj hn_g1 hn_g3))) ?_
  refine yW (oj q1 (oj q2 (oj hn_g1 hn_g3))) ?_
  refine yS (oj q1 (oj q2 (oj hn_g1 hn_g3))) ?_
  refine yG (oj q1 (oj q2 (oj hn_g1 hn_g3))) ?_
  refine aw_buildSlice (xs := [.const (.int .i64 0), .const (.int .i64 1)]) (cells := [.int .i64 0, .int .i64 1]) rfl rfl rfl (zE (oj q1 (oj q2 (oj hn_g1 hn_g3)))) (by refine yS (oj q1 (oj q2 (oj hn_g1 hn_g3))) ?_; rfl) rfl (by omega) (by omega) (by intro x hx; simp only [List.mem_cons, List.not_mem_nil, or_false] at hx; rcases hx with rfl | rfl <;> exact ⟨rfl, rfl, rfl⟩) rfl fun g19 hn_g19 => ?_
  replace hn_g19 := Heap.ne_of hn_g19
  dsimp only [Heap.ne] at hn_g19
  refine yS (oj q1 (oj q2 (oj hn_g1 (oj hn_g3 hn_g19)))) ?_
  refine aw_frzT (t := 19) (isF [0, 1]) (zE (oj q1 (oj q2 (oj hn_g1 (oj hn_g3 hn_g19))))) (zE (oj q1 (oj q2 (oj hn_g1 (oj hn_g3 hn_g19))))) (by omega) (hC g19) (fun j hj => by match j, hj with | 0, _ => rfl | 1, _ => rfl) rfl (zE (oj q1 (oj q2 (oj hn_g1 (oj hn_g3 hn_g19))))) ?_
  refine yS (oj q1 (oj q2 (oj hn_g1 (oj hn_g3 hn_g19)))) ?_
  refine yG (oj q1 (oj q2 (oj hn_g1 (oj hn_g3 hn_g19)))) ?_
  refine aw_buildSlice (xs := [.tmp 20]) (cells := [.int .i64 3, .int .i64 0, is true [0, 1]]) rfl rfl rfl (zE (oj q1 (oj q2 (oj hn_g1 (oj hn_g3 hn_g19))))) (by refine yS (oj q1 (oj q2 (oj hn_g1 (oj hn_g3 hn_g19)))) ?_; rfl) rfl (by omega) (by omega) (by intro x hx; simp only [List.mem_singleton] at hx; subst hx; exact ⟨rfl, rfl, rfl⟩) rfl fun g21 hn_g21 => ?_
  replace hn_g21 := Heap.ne_of hn_g21
  dsimp only [Heap.ne] at hn_g21
  refine yS (oj q1 (oj q2 (oj hn_g1 (oj hn_g3 (oj hn_g19 hn_g21))))) ?_
  refine aw_frzT (t := 21) (fnsF uF.nodes) (zE (oj q1 (oj q2 (oj hn_g1 (oj hn_g3 (oj hn_g19 hn_g21)))))) (zE (oj q1 (oj q2 (oj hn_g1 (oj hn_g3 (oj hn_g19 hn_g21)))))) (by omega) (hC g21) (fun j hj => by match j, hj with | 0, _ => rfl | 1, _ => rfl | 2, _ => rfl) rfl (zE (oj q1 (oj q2 (oj hn_g1 (oj hn_g3 (oj hn_g19 hn_g21)))))) ?_
  refine yS (oj q1 (oj q2 (oj hn_g1 (oj hn_g3 (oj hn_g19 hn_g21))))) ?_
  refine yG (oj q1 (oj q2 (oj hn_g1 (oj hn_g3 (oj hn_g19 hn_g21))))) ?_
  refine yA (oj q1 (oj q2 (oj hn_g1 (oj hn_g3 (oj hn_g19 hn_g21))))) fun g5 hn_g5=>?_
  refine yG (oj q1 (oj q2 (oj hn_g1 (oj hn_g3 (oj hn_g19 (oj hn_g21 hn_g5)))))) ?_
  refine yW (oj q1 (oj q2 (oj hn_g1 (oj hn_g3 (oj hn_g19 (oj hn_g21 hn_g5)))))) ?_
  refine yS (oj q1 (oj q2 (oj hn_g1 (oj hn_g3 (oj hn_g19 (oj hn_g21 hn_g5)))))) ?_
  refine yG (oj q1 (oj q2 (oj hn_g1 (oj hn_g3 (oj hn_g19 (oj hn_g21 hn_g5)))))) ?_
  refine aw_buildSlice (xs := [.tmp 24, .tmp 27]) (cells := [.bool false, .nils, .nils, .bool (rd (1 / 2)).neg, ws true (rd (1 / 2)).num, ws true (rd (1 / 2)).den, .bool (rd (1 / 4)).neg, ws true (rd (1 / 4)).num, ws true (rd (1 / 4)).den, .bool (rd (1 / 4)).neg, ws true (rd (1 / 4)).num, ws true (rd (1 / 4)).den]) rfl rfl rfl (zE (oj q1 (oj q2 (oj hn_g1 (oj hn_g3 (oj hn_g19 (oj hn_g21 hn_g5))))))) (by refine yS (oj q1 (oj q2 (oj hn_g1 (oj hn_g3 (oj hn_g19 (oj hn_g21 hn_g5)))))) ?_; rfl) rfl (by omega) (by omega) (by intro x hx; simp only [List.mem_cons, List.not_mem_nil, or_false] at hx; rcases hx with rfl | rfl <;> exact ⟨rfl, rfl, rfl⟩) rfl fun g28 hn_g28 => ?_
  replace hn_g28 := Heap.ne_of hn_g28
  dsimp only [Heap.ne] at hn_g28
  refine yS (oj q1 (oj q2 (oj hn_g1 (oj hn_g3 (oj hn_g19 (oj hn_g21 (oj hn_g5 hn_g28))))))) ?_
  refine aw_convR (f' := spsF uS) (fun j hj S w u hr => by match j, hj with | 0, _ => exact zero_rd 0 (by omega) S w u hr | 1, _ => exact zero_rd 1 (by omega) S w u hr | 2, _ => exact zero_rd 2 (by omega) S w u hr | 3, _ => exact hr | 4, _ => exact hr | 5, _ => exact hr | 6, _ => exact hr | 7, _ => exact hr | 8, _ => exact hr | 9, _ => exact hr | 10, _ => exact hr | 11, _ => exact hr) ?_
  refine aw_frzT (t := 28) (spsF uS) (zE (oj q1 (oj q2 (oj hn_g1 (oj hn_g3 (oj hn_g19 (oj hn_g21 (oj hn_g5 hn_g28)))))))) (zE (oj q1 (oj q2 (oj hn_g1 (oj hn_g3 (oj hn_g19 (oj hn_g21 (oj hn_g5 hn_g28)))))))) (by omega) (hC g28) (fun j hj => by rw [Nat.zero_add]) rfl (zE (oj q1 (oj q2 (oj hn_g1 (oj hn_g3 (oj hn_g19 (oj hn_g21 (oj hn_g5 hn_g28)))))))) ?_
  refine yS (oj q1 (oj q2 (oj hn_g1 (oj hn_g3 (oj hn_g19 (oj hn_g21 (oj hn_g5 hn_g28))))))) ?_
  refine yG (oj q1 (oj q2 (oj hn_g1 (oj hn_g3 (oj hn_g19 (oj hn_g21 (oj hn_g5 hn_g28))))))) ?_
  refine yC (oj q1 (oj q2 (oj hn_g1 (oj hn_g3 (oj hn_g19 (oj hn_g21 (oj hn_g5 hn_g28))))))) (u1) ?_
  refine yG (oj q1 (oj q2 (oj hn_g1 (oj hn_g3 (oj hn_g19 (oj hn_g21 (oj hn_g5 hn_g28))))))) ?_
  refine yA (oj q1 (oj q2 (oj hn_g1 (oj hn_g3 (oj hn_g19 (oj hn_g21 (oj hn_g5 hn_g28))))))) fun g7 hn_g7=>?_
  refine yG (oj q1 (oj q2 (oj hn_g1 (oj hn_g3 (oj hn_g19 (oj hn_g21 (oj hn_g5 (oj hn_g28 hn_g7)))))))) ?_
  refine yW (oj q1 (oj q2 (oj hn_g1 (oj hn_g3 (oj hn_g19 (oj hn_g21 (oj hn_g5 (oj hn_g28 hn_g7)))))))) ?_
  refine yS (oj q1 (oj q2 (oj hn_g1 (oj hn_g3 (oj hn_g19 (oj hn_g21 (oj hn_g5 (oj hn_g28 hn_g7)))))))) ?_
  refine aw_conv1 (f' := ofL (spc ⟨rd (1 / 4), rd (5 / 8)⟩)) (fun j hj => by match j, hj with | 0, _ => rfl | 1, _ => rfl | 2, _ => rfl | 3, _ => rfl | 4, _ => rfl | 5, _ => rfl) ?_
  refine yG (oj q1 (oj q2 (oj hn_g1 (oj hn_g3 (oj hn_g19 (oj hn_g21 (oj hn_g5 (oj hn_g28 hn_g7)))))))) ?_
  refine yC (oj q1 (oj q2 (oj hn_g1 (oj hn_g3 (oj hn_g19 (oj hn_g21 (oj hn_g5 (oj hn_g28 hn_g7)))))))) (u2) ?_
  refine yG (oj q1 (oj q2 (oj hn_g1 (oj hn_g3 (oj hn_g19 (oj hn_g21 (oj hn_g5 (oj hn_g28 hn_g7)))))))) ?_
  refine yA (oj q1 (oj q2 (oj hn_g1 (oj hn_g3 (oj hn_g19 (oj hn_g21 (oj hn_g5 (oj hn_g28 hn_g7)))))))) fun g9 hn_g9=>?_
  refine yG (oj q1 (oj q2 (oj hn_g1 (oj hn_g3 (oj hn_g19 (oj hn_g21 (oj hn_g5 (oj hn_g28 (oj hn_g7 hn_g9))))))))) ?_
  refine yW (oj q1 (oj q2 (oj hn_g1 (oj hn_g3 (oj hn_g19 (oj hn_g21 (oj hn_g5 (oj hn_g28 (oj hn_g7 hn_g9))))))))) ?_
  refine yS (oj q1 (oj q2 (oj hn_g1 (oj hn_g3 (oj hn_g19 (oj hn_g21 (oj hn_g5 (oj hn_g28 (oj hn_g7 hn_g9))))))))) ?_
  refine yG (oj q1 (oj q2 (oj hn_g1 (oj hn_g3 (oj hn_g19 (oj hn_g21 (oj hn_g5 (oj hn_g28 (oj hn_g7 hn_g9))))))))) ?_
  refine yC (oj q1 (oj q2 (oj hn_g1 (oj hn_g3 (oj hn_g19 (oj hn_g21 (oj hn_g5 (oj hn_g28 (oj hn_g7 hn_g9))))))))) (t1) ?_
  refine yG (oj q1 (oj q2 (oj hn_g1 (oj hn_g3 (oj hn_g19 (oj hn_g21 (oj hn_g5 (oj hn_g28 (oj hn_g7 hn_g9))))))))) ?_
  refine yC (oj q1 (oj q2 (oj hn_g1 (oj hn_g3 (oj hn_g19 (oj hn_g21 (oj hn_g5 (oj hn_g28 (oj hn_g7 hn_g9))))))))) (t2) ?_
  refine yG (oj q1 (oj q2 (oj hn_g1 (oj hn_g3 (oj hn_g19 (oj hn_g21 (oj hn_g5 (oj hn_g28 (oj hn_g7 hn_g9))))))))) ?_
  refine yT hC (oj q1 (oj q2 (oj hn_g1 (oj hn_g3 (oj hn_g19 (oj hn_g21 (oj hn_g5 (oj hn_g28 (oj hn_g7 hn_g9))))))))) ?_
  exact .one (.c (.bool _))
end Go.Proofs.YtmfmnmkipjpjhaaGreatDoor

/- The law UncertainMonotone. -/
namespace Go.Proofs.YtmfmnmkipjpjhaaGreatDoor
open Go.AI Go.PN
attribute [local irreducible] aw Fa Fh DrK
/-- Words that are words. -/
def SWordsOk (s : List SD) : Prop := ∀ y ∈ s, (∀ x ∈ y.lo.num, x < 4294967296) ∧ (∀ x ∈ y.lo.den, x < 4294967296) ∧ (∀ x ∈ y.hi.num, x < 4294967296) ∧ (∀ x ∈ y.hi.den, x < 4294967296)
def SLensOk (s : List SD) : Prop := ∀ y ∈ s, y.lo.num.length ≤ 1099511627776 ∧ y.lo.den.length ≤ 1099511627776 ∧ y.hi.num.length ≤ 1099511627776 ∧ y.hi.den.length ≤ 1099511627776
theorem light {f : FM} {s : List SD} (hw : SWordsOk s) (h : heavyB f s = false) : (∀ y ∈ s, y.wf 4) ∧ (fcode f = 0 → f.vars ≤ 6) := by
  unfold heavyB at h
  simp only [Bool.or_eq_false_iff] at h
  obtain ⟨hA, hb, _⟩ := h
  refine ⟨fun y hy => ?_, fun hc => ?_⟩
  · have := List.any_eq_false.1 hb y hy
    unfold bigS at this
    simp only [Bool.or_eq_true, decide_eq_true_eq, not_or] at this
    obtain ⟨w1, w2, w3, w4⟩ := hw y hy
    exact ⟨⟨w1, w2, by omega, by omega⟩, ⟨w3, w4, by omega, by omega⟩⟩
  · have v24 := (fr_ok hc).v24
    unfold hvA at hA
    simp only [Bool.or_eq_false_iff, Bool.and_eq_false_iff, decide_eq_false_iff_not] at hA
    omega
theorem umonS_wf {f : FM} {s : List SD} (h : umonC f s = 0 → UOk f s) : (umonS f s).lo.wf 4000 ∧ (umonS f s).hi.wf 4000 := by
  unfold umonS
  split
  · rename_i hc
    exact ⟨rd_wf (topQ_fits (h hc) _), rd_wf (topQ_fits (h hc) _)⟩
  · exact ⟨rd_wf (fits_mono fits_zero (by omega)), rd_wf (fits_mono fits_zero (by omega))⟩
end Go.Proofs.YtmfmnmkipjpjhaaGreatDoor

/- Arguments that are spans; a world that holds the listed tables. -/
namespace Go.Proofs.YtmfmnmkipjpjhaaGreatDoor
open Go.AI Go.PN Go.ChangeShapes Go.WideShapes Go.RowKit
theorem rdr_rat2 : Rdr Tryz.prog 30 (fun r : RD => [CV.bool r.neg, ws true r.num, ws true r.den]) (fun r n => (r.num.length ≤ n ∧ ∀ x ∈ r.num, x < 4294967296) ∧ (r.den.length ≤ n ∧ ∀ x ∈ r.den, x < 4294967296)) := by
  have r := rdr_struct3 Tryz.underlying30 (s0 := 1) (s1 := 1) (s2 := 1) (by kernel_rfl) (by kernel_rfl) (by kernel_rfl) (by kernel_rfl) rfl rfl rfl (rdr_bool Tryz.underlying4) rdr_words rdr_words (fun _ _ _ h _ => h) (fun _ m n => wok_mono m n) (fun _ m n => wok_mono m n)
  exact r.to (fun y => ⟨y.1, y.2.1, y.2.2⟩) (fun _ => rfl) (fun _ _ h => ⟨h.2.1, h.2.2⟩)
def SB (y : SD) (n : Nat) : Prop := ((y.lo.num.length ≤ n ∧ ∀ x ∈ y.lo.num, x < 4294967296) ∧ (y.lo.den.length ≤ n ∧ ∀ x ∈ y.lo.den, x < 4294967296)) ∧ ((y.hi.num.length ≤ n ∧ ∀ x ∈ y.hi.num, x < 4294967296) ∧ (y.hi.den.length ≤ n ∧ ∀ x ∈ y.hi.den, x < 4294967296))
theorem SB.mono {y : SD} {m n : Nat} (h : SB y m) (hm : m ≤ n) : SB y n :=
  ⟨⟨wok_mono m n h.1.1 hm, wok_mono m n h.1.2 hm⟩, ⟨wok_mono m n h.2.1 hm, wok_mono m n h.2.2 hm⟩⟩
theorem rdr_span : Rdr Tryz.prog 32 (fun y : SD => spc y) SB := by
  have r := rdr_struct2 Tryz.underlying32 (s0 := 3) (s1 := 3) (by kernel_rfl) (by kernel_rfl) (by kernel_rfl) rfl rfl rdr_rat2 rdr_rat2 (fun _ m n h hm => ⟨wok_mono m n h.1 hm, wok_mono m n h.2 hm⟩) (fun _ m n h hm => ⟨wok_mono m n h.1 hm, wok_mono m n h.2 hm⟩)
  exact r.to (fun y => ⟨y.1, y.2⟩) (fun _ => rfl) (fun _ _ h => h)
theorem rdr_spans : Rdr Tryz.prog 25 (fun s : List SD => [sps false s]) (fun s n => s.length ≤ n ∧ ∀ y ∈ s, SB y n) :=
  (rdr_slice (B := SB) sd0 false Tryz.underlying25 (s := 6) (by kernel_rfl) (by omega) (fun _ _ _ h hm => h.mono hm) rdr_span).to id (fun _ => rfl) (fun _ _ h => h)
theorem swords_ok {s : List SD} {n : Nat} (h : ∀ y ∈ s, SB y n) : SWordsOk s := fun y hy => ⟨(h y hy).1.1.2, (h y hy).1.2.2, (h y hy).2.1.2, (h y hy).2.2.2⟩
theorem slens_ok {s : List SD} {n : Nat} (h : ∀ y ∈ s, SB y n) (hn : n ≤ 1099511627776) : SLensOk s := fun y hy => ⟨Nat.le_trans (h y hy).1.1.1 hn, Nat.le_trans (h y hy).1.2.1 hn, Nat.le_trans (h y hy).2.1.1 hn, Nat.le_trans (h y hy).2.2.1 hn⟩
/-- A block's cells, other ones. -/
def putCells (h : Array Obj) (g : Nat) (cs : Array Value) : Array Obj := h.modify g fun
  | .cells _ t frozen => .cells cs t frozen
  | o => o
def firstCells : Array Value := (Go.Pinned.utf8FirstZ.map fun (n : Nat) => Value.int .u8 (n : Int)).toArray
def acceptCells : Array Value := (([128, 191, 160, 191, 128, 159, 144, 191, 128, 143, 0, 0, 0, 0, 0, 0, 0, 0, 0, 0, 0, 0, 0, 0, 0, 0, 0, 0, 0, 0, 0, 0] : List Int).map fun n => Value.int .u8 n).toArray
/-- A WORLD FOR THE WITNESS: the settled one, the two tables holding what is listed. -/
noncomputable def laidWorld (os : Os) : World :=
  { World.holding Tryz.prog os ⟨#[], #[], []⟩ with heap := putCells (putCells (World.holding Tryz.prog os ⟨#[], #[], []⟩).heap 0 firstCells) 1 acceptCells }
end Go.Proofs.YtmfmnmkipjpjhaaGreatDoor

/- Worst of uncertain and of ref44. -/
namespace Go.PN
open Go.AI
theorem RD.abs_cases (r : RD) : r.abs = r.q ∨ r.abs = -r.q := by
  unfold RD.abs RD.q
  cases r.ps
  · exact .inl rfl
  · right
    rw [← sq_neg]
    rfl
theorem RD.abs_ge (r : RD) : 0 ≤ r.abs := by
  unfold RD.abs sq sgn
  rw [if_neg (by simp)]
  rw [← Rat.divInt_ofNat]
  exact Rat.divInt_nonneg (Int.natCast_nonneg _) (Int.natCast_nonneg _)
end Go.PN
namespace Go.Proofs.YtmfmnmkipjpjhaaGreatDoor
open Go.AI Go.PN
attribute [local irreducible] aw Fa Fh DrK
theorem part_ge (f : FM) (s : List SD) (i : Nat) : 0 ≤ partQ f s i := RD.abs_ge _
/-- The event of the largest part so far, and that part. -/
noncomputable def bst (f : FM) (s : List SD) : Nat → Nat × Rat
  | 0 => (0, 0)
  | k + 1 => if signQ (partQ f s k - (bst f s k).2) > 0 then (k, partQ f s k) else bst f s k
noncomputable def worstC (f : FM) (s : List SD) : Int := if ucode f s ≠ 0 then ucode f s else if f.vars = 0 then 10 else 0
noncomputable def worstN (f : FM) (s : List SD) : Nat := if worstC f s = 0 then (bst f s s.length).1 else 0
theorem bst_fits {f : FM} {s : List SD} (ok : UOk f s) : ∀ k, fits (bst f s k).2 9000
  | 0 => fits_mono fits_zero (by omega)
  | k + 1 => by
    rw [bst]
    split
    · exact part_fits ok k
    · exact bst_fits ok k
theorem bst_one (f : FM) (s : List SD) : bst f s 1 = (0, partQ f s 0) := by
  show (if signQ (partQ f s 0 - (bst f s 0).2) > 0 then (0, partQ f s 0) else bst f s 0) = _
  split
  · rfl
  · rename_i h
    have h1 := signQ_gt (partQ f s 0 - 0)
    have h2 : (bst f s 0).2 = 0 := rfl
    rw [h2] at h
    rw [decide_eq_false h] at h1
    have h3 := of_decide_eq_false h1.symm
    have h4 := part_ge f s 0
    show ((0 : Nat), (0 : Rat)) = _
    congr 1
    grind
set_option maxRecDepth 100000 in
set_option maxHeartbeats 3200000 in
theorem uworst_fa (f : FM) (s : List SD) (hn : f.nodes.length ≤ 1099511627776) (ha : ArgsOk f) (ht0 : -9223372036854775808 ≤ f.top) (ht : f.top ≤ 9223372036854775807) (hs : ∀ y ∈ s, y.wf 4) (hl : s.length ≤ 1099511627776) (hv : fcode f = 0 → f.vars ≤ 6) :
    Fa Tryz.prog 19 [.agg (fmc false f), .c (sps false s)] (.tup [.c (.int .i64 (worstN f s)), .c (errA (worstC f s))]) := by
  have hV : worstN f s = if worstC f s = 0 then (bst f s s.length).1 else 0 := rfl
  have hcd : worstC f s = if ucode f s ≠ 0 then ucode f s else if f.vars = 0 then 10 else 0 := rfl
  have hck := ucheck_fa f s hn ha ht0 ht (fun y hy => ⟨wf_mono (hs y hy).1 (by omega), wf_mono (hs y hy).2 (by omega)⟩) hl
  refine fa_of_body Tryz.func19 rfl rfl (by simp [Tryz.ntmps19]) fun C hC => ?_
  simp only [initS, Nat.reduceAdd]
  refine xG ?_
  refine xB fun g2 hn_g2=>?_
  refine yG hn_g2 ?_
  refine yC hn_g2 (hck) ?_
  refine yG hn_g2 ?_
  refine yF hn_g2 (fun hb=>?_) fun hb=>?_
  · have hb' : ucode f s ≠ 0 := by simpa using hb
    rw [if_pos hb'] at hcd
    rw [hcd, if_neg hb'] at hV
    rw [hV, hcd]
    refine yG hn_g2 ?_
    refine yT hC hn_g2 ?_
    exact .tup ⟨.c (.int _ _), .c ler_err, trivial⟩
  have hb' : ucode f s = 0 := by simpa using hb
  rw [if_neg (by simp [hb'])] at hcd
  have ok := uok_of hn ha hs hv hb'
  have hlen := ok.len
  have h6 := ok.v6
  refine yG hn_g2 ?_
  refine yF hn_g2 (fun hz=>?_) fun hz=>?_
  · have hz' : f.vars = 0 := by simpa using hz
    rw [if_pos hz'] at hcd
    rw [hcd, if_neg (by decide)] at hV
    rw [hV, hcd]
    refine yG hn_g2 ?_
    refine yT hC hn_g2 ?_
    exact .tup ⟨.c (.int _ _), .c (ler_errN rfl (by decide)), trivial⟩
  have hz' : f.vars ≠ 0 := by simpa using hz
  rw [if_neg hz'] at hcd
  rw [if_pos hcd] at hV
  rw [hV, hcd]
  refine yG hn_g2 ?_
  refine yA hn_g2 fun g8 hn_g8=>?_
  refine yG (oj hn_g2 hn_g8) ?_
  refine aw_convR zero_rd ?_
  refine aw_lp (fun k : Nat => [(1, .c (sps false s)), (2, .c (.optr g2 0)), (7, .c (.int .i64 (bst f s k).1)), (8, .c (.optr g8 0)), (23, .c (.int .i64 s.length)), (24, .c (.int .i64 k))]) (fun k => [(g8, .cells 30 3 (ofL (rdc (rd (bst f s k).2)))), (g2, .cells 24 3 (ofL (fmc false f)))]) (fun k => k ≤ s.length) (fun k => s.length - k) 0 (zB (oj hn_g2 hn_g8)) zZ (Nat.zero_le _) ?_
  rintro k hk
  have hbk : bst f s (k + 1) = if signQ (partQ f s k - (bst f s k).2) > 0 then (k, partQ f s k) else bst f s k := rfl
  have bf := bst_fits ok k
  refine yG (oj hn_g2 hn_g8) ?_
  refine yF (oj hn_g2 hn_g8) (fun h1=>?_) fun h1=>?_
  · have h1' : k < s.length := by have := of_decide_eq_true h1; omega
    have pf := part_fits ok k
    have pc := upart_fa ok k h1'
    have cm := rcmp_fa (rd (partQ f s k)) (rd (bst f s k).2) (wf_mono (rd_wf pf) (by omega)) (wf_mono (rd_wf bf) (by omega))
    rw [rd_q, rd_q] at cm
    refine yG (oj hn_g2 hn_g8) ?_
    refine yC (oj hn_g2 hn_g8) (pc) ?_
    refine yG (oj hn_g2 hn_g8) ?_
    refine yA (oj hn_g2 hn_g8) fun g10 hn_g10=>?_
    refine yG (oj hn_g2 (oj hn_g8 hn_g10)) ?_
    refine yW (oj hn_g2 (oj hn_g8 hn_g10)) ?_
    refine yS (oj hn_g2 (oj hn_g8 hn_g10)) ?_
    refine yG (oj hn_g2 (oj hn_g8 hn_g10)) ?_
    refine yN (oj hn_g2 (oj hn_g8 hn_g10)) ?_
    refine yG (oj hn_g2 (oj hn_g8 hn_g10)) ?_
    refine yC (oj hn_g2 (oj hn_g8 hn_g10)) (cm) ?_
    refine yG (oj hn_g2 (oj hn_g8 hn_g10)) ?_
    refine yF (oj hn_g2 (oj hn_g8 hn_g10)) (fun hgt=>?_) fun hgt=>?_
    · rw [if_pos (by simpa using hgt)] at hbk
      refine yG (oj hn_g2 (oj hn_g8 hn_g10)) ?_
      refine aw_dr 3 ty_mixed (by kernel_rfl) ?_
      refine yG (oj hn_g2 (oj hn_g8 hn_g10)) ?_
      refine yW (oj hn_g2 (oj hn_g8 hn_g10)) ?_
      refine yS (oj hn_g2 (oj hn_g8 hn_g10)) ?_
      refine yG (oj hn_g2 (oj hn_g8 hn_g10)) ?_
      refine aw_stop ⟨k + 1, by omega, (zB (oj hn_g2 (oj hn_g8 (oj hn_g10 hbk)))), by rw [hbk]; exact .cons _ (.refl _), by omega⟩
    · rw [if_neg (by simpa using hgt)] at hbk
      refine yG (oj hn_g2 (oj hn_g8 hn_g10)) ?_
      refine aw_stop ⟨k + 1, by omega, (zB (oj hn_g2 (oj hn_g8 (oj hn_g10 hbk)))), by rw [hbk]; exact .cons _ (.refl _), by omega⟩
  · have h1' : k = s.length := by have := of_decide_eq_false h1; omega
    subst h1'
    refine yG (oj hn_g2 hn_g8) ?_
    refine yT hC (oj hn_g2 hn_g8) ?_
    exact .tup ⟨.c (.int _ _), .c .nilI, trivial⟩
set_option maxRecDepth 100000 in
set_option maxHeartbeats 3200000 in
theorem rworst_fa (f : FM) (s : List SD) (hn : f.nodes.length ≤ 1099511627776) (ha : ArgsOk f) (hs : ∀ y ∈ s, y.wf 4) (hl : s.length ≤ 1099511627776) (hc : fcode f = 0) (hv : f.vars ≤ 6) :
    Fa Tryz.prog 21 [.agg (fmc false f), .c (sps false s)] (.tup [.c (.int .i64 (worstN f s)), .c (.int .i64 (worstC f s))]) := by
  have hV : worstN f s = if worstC f s = 0 then (bst f s s.length).1 else 0 := rfl
  have hcd : worstC f s = if ucode f s ≠ 0 then ucode f s else if f.vars = 0 then 10 else 0 := rfl
  have huc : ucode f s = scode s f.vars := by unfold ucode; rw [if_neg (by simp [hc])]
  have v0 := (fr_ok hc).v0
  have hck := ucheckR_fa f s v0 (by omega) (fun y hy => ⟨wf_mono (hs y hy).1 (by omega), wf_mono (hs y hy).2 (by omega)⟩) hl
  rw [← huc] at hck
  have pall := fun i => rPart_fa f s i hn ha hs hl hc hv
  have p0 := pall 0
  refine fa_of_body Tryz.func21 rfl rfl (by simp [Tryz.ntmps21]) fun C hC => ?_
  simp only [initS, Nat.reduceAdd]
  refine xG ?_
  refine xB fun g2 hn_g2=>?_
  refine yG hn_g2 ?_
  refine yC hn_g2 (hck) ?_
  refine yG hn_g2 ?_
  refine yF hn_g2 (fun hb=>?_) fun hb=>?_
  · have hb' : ucode f s ≠ 0 := by simpa using hb
    rw [if_pos hb'] at hcd
    rw [hcd, if_neg hb'] at hV
    rw [hV, hcd]
    refine yG hn_g2 ?_
    refine yT hC hn_g2 ?_
    exact .tup ⟨.c (.int _ _), .c (.int _ _), trivial⟩
  have hb' : ucode f s = 0 := by simpa using hb
  rw [if_neg (by simp [hb'])] at hcd
  have ok := uok_of hn ha hs (fun _ => hv) hb'
  have hlen := ok.len
  refine yG hn_g2 ?_
  refine yF hn_g2 (fun hz=>?_) fun hz=>?_
  · have hz' : f.vars = 0 := by simpa using hz
    rw [if_pos hz'] at hcd
    rw [hcd, if_neg (by decide)] at hV
    rw [hV, hcd]
    refine yG hn_g2 ?_
    refine yT hC hn_g2 ?_
    exact .tup ⟨.c (.int _ _), .c (.int _ _), trivial⟩
  have hz' : f.vars ≠ 0 := by simpa using hz
  rw [if_neg hz'] at hcd
  rw [if_pos hcd] at hV
  rw [hV, hcd]
  have pv : ∀ i : Nat, i < s.length → Fa Tryz.prog 20 [.agg (fmc false f), .c (sps false s), .c (.int .i64 i)] (.tup [.agg (rdc (rd (partQ f s i))), .c (.int .i64 0)]) := fun i hi => by
    have h := pall i
    have e : partC f s i = 0 := by unfold partC; rw [if_neg (by simp [hb']), if_neg (by omega)]
    rw [show partV f s i = partQ f s i from by unfold partV; rw [if_pos e, Int.toNat_natCast], e] at h
    exact h
  have p0 : Fa Tryz.prog 20 [.agg (fmc false f), .c (sps false s), .c (.int .i64 0)] (.tup [.agg (rdc (rd (partQ f s 0))), .c (.int .i64 0)]) := pv 0 (by omega)
  have hb1 := bst_one f s
  refine yG hn_g2 ?_
  refine yC hn_g2 (p0) ?_
  refine yG hn_g2 ?_
  refine yA hn_g2 fun g8 hn_g8=>?_
  refine yG (oj hn_g2 hn_g8) ?_
  refine yW (oj hn_g2 hn_g8) ?_
  refine yS (oj hn_g2 hn_g8) ?_
  refine yG (oj hn_g2 hn_g8) ?_
  refine aw_lp (fun k : Nat => [(1, .c (sps false s)), (2, .c (.optr g2 0)), (7, .c (.int .i64 (bst f s k).1)), (8, .c (.optr g8 0)), (10, .c (.int .i64 k))]) (fun k => [(g8, .cells 30 3 (ofL (rdc (rd (bst f s k).2)))), (g2, .cells 24 3 (ofL (fmc false f)))]) (fun k => 1 ≤ k ∧ k ≤ s.length) (fun k => s.length - k) 1 (by rw [hb1]; exact (zB (oj hn_g2 hn_g8))) (by rw [hb1]; exact zZ) ⟨by omega, by omega⟩ ?_
  rintro k ⟨hk1, hk⟩
  have hbk : bst f s (k + 1) = if signQ (partQ f s k - (bst f s k).2) > 0 then (k, partQ f s k) else bst f s k := rfl
  have bf := bst_fits ok k
  refine yG (oj hn_g2 hn_g8) ?_
  refine yF (oj hn_g2 hn_g8) (fun h1=>?_) fun h1=>?_
  · have h1' : k < s.length := by have := of_decide_eq_true h1; omega
    have pf := part_fits ok k
    have pc := pv k h1'
    have cm := scmp_fa (rd (partQ f s k)) (rd (bst f s k).2) (wf_mono (rd_wf pf) (by omega)) (wf_mono (rd_wf bf) (by omega))
    rw [rd_q, rd_q] at cm
    refine yG (oj hn_g2 hn_g8) ?_
    refine yC (oj hn_g2 hn_g8) (pc) ?_
    refine yG (oj hn_g2 hn_g8) ?_
    refine yA (oj hn_g2 hn_g8) fun g11 hn_g11=>?_
    refine yG (oj hn_g2 (oj hn_g8 hn_g11)) ?_
    refine yW (oj hn_g2 (oj hn_g8 hn_g11)) ?_
    refine yS (oj hn_g2 (oj hn_g8 hn_g11)) ?_
    refine yG (oj hn_g2 (oj hn_g8 hn_g11)) ?_
    refine yC (oj hn_g2 (oj hn_g8 hn_g11)) (cm) ?_
    refine yG (oj hn_g2 (oj hn_g8 hn_g11)) ?_
    refine yF (oj hn_g2 (oj hn_g8 hn_g11)) (fun hgt=>?_) fun hgt=>?_
    · rw [if_pos (by simpa using hgt)] at hbk
      refine yG (oj hn_g2 (oj hn_g8 hn_g11)) ?_
      refine aw_dr 3 ty_mixed (by kernel_rfl) ?_
      refine yG (oj hn_g2 (oj hn_g8 hn_g11)) ?_
      refine yW (oj hn_g2 (oj hn_g8 hn_g11)) ?_
      refine yS (oj hn_g2 (oj hn_g8 hn_g11)) ?_
      refine yG (oj hn_g2 (oj hn_g8 hn_g11)) ?_
      refine aw_stop ⟨k + 1, by omega, (zB (oj hn_g2 (oj hn_g8 (oj hn_g11 hbk)))), by rw [hbk]; exact .cons _ (.refl _), by omega, by omega⟩
    · rw [if_neg (by simpa using hgt)] at hbk
      refine yG (oj hn_g2 (oj hn_g8 hn_g11)) ?_
      refine aw_stop ⟨k + 1, by omega, (zB (oj hn_g2 (oj hn_g8 (oj hn_g11 hbk)))), by rw [hbk]; exact .cons _ (.refl _), by omega, by omega⟩
  · have h1' : k = s.length := by have := of_decide_eq_false h1; omega
    subst h1'
    refine yG (oj hn_g2 hn_g8) ?_
    refine yT hC (oj hn_g2 hn_g8) ?_
    exact .tup ⟨.c (.int _ _), .c (.int _ _), trivial⟩
end Go.Proofs.YtmfmnmkipjpjhaaGreatDoor
