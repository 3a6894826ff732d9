/- Blocks of one proof, laid one behind the other by a program (merge2.py). -/
import Derived.Test.YtcoflhkcpnoaaaaGreatDoorM24
import Derived.Test.YtcoflhkcpnoaaaaGreatDoorCards
import Derived.Test.YtcoflhkcpnoaaaaGreatDoorTie
import Derived.Deep.DeepHandedRow
import Derived.Lib.LaidTab
set_option linter.unusedSimpArgs false
set_option linter.unusedVariables false
namespace Go.PN
open Go.AI
theorem rd_parts {q : Rat} (h : q ≠ 0) : (rd q).ps = decide (q.num < 0) ∧ (rd q).pn = q.num.natAbs ∧ (rd q).pd = q.den := by
  have hn : q.num ≠ 0 := fun e => h (Rat.num_eq_zero.1 e)
  have hs := (rd_some h).1
  unfold RD.ps RD.pn RD.pd
  rw [if_pos hs, if_pos hs, if_pos hs]
  unfold rd
  rw [if_neg hn]
  exact ⟨rfl, val_words _, val_words _⟩
theorem txt_small {n : Nat} (h0 : n ≠ 0) (h : n < 1000000000) : txtN n = if ((nineL n).dropWhile (· == 48)) == [] then [48] else (nineL n).dropWhile (· == 48) := by
  unfold txtN
  rw [grps_cons h0, show n / 1000000000 = 0 from by omega, grps_zero, show n % 1000000000 = n from by omega]
  rfl
theorem validS_rd {a b : Rat} (h : a ≤ b) : validS ⟨rd a, rd b⟩ = true := by
  unfold validS
  rw [signQ_le, rd_valid, rd_valid, rd_q, rd_q, decide_eq_true (show a - b ≤ 0 by grind)]
  rfl
theorem okS_rd {a b : Rat} (h : a ≤ b) (h0 : 0 ≤ a) (h1 : b ≤ 1) : okS ⟨rd a, rd b⟩ = true := by
  rw [ok_eq, validS_rd h, ok_inside (validS_rd h)]
  have e1 := signQ_ge a
  have e2 := signQ_le (b - 1)
  rw [decide_eq_true h0] at e1
  rw [decide_eq_true (show b - 1 ≤ 0 by grind)] at e2
  have e1' := of_decide_eq_true e1
  have e2' := of_decide_eq_true e2
  rw [rd_q, rd_q, decide_eq_false (show ¬ signQ a < 0 by omega), decide_eq_false (show ¬ signQ (b - 1) > 0 by omega)]
  rfl
abbrev uF : FM := ⟨2, [⟨3, 0, [0, 1]⟩], 2⟩
abbrev uS : List SD := [⟨rd 0, rd (1 / 2)⟩, ⟨rd (1 / 4), rd (1 / 4)⟩]
theorem uF_val (k : Nat) : formTo.fvalB' uF k = decide (0 < (([0, 1] : List Int).filter fun a => k.testBit a.toNat).length) := by
  have e : fvTo uF k 1 = [nodeB uF [false] k ⟨3, 0, [0, 1]⟩] := rfl
  unfold formTo.fvalB'
  show ofB uF (fvTo uF k 1) k 2 = _
  rw [e]
  unfold ofB
  rw [if_neg (by decide)]
  show nodeB uF [false] k ⟨3, 0, [0, 1]⟩ = _
  unfold nodeB
  rw [if_neg (by decide), if_neg (by decide), if_neg (by decide), if_pos (by decide)]
  have hc : cntB uF [false] k [0, 1] = (([0, 1] : List Int).filter fun a => k.testBit a.toNat).length := by
    unfold cntB
    congr 1
  rw [hc]
  show decide (((([0, 1] : List Int).filter fun a => k.testBit a.toNat).length : Int) > 0) = _
  congr 1
  simp only [gt_iff_lt, eq_iff_iff]
  omega
theorem uT_eq : formTo uF (2 ^ uF.vars.toNat) = [false, true, true, true] := by
  show formTo uF 4 = _
  simp only [formTo, uF_val]
  decide
theorem uTop0 : topQ uF uS 0 = 1 / 4 := by
  unfold topQ
  rw [uT_eq, show endTo uS 0 uS.length = [(0 : Rat), 1 / 4].map rd from rfl, sumQ_rd]
  decide +kernel
theorem uTop1 : topQ uF uS 1 = 5 / 8 := by
  unfold topQ
  rw [uT_eq, show endTo uS 1 uS.length = [(1 / 2 : Rat), 1 / 4].map rd from rfl, sumQ_rd]
  decide +kernel
theorem uTop3 : topQ uF uS 3 = 5 / 8 := by
  unfold topQ
  rw [uT_eq, show endTo uS 3 uS.length = [(1 / 2 : Rat), 1 / 4].map rd from rfl, sumQ_rd]
  decide +kernel
theorem uF_code : fcode uF = 0 := by decide +kernel
theorem uS_code : scode uS uF.vars = 0 := by
  unfold scode
  rw [if_neg (by decide)]
  rw [if_pos]
  show (okS ⟨rd 0, rd (1 / 2)⟩ && (okS ⟨rd (1 / 4), rd (1 / 4)⟩ && true)) = true
  rw [okS_rd (by decide +kernel) (by decide +kernel) (by decide +kernel), okS_rd (by decide +kernel) (by decide +kernel) (by decide +kernel)]
  rfl
theorem uU_code : ucode uF uS = 0 := by
  unfold ucode
  rw [if_neg (by rw [uF_code]; simp), uS_code]
theorem uF_coh : cohTo uF uF.nodes.length = true := by decide +kernel
theorem uTxt4 : rtxt (rd (1 / 4)) = [49, 47, 52] := by
  obtain ⟨h1, h2, h3⟩ := rd_parts (q := 1 / 4) (by decide +kernel)
  unfold rtxt
  rw [h1, h2, h3, show ((1 / 4 : Rat).num) = 1 from by decide +kernel, show ((1 / 4 : Rat).den) = 4 from by decide +kernel, show (1 : Int).natAbs = 1 from rfl, txt_small (n := 1) (by decide) (by decide), txt_small (n := 4) (by decide) (by decide)]
  decide
theorem uTxt58 : rtxt (rd (5 / 8)) = [53, 47, 56] := by
  obtain ⟨h1, h2, h3⟩ := rd_parts (q := 5 / 8) (by decide +kernel)
  unfold rtxt
  rw [h1, h2, h3, show ((5 / 8 : Rat).num) = 5 from by decide +kernel, show ((5 / 8 : Rat).den) = 8 from by decide +kernel, show (5 : Int).natAbs = 5 from rfl, txt_small (n := 5) (by decide) (by decide), txt_small (n := 8) (by decide) (by decide)]
  decide
theorem uTxt38 : rtxt (rd (3 / 8)) = [51, 47, 56] := by
  obtain ⟨h1, h2, h3⟩ := rd_parts (q := 3 / 8) (by decide +kernel)
  unfold rtxt
  rw [h1, h2, h3, show ((3 / 8 : Rat).num) = 3 from by decide +kernel, show ((3 / 8 : Rat).den) = 8 from by decide +kernel, show (3 : Int).natAbs = 3 from rfl, txt_small (n := 3) (by decide) (by decide), txt_small (n := 8) (by decide) (by decide)]
  decide
theorem uTxt : spTxt ⟨rd (1 / 4), rd (5 / 8)⟩ = [49, 47, 52, 46, 46, 53, 47, 56] := by
  have hv : validS ⟨rd (1 / 4), rd (5 / 8)⟩ = true := validS_rd (by decide +kernel)
  unfold spTxt nlo nhi
  rw [if_pos hv, if_pos hv, rd_q, rd_q, uTxt4, uTxt58]
  rfl
theorem abs_rd {q : Rat} (h : q ≠ 0) : (rd q).abs = mkRat q.num.natAbs q.den := by
  obtain ⟨h1, h2, h3⟩ := rd_parts h
  unfold RD.abs sq
  rw [h2, h3]; rfl
end Go.PN
namespace Go.Proofs.YtcoflhkcpnoaaaaGreatDoor
open Go.AI Go.PN
attribute [local irreducible] aw Fa Fh DrK
theorem uMonC : umonC uF uS = 0 := by
  unfold umonC
  rw [if_neg (by rw [uU_code]; simp), uF_coh]; rfl
theorem uMonS : umonS uF uS = ⟨rd (1 / 4), rd (5 / 8)⟩ := by
  unfold umonS
  rw [if_pos uMonC, uTop0, show 2 ^ uF.vars.toNat - 1 = 3 from rfl, uTop3]
theorem uPartV : partV uF uS 0 = 3 / 8 ∧ partC uF uS 0 = 0 := by
  have hc : partC uF uS 0 = 0 := by
    unfold partC
    rw [if_neg (by rw [uU_code]; simp), if_neg (by decide)]
  refine ⟨?_, hc⟩
  unfold partV partQ
  rw [if_pos hc, show 2 ^ (0 : Int).toNat = 1 from rfl, uTop0, uTop1, abs_rd (by decide +kernel)]
  decide +kernel
end Go.Proofs.YtcoflhkcpnoaaaaGreatDoor
namespace Go.PN
open Go.AI
def hvA (f : FM) (s : List SD) : Bool := (decide (f.vars > 6) && decide (f.vars ≤ 24)) || ((decide ((f.nodes.length : Int) > 14) && decide ((f.nodes.length : Int) ≤ 128)) || (decide ((f.nodes.length : Int) > 300) || decide ((s.length : Int) > 30)))
def bigS (y : SD) : Bool := decide ((y.lo.num.length : Int) > 2) || (decide ((y.lo.den.length : Int) > 2) || (decide ((y.hi.num.length : Int) > 2) || decide ((y.hi.den.length : Int) > 2)))
def argTo (f : FM) : Nat → Nat
  | 0 => 0
  | k + 1 => argTo f k + (f.nodes.getD k fn0).args.length
def heavyB (f : FM) (s : List SD) : Bool := hvA f s || (s.any bigS || decide ((argTo f f.nodes.length : Int) > 60))
end Go.PN
namespace Go.Proofs.YtcoflhkcpnoaaaaGreatDoor
open Go.AI Go.PN
attribute [local irreducible] aw Fa Fh DrK
theorem argTo_le {f : FM} (ha : ArgsOk f) : ∀ k, argTo f k ≤ 1099511627776 * k
  | 0 => Nat.le_refl _
  | k + 1 => by
    have h1 := argTo_le ha k
    have h2 := ha.at k
    rw [argTo]; omega
set_option maxRecDepth 100000 in
set_option maxHeartbeats 6400000 in
theorem heavy_fa (f : FM) (s : List SD) (hn : f.nodes.length ≤ 1099511627776) (ha : ArgsOk f) (hl : s.length ≤ 1099511627776) (hlw : ∀ y ∈ s, y.lo.num.length ≤ 1099511627776 ∧ y.lo.den.length ≤ 1099511627776 ∧ y.hi.num.length ≤ 1099511627776 ∧ y.hi.den.length ≤ 1099511627776) :
    Fa Tryz.prog 8 [.agg (fmc false f), .c (sps false s)] (.c (.bool (heavyB f s))) := by
  have hH : hvA f s = true → heavyB f s = true := fun h => by unfold heavyB; rw [h]; rfl
  have hH2 : hvA f s = false → heavyB f s = (s.any bigS || decide ((argTo f f.nodes.length : Int) > 60)) := fun h => by unfold heavyB; rw [h]; rfl
  refine fa_of_body Tryz.func8 rfl rfl (by simp [Tryz.ntmps8]) fun C hC => ?_
  simp only [initS, Nat.reduceAdd]
  apply aw_seq
  apply aw_region
  refine xB fun g2 hn_g2=>?_
  refine yH hn_g2 ?_
  apply aw_seq
  refine aw_cut (fun _ : Unit => [(1, .c (sps false s)), (2, .c (.optr g2 0))]) (fun _ => [(g2, .cells 24 3 (ofL (fmc false f)))]) (fun _ => hvA f s = false) ?_ ?_
  · refine yG hn_g2 ?_
    refine aw_split 13 (zE hn_g2) (fun a1 => ?_) (fun a1 => ?_) <;> refine yS hn_g2 ?_
    · refine yG hn_g2 ?_
      refine aw_split 18 (zE hn_g2) (fun a2 => ?_) (fun a2 => ?_) <;> refine yS hn_g2 ?_
      · skip
        rw [hH (by unfold hvA; rw [a1, a2]; simp)]
        refine yG hn_g2 ?_
        refine yP hn_g2 ?_
        refine yG hn_g2 ?_
        refine yT hC hn_g2 ?_
        exact .one (.c (.bool _))
      · skip
        refine yG hn_g2 ?_
        refine aw_split 23 (zE hn_g2) (fun b1 => ?_) (fun b1 => ?_) <;> refine yS hn_g2 ?_
        · refine yG hn_g2 ?_
          refine aw_split 30 (zE hn_g2) (fun b2 => ?_) (fun b2 => ?_) <;> refine yS hn_g2 ?_
          · skip
            rw [hH (by unfold hvA; rw [a1, a2, b1, b2]; simp)]
            refine yG hn_g2 ?_
            refine yP hn_g2 ?_
            refine yG hn_g2 ?_
            refine yT hC hn_g2 ?_
            exact .one (.c (.bool _))
          · skip
            refine yG hn_g2 ?_
            refine aw_split 36 (zE hn_g2) (fun c1 => ?_) (fun c1 => ?_) <;> refine yS hn_g2 ?_
            · skip
              rw [hH (by unfold hvA; rw [a1, a2, b1, b2, c1]; simp)]
              refine yG hn_g2 ?_
              refine yP hn_g2 ?_
              refine yG hn_g2 ?_
              refine yT hC hn_g2 ?_
              exact .one (.c (.bool _))
            refine yG hn_g2 ?_
            refine yF hn_g2 (fun d1=>?_) fun d1=>?_
            · skip
              rw [hH (by unfold hvA; rw [a1, a2, b1, b2, c1, d1]; simp)]
              refine yG hn_g2 ?_
              refine yT hC hn_g2 ?_
              exact .one (.c (.bool _))
            · refine yG hn_g2 ?_
              exact aw_stop ⟨(), (zB hn_g2), zZ, by unfold hvA; rw [a1, a2, b1, b2, c1, d1]; simp⟩
        · skip
          refine yG hn_g2 ?_
          refine aw_split 36 (zE hn_g2) (fun c1 => ?_) (fun c1 => ?_) <;> refine yS hn_g2 ?_
          · skip
            rw [hH (by unfold hvA; rw [a1, a2, b1, c1]; simp)]
            refine yG hn_g2 ?_
            refine yP hn_g2 ?_
            refine yG hn_g2 ?_
            refine yT hC hn_g2 ?_
            exact .one (.c (.bool _))
          refine yG hn_g2 ?_
          refine yF hn_g2 (fun d1=>?_) fun d1=>?_
          · skip
            rw [hH (by unfold hvA; rw [a1, a2, b1, c1, d1]; simp)]
            refine yG hn_g2 ?_
            refine yT hC hn_g2 ?_
            exact .one (.c (.bool _))
          · refine yG hn_g2 ?_
            exact aw_stop ⟨(), (zB hn_g2), zZ, by unfold hvA; rw [a1, a2, b1, c1, d1]; simp⟩
    · skip
      refine yG hn_g2 ?_
      refine aw_split 23 (zE hn_g2) (fun b1 => ?_) (fun b1 => ?_) <;> refine yS hn_g2 ?_
      · refine yG hn_g2 ?_
        refine aw_split 30 (zE hn_g2) (fun b2 => ?_) (fun b2 => ?_) <;> refine yS hn_g2 ?_
        · skip
          rw [hH (by unfold hvA; rw [a1, b1, b2]; simp)]
          refine yG hn_g2 ?_
          refine yP hn_g2 ?_
          refine yG hn_g2 ?_
          refine yT hC hn_g2 ?_
          exact .one (.c (.bool _))
        · skip
          refine yG hn_g2 ?_
          refine aw_split 36 (zE hn_g2) (fun c1 => ?_) (fun c1 => ?_) <;> refine yS hn_g2 ?_
          · skip
            rw [hH (by unfold hvA; rw [a1, b1, b2, c1]; simp)]
            refine yG hn_g2 ?_
            refine yP hn_g2 ?_
            refine yG hn_g2 ?_
            refine yT hC hn_g2 ?_
            exact .one (.c (.bool _))
          refine yG hn_g2 ?_
          refine yF hn_g2 (fun d1=>?_) fun d1=>?_
          · skip
            rw [hH (by unfold hvA; rw [a1, b1, b2, c1, d1]; simp)]
            refine yG hn_g2 ?_
            refine yT hC hn_g2 ?_
            exact .one (.c (.bool _))
          · refine yG hn_g2 ?_
            exact aw_stop ⟨(), (zB hn_g2), zZ, by unfold hvA; rw [a1, b1, b2, c1, d1]; simp⟩
      · skip
        refine yG hn_g2 ?_
        refine aw_split 36 (zE hn_g2) (fun c1 => ?_) (fun c1 => ?_) <;> refine yS hn_g2 ?_
        · skip
          rw [hH (by unfold hvA; rw [a1, b1, c1]; simp)]
          refine yG hn_g2 ?_
          refine yP hn_g2 ?_
          refine yG hn_g2 ?_
          refine yT hC hn_g2 ?_
          exact .one (.c (.bool _))
        refine yG hn_g2 ?_
        refine yF hn_g2 (fun d1=>?_) fun d1=>?_
        · skip
          rw [hH (by unfold hvA; rw [a1, b1, c1, d1]; simp)]
          refine yG hn_g2 ?_
          refine yT hC hn_g2 ?_
          exact .one (.c (.bool _))
        · refine yG hn_g2 ?_
          exact aw_stop ⟨(), (zB hn_g2), zZ, by unfold hvA; rw [a1, b1, c1, d1]; simp⟩
  rintro _ hA
  have hE := hH2 hA
  have hn300 : f.nodes.length ≤ 300 := by
    unfold hvA at hA
    simp only [Bool.or_eq_false_iff, decide_eq_false_iff_not] at hA
    omega
  have hs30 : s.length ≤ 30 := by
    unfold hvA at hA
    simp only [Bool.or_eq_false_iff, decide_eq_false_iff_not] at hA
    omega
  rw [hE]
  refine yG hn_g2 ?_
  refine aw_lp (fun k : Nat => [(1, .c (sps false s)), (5, .c (.int .i64 (argTo f k))), (42, .c (fns false f.nodes)), (43, .c (.int .i64 f.nodes.length)), (44, .c (.int .i64 k))]) (fun _ => []) (fun k => k ≤ f.nodes.length) (fun k => f.nodes.length - k) 0 (zB hn_g2) (List.nil_sublist _) (Nat.zero_le _) ?_
  rintro k hk
  have hak := argTo_le ha k
  refine yG hn_g2 ?_
  refine yF hn_g2 (fun h1=>?_) fun h1=>?_
  · have h1' : k < f.nodes.length := by have := of_decide_eq_true h1; omega
    have hst : argTo f (k + 1) = argTo f k + (f.nodes.getD k fn0).args.length := rfl
    have hal := ha.at k
    refine yG hn_g2 ?_
    refine yA hn_g2 fun g7 hn_g7=>?_
    generalize f.nodes.getD k fn0 = y at *
    refine yG (oj hn_g2 hn_g7) ?_
    refine yW (oj hn_g2 hn_g7) ?_
    refine yS (oj hn_g2 hn_g7) ?_
    refine aw_conv1 (f' := ofL [.int .i64 y.kind, .int .i64 y.k, is true y.args]) (fun j hj => by match j, hj with | 0, _ => rfl | 1, _ => rfl | 2, _ => rfl) ?_
    refine yG (oj hn_g2 hn_g7) ?_
    rw [show ((argTo f k : Nat) : Int) + ((y.args.length : Nat) : Int) = ((argTo f (k + 1) : Nat) : Int) from by rw [hst]; omega]
    exact aw_stop ⟨k + 1, by omega, (zB (oj hn_g2 hn_g7)), List.nil_sublist _, by omega⟩
  have h1' : k = f.nodes.length := by have := of_decide_eq_false h1; omega
  subst h1'
  generalize argTo f f.nodes.length = M at *
  refine yG hn_g2 ?_
  refine aw_lp (fun k : Nat => [(5, .c (.int .i64 M)), (54, .c (sps false s)), (55, .c (.int .i64 s.length)), (56, .c (.int .i64 k))]) (fun _ => []) (fun k => k ≤ s.length ∧ (s.take k).any bigS = false) (fun k => s.length - k) 0 (zB hn_g2) (List.nil_sublist _) ⟨Nat.zero_le _, rfl⟩ ?_
  rintro k ⟨hk, hok⟩
  refine yG hn_g2 ?_
  refine yF hn_g2 (fun h2=>?_) fun h2=>?_
  · have h2' : k < s.length := by have := of_decide_eq_true h2; omega
    have hst : (s.take (k + 1)).any bigS = bigS (s.getD k sd0) := by
      rw [List.take_succ_eq_append_getElem h2', List.any_append, hok, List.getD_eq_getElem?_getD, List.getElem?_eq_getElem h2']
      simp
    have hbad : bigS (s.getD k sd0) = true → (s.any bigS || decide ((M : Int) > 60)) = true := fun h => by
      rw [List.any_eq_true.2 ⟨s.getD k sd0, by rw [List.getD_eq_getElem?_getD, List.getElem?_eq_getElem h2']; exact List.getElem_mem _, h⟩]; rfl
    obtain ⟨l1, l2, l3, l4⟩ := hlw (s.getD k sd0) (by rw [List.getD_eq_getElem?_getD, List.getElem?_eq_getElem h2']; exact List.getElem_mem _)
    refine yG hn_g2 ?_
    refine yA hn_g2 fun g9 hn_g9=>?_
    generalize s.getD k sd0 = y at *
    have hbd : bigS y = (decide ((y.lo.num.length : Int) > 2) || (decide ((y.lo.den.length : Int) > 2) || (decide ((y.hi.num.length : Int) > 2) || decide ((y.hi.den.length : Int) > 2)))) := rfl
    refine yG (oj hn_g2 hn_g9) ?_
    refine yW (oj hn_g2 hn_g9) ?_
    refine yS (oj hn_g2 hn_g9) ?_
    refine aw_conv1 (f' := ofL (spc y)) (fun j hj => by match j, hj with | 0, _ => rfl | 1, _ => rfl | 2, _ => rfl | 3, _ => rfl | 4, _ => rfl | 5, _ => rfl) ?_
    refine yG (oj hn_g2 hn_g9) ?_
    refine aw_split 65 (zE (oj hn_g2 hn_g9)) (fun e1 => ?_) (fun e1 => ?_) <;> refine yS (oj hn_g2 hn_g9) ?_
    · rw [hbad (by rw [hbd, e1]; rfl)]
      refine yG (oj hn_g2 hn_g9) ?_
      refine yP (oj hn_g2 hn_g9) ?_
      refine yG (oj hn_g2 hn_g9) ?_
      refine yT hC (oj hn_g2 hn_g9) ?_
      exact .one (.c (.bool _))
    refine yG (oj hn_g2 hn_g9) ?_
    refine aw_split 72 (zE (oj hn_g2 hn_g9)) (fun e2 => ?_) (fun e2 => ?_) <;> refine yS (oj hn_g2 hn_g9) ?_
    · rw [hbad (by rw [hbd, e1, e2]; rfl)]
      refine yG (oj hn_g2 hn_g9) ?_
      refine yP (oj hn_g2 hn_g9) ?_
      refine yG (oj hn_g2 hn_g9) ?_
      refine yT hC (oj hn_g2 hn_g9) ?_
      exact .one (.c (.bool _))
    refine yG (oj hn_g2 hn_g9) ?_
    refine aw_split 79 (zE (oj hn_g2 hn_g9)) (fun e3 => ?_) (fun e3 => ?_) <;> refine yS (oj hn_g2 hn_g9) ?_
    · rw [hbad (by rw [hbd, e1, e2, e3]; rfl)]
      refine yG (oj hn_g2 hn_g9) ?_
      refine yP (oj hn_g2 hn_g9) ?_
      refine yG (oj hn_g2 hn_g9) ?_
      refine yT hC (oj hn_g2 hn_g9) ?_
      exact .one (.c (.bool _))
    refine yG (oj hn_g2 hn_g9) ?_
    refine yF (oj hn_g2 hn_g9) (fun e4=>?_) fun e4=>?_
    · rw [hbad (by rw [hbd, e1, e2, e3, e4]; rfl)]
      refine yG (oj hn_g2 hn_g9) ?_
      refine yT hC (oj hn_g2 hn_g9) ?_
      exact .one (.c (.bool _))
    · refine yG (oj hn_g2 hn_g9) ?_
      exact aw_stop ⟨k + 1, by omega, (zB (oj hn_g2 hn_g9)), List.nil_sublist _, by omega, by rw [hst, hbd, e1, e2, e3, e4]; rfl⟩
  · have h2' : k = s.length := by have := of_decide_eq_false h2; omega
    subst h2'
    rw [List.take_length] at hok
    rw [hok, Bool.false_or]
    refine yG hn_g2 ?_
    refine yT hC hn_g2 ?_
    exact .one (.c (.bool _))
end Go.Proofs.YtcoflhkcpnoaaaaGreatDoor
namespace Go.Proofs.YtcoflhkcpnoaaaaGreatDoor
open Go.AI Go.PN
attribute [local irreducible] aw Fa Fh DrK
set_option maxHeartbeats 1600000 in
theorem rmake_fa (n d : Int) (h0 : -9223372036854775808 ≤ n) (h1 : n ≤ 9223372036854775807) (h2 : -9223372036854775808 ≤ d) (h3 : d ≤ 9223372036854775807) (hd : d ≠ 0) :
    Fa Tryz.prog 28 [.c (.int .i64 n), .c (.int .i64 d)] (.tup [.agg (rdc (rd ((n : Rat) / (d : Rat)))), .c .nilI]) := by
  have l1 := words_small (n := n.natAbs) (by omega)
  have l2 := words_small (n := d.natAbs) (by omega)
  have z := ieq_f hd
  refine fa_of_body Tryz.func28 rfl rfl (by simp [Tryz.ntmps28]) fun C hC => ?_
  simp only [initS, Nat.reduceAdd]
  refine yG z ?_
  refine yA z fun g4 hn_g4=>?_
  refine yG (oj z hn_g4) ?_
  refine yN (oj z hn_g4) ?_
  refine yG (oj z hn_g4) ?_
  refine yC (oj z hn_g4) (rsize_fa n h0 h1) ?_
  refine yG (oj z hn_g4) ?_
  refine yC (oj z hn_g4) (rsize_fa d h2 h3) ?_
  refine yG (oj z hn_g4) ?_
  refine yC (oj z hn_g4) (rform_fa _ n.natAbs d.natAbs ?_ ?_ ?_) ?_
  · omega
  · omega
  · omega
  rw [sq_make]
  refine yG (oj z hn_g4) ?_
  refine yW (oj z hn_g4) ?_
  refine yS (oj z hn_g4) ?_
  refine yG (oj z hn_g4) ?_
  refine yT hC (oj z hn_g4) ?_
  exact .tup ⟨.agg lerl_rd, .c .nilI, trivial⟩
end Go.Proofs.YtcoflhkcpnoaaaaGreatDoor
namespace Go.Proofs.YtcoflhkcpnoaaaaGreatDoor
open Go.AI Go.PN
attribute [local irreducible] aw Fa Fh DrK
theorem uF_args : ArgsOk uF := by
  intro x hx
  simp only [List.mem_singleton] at hx
  subst hx
  show 2 ≤ 1099511627776
  omega
theorem uS_wf : ∀ y ∈ uS, y.wf 16 := by
  intro y hy
  have h0 : (rd (0 : Rat)).wf 16 := rd_wf (fits_mono fits_zero (by omega))
  have h1 : (rd (1 / 2 : Rat)).wf 16 := rd_wf (fits_mono (L := 1) ⟨by decide +kernel, by decide +kernel⟩ (by omega))
  have h2 : (rd (1 / 4 : Rat)).wf 16 := rd_wf (fits_mono (L := 1) ⟨by decide +kernel, by decide +kernel⟩ (by omega))
  simp only [List.mem_cons, List.not_mem_nil, or_false] at hy
  rcases hy with rfl | rfl
  · exact ⟨h0, h1⟩
  · exact ⟨h2, h2⟩
set_option maxRecDepth 100000 in
set_option maxHeartbeats 6400000 in
theorem awake44_fa : Fa Tryz.prog 7 [] (.c (.bool true)) := by
  have m1 := rmake_fa 1 2 (by omega) (by omega) (by omega) (by omega) (by omega)
  have m2 := rmake_fa 1 4 (by omega) (by omega) (by omega) (by omega) (by omega)
  rw [show (((1 : Int) : Rat) / ((2 : Int) : Rat)) = 1 / 2 from by decide +kernel] at m1
  rw [show (((1 : Int) : Rat) / ((4 : Int) : Rat)) = 1 / 4 from by decide +kernel] at m2
  have u1 := umono_fa uF uS (by decide) uF_args (by decide) (by decide) uS_wf (by decide) (fun _ => by decide)
  have u2 := uPart_fa uF uS 0 (by decide) uF_args (by decide) (by decide) uS_wf (by decide) (fun _ => by decide)
  rw [uMonC, uMonS] at u1
  rw [uPartV.1, uPartV.2] at u2
  rw [show errA 0 = CV.nilI from rfl] at u1 u2
  have t1 := sptext_fa ⟨rd (1 / 4), rd (5 / 8)⟩ ⟨rd_wf (fits_mono (L := 1) ⟨by decide +kernel, by decide +kernel⟩ (by omega)), rd_wf (fits_mono (L := 1) ⟨by decide +kernel, by decide +kernel⟩ (by omega))⟩
  rw [uTxt] at t1
  have t2 := rtext_fa (rd (3 / 8)) (rd_wf (fits_mono (L := 1) ⟨by decide +kernel, by decide +kernel⟩ (by omega)))
  rw [uTxt38] at t2
  have q1 : strEq (sB [49, 47, 52, 46, 46, 53, 47, 56]) ⟨#[49, 47, 52, 46, 46, 53, 47, 56]⟩ = true := strEq_self _
  have q2 : strEq (sB [51, 47, 56]) ⟨#[51, 47, 56]⟩ = true := strEq_self _
  refine fa_of_body Tryz.func7 rfl rfl (by simp [Tryz.ntmps7]) fun C hC => ?_
  simp only [initS, Nat.reduceAdd]
  refine yG (oj q1 q2) ?_
  refine yC (oj q1 q2) (m1) ?_
  refine yG (oj q1 q2) ?_
  refine yA (oj q1 q2) fun g1 hn_g1=>?_
  refine yG (oj q1 (oj q2 hn_g1)) ?_
  refine yW (oj q1 (oj q2 hn_g1)) ?_
  refine yS (oj q1 (oj q2 hn_g1)) ?_
  refine yG (oj q1 (oj q2 hn_g1)) ?_
  refine yC (oj q1 (oj q2 hn_g1)) (m2) ?_
  refine yG (oj q1 (oj q2 hn_g1)) ?_
  refine yA (oj q1 (oj q2 hn_g1)) fun g3 hn_g3=>?_
  refine yG (oj q1 (oj q2 (oj hn_g1 hn_g3))) ?_
  refine yW (oj q1 (oj q2 (oj hn_g1 hn_g3))) ?_
  refine yS (oj q1 (oj q2 (oj hn_g1 hn_g3))) ?_
  refine yG (oj q1 (oj q2 (oj hn_g1 hn_g3))) ?_
  refine aw_buildSlice (xs := [.const (.int .i64 0), .const (.int .i64 1)]) (cells := [.int .i64 0, .int .i64 1]) rfl rfl rfl (zE (oj q1 (oj q2 (oj hn_g1 hn_g3)))) (by refine yS (oj q1 (oj q2 (oj hn_g1 hn_g3))) ?_; rfl) rfl (by omega) (by omega) (by intro x hx; simp only [List.mem_cons, List.not_mem_nil, or_false] at hx; rcases hx with rfl | rfl <;> exact ⟨rfl, rfl, rfl⟩) rfl fun g19 hn_g19 => ?_
  replace hn_g19 := Heap.ne_of hn_g19
  dsimp only [Heap.ne] at hn_g19
  refine yS (oj q1 (oj q2 (oj hn_g1 (oj hn_g3 hn_g19)))) ?_
  refine aw_frzT (t := 19) (isF [0, 1]) (zE (oj q1 (oj q2 (oj hn_g1 (oj hn_g3 hn_g19))))) (zE (oj q1 (oj q2 (oj hn_g1 (oj hn_g3 hn_g19))))) (by omega) (hC g19) (fun j hj => by match j, hj with | 0, _ => rfl | 1, _ => rfl) rfl (zE (oj q1 (oj q2 (oj hn_g1 (oj hn_g3 hn_g19))))) ?_
  refine yS (oj q1 (oj q2 (oj hn_g1 (oj hn_g3 hn_g19)))) ?_
  refine yG (oj q1 (oj q2 (oj hn_g1 (oj hn_g3 hn_g19)))) ?_
  refine aw_buildSlice (xs := [.tmp 20]) (cells := [.int .i64 3, .int .i64 0, is true [0, 1]]) rfl rfl rfl (zE (oj q1 (oj q2 (oj hn_g1 (oj hn_g3 hn_g19))))) (by refine yS (oj q1 (oj q2 (oj hn_g1 (oj hn_g3 hn_g19)))) ?_; rfl) rfl (by omega) (by omega) (by intro x hx; simp only [List.mem_singleton] at hx; subst hx; exact ⟨rfl, rfl, rfl⟩) rfl fun g21 hn_g21 => ?_
  replace hn_g21 := Heap.ne_of hn_g21
  dsimp only [Heap.ne] at hn_g21
  refine yS (oj q1 (oj q2 (oj hn_g1 (oj hn_g3 (oj hn_g19 hn_g21))))) ?_
  refine aw_frzT (t := 21) (fnsF uF.nodes) (zE (oj q1 (oj q2 (oj hn_g1 (oj hn_g3 (oj hn_g19 hn_g21)))))) (zE (oj q1 (oj q2 (oj hn_g1 (oj hn_g3 (oj hn_g19 hn_g21)))))) (by omega) (hC g21) (fun j hj => by match j, hj with | 0, _ => rfl | 1, _ => rfl | 2, _ => rfl) rfl (zE (oj q1 (oj q2 (oj hn_g1 (oj hn_g3 (oj hn_g19 hn_g21)))))) ?_
  refine yS (oj q1 (oj q2 (oj hn_g1 (oj hn_g3 (oj hn_g19 hn_g21))))) ?_
  refine yG (oj q1 (oj q2 (oj hn_g1 (oj hn_g3 (oj hn_g19 hn_g21))))) ?_
  refine yA (oj q1 (oj q2 (oj hn_g1 (oj hn_g3 (oj hn_g19 hn_g21))))) fun g5 hn_g5=>?_
  refine yG (oj q1 (oj q2 (oj hn_g1 (oj hn_g3 (oj hn_g19 (oj hn_g21 hn_g5)))))) ?_
  refine yW (oj q1 (oj q2 (oj hn_g1 (oj hn_g3 (oj hn_g19 (oj hn_g21 hn_g5)))))) ?_
  refine yS (oj q1 (oj q2 (oj hn_g1 (oj hn_g3 (oj hn_g19 (oj hn_g21 hn_g5)))))) ?_
  refine yG (oj q1 (oj q2 (oj hn_g1 (oj hn_g3 (oj hn_g19 (oj hn_g21 hn_g5)))))) ?_
  refine aw_buildSlice (xs := [.tmp 24, .tmp 27]) (cells := [.bool false, .nils, .nils, .bool (rd (1 / 2)).neg, ws true (rd (1 / 2)).num, ws true (rd (1 / 2)).den, .bool (rd (1 / 4)).neg, ws true (rd (1 / 4)).num, ws true (rd (1 / 4)).den, .bool (rd (1 / 4)).neg, ws true (rd (1 / 4)).num, ws true (rd (1 / 4)).den]) rfl rfl rfl (zE (oj q1 (oj q2 (oj hn_g1 (oj hn_g3 (oj hn_g19 (oj hn_g21 hn_g5))))))) (by refine yS (oj q1 (oj q2 (oj hn_g1 (oj hn_g3 (oj hn_g19 (oj hn_g21 hn_g5)))))) ?_; rfl) rfl (by omega) (by omega) (by intro x hx; simp only [List.mem_cons, List.not_mem_nil, or_false] at hx; rcases hx with rfl | rfl <;> exact ⟨rfl, rfl, rfl⟩) rfl fun g28 hn_g28 => ?_
  replace hn_g28 := Heap.ne_of hn_g28
  dsimp only [Heap.ne] at hn_g28
  refine yS (oj q1 (oj q2 (oj hn_g1 (oj hn_g3 (oj hn_g19 (oj hn_g21 (oj hn_g5 hn_g28))))))) ?_
  refine aw_convR (f' := spsF uS) (fun j hj S w u hr => by match j, hj with | 0, _ => exact zero_rd 0 (by omega) S w u hr | 1, _ => exact zero_rd 1 (by omega) S w u hr | 2, _ => exact zero_rd 2 (by omega) S w u hr | 3, _ => exact hr | 4, _ => exact hr | 5, _ => exact hr | 6, _ => exact hr | 7, _ => exact hr | 8, _ => exact hr | 9, _ => exact hr | 10, _ => exact hr | 11, _ => exact hr) ?_
  refine aw_frzT (t := 28) (spsF uS) (zE (oj q1 (oj q2 (oj hn_g1 (oj hn_g3 (oj hn_g19 (oj hn_g21 (oj hn_g5 hn_g28)))))))) (zE (oj q1 (oj q2 (oj hn_g1 (oj hn_g3 (oj hn_g19 (oj hn_g21 (oj hn_g5 hn_g28)))))))) (by omega) (hC g28) (fun j hj => by rw [Nat.zero_add]) rfl (zE (oj q1 (oj q2 (oj hn_g1 (oj hn_g3 (oj hn_g19 (oj hn_g21 (oj hn_g5 hn_g28)))))))) ?_
  refine yS (oj q1 (oj q2 (oj hn_g1 (oj hn_g3 (oj hn_g19 (oj hn_g21 (oj hn_g5 hn_g28))))))) ?_
  refine yG (oj q1 (oj q2 (oj hn_g1 (oj hn_g3 (oj hn_g19 (oj hn_g21 (oj hn_g5 hn_g28))))))) ?_
  refine yC (oj q1 (oj q2 (oj hn_g1 (oj hn_g3 (oj hn_g19 (oj hn_g21 (oj hn_g5 hn_g28))))))) (u1) ?_
  refine yG (oj q1 (oj q2 (oj hn_g1 (oj hn_g3 (oj hn_g19 (oj hn_g21 (oj hn_g5 hn_g28))))))) ?_
  refine yA (oj q1 (oj q2 (oj hn_g1 (oj hn_g3 (oj hn_g19 (oj hn_g21 (oj hn_g5 hn_g28))))))) fun g7 hn_g7=>?_
  refine yG (oj q1 (oj q2 (oj hn_g1 (oj hn_g3 (oj hn_g19 (oj hn_g21 (oj hn_g5 (oj hn_g28 hn_g7)))))))) ?_
  refine yW (oj q1 (oj q2 (oj hn_g1 (oj hn_g3 (oj hn_g19 (oj hn_g21 (oj hn_g5 (oj hn_g28 hn_g7)))))))) ?_
  refine yS (oj q1 (oj q2 (oj hn_g1 (oj hn_g3 (oj hn_g19 (oj hn_g21 (oj hn_g5 (oj hn_g28 hn_g7)))))))) ?_
  refine aw_conv1 (f' := ofL (spc ⟨rd (1 / 4), rd (5 / 8)⟩)) (fun j hj => by match j, hj with | 0, _ => rfl | 1, _ => rfl | 2, _ => rfl | 3, _ => rfl | 4, _ => rfl | 5, _ => rfl) ?_
  refine yG (oj q1 (oj q2 (oj hn_g1 (oj hn_g3 (oj hn_g19 (oj hn_g21 (oj hn_g5 (oj hn_g28 hn_g7)))))))) ?_
  refine yC (oj q1 (oj q2 (oj hn_g1 (oj hn_g3 (oj hn_g19 (oj hn_g21 (oj hn_g5 (oj hn_g28 hn_g7)))))))) (u2) ?_
  refine yG (oj q1 (oj q2 (oj hn_g1 (oj hn_g3 (oj hn_g19 (oj hn_g21 (oj hn_g5 (oj hn_g28 hn_g7)))))))) ?_
  refine yA (oj q1 (oj q2 (oj hn_g1 (oj hn_g3 (oj hn_g19 (oj hn_g21 (oj hn_g5 (oj hn_g28 hn_g7)))))))) fun g9 hn_g9=>?_
  refine yG (oj q1 (oj q2 (oj hn_g1 (oj hn_g3 (oj hn_g19 (oj hn_g21 (oj hn_g5 (oj hn_g28 (oj hn_g7 hn_g9))))))))) ?_
  refine yW (oj q1 (oj q2 (oj hn_g1 (oj hn_g3 (oj hn_g19 (oj hn_g21 (oj hn_g5 (oj hn_g28 (oj hn_g7 hn_g9))))))))) ?_
  refine yS (oj q1 (oj q2 (oj hn_g1 (oj hn_g3 (oj hn_g19 (oj hn_g21 (oj hn_g5 (oj hn_g28 (oj hn_g7 hn_g9))))))))) ?_
  refine yG (oj q1 (oj q2 (oj hn_g1 (oj hn_g3 (oj hn_g19 (oj hn_g21 (oj hn_g5 (oj hn_g28 (oj hn_g7 hn_g9))))))))) ?_
  refine yC (oj q1 (oj q2 (oj hn_g1 (oj hn_g3 (oj hn_g19 (oj hn_g21 (oj hn_g5 (oj hn_g28 (oj hn_g7 hn_g9))))))))) (t1) ?_
  refine yG (oj q1 (oj q2 (oj hn_g1 (oj hn_g3 (oj hn_g19 (oj hn_g21 (oj hn_g5 (oj hn_g28 (oj hn_g7 hn_g9))))))))) ?_
  refine yC (oj q1 (oj q2 (oj hn_g1 (oj hn_g3 (oj hn_g19 (oj hn_g21 (oj hn_g5 (oj hn_g28 (oj hn_g7 hn_g9))))))))) (t2) ?_
  refine yG (oj q1 (oj q2 (oj hn_g1 (oj hn_g3 (oj hn_g19 (oj hn_g21 (oj hn_g5 (oj hn_g28 (oj hn_g7 hn_g9))))))))) ?_
  refine yT hC (oj q1 (oj q2 (oj hn_g1 (oj hn_g3 (oj hn_g19 (oj hn_g21 (oj hn_g5 (oj hn_g28 (oj hn_g7 hn_g9))))))))) ?_
  exact .one (.c (.bool _))
end Go.Proofs.YtcoflhkcpnoaaaaGreatDoor
namespace Go.Proofs.YtcoflhkcpnoaaaaGreatDoor
open Go.AI Go.PN
attribute [local irreducible] aw Fa Fh DrK
def SWordsOk (s : List SD) : Prop := ∀ y ∈ s, (∀ x ∈ y.lo.num, x < 4294967296) ∧ (∀ x ∈ y.lo.den, x < 4294967296) ∧ (∀ x ∈ y.hi.num, x < 4294967296) ∧ (∀ x ∈ y.hi.den, x < 4294967296)
def SLensOk (s : List SD) : Prop := ∀ y ∈ s, y.lo.num.length ≤ 1099511627776 ∧ y.lo.den.length ≤ 1099511627776 ∧ y.hi.num.length ≤ 1099511627776 ∧ y.hi.den.length ≤ 1099511627776
theorem light {f : FM} {s : List SD} (hw : SWordsOk s) (h : heavyB f s = false) : (∀ y ∈ s, y.wf 4) ∧ (fcode f = 0 → f.vars ≤ 6) := by
  unfold heavyB at h
  simp only [Bool.or_eq_false_iff] at h
  obtain ⟨hA, hb, _⟩ := h
  refine ⟨fun y hy => ?_, fun hc => ?_⟩
  · have := List.any_eq_false.1 hb y hy
    unfold bigS at this
    simp only [Bool.or_eq_true, decide_eq_true_eq, not_or] at this
    obtain ⟨w1, w2, w3, w4⟩ := hw y hy
    exact ⟨⟨w1, w2, by omega, by omega⟩, ⟨w3, w4, by omega, by omega⟩⟩
  · have v24 := (fr_ok hc).v24
    unfold hvA at hA
    simp only [Bool.or_eq_false_iff, Bool.and_eq_false_iff, decide_eq_false_iff_not] at hA
    omega
end Go.Proofs.YtcoflhkcpnoaaaaGreatDoor
namespace Go.Proofs.YtcoflhkcpnoaaaaGreatDoor
open Go.AI Go.PN Go.ChangeShapes Go.WideShapes Go.RowKit
theorem rdr_rat2 : Rdr Tryz.prog 30 (fun r : RD => [CV.bool r.neg, ws true r.num, ws true r.den]) (fun r n => (r.num.length ≤ n ∧ ∀ x ∈ r.num, x < 4294967296) ∧ (r.den.length ≤ n ∧ ∀ x ∈ r.den, x < 4294967296)) := by
  have r := rdr_struct3 Tryz.underlying30 (s0 := 1) (s1 := 1) (s2 := 1) (by kernel_rfl) (by kernel_rfl) (by kernel_rfl) (by kernel_rfl) rfl rfl rfl (rdr_bool Tryz.underlying4) rdr_words rdr_words (fun _ _ _ h _ => h) (fun _ m n => wok_mono m n) (fun _ m n => wok_mono m n)
  exact r.to (fun y => ⟨y.1, y.2.1, y.2.2⟩) (fun _ => rfl) (fun _ _ h => ⟨h.2.1, h.2.2⟩)
def SB (y : SD) (n : Nat) : Prop := ((y.lo.num.length ≤ n ∧ ∀ x ∈ y.lo.num, x < 4294967296) ∧ (y.lo.den.length ≤ n ∧ ∀ x ∈ y.lo.den, x < 4294967296)) ∧ ((y.hi.num.length ≤ n ∧ ∀ x ∈ y.hi.num, x < 4294967296) ∧ (y.hi.den.length ≤ n ∧ ∀ x ∈ y.hi.den, x < 4294967296))
theorem SB.mono {y : SD} {m n : Nat} (h : SB y m) (hm : m ≤ n) : SB y n :=
  ⟨⟨wok_mono m n h.1.1 hm, wok_mono m n h.1.2 hm⟩, ⟨wok_mono m n h.2.1 hm, wok_mono m n h.2.2 hm⟩⟩
theorem rdr_span : Rdr Tryz.prog 32 (fun y : SD => spc y) SB := by
  have r := rdr_struct2 Tryz.underlying32 (s0 := 3) (s1 := 3) (by kernel_rfl) (by kernel_rfl) (by kernel_rfl) rfl rfl rdr_rat2 rdr_rat2 (fun _ m n h hm => ⟨wok_mono m n h.1 hm, wok_mono m n h.2 hm⟩) (fun _ m n h hm => ⟨wok_mono m n h.1 hm, wok_mono m n h.2 hm⟩)
  exact r.to (fun y => ⟨y.1, y.2⟩) (fun _ => rfl) (fun _ _ h => h)
theorem rdr_spans : Rdr Tryz.prog 25 (fun s : List SD => [sps false s]) (fun s n => s.length ≤ n ∧ ∀ y ∈ s, SB y n) :=
  (rdr_slice (B := SB) sd0 false Tryz.underlying25 (s := 6) (by kernel_rfl) (by omega) (fun _ _ _ h hm => h.mono hm) rdr_span).to id (fun _ => rfl) (fun _ _ h => h)
theorem swords_ok {s : List SD} {n : Nat} (h : ∀ y ∈ s, SB y n) : SWordsOk s := fun y hy => ⟨(h y hy).1.1.2, (h y hy).1.2.2, (h y hy).2.1.2, (h y hy).2.2.2⟩
theorem slens_ok {s : List SD} {n : Nat} (h : ∀ y ∈ s, SB y n) (hn : n ≤ 1099511627776) : SLensOk s := fun y hy => ⟨Nat.le_trans (h y hy).1.1.1 hn, Nat.le_trans (h y hy).1.2.1 hn, Nat.le_trans (h y hy).2.1.1 hn, Nat.le_trans (h y hy).2.2.1 hn⟩
def putCells (h : Array Obj) (g : Nat) (cs : Array Value) : Array Obj := h.modify g fun
  | .cells _ t frozen => .cells cs t frozen
  | o => o
def firstCells : Array Value := (Go.Pinned.utf8FirstZ.map fun (n : Nat) => Value.int .u8 (n : Int)).toArray
def acceptCells : Array Value := (([128, 191, 160, 191, 128, 159, 144, 191, 128, 143, 0, 0, 0, 0, 0, 0, 0, 0, 0, 0, 0, 0, 0, 0, 0, 0, 0, 0, 0, 0, 0, 0] : List Int).map fun n => Value.int .u8 n).toArray
noncomputable def laidWorld (os : Os) : World :=
  { World.holding Tryz.prog os ⟨#[], #[], []⟩ with heap := putCells (putCells (World.holding Tryz.prog os ⟨#[], #[], []⟩).heap 0 firstCells) 1 acceptCells }
end Go.Proofs.YtcoflhkcpnoaaaaGreatDoor
namespace Go.Proofs.YtcoflhkcpnoaaaaGreatDoor
open Go.AI Go.PN
attribute [local irreducible] aw Fa Fh DrK
theorem topQ_ex {f : FM} {s : List SD} (ok : UOk f s) (u : Nat) : topQ f s u = exQ (prP (endTo s u s.length)) s.length (fun t => evB (valF f t f.top)) := by
  have hl := ok.len
  have h := sumQ_ex (endTo s u s.length) (formTo f (2 ^ f.vars.toNat))
  rw [endTo_len] at h
  unfold topQ
  rw [h]
  refine ex_congr _ _ _ fun t ht => ?_
  rw [form_range, List.getD_eq_getElem?_getD, List.getElem?_map, List.getElem?_range (by rw [show f.vars.toNat = s.length from by omega]; exact ht)]
  rfl
theorem end_at {s : List SD} {u i n : Nat} (h : i < n) : prP (endTo s u n) i = if u.testBit i then (s.getD i sd0).hi.q else (s.getD i sd0).lo.q := by
  unfold prP endTo
  rw [List.getD_eq_getElem?_getD, List.getElem?_map, List.getElem?_range h]
  show (if u.testBit i then (s.getD i sd0).hi else (s.getD i sd0).lo).q = _
  split <;> rfl
end Go.Proofs.YtcoflhkcpnoaaaaGreatDoor
namespace Go.PN
open Go.AI
noncomputable def mnL (g : Nat → Rat) (p : Nat → Bool) : Nat → Rat
  | 0 => g 0
  | k + 1 => if p k then minQ (mnL g p k) (g k) else mnL g p k
noncomputable def mxL (g : Nat → Rat) (p : Nat → Bool) : Nat → Rat
  | 0 => g 0
  | k + 1 => if p k then maxQ (mxL g p k) (g k) else mxL g p k
theorem mnL_spec (g : Nat → Rat) (p : Nat → Bool) : ∀ k, (∀ i, i < k → p i = true → mnL g p k ≤ g i) ∧ ∃ i, (i = 0 ∨ i < k ∧ p i = true) ∧ mnL g p k = g i
  | 0 => ⟨fun i hi => absurd hi (by omega), 0, .inl rfl, rfl⟩
  | k + 1 => by
    obtain ⟨h1, j, h2, h3⟩ := mnL_spec g p k
    unfold mnL
    cases hp : p k
    · rw [if_neg (by simp)]
      refine ⟨fun i hi h => ?_, j, ?_, h3⟩
      · by_cases e : i = k
        · subst e; rw [hp] at h; cases h
        · exact h1 i (by omega) h
      · rcases h2 with h | ⟨h, h'⟩
        · exact .inl h
        · exact .inr ⟨by omega, h'⟩
    · rw [if_pos rfl]
      obtain ⟨m1, m2, m3⟩ := min_le (mnL g p k) (g k)
      refine ⟨fun i hi h => ?_, ?_⟩
      · by_cases e : i = k
        · subst e; exact m2
        · exact Rat.le_trans m1 (h1 i (by omega) h)
      · rcases m3 with h | h
        · refine ⟨j, ?_, h.trans h3⟩
          rcases h2 with h | ⟨h, h'⟩
          · exact .inl h
          · exact .inr ⟨by omega, h'⟩
        · exact ⟨k, .inr ⟨by omega, hp⟩, h⟩
theorem mxL_spec (g : Nat → Rat) (p : Nat → Bool) : ∀ k, (∀ i, i < k → p i = true → g i ≤ mxL g p k) ∧ ∃ i, (i = 0 ∨ i < k ∧ p i = true) ∧ mxL g p k = g i
  | 0 => ⟨fun i hi => absurd hi (by omega), 0, .inl rfl, rfl⟩
  | k + 1 => by
    obtain ⟨h1, j, h2, h3⟩ := mxL_spec g p k
    unfold mxL
    cases hp : p k
    · rw [if_neg (by simp)]
      refine ⟨fun i hi h => ?_, j, ?_, h3⟩
      · by_cases e : i = k
        · subst e; rw [hp] at h; cases h
        · exact h1 i (by omega) h
      · rcases h2 with h | ⟨h, h'⟩
        · exact .inl h
        · exact .inr ⟨by omega, h'⟩
    · rw [if_pos rfl]
      obtain ⟨m1, m2, m3⟩ := max_ge (mxL g p k) (g k)
      refine ⟨fun i hi h => ?_, ?_⟩
      · by_cases e : i = k
        · subst e; exact m2
        · exact Rat.le_trans (h1 i (by omega) h) m1
      · rcases m3 with h | h
        · refine ⟨j, ?_, h.trans h3⟩
          rcases h2 with h | ⟨h, h'⟩
          · exact .inl h
          · exact .inr ⟨by omega, h'⟩
        · exact ⟨k, .inr ⟨by omega, hp⟩, h⟩
theorem mnL_eq {g h : Nat → Rat} {p q : Nat → Bool} {a b : Nat} (h1 : ∀ i, (i = 0 ∨ i < a ∧ p i = true) → ∃ j, j < b ∧ q j = true ∧ h j = g i) (h2 : ∀ j, (j = 0 ∨ j < b ∧ q j = true) → ∃ i, i < a ∧ p i = true ∧ g i = h j) : mnL g p a = mnL h q b := by
  obtain ⟨a1, i, a2, a3⟩ := mnL_spec g p a
  obtain ⟨b1, j, b2, b3⟩ := mnL_spec h q b
  obtain ⟨j', x1, x2, x3⟩ := h1 i a2
  obtain ⟨i', y1, y2, y3⟩ := h2 j b2
  have := b1 j' x1 x2
  have := a1 i' y1 y2
  grind
theorem mxL_eq {g h : Nat → Rat} {p q : Nat → Bool} {a b : Nat} (h1 : ∀ i, (i = 0 ∨ i < a ∧ p i = true) → ∃ j, j < b ∧ q j = true ∧ h j = g i) (h2 : ∀ j, (j = 0 ∨ j < b ∧ q j = true) → ∃ i, i < a ∧ p i = true ∧ g i = h j) : mxL g p a = mxL h q b := by
  obtain ⟨a1, i, a2, a3⟩ := mxL_spec g p a
  obtain ⟨b1, j, b2, b3⟩ := mxL_spec h q b
  obtain ⟨j', x1, x2, x3⟩ := h1 i a2
  obtain ⟨i', y1, y2, y3⟩ := h2 j b2
  have := b1 j' x1 x2
  have := a1 i' y1 y2
  grind
def opB (s : List SD) (i : Nat) : Bool := signQ ((s.getD i sd0).lo.q - (s.getD i sd0).hi.q) != 0
theorem opB_eq (s : List SD) (i : Nat) : opB s i = !decide ((s.getD i sd0).lo.q = (s.getD i sd0).hi.q) := signQ_zero
def opTo (s : List SD) : Nat → List Nat
  | 0 => []
  | k + 1 => if opB s k then opTo s k ++ [k] else opTo s k
theorem opTo_len (s : List SD) : ∀ k, (opTo s k).length ≤ k
  | 0 => Nat.le_refl 0
  | k + 1 => by
    have := opTo_len s k
    unfold opTo
    split
    · rw [List.length_append]; simp; exact this
    · omega
theorem opTo_mem (s : List SD) : ∀ k i, i ∈ opTo s k ↔ i < k ∧ opB s i = true
  | 0, i => by simp [opTo]
  | k + 1, i => by
    have := opTo_mem s k i
    unfold opTo
    by_cases hb : opB s k = true
    · rw [if_pos hb, List.mem_append, this, List.mem_singleton]
      constructor
      · rintro (⟨h1, h2⟩ | rfl)
        · exact ⟨by omega, h2⟩
        · exact ⟨by omega, hb⟩
      · rintro ⟨h1, h2⟩
        by_cases e : i = k
        · exact .inr e
        · exact .inl ⟨by omega, h2⟩
    · rw [if_neg hb, this]
      constructor
      · rintro ⟨h1, h2⟩; exact ⟨by omega, h2⟩
      · rintro ⟨h1, h2⟩
        have : i ≠ k := fun e => by subst e; exact hb h2
        exact ⟨by omega, h2⟩
def upp (op : List Nat) (c : Nat) : Nat → Nat
  | 0 => 0
  | k + 1 => if c.testBit k then upp op c k ||| 2 ^ op.getD k 0 else upp op c k
theorem upp_bit (op : List Nat) (c i : Nat) : ∀ k, (upp op c k).testBit i = true ↔ ∃ j, j < k ∧ c.testBit j = true ∧ op.getD j 0 = i
  | 0 => by simp [upp]
  | k + 1 => by
    have := upp_bit op c i k
    unfold upp
    cases hc : c.testBit k
    · rw [if_neg (by simp), this]
      constructor
      · rintro ⟨j, h1, h2⟩; exact ⟨j, by omega, h2⟩
      · rintro ⟨j, h1, h2, h3⟩
        have : j ≠ k := fun e => by subst e; rw [hc] at h2; cases h2
        exact ⟨j, by omega, h2, h3⟩
    · rw [if_pos rfl, Nat.testBit_or, Bool.or_eq_true, this]
      constructor
      · rintro (⟨j, h1, h2⟩ | h)
        · exact ⟨j, by omega, h2⟩
        · rw [Nat.testBit_two_pow] at h
          exact ⟨k, by omega, hc, of_decide_eq_true h⟩
      · rintro ⟨j, h1, h2, h3⟩
        by_cases e : j = k
        · subst e
          right
          rw [Nat.testBit_two_pow]
          exact decide_eq_true h3
        · exact .inl ⟨j, by omega, h2, h3⟩
theorem upp_lt {op : List Nat} {n : Nat} (h : ∀ i ∈ op, i < n) (c : Nat) : ∀ k, k ≤ op.length → upp op c k < 2 ^ n := fun k hk =>
  Nat.lt_pow_two_of_testBit _ fun i hi => by
    cases hb : (upp op c k).testBit i
    · rfl
    · obtain ⟨j, h1, _, h3⟩ := (upp_bit op c i k).1 hb
      rw [List.getD_eq_getElem?_getD, List.getElem?_eq_getElem (show j < op.length by omega)] at h3
      have := h _ (List.getElem_mem (show j < op.length by omega))
      have e : op[j] = i := h3
      omega
def chc (op : List Nat) (u : Nat) : Nat → Nat
  | 0 => 0
  | k + 1 => if u.testBit (op.getD k 0) then chc op u k ||| 2 ^ k else chc op u k
theorem chc_bit (op : List Nat) (u j : Nat) : ∀ k, (chc op u k).testBit j = (decide (j < k) && u.testBit (op.getD j 0))
  | 0 => by simp [chc]
  | k + 1 => by
    have := chc_bit op u j k
    unfold chc
    by_cases e : j = k
    · subst e
      have h0 : (chc op u j).testBit j = false := by rw [this]; simp
      cases hb : u.testBit (op.getD j 0)
      · rw [if_neg (by simp), h0]; simp
      · rw [if_pos rfl, Nat.testBit_or, h0, Nat.testBit_two_pow_self]; simp
    · have h1 : decide (j < k + 1) = decide (j < k) := by
        by_cases h : j < k
        · rw [decide_eq_true h, decide_eq_true (by omega)]
        · rw [decide_eq_false h, decide_eq_false (by omega)]
      rw [h1]
      cases hb : u.testBit (op.getD k 0)
      · rw [if_neg (by simp), this]
      · rw [if_pos rfl, Nat.testBit_or, this, Nat.testBit_two_pow_of_ne (by omega), Bool.or_false]
theorem chc_lt (op : List Nat) (u k : Nat) : chc op u k < 2 ^ k := Nat.lt_pow_two_of_testBit _ fun i hi => by rw [chc_bit]; simp; omega
theorem ex_congrP {p q : Nat → Rat} : ∀ (m : Nat) (g : Nat → Rat), (∀ i, i < m → p i = q i) → exQ p m g = exQ q m g
  | 0, g, _ => rfl
  | m + 1, g, h => by rw [exQ, exQ, ex_congrP m g fun i hi => h i (by omega), ex_congrP m (fun s => g (s + 2 ^ m)) fun i hi => h i (by omega), h m (by omega)]
end Go.PN
namespace Go.Proofs.YtcoflhkcpnoaaaaGreatDoor
open Go.AI Go.PN
theorem topQ_congr {f : FM} {s : List SD} (ok : UOk f s) {u v : Nat} (h : ∀ i, i < s.length → opB s i = true → u.testBit i = v.testBit i) : topQ f s u = topQ f s v := by
  rw [topQ_ex ok, topQ_ex ok]
  refine ex_congrP _ _ fun i hi => ?_
  rw [end_at hi, end_at hi]
  by_cases hb : opB s i = true
  · rw [h i hi hb]
  · rw [opB_eq] at hb
    have e : (s.getD i sd0).lo.q = (s.getD i sd0).hi.q := by simpa using hb
    rw [e]
    split <;> split <;> rfl
noncomputable def vloQ (f : FM) (s : List SD) : Rat := mnL (topQ f s) (fun _ => true) (2 ^ s.length)
noncomputable def vhiQ (f : FM) (s : List SD) : Rat := mxL (topQ f s) (fun _ => true) (2 ^ s.length)
theorem two_pos (n : Nat) : 0 < 2 ^ n := Nat.two_pow_pos n
theorem vlo_spec (f : FM) (s : List SD) : (∀ u, u < 2 ^ s.length → vloQ f s ≤ topQ f s u) ∧ ∃ u, u < 2 ^ s.length ∧ vloQ f s = topQ f s u := by
  obtain ⟨h1, i, h2, h3⟩ := mnL_spec (topQ f s) (fun _ => true) (2 ^ s.length)
  have := two_pos s.length
  exact ⟨fun u hu => h1 u hu rfl, i, by omega, h3⟩
theorem vhi_spec (f : FM) (s : List SD) : (∀ u, u < 2 ^ s.length → topQ f s u ≤ vhiQ f s) ∧ ∃ u, u < 2 ^ s.length ∧ vhiQ f s = topQ f s u := by
  obtain ⟨h1, i, h2, h3⟩ := mxL_spec (topQ f s) (fun _ => true) (2 ^ s.length)
  have := two_pos s.length
  exact ⟨fun u hu => h1 u hu rfl, i, by omega, h3⟩
theorem choice_of {f : FM} {s : List SD} (ok : UOk f s) (u : Nat) : ∃ c, c < 2 ^ (opTo s s.length).length ∧ topQ f s (upp (opTo s s.length) c (opTo s s.length).length) = topQ f s u := by
  refine ⟨chc (opTo s s.length) u (opTo s s.length).length, chc_lt _ _ _, topQ_congr ok fun i hi hb => ?_⟩
  have hm : i ∈ opTo s s.length := (opTo_mem s _ i).2 ⟨hi, hb⟩
  obtain ⟨j, hj, e⟩ := List.mem_iff_getElem.1 hm
  have eg : (opTo s s.length).getD j 0 = i := by rw [List.getD_eq_getElem?_getD, List.getElem?_eq_getElem hj]; exact e
  have hb := upp_bit (opTo s s.length) (chc (opTo s s.length) u (opTo s s.length).length) i (opTo s s.length).length
  cases hu : u.testBit i
  · cases hx : (upp (opTo s s.length) (chc (opTo s s.length) u (opTo s s.length).length) (opTo s s.length).length).testBit i
    · rfl
    · obtain ⟨j', _, h2, h3⟩ := hb.1 hx
      rw [chc_bit, h3, hu] at h2
      simp at h2
  · exact hb.2 ⟨j, hj, by rw [chc_bit, eg, hu, decide_eq_true hj]; rfl, eg⟩
theorem upp_fits (s : List SD) (c k : Nat) (hk : k ≤ (opTo s s.length).length) : upp (opTo s s.length) c k < 2 ^ s.length := upp_lt (fun i hi => ((opTo_mem s _ i).1 hi).1) c k hk
theorem vlo_choice {f : FM} {s : List SD} (ok : UOk f s) : mnL (fun c => topQ f s (upp (opTo s s.length) c (opTo s s.length).length)) (fun _ => true) (2 ^ (opTo s s.length).length) = vloQ f s := by
  have hp := two_pos s.length
  have hq := two_pos (opTo s s.length).length
  refine mnL_eq (fun i hi => ?_) fun j hj => ?_
  · exact ⟨_, upp_fits s i _ (Nat.le_refl _), rfl, rfl⟩
  · obtain ⟨c, h1, h2⟩ := choice_of ok j
    exact ⟨c, h1, rfl, h2⟩
theorem vhi_choice {f : FM} {s : List SD} (ok : UOk f s) : mxL (fun c => topQ f s (upp (opTo s s.length) c (opTo s s.length).length)) (fun _ => true) (2 ^ (opTo s s.length).length) = vhiQ f s := by
  have hp := two_pos s.length
  have hq := two_pos (opTo s s.length).length
  refine mxL_eq (fun i hi => ?_) fun j hj => ?_
  · exact ⟨_, upp_fits s i _ (Nat.le_refl _), rfl, rfl⟩
  · obtain ⟨c, h1, h2⟩ := choice_of ok j
    exact ⟨c, h1, rfl, h2⟩
end Go.Proofs.YtcoflhkcpnoaaaaGreatDoor
namespace Go.AI
section
variable {E : Env} {K : List It} {σ : Sl}
theorem aw_conv2 {x : Nat × AObj} {g n : Nat} {ty : TypeId} {f f' : Nat → CV} {h : Heap} (hf : ∀ j, j < n → f j = f' j) (k : aw E K σ (x :: (g, .cells ty n f') :: h)) : aw E K σ (x :: (g, .cells ty n f) :: h) := fun a w s => by
  refine k a w ⟨s.size, s.defers, s.slots, fun g' o' hm => ?_, s.nodup, s.keys, s.frame⟩
  rcases List.mem_cons.1 hm with e | hm
  · exact s.heap g' o' (List.mem_cons.2 (.inl e))
  · rcases List.mem_cons.1 hm with e | hm
    · injection e with e1 e2
      subst e1 e2
      exact ORep.cong hf (s.heap _ _ (List.mem_cons_of_mem _ (List.mem_cons_self ..)))
    · exact s.heap g' o' (List.mem_cons_of_mem _ (List.mem_cons_of_mem _ hm))
theorem aw_conv3 {x y : Nat × AObj} {g n : Nat} {ty : TypeId} {f f' : Nat → CV} {h : Heap} (hf : ∀ j, j < n → f j = f' j) (k : aw E K σ (x :: y :: (g, .cells ty n f') :: h)) : aw E K σ (x :: y :: (g, .cells ty n f) :: h) := fun a w s => by
  refine k a w ⟨s.size, s.defers, s.slots, fun g' o' hm => ?_, s.nodup, s.keys, s.frame⟩
  rcases List.mem_cons.1 hm with e | hm
  · exact s.heap g' o' (List.mem_cons.2 (.inl e))
  · rcases List.mem_cons.1 hm with e | hm
    · exact s.heap g' o' (List.mem_cons_of_mem _ (List.mem_cons.2 (.inl e)))
    · rcases List.mem_cons.1 hm with e | hm
      · injection e with e1 e2
        subst e1 e2
        exact ORep.cong hf (s.heap _ _ (List.mem_cons_of_mem _ (List.mem_cons_of_mem _ (List.mem_cons_self ..))))
      · exact s.heap g' o' (List.mem_cons_of_mem _ (List.mem_cons_of_mem _ (List.mem_cons_of_mem _ hm)))
end
end Go.AI
namespace Go.PN
open Go.AI
theorem nlo_le (s : SD) : nlo s ≤ nhi s := by
  unfold nlo nhi
  cases h : validS s
  · simp only [Bool.false_eq_true, if_false]; exact Rat.le_refl
  · simp only [if_true]; exact valid_le h
abbrev ptS (x : Rat) : SD := ⟨rd x, rd x⟩
theorem hull_lo {a b : Rat} {c d : Rat} (h1 : a ≤ b) (h2 : c ≤ d) : mnF a [rd b, rd c, rd d] = minQ a c := by
  show minQ (minQ (minQ a (rd b).q) (rd c).q) (rd d).q = _
  rw [rd_q, rd_q, rd_q, min_of_le h1]
  obtain ⟨m1, m2, m3⟩ := min_le a c
  exact min_of_le (Rat.le_trans m2 h2)
theorem hull_hi {a b : Rat} {c d : Rat} (h1 : a ≤ b) (h2 : c ≤ d) : mxF a [rd b, rd c, rd d] = maxQ b d := by
  show maxQ (maxQ (maxQ a (rd b).q) (rd c).q) (rd d).q = _
  rw [rd_q, rd_q, rd_q, max_of_le h1]
  obtain ⟨m1, m2, m3⟩ := max_ge b c
  obtain ⟨n1, n2, n3⟩ := max_ge (maxQ b c) d
  obtain ⟨k1, k2, k3⟩ := max_ge b d
  grind
theorem rd_validS {a b : Rat} (h : a ≤ b) : validS ⟨rd a, rd b⟩ = true := by
  unfold validS
  rw [rd_valid, rd_valid, rd_q, rd_q, signQ_le, decide_eq_true (by grind)]; rfl
theorem rd_nlo {a b : Rat} (h : a ≤ b) : nlo ⟨rd a, rd b⟩ = a := by unfold nlo; rw [if_pos (rd_validS h), rd_q]
theorem rd_nhi {a b : Rat} (h : a ≤ b) : nhi ⟨rd a, rd b⟩ = b := by unfold nhi; rw [if_pos (rd_validS h), rd_q]
end Go.PN
namespace Go.Proofs.YtcoflhkcpnoaaaaGreatDoor
open Go.AI Go.PN
attribute [local irreducible] aw Fa Fh DrK
set_option maxHeartbeats 1600000 in
theorem sppoint_fa (x : RD) (hw : x.wf 100000) : Fa Tryz.prog 33 [.agg (rdc x)] (.agg (spc (ptS x.q))) := by
  have ho := spof_fa x [] hw (by simp) (by simp)
  refine fa_of_body Tryz.func33 rfl rfl (by simp [Tryz.ntmps33]) fun C hC => ?_
  simp only [initS, Nat.reduceAdd]
  refine xG ?_
  refine xB fun g1 hn_g1=>?_
  refine yA hn_g1 fun g2 hn_g2=>?_
  refine yG (oj hn_g1 hn_g2) ?_
  refine aw_buildSlice (xs := [.tmp 3]) (cells := rdc x) rfl (zE (oj hn_g1 hn_g2)) rfl (zE (oj hn_g1 hn_g2)) (by refine yS (oj hn_g1 hn_g2) ?_; rfl) rfl (by omega) (by omega) (by intro x hx; simp only [List.mem_singleton] at hx; subst hx; exact ⟨rfl, rfl, rfl⟩) rfl fun g9 hn_g9 => ?_
  replace hn_g9 := Heap.ne_of hn_g9
  dsimp only [Heap.ne] at hn_g9
  refine yS (oj hn_g1 (oj hn_g2 hn_g9)) ?_
  refine aw_frzT (t := 4) (ratsF [x]) (zE (oj hn_g1 (oj hn_g2 hn_g9))) (zE (oj hn_g1 (oj hn_g2 hn_g9))) (by omega) (hC g9) (fun q hq => by match q, hq with | 0, _ => rfl | 1, _ => rfl | 2, _ => rfl) rfl (zE (oj hn_g1 (oj hn_g2 hn_g9))) ?_
  refine yS (oj hn_g1 (oj hn_g2 hn_g9)) ?_
  refine yG (oj hn_g1 (oj hn_g2 hn_g9)) ?_
  refine yC (oj hn_g1 (oj hn_g2 hn_g9)) (ho) ?_
  refine yG (oj hn_g1 (oj hn_g2 hn_g9)) ?_
  refine yW (oj hn_g1 (oj hn_g2 hn_g9)) ?_
  refine yS (oj hn_g1 (oj hn_g2 hn_g9)) ?_
  refine yG (oj hn_g1 (oj hn_g2 hn_g9)) ?_
  refine yT hC (oj hn_g1 (oj hn_g2 hn_g9)) ?_
  show LeRA _ (.agg (spc (ptS x.q))) _
  exact ler_sp rfl
set_option maxRecDepth 100000 in
set_option maxHeartbeats 3200000 in
theorem sphull_fa (a b : SD) (ha : a.wf 100000) (hb : b.wf 100000) : Fa Tryz.prog 34 [.agg (spc a), .agg (spc b)] (.agg (spc ⟨rd (minQ (nlo a) (nlo b)), rd (maxQ (nhi a) (nhi b))⟩)) := by
  obtain ⟨f1, f2⟩ := norm_fits (by omega) ha
  obtain ⟨f3, f4⟩ := norm_fits (by omega) hb
  have na : Fa Tryz.prog 55 [.agg (spc a)] (.agg (spc ⟨rd (nlo a), rd (nhi a)⟩)) := norm_fa a ha
  have nb : Fa Tryz.prog 55 [.agg (spc b)] (.agg (spc ⟨rd (nlo b), rd (nhi b)⟩)) := norm_fa b hb
  have ho := spof_fa (rd (nlo a)) [rd (nhi a), rd (nlo b), rd (nhi b)] (rd_wf f1) (by intro r hr; simp only [List.mem_cons, List.not_mem_nil, or_false] at hr; rcases hr with rfl | rfl | rfl <;> exact rd_wf (by assumption)) (by simp)
  rw [rd_q, hull_lo (nlo_le a) (nlo_le b), hull_hi (nlo_le a) (nlo_le b)] at ho
  refine fa_of_body Tryz.func34 rfl rfl (by simp [Tryz.ntmps34]) fun C hC => ?_
  simp only [initS, Nat.reduceAdd]
  refine xG ?_
  refine xB fun g2 hn_g2=>?_
  refine yB hn_g2 fun g3 hn_g3=>?_
  refine yA (oj hn_g2 hn_g3) fun g4 hn_g4=>?_
  refine yG (oj hn_g2 (oj hn_g3 hn_g4)) ?_
  generalize nlo a = A at *
  generalize nlo b = B at *
  generalize nhi a = C at *
  generalize nhi b = D at *
  refine aw_cw ([(g2, .cells 32 6 (ofL (spc a))), (g3, .cells 32 6 (ofL (spc b)))]) [(0,0),(1,0),(2,0),(3,0),(4,2),(5,1)] ty_mixed (by kernel_rfl) eI ?_
  refine yG (oj hn_g2 (oj hn_g3 hn_g4)) ?_
  refine cw_callq rfl na rfl rfl rfl (fun _ _ => (zL (oj hn_g2 (oj hn_g3 hn_g4)))) ?_
  refine yS (oj hn_g2 (oj hn_g3 hn_g4)) ?_
  refine yG (oj hn_g2 (oj hn_g3 hn_g4)) ?_
  refine cw_callq rfl nb rfl rfl rfl (fun _ _ => (zL (oj hn_g2 (oj hn_g3 hn_g4)))) ?_
  refine yS (oj hn_g2 (oj hn_g3 hn_g4)) ?_
  refine yG (oj hn_g2 (oj hn_g3 hn_g4)) ?_
  refine cw_store (FP' := []) rfl rfl rfl rfl rfl (zE (oj hn_g2 (oj hn_g3 hn_g4))) (zE (oj hn_g2 (oj hn_g3 hn_g4))) (zE (oj hn_g2 (oj hn_g3 hn_g4))) (zE (oj hn_g2 (oj hn_g3 hn_g4))) (fun _ e => by cases e) rfl rfl (by show 0 + 6 ≤ 6; omega) (zE (oj hn_g2 (oj hn_g3 hn_g4))) has0_nil ?_
  refine yS (oj hn_g2 (oj hn_g3 hn_g4)) ?_
  refine cw_store rfl rfl rfl rfl rfl (zE (oj hn_g2 (oj hn_g3 hn_g4))) (zE (oj hn_g2 (oj hn_g3 hn_g4))) (zE (oj hn_g2 (oj hn_g3 hn_g4))) (zE (oj hn_g2 (oj hn_g3 hn_g4))) (fun _ e => by cases e) rfl rfl (by show 0 + 6 ≤ 6; omega) (zE (oj hn_g2 (oj hn_g3 hn_g4))) has0_nil ?_ (hm := .inr ⟨rfl, rfl⟩)
  refine yS (oj hn_g2 (oj hn_g3 hn_g4)) ?_
  refine yG (oj hn_g2 (oj hn_g3 hn_g4)) ?_
  refine aw_conv3 (f' := ofL (spc ⟨rd A, rd C⟩)) (fun j hj => by match j, hj with | 0, _ => rfl | 1, _ => rfl | 2, _ => rfl | 3, _ => rfl | 4, _ => rfl | 5, _ => rfl) ?_
  refine aw_conv2 (f' := ofL (spc ⟨rd B, rd D⟩)) (fun j hj => by match j, hj with | 0, _ => rfl | 1, _ => rfl | 2, _ => rfl | 3, _ => rfl | 4, _ => rfl | 5, _ => rfl) ?_
  refine yG (oj hn_g2 (oj hn_g3 hn_g4)) ?_
  refine aw_buildSlice (xs := [.tmp 10, .tmp 12, .tmp 14, .tmp 16]) (cells := rdc (rd A) ++ rdc (rd C) ++ rdc (rd B) ++ rdc (rd D)) rfl (zE (oj hn_g2 (oj hn_g3 hn_g4))) rfl (zE (oj hn_g2 (oj hn_g3 hn_g4))) (by refine yS (oj hn_g2 (oj hn_g3 hn_g4)) ?_; rfl) rfl (by omega) (by omega) (by intro x hx; simp only [List.mem_cons, List.not_mem_nil, or_false] at hx; rcases hx with rfl | rfl | rfl | rfl <;> exact ⟨rfl, rfl, rfl⟩) rfl fun g9 hn_g9 => ?_
  replace hn_g9 := Heap.ne_of hn_g9
  dsimp only [Heap.ne] at hn_g9
  refine yS (oj hn_g2 (oj hn_g3 (oj hn_g4 hn_g9))) ?_
  refine aw_frzT (t := 17) (ratsF [rd A, rd C, rd B, rd D]) (zE (oj hn_g2 (oj hn_g3 (oj hn_g4 hn_g9)))) (zE (oj hn_g2 (oj hn_g3 (oj hn_g4 hn_g9)))) (by omega) (hC g9) (fun q hq => by match q, hq with | 0, _ => rfl | 1, _ => rfl | 2, _ => rfl | 3, _ => rfl | 4, _ => rfl | 5, _ => rfl | 6, _ => rfl | 7, _ => rfl | 8, _ => rfl | 9, _ => rfl | 10, _ => rfl | 11, _ => rfl) rfl (zE (oj hn_g2 (oj hn_g3 (oj hn_g4 hn_g9)))) ?_
  refine yS (oj hn_g2 (oj hn_g3 (oj hn_g4 hn_g9))) ?_
  refine yG (oj hn_g2 (oj hn_g3 (oj hn_g4 hn_g9))) ?_
  refine yC (oj hn_g2 (oj hn_g3 (oj hn_g4 hn_g9))) (ho) ?_
  refine yG (oj hn_g2 (oj hn_g3 (oj hn_g4 hn_g9))) ?_
  refine yW (oj hn_g2 (oj hn_g3 (oj hn_g4 hn_g9))) ?_
  refine yS (oj hn_g2 (oj hn_g3 (oj hn_g4 hn_g9))) ?_
  refine yG (oj hn_g2 (oj hn_g3 (oj hn_g4 hn_g9))) ?_
  refine yT hC (oj hn_g2 (oj hn_g3 (oj hn_g4 hn_g9))) ?_
  show LeRA _ (.agg (spc ⟨rd (minQ A B), rd (maxQ C D)⟩)) _
  exact ler_sp rfl
end Go.Proofs.YtcoflhkcpnoaaaaGreatDoor
