/- Parts of one proof, laid by a program. -/
import Derived.Test.YtnmeahogifekdaaGreatDoorM00
import Derived.Test.YtnmeahogifekdaaGreatDoorM14
import Derived.Test.YtnmeahogifekdaaGreatDoorM15
set_option linter.unusedSimpArgs false
set_option linter.unusedVariables false
set_option maxRecDepth 100000
set_option maxHeartbeats 12800000
namespace Go.Proofs.YtnmeahogifekdaaGreatDoor
open Go.AI Go.PN
attribute [local irreducible] aw Fa Fh DrK
theorem lawPrBack_fa (m:MdD) {n:Nat} (hu:MdU n m) (hn:n≤1048576):Fa Tryz.prog 3 [.agg (mdc true m)] (.c (.bool true)):=by
 have f0:=awake24_fa
 have f1:=light_fa m hu hn
 have e0:errA 0=.nilI:=if_pos rfl
 by_cases hl:lightB m=true
 ·have ho:=light_o hl hu hn
  have f2:=check_fa m ho
  rw [hl] at f1
  by_cases h0:mcC m=0
  ·have f3:=ptext_fa m ho (fun h=>mdP_of ho h)
   rw [if_neg (fun h=>h h0)] at f3
   rw [h0,e0] at f2
   unfold textR at f3
   by_cases hx:longX m=true∨(textX m).length>65536
   ·rw [if_pos hx] at f3
    have f4:=is_fa 4 4 (by decide)
    refine fa_of_body Tryz.func3 rfl rfl (by simp [Tryz.ntmps3]) fun C hC=> ?_
    simp only [initS,Nat.reduceAdd]
    repeat' first|refine zV o0 ?_|refine zH o0 (fun hb=>?_) fun hb=>?_|fail
    refine xB fun g1 hn_g1=>?_
    repeat' first|refine zV hn_g1 ?_|(refine yC2 hn_g1 (f0) ?_)|(refine yD2 hn_g1 (f0) ?_)|(refine yC2 hn_g1 (f1) ?_)|(refine yD2 hn_g1 (f1) ?_)|(refine yC2 hn_g1 (f2) ?_)|(refine yD2 hn_g1 (f2) ?_)|(refine yC2 hn_g1 (f3) ?_)|(refine yD2 hn_g1 (f3) ?_)|(refine yC2 hn_g1 (f4) ?_)|(refine yD2 hn_g1 (f4) ?_)|refine zH hn_g1 (fun hb=>?_) fun hb=>?_|fail
    ·refine yT hC hn_g1 ?_
     exact .one (.c (ler_bool (by simp)))
    ·exact absurd rfl hb
   ·rw [if_neg hx] at f3
    dsimp only at f3
    rw [e0] at f3
    have hl2:longX m=false:=by
     refine Bool.of_not_eq_true fun e=>hx (.inl e)
    have hl3:(textX m).length≤65536:=Nat.le_of_not_lt fun e=>hx (.inr e)
    have f4:=pm_fa (textX m) om
    rw [text_back ho h0 hl2 hl3] at f4
    dsimp only at f4
    rw [e0] at f4
    have f5:=same_fa m m ho ho
    refine fa_of_body Tryz.func3 rfl rfl (by simp [Tryz.ntmps3]) fun C hC=> ?_
    simp only [initS,Nat.reduceAdd]
    repeat' first|refine zV o0 ?_|refine zH o0 (fun hb=>?_) fun hb=>?_|fail
    refine xB fun g1 hn_g1=>?_
    repeat' first|refine zV hn_g1 ?_|(refine yC2 hn_g1 (f0) ?_)|(refine yD2 hn_g1 (f0) ?_)|(refine yC2 hn_g1 (f1) ?_)|(refine yD2 hn_g1 (f1) ?_)|(refine yC2 hn_g1 (f2) ?_)|(refine yD2 hn_g1 (f2) ?_)|(refine yC2 hn_g1 (f3) ?_)|(refine yD2 hn_g1 (f3) ?_)|(refine yC2 hn_g1 (f4) ?_)|(refine yD2 hn_g1 (f4) ?_)|refine zH hn_g1 (fun hb=>?_) fun hb=>?_|fail
    refine yA hn_g1 fun g5 hn_g5=>?_
    all_goals try(have Z:=(oj hn_g1 hn_g5);(repeat' first|refine zV Z ?_|(refine yC2 Z (f3) ?_)|(refine yD2 Z (f3) ?_)|(refine yC2 Z (f5) ?_)|(refine yD2 Z (f5) ?_)|refine zH Z (fun hb=>?_) fun hb=>?_|fail);all_goals clear Z)
    ·refine yT hC (oj hn_g1 hn_g5) ?_
     exact .one (.c (ler_bool (by simp)))
    ·exact absurd rfl hb
  ·have hc:(!decide (mcC m=0))=true:=by rw [decide_eq_false h0];rfl
   refine fa_of_body Tryz.func3 rfl rfl (by simp [Tryz.ntmps3]) fun C hC=> ?_
   simp only [initS,Nat.reduceAdd]
   repeat' first|refine zV o0 ?_|refine zH o0 (fun hb=>?_) fun hb=>?_|fail
   refine xB fun g1 hn_g1=>?_
   all_goals try(have Z:=(oj hn_g1 hc);(repeat' first|refine zV Z ?_|(refine yC2 Z (f0) ?_)|(refine yD2 Z (f0) ?_)|(refine yC2 Z (f1) ?_)|(refine yD2 Z (f1) ?_)|(refine yC2 Z (f2) ?_)|(refine yD2 Z (f2) ?_)|refine zH Z (fun hb=>?_) fun hb=>?_|fail);all_goals clear Z)
   refine yT hC (oj hn_g1 hc) ?_
   exact .one (.c (.bool _))
 ·have hl':lightB m=false:=by simpa using hl
  rw [hl'] at f1
  refine fa_of_body Tryz.func3 rfl rfl (by simp [Tryz.ntmps3]) fun C hC=> ?_
  simp only [initS,Nat.reduceAdd]
  repeat' first|refine zV o0 ?_|refine zH o0 (fun hb=>?_) fun hb=>?_|fail
  refine xB fun g1 hn_g1=>?_
  repeat' first|refine zV hn_g1 ?_|(refine yC2 hn_g1 (f0) ?_)|(refine yD2 hn_g1 (f0) ?_)|(refine yC2 hn_g1 (f1) ?_)|(refine yD2 hn_g1 (f1) ?_)|refine zH hn_g1 (fun hb=>?_) fun hb=>?_|fail
  refine yT hC hn_g1 ?_
  exact .one (.c (.bool _))
end Go.Proofs.YtnmeahogifekdaaGreatDoor
