/- Parts of one proof, laid by a program. -/
import Derived.Test.YtnmeahogifekdaaGreatDoorM00
import Derived.Test.YtnmeahogifekdaaGreatDoorM14
import Derived.ShutString
set_option linter.unusedSimpArgs false
set_option linter.unusedVariables false
set_option maxRecDepth 100000
set_option maxHeartbeats 12800000
namespace Go.Proofs.YtnmeahogifekdaaGreatDoor
open Go.AI Go.PN Go.ChangeShapes Go.WideShapes Go.RowKit
section
variable {H : Type} {enc : TypeId × Value → H} {P : Program}
theorem arg_cell {α:Type} {c:α→CV} {B:α→Nat→Prop} {t:TypeId} (hr:Rdr P t (fun y=>[c y]) B) {W:World} {v:Value} {d:DataW H} {p:List MemPlace} (hv:v.cells= #[v]) (h:DataW.Trod enc P W 0 (fun _=>true) true t v d p):
  ∃y,Rep0 (AllB W) W (.c (c y)) v∧B y (Rows.uptoBulk d):=by
 obtain⟨fuel,hf⟩:=h
 rw [hv] at hf
 obtain⟨y,h1,h2⟩:=hr H enc W fuel _ _ hf
 exact⟨y,h1.1,h2⟩
end
theorem okWide_str {P:Program} {W:World} {r:Reach} {base:Nat} {t:TypeId} {v:Value} (ht:P.underlying t=some .string) (h:Value.okWide P W r base t v):∃s,v=.string s:=by
 simp only [Value.okWide,ht,Cell.okWide] at h
 cases v<;>simp_all [Cell.ok]
end Go.Proofs.YtnmeahogifekdaaGreatDoor
namespace Go.PN
open Go.AI
theorem modelP_ck {ck:MdD→Int} {l:BS} (h:(modelP ck l).2=0):(splitS l).1=0∧(readS ⟨(splitS l).2,0⟩).2.e=0∧ck (readS ⟨(splitS l).2,0⟩).1=0∧(modelP ck l).1=(readS ⟨(splitS l).2,0⟩).1:=by
 unfold modelP at h⊢
 dsimp only at h⊢
 split at h
 ·rename_i e;exact absurd h e
 rename_i e1
 rw [if_neg e1]
 split at h
 ·rename_i e;exact absurd h e
 rename_i e2
 rw [if_neg e2]
 split at h
 ·rename_i e;exact absurd h e
 rename_i e3
 rw [if_neg e3]
 exact⟨Decidable.not_not.1 e1,Decidable.not_not.1 e2,Decidable.not_not.1 e3,rfl⟩
end Go.PN

namespace Go.Proofs.YtnmeahogifekdaaGreatDoor
open Go.AI Go.PN
attribute [local irreducible] aw Fa Fh DrK
theorem lawPrRead_fa (l:BS) (hl:l.length≤1048576):Fa Tryz.prog 4 [.c (.str (sB l))] (.c (.bool true)):=by
 have f0:=awake24_fa
 have f1:=pm_fa l om
 have ho:=modelP_o mcC l
 have hk:=modelP_ck (ck:=mcC) (l:=l)
 generalize hM:modelP mcC l=M at*
 obtain⟨m,c⟩:=M
 dsimp only at*
 have e0:errA 0=.nilI:=if_pos rfl
 refine fa_of_body Tryz.func4 rfl rfl (by simp [Tryz.ntmps4]) fun C hC=> ?_
 simp only [initS,Nat.reduceAdd]
 repeat' first|refine zV o0 ?_|(refine yC2 o0 (f0) ?_)|(refine yD2 o0 (f0) ?_)|refine zH o0 (fun hb=>?_) fun hb=>?_|fail
 ·repeat' first|refine zV o0 ?_|(refine yC2 o0 (f0) ?_)|(refine yD2 o0 (f0) ?_)|refine zH o0 (fun hb=>?_) fun hb=>?_|fail
  refine xT hC ?_
  exact .one (.c (.bool _))
 repeat' first|refine zV o0 ?_|(refine yC2 o0 (f1) ?_)|(refine yD2 o0 (f1) ?_)|refine zH o0 (fun hb=>?_) fun hb=>?_|fail
 refine xA fun g3 hn_g3=>?_
 by_cases hc:c=0
 ·have h0:mcC m=0:=by
   obtain⟨_,_,h3,h4⟩:=hk hc
   rw [h4];exact h3
  have f2:=ptext_fa m ho (fun h=>mdP_of ho h)
  rw [if_neg (fun h=>h h0)] at f2
  subst hc
  rw [e0]
  unfold textR at f2
  by_cases hx:longX m=true∨(textX m).length>65536
  ·rw [if_pos hx] at f2
   have f3:=is_fa 4 4 (by decide)
   repeat' first|refine zV hn_g3 ?_|(refine yC2 hn_g3 (f2) ?_)|(refine yD2 hn_g3 (f2) ?_)|(refine yC2 hn_g3 (f3) ?_)|(refine yD2 hn_g3 (f3) ?_)|refine zH hn_g3 (fun hb=>?_) fun hb=>?_|fail
   refine yT hC hn_g3 ?_
   exact .one (.c (ler_bool (by simp)))
  ·rw [if_neg hx] at f2
   dsimp only at f2
   rw [e0] at f2
   have hl2:longX m=false:=by
    refine Bool.of_not_eq_true fun e=>hx (.inl e)
   have hl3:(textX m).length≤65536:=Nat.le_of_not_lt fun e=>hx (.inr e)
   have f4:=pm_fa (textX m) om
   rw [text_back ho h0 hl2 hl3] at f4
   dsimp only at f4
   rw [e0] at f4
   have f5:=same_fa m m ho ho
   repeat' first|refine zV hn_g3 ?_|(refine yC2 hn_g3 (f2) ?_)|(refine yD2 hn_g3 (f2) ?_)|(refine yC2 hn_g3 (f4) ?_)|(refine yD2 hn_g3 (f4) ?_)|refine zH hn_g3 (fun hb=>?_) fun hb=>?_|fail
   refine yA hn_g3 fun g7 hn_g7=>?_
   all_goals try(have Z:=(oj hn_g3 hn_g7);(repeat' first|refine zV Z ?_|(refine yC2 Z (f5) ?_)|(refine yD2 Z (f5) ?_)|refine zH Z (fun hb=>?_) fun hb=>?_|fail);all_goals clear Z)
   refine yT hC (oj hn_g3 hn_g7) ?_
   exact .one (.c (ler_bool (by simp)))
 ·repeat' first|refine zV hn_g3 ?_|refine zH hn_g3 (fun hb=>?_) fun hb=>?_|fail
  ·refine yT hC hn_g3 ?_
   exact .one (.c (.bool _))
  ·exact absurd (by simpa using hb) hc
end Go.Proofs.YtnmeahogifekdaaGreatDoor
