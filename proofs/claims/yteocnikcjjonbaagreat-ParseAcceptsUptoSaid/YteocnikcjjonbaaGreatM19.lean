/- Parts of one proof, laid by a program. -/
import Derived.Test.YteocnikcjjonbaaGreatM00
import Derived.Test.YteocnikcjjonbaaGreatM14
import Derived.Test.YteocnikcjjonbaaGreatM16
set_option linter.unusedSimpArgs false
set_option linter.unusedVariables false
set_option maxRecDepth 100000
set_option maxHeartbeats 12800000
namespace Go.PN
open Go.AI
theorem modelP_err {ck:MdD→Int} {l:BS} (h:(modelP ck l).2≠0):(modelP ck l).1=md0:=by
 unfold modelP at h⊢
 dsimp only at h⊢
 split at h
 ·rename_i e;rw [if_pos e]
 rename_i e;rw [if_neg e]
 split at h
 ·rename_i e;rw [if_pos e]
 rename_i e;rw [if_neg e]
 split at h
 ·rename_i e;rw [if_pos e]
 ·exact absurd rfl h
end Go.PN
namespace Go.Proofs.YteocnikcjjonbaaGreat
open Go.AI Go.PN
attribute [local irreducible] aw Fa Fh DrK
theorem lawPAccepts_fa (l:BS) (hl:l.length≤1048576):Fa Tryz.prog 4 [.c (.str (sB l))] (.c (.bool true)):=by
 have f0:=awake23_fa
 have f1:=pm_fa l om
 have ho:=modelP_o mcC l
 have he:=modelP_err (ck:=mcC) (l:=l)
 have hk:=modelP_ck (ck:=mcC) (l:=l)
 have f2:=same_fa (modelP mcC l).1 md0 ho md0_o
 have f3:=check_fa (modelP mcC l).1 ho
 generalize hM:modelP mcC l=M at*
 obtain⟨m,c⟩:=M
 dsimp only at*
 refine fa_of_body Tryz.func4 rfl rfl (by simp [Tryz.ntmps4]) fun C hC=> ?_
 simp only [initS,Nat.reduceAdd]
 repeat' first|refine yA1 o0 ?_|(refine yC2 o0 (f0) ?_)|(refine yD2 o0 (f0) ?_)|(refine xW ?_;refine xS ?_)|refine xP ?_|refine xN ?_|refine aw_cd eE (fun hb=>?_) (fun hb=>?_)|refine aw_ce eE (fun hb=>?_) (fun hb=>?_)|refine aw_cn eE (fun hb=>?_) (fun hb=>?_)|(refine xF (fun hb=>?_) (fun hb=>?_)<;>fail_if_success (cases hb;done))|(refine aw_gsd rfl rfl eE (fun hb=>?_) (fun hb=>?_)<;>refine xS ?_)|(refine aw_gse rfl rfl eE (fun hb=>?_) (fun hb=>?_)<;>refine xS ?_)|(refine aw_gsn rfl rfl eE (fun hb=>?_) (fun hb=>?_)<;>refine xS ?_)|(refine aw_gs rfl rfl eE (fun hb=>?_) (fun hb=>?_)<;>fail_if_success (cases hb;done)<;>refine xS ?_)|(refine drk_gsd rfl rfl eE (fun hb=>?_) (fun hb=>?_)<;>refine xS ?_)|(refine drk_gse rfl rfl eE (fun hb=>?_) (fun hb=>?_)<;>refine xS ?_)|(refine drk_gsn rfl rfl eE (fun hb=>?_) (fun hb=>?_)<;>refine xS ?_)|(refine drk_gs rfl rfl eE (fun hb=>?_) (fun hb=>?_)<;>fail_if_success (cases hb;done)<;>refine xS ?_)
 ·repeat' first|refine yA1 o0 ?_|(refine yC2 o0 (f0) ?_)|(refine yD2 o0 (f0) ?_)|(refine xW ?_;refine xS ?_)|refine xP ?_|refine xN ?_|refine aw_cd eE (fun hb=>?_) (fun hb=>?_)|refine aw_ce eE (fun hb=>?_) (fun hb=>?_)|refine aw_cn eE (fun hb=>?_) (fun hb=>?_)|(refine xF (fun hb=>?_) (fun hb=>?_)<;>fail_if_success (cases hb;done))|(refine aw_gsd rfl rfl eE (fun hb=>?_) (fun hb=>?_)<;>refine xS ?_)|(refine aw_gse rfl rfl eE (fun hb=>?_) (fun hb=>?_)<;>refine xS ?_)|(refine aw_gsn rfl rfl eE (fun hb=>?_) (fun hb=>?_)<;>refine xS ?_)|(refine aw_gs rfl rfl eE (fun hb=>?_) (fun hb=>?_)<;>fail_if_success (cases hb;done)<;>refine xS ?_)|(refine drk_gsd rfl rfl eE (fun hb=>?_) (fun hb=>?_)<;>refine xS ?_)|(refine drk_gse rfl rfl eE (fun hb=>?_) (fun hb=>?_)<;>refine xS ?_)|(refine drk_gsn rfl rfl eE (fun hb=>?_) (fun hb=>?_)<;>refine xS ?_)|(refine drk_gs rfl rfl eE (fun hb=>?_) (fun hb=>?_)<;>fail_if_success (cases hb;done)<;>refine xS ?_)
  refine xT hC ?_
  exact .one (.c (.bool _))
 repeat' first|refine yA1 o0 ?_|(refine yC2 o0 (f1) ?_)|(refine yD2 o0 (f1) ?_)|(refine xW ?_;refine xS ?_)|refine xP ?_|refine xN ?_|refine aw_cd eE (fun hb=>?_) (fun hb=>?_)|refine aw_ce eE (fun hb=>?_) (fun hb=>?_)|refine aw_cn eE (fun hb=>?_) (fun hb=>?_)|(refine xF (fun hb=>?_) (fun hb=>?_)<;>fail_if_success (cases hb;done))|(refine aw_gsd rfl rfl eE (fun hb=>?_) (fun hb=>?_)<;>refine xS ?_)|(refine aw_gse rfl rfl eE (fun hb=>?_) (fun hb=>?_)<;>refine xS ?_)|(refine aw_gsn rfl rfl eE (fun hb=>?_) (fun hb=>?_)<;>refine xS ?_)|(refine aw_gs rfl rfl eE (fun hb=>?_) (fun hb=>?_)<;>fail_if_success (cases hb;done)<;>refine xS ?_)|(refine drk_gsd rfl rfl eE (fun hb=>?_) (fun hb=>?_)<;>refine xS ?_)|(refine drk_gse rfl rfl eE (fun hb=>?_) (fun hb=>?_)<;>refine xS ?_)|(refine drk_gsn rfl rfl eE (fun hb=>?_) (fun hb=>?_)<;>refine xS ?_)|(refine drk_gs rfl rfl eE (fun hb=>?_) (fun hb=>?_)<;>fail_if_success (cases hb;done)<;>refine xS ?_)
 refine xA fun g3 hn_g3=>?_
 repeat' first|refine yA1 hn_g3 ?_|(refine yW hn_g3 ?_;refine yS hn_g3 ?_)|refine yP hn_g3 ?_|refine yN hn_g3 ?_|refine aw_cd (zE hn_g3) (fun hb=>?_) (fun hb=>?_)|refine aw_ce (zE hn_g3) (fun hb=>?_) (fun hb=>?_)|refine aw_cn (zE hn_g3) (fun hb=>?_) (fun hb=>?_)|(refine yF hn_g3 (fun hb=>?_) (fun hb=>?_)<;>fail_if_success (cases hb;done))|(refine aw_gsd rfl rfl (zE hn_g3) (fun hb=>?_) (fun hb=>?_)<;>refine yS hn_g3 ?_)|(refine aw_gse rfl rfl (zE hn_g3) (fun hb=>?_) (fun hb=>?_)<;>refine yS hn_g3 ?_)|(refine aw_gsn rfl rfl (zE hn_g3) (fun hb=>?_) (fun hb=>?_)<;>refine yS hn_g3 ?_)|(refine aw_gs rfl rfl (zE hn_g3) (fun hb=>?_) (fun hb=>?_)<;>fail_if_success (cases hb;done)<;>refine yS hn_g3 ?_)|(refine drk_gsd rfl rfl (zE hn_g3) (fun hb=>?_) (fun hb=>?_)<;>refine yS hn_g3 ?_)|(refine drk_gse rfl rfl (zE hn_g3) (fun hb=>?_) (fun hb=>?_)<;>refine yS hn_g3 ?_)|(refine drk_gsn rfl rfl (zE hn_g3) (fun hb=>?_) (fun hb=>?_)<;>refine yS hn_g3 ?_)|(refine drk_gs rfl rfl (zE hn_g3) (fun hb=>?_) (fun hb=>?_)<;>fail_if_success (cases hb;done)<;>refine yS hn_g3 ?_)
 ·have hc:c≠0:=by simpa using hb
  have hm:=he hc
  subst hm
  refine aw_callq f2 rfl rfl rfl (by refine yS hn_g3 ?_;exact⟨.agg (lel_refl _),.agg ⟨.refl _,.refl _,.nils,.nils,.nils,.nils,.nils,.nils,trivial⟩⟩) ?_
  refine yS hn_g3 ?_
  repeat' first|refine yA1 hn_g3 ?_|(refine yW hn_g3 ?_;refine yS hn_g3 ?_)|refine yP hn_g3 ?_|refine yN hn_g3 ?_|refine aw_cd (zE hn_g3) (fun hb=>?_) (fun hb=>?_)|refine aw_ce (zE hn_g3) (fun hb=>?_) (fun hb=>?_)|refine aw_cn (zE hn_g3) (fun hb=>?_) (fun hb=>?_)|(refine yF hn_g3 (fun hb=>?_) (fun hb=>?_)<;>fail_if_success (cases hb;done))|(refine aw_gsd rfl rfl (zE hn_g3) (fun hb=>?_) (fun hb=>?_)<;>refine yS hn_g3 ?_)|(refine aw_gse rfl rfl (zE hn_g3) (fun hb=>?_) (fun hb=>?_)<;>refine yS hn_g3 ?_)|(refine aw_gsn rfl rfl (zE hn_g3) (fun hb=>?_) (fun hb=>?_)<;>refine yS hn_g3 ?_)|(refine aw_gs rfl rfl (zE hn_g3) (fun hb=>?_) (fun hb=>?_)<;>fail_if_success (cases hb;done)<;>refine yS hn_g3 ?_)|(refine drk_gsd rfl rfl (zE hn_g3) (fun hb=>?_) (fun hb=>?_)<;>refine yS hn_g3 ?_)|(refine drk_gse rfl rfl (zE hn_g3) (fun hb=>?_) (fun hb=>?_)<;>refine yS hn_g3 ?_)|(refine drk_gsn rfl rfl (zE hn_g3) (fun hb=>?_) (fun hb=>?_)<;>refine yS hn_g3 ?_)|(refine drk_gs rfl rfl (zE hn_g3) (fun hb=>?_) (fun hb=>?_)<;>fail_if_success (cases hb;done)<;>refine yS hn_g3 ?_)
  refine yT hC hn_g3 ?_
  exact .one (.c (ler_bool (by simp)))
 ·have hc:c=0:=by simpa using hb
  have e0:mcC m=0:=by
   obtain⟨_,_,h3,h4⟩:=hk hc
   rw [h4];exact h3
  repeat' first|refine yA1 hn_g3 ?_|(refine yC2 hn_g3 (f3) ?_)|(refine yD2 hn_g3 (f3) ?_)|(refine yW hn_g3 ?_;refine yS hn_g3 ?_)|refine yP hn_g3 ?_|refine yN hn_g3 ?_|refine aw_cd (zE hn_g3) (fun hb=>?_) (fun hb=>?_)|refine aw_ce (zE hn_g3) (fun hb=>?_) (fun hb=>?_)|refine aw_cn (zE hn_g3) (fun hb=>?_) (fun hb=>?_)|(refine yF hn_g3 (fun hb=>?_) (fun hb=>?_)<;>fail_if_success (cases hb;done))|(refine aw_gsd rfl rfl (zE hn_g3) (fun hb=>?_) (fun hb=>?_)<;>refine yS hn_g3 ?_)|(refine aw_gse rfl rfl (zE hn_g3) (fun hb=>?_) (fun hb=>?_)<;>refine yS hn_g3 ?_)|(refine aw_gsn rfl rfl (zE hn_g3) (fun hb=>?_) (fun hb=>?_)<;>refine yS hn_g3 ?_)|(refine aw_gs rfl rfl (zE hn_g3) (fun hb=>?_) (fun hb=>?_)<;>fail_if_success (cases hb;done)<;>refine yS hn_g3 ?_)|(refine drk_gsd rfl rfl (zE hn_g3) (fun hb=>?_) (fun hb=>?_)<;>refine yS hn_g3 ?_)|(refine drk_gse rfl rfl (zE hn_g3) (fun hb=>?_) (fun hb=>?_)<;>refine yS hn_g3 ?_)|(refine drk_gsn rfl rfl (zE hn_g3) (fun hb=>?_) (fun hb=>?_)<;>refine yS hn_g3 ?_)|(refine drk_gs rfl rfl (zE hn_g3) (fun hb=>?_) (fun hb=>?_)<;>fail_if_success (cases hb;done)<;>refine yS hn_g3 ?_)
  refine yT hC hn_g3 ?_
  exact .one (.c (ler_bool (by simp [e0])))
end Go.Proofs.YteocnikcjjonbaaGreat
