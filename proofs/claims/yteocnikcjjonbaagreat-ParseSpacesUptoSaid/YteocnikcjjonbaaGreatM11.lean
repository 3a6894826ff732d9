/- Parts of one proof, laid by a program. -/
import Derived.Test.YteocnikcjjonbaaGreatM00
import Derived.Test.YteocnikcjjonbaaGreatM10
set_option linter.unusedSimpArgs false
set_option linter.unusedVariables false
set_option maxRecDepth 100000
set_option maxHeartbeats 12800000
namespace Go.Proofs.YteocnikcjjonbaaGreat
open Go.AI Go.PN
attribute [local irreducible] aw Fa Fh DrK
theorem gr1_fg (g:Nat) (y x:GrD):Fg Tryz.prog 95 g (.cells 100 4 (ofL (grc y))) [.agg (grc x),.c (.optr g 0)] (.c (.bool (x.name==y.name))) (.cells 100 4 (ofL (grc y))):=by
 unfold Fg
 refine fh_of_body Tryz.func95 rfl rfl (by simp [Tryz.ntmps95]) fun C hC=> ?_
 simp only [initS,Nat.reduceAdd]
 repeat' first|refine yA1 o0 ?_|(refine xW ?_;refine xS ?_)|refine xP ?_|refine xN ?_|refine aw_cd eE (fun hb=>?_) (fun hb=>?_)|refine aw_ce eE (fun hb=>?_) (fun hb=>?_)|refine aw_cn eE (fun hb=>?_) (fun hb=>?_)|(refine xF (fun hb=>?_) (fun hb=>?_)<;>fail_if_success (cases hb;done))|(refine aw_gsd rfl rfl eE (fun hb=>?_) (fun hb=>?_)<;>refine xS ?_)|(refine aw_gse rfl rfl eE (fun hb=>?_) (fun hb=>?_)<;>refine xS ?_)|(refine aw_gsn rfl rfl eE (fun hb=>?_) (fun hb=>?_)<;>refine xS ?_)|(refine aw_gs rfl rfl eE (fun hb=>?_) (fun hb=>?_)<;>fail_if_success (cases hb;done)<;>refine xS ?_)|(refine drk_gsd rfl rfl eE (fun hb=>?_) (fun hb=>?_)<;>refine xS ?_)|(refine drk_gse rfl rfl eE (fun hb=>?_) (fun hb=>?_)<;>refine xS ?_)|(refine drk_gsn rfl rfl eE (fun hb=>?_) (fun hb=>?_)<;>refine xS ?_)|(refine drk_gs rfl rfl eE (fun hb=>?_) (fun hb=>?_)<;>fail_if_success (cases hb;done)<;>refine xS ?_)
 refine xB fun g1 hn_g1=>?_
 repeat' first|refine yA1 hn_g1 ?_|(refine yW hn_g1 ?_;refine yS hn_g1 ?_)|refine yP hn_g1 ?_|refine yN hn_g1 ?_|refine aw_cd (zE hn_g1) (fun hb=>?_) (fun hb=>?_)|refine aw_ce (zE hn_g1) (fun hb=>?_) (fun hb=>?_)|refine aw_cn (zE hn_g1) (fun hb=>?_) (fun hb=>?_)|(refine yF hn_g1 (fun hb=>?_) (fun hb=>?_)<;>fail_if_success (cases hb;done))|(refine aw_gsd rfl rfl (zE hn_g1) (fun hb=>?_) (fun hb=>?_)<;>refine yS hn_g1 ?_)|(refine aw_gse rfl rfl (zE hn_g1) (fun hb=>?_) (fun hb=>?_)<;>refine yS hn_g1 ?_)|(refine aw_gsn rfl rfl (zE hn_g1) (fun hb=>?_) (fun hb=>?_)<;>refine yS hn_g1 ?_)|(refine aw_gs rfl rfl (zE hn_g1) (fun hb=>?_) (fun hb=>?_)<;>fail_if_success (cases hb;done)<;>refine yS hn_g1 ?_)|(refine drk_gsd rfl rfl (zE hn_g1) (fun hb=>?_) (fun hb=>?_)<;>refine yS hn_g1 ?_)|(refine drk_gse rfl rfl (zE hn_g1) (fun hb=>?_) (fun hb=>?_)<;>refine yS hn_g1 ?_)|(refine drk_gsn rfl rfl (zE hn_g1) (fun hb=>?_) (fun hb=>?_)<;>refine yS hn_g1 ?_)|(refine drk_gs rfl rfl (zE hn_g1) (fun hb=>?_) (fun hb=>?_)<;>fail_if_success (cases hb;done)<;>refine yS hn_g1 ?_)
 refine aw_rethw (h':=[(g,(.cells 100 4 (ofL (grc y))))]) rfl (by first|exact List.Sublist.refl _|exact .cons _ (.refl _)|exact .cons _ (.cons _ (.refl _))|exact .cons _ (.cons _ (.cons _ (.refl _)))) fun R r=>?_;simp only[go_sem,hn_g1];refine r _ rfl ?_;clear r R
 exact⟨rfl,rfl⟩
theorem grI_fg (g:Nat) (y:GrD) (l:List GrD) (hl:l.length≤1099511627776):Fg Tryz.prog 94 g (.cells 100 4 (ofL (grc y))) [.c (grs true l),.c (fnC 95 [g])] (.c (.int .i64 (fidx (fun x=>x.name==y.name) l))) (.cells 100 4 (ofL (grc y))):=by
 unfold Fg
 refine fh_of_body Tryz.func94 rfl rfl (by simp [Tryz.ntmps94]) fun C hC=> ?_
 simp only [initS,Nat.reduceAdd]
 repeat' first|refine yA1 o0 ?_|(refine xW ?_;refine xS ?_)|refine xP ?_|refine xN ?_|refine aw_cd eE (fun hb=>?_) (fun hb=>?_)|refine aw_ce eE (fun hb=>?_) (fun hb=>?_)|refine aw_cn eE (fun hb=>?_) (fun hb=>?_)|(refine xF (fun hb=>?_) (fun hb=>?_)<;>fail_if_success (cases hb;done))|(refine aw_gsd rfl rfl eE (fun hb=>?_) (fun hb=>?_)<;>refine xS ?_)|(refine aw_gse rfl rfl eE (fun hb=>?_) (fun hb=>?_)<;>refine xS ?_)|(refine aw_gsn rfl rfl eE (fun hb=>?_) (fun hb=>?_)<;>refine xS ?_)|(refine aw_gs rfl rfl eE (fun hb=>?_) (fun hb=>?_)<;>fail_if_success (cases hb;done)<;>refine xS ?_)|(refine drk_gsd rfl rfl eE (fun hb=>?_) (fun hb=>?_)<;>refine xS ?_)|(refine drk_gse rfl rfl eE (fun hb=>?_) (fun hb=>?_)<;>refine xS ?_)|(refine drk_gsn rfl rfl eE (fun hb=>?_) (fun hb=>?_)<;>refine xS ?_)|(refine drk_gs rfl rfl eE (fun hb=>?_) (fun hb=>?_)<;>fail_if_success (cases hb;done)<;>refine xS ?_)
 refine aw_lp (fun i:Nat=>[(0,.c (grs true l)),(1,.c (fnC 95 [g])),(4,.c (.int .i64 0)),(7,.c (.int .i64 l.length)),(8,.c (.int .i64 i))]) (fun _=>[(g,(.cells 100 4 (ofL (grc y))))]) (fun i=>i≤l.length∧∀j,j<i→((fun x:GrD=>x.name==y.name) (l.getD j gr0))=false) (fun i=>l.length-i) 0 eB zZ ⟨Nat.zero_le _,fun j hj=>absurd hj om⟩ ?_
 rintro i ⟨hi,hn⟩
 repeat' first|refine yA1 o0 ?_|(refine xW ?_;refine xS ?_)|refine xP ?_|refine xN ?_|refine aw_cd eE (fun hb=>?_) (fun hb=>?_)|refine aw_ce eE (fun hb=>?_) (fun hb=>?_)|refine aw_cn eE (fun hb=>?_) (fun hb=>?_)|(refine xF (fun hb=>?_) (fun hb=>?_)<;>fail_if_success (cases hb;done))|(refine aw_gsd rfl rfl eE (fun hb=>?_) (fun hb=>?_)<;>refine xS ?_)|(refine aw_gse rfl rfl eE (fun hb=>?_) (fun hb=>?_)<;>refine xS ?_)|(refine aw_gsn rfl rfl eE (fun hb=>?_) (fun hb=>?_)<;>refine xS ?_)|(refine aw_gs rfl rfl eE (fun hb=>?_) (fun hb=>?_)<;>fail_if_success (cases hb;done)<;>refine xS ?_)|(refine drk_gsd rfl rfl eE (fun hb=>?_) (fun hb=>?_)<;>refine xS ?_)|(refine drk_gse rfl rfl eE (fun hb=>?_) (fun hb=>?_)<;>refine xS ?_)|(refine drk_gsn rfl rfl eE (fun hb=>?_) (fun hb=>?_)<;>refine xS ?_)|(refine drk_gs rfl rfl eE (fun hb=>?_) (fun hb=>?_)<;>fail_if_success (cases hb;done)<;>refine xS ?_)
 ·have hi':=hb
  have hf:=gr1_fg g y (l.getD i gr0)
  refine aw_cgv (args:=[.agg (grc (l.getD i gr0))]) hf rfl rfl rfl eE eE eL ?_
  refine xS ?_
  repeat' first|refine yA1 o0 ?_|(refine xW ?_;refine xS ?_)|refine xP ?_|refine xN ?_|refine aw_cd eE (fun hb=>?_) (fun hb=>?_)|refine aw_ce eE (fun hb=>?_) (fun hb=>?_)|refine aw_cn eE (fun hb=>?_) (fun hb=>?_)|(refine xF (fun hb=>?_) (fun hb=>?_)<;>fail_if_success (cases hb;done))|(refine aw_gsd rfl rfl eE (fun hb=>?_) (fun hb=>?_)<;>refine xS ?_)|(refine aw_gse rfl rfl eE (fun hb=>?_) (fun hb=>?_)<;>refine xS ?_)|(refine aw_gsn rfl rfl eE (fun hb=>?_) (fun hb=>?_)<;>refine xS ?_)|(refine aw_gs rfl rfl eE (fun hb=>?_) (fun hb=>?_)<;>fail_if_success (cases hb;done)<;>refine xS ?_)|(refine drk_gsd rfl rfl eE (fun hb=>?_) (fun hb=>?_)<;>refine xS ?_)|(refine drk_gse rfl rfl eE (fun hb=>?_) (fun hb=>?_)<;>refine xS ?_)|(refine drk_gsn rfl rfl eE (fun hb=>?_) (fun hb=>?_)<;>refine xS ?_)|(refine drk_gs rfl rfl eE (fun hb=>?_) (fun hb=>?_)<;>fail_if_success (cases hb;done)<;>refine xS ?_)
  ·rw [fidx_at (p:=fun x:GrD=>x.name==y.name) gr0 hi' (by simpa using hb) hn]
   refine xU ?_
   exact⟨rfl,rfl⟩
  ·refine aw_stop ⟨i+1,?_⟩
   have hn':∀j,j<i+1→((fun x:GrD=>x.name==y.name) (l.getD j gr0))=false:=fun j hj=>by
    by_cases e:j=i
    ·subst e;simpa using hb
    ·exact hn j om
   and_intros
   all_goals first|rfl|exact List.Sublist.refl _|exact True.intro|exact hn'|omega
 ·have hf:fidx (fun x=>x.name==y.name) l= -1:=fidx_no gr0 (fun j hj=>hn j om)
  rw [hf]
  refine xU ?_
  exact⟨rfl,rfl⟩
theorem ph1_fg (g:Nat) (y x:PhD):Fg Tryz.prog 99 g (.cells 104 3 (ofL (phc y))) [.agg (phc x),.c (.optr g 0)] (.c (.bool (x.name==y.name))) (.cells 104 3 (ofL (phc y))):=by
 unfold Fg
 refine fh_of_body Tryz.func99 rfl rfl (by simp [Tryz.ntmps99]) fun C hC=> ?_
 simp only [initS,Nat.reduceAdd]
 repeat' first|refine yA1 o0 ?_|(refine xW ?_;refine xS ?_)|refine xP ?_|refine xN ?_|refine aw_cd eE (fun hb=>?_) (fun hb=>?_)|refine aw_ce eE (fun hb=>?_) (fun hb=>?_)|refine aw_cn eE (fun hb=>?_) (fun hb=>?_)|(refine xF (fun hb=>?_) (fun hb=>?_)<;>fail_if_success (cases hb;done))|(refine aw_gsd rfl rfl eE (fun hb=>?_) (fun hb=>?_)<;>refine xS ?_)|(refine aw_gse rfl rfl eE (fun hb=>?_) (fun hb=>?_)<;>refine xS ?_)|(refine aw_gsn rfl rfl eE (fun hb=>?_) (fun hb=>?_)<;>refine xS ?_)|(refine aw_gs rfl rfl eE (fun hb=>?_) (fun hb=>?_)<;>fail_if_success (cases hb;done)<;>refine xS ?_)|(refine drk_gsd rfl rfl eE (fun hb=>?_) (fun hb=>?_)<;>refine xS ?_)|(refine drk_gse rfl rfl eE (fun hb=>?_) (fun hb=>?_)<;>refine xS ?_)|(refine drk_gsn rfl rfl eE (fun hb=>?_) (fun hb=>?_)<;>refine xS ?_)|(refine drk_gs rfl rfl eE (fun hb=>?_) (fun hb=>?_)<;>fail_if_success (cases hb;done)<;>refine xS ?_)
 refine xB fun g1 hn_g1=>?_
 repeat' first|refine yA1 hn_g1 ?_|(refine yW hn_g1 ?_;refine yS hn_g1 ?_)|refine yP hn_g1 ?_|refine yN hn_g1 ?_|refine aw_cd (zE hn_g1) (fun hb=>?_) (fun hb=>?_)|refine aw_ce (zE hn_g1) (fun hb=>?_) (fun hb=>?_)|refine aw_cn (zE hn_g1) (fun hb=>?_) (fun hb=>?_)|(refine yF hn_g1 (fun hb=>?_) (fun hb=>?_)<;>fail_if_success (cases hb;done))|(refine aw_gsd rfl rfl (zE hn_g1) (fun hb=>?_) (fun hb=>?_)<;>refine yS hn_g1 ?_)|(refine aw_gse rfl rfl (zE hn_g1) (fun hb=>?_) (fun hb=>?_)<;>refine yS hn_g1 ?_)|(refine aw_gsn rfl rfl (zE hn_g1) (fun hb=>?_) (fun hb=>?_)<;>refine yS hn_g1 ?_)|(refine aw_gs rfl rfl (zE hn_g1) (fun hb=>?_) (fun hb=>?_)<;>fail_if_success (cases hb;done)<;>refine yS hn_g1 ?_)|(refine drk_gsd rfl rfl (zE hn_g1) (fun hb=>?_) (fun hb=>?_)<;>refine yS hn_g1 ?_)|(refine drk_gse rfl rfl (zE hn_g1) (fun hb=>?_) (fun hb=>?_)<;>refine yS hn_g1 ?_)|(refine drk_gsn rfl rfl (zE hn_g1) (fun hb=>?_) (fun hb=>?_)<;>refine yS hn_g1 ?_)|(refine drk_gs rfl rfl (zE hn_g1) (fun hb=>?_) (fun hb=>?_)<;>fail_if_success (cases hb;done)<;>refine yS hn_g1 ?_)
 refine aw_rethw (h':=[(g,(.cells 104 3 (ofL (phc y))))]) rfl (by first|exact List.Sublist.refl _|exact .cons _ (.refl _)|exact .cons _ (.cons _ (.refl _))|exact .cons _ (.cons _ (.cons _ (.refl _)))) fun R r=>?_;simp only[go_sem,hn_g1];refine r _ rfl ?_;clear r R
 exact⟨rfl,rfl⟩
theorem phI_fg (g:Nat) (y:PhD) (l:List PhD) (hl:l.length≤1099511627776):Fg Tryz.prog 98 g (.cells 104 3 (ofL (phc y))) [.c (phs true l),.c (fnC 99 [g])] (.c (.int .i64 (fidx (fun x=>x.name==y.name) l))) (.cells 104 3 (ofL (phc y))):=by
 unfold Fg
 refine fh_of_body Tryz.func98 rfl rfl (by simp [Tryz.ntmps98]) fun C hC=> ?_
 simp only [initS,Nat.reduceAdd]
 repeat' first|refine yA1 o0 ?_|(refine xW ?_;refine xS ?_)|refine xP ?_|refine xN ?_|refine aw_cd eE (fun hb=>?_) (fun hb=>?_)|refine aw_ce eE (fun hb=>?_) (fun hb=>?_)|refine aw_cn eE (fun hb=>?_) (fun hb=>?_)|(refine xF (fun hb=>?_) (fun hb=>?_)<;>fail_if_success (cases hb;done))|(refine aw_gsd rfl rfl eE (fun hb=>?_) (fun hb=>?_)<;>refine xS ?_)|(refine aw_gse rfl rfl eE (fun hb=>?_) (fun hb=>?_)<;>refine xS ?_)|(refine aw_gsn rfl rfl eE (fun hb=>?_) (fun hb=>?_)<;>refine xS ?_)|(refine aw_gs rfl rfl eE (fun hb=>?_) (fun hb=>?_)<;>fail_if_success (cases hb;done)<;>refine xS ?_)|(refine drk_gsd rfl rfl eE (fun hb=>?_) (fun hb=>?_)<;>refine xS ?_)|(refine drk_gse rfl rfl eE (fun hb=>?_) (fun hb=>?_)<;>refine xS ?_)|(refine drk_gsn rfl rfl eE (fun hb=>?_) (fun hb=>?_)<;>refine xS ?_)|(refine drk_gs rfl rfl eE (fun hb=>?_) (fun hb=>?_)<;>fail_if_success (cases hb;done)<;>refine xS ?_)
 refine aw_lp (fun i:Nat=>[(0,.c (phs true l)),(1,.c (fnC 99 [g])),(4,.c (.int .i64 0)),(7,.c (.int .i64 l.length)),(8,.c (.int .i64 i))]) (fun _=>[(g,(.cells 104 3 (ofL (phc y))))]) (fun i=>i≤l.length∧∀j,j<i→((fun x:PhD=>x.name==y.name) (l.getD j ph0))=false) (fun i=>l.length-i) 0 eB zZ ⟨Nat.zero_le _,fun j hj=>absurd hj om⟩ ?_
 rintro i ⟨hi,hn⟩
 repeat' first|refine yA1 o0 ?_|(refine xW ?_;refine xS ?_)|refine xP ?_|refine xN ?_|refine aw_cd eE (fun hb=>?_) (fun hb=>?_)|refine aw_ce eE (fun hb=>?_) (fun hb=>?_)|refine aw_cn eE (fun hb=>?_) (fun hb=>?_)|(refine xF (fun hb=>?_) (fun hb=>?_)<;>fail_if_success (cases hb;done))|(refine aw_gsd rfl rfl eE (fun hb=>?_) (fun hb=>?_)<;>refine xS ?_)|(refine aw_gse rfl rfl eE (fun hb=>?_) (fun hb=>?_)<;>refine xS ?_)|(refine aw_gsn rfl rfl eE (fun hb=>?_) (fun hb=>?_)<;>refine xS ?_)|(refine aw_gs rfl rfl eE (fun hb=>?_) (fun hb=>?_)<;>fail_if_success (cases hb;done)<;>refine xS ?_)|(refine drk_gsd rfl rfl eE (fun hb=>?_) (fun hb=>?_)<;>refine xS ?_)|(refine drk_gse rfl rfl eE (fun hb=>?_) (fun hb=>?_)<;>refine xS ?_)|(refine drk_gsn rfl rfl eE (fun hb=>?_) (fun hb=>?_)<;>refine xS ?_)|(refine drk_gs rfl rfl eE (fun hb=>?_) (fun hb=>?_)<;>fail_if_success (cases hb;done)<;>refine xS ?_)
 ·have hi':=hb
  have hf:=ph1_fg g y (l.getD i ph0)
  refine aw_cgv (args:=[.agg (phc (l.getD i ph0))]) hf rfl rfl rfl eE eE eL ?_
  refine xS ?_
  repeat' first|refine yA1 o0 ?_|(refine xW ?_;refine xS ?_)|refine xP ?_|refine xN ?_|refine aw_cd eE (fun hb=>?_) (fun hb=>?_)|refine aw_ce eE (fun hb=>?_) (fun hb=>?_)|refine aw_cn eE (fun hb=>?_) (fun hb=>?_)|(refine xF (fun hb=>?_) (fun hb=>?_)<;>fail_if_success (cases hb;done))|(refine aw_gsd rfl rfl eE (fun hb=>?_) (fun hb=>?_)<;>refine xS ?_)|(refine aw_gse rfl rfl eE (fun hb=>?_) (fun hb=>?_)<;>refine xS ?_)|(refine aw_gsn rfl rfl eE (fun hb=>?_) (fun hb=>?_)<;>refine xS ?_)|(refine aw_gs rfl rfl eE (fun hb=>?_) (fun hb=>?_)<;>fail_if_success (cases hb;done)<;>refine xS ?_)|(refine drk_gsd rfl rfl eE (fun hb=>?_) (fun hb=>?_)<;>refine xS ?_)|(refine drk_gse rfl rfl eE (fun hb=>?_) (fun hb=>?_)<;>refine xS ?_)|(refine drk_gsn rfl rfl eE (fun hb=>?_) (fun hb=>?_)<;>refine xS ?_)|(refine drk_gs rfl rfl eE (fun hb=>?_) (fun hb=>?_)<;>fail_if_success (cases hb;done)<;>refine xS ?_)
  ·rw [fidx_at (p:=fun x:PhD=>x.name==y.name) ph0 hi' (by simpa using hb) hn]
   refine xU ?_
   exact⟨rfl,rfl⟩
  ·refine aw_stop ⟨i+1,?_⟩
   have hn':∀j,j<i+1→((fun x:PhD=>x.name==y.name) (l.getD j ph0))=false:=fun j hj=>by
    by_cases e:j=i
    ·subst e;simpa using hb
    ·exact hn j om
   and_intros
   all_goals first|rfl|exact List.Sublist.refl _|exact True.intro|exact hn'|omega
 ·have hf:fidx (fun x=>x.name==y.name) l= -1:=fidx_no ph0 (fun j hj=>hn j om)
  rw [hf]
  refine xU ?_
  exact⟨rfl,rfl⟩
theorem vl1_fg (g:Nat) (y x:VlD):Fg Tryz.prog 101 g (.cells 106 4 (ofL (vlc y))) [.agg (vlc x),.c (.optr g 0)] (.c (.bool (x.event==y.event))) (.cells 106 4 (ofL (vlc y))):=by
 unfold Fg
 refine fh_of_body Tryz.func101 rfl rfl (by simp [Tryz.ntmps101]) fun C hC=> ?_
 simp only [initS,Nat.reduceAdd]
 repeat' first|refine yA1 o0 ?_|(refine xW ?_;refine xS ?_)|refine xP ?_|refine xN ?_|refine aw_cd eE (fun hb=>?_) (fun hb=>?_)|refine aw_ce eE (fun hb=>?_) (fun hb=>?_)|refine aw_cn eE (fun hb=>?_) (fun hb=>?_)|(refine xF (fun hb=>?_) (fun hb=>?_)<;>fail_if_success (cases hb;done))|(refine aw_gsd rfl rfl eE (fun hb=>?_) (fun hb=>?_)<;>refine xS ?_)|(refine aw_gse rfl rfl eE (fun hb=>?_) (fun hb=>?_)<;>refine xS ?_)|(refine aw_gsn rfl rfl eE (fun hb=>?_) (fun hb=>?_)<;>refine xS ?_)|(refine aw_gs rfl rfl eE (fun hb=>?_) (fun hb=>?_)<;>fail_if_success (cases hb;done)<;>refine xS ?_)|(refine drk_gsd rfl rfl eE (fun hb=>?_) (fun hb=>?_)<;>refine xS ?_)|(refine drk_gse rfl rfl eE (fun hb=>?_) (fun hb=>?_)<;>refine xS ?_)|(refine drk_gsn rfl rfl eE (fun hb=>?_) (fun hb=>?_)<;>refine xS ?_)|(refine drk_gs rfl rfl eE (fun hb=>?_) (fun hb=>?_)<;>fail_if_success (cases hb;done)<;>refine xS ?_)
 refine xB fun g1 hn_g1=>?_
 repeat' first|refine yA1 hn_g1 ?_|(refine yW hn_g1 ?_;refine yS hn_g1 ?_)|refine yP hn_g1 ?_|refine yN hn_g1 ?_|refine aw_cd (zE hn_g1) (fun hb=>?_) (fun hb=>?_)|refine aw_ce (zE hn_g1) (fun hb=>?_) (fun hb=>?_)|refine aw_cn (zE hn_g1) (fun hb=>?_) (fun hb=>?_)|(refine yF hn_g1 (fun hb=>?_) (fun hb=>?_)<;>fail_if_success (cases hb;done))|(refine aw_gsd rfl rfl (zE hn_g1) (fun hb=>?_) (fun hb=>?_)<;>refine yS hn_g1 ?_)|(refine aw_gse rfl rfl (zE hn_g1) (fun hb=>?_) (fun hb=>?_)<;>refine yS hn_g1 ?_)|(refine aw_gsn rfl rfl (zE hn_g1) (fun hb=>?_) (fun hb=>?_)<;>refine yS hn_g1 ?_)|(refine aw_gs rfl rfl (zE hn_g1) (fun hb=>?_) (fun hb=>?_)<;>fail_if_success (cases hb;done)<;>refine yS hn_g1 ?_)|(refine drk_gsd rfl rfl (zE hn_g1) (fun hb=>?_) (fun hb=>?_)<;>refine yS hn_g1 ?_)|(refine drk_gse rfl rfl (zE hn_g1) (fun hb=>?_) (fun hb=>?_)<;>refine yS hn_g1 ?_)|(refine drk_gsn rfl rfl (zE hn_g1) (fun hb=>?_) (fun hb=>?_)<;>refine yS hn_g1 ?_)|(refine drk_gs rfl rfl (zE hn_g1) (fun hb=>?_) (fun hb=>?_)<;>fail_if_success (cases hb;done)<;>refine yS hn_g1 ?_)
 refine aw_rethw (h':=[(g,(.cells 106 4 (ofL (vlc y))))]) rfl (by first|exact List.Sublist.refl _|exact .cons _ (.refl _)|exact .cons _ (.cons _ (.refl _))|exact .cons _ (.cons _ (.cons _ (.refl _)))) fun R r=>?_;simp only[go_sem,hn_g1];refine r _ rfl ?_;clear r R
 exact⟨rfl,rfl⟩
theorem vlI_fg (g:Nat) (y:VlD) (l:List VlD) (hl:l.length≤1099511627776):Fg Tryz.prog 100 g (.cells 106 4 (ofL (vlc y))) [.c (vls true l),.c (fnC 101 [g])] (.c (.int .i64 (fidx (fun x=>x.event==y.event) l))) (.cells 106 4 (ofL (vlc y))):=by
 unfold Fg
 refine fh_of_body Tryz.func100 rfl rfl (by simp [Tryz.ntmps100]) fun C hC=> ?_
 simp only [initS,Nat.reduceAdd]
 repeat' first|refine yA1 o0 ?_|(refine xW ?_;refine xS ?_)|refine xP ?_|refine xN ?_|refine aw_cd eE (fun hb=>?_) (fun hb=>?_)|refine aw_ce eE (fun hb=>?_) (fun hb=>?_)|refine aw_cn eE (fun hb=>?_) (fun hb=>?_)|(refine xF (fun hb=>?_) (fun hb=>?_)<;>fail_if_success (cases hb;done))|(refine aw_gsd rfl rfl eE (fun hb=>?_) (fun hb=>?_)<;>refine xS ?_)|(refine aw_gse rfl rfl eE (fun hb=>?_) (fun hb=>?_)<;>refine xS ?_)|(refine aw_gsn rfl rfl eE (fun hb=>?_) (fun hb=>?_)<;>refine xS ?_)|(refine aw_gs rfl rfl eE (fun hb=>?_) (fun hb=>?_)<;>fail_if_success (cases hb;done)<;>refine xS ?_)|(refine drk_gsd rfl rfl eE (fun hb=>?_) (fun hb=>?_)<;>refine xS ?_)|(refine drk_gse rfl rfl eE (fun hb=>?_) (fun hb=>?_)<;>refine xS ?_)|(refine drk_gsn rfl rfl eE (fun hb=>?_) (fun hb=>?_)<;>refine xS ?_)|(refine drk_gs rfl rfl eE (fun hb=>?_) (fun hb=>?_)<;>fail_if_success (cases hb;done)<;>refine xS ?_)
 refine aw_lp (fun i:Nat=>[(0,.c (vls true l)),(1,.c (fnC 101 [g])),(4,.c (.int .i64 0)),(7,.c (.int .i64 l.length)),(8,.c (.int .i64 i))]) (fun _=>[(g,(.cells 106 4 (ofL (vlc y))))]) (fun i=>i≤l.length∧∀j,j<i→((fun x:VlD=>x.event==y.event) (l.getD j vl0))=false) (fun i=>l.length-i) 0 eB zZ ⟨Nat.zero_le _,fun j hj=>absurd hj om⟩ ?_
 rintro i ⟨hi,hn⟩
 repeat' first|refine yA1 o0 ?_|(refine xW ?_;refine xS ?_)|refine xP ?_|refine xN ?_|refine aw_cd eE (fun hb=>?_) (fun hb=>?_)|refine aw_ce eE (fun hb=>?_) (fun hb=>?_)|refine aw_cn eE (fun hb=>?_) (fun hb=>?_)|(refine xF (fun hb=>?_) (fun hb=>?_)<;>fail_if_success (cases hb;done))|(refine aw_gsd rfl rfl eE (fun hb=>?_) (fun hb=>?_)<;>refine xS ?_)|(refine aw_gse rfl rfl eE (fun hb=>?_) (fun hb=>?_)<;>refine xS ?_)|(refine aw_gsn rfl rfl eE (fun hb=>?_) (fun hb=>?_)<;>refine xS ?_)|(refine aw_gs rfl rfl eE (fun hb=>?_) (fun hb=>?_)<;>fail_if_success (cases hb;done)<;>refine xS ?_)|(refine drk_gsd rfl rfl eE (fun hb=>?_) (fun hb=>?_)<;>refine xS ?_)|(refine drk_gse rfl rfl eE (fun hb=>?_) (fun hb=>?_)<;>refine xS ?_)|(refine drk_gsn rfl rfl eE (fun hb=>?_) (fun hb=>?_)<;>refine xS ?_)|(refine drk_gs rfl rfl eE (fun hb=>?_) (fun hb=>?_)<;>fail_if_success (cases hb;done)<;>refine xS ?_)
 ·have hi':=hb
  have hf:=vl1_fg g y (l.getD i vl0)
  refine aw_cgv (args:=[.agg (vlc (l.getD i vl0))]) hf rfl rfl rfl eE eE eL ?_
  refine xS ?_
  repeat' first|refine yA1 o0 ?_|(refine xW ?_;refine xS ?_)|refine xP ?_|refine xN ?_|refine aw_cd eE (fun hb=>?_) (fun hb=>?_)|refine aw_ce eE (fun hb=>?_) (fun hb=>?_)|refine aw_cn eE (fun hb=>?_) (fun hb=>?_)|(refine xF (fun hb=>?_) (fun hb=>?_)<;>fail_if_success (cases hb;done))|(refine aw_gsd rfl rfl eE (fun hb=>?_) (fun hb=>?_)<;>refine xS ?_)|(refine aw_gse rfl rfl eE (fun hb=>?_) (fun hb=>?_)<;>refine xS ?_)|(refine aw_gsn rfl rfl eE (fun hb=>?_) (fun hb=>?_)<;>refine xS ?_)|(refine aw_gs rfl rfl eE (fun hb=>?_) (fun hb=>?_)<;>fail_if_success (cases hb;done)<;>refine xS ?_)|(refine drk_gsd rfl rfl eE (fun hb=>?_) (fun hb=>?_)<;>refine xS ?_)|(refine drk_gse rfl rfl eE (fun hb=>?_) (fun hb=>?_)<;>refine xS ?_)|(refine drk_gsn rfl rfl eE (fun hb=>?_) (fun hb=>?_)<;>refine xS ?_)|(refine drk_gs rfl rfl eE (fun hb=>?_) (fun hb=>?_)<;>fail_if_success (cases hb;done)<;>refine xS ?_)
  ·rw [fidx_at (p:=fun x:VlD=>x.event==y.event) vl0 hi' (by simpa using hb) hn]
   refine xU ?_
   exact⟨rfl,rfl⟩
  ·refine aw_stop ⟨i+1,?_⟩
   have hn':∀j,j<i+1→((fun x:VlD=>x.event==y.event) (l.getD j vl0))=false:=fun j hj=>by
    by_cases e:j=i
    ·subst e;simpa using hb
    ·exact hn j om
   and_intros
   all_goals first|rfl|exact List.Sublist.refl _|exact True.intro|exact hn'|omega
 ·have hf:fidx (fun x=>x.event==y.event) l= -1:=fidx_no vl0 (fun j hj=>hn j om)
  rw [hf]
  refine xU ?_
  exact⟨rfl,rfl⟩
theorem fac1_fa (r:RD) (hw:r.wf 1073741824):Fa Tryz.prog 97 [.agg (rdc r)] (.c (.bool (!r.prob))):=by
 have f1:=rprob_fa r hw
 refine fa_of_body Tryz.func97 rfl rfl (by simp [Tryz.ntmps97]) fun C hC=> ?_
 simp only [initS,Nat.reduceAdd]
 repeat' first|refine yA1 o0 ?_|(refine xW ?_;refine xS ?_)|refine xP ?_|refine xN ?_|refine aw_cd eE (fun hb=>?_) (fun hb=>?_)|refine aw_ce eE (fun hb=>?_) (fun hb=>?_)|refine aw_cn eE (fun hb=>?_) (fun hb=>?_)|(refine xF (fun hb=>?_) (fun hb=>?_)<;>fail_if_success (cases hb;done))|(refine aw_gsd rfl rfl eE (fun hb=>?_) (fun hb=>?_)<;>refine xS ?_)|(refine aw_gse rfl rfl eE (fun hb=>?_) (fun hb=>?_)<;>refine xS ?_)|(refine aw_gsn rfl rfl eE (fun hb=>?_) (fun hb=>?_)<;>refine xS ?_)|(refine aw_gs rfl rfl eE (fun hb=>?_) (fun hb=>?_)<;>fail_if_success (cases hb;done)<;>refine xS ?_)|(refine drk_gsd rfl rfl eE (fun hb=>?_) (fun hb=>?_)<;>refine xS ?_)|(refine drk_gse rfl rfl eE (fun hb=>?_) (fun hb=>?_)<;>refine xS ?_)|(refine drk_gsn rfl rfl eE (fun hb=>?_) (fun hb=>?_)<;>refine xS ?_)|(refine drk_gs rfl rfl eE (fun hb=>?_) (fun hb=>?_)<;>fail_if_success (cases hb;done)<;>refine xS ?_)
 refine xB fun g1 hn_g1=>?_
 repeat' first|refine yA1 hn_g1 ?_|(refine yC2 hn_g1 (f1) ?_)|(refine yD2 hn_g1 (f1) ?_)|(refine yW hn_g1 ?_;refine yS hn_g1 ?_)|refine yP hn_g1 ?_|refine yN hn_g1 ?_|refine aw_cd (zE hn_g1) (fun hb=>?_) (fun hb=>?_)|refine aw_ce (zE hn_g1) (fun hb=>?_) (fun hb=>?_)|refine aw_cn (zE hn_g1) (fun hb=>?_) (fun hb=>?_)|(refine yF hn_g1 (fun hb=>?_) (fun hb=>?_)<;>fail_if_success (cases hb;done))|(refine aw_gsd rfl rfl (zE hn_g1) (fun hb=>?_) (fun hb=>?_)<;>refine yS hn_g1 ?_)|(refine aw_gse rfl rfl (zE hn_g1) (fun hb=>?_) (fun hb=>?_)<;>refine yS hn_g1 ?_)|(refine aw_gsn rfl rfl (zE hn_g1) (fun hb=>?_) (fun hb=>?_)<;>refine yS hn_g1 ?_)|(refine aw_gs rfl rfl (zE hn_g1) (fun hb=>?_) (fun hb=>?_)<;>fail_if_success (cases hb;done)<;>refine yS hn_g1 ?_)|(refine drk_gsd rfl rfl (zE hn_g1) (fun hb=>?_) (fun hb=>?_)<;>refine yS hn_g1 ?_)|(refine drk_gse rfl rfl (zE hn_g1) (fun hb=>?_) (fun hb=>?_)<;>refine yS hn_g1 ?_)|(refine drk_gsn rfl rfl (zE hn_g1) (fun hb=>?_) (fun hb=>?_)<;>refine yS hn_g1 ?_)|(refine drk_gs rfl rfl (zE hn_g1) (fun hb=>?_) (fun hb=>?_)<;>fail_if_success (cases hb;done)<;>refine yS hn_g1 ?_)
 refine yT hC hn_g1 ?_
 exact .one (.c (.bool _))
theorem facI_fa (l:List RD) (hl:l.length≤1099511627776) (hw:∀i,(l.getD i rd0).wf 1073741824):Fa Tryz.prog 141 [.c (rats true l),.c (.raw (.func (.func 97) #[] #[]))] (.c (.int .i64 (fidx (fun x=> !x.prob) l))):=by
 refine fa_of_body Tryz.func141 rfl rfl (by simp [Tryz.ntmps141]) fun C hC=> ?_
 simp only [initS,Nat.reduceAdd]
 repeat' first|refine yA1 o0 ?_|(refine xW ?_;refine xS ?_)|refine xP ?_|refine xN ?_|refine aw_cd eE (fun hb=>?_) (fun hb=>?_)|refine aw_ce eE (fun hb=>?_) (fun hb=>?_)|refine aw_cn eE (fun hb=>?_) (fun hb=>?_)|(refine xF (fun hb=>?_) (fun hb=>?_)<;>fail_if_success (cases hb;done))|(refine aw_gsd rfl rfl eE (fun hb=>?_) (fun hb=>?_)<;>refine xS ?_)|(refine aw_gse rfl rfl eE (fun hb=>?_) (fun hb=>?_)<;>refine xS ?_)|(refine aw_gsn rfl rfl eE (fun hb=>?_) (fun hb=>?_)<;>refine xS ?_)|(refine aw_gs rfl rfl eE (fun hb=>?_) (fun hb=>?_)<;>fail_if_success (cases hb;done)<;>refine xS ?_)|(refine drk_gsd rfl rfl eE (fun hb=>?_) (fun hb=>?_)<;>refine xS ?_)|(refine drk_gse rfl rfl eE (fun hb=>?_) (fun hb=>?_)<;>refine xS ?_)|(refine drk_gsn rfl rfl eE (fun hb=>?_) (fun hb=>?_)<;>refine xS ?_)|(refine drk_gs rfl rfl eE (fun hb=>?_) (fun hb=>?_)<;>fail_if_success (cases hb;done)<;>refine xS ?_)
 refine aw_lp (fun i:Nat=>[(0,.c (rats true l)),(1,.c (.raw (.func (.func 97) #[] #[]))),(4,.c (.int .i64 0)),(7,.c (.int .i64 l.length)),(8,.c (.int .i64 i))]) (fun _=>[]) (fun i=>i≤l.length∧∀j,j<i→((fun x:RD=> !x.prob) (l.getD j rd0))=false) (fun i=>l.length-i) 0 eB zZ ⟨Nat.zero_le _,fun j hj=>absurd hj om⟩ ?_
 rintro i ⟨hi,hn⟩
 repeat' first|refine yA1 o0 ?_|(refine xW ?_;refine xS ?_)|refine xP ?_|refine xN ?_|refine aw_cd eE (fun hb=>?_) (fun hb=>?_)|refine aw_ce eE (fun hb=>?_) (fun hb=>?_)|refine aw_cn eE (fun hb=>?_) (fun hb=>?_)|(refine xF (fun hb=>?_) (fun hb=>?_)<;>fail_if_success (cases hb;done))|(refine aw_gsd rfl rfl eE (fun hb=>?_) (fun hb=>?_)<;>refine xS ?_)|(refine aw_gse rfl rfl eE (fun hb=>?_) (fun hb=>?_)<;>refine xS ?_)|(refine aw_gsn rfl rfl eE (fun hb=>?_) (fun hb=>?_)<;>refine xS ?_)|(refine aw_gs rfl rfl eE (fun hb=>?_) (fun hb=>?_)<;>fail_if_success (cases hb;done)<;>refine xS ?_)|(refine drk_gsd rfl rfl eE (fun hb=>?_) (fun hb=>?_)<;>refine xS ?_)|(refine drk_gse rfl rfl eE (fun hb=>?_) (fun hb=>?_)<;>refine xS ?_)|(refine drk_gsn rfl rfl eE (fun hb=>?_) (fun hb=>?_)<;>refine xS ?_)|(refine drk_gs rfl rfl eE (fun hb=>?_) (fun hb=>?_)<;>fail_if_success (cases hb;done)<;>refine xS ?_)
 ·have hi':=hb
  have hf:=fac1_fa (l.getD i rd0) (hw i)
  refine aw_callqv hf rfl rfl rfl eE eL ?_
  refine xS ?_
  repeat' first|refine yA1 o0 ?_|(refine xW ?_;refine xS ?_)|refine xP ?_|refine xN ?_|refine aw_cd eE (fun hb=>?_) (fun hb=>?_)|refine aw_ce eE (fun hb=>?_) (fun hb=>?_)|refine aw_cn eE (fun hb=>?_) (fun hb=>?_)|(refine xF (fun hb=>?_) (fun hb=>?_)<;>fail_if_success (cases hb;done))|(refine aw_gsd rfl rfl eE (fun hb=>?_) (fun hb=>?_)<;>refine xS ?_)|(refine aw_gse rfl rfl eE (fun hb=>?_) (fun hb=>?_)<;>refine xS ?_)|(refine aw_gsn rfl rfl eE (fun hb=>?_) (fun hb=>?_)<;>refine xS ?_)|(refine aw_gs rfl rfl eE (fun hb=>?_) (fun hb=>?_)<;>fail_if_success (cases hb;done)<;>refine xS ?_)|(refine drk_gsd rfl rfl eE (fun hb=>?_) (fun hb=>?_)<;>refine xS ?_)|(refine drk_gse rfl rfl eE (fun hb=>?_) (fun hb=>?_)<;>refine xS ?_)|(refine drk_gsn rfl rfl eE (fun hb=>?_) (fun hb=>?_)<;>refine xS ?_)|(refine drk_gs rfl rfl eE (fun hb=>?_) (fun hb=>?_)<;>fail_if_success (cases hb;done)<;>refine xS ?_)
  ·rw [fidx_at (p:=fun x:RD=> !x.prob) rd0 hi' (by simpa using hb) hn]
   refine xT hC ?_
   exact .one (.c (.int _ _))
  ·refine aw_stop ⟨i+1,?_⟩
   have hn':∀j,j<i+1→((fun x:RD=> !x.prob) (l.getD j rd0))=false:=fun j hj=>by
    by_cases e:j=i
    ·subst e;simpa using hb
    ·exact hn j om
   and_intros
   all_goals first|rfl|exact List.Sublist.refl _|exact True.intro|exact hn'|omega
 ·have hf:fidx (fun x:RD=> !x.prob) l= -1:=fidx_no rd0 (fun j hj=>hn j om)
  rw [hf]
  refine xT hC ?_
  exact .one (.c (.int _ _))
theorem fidx_all {α:Type} (p:α→Bool):∀l:List α,decide (fidx (fun x=> !p x) l≥0)= !l.all p
 |[]=>rfl
 |x::l=>by
  have ih:=fidx_all p l
  show decide ((if(!p x)=true then(0:Int) else if fidx (fun x=> !p x) l<0 then-1 else fidx (fun x=> !p x) l+1)≥0)= !(p x&&l.all p)
  cases h:p x with
  |false=>rfl
  |true=>
   rw [if_neg (by simp),Bool.true_and,←ih]
   by_cases h2:fidx (fun x=> !p x) l<0
   ·have a:¬fidx (fun x=> !p x) l≥0:=by omega
    rw [if_pos h2,decide_eq_false a];rfl
   ·have a:fidx (fun x=> !p x) l≥0:=by omega
    have b:fidx (fun x=> !p x) l+1≥0:=by omega
    rw [if_neg h2,decide_eq_true a,decide_eq_true b]
theorem facC_fa (l:List RD) (hl:l.length≤1099511627776) (hw:∀i,(l.getD i rd0).wf 1073741824):Fa Tryz.prog 96 [.c (rats true l),.c (.raw (.func (.func 97) #[] #[]))] (.c (.bool (!l.all RD.prob))):=by
 have f1:=facI_fa l hl hw
 have f2:=fidx_all RD.prob l
 refine fa_of_body Tryz.func96 rfl rfl (by simp [Tryz.ntmps96]) fun C hC=> ?_
 simp only [initS,Nat.reduceAdd]
 repeat' first|refine yA1 o0 ?_|(refine yC2 o0 (f1) ?_)|(refine yD2 o0 (f1) ?_)|(refine xW ?_;refine xS ?_)|refine xP ?_|refine xN ?_|refine aw_cd eE (fun hb=>?_) (fun hb=>?_)|refine aw_ce eE (fun hb=>?_) (fun hb=>?_)|refine aw_cn eE (fun hb=>?_) (fun hb=>?_)|(refine xF (fun hb=>?_) (fun hb=>?_)<;>fail_if_success (cases hb;done))|(refine aw_gsd rfl rfl eE (fun hb=>?_) (fun hb=>?_)<;>refine xS ?_)|(refine aw_gse rfl rfl eE (fun hb=>?_) (fun hb=>?_)<;>refine xS ?_)|(refine aw_gsn rfl rfl eE (fun hb=>?_) (fun hb=>?_)<;>refine xS ?_)|(refine aw_gs rfl rfl eE (fun hb=>?_) (fun hb=>?_)<;>fail_if_success (cases hb;done)<;>refine xS ?_)|(refine drk_gsd rfl rfl eE (fun hb=>?_) (fun hb=>?_)<;>refine xS ?_)|(refine drk_gse rfl rfl eE (fun hb=>?_) (fun hb=>?_)<;>refine xS ?_)|(refine drk_gsn rfl rfl eE (fun hb=>?_) (fun hb=>?_)<;>refine xS ?_)|(refine drk_gs rfl rfl eE (fun hb=>?_) (fun hb=>?_)<;>fail_if_success (cases hb;done)<;>refine xS ?_)
 refine xT hC ?_
 exact .one (.c (ler_bool f2))
end Go.Proofs.YteocnikcjjonbaaGreat
namespace Go.PN
open Go.AI
structure MdWf3 (m:MdD):Prop where
 l:m.phases.length≤1099511627776
 ph:∀i,(m.phases.getD i ph0).name.length≤1099511627776∧(m.phases.getD i ph0).top.length≤1099511627776∧(m.phases.getD i ph0).values.length≤1099511627776
 vl:∀i k,(((m.phases.getD i ph0).values.getD k vl0)).p.wf 1073741824
end Go.PN
namespace Go.Proofs.YteocnikcjjonbaaGreat
open Go.AI Go.PN
attribute [local irreducible] aw Fa Fh DrK
theorem checkPhases_fa (m:MdD) (hm:MdOk m) (hw2:MdWf2 m) (hw:MdWf3 m):Fa Tryz.prog 49 [.agg (mdc true m)] (.c (errA (phsC m))):=by
 have hl:=hw.l
 refine fa_of_body Tryz.func49 rfl rfl (by simp [Tryz.ntmps49]) fun C hC=> ?_
 simp only [initS,Nat.reduceAdd]
 repeat' first|refine yA1 o0 ?_|(refine xW ?_;refine xS ?_)|refine xP ?_|refine xN ?_|refine aw_cd eE (fun hb=>?_) (fun hb=>?_)|refine aw_ce eE (fun hb=>?_) (fun hb=>?_)|refine aw_cn eE (fun hb=>?_) (fun hb=>?_)|(refine xF (fun hb=>?_) (fun hb=>?_)<;>fail_if_success (cases hb;done))|(refine aw_gsd rfl rfl eE (fun hb=>?_) (fun hb=>?_)<;>refine xS ?_)|(refine aw_gse rfl rfl eE (fun hb=>?_) (fun hb=>?_)<;>refine xS ?_)|(refine aw_gsn rfl rfl eE (fun hb=>?_) (fun hb=>?_)<;>refine xS ?_)|(refine aw_gs rfl rfl eE (fun hb=>?_) (fun hb=>?_)<;>fail_if_success (cases hb;done)<;>refine xS ?_)|(refine drk_gsd rfl rfl eE (fun hb=>?_) (fun hb=>?_)<;>refine xS ?_)|(refine drk_gse rfl rfl eE (fun hb=>?_) (fun hb=>?_)<;>refine xS ?_)|(refine drk_gsn rfl rfl eE (fun hb=>?_) (fun hb=>?_)<;>refine xS ?_)|(refine drk_gs rfl rfl eE (fun hb=>?_) (fun hb=>?_)<;>fail_if_success (cases hb;done)<;>refine xS ?_)
 refine xB fun g1 hn_g1=>?_
 repeat' first|refine yA1 hn_g1 ?_|(refine yW hn_g1 ?_;refine yS hn_g1 ?_)|refine yP hn_g1 ?_|refine yN hn_g1 ?_|refine aw_cd (zE hn_g1) (fun hb=>?_) (fun hb=>?_)|refine aw_ce (zE hn_g1) (fun hb=>?_) (fun hb=>?_)|refine aw_cn (zE hn_g1) (fun hb=>?_) (fun hb=>?_)|(refine yF hn_g1 (fun hb=>?_) (fun hb=>?_)<;>fail_if_success (cases hb;done))|(refine aw_gsd rfl rfl (zE hn_g1) (fun hb=>?_) (fun hb=>?_)<;>refine yS hn_g1 ?_)|(refine aw_gse rfl rfl (zE hn_g1) (fun hb=>?_) (fun hb=>?_)<;>refine yS hn_g1 ?_)|(refine aw_gsn rfl rfl (zE hn_g1) (fun hb=>?_) (fun hb=>?_)<;>refine yS hn_g1 ?_)|(refine aw_gs rfl rfl (zE hn_g1) (fun hb=>?_) (fun hb=>?_)<;>fail_if_success (cases hb;done)<;>refine yS hn_g1 ?_)|(refine drk_gsd rfl rfl (zE hn_g1) (fun hb=>?_) (fun hb=>?_)<;>refine yS hn_g1 ?_)|(refine drk_gse rfl rfl (zE hn_g1) (fun hb=>?_) (fun hb=>?_)<;>refine yS hn_g1 ?_)|(refine drk_gsn rfl rfl (zE hn_g1) (fun hb=>?_) (fun hb=>?_)<;>refine yS hn_g1 ?_)|(refine drk_gs rfl rfl (zE hn_g1) (fun hb=>?_) (fun hb=>?_)<;>fail_if_success (cases hb;done)<;>refine yS hn_g1 ?_)
 ·refine yT hC hn_g1 ?_
  exact .one (.c (ler_errE (by unfold phsC;rw [if_pos om]) (by decide)))
 have he2:phsC m=frst (phC m) m.phases 0:=by
  unfold phsC
  rw [if_neg om]
 generalize hF:frst (phC m) m.phases 0=F at he2
 refine aw_lp (fun i:Nat=>[(1,.c (.optr g1 0)),(2,.c .nilI),(13,.c (phs true m.phases)),(14,.c (.int .i64 m.phases.length)),(15,.c (.int .i64 i))]) (fun _=>[(g1,.cells 30 8 (ofL (mdc true m)))]) (fun i=>i≤m.phases.length∧frst (phC m) (m.phases.drop i) i=F) (fun i=>m.phases.length-i) 0 (zB hn_g1) zZ ⟨Nat.zero_le _,hF⟩ ?_
 rintro i ⟨hi,hlp⟩
 repeat' first|refine yA1 hn_g1 ?_|(refine yW hn_g1 ?_;refine yS hn_g1 ?_)|refine yP hn_g1 ?_|refine yN hn_g1 ?_|refine aw_cd (zE hn_g1) (fun hb=>?_) (fun hb=>?_)|refine aw_ce (zE hn_g1) (fun hb=>?_) (fun hb=>?_)|refine aw_cn (zE hn_g1) (fun hb=>?_) (fun hb=>?_)|(refine yF hn_g1 (fun hb=>?_) (fun hb=>?_)<;>fail_if_success (cases hb;done))|(refine aw_gsd rfl rfl (zE hn_g1) (fun hb=>?_) (fun hb=>?_)<;>refine yS hn_g1 ?_)|(refine aw_gse rfl rfl (zE hn_g1) (fun hb=>?_) (fun hb=>?_)<;>refine yS hn_g1 ?_)|(refine aw_gsn rfl rfl (zE hn_g1) (fun hb=>?_) (fun hb=>?_)<;>refine yS hn_g1 ?_)|(refine aw_gs rfl rfl (zE hn_g1) (fun hb=>?_) (fun hb=>?_)<;>fail_if_success (cases hb;done)<;>refine yS hn_g1 ?_)|(refine drk_gsd rfl rfl (zE hn_g1) (fun hb=>?_) (fun hb=>?_)<;>refine yS hn_g1 ?_)|(refine drk_gse rfl rfl (zE hn_g1) (fun hb=>?_) (fun hb=>?_)<;>refine yS hn_g1 ?_)|(refine drk_gsn rfl rfl (zE hn_g1) (fun hb=>?_) (fun hb=>?_)<;>refine yS hn_g1 ?_)|(refine drk_gs rfl rfl (zE hn_g1) (fun hb=>?_) (fun hb=>?_)<;>fail_if_success (cases hb;done)<;>refine yS hn_g1 ?_)
 ·obtain⟨w0,w1,w2⟩:=hw.ph i
  have w3:=hw.vl i
  have hi':=hb
  have hR:∀c,phC m i (m.phases.getD i ph0)=c→c≠0→phsC m=c:=fun c hc h0=>by
   rw [he2];exact frst_ret hlp hi' hc h0
  have hG:=frst_go (d:=ph0) hlp hi'
  clear hlp
  generalize hx:m.phases.getD i ph0=x at*
  have f1:Fa Tryz.prog 42 [.c (.str (sB x.name))] (.c (.bool (nameOk x.name))):=tname_fa x.name w0
  have f3:Fa Tryz.prog 47 [.agg (mdc true m),.c (.int .i64 (-1)),.c (.str (sB x.top))] (.c (.bool (isInp m 0 x.top))):=isInput_fa m 0 x.top (Nat.zero_le _) hm (by have:=gtsK_len hw2 0;omega) w1
  refine yA hn_g1 fun g4 hn_g4=>?_
  repeat' first|refine yA1 (oj hn_g1 hn_g4) ?_|(refine yC2 (oj hn_g1 hn_g4) (f1) ?_)|(refine yD2 (oj hn_g1 hn_g4) (f1) ?_)|(refine yW (oj hn_g1 hn_g4) ?_;refine yS (oj hn_g1 hn_g4) ?_)|refine yP (oj hn_g1 hn_g4) ?_|refine yN (oj hn_g1 hn_g4) ?_|refine aw_cd (zE (oj hn_g1 hn_g4)) (fun hb=>?_) (fun hb=>?_)|refine aw_ce (zE (oj hn_g1 hn_g4)) (fun hb=>?_) (fun hb=>?_)|refine aw_cn (zE (oj hn_g1 hn_g4)) (fun hb=>?_) (fun hb=>?_)|(refine yF (oj hn_g1 hn_g4) (fun hb=>?_) (fun hb=>?_)<;>fail_if_success (cases hb;done))|(refine aw_gsd rfl rfl (zE (oj hn_g1 hn_g4)) (fun hb=>?_) (fun hb=>?_)<;>refine yS (oj hn_g1 hn_g4) ?_)|(refine aw_gse rfl rfl (zE (oj hn_g1 hn_g4)) (fun hb=>?_) (fun hb=>?_)<;>refine yS (oj hn_g1 hn_g4) ?_)|(refine aw_gsn rfl rfl (zE (oj hn_g1 hn_g4)) (fun hb=>?_) (fun hb=>?_)<;>refine yS (oj hn_g1 hn_g4) ?_)|(refine aw_gs rfl rfl (zE (oj hn_g1 hn_g4)) (fun hb=>?_) (fun hb=>?_)<;>fail_if_success (cases hb;done)<;>refine yS (oj hn_g1 hn_g4) ?_)|(refine drk_gsd rfl rfl (zE (oj hn_g1 hn_g4)) (fun hb=>?_) (fun hb=>?_)<;>refine yS (oj hn_g1 hn_g4) ?_)|(refine drk_gse rfl rfl (zE (oj hn_g1 hn_g4)) (fun hb=>?_) (fun hb=>?_)<;>refine yS (oj hn_g1 hn_g4) ?_)|(refine drk_gsn rfl rfl (zE (oj hn_g1 hn_g4)) (fun hb=>?_) (fun hb=>?_)<;>refine yS (oj hn_g1 hn_g4) ?_)|(refine drk_gs rfl rfl (zE (oj hn_g1 hn_g4)) (fun hb=>?_) (fun hb=>?_)<;>fail_if_success (cases hb;done)<;>refine yS (oj hn_g1 hn_g4) ?_)
  ·refine yT hC (oj hn_g1 hn_g4) ?_
   refine .one (.c (ler_errE (c:=phsC m) (hR _ ?_ (by decide)) (by decide)))
   unfold phC
   rw [if_pos (by simpa using hb)]
  rename_i hn1
  replace hn1:=hb
  refine aw_makeFunc (gs:=[g4]) rfl rfl rfl (zE (oj hn_g1 hn_g4)) ?_
  have J1:=oj hn_g1 hn_g4
  refine yS J1 ?_
  have f2:=phI_fg g4 x m.phases hl
  repeat' first|refine yA1 J1 ?_|(refine aw_cg (f2) rfl rfl rfl (zE J1) (zL2 J1) ?_;refine yS J1 ?_)|(refine yC2 J1 (f3) ?_)|(refine yD2 J1 (f3) ?_)|(refine yW J1 ?_;refine yS J1 ?_)|refine yP J1 ?_|refine yN J1 ?_|refine aw_cd (zE J1) (fun hb=>?_) (fun hb=>?_)|refine aw_ce (zE J1) (fun hb=>?_) (fun hb=>?_)|refine aw_cn (zE J1) (fun hb=>?_) (fun hb=>?_)|(refine yF J1 (fun hb=>?_) (fun hb=>?_)<;>fail_if_success (cases hb;done))|(refine aw_gsd rfl rfl (zE J1) (fun hb=>?_) (fun hb=>?_)<;>refine yS J1 ?_)|(refine aw_gse rfl rfl (zE J1) (fun hb=>?_) (fun hb=>?_)<;>refine yS J1 ?_)|(refine aw_gsn rfl rfl (zE J1) (fun hb=>?_) (fun hb=>?_)<;>refine yS J1 ?_)|(refine aw_gs rfl rfl (zE J1) (fun hb=>?_) (fun hb=>?_)<;>fail_if_success (cases hb;done)<;>refine yS J1 ?_)|(refine drk_gsd rfl rfl (zE J1) (fun hb=>?_) (fun hb=>?_)<;>refine yS J1 ?_)|(refine drk_gse rfl rfl (zE J1) (fun hb=>?_) (fun hb=>?_)<;>refine yS J1 ?_)|(refine drk_gsn rfl rfl (zE J1) (fun hb=>?_) (fun hb=>?_)<;>refine yS J1 ?_)|(refine drk_gs rfl rfl (zE J1) (fun hb=>?_) (fun hb=>?_)<;>fail_if_success (cases hb;done)<;>refine yS J1 ?_)
  ·refine yT hC J1 ?_
   refine .one (.c (ler_errE (c:=phsC m) (hR _ ?_ (by decide)) (by decide)))
   unfold phC
   rw [if_neg (by simpa using hn1),if_pos hb]
  ·rename_i hn2
   refine yT hC J1 ?_
   refine .one (.c (ler_errE (c:=phsC m) (hR _ ?_ (by decide)) (by decide)))
   unfold phC
   rw [if_neg (by simpa using hn1),if_neg hn2,if_pos (by simpa using hb)]
  rename_i hn2
  have hn3:=hb
  have hp:phC m i x=frst (vlC m x) x.values 0:=by
   unfold phC
   rw [if_neg (by simpa using hn1),if_neg hn2,if_neg (by simpa using hn3)]
  clear f1 f2 f3 J1
  generalize hF2:frst (vlC m x) x.values 0=F2 at hp
  refine aw_lp (fun k:Nat=>[(1,.c (.optr g1 0)),(2,.c .nilI),(4,.c (.optr g4 0)),(13,.c (phs true m.phases)),(14,.c (.int .i64 m.phases.length)),(15,.c (.int .i64 i)),(39,.c (vls true x.values)),(40,.c (.int .i64 x.values.length)),(41,.c (.int .i64 k))]) (fun _=>[(g4,.cells 104 3 (ofL (phc x))),(g1,.cells 30 8 (ofL (mdc true m)))]) (fun k=>k≤x.values.length∧frst (vlC m x) (x.values.drop k) k=F2) (fun k=>x.values.length-k) 0 (zB (oj hn_g1 hn_g4)) zZ ⟨Nat.zero_le _,hF2⟩ ?_
  rintro k ⟨hk,hlq⟩
  repeat' first|refine yA1 (oj hn_g1 hn_g4) ?_|(refine yW (oj hn_g1 hn_g4) ?_;refine yS (oj hn_g1 hn_g4) ?_)|refine yP (oj hn_g1 hn_g4) ?_|refine yN (oj hn_g1 hn_g4) ?_|refine aw_cd (zE (oj hn_g1 hn_g4)) (fun hb=>?_) (fun hb=>?_)|refine aw_ce (zE (oj hn_g1 hn_g4)) (fun hb=>?_) (fun hb=>?_)|refine aw_cn (zE (oj hn_g1 hn_g4)) (fun hb=>?_) (fun hb=>?_)|(refine yF (oj hn_g1 hn_g4) (fun hb=>?_) (fun hb=>?_)<;>fail_if_success (cases hb;done))|(refine aw_gsd rfl rfl (zE (oj hn_g1 hn_g4)) (fun hb=>?_) (fun hb=>?_)<;>refine yS (oj hn_g1 hn_g4) ?_)|(refine aw_gse rfl rfl (zE (oj hn_g1 hn_g4)) (fun hb=>?_) (fun hb=>?_)<;>refine yS (oj hn_g1 hn_g4) ?_)|(refine aw_gsn rfl rfl (zE (oj hn_g1 hn_g4)) (fun hb=>?_) (fun hb=>?_)<;>refine yS (oj hn_g1 hn_g4) ?_)|(refine aw_gs rfl rfl (zE (oj hn_g1 hn_g4)) (fun hb=>?_) (fun hb=>?_)<;>fail_if_success (cases hb;done)<;>refine yS (oj hn_g1 hn_g4) ?_)|(refine drk_gsd rfl rfl (zE (oj hn_g1 hn_g4)) (fun hb=>?_) (fun hb=>?_)<;>refine yS (oj hn_g1 hn_g4) ?_)|(refine drk_gse rfl rfl (zE (oj hn_g1 hn_g4)) (fun hb=>?_) (fun hb=>?_)<;>refine yS (oj hn_g1 hn_g4) ?_)|(refine drk_gsn rfl rfl (zE (oj hn_g1 hn_g4)) (fun hb=>?_) (fun hb=>?_)<;>refine yS (oj hn_g1 hn_g4) ?_)|(refine drk_gs rfl rfl (zE (oj hn_g1 hn_g4)) (fun hb=>?_) (fun hb=>?_)<;>fail_if_success (cases hb;done)<;>refine yS (oj hn_g1 hn_g4) ?_)
  ·have hk':=hb
   have hR2:∀c,vlC m x k (x.values.getD k vl0)=c→c≠0→phsC m=c:=fun c hc h0=>hR c (hp.trans (frst_ret hlq hk' hc h0)) h0
   have hG2:=frst_go (d:=vl0) hlq hk'
   clear hlq
   have w4:=w3 k
   generalize hv:x.values.getD k vl0=v at*
   have f1:=event_fa m v.event hm.ev
   have f3:=rprob_fa v.p w4
   refine yA (oj hn_g1 hn_g4) fun g5 hn_g5=>?_
   repeat' first|refine yA1 (oj hn_g1 (oj hn_g4 hn_g5)) ?_|(refine yC2 (oj hn_g1 (oj hn_g4 hn_g5)) (f1) ?_)|(refine yD2 (oj hn_g1 (oj hn_g4 hn_g5)) (f1) ?_)|(refine yW (oj hn_g1 (oj hn_g4 hn_g5)) ?_;refine yS (oj hn_g1 (oj hn_g4 hn_g5)) ?_)|refine yP (oj hn_g1 (oj hn_g4 hn_g5)) ?_|refine yN (oj hn_g1 (oj hn_g4 hn_g5)) ?_|refine aw_cd (zE (oj hn_g1 (oj hn_g4 hn_g5))) (fun hb=>?_) (fun hb=>?_)|refine aw_ce (zE (oj hn_g1 (oj hn_g4 hn_g5))) (fun hb=>?_) (fun hb=>?_)|refine aw_cn (zE (oj hn_g1 (oj hn_g4 hn_g5))) (fun hb=>?_) (fun hb=>?_)|(refine yF (oj hn_g1 (oj hn_g4 hn_g5)) (fun hb=>?_) (fun hb=>?_)<;>fail_if_success (cases hb;done))|(refine aw_gsd rfl rfl (zE (oj hn_g1 (oj hn_g4 hn_g5))) (fun hb=>?_) (fun hb=>?_)<;>refine yS (oj hn_g1 (oj hn_g4 hn_g5)) ?_)|(refine aw_gse rfl rfl (zE (oj hn_g1 (oj hn_g4 hn_g5))) (fun hb=>?_) (fun hb=>?_)<;>refine yS (oj hn_g1 (oj hn_g4 hn_g5)) ?_)|(refine aw_gsn rfl rfl (zE (oj hn_g1 (oj hn_g4 hn_g5))) (fun hb=>?_) (fun hb=>?_)<;>refine yS (oj hn_g1 (oj hn_g4 hn_g5)) ?_)|(refine aw_gs rfl rfl (zE (oj hn_g1 (oj hn_g4 hn_g5))) (fun hb=>?_) (fun hb=>?_)<;>fail_if_success (cases hb;done)<;>refine yS (oj hn_g1 (oj hn_g4 hn_g5)) ?_)|(refine drk_gsd rfl rfl (zE (oj hn_g1 (oj hn_g4 hn_g5))) (fun hb=>?_) (fun hb=>?_)<;>refine yS (oj hn_g1 (oj hn_g4 hn_g5)) ?_)|(refine drk_gse rfl rfl (zE (oj hn_g1 (oj hn_g4 hn_g5))) (fun hb=>?_) (fun hb=>?_)<;>refine yS (oj hn_g1 (oj hn_g4 hn_g5)) ?_)|(refine drk_gsn rfl rfl (zE (oj hn_g1 (oj hn_g4 hn_g5))) (fun hb=>?_) (fun hb=>?_)<;>refine yS (oj hn_g1 (oj hn_g4 hn_g5)) ?_)|(refine drk_gs rfl rfl (zE (oj hn_g1 (oj hn_g4 hn_g5))) (fun hb=>?_) (fun hb=>?_)<;>fail_if_success (cases hb;done)<;>refine yS (oj hn_g1 (oj hn_g4 hn_g5)) ?_)
   ·refine yT hC (oj hn_g1 (oj hn_g4 hn_g5)) ?_
    refine .one (.c (ler_errE (c:=phsC m) (hR2 _ ?_ (by decide)) (by decide)))
    unfold vlC evI
    rw [if_pos hb]
   have m1:=hb
   refine aw_makeFunc (gs:=[g5]) rfl rfl rfl (zE (oj hn_g1 (oj hn_g4 hn_g5))) ?_
   have J2:=oj hn_g1 (oj hn_g4 hn_g5)
   refine yS J2 ?_
   have f2:=vlI_fg g5 v x.values w2
   repeat' first|refine yA1 J2 ?_|(refine aw_cg (f2) rfl rfl rfl (zE J2) (zL2 J2) ?_;refine yS J2 ?_)|(refine yC2 J2 (f3) ?_)|(refine yD2 J2 (f3) ?_)|(refine yW J2 ?_;refine yS J2 ?_)|refine yP J2 ?_|refine yN J2 ?_|refine aw_cd (zE J2) (fun hb=>?_) (fun hb=>?_)|refine aw_ce (zE J2) (fun hb=>?_) (fun hb=>?_)|refine aw_cn (zE J2) (fun hb=>?_) (fun hb=>?_)|(refine yF J2 (fun hb=>?_) (fun hb=>?_)<;>fail_if_success (cases hb;done))|(refine aw_gsd rfl rfl (zE J2) (fun hb=>?_) (fun hb=>?_)<;>refine yS J2 ?_)|(refine aw_gse rfl rfl (zE J2) (fun hb=>?_) (fun hb=>?_)<;>refine yS J2 ?_)|(refine aw_gsn rfl rfl (zE J2) (fun hb=>?_) (fun hb=>?_)<;>refine yS J2 ?_)|(refine aw_gs rfl rfl (zE J2) (fun hb=>?_) (fun hb=>?_)<;>fail_if_success (cases hb;done)<;>refine yS J2 ?_)|(refine drk_gsd rfl rfl (zE J2) (fun hb=>?_) (fun hb=>?_)<;>refine yS J2 ?_)|(refine drk_gse rfl rfl (zE J2) (fun hb=>?_) (fun hb=>?_)<;>refine yS J2 ?_)|(refine drk_gsn rfl rfl (zE J2) (fun hb=>?_) (fun hb=>?_)<;>refine yS J2 ?_)|(refine drk_gs rfl rfl (zE J2) (fun hb=>?_) (fun hb=>?_)<;>fail_if_success (cases hb;done)<;>refine yS J2 ?_)
   ·refine yT hC J2 ?_
    refine .one (.c (ler_errE (c:=phsC m) (hR2 _ ?_ (by decide)) (by decide)))
    unfold vlC evI
    rw [if_neg m1,if_pos hb]
   ·rename_i m2
    refine yT hC J2 ?_
    refine .one (.c (ler_errE (c:=phsC m) (hR2 _ ?_ (by decide)) (by decide)))
    unfold vlC evI
    rw [if_neg m1,if_neg m2,if_pos (by simpa using hb)]
   ·rename_i m2
    refine aw_stop ⟨k+1,?_⟩
    have hz:vlC m x k v=0:=by
     unfold vlC evI
     rw [if_neg m1,if_neg m2,if_neg (by simpa using hb)]
    and_intros
    all_goals first|rfl|exact List.Sublist.refl _|exact List.sublist_cons_self _ _|exact True.intro|exact hG2 hz|omega
  ·have hF0:=frst_fin hlq hb
   refine aw_stop ⟨i+1,?_⟩
   and_intros
   all_goals first|rfl|exact List.Sublist.refl _|exact List.sublist_cons_self _ _|exact True.intro|exact hG (hp.trans hF0)|omega
 ·have hF0:=frst_fin hlp hb
  subst hF0
  refine yT hC hn_g1 ?_
  exact .one (.c (ler_err0 he2))
end Go.Proofs.YteocnikcjjonbaaGreat
namespace Go.Proofs.YteocnikcjjonbaaGreat
open Go.AI Go.PN
attribute [local irreducible] aw Fa Fh DrK
theorem sindexF_fa (l:List BS) (n:BS) (hl:l.length≤1099511627776):Fa Tryz.prog 140 [.c (strs false l),.c (.str (sB n))] (.c (.int .i64 (fidx (fun x=>n==x) l))):=by
 refine fa_of_body Tryz.func140 rfl rfl (by simp [Tryz.ntmps140]) fun C hC=> ?_
 simp only [initS,Nat.reduceAdd]
 repeat' first|refine yA1 o0 ?_|(refine xW ?_;refine xS ?_)|refine xP ?_|refine xN ?_|refine aw_cd eE (fun hb=>?_) (fun hb=>?_)|refine aw_ce eE (fun hb=>?_) (fun hb=>?_)|refine aw_cn eE (fun hb=>?_) (fun hb=>?_)|(refine xF (fun hb=>?_) (fun hb=>?_)<;>fail_if_success (cases hb;done))|(refine aw_gsd rfl rfl eE (fun hb=>?_) (fun hb=>?_)<;>refine xS ?_)|(refine aw_gse rfl rfl eE (fun hb=>?_) (fun hb=>?_)<;>refine xS ?_)|(refine aw_gsn rfl rfl eE (fun hb=>?_) (fun hb=>?_)<;>refine xS ?_)|(refine aw_gs rfl rfl eE (fun hb=>?_) (fun hb=>?_)<;>fail_if_success (cases hb;done)<;>refine xS ?_)|(refine drk_gsd rfl rfl eE (fun hb=>?_) (fun hb=>?_)<;>refine xS ?_)|(refine drk_gse rfl rfl eE (fun hb=>?_) (fun hb=>?_)<;>refine xS ?_)|(refine drk_gsn rfl rfl eE (fun hb=>?_) (fun hb=>?_)<;>refine xS ?_)|(refine drk_gs rfl rfl eE (fun hb=>?_) (fun hb=>?_)<;>fail_if_success (cases hb;done)<;>refine xS ?_)
 refine aw_lp (fun i:Nat=>[(0,.c (strs false l)),(1,.c (.str (sB n))),(4,.c (.int .i64 0)),(7,.c (.int .i64 l.length)),(8,.c (.int .i64 i))]) (fun _=>[]) (fun i=>i≤l.length∧∀j,j<i→((fun x:BS=>n==x) (l.getD j []))=false) (fun i=>l.length-i) 0 eB zZ ⟨Nat.zero_le _,fun j hj=>absurd hj om⟩ ?_
 rintro i ⟨hi,hn⟩
 repeat' first|refine yA1 o0 ?_|(refine xW ?_;refine xS ?_)|refine xP ?_|refine xN ?_|refine aw_cd eE (fun hb=>?_) (fun hb=>?_)|refine aw_ce eE (fun hb=>?_) (fun hb=>?_)|refine aw_cn eE (fun hb=>?_) (fun hb=>?_)|(refine xF (fun hb=>?_) (fun hb=>?_)<;>fail_if_success (cases hb;done))|(refine aw_gsd rfl rfl eE (fun hb=>?_) (fun hb=>?_)<;>refine xS ?_)|(refine aw_gse rfl rfl eE (fun hb=>?_) (fun hb=>?_)<;>refine xS ?_)|(refine aw_gsn rfl rfl eE (fun hb=>?_) (fun hb=>?_)<;>refine xS ?_)|(refine aw_gs rfl rfl eE (fun hb=>?_) (fun hb=>?_)<;>fail_if_success (cases hb;done)<;>refine xS ?_)|(refine drk_gsd rfl rfl eE (fun hb=>?_) (fun hb=>?_)<;>refine xS ?_)|(refine drk_gse rfl rfl eE (fun hb=>?_) (fun hb=>?_)<;>refine xS ?_)|(refine drk_gsn rfl rfl eE (fun hb=>?_) (fun hb=>?_)<;>refine xS ?_)|(refine drk_gs rfl rfl eE (fun hb=>?_) (fun hb=>?_)<;>fail_if_success (cases hb;done)<;>refine xS ?_)
 ·rename_i hi'
  rw [fidx_at (p:=fun x:BS=>n==x) [] hi' (by simpa using hb) hn]
  refine xT hC ?_
  exact .one (.c (.int _ _))
 ·rename_i hi'
  refine aw_stop ⟨i+1,?_⟩
  have hn':∀j,j<i+1→((fun x:BS=>n==x) (l.getD j []))=false:=fun j hj=>by
   by_cases e:j=i
   ·subst e;simpa using hb
   ·exact hn j om
  and_intros
  all_goals first|rfl|exact List.Sublist.refl _|exact True.intro|exact hn'|omega
 ·have hf:fidx (fun x=>n==x) l= -1:=fidx_no [] (fun j hj=>hn j om)
  rw [hf]
  refine xT hC ?_
  exact .one (.c (.int _ _))
theorem scontF_fa (l:List BS) (n:BS) (hl:l.length≤1099511627776):Fa Tryz.prog 93 [.c (strs false l),.c (.str (sB n))] (.c (.bool (l.contains n))):=by
 have f1:=sindexF_fa l n hl
 have f2:=fidx_mem n l
 refine fa_of_body Tryz.func93 rfl rfl (by simp [Tryz.ntmps93]) fun C hC=> ?_
 simp only [initS,Nat.reduceAdd]
 repeat' first|refine yA1 o0 ?_|(refine yC2 o0 (f1) ?_)|(refine yD2 o0 (f1) ?_)|(refine xW ?_;refine xS ?_)|refine xP ?_|refine xN ?_|refine aw_cd eE (fun hb=>?_) (fun hb=>?_)|refine aw_ce eE (fun hb=>?_) (fun hb=>?_)|refine aw_cn eE (fun hb=>?_) (fun hb=>?_)|(refine xF (fun hb=>?_) (fun hb=>?_)<;>fail_if_success (cases hb;done))|(refine aw_gsd rfl rfl eE (fun hb=>?_) (fun hb=>?_)<;>refine xS ?_)|(refine aw_gse rfl rfl eE (fun hb=>?_) (fun hb=>?_)<;>refine xS ?_)|(refine aw_gsn rfl rfl eE (fun hb=>?_) (fun hb=>?_)<;>refine xS ?_)|(refine aw_gs rfl rfl eE (fun hb=>?_) (fun hb=>?_)<;>fail_if_success (cases hb;done)<;>refine xS ?_)|(refine drk_gsd rfl rfl eE (fun hb=>?_) (fun hb=>?_)<;>refine xS ?_)|(refine drk_gse rfl rfl eE (fun hb=>?_) (fun hb=>?_)<;>refine xS ?_)|(refine drk_gsn rfl rfl eE (fun hb=>?_) (fun hb=>?_)<;>refine xS ?_)|(refine drk_gs rfl rfl eE (fun hb=>?_) (fun hb=>?_)<;>fail_if_success (cases hb;done)<;>refine xS ?_)
 refine xT hC ?_
 exact .one (.c (ler_bool f2))
end Go.Proofs.YteocnikcjjonbaaGreat
namespace Go.PN
open Go.AI
theorem frsS_ret {α σ:Type} {f:Nat→α→σ→Int×σ} {l:List α} {d:α} {i:Nat} {s:σ} {F:Int×σ} (h:frsS f (l.drop i) i s=F) (hi:i<l.length) {r:Int×σ} (hc:f i (l.getD i d) s=r) (h0:r.1≠0):F=r:=by
 rw [frsS_step d hi,hc,if_neg h0] at h
 exact h.symm
theorem frsS_go {α σ:Type} {f:Nat→α→σ→Int×σ} {l:List α} {d:α} {i:Nat} {s:σ} {F:Int×σ} (h:frsS f (l.drop i) i s=F) (hi:i<l.length) {r:Int×σ} (hc:f i (l.getD i d) s=r) (h0:r.1=0):frsS f (l.drop (i+1)) (i+1) r.2=F:=by
 rw [frsS_step d hi,hc,if_pos h0] at h
 exact h
theorem frsS_fin {α σ:Type} {f:Nat→α→σ→Int×σ} {l:List α} {i:Nat} {s:σ} {F:Int×σ} (h:frsS f (l.drop i) i s=F) (hi:¬i<l.length):F=(0,s):=by
 rw [frsS_end hi] at h
 exact h.symm
end Go.PN
namespace Go.Proofs.YteocnikcjjonbaaGreat
open Go.AI Go.PN
theorem le_gst {pre:Heap} {og:Option Nat} {ty:TypeId} {sp:List BS} (hog:og=none→sp.length=0) (hnd:(pre++gh og ty sp.length (strsF sp)).keys.Nodup):LeC (pre++gh og ty sp.length (strsF sp)) (gs og 1 sp.length) (strs false sp):=by
 cases og with
 |none=>
  have h0:=hog rfl
  show LeC _ .nils (.row false 1 sp.length (strsF sp))
  rw [h0]
  exact .nils
 |some g=>
  have hg:g∉pre.keys:=fun hm=>by
   have hk:(pre++gh (some g) ty sp.length (strsF sp)).keys=pre.keys++[g]:=by simp [Heap.keys,gh]
   rw [hk] at hnd
   exact(List.nodup_append.1 hnd).2.2 g hm g (by simp) rfl
  exact .osl (Heap.get_app hg) om (fun j _=>by rw [Nat.zero_add];exact .refl _)
attribute [local irreducible] aw Fa Fh DrK
theorem checkInputs_fh (m:MdD) (k:Nat) (sp0:List BS) (og0:Option Nat) (hk:k≤m.pages.length) (hm:MdOk m) (hw2:MdWf2 m) (hI:∀i,((gtsK m k).getD i gt0).inputs.length≤16) (hin:∀i j,(((gtsK m k).getD i gt0).inputs.getD j []).length≤1099511627776) (hog0:og0=none→sp0.length=0) (hb0:sp0.length≤1073741824):Fh Tryz.prog 46 (gh og0 9 sp0.length (strsF sp0)) [.agg (mdc true m),.c (.int .i64 ((k:Int)-1)),.c (gs og0 1 sp0.length)] (fun x h=>((inP m k sp0).1≠0∧h=[]∧x=.tup [.c .nils,.c (errA (inP m k sp0).1)])∨((inP m k sp0).1=0∧∃og,(og=none→(inP m k sp0).2.length=0)∧h=gh og 9 (inP m k sp0).2.length (strsF (inP m k sp0).2)∧x=.tup [.c (gs og 1 (inP m k sp0).2.length),.c .nilI])):=by
 have hkl:=gtsK_len hw2 k
 have f0:=gatesOf_fa m k hk hm.pg
 refine fh_of_body Tryz.func46 rfl rfl (by simp [Tryz.ntmps46]) fun C hC=> ?_
 simp only [initS,Nat.reduceAdd]
 repeat' first|refine yA1 o0 ?_|(refine xW ?_;refine xS ?_)|refine xP ?_|refine xN ?_|refine aw_cd eE (fun hb=>?_) (fun hb=>?_)|refine aw_ce eE (fun hb=>?_) (fun hb=>?_)|refine aw_cn eE (fun hb=>?_) (fun hb=>?_)|(refine xF (fun hb=>?_) (fun hb=>?_)<;>fail_if_success (cases hb;done))|(refine aw_gsd rfl rfl eE (fun hb=>?_) (fun hb=>?_)<;>refine xS ?_)|(refine aw_gse rfl rfl eE (fun hb=>?_) (fun hb=>?_)<;>refine xS ?_)|(refine aw_gsn rfl rfl eE (fun hb=>?_) (fun hb=>?_)<;>refine xS ?_)|(refine aw_gs rfl rfl eE (fun hb=>?_) (fun hb=>?_)<;>fail_if_success (cases hb;done)<;>refine xS ?_)|(refine drk_gsd rfl rfl eE (fun hb=>?_) (fun hb=>?_)<;>refine xS ?_)|(refine drk_gse rfl rfl eE (fun hb=>?_) (fun hb=>?_)<;>refine xS ?_)|(refine drk_gsn rfl rfl eE (fun hb=>?_) (fun hb=>?_)<;>refine xS ?_)|(refine drk_gs rfl rfl eE (fun hb=>?_) (fun hb=>?_)<;>fail_if_success (cases hb;done)<;>refine xS ?_)
 refine xB fun g1 hn_g1=>?_
 repeat' first|refine yA1 hn_g1 ?_|(refine yC2 hn_g1 (f0) ?_)|(refine yD2 hn_g1 (f0) ?_)|(refine yW hn_g1 ?_;refine yS hn_g1 ?_)|refine yP hn_g1 ?_|refine yN hn_g1 ?_|refine aw_cd (zE hn_g1) (fun hb=>?_) (fun hb=>?_)|refine aw_ce (zE hn_g1) (fun hb=>?_) (fun hb=>?_)|refine aw_cn (zE hn_g1) (fun hb=>?_) (fun hb=>?_)|(refine yF hn_g1 (fun hb=>?_) (fun hb=>?_)<;>fail_if_success (cases hb;done))|(refine aw_gsd rfl rfl (zE hn_g1) (fun hb=>?_) (fun hb=>?_)<;>refine yS hn_g1 ?_)|(refine aw_gse rfl rfl (zE hn_g1) (fun hb=>?_) (fun hb=>?_)<;>refine yS hn_g1 ?_)|(refine aw_gsn rfl rfl (zE hn_g1) (fun hb=>?_) (fun hb=>?_)<;>refine yS hn_g1 ?_)|(refine aw_gs rfl rfl (zE hn_g1) (fun hb=>?_) (fun hb=>?_)<;>fail_if_success (cases hb;done)<;>refine yS hn_g1 ?_)|(refine drk_gsd rfl rfl (zE hn_g1) (fun hb=>?_) (fun hb=>?_)<;>refine yS hn_g1 ?_)|(refine drk_gse rfl rfl (zE hn_g1) (fun hb=>?_) (fun hb=>?_)<;>refine yS hn_g1 ?_)|(refine drk_gsn rfl rfl (zE hn_g1) (fun hb=>?_) (fun hb=>?_)<;>refine yS hn_g1 ?_)|(refine drk_gs rfl rfl (zE hn_g1) (fun hb=>?_) (fun hb=>?_)<;>fail_if_success (cases hb;done)<;>refine yS hn_g1 ?_)
 generalize hF:frsS (inG m k) (gtsK m k) 0 sp0=F
 have hPn:F.1≠0→inP m k sp0=F:=fun h=>by unfold inP;rw [hF,if_neg h]
 have hP0:F.1=0→inP m k sp0=(tpC m k,F.2):=fun h=>by unfold inP;rw [hF,if_pos h]
 generalize hL:gtsK m k=L at*
 refine aw_lp (fun x:Nat×List BS×Option Nat=>[(1,.c (.int .i64 ((k:Int)-1))),(2,.c (gs x.2.2 1 x.2.1.length)),(3,.c (.optr g1 0)),(6,.c .nils),(7,.c .nilI),(15,.c (gts true L)),(16,.c (.int .i64 L.length)),(17,.c (.int .i64 x.1))]) (fun x=>[(g1,.cells 30 8 (ofL (mdc true m)))]++gh x.2.2 9 x.2.1.length (strsF x.2.1)) (fun x=>x.1≤L.length∧(x.2.2=none→x.2.1.length=0)∧x.2.1.length≤sp0.length+16*x.1∧frsS (inG m k) (L.drop x.1) x.1 x.2.1=F) (fun x=>L.length-x.1) (0,sp0,og0) (zB hn_g1) zZ ⟨Nat.zero_le _,hog0,by dsimp only;omega,hF⟩ ?_
 rintro ⟨i,sp,og⟩ ⟨hi,hog,hsz,hlp⟩
 dsimp only at hi hog hsz hlp⊢
 simp only [List.cons_append,List.nil_append]
 have fT1:=gate_fa (m.pages.getD (k-1) pg0).gates (m.pages.getD (k-1) pg0).top (by have:=(hw2.pg (k-1)).2;omega)
 have fT2:=event_fa m (m.pages.getD (k-1) pg0).top hm.ev
 repeat' first|refine yA1 hn_g1 ?_|(refine yC2 hn_g1 (fT1) ?_)|(refine yD2 hn_g1 (fT1) ?_)|(refine yC2 hn_g1 (fT2) ?_)|(refine yD2 hn_g1 (fT2) ?_)|(refine yW hn_g1 ?_;refine yS hn_g1 ?_)|refine yP hn_g1 ?_|refine yN hn_g1 ?_|refine aw_cd (zE hn_g1) (fun hb=>?_) (fun hb=>?_)|refine aw_ce (zE hn_g1) (fun hb=>?_) (fun hb=>?_)|refine aw_cn (zE hn_g1) (fun hb=>?_) (fun hb=>?_)|(refine yF hn_g1 (fun hb=>?_) (fun hb=>?_)<;>fail_if_success (cases hb;done))|(refine aw_gsd rfl rfl (zE hn_g1) (fun hb=>?_) (fun hb=>?_)<;>refine yS hn_g1 ?_)|(refine aw_gse rfl rfl (zE hn_g1) (fun hb=>?_) (fun hb=>?_)<;>refine yS hn_g1 ?_)|(refine aw_gsn rfl rfl (zE hn_g1) (fun hb=>?_) (fun hb=>?_)<;>refine yS hn_g1 ?_)|(refine aw_gs rfl rfl (zE hn_g1) (fun hb=>?_) (fun hb=>?_)<;>fail_if_success (cases hb;done)<;>refine yS hn_g1 ?_)|(refine drk_gsd rfl rfl (zE hn_g1) (fun hb=>?_) (fun hb=>?_)<;>refine yS hn_g1 ?_)|(refine drk_gse rfl rfl (zE hn_g1) (fun hb=>?_) (fun hb=>?_)<;>refine yS hn_g1 ?_)|(refine drk_gsn rfl rfl (zE hn_g1) (fun hb=>?_) (fun hb=>?_)<;>refine yS hn_g1 ?_)|(refine drk_gs rfl rfl (zE hn_g1) (fun hb=>?_) (fun hb=>?_)<;>fail_if_success (cases hb;done)<;>refine yS hn_g1 ?_)
 ·have hi':=hb
  have w1:=hI i
  have w2:=hin i
  have hlp2:=fun r=>frsS_ret (d:=gt0) (r:=r) hlp hi'
  have hgo:=fun r=>frsS_go (d:=gt0) (r:=r) hlp hi'
  clear hlp fT1 fT2
  generalize hx:L.getD i gt0=x at*
  refine yA hn_g1 fun g4 hn_g4=>?_
  repeat' first|refine yA1 (oj hn_g1 hn_g4) ?_|(refine yW (oj hn_g1 hn_g4) ?_;refine yS (oj hn_g1 hn_g4) ?_)|refine yP (oj hn_g1 hn_g4) ?_|refine yN (oj hn_g1 hn_g4) ?_|refine aw_cd (zE (oj hn_g1 hn_g4)) (fun hb=>?_) (fun hb=>?_)|refine aw_ce (zE (oj hn_g1 hn_g4)) (fun hb=>?_) (fun hb=>?_)|refine aw_cn (zE (oj hn_g1 hn_g4)) (fun hb=>?_) (fun hb=>?_)|(refine yF (oj hn_g1 hn_g4) (fun hb=>?_) (fun hb=>?_)<;>fail_if_success (cases hb;done))|(refine aw_gsd rfl rfl (zE (oj hn_g1 hn_g4)) (fun hb=>?_) (fun hb=>?_)<;>refine yS (oj hn_g1 hn_g4) ?_)|(refine aw_gse rfl rfl (zE (oj hn_g1 hn_g4)) (fun hb=>?_) (fun hb=>?_)<;>refine yS (oj hn_g1 hn_g4) ?_)|(refine aw_gsn rfl rfl (zE (oj hn_g1 hn_g4)) (fun hb=>?_) (fun hb=>?_)<;>refine yS (oj hn_g1 hn_g4) ?_)|(refine aw_gs rfl rfl (zE (oj hn_g1 hn_g4)) (fun hb=>?_) (fun hb=>?_)<;>fail_if_success (cases hb;done)<;>refine yS (oj hn_g1 hn_g4) ?_)|(refine drk_gsd rfl rfl (zE (oj hn_g1 hn_g4)) (fun hb=>?_) (fun hb=>?_)<;>refine yS (oj hn_g1 hn_g4) ?_)|(refine drk_gse rfl rfl (zE (oj hn_g1 hn_g4)) (fun hb=>?_) (fun hb=>?_)<;>refine yS (oj hn_g1 hn_g4) ?_)|(refine drk_gsn rfl rfl (zE (oj hn_g1 hn_g4)) (fun hb=>?_) (fun hb=>?_)<;>refine yS (oj hn_g1 hn_g4) ?_)|(refine drk_gs rfl rfl (zE (oj hn_g1 hn_g4)) (fun hb=>?_) (fun hb=>?_)<;>fail_if_success (cases hb;done)<;>refine yS (oj hn_g1 hn_g4) ?_)
  generalize hF2:frsS (inI m k x) x.inputs 0 sp=F2
  have e2:inG m k i x sp=F2:=hF2
  rw [e2] at hlp2 hgo
  refine aw_lp (fun y:Nat×List BS×Option Nat=>[(1,.c (.int .i64 ((k:Int)-1))),(2,.c (gs y.2.2 1 y.2.1.length)),(3,.c (.optr g1 0)),(6,.c .nils),(7,.c .nilI),(9,.c (.optr g4 0)),(15,.c (gts true L)),(16,.c (.int .i64 L.length)),(17,.c (.int .i64 i)),(22,.c (strs true x.inputs)),(23,.c (.int .i64 x.inputs.length)),(24,.c (.int .i64 y.1))]) (fun y=>[(g4,.cells 65 7 (ofL (gtc x))),(g1,.cells 30 8 (ofL (mdc true m)))]++gh y.2.2 9 y.2.1.length (strsF y.2.1)) (fun y=>y.1≤x.inputs.length∧(y.2.2=none→y.2.1.length=0)∧y.2.1.length≤sp.length+y.1∧frsS (inI m k x) (x.inputs.drop y.1) y.1 y.2.1=F2) (fun y=>x.inputs.length-y.1) (0,sp,og) (zB (oj hn_g1 hn_g4)) zZ ⟨Nat.zero_le _,hog,by dsimp only;omega,hF2⟩ ?_
  rintro ⟨j,sq,oq⟩ ⟨hj,hoq,hsq,hlq⟩
  dsimp only at hj hoq hsq hlq⊢
  simp only [List.cons_append,List.nil_append]
  repeat' first|refine yA1 (oj hn_g1 hn_g4) ?_|(refine yW (oj hn_g1 hn_g4) ?_;refine yS (oj hn_g1 hn_g4) ?_)|refine yP (oj hn_g1 hn_g4) ?_|refine yN (oj hn_g1 hn_g4) ?_|refine aw_cd (zE (oj hn_g1 hn_g4)) (fun hb=>?_) (fun hb=>?_)|refine aw_ce (zE (oj hn_g1 hn_g4)) (fun hb=>?_) (fun hb=>?_)|refine aw_cn (zE (oj hn_g1 hn_g4)) (fun hb=>?_) (fun hb=>?_)|(refine yF (oj hn_g1 hn_g4) (fun hb=>?_) (fun hb=>?_)<;>fail_if_success (cases hb;done))|(refine aw_gsd rfl rfl (zE (oj hn_g1 hn_g4)) (fun hb=>?_) (fun hb=>?_)<;>refine yS (oj hn_g1 hn_g4) ?_)|(refine aw_gse rfl rfl (zE (oj hn_g1 hn_g4)) (fun hb=>?_) (fun hb=>?_)<;>refine yS (oj hn_g1 hn_g4) ?_)|(refine aw_gsn rfl rfl (zE (oj hn_g1 hn_g4)) (fun hb=>?_) (fun hb=>?_)<;>refine yS (oj hn_g1 hn_g4) ?_)|(refine aw_gs rfl rfl (zE (oj hn_g1 hn_g4)) (fun hb=>?_) (fun hb=>?_)<;>fail_if_success (cases hb;done)<;>refine yS (oj hn_g1 hn_g4) ?_)|(refine drk_gsd rfl rfl (zE (oj hn_g1 hn_g4)) (fun hb=>?_) (fun hb=>?_)<;>refine yS (oj hn_g1 hn_g4) ?_)|(refine drk_gse rfl rfl (zE (oj hn_g1 hn_g4)) (fun hb=>?_) (fun hb=>?_)<;>refine yS (oj hn_g1 hn_g4) ?_)|(refine drk_gsn rfl rfl (zE (oj hn_g1 hn_g4)) (fun hb=>?_) (fun hb=>?_)<;>refine yS (oj hn_g1 hn_g4) ?_)|(refine drk_gs rfl rfl (zE (oj hn_g1 hn_g4)) (fun hb=>?_) (fun hb=>?_)<;>fail_if_success (cases hb;done)<;>refine yS (oj hn_g1 hn_g4) ?_)
  ·have hj':=hb
   have w3:=w2 j
   have hq2:=fun r=>frsS_ret (d:=([]:BS)) (r:=r) hlq hj'
   have hqg:=fun r=>frsS_go (d:=([]:BS)) (r:=r) hlq hj'
   clear hlq
   generalize hy:x.inputs.getD j []=y at*
   have hR:∀c s,inI m k x j y sq=(c,s)→c≠0→(inP m k sp0).1=c:=fun c s h1 h2=>by
    have a1:=hq2 _ h1 h2
    rw [a1] at hlp2
    have a2:=hlp2 _ rfl h2
    rw [hPn (by rw [a2];exact h2),a2]
   have f1:=isInput_fa m k y hk hm (by rw [hL];omega) w3
   have f2:=must_fa x j om
   have f3:=event_fa m y hm.ev
   have f4:=scontF_fa sq y om
   repeat' first|refine yA1 (oj hn_g1 hn_g4) ?_|(refine yC2 (oj hn_g1 hn_g4) (f1) ?_)|(refine yD2 (oj hn_g1 hn_g4) (f1) ?_)|(refine yC2 (oj hn_g1 hn_g4) (f2) ?_)|(refine yD2 (oj hn_g1 hn_g4) (f2) ?_)|(refine yC2 (oj hn_g1 hn_g4) (f3) ?_)|(refine yD2 (oj hn_g1 hn_g4) (f3) ?_)|(refine yW (oj hn_g1 hn_g4) ?_;refine yS (oj hn_g1 hn_g4) ?_)|refine yP (oj hn_g1 hn_g4) ?_|refine yN (oj hn_g1 hn_g4) ?_|refine aw_cd (zE (oj hn_g1 hn_g4)) (fun hb=>?_) (fun hb=>?_)|refine aw_ce (zE (oj hn_g1 hn_g4)) (fun hb=>?_) (fun hb=>?_)|refine aw_cn (zE (oj hn_g1 hn_g4)) (fun hb=>?_) (fun hb=>?_)|(refine yF (oj hn_g1 hn_g4) (fun hb=>?_) (fun hb=>?_)<;>fail_if_success (cases hb;done))|(refine aw_gsd rfl rfl (zE (oj hn_g1 hn_g4)) (fun hb=>?_) (fun hb=>?_)<;>refine yS (oj hn_g1 hn_g4) ?_)|(refine aw_gse rfl rfl (zE (oj hn_g1 hn_g4)) (fun hb=>?_) (fun hb=>?_)<;>refine yS (oj hn_g1 hn_g4) ?_)|(refine aw_gsn rfl rfl (zE (oj hn_g1 hn_g4)) (fun hb=>?_) (fun hb=>?_)<;>refine yS (oj hn_g1 hn_g4) ?_)|(refine aw_gs rfl rfl (zE (oj hn_g1 hn_g4)) (fun hb=>?_) (fun hb=>?_)<;>fail_if_success (cases hb;done)<;>refine yS (oj hn_g1 hn_g4) ?_)|(refine drk_gsd rfl rfl (zE (oj hn_g1 hn_g4)) (fun hb=>?_) (fun hb=>?_)<;>refine yS (oj hn_g1 hn_g4) ?_)|(refine drk_gse rfl rfl (zE (oj hn_g1 hn_g4)) (fun hb=>?_) (fun hb=>?_)<;>refine yS (oj hn_g1 hn_g4) ?_)|(refine drk_gsn rfl rfl (zE (oj hn_g1 hn_g4)) (fun hb=>?_) (fun hb=>?_)<;>refine yS (oj hn_g1 hn_g4) ?_)|(refine drk_gs rfl rfl (zE (oj hn_g1 hn_g4)) (fun hb=>?_) (fun hb=>?_)<;>fail_if_success (cases hb;done)<;>refine yS (oj hn_g1 hn_g4) ?_)
   all_goals first
    |(refine aw_keep [(6,.c .nils),(7,.c (.ifc 51 (.int .i64 5)))] [] (zB (oj hn_g1 hn_g4)) (List.nil_sublist _) ?_
      have h5:=hR 5 sq (by
       unfold inI evI
       repeat' split
       all_goals first|rfl|(exfalso;simp_all;done)|(exfalso;simp_all;omega)) (by decide)
      refine yU (oj hn_g1 hn_g4) ?_
      rw [h5]
      exact .inl ⟨by decide,rfl,rfl⟩)
    |(refine aw_keep [(6,.c .nils),(7,.c (.ifc 51 (.int .i64 7)))] [] (zB (oj hn_g1 hn_g4)) (List.nil_sublist _) ?_
      have h5:=hR 7 sq (by
       unfold inI evI
       repeat' split
       all_goals first|rfl|(exfalso;simp_all;done)|(exfalso;simp_all;omega)) (by decide)
      refine yU (oj hn_g1 hn_g4) ?_
      rw [h5]
      exact .inl ⟨by decide,rfl,rfl⟩)
    |(refine aw_stop ⟨(j+1,sq,oq),?_⟩
      have hz:inI m k x j y sq=(0,sq):=by
       unfold inI evI
       repeat' split
       all_goals first|rfl|(exfalso;simp_all;done)|(exfalso;simp_all;omega)
      have hq:=hqg _ hz rfl
      and_intros
      all_goals first|rfl|exact List.Sublist.refl _|exact List.sublist_cons_self _ _|exact True.intro|exact hoq|exact hq|(dsimp only;omega))
    |skip
   all_goals
    have hk7:=hb
    refine aw_nd fun hnd=> ?_
    refine aw_callq f4 rfl rfl rfl (by refine yS (oj hn_g1 hn_g4) ?_;exact⟨.c (le_gst (pre:=[(g4,.cells 65 7 (ofL (gtc x))),(g1,.cells 30 8 (ofL (mdc true m)))]) hoq hnd),.c (.refl _)⟩) ?_
    have J1:=oj hn_g1 hn_g4
    refine yS J1 ?_
    repeat' first|refine yA1 J1 ?_|(refine yW J1 ?_;refine yS J1 ?_)|refine yP J1 ?_|refine yN J1 ?_|refine aw_cd (zE J1) (fun hb=>?_) (fun hb=>?_)|refine aw_ce (zE J1) (fun hb=>?_) (fun hb=>?_)|refine aw_cn (zE J1) (fun hb=>?_) (fun hb=>?_)|(refine yF J1 (fun hb=>?_) (fun hb=>?_)<;>fail_if_success (cases hb;done))|(refine aw_gsd rfl rfl (zE J1) (fun hb=>?_) (fun hb=>?_)<;>refine yS J1 ?_)|(refine aw_gse rfl rfl (zE J1) (fun hb=>?_) (fun hb=>?_)<;>refine yS J1 ?_)|(refine aw_gsn rfl rfl (zE J1) (fun hb=>?_) (fun hb=>?_)<;>refine yS J1 ?_)|(refine aw_gs rfl rfl (zE J1) (fun hb=>?_) (fun hb=>?_)<;>fail_if_success (cases hb;done)<;>refine yS J1 ?_)|(refine drk_gsd rfl rfl (zE J1) (fun hb=>?_) (fun hb=>?_)<;>refine yS J1 ?_)|(refine drk_gse rfl rfl (zE J1) (fun hb=>?_) (fun hb=>?_)<;>refine yS J1 ?_)|(refine drk_gsn rfl rfl (zE J1) (fun hb=>?_) (fun hb=>?_)<;>refine yS J1 ?_)|(refine drk_gs rfl rfl (zE J1) (fun hb=>?_) (fun hb=>?_)<;>fail_if_success (cases hb;done)<;>refine yS J1 ?_)
    ·refine aw_keep [(6,.c .nils),(7,.c (.ifc 51 (.int .i64 6)))] [] (zB J1) (List.nil_sublist _) ?_
     have h5:=hR 6 sq (by
      unfold inI evI
      repeat' split
      all_goals first|rfl|(exfalso;simp_all;done)|(exfalso;simp_all;omega)) (by decide)
     refine yU J1 ?_
     rw [h5]
     exact .inl ⟨by decide,rfl,rfl⟩
    ·have hz:inI m k x j y sq=(0,sq++[y]):=by
      unfold inI evI
      repeat' split
      all_goals first|rfl|(exfalso;simp_all;done)|(exfalso;simp_all;omega)
     have hq:=hqg _ hz rfl
     have hln:(sq++[y]).length=sq.length+1:=by rw [List.length_append];rfl
     refine aw_push (pre:=[(g4,.cells 65 7 (ofL (gtc x))),(g1,.cells 30 8 (ofL (mdc true m)))]) rfl rfl rfl rfl rfl rfl rfl (zE J1) (zE J1) (by rfl) om om (zE J1) om (by exact hoq) (zE J1) (by rfl) (by rfl) (by first|rfl|simp only [Nat.mul_one,List.nil_append,List.cons_append]<;>rfl) (by unfold maxLen;omega) om (by exact strs_push rfl y) fun gb hn_gb=> ?_
     replace hn_gb:=Heap.ne_of hn_gb
     first|dsimp only [Heap.ne,gh] at hn_gb|dsimp only [Heap.ne] at hn_gb|skip
     have J2:=oj hn_g1 (oj hn_g4 hn_gb)
     refine yS J2 ?_
     repeat' first|refine yA1 J2 ?_|(refine yW J2 ?_;refine yS J2 ?_)|refine yP J2 ?_|refine yN J2 ?_|refine aw_cd (zE J2) (fun hb=>?_) (fun hb=>?_)|refine aw_ce (zE J2) (fun hb=>?_) (fun hb=>?_)|refine aw_cn (zE J2) (fun hb=>?_) (fun hb=>?_)|(refine yF J2 (fun hb=>?_) (fun hb=>?_)<;>fail_if_success (cases hb;done))|(refine aw_gsd rfl rfl (zE J2) (fun hb=>?_) (fun hb=>?_)<;>refine yS J2 ?_)|(refine aw_gse rfl rfl (zE J2) (fun hb=>?_) (fun hb=>?_)<;>refine yS J2 ?_)|(refine aw_gsn rfl rfl (zE J2) (fun hb=>?_) (fun hb=>?_)<;>refine yS J2 ?_)|(refine aw_gs rfl rfl (zE J2) (fun hb=>?_) (fun hb=>?_)<;>fail_if_success (cases hb;done)<;>refine yS J2 ?_)|(refine drk_gsd rfl rfl (zE J2) (fun hb=>?_) (fun hb=>?_)<;>refine yS J2 ?_)|(refine drk_gse rfl rfl (zE J2) (fun hb=>?_) (fun hb=>?_)<;>refine yS J2 ?_)|(refine drk_gsn rfl rfl (zE J2) (fun hb=>?_) (fun hb=>?_)<;>refine yS J2 ?_)|(refine drk_gs rfl rfl (zE J2) (fun hb=>?_) (fun hb=>?_)<;>fail_if_success (cases hb;done)<;>refine yS J2 ?_)
     refine aw_stop ⟨(j+1,sq++[y],some gb),?_⟩
     dsimp only
     simp only [hln]
     and_intros
     all_goals first|rfl|exact List.Sublist.refl _|exact List.sublist_cons_self _ _|exact True.intro|exact some_ne|exact hq|omega|trace_state
  ·have hF0:=frsS_fin hlq hb
   subst hF0
   refine aw_stop ⟨(i+1,sq,oq),?_⟩
   and_intros
   all_goals first|rfl|exact List.Sublist.refl _|exact List.sublist_cons_self _ _|exact True.intro|exact hoq|exact hgo _ rfl rfl|(dsimp only;omega)
 ·rename_i hi0 hk1 ha
  have hF0:=frsS_fin hlp hi0
  subst hF0
  have hT:inP m k sp0=(tpC m k,sp):=hP0 rfl
  have h5:tpC m k=5:=by
   obtain⟨q,rfl⟩:∃q,k=q+1:=⟨k-1,by omega⟩
   exact if_pos ⟨ha,hb⟩
  refine aw_keep [(6,.c .nils),(7,.c (.ifc 51 (.int .i64 5)))] [] (zB hn_g1) (List.nil_sublist _) ?_
  refine yU hn_g1 ?_
  rw [hT,h5]
  exact .inl ⟨show(5:Int)≠0 by decide,rfl,rfl⟩
 ·rename_i hi0 hk1 ha
  have hF0:=frsS_fin hlp hi0
  subst hF0
  have hT:inP m k sp0=(tpC m k,sp):=hP0 rfl
  have h0:tpC m k=0:=by
   obtain⟨q,rfl⟩:∃q,k=q+1:=⟨k-1,by omega⟩
   exact if_neg fun z=>hb z.2
  refine aw_keep [(6,.c (gs og 1 sp.length)),(7,.c .nilI)] (gh og 9 sp.length (strsF sp)) (zB hn_g1) (List.sublist_cons_self _ _) ?_
  refine yU hn_g1 ?_
  rw [hT,h0]
  exact .inr ⟨rfl,og,hog,rfl,rfl⟩
 ·rename_i hi0 hk1
  have hF0:=frsS_fin hlp hi0
  subst hF0
  have hT:inP m k sp0=(tpC m k,sp):=hP0 rfl
  have h0:tpC m k=0:=by
   obtain⟨q,rfl⟩:∃q,k=q+1:=⟨k-1,by omega⟩
   exact if_neg fun z=>hb z.1
  refine aw_keep [(6,.c (gs og 1 sp.length)),(7,.c .nilI)] (gh og 9 sp.length (strsF sp)) (zB hn_g1) (List.sublist_cons_self _ _) ?_
  refine yU hn_g1 ?_
  rw [hT,h0]
  exact .inr ⟨rfl,og,hog,rfl,rfl⟩
 ·rename_i hi0
  have hF0:=frsS_fin hlp hi0
  subst hF0
  have hT:inP m k sp0=(tpC m k,sp):=hP0 rfl
  have h0:tpC m k=0:=by
   have:k=0:=by omega
   subst this
   rfl
  refine aw_keep [(6,.c (gs og 1 sp.length)),(7,.c .nilI)] (gh og 9 sp.length (strsF sp)) (zB hn_g1) (List.sublist_cons_self _ _) ?_
  refine yU hn_g1 ?_
  rw [hT,h0]
  exact .inr ⟨rfl,og,hog,rfl,rfl⟩
end Go.Proofs.YteocnikcjjonbaaGreat
namespace Go.PN
open Go.AI
structure MdWf4 (m:MdD):Prop where
 l:m.groups.length≤1099511627776
 gr:∀i,(m.groups.getD i gr0).name.length≤1099511627776∧(m.groups.getD i gr0).members.length≤1048576∧(m.groups.getD i gr0).factors.length≤1099511627776
 fa:∀i k,((m.groups.getD i gr0).factors.getD k rd0).wf 1073741824
end Go.PN
namespace Go.Proofs.YteocnikcjjonbaaGreat
open Go.AI Go.PN
attribute [local irreducible] aw Fa Fh DrK
theorem checkGroups_fa (m:MdD) (hm:MdOk m) (hw:MdWf4 m):Fa Tryz.prog 48 [.agg (mdc true m)] (.c (errA (grsC m))):=by
 have hl:=hw.l
 refine fa_of_body Tryz.func48 rfl rfl (by simp [Tryz.ntmps48]) fun C hC=> ?_
 simp only [initS,Nat.reduceAdd]
 repeat' first|refine yA1 o0 ?_|(refine xW ?_;refine xS ?_)|refine xP ?_|refine xN ?_|refine aw_cd eE (fun hb=>?_) (fun hb=>?_)|refine aw_ce eE (fun hb=>?_) (fun hb=>?_)|refine aw_cn eE (fun hb=>?_) (fun hb=>?_)|(refine xF (fun hb=>?_) (fun hb=>?_)<;>fail_if_success (cases hb;done))|(refine aw_gsd rfl rfl eE (fun hb=>?_) (fun hb=>?_)<;>refine xS ?_)|(refine aw_gse rfl rfl eE (fun hb=>?_) (fun hb=>?_)<;>refine xS ?_)|(refine aw_gsn rfl rfl eE (fun hb=>?_) (fun hb=>?_)<;>refine xS ?_)|(refine aw_gs rfl rfl eE (fun hb=>?_) (fun hb=>?_)<;>fail_if_success (cases hb;done)<;>refine xS ?_)|(refine drk_gsd rfl rfl eE (fun hb=>?_) (fun hb=>?_)<;>refine xS ?_)|(refine drk_gse rfl rfl eE (fun hb=>?_) (fun hb=>?_)<;>refine xS ?_)|(refine drk_gsn rfl rfl eE (fun hb=>?_) (fun hb=>?_)<;>refine xS ?_)|(refine drk_gs rfl rfl eE (fun hb=>?_) (fun hb=>?_)<;>fail_if_success (cases hb;done)<;>refine xS ?_)
 refine xB fun g1 hn_g1=>?_
 repeat' first|refine yA1 hn_g1 ?_|(refine yW hn_g1 ?_;refine yS hn_g1 ?_)|refine yP hn_g1 ?_|refine yN hn_g1 ?_|refine aw_cd (zE hn_g1) (fun hb=>?_) (fun hb=>?_)|refine aw_ce (zE hn_g1) (fun hb=>?_) (fun hb=>?_)|refine aw_cn (zE hn_g1) (fun hb=>?_) (fun hb=>?_)|(refine yF hn_g1 (fun hb=>?_) (fun hb=>?_)<;>fail_if_success (cases hb;done))|(refine aw_gsd rfl rfl (zE hn_g1) (fun hb=>?_) (fun hb=>?_)<;>refine yS hn_g1 ?_)|(refine aw_gse rfl rfl (zE hn_g1) (fun hb=>?_) (fun hb=>?_)<;>refine yS hn_g1 ?_)|(refine aw_gsn rfl rfl (zE hn_g1) (fun hb=>?_) (fun hb=>?_)<;>refine yS hn_g1 ?_)|(refine aw_gs rfl rfl (zE hn_g1) (fun hb=>?_) (fun hb=>?_)<;>fail_if_success (cases hb;done)<;>refine yS hn_g1 ?_)|(refine drk_gsd rfl rfl (zE hn_g1) (fun hb=>?_) (fun hb=>?_)<;>refine yS hn_g1 ?_)|(refine drk_gse rfl rfl (zE hn_g1) (fun hb=>?_) (fun hb=>?_)<;>refine yS hn_g1 ?_)|(refine drk_gsn rfl rfl (zE hn_g1) (fun hb=>?_) (fun hb=>?_)<;>refine yS hn_g1 ?_)|(refine drk_gs rfl rfl (zE hn_g1) (fun hb=>?_) (fun hb=>?_)<;>fail_if_success (cases hb;done)<;>refine yS hn_g1 ?_)
 ·refine yT hC hn_g1 ?_
  exact .one (.c (ler_errE (by unfold grsC;rw [if_pos om]) (by decide)))
 have h8:m.groups.length≤8:=by omega
 have he2:grsC m=(frsS (grC m) m.groups 0 []).1:=by
  unfold grsC
  rw [if_neg om]
 generalize hF:frsS (grC m) m.groups 0 []=F at he2
 refine aw_lp (fun x:Nat×List BS×Option Nat=>[(1,.c (.optr g1 0)),(2,.c .nilI),(3,.c (gs x.2.2 1 x.2.1.length)),(16,.c (grs true m.groups)),(17,.c (.int .i64 m.groups.length)),(18,.c (.int .i64 x.1))]) (fun x=>[(g1,.cells 30 8 (ofL (mdc true m)))]++gh x.2.2 9 x.2.1.length (strsF x.2.1)) (fun x=>x.1≤m.groups.length∧(x.2.2=none→x.2.1.length=0)∧x.2.1.length≤1048576*x.1∧frsS (grC m) (m.groups.drop x.1) x.1 x.2.1=F) (fun x=>m.groups.length-x.1) (0,[],none) (zB hn_g1) zZ ⟨Nat.zero_le _,fun _=>rfl,Nat.zero_le _,hF⟩ ?_
 rintro ⟨i,ms,og⟩ ⟨hi,hog,hsz,hlp⟩
 dsimp only at hi hog hsz hlp⊢
 simp only [List.cons_append,List.nil_append]
 repeat' first|refine yA1 hn_g1 ?_|(refine yW hn_g1 ?_;refine yS hn_g1 ?_)|refine yP hn_g1 ?_|refine yN hn_g1 ?_|refine aw_cd (zE hn_g1) (fun hb=>?_) (fun hb=>?_)|refine aw_ce (zE hn_g1) (fun hb=>?_) (fun hb=>?_)|refine aw_cn (zE hn_g1) (fun hb=>?_) (fun hb=>?_)|(refine yF hn_g1 (fun hb=>?_) (fun hb=>?_)<;>fail_if_success (cases hb;done))|(refine aw_gsd rfl rfl (zE hn_g1) (fun hb=>?_) (fun hb=>?_)<;>refine yS hn_g1 ?_)|(refine aw_gse rfl rfl (zE hn_g1) (fun hb=>?_) (fun hb=>?_)<;>refine yS hn_g1 ?_)|(refine aw_gsn rfl rfl (zE hn_g1) (fun hb=>?_) (fun hb=>?_)<;>refine yS hn_g1 ?_)|(refine aw_gs rfl rfl (zE hn_g1) (fun hb=>?_) (fun hb=>?_)<;>fail_if_success (cases hb;done)<;>refine yS hn_g1 ?_)|(refine drk_gsd rfl rfl (zE hn_g1) (fun hb=>?_) (fun hb=>?_)<;>refine yS hn_g1 ?_)|(refine drk_gse rfl rfl (zE hn_g1) (fun hb=>?_) (fun hb=>?_)<;>refine yS hn_g1 ?_)|(refine drk_gsn rfl rfl (zE hn_g1) (fun hb=>?_) (fun hb=>?_)<;>refine yS hn_g1 ?_)|(refine drk_gs rfl rfl (zE hn_g1) (fun hb=>?_) (fun hb=>?_)<;>fail_if_success (cases hb;done)<;>refine yS hn_g1 ?_)
 ·obtain⟨w0,w1,w2⟩:=hw.gr i
  have w3:=hw.fa i
  have hi':=hb
  have hR:∀c s,grC m i (m.groups.getD i gr0) ms=(c,s)→c≠0→grsC m=c:=fun c s hc h0=>by
   rw [he2,frsS_ret hlp hi' hc h0]
  have hgo:=fun r=>frsS_go (d:=gr0) (r:=r) hlp hi'
  clear hlp
  generalize hx:m.groups.getD i gr0=x at*
  have f1:Fa Tryz.prog 42 [.c (.str (sB x.name))] (.c (.bool (nameOk x.name))):=tname_fa x.name w0
  refine yA hn_g1 fun g4 hn_g4=>?_
  repeat' first|refine yA1 (oj hn_g1 hn_g4) ?_|(refine yC2 (oj hn_g1 hn_g4) (f1) ?_)|(refine yD2 (oj hn_g1 hn_g4) (f1) ?_)|(refine yW (oj hn_g1 hn_g4) ?_;refine yS (oj hn_g1 hn_g4) ?_)|refine yP (oj hn_g1 hn_g4) ?_|refine yN (oj hn_g1 hn_g4) ?_|refine aw_cd (zE (oj hn_g1 hn_g4)) (fun hb=>?_) (fun hb=>?_)|refine aw_ce (zE (oj hn_g1 hn_g4)) (fun hb=>?_) (fun hb=>?_)|refine aw_cn (zE (oj hn_g1 hn_g4)) (fun hb=>?_) (fun hb=>?_)|(refine yF (oj hn_g1 hn_g4) (fun hb=>?_) (fun hb=>?_)<;>fail_if_success (cases hb;done))|(refine aw_gsd rfl rfl (zE (oj hn_g1 hn_g4)) (fun hb=>?_) (fun hb=>?_)<;>refine yS (oj hn_g1 hn_g4) ?_)|(refine aw_gse rfl rfl (zE (oj hn_g1 hn_g4)) (fun hb=>?_) (fun hb=>?_)<;>refine yS (oj hn_g1 hn_g4) ?_)|(refine aw_gsn rfl rfl (zE (oj hn_g1 hn_g4)) (fun hb=>?_) (fun hb=>?_)<;>refine yS (oj hn_g1 hn_g4) ?_)|(refine aw_gs rfl rfl (zE (oj hn_g1 hn_g4)) (fun hb=>?_) (fun hb=>?_)<;>fail_if_success (cases hb;done)<;>refine yS (oj hn_g1 hn_g4) ?_)|(refine drk_gsd rfl rfl (zE (oj hn_g1 hn_g4)) (fun hb=>?_) (fun hb=>?_)<;>refine yS (oj hn_g1 hn_g4) ?_)|(refine drk_gse rfl rfl (zE (oj hn_g1 hn_g4)) (fun hb=>?_) (fun hb=>?_)<;>refine yS (oj hn_g1 hn_g4) ?_)|(refine drk_gsn rfl rfl (zE (oj hn_g1 hn_g4)) (fun hb=>?_) (fun hb=>?_)<;>refine yS (oj hn_g1 hn_g4) ?_)|(refine drk_gs rfl rfl (zE (oj hn_g1 hn_g4)) (fun hb=>?_) (fun hb=>?_)<;>fail_if_success (cases hb;done)<;>refine yS (oj hn_g1 hn_g4) ?_)
  ·refine yT hC (oj hn_g1 hn_g4) ?_
   refine .one (.c (ler_errE (c:=grsC m) (hR _ ms ?_ (by decide)) (by decide)))
   unfold grC
   rw [if_pos (by simpa using hb)]
  have hn1:=hb
  refine aw_makeFunc (gs:=[g4]) rfl rfl rfl (zE (oj hn_g1 hn_g4)) ?_
  have J1:=oj hn_g1 hn_g4
  refine yS J1 ?_
  have f2:=grI_fg g4 x m.groups hl
  have f3:=facC_fa x.factors w2 w3
  obtain⟨nm,kd,mb,fc⟩:=x
  dsimp only at*
  by_cases k0:kd=0
  ·subst k0
   repeat' first|refine yA1 J1 ?_|(refine aw_cg (f2) rfl rfl rfl (zE J1) (zL2 J1) ?_;refine yS J1 ?_)|(refine yW J1 ?_;refine yS J1 ?_)|refine yP J1 ?_|refine yN J1 ?_|refine aw_cd (zE J1) (fun hb=>?_) (fun hb=>?_)|refine aw_ce (zE J1) (fun hb=>?_) (fun hb=>?_)|refine aw_cn (zE J1) (fun hb=>?_) (fun hb=>?_)|(refine yF J1 (fun hb=>?_) (fun hb=>?_)<;>fail_if_success (cases hb;done))|(refine aw_gsd rfl rfl (zE J1) (fun hb=>?_) (fun hb=>?_)<;>refine yS J1 ?_)|(refine aw_gse rfl rfl (zE J1) (fun hb=>?_) (fun hb=>?_)<;>refine yS J1 ?_)|(refine aw_gsn rfl rfl (zE J1) (fun hb=>?_) (fun hb=>?_)<;>refine yS J1 ?_)|(refine aw_gs rfl rfl (zE J1) (fun hb=>?_) (fun hb=>?_)<;>fail_if_success (cases hb;done)<;>refine yS J1 ?_)|(refine drk_gsd rfl rfl (zE J1) (fun hb=>?_) (fun hb=>?_)<;>refine yS J1 ?_)|(refine drk_gse rfl rfl (zE J1) (fun hb=>?_) (fun hb=>?_)<;>refine yS J1 ?_)|(refine drk_gsn rfl rfl (zE J1) (fun hb=>?_) (fun hb=>?_)<;>refine yS J1 ?_)|(refine drk_gs rfl rfl (zE J1) (fun hb=>?_) (fun hb=>?_)<;>fail_if_success (cases hb;done)<;>refine yS J1 ?_)
   all_goals clear f1 f2
   ·refine yT hC J1 ?_
    refine .one (.c (ler_errE (c:=grsC m) (hR _ ms ?_ (by decide)) (by decide)))
    unfold grC
    repeat' split
    all_goals first|rfl|(exfalso;simp_all;done)|(exfalso;simp_all;omega)
   ·refine yT hC J1 ?_
    refine .one (.c (ler_errE (c:=grsC m) (hR _ ms ?_ (by decide)) (by decide)))
    unfold grC
    repeat' split
    all_goals first|rfl|(exfalso;simp_all;done)|(exfalso;simp_all;omega)
   ·refine yT hC J1 ?_
    refine .one (.c (ler_errE (c:=grsC m) (hR _ ms ?_ (by decide)) (by decide)))
    unfold grC
    repeat' split
    all_goals first|rfl|(exfalso;simp_all;done)|(exfalso;simp_all;omega)
   ·refine yT hC J1 ?_
    refine .one (.c (ler_errE (c:=grsC m) (hR _ ms ?_ (by decide)) (by decide)))
    unfold grC
    repeat' split
    all_goals first|rfl|(exfalso;simp_all;done)|(exfalso;simp_all;omega)
   have hff:=hb
   generalize hF2:frsS (meC m) mb 0 ms=F2
   have hQ:grC m i ⟨nm,0,mb,fc⟩ ms=(if F2.1≠0 then F2 else if fc.all RD.prob=false then(3,ms) else(0,F2.2)):=by
    unfold grC
    dsimp only
    rw [hF2]
    rw [if_neg (by simpa using hn1),if_neg (by assumption),if_neg (by decide),if_neg (by simp;omega)]
   refine aw_lp (fun y:Nat×List BS×Option Nat=>[(1,.c (.optr g1 0)),(2,.c .nilI),(3,.c (gs y.2.2 1 y.2.1.length)),(5,.c (.optr g4 0)),(16,.c (grs true m.groups)),(17,.c (.int .i64 m.groups.length)),(18,.c (.int .i64 i)),(71,.c (strs true mb)),(72,.c (.int .i64 mb.length)),(73,.c (.int .i64 y.1))]) (fun y=>[(g4,.cells 100 4 (ofL (grc ⟨nm,0,mb,fc⟩))),(g1,.cells 30 8 (ofL (mdc true m)))]++gh y.2.2 9 y.2.1.length (strsF y.2.1)) (fun y=>y.1≤mb.length∧(y.2.2=none→y.2.1.length=0)∧y.2.1.length≤ms.length+y.1∧frsS (meC m) (mb.drop y.1) y.1 y.2.1=F2) (fun y=>mb.length-y.1) (0,ms,og) (zB J1) zZ ⟨Nat.zero_le _,hog,by dsimp only;omega,hF2⟩ ?_
   rintro ⟨j,sq,oq⟩ ⟨hj,hoq,hsq,hlq⟩
   dsimp only at hj hoq hsq hlq⊢
   simp only [List.cons_append,List.nil_append]
   repeat' first|refine yA1 J1 ?_|(refine yC2 J1 (f3) ?_)|(refine yD2 J1 (f3) ?_)|(refine yW J1 ?_;refine yS J1 ?_)|refine yP J1 ?_|refine yN J1 ?_|refine aw_cd (zE J1) (fun hb=>?_) (fun hb=>?_)|refine aw_ce (zE J1) (fun hb=>?_) (fun hb=>?_)|refine aw_cn (zE J1) (fun hb=>?_) (fun hb=>?_)|(refine yF J1 (fun hb=>?_) (fun hb=>?_)<;>fail_if_success (cases hb;done))|(refine aw_gsd rfl rfl (zE J1) (fun hb=>?_) (fun hb=>?_)<;>refine yS J1 ?_)|(refine aw_gse rfl rfl (zE J1) (fun hb=>?_) (fun hb=>?_)<;>refine yS J1 ?_)|(refine aw_gsn rfl rfl (zE J1) (fun hb=>?_) (fun hb=>?_)<;>refine yS J1 ?_)|(refine aw_gs rfl rfl (zE J1) (fun hb=>?_) (fun hb=>?_)<;>fail_if_success (cases hb;done)<;>refine yS J1 ?_)|(refine drk_gsd rfl rfl (zE J1) (fun hb=>?_) (fun hb=>?_)<;>refine yS J1 ?_)|(refine drk_gse rfl rfl (zE J1) (fun hb=>?_) (fun hb=>?_)<;>refine yS J1 ?_)|(refine drk_gsn rfl rfl (zE J1) (fun hb=>?_) (fun hb=>?_)<;>refine yS J1 ?_)|(refine drk_gs rfl rfl (zE J1) (fun hb=>?_) (fun hb=>?_)<;>fail_if_success (cases hb;done)<;>refine yS J1 ?_)
   ·have hj':=hb
    have hq2:=fun r=>frsS_ret (d:=([]:BS)) (r:=r) hlq hj'
    have hqg:=fun r=>frsS_go (d:=([]:BS)) (r:=r) hlq hj'
    clear hlq J1
    generalize hy:mb.getD j []=y at*
    have hR2:∀c s,meC m j y sq=(c,s)→c≠0→grsC m=c:=fun c s h1 h2=>by
     have a1:=hq2 _ h1 h2
     refine hR c s ?_ h2
     rw [hQ,a1]
     exact if_pos h2
    have f5:=event_fa m y hm.ev
    have f4:=scontF_fa sq y om
    repeat' first|refine yA1 (oj hn_g1 hn_g4) ?_|(refine yC2 (oj hn_g1 hn_g4) (f5) ?_)|(refine yD2 (oj hn_g1 hn_g4) (f5) ?_)|(refine yW (oj hn_g1 hn_g4) ?_;refine yS (oj hn_g1 hn_g4) ?_)|refine yP (oj hn_g1 hn_g4) ?_|refine yN (oj hn_g1 hn_g4) ?_|refine aw_cd (zE (oj hn_g1 hn_g4)) (fun hb=>?_) (fun hb=>?_)|refine aw_ce (zE (oj hn_g1 hn_g4)) (fun hb=>?_) (fun hb=>?_)|refine aw_cn (zE (oj hn_g1 hn_g4)) (fun hb=>?_) (fun hb=>?_)|(refine yF (oj hn_g1 hn_g4) (fun hb=>?_) (fun hb=>?_)<;>fail_if_success (cases hb;done))|(refine aw_gsd rfl rfl (zE (oj hn_g1 hn_g4)) (fun hb=>?_) (fun hb=>?_)<;>refine yS (oj hn_g1 hn_g4) ?_)|(refine aw_gse rfl rfl (zE (oj hn_g1 hn_g4)) (fun hb=>?_) (fun hb=>?_)<;>refine yS (oj hn_g1 hn_g4) ?_)|(refine aw_gsn rfl rfl (zE (oj hn_g1 hn_g4)) (fun hb=>?_) (fun hb=>?_)<;>refine yS (oj hn_g1 hn_g4) ?_)|(refine aw_gs rfl rfl (zE (oj hn_g1 hn_g4)) (fun hb=>?_) (fun hb=>?_)<;>fail_if_success (cases hb;done)<;>refine yS (oj hn_g1 hn_g4) ?_)|(refine drk_gsd rfl rfl (zE (oj hn_g1 hn_g4)) (fun hb=>?_) (fun hb=>?_)<;>refine yS (oj hn_g1 hn_g4) ?_)|(refine drk_gse rfl rfl (zE (oj hn_g1 hn_g4)) (fun hb=>?_) (fun hb=>?_)<;>refine yS (oj hn_g1 hn_g4) ?_)|(refine drk_gsn rfl rfl (zE (oj hn_g1 hn_g4)) (fun hb=>?_) (fun hb=>?_)<;>refine yS (oj hn_g1 hn_g4) ?_)|(refine drk_gs rfl rfl (zE (oj hn_g1 hn_g4)) (fun hb=>?_) (fun hb=>?_)<;>fail_if_success (cases hb;done)<;>refine yS (oj hn_g1 hn_g4) ?_)
    ·refine yT hC (oj hn_g1 hn_g4) ?_
     refine .one (.c (ler_errE (c:=grsC m) (hR2 _ sq ?_ (by decide)) (by decide)))
     unfold meC evI
     rw [if_pos hb]
    have h5:=hb
    refine aw_nd fun hnd=> ?_
    refine aw_callq f4 rfl rfl rfl (by refine yS (oj hn_g1 hn_g4) ?_;exact⟨.c (le_gst (pre:=[(g4,.cells 100 4 (ofL (grc ⟨nm,0,mb,fc⟩))),(g1,.cells 30 8 (ofL (mdc true m)))]) hoq hnd),.c (.refl _)⟩) ?_
    have J2:=oj hn_g1 hn_g4
    refine yS J2 ?_
    repeat' first|refine yA1 J2 ?_|(refine yW J2 ?_;refine yS J2 ?_)|refine yP J2 ?_|refine yN J2 ?_|refine aw_cd (zE J2) (fun hb=>?_) (fun hb=>?_)|refine aw_ce (zE J2) (fun hb=>?_) (fun hb=>?_)|refine aw_cn (zE J2) (fun hb=>?_) (fun hb=>?_)|(refine yF J2 (fun hb=>?_) (fun hb=>?_)<;>fail_if_success (cases hb;done))|(refine aw_gsd rfl rfl (zE J2) (fun hb=>?_) (fun hb=>?_)<;>refine yS J2 ?_)|(refine aw_gse rfl rfl (zE J2) (fun hb=>?_) (fun hb=>?_)<;>refine yS J2 ?_)|(refine aw_gsn rfl rfl (zE J2) (fun hb=>?_) (fun hb=>?_)<;>refine yS J2 ?_)|(refine aw_gs rfl rfl (zE J2) (fun hb=>?_) (fun hb=>?_)<;>fail_if_success (cases hb;done)<;>refine yS J2 ?_)|(refine drk_gsd rfl rfl (zE J2) (fun hb=>?_) (fun hb=>?_)<;>refine yS J2 ?_)|(refine drk_gse rfl rfl (zE J2) (fun hb=>?_) (fun hb=>?_)<;>refine yS J2 ?_)|(refine drk_gsn rfl rfl (zE J2) (fun hb=>?_) (fun hb=>?_)<;>refine yS J2 ?_)|(refine drk_gs rfl rfl (zE J2) (fun hb=>?_) (fun hb=>?_)<;>fail_if_success (cases hb;done)<;>refine yS J2 ?_)
    ·refine yT hC J2 ?_
     refine .one (.c (ler_errE (c:=grsC m) (hR2 _ sq ?_ (by decide)) (by decide)))
     unfold meC evI
     rw [if_neg h5,if_pos hb]
    ·have hz:meC m j y sq=(0,sq++[y]):=by
      unfold meC evI
      rw [if_neg h5,if_neg (by simpa using hb)]
     have hq:=hqg _ hz rfl
     have hln:(sq++[y]).length=sq.length+1:=by rw [List.length_append];rfl
     refine aw_push (pre:=[(g4,.cells 100 4 (ofL (grc ⟨nm,0,mb,fc⟩))),(g1,.cells 30 8 (ofL (mdc true m)))]) rfl rfl rfl rfl rfl rfl rfl (zE J2) (zE J2) (by rfl) om om (zE J2) om (by exact hoq) (zE J2) (by rfl) (by rfl) (by first|rfl|simp only [Nat.mul_one,List.nil_append,List.cons_append]<;>rfl) (by unfold maxLen;omega) om (by exact strs_push rfl y) fun gb hn_gb=> ?_
     replace hn_gb:=Heap.ne_of hn_gb
     first|dsimp only [Heap.ne,gh] at hn_gb|dsimp only [Heap.ne] at hn_gb|skip
     have J3:=oj hn_g1 (oj hn_g4 hn_gb)
     refine yS J3 ?_
     repeat' first|refine yA1 J3 ?_|(refine yW J3 ?_;refine yS J3 ?_)|refine yP J3 ?_|refine yN J3 ?_|refine aw_cd (zE J3) (fun hb=>?_) (fun hb=>?_)|refine aw_ce (zE J3) (fun hb=>?_) (fun hb=>?_)|refine aw_cn (zE J3) (fun hb=>?_) (fun hb=>?_)|(refine yF J3 (fun hb=>?_) (fun hb=>?_)<;>fail_if_success (cases hb;done))|(refine aw_gsd rfl rfl (zE J3) (fun hb=>?_) (fun hb=>?_)<;>refine yS J3 ?_)|(refine aw_gse rfl rfl (zE J3) (fun hb=>?_) (fun hb=>?_)<;>refine yS J3 ?_)|(refine aw_gsn rfl rfl (zE J3) (fun hb=>?_) (fun hb=>?_)<;>refine yS J3 ?_)|(refine aw_gs rfl rfl (zE J3) (fun hb=>?_) (fun hb=>?_)<;>fail_if_success (cases hb;done)<;>refine yS J3 ?_)|(refine drk_gsd rfl rfl (zE J3) (fun hb=>?_) (fun hb=>?_)<;>refine yS J3 ?_)|(refine drk_gse rfl rfl (zE J3) (fun hb=>?_) (fun hb=>?_)<;>refine yS J3 ?_)|(refine drk_gsn rfl rfl (zE J3) (fun hb=>?_) (fun hb=>?_)<;>refine yS J3 ?_)|(refine drk_gs rfl rfl (zE J3) (fun hb=>?_) (fun hb=>?_)<;>fail_if_success (cases hb;done)<;>refine yS J3 ?_)
     refine aw_stop ⟨(j+1,sq++[y],some gb),?_⟩
     dsimp only
     simp only [hln]
     and_intros
     all_goals first|rfl|exact List.Sublist.refl _|exact List.sublist_cons_self _ _|exact True.intro|exact some_ne|exact hq|omega
   ·rename_i hj0
    have hF0:=frsS_fin hlq hj0
    refine yT hC (oj hn_g1 hn_g4) ?_
    refine .one (.c (ler_errE (c:=grsC m) (hR _ ms ?_ (by decide)) (by decide)))
    rw [hQ,hF0,if_neg (by simp),if_pos (by simpa using hb)]
   ·rename_i hj0
    have hF0:=frsS_fin hlq hj0
    have hz:grC m i ⟨nm,0,mb,fc⟩ ms=(0,sq):=by
     rw [hQ,hF0,if_neg (by simp),if_neg (by simpa using hb)]
    have hq:=hgo _ hz rfl
    refine aw_stop ⟨(i+1,sq,oq),?_⟩
    and_intros
    all_goals first|rfl|exact List.Sublist.refl _|exact List.sublist_cons_self _ _|exact True.intro|exact hoq|exact hq|(dsimp only;omega)
  by_cases k1:kd=1
  ·subst k1
   repeat' first|refine yA1 (oj hn_g1 hn_g4) ?_|(refine aw_cg (f2) rfl rfl rfl (zE (oj hn_g1 hn_g4)) (zL2 (oj hn_g1 hn_g4)) ?_;refine yS (oj hn_g1 hn_g4) ?_)|(refine yW (oj hn_g1 hn_g4) ?_;refine yS (oj hn_g1 hn_g4) ?_)|refine yP (oj hn_g1 hn_g4) ?_|refine yN (oj hn_g1 hn_g4) ?_|refine aw_cd (zE (oj hn_g1 hn_g4)) (fun hb=>?_) (fun hb=>?_)|refine aw_ce (zE (oj hn_g1 hn_g4)) (fun hb=>?_) (fun hb=>?_)|refine aw_cn (zE (oj hn_g1 hn_g4)) (fun hb=>?_) (fun hb=>?_)|(refine yF (oj hn_g1 hn_g4) (fun hb=>?_) (fun hb=>?_)<;>fail_if_success (cases hb;done))|(refine aw_gsd rfl rfl (zE (oj hn_g1 hn_g4)) (fun hb=>?_) (fun hb=>?_)<;>refine yS (oj hn_g1 hn_g4) ?_)|(refine aw_gse rfl rfl (zE (oj hn_g1 hn_g4)) (fun hb=>?_) (fun hb=>?_)<;>refine yS (oj hn_g1 hn_g4) ?_)|(refine aw_gsn rfl rfl (zE (oj hn_g1 hn_g4)) (fun hb=>?_) (fun hb=>?_)<;>refine yS (oj hn_g1 hn_g4) ?_)|(refine aw_gs rfl rfl (zE (oj hn_g1 hn_g4)) (fun hb=>?_) (fun hb=>?_)<;>fail_if_success (cases hb;done)<;>refine yS (oj hn_g1 hn_g4) ?_)|(refine drk_gsd rfl rfl (zE (oj hn_g1 hn_g4)) (fun hb=>?_) (fun hb=>?_)<;>refine yS (oj hn_g1 hn_g4) ?_)|(refine drk_gse rfl rfl (zE (oj hn_g1 hn_g4)) (fun hb=>?_) (fun hb=>?_)<;>refine yS (oj hn_g1 hn_g4) ?_)|(refine drk_gsn rfl rfl (zE (oj hn_g1 hn_g4)) (fun hb=>?_) (fun hb=>?_)<;>refine yS (oj hn_g1 hn_g4) ?_)|(refine drk_gs rfl rfl (zE (oj hn_g1 hn_g4)) (fun hb=>?_) (fun hb=>?_)<;>fail_if_success (cases hb;done)<;>refine yS (oj hn_g1 hn_g4) ?_)
   ·refine yT hC (oj hn_g1 hn_g4) ?_
    refine .one (.c (ler_errE (c:=grsC m) (hR _ ms ?_ (by decide)) (by decide)))
    unfold grC
    repeat' split
    all_goals first|rfl|(exfalso;simp_all;done)|(exfalso;simp_all;omega)
   refine aw_dr 6 ty_mixed (by kernel_rfl) ?_
   repeat' first|refine yA1 (oj hn_g1 hn_g4) ?_|(refine yW (oj hn_g1 hn_g4) ?_;refine yS (oj hn_g1 hn_g4) ?_)|refine yP (oj hn_g1 hn_g4) ?_|refine yN (oj hn_g1 hn_g4) ?_|refine aw_cd (zE (oj hn_g1 hn_g4)) (fun hb=>?_) (fun hb=>?_)|refine aw_ce (zE (oj hn_g1 hn_g4)) (fun hb=>?_) (fun hb=>?_)|refine aw_cn (zE (oj hn_g1 hn_g4)) (fun hb=>?_) (fun hb=>?_)|(refine yF (oj hn_g1 hn_g4) (fun hb=>?_) (fun hb=>?_)<;>fail_if_success (cases hb;done))|(refine aw_gsd rfl rfl (zE (oj hn_g1 hn_g4)) (fun hb=>?_) (fun hb=>?_)<;>refine yS (oj hn_g1 hn_g4) ?_)|(refine aw_gse rfl rfl (zE (oj hn_g1 hn_g4)) (fun hb=>?_) (fun hb=>?_)<;>refine yS (oj hn_g1 hn_g4) ?_)|(refine aw_gsn rfl rfl (zE (oj hn_g1 hn_g4)) (fun hb=>?_) (fun hb=>?_)<;>refine yS (oj hn_g1 hn_g4) ?_)|(refine aw_gs rfl rfl (zE (oj hn_g1 hn_g4)) (fun hb=>?_) (fun hb=>?_)<;>fail_if_success (cases hb;done)<;>refine yS (oj hn_g1 hn_g4) ?_)|(refine drk_gsd rfl rfl (zE (oj hn_g1 hn_g4)) (fun hb=>?_) (fun hb=>?_)<;>refine yS (oj hn_g1 hn_g4) ?_)|(refine drk_gse rfl rfl (zE (oj hn_g1 hn_g4)) (fun hb=>?_) (fun hb=>?_)<;>refine yS (oj hn_g1 hn_g4) ?_)|(refine drk_gsn rfl rfl (zE (oj hn_g1 hn_g4)) (fun hb=>?_) (fun hb=>?_)<;>refine yS (oj hn_g1 hn_g4) ?_)|(refine drk_gs rfl rfl (zE (oj hn_g1 hn_g4)) (fun hb=>?_) (fun hb=>?_)<;>fail_if_success (cases hb;done)<;>refine yS (oj hn_g1 hn_g4) ?_)
   all_goals clear f1 f2
   ·refine yT hC (oj hn_g1 hn_g4) ?_
    refine .one (.c (ler_errE (c:=grsC m) (hR _ ms ?_ (by decide)) (by decide)))
    unfold grC
    repeat' split
    all_goals first|rfl|(exfalso;simp_all;done)|(exfalso;simp_all;omega)
   ·refine yT hC (oj hn_g1 hn_g4) ?_
    refine .one (.c (ler_errE (c:=grsC m) (hR _ ms ?_ (by decide)) (by decide)))
    unfold grC
    repeat' split
    all_goals first|rfl|(exfalso;simp_all;done)|(exfalso;simp_all;omega)
   ·refine yT hC (oj hn_g1 hn_g4) ?_
    refine .one (.c (ler_errE (c:=grsC m) (hR _ ms ?_ (by decide)) (by decide)))
    unfold grC
    repeat' split
    all_goals first|rfl|(exfalso;simp_all;done)|(exfalso;simp_all;omega)
   have hff:=hb
   generalize hF2:frsS (meC m) mb 0 ms=F2
   have hQ:grC m i ⟨nm,1,mb,fc⟩ ms=(if F2.1≠0 then F2 else if fc.all RD.prob=false then(3,ms) else(0,F2.2)):=by
    unfold grC
    dsimp only
    rw [hF2]
    rw [if_neg (by simpa using hn1),if_neg (by assumption),if_neg (by decide),if_neg (by simp;omega)]
   refine aw_lp (fun y:Nat×List BS×Option Nat=>[(1,.c (.optr g1 0)),(2,.c .nilI),(3,.c (gs y.2.2 1 y.2.1.length)),(5,.c (.optr g4 0)),(16,.c (grs true m.groups)),(17,.c (.int .i64 m.groups.length)),(18,.c (.int .i64 i)),(71,.c (strs true mb)),(72,.c (.int .i64 mb.length)),(73,.c (.int .i64 y.1))]) (fun y=>[(g4,.cells 100 4 (ofL (grc ⟨nm,1,mb,fc⟩))),(g1,.cells 30 8 (ofL (mdc true m)))]++gh y.2.2 9 y.2.1.length (strsF y.2.1)) (fun y=>y.1≤mb.length∧(y.2.2=none→y.2.1.length=0)∧y.2.1.length≤ms.length+y.1∧frsS (meC m) (mb.drop y.1) y.1 y.2.1=F2) (fun y=>mb.length-y.1) (0,ms,og) (zB (oj hn_g1 hn_g4)) zZ ⟨Nat.zero_le _,hog,by dsimp only;omega,hF2⟩ ?_
   rintro ⟨j,sq,oq⟩ ⟨hj,hoq,hsq,hlq⟩
   dsimp only at hj hoq hsq hlq⊢
   simp only [List.cons_append,List.nil_append]
   repeat' first|refine yA1 (oj hn_g1 hn_g4) ?_|(refine yC2 (oj hn_g1 hn_g4) (f3) ?_)|(refine yD2 (oj hn_g1 hn_g4) (f3) ?_)|(refine yW (oj hn_g1 hn_g4) ?_;refine yS (oj hn_g1 hn_g4) ?_)|refine yP (oj hn_g1 hn_g4) ?_|refine yN (oj hn_g1 hn_g4) ?_|refine aw_cd (zE (oj hn_g1 hn_g4)) (fun hb=>?_) (fun hb=>?_)|refine aw_ce (zE (oj hn_g1 hn_g4)) (fun hb=>?_) (fun hb=>?_)|refine aw_cn (zE (oj hn_g1 hn_g4)) (fun hb=>?_) (fun hb=>?_)|(refine yF (oj hn_g1 hn_g4) (fun hb=>?_) (fun hb=>?_)<;>fail_if_success (cases hb;done))|(refine aw_gsd rfl rfl (zE (oj hn_g1 hn_g4)) (fun hb=>?_) (fun hb=>?_)<;>refine yS (oj hn_g1 hn_g4) ?_)|(refine aw_gse rfl rfl (zE (oj hn_g1 hn_g4)) (fun hb=>?_) (fun hb=>?_)<;>refine yS (oj hn_g1 hn_g4) ?_)|(refine aw_gsn rfl rfl (zE (oj hn_g1 hn_g4)) (fun hb=>?_) (fun hb=>?_)<;>refine yS (oj hn_g1 hn_g4) ?_)|(refine aw_gs rfl rfl (zE (oj hn_g1 hn_g4)) (fun hb=>?_) (fun hb=>?_)<;>fail_if_success (cases hb;done)<;>refine yS (oj hn_g1 hn_g4) ?_)|(refine drk_gsd rfl rfl (zE (oj hn_g1 hn_g4)) (fun hb=>?_) (fun hb=>?_)<;>refine yS (oj hn_g1 hn_g4) ?_)|(refine drk_gse rfl rfl (zE (oj hn_g1 hn_g4)) (fun hb=>?_) (fun hb=>?_)<;>refine yS (oj hn_g1 hn_g4) ?_)|(refine drk_gsn rfl rfl (zE (oj hn_g1 hn_g4)) (fun hb=>?_) (fun hb=>?_)<;>refine yS (oj hn_g1 hn_g4) ?_)|(refine drk_gs rfl rfl (zE (oj hn_g1 hn_g4)) (fun hb=>?_) (fun hb=>?_)<;>fail_if_success (cases hb;done)<;>refine yS (oj hn_g1 hn_g4) ?_)
   ·have hj':=hb
    have hq2:=fun r=>frsS_ret (d:=([]:BS)) (r:=r) hlq hj'
    have hqg:=fun r=>frsS_go (d:=([]:BS)) (r:=r) hlq hj'
    clear hlq
    generalize hy:mb.getD j []=y at*
    have hR2:∀c s,meC m j y sq=(c,s)→c≠0→grsC m=c:=fun c s h1 h2=>by
     have a1:=hq2 _ h1 h2
     refine hR c s ?_ h2
     rw [hQ,a1]
     exact if_pos h2
    have f5:=event_fa m y hm.ev
    have f4:=scontF_fa sq y om
    repeat' first|refine yA1 (oj hn_g1 hn_g4) ?_|(refine yC2 (oj hn_g1 hn_g4) (f5) ?_)|(refine yD2 (oj hn_g1 hn_g4) (f5) ?_)|(refine yW (oj hn_g1 hn_g4) ?_;refine yS (oj hn_g1 hn_g4) ?_)|refine yP (oj hn_g1 hn_g4) ?_|refine yN (oj hn_g1 hn_g4) ?_|refine aw_cd (zE (oj hn_g1 hn_g4)) (fun hb=>?_) (fun hb=>?_)|refine aw_ce (zE (oj hn_g1 hn_g4)) (fun hb=>?_) (fun hb=>?_)|refine aw_cn (zE (oj hn_g1 hn_g4)) (fun hb=>?_) (fun hb=>?_)|(refine yF (oj hn_g1 hn_g4) (fun hb=>?_) (fun hb=>?_)<;>fail_if_success (cases hb;done))|(refine aw_gsd rfl rfl (zE (oj hn_g1 hn_g4)) (fun hb=>?_) (fun hb=>?_)<;>refine yS (oj hn_g1 hn_g4) ?_)|(refine aw_gse rfl rfl (zE (oj hn_g1 hn_g4)) (fun hb=>?_) (fun hb=>?_)<;>refine yS (oj hn_g1 hn_g4) ?_)|(refine aw_gsn rfl rfl (zE (oj hn_g1 hn_g4)) (fun hb=>?_) (fun hb=>?_)<;>refine yS (oj hn_g1 hn_g4) ?_)|(refine aw_gs rfl rfl (zE (oj hn_g1 hn_g4)) (fun hb=>?_) (fun hb=>?_)<;>fail_if_success (cases hb;done)<;>refine yS (oj hn_g1 hn_g4) ?_)|(refine drk_gsd rfl rfl (zE (oj hn_g1 hn_g4)) (fun hb=>?_) (fun hb=>?_)<;>refine yS (oj hn_g1 hn_g4) ?_)|(refine drk_gse rfl rfl (zE (oj hn_g1 hn_g4)) (fun hb=>?_) (fun hb=>?_)<;>refine yS (oj hn_g1 hn_g4) ?_)|(refine drk_gsn rfl rfl (zE (oj hn_g1 hn_g4)) (fun hb=>?_) (fun hb=>?_)<;>refine yS (oj hn_g1 hn_g4) ?_)|(refine drk_gs rfl rfl (zE (oj hn_g1 hn_g4)) (fun hb=>?_) (fun hb=>?_)<;>fail_if_success (cases hb;done)<;>refine yS (oj hn_g1 hn_g4) ?_)
    ·refine yT hC (oj hn_g1 hn_g4) ?_
     refine .one (.c (ler_errE (c:=grsC m) (hR2 _ sq ?_ (by decide)) (by decide)))
     unfold meC evI
     rw [if_pos hb]
    have h5:=hb
    refine aw_nd fun hnd=> ?_
    refine aw_callq f4 rfl rfl rfl (by refine yS (oj hn_g1 hn_g4) ?_;exact⟨.c (le_gst (pre:=[(g4,.cells 100 4 (ofL (grc ⟨nm,1,mb,fc⟩))),(g1,.cells 30 8 (ofL (mdc true m)))]) hoq hnd),.c (.refl _)⟩) ?_
    have J4:=oj hn_g1 hn_g4
    refine yS J4 ?_
    repeat' first|refine yA1 J4 ?_|(refine yW J4 ?_;refine yS J4 ?_)|refine yP J4 ?_|refine yN J4 ?_|refine aw_cd (zE J4) (fun hb=>?_) (fun hb=>?_)|refine aw_ce (zE J4) (fun hb=>?_) (fun hb=>?_)|refine aw_cn (zE J4) (fun hb=>?_) (fun hb=>?_)|(refine yF J4 (fun hb=>?_) (fun hb=>?_)<;>fail_if_success (cases hb;done))|(refine aw_gsd rfl rfl (zE J4) (fun hb=>?_) (fun hb=>?_)<;>refine yS J4 ?_)|(refine aw_gse rfl rfl (zE J4) (fun hb=>?_) (fun hb=>?_)<;>refine yS J4 ?_)|(refine aw_gsn rfl rfl (zE J4) (fun hb=>?_) (fun hb=>?_)<;>refine yS J4 ?_)|(refine aw_gs rfl rfl (zE J4) (fun hb=>?_) (fun hb=>?_)<;>fail_if_success (cases hb;done)<;>refine yS J4 ?_)|(refine drk_gsd rfl rfl (zE J4) (fun hb=>?_) (fun hb=>?_)<;>refine yS J4 ?_)|(refine drk_gse rfl rfl (zE J4) (fun hb=>?_) (fun hb=>?_)<;>refine yS J4 ?_)|(refine drk_gsn rfl rfl (zE J4) (fun hb=>?_) (fun hb=>?_)<;>refine yS J4 ?_)|(refine drk_gs rfl rfl (zE J4) (fun hb=>?_) (fun hb=>?_)<;>fail_if_success (cases hb;done)<;>refine yS J4 ?_)
    ·refine yT hC J4 ?_
     refine .one (.c (ler_errE (c:=grsC m) (hR2 _ sq ?_ (by decide)) (by decide)))
     unfold meC evI
     rw [if_neg h5,if_pos hb]
    ·have hz:meC m j y sq=(0,sq++[y]):=by
      unfold meC evI
      rw [if_neg h5,if_neg (by simpa using hb)]
     have hq:=hqg _ hz rfl
     have hln:(sq++[y]).length=sq.length+1:=by rw [List.length_append];rfl
     refine aw_push (pre:=[(g4,.cells 100 4 (ofL (grc ⟨nm,1,mb,fc⟩))),(g1,.cells 30 8 (ofL (mdc true m)))]) rfl rfl rfl rfl rfl rfl rfl (zE J4) (zE J4) (by rfl) om om (zE J4) om (by exact hoq) (zE J4) (by rfl) (by rfl) (by first|rfl|simp only [Nat.mul_one,List.nil_append,List.cons_append]<;>rfl) (by unfold maxLen;omega) om (by exact strs_push rfl y) fun gb hn_gb=> ?_
     replace hn_gb:=Heap.ne_of hn_gb
     first|dsimp only [Heap.ne,gh] at hn_gb|dsimp only [Heap.ne] at hn_gb|skip
     have J5:=oj hn_g1 (oj hn_g4 hn_gb)
     refine yS J5 ?_
     repeat' first|refine yA1 J5 ?_|(refine yW J5 ?_;refine yS J5 ?_)|refine yP J5 ?_|refine yN J5 ?_|refine aw_cd (zE J5) (fun hb=>?_) (fun hb=>?_)|refine aw_ce (zE J5) (fun hb=>?_) (fun hb=>?_)|refine aw_cn (zE J5) (fun hb=>?_) (fun hb=>?_)|(refine yF J5 (fun hb=>?_) (fun hb=>?_)<;>fail_if_success (cases hb;done))|(refine aw_gsd rfl rfl (zE J5) (fun hb=>?_) (fun hb=>?_)<;>refine yS J5 ?_)|(refine aw_gse rfl rfl (zE J5) (fun hb=>?_) (fun hb=>?_)<;>refine yS J5 ?_)|(refine aw_gsn rfl rfl (zE J5) (fun hb=>?_) (fun hb=>?_)<;>refine yS J5 ?_)|(refine aw_gs rfl rfl (zE J5) (fun hb=>?_) (fun hb=>?_)<;>fail_if_success (cases hb;done)<;>refine yS J5 ?_)|(refine drk_gsd rfl rfl (zE J5) (fun hb=>?_) (fun hb=>?_)<;>refine yS J5 ?_)|(refine drk_gse rfl rfl (zE J5) (fun hb=>?_) (fun hb=>?_)<;>refine yS J5 ?_)|(refine drk_gsn rfl rfl (zE J5) (fun hb=>?_) (fun hb=>?_)<;>refine yS J5 ?_)|(refine drk_gs rfl rfl (zE J5) (fun hb=>?_) (fun hb=>?_)<;>fail_if_success (cases hb;done)<;>refine yS J5 ?_)
     refine aw_stop ⟨(j+1,sq++[y],some gb),?_⟩
     dsimp only
     simp only [hln]
     and_intros
     all_goals first|rfl|exact List.Sublist.refl _|exact List.sublist_cons_self _ _|exact True.intro|exact some_ne|exact hq|omega
   ·rename_i hj0
    have hF0:=frsS_fin hlq hj0
    refine yT hC (oj hn_g1 hn_g4) ?_
    refine .one (.c (ler_errE (c:=grsC m) (hR _ ms ?_ (by decide)) (by decide)))
    rw [hQ,hF0,if_neg (by simp),if_pos (by simpa using hb)]
   ·rename_i hj0
    have hF0:=frsS_fin hlq hj0
    have hz:grC m i ⟨nm,1,mb,fc⟩ ms=(0,sq):=by
     rw [hQ,hF0,if_neg (by simp),if_neg (by simpa using hb)]
    have hq:=hgo _ hz rfl
    refine aw_stop ⟨(i+1,sq,oq),?_⟩
    and_intros
    all_goals first|rfl|exact List.Sublist.refl _|exact List.sublist_cons_self _ _|exact True.intro|exact hoq|exact hq|(dsimp only;omega)
  ·repeat' first|refine yA1 (oj hn_g1 hn_g4) ?_|(refine aw_cg (f2) rfl rfl rfl (zE (oj hn_g1 hn_g4)) (zL2 (oj hn_g1 hn_g4)) ?_;refine yS (oj hn_g1 hn_g4) ?_)|(refine yW (oj hn_g1 hn_g4) ?_;refine yS (oj hn_g1 hn_g4) ?_)|refine yP (oj hn_g1 hn_g4) ?_|refine yN (oj hn_g1 hn_g4) ?_|refine aw_cd (zE (oj hn_g1 hn_g4)) (fun hb=>?_) (fun hb=>?_)|refine aw_ce (zE (oj hn_g1 hn_g4)) (fun hb=>?_) (fun hb=>?_)|refine aw_cn (zE (oj hn_g1 hn_g4)) (fun hb=>?_) (fun hb=>?_)|(refine yF (oj hn_g1 hn_g4) (fun hb=>?_) (fun hb=>?_)<;>fail_if_success (cases hb;done))|(refine aw_gsd rfl rfl (zE (oj hn_g1 hn_g4)) (fun hb=>?_) (fun hb=>?_)<;>refine yS (oj hn_g1 hn_g4) ?_)|(refine aw_gse rfl rfl (zE (oj hn_g1 hn_g4)) (fun hb=>?_) (fun hb=>?_)<;>refine yS (oj hn_g1 hn_g4) ?_)|(refine aw_gsn rfl rfl (zE (oj hn_g1 hn_g4)) (fun hb=>?_) (fun hb=>?_)<;>refine yS (oj hn_g1 hn_g4) ?_)|(refine aw_gs rfl rfl (zE (oj hn_g1 hn_g4)) (fun hb=>?_) (fun hb=>?_)<;>fail_if_success (cases hb;done)<;>refine yS (oj hn_g1 hn_g4) ?_)|(refine drk_gsd rfl rfl (zE (oj hn_g1 hn_g4)) (fun hb=>?_) (fun hb=>?_)<;>refine yS (oj hn_g1 hn_g4) ?_)|(refine drk_gse rfl rfl (zE (oj hn_g1 hn_g4)) (fun hb=>?_) (fun hb=>?_)<;>refine yS (oj hn_g1 hn_g4) ?_)|(refine drk_gsn rfl rfl (zE (oj hn_g1 hn_g4)) (fun hb=>?_) (fun hb=>?_)<;>refine yS (oj hn_g1 hn_g4) ?_)|(refine drk_gs rfl rfl (zE (oj hn_g1 hn_g4)) (fun hb=>?_) (fun hb=>?_)<;>fail_if_success (cases hb;done)<;>refine yS (oj hn_g1 hn_g4) ?_)
   all_goals clear f1 f2
   all_goals first
    |(exfalso;omega)
    |(refine yT hC (oj hn_g1 hn_g4) ?_
      refine .one (.c (ler_errE (c:=grsC m) (hR _ ms ?_ (by decide)) (by decide)))
      unfold grC
      repeat' split
      all_goals first|rfl|(exfalso;simp_all;done)|(exfalso;simp_all;omega))
 ·have hF0:=frsS_fin hlp hb
  subst hF0
  refine yT hC hn_g1 ?_
  exact .one (.c (ler_err0 he2))
end Go.Proofs.YteocnikcjjonbaaGreat
namespace Go.PN
open Go.AI
def resK (m:MdD) (k:Nat) (n:BS):Nat:=if bAt n 0=64 then(pgI m (n.drop 1)+1).toNat else k
def resN (m:MdD) (n:BS):BS:=if bAt n 0=64 then(m.pages.getD (pgI m (n.drop 1)).toNat pg0).top else n
def resA (m:MdD) (k:Nat) (n:BS):Int×Int×Int:=if evI m n≥0 then(0,0,evI m n) else if hsI m n≥0 then(1,0,hsI m n) else(2,(k:Int)-1,gtI (gtsK m k) n)
def resP (m:MdD) (k:Nat) (n:BS):Int×Int×Int:=resA m (resK m k n) (resN m n)
abbrev thA (t:Int×Int×Int):AV:=.agg [.int .i64 t.1,.int .i64 t.2.1,.int .i64 t.2.2]
end Go.PN
namespace Go.Proofs.YteocnikcjjonbaaGreat
open Go.AI Go.PN
attribute [local irreducible] aw Fa Fh DrK
theorem resolve_fa (m:MdD) (k:Nat) (n:BS) (hk:k≤m.pages.length) (hm:MdOk m) (hw2:MdWf2 m) (h0:0<n.length) (hn:n.length≤1099511627776) (hpg:bAt n 0=64→0≤pgI m (n.drop 1)):Fa Tryz.prog 142 [.agg (mdc true m),.c (.int .i64 ((k:Int)-1)),.c (.str (sB n))] (thA (resP m k n)):=by
 have hpl:=hw2.pl
 refine fa_of_body Tryz.func142 rfl rfl (by simp [Tryz.ntmps142]) fun C hC=> ?_
 simp only [initS,Nat.reduceAdd]
 repeat' first|refine yA1 o0 ?_|(refine xW ?_;refine xS ?_)|refine xP ?_|refine xN ?_|refine aw_cd eE (fun hb=>?_) (fun hb=>?_)|refine aw_ce eE (fun hb=>?_) (fun hb=>?_)|refine aw_cn eE (fun hb=>?_) (fun hb=>?_)|(refine xF (fun hb=>?_) (fun hb=>?_)<;>fail_if_success (cases hb;done))|(refine aw_gsd rfl rfl eE (fun hb=>?_) (fun hb=>?_)<;>refine xS ?_)|(refine aw_gse rfl rfl eE (fun hb=>?_) (fun hb=>?_)<;>refine xS ?_)|(refine aw_gsn rfl rfl eE (fun hb=>?_) (fun hb=>?_)<;>refine xS ?_)|(refine aw_gs rfl rfl eE (fun hb=>?_) (fun hb=>?_)<;>fail_if_success (cases hb;done)<;>refine xS ?_)|(refine drk_gsd rfl rfl eE (fun hb=>?_) (fun hb=>?_)<;>refine xS ?_)|(refine drk_gse rfl rfl eE (fun hb=>?_) (fun hb=>?_)<;>refine xS ?_)|(refine drk_gsn rfl rfl eE (fun hb=>?_) (fun hb=>?_)<;>refine xS ?_)|(refine drk_gs rfl rfl eE (fun hb=>?_) (fun hb=>?_)<;>fail_if_success (cases hb;done)<;>refine xS ?_)
 refine xB fun g1 hn_g1=>?_
 repeat' first|refine yA1 hn_g1 ?_|(refine yW hn_g1 ?_;refine yS hn_g1 ?_)|refine yP hn_g1 ?_|refine yN hn_g1 ?_|refine aw_cd (zE hn_g1) (fun hb=>?_) (fun hb=>?_)|refine aw_ce (zE hn_g1) (fun hb=>?_) (fun hb=>?_)|refine aw_cn (zE hn_g1) (fun hb=>?_) (fun hb=>?_)|(refine yF hn_g1 (fun hb=>?_) (fun hb=>?_)<;>fail_if_success (cases hb;done))|(refine aw_gsd rfl rfl (zE hn_g1) (fun hb=>?_) (fun hb=>?_)<;>refine yS hn_g1 ?_)|(refine aw_gse rfl rfl (zE hn_g1) (fun hb=>?_) (fun hb=>?_)<;>refine yS hn_g1 ?_)|(refine aw_gsn rfl rfl (zE hn_g1) (fun hb=>?_) (fun hb=>?_)<;>refine yS hn_g1 ?_)|(refine aw_gs rfl rfl (zE hn_g1) (fun hb=>?_) (fun hb=>?_)<;>fail_if_success (cases hb;done)<;>refine yS hn_g1 ?_)|(refine drk_gsd rfl rfl (zE hn_g1) (fun hb=>?_) (fun hb=>?_)<;>refine yS hn_g1 ?_)|(refine drk_gse rfl rfl (zE hn_g1) (fun hb=>?_) (fun hb=>?_)<;>refine yS hn_g1 ?_)|(refine drk_gsn rfl rfl (zE hn_g1) (fun hb=>?_) (fun hb=>?_)<;>refine yS hn_g1 ?_)|(refine drk_gs rfl rfl (zE hn_g1) (fun hb=>?_) (fun hb=>?_)<;>fail_if_success (cases hb;done)<;>refine yS hn_g1 ?_)
 refine yA hn_g1 fun g2 hn_g2=>?_
 repeat' first|refine yA1 (oj hn_g1 hn_g2) ?_|(refine yW (oj hn_g1 hn_g2) ?_;refine yS (oj hn_g1 hn_g2) ?_)|refine yP (oj hn_g1 hn_g2) ?_|refine yN (oj hn_g1 hn_g2) ?_|refine aw_cd (zE (oj hn_g1 hn_g2)) (fun hb=>?_) (fun hb=>?_)|refine aw_ce (zE (oj hn_g1 hn_g2)) (fun hb=>?_) (fun hb=>?_)|refine aw_cn (zE (oj hn_g1 hn_g2)) (fun hb=>?_) (fun hb=>?_)|(refine yF (oj hn_g1 hn_g2) (fun hb=>?_) (fun hb=>?_)<;>fail_if_success (cases hb;done))|(refine aw_gsd rfl rfl (zE (oj hn_g1 hn_g2)) (fun hb=>?_) (fun hb=>?_)<;>refine yS (oj hn_g1 hn_g2) ?_)|(refine aw_gse rfl rfl (zE (oj hn_g1 hn_g2)) (fun hb=>?_) (fun hb=>?_)<;>refine yS (oj hn_g1 hn_g2) ?_)|(refine aw_gsn rfl rfl (zE (oj hn_g1 hn_g2)) (fun hb=>?_) (fun hb=>?_)<;>refine yS (oj hn_g1 hn_g2) ?_)|(refine aw_gs rfl rfl (zE (oj hn_g1 hn_g2)) (fun hb=>?_) (fun hb=>?_)<;>fail_if_success (cases hb;done)<;>refine yS (oj hn_g1 hn_g2) ?_)|(refine drk_gsd rfl rfl (zE (oj hn_g1 hn_g2)) (fun hb=>?_) (fun hb=>?_)<;>refine yS (oj hn_g1 hn_g2) ?_)|(refine drk_gse rfl rfl (zE (oj hn_g1 hn_g2)) (fun hb=>?_) (fun hb=>?_)<;>refine yS (oj hn_g1 hn_g2) ?_)|(refine drk_gsn rfl rfl (zE (oj hn_g1 hn_g2)) (fun hb=>?_) (fun hb=>?_)<;>refine yS (oj hn_g1 hn_g2) ?_)|(refine drk_gs rfl rfl (zE (oj hn_g1 hn_g2)) (fun hb=>?_) (fun hb=>?_)<;>fail_if_success (cases hb;done)<;>refine yS (oj hn_g1 hn_g2) ?_)
 ·have h64:=hb
  obtain⟨q,hq⟩:∃q:Nat,pgI m (n.drop 1)=q:=⟨(pgI m (n.drop 1)).toNat,by have:=hpg h64;omega⟩
  have hql:q<m.pages.length:=by
   have:=fidx_lt (fun x:PgD=>x.name==n.drop 1) m.pages
   rw [show fidx (fun x:PgD=>x.name==n.drop 1) m.pages=(q:Int) from hq] at this
   omega
  have f1:=page_fa m (cutS n 1 n.length) hm.pg
  rw [cutS_drop,show fidx (fun x:PgD=>x.name==n.drop 1) m.pages=(q:Int) from hq,←cutS_drop] at f1
  have e1:resP m k n=resA m (q+1) (m.pages.getD q pg0).top:=by
   unfold resP resK resN
   rw [if_pos h64,if_pos h64,hq]
   rfl
  rw [e1]
  have hgl:=gtsK_len hw2 (q+1)
  have f4:=gatesOf_fa m (q+1) om hm.pg
  rw [show((q+1:Nat):Int)-1=q from by omega] at f4
  refine aw_dr 5 ty_mixed (by kernel_rfl) ?_
  repeat' first|refine yA1 (oj hn_g1 hn_g2) ?_|(refine yC2 (oj hn_g1 hn_g2) (f1) ?_)|(refine yD2 (oj hn_g1 hn_g2) (f1) ?_)|(refine yW (oj hn_g1 hn_g2) ?_;refine yS (oj hn_g1 hn_g2) ?_)|refine yP (oj hn_g1 hn_g2) ?_|refine yN (oj hn_g1 hn_g2) ?_|refine aw_cd (zE (oj hn_g1 hn_g2)) (fun hb=>?_) (fun hb=>?_)|refine aw_ce (zE (oj hn_g1 hn_g2)) (fun hb=>?_) (fun hb=>?_)|refine aw_cn (zE (oj hn_g1 hn_g2)) (fun hb=>?_) (fun hb=>?_)|(refine yF (oj hn_g1 hn_g2) (fun hb=>?_) (fun hb=>?_)<;>fail_if_success (cases hb;done))|(refine aw_gsd rfl rfl (zE (oj hn_g1 hn_g2)) (fun hb=>?_) (fun hb=>?_)<;>refine yS (oj hn_g1 hn_g2) ?_)|(refine aw_gse rfl rfl (zE (oj hn_g1 hn_g2)) (fun hb=>?_) (fun hb=>?_)<;>refine yS (oj hn_g1 hn_g2) ?_)|(refine aw_gsn rfl rfl (zE (oj hn_g1 hn_g2)) (fun hb=>?_) (fun hb=>?_)<;>refine yS (oj hn_g1 hn_g2) ?_)|(refine aw_gs rfl rfl (zE (oj hn_g1 hn_g2)) (fun hb=>?_) (fun hb=>?_)<;>fail_if_success (cases hb;done)<;>refine yS (oj hn_g1 hn_g2) ?_)|(refine drk_gsd rfl rfl (zE (oj hn_g1 hn_g2)) (fun hb=>?_) (fun hb=>?_)<;>refine yS (oj hn_g1 hn_g2) ?_)|(refine drk_gse rfl rfl (zE (oj hn_g1 hn_g2)) (fun hb=>?_) (fun hb=>?_)<;>refine yS (oj hn_g1 hn_g2) ?_)|(refine drk_gsn rfl rfl (zE (oj hn_g1 hn_g2)) (fun hb=>?_) (fun hb=>?_)<;>refine yS (oj hn_g1 hn_g2) ?_)|(refine drk_gs rfl rfl (zE (oj hn_g1 hn_g2)) (fun hb=>?_) (fun hb=>?_)<;>fail_if_success (cases hb;done)<;>refine yS (oj hn_g1 hn_g2) ?_)
  generalize hN:(m.pages.getD q pg0).top=N at*
  have f2:=event_fa m N hm.ev
  have f3:=house_fa m N hm.hs
  have f5:=gate_fa (gtsK m (q+1)) N om
  repeat' first|refine yA1 (oj hn_g1 hn_g2) ?_|(refine yC2 (oj hn_g1 hn_g2) (f2) ?_)|(refine yD2 (oj hn_g1 hn_g2) (f2) ?_)|(refine yC2 (oj hn_g1 hn_g2) (f3) ?_)|(refine yD2 (oj hn_g1 hn_g2) (f3) ?_)|(refine yC2 (oj hn_g1 hn_g2) (f4) ?_)|(refine yD2 (oj hn_g1 hn_g2) (f4) ?_)|(refine yC2 (oj hn_g1 hn_g2) (f5) ?_)|(refine yD2 (oj hn_g1 hn_g2) (f5) ?_)|(refine yW (oj hn_g1 hn_g2) ?_;refine yS (oj hn_g1 hn_g2) ?_)|refine yP (oj hn_g1 hn_g2) ?_|refine yN (oj hn_g1 hn_g2) ?_|refine aw_cd (zE (oj hn_g1 hn_g2)) (fun hb=>?_) (fun hb=>?_)|refine aw_ce (zE (oj hn_g1 hn_g2)) (fun hb=>?_) (fun hb=>?_)|refine aw_cn (zE (oj hn_g1 hn_g2)) (fun hb=>?_) (fun hb=>?_)|(refine yF (oj hn_g1 hn_g2) (fun hb=>?_) (fun hb=>?_)<;>fail_if_success (cases hb;done))|(refine aw_gsd rfl rfl (zE (oj hn_g1 hn_g2)) (fun hb=>?_) (fun hb=>?_)<;>refine yS (oj hn_g1 hn_g2) ?_)|(refine aw_gse rfl rfl (zE (oj hn_g1 hn_g2)) (fun hb=>?_) (fun hb=>?_)<;>refine yS (oj hn_g1 hn_g2) ?_)|(refine aw_gsn rfl rfl (zE (oj hn_g1 hn_g2)) (fun hb=>?_) (fun hb=>?_)<;>refine yS (oj hn_g1 hn_g2) ?_)|(refine aw_gs rfl rfl (zE (oj hn_g1 hn_g2)) (fun hb=>?_) (fun hb=>?_)<;>fail_if_success (cases hb;done)<;>refine yS (oj hn_g1 hn_g2) ?_)|(refine drk_gsd rfl rfl (zE (oj hn_g1 hn_g2)) (fun hb=>?_) (fun hb=>?_)<;>refine yS (oj hn_g1 hn_g2) ?_)|(refine drk_gse rfl rfl (zE (oj hn_g1 hn_g2)) (fun hb=>?_) (fun hb=>?_)<;>refine yS (oj hn_g1 hn_g2) ?_)|(refine drk_gsn rfl rfl (zE (oj hn_g1 hn_g2)) (fun hb=>?_) (fun hb=>?_)<;>refine yS (oj hn_g1 hn_g2) ?_)|(refine drk_gs rfl rfl (zE (oj hn_g1 hn_g2)) (fun hb=>?_) (fun hb=>?_)<;>fail_if_success (cases hb;done)<;>refine yS (oj hn_g1 hn_g2) ?_)
  ·refine yT hC (oj hn_g1 hn_g2) ?_
   rw [show resA m (q+1) N=(0,0,evI m N) from if_pos hb]
   exact .one (.agg ⟨.int _ _,.int _ _,.int _ _,trivial⟩)
  ·rename_i h1
   refine yT hC (oj hn_g1 hn_g2) ?_
   rw [show resA m (q+1) N=(1,0,hsI m N) from(if_neg h1).trans (if_pos hb)]
   exact .one (.agg ⟨.int _ _,.int _ _,.int _ _,trivial⟩)
  ·rename_i h1
   refine yT hC (oj hn_g1 hn_g2) ?_
   rw [show resA m (q+1) N=(2,(((q+1):Nat):Int)-1,gtI (gtsK m (q+1)) N) from(if_neg h1).trans (if_neg hb)]
   exact .one (.agg ⟨.int _ _,ler_int (by dsimp only;omega),.int _ _,trivial⟩)
 ·have e1:resP m k n=resA m k n:=by
   unfold resP resK resN
   rw [if_neg hb,if_neg hb]
  rw [e1]
  clear e1 hpg
  generalize n=N at*
  have hgl:=gtsK_len hw2 k
  have f4:=gatesOf_fa m k hk hm.pg
  have f2:=event_fa m N hm.ev
  have f3:=house_fa m N hm.hs
  have f5:=gate_fa (gtsK m k) N om
  repeat' first|refine yA1 (oj hn_g1 hn_g2) ?_|(refine yC2 (oj hn_g1 hn_g2) (f2) ?_)|(refine yD2 (oj hn_g1 hn_g2) (f2) ?_)|(refine yC2 (oj hn_g1 hn_g2) (f3) ?_)|(refine yD2 (oj hn_g1 hn_g2) (f3) ?_)|(refine yC2 (oj hn_g1 hn_g2) (f4) ?_)|(refine yD2 (oj hn_g1 hn_g2) (f4) ?_)|(refine yC2 (oj hn_g1 hn_g2) (f5) ?_)|(refine yD2 (oj hn_g1 hn_g2) (f5) ?_)|(refine yW (oj hn_g1 hn_g2) ?_;refine yS (oj hn_g1 hn_g2) ?_)|refine yP (oj hn_g1 hn_g2) ?_|refine yN (oj hn_g1 hn_g2) ?_|refine aw_cd (zE (oj hn_g1 hn_g2)) (fun hb=>?_) (fun hb=>?_)|refine aw_ce (zE (oj hn_g1 hn_g2)) (fun hb=>?_) (fun hb=>?_)|refine aw_cn (zE (oj hn_g1 hn_g2)) (fun hb=>?_) (fun hb=>?_)|(refine yF (oj hn_g1 hn_g2) (fun hb=>?_) (fun hb=>?_)<;>fail_if_success (cases hb;done))|(refine aw_gsd rfl rfl (zE (oj hn_g1 hn_g2)) (fun hb=>?_) (fun hb=>?_)<;>refine yS (oj hn_g1 hn_g2) ?_)|(refine aw_gse rfl rfl (zE (oj hn_g1 hn_g2)) (fun hb=>?_) (fun hb=>?_)<;>refine yS (oj hn_g1 hn_g2) ?_)|(refine aw_gsn rfl rfl (zE (oj hn_g1 hn_g2)) (fun hb=>?_) (fun hb=>?_)<;>refine yS (oj hn_g1 hn_g2) ?_)|(refine aw_gs rfl rfl (zE (oj hn_g1 hn_g2)) (fun hb=>?_) (fun hb=>?_)<;>fail_if_success (cases hb;done)<;>refine yS (oj hn_g1 hn_g2) ?_)|(refine drk_gsd rfl rfl (zE (oj hn_g1 hn_g2)) (fun hb=>?_) (fun hb=>?_)<;>refine yS (oj hn_g1 hn_g2) ?_)|(refine drk_gse rfl rfl (zE (oj hn_g1 hn_g2)) (fun hb=>?_) (fun hb=>?_)<;>refine yS (oj hn_g1 hn_g2) ?_)|(refine drk_gsn rfl rfl (zE (oj hn_g1 hn_g2)) (fun hb=>?_) (fun hb=>?_)<;>refine yS (oj hn_g1 hn_g2) ?_)|(refine drk_gs rfl rfl (zE (oj hn_g1 hn_g2)) (fun hb=>?_) (fun hb=>?_)<;>fail_if_success (cases hb;done)<;>refine yS (oj hn_g1 hn_g2) ?_)
  ·refine yT hC (oj hn_g1 hn_g2) ?_
   rw [show resA m k N=(0,0,evI m N) from if_pos hb]
   exact .one (.agg ⟨.int _ _,.int _ _,.int _ _,trivial⟩)
  ·rename_i h1
   refine yT hC (oj hn_g1 hn_g2) ?_
   rw [show resA m k N=(1,0,hsI m N) from(if_neg h1).trans (if_pos hb)]
   exact .one (.agg ⟨.int _ _,.int _ _,.int _ _,trivial⟩)
  ·rename_i h1
   refine yT hC (oj hn_g1 hn_g2) ?_
   rw [show resA m k N=(2,((k:Nat):Int)-1,gtI (gtsK m k) N) from(if_neg h1).trans (if_neg hb)]
   exact .one (.agg ⟨.int _ _,.int _ _,.int _ _,trivial⟩)
end Go.Proofs.YteocnikcjjonbaaGreat
namespace Go.AI
def kvSet {α:Type} [DecidableEq α] (a:α) (v:Value):List (α×Value)→List (α×Value)
 |[]=>[]
 |p::kv=>if a=p.1 then(p.1,v)::kv else p::kvSet a v kv
theorem modSpec {α:Type} [DecidableEq α] {K:α→Value} (a:α) (v:Value):∀(kv:List (α×Value)) (es:List MapEntry) (n i:Nat) (x:Value),es.map (fun e=>(e.key,e.val))=kv.map (fun p=>(K p.1,p.2))→fAsk a (kv.map (·.1)) es n=some (i,x)→∃j,i=n+j∧(es[j]?).map (·.key)=some (K a)∧(es.modify j (fun e=>{e with key:=K a,val:=v})).map (fun e=>(e.key,e.val))=(kvSet a v kv).map (fun p=>(K p.1,p.2))
 |[],[],_,_,_,_,h=>by cases h
 |[],_::_,_,_,_,h,_=>by simp at h
 |_::_,[],_,_,_,h,_=>by simp at h
 |p::kv,e::es,n,i,x,h,hf=>by
  simp only [List.map_cons,List.cons.injEq,Prod.mk.injEq] at h
  simp only [List.map_cons,fAsk] at hf
  split at hf
  ·rename_i ha
   injection hf with hf
   injection hf with h1 h2
   refine⟨0,h1.symm,?_,?_⟩
   ·simp [h.1.1,ha]
   ·simp only [kvSet,if_pos ha]
    simp [h.2,ha]
  ·rename_i ha
   obtain⟨j,hj,hk,hm⟩:=modSpec a v kv es (n+1) i x h.2 hf
   refine⟨j+1,by omega,by simpa using hk,?_⟩
   simp only [kvSet,if_neg ha]
   simp [hm,h.1.1,h.1.2]
section
variable {E : Env} {K : List It} {σ σ' : Sl} {h : Heap} {all rest : List Oper} {o : Oper}
theorem aw_mapSet {α:Type} [DecidableEq α] {Kf:α→Value} {t kt et g:TypeId} {kv:List (α×Value)} {x ky vl:Operand} {ck cv:AV} {a:α} {v:Value} (hop:o.op=.mapUpdate t x ky vl) (hdn:o.dst=none) (hw:wantA all σ o=some true)
  (ht:tMap E.P t=some (kt,et)) (hK:KeyOk E.P kt Kf) (hsb:Instr.sameBits 10000 (Kf a) (Kf a)=true) (hx:ev σ x=.c (.raw (.map (some g)))) (hg:h.get g=some (.gen (MapI Kf kv))) (hk:ev σ ky=ck) (hka:∀S w u,Rep S w ck u→u=Kf a) (hv:ev σ vl=cv) (hva:∀S w u,Rep S w cv u→u=v)
  (hold:(kvGet a kv).isSome=true) {h':Heap} (hh:h.set g (.gen (MapI Kf (kvSet a v kv)))=h') (k:aw E (.ops all rest::K) σ h'):aw E (.ops all (o::rest)::K) σ h:=by
 subst hh
 refine aw_step hw (fun ac w s=> ?_) k
 have h1:=ev_rep s x
 rw [hx] at h1
 have h1':ac.eval x=.map (some g):=h1
 have h2:=ev_rep s ky
 rw [hk] at h2
 have h2':=hka _ _ _ h2
 have h3:=ev_rep s vl
 rw [hv] at h3
 have h3':=hva _ _ _ h3
 obtain⟨ob,hb,es,c,rfl,hes⟩:=s.heap g _ (Heap.get_mem hg)
 have hkeys:es.toList.map (·.key)=(kv.map (·.1)).map Kf:=by
  have:=congrArg (List.map Prod.fst) hes
  rw [List.map_map,List.map_map] at this
  rw [List.map_map]
  exact this
 have hfind:=hK.find a (kv.map (·.1)) es.toList w hkeys
 have hget:=fAsk_get (K:=Kf) a kv es.toList 0 hes
 obtain⟨i,y,hsome⟩:∃i y,fAsk a (kv.map (·.1)) es.toList 0=some (i,y):=by
  cases hf:fAsk a (kv.map (·.1)) es.toList 0 with
  |none=>rw [hf] at hget;rw [←hget] at hold;cases hold
  |some p=>exact⟨p.1,p.2,rfl⟩
 obtain⟨j,hj,hkj,hmod⟩:=modSpec (K:=Kf) a v kv es.toList 0 i y hes hsome
 rw [Nat.zero_add] at hj
 subst hj
 have hgl:g<w.heap.size:=(Array.getElem?_eq_some_iff.1 hb).1
 let w':World:={w with heap:=w.heap.setIfInBounds g (.map (es.modify i fun e=>{e with key:=Kf a,val:=v}) c)}
 have hki:((es[i]?).map (·.key)).getD (Kf a)=Kf a:=by
  rw [←Array.getElem?_toList,hkj];rfl
 have hrun:(Instr.mapUpdate t (ac.eval x) (ac.eval ky) (ac.eval vl)).run E.P w=.ok () w':=by
  rw [h1',h2',h3']
  unfold Instr.mapUpdate
  simp only [Sem.run_bind,run_underlying (tMap_spec ht),Result.andThen_ok,runGet hb,hK.check,hfind,hsome,hki]
  unfold Instr.keyThatStays
  rw [if_pos hsb]
  simp only [Sem.run_pure,Result.andThen_ok,runSet _ hb]
  rfl
 refine⟨undef,w',.inr ⟨?_,rfl⟩,?_⟩
 ·simp only [execOp,hop,Sem.run_bind,hrun,Result.andThen_ok]
  rfl
 ·rw [hdn]
  have hfr:Fr (fun b=>b=g) w w':=by
   refine⟨rfl,rfl,rfl,by simp [w'],Nat.le_refl _,fun b _ hne=> ?_,fun g' m hh=> ?_⟩
   ·simp only [w'];rw [Array.getElem?_setIfInBounds_ne (fun e=>hne e.symm)]
   ·obtain⟨cs,ty,⟨fr,hc⟩,hs⟩:=hh
    refine⟨cs,ty,⟨fr,?_⟩,hs⟩
    have hne:g'≠g:=fun e=>by rw [e,hb] at hc;cases hc
    simp only [w']
    rw [Array.getElem?_setIfInBounds_ne (fun e=>hne e.symm)];exact hc
  refine s.setObj hg hfr ⟨_,by simp only [w'];rw [Array.getElem?_setIfInBounds_self_of_lt hgl],_,_,rfl,?_⟩
  rw [Array.toList_modify]
  exact hmod
end
end Go.AI
