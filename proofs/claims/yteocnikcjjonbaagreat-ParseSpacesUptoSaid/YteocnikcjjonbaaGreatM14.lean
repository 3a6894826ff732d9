/- Parts of one proof, laid by a program. -/
import Derived.Test.YteocnikcjjonbaaGreatM00
import Derived.Test.YteocnikcjjonbaaGreatM12
set_option linter.unusedSimpArgs false
set_option linter.unusedVariables false
set_option maxRecDepth 100000
set_option maxHeartbeats 12800000
namespace Go.Proofs.YteocnikcjjonbaaGreat
open Go.AI Go.PN
attribute [local irreducible] aw Fa Fh DrK
theorem list_ext {xs ys:List Nat} (hl:xs.length=ys.length) (h:∀j,j<xs.length→xs.getD j 0=ys.getD j 0):xs=ys:=by
 apply List.ext_getElem hl
 intro i h1 h2
 have:=h i h1
 rw [List.getD_eq_getElem?_getD,List.getD_eq_getElem?_getD,List.getElem?_eq_getElem h1,List.getElem?_eq_getElem h2] at this
 exact this
theorem words_fa (xs ys:List Nat) (hl:xs.length≤68719476736):Fa Tryz.prog 57 [.c (ws false xs),.c (ws false ys)] (.c (.bool (decide (xs=ys)))):=by
 refine fa_of_body Tryz.func57 rfl rfl (by simp [Tryz.ntmps57]) fun C hC=> ?_
 simp only [initS,Nat.reduceAdd]
 refine xG ?_
 refine xF (fun hb=>?_) fun hb=>?_
 ·refine xGT hC ?_
  refine .one (.c (ler_bool ?_))
  have:xs≠ys:=fun e=>by rw [e] at hb;simp at hb
  simp [this]
 ·have hlen:xs.length=ys.length:=by
   have h0:=hb
   simp at h0
   omega
  refine xG ?_
  refine aw_lp (fun i:Nat=>[(0,.c (ws false xs)),(1,.c (ws false ys)),(12,.c (.int .i64 xs.length)),(13,.c (.int .i64 i))]) (fun _=>[]) (fun i=>i≤xs.length∧∀j,j<i→xs.getD j 0=ys.getD j 0) (fun i=>xs.length-i) 0 eB zZ ⟨Nat.zero_le _,fun j hj=>by omega⟩ ?_
  rintro i ⟨hi,hs⟩
  refine xG ?_
  refine xF (fun hb=>?_) fun hb=>?_
  ·have hin:i<xs.length:=dT hb
   refine xG ?_
   refine aw_dr 9 ty_mixed (by kernel_rfl) ?_
   refine xG ?_
   refine xF (fun hc=>?_) fun hc=>?_
   ·refine xGT hC ?_
    refine .one (.c (ler_bool ?_))
    have:xs≠ys:=fun e=>by rw [e] at hc;simp at hc
    simp [this]
   ·have he:xs.getD i 0=ys.getD i 0:=by
     by_cases e:xs.getD i 0=ys.getD i 0
     ·exact e
     ·exfalso
      exact absurd hc (by simpa using e)
    refine xG ?_
    refine aw_stop ⟨i+1,by omega,eB,zZ,by omega,fun j hj=> ?_⟩
    by_cases hji:j=i
    ·rw [hji];exact he
    ·exact hs j om
  ·have hin:i=xs.length:=dF hb
   subst hin
   refine xGT hC ?_
   refine .one (.c (ler_bool ?_))
   have:xs=ys:=list_ext hlen hs
   simp [this]
theorem ratEq_fa (a b:RD) (hw:a.wf 68719476736):Fa Tryz.prog 19 [.agg (rdc a),.agg (rdc b)] (.c (.bool (decide (a=b)))):=by
 have he:decide (a=b)=(decide (a.neg=b.neg)&&(decide (a.num=b.num)&&decide (a.den=b.den))):=by
  rw [Bool.eq_iff_iff]
  simp only [decide_eq_true_eq,Bool.and_eq_true]
  cases a;cases b;simp
 rw [he]
 refine fa_of_body Tryz.func19 rfl rfl (by simp [Tryz.ntmps19]) fun C hC=> ?_
 simp only [initS,Nat.reduceAdd]
 refine xG ?_
 refine xB fun g2 hn_g2=>?_
 refine yB hn_g2 fun g3 hn_g3=>?_
 have J1:=oj hn_g2 hn_g3
 refine yG J1 ?_
 refine aw_split 10 (zE J1) (fun h1=> ?_) (fun h1=> ?_)<;>refine yS J1 ?_
 ·have h1':a.neg=b.neg:=eq_of_beq h1
  refine yG J1 ?_
  refine yC J1 (words_fa _ _ hw.2.2.1) ?_
  refine yG J1 ?_
  refine aw_split 17 (zE J1) (fun h2=> ?_) (fun h2=> ?_)<;>refine yS J1 ?_
  ·refine yG J1 ?_
   refine yC J1 (words_fa _ _ hw.2.2.2) ?_
   refine yGT hC J1 ?_
   exact .one (.c (ler_bool (by rw [h2,h1'];simp)))
  ·refine yGT hC J1 ?_
   exact .one (.c (ler_bool (by rw [h2];simp)))
 ·have h1':a.neg≠b.neg:=fun e=>by rw [e] at h1;simp at h1
  refine yGT hC J1 ?_
  exact .one (.c (ler_bool (by simp [h1'])))
end Go.Proofs.YteocnikcjjonbaaGreat
namespace Go.AI
attribute [go_sem] List.size_toArray Int.reduceBEq Int.reduceBNe Int.reduceLT Int.reduceLE Int.reduceGT Int.reduceGE decide_true decide_false
section
variable {E : Env} {K : List It} {σ σ' : Sl} {h : Heap} {all l rest : List Oper} {o : Oper}
theorem Calm.pok {r:AV} (hw:wantA l σ o=some true) (hp:POk E.P h (ev σ) o.op r) (hd:dstOk E.N o.dst=true):Calm E h l σ o r:=by
 refine⟨hd,fun σ' a w Q hs s=> ?_⟩
 rw [if_pos (s.wanted ((want_same hs).trans hw))]
 obtain⟨v,hrun,hr⟩:=hp (Stab E.C h w) w a.eval Stab.mono' (fun x hx=>by rw [←ev_same hx hs];exact ev_rep s x) s.heap
 unfold Oper.wp
 rw [hrun o rfl]
 exact s.put hd hr
theorem drk_pok {n:Nat} {r:AV} (hp:POk E.P h (ev σ) o.op r) (hw:wantA l σ o=some true) (hd:dstOk E.N o.dst=true) (k:DrK E h l K n rest (σ.setO o.dst r)):DrK E h l K (n+1) (o::rest) σ:=drk_cons (Calm.pok hw hp hd) k
end
end Go.AI
namespace Go.PN
open Go.AI
theorem md0_o:MdO md0:=⟨Nat.zero_le _,Nat.zero_le _,⟨Nat.zero_le _,fun _ h=>by cases h⟩,⟨Nat.zero_le _,fun _ h=>by cases h⟩,⟨Nat.zero_le _,fun _ h=>by cases h⟩,⟨Nat.zero_le _,fun _ h=>by cases h⟩,⟨Nat.zero_le _,fun _ h=>by cases h⟩,⟨Nat.zero_le _,fun _ h=>by cases h⟩⟩
theorem modelP_o (ck:MdD→Int) (l:BS):MdO (modelP ck l).1:=by
 unfold modelP
 dsimp only
 split
 ·exact md0_o
 split
 ·exact md0_o
 split
 ·exact md0_o
 ·exact read_o l
end Go.PN

namespace Go.Proofs.YteocnikcjjonbaaGreat
open Go.AI Go.PN
attribute [local irreducible] aw Fa Fh DrK
theorem rats_fa (xs ys:List RD) (hw:∀i,(xs.getD i rd0).wf 68719476736) (hl:xs.length≤1099511627776) (hl2:ys.length≤1099511627776):Fa Tryz.prog 41 [.c (rats true xs),.c (rats true ys)] (.c (.bool (decide (xs=ys)))):=by
 refine fa_of_body Tryz.func41 rfl rfl (by simp [Tryz.ntmps41]) fun C hC=> ?_
 simp only [initS,Nat.reduceAdd]
 repeat' first|refine yA1 o0 ?_|(refine xW ?_;refine xS ?_)|refine xP ?_|refine xN ?_|refine aw_cd eE (fun hb=>?_) (fun hb=>?_)|refine aw_ce eE (fun hb=>?_) (fun hb=>?_)|refine aw_cn eE (fun hb=>?_) (fun hb=>?_)|(refine xF (fun hb=>?_) (fun hb=>?_)<;>fail_if_success (cases hb;done))|(refine aw_gsd rfl rfl eE (fun hb=>?_) (fun hb=>?_)<;>refine xS ?_)|(refine aw_gse rfl rfl eE (fun hb=>?_) (fun hb=>?_)<;>refine xS ?_)|(refine aw_gsn rfl rfl eE (fun hb=>?_) (fun hb=>?_)<;>refine xS ?_)|(refine aw_gs rfl rfl eE (fun hb=>?_) (fun hb=>?_)<;>fail_if_success (cases hb;done)<;>refine xS ?_)|(refine drk_gsd rfl rfl eE (fun hb=>?_) (fun hb=>?_)<;>refine xS ?_)|(refine drk_gse rfl rfl eE (fun hb=>?_) (fun hb=>?_)<;>refine xS ?_)|(refine drk_gsn rfl rfl eE (fun hb=>?_) (fun hb=>?_)<;>refine xS ?_)|(refine drk_gs rfl rfl eE (fun hb=>?_) (fun hb=>?_)<;>fail_if_success (cases hb;done)<;>refine xS ?_)
 ·refine xT hC ?_
  exact .one (.c (ler_bool (decide_eq_false fun e=>hb (by rw [e])).symm))
 have hlen:xs.length=ys.length:=by simpa using hb
 refine aw_lp (fun i:Nat=>[(0,.c (rats true xs)),(1,.c (rats true ys)),(12,.c (.int .i64 xs.length)),(13,.c (.int .i64 i))]) (fun _=>[]) (fun i=>i≤xs.length∧∀j,j<i→xs.getD j rd0=ys.getD j rd0) (fun i=>xs.length-i) 0 eB zZ ⟨Nat.zero_le _,fun j hj=>absurd hj om⟩ ?_
 rintro i ⟨hi,hs⟩
 have f1:=ratEq_fa (xs.getD i rd0) (ys.getD i rd0) (hw i)
 repeat' first|refine yA1 o0 ?_|(refine xW ?_;refine xS ?_)|refine xP ?_|refine xN ?_|refine aw_cd eE (fun hb=>?_) (fun hb=>?_)|refine aw_ce eE (fun hb=>?_) (fun hb=>?_)|refine aw_cn eE (fun hb=>?_) (fun hb=>?_)|(refine xF (fun hb=>?_) (fun hb=>?_)<;>fail_if_success (cases hb;done))|(refine aw_gsd rfl rfl eE (fun hb=>?_) (fun hb=>?_)<;>refine xS ?_)|(refine aw_gse rfl rfl eE (fun hb=>?_) (fun hb=>?_)<;>refine xS ?_)|(refine aw_gsn rfl rfl eE (fun hb=>?_) (fun hb=>?_)<;>refine xS ?_)|(refine aw_gs rfl rfl eE (fun hb=>?_) (fun hb=>?_)<;>fail_if_success (cases hb;done)<;>refine xS ?_)|(refine drk_gsd rfl rfl eE (fun hb=>?_) (fun hb=>?_)<;>refine xS ?_)|(refine drk_gse rfl rfl eE (fun hb=>?_) (fun hb=>?_)<;>refine xS ?_)|(refine drk_gsn rfl rfl eE (fun hb=>?_) (fun hb=>?_)<;>refine xS ?_)|(refine drk_gs rfl rfl eE (fun hb=>?_) (fun hb=>?_)<;>fail_if_success (cases hb;done)<;>refine xS ?_)
 ·have hi':=hb
  have hi2:i<ys.length:=by omega
  refine aw_dr 10 ty_mixed (by kernel_rfl) ?_
  repeat' first|refine yA1 o0 ?_|(refine yC2 o0 (f1) ?_)|(refine yD2 o0 (f1) ?_)|(refine xW ?_;refine xS ?_)|refine xP ?_|refine xN ?_|refine aw_cd eE (fun hb=>?_) (fun hb=>?_)|refine aw_ce eE (fun hb=>?_) (fun hb=>?_)|refine aw_cn eE (fun hb=>?_) (fun hb=>?_)|(refine xF (fun hb=>?_) (fun hb=>?_)<;>fail_if_success (cases hb;done))|(refine aw_gsd rfl rfl eE (fun hb=>?_) (fun hb=>?_)<;>refine xS ?_)|(refine aw_gse rfl rfl eE (fun hb=>?_) (fun hb=>?_)<;>refine xS ?_)|(refine aw_gsn rfl rfl eE (fun hb=>?_) (fun hb=>?_)<;>refine xS ?_)|(refine aw_gs rfl rfl eE (fun hb=>?_) (fun hb=>?_)<;>fail_if_success (cases hb;done)<;>refine xS ?_)|(refine drk_gsd rfl rfl eE (fun hb=>?_) (fun hb=>?_)<;>refine xS ?_)|(refine drk_gse rfl rfl eE (fun hb=>?_) (fun hb=>?_)<;>refine xS ?_)|(refine drk_gsn rfl rfl eE (fun hb=>?_) (fun hb=>?_)<;>refine xS ?_)|(refine drk_gs rfl rfl eE (fun hb=>?_) (fun hb=>?_)<;>fail_if_success (cases hb;done)<;>refine xS ?_)
  ·refine xT hC ?_
   exact .one (.c (ler_bool (decide_eq_false fun e=>by rw [e] at hb;simp at hb).symm))
  ·refine aw_stop ⟨i+1,?_⟩
   have hs2:=pre_succ hs (by simpa using hb)
   and_intros
   all_goals first|rfl|exact List.Sublist.refl _|exact True.intro|exact hs2|omega
 ·refine xT hC ?_
  exact .one (.c (ler_bool (decide_eq_true (getD_ext rd0 hlen fun j hj=>hs j om)).symm))
theorem sameGates_fa (xs ys:List GtD) (hw:∀i,(xs.getD i gt0).dorm.wf 68719476736∧(xs.getD i gt0).inputs.length≤1099511627776∧(ys.getD i gt0).inputs.length≤1099511627776) (hl:xs.length≤1099511627776) (hl2:ys.length≤1099511627776):Fa Tryz.prog 40 [.c (gts true xs),.c (gts true ys)] (.c (.bool (decide (xs=ys)))):=by
 refine fa_of_body Tryz.func40 rfl rfl (by simp [Tryz.ntmps40]) fun C hC=> ?_
 simp only [initS,Nat.reduceAdd]
 repeat' first|refine yA1 o0 ?_|(refine xW ?_;refine xS ?_)|refine xP ?_|refine xN ?_|refine aw_cd eE (fun hb=>?_) (fun hb=>?_)|refine aw_ce eE (fun hb=>?_) (fun hb=>?_)|refine aw_cn eE (fun hb=>?_) (fun hb=>?_)|(refine xF (fun hb=>?_) (fun hb=>?_)<;>fail_if_success (cases hb;done))|(refine aw_gsd rfl rfl eE (fun hb=>?_) (fun hb=>?_)<;>refine xS ?_)|(refine aw_gse rfl rfl eE (fun hb=>?_) (fun hb=>?_)<;>refine xS ?_)|(refine aw_gsn rfl rfl eE (fun hb=>?_) (fun hb=>?_)<;>refine xS ?_)|(refine aw_gs rfl rfl eE (fun hb=>?_) (fun hb=>?_)<;>fail_if_success (cases hb;done)<;>refine xS ?_)|(refine drk_gsd rfl rfl eE (fun hb=>?_) (fun hb=>?_)<;>refine xS ?_)|(refine drk_gse rfl rfl eE (fun hb=>?_) (fun hb=>?_)<;>refine xS ?_)|(refine drk_gsn rfl rfl eE (fun hb=>?_) (fun hb=>?_)<;>refine xS ?_)|(refine drk_gs rfl rfl eE (fun hb=>?_) (fun hb=>?_)<;>fail_if_success (cases hb;done)<;>refine xS ?_)
 ·refine xT hC ?_
  exact .one (.c (ler_bool (decide_eq_false fun e=>hb (by rw [e])).symm))
 have hlen:xs.length=ys.length:=by simpa using hb
 refine aw_lp (fun i:Nat=>[(13,.c (gts true xs)),(1,.c (gts true ys)),(14,.c (.int .i64 xs.length)),(15,.c (.int .i64 i))]) (fun _=>[]) (fun i=>i≤xs.length∧∀j,j<i→xs.getD j gt0=ys.getD j gt0) (fun i=>xs.length-i) 0 eB zZ ⟨Nat.zero_le _,fun j hj=>absurd hj om⟩ ?_
 rintro i ⟨hi,hs⟩
 obtain⟨w1,w2,w3⟩:=hw i
 repeat' first|refine yA1 o0 ?_|(refine xW ?_;refine xS ?_)|refine xP ?_|refine xN ?_|refine aw_cd eE (fun hb=>?_) (fun hb=>?_)|refine aw_ce eE (fun hb=>?_) (fun hb=>?_)|refine aw_cn eE (fun hb=>?_) (fun hb=>?_)|(refine xF (fun hb=>?_) (fun hb=>?_)<;>fail_if_success (cases hb;done))|(refine aw_gsd rfl rfl eE (fun hb=>?_) (fun hb=>?_)<;>refine xS ?_)|(refine aw_gse rfl rfl eE (fun hb=>?_) (fun hb=>?_)<;>refine xS ?_)|(refine aw_gsn rfl rfl eE (fun hb=>?_) (fun hb=>?_)<;>refine xS ?_)|(refine aw_gs rfl rfl eE (fun hb=>?_) (fun hb=>?_)<;>fail_if_success (cases hb;done)<;>refine xS ?_)|(refine drk_gsd rfl rfl eE (fun hb=>?_) (fun hb=>?_)<;>refine xS ?_)|(refine drk_gse rfl rfl eE (fun hb=>?_) (fun hb=>?_)<;>refine xS ?_)|(refine drk_gsn rfl rfl eE (fun hb=>?_) (fun hb=>?_)<;>refine xS ?_)|(refine drk_gs rfl rfl eE (fun hb=>?_) (fun hb=>?_)<;>fail_if_success (cases hb;done)<;>refine xS ?_)
 ·have hi':=hb
  have hi2:i<ys.length:=by omega
  have hne:xs.getD i gt0≠ys.getD i gt0→decide (xs=ys)=false:=fun h=>decide_eq_false fun e=>h (by rw [e])
  have hs2:=fun h=>pre_succ (d:=gt0) hs h
  refine xA fun g6 hn_g6=>?_
  repeat' first|refine yA1 hn_g6 ?_|(refine yW hn_g6 ?_;refine yS hn_g6 ?_)|refine yP hn_g6 ?_|refine yN hn_g6 ?_|refine aw_cd (zE hn_g6) (fun hb=>?_) (fun hb=>?_)|refine aw_ce (zE hn_g6) (fun hb=>?_) (fun hb=>?_)|refine aw_cn (zE hn_g6) (fun hb=>?_) (fun hb=>?_)|(refine yF hn_g6 (fun hb=>?_) (fun hb=>?_)<;>fail_if_success (cases hb;done))|(refine aw_gsd rfl rfl (zE hn_g6) (fun hb=>?_) (fun hb=>?_)<;>refine yS hn_g6 ?_)|(refine aw_gse rfl rfl (zE hn_g6) (fun hb=>?_) (fun hb=>?_)<;>refine yS hn_g6 ?_)|(refine aw_gsn rfl rfl (zE hn_g6) (fun hb=>?_) (fun hb=>?_)<;>refine yS hn_g6 ?_)|(refine aw_gs rfl rfl (zE hn_g6) (fun hb=>?_) (fun hb=>?_)<;>fail_if_success (cases hb;done)<;>refine yS hn_g6 ?_)|(refine drk_gsd rfl rfl (zE hn_g6) (fun hb=>?_) (fun hb=>?_)<;>refine yS hn_g6 ?_)|(refine drk_gse rfl rfl (zE hn_g6) (fun hb=>?_) (fun hb=>?_)<;>refine yS hn_g6 ?_)|(refine drk_gsn rfl rfl (zE hn_g6) (fun hb=>?_) (fun hb=>?_)<;>refine yS hn_g6 ?_)|(refine drk_gs rfl rfl (zE hn_g6) (fun hb=>?_) (fun hb=>?_)<;>fail_if_success (cases hb;done)<;>refine yS hn_g6 ?_)
  refine yA hn_g6 fun g7 hn_g7=>?_
  generalize xs.getD i gt0=x at*
  generalize ys.getD i gt0=y at*
  have f1:=texts_fa x.inputs y.inputs w2 w3
  have f2:=ratEq_fa x.dorm y.dorm w1
  obtain⟨xn,xk,xv,xi,xd⟩:=x
  obtain⟨yn,yk,yv,yi,yd⟩:=y
  dsimp only at*
  repeat' first|refine yA1 (oj hn_g6 hn_g7) ?_|(refine yC2 (oj hn_g6 hn_g7) (f1) ?_)|(refine yD2 (oj hn_g6 hn_g7) (f1) ?_)|(refine yC2 (oj hn_g6 hn_g7) (f2) ?_)|(refine yD2 (oj hn_g6 hn_g7) (f2) ?_)|(refine yW (oj hn_g6 hn_g7) ?_;refine yS (oj hn_g6 hn_g7) ?_)|refine yP (oj hn_g6 hn_g7) ?_|refine yN (oj hn_g6 hn_g7) ?_|refine aw_cd (zE (oj hn_g6 hn_g7)) (fun hb=>?_) (fun hb=>?_)|refine aw_ce (zE (oj hn_g6 hn_g7)) (fun hb=>?_) (fun hb=>?_)|refine aw_cn (zE (oj hn_g6 hn_g7)) (fun hb=>?_) (fun hb=>?_)|(refine yF (oj hn_g6 hn_g7) (fun hb=>?_) (fun hb=>?_)<;>fail_if_success (cases hb;done))|(refine aw_gsd rfl rfl (zE (oj hn_g6 hn_g7)) (fun hb=>?_) (fun hb=>?_)<;>refine yS (oj hn_g6 hn_g7) ?_)|(refine aw_gse rfl rfl (zE (oj hn_g6 hn_g7)) (fun hb=>?_) (fun hb=>?_)<;>refine yS (oj hn_g6 hn_g7) ?_)|(refine aw_gsn rfl rfl (zE (oj hn_g6 hn_g7)) (fun hb=>?_) (fun hb=>?_)<;>refine yS (oj hn_g6 hn_g7) ?_)|(refine aw_gs rfl rfl (zE (oj hn_g6 hn_g7)) (fun hb=>?_) (fun hb=>?_)<;>fail_if_success (cases hb;done)<;>refine yS (oj hn_g6 hn_g7) ?_)|(refine drk_gsd rfl rfl (zE (oj hn_g6 hn_g7)) (fun hb=>?_) (fun hb=>?_)<;>refine yS (oj hn_g6 hn_g7) ?_)|(refine drk_gse rfl rfl (zE (oj hn_g6 hn_g7)) (fun hb=>?_) (fun hb=>?_)<;>refine yS (oj hn_g6 hn_g7) ?_)|(refine drk_gsn rfl rfl (zE (oj hn_g6 hn_g7)) (fun hb=>?_) (fun hb=>?_)<;>refine yS (oj hn_g6 hn_g7) ?_)|(refine drk_gs rfl rfl (zE (oj hn_g6 hn_g7)) (fun hb=>?_) (fun hb=>?_)<;>fail_if_success (cases hb;done)<;>refine yS (oj hn_g6 hn_g7) ?_)
  all_goals clear f1 f2
  all_goals first
   |(refine yT hC (oj hn_g6 hn_g7) ?_
     exact .one (.c (ler_bool (hne (by simp_all)).symm)))
   |(refine aw_stop ⟨i+1,?_⟩
     have hs3:=hs2 (by simp_all)
     and_intros
     all_goals first|rfl|exact List.nil_sublist _|exact True.intro|exact hs3|omega)
 ·refine xT hC ?_
  exact .one (.c (ler_bool (decide_eq_true (getD_ext gt0 hlen fun j hj=>hs j om)).symm))
end Go.Proofs.YteocnikcjjonbaaGreat
namespace Go.AI
open Go.PN
section
variable {P : Program} {h : Heap} {ρ : Operand → AV}
def isStg (P:Program) (t:TypeId):Bool:=match P.underlying t with
 |some .string=>true
 |_=>false
theorem isStg_spec {t:TypeId} (h:isStg P t=true):P.underlying t=some .string:=by
 unfold isStg at h
 split at h
 ·assumption
 ·cases h
def isBl (P:Program) (t:TypeId):Bool:=match P.underlying t with
 |some .bool=>true
 |_=>false
theorem isBl_spec {t:TypeId} (h:isBl P t=true):P.underlying t=some .bool:=by
 unfold isBl at h
 split at h
 ·assumption
 ·cases h
def tSB (P:Program) (t:TypeId):Bool:= !P.stoodInHeld t&& !P.eqGuardType P.depth t&&isStr P t&&(match (P.fieldsOf t).toList with
 |[f,g]=>f.name != "_" &&g.name != "_" &&f.offset==0&&g.offset==1&&isStg P f.type&&isBl P g.type
 |_=>false)
theorem tSB_run {t:TypeId} (ht:tSB P t=true) (a c:BS) (b d:Bool) (w:World):(Op.equalIn 10000 t (.agg #[.string (sB a),.bool b]) (.agg #[.string (sB c),.bool d])).run P w=.ok (decide (a=c∧b=d)) w∧P.eqGuardType P.depth t=false:=by
 unfold tSB at ht
 simp only [Bool.and_eq_true,Bool.not_eq_true'] at ht
 obtain⟨⟨⟨h1,h2⟩,h4⟩,h3⟩:=ht
 refine⟨?_,h2⟩
 have hu:=isStr_spec h4
 rw [show(10000:Nat)=9999+1 from rfl,run_equalIn_agg w 9999 t _ _ hu h1]
 split at h3
 ·rename_i f g hfg
  rw [hfg]
  simp only [Bool.and_eq_true,bne_iff_ne,ne_eq,beq_iff_eq] at h3
  obtain⟨⟨⟨⟨⟨n1,n2⟩,o1⟩,o2⟩,u1⟩,u2⟩:=h3
  have u1:=isStg_spec u1
  have u2:=isBl_spec u2
  have g1:(isAgg f.type).run P w=.ok false w:=by simp [isAgg,run_underlying u1]
  have g2:(isAgg g.type).run P w=.ok false w:=by simp [isAgg,run_underlying u2]
  have p1:∀s x,(part f.type #[.string s,.bool x] f.offset).run P w=.ok (.string s) w:=fun s x=>by
   unfold part
   simp only [Sem.run_bind,g1,Result.andThen_ok,Bool.false_eq_true,if_false,o1]
   rfl
  have p2:∀s x,(part g.type #[.string s,.bool x] g.offset).run P w=.ok (.bool x) w:=fun s x=>by
   unfold part
   simp only [Sem.run_bind,g2,Result.andThen_ok,Bool.false_eq_true,if_false,o2]
   rfl
  have e1:(Op.equalIn 9999 f.type (.string (sB a)) (.string (sB c))).run P w=.ok ((sB a).toList==(sB c).toList) w:=run_equalIn_string w 9998 f.type _ _ u1
  have e2:(Op.equalIn 9999 g.type (.bool b) (.bool d)).run P w=.ok (b==d) w:=run_equalIn_bool' w 9998 g.type _ _ u2
  have hs:((sB a).toList==(sB c).toList)=decide (a=c):=by
   have:=sb_strEq a c
   unfold strEq at this
   rw [show sB a=⟨a.toArray⟩ from rfl,show sB c=⟨c.toArray⟩ from rfl,this,Bool.eq_iff_iff];simp
  simp only [Op.eqFields,n1,n2,not_false_eq_true,if_true,Sem.run_bind,p1,p2,e1,e2,Result.andThen_ok,hs,ne_eq]
  by_cases hac:a=c
  ·subst hac
   by_cases hbd:b=d
   ·subst hbd;simp [p2,e2]
   ·have:(b==d)=false:=by simpa using hbd
    simp [p2,e2,hbd,this]
  ·simp [hac]
 ·cases h3
theorem POk.neqSB {t t':TypeId} {x y:Operand} {a c:BS} {b d:Bool} (hx:ρ x=.agg [.str (sB a),.bool b]) (hy:ρ y=.agg [.str (sB c),.bool d]) (ht:tSB P t=true):POk P h ρ (.binOp .neq t x y t') (.c (.bool (!decide (a=c∧b=d)))):=fun S w e _ ho _=>by
 have h1:=ho x (by simp [Op.operands])
 have h2:=ho y (by simp [Op.operands])
 rw [hx] at h1
 rw [hy] at h2
 obtain⟨us,hu,hru⟩:=h1
 obtain⟨vs,hv,hrv⟩:=h2
 obtain⟨r1,r2⟩:=tSB_run ht a c b d w
 have k1:us=[.string (sB a),.bool b]:=by
  match us,hru with
  |[p,q],⟨q1,q2,_⟩=>rw [show p=_ from q1,show q=_ from q2]
 have k2:vs=[.string (sB c),.bool d]:=by
  match vs,hrv with
  |[p,q],⟨q1,q2,_⟩=>rw [show p=_ from q1,show q=_ from q2]
 subst k1 k2
 refine⟨.bool (!decide (a=c∧b=d)),fun o hop=>exec_bin hop ?_ ?_,rfl⟩
 ·rw [hu,hv];exact run_eqGuard_agg w _ _ _ _ _ _ r2
 ·rw [hu,hv,run_neq_struct,r1];rfl
end
end Go.AI
namespace Go.PN
open Go.AI
theorem dec_f {p:Prop} [Decidable p] (h:¬p):false=decide p:=(decide_eq_false h).symm
theorem dec_t {p:Prop} [Decidable p] (h:p):true=decide p:=(decide_eq_true h).symm
end Go.PN
namespace Go.Proofs.YteocnikcjjonbaaGreat
open Go.AI Go.PN
attribute [local irreducible] aw Fa Fh DrK
theorem sameParts_fa (a b:MdD) (ha:MdO a) (hbb:MdO b):Fa Tryz.prog 39 [.agg (mdc true a),.agg (mdc true b)] (.c (.bool (decide (a.events=b.events∧a.houses=b.houses∧a.pages=b.pages)))):=by
 have a1:=ha.ok
 have a2:=hbb.ok
 have b1:=a1.ev
 have b2:=a1.hs
 have b3:=a1.pg
 have b4:=a2.ev
 have b5:=a2.hs
 have b6:=a2.pg
 refine fa_of_body Tryz.func39 rfl rfl (by simp [Tryz.ntmps39]) fun C hC=> ?_
 simp only [initS,Nat.reduceAdd]
 repeat' first|refine yA1 o0 ?_|(refine xW ?_;refine xS ?_)|refine xP ?_|refine xN ?_|refine aw_cd eE (fun hb=>?_) (fun hb=>?_)|refine aw_ce eE (fun hb=>?_) (fun hb=>?_)|refine aw_cn eE (fun hb=>?_) (fun hb=>?_)|(refine xF (fun hb=>?_) (fun hb=>?_)<;>fail_if_success (cases hb;done))|(refine aw_gsd rfl rfl eE (fun hb=>?_) (fun hb=>?_)<;>refine xS ?_)|(refine aw_gse rfl rfl eE (fun hb=>?_) (fun hb=>?_)<;>refine xS ?_)|(refine aw_gsn rfl rfl eE (fun hb=>?_) (fun hb=>?_)<;>refine xS ?_)|(refine aw_gs rfl rfl eE (fun hb=>?_) (fun hb=>?_)<;>fail_if_success (cases hb;done)<;>refine xS ?_)|(refine drk_gsd rfl rfl eE (fun hb=>?_) (fun hb=>?_)<;>refine xS ?_)|(refine drk_gse rfl rfl eE (fun hb=>?_) (fun hb=>?_)<;>refine xS ?_)|(refine drk_gsn rfl rfl eE (fun hb=>?_) (fun hb=>?_)<;>refine xS ?_)|(refine drk_gs rfl rfl eE (fun hb=>?_) (fun hb=>?_)<;>fail_if_success (cases hb;done)<;>refine xS ?_)
 refine xB fun g2 hn_g2=>?_
 repeat' first|refine yA1 hn_g2 ?_|(refine yW hn_g2 ?_;refine yS hn_g2 ?_)|refine yP hn_g2 ?_|refine yN hn_g2 ?_|refine aw_cd (zE hn_g2) (fun hb=>?_) (fun hb=>?_)|refine aw_ce (zE hn_g2) (fun hb=>?_) (fun hb=>?_)|refine aw_cn (zE hn_g2) (fun hb=>?_) (fun hb=>?_)|(refine yF hn_g2 (fun hb=>?_) (fun hb=>?_)<;>fail_if_success (cases hb;done))|(refine aw_gsd rfl rfl (zE hn_g2) (fun hb=>?_) (fun hb=>?_)<;>refine yS hn_g2 ?_)|(refine aw_gse rfl rfl (zE hn_g2) (fun hb=>?_) (fun hb=>?_)<;>refine yS hn_g2 ?_)|(refine aw_gsn rfl rfl (zE hn_g2) (fun hb=>?_) (fun hb=>?_)<;>refine yS hn_g2 ?_)|(refine aw_gs rfl rfl (zE hn_g2) (fun hb=>?_) (fun hb=>?_)<;>fail_if_success (cases hb;done)<;>refine yS hn_g2 ?_)|(refine drk_gsd rfl rfl (zE hn_g2) (fun hb=>?_) (fun hb=>?_)<;>refine yS hn_g2 ?_)|(refine drk_gse rfl rfl (zE hn_g2) (fun hb=>?_) (fun hb=>?_)<;>refine yS hn_g2 ?_)|(refine drk_gsn rfl rfl (zE hn_g2) (fun hb=>?_) (fun hb=>?_)<;>refine yS hn_g2 ?_)|(refine drk_gs rfl rfl (zE hn_g2) (fun hb=>?_) (fun hb=>?_)<;>fail_if_success (cases hb;done)<;>refine yS hn_g2 ?_)
 refine yB hn_g2 fun g3 hn_g3=>?_
 repeat' first|refine yA1 (oj hn_g2 hn_g3) ?_|(refine yW (oj hn_g2 hn_g3) ?_;refine yS (oj hn_g2 hn_g3) ?_)|refine yP (oj hn_g2 hn_g3) ?_|refine yN (oj hn_g2 hn_g3) ?_|refine aw_cd (zE (oj hn_g2 hn_g3)) (fun hb=>?_) (fun hb=>?_)|refine aw_ce (zE (oj hn_g2 hn_g3)) (fun hb=>?_) (fun hb=>?_)|refine aw_cn (zE (oj hn_g2 hn_g3)) (fun hb=>?_) (fun hb=>?_)|(refine yF (oj hn_g2 hn_g3) (fun hb=>?_) (fun hb=>?_)<;>fail_if_success (cases hb;done))|(refine aw_gsd rfl rfl (zE (oj hn_g2 hn_g3)) (fun hb=>?_) (fun hb=>?_)<;>refine yS (oj hn_g2 hn_g3) ?_)|(refine aw_gse rfl rfl (zE (oj hn_g2 hn_g3)) (fun hb=>?_) (fun hb=>?_)<;>refine yS (oj hn_g2 hn_g3) ?_)|(refine aw_gsn rfl rfl (zE (oj hn_g2 hn_g3)) (fun hb=>?_) (fun hb=>?_)<;>refine yS (oj hn_g2 hn_g3) ?_)|(refine aw_gs rfl rfl (zE (oj hn_g2 hn_g3)) (fun hb=>?_) (fun hb=>?_)<;>fail_if_success (cases hb;done)<;>refine yS (oj hn_g2 hn_g3) ?_)|(refine drk_gsd rfl rfl (zE (oj hn_g2 hn_g3)) (fun hb=>?_) (fun hb=>?_)<;>refine yS (oj hn_g2 hn_g3) ?_)|(refine drk_gse rfl rfl (zE (oj hn_g2 hn_g3)) (fun hb=>?_) (fun hb=>?_)<;>refine yS (oj hn_g2 hn_g3) ?_)|(refine drk_gsn rfl rfl (zE (oj hn_g2 hn_g3)) (fun hb=>?_) (fun hb=>?_)<;>refine yS (oj hn_g2 hn_g3) ?_)|(refine drk_gs rfl rfl (zE (oj hn_g2 hn_g3)) (fun hb=>?_) (fun hb=>?_)<;>fail_if_success (cases hb;done)<;>refine yS (oj hn_g2 hn_g3) ?_)
 ·refine yT hC (oj hn_g2 hn_g3) ?_
  exact .one (.c (ler_bool (dec_f fun e=>hb (by rw [e.1]))))
 ·refine yT hC (oj hn_g2 hn_g3) ?_
  exact .one (.c (ler_bool (dec_f fun e=>hb (by rw [e.2.1]))))
 ·refine yT hC (oj hn_g2 hn_g3) ?_
  exact .one (.c (ler_bool (dec_f fun e=>hb (by rw [e.2.2]))))
 rename_i l1 l2
 have l3:a.pages.length=b.pages.length:=by simpa using hb
 clear hb
 have wv:=fun i=>getD_all ha.ev.2 ev0_o i
 have wg:=ha.pgi
 have wh:=hbb.pgi
 refine aw_lp (fun i:Nat=>[(2,.c (.optr g2 0)),(3,.c (.optr g3 0)),(38,.c (evs true a.events)),(39,.c (.int .i64 a.events.length)),(40,.c (.int .i64 i))]) (fun _=>[(g3,.cells 30 8 (ofL (mdc true b))),(g2,.cells 30 8 (ofL (mdc true a)))]) (fun i=>i≤a.events.length∧∀j,j<i→a.events.getD j ev0=b.events.getD j ev0) (fun i=>a.events.length-i) 0 (zB (oj hn_g2 hn_g3)) zZ ⟨Nat.zero_le _,fun j hj=>absurd hj om⟩ ?_
 rintro i ⟨hi,hs⟩
 repeat' first|refine yA1 (oj hn_g2 hn_g3) ?_|(refine yW (oj hn_g2 hn_g3) ?_;refine yS (oj hn_g2 hn_g3) ?_)|refine yP (oj hn_g2 hn_g3) ?_|refine yN (oj hn_g2 hn_g3) ?_|refine aw_cd (zE (oj hn_g2 hn_g3)) (fun hb=>?_) (fun hb=>?_)|refine aw_ce (zE (oj hn_g2 hn_g3)) (fun hb=>?_) (fun hb=>?_)|refine aw_cn (zE (oj hn_g2 hn_g3)) (fun hb=>?_) (fun hb=>?_)|(refine yF (oj hn_g2 hn_g3) (fun hb=>?_) (fun hb=>?_)<;>fail_if_success (cases hb;done))|(refine aw_gsd rfl rfl (zE (oj hn_g2 hn_g3)) (fun hb=>?_) (fun hb=>?_)<;>refine yS (oj hn_g2 hn_g3) ?_)|(refine aw_gse rfl rfl (zE (oj hn_g2 hn_g3)) (fun hb=>?_) (fun hb=>?_)<;>refine yS (oj hn_g2 hn_g3) ?_)|(refine aw_gsn rfl rfl (zE (oj hn_g2 hn_g3)) (fun hb=>?_) (fun hb=>?_)<;>refine yS (oj hn_g2 hn_g3) ?_)|(refine aw_gs rfl rfl (zE (oj hn_g2 hn_g3)) (fun hb=>?_) (fun hb=>?_)<;>fail_if_success (cases hb;done)<;>refine yS (oj hn_g2 hn_g3) ?_)|(refine drk_gsd rfl rfl (zE (oj hn_g2 hn_g3)) (fun hb=>?_) (fun hb=>?_)<;>refine yS (oj hn_g2 hn_g3) ?_)|(refine drk_gse rfl rfl (zE (oj hn_g2 hn_g3)) (fun hb=>?_) (fun hb=>?_)<;>refine yS (oj hn_g2 hn_g3) ?_)|(refine drk_gsn rfl rfl (zE (oj hn_g2 hn_g3)) (fun hb=>?_) (fun hb=>?_)<;>refine yS (oj hn_g2 hn_g3) ?_)|(refine drk_gs rfl rfl (zE (oj hn_g2 hn_g3)) (fun hb=>?_) (fun hb=>?_)<;>fail_if_success (cases hb;done)<;>refine yS (oj hn_g2 hn_g3) ?_)
 ·have hi':=hb
  have hi2:i<b.events.length:=by omega
  have hne:a.events.getD i ev0≠b.events.getD i ev0→decide (a.events=b.events∧a.houses=b.houses∧a.pages=b.pages)=false:=fun h=>decide_eq_false fun e=>h (by rw [e.1])
  have hs2:=fun h=>pre_succ (d:=ev0) hs h
  obtain⟨_,w1,w2,w3⟩:=wv i
  refine yA (oj hn_g2 hn_g3) fun g6 hn_g6=>?_
  repeat' first|refine yA1 (oj hn_g2 (oj hn_g3 hn_g6)) ?_|(refine yW (oj hn_g2 (oj hn_g3 hn_g6)) ?_;refine yS (oj hn_g2 (oj hn_g3 hn_g6)) ?_)|refine yP (oj hn_g2 (oj hn_g3 hn_g6)) ?_|refine yN (oj hn_g2 (oj hn_g3 hn_g6)) ?_|refine aw_cd (zE (oj hn_g2 (oj hn_g3 hn_g6))) (fun hb=>?_) (fun hb=>?_)|refine aw_ce (zE (oj hn_g2 (oj hn_g3 hn_g6))) (fun hb=>?_) (fun hb=>?_)|refine aw_cn (zE (oj hn_g2 (oj hn_g3 hn_g6))) (fun hb=>?_) (fun hb=>?_)|(refine yF (oj hn_g2 (oj hn_g3 hn_g6)) (fun hb=>?_) (fun hb=>?_)<;>fail_if_success (cases hb;done))|(refine aw_gsd rfl rfl (zE (oj hn_g2 (oj hn_g3 hn_g6))) (fun hb=>?_) (fun hb=>?_)<;>refine yS (oj hn_g2 (oj hn_g3 hn_g6)) ?_)|(refine aw_gse rfl rfl (zE (oj hn_g2 (oj hn_g3 hn_g6))) (fun hb=>?_) (fun hb=>?_)<;>refine yS (oj hn_g2 (oj hn_g3 hn_g6)) ?_)|(refine aw_gsn rfl rfl (zE (oj hn_g2 (oj hn_g3 hn_g6))) (fun hb=>?_) (fun hb=>?_)<;>refine yS (oj hn_g2 (oj hn_g3 hn_g6)) ?_)|(refine aw_gs rfl rfl (zE (oj hn_g2 (oj hn_g3 hn_g6))) (fun hb=>?_) (fun hb=>?_)<;>fail_if_success (cases hb;done)<;>refine yS (oj hn_g2 (oj hn_g3 hn_g6)) ?_)|(refine drk_gsd rfl rfl (zE (oj hn_g2 (oj hn_g3 hn_g6))) (fun hb=>?_) (fun hb=>?_)<;>refine yS (oj hn_g2 (oj hn_g3 hn_g6)) ?_)|(refine drk_gse rfl rfl (zE (oj hn_g2 (oj hn_g3 hn_g6))) (fun hb=>?_) (fun hb=>?_)<;>refine yS (oj hn_g2 (oj hn_g3 hn_g6)) ?_)|(refine drk_gsn rfl rfl (zE (oj hn_g2 (oj hn_g3 hn_g6))) (fun hb=>?_) (fun hb=>?_)<;>refine yS (oj hn_g2 (oj hn_g3 hn_g6)) ?_)|(refine drk_gs rfl rfl (zE (oj hn_g2 (oj hn_g3 hn_g6))) (fun hb=>?_) (fun hb=>?_)<;>fail_if_success (cases hb;done)<;>refine yS (oj hn_g2 (oj hn_g3 hn_g6)) ?_)
  refine yA (oj hn_g2 (oj hn_g3 hn_g6)) fun g7 hn_g7=>?_
  generalize a.events.getD i ev0=x at*
  generalize b.events.getD i ev0=y at*
  have f1:=ratEq_fa x.p y.p (wf_mono w1 (by decide))
  have f2:=ratEq_fa x.fail y.fail (wf_mono w2 (by decide))
  have f3:=ratEq_fa x.rep y.rep (wf_mono w3 (by decide))
  obtain⟨xn,xp,xf,xr,xc⟩:=x
  obtain⟨yn,yp,yf,yr,yc⟩:=y
  dsimp only at*
  repeat' first|refine yA1 (oj hn_g2 (oj hn_g3 (oj hn_g6 hn_g7))) ?_|(refine yC2 (oj hn_g2 (oj hn_g3 (oj hn_g6 hn_g7))) (f1) ?_)|(refine yD2 (oj hn_g2 (oj hn_g3 (oj hn_g6 hn_g7))) (f1) ?_)|(refine yC2 (oj hn_g2 (oj hn_g3 (oj hn_g6 hn_g7))) (f2) ?_)|(refine yD2 (oj hn_g2 (oj hn_g3 (oj hn_g6 hn_g7))) (f2) ?_)|(refine yC2 (oj hn_g2 (oj hn_g3 (oj hn_g6 hn_g7))) (f3) ?_)|(refine yD2 (oj hn_g2 (oj hn_g3 (oj hn_g6 hn_g7))) (f3) ?_)|(refine yW (oj hn_g2 (oj hn_g3 (oj hn_g6 hn_g7))) ?_;refine yS (oj hn_g2 (oj hn_g3 (oj hn_g6 hn_g7))) ?_)|refine yP (oj hn_g2 (oj hn_g3 (oj hn_g6 hn_g7))) ?_|refine yN (oj hn_g2 (oj hn_g3 (oj hn_g6 hn_g7))) ?_|refine aw_cd (zE (oj hn_g2 (oj hn_g3 (oj hn_g6 hn_g7)))) (fun hb=>?_) (fun hb=>?_)|refine aw_ce (zE (oj hn_g2 (oj hn_g3 (oj hn_g6 hn_g7)))) (fun hb=>?_) (fun hb=>?_)|refine aw_cn (zE (oj hn_g2 (oj hn_g3 (oj hn_g6 hn_g7)))) (fun hb=>?_) (fun hb=>?_)|(refine yF (oj hn_g2 (oj hn_g3 (oj hn_g6 hn_g7))) (fun hb=>?_) (fun hb=>?_)<;>fail_if_success (cases hb;done))|(refine aw_gsd rfl rfl (zE (oj hn_g2 (oj hn_g3 (oj hn_g6 hn_g7)))) (fun hb=>?_) (fun hb=>?_)<;>refine yS (oj hn_g2 (oj hn_g3 (oj hn_g6 hn_g7))) ?_)|(refine aw_gse rfl rfl (zE (oj hn_g2 (oj hn_g3 (oj hn_g6 hn_g7)))) (fun hb=>?_) (fun hb=>?_)<;>refine yS (oj hn_g2 (oj hn_g3 (oj hn_g6 hn_g7))) ?_)|(refine aw_gsn rfl rfl (zE (oj hn_g2 (oj hn_g3 (oj hn_g6 hn_g7)))) (fun hb=>?_) (fun hb=>?_)<;>refine yS (oj hn_g2 (oj hn_g3 (oj hn_g6 hn_g7))) ?_)|(refine aw_gs rfl rfl (zE (oj hn_g2 (oj hn_g3 (oj hn_g6 hn_g7)))) (fun hb=>?_) (fun hb=>?_)<;>fail_if_success (cases hb;done)<;>refine yS (oj hn_g2 (oj hn_g3 (oj hn_g6 hn_g7))) ?_)|(refine drk_gsd rfl rfl (zE (oj hn_g2 (oj hn_g3 (oj hn_g6 hn_g7)))) (fun hb=>?_) (fun hb=>?_)<;>refine yS (oj hn_g2 (oj hn_g3 (oj hn_g6 hn_g7))) ?_)|(refine drk_gse rfl rfl (zE (oj hn_g2 (oj hn_g3 (oj hn_g6 hn_g7)))) (fun hb=>?_) (fun hb=>?_)<;>refine yS (oj hn_g2 (oj hn_g3 (oj hn_g6 hn_g7))) ?_)|(refine drk_gsn rfl rfl (zE (oj hn_g2 (oj hn_g3 (oj hn_g6 hn_g7)))) (fun hb=>?_) (fun hb=>?_)<;>refine yS (oj hn_g2 (oj hn_g3 (oj hn_g6 hn_g7))) ?_)|(refine drk_gs rfl rfl (zE (oj hn_g2 (oj hn_g3 (oj hn_g6 hn_g7)))) (fun hb=>?_) (fun hb=>?_)<;>fail_if_success (cases hb;done)<;>refine yS (oj hn_g2 (oj hn_g3 (oj hn_g6 hn_g7))) ?_)
  all_goals clear f1 f2 f3
  all_goals first
   |(refine yT hC (oj hn_g2 (oj hn_g3 (oj hn_g6 hn_g7))) ?_
     exact .one (.c (ler_bool (hne (by simp_all)).symm)))
   |(refine aw_stop ⟨i+1,?_⟩
     have hs3:=hs2 (by simp_all)
     and_intros
     all_goals first|rfl|exact .cons _ (.cons _ (.refl _))|exact True.intro|exact hs3|omega)
 have e1:a.events=b.events:=getD_ext ev0 l1 fun j hj=>hs j om
 clear hs hi hb
 refine aw_lp (fun i:Nat=>[(2,.c (.optr g2 0)),(3,.c (.optr g3 0)),(89,.c (.int .i64 a.houses.length)),(90,.c (.int .i64 i))]) (fun _=>[(g3,.cells 30 8 (ofL (mdc true b))),(g2,.cells 30 8 (ofL (mdc true a)))]) (fun i=>i≤a.houses.length∧∀j,j<i→a.houses.getD j hs0=b.houses.getD j hs0) (fun i=>a.houses.length-i) 0 (zB (oj hn_g2 hn_g3)) zZ ⟨Nat.zero_le _,fun j hj=>absurd hj om⟩ ?_
 rintro i ⟨hi,hs⟩
 repeat' first|refine yA1 (oj hn_g2 hn_g3) ?_|(refine yW (oj hn_g2 hn_g3) ?_;refine yS (oj hn_g2 hn_g3) ?_)|refine yP (oj hn_g2 hn_g3) ?_|refine yN (oj hn_g2 hn_g3) ?_|refine aw_cd (zE (oj hn_g2 hn_g3)) (fun hb=>?_) (fun hb=>?_)|refine aw_ce (zE (oj hn_g2 hn_g3)) (fun hb=>?_) (fun hb=>?_)|refine aw_cn (zE (oj hn_g2 hn_g3)) (fun hb=>?_) (fun hb=>?_)|(refine yF (oj hn_g2 hn_g3) (fun hb=>?_) (fun hb=>?_)<;>fail_if_success (cases hb;done))|(refine aw_gsd rfl rfl (zE (oj hn_g2 hn_g3)) (fun hb=>?_) (fun hb=>?_)<;>refine yS (oj hn_g2 hn_g3) ?_)|(refine aw_gse rfl rfl (zE (oj hn_g2 hn_g3)) (fun hb=>?_) (fun hb=>?_)<;>refine yS (oj hn_g2 hn_g3) ?_)|(refine aw_gsn rfl rfl (zE (oj hn_g2 hn_g3)) (fun hb=>?_) (fun hb=>?_)<;>refine yS (oj hn_g2 hn_g3) ?_)|(refine aw_gs rfl rfl (zE (oj hn_g2 hn_g3)) (fun hb=>?_) (fun hb=>?_)<;>fail_if_success (cases hb;done)<;>refine yS (oj hn_g2 hn_g3) ?_)|(refine drk_gsd rfl rfl (zE (oj hn_g2 hn_g3)) (fun hb=>?_) (fun hb=>?_)<;>refine yS (oj hn_g2 hn_g3) ?_)|(refine drk_gse rfl rfl (zE (oj hn_g2 hn_g3)) (fun hb=>?_) (fun hb=>?_)<;>refine yS (oj hn_g2 hn_g3) ?_)|(refine drk_gsn rfl rfl (zE (oj hn_g2 hn_g3)) (fun hb=>?_) (fun hb=>?_)<;>refine yS (oj hn_g2 hn_g3) ?_)|(refine drk_gs rfl rfl (zE (oj hn_g2 hn_g3)) (fun hb=>?_) (fun hb=>?_)<;>fail_if_success (cases hb;done)<;>refine yS (oj hn_g2 hn_g3) ?_)
 ·have hi':=hb
  have hi2:i<b.houses.length:=by omega
  have hne:a.houses.getD i hs0≠b.houses.getD i hs0→decide (a.events=b.events∧a.houses=b.houses∧a.pages=b.pages)=false:=fun h=>decide_eq_false fun e=>h (by rw [e.2.1])
  have hs2:=fun h=>pre_succ (d:=hs0) hs h
  refine aw_dr 11 ty_mixed (by kernel_rfl) ?_
  repeat' first|refine yA1 (oj hn_g2 hn_g3) ?_|(refine yW (oj hn_g2 hn_g3) ?_;refine yS (oj hn_g2 hn_g3) ?_)|refine yP (oj hn_g2 hn_g3) ?_|refine yN (oj hn_g2 hn_g3) ?_|refine aw_cd (zE (oj hn_g2 hn_g3)) (fun hb=>?_) (fun hb=>?_)|refine aw_ce (zE (oj hn_g2 hn_g3)) (fun hb=>?_) (fun hb=>?_)|refine aw_cn (zE (oj hn_g2 hn_g3)) (fun hb=>?_) (fun hb=>?_)|(refine yF (oj hn_g2 hn_g3) (fun hb=>?_) (fun hb=>?_)<;>fail_if_success (cases hb;done))|(refine aw_gsd rfl rfl (zE (oj hn_g2 hn_g3)) (fun hb=>?_) (fun hb=>?_)<;>refine yS (oj hn_g2 hn_g3) ?_)|(refine aw_gse rfl rfl (zE (oj hn_g2 hn_g3)) (fun hb=>?_) (fun hb=>?_)<;>refine yS (oj hn_g2 hn_g3) ?_)|(refine aw_gsn rfl rfl (zE (oj hn_g2 hn_g3)) (fun hb=>?_) (fun hb=>?_)<;>refine yS (oj hn_g2 hn_g3) ?_)|(refine aw_gs rfl rfl (zE (oj hn_g2 hn_g3)) (fun hb=>?_) (fun hb=>?_)<;>fail_if_success (cases hb;done)<;>refine yS (oj hn_g2 hn_g3) ?_)|(refine drk_gsd rfl rfl (zE (oj hn_g2 hn_g3)) (fun hb=>?_) (fun hb=>?_)<;>refine yS (oj hn_g2 hn_g3) ?_)|(refine drk_gse rfl rfl (zE (oj hn_g2 hn_g3)) (fun hb=>?_) (fun hb=>?_)<;>refine yS (oj hn_g2 hn_g3) ?_)|(refine drk_gsn rfl rfl (zE (oj hn_g2 hn_g3)) (fun hb=>?_) (fun hb=>?_)<;>refine yS (oj hn_g2 hn_g3) ?_)|(refine drk_gs rfl rfl (zE (oj hn_g2 hn_g3)) (fun hb=>?_) (fun hb=>?_)<;>fail_if_success (cases hb;done)<;>refine yS (oj hn_g2 hn_g3) ?_)
  generalize a.houses.getD i hs0=x at*
  generalize b.houses.getD i hs0=y at*
  obtain⟨xn,xo⟩:=x
  obtain⟨yn,yo⟩:=y
  dsimp only at*
  refine drk_pok (POk.neqSB (a:=xn) (b:=xo) (c:=yn) (d:=yo) (zE (oj hn_g2 hn_g3)) (zE (oj hn_g2 hn_g3)) (by kernel_rfl)) rfl rfl ?_
  have J1:=oj hn_g2 hn_g3
  refine yS J1 ?_
  repeat' first|refine yA1 J1 ?_|(refine yW J1 ?_;refine yS J1 ?_)|refine yP J1 ?_|refine yN J1 ?_|refine aw_cd (zE J1) (fun hb=>?_) (fun hb=>?_)|refine aw_ce (zE J1) (fun hb=>?_) (fun hb=>?_)|refine aw_cn (zE J1) (fun hb=>?_) (fun hb=>?_)|(refine yF J1 (fun hb=>?_) (fun hb=>?_)<;>fail_if_success (cases hb;done))|(refine aw_gsd rfl rfl (zE J1) (fun hb=>?_) (fun hb=>?_)<;>refine yS J1 ?_)|(refine aw_gse rfl rfl (zE J1) (fun hb=>?_) (fun hb=>?_)<;>refine yS J1 ?_)|(refine aw_gsn rfl rfl (zE J1) (fun hb=>?_) (fun hb=>?_)<;>refine yS J1 ?_)|(refine aw_gs rfl rfl (zE J1) (fun hb=>?_) (fun hb=>?_)<;>fail_if_success (cases hb;done)<;>refine yS J1 ?_)|(refine drk_gsd rfl rfl (zE J1) (fun hb=>?_) (fun hb=>?_)<;>refine yS J1 ?_)|(refine drk_gse rfl rfl (zE J1) (fun hb=>?_) (fun hb=>?_)<;>refine yS J1 ?_)|(refine drk_gsn rfl rfl (zE J1) (fun hb=>?_) (fun hb=>?_)<;>refine yS J1 ?_)|(refine drk_gs rfl rfl (zE J1) (fun hb=>?_) (fun hb=>?_)<;>fail_if_success (cases hb;done)<;>refine yS J1 ?_)
  all_goals first
   |(refine yT hC J1 ?_
     exact .one (.c (ler_bool (hne (fun e=>by have:=HsD.mk.inj e;simp [this] at hb)).symm)))
   |(refine aw_stop ⟨i+1,?_⟩
     have hs3:=hs2 (by simp_all)
     and_intros
     all_goals first|rfl|exact .refl _|exact True.intro|exact hs3|omega)
 have e2:a.houses=b.houses:=getD_ext hs0 l2 fun j hj=>hs j om
 clear hs hi hb
 refine aw_lp (fun i:Nat=>[(2,.c (.optr g2 0)),(3,.c (.optr g3 0)),(106,.c (pgs true a.pages)),(107,.c (.int .i64 a.pages.length)),(108,.c (.int .i64 i))]) (fun _=>[(g3,.cells 30 8 (ofL (mdc true b))),(g2,.cells 30 8 (ofL (mdc true a)))]) (fun i=>i≤a.pages.length∧∀j,j<i→a.pages.getD j pg0=b.pages.getD j pg0) (fun i=>a.pages.length-i) 0 (zB (oj hn_g2 hn_g3)) zZ ⟨Nat.zero_le _,fun j hj=>absurd hj om⟩ ?_
 rintro i ⟨hi,hs⟩
 repeat' first|refine yA1 (oj hn_g2 hn_g3) ?_|(refine yW (oj hn_g2 hn_g3) ?_;refine yS (oj hn_g2 hn_g3) ?_)|refine yP (oj hn_g2 hn_g3) ?_|refine yN (oj hn_g2 hn_g3) ?_|refine aw_cd (zE (oj hn_g2 hn_g3)) (fun hb=>?_) (fun hb=>?_)|refine aw_ce (zE (oj hn_g2 hn_g3)) (fun hb=>?_) (fun hb=>?_)|refine aw_cn (zE (oj hn_g2 hn_g3)) (fun hb=>?_) (fun hb=>?_)|(refine yF (oj hn_g2 hn_g3) (fun hb=>?_) (fun hb=>?_)<;>fail_if_success (cases hb;done))|(refine aw_gsd rfl rfl (zE (oj hn_g2 hn_g3)) (fun hb=>?_) (fun hb=>?_)<;>refine yS (oj hn_g2 hn_g3) ?_)|(refine aw_gse rfl rfl (zE (oj hn_g2 hn_g3)) (fun hb=>?_) (fun hb=>?_)<;>refine yS (oj hn_g2 hn_g3) ?_)|(refine aw_gsn rfl rfl (zE (oj hn_g2 hn_g3)) (fun hb=>?_) (fun hb=>?_)<;>refine yS (oj hn_g2 hn_g3) ?_)|(refine aw_gs rfl rfl (zE (oj hn_g2 hn_g3)) (fun hb=>?_) (fun hb=>?_)<;>fail_if_success (cases hb;done)<;>refine yS (oj hn_g2 hn_g3) ?_)|(refine drk_gsd rfl rfl (zE (oj hn_g2 hn_g3)) (fun hb=>?_) (fun hb=>?_)<;>refine yS (oj hn_g2 hn_g3) ?_)|(refine drk_gse rfl rfl (zE (oj hn_g2 hn_g3)) (fun hb=>?_) (fun hb=>?_)<;>refine yS (oj hn_g2 hn_g3) ?_)|(refine drk_gsn rfl rfl (zE (oj hn_g2 hn_g3)) (fun hb=>?_) (fun hb=>?_)<;>refine yS (oj hn_g2 hn_g3) ?_)|(refine drk_gs rfl rfl (zE (oj hn_g2 hn_g3)) (fun hb=>?_) (fun hb=>?_)<;>fail_if_success (cases hb;done)<;>refine yS (oj hn_g2 hn_g3) ?_)
 ·have hi':=hb
  have hi2:i<b.pages.length:=by omega
  have hne:a.pages.getD i pg0≠b.pages.getD i pg0→decide (a.events=b.events∧a.houses=b.houses∧a.pages=b.pages)=false:=fun h=>decide_eq_false fun e=>h (by rw [e.2.2])
  have hs2:=fun h=>pre_succ (d:=pg0) hs h
  have w1:=wg i
  have w2:=wh i
  refine yA (oj hn_g2 hn_g3) fun g6 hn_g6=>?_
  repeat' first|refine yA1 (oj hn_g2 (oj hn_g3 hn_g6)) ?_|(refine yW (oj hn_g2 (oj hn_g3 hn_g6)) ?_;refine yS (oj hn_g2 (oj hn_g3 hn_g6)) ?_)|refine yP (oj hn_g2 (oj hn_g3 hn_g6)) ?_|refine yN (oj hn_g2 (oj hn_g3 hn_g6)) ?_|refine aw_cd (zE (oj hn_g2 (oj hn_g3 hn_g6))) (fun hb=>?_) (fun hb=>?_)|refine aw_ce (zE (oj hn_g2 (oj hn_g3 hn_g6))) (fun hb=>?_) (fun hb=>?_)|refine aw_cn (zE (oj hn_g2 (oj hn_g3 hn_g6))) (fun hb=>?_) (fun hb=>?_)|(refine yF (oj hn_g2 (oj hn_g3 hn_g6)) (fun hb=>?_) (fun hb=>?_)<;>fail_if_success (cases hb;done))|(refine aw_gsd rfl rfl (zE (oj hn_g2 (oj hn_g3 hn_g6))) (fun hb=>?_) (fun hb=>?_)<;>refine yS (oj hn_g2 (oj hn_g3 hn_g6)) ?_)|(refine aw_gse rfl rfl (zE (oj hn_g2 (oj hn_g3 hn_g6))) (fun hb=>?_) (fun hb=>?_)<;>refine yS (oj hn_g2 (oj hn_g3 hn_g6)) ?_)|(refine aw_gsn rfl rfl (zE (oj hn_g2 (oj hn_g3 hn_g6))) (fun hb=>?_) (fun hb=>?_)<;>refine yS (oj hn_g2 (oj hn_g3 hn_g6)) ?_)|(refine aw_gs rfl rfl (zE (oj hn_g2 (oj hn_g3 hn_g6))) (fun hb=>?_) (fun hb=>?_)<;>fail_if_success (cases hb;done)<;>refine yS (oj hn_g2 (oj hn_g3 hn_g6)) ?_)|(refine drk_gsd rfl rfl (zE (oj hn_g2 (oj hn_g3 hn_g6))) (fun hb=>?_) (fun hb=>?_)<;>refine yS (oj hn_g2 (oj hn_g3 hn_g6)) ?_)|(refine drk_gse rfl rfl (zE (oj hn_g2 (oj hn_g3 hn_g6))) (fun hb=>?_) (fun hb=>?_)<;>refine yS (oj hn_g2 (oj hn_g3 hn_g6)) ?_)|(refine drk_gsn rfl rfl (zE (oj hn_g2 (oj hn_g3 hn_g6))) (fun hb=>?_) (fun hb=>?_)<;>refine yS (oj hn_g2 (oj hn_g3 hn_g6)) ?_)|(refine drk_gs rfl rfl (zE (oj hn_g2 (oj hn_g3 hn_g6))) (fun hb=>?_) (fun hb=>?_)<;>fail_if_success (cases hb;done)<;>refine yS (oj hn_g2 (oj hn_g3 hn_g6)) ?_)
  refine yA (oj hn_g2 (oj hn_g3 hn_g6)) fun g7 hn_g7=>?_
  generalize a.pages.getD i pg0=x at*
  generalize b.pages.getD i pg0=y at*
  have f1:=sameGates_fa x.gates y.gates (fun j=>⟨wf_mono (getD_all w1.2.2.2 gt0_o j).2.1 (by decide),Nat.le_trans (getD_all w1.2.2.2 gt0_o j).2.2.1 (by decide),Nat.le_trans (getD_all w2.2.2.2 gt0_o j).2.2.1 (by decide)⟩) (Nat.le_trans w1.2.2.1 (by decide)) (Nat.le_trans w2.2.2.1 (by decide))
  obtain⟨xn,xt,xg⟩:=x
  obtain⟨yn,yt,yg⟩:=y
  dsimp only at*
  clear w1 w2
  repeat' first|refine yA1 (oj hn_g2 (oj hn_g3 (oj hn_g6 hn_g7))) ?_|(refine yC2 (oj hn_g2 (oj hn_g3 (oj hn_g6 hn_g7))) (f1) ?_)|(refine yD2 (oj hn_g2 (oj hn_g3 (oj hn_g6 hn_g7))) (f1) ?_)|(refine yW (oj hn_g2 (oj hn_g3 (oj hn_g6 hn_g7))) ?_;refine yS (oj hn_g2 (oj hn_g3 (oj hn_g6 hn_g7))) ?_)|refine yP (oj hn_g2 (oj hn_g3 (oj hn_g6 hn_g7))) ?_|refine yN (oj hn_g2 (oj hn_g3 (oj hn_g6 hn_g7))) ?_|refine aw_cd (zE (oj hn_g2 (oj hn_g3 (oj hn_g6 hn_g7)))) (fun hb=>?_) (fun hb=>?_)|refine aw_ce (zE (oj hn_g2 (oj hn_g3 (oj hn_g6 hn_g7)))) (fun hb=>?_) (fun hb=>?_)|refine aw_cn (zE (oj hn_g2 (oj hn_g3 (oj hn_g6 hn_g7)))) (fun hb=>?_) (fun hb=>?_)|(refine yF (oj hn_g2 (oj hn_g3 (oj hn_g6 hn_g7))) (fun hb=>?_) (fun hb=>?_)<;>fail_if_success (cases hb;done))|(refine aw_gsd rfl rfl (zE (oj hn_g2 (oj hn_g3 (oj hn_g6 hn_g7)))) (fun hb=>?_) (fun hb=>?_)<;>refine yS (oj hn_g2 (oj hn_g3 (oj hn_g6 hn_g7))) ?_)|(refine aw_gse rfl rfl (zE (oj hn_g2 (oj hn_g3 (oj hn_g6 hn_g7)))) (fun hb=>?_) (fun hb=>?_)<;>refine yS (oj hn_g2 (oj hn_g3 (oj hn_g6 hn_g7))) ?_)|(refine aw_gsn rfl rfl (zE (oj hn_g2 (oj hn_g3 (oj hn_g6 hn_g7)))) (fun hb=>?_) (fun hb=>?_)<;>refine yS (oj hn_g2 (oj hn_g3 (oj hn_g6 hn_g7))) ?_)|(refine aw_gs rfl rfl (zE (oj hn_g2 (oj hn_g3 (oj hn_g6 hn_g7)))) (fun hb=>?_) (fun hb=>?_)<;>fail_if_success (cases hb;done)<;>refine yS (oj hn_g2 (oj hn_g3 (oj hn_g6 hn_g7))) ?_)|(refine drk_gsd rfl rfl (zE (oj hn_g2 (oj hn_g3 (oj hn_g6 hn_g7)))) (fun hb=>?_) (fun hb=>?_)<;>refine yS (oj hn_g2 (oj hn_g3 (oj hn_g6 hn_g7))) ?_)|(refine drk_gse rfl rfl (zE (oj hn_g2 (oj hn_g3 (oj hn_g6 hn_g7)))) (fun hb=>?_) (fun hb=>?_)<;>refine yS (oj hn_g2 (oj hn_g3 (oj hn_g6 hn_g7))) ?_)|(refine drk_gsn rfl rfl (zE (oj hn_g2 (oj hn_g3 (oj hn_g6 hn_g7)))) (fun hb=>?_) (fun hb=>?_)<;>refine yS (oj hn_g2 (oj hn_g3 (oj hn_g6 hn_g7))) ?_)|(refine drk_gs rfl rfl (zE (oj hn_g2 (oj hn_g3 (oj hn_g6 hn_g7)))) (fun hb=>?_) (fun hb=>?_)<;>fail_if_success (cases hb;done)<;>refine yS (oj hn_g2 (oj hn_g3 (oj hn_g6 hn_g7))) ?_)
  all_goals clear f1
  all_goals first
   |(refine yT hC (oj hn_g2 (oj hn_g3 (oj hn_g6 hn_g7))) ?_
     exact .one (.c (ler_bool (hne (by simp_all)).symm)))
   |(refine aw_stop ⟨i+1,?_⟩
     have hs3:=hs2 (by simp_all)
     and_intros
     all_goals first|rfl|exact .cons _ (.cons _ (.refl _))|exact True.intro|exact hs3|omega)
 ·refine yT hC (oj hn_g2 hn_g3) ?_
  exact .one (.c (ler_bool (dec_t ⟨e1,e2,getD_ext pg0 l3 fun j hj=>hs j om⟩)))
end Go.Proofs.YteocnikcjjonbaaGreat
namespace Go.Proofs.YteocnikcjjonbaaGreat
open Go.AI Go.PN
attribute [local irreducible] aw Fa Fh DrK
theorem same_fa (a b:MdD) (ha:MdO a) (hbb:MdO b):Fa Tryz.prog 13 [.agg (mdc true a),.agg (mdc true b)] (.c (.bool (decide (a=b)))):=by
 have f1:=sameParts_fa a b ha hbb
 have f2:=sameGates_fa a.gates b.gates (fun j=>⟨wf_mono (getD_all ha.gt.2 gt0_o j).2.1 (by decide),Nat.le_trans (getD_all ha.gt.2 gt0_o j).2.2.1 (by decide),Nat.le_trans (getD_all hbb.gt.2 gt0_o j).2.2.1 (by decide)⟩) (Nat.le_trans ha.gt.1 (by decide)) (Nat.le_trans hbb.gt.1 (by decide))
 have a1:a.groups.length≤1099511627776:=Nat.le_trans ha.gr.1 (by decide)
 have a2:a.phases.length≤1099511627776:=Nat.le_trans ha.ph.1 (by decide)
 have a3:b.groups.length≤1099511627776:=Nat.le_trans hbb.gr.1 (by decide)
 have a4:b.phases.length≤1099511627776:=Nat.le_trans hbb.ph.1 (by decide)
 have v1:=fun i=>getD_all ha.gr.2 gr0_o i
 have v2:=fun i=>getD_all hbb.gr.2 gr0_o i
 have v3:=fun i=>getD_all ha.ph.2 ph0_o i
 have v4:=fun i=>getD_all hbb.ph.2 ph0_o i
 have hE:a.name=b.name→a.top=b.top→(a.events=b.events∧a.houses=b.houses∧a.pages=b.pages)→a.gates=b.gates→a.groups=b.groups→a.phases=b.phases→a=b:=by
  rintro q1 q2 ⟨q3,q4,q5⟩ q6 q7 q8
  cases a;cases b
  simp_all
 have n1:a.name≠b.name→decide (a=b)=false:=fun h=>decide_eq_false fun e=>h (by rw [e])
 have n2:a.top≠b.top→decide (a=b)=false:=fun h=>decide_eq_false fun e=>h (by rw [e])
 have n3:¬(a.events=b.events∧a.houses=b.houses∧a.pages=b.pages)→decide (a=b)=false:=fun h=>decide_eq_false fun e=>h (by rw [e];exact⟨rfl,rfl,rfl⟩)
 have n4:a.gates≠b.gates→decide (a=b)=false:=fun h=>decide_eq_false fun e=>h (by rw [e])
 have n5:a.groups.length≠b.groups.length→decide (a=b)=false:=fun h=>decide_eq_false fun e=>h (by rw [e])
 have n6:a.phases.length≠b.phases.length→decide (a=b)=false:=fun h=>decide_eq_false fun e=>h (by rw [e])
 have n7:∀i,a.groups.getD i gr0≠b.groups.getD i gr0→decide (a=b)=false:=fun i h=>decide_eq_false fun e=>h (by rw [e])
 have n8:∀i,a.phases.getD i ph0≠b.phases.getD i ph0→decide (a=b)=false:=fun i h=>decide_eq_false fun e=>h (by rw [e])
 generalize hX:decide (a=b)=X at*
 refine fa_of_body Tryz.func13 rfl rfl (by simp [Tryz.ntmps13]) fun C hC=> ?_
 simp only [initS,Nat.reduceAdd]
 repeat' first|refine yA1 o0 ?_|(refine xW ?_;refine xS ?_)|refine xP ?_|refine xN ?_|refine aw_cd eE (fun hb=>?_) (fun hb=>?_)|refine aw_ce eE (fun hb=>?_) (fun hb=>?_)|refine aw_cn eE (fun hb=>?_) (fun hb=>?_)|(refine xF (fun hb=>?_) (fun hb=>?_)<;>fail_if_success (cases hb;done))|(refine aw_gsd rfl rfl eE (fun hb=>?_) (fun hb=>?_)<;>refine xS ?_)|(refine aw_gse rfl rfl eE (fun hb=>?_) (fun hb=>?_)<;>refine xS ?_)|(refine aw_gsn rfl rfl eE (fun hb=>?_) (fun hb=>?_)<;>refine xS ?_)|(refine aw_gs rfl rfl eE (fun hb=>?_) (fun hb=>?_)<;>fail_if_success (cases hb;done)<;>refine xS ?_)|(refine drk_gsd rfl rfl eE (fun hb=>?_) (fun hb=>?_)<;>refine xS ?_)|(refine drk_gse rfl rfl eE (fun hb=>?_) (fun hb=>?_)<;>refine xS ?_)|(refine drk_gsn rfl rfl eE (fun hb=>?_) (fun hb=>?_)<;>refine xS ?_)|(refine drk_gs rfl rfl eE (fun hb=>?_) (fun hb=>?_)<;>fail_if_success (cases hb;done)<;>refine xS ?_)
 refine xB fun g2 hn_g2=>?_
 repeat' first|refine yA1 hn_g2 ?_|(refine yW hn_g2 ?_;refine yS hn_g2 ?_)|refine yP hn_g2 ?_|refine yN hn_g2 ?_|refine aw_cd (zE hn_g2) (fun hb=>?_) (fun hb=>?_)|refine aw_ce (zE hn_g2) (fun hb=>?_) (fun hb=>?_)|refine aw_cn (zE hn_g2) (fun hb=>?_) (fun hb=>?_)|(refine yF hn_g2 (fun hb=>?_) (fun hb=>?_)<;>fail_if_success (cases hb;done))|(refine aw_gsd rfl rfl (zE hn_g2) (fun hb=>?_) (fun hb=>?_)<;>refine yS hn_g2 ?_)|(refine aw_gse rfl rfl (zE hn_g2) (fun hb=>?_) (fun hb=>?_)<;>refine yS hn_g2 ?_)|(refine aw_gsn rfl rfl (zE hn_g2) (fun hb=>?_) (fun hb=>?_)<;>refine yS hn_g2 ?_)|(refine aw_gs rfl rfl (zE hn_g2) (fun hb=>?_) (fun hb=>?_)<;>fail_if_success (cases hb;done)<;>refine yS hn_g2 ?_)|(refine drk_gsd rfl rfl (zE hn_g2) (fun hb=>?_) (fun hb=>?_)<;>refine yS hn_g2 ?_)|(refine drk_gse rfl rfl (zE hn_g2) (fun hb=>?_) (fun hb=>?_)<;>refine yS hn_g2 ?_)|(refine drk_gsn rfl rfl (zE hn_g2) (fun hb=>?_) (fun hb=>?_)<;>refine yS hn_g2 ?_)|(refine drk_gs rfl rfl (zE hn_g2) (fun hb=>?_) (fun hb=>?_)<;>fail_if_success (cases hb;done)<;>refine yS hn_g2 ?_)
 refine yB hn_g2 fun g3 hn_g3=>?_
 repeat' first|refine yA1 (oj hn_g2 hn_g3) ?_|(refine yC2 (oj hn_g2 hn_g3) (f1) ?_)|(refine yD2 (oj hn_g2 hn_g3) (f1) ?_)|(refine yC2 (oj hn_g2 hn_g3) (f2) ?_)|(refine yD2 (oj hn_g2 hn_g3) (f2) ?_)|(refine yW (oj hn_g2 hn_g3) ?_;refine yS (oj hn_g2 hn_g3) ?_)|refine yP (oj hn_g2 hn_g3) ?_|refine yN (oj hn_g2 hn_g3) ?_|refine aw_cd (zE (oj hn_g2 hn_g3)) (fun hb=>?_) (fun hb=>?_)|refine aw_ce (zE (oj hn_g2 hn_g3)) (fun hb=>?_) (fun hb=>?_)|refine aw_cn (zE (oj hn_g2 hn_g3)) (fun hb=>?_) (fun hb=>?_)|(refine yF (oj hn_g2 hn_g3) (fun hb=>?_) (fun hb=>?_)<;>fail_if_success (cases hb;done))|(refine aw_gsd rfl rfl (zE (oj hn_g2 hn_g3)) (fun hb=>?_) (fun hb=>?_)<;>refine yS (oj hn_g2 hn_g3) ?_)|(refine aw_gse rfl rfl (zE (oj hn_g2 hn_g3)) (fun hb=>?_) (fun hb=>?_)<;>refine yS (oj hn_g2 hn_g3) ?_)|(refine aw_gsn rfl rfl (zE (oj hn_g2 hn_g3)) (fun hb=>?_) (fun hb=>?_)<;>refine yS (oj hn_g2 hn_g3) ?_)|(refine aw_gs rfl rfl (zE (oj hn_g2 hn_g3)) (fun hb=>?_) (fun hb=>?_)<;>fail_if_success (cases hb;done)<;>refine yS (oj hn_g2 hn_g3) ?_)|(refine drk_gsd rfl rfl (zE (oj hn_g2 hn_g3)) (fun hb=>?_) (fun hb=>?_)<;>refine yS (oj hn_g2 hn_g3) ?_)|(refine drk_gse rfl rfl (zE (oj hn_g2 hn_g3)) (fun hb=>?_) (fun hb=>?_)<;>refine yS (oj hn_g2 hn_g3) ?_)|(refine drk_gsn rfl rfl (zE (oj hn_g2 hn_g3)) (fun hb=>?_) (fun hb=>?_)<;>refine yS (oj hn_g2 hn_g3) ?_)|(refine drk_gs rfl rfl (zE (oj hn_g2 hn_g3)) (fun hb=>?_) (fun hb=>?_)<;>fail_if_success (cases hb;done)<;>refine yS (oj hn_g2 hn_g3) ?_)
 ·refine yT hC (oj hn_g2 hn_g3) ?_
  exact .one (.c (ler_bool (n1 hb).symm))
 ·refine yT hC (oj hn_g2 hn_g3) ?_
  exact .one (.c (ler_bool (n2 hb).symm))
 ·refine yT hC (oj hn_g2 hn_g3) ?_
  exact .one (.c (ler_bool (n3 fun z=>by simp [z.1,z.2.1,z.2.2] at hb).symm))
 ·refine yT hC (oj hn_g2 hn_g3) ?_
  exact .one (.c (ler_bool (n4 (by simpa using hb)).symm))
 ·refine yT hC (oj hn_g2 hn_g3) ?_
  exact .one (.c (ler_bool (n5 hb).symm))
 ·refine yT hC (oj hn_g2 hn_g3) ?_
  exact .one (.c (ler_bool (n6 hb).symm))
 rename_i q1 q2 q3 q4 q5
 have q6:a.phases.length=b.phases.length:=by simpa using hb
 have q3:a.events=b.events∧a.houses=b.houses∧a.pages=b.pages:=by simpa using q3
 have q4:a.gates=b.gates:=by simpa using q4
 clear hb f1 f2 n1 n2 n3 n4 n5 n6
 refine aw_lp (fun i:Nat=>[(2,.c (.optr g2 0)),(3,.c (.optr g3 0)),(59,.c (grs true a.groups)),(60,.c (.int .i64 a.groups.length)),(61,.c (.int .i64 i))]) (fun _=>[(g3,.cells 30 8 (ofL (mdc true b))),(g2,.cells 30 8 (ofL (mdc true a)))]) (fun i=>i≤a.groups.length∧∀j,j<i→a.groups.getD j gr0=b.groups.getD j gr0) (fun i=>a.groups.length-i) 0 (zB (oj hn_g2 hn_g3)) zZ ⟨Nat.zero_le _,fun j hj=>absurd hj om⟩ ?_
 rintro i ⟨hi,hs⟩
 repeat' first|refine yA1 (oj hn_g2 hn_g3) ?_|(refine yW (oj hn_g2 hn_g3) ?_;refine yS (oj hn_g2 hn_g3) ?_)|refine yP (oj hn_g2 hn_g3) ?_|refine yN (oj hn_g2 hn_g3) ?_|refine aw_cd (zE (oj hn_g2 hn_g3)) (fun hb=>?_) (fun hb=>?_)|refine aw_ce (zE (oj hn_g2 hn_g3)) (fun hb=>?_) (fun hb=>?_)|refine aw_cn (zE (oj hn_g2 hn_g3)) (fun hb=>?_) (fun hb=>?_)|(refine yF (oj hn_g2 hn_g3) (fun hb=>?_) (fun hb=>?_)<;>fail_if_success (cases hb;done))|(refine aw_gsd rfl rfl (zE (oj hn_g2 hn_g3)) (fun hb=>?_) (fun hb=>?_)<;>refine yS (oj hn_g2 hn_g3) ?_)|(refine aw_gse rfl rfl (zE (oj hn_g2 hn_g3)) (fun hb=>?_) (fun hb=>?_)<;>refine yS (oj hn_g2 hn_g3) ?_)|(refine aw_gsn rfl rfl (zE (oj hn_g2 hn_g3)) (fun hb=>?_) (fun hb=>?_)<;>refine yS (oj hn_g2 hn_g3) ?_)|(refine aw_gs rfl rfl (zE (oj hn_g2 hn_g3)) (fun hb=>?_) (fun hb=>?_)<;>fail_if_success (cases hb;done)<;>refine yS (oj hn_g2 hn_g3) ?_)|(refine drk_gsd rfl rfl (zE (oj hn_g2 hn_g3)) (fun hb=>?_) (fun hb=>?_)<;>refine yS (oj hn_g2 hn_g3) ?_)|(refine drk_gse rfl rfl (zE (oj hn_g2 hn_g3)) (fun hb=>?_) (fun hb=>?_)<;>refine yS (oj hn_g2 hn_g3) ?_)|(refine drk_gsn rfl rfl (zE (oj hn_g2 hn_g3)) (fun hb=>?_) (fun hb=>?_)<;>refine yS (oj hn_g2 hn_g3) ?_)|(refine drk_gs rfl rfl (zE (oj hn_g2 hn_g3)) (fun hb=>?_) (fun hb=>?_)<;>fail_if_success (cases hb;done)<;>refine yS (oj hn_g2 hn_g3) ?_)
 ·have hi':=hb
  have hi2:i<b.groups.length:=by omega
  have hs2:=fun h=>pre_succ (d:=gr0) hs h
  have hne:=n7 i
  have w1:=v1 i
  have w2:=v2 i
  refine yA (oj hn_g2 hn_g3) fun g6 hn_g6=>?_
  repeat' first|refine yA1 (oj hn_g2 (oj hn_g3 hn_g6)) ?_|(refine yW (oj hn_g2 (oj hn_g3 hn_g6)) ?_;refine yS (oj hn_g2 (oj hn_g3 hn_g6)) ?_)|refine yP (oj hn_g2 (oj hn_g3 hn_g6)) ?_|refine yN (oj hn_g2 (oj hn_g3 hn_g6)) ?_|refine aw_cd (zE (oj hn_g2 (oj hn_g3 hn_g6))) (fun hb=>?_) (fun hb=>?_)|refine aw_ce (zE (oj hn_g2 (oj hn_g3 hn_g6))) (fun hb=>?_) (fun hb=>?_)|refine aw_cn (zE (oj hn_g2 (oj hn_g3 hn_g6))) (fun hb=>?_) (fun hb=>?_)|(refine yF (oj hn_g2 (oj hn_g3 hn_g6)) (fun hb=>?_) (fun hb=>?_)<;>fail_if_success (cases hb;done))|(refine aw_gsd rfl rfl (zE (oj hn_g2 (oj hn_g3 hn_g6))) (fun hb=>?_) (fun hb=>?_)<;>refine yS (oj hn_g2 (oj hn_g3 hn_g6)) ?_)|(refine aw_gse rfl rfl (zE (oj hn_g2 (oj hn_g3 hn_g6))) (fun hb=>?_) (fun hb=>?_)<;>refine yS (oj hn_g2 (oj hn_g3 hn_g6)) ?_)|(refine aw_gsn rfl rfl (zE (oj hn_g2 (oj hn_g3 hn_g6))) (fun hb=>?_) (fun hb=>?_)<;>refine yS (oj hn_g2 (oj hn_g3 hn_g6)) ?_)|(refine aw_gs rfl rfl (zE (oj hn_g2 (oj hn_g3 hn_g6))) (fun hb=>?_) (fun hb=>?_)<;>fail_if_success (cases hb;done)<;>refine yS (oj hn_g2 (oj hn_g3 hn_g6)) ?_)|(refine drk_gsd rfl rfl (zE (oj hn_g2 (oj hn_g3 hn_g6))) (fun hb=>?_) (fun hb=>?_)<;>refine yS (oj hn_g2 (oj hn_g3 hn_g6)) ?_)|(refine drk_gse rfl rfl (zE (oj hn_g2 (oj hn_g3 hn_g6))) (fun hb=>?_) (fun hb=>?_)<;>refine yS (oj hn_g2 (oj hn_g3 hn_g6)) ?_)|(refine drk_gsn rfl rfl (zE (oj hn_g2 (oj hn_g3 hn_g6))) (fun hb=>?_) (fun hb=>?_)<;>refine yS (oj hn_g2 (oj hn_g3 hn_g6)) ?_)|(refine drk_gs rfl rfl (zE (oj hn_g2 (oj hn_g3 hn_g6))) (fun hb=>?_) (fun hb=>?_)<;>fail_if_success (cases hb;done)<;>refine yS (oj hn_g2 (oj hn_g3 hn_g6)) ?_)
  refine yA (oj hn_g2 (oj hn_g3 hn_g6)) fun g7 hn_g7=>?_
  generalize a.groups.getD i gr0=x at*
  generalize b.groups.getD i gr0=y at*
  have f1:=texts_fa x.members y.members (Nat.le_trans w1.2.1 (by decide)) (Nat.le_trans w2.2.1 (by decide))
  have f2:=rats_fa x.factors y.factors (fun j=>wf_mono (getD_all w1.2.2.2.2 rd0_ok j) (by decide)) (Nat.le_trans w1.2.2.2.1 (by decide)) (Nat.le_trans w2.2.2.2.1 (by decide))
  obtain⟨xn,xk,xm,xf⟩:=x
  obtain⟨yn,yk,ym,yf⟩:=y
  dsimp only at*
  clear w1 w2
  repeat' first|refine yA1 (oj hn_g2 (oj hn_g3 (oj hn_g6 hn_g7))) ?_|(refine yC2 (oj hn_g2 (oj hn_g3 (oj hn_g6 hn_g7))) (f1) ?_)|(refine yD2 (oj hn_g2 (oj hn_g3 (oj hn_g6 hn_g7))) (f1) ?_)|(refine yC2 (oj hn_g2 (oj hn_g3 (oj hn_g6 hn_g7))) (f2) ?_)|(refine yD2 (oj hn_g2 (oj hn_g3 (oj hn_g6 hn_g7))) (f2) ?_)|(refine yW (oj hn_g2 (oj hn_g3 (oj hn_g6 hn_g7))) ?_;refine yS (oj hn_g2 (oj hn_g3 (oj hn_g6 hn_g7))) ?_)|refine yP (oj hn_g2 (oj hn_g3 (oj hn_g6 hn_g7))) ?_|refine yN (oj hn_g2 (oj hn_g3 (oj hn_g6 hn_g7))) ?_|refine aw_cd (zE (oj hn_g2 (oj hn_g3 (oj hn_g6 hn_g7)))) (fun hb=>?_) (fun hb=>?_)|refine aw_ce (zE (oj hn_g2 (oj hn_g3 (oj hn_g6 hn_g7)))) (fun hb=>?_) (fun hb=>?_)|refine aw_cn (zE (oj hn_g2 (oj hn_g3 (oj hn_g6 hn_g7)))) (fun hb=>?_) (fun hb=>?_)|(refine yF (oj hn_g2 (oj hn_g3 (oj hn_g6 hn_g7))) (fun hb=>?_) (fun hb=>?_)<;>fail_if_success (cases hb;done))|(refine aw_gsd rfl rfl (zE (oj hn_g2 (oj hn_g3 (oj hn_g6 hn_g7)))) (fun hb=>?_) (fun hb=>?_)<;>refine yS (oj hn_g2 (oj hn_g3 (oj hn_g6 hn_g7))) ?_)|(refine aw_gse rfl rfl (zE (oj hn_g2 (oj hn_g3 (oj hn_g6 hn_g7)))) (fun hb=>?_) (fun hb=>?_)<;>refine yS (oj hn_g2 (oj hn_g3 (oj hn_g6 hn_g7))) ?_)|(refine aw_gsn rfl rfl (zE (oj hn_g2 (oj hn_g3 (oj hn_g6 hn_g7)))) (fun hb=>?_) (fun hb=>?_)<;>refine yS (oj hn_g2 (oj hn_g3 (oj hn_g6 hn_g7))) ?_)|(refine aw_gs rfl rfl (zE (oj hn_g2 (oj hn_g3 (oj hn_g6 hn_g7)))) (fun hb=>?_) (fun hb=>?_)<;>fail_if_success (cases hb;done)<;>refine yS (oj hn_g2 (oj hn_g3 (oj hn_g6 hn_g7))) ?_)|(refine drk_gsd rfl rfl (zE (oj hn_g2 (oj hn_g3 (oj hn_g6 hn_g7)))) (fun hb=>?_) (fun hb=>?_)<;>refine yS (oj hn_g2 (oj hn_g3 (oj hn_g6 hn_g7))) ?_)|(refine drk_gse rfl rfl (zE (oj hn_g2 (oj hn_g3 (oj hn_g6 hn_g7)))) (fun hb=>?_) (fun hb=>?_)<;>refine yS (oj hn_g2 (oj hn_g3 (oj hn_g6 hn_g7))) ?_)|(refine drk_gsn rfl rfl (zE (oj hn_g2 (oj hn_g3 (oj hn_g6 hn_g7)))) (fun hb=>?_) (fun hb=>?_)<;>refine yS (oj hn_g2 (oj hn_g3 (oj hn_g6 hn_g7))) ?_)|(refine drk_gs rfl rfl (zE (oj hn_g2 (oj hn_g3 (oj hn_g6 hn_g7)))) (fun hb=>?_) (fun hb=>?_)<;>fail_if_success (cases hb;done)<;>refine yS (oj hn_g2 (oj hn_g3 (oj hn_g6 hn_g7))) ?_)
  all_goals clear f1 f2
  all_goals first
   |(refine yT hC (oj hn_g2 (oj hn_g3 (oj hn_g6 hn_g7))) ?_
     exact .one (.c (ler_bool (hne (by simp_all)).symm)))
   |(refine aw_stop ⟨i+1,?_⟩
     have hs3:=hs2 (by simp_all)
     and_intros
     all_goals first|rfl|exact .cons _ (.cons _ (.refl _))|exact True.intro|exact hs3|omega)
 have q7:a.groups=b.groups:=getD_ext gr0 q5 fun j hj=>hs j om
 clear hs hi hb
 refine aw_lp (fun i:Nat=>[(2,.c (.optr g2 0)),(3,.c (.optr g3 0)),(101,.c (phs true a.phases)),(102,.c (.int .i64 a.phases.length)),(103,.c (.int .i64 i))]) (fun _=>[(g3,.cells 30 8 (ofL (mdc true b))),(g2,.cells 30 8 (ofL (mdc true a)))]) (fun i=>i≤a.phases.length∧∀j,j<i→a.phases.getD j ph0=b.phases.getD j ph0) (fun i=>a.phases.length-i) 0 (zB (oj hn_g2 hn_g3)) zZ ⟨Nat.zero_le _,fun j hj=>absurd hj om⟩ ?_
 rintro i ⟨hi,hs⟩
 repeat' first|refine yA1 (oj hn_g2 hn_g3) ?_|(refine yW (oj hn_g2 hn_g3) ?_;refine yS (oj hn_g2 hn_g3) ?_)|refine yP (oj hn_g2 hn_g3) ?_|refine yN (oj hn_g2 hn_g3) ?_|refine aw_cd (zE (oj hn_g2 hn_g3)) (fun hb=>?_) (fun hb=>?_)|refine aw_ce (zE (oj hn_g2 hn_g3)) (fun hb=>?_) (fun hb=>?_)|refine aw_cn (zE (oj hn_g2 hn_g3)) (fun hb=>?_) (fun hb=>?_)|(refine yF (oj hn_g2 hn_g3) (fun hb=>?_) (fun hb=>?_)<;>fail_if_success (cases hb;done))|(refine aw_gsd rfl rfl (zE (oj hn_g2 hn_g3)) (fun hb=>?_) (fun hb=>?_)<;>refine yS (oj hn_g2 hn_g3) ?_)|(refine aw_gse rfl rfl (zE (oj hn_g2 hn_g3)) (fun hb=>?_) (fun hb=>?_)<;>refine yS (oj hn_g2 hn_g3) ?_)|(refine aw_gsn rfl rfl (zE (oj hn_g2 hn_g3)) (fun hb=>?_) (fun hb=>?_)<;>refine yS (oj hn_g2 hn_g3) ?_)|(refine aw_gs rfl rfl (zE (oj hn_g2 hn_g3)) (fun hb=>?_) (fun hb=>?_)<;>fail_if_success (cases hb;done)<;>refine yS (oj hn_g2 hn_g3) ?_)|(refine drk_gsd rfl rfl (zE (oj hn_g2 hn_g3)) (fun hb=>?_) (fun hb=>?_)<;>refine yS (oj hn_g2 hn_g3) ?_)|(refine drk_gse rfl rfl (zE (oj hn_g2 hn_g3)) (fun hb=>?_) (fun hb=>?_)<;>refine yS (oj hn_g2 hn_g3) ?_)|(refine drk_gsn rfl rfl (zE (oj hn_g2 hn_g3)) (fun hb=>?_) (fun hb=>?_)<;>refine yS (oj hn_g2 hn_g3) ?_)|(refine drk_gs rfl rfl (zE (oj hn_g2 hn_g3)) (fun hb=>?_) (fun hb=>?_)<;>fail_if_success (cases hb;done)<;>refine yS (oj hn_g2 hn_g3) ?_)
 ·have hi':=hb
  have hi2:i<b.phases.length:=by omega
  have hs2:=fun h=>pre_succ (d:=ph0) hs h
  have hne:=n8 i
  have w1:=v3 i
  have w2:=v4 i
  refine yA (oj hn_g2 hn_g3) fun g6 hn_g6=>?_
  repeat' first|refine yA1 (oj hn_g2 (oj hn_g3 hn_g6)) ?_|(refine yW (oj hn_g2 (oj hn_g3 hn_g6)) ?_;refine yS (oj hn_g2 (oj hn_g3 hn_g6)) ?_)|refine yP (oj hn_g2 (oj hn_g3 hn_g6)) ?_|refine yN (oj hn_g2 (oj hn_g3 hn_g6)) ?_|refine aw_cd (zE (oj hn_g2 (oj hn_g3 hn_g6))) (fun hb=>?_) (fun hb=>?_)|refine aw_ce (zE (oj hn_g2 (oj hn_g3 hn_g6))) (fun hb=>?_) (fun hb=>?_)|refine aw_cn (zE (oj hn_g2 (oj hn_g3 hn_g6))) (fun hb=>?_) (fun hb=>?_)|(refine yF (oj hn_g2 (oj hn_g3 hn_g6)) (fun hb=>?_) (fun hb=>?_)<;>fail_if_success (cases hb;done))|(refine aw_gsd rfl rfl (zE (oj hn_g2 (oj hn_g3 hn_g6))) (fun hb=>?_) (fun hb=>?_)<;>refine yS (oj hn_g2 (oj hn_g3 hn_g6)) ?_)|(refine aw_gse rfl rfl (zE (oj hn_g2 (oj hn_g3 hn_g6))) (fun hb=>?_) (fun hb=>?_)<;>refine yS (oj hn_g2 (oj hn_g3 hn_g6)) ?_)|(refine aw_gsn rfl rfl (zE (oj hn_g2 (oj hn_g3 hn_g6))) (fun hb=>?_) (fun hb=>?_)<;>refine yS (oj hn_g2 (oj hn_g3 hn_g6)) ?_)|(refine aw_gs rfl rfl (zE (oj hn_g2 (oj hn_g3 hn_g6))) (fun hb=>?_) (fun hb=>?_)<;>fail_if_success (cases hb;done)<;>refine yS (oj hn_g2 (oj hn_g3 hn_g6)) ?_)|(refine drk_gsd rfl rfl (zE (oj hn_g2 (oj hn_g3 hn_g6))) (fun hb=>?_) (fun hb=>?_)<;>refine yS (oj hn_g2 (oj hn_g3 hn_g6)) ?_)|(refine drk_gse rfl rfl (zE (oj hn_g2 (oj hn_g3 hn_g6))) (fun hb=>?_) (fun hb=>?_)<;>refine yS (oj hn_g2 (oj hn_g3 hn_g6)) ?_)|(refine drk_gsn rfl rfl (zE (oj hn_g2 (oj hn_g3 hn_g6))) (fun hb=>?_) (fun hb=>?_)<;>refine yS (oj hn_g2 (oj hn_g3 hn_g6)) ?_)|(refine drk_gs rfl rfl (zE (oj hn_g2 (oj hn_g3 hn_g6))) (fun hb=>?_) (fun hb=>?_)<;>fail_if_success (cases hb;done)<;>refine yS (oj hn_g2 (oj hn_g3 hn_g6)) ?_)
  refine yA (oj hn_g2 (oj hn_g3 hn_g6)) fun g7 hn_g7=>?_
  generalize a.phases.getD i ph0=x at*
  generalize b.phases.getD i ph0=y at*
  obtain⟨xn,xt,xv⟩:=x
  obtain⟨yn,yt,yv⟩:=y
  dsimp only at*
  have u1:xv.length≤1099511627776:=Nat.le_trans w1.2.2.1 (by decide)
  have u2:yv.length≤1099511627776:=Nat.le_trans w2.2.2.1 (by decide)
  repeat' first|refine yA1 (oj hn_g2 (oj hn_g3 (oj hn_g6 hn_g7))) ?_|(refine yW (oj hn_g2 (oj hn_g3 (oj hn_g6 hn_g7))) ?_;refine yS (oj hn_g2 (oj hn_g3 (oj hn_g6 hn_g7))) ?_)|refine yP (oj hn_g2 (oj hn_g3 (oj hn_g6 hn_g7))) ?_|refine yN (oj hn_g2 (oj hn_g3 (oj hn_g6 hn_g7))) ?_|refine aw_cd (zE (oj hn_g2 (oj hn_g3 (oj hn_g6 hn_g7)))) (fun hb=>?_) (fun hb=>?_)|refine aw_ce (zE (oj hn_g2 (oj hn_g3 (oj hn_g6 hn_g7)))) (fun hb=>?_) (fun hb=>?_)|refine aw_cn (zE (oj hn_g2 (oj hn_g3 (oj hn_g6 hn_g7)))) (fun hb=>?_) (fun hb=>?_)|(refine yF (oj hn_g2 (oj hn_g3 (oj hn_g6 hn_g7))) (fun hb=>?_) (fun hb=>?_)<;>fail_if_success (cases hb;done))|(refine aw_gsd rfl rfl (zE (oj hn_g2 (oj hn_g3 (oj hn_g6 hn_g7)))) (fun hb=>?_) (fun hb=>?_)<;>refine yS (oj hn_g2 (oj hn_g3 (oj hn_g6 hn_g7))) ?_)|(refine aw_gse rfl rfl (zE (oj hn_g2 (oj hn_g3 (oj hn_g6 hn_g7)))) (fun hb=>?_) (fun hb=>?_)<;>refine yS (oj hn_g2 (oj hn_g3 (oj hn_g6 hn_g7))) ?_)|(refine aw_gsn rfl rfl (zE (oj hn_g2 (oj hn_g3 (oj hn_g6 hn_g7)))) (fun hb=>?_) (fun hb=>?_)<;>refine yS (oj hn_g2 (oj hn_g3 (oj hn_g6 hn_g7))) ?_)|(refine aw_gs rfl rfl (zE (oj hn_g2 (oj hn_g3 (oj hn_g6 hn_g7)))) (fun hb=>?_) (fun hb=>?_)<;>fail_if_success (cases hb;done)<;>refine yS (oj hn_g2 (oj hn_g3 (oj hn_g6 hn_g7))) ?_)|(refine drk_gsd rfl rfl (zE (oj hn_g2 (oj hn_g3 (oj hn_g6 hn_g7)))) (fun hb=>?_) (fun hb=>?_)<;>refine yS (oj hn_g2 (oj hn_g3 (oj hn_g6 hn_g7))) ?_)|(refine drk_gse rfl rfl (zE (oj hn_g2 (oj hn_g3 (oj hn_g6 hn_g7)))) (fun hb=>?_) (fun hb=>?_)<;>refine yS (oj hn_g2 (oj hn_g3 (oj hn_g6 hn_g7))) ?_)|(refine drk_gsn rfl rfl (zE (oj hn_g2 (oj hn_g3 (oj hn_g6 hn_g7)))) (fun hb=>?_) (fun hb=>?_)<;>refine yS (oj hn_g2 (oj hn_g3 (oj hn_g6 hn_g7))) ?_)|(refine drk_gs rfl rfl (zE (oj hn_g2 (oj hn_g3 (oj hn_g6 hn_g7)))) (fun hb=>?_) (fun hb=>?_)<;>fail_if_success (cases hb;done)<;>refine yS (oj hn_g2 (oj hn_g3 (oj hn_g6 hn_g7))) ?_)
  ·refine yT hC (oj hn_g2 (oj hn_g3 (oj hn_g6 hn_g7))) ?_
   exact .one (.c (ler_bool (hne (by simp_all)).symm))
  ·refine yT hC (oj hn_g2 (oj hn_g3 (oj hn_g6 hn_g7))) ?_
   exact .one (.c (ler_bool (hne (by simp_all)).symm))
  ·refine yT hC (oj hn_g2 (oj hn_g3 (oj hn_g6 hn_g7))) ?_
   exact .one (.c (ler_bool (hne (fun e=>hb (by rw [(PhD.mk.inj e).2.2]))).symm))
  rename_i r1 r2
  have r3:xv.length=yv.length:=by simpa using hb
  clear hb
  refine aw_lp (fun k:Nat=>[(2,.c (.optr g2 0)),(3,.c (.optr g3 0)),(10,.c (.optr g7 0)),(101,.c (phs true a.phases)),(102,.c (.int .i64 a.phases.length)),(103,.c (.int .i64 i)),(135,.c (vls true xv)),(136,.c (.int .i64 xv.length)),(137,.c (.int .i64 k))]) (fun _=>[(g7,.cells 104 3 (ofL (phc ⟨yn,yt,yv⟩))),(g3,.cells 30 8 (ofL (mdc true b))),(g2,.cells 30 8 (ofL (mdc true a)))]) (fun k=>k≤xv.length∧∀j,j<k→xv.getD j vl0=yv.getD j vl0) (fun k=>xv.length-k) 0 (zB (oj hn_g2 (oj hn_g3 (oj hn_g6 hn_g7)))) (by first|exact .refl _|exact .cons _ (.refl _)|exact .cons_cons _ (.cons _ (.refl _))) ⟨Nat.zero_le _,fun j hj=>absurd hj om⟩ ?_
  rintro k ⟨hk,ht⟩
  repeat' first|refine yA1 (oj hn_g2 (oj hn_g3 (oj hn_g6 hn_g7))) ?_|(refine yW (oj hn_g2 (oj hn_g3 (oj hn_g6 hn_g7))) ?_;refine yS (oj hn_g2 (oj hn_g3 (oj hn_g6 hn_g7))) ?_)|refine yP (oj hn_g2 (oj hn_g3 (oj hn_g6 hn_g7))) ?_|refine yN (oj hn_g2 (oj hn_g3 (oj hn_g6 hn_g7))) ?_|refine aw_cd (zE (oj hn_g2 (oj hn_g3 (oj hn_g6 hn_g7)))) (fun hb=>?_) (fun hb=>?_)|refine aw_ce (zE (oj hn_g2 (oj hn_g3 (oj hn_g6 hn_g7)))) (fun hb=>?_) (fun hb=>?_)|refine aw_cn (zE (oj hn_g2 (oj hn_g3 (oj hn_g6 hn_g7)))) (fun hb=>?_) (fun hb=>?_)|(refine yF (oj hn_g2 (oj hn_g3 (oj hn_g6 hn_g7))) (fun hb=>?_) (fun hb=>?_)<;>fail_if_success (cases hb;done))|(refine aw_gsd rfl rfl (zE (oj hn_g2 (oj hn_g3 (oj hn_g6 hn_g7)))) (fun hb=>?_) (fun hb=>?_)<;>refine yS (oj hn_g2 (oj hn_g3 (oj hn_g6 hn_g7))) ?_)|(refine aw_gse rfl rfl (zE (oj hn_g2 (oj hn_g3 (oj hn_g6 hn_g7)))) (fun hb=>?_) (fun hb=>?_)<;>refine yS (oj hn_g2 (oj hn_g3 (oj hn_g6 hn_g7))) ?_)|(refine aw_gsn rfl rfl (zE (oj hn_g2 (oj hn_g3 (oj hn_g6 hn_g7)))) (fun hb=>?_) (fun hb=>?_)<;>refine yS (oj hn_g2 (oj hn_g3 (oj hn_g6 hn_g7))) ?_)|(refine aw_gs rfl rfl (zE (oj hn_g2 (oj hn_g3 (oj hn_g6 hn_g7)))) (fun hb=>?_) (fun hb=>?_)<;>fail_if_success (cases hb;done)<;>refine yS (oj hn_g2 (oj hn_g3 (oj hn_g6 hn_g7))) ?_)|(refine drk_gsd rfl rfl (zE (oj hn_g2 (oj hn_g3 (oj hn_g6 hn_g7)))) (fun hb=>?_) (fun hb=>?_)<;>refine yS (oj hn_g2 (oj hn_g3 (oj hn_g6 hn_g7))) ?_)|(refine drk_gse rfl rfl (zE (oj hn_g2 (oj hn_g3 (oj hn_g6 hn_g7)))) (fun hb=>?_) (fun hb=>?_)<;>refine yS (oj hn_g2 (oj hn_g3 (oj hn_g6 hn_g7))) ?_)|(refine drk_gsn rfl rfl (zE (oj hn_g2 (oj hn_g3 (oj hn_g6 hn_g7)))) (fun hb=>?_) (fun hb=>?_)<;>refine yS (oj hn_g2 (oj hn_g3 (oj hn_g6 hn_g7))) ?_)|(refine drk_gs rfl rfl (zE (oj hn_g2 (oj hn_g3 (oj hn_g6 hn_g7)))) (fun hb=>?_) (fun hb=>?_)<;>fail_if_success (cases hb;done)<;>refine yS (oj hn_g2 (oj hn_g3 (oj hn_g6 hn_g7))) ?_)
  ·have hk':=hb
   have hk2:k<yv.length:=by omega
   have ht2:=fun h=>pre_succ (d:=vl0) ht h
   have hne2:xv.getD k vl0≠yv.getD k vl0→X=false:=fun h=>hne (fun e=>h (by rw [(PhD.mk.inj e).2.2]))
   have w3:=(getD_all w1.2.2.2 vl0_o k).2
   refine yA (oj hn_g2 (oj hn_g3 (oj hn_g6 hn_g7))) fun g8 hn_g8=>?_
   repeat' first|refine yA1 (oj hn_g2 (oj hn_g3 (oj hn_g6 (oj hn_g7 hn_g8)))) ?_|(refine yW (oj hn_g2 (oj hn_g3 (oj hn_g6 (oj hn_g7 hn_g8)))) ?_;refine yS (oj hn_g2 (oj hn_g3 (oj hn_g6 (oj hn_g7 hn_g8)))) ?_)|refine yP (oj hn_g2 (oj hn_g3 (oj hn_g6 (oj hn_g7 hn_g8)))) ?_|refine yN (oj hn_g2 (oj hn_g3 (oj hn_g6 (oj hn_g7 hn_g8)))) ?_|refine aw_cd (zE (oj hn_g2 (oj hn_g3 (oj hn_g6 (oj hn_g7 hn_g8))))) (fun hb=>?_) (fun hb=>?_)|refine aw_ce (zE (oj hn_g2 (oj hn_g3 (oj hn_g6 (oj hn_g7 hn_g8))))) (fun hb=>?_) (fun hb=>?_)|refine aw_cn (zE (oj hn_g2 (oj hn_g3 (oj hn_g6 (oj hn_g7 hn_g8))))) (fun hb=>?_) (fun hb=>?_)|(refine yF (oj hn_g2 (oj hn_g3 (oj hn_g6 (oj hn_g7 hn_g8)))) (fun hb=>?_) (fun hb=>?_)<;>fail_if_success (cases hb;done))|(refine aw_gsd rfl rfl (zE (oj hn_g2 (oj hn_g3 (oj hn_g6 (oj hn_g7 hn_g8))))) (fun hb=>?_) (fun hb=>?_)<;>refine yS (oj hn_g2 (oj hn_g3 (oj hn_g6 (oj hn_g7 hn_g8)))) ?_)|(refine aw_gse rfl rfl (zE (oj hn_g2 (oj hn_g3 (oj hn_g6 (oj hn_g7 hn_g8))))) (fun hb=>?_) (fun hb=>?_)<;>refine yS (oj hn_g2 (oj hn_g3 (oj hn_g6 (oj hn_g7 hn_g8)))) ?_)|(refine aw_gsn rfl rfl (zE (oj hn_g2 (oj hn_g3 (oj hn_g6 (oj hn_g7 hn_g8))))) (fun hb=>?_) (fun hb=>?_)<;>refine yS (oj hn_g2 (oj hn_g3 (oj hn_g6 (oj hn_g7 hn_g8)))) ?_)|(refine aw_gs rfl rfl (zE (oj hn_g2 (oj hn_g3 (oj hn_g6 (oj hn_g7 hn_g8))))) (fun hb=>?_) (fun hb=>?_)<;>fail_if_success (cases hb;done)<;>refine yS (oj hn_g2 (oj hn_g3 (oj hn_g6 (oj hn_g7 hn_g8)))) ?_)|(refine drk_gsd rfl rfl (zE (oj hn_g2 (oj hn_g3 (oj hn_g6 (oj hn_g7 hn_g8))))) (fun hb=>?_) (fun hb=>?_)<;>refine yS (oj hn_g2 (oj hn_g3 (oj hn_g6 (oj hn_g7 hn_g8)))) ?_)|(refine drk_gse rfl rfl (zE (oj hn_g2 (oj hn_g3 (oj hn_g6 (oj hn_g7 hn_g8))))) (fun hb=>?_) (fun hb=>?_)<;>refine yS (oj hn_g2 (oj hn_g3 (oj hn_g6 (oj hn_g7 hn_g8)))) ?_)|(refine drk_gsn rfl rfl (zE (oj hn_g2 (oj hn_g3 (oj hn_g6 (oj hn_g7 hn_g8))))) (fun hb=>?_) (fun hb=>?_)<;>refine yS (oj hn_g2 (oj hn_g3 (oj hn_g6 (oj hn_g7 hn_g8)))) ?_)|(refine drk_gs rfl rfl (zE (oj hn_g2 (oj hn_g3 (oj hn_g6 (oj hn_g7 hn_g8))))) (fun hb=>?_) (fun hb=>?_)<;>fail_if_success (cases hb;done)<;>refine yS (oj hn_g2 (oj hn_g3 (oj hn_g6 (oj hn_g7 hn_g8)))) ?_)
   refine yA (oj hn_g2 (oj hn_g3 (oj hn_g6 (oj hn_g7 hn_g8)))) fun g9 hn_g9=>?_
   generalize xv.getD k vl0=p at*
   generalize yv.getD k vl0=q at*
   have f1:=ratEq_fa p.p q.p (wf_mono w3 (by decide))
   obtain⟨pe,pp⟩:=p
   obtain⟨qe,qp⟩:=q
   dsimp only at*
   repeat' first|refine yA1 (oj hn_g2 (oj hn_g3 (oj hn_g6 (oj hn_g7 (oj hn_g8 hn_g9))))) ?_|(refine yC2 (oj hn_g2 (oj hn_g3 (oj hn_g6 (oj hn_g7 (oj hn_g8 hn_g9))))) (f1) ?_)|(refine yD2 (oj hn_g2 (oj hn_g3 (oj hn_g6 (oj hn_g7 (oj hn_g8 hn_g9))))) (f1) ?_)|(refine yW (oj hn_g2 (oj hn_g3 (oj hn_g6 (oj hn_g7 (oj hn_g8 hn_g9))))) ?_;refine yS (oj hn_g2 (oj hn_g3 (oj hn_g6 (oj hn_g7 (oj hn_g8 hn_g9))))) ?_)|refine yP (oj hn_g2 (oj hn_g3 (oj hn_g6 (oj hn_g7 (oj hn_g8 hn_g9))))) ?_|refine yN (oj hn_g2 (oj hn_g3 (oj hn_g6 (oj hn_g7 (oj hn_g8 hn_g9))))) ?_|refine aw_cd (zE (oj hn_g2 (oj hn_g3 (oj hn_g6 (oj hn_g7 (oj hn_g8 hn_g9)))))) (fun hb=>?_) (fun hb=>?_)|refine aw_ce (zE (oj hn_g2 (oj hn_g3 (oj hn_g6 (oj hn_g7 (oj hn_g8 hn_g9)))))) (fun hb=>?_) (fun hb=>?_)|refine aw_cn (zE (oj hn_g2 (oj hn_g3 (oj hn_g6 (oj hn_g7 (oj hn_g8 hn_g9)))))) (fun hb=>?_) (fun hb=>?_)|(refine yF (oj hn_g2 (oj hn_g3 (oj hn_g6 (oj hn_g7 (oj hn_g8 hn_g9))))) (fun hb=>?_) (fun hb=>?_)<;>fail_if_success (cases hb;done))|(refine aw_gsd rfl rfl (zE (oj hn_g2 (oj hn_g3 (oj hn_g6 (oj hn_g7 (oj hn_g8 hn_g9)))))) (fun hb=>?_) (fun hb=>?_)<;>refine yS (oj hn_g2 (oj hn_g3 (oj hn_g6 (oj hn_g7 (oj hn_g8 hn_g9))))) ?_)|(refine aw_gse rfl rfl (zE (oj hn_g2 (oj hn_g3 (oj hn_g6 (oj hn_g7 (oj hn_g8 hn_g9)))))) (fun hb=>?_) (fun hb=>?_)<;>refine yS (oj hn_g2 (oj hn_g3 (oj hn_g6 (oj hn_g7 (oj hn_g8 hn_g9))))) ?_)|(refine aw_gsn rfl rfl (zE (oj hn_g2 (oj hn_g3 (oj hn_g6 (oj hn_g7 (oj hn_g8 hn_g9)))))) (fun hb=>?_) (fun hb=>?_)<;>refine yS (oj hn_g2 (oj hn_g3 (oj hn_g6 (oj hn_g7 (oj hn_g8 hn_g9))))) ?_)|(refine aw_gs rfl rfl (zE (oj hn_g2 (oj hn_g3 (oj hn_g6 (oj hn_g7 (oj hn_g8 hn_g9)))))) (fun hb=>?_) (fun hb=>?_)<;>fail_if_success (cases hb;done)<;>refine yS (oj hn_g2 (oj hn_g3 (oj hn_g6 (oj hn_g7 (oj hn_g8 hn_g9))))) ?_)|(refine drk_gsd rfl rfl (zE (oj hn_g2 (oj hn_g3 (oj hn_g6 (oj hn_g7 (oj hn_g8 hn_g9)))))) (fun hb=>?_) (fun hb=>?_)<;>refine yS (oj hn_g2 (oj hn_g3 (oj hn_g6 (oj hn_g7 (oj hn_g8 hn_g9))))) ?_)|(refine drk_gse rfl rfl (zE (oj hn_g2 (oj hn_g3 (oj hn_g6 (oj hn_g7 (oj hn_g8 hn_g9)))))) (fun hb=>?_) (fun hb=>?_)<;>refine yS (oj hn_g2 (oj hn_g3 (oj hn_g6 (oj hn_g7 (oj hn_g8 hn_g9))))) ?_)|(refine drk_gsn rfl rfl (zE (oj hn_g2 (oj hn_g3 (oj hn_g6 (oj hn_g7 (oj hn_g8 hn_g9)))))) (fun hb=>?_) (fun hb=>?_)<;>refine yS (oj hn_g2 (oj hn_g3 (oj hn_g6 (oj hn_g7 (oj hn_g8 hn_g9))))) ?_)|(refine drk_gs rfl rfl (zE (oj hn_g2 (oj hn_g3 (oj hn_g6 (oj hn_g7 (oj hn_g8 hn_g9)))))) (fun hb=>?_) (fun hb=>?_)<;>fail_if_success (cases hb;done)<;>refine yS (oj hn_g2 (oj hn_g3 (oj hn_g6 (oj hn_g7 (oj hn_g8 hn_g9))))) ?_)
   all_goals clear f1
   all_goals first
    |(refine yT hC (oj hn_g2 (oj hn_g3 (oj hn_g6 (oj hn_g7 (oj hn_g8 hn_g9))))) ?_
      exact .one (.c (ler_bool (hne2 (by simp_all)).symm)))
    |(refine aw_stop ⟨k+1,?_⟩
      have ht3:=ht2 (by simp_all)
      and_intros
      all_goals first|rfl|exact .cons _ (.cons _ (.refl _))|exact True.intro|exact ht3|omega)
  ·have r4:xv=yv:=getD_ext vl0 r3 fun j hj=>ht j om
   repeat' first|refine yA1 (oj hn_g2 (oj hn_g3 (oj hn_g6 hn_g7))) ?_|(refine yW (oj hn_g2 (oj hn_g3 (oj hn_g6 hn_g7))) ?_;refine yS (oj hn_g2 (oj hn_g3 (oj hn_g6 hn_g7))) ?_)|refine yP (oj hn_g2 (oj hn_g3 (oj hn_g6 hn_g7))) ?_|refine yN (oj hn_g2 (oj hn_g3 (oj hn_g6 hn_g7))) ?_|refine aw_cd (zE (oj hn_g2 (oj hn_g3 (oj hn_g6 hn_g7)))) (fun hb=>?_) (fun hb=>?_)|refine aw_ce (zE (oj hn_g2 (oj hn_g3 (oj hn_g6 hn_g7)))) (fun hb=>?_) (fun hb=>?_)|refine aw_cn (zE (oj hn_g2 (oj hn_g3 (oj hn_g6 hn_g7)))) (fun hb=>?_) (fun hb=>?_)|(refine yF (oj hn_g2 (oj hn_g3 (oj hn_g6 hn_g7))) (fun hb=>?_) (fun hb=>?_)<;>fail_if_success (cases hb;done))|(refine aw_gsd rfl rfl (zE (oj hn_g2 (oj hn_g3 (oj hn_g6 hn_g7)))) (fun hb=>?_) (fun hb=>?_)<;>refine yS (oj hn_g2 (oj hn_g3 (oj hn_g6 hn_g7))) ?_)|(refine aw_gse rfl rfl (zE (oj hn_g2 (oj hn_g3 (oj hn_g6 hn_g7)))) (fun hb=>?_) (fun hb=>?_)<;>refine yS (oj hn_g2 (oj hn_g3 (oj hn_g6 hn_g7))) ?_)|(refine aw_gsn rfl rfl (zE (oj hn_g2 (oj hn_g3 (oj hn_g6 hn_g7)))) (fun hb=>?_) (fun hb=>?_)<;>refine yS (oj hn_g2 (oj hn_g3 (oj hn_g6 hn_g7))) ?_)|(refine aw_gs rfl rfl (zE (oj hn_g2 (oj hn_g3 (oj hn_g6 hn_g7)))) (fun hb=>?_) (fun hb=>?_)<;>fail_if_success (cases hb;done)<;>refine yS (oj hn_g2 (oj hn_g3 (oj hn_g6 hn_g7))) ?_)|(refine drk_gsd rfl rfl (zE (oj hn_g2 (oj hn_g3 (oj hn_g6 hn_g7)))) (fun hb=>?_) (fun hb=>?_)<;>refine yS (oj hn_g2 (oj hn_g3 (oj hn_g6 hn_g7))) ?_)|(refine drk_gse rfl rfl (zE (oj hn_g2 (oj hn_g3 (oj hn_g6 hn_g7)))) (fun hb=>?_) (fun hb=>?_)<;>refine yS (oj hn_g2 (oj hn_g3 (oj hn_g6 hn_g7))) ?_)|(refine drk_gsn rfl rfl (zE (oj hn_g2 (oj hn_g3 (oj hn_g6 hn_g7)))) (fun hb=>?_) (fun hb=>?_)<;>refine yS (oj hn_g2 (oj hn_g3 (oj hn_g6 hn_g7))) ?_)|(refine drk_gs rfl rfl (zE (oj hn_g2 (oj hn_g3 (oj hn_g6 hn_g7)))) (fun hb=>?_) (fun hb=>?_)<;>fail_if_success (cases hb;done)<;>refine yS (oj hn_g2 (oj hn_g3 (oj hn_g6 hn_g7))) ?_)
   refine aw_stop ⟨i+1,?_⟩
   have hs3:=hs2 (by simp_all)
   and_intros
   all_goals first|rfl|exact .cons _ (.refl _)|exact True.intro|exact hs3|omega
 ·have q8:a.phases=b.phases:=getD_ext ph0 q6 fun j hj=>hs j om
  refine yT hC (oj hn_g2 hn_g3) ?_
  rw [←hX]
  exact .one (.c (ler_bool (dec_t (hE q1 q2 q3 q4 q7 q8))))
end Go.Proofs.YteocnikcjjonbaaGreat
