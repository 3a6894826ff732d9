/- Parts of one proof, laid by a program. -/
import Derived.Test.YtpcpaekpnfkhhaaGreatDoorM00
import Derived.Test.YtpcpaekpnfkhhaaGreatDoorM13
set_option linter.unusedSimpArgs false
set_option linter.unusedVariables false
set_option maxRecDepth 100000
set_option maxHeartbeats 12800000
namespace Go.PN
open Go.AI
theorem models_two (a b:MdD):modelsB [a,b]=(lightB a&&lightB b):=by
 unfold modelsB
 simp
theorem mds_two (a b:MdD):∀j,j<16→ofL (mdc true a++mdc true b) j=mdsF [a,b] j:=fun j hj=>by
 have:=lf_flat (s:=8) (c:=mdc true) (d:=(md0:MdD)) (xs:=[a,b]) (by decide) (fun _ _=>rfl) j hj
 exact this.symm
theorem appE (l:List EvD):appF (evsF []) 0 (evsF l)=evsF l:=by funext j;simp [appF]
theorem updE (x:EvD) (l:List EvD) (c:Int):updF (evsF (x::l)) 10 [.int .i64 c]=evsF (⟨x.name,x.p,x.fail,x.rep,c⟩::l):=by
 funext j
 show(if j=10 then CV.int .i64 c else evsF (x::l) j)=_
 by_cases h:j<11
 ·have e:∀(y:EvD),evsF (y::l) j=ofL (evc y) j:=fun y=>by
   show ofL (evc ((y::l).getD (j/11) ev0)) (j%11)=_
   rw [Nat.div_eq_of_lt h,Nat.mod_eq_of_lt h];rfl
  rw [e,e]
  match j,h with
  |0,_=>rfl
  |1,_=>rfl
  |2,_=>rfl
  |3,_=>rfl
  |4,_=>rfl
  |5,_=>rfl
  |6,_=>rfl
  |7,_=>rfl
  |8,_=>rfl
  |9,_=>rfl
  |10,_=>rfl
 ·rw [if_neg om]
  obtain⟨k,rfl⟩:∃k,j=k+11:=⟨j-11,by omega⟩
  show ofL (evc ((x::l).getD ((k+11)/11) ev0)) ((k+11)%11)=ofL (evc ((_::l).getD ((k+11)/11) ev0)) ((k+11)%11)
  rw [Nat.add_div_right k (by decide)];rfl
theorem rem1000 (n:Int) (h:0≤n):0≤remZ (n+1) 1000∧remZ (n+1) 1000≤1073741824:=by
 rw [remZ_eq,Int.tmod_eq_emod_of_nonneg om]
 omega
end Go.PN
namespace Go.Proofs.YtpcpaekpnfkhhaaGreatDoor
open Go.AI Go.PN
attribute [local irreducible] aw Fa Fh DrK
theorem lawCSame_fa (a b:MdD) {n1 n2:Nat} (ua:MdU n1 a) (ub:MdU n2 b) (hn1:n1≤1048576) (hn2:n2≤1048576):Fa Tryz.prog 4 [.agg (mdc true a),.agg (mdc true b)] (.c (.bool true)):=by
 have f0:=awake58_fa
 have hn:1048576≤1048576:=Nat.le_refl _
 replace ua:=ua.mono hn1
 replace ub:=ub.mono hn2
 have f1:=models_fa [a,b] (n:=1048576) (fun m hm=>by
  simp only [List.mem_cons,List.not_mem_nil,or_false] at hm
  rcases hm with rfl|rfl
  ·exact ua
  ·exact ub) hn (by show 2≤_;decide)
 have hcv:=mds_two a b
 have e0:errA 0=.nilI:=if_pos rfl
 rw [models_two] at f1
 refine fa_of_body Tryz.func4 rfl rfl (by simp [Tryz.ntmps4]) fun C hC=> ?_
 simp only [initS,Nat.reduceAdd]
 repeat' first|refine zV o0 ?_|refine zH o0 (fun hb=>?_) fun hb=>?_|fail
 refine xB fun g2 hn_g2=>?_
 refine yB hn_g2 fun g3 hn_g3=>?_
 all_goals try(have Z:=(oj hn_g2 hn_g3);(repeat' first|refine zV Z ?_|(refine yC2 Z (f0) ?_)|(refine yD2 Z (f0) ?_)|refine zH Z (fun hb=>?_) fun hb=>?_|fail);all_goals clear Z)
 refine aw_buildSlice (xs:=[.tmp 24,.tmp 25]) (cells:=mdc true a++mdc true b) rfl rfl rfl (zE (oj hn_g2 hn_g3)) (by refine yS (oj hn_g2 hn_g3) ?_;rfl) rfl om om (by intro z hz;simp only [List.mem_cons,List.not_mem_nil,or_false] at hz;rcases hz with rfl|rfl<;>exact⟨rfl,rfl,rfl⟩) rfl fun gl hn_gl=> ?_
 refine aw_convR (f':=mdsF [a,b]) (fun j hj S w u hr=>by rw [←hcv j hj];exact hr) ?_
 replace hn_gl:=Heap.ne_of hn_gl
 dsimp only [Heap.ne] at hn_gl
 have J1:=oj hn_g2 (oj hn_g3 hn_gl)
 refine yS J1 ?_
 by_cases hl:(lightB a&&lightB b)=true
 ·rw [hl] at f1
  rw [Bool.and_eq_true] at hl
  refine aw_callq f1 rfl rfl rfl ⟨.c (le_mds (n:=2) (zE J1)),trivial⟩ ?_
  clear f1 hcv J1
  have oa:=light_o hl.1 ua hn
  have ob:=light_o hl.2 ub hn
  have fT1:=ctext_fa a oa
  have fT2:=ctext_fa b ob
  have fS:=csame_fa a b oa ob
  refine yS (oj hn_g2 (oj hn_g3 hn_gl)) ?_
  by_cases hA:(cntR a).2=0
  ·by_cases hB:(cntR b).2=0
   ·obtain⟨a1,a2,_⟩:=cntR_0 oa hA
    obtain⟨b1,b2,_⟩:=cntR_0 ob hB
    have hg:=mcC_good a1
    have oP:=mdO_re (turnM_r a) oa
    have hct:=cnt_turn oa hA
    have hst:((cntR a).1==(cntR b).1)=decide (normM a=normM b):=by
     have:=cnt_same oa ob hA hB
     rw [Bool.eq_iff_iff,beq_iff_eq,decide_eq_true_iff];exact this
    have hsE:sameE a b=0:=by unfold sameE;rw [if_neg (fun h=>h hA)];exact hB
    have hsC:sameC a b=decide (normM a=normM b):=by unfold sameC;rw [decide_eq_true hA,decide_eq_true hB];exact hst
    have hsE2:sameE a (turnM a)=0:=by unfold sameE;rw [if_neg (fun h=>h hA),hct];exact hA
    have hsC2:sameC a (turnM a)=true:=by unfold sameC;rw [hct,decide_eq_true hA];simp
    have fN1:=pnorm_fa a oa
    have fN2:=pnorm_fa b ob
    have fR:=same_fa (normM a) (normM b) (mdO_re (normM_r a) oa) (mdO_re (normM_r b) ob)
    have fU:=turnM_fa a hg (mdN_of oa hg)
    have fV:=csame_fa a (turnM a) oa oP
    rw [if_pos a1,a1,e0] at fN1
    rw [if_pos b1,b1,e0] at fN2
    rw [hsE,hsC,e0] at fS
    rw [hsE2,hsC2,e0] at fV
    rw [hA,e0] at fT1
    rw [hB,e0] at fT2
    have hW:∀x l,a.events=x::l→∀c:Int,0≤c→c≤1073741824→(sameC a (setC a c)=true→x.cost=c)∧sameE a (setC a c)=0∧MdO (setC a c):=fun x l he c h0 h1=>by
     have hz:=cnt_setC oa hA h0 h1
     have oc:MdO (setC a c):=by
      obtain⟨nm,tp,ev,hs,gs,ps,rs,fs⟩:=a
      dsimp only at he
      subst he
      refine⟨oa.nm,oa.tp,⟨oa.ev.1,fun y hy=> ?_⟩,oa.hs,oa.gt,oa.pg,oa.gr,oa.ph⟩
      rcases List.mem_cons.1 hy with rfl|hy
      ·exact oa.ev.2 x List.mem_cons_self
      ·exact oa.ev.2 y (List.mem_cons_of_mem _ hy)
     refine⟨fun h=> ?_,by unfold sameE;rw [if_neg (fun h=>h hA)];exact hz,oc⟩
     unfold sameC at h
     rw [decide_eq_true hA,decide_eq_true hz] at h
     exact setC_norm hg he ((cnt_same oa oc hA hz).1 (beq_iff_eq.1 (by simpa using h)))
    have hcost:∀x l,a.events=x::l→0≤x.cost∧x.cost≤1073741824:=fun x l he=>by
     have:=hg.ev x (by rw [he];exact List.mem_cons_self)
     exact⟨this.2.2.2.2.1,this.2.2.2.2.2⟩
    have nE:a.events.length≤1099511627776:=Nat.le_trans hg.evl (by decide)
    have nE2:a.events.length≤1000000:=Nat.le_trans hg.evl (by decide)
    clear hct hsE hsC hsE2 hsC2 a2 b2 b1
    generalize hd:decide (normM a=normM b)=d at*
    have hdd:(d !=d)=false:=by cases d<;>rfl
    generalize (cntR a).1=s at*
    generalize (cntR b).1=t at*
    generalize normM a=na at*
    generalize normM b=nb at*
    generalize turnM a=ta at*
    all_goals try(have Z:=(oj hn_g2 (oj hn_g3 (oj hn_gl (oj hst hdd))));(repeat' first|refine zV Z ?_|(refine yC2 Z (fS) ?_)|(refine yD2 Z (fS) ?_)|(refine yC2 Z (fT1) ?_)|(refine yD2 Z (fT1) ?_)|(refine yC2 Z (fT2) ?_)|(refine yD2 Z (fT2) ?_)|refine zH Z (fun hb=>?_) fun hb=>?_|fail);all_goals clear Z)
    all_goals try(have Z:=(oj hn_g2 (oj hn_g3 (oj hn_gl (oj hst hdd))));(repeat' first|refine zV Z ?_|(refine yC2 Z (fN1) ?_)|(refine yD2 Z (fN1) ?_)|refine zH Z (fun hb=>?_) fun hb=>?_|fail);all_goals clear Z)
    refine yA (oj hn_g2 (oj hn_g3 (oj hn_gl (oj hst hdd)))) fun g12 hn_g12=>?_
    all_goals try(have Z:=(oj hn_g2 (oj hn_g3 (oj hn_gl (oj hst (oj hdd hn_g12)))));(repeat' first|refine zV Z ?_|(refine yC2 Z (fN2) ?_)|(refine yD2 Z (fN2) ?_)|refine zH Z (fun hb=>?_) fun hb=>?_|fail);all_goals clear Z)
    refine yA (oj hn_g2 (oj hn_g3 (oj hn_gl (oj hst (oj hdd hn_g12))))) fun g14 hn_g14=>?_
    all_goals try(have Z:=(oj hn_g2 (oj hn_g3 (oj hn_gl (oj hst (oj hdd (oj hn_g12 hn_g14))))));(repeat' first|refine zV Z ?_|(refine yC2 Z (fR) ?_)|(refine yD2 Z (fR) ?_)|refine zH Z (fun hb=>?_) fun hb=>?_|fail);all_goals clear Z)
    refine aw_dr 9 ty_mixed (by kernel_rfl) ?_
    all_goals try(have Z:=(oj hn_g2 (oj hn_g3 (oj hn_gl (oj hst (oj hdd (oj hn_g12 hn_g14))))));(repeat' first|refine zV Z ?_|(refine yC2 Z (fU) ?_)|(refine yD2 Z (fU) ?_)|(refine yC2 Z (fV) ?_)|(refine yD2 Z (fV) ?_)|refine zH Z (fun hb=>?_) fun hb=>?_|fail);all_goals clear Z)
    ·refine yT hC (oj hn_g2 (oj hn_g3 (oj hn_gl (oj hst (oj hdd (oj hn_g12 hn_g14)))))) ?_
     exact .one (.c (.bool _))
    clear fS fT1 fT2 fN1 fN2 fR fU fV
    obtain⟨nm,tp,ev,hs,gt,ps,rs,fs⟩:=a
    dsimp only at hb
    cases ev with
    |nil=>exact absurd rfl hb
    |cons x l=>
     obtain⟨w1,w2⟩:=hcost x l rfl
     obtain⟨r1,r2⟩:=rem1000 x.cost w1
     obtain⟨v1,v2,v3⟩:=hW x l rfl _ r1 r2
     generalize hr:remZ (x.cost+1) 1000=c at*
     have fX:=csame_fa _ _ oa v3
     rw [v2,e0] at fX
     rw [show setC ⟨nm,tp,x::l,hs,gt,ps,rs,fs⟩ c=⟨nm,tp,⟨x.name,x.p,x.fail,x.rep,c⟩::l,hs,gt,ps,rs,fs⟩ from rfl] at fX v1
     generalize sameC ⟨nm,tp,x::l,hs,gt,ps,rs,fs⟩ ⟨nm,tp,⟨x.name,x.p,x.fail,x.rep,c⟩::l,hs,gt,ps,rs,fs⟩=v at*
     dsimp only at nE nE2
     clear hW hcost
     have hz:∀(y:EvD) (l:List EvD),evsF (y::l) 10=.int .i64 y.cost:=fun _ _=>rfl
     have J2:=oj hn_g2 (oj hn_g3 (oj hn_gl (oj hst (oj hdd (oj hn_g12 (oj hn_g14 (oj hr hz)))))))
     refine yS J2 ?_
     refine yA J2 fun g18 hn_g18=>?_
     all_goals try(have Z:=(oj hn_g2 (oj hn_g3 (oj hn_gl (oj hst (oj hdd (oj hn_g12 (oj hn_g14 (oj hr (oj hz hn_g18)))))))));(repeat' first|refine zV Z ?_|refine zH Z (fun hb=>?_) fun hb=>?_|fail);all_goals clear Z)
     refine aw_buildSlice (xs:=[]) (cells:=[]) rfl rfl rfl (zE (oj hn_g2 (oj hn_g3 (oj hn_gl (oj hst (oj hdd (oj hn_g12 (oj hn_g14 (oj hr (oj hz hn_g18)))))))))) (by refine yS (oj hn_g2 (oj hn_g3 (oj hn_gl (oj hst (oj hdd (oj hn_g12 (oj hn_g14 (oj hr (oj hz hn_g18))))))))) ?_;rfl) rfl om om (by simp) rfl fun gE hn_gE=> ?_
     refine aw_conv1 (f':=evsF []) (fun j hj=>absurd hj om) ?_
     replace hn_gE:=Heap.ne_of hn_gE
     dsimp only [Heap.ne] at hn_gE
     have J3:=oj hn_g2 (oj hn_g3 (oj hn_gl (oj hst (oj hdd (oj hn_g12 (oj hn_g14 (oj hr (oj hz (oj hn_g18 hn_gE)))))))))
     refine yS J3 ?_
     all_goals repeat' first|refine zV J3 ?_|refine zH J3 (fun hb=>?_) fun hb=>?_|fail
     refine aw_append (size:=11) (z:=[.str ⟨#[]⟩,.bool false,.nils,.nils,.bool false,.nils,.nils,.bool false,.nils,.nils,.int .i64 0]) rfl rfl rfl (zE J3) (zE J3) rfl om (zE J3) (zE J3) om (zE J3) .row (fun j hj=>evsF_solid _ j) (by simp) qc om (zE J3) fun gw hn_gw=> ?_
     replace hn_gw:=Heap.ne_of hn_gw
     dsimp only [Heap.ne] at hn_gw
     rw [show 0*11=0 from rfl,appE,Nat.zero_add]
     have J4:=oj hn_g2 (oj hn_g3 (oj hn_gl (oj hst (oj hdd (oj hn_g12 (oj hn_g14 (oj hr (oj hz (oj hn_g18 (oj hn_gE hn_gw))))))))))
     refine yS J4 ?_
     all_goals repeat' first|refine zV J4 ?_|refine zH J4 (fun hb=>?_) fun hb=>?_|fail
     refine aw_cw ([(gw,.cells 54 ((x::l).length*11) (evsF (x::l))),(g18,.cells 29 8 (ofL [.str (sB nm),.str (sB tp),.osl gw 11 0 (x::l).length,hss true hs,gts true gt,pgs true ps,grs true rs,phs true fs]))]) [(0,0),(1,0),(2,0),(3,0),(4,0),(5,0),(6,0),(7,0),(8,0),(9,0),(10,0),(11,2)] ty_mixed (by kernel_rfl) eI ?_
     refine yG J4 ?_
     refine cw_store (FP':=[]) rfl rfl rfl rfl rfl (zE J4) (zE J4) (zE J4) (zE J4) (fun _ e=>by cases e) rfl rfl (by show 10+1≤(l.length+1)*11;omega) rfl has0_nil ?_
     simp only [AV.cells]
     rw [updE]
     refine yS J4 ?_
     apply wc2
     refine aw_perm (List.Perm.swap _ _ _) ?_
     refine aw_frzG (gT:=g18) (m:=8) (s:=11) (n:=(x::l).length) (j0:=2) (og:=some gw) (f':=ofL [.str (sB nm),.str (sB tp),evs true (⟨x.name,x.p,x.fail,x.rep,c⟩::l),hss true hs,gts true gt,pgs true ps,grs true rs,phs true fs]) (fp:=evsF (⟨x.name,x.p,x.fail,x.rep,c⟩::l)) rfl rfl (fun j hj hne=> ?_) (fun e=>by cases e) (fun g _=>hC g) ?_
     ·match j,hj with
      |0,_=>rfl
      |1,_=>rfl
      |2,_=>exact absurd rfl hne
      |3,_=>rfl
      |4,_=>rfl
      |5,_=>rfl
      |6,_=>rfl
      |7,_=>rfl
     refine yS J4 ?_
     cases v with
     |false=>
      all_goals repeat' first|refine zV J4 ?_|(refine yC2 J4 (fX) ?_)|(refine yD2 J4 (fX) ?_)|refine zH J4 (fun hb=>?_) fun hb=>?_|fail
      refine aw_dr 20 ty_mixed (by kernel_rfl) ?_
      all_goals repeat' first|refine zV J4 ?_|refine zH J4 (fun hb=>?_) fun hb=>?_|fail
      refine yT hC J4 ?_
      exact .one (.c (ler_bool (by simp)))
     |true=>
      have hcc:(c==x.cost)=true:=by rw [v1 rfl];exact beq_self_eq_true _
      all_goals try(have Z:=(oj hn_g2 (oj hn_g3 (oj hn_gl (oj hst (oj hdd (oj hn_g12 (oj hn_g14 (oj hr (oj hz (oj hn_g18 (oj hn_gE (oj hn_gw hcc))))))))))));(repeat' first|refine zV Z ?_|(refine yC2 Z (fX) ?_)|(refine yD2 Z (fX) ?_)|refine zH Z (fun hb=>?_) fun hb=>?_|fail);all_goals clear Z)
      refine aw_dr 20 ty_mixed (by kernel_rfl) ?_
      all_goals try(have Z:=(oj hn_g2 (oj hn_g3 (oj hn_gl (oj hst (oj hdd (oj hn_g12 (oj hn_g14 (oj hr (oj hz (oj hn_g18 (oj hn_gE (oj hn_gw hcc))))))))))));(repeat' first|refine zV Z ?_|refine zH Z (fun hb=>?_) fun hb=>?_|fail);all_goals clear Z)
      refine yT hC (oj hn_g2 (oj hn_g3 (oj hn_gl (oj hst (oj hdd (oj hn_g12 (oj hn_g14 (oj hr (oj hz (oj hn_g18 (oj hn_gE (oj hn_gw hcc)))))))))))) ?_
      exact .one (.c (ler_bool (by simp)))
   ·have hsE:sameE a b=(cntR b).2:=if_neg (fun h=>h hA)
    have hsC:sameC a b=false:=by unfold sameC;rw [decide_eq_false hB];simp
    rw [hsE,hsC] at fS
    rw [hA,e0] at fT1
    generalize (cntR b).2=c at*
    have hc1:(!decide (c=0))=true:=by rw [decide_eq_false hB];rfl
    have hc2:decide (c=0)=false:=decide_eq_false hB
    have f3:=num_fa c
    all_goals try(have Z:=(oj hn_g2 (oj hn_g3 (oj hn_gl (oj hc1 hc2))));(repeat' first|refine zV Z ?_|(refine yC2 Z (fS) ?_)|(refine yD2 Z (fS) ?_)|(refine yC2 Z (fT1) ?_)|(refine yD2 Z (fT1) ?_)|(refine yC2 Z (fT2) ?_)|(refine yD2 Z (fT2) ?_)|(refine yC2 Z (f3) ?_)|(refine yD2 Z (f3) ?_)|refine zH Z (fun hb=>?_) fun hb=>?_|fail);all_goals clear Z)
    refine yT hC (oj hn_g2 (oj hn_g3 (oj hn_gl (oj hc1 hc2)))) ?_
    exact .one (.c (ler_bool (by simp)))
  ·have hsE:sameE a b=(cntR a).2:=if_pos hA
   have hsC:sameC a b=false:=by unfold sameC;rw [decide_eq_false hA];rfl
   rw [hsE,hsC] at fS
   generalize (cntR a).2=c at*
   have hc1:(!decide (c=0))=true:=by rw [decide_eq_false hA];rfl
   have hc2:decide (c=0)=false:=decide_eq_false hA
   have f3:=num_fa c
   all_goals try(have Z:=(oj hn_g2 (oj hn_g3 (oj hn_gl (oj hc1 hc2))));(repeat' first|refine zV Z ?_|(refine yC2 Z (fS) ?_)|(refine yD2 Z (fS) ?_)|(refine yC2 Z (fT1) ?_)|(refine yD2 Z (fT1) ?_)|(refine yC2 Z (fT2) ?_)|(refine yD2 Z (fT2) ?_)|(refine yC2 Z (f3) ?_)|(refine yD2 Z (f3) ?_)|refine zH Z (fun hb=>?_) fun hb=>?_|fail);all_goals clear Z)
   refine yT hC (oj hn_g2 (oj hn_g3 (oj hn_gl (oj hc1 hc2)))) ?_
   exact .one (.c (ler_bool (by simp)))
 ·have hl':(lightB a&&lightB b)=false:=by simpa using hl
  rw [hl'] at f1
  refine aw_callq f1 rfl rfl rfl ⟨.c (le_mds (n:=2) (zE (oj hn_g2 (oj hn_g3 hn_gl)))),trivial⟩ ?_
  have J5:=oj hn_g2 (oj hn_g3 hn_gl)
  refine yS J5 ?_
  all_goals repeat' first|refine zV J5 ?_|(refine yC2 J5 (f0) ?_)|(refine yD2 J5 (f0) ?_)|refine zH J5 (fun hb=>?_) fun hb=>?_|fail
  refine yT hC J5 ?_
  exact .one (.c (.bool _))
end Go.Proofs.YtpcpaekpnfkhhaaGreatDoor
