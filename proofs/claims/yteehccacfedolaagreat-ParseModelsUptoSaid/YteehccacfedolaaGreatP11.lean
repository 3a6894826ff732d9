/- Parts of one proof, laid by a program. -/
import Derived.Test.YteehccacfedolaaGreatP00
import Derived.Test.YteehccacfedolaaGreatP10
set_option linter.unusedSimpArgs false
set_option linter.unusedVariables false
set_option maxRecDepth 100000
set_option maxHeartbeats 12800000
namespace Go.PN
open Go.AI
structure MdWf4 (m:MdD):Prop where
 l:m.groups.length≤1099511627776
 gr:∀i,(m.groups.getD i gr0).name.length≤1099511627776∧(m.groups.getD i gr0).members.length≤1048576∧(m.groups.getD i gr0).factors.length≤1099511627776
 fa:∀i k,((m.groups.getD i gr0).factors.getD k rd0).wf 1073741824
end Go.PN
namespace Go.Proofs.YteehccacfedolaaGreat
open Go.AI Go.PN
attribute [local irreducible] aw Fa Fh DrK
theorem checkGroups_fa (m:MdD) (hm:MdOk m) (hw:MdWf4 m):Fa Tryz.prog 46 [.agg (mdc true m)] (.c (errA (grsC m))):=by
 have hl:=hw.l
 refine fa_of_body Tryz.func46 rfl rfl (by simp [Tryz.ntmps46]) fun C hC=> ?_
 simp only [initS,Nat.reduceAdd]
 repeat' first|refine yA1 o0 ?_|refine zW o0 ?_|refine yP o0 ?_|refine yN o0 ?_|refine zC o0 (fun hb=>?_) fun hb=>?_|refine zG o0 (fun hb=>?_) fun hb=>?_|refine zD o0 (fun hb=>?_) fun hb=>?_
 refine xB fun g1 hn_g1=>?_
 repeat' first|refine yA1 hn_g1 ?_|refine zW hn_g1 ?_|refine yP hn_g1 ?_|refine yN hn_g1 ?_|refine zC hn_g1 (fun hb=>?_) fun hb=>?_|refine zG hn_g1 (fun hb=>?_) fun hb=>?_|refine zD hn_g1 (fun hb=>?_) fun hb=>?_
 ·refine yT hC hn_g1 ?_
  exact .one (.c (ler_errE (by unfold grsC;rw [if_pos om]) (by decide)))
 have h8:m.groups.length≤8:=by omega
 have he2:grsC m=(frsS (grC m) m.groups 0 []).1:=by
  unfold grsC
  rw [if_neg om]
 generalize hF:frsS (grC m) m.groups 0 []=F at he2
 refine aw_lp (fun x:Nat×List BS×Option Nat=>[(1,.c (.optr g1 0)),(2,.c .nilI),(3,.c (gs x.2.2 1 x.2.1.length)),(16,.c (grs true m.groups)),(17,.c (.int .i64 m.groups.length)),(18,.c (.int .i64 x.1))]) (fun x=>[(g1,.cells 30 8 (ofL (mdc true m)))]++gh x.2.2 9 x.2.1.length (strsF x.2.1)) (fun x=>x.1≤m.groups.length∧(x.2.2=none→x.2.1.length=0)∧x.2.1.length≤1048576*x.1∧frsS (grC m) (m.groups.drop x.1) x.1 x.2.1=F) (fun x=>m.groups.length-x.1) (0,[],none) (zB hn_g1) zZ ⟨Nat.zero_le _,fun _=>rfl,Nat.zero_le _,hF⟩ ?_
 rintro ⟨i,ms,og⟩ ⟨hi,hog,hsz,hlp⟩
 dsimp only at hi hog hsz hlp⊢
 simp only [List.cons_append,List.nil_append]
 repeat' first|refine yA1 hn_g1 ?_|refine zW hn_g1 ?_|refine yP hn_g1 ?_|refine yN hn_g1 ?_|refine zC hn_g1 (fun hb=>?_) fun hb=>?_|refine zG hn_g1 (fun hb=>?_) fun hb=>?_|refine zD hn_g1 (fun hb=>?_) fun hb=>?_
 ·obtain⟨w0,w1,w2⟩:=hw.gr i
  have w3:=hw.fa i
  have hi':=hb
  have hR:∀c s,grC m i (m.groups.getD i gr0) ms=(c,s)→c≠0→grsC m=c:=fun c s hc h0=>by
   rw [he2,frsS_ret hlp hi' hc h0]
  have hgo:=fun r=>frsS_go (d:=gr0) (r:=r) hlp hi'
  clear hlp
  generalize hx:m.groups.getD i gr0=x at*
  have f1:Fa Tryz.prog 40 [.c (.str (sB x.name))] (.c (.bool (nameOk x.name))):=tname_fa x.name w0
  refine yA hn_g1 fun g4 hn_g4=>?_
  all_goals try(have Z:=(oj hn_g1 hn_g4);(repeat' first|refine yA1 Z ?_|(refine yC2 Z (f1) ?_)|(refine yD2 Z (f1) ?_)|refine zW Z ?_|refine yP Z ?_|refine yN Z ?_|refine zC Z (fun hb=>?_) fun hb=>?_|refine zG Z (fun hb=>?_) fun hb=>?_|refine zD Z (fun hb=>?_) fun hb=>?_);all_goals clear Z)
  ·refine yT hC (oj hn_g1 hn_g4) ?_
   refine .one (.c (ler_errE (c:=grsC m) (hR _ ms ?_ (by decide)) (by decide)))
   unfold grC
   rw [if_pos (by simpa using hb)]
  have hn1:=hb
  refine aw_makeFunc (gs:=[g4]) rfl rfl rfl (zE (oj hn_g1 hn_g4)) ?_
  have J1:=oj hn_g1 hn_g4
  refine yS J1 ?_
  have f2:=grI_fg g4 x m.groups hl
  have f3:=facC_fa x.factors w2 w3
  obtain⟨nm,kd,mb,fc⟩:=x
  dsimp only at*
  by_cases k0:kd=0
  ·subst k0
   all_goals try(have Z:=J1;(repeat' first|refine yA1 Z ?_|(refine zg Z (f2) ?_)|refine zW Z ?_|refine yP Z ?_|refine yN Z ?_|refine zC Z (fun hb=>?_) fun hb=>?_|refine zG Z (fun hb=>?_) fun hb=>?_|refine zD Z (fun hb=>?_) fun hb=>?_);all_goals clear Z)
   all_goals clear f1 f2
   ·refine yT hC J1 ?_
    refine .one (.c (ler_errE (c:=grsC m) (hR _ ms ?_ (by decide)) (by decide)))
    unfold grC
    repeat' split
    all_goals first|rfl|(exfalso;simp_all;done)|(exfalso;simp_all;omega)
   ·refine yT hC J1 ?_
    refine .one (.c (ler_errE (c:=grsC m) (hR _ ms ?_ (by decide)) (by decide)))
    unfold grC
    repeat' split
    all_goals first|rfl|(exfalso;simp_all;done)|(exfalso;simp_all;omega)
   ·refine yT hC J1 ?_
    refine .one (.c (ler_errE (c:=grsC m) (hR _ ms ?_ (by decide)) (by decide)))
    unfold grC
    repeat' split
    all_goals first|rfl|(exfalso;simp_all;done)|(exfalso;simp_all;omega)
   ·refine yT hC J1 ?_
    refine .one (.c (ler_errE (c:=grsC m) (hR _ ms ?_ (by decide)) (by decide)))
    unfold grC
    repeat' split
    all_goals first|rfl|(exfalso;simp_all;done)|(exfalso;simp_all;omega)
   have hff:=hb
   generalize hF2:frsS (meC m) mb 0 ms=F2
   have hQ:grC m i ⟨nm,0,mb,fc⟩ ms=(if F2.1≠0 then F2 else if fc.all RD.prob=false then(3,ms) else(0,F2.2)):=by
    unfold grC
    dsimp only
    rw [hF2]
    rw [if_neg (by simpa using hn1),if_neg (by assumption),if_neg (by decide),if_neg (by simp;omega)]
   refine aw_lp (fun y:Nat×List BS×Option Nat=>[(1,.c (.optr g1 0)),(2,.c .nilI),(3,.c (gs y.2.2 1 y.2.1.length)),(5,.c (.optr g4 0)),(16,.c (grs true m.groups)),(17,.c (.int .i64 m.groups.length)),(18,.c (.int .i64 i)),(71,.c (strs true mb)),(72,.c (.int .i64 mb.length)),(73,.c (.int .i64 y.1))]) (fun y=>[(g4,.cells 78 4 (ofL (grc ⟨nm,0,mb,fc⟩))),(g1,.cells 30 8 (ofL (mdc true m)))]++gh y.2.2 9 y.2.1.length (strsF y.2.1)) (fun y=>y.1≤mb.length∧(y.2.2=none→y.2.1.length=0)∧y.2.1.length≤ms.length+y.1∧frsS (meC m) (mb.drop y.1) y.1 y.2.1=F2) (fun y=>mb.length-y.1) (0,ms,og) (zB J1) zZ ⟨Nat.zero_le _,hog,by dsimp only;omega,hF2⟩ ?_
   rintro ⟨j,sq,oq⟩ ⟨hj,hoq,hsq,hlq⟩
   dsimp only at hj hoq hsq hlq⊢
   simp only [List.cons_append,List.nil_append]
   all_goals try(have Z:=J1;(repeat' first|refine yA1 Z ?_|(refine yC2 Z (f3) ?_)|(refine yD2 Z (f3) ?_)|refine zW Z ?_|refine yP Z ?_|refine yN Z ?_|refine zC Z (fun hb=>?_) fun hb=>?_|refine zG Z (fun hb=>?_) fun hb=>?_|refine zD Z (fun hb=>?_) fun hb=>?_);all_goals clear Z)
   ·have hj':=hb
    have hq2:=fun r=>frsS_ret (d:=([]:BS)) (r:=r) hlq hj'
    have hqg:=fun r=>frsS_go (d:=([]:BS)) (r:=r) hlq hj'
    clear hlq J1
    generalize hy:mb.getD j []=y at*
    have hR2:∀c s,meC m j y sq=(c,s)→c≠0→grsC m=c:=fun c s h1 h2=>by
     have a1:=hq2 _ h1 h2
     refine hR c s ?_ h2
     rw [hQ,a1]
     exact if_pos h2
    have f5:=event_fa m y hm.ev
    have f4:=scontF_fa sq y om
    all_goals try(have Z:=(oj hn_g1 hn_g4);(repeat' first|refine yA1 Z ?_|(refine yC2 Z (f5) ?_)|(refine yD2 Z (f5) ?_)|refine zW Z ?_|refine yP Z ?_|refine yN Z ?_|refine zC Z (fun hb=>?_) fun hb=>?_|refine zG Z (fun hb=>?_) fun hb=>?_|refine zD Z (fun hb=>?_) fun hb=>?_);all_goals clear Z)
    ·refine yT hC (oj hn_g1 hn_g4) ?_
     refine .one (.c (ler_errE (c:=grsC m) (hR2 _ sq ?_ (by decide)) (by decide)))
     unfold meC evI
     rw [if_pos hb]
    have h5:=hb
    refine aw_nd fun hnd=> ?_
    refine aw_callq f4 rfl rfl rfl (by refine yS (oj hn_g1 hn_g4) ?_;exact⟨.c (le_gst (pre:=[(g4,.cells 78 4 (ofL (grc ⟨nm,0,mb,fc⟩))),(g1,.cells 30 8 (ofL (mdc true m)))]) hoq hnd),.c (.refl _)⟩) ?_
    have J2:=oj hn_g1 hn_g4
    refine yS J2 ?_
    all_goals try(have Z:=J2;(repeat' first|refine yA1 Z ?_|refine zW Z ?_|refine yP Z ?_|refine yN Z ?_|refine zC Z (fun hb=>?_) fun hb=>?_|refine zG Z (fun hb=>?_) fun hb=>?_|refine zD Z (fun hb=>?_) fun hb=>?_);all_goals clear Z)
    ·refine yT hC J2 ?_
     refine .one (.c (ler_errE (c:=grsC m) (hR2 _ sq ?_ (by decide)) (by decide)))
     unfold meC evI
     rw [if_neg h5,if_pos hb]
    ·have hz:meC m j y sq=(0,sq++[y]):=by
      unfold meC evI
      rw [if_neg h5,if_neg (by simpa using hb)]
     have hq:=hqg _ hz rfl
     have hln:(sq++[y]).length=sq.length+1:=by rw [List.length_append];rfl
     refine aw_push (pre:=[(g4,.cells 78 4 (ofL (grc ⟨nm,0,mb,fc⟩))),(g1,.cells 30 8 (ofL (mdc true m)))]) rfl rfl rfl rfl rfl rfl rfl (zE J2) (zE J2) (by rfl) om om (zE J2) om (by exact hoq) (zE J2) (by rfl) (by rfl) (by first|rfl|simp only [Nat.mul_one,List.nil_append,List.cons_append]<;>rfl) (by unfold maxLen;omega) om (by exact strs_push rfl y) fun gb hn_gb=> ?_
     replace hn_gb:=Heap.ne_of hn_gb
     first|dsimp only [Heap.ne,gh] at hn_gb|dsimp only [Heap.ne] at hn_gb|skip
     refine yS (oj hn_g1 (oj hn_g4 hn_gb)) ?_
     all_goals try(have Z:=(oj hn_g1 (oj hn_g4 hn_gb));(repeat' first|refine yA1 Z ?_|refine zW Z ?_|refine yP Z ?_|refine yN Z ?_|refine zC Z (fun hb=>?_) fun hb=>?_|refine zG Z (fun hb=>?_) fun hb=>?_|refine zD Z (fun hb=>?_) fun hb=>?_);all_goals clear Z)
     refine aw_stop ⟨(j+1,sq++[y],some gb),?_⟩
     dsimp only
     simp only [hln]
     and_intros
     all_goals first|rfl|exact List.Sublist.refl _|exact List.sublist_cons_self _ _|exact True.intro|exact some_ne|exact hq|omega
   ·rename_i hj0
    have hF0:=frsS_fin hlq hj0
    refine yT hC (oj hn_g1 hn_g4) ?_
    refine .one (.c (ler_errE (c:=grsC m) (hR _ ms ?_ (by decide)) (by decide)))
    rw [hQ,hF0,if_neg (by simp),if_pos (by simpa using hb)]
   ·rename_i hj0
    have hF0:=frsS_fin hlq hj0
    have hz:grC m i ⟨nm,0,mb,fc⟩ ms=(0,sq):=by
     rw [hQ,hF0,if_neg (by simp),if_neg (by simpa using hb)]
    have hq:=hgo _ hz rfl
    refine aw_stop ⟨(i+1,sq,oq),?_⟩
    and_intros
    all_goals first|rfl|exact List.Sublist.refl _|exact List.sublist_cons_self _ _|exact True.intro|exact hoq|exact hq|(dsimp only;omega)
  by_cases k1:kd=1
  ·subst k1
   all_goals try(have Z:=(oj hn_g1 hn_g4);(repeat' first|refine yA1 Z ?_|(refine zg Z (f2) ?_)|refine zW Z ?_|refine yP Z ?_|refine yN Z ?_|refine zC Z (fun hb=>?_) fun hb=>?_|refine zG Z (fun hb=>?_) fun hb=>?_|refine zD Z (fun hb=>?_) fun hb=>?_);all_goals clear Z)
   ·refine yT hC (oj hn_g1 hn_g4) ?_
    refine .one (.c (ler_errE (c:=grsC m) (hR _ ms ?_ (by decide)) (by decide)))
    unfold grC
    repeat' split
    all_goals first|rfl|(exfalso;simp_all;done)|(exfalso;simp_all;omega)
   refine aw_dr 6 ty_mixed (by kernel_rfl) ?_
   all_goals try(have Z:=(oj hn_g1 hn_g4);(repeat' first|refine yA1 Z ?_|refine zW Z ?_|refine yP Z ?_|refine yN Z ?_|refine zC Z (fun hb=>?_) fun hb=>?_|refine zG Z (fun hb=>?_) fun hb=>?_|refine zD Z (fun hb=>?_) fun hb=>?_);all_goals clear Z)
   all_goals clear f1 f2
   ·refine yT hC (oj hn_g1 hn_g4) ?_
    refine .one (.c (ler_errE (c:=grsC m) (hR _ ms ?_ (by decide)) (by decide)))
    unfold grC
    repeat' split
    all_goals first|rfl|(exfalso;simp_all;done)|(exfalso;simp_all;omega)
   ·refine yT hC (oj hn_g1 hn_g4) ?_
    refine .one (.c (ler_errE (c:=grsC m) (hR _ ms ?_ (by decide)) (by decide)))
    unfold grC
    repeat' split
    all_goals first|rfl|(exfalso;simp_all;done)|(exfalso;simp_all;omega)
   ·refine yT hC (oj hn_g1 hn_g4) ?_
    refine .one (.c (ler_errE (c:=grsC m) (hR _ ms ?_ (by decide)) (by decide)))
    unfold grC
    repeat' split
    all_goals first|rfl|(exfalso;simp_all;done)|(exfalso;simp_all;omega)
   have hff:=hb
   generalize hF2:frsS (meC m) mb 0 ms=F2
   have hQ:grC m i ⟨nm,1,mb,fc⟩ ms=(if F2.1≠0 then F2 else if fc.all RD.prob=false then(3,ms) else(0,F2.2)):=by
    unfold grC
    dsimp only
    rw [hF2]
    rw [if_neg (by simpa using hn1),if_neg (by assumption),if_neg (by decide),if_neg (by simp;omega)]
   refine aw_lp (fun y:Nat×List BS×Option Nat=>[(1,.c (.optr g1 0)),(2,.c .nilI),(3,.c (gs y.2.2 1 y.2.1.length)),(5,.c (.optr g4 0)),(16,.c (grs true m.groups)),(17,.c (.int .i64 m.groups.length)),(18,.c (.int .i64 i)),(71,.c (strs true mb)),(72,.c (.int .i64 mb.length)),(73,.c (.int .i64 y.1))]) (fun y=>[(g4,.cells 78 4 (ofL (grc ⟨nm,1,mb,fc⟩))),(g1,.cells 30 8 (ofL (mdc true m)))]++gh y.2.2 9 y.2.1.length (strsF y.2.1)) (fun y=>y.1≤mb.length∧(y.2.2=none→y.2.1.length=0)∧y.2.1.length≤ms.length+y.1∧frsS (meC m) (mb.drop y.1) y.1 y.2.1=F2) (fun y=>mb.length-y.1) (0,ms,og) (zB (oj hn_g1 hn_g4)) zZ ⟨Nat.zero_le _,hog,by dsimp only;omega,hF2⟩ ?_
   rintro ⟨j,sq,oq⟩ ⟨hj,hoq,hsq,hlq⟩
   dsimp only at hj hoq hsq hlq⊢
   simp only [List.cons_append,List.nil_append]
   all_goals try(have Z:=(oj hn_g1 hn_g4);(repeat' first|refine yA1 Z ?_|(refine yC2 Z (f3) ?_)|(refine yD2 Z (f3) ?_)|refine zW Z ?_|refine yP Z ?_|refine yN Z ?_|refine zC Z (fun hb=>?_) fun hb=>?_|refine zG Z (fun hb=>?_) fun hb=>?_|refine zD Z (fun hb=>?_) fun hb=>?_);all_goals clear Z)
   ·have hj':=hb
    have hq2:=fun r=>frsS_ret (d:=([]:BS)) (r:=r) hlq hj'
    have hqg:=fun r=>frsS_go (d:=([]:BS)) (r:=r) hlq hj'
    clear hlq
    generalize hy:mb.getD j []=y at*
    have hR2:∀c s,meC m j y sq=(c,s)→c≠0→grsC m=c:=fun c s h1 h2=>by
     have a1:=hq2 _ h1 h2
     refine hR c s ?_ h2
     rw [hQ,a1]
     exact if_pos h2
    have f5:=event_fa m y hm.ev
    have f4:=scontF_fa sq y om
    all_goals try(have Z:=(oj hn_g1 hn_g4);(repeat' first|refine yA1 Z ?_|(refine yC2 Z (f5) ?_)|(refine yD2 Z (f5) ?_)|refine zW Z ?_|refine yP Z ?_|refine yN Z ?_|refine zC Z (fun hb=>?_) fun hb=>?_|refine zG Z (fun hb=>?_) fun hb=>?_|refine zD Z (fun hb=>?_) fun hb=>?_);all_goals clear Z)
    ·refine yT hC (oj hn_g1 hn_g4) ?_
     refine .one (.c (ler_errE (c:=grsC m) (hR2 _ sq ?_ (by decide)) (by decide)))
     unfold meC evI
     rw [if_pos hb]
    have h5:=hb
    refine aw_nd fun hnd=> ?_
    refine aw_callq f4 rfl rfl rfl (by refine yS (oj hn_g1 hn_g4) ?_;exact⟨.c (le_gst (pre:=[(g4,.cells 78 4 (ofL (grc ⟨nm,1,mb,fc⟩))),(g1,.cells 30 8 (ofL (mdc true m)))]) hoq hnd),.c (.refl _)⟩) ?_
    have J3:=oj hn_g1 hn_g4
    refine yS J3 ?_
    all_goals try(have Z:=J3;(repeat' first|refine yA1 Z ?_|refine zW Z ?_|refine yP Z ?_|refine yN Z ?_|refine zC Z (fun hb=>?_) fun hb=>?_|refine zG Z (fun hb=>?_) fun hb=>?_|refine zD Z (fun hb=>?_) fun hb=>?_);all_goals clear Z)
    ·refine yT hC J3 ?_
     refine .one (.c (ler_errE (c:=grsC m) (hR2 _ sq ?_ (by decide)) (by decide)))
     unfold meC evI
     rw [if_neg h5,if_pos hb]
    ·have hz:meC m j y sq=(0,sq++[y]):=by
      unfold meC evI
      rw [if_neg h5,if_neg (by simpa using hb)]
     have hq:=hqg _ hz rfl
     have hln:(sq++[y]).length=sq.length+1:=by rw [List.length_append];rfl
     refine aw_push (pre:=[(g4,.cells 78 4 (ofL (grc ⟨nm,1,mb,fc⟩))),(g1,.cells 30 8 (ofL (mdc true m)))]) rfl rfl rfl rfl rfl rfl rfl (zE J3) (zE J3) (by rfl) om om (zE J3) om (by exact hoq) (zE J3) (by rfl) (by rfl) (by first|rfl|simp only [Nat.mul_one,List.nil_append,List.cons_append]<;>rfl) (by unfold maxLen;omega) om (by exact strs_push rfl y) fun gb hn_gb=> ?_
     replace hn_gb:=Heap.ne_of hn_gb
     first|dsimp only [Heap.ne,gh] at hn_gb|dsimp only [Heap.ne] at hn_gb|skip
     refine yS (oj hn_g1 (oj hn_g4 hn_gb)) ?_
     all_goals try(have Z:=(oj hn_g1 (oj hn_g4 hn_gb));(repeat' first|refine yA1 Z ?_|refine zW Z ?_|refine yP Z ?_|refine yN Z ?_|refine zC Z (fun hb=>?_) fun hb=>?_|refine zG Z (fun hb=>?_) fun hb=>?_|refine zD Z (fun hb=>?_) fun hb=>?_);all_goals clear Z)
     refine aw_stop ⟨(j+1,sq++[y],some gb),?_⟩
     dsimp only
     simp only [hln]
     and_intros
     all_goals first|rfl|exact List.Sublist.refl _|exact List.sublist_cons_self _ _|exact True.intro|exact some_ne|exact hq|omega
   ·rename_i hj0
    have hF0:=frsS_fin hlq hj0
    refine yT hC (oj hn_g1 hn_g4) ?_
    refine .one (.c (ler_errE (c:=grsC m) (hR _ ms ?_ (by decide)) (by decide)))
    rw [hQ,hF0,if_neg (by simp),if_pos (by simpa using hb)]
   ·rename_i hj0
    have hF0:=frsS_fin hlq hj0
    have hz:grC m i ⟨nm,1,mb,fc⟩ ms=(0,sq):=by
     rw [hQ,hF0,if_neg (by simp),if_neg (by simpa using hb)]
    have hq:=hgo _ hz rfl
    refine aw_stop ⟨(i+1,sq,oq),?_⟩
    and_intros
    all_goals first|rfl|exact List.Sublist.refl _|exact List.sublist_cons_self _ _|exact True.intro|exact hoq|exact hq|(dsimp only;omega)
  ·all_goals try(have Z:=(oj hn_g1 hn_g4);(repeat' first|refine yA1 Z ?_|(refine zg Z (f2) ?_)|refine zW Z ?_|refine yP Z ?_|refine yN Z ?_|refine zC Z (fun hb=>?_) fun hb=>?_|refine zG Z (fun hb=>?_) fun hb=>?_|refine zD Z (fun hb=>?_) fun hb=>?_);all_goals clear Z)
   all_goals clear f1 f2
   all_goals first
    |(exfalso;omega)
    |(refine yT hC (oj hn_g1 hn_g4) ?_
      refine .one (.c (ler_errE (c:=grsC m) (hR _ ms ?_ (by decide)) (by decide)))
      unfold grC
      repeat' split
      all_goals first|rfl|(exfalso;simp_all;done)|(exfalso;simp_all;omega))
 ·have hF0:=frsS_fin hlp hb
  subst hF0
  refine yT hC hn_g1 ?_
  exact .one (.c (ler_err0 he2))
end Go.Proofs.YteehccacfedolaaGreat
namespace Go.PN
open Go.AI
def resK (m:MdD) (k:Nat) (n:BS):Nat:=if bAt n 0=64 then(pgI m (n.drop 1)+1).toNat else k
def resN (m:MdD) (n:BS):BS:=if bAt n 0=64 then(m.pages.getD (pgI m (n.drop 1)).toNat pg0).top else n
def resA (m:MdD) (k:Nat) (n:BS):Int×Int×Int:=if evI m n≥0 then(0,0,evI m n) else if hsI m n≥0 then(1,0,hsI m n) else(2,(k:Int)-1,gtI (gtsK m k) n)
def resP (m:MdD) (k:Nat) (n:BS):Int×Int×Int:=resA m (resK m k n) (resN m n)
abbrev thA (t:Int×Int×Int):AV:=.agg [.int .i64 t.1,.int .i64 t.2.1,.int .i64 t.2.2]
end Go.PN
namespace Go.Proofs.YteehccacfedolaaGreat
open Go.AI Go.PN
attribute [local irreducible] aw Fa Fh DrK
theorem resolve_fa (m:MdD) (k:Nat) (n:BS) (hk:k≤m.pages.length) (hm:MdOk m) (hw2:MdWf2 m) (h0:0<n.length) (hn:n.length≤1099511627776) (hpg:bAt n 0=64→0≤pgI m (n.drop 1)):Fa Tryz.prog 134 [.agg (mdc true m),.c (.int .i64 ((k:Int)-1)),.c (.str (sB n))] (thA (resP m k n)):=by
 have hpl:=hw2.pl
 refine fa_of_body Tryz.func134 rfl rfl (by simp [Tryz.ntmps134]) fun C hC=> ?_
 simp only [initS,Nat.reduceAdd]
 repeat' first|refine yA1 o0 ?_|refine zW o0 ?_|refine yP o0 ?_|refine yN o0 ?_|refine zC o0 (fun hb=>?_) fun hb=>?_|refine zG o0 (fun hb=>?_) fun hb=>?_|refine zD o0 (fun hb=>?_) fun hb=>?_
 refine xB fun g1 hn_g1=>?_
 repeat' first|refine yA1 hn_g1 ?_|refine zW hn_g1 ?_|refine yP hn_g1 ?_|refine yN hn_g1 ?_|refine zC hn_g1 (fun hb=>?_) fun hb=>?_|refine zG hn_g1 (fun hb=>?_) fun hb=>?_|refine zD hn_g1 (fun hb=>?_) fun hb=>?_
 refine yA hn_g1 fun g2 hn_g2=>?_
 all_goals try(have Z:=(oj hn_g1 hn_g2);(repeat' first|refine yA1 Z ?_|refine zW Z ?_|refine yP Z ?_|refine yN Z ?_|refine zC Z (fun hb=>?_) fun hb=>?_|refine zG Z (fun hb=>?_) fun hb=>?_|refine zD Z (fun hb=>?_) fun hb=>?_);all_goals clear Z)
 ·have h64:=hb
  obtain⟨q,hq⟩:∃q:Nat,pgI m (n.drop 1)=q:=⟨(pgI m (n.drop 1)).toNat,by have:=hpg h64;omega⟩
  have hql:q<m.pages.length:=by
   have:=fidx_lt (fun x:PgD=>x.name==n.drop 1) m.pages
   rw [show fidx (fun x:PgD=>x.name==n.drop 1) m.pages=(q:Int) from hq] at this
   omega
  have f1:=page_fa m (cutS n 1 n.length) hm.pg
  rw [cutS_drop,show fidx (fun x:PgD=>x.name==n.drop 1) m.pages=(q:Int) from hq,←cutS_drop] at f1
  have e1:resP m k n=resA m (q+1) (m.pages.getD q pg0).top:=by
   unfold resP resK resN
   rw [if_pos h64,if_pos h64,hq]
   rfl
  rw [e1]
  have hgl:=gtsK_len hw2 (q+1)
  have f4:=gatesOf_fa m (q+1) om hm.pg
  rw [show((q+1:Nat):Int)-1=q from by omega] at f4
  refine aw_dr 5 ty_mixed (by kernel_rfl) ?_
  all_goals try(have Z:=(oj hn_g1 hn_g2);(repeat' first|refine yA1 Z ?_|(refine yC2 Z (f1) ?_)|(refine yD2 Z (f1) ?_)|refine zW Z ?_|refine yP Z ?_|refine yN Z ?_|refine zC Z (fun hb=>?_) fun hb=>?_|refine zG Z (fun hb=>?_) fun hb=>?_|refine zD Z (fun hb=>?_) fun hb=>?_);all_goals clear Z)
  generalize hN:(m.pages.getD q pg0).top=N at*
  have f2:=event_fa m N hm.ev
  have f3:=house_fa m N hm.hs
  have f5:=gate_fa (gtsK m (q+1)) N om
  all_goals try(have Z:=(oj hn_g1 hn_g2);(repeat' first|refine yA1 Z ?_|(refine yC2 Z (f2) ?_)|(refine yD2 Z (f2) ?_)|(refine yC2 Z (f3) ?_)|(refine yD2 Z (f3) ?_)|(refine yC2 Z (f4) ?_)|(refine yD2 Z (f4) ?_)|(refine yC2 Z (f5) ?_)|(refine yD2 Z (f5) ?_)|refine zW Z ?_|refine yP Z ?_|refine yN Z ?_|refine zC Z (fun hb=>?_) fun hb=>?_|refine zG Z (fun hb=>?_) fun hb=>?_|refine zD Z (fun hb=>?_) fun hb=>?_);all_goals clear Z)
  ·refine yT hC (oj hn_g1 hn_g2) ?_
   rw [show resA m (q+1) N=(0,0,evI m N) from if_pos hb]
   exact .one (.agg ⟨.int _ _,.int _ _,.int _ _,trivial⟩)
  ·rename_i h1
   refine yT hC (oj hn_g1 hn_g2) ?_
   rw [show resA m (q+1) N=(1,0,hsI m N) from(if_neg h1).trans (if_pos hb)]
   exact .one (.agg ⟨.int _ _,.int _ _,.int _ _,trivial⟩)
  ·rename_i h1
   refine yT hC (oj hn_g1 hn_g2) ?_
   rw [show resA m (q+1) N=(2,(((q+1):Nat):Int)-1,gtI (gtsK m (q+1)) N) from(if_neg h1).trans (if_neg hb)]
   exact .one (.agg ⟨.int _ _,ler_int (by dsimp only;omega),.int _ _,trivial⟩)
 ·have e1:resP m k n=resA m k n:=by
   unfold resP resK resN
   rw [if_neg hb,if_neg hb]
  rw [e1]
  clear e1 hpg
  generalize n=N at*
  have hgl:=gtsK_len hw2 k
  have f4:=gatesOf_fa m k hk hm.pg
  have f2:=event_fa m N hm.ev
  have f3:=house_fa m N hm.hs
  have f5:=gate_fa (gtsK m k) N om
  all_goals try(have Z:=(oj hn_g1 hn_g2);(repeat' first|refine yA1 Z ?_|(refine yC2 Z (f2) ?_)|(refine yD2 Z (f2) ?_)|(refine yC2 Z (f3) ?_)|(refine yD2 Z (f3) ?_)|(refine yC2 Z (f4) ?_)|(refine yD2 Z (f4) ?_)|(refine yC2 Z (f5) ?_)|(refine yD2 Z (f5) ?_)|refine zW Z ?_|refine yP Z ?_|refine yN Z ?_|refine zC Z (fun hb=>?_) fun hb=>?_|refine zG Z (fun hb=>?_) fun hb=>?_|refine zD Z (fun hb=>?_) fun hb=>?_);all_goals clear Z)
  ·refine yT hC (oj hn_g1 hn_g2) ?_
   rw [show resA m k N=(0,0,evI m N) from if_pos hb]
   exact .one (.agg ⟨.int _ _,.int _ _,.int _ _,trivial⟩)
  ·rename_i h1
   refine yT hC (oj hn_g1 hn_g2) ?_
   rw [show resA m k N=(1,0,hsI m N) from(if_neg h1).trans (if_pos hb)]
   exact .one (.agg ⟨.int _ _,.int _ _,.int _ _,trivial⟩)
  ·rename_i h1
   refine yT hC (oj hn_g1 hn_g2) ?_
   rw [show resA m k N=(2,((k:Nat):Int)-1,gtI (gtsK m k) N) from(if_neg h1).trans (if_neg hb)]
   exact .one (.agg ⟨.int _ _,.int _ _,.int _ _,trivial⟩)
end Go.Proofs.YteehccacfedolaaGreat
namespace Go.AI
def kvSet {α:Type} [DecidableEq α] (a:α) (v:Value):List (α×Value)→List (α×Value)
 |[]=>[]
 |p::kv=>if a=p.1 then(p.1,v)::kv else p::kvSet a v kv
theorem modSpec {α:Type} [DecidableEq α] {K:α→Value} (a:α) (v:Value):∀(kv:List (α×Value)) (es:List MapEntry) (n i:Nat) (x:Value),es.map (fun e=>(e.key,e.val))=kv.map (fun p=>(K p.1,p.2))→fAsk a (kv.map (·.1)) es n=some (i,x)→∃j,i=n+j∧(es[j]?).map (·.key)=some (K a)∧(es.modify j (fun e=>{e with key:=K a,val:=v})).map (fun e=>(e.key,e.val))=(kvSet a v kv).map (fun p=>(K p.1,p.2))
 |[],[],_,_,_,_,h=>by cases h
 |[],_::_,_,_,_,h,_=>by simp at h
 |_::_,[],_,_,_,h,_=>by simp at h
 |p::kv,e::es,n,i,x,h,hf=>by
  simp only [List.map_cons,List.cons.injEq,Prod.mk.injEq] at h
  simp only [List.map_cons,fAsk] at hf
  split at hf
  ·rename_i ha
   injection hf with hf
   injection hf with h1 h2
   refine⟨0,h1.symm,?_,?_⟩
   ·simp [h.1.1,ha]
   ·simp only [kvSet,if_pos ha]
    simp [h.2,ha]
  ·rename_i ha
   obtain⟨j,hj,hk,hm⟩:=modSpec a v kv es (n+1) i x h.2 hf
   refine⟨j+1,by omega,by simpa using hk,?_⟩
   simp only [kvSet,if_neg ha]
   simp [hm,h.1.1,h.1.2]
section
variable {E : Env} {K : List It} {σ σ' : Sl} {h : Heap} {all rest : List Oper} {o : Oper}
theorem aw_mapSet {α:Type} [DecidableEq α] {Kf:α→Value} {t kt et g:TypeId} {kv:List (α×Value)} {x ky vl:Operand} {ck cv:AV} {a:α} {v:Value} (hop:o.op=.mapUpdate t x ky vl) (hdn:o.dst=none) (hw:wantA all σ o=some true)
  (ht:tMap E.P t=some (kt,et)) (hK:KeyOk E.P kt Kf) (hsb:Instr.sameBits 10000 (Kf a) (Kf a)=true) (hx:ev σ x=.c (.raw (.map (some g)))) (hg:h.get g=some (.gen (MapI Kf kv))) (hk:ev σ ky=ck) (hka:∀S w u,Rep S w ck u→u=Kf a) (hv:ev σ vl=cv) (hva:∀S w u,Rep S w cv u→u=v)
  (hold:(kvGet a kv).isSome=true) {h':Heap} (hh:h.set g (.gen (MapI Kf (kvSet a v kv)))=h') (k:aw E (.ops all rest::K) σ h'):aw E (.ops all (o::rest)::K) σ h:=by
 subst hh
 refine aw_step hw (fun ac w s=> ?_) k
 have h1:=ev_rep s x
 rw [hx] at h1
 have h1':ac.eval x=.map (some g):=h1
 have h2:=ev_rep s ky
 rw [hk] at h2
 have h2':=hka _ _ _ h2
 have h3:=ev_rep s vl
 rw [hv] at h3
 have h3':=hva _ _ _ h3
 obtain⟨ob,hb,es,c,rfl,hes⟩:=s.heap g _ (Heap.get_mem hg)
 have hkeys:es.toList.map (·.key)=(kv.map (·.1)).map Kf:=by
  have:=congrArg (List.map Prod.fst) hes
  rw [List.map_map,List.map_map] at this
  rw [List.map_map]
  exact this
 have hfind:=hK.find a (kv.map (·.1)) es.toList w hkeys
 have hget:=fAsk_get (K:=Kf) a kv es.toList 0 hes
 obtain⟨i,y,hsome⟩:∃i y,fAsk a (kv.map (·.1)) es.toList 0=some (i,y):=by
  cases hf:fAsk a (kv.map (·.1)) es.toList 0 with
  |none=>rw [hf] at hget;rw [←hget] at hold;cases hold
  |some p=>exact⟨p.1,p.2,rfl⟩
 obtain⟨j,hj,hkj,hmod⟩:=modSpec (K:=Kf) a v kv es.toList 0 i y hes hsome
 rw [Nat.zero_add] at hj
 subst hj
 have hgl:g<w.heap.size:=(Array.getElem?_eq_some_iff.1 hb).1
 let w':World:={w with heap:=w.heap.setIfInBounds g (.map (es.modify i fun e=>{e with key:=Kf a,val:=v}) c)}
 have hki:((es[i]?).map (·.key)).getD (Kf a)=Kf a:=by
  rw [←Array.getElem?_toList,hkj];rfl
 have hrun:(Instr.mapUpdate t (ac.eval x) (ac.eval ky) (ac.eval vl)).run E.P w=.ok () w':=by
  rw [h1',h2',h3']
  unfold Instr.mapUpdate
  simp only [Sem.run_bind,run_underlying (tMap_spec ht),Result.andThen_ok,runGet hb,hK.check,hfind,hsome,hki]
  unfold Instr.keyThatStays
  rw [if_pos hsb]
  simp only [Sem.run_pure,Result.andThen_ok,runSet _ hb]
  rfl
 refine⟨undef,w',.inr ⟨?_,rfl⟩,?_⟩
 ·simp only [execOp,hop,Sem.run_bind,hrun,Result.andThen_ok]
  rfl
 ·rw [hdn]
  have hfr:Fr (fun b=>b=g) w w':=by
   refine⟨rfl,rfl,rfl,by simp [w'],Nat.le_refl _,fun b _ hne=> ?_,fun g' m hh=> ?_⟩
   ·simp only [w'];rw [Array.getElem?_setIfInBounds_ne (fun e=>hne e.symm)]
   ·obtain⟨cs,ty,⟨fr,hc⟩,hs⟩:=hh
    refine⟨cs,ty,⟨fr,?_⟩,hs⟩
    have hne:g'≠g:=fun e=>by rw [e,hb] at hc;cases hc
    simp only [w']
    rw [Array.getElem?_setIfInBounds_ne (fun e=>hne e.symm)];exact hc
  refine s.setObj hg hfr ⟨_,by simp only [w'];rw [Array.getElem?_setIfInBounds_self_of_lt hgl],_,_,rfl,?_⟩
  rw [Array.toList_modify]
  exact hmod
end
end Go.AI
namespace Go.PN
open Go.AI
section
variable {α : Type} [DecidableEq α]
def stGet (a:α):List (α×Int)→Int
 |[]=>0
 |p::st=>if a=p.1 then p.2 else stGet a st
def stSet (a:α) (v:Int):List (α×Int)→List (α×Int)
 |[]=>[]
 |p::st=>if a=p.1 then(p.1,v)::st else p::stSet a v st
def goD (f:List (α×Int)→α→Bool×List (α×Int)):List α→List (α×Int)→Bool×List (α×Int)
 |[],st=>(false,st)
 |x::l,st=>if(f st x).1=true then f st x else goD f l (f st x).2
def walkD (leaf:α→Bool) (succ:α→List α):Nat→List (α×Int)→α→Bool×List (α×Int)
 |0,st,_=>(false,st)
 |n+1,st,t=>if leaf t=true then(false,st) else if stGet t st=1 then(true,st) else if stGet t st=2 then(false,st) else
  let r:=goD (walkD leaf succ n) (succ t) (st++[(t,1)])
  if r.1=true then r else(false,stSet t 2 r.2)
theorem stGet_set (a b:α) (v:Int):∀st:List (α×Int),stGet b (stSet a v st)=if b=a∧a∈st.map (·.1) then v else stGet b st
 |[]=>by simp [stSet,stGet]
 |p::st=>by
  have ih:=stGet_set a b v st
  unfold stSet
  by_cases h:a=p.1
  ·rw [if_pos h]
   show(if b=p.1 then v else stGet b st)=(if b=a∧a∈p.1::st.map (·.1) then v else(if b=p.1 then p.2 else stGet b st))
   by_cases hb:b=p.1
   ·rw [if_pos hb,if_pos ⟨hb.trans h.symm,by rw [h];exact List.mem_cons_self⟩]
   ·rw [if_neg hb,if_neg (fun z=>hb (z.1.trans h)),if_neg hb]
  ·rw [if_neg h]
   show(if b=p.1 then p.2 else stGet b (stSet a v st))=(if b=a∧a∈p.1::st.map (·.1) then v else(if b=p.1 then p.2 else stGet b st))
   by_cases hb:b=p.1
   ·rw [if_pos hb,if_neg (fun z=>h (z.1.symm.trans hb)),if_pos hb]
   ·rw [if_neg hb,if_neg hb,ih]
    have:(a∈p.1::st.map (·.1))↔a∈st.map (·.1):=by
     rw [List.mem_cons];exact⟨fun z=>z.elim (fun e=>absurd e h) id,.inr⟩
    simp only [this]
theorem stGet_app (a b:α) (v:Int):∀st:List (α×Int),a∉st.map (·.1)→stGet b (st++[(a,v)])=if b=a then v else stGet b st
 |[],_=>by simp [stGet]
 |p::st,h=>by
  have h1:a≠p.1:=fun e=>h (by rw [e];exact List.mem_cons_self)
  have ih:=stGet_app a b v st fun z=>h (List.mem_cons_of_mem _ z)
  show(if b=p.1 then p.2 else stGet b (st++[(a,v)]))=(if b=a then v else(if b=p.1 then p.2 else stGet b st))
  by_cases hb:b=p.1
  ·rw [if_pos hb,if_pos hb,if_neg (fun e=>h1 (e.symm.trans hb))]
  ·rw [if_neg hb,if_neg hb,ih]
def CycS (nodes:List α) (succ:α→List α):Prop:=∃S:List α,S≠[]∧∀x∈S,x∈nodes∧∃y∈S,y∈succ x
def pathS (succ:α→List α):List α→Prop
 |[]=>True
 |[_]=>True
 |a::b::l=>a∈succ b∧pathS succ (b::l)
omit [DecidableEq α] in
theorem path_cyc {succ:α→List α} {t:α} {l2:List α}:∀(l1:List α) (z:α),pathS succ (l1++t::l2)→(∀h,(l1++t::l2).head?=some h→z∈succ h)→∀x∈l1++[t],∃y∈z::(l1++[t]),y∈succ x
 |[],z,_,hz,x,hx=>by
  have:x=t:=by simpa using hx
  subst this
  exact⟨z,List.mem_cons_self,hz x rfl⟩
 |a::l1,z,hp,hz,x,hx=>by
  rcases List.mem_cons.1 hx with h|h
  ·subst h
   exact⟨z,List.mem_cons_self,hz x rfl⟩
  ·have hp':pathS succ (l1++t::l2)∧∀h,(l1++t::l2).head?=some h→a∈succ h:=by
    cases l1 with
    |nil=>
     cases l2 with
     |nil=>exact⟨trivial,fun h e=>by simp at e;subst e;exact hp.1⟩
     |cons c l2=>exact⟨hp.2,fun h e=>by simp at e;subst e;exact hp.1⟩
    |cons c l1=>exact⟨hp.2,fun h e=>by simp at e;subst e;exact hp.1⟩
   obtain⟨y,hy,hys⟩:=path_cyc l1 a hp'.1 hp'.2 x h
   exact⟨y,List.mem_cons_of_mem _ hy,hys⟩
structure DInv (leaf:α→Bool) (succ:α→List α) (nodes:List α) (st:List (α×Int)) (stk fin:List α):Prop where
 nd:(st.map (·.1)).Nodup
 sub:∀a∈st.map (·.1),a∈nodes
 key:∀a,a∈st.map (·.1)↔a∈stk∨a∈fin
 gray:∀a,stGet a st=1↔a∈stk
 black:∀a,stGet a st=2↔a∈fin
 path:pathS succ stk
 leafS:∀a∈stk,leaf a=false
 fd:fin.Nodup
 ord:∀l1 b l2,fin=l1++b::l2→∀x∈succ b,leaf x=true∨x∈l1
def DOut (leaf:α→Bool) (succ:α→List α) (nodes:List α) (st:List (α×Int)) (stk fin:List α) (r:Bool×List (α×Int)) (P:List α→Prop):Prop:=
 (r.1=true→CycS nodes succ)∧(r.1=false→∃fin',DInv leaf succ nodes r.2 stk fin'∧(∀a∈fin,a∈fin')∧st.length≤r.2.length∧P fin')
theorem go_ok {leaf:α→Bool} {succ:α→List α} {nodes stk:List α} {f:List (α×Int)→α→Bool×List (α×Int)} {k:Nat}
  (hf:∀st fin x,DInv leaf succ nodes st stk fin→k≤st.length→(leaf x=true∨x∈nodes)→(∀h,stk.head?=some h→x∈succ h)→DOut leaf succ nodes st stk fin (f st x) (fun fin'=>leaf x=true∨x∈fin')):
  ∀(l:List α) (st:List (α×Int)) (fin:List α),DInv leaf succ nodes st stk fin→k≤st.length→(∀x∈l,leaf x=true∨x∈nodes)→(∀x∈l,∀h,stk.head?=some h→x∈succ h)→DOut leaf succ nodes st stk fin (goD f l st) (fun fin'=>∀x∈l,leaf x=true∨x∈fin')
 |[],st,fin,hi,_,_,_=>⟨fun h=>(by cases h),fun _=>⟨fin,hi,fun _ h=>h,Nat.le_refl _,fun x hx=>(by cases hx)⟩⟩
 |x::l,st,fin,hi,hk,hl,hs=>by
  obtain⟨h1,h2⟩:=hf st fin x hi hk (hl x List.mem_cons_self) (hs x List.mem_cons_self)
  unfold goD
  by_cases hr:(f st x).1=true
  ·rw [if_pos hr]
   exact⟨h1,fun h=>by rw [hr] at h;cases h⟩
  ·rw [if_neg hr]
   obtain⟨fin1,i1,m1,l1,p1⟩:=h2 (by simpa using hr)
   obtain⟨g1,g2⟩:=go_ok hf l (f st x).2 fin1 i1 (Nat.le_trans hk l1) (fun y hy=>hl y (List.mem_cons_of_mem _ hy)) (fun y hy=>hs y (List.mem_cons_of_mem _ hy))
   refine⟨g1,fun h=> ?_⟩
   obtain⟨fin2,i2,m2,l2,p2⟩:=g2 h
   refine⟨fin2,i2,fun a ha=>m2 a (m1 a ha),Nat.le_trans l1 l2,fun y hy=> ?_⟩
   rcases List.mem_cons.1 hy with e|e
   ·subst e
    exact p1.elim .inl fun z=>.inr (m2 _ z)
   ·exact p2 y e
theorem nodup_len:∀{l n:List α},l.Nodup→(∀a∈l,a∈n)→l.length≤n.length
 |[],_,_,_=>Nat.zero_le _
 |a::l,n,hd,hs=>by
  have⟨h1,h2⟩:=List.nodup_cons.1 hd
  have ha:=hs a List.mem_cons_self
  have:=nodup_len (l:=l) (n:=n.erase a) h2 fun b hb=>(List.mem_erase_of_ne (fun e:b=a=>h1 (by rw [←e];exact hb))).2 (hs b (List.mem_cons_of_mem _ hb))
  rw [List.length_erase_of_mem ha] at this
  have hp:=List.length_pos_of_mem ha
  rw [List.length_cons]
  omega
theorem stSet_keys (a:α) (v:Int):∀st:List (α×Int),(stSet a v st).map (·.1)=st.map (·.1)
 |[]=>rfl
 |p::st=>by
  unfold stSet
  split
  ·rfl
  ·rw [List.map_cons,List.map_cons,stSet_keys a v st]
omit [DecidableEq α] in
theorem snoc_split {fin l1 l2:List α} {t b:α} (h:fin++[t]=l1++b::l2):(b=t∧l1=fin)∨∃l3,fin=l1++b::l3:=by
 rcases List.eq_nil_or_concat l2 with e|⟨l3,c,e⟩
 ·subst e
  have:=List.append_inj' h rfl
  exact .inl ⟨(List.cons.inj this.2).1.symm,this.1.symm⟩
 ·subst e
  have h':fin++[t]=(l1++b::l3)++[c]:=by rw [h];simp
  exact .inr ⟨l3,(List.append_inj' h' rfl).1⟩
theorem DInv.push {leaf:α→Bool} {succ:α→List α} {nodes:List α} {st:List (α×Int)} {stk fin:List α} {t:α} (hi:DInv leaf succ nodes st stk fin) (hl:¬leaf t=true) (htn:t∈nodes) (htk:t∉st.map (·.1)) (htF:t∉fin) (hh:∀h,stk.head?=some h→t∈succ h):DInv leaf succ nodes (st++[(t,1)]) (t::stk) fin:=by
 refine⟨?_,?_,?_,?_,?_,?_,?_,hi.fd,hi.ord⟩
 ·rw [List.map_append]
  exact List.nodup_append.2 ⟨hi.nd,by simp,fun a ha b hb e=>by simp at hb;exact htk (by rw [←hb,←e];exact ha)⟩
 ·intro a ha
  rw [List.map_append] at ha
  rcases List.mem_append.1 ha with h|h
  ·exact hi.sub a h
  ·rw [List.mem_singleton.1 h];exact htn
 ·intro a
  rw [List.map_append,List.mem_append,hi.key a,List.mem_cons]
  simp only [List.map_cons,List.map_nil,List.mem_singleton]
  exact⟨fun z=>z.elim (fun w=>w.elim (fun u=>.inl (.inr u)) .inr) fun w=>.inl (.inl w),fun z=>z.elim (fun w=>w.elim .inr fun u=>.inl (.inl u)) fun w=>.inl (.inr w)⟩
 ·intro a
  rw [stGet_app t a 1 st htk,List.mem_cons]
  by_cases e:a=t
  ·rw [if_pos e];exact⟨fun _=>.inl e,fun _=>rfl⟩
  ·rw [if_neg e,hi.gray a];exact⟨.inr,fun z=>z.resolve_left e⟩
 ·intro a
  rw [stGet_app t a 1 st htk]
  by_cases e:a=t
  ·rw [if_pos e];exact⟨fun z=>absurd z (by decide),fun z=>absurd (e▸z) htF⟩
  ·rw [if_neg e,hi.black a]
 ·cases stk with
  |nil=>trivial
  |cons b l=>exact⟨hh b rfl,hi.path⟩
 ·intro a ha
  rcases List.mem_cons.1 ha with h|h
  ·rw [h];simpa using hl
  ·exact hi.leafS a h
theorem walk_ok {leaf:α→Bool} {succ:α→List α} {nodes:List α} (hnl:∀t∈nodes,leaf t=false) (hcl:∀t∈nodes,∀x∈succ t,leaf x=true∨x∈nodes):∀(n:Nat) (st:List (α×Int)) (stk fin:List α) (t:α),DInv leaf succ nodes st stk fin→nodes.length<n+st.length→(leaf t=true∨t∈nodes)→(∀h,stk.head?=some h→t∈succ h)→DOut leaf succ nodes st stk fin (walkD leaf succ n st t) (fun fin'=>leaf t=true∨t∈fin')
 |0,st,stk,fin,t,hi,hn,_,_=>by
  have:=nodup_len hi.nd hi.sub
  rw [List.length_map] at this
  omega
 |n+1,st,stk,fin,t,hi,hn,ht,hh=>by
  unfold walkD
  by_cases hl:leaf t=true
  ·rw [if_pos hl]
   exact⟨fun h=>(by cases h),fun _=>⟨fin,hi,fun _ h=>h,Nat.le_refl _,.inl hl⟩⟩
  rw [if_neg hl]
  have htn:t∈nodes:=ht.resolve_left hl
  by_cases h1:stGet t st=1
  ·rw [if_pos h1]
   refine⟨fun _=> ?_,fun h=>(by cases h)⟩
   obtain⟨l1,l2,hs⟩:=List.append_of_mem ((hi.gray t).1 h1)
   have hp:=hi.path
   rw [hs] at hp hh
   have hc:=path_cyc l1 t hp hh
   refine⟨l1++[t],by simp,fun x hx=>⟨hi.sub x ((hi.key x).2 (.inl ?_)),?_⟩⟩
   ·rw [hs]
    rcases List.mem_append.1 hx with h|h
    ·exact List.mem_append_left _ h
    ·rw [List.mem_singleton.1 h];simp
   ·obtain⟨y,hy,hys⟩:=hc x hx
    refine⟨y,?_,hys⟩
    rcases List.mem_cons.1 hy with h|h
    ·rw [h];simp
    ·exact h
  rw [if_neg h1]
  by_cases h2:stGet t st=2
  ·rw [if_pos h2]
   exact⟨fun h=>(by cases h),fun _=>⟨fin,hi,fun _ h=>h,Nat.le_refl _,.inr ((hi.black t).1 h2)⟩⟩
  rw [if_neg h2]
  have htk:t∉st.map (·.1):=fun h=>((hi.key t).1 h).elim (fun z=>h1 ((hi.gray t).2 z)) fun z=>h2 ((hi.black t).2 z)
  have htS:t∉stk:=fun z=>h1 ((hi.gray t).2 z)
  have htF:t∉fin:=fun z=>h2 ((hi.black t).2 z)
  have hi2:=hi.push hl htn htk htF hh
  obtain⟨g1,g2⟩:=go_ok (f:=walkD leaf succ n) (k:=st.length+1) (stk:=t::stk) (nodes:=nodes) (fun st' fin' x i' hk' hx hs'=>walk_ok hnl hcl n st' (t::stk) fin' x i' om hx hs') (succ t) (st++[(t,1)]) fin hi2 (by rw [List.length_append];exact Nat.le_refl _) (hcl t htn) (fun x hx h e=>by simp at e;subst e;exact hx)
  dsimp only
  by_cases hr:(goD (walkD leaf succ n) (succ t) (st++[(t,1)])).1=true
  ·rw [if_pos hr]
   exact⟨g1,fun h=>by rw [hr] at h;cases h⟩
  rw [if_neg hr]
  obtain⟨fin1,i1,m1,l1,p1⟩:=g2 (by simpa using hr)
  generalize goD (walkD leaf succ n) (succ t) (st++[(t,1)])=r at*
  refine⟨fun h=>(by cases h),fun _=>⟨fin1++[t],?_,fun a ha=>List.mem_append_left _ (m1 a ha),?_,.inr (by simp)⟩⟩
  ·have htk1:t∈r.2.map (·.1):=(i1.key t).2 (.inl List.mem_cons_self)
   have ht1:stGet t r.2=1:=(i1.gray t).2 List.mem_cons_self
   have htF1:t∉fin1:=fun z=>by have:=(i1.black t).2 z;rw [ht1] at this;cases this
   refine⟨?_,?_,?_,?_,?_,?_,fun a ha=>i1.leafS a (List.mem_cons_of_mem _ ha),List.nodup_append.2 ⟨i1.fd,by simp,fun a ha b hb e=>by simp at hb;exact htF1 (by rw [←hb,←e];exact ha)⟩,?_⟩
   ·rw [stSet_keys];exact i1.nd
   ·rw [stSet_keys];exact i1.sub
   ·intro a
    rw [stSet_keys,i1.key a,List.mem_cons,List.mem_append,List.mem_singleton]
    exact⟨fun z=>z.elim (fun w=>w.elim (fun u=>.inr (.inr u)) .inl) fun w=>.inr (.inl w),fun z=>z.elim (fun w=>.inl (.inr w)) fun w=>w.elim .inr fun u=>.inl (.inl u)⟩
   ·intro a
    rw [stGet_set]
    by_cases e:a=t
    ·rw [if_pos ⟨e,htk1⟩];exact⟨fun z=>absurd z (by decide),fun z=>absurd (e▸z) htS⟩
    ·rw [if_neg (fun z=>e z.1),i1.gray a,List.mem_cons];exact⟨fun z=>z.resolve_left e,.inr⟩
   ·intro a
    rw [stGet_set,List.mem_append,List.mem_singleton]
    by_cases e:a=t
    ·rw [if_pos ⟨e,htk1⟩];exact⟨fun _=>.inr e,fun _=>rfl⟩
    ·rw [if_neg (fun z=>e z.1),i1.black a];exact⟨.inl,fun z=>z.resolve_right e⟩
   ·have hp:=i1.path
    cases stk with
    |nil=>trivial
    |cons b l=>exact hp.2
   ·intro a1 b a2 hs x hx
    rcases snoc_split hs with ⟨e1,e2⟩|⟨a3,e⟩
    ·subst e1 e2
     exact p1 x hx
    ·exact i1.ord a1 b a3 e x hx
  ·have:(stSet t 2 r.2).length=r.2.length:=by rw [←List.length_map (·.1),stSet_keys,List.length_map]
   rw [List.length_append] at l1
   dsimp only
   omega
end
end Go.PN
namespace Go.PN
open Go.AI
def offS (uses:List (List Nat)) (off:List Bool) (i:Nat):List Bool:=off.set i (off.getD i false||(uses.getD i []).all fun u=>off.getD u false)
def offP (uses:List (List Nat)) (off:List Bool) (n:Nat):List Bool:=(List.range n).foldl (offS uses) off
def offR (uses:List (List Nat)) (n:Nat):Nat→List Bool→List Bool
 |0,off=>off
 |r+1,off=>offR uses n r (offP uses off n)
theorem offS_len (uses:List (List Nat)) (off:List Bool) (i:Nat):(offS uses off i).length=off.length:=by unfold offS;exact List.length_set ..
theorem offS_get (uses:List (List Nat)) (off:List Bool) (i u:Nat):(offS uses off i).getD u false=if i=u∧i<off.length then(off.getD i false||(uses.getD i []).all fun u=>off.getD u false) else off.getD u false:=by
 unfold offS
 rw [List.getD_eq_getElem?_getD,List.getElem?_set]
 by_cases h:i=u
 ·subst h
  by_cases hl:i<off.length
  ·rw [if_pos rfl,if_pos hl,if_pos ⟨rfl,hl⟩];rfl
  ·rw [if_pos rfl,if_neg hl,if_neg (fun z=>hl z.2),List.getD_eq_getElem?_getD,List.getElem?_eq_none om]
 ·rw [if_neg h,if_neg (fun z=>h z.1),List.getD_eq_getElem?_getD]
theorem offS_mono {uses:List (List Nat)} {off:List Bool} {i u:Nat} (h:off.getD u false=true):(offS uses off i).getD u false=true:=by
 rw [offS_get]
 split
 ·rename_i e
  rw [e.1,h];rfl
 ·exact h
theorem fold_len (uses:List (List Nat)):∀(l:List Nat) (off:List Bool),(l.foldl (offS uses) off).length=off.length
 |[],_=>rfl
 |i::l,off=>by rw [List.foldl_cons,fold_len uses l,offS_len]
theorem fold_mono {uses:List (List Nat)} {u:Nat}:∀(l:List Nat) (off:List Bool),off.getD u false=true→(l.foldl (offS uses) off).getD u false=true
 |[],_,h=>h
 |i::l,off,h=>by rw [List.foldl_cons];exact fold_mono l _ (offS_mono h)
theorem fold_prog {uses:List (List Nat)} {i:Nat}:∀(l:List Nat) (off:List Bool),i∈l→i<off.length→(∀u∈uses.getD i [],off.getD u false=true)→(l.foldl (offS uses) off).getD i false=true
 |[],_,h,_,_=>by cases h
 |j::l,off,h,hl,hu=>by
  rw [List.foldl_cons]
  by_cases e:i=j
  ·subst e
   refine fold_mono l _ ?_
   rw [offS_get,if_pos ⟨rfl,hl⟩,List.all_eq_true.2 fun u hu'=>by simpa using hu u hu',Bool.or_true]
  ·exact fold_prog l _ ((List.mem_cons.1 h).resolve_left e) (by rw [offS_len];exact hl) fun u hu'=>offS_mono (hu u hu')
theorem fold_bad {uses:List (List Nat)} {bad:Nat→Prop} (hb:∀i,bad i→∃u∈uses.getD i [],bad u):∀(l:List Nat) (off:List Bool),(∀i,bad i→off.getD i false=false)→∀i,bad i→(l.foldl (offS uses) off).getD i false=false
 |[],_,h=>h
 |j::l,off,h=>by
  rw [List.foldl_cons]
  refine fold_bad hb l _ fun i hi=> ?_
  rw [offS_get]
  split
  ·rename_i e
   obtain⟨e,_⟩:=e
   subst e
   obtain⟨u,hu,hbu⟩:=hb j hi
   rw [h j hi,Bool.false_or]
   refine Bool.eq_false_iff.2 fun z=> ?_
   have:=List.all_eq_true.1 z u hu
   rw [h u hbu] at this
   cases this
  ·exact h i hi
theorem offR_bad {uses:List (List Nat)} {n:Nat} {bad:Nat→Prop} (hb:∀i,bad i→∃u∈uses.getD i [],bad u):∀(r:Nat) (off:List Bool),(∀i,bad i→off.getD i false=false)→∀i,bad i→(offR uses n r off).getD i false=false
 |0,_,h=>h
 |r+1,off,h=>offR_bad hb r _ (fold_bad hb _ off h)
theorem offR_len (uses:List (List Nat)) (n:Nat):∀(r:Nat) (off:List Bool),(offR uses n r off).length=off.length
 |0,_=>rfl
 |r+1,off=>by unfold offR;rw [offR_len uses n r];exact fold_len uses _ off
theorem offR_good {uses:List (List Nat)} {n:Nat} {pl:Nat→Nat} (hp:∀i,i<n→∀u∈uses.getD i [],u<n∧pl u<pl i):∀(r k:Nat) (off:List Bool),off.length=n→(∀i,i<n→pl i<k→off.getD i false=true)→∀i,i<n→pl i<k+r→(offR uses n r off).getD i false=true
 |0,_,_,_,h=>h
 |r+1,k,off,hl,h=>fun i hi hk=>by
  refine offR_good hp r (k+1) (offP uses off n) (by unfold offP;rw [fold_len];exact hl) (fun j hj hjk=> ?_) i hi om
  exact fold_prog _ off (List.mem_range.2 hj) om fun u hu=>h u (hp j hj u hu).1 (by have:=(hp j hj u hu).2;omega)
end Go.PN
namespace Go.PN
open Go.AI
section
variable {α : Type} [DecidableEq α]
theorem dinv_nil {leaf:α→Bool} {succ:α→List α} {nodes:List α}:DInv leaf succ nodes [] [] []:=
 ⟨List.nodup_nil,fun _ h=>(by cases h),fun a=>(by simp),fun a=>(by simp [stGet]),fun a=>(by simp [stGet]),trivial,fun _ h=>(by cases h),List.nodup_nil,fun l1 b l2 h=>(by simp at h)⟩
theorem idx_lt {l:List α} {a:α}:∀{l1 l2:List α},l=l1++a::l2→a∉l1→∀x∈l1,l.idxOf x<l.idxOf a:=by
 intro l1 l2 h hn x hx
 subst h
 rw [List.idxOf_append,List.idxOf_append,if_pos hx,if_neg hn]
 have:=List.idxOf_lt_length_iff.2 hx
 omega
theorem cyc_eq {leaf:α→Bool} {succ:α→List α} {nodes:List α} {uses:List (List Nat)} (hnd:nodes.Nodup) (hnl:∀t∈nodes,leaf t=false) (hcl:∀t∈nodes,∀x∈succ t,leaf x=true∨x∈nodes)
  (hu:uses=nodes.map fun x=>((succ x).filter fun y=> !leaf y).map fun y=>nodes.idxOf y):
  (goD (walkD leaf succ (nodes.length+1)) nodes []).1= !((offR uses nodes.length nodes.length (List.replicate nodes.length false)).all id):=by
 have hlen:uses.length=nodes.length:=by rw [hu,List.length_map]
 have hget:∀x∈nodes,uses.getD (nodes.idxOf x) []=((succ x).filter fun y=> !leaf y).map fun y=>nodes.idxOf y:=fun x hx=>by
  have hl:=List.idxOf_lt_length_iff.2 hx
  rw [List.getD_eq_getElem?_getD,hu,List.getElem?_map,List.getElem?_eq_getElem hl,List.getElem_idxOf hl];rfl
 have hno:∀i,nodes.length≤i→uses.getD i []=[]:=fun i hi=>by
  rw [List.getD_eq_getElem?_getD,List.getElem?_eq_none om];rfl
 have hrl:(offR uses nodes.length nodes.length (List.replicate nodes.length false)).length=nodes.length:=by rw [offR_len,List.length_replicate]
 obtain⟨h1,h2⟩:=go_ok (f:=walkD leaf succ (nodes.length+1)) (k:=0) (stk:=[]) (nodes:=nodes) (leaf:=leaf) (succ:=succ) (fun st fin x hi _ hx hs=>walk_ok hnl hcl _ st [] fin x hi om hx hs) nodes [] [] dinv_nil (Nat.zero_le _) (fun x hx=>.inr hx) (fun x _ h e=>by simp at e)
 generalize goD (walkD leaf succ (nodes.length+1)) nodes []=r at*
 generalize hR:offR uses nodes.length nodes.length (List.replicate nodes.length false)=R at*
 cases hr:r.1 with
 |true=>
  obtain⟨S,hS,hc⟩:=h1 hr
  have hbad:=offR_bad (uses:=uses) (n:=nodes.length) (bad:=fun i=>∃x∈S,nodes.idxOf x=i) (by
   rintro i ⟨x,hx,rfl⟩
   obtain⟨hxn,y,hy,hys⟩:=hc x hx
   refine⟨nodes.idxOf y,?_,y,hy,rfl⟩
   rw [hget x hxn]
   exact List.mem_map.2 ⟨y,List.mem_filter.2 ⟨hys,by rw [hnl y (hc y hy).1];rfl⟩,rfl⟩) nodes.length (List.replicate nodes.length false) (by
   rintro i ⟨x,hx,rfl⟩
   have hl:=List.idxOf_lt_length_iff.2 (hc x hx).1
   rw [List.getD_eq_getElem?_getD,List.getElem?_replicate,if_pos hl];rfl)
  obtain⟨x,hx⟩:=List.exists_mem_of_ne_nil S hS
  have hb:=hbad (nodes.idxOf x) ⟨x,hx,rfl⟩
  rw [hR] at hb
  have hl:=List.idxOf_lt_length_iff.2 (hc x hx).1
  have:R.all id=false:=by
   rw [Bool.eq_false_iff]
   intro ha
   have hm:=List.all_eq_true.1 ha (R[nodes.idxOf x]'om) (List.getElem_mem _)
   rw [List.getD_eq_getElem?_getD,List.getElem?_eq_getElem om] at hb
   simp at hb hm
   rw [hb] at hm;cases hm
  rw [this];rfl
 |false=>
  obtain⟨fin,hi,_,_,hf⟩:=h2 hr
  have hfn:∀x∈nodes,x∈fin:=fun x hx=>(hf x hx).resolve_left (by rw [hnl x hx];simp)
  have hnf:∀x∈fin,x∈nodes:=fun x hx=>hi.sub x ((hi.key x).2 (.inr hx))
  have hfl:=nodup_len hi.fd hnf
  have hgood:=offR_good (uses:=uses) (n:=nodes.length) (pl:=fun i=>if h:i<nodes.length then fin.idxOf nodes[i] else 0) (by
   intro i hil u hu'
   have hx:nodes[i]∈nodes:=List.getElem_mem hil
   have hix:nodes.idxOf nodes[i]=i:=hnd.idxOf_getElem _ _
   have:=hget _ hx
   rw [hix] at this
   rw [this] at hu'
   obtain⟨y,hy,rfl⟩:=List.mem_map.1 hu'
   obtain⟨hy1,hy2⟩:=List.mem_filter.1 hy
   have hyl:leaf y=false:=by simpa using hy2
   have hyn:y∈nodes:=(hcl _ hx y hy1).resolve_left (by rw [hyl];simp)
   have hul:=List.idxOf_lt_length_iff.2 hyn
   refine⟨hul,?_⟩
   simp only [dif_pos hil,dif_pos hul,List.getElem_idxOf hul]
   obtain⟨l1,l2,hs⟩:=List.append_of_mem (hfn _ hx)
   have hn1:nodes[i]∉l1:=fun hm=>by
    have:=hi.fd
    rw [hs] at this
    exact(List.nodup_append.1 this).2.2 _ hm _ List.mem_cons_self rfl
   exact idx_lt hs hn1 y ((hi.ord l1 _ l2 hs y hy1).resolve_left (by rw [hyl];simp))) nodes.length 0 (List.replicate nodes.length false) List.length_replicate (fun i _ h=>absurd h (Nat.not_lt_zero _))
  have:R.all id=true:=by
   refine List.all_eq_true.2 fun b hb=> ?_
   obtain⟨i,hil,rfl⟩:=List.getElem_of_mem hb
   have hin:i<nodes.length:=by omega
   have:=hgood i hin (by
    simp only [dif_pos hin]
    have:=List.idxOf_lt_length_iff.2 (hfn _ (List.getElem_mem hin))
    omega)
   rw [hR,List.getD_eq_getElem?_getD,List.getElem?_eq_getElem hil] at this
   exact this
  rw [this];rfl
end
end Go.PN
namespace Go.PN
open Go.AI
abbrev Th:=Int×Int×Int
def gtOf (m:MdD) (t:Th):GtD:=(gtsK m (t.2.1+1).toNat).getD t.2.2.toNat gt0
def leafT (t:Th):Bool:=decide (t.1≠2)
def nodesK (m:MdD) (k:Nat):List Th:=(List.range (gtsK m k).length).map fun(i:Nat)=>((2:Int),(k:Int)-1,(i:Int))
def nodesF (m:MdD) (k:Nat):Nat→List Th
 |0=>[]
 |n+1=>nodesK m k++nodesF m (k+1) n
def nodesT (m:MdD):List Th:=nodesF m 0 (m.pages.length+1)
theorem mem_nodesK {m:MdD} {k:Nat} {t:Th}:t∈nodesK m k↔∃i:Nat,i<(gtsK m k).length∧t=(2,(k:Int)-1,(i:Int)):=by
 unfold nodesK
 rw [List.mem_map]
 exact⟨fun⟨i,h1,h2⟩=>⟨i,List.mem_range.1 h1,h2.symm⟩,fun⟨i,h1,h2⟩=>⟨i,List.mem_range.2 h1,h2.symm⟩⟩
theorem mem_nodesF {m:MdD} {t:Th}:∀{n k:Nat},t∈nodesF m k n↔∃j i:Nat,k≤j∧j<k+n∧i<(gtsK m j).length∧t=(2,(j:Int)-1,(i:Int))
 |0,k=>⟨fun h=>(by cases h),fun⟨j,i,h1,h2,_⟩=>om⟩
 |n+1,k=>by
  show t∈nodesK m k++nodesF m (k+1) n↔_
  rw [List.mem_append,mem_nodesK,mem_nodesF]
  constructor
  ·rintro (⟨i,h1,h2⟩|⟨j,i,h1,h2,h3,h4⟩)
   ·exact⟨k,i,Nat.le_refl _,by omega,h1,h2⟩
   ·exact⟨j,i,by omega,by omega,h3,h4⟩
  ·rintro ⟨j,i,h1,h2,h3,h4⟩
   by_cases e:j=k
   ·subst e;exact .inl ⟨i,h3,h4⟩
   ·exact .inr ⟨j,i,by omega,by omega,h3,h4⟩
theorem mem_nodesT {m:MdD} {t:Th}:t∈nodesT m↔∃j i:Nat,j≤m.pages.length∧i<(gtsK m j).length∧t=(2,(j:Int)-1,(i:Int)):=by
 unfold nodesT
 rw [mem_nodesF]
 exact⟨fun⟨j,i,_,h2,h3⟩=>⟨j,i,by omega,h3⟩,fun⟨j,i,h2,h3⟩=>⟨j,i,by omega,by omega,h3⟩⟩
theorem nodesF_nodup (m:MdD):∀n k,(nodesF m k n).Nodup
 |0,_=>List.nodup_nil
 |n+1,k=>by
  refine List.nodup_append.2 ⟨?_,nodesF_nodup m n (k+1),fun a ha b hb e=> ?_⟩
  ·unfold nodesK
   refine(List.pairwise_map).2 (List.Pairwise.imp (fun {a b} h e=>h ?_) List.nodup_range)
   simp only [Prod.mk.injEq] at e
   omega
  ·subst e
   obtain⟨i,_,h1⟩:=mem_nodesK.1 ha
   obtain⟨j,i2,h2,_,_,h3⟩:=mem_nodesF.1 hb
   rw [h1] at h3
   simp only [Prod.mk.injEq] at h3
   omega
def sucT (m:MdD) (t:Th):List Th:=(gtOf m t).inputs.map (resP m (t.2.1+1).toNat)
def walkT (m:MdD):Nat→List (Th×Int)→Th→Bool×List (Th×Int):=walkD leafT (sucT m)
def cycB (m:MdD):Bool:=(goD (walkT m ((nodesT m).length+1)) (nodesT m) []).1
def InOk (m:MdD) (k:Nat) (n:BS):Prop:=0<n.length∧(bAt n 0=64→0≤pgI m (n.drop 1))∧(leafT (resP m k n)=true∨resP m k n∈nodesT m)
def InsOk (m:MdD):Prop:=∀k,k≤m.pages.length→∀i,i<(gtsK m k).length→∀n∈((gtsK m k).getD i gt0).inputs,InOk m k n
theorem leaf_nodes {m:MdD}:∀t∈nodesT m,leafT t=false:=fun t h=>by
 obtain⟨j,i,_,_,rfl⟩:=mem_nodesT.1 h
 rfl
theorem suc_nodes {m:MdD} (h:InsOk m):∀t∈nodesT m,∀x∈sucT m t,leafT x=true∨x∈nodesT m:=fun t ht x hx=>by
 obtain⟨j,i,h1,h2,rfl⟩:=mem_nodesT.1 ht
 have e:sucT m (2,(j:Int)-1,(i:Int))=((gtsK m j).getD i gt0).inputs.map (resP m j):=by
  unfold sucT gtOf
  dsimp only
  rw [show((j:Int)-1+1).toNat=j from by omega,Int.toNat_natCast]
 rw [e] at hx
 obtain⟨n,hn,rfl⟩:=List.mem_map.1 hx
 exact(h j h1 i h2 n hn).2.2
variable {α σ : Type}
theorem orC_0 {a b:Int}:orC a b=0↔a=0∧b=0:=by
 unfold orC
 split
 ·rename_i h;exact⟨fun e=>⟨h,e⟩,fun e=>e.2⟩
 ·rename_i h;exact⟨fun e=>absurd e h,fun e=>absurd e.1 h⟩
theorem frst_0 {f:Nat→α→Int} (d:α):∀{l:List α} {i:Nat},frst f l i=0→∀j,j<l.length→f (i+j) (l.getD j d)=0
 |x::l,i,h,j,hj=>by
  unfold frst at h
  split at h
  ·rename_i h0
   cases j with
   |zero=>simpa using h0
   |succ j=>
    have:=frst_0 d h j (by simpa using hj)
    rw [show i+(j+1)=i+1+j from by omega]
    simpa using this
  ·rename_i h0;exact absurd h h0
theorem frsS_0 {f:Nat→α→σ→Int×σ} (d:α):∀{l:List α} {i:Nat} {s:σ},(frsS f l i s).1=0→∀j,j<l.length→∃s,(f (i+j) (l.getD j d) s).1=0
 |x::l,i,s,h,j,hj=>by
  unfold frsS at h
  split at h
  ·rename_i h0
   cases j with
   |zero=>exact⟨s,by simpa using h0⟩
   |succ j=>
    obtain⟨s',h'⟩:=frsS_0 d h j (by simpa using hj)
    refine⟨s',?_⟩
    rw [show i+(j+1)=i+1+j from by omega]
    simpa using h'
  ·rename_i h0;exact absurd h h0
theorem frsN_0 {f:Nat→σ→Int×σ}:∀{n i:Nat} {s:σ},(frsN f n i s).1=0→∀j,j<n→∃s,(f (i+j) s).1=0
 |n+1,i,s,h,j,hj=>by
  unfold frsN at h
  split at h
  ·rename_i h0
   cases j with
   |zero=>exact⟨s,h0⟩
   |succ j=>
    obtain⟨s',h'⟩:=frsN_0 h j om
    refine⟨s',?_⟩
    rw [show i+(j+1)=i+1+j from by omega]
    exact h'
  ·rename_i h0;exact absurd h h0
theorem fidx_get {p:α→Bool} (d:α):∀{l:List α},0≤fidx p l→∃i:Nat,fidx p l=i∧i<l.length∧p (l.getD i d)=true
 |[],h=>absurd (show(0:Int)≤ -1 from h) (by decide)
 |x::l,h=>by
  unfold fidx at h⊢
  by_cases h0:p x=true
  ·rw [if_pos h0]
   exact⟨0,rfl,by simp,by simpa using h0⟩
  ·rw [if_neg h0] at h⊢
   by_cases h1:fidx p l<0
   ·rw [if_pos h1] at h;omega
   ·rw [if_neg h1]
    obtain⟨i,h2,h3,h4⟩:=fidx_get (p:=p) d (l:=l) om
    exact⟨i+1,by omega,by simpa using h3,by simpa using h4⟩
structure MdC (m:MdD):Prop where
 ev:∀i,i<m.events.length→nameOk (m.events.getD i ev0).name=true
 hs:∀i,i<m.houses.length→nameOk (m.houses.getD i hs0).name=true
 gt:∀k,k≤m.pages.length→∀i,i<(gtsK m k).length→gtC m k i ((gtsK m k).getD i gt0)=0
 inp:∀k,k≤m.pages.length→∀i,i<(gtsK m k).length→∀n∈((gtsK m k).getD i gt0).inputs,isInp m k n=true
 tp:∀k,k<m.pages.length→0≤gtI (m.pages.getD k pg0).gates (m.pages.getD k pg0).top∨0≤evI m (m.pages.getD k pg0).top
 top:isInp m 0 m.top=true
theorem mcode0_ok {m:MdD} (h:mcode0 m=0):MdC m:=by
 unfold mcode0 at h
 obtain⟨_,h⟩:=orC_0.1 h
 obtain⟨h1,h⟩:=orC_0.1 h
 obtain⟨_,h⟩:=orC_0.1 h
 obtain⟨h3,h⟩:=orC_0.1 h
 obtain⟨h4,h⟩:=orC_0.1 h
 obtain⟨h5,_⟩:=orC_0.1 h
 unfold evhC at h1
 split at h1
 ·cases h1
 obtain⟨h1,h2⟩:=orC_0.1 h1
 split at h2
 ·cases h2
 refine⟨fun i hi=> ?_,fun i hi=> ?_,fun k hk i hi=> ?_,fun k hk i hi n hn=> ?_,fun k hk=> ?_,?_⟩
 ·have:=frst_0 ev0 h1 i hi
  unfold evC at this
  split at this
  ·cases this
  ·rename_i e;simpa using e
 ·have:=frst_0 hs0 h2 i hi
  unfold hsC at this
  split at this
  ·cases this
  ·rename_i e;simpa using e
 ·obtain⟨_,hg⟩:=frsN_0 h3 k om
  rw [Nat.zero_add] at hg
  have:=frst_0 gt0 (show frst (gtC m k) (gtsK m k) 0=0 from hg) i hi
  rwa [Nat.zero_add] at this
 ·obtain⟨s,hg⟩:=frsN_0 h4 k om
  rw [Nat.zero_add] at hg
  unfold inP at hg
  split at hg
  ·rename_i e
   obtain⟨s2,h6⟩:=frsS_0 gt0 e i hi
   obtain⟨j,hj,rfl⟩:=List.getElem_of_mem hn
   obtain⟨s3,h7⟩:=frsS_0 ([]:BS) (show(frsS (inI m k ((gtsK m k).getD i gt0)) ((gtsK m k).getD i gt0).inputs 0 s2).1=0 from h6) j hj
   rw [Nat.zero_add,show((gtsK m k).getD i gt0).inputs.getD j []=((gtsK m k).getD i gt0).inputs[j] from by rw [List.getD_eq_getElem?_getD,List.getElem?_eq_getElem hj];rfl] at h7
   unfold inI at h7
   split at h7
   ·cases h7
   ·rename_i e;simpa using e
  ·rename_i e;exact absurd hg e
 ·obtain⟨s,hg⟩:=frsN_0 h4 (k+1) om
  rw [Nat.zero_add] at hg
  unfold inP at hg
  split at hg
  ·dsimp only [tpC] at hg
   split at hg
   ·cases hg
   ·rename_i e;omega
  ·rename_i e;exact absurd hg e
 ·split at h5
  ·assumption
  ·cases h5
theorem name_pos {s:BS} (h:nameOk s=true):0<s.length:=by
 unfold nameOk at h
 simp only [Bool.and_eq_true,decide_eq_true_eq] at h
 exact h.1.1.1
theorem resA_ok {m:MdD} {k:Nat} {n:BS} (hk:k≤m.pages.length) (h:0≤evI m n∨0≤hsI m n∨0≤gtI (gtsK m k) n):leafT (resA m k n)=true∨resA m k n∈nodesT m:=by
 unfold resA
 by_cases h1:evI m n≥0
 ·rw [if_pos h1];exact .inl rfl
 ·rw [if_neg h1]
  by_cases h2:hsI m n≥0
  ·rw [if_pos h2];exact .inl rfl
  ·rw [if_neg h2]
   have h3:0≤gtI (gtsK m k) n:=by omega
   obtain⟨i,h4,h5,_⟩:=fidx_get gt0 h3
   exact .inr (mem_nodesT.2 ⟨k,i,hk,h5,by rw [show gtI (gtsK m k) n=i from h4]⟩)
theorem InOk_of {m:MdD} (h:MdC m) {k:Nat} (hk:k≤m.pages.length) {n:BS} (hi:isInp m k n=true):InOk m k n:=by
 unfold isInp at hi
 by_cases h0:0<n.length∧bAt n 0=64
 ·rw [if_pos h0] at hi
  have hp:0≤pgI m (n.drop 1):=by simpa using hi
  obtain⟨q,h4,h5,_⟩:=fidx_get pg0 hp
  refine⟨h0.1,fun _=>hp,?_⟩
  unfold resP resK resN
  rw [if_pos h0.2,if_pos h0.2,show pgI m (n.drop 1)=q from h4,show((q:Int)+1).toNat=q+1 from by omega,Int.toNat_natCast]
  refine resA_ok om ?_
  rcases h.tp q h5 with e|e
  ·exact .inr (.inr e)
  ·exact .inl e
 ·rw [if_neg h0] at hi
  simp only [Bool.or_eq_true,decide_eq_true_eq] at hi
  have hp:0<n.length:=by
   cases n with
   |cons=>simp
   |nil=>
    exfalso
    rcases hi with (hi|hi)|hi
    ·obtain⟨i,_,h5,h6⟩:=fidx_get ev0 hi
     have:=name_pos (h.ev i h5)
     rw [show(m.events.getD i ev0).name=[] from by simpa using h6] at this
     cases this
    ·obtain⟨i,_,h5,h6⟩:=fidx_get hs0 hi
     have:=name_pos (h.hs i h5)
     rw [show(m.houses.getD i hs0).name=[] from by simpa using h6] at this
     cases this
    ·obtain⟨i,_,h5,h6⟩:=fidx_get gt0 hi
     have h7:=h.gt k hk i h5
     have e:((gtsK m k).getD i gt0).name=[]:=by simpa using h6
     unfold gtC at h7
     split at h7
     ·cases h7
     ·rename_i h8
      have:=name_pos (s:=((gtsK m k).getD i gt0).name) (by simpa using h8)
      rw [e] at this
      cases this
  have h64:¬bAt n 0=64:=fun e=>h0 ⟨hp,e⟩
  refine⟨hp,fun e=>absurd e h64,?_⟩
  unfold resP resK resN
  rw [if_neg h64,if_neg h64]
  refine resA_ok hk ?_
  rcases hi with (hi|hi)|hi
  ·exact .inl hi
  ·exact .inr (.inl hi)
  ·exact .inr (.inr hi)
theorem ins_ok {m:MdD} (h:MdC m):InsOk m:=fun k hk i hi n hn=>InOk_of h hk (h.inp k hk i hi n hn)
end Go.PN
namespace Go.PN
open Go.AI
def keyT (t:Th):Value:=keyZ [t.1,t.2.1,t.2.2]
theorem keyT_ok {P:Program} {kt:TypeId} (ht:tEqS P kt=some 3):KeyOk P kt keyT:=by
 have h:=keyZ_ok ht
 have hj:∀a b:Th,((⟨[a.1,a.2.1,a.2.2],rfl⟩:{l:List Int//l.length=3})=⟨[b.1,b.2.1,b.2.2],rfl⟩)↔a=b:=fun a b=>by
  obtain⟨a1,a2,a3⟩:=a
  obtain⟨b1,b2,b3⟩:=b
  simp
 refine⟨fun b a w=>h.check b ⟨[a.1,a.2.1,a.2.2],rfl⟩ w,fun a ks es w he=> ?_⟩
 have:=h.find ⟨[a.1,a.2.1,a.2.2],rfl⟩ (ks.map fun k=>⟨[k.1,k.2.1,k.2.2],rfl⟩) es w (by rw [he,List.map_map];rfl)
 have e:∀(ks:List Th) (es:List MapEntry) (i:Nat),fAsk (⟨[a.1,a.2.1,a.2.2],rfl⟩:{l:List Int//l.length=3}) (ks.map fun k=>⟨[k.1,k.2.1,k.2.2],rfl⟩) es i=fAsk a ks es i:=by
  intro ks
  induction ks with
  |nil=>intro es i;rfl
  |cons k ks ih=>
   intro es i
   cases es with
   |nil=>rfl
   |cons x es=>
    simp only [List.map_cons,fAsk,hj]
    rw [ih]
 rw [e] at this
 exact this
theorem keyT_bits (t:Th):Instr.sameBits 10000 (keyT t) (keyT t)=true:=by
 show Instr.sameBits (9999+1) (keyT t) (keyT t)=true
 unfold Instr.sameBits keyT keyZ
 simp [Instr.sameBits]
def kvT (st:List (Th×Int)):List (Th×Value):=st.map fun p=>(p.1,.int .i64 p.2)
theorem kvT_get (t:Th):∀st:List (Th×Int),(kvGet t (kvT st)).getD (.int .i64 0)=.int .i64 (stGet t st)
 |[]=>rfl
 |p::st=>by
  show(if t=p.1 then some (Value.int .i64 p.2) else kvGet t (kvT st)).getD (.int .i64 0)=Value.int .i64 (if t=p.1 then p.2 else stGet t st)
  split
  ·rfl
  ·exact kvT_get t st
theorem kvT_none {t:Th}:∀{st:List (Th×Int)},t∉st.map (·.1)→kvGet t (kvT st)=none
 |[],_=>rfl
 |p::st,h=>by
  show(if t=p.1 then some (Value.int .i64 p.2) else kvGet t (kvT st))=none
  rw [if_neg (fun e=>h (by rw [e];exact List.mem_cons_self))]
  exact kvT_none fun z=>h (List.mem_cons_of_mem _ z)
theorem kvT_some {t:Th}:∀{st:List (Th×Int)},t∈st.map (·.1)→(kvGet t (kvT st)).isSome=true
 |p::st,h=>by
  show(if t=p.1 then some (Value.int .i64 p.2) else kvGet t (kvT st)).isSome=true
  split
  ·rfl
  ·rename_i e
   exact kvT_some ((List.mem_cons.1 h).resolve_left e)
theorem kvT_set (t:Th) (v:Int):∀st:List (Th×Int),kvSet t (.int .i64 v) (kvT st)=kvT (stSet t v st)
 |[]=>rfl
 |p::st=>by
  show(if t=p.1 then _ else _)=kvT (if t=p.1 then _ else _)
  split
  ·rfl
  ·show _::kvSet t (.int .i64 v) (kvT st)=_::kvT (stSet t v st)
   rw [kvT_set t v st]
theorem kvT_app (st:List (Th×Int)) (t:Th) (v:Int):kvT st++[(t,.int .i64 v)]=kvT (st++[(t,v)]):=by
 unfold kvT;rw [List.map_append];rfl
theorem thA_rep {S:Bool→Nat→Prop} {w:World} {t:Th} {v:Value} (h:Rep S w (thA t) v):v=keyT t:=by
 obtain⟨cs,rfl,h⟩:=h
 match cs,h with
 |[a,b,c],⟨h1,h2,h3,_⟩=>
  have h1:a=_:=h1
  have h2:b=_:=h2
  have h3:c=_:=h3
  subst h1 h2 h3
  rfl
structure CyOk (m:MdD):Prop where
 ok:Go.Proofs.YteehccacfedolaaGreat.MdOk m
 w2:MdWf2 m
 ins:InsOk m
 len:∀k i j,(((gtsK m k).getD i gt0).inputs.getD j []).length≤1099511627776
end Go.PN
namespace Go.Proofs.YteehccacfedolaaGreat
open Go.AI Go.PN
attribute [local irreducible] aw Fa Fh DrK
theorem ty_thing:tMap Tryz.prog 148=some (151,3):=by kernel_rfl
theorem ty_thingK:tEqS Tryz.prog 151=some 3:=by kernel_rfl
theorem ty_int0:tZ1 Tryz.prog 3=some (.int .i64 0):=by kernel_rfl
abbrev fvN (f:FuncId):AV:=.c (.raw (.func (.func f) #[] #[]))
theorem walk_fg (m:MdD) (hc:CyOk m) (fE:FuncId) (hE:∀t:Th,Fa Tryz.prog fE [thA t] (.tup [])) (g:Nat):∀(n:Nat) (st:List (Th×Int)) (stk fin:List Th) (t:Th),DInv leafT (sucT m) (nodesT m) st stk fin→(nodesT m).length<n+st.length→(leafT t=true∨t∈nodesT m)→(∀h,stk.head?=some h→t∈sucT m h)→
  Fg Tryz.prog 97 g (.gen (MapI keyT (kvT st))) [.agg (mdc true m),thA t,.c (.raw (.map (some g))),fvN fE] (.c (.bool (walkT m n st t).1)) (.gen (MapI keyT (kvT (walkT m n st t).2))):=by
 intro n
 induction n with
 |zero=>
  intro st stk fin t hi hn _ _
  have:=nodup_len hi.nd hi.sub
  rw [List.length_map] at this
  omega
 |succ n ih=>
  intro st stk fin t hi hn ht hh
  have hE':=hE t
  unfold Fg
  by_cases hl:leafT t=true
  ·have ht2:t.1≠2:=by unfold leafT at hl;simpa using hl
   have hr:walkT m (n+1) st t=(false,st):=by
    unfold walkT walkD
    rw [if_pos hl]
   rw [hr]
   refine fh_of_body Tryz.func97 rfl rfl (by simp [Tryz.ntmps97]) fun C hC=> ?_
   simp only [initS,Nat.reduceAdd]
   repeat' first|refine yA1 o0 ?_|refine zW o0 ?_|refine yP o0 ?_|refine yN o0 ?_|refine zC o0 (fun hb=>?_) fun hb=>?_|refine zG o0 (fun hb=>?_) fun hb=>?_|refine zD o0 (fun hb=>?_) fun hb=>?_
   refine xB fun g4 hn_g4=>?_
   repeat' first|refine yA1 hn_g4 ?_|refine zW hn_g4 ?_|refine yP hn_g4 ?_|refine yN hn_g4 ?_|refine zC hn_g4 (fun hb=>?_) fun hb=>?_|refine zG hn_g4 (fun hb=>?_) fun hb=>?_|refine zD hn_g4 (fun hb=>?_) fun hb=>?_
   refine yB hn_g4 fun g5 hn_g5=>?_
   all_goals try(have Z:=(oj hn_g4 hn_g5);(repeat' first|refine yA1 Z ?_|refine zW Z ?_|refine yP Z ?_|refine yN Z ?_|refine zC Z (fun hb=>?_) fun hb=>?_|refine zG Z (fun hb=>?_) fun hb=>?_|refine zD Z (fun hb=>?_) fun hb=>?_);all_goals clear Z)
   ·refine aw_callqv hE' rfl rfl rfl (zE (oj hn_g4 hn_g5)) (zL (oj hn_g4 hn_g5)) ?_
    refine yS (oj hn_g4 hn_g5) ?_
    all_goals try(have Z:=(oj hn_g4 hn_g5);(repeat' first|refine yA1 Z ?_|refine zW Z ?_|refine yP Z ?_|refine yN Z ?_|refine zC Z (fun hb=>?_) fun hb=>?_|refine zG Z (fun hb=>?_) fun hb=>?_|refine zD Z (fun hb=>?_) fun hb=>?_);all_goals clear Z)
    refine aw_rethw (h':=[(g,.gen (MapI keyT (kvT st)))]) rfl (by first|exact List.Sublist.refl _|exact .cons _ (.refl _)|exact .cons _ (.cons _ (.refl _))|exact .cons _ (.cons _ (.cons _ (.refl _)))) fun R r=>?_;simp only[go_sem,hn_g4,hn_g5];refine r _ rfl ?_;clear r R
    exact⟨rfl,rfl⟩
   ·exfalso;exact ht2 hb
  have htn:t∈nodesT m:=ht.resolve_left hl
  have hsuc:∀x∈sucT m t,leafT x=true∨x∈nodesT m:=suc_nodes hc.ins t htn
  have hw:=walk_ok leaf_nodes (suc_nodes hc.ins) (n+1) st stk fin t hi hn ht hh
  obtain⟨k,i,hk,hil,he⟩:=mem_nodesT.1 htn
  have hgt:(gtsK m k).getD i gt0=gtOf m t:=by
   rw [he]
   unfold gtOf
   dsimp only
   rw [show((k:Int)-1+1).toNat=k from by omega,Int.toNat_natCast]
  have hkk:(t.2.1+1).toNat=k:=by rw [he];dsimp only;omega
  have hthA:thA t=.agg [.int .i64 2,.int .i64 ((k:Int)-1),.int .i64 (i:Int)]:=by rw [he]
  have hstep:walkT m (n+1) st t=(if stGet t st=1 then(true,st) else if stGet t st=2 then(false,st) else
   if(goD (walkT m n) (sucT m t) (st++[(t,1)])).1=true then goD (walkT m n) (sucT m t) (st++[(t,1)]) else(false,stSet t 2 (goD (walkT m n) (sucT m t) (st++[(t,1)])).2)):=by
   show walkD leafT (sucT m) (n+1) st t=_
   unfold walkD
   rw [if_neg hl]
   rfl
  rw [hstep]
  have hRe:∀{S:Bool→Nat→Prop} {w:World} {v:Value},Rep S w (.agg [.int .i64 2,.int .i64 ((k:Int)-1),.int .i64 (i:Int)]) v→v=keyT t:=fun h=>thA_rep (by rw [hthA];exact h)
  have hsl:sucT m t=(gtOf m t).inputs.map (resP m k):=by unfold sucT;rw [hkk]
  have hin:=hc.ins k hk i hil
  have hlen:=hc.len k i
  have hw2:=hc.w2
  have hil2:(gtOf m t).inputs.length≤1099511627776:=by rw [←hgt];exact(hw2.gt k i).2.2
  have hgk:=gtsK_len hw2 k
  rw [hthA] at hE'
  rw [hthA]
  refine fh_of_body Tryz.func97 rfl rfl (by simp [Tryz.ntmps97]) fun C hC=> ?_
  simp only [initS,Nat.reduceAdd]
  repeat' first|refine yA1 o0 ?_|refine zW o0 ?_|refine yP o0 ?_|refine yN o0 ?_|refine zC o0 (fun hb=>?_) fun hb=>?_|refine zG o0 (fun hb=>?_) fun hb=>?_|refine zD o0 (fun hb=>?_) fun hb=>?_
  refine xB fun g4 hn_g4=>?_
  repeat' first|refine yA1 hn_g4 ?_|refine zW hn_g4 ?_|refine yP hn_g4 ?_|refine yN hn_g4 ?_|refine zC hn_g4 (fun hb=>?_) fun hb=>?_|refine zG hn_g4 (fun hb=>?_) fun hb=>?_|refine zD hn_g4 (fun hb=>?_) fun hb=>?_
  refine yB hn_g4 fun g5 hn_g5=>?_
  all_goals try(have Z:=(oj hn_g4 hn_g5);(repeat' first|refine yA1 Z ?_|refine zW Z ?_|refine yP Z ?_|refine yN Z ?_|refine zC Z (fun hb=>?_) fun hb=>?_|refine zG Z (fun hb=>?_) fun hb=>?_|refine zD Z (fun hb=>?_) fun hb=>?_);all_goals clear Z)
  refine aw_lookup (a:=t) (kv:=kvT st) (Kf:=keyT) (z:=.int .i64 0) rfl rfl rfl ty_thing (keyT_ok ty_thingK) ty_int0 (zE (oj hn_g4 hn_g5)) (zE (oj hn_g4 hn_g5)) (zE (oj hn_g4 hn_g5)) (fun _ _ _ h=>hRe h) ?_
  rw [kvT_get]
  dsimp only [cstC]
  refine yS (oj hn_g4 hn_g5) ?_
  all_goals try(have Z:=(oj hn_g4 hn_g5);(repeat' first|refine yA1 Z ?_|refine zW Z ?_|refine yP Z ?_|refine yN Z ?_|refine zC Z (fun hb=>?_) fun hb=>?_|refine zG Z (fun hb=>?_) fun hb=>?_|refine zD Z (fun hb=>?_) fun hb=>?_);all_goals clear Z)
  ·refine aw_rethw (h':=[(g,.gen (MapI keyT (kvT st)))]) rfl (by first|exact List.Sublist.refl _|exact .cons _ (.refl _)|exact .cons _ (.cons _ (.refl _))|exact .cons _ (.cons _ (.cons _ (.refl _)))) fun R r=>?_;simp only[go_sem,hn_g4,hn_g5];refine r _ rfl ?_;clear r R
   rw [if_pos hb]
   exact⟨rfl,rfl⟩
  ·rename_i h1
   refine aw_rethw (h':=[(g,.gen (MapI keyT (kvT st)))]) rfl (by first|exact List.Sublist.refl _|exact .cons _ (.refl _)|exact .cons _ (.cons _ (.refl _))|exact .cons _ (.cons _ (.cons _ (.refl _)))) fun R r=>?_;simp only[go_sem,hn_g4,hn_g5];refine r _ rfl ?_;clear r R
   rw [if_neg h1,if_pos hb]
   exact⟨rfl,rfl⟩
  rename_i h1
  have h2:=hb
  rw [if_neg h1,if_neg h2]
  have htk:t∉st.map (·.1):=fun h=>((hi.key t).1 h).elim (fun z=>h1 ((hi.gray t).2 z)) fun z=>h2 ((hi.black t).2 z)
  refine aw_mapNew (a:=t) (kv:=kvT st) (Kf:=keyT) (v:=.int .i64 1) rfl rfl rfl ty_thing (keyT_ok ty_thingK) (zE (oj hn_g4 hn_g5)) (zE (oj hn_g4 hn_g5)) (zE (oj hn_g4 hn_g5)) (fun _ _ _ h=>hRe h) (cv:=.c (.int .i64 1)) (zE (oj hn_g4 hn_g5)) (fun _ _ _ h=>h) (kvT_none htk) (zE (oj hn_g4 hn_g5)) ?_
  rw [kvT_app]
  have J1:=oj hn_g4 hn_g5
  refine yS J1 ?_
  all_goals try(have Z:=J1;(repeat' first|refine yA1 Z ?_|refine zW Z ?_|refine yP Z ?_|refine yN Z ?_|refine zC Z (fun hb=>?_) fun hb=>?_|refine zG Z (fun hb=>?_) fun hb=>?_|refine zD Z (fun hb=>?_) fun hb=>?_);all_goals clear Z)
  refine aw_callqv hE' rfl rfl rfl (zE J1) (zL J1) ?_
  refine yS J1 ?_
  all_goals try(have Z:=J1;(repeat' first|refine yA1 Z ?_|refine zW Z ?_|refine yP Z ?_|refine yN Z ?_|refine zC Z (fun hb=>?_) fun hb=>?_|refine zG Z (fun hb=>?_) fun hb=>?_|refine zD Z (fun hb=>?_) fun hb=>?_);all_goals clear Z)
  have f4:=gatesOf_fa m k hk hc.ok.pg
  refine aw_dr 11 ty_mixed (by kernel_rfl) ?_
  all_goals try(have Z:=J1;(repeat' first|refine yA1 Z ?_|(refine yC2 Z (f4) ?_)|(refine yD2 Z (f4) ?_)|refine zW Z ?_|refine yP Z ?_|refine yN Z ?_|refine zC Z (fun hb=>?_) fun hb=>?_|refine zG Z (fun hb=>?_) fun hb=>?_|refine zD Z (fun hb=>?_) fun hb=>?_);all_goals clear Z)
  rw [hgt]
  have htF:t∉fin:=fun z=>h2 ((hi.black t).2 z)
  have hi0:=hi.push hl htn htk htF hh
  have hlen0:(st++[(t,1)]).length=st.length+1:=by rw [List.length_append];rfl
  generalize hR:goD (walkT m n) (sucT m t) (st++[(t,1)])=R
  rw [hgt] at hin hlen
  generalize hG:gtOf m t=G at*
  clear hw hstep hgt h1 h2 htk hE' J1
  refine aw_lp (fun x:Nat×List (Th×Int)×List Th=>[(2,.c (.raw (.map (some g)))),(3,fvN fE),(4,.c (.optr g4 0)),(5,.c (.optr g5 0)),(37,.c (strs true G.inputs)),(38,.c (.int .i64 G.inputs.length)),(39,.c (.int .i64 x.1))]) (fun x=>[(g5,.cells 151 3 (ofL [.int .i64 2,.int .i64 ((k:Int)-1),.int .i64 (i:Int)])),(g4,.cells 30 8 (ofL (mdc true m))),(g,.gen (MapI keyT (kvT x.2.1)))]) (fun x=>x.1≤G.inputs.length∧goD (walkT m n) ((sucT m t).drop x.1) x.2.1=R∧DInv leafT (sucT m) (nodesT m) x.2.1 (t::stk) x.2.2∧st.length+1≤x.2.1.length) (fun x=>G.inputs.length-x.1) (0,st++[(t,1)],fin) (zB (oj hn_g4 hn_g5)) zZ ⟨Nat.zero_le _,hR,hi0,by rw [hlen0];exact Nat.le_refl _⟩ ?_
  rintro ⟨j,st1,fin1⟩ ⟨hj,hgo,hi1,hl1⟩
  dsimp only at hj hgo hi1 hl1⊢
  all_goals try(have Z:=(oj hn_g4 hn_g5);(repeat' first|refine yA1 Z ?_|refine zW Z ?_|refine yP Z ?_|refine yN Z ?_|refine zC Z (fun hb=>?_) fun hb=>?_|refine zG Z (fun hb=>?_) fun hb=>?_|refine zD Z (fun hb=>?_) fun hb=>?_);all_goals clear Z)
  ·have hj':=hb
   have hmem:G.inputs.getD j []∈G.inputs:=by
    rw [List.getD_eq_getElem?_getD,List.getElem?_eq_getElem hj'];exact List.getElem_mem hj'
   obtain⟨n1,n2,n3⟩:=hin _ hmem
   have hnl:=hlen j
   have hx:(sucT m t).drop j=resP m k (G.inputs.getD j [])::(sucT m t).drop (j+1):=by
    rw [hsl,List.drop_eq_getElem_cons (by rw [List.length_map];exact hj'),List.getElem_map,List.getD_eq_getElem?_getD,List.getElem?_eq_getElem hj'];rfl
   rw [hx] at hgo
   have hxs:resP m k (G.inputs.getD j [])∈sucT m t:=by rw [hsl];exact List.mem_map_of_mem hmem
   generalize hN:G.inputs.getD j []=N at*
   have f5:=resolve_fa m k N hk hc.ok hw2 n1 hnl n2
   generalize resP m k N=X at*
   have f6:=ih st1 (t::stk) fin1 X hi1 om n3 (fun h e=>by simp at e;subst e;exact hxs)
   have ho:=walk_ok leaf_nodes (suc_nodes hc.ins) n st1 (t::stk) fin1 X hi1 om n3 (fun h e=>by simp at e;subst e;exact hxs)
   change DOut leafT (sucT m) (nodesT m) st1 (t::stk) fin1 (walkT m n st1 X) _ at ho
   have hgo2:(if(walkT m n st1 X).1=true then walkT m n st1 X else goD (walkT m n) ((sucT m t).drop (j+1)) (walkT m n st1 X).2)=R:=hgo
   clear hgo
   generalize hr:walkT m n st1 X=r at*
   refine aw_cw ([(g4,.cells 30 8 (ofL (mdc true m))),(g5,.cells 151 3 (ofL [.int .i64 2,.int .i64 ((k:Int)-1),.int .i64 (i:Int)]))]) [(0,0),(1,0),(2,0),(3,0),(4,0),(5,0),(6,0),(7,0),(8,1)] ty_mixed (by kernel_rfl) eI ?_
   have J2:=oj hn_g4 hn_g5
   refine yG J2 ?_
   refine cw_callq rfl f5 rfl rfl rfl (fun _ _=>(zL J2)) ?_
   refine ySG J2 ?_
   refine cw_cg rfl f6 rfl rfl rfl (zE J2) (zL J2) (by refine yS J2 ?_;exact has0_cons (List.mem_cons_of_mem _ (List.mem_cons_self ..)) (has0_cons (List.mem_cons_self ..) has0_nil)) ?_
   refine ySG J2 ?_
   all_goals try(have Z:=J2;(repeat' first|refine yA1 Z ?_|refine zW Z ?_|refine yP Z ?_|refine yN Z ?_|refine zC Z (fun hb=>?_) fun hb=>?_|refine zG Z (fun hb=>?_) fun hb=>?_|refine zD Z (fun hb=>?_) fun hb=>?_);all_goals clear Z)
   ·refine aw_rethw (h':=[(g,.gen (MapI keyT (kvT r.2)))]) rfl (by first|exact List.Sublist.refl _|exact .cons _ (.refl _)|exact .cons _ (.cons _ (.refl _))|exact .cons _ (.cons _ (.cons _ (.refl _)))) fun R r=>?_;simp only[go_sem,hn_g4,hn_g5];refine r _ rfl ?_;clear r R
    rw [if_pos hb] at hgo2
    rw [←hgo2,if_pos hb]
    exact⟨by rw [hb],rfl⟩
   ·have hrf:r.1=false:=hb
    rw [if_neg (by rw [hrf];decide)] at hgo2
    obtain⟨fin2,q1,_,q3,_⟩:=ho.2 hrf
    refine aw_stop ⟨(j+1,r.2,fin2),?_⟩
    and_intros
    all_goals first|rfl|exact List.Sublist.refl _|exact True.intro|exact hgo2|exact q1|(dsimp only;omega)
  ·have hge:(sucT m t).drop j=[]:=List.drop_of_length_le (by rw [hsl,List.length_map];omega)
   rw [hge] at hgo
   have hgo2:(false,st1)=R:=hgo
   subst hgo2
   have htk1:t∈st1.map (·.1):=(hi1.key t).2 (.inl List.mem_cons_self)
   refine aw_mapSet (a:=t) (kv:=kvT st1) (Kf:=keyT) (v:=.int .i64 2) rfl rfl rfl ty_thing (keyT_ok ty_thingK) (keyT_bits t) (zE (oj hn_g4 hn_g5)) (zE (oj hn_g4 hn_g5)) (zE (oj hn_g4 hn_g5)) (fun _ _ _ h=>hRe h) (cv:=.c (.int .i64 2)) (zE (oj hn_g4 hn_g5)) (fun _ _ _ h=>h) (kvT_some htk1) (zE (oj hn_g4 hn_g5)) ?_
   rw [kvT_set]
   refine yS (oj hn_g4 hn_g5) ?_
   all_goals try(have Z:=(oj hn_g4 hn_g5);(repeat' first|refine yA1 Z ?_|refine zW Z ?_|refine yP Z ?_|refine yN Z ?_|refine zC Z (fun hb=>?_) fun hb=>?_|refine zG Z (fun hb=>?_) fun hb=>?_|refine zD Z (fun hb=>?_) fun hb=>?_);all_goals clear Z)
   refine aw_rethw (h':=[(g,.gen (MapI keyT (kvT (stSet t 2 st1))))]) rfl (by first|exact List.Sublist.refl _|exact .cons _ (.refl _)|exact .cons _ (.cons _ (.refl _))|exact .cons _ (.cons _ (.cons _ (.refl _)))) fun R r=>?_;simp only[go_sem,hn_g4,hn_g5];refine r _ rfl ?_;clear r R
   exact⟨rfl,rfl⟩
end Go.Proofs.YteehccacfedolaaGreat
namespace Go.PN
open Go.AI
variable {α β γ : Type}
abbrev BG:Nat:=1048576
def TB (s:PS):Prop:=∀t∈s.l,t.text.length≤BG
theorem TB.suf {s r:PS} (h:TB s) (hs:r.l<:+s.l):TB r:=fun t ht=>h t (hs.subset ht)
def SzO (P:α→Prop) (f:PS→α×PS):Prop:=∀s,TB s→P (f s).1
theorem SzO.bnd {P:α→Prop} {Q:β→Prop} {f:PS→α×PS} {k:α→PS→β×PS} (h:SzO P f) (hf:Rdr f) (hk:∀a,P a→SzO Q (k a)):SzO Q (bnd f k):=fun s hs=>hk _ (h s hs) _ (hs.suf (hf.suf s))
theorem SzO.pure {P:α→Prop} {a:α} (h:P a):SzO P fun s=>(a,s):=fun _ _=>h
theorem SzO.ite {P:α→Prop} {c:PS→Prop} [DecidablePred c] {f g:PS→α×PS} (hf:SzO P f) (hg:SzO P g):SzO P fun s=>if c s then f s else g s:=fun s hs=>by
 dsimp only
 split
 ·exact hf s hs
 ·exact hg s hs
theorem SzO.unit {f:PS→Unit×PS}:SzO (fun _=>True) f:=fun _ _=>trivial
theorem sz_take (m:PS→Bool):SzO (fun x:BS=>x.length≤BG) fun s=>takeS (m s) s:=fun s hs=>by
 dsimp only
 unfold takeS
 split
 ·split
  ·exact Nat.zero_le _
  ·rename_i t l e
   split
   ·exact hs t (by rw [e];exact List.mem_cons_self)
   ·exact Nat.zero_le _
 ·exact Nat.zero_le _
theorem sz_word:SzO (fun x:BS=>x.length≤BG) wordS:=sz_take _
abbrev RdOk (r:RD):Prop:=r.wf 500000000
theorem rd0_ok:RdOk rd0:=⟨fun x hx=>(by cases hx),fun x hx=>(by cases hx),Nat.zero_le _,Nat.zero_le _⟩
theorem valR_ok (s:BS):RdOk (valR s):=(valR_wf s).mono (by decide)
theorem sz_num:SzO RdOk numS:=fun s _=>by
 unfold numS
 dsimp only
 split
 ·exact valR_ok _
 ·exact rd0_ok
theorem sz_input:SzO (fun x:BS=>x.length≤BG+1) inputS:=fun s hs=>by
 unfold inputS
 split
 ·exact Nat.succ_le_succ (sz_word _ (hs.suf ((rdr_exp kAt).suf s)))
 ·exact Nat.le_succ_of_le (sz_word s hs)
theorem loop_inv {J:α→PS→Prop} {c:PS→Bool} {b:α→PS→α×PS} (hb:∀a s,s.e=0→J a s→J (b a s).1 (b a s).2):∀(n:Nat) (a:α) (s:PS),J a s→J (loopS c b n a s).1 (loopS c b n a s).2
 |0,_,_,h=>h
 |n+1,a,s,h=>by
  unfold loopS
  split
  ·rename_i e
   exact loop_inv hb n _ _ (hb a s e.1 h)
  ·exact h
def GrO (P:α→Prop) (N:Nat) (a:List α) (s:PS):Prop:=TB s∧a.length+mS s≤N∧∀x∈a,P x
theorem gr_step {P:α→Prop} {N:Nat} {a:List α} {s:PS} {x:α} {s':PS} (h:GrO P N a s) (hs:s'.l<:+s.l) (hm:mS s'<mS s) (hx:P x):GrO P N (a++[x]) s':=
 ⟨h.1.suf hs,by rw [List.length_append,List.length_singleton];have:=h.2.1;omega,fun y hy=>by
  rcases List.mem_append.1 hy with e|e
  ·exact h.2.2 y e
  ·rw [List.mem_singleton.1 e];exact hx⟩
abbrev NG:Nat:=1048576
def EvO (x:EvD):Prop:=x.name.length≤BG∧RdOk x.p∧RdOk x.fail∧RdOk x.rep
def HsO (x:HsD):Prop:=x.name.length≤BG
def GtO (x:GtD):Prop:=x.name.length≤BG∧RdOk x.dorm∧x.inputs.length≤NG∧∀i∈x.inputs,i.length≤BG+1
def PgO (x:PgD):Prop:=x.name.length≤BG∧x.top.length≤BG+1∧x.gates.length≤NG∧∀g∈x.gates,GtO g
def GrpO (x:GrD):Prop:=x.name.length≤BG∧x.members.length≤NG∧(∀n∈x.members,n.length≤BG)∧x.factors.length≤NG∧∀r∈x.factors,RdOk r
def VlO (x:VlD):Prop:=x.event.length≤BG∧RdOk x.p
def PhO (x:PhD):Prop:=x.name.length≤BG∧x.top.length≤BG+1∧x.values.length≤NG∧∀v∈x.values,VlO v
def SzN (P:α→Prop) (f:PS→α×PS):Prop:=∀s,TB s→mS s≤NG→P (f s).1
theorem SzO.n {P:α→Prop} {f:PS→α×PS} (h:SzO P f):SzN P f:=fun s hs _=>h s hs
theorem SzN.bnd {P:α→Prop} {Q:β→Prop} {f:PS→α×PS} {k:α→PS→β×PS} (h:SzN P f) (hf:Rdr f) (hk:∀a,P a→SzN Q (k a)):SzN Q (bnd f k):=fun s hs hm=>hk _ (h s hs hm) _ (hs.suf (hf.suf s)) (Nat.le_trans (rdr_mS hf s) hm)
theorem SzN.pure {P:α→Prop} {a:α} (h:P a):SzN P fun s=>(a,s):=fun _ _ _=>h
theorem SzN.unit {f:PS→Unit×PS}:SzN (fun _=>True) f:=fun _ _ _=>trivial
theorem szn_loop {P:α→Prop} {c:PS→Bool} {f:PS→α×PS} {b:List α→PS→List α×PS} (hb:∀a s,b a s=(a++[(f s).1],(f s).2)) (rf:Rdr f) (cf:Con f) (hf:SzN P f):SzN (fun l=>l.length≤NG∧∀x∈l,P x) (lpS c b []):=fun s ht hN=>by
 have:=loop_inv (J:=fun a s=>GrO P NG a s∧mS s≤NG) (c:=c) (b:=b) (fun a s e h=>by
  rw [hb]
  exact⟨gr_step h.1 (rf.suf s) (cf s e) (hf s h.1.1 h.2),Nat.le_trans (rdr_mS rf s) h.2⟩) (mS s) [] s ⟨⟨ht,by simpa using hN,fun _ h=>by cases h⟩,hN⟩
 exact⟨by have:=this.1.2.1;unfold lpS;omega,this.1.2.2⟩
theorem sz_gate:SzN GtO gateS:=by
 rw [gateS_eq]
 refine SzN.bnd sz_word.n rdr_word fun nm hn=>SzN.bnd (P:=fun _=>True) (fun _ _ _=>trivial) rdr_gk fun k _=> ?_
 refine SzN.bnd (P:=fun _=>True) (fun _ _ _=>trivial) (rdr_ite rdr_whole (rdr_pure 0)) fun v _=> ?_
 refine SzN.bnd (P:=RdOk) (SzO.ite (c:=fun _=>k=some 7) sz_num (SzO.pure rd0_ok)).n (rdr_ite rdr_num (rdr_pure rd0)) fun d hd=> ?_
 refine SzN.bnd (P:=fun l:List BS=>l.length≤NG∧∀x∈l,x.length≤BG+1) ?_ rdr_ins fun q hq=>SzN.pure ⟨hn,hd,hq⟩
 exact SzN.bnd (Q:=fun l:List BS=>l.length≤NG∧∀x∈l,x.length≤BG+1) (szn_loop (fun _ _=>rfl) rdr_input con_input sz_input.n) (rdr_lp rdr_inB []) fun q hq=>SzN.bnd (Q:=fun l:List BS=>l.length≤NG∧∀x∈l,x.length≤BG+1) SzN.unit (rdr_exp kSemi) fun _ _=>SzN.pure (P:=fun l:List BS=>l.length≤NG∧∀x∈l,x.length≤BG+1) hq
theorem sz_topK {P:α→Prop} {k:BS→PS→α×PS} (h:∀t,t.length≤BG+1→SzN P (k t)):SzN P (topK k):=
 SzN.bnd SzN.unit (rdr_exp _) fun _ _=>SzN.bnd sz_input.n rdr_input fun t ht=>SzN.bnd SzN.unit (rdr_exp _) fun _ _=>h t ht
theorem sz_page:SzN PgO pageS:=by
 rw [pageS_eq]
 refine SzN.bnd sz_word.n rdr_word fun nm hn=>sz_topK fun t ht=> ?_
 refine SzN.bnd (szn_loop (P:=GtO) (f:=PN.bnd (fun s=>((),expS kGate s)) fun _=>gateS) (fun _ _=>rfl) (Rdr.bnd (rdr_exp kGate) fun _=>rdr_gate) (Con.bnd (con_exp kGate) fun _=>rdr_gate) (SzN.bnd SzN.unit (rdr_exp kGate) fun _ _=>sz_gate)) (rdr_lp rdr_pgB _) fun q hq=> ?_
 exact SzN.bnd SzN.unit (rdr_exp _) fun _ _=>SzN.pure ⟨hn,ht,hq⟩
theorem sz_phase:SzN PhO phaseS:=by
 rw [phaseS_eq]
 refine SzN.bnd sz_word.n rdr_word fun nm hn=>sz_topK fun t ht=> ?_
 refine SzN.bnd (szn_loop (P:=VlO) (f:=PN.bnd wordS fun w=>PN.bnd numS fun q=>PN.bnd (fun s=>((),expS kSemi s)) fun _ s=>((⟨w,q⟩:VlD),s)) (fun _ _=>rfl) (Rdr.bnd rdr_word fun w=>Rdr.bnd rdr_num fun q=>Rdr.bnd (rdr_exp kSemi) fun _=>rdr_pure _) (Con.bnd con_word fun w=>Rdr.bnd rdr_num fun q=>Rdr.bnd (rdr_exp kSemi) fun _=>rdr_pure _) ?_) (rdr_lp rdr_vlB _) fun q hq=> ?_
 ·exact SzN.bnd sz_word.n rdr_word fun w hw=>SzN.bnd sz_num.n rdr_num fun q hq=>SzN.bnd SzN.unit (rdr_exp kSemi) fun _ _=>SzN.pure ⟨hw,hq⟩
 ·exact SzN.bnd SzN.unit (rdr_exp _) fun _ _=>SzN.pure ⟨hn,ht,hq⟩
theorem sz_group:SzN GrpO groupS:=by
 rw [groupS_eq]
 refine SzN.bnd sz_word.n rdr_word fun nm hn=>SzN.bnd (P:=fun _=>True) (fun _ _ _=>trivial) rdr_grT fun g _=> ?_
 refine SzN.bnd (szn_loop (P:=RdOk) (f:=numS) (fun _ _=>rfl) rdr_num con_num sz_num.n) (rdr_lp rdr_facB _) fun f hf=>SzN.bnd SzN.unit (rdr_exp _) fun _ _=> ?_
 refine SzN.bnd (szn_loop (P:=fun x:BS=>x.length≤BG) (f:=wordS) (fun _ _=>rfl) rdr_word con_word sz_word.n) (rdr_lp rdr_memB _) fun m hm=>SzN.bnd SzN.unit (rdr_exp _) fun _ _=>SzN.pure ⟨hn,hm.1,hm.2,hf⟩
theorem sz_house:SzN HsO houseS:=by
 rw [houseS_eq]
 exact SzN.bnd sz_word.n rdr_word fun nm hn=>SzN.bnd (P:=fun _=>True) (fun _ _ _=>trivial) rdr_hsT fun b _=>SzN.bnd SzN.unit (rdr_exp _) fun _ _=>SzN.pure hn
theorem sz_event:SzN EvO eventS:=fun s hs _=>by
 have hw:=sz_word s hs
 have:=loop_inv (J:=fun(x:List BS×EvD) (_:PS)=>EvO x.2) (c:=fun s=> !isS s kSemi) (b:=evB) (fun a s _ h=>by
  have hn:∀r,RdOk (numS r).1:=fun r=>by
   unfold numS
   dsimp only
   split
   ·exact valR_ok _
   ·exact rd0_ok
  unfold evB
  dsimp only
  split
  ·exact h
  split
  ·exact⟨h.1,hn _,h.2.2⟩
  split
  ·exact⟨h.1,h.2.1,hn _,h.2.2.2⟩
  split
  ·exact⟨h.1,h.2.1,h.2.2.1,hn _⟩
  split<;>exact h) (mS (wordS s).2) ([],{ev0 with name:=(wordS s).1}) (wordS s).2 ⟨hw,rd0_ok,rd0_ok,rd0_ok⟩
 exact this
structure MdO (m:MdD):Prop where
 nm:m.name.length≤BG
 tp:m.top.length≤BG+1
 ev:m.events.length≤NG∧∀x∈m.events,EvO x
 hs:m.houses.length≤NG∧∀x∈m.houses,HsO x
 gt:m.gates.length≤NG∧∀x∈m.gates,GtO x
 pg:m.pages.length≤NG∧∀x∈m.pages,PgO x
 gr:m.groups.length≤NG∧∀x∈m.groups,GrpO x
 ph:m.phases.length≤NG∧∀x∈m.phases,PhO x
structure MdR (m:MdD) (s:PS):Prop where
 nm:m.name.length≤BG
 tp:m.top.length≤BG+1
 ev:GrO EvO NG m.events s
 hs:GrO HsO NG m.houses s
 gt:GrO GtO NG m.gates s
 pg:GrO PgO NG m.pages s
 gr:GrO GrpO NG m.groups s
 ph:GrO PhO NG m.phases s
theorem gr_keep {P:α→Prop} {N:Nat} {a:List α} {s s':PS} (h:GrO P N a s) (hs:s'.l<:+s.l) (hm:mS s'≤mS s):GrO P N a s':=⟨h.1.suf hs,by have:=h.2.1;omega,h.2.2⟩
theorem MdR.keep {m:MdD} {s s':PS} (h:MdR m s) (hs:s'.l<:+s.l) (hm:mS s'≤mS s):MdR m s':=
 ⟨h.nm,h.tp,gr_keep h.ev hs hm,gr_keep h.hs hs hm,gr_keep h.gt hs hm,gr_keep h.pg hs hm,gr_keep h.gr hs hm,gr_keep h.ph hs hm⟩
theorem mdr_step {m:MdD} {s:PS} (e0:s.e=0) (h:MdR m s):MdR (stB m s).1 (stB m s).2:=by
 have hsf:=(rdr_stB m).suf s
 have hcm:=con_stB m s e0
 have hm:mS s≤NG:=by have:=h.ev.2.1;omega
 have rt:=rdr_take stM
 have ht:TB (takeS (stM s) s).2:=h.ev.1.suf (rt.suf s)
 have hmt:mS (takeS (stM s) s).2≤NG:=Nat.le_trans (rdr_mS rt s) hm
 unfold stB at hsf hcm⊢
 dsimp only at hsf hcm⊢
 change TB (takeS (isS s kEvent||isS s kHouse||isS s kGate||isS s kPage||isS s kGroup||isS s kPhase) s).2 at ht
 change mS (takeS (isS s kEvent||isS s kHouse||isS s kGate||isS s kPage||isS s kGroup||isS s kPhase) s).2≤NG at hmt
 generalize takeS (isS s kEvent||isS s kHouse||isS s kGate||isS s kPage||isS s kGroup||isS s kPhase) s=r at*
 have kp:∀{s':PS},s'.l<:+s.l→mS s'<mS s→MdR m s':=fun a b=>h.keep a (Nat.le_of_lt b)
 split at hsf
 ·rename_i e
  rw [if_pos e] at hcm⊢
  exact {kp hsf hcm with ev:=gr_step h.ev hsf hcm (sz_event _ ht hmt)}
 rename_i e;rw [if_neg e] at hcm⊢
 split at hsf
 ·rename_i e
  rw [if_pos e] at hcm⊢
  exact {kp hsf hcm with hs:=gr_step h.hs hsf hcm (sz_house _ ht hmt)}
 rename_i e;rw [if_neg e] at hcm⊢
 split at hsf
 ·rename_i e
  rw [if_pos e] at hcm⊢
  exact {kp hsf hcm with gt:=gr_step h.gt hsf hcm (sz_gate _ ht hmt)}
 rename_i e;rw [if_neg e] at hcm⊢
 split at hsf
 ·rename_i e
  rw [if_pos e] at hcm⊢
  exact {kp hsf hcm with pg:=gr_step h.pg hsf hcm (sz_page _ ht hmt)}
 rename_i e;rw [if_neg e] at hcm⊢
 split at hsf
 ·rename_i e
  rw [if_pos e] at hcm⊢
  exact {kp hsf hcm with gr:=gr_step h.gr hsf hcm (sz_group _ ht hmt)}
 rename_i e;rw [if_neg e] at hcm⊢
 split at hsf
 ·rename_i e
  rw [if_pos e] at hcm⊢
  exact {kp hsf hcm with ph:=gr_step h.ph hsf hcm (sz_phase _ ht hmt)}
 rename_i e;rw [if_neg e] at hcm⊢
 exact kp hsf hcm
theorem sz_read:SzN MdO readS:=by
 rw [readS_eq]
 refine SzN.bnd SzN.unit (rdr_exp _) fun _ _=>SzN.bnd sz_word.n rdr_word fun nm hn=>SzN.bnd SzN.unit (rdr_exp _) fun _ _=> ?_
 intro s hs hm
 have g0:∀{α:Type} (P:α→Prop),GrO P NG [] s:=fun P=>⟨hs,by simpa using hm,fun _ h=>by cases h⟩
 have h0:MdR {md0 with name:=nm} s:=⟨hn,Nat.zero_le _,g0 _,g0 _,g0 _,g0 _,g0 _,g0 _⟩
 have h1:=loop_inv (J:=MdR) (c:=fun s=> !isS s kTop) (b:=stB) (fun a s e h=>mdr_step e h) (mS s) _ _ h0
 have ht:∀x:MdD,MdR x (lpS (fun s=> !isS s kTop) stB {md0 with name:=nm} s).2→SzN MdO (rdK x):=fun x hx=>by
  refine SzN.bnd SzN.unit (rdr_exp _) fun _ _=>SzN.bnd sz_input.n rdr_input fun t ht=>SzN.bnd SzN.unit (rdr_exp _) fun _ _=> ?_
  have gl:∀{α:Type} {P:α→Prop} {l:List α} {r:PS},GrO P NG l r→l.length≤NG∧∀x∈l,P x:=fun h=>⟨by have:=h.2.1;omega,h.2.2⟩
  exact fun _ _ _=>⟨hx.nm,ht,gl hx.ev,gl hx.hs,gl hx.gt,gl hx.pg,gl hx.gr,gl hx.ph⟩
 have h1':MdR (lpS (fun s=> !isS s kTop) stB {md0 with name:=nm} s).1 (lpS (fun s=> !isS s kTop) stB {md0 with name:=nm} s).2:=h1
 exact ht _ h1' _ h1'.ev.1 (by have:=h1'.ev.2.1;omega)
theorem getD_all {P:α→Prop} {l:List α} {d:α} (h:∀x∈l,P x) (hd:P d) (i:Nat):P (l.getD i d):=by
 rw [List.getD_eq_getElem?_getD]
 by_cases hi:i<l.length
 ·rw [List.getElem?_eq_getElem hi];exact h _ (List.getElem_mem hi)
 ·rw [List.getElem?_eq_none om];exact hd
theorem gt0_o:GtO gt0:=⟨Nat.zero_le _,rd0_ok,Nat.zero_le _,fun _ h=>by cases h⟩
theorem pg0_o:PgO pg0:=⟨Nat.zero_le _,Nat.zero_le _,Nat.zero_le _,fun _ h=>by cases h⟩
theorem MdO.pgi {m:MdD} (h:MdO m) (i:Nat):PgO (m.pages.getD i pg0):=getD_all h.pg.2 pg0_o i
theorem MdO.gts {m:MdD} (h:MdO m):∀k,(gtsK m k).length≤NG∧∀g∈gtsK m k,GtO g
 |0=>h.gt
 |k+1=>(h.pgi k).2.2
theorem MdO.gti {m:MdD} (h:MdO m) (k i:Nat):GtO ((gtsK m k).getD i gt0):=getD_all (h.gts k).2 gt0_o i
theorem RdOk.w {r:RD} (h:RdOk r):r.wf 1073741824:=h.mono (by decide)
theorem MdO.ok {m:MdD} (h:MdO m):Go.Proofs.YteehccacfedolaaGreat.MdOk m:=⟨Nat.le_trans h.ev.1 (by decide),Nat.le_trans h.hs.1 (by decide),Nat.le_trans h.gt.1 (by decide),Nat.le_trans h.pg.1 (by decide),fun p hp=>Nat.le_trans (h.pg.2 p hp).2.2.1 (by decide)⟩
theorem ev0_o:EvO ev0:=⟨Nat.zero_le _,rd0_ok,rd0_ok,rd0_ok⟩
theorem hs0_o:HsO hs0:=Nat.zero_le _
theorem gr0_o:GrpO gr0:=⟨Nat.zero_le _,Nat.zero_le _,fun _ h=>(by cases h),Nat.zero_le _,fun _ h=>(by cases h)⟩
theorem ph0_o:PhO ph0:=⟨Nat.zero_le _,Nat.zero_le _,Nat.zero_le _,fun _ h=>by cases h⟩
theorem vl0_o:VlO vl0:=⟨Nat.zero_le _,rd0_ok⟩
theorem MdO.wf {m:MdD} (h:MdO m):MdWf m:=⟨Nat.le_trans h.nm (by decide),fun i=>by
 obtain⟨a,b⟩:=getD_all h.ev.2 ev0_o i
 exact⟨Nat.le_trans a (by decide),RdOk.w b.1,RdOk.w b.2.1,RdOk.w b.2.2⟩,fun i=>Nat.le_trans (getD_all h.hs.2 hs0_o i) (by decide)⟩
theorem MdO.wf2 {m:MdD} (h:MdO m):MdWf2 m:=⟨fun i=>⟨Nat.le_trans (h.pgi i).1 (by decide),(h.pgi i).2.2.1⟩,h.gt.1,h.pg.1,fun k i=>by
 obtain⟨a,b,c,_⟩:=h.gti k i
 exact⟨Nat.le_trans a (by decide),RdOk.w b,Nat.le_trans c (by decide)⟩⟩
theorem MdO.wf3 {m:MdD} (h:MdO m):MdWf3 m:=⟨Nat.le_trans h.ph.1 (by decide),fun i=>by
 obtain⟨a,b,c,_⟩:=getD_all h.ph.2 ph0_o i
 exact⟨Nat.le_trans a (by decide),Nat.le_trans b (by decide),Nat.le_trans c (by decide)⟩,fun i k=>RdOk.w (getD_all (getD_all h.ph.2 ph0_o i).2.2.2 vl0_o k).2⟩
theorem MdO.wf4 {m:MdD} (h:MdO m):MdWf4 m:=⟨Nat.le_trans h.gr.1 (by decide),fun i=>by
 obtain⟨a,b,_,d,_⟩:=getD_all h.gr.2 gr0_o i
 exact⟨Nat.le_trans a (by decide),b,Nat.le_trans d (by decide)⟩,fun i k=>RdOk.w (getD_all (getD_all h.gr.2 gr0_o i).2.2.2.2 rd0_ok k)⟩
theorem MdO.inl {m:MdD} (h:MdO m) (k i j:Nat):(((gtsK m k).getD i gt0).inputs.getD j []).length≤1099511627776:=
 Nat.le_trans (getD_all (P:=fun x:BS=>x.length≤BG+1) (h.gti k i).2.2.2 (Nat.zero_le _) j) (by decide)
end Go.PN
namespace Go.PN
open Go.AI
theorem nodesF_step (m:MdD) {k:Nat} (h:k≤m.pages.length):nodesF m k (m.pages.length+1-k)=nodesK m k++nodesF m (k+1) (m.pages.length+1-(k+1)):=by
 rw [show m.pages.length+1-k=(m.pages.length+1-(k+1))+1 from by omega];rfl
theorem nodesK_drop (m:MdD) {k i:Nat} (h:i<(gtsK m k).length):(nodesK m k).drop i=((2,(k:Int)-1,(i:Int)):Th)::(nodesK m k).drop (i+1):=by
 have hl:i<(nodesK m k).length:=by unfold nodesK;rw [List.length_map,List.length_range];exact h
 rw [List.drop_eq_getElem_cons hl]
 congr 1
 simp only [nodesK,List.getElem_map,List.getElem_range]
theorem nodesK_len (m:MdD) (k:Nat):(nodesK m k).length=(gtsK m k).length:=by unfold nodesK;rw [List.length_map,List.length_range]
theorem MdO.cy {m:MdD} (h:MdO m) (h0:mcode0 m=0):CyOk m:=⟨h.ok,h.wf2,ins_ok (mcode0_ok h0),h.inl⟩
end Go.PN
namespace Go.Proofs.YteehccacfedolaaGreat
open Go.AI Go.PN
attribute [local irreducible] aw Fa Fh DrK
theorem nop_fa (t:Th):Fa Tryz.prog 98 [thA t] (.tup []):=by
 refine fa_of_body Tryz.func98 rfl rfl (by simp [Tryz.ntmps98]) fun C hC=> ?_
 simp only [initS,Nat.reduceAdd]
 repeat' first|refine yA1 o0 ?_|refine zW o0 ?_|refine yP o0 ?_|refine yN o0 ?_|refine zC o0 (fun hb=>?_) fun hb=>?_|refine zG o0 (fun hb=>?_) fun hb=>?_|refine zD o0 (fun hb=>?_) fun hb=>?_
 refine xB fun g1 hn_g1=>?_
 repeat' first|refine yA1 hn_g1 ?_|refine zW hn_g1 ?_|refine yP hn_g1 ?_|refine yN hn_g1 ?_|refine zC hn_g1 (fun hb=>?_) fun hb=>?_|refine zG hn_g1 (fun hb=>?_) fun hb=>?_|refine zD hn_g1 (fun hb=>?_) fun hb=>?_
 refine aw_endq hC rfl fun R r=>?_
 refine yS hn_g1 ?_
 refine r _ rfl ?_
 exact .tup trivial
theorem cyclic_fa (m:MdD) (hc:CyOk m):Fa Tryz.prog 48 [.agg (mdc true m)] (.c (.bool (cycB m))):=by
 have hpl:=hc.w2.pl
 refine fa_of_body Tryz.func48 rfl rfl (by simp [Tryz.ntmps48]) fun C hC=> ?_
 simp only [initS,Nat.reduceAdd]
 repeat' first|refine yA1 o0 ?_|refine zW o0 ?_|refine yP o0 ?_|refine yN o0 ?_|refine zC o0 (fun hb=>?_) fun hb=>?_|refine zG o0 (fun hb=>?_) fun hb=>?_|refine zD o0 (fun hb=>?_) fun hb=>?_
 refine xB fun g1 hn_g1=>?_
 repeat' first|refine yA1 hn_g1 ?_|refine zW hn_g1 ?_|refine yP hn_g1 ?_|refine yN hn_g1 ?_|refine zC hn_g1 (fun hb=>?_) fun hb=>?_|refine zG hn_g1 (fun hb=>?_) fun hb=>?_|refine zD hn_g1 (fun hb=>?_) fun hb=>?_
 refine aw_makeMap (Kf:=keyT) rfl rfl rfl fun g hn_g=> ?_
 replace hn_g:=Heap.ne_of hn_g
 dsimp only [Heap.ne] at hn_g
 have J1:=oj hn_g1 hn_g
 refine yS J1 ?_
 all_goals try(have Z:=J1;(repeat' first|refine yA1 Z ?_|refine zW Z ?_|refine yP Z ?_|refine yN Z ?_|refine zC Z (fun hb=>?_) fun hb=>?_|refine zG Z (fun hb=>?_) fun hb=>?_|refine zD Z (fun hb=>?_) fun hb=>?_);all_goals clear Z)
 have hcy:cycB m=(goD (walkT m ((nodesT m).length+1)) (nodesF m 0 (m.pages.length+1-0)) []).1:=rfl
 rw [hcy]
 generalize hR:goD (walkT m ((nodesT m).length+1)) (nodesF m 0 (m.pages.length+1-0)) []=R
 refine aw_lp (fun x:Nat×List (Th×Int)×List Th=>[(1,.c (.optr g1 0)),(3,.c (.raw (.map (some g)))),(4,.c (.int .i64 ((x.1:Int)-1)))]) (fun x=>[(g,.gen (MapI keyT (kvT x.2.1))),(g1,.cells 30 8 (ofL (mdc true m)))]) (fun x=>x.1≤m.pages.length+1∧goD (walkT m ((nodesT m).length+1)) (nodesF m x.1 (m.pages.length+1-x.1)) x.2.1=R∧DInv leafT (sucT m) (nodesT m) x.2.1 [] x.2.2) (fun x=>m.pages.length+1-x.1) (0,[],[]) (zB J1) zZ ⟨Nat.zero_le _,hR,dinv_nil⟩ ?_
 clear hR hcy J1
 rintro ⟨k,st,fin⟩ ⟨hk,hgo,hi⟩
 dsimp only at hk hgo hi⊢
 all_goals try(have Z:=(oj hn_g1 hn_g);(repeat' first|refine yA1 Z ?_|refine zW Z ?_|refine yP Z ?_|refine yN Z ?_|refine zC Z (fun hb=>?_) fun hb=>?_|refine zG Z (fun hb=>?_) fun hb=>?_|refine zD Z (fun hb=>?_) fun hb=>?_);all_goals clear Z)
 ·have hk':k≤m.pages.length:=by omega
  have f1:=gatesOf_fa m k hk' hc.ok.pg
  have hgl:=gtsK_len hc.w2 k
  rw [nodesF_step m hk'] at hgo
  all_goals try(have Z:=(oj hn_g1 hn_g);(repeat' first|refine yA1 Z ?_|(refine yC2 Z (f1) ?_)|(refine yD2 Z (f1) ?_)|refine zW Z ?_|refine yP Z ?_|refine yN Z ?_|refine zC Z (fun hb=>?_) fun hb=>?_|refine zG Z (fun hb=>?_) fun hb=>?_|refine zD Z (fun hb=>?_) fun hb=>?_);all_goals clear Z)
  refine aw_lp (fun x:Nat×List (Th×Int)×List Th=>[(1,.c (.optr g1 0)),(3,.c (.raw (.map (some g)))),(4,.c (.int .i64 ((k:Int)-1))),(17,.c (.int .i64 (gtsK m k).length)),(18,.c (.int .i64 x.1))]) (fun x=>[(g,.gen (MapI keyT (kvT x.2.1))),(g1,.cells 30 8 (ofL (mdc true m)))]) (fun x=>x.1≤(gtsK m k).length∧goD (walkT m ((nodesT m).length+1)) ((nodesK m k).drop x.1++nodesF m (k+1) (m.pages.length+1-(k+1))) x.2.1=R∧DInv leafT (sucT m) (nodesT m) x.2.1 [] x.2.2) (fun x=>(gtsK m k).length-x.1) (0,st,fin) (zB (oj hn_g1 hn_g)) zZ ⟨Nat.zero_le _,hgo,hi⟩ ?_
  clear hgo hi
  rintro ⟨i,st,fin⟩ ⟨hil,hgo,hi⟩
  dsimp only at hil hgo hi⊢
  all_goals try(have Z:=(oj hn_g1 hn_g);(repeat' first|refine yA1 Z ?_|refine zW Z ?_|refine yP Z ?_|refine yN Z ?_|refine zC Z (fun hb=>?_) fun hb=>?_|refine zG Z (fun hb=>?_) fun hb=>?_|refine zD Z (fun hb=>?_) fun hb=>?_);all_goals clear Z)
  ·have hi':=hb
   have hmem:((2,(k:Int)-1,(i:Int)):Th)∈nodesT m:=mem_nodesT.2 ⟨k,i,hk',hi',rfl⟩
   have f2:=walk_fg m hc 98 nop_fa g ((nodesT m).length+1) st [] fin (2,(k:Int)-1,(i:Int)) hi om (.inr hmem) (fun h e=>by simp at e)
   have ho:=walk_ok leaf_nodes (suc_nodes hc.ins) ((nodesT m).length+1) st [] fin (2,(k:Int)-1,(i:Int)) hi om (.inr hmem) (fun h e=>by simp at e)
   change DOut leafT (sucT m) (nodesT m) st [] fin (walkT m ((nodesT m).length+1) st (2,(k:Int)-1,(i:Int))) _ at ho
   rw [nodesK_drop m hi',List.cons_append] at hgo
   have hgo2:(if(walkT m ((nodesT m).length+1) st (2,(k:Int)-1,(i:Int))).1=true then walkT m ((nodesT m).length+1) st (2,(k:Int)-1,(i:Int)) else goD (walkT m ((nodesT m).length+1)) ((nodesK m k).drop (i+1)++nodesF m (k+1) (m.pages.length+1-(k+1))) (walkT m ((nodesT m).length+1) st (2,(k:Int)-1,(i:Int))).2)=R:=hgo
   clear hgo
   generalize hr:walkT m ((nodesT m).length+1) st (2,(k:Int)-1,(i:Int))=r at*
   all_goals try(have Z:=(oj hn_g1 hn_g);(repeat' first|refine yA1 Z ?_|(refine zg Z (f2) ?_)|refine zW Z ?_|refine yP Z ?_|refine yN Z ?_|refine zC Z (fun hb=>?_) fun hb=>?_|refine zG Z (fun hb=>?_) fun hb=>?_|refine zD Z (fun hb=>?_) fun hb=>?_);all_goals clear Z)
   ·refine yT hC (oj hn_g1 hn_g) ?_
    rw [if_pos hb] at hgo2
    rw [←hgo2]
    exact .one (.c (ler_bool hb.symm))
   ·have hrf:r.1=false:=hb
    rw [if_neg (by rw [hrf];decide)] at hgo2
    obtain⟨fin2,q1,_,q3,_⟩:=ho.2 hrf
    refine aw_stop ⟨(i+1,r.2,fin2),?_⟩
    and_intros
    all_goals first|rfl|exact List.Sublist.refl _|exact True.intro|exact hgo2|exact q1|(dsimp only;omega)
  ·rw [List.drop_of_length_le (by rw [nodesK_len];omega),List.nil_append] at hgo
   all_goals try(have Z:=(oj hn_g1 hn_g);(repeat' first|refine yA1 Z ?_|refine zW Z ?_|refine yP Z ?_|refine yN Z ?_|refine zC Z (fun hb=>?_) fun hb=>?_|refine zG Z (fun hb=>?_) fun hb=>?_|refine zD Z (fun hb=>?_) fun hb=>?_);all_goals clear Z)
   refine aw_stop ⟨(k+1,st,fin),?_⟩
   and_intros
   all_goals first|rfl|exact List.Sublist.refl _|exact True.intro|exact hgo|exact hi|exact c_int om|(dsimp only;omega)
 ·have hk1:k=m.pages.length+1:=by omega
  subst hk1
  rw [Nat.sub_self] at hgo
  have hgo2:(false,st)=R:=hgo
  subst hgo2
  refine yT hC (oj hn_g1 hn_g) ?_
  exact .one (.c (.bool _))
end Go.Proofs.YteehccacfedolaaGreat
namespace Go.PN
open Go.AI
variable {α β σ : Type}
theorem orC_ne {a b:Int} (h:a≠0):orC a b=a:=if_neg h
theorem orC_z {a b:Int} (h:a=0):orC a b=b:=if_pos h
theorem orC_assoc (a b c:Int):orC (orC a b) c=orC a (orC b c):=by
 by_cases h:a=0
 ·rw [orC_z h,orC_z h]
 ·rw [orC_ne h,orC_ne h,orC_ne h]
theorem frsN_z {f:Nat→σ→Int×σ} {n i:Nat} {s:σ} (h:(f i s).1=0):frsN f (n+1) i s=frsN f n (i+1) (f i s).2:=if_pos h
theorem frsN_ne {f:Nat→σ→Int×σ} {n i:Nat} {s:σ} (h:(f i s).1≠0):frsN f (n+1) i s=f i s:=if_neg h
def mcC (m:MdD):Int:=orC (mcode0 m) (if cycB m then 14 else 0)
abbrev gtN1 (m:MdD):Int:=(frsN (fun k (_:Unit)=>(gtsC m k,())) (m.pages.length+1) 0 ()).1
abbrev inN1 (m:MdD):Int:=(frsN (inP m) (m.pages.length+1) 0 []).1
theorem mcC_eq (m:MdD):mcC m=orC (if nameOk m.name then 0 else 5) (orC (evhC m) (orC (pgsC m) (orC (gtN1 m) (orC (inN1 m) (orC (if isInp m 0 m.top then 0 else 5) (orC (grsC m) (orC (phsC m) (if cycB m then 14 else 0)))))))):=by
 unfold mcC mcode0
 simp only [orC_assoc]
theorem frsS_size {f:Nat→α→List β→Int×List β} {c:Nat}:∀(l:List α) (i:Nat) (s:List β),(∀i x s,x∈l→(f i x s).2.length≤s.length+c)→(frsS f l i s).2.length≤s.length+c*l.length
 |[],_,s,_=>Nat.le_refl _
 |x::l,i,s,h=>by
  have h1:=h i x s List.mem_cons_self
  have h2:=frsS_size l (i+1) (f i x s).2 fun i y s hy=>h i y s (List.mem_cons_of_mem _ hy)
  rw [List.length_cons,Nat.mul_add]
  unfold frsS
  split
  ·omega
  ·omega
theorem inI_size (m:MdD) (k:Nat) (x:GtD) (j:Nat) (i:BS) (sp:List BS):(inI m k x j i sp).2.length≤sp.length+1:=by
 unfold inI
 repeat' split
 all_goals first|exact Nat.le_succ _|(rw [List.length_append];exact Nat.le_refl _)
theorem inP_size {m:MdD} {k:Nat} (hI:∀x∈gtsK m k,x.inputs.length≤16) (sp:List BS):(inP m k sp).2.length≤sp.length+16*(gtsK m k).length:=by
 have:=frsS_size (f:=inG m k) (c:=16) (gtsK m k) 0 sp fun i x s hx=>by
  have h1:=frsS_size (f:=inI m k x) (c:=1) x.inputs 0 s fun j n s _=>inI_size m k x j n s
  have h2:=hI x hx
  show(frsS (inI m k x) x.inputs 0 s).2.length≤_
  omega
 unfold inP
 split<;>exact this
theorem inp_16 {m:MdD} (h:gtN1 m=0) {k:Nat} (hk:k≤m.pages.length):∀x∈gtsK m k,x.inputs.length≤16:=fun x hx=>by
 obtain⟨_,hg⟩:=frsN_0 h k om
 rw [Nat.zero_add] at hg
 obtain⟨i,hi,rfl⟩:=List.getElem_of_mem hx
 have:=frst_0 gt0 (show frst (gtC m k) (gtsK m k) 0=0 from hg) i hi
 rw [List.getD_eq_getElem?_getD,List.getElem?_eq_getElem hi] at this
 simp only [Option.getD_some] at this
 generalize (gtsK m k)[i]=x at*
 unfold gtC at this
 split at this
 ·cases this
 split at this
 ·cases this
 unfold shpC at this
 split at this
 ·cases this
 split at this
 ·cases this
 rename_i hb
 unfold inpB at hb
 repeat' split at hb
 all_goals simp at hb<;>omega
end Go.PN
namespace Go.Proofs.YteehccacfedolaaGreat
open Go.AI Go.PN
attribute [local irreducible] aw Fa Fh DrK
theorem check_fa (m:MdD) (ho:MdO m):Fa Tryz.prog 18 [.agg (mdc true m)] (.c (errA (mcC m))):=by
 have hm:=ho.ok
 have hw2:=ho.wf2
 have hpl:=hw2.pl
 have fn:Fa Tryz.prog 40 [.c (.str (sB m.name))] (.c (.bool (nameOk m.name))):=tname_fa m.name ho.wf.nm
 have f1:=checkEvents_fa m hm ho.wf
 have f2:=checkPages_fa m hm hw2
 rw [mcC_eq]
 refine fa_of_body Tryz.func18 rfl rfl (by simp [Tryz.ntmps18]) fun C hC=> ?_
 simp only [initS,Nat.reduceAdd]
 repeat' first|refine yA1 o0 ?_|refine zW o0 ?_|refine yP o0 ?_|refine yN o0 ?_|refine zC o0 (fun hb=>?_) fun hb=>?_|refine zG o0 (fun hb=>?_) fun hb=>?_|refine zD o0 (fun hb=>?_) fun hb=>?_
 refine xB fun g1 hn_g1=>?_
 repeat' first|refine yA1 hn_g1 ?_|(refine yC2 hn_g1 (fn) ?_)|(refine yD2 hn_g1 (fn) ?_)|(refine yC2 hn_g1 (f1) ?_)|(refine yD2 hn_g1 (f1) ?_)|(refine yC2 hn_g1 (f2) ?_)|(refine yD2 hn_g1 (f2) ?_)|refine zW hn_g1 ?_|refine yP hn_g1 ?_|refine yN hn_g1 ?_|refine zC hn_g1 (fun hb=>?_) fun hb=>?_|refine zG hn_g1 (fun hb=>?_) fun hb=>?_|refine zD hn_g1 (fun hb=>?_) fun hb=>?_
 ·refine yT hC hn_g1 ?_
  rw [show nameOk m.name=false from by simpa using hb,orC_ne (by decide)]
  exact .one (.c (ler_errE rfl (by decide)))
 ·rename_i h1
  rw [if_pos (by simpa using h1),orC_z rfl,orC_ne (by simpa using hb)]
  refine yT hC hn_g1 ?_
  exact .one (.c ler_err)
 ·rename_i h1 h2
  rw [if_pos (by simpa using h1),orC_z rfl,orC_z (by simpa using h2),orC_ne (by simpa using hb)]
  refine yT hC hn_g1 ?_
  exact .one (.c ler_err)
 rename_i h1 h2
 have h3:pgsC m=0:=by simpa using hb
 rw [if_pos (by simpa using h1),orC_z rfl,orC_z (by simpa using h2),orC_z h3]
 clear fn f1 f2
 generalize hG:gtN1 m=G
 refine aw_lp (fun k:Nat=>[(1,.c (.optr g1 0)),(2,.c .nilI),(5,.c (.int .i64 ((k:Int)-1)))]) (fun _=>[(g1,.cells 30 8 (ofL (mdc true m)))]) (fun k=>k≤m.pages.length+1∧(frsN (fun k (_:Unit)=>(gtsC m k,())) (m.pages.length+1-k) k ()).1=G) (fun k=>m.pages.length+1-k) 0 (zB hn_g1) zZ ⟨Nat.zero_le _,hG⟩ ?_
 rintro k ⟨hk,hlp⟩
 repeat' first|refine yA1 hn_g1 ?_|refine zW hn_g1 ?_|refine yP hn_g1 ?_|refine yN hn_g1 ?_|refine zC hn_g1 (fun hb=>?_) fun hb=>?_|refine zG hn_g1 (fun hb=>?_) fun hb=>?_|refine zD hn_g1 (fun hb=>?_) fun hb=>?_
 ·have hk':k≤m.pages.length:=by omega
  have f1:=checkGates_fa m k hk' hm hw2
  rw [show m.pages.length+1-k=(m.pages.length+1-(k+1))+1 from by omega] at hlp
  repeat' first|refine yA1 hn_g1 ?_|(refine yC2 hn_g1 (f1) ?_)|(refine yD2 hn_g1 (f1) ?_)|refine zW hn_g1 ?_|refine yP hn_g1 ?_|refine yN hn_g1 ?_|refine zC hn_g1 (fun hb=>?_) fun hb=>?_|refine zG hn_g1 (fun hb=>?_) fun hb=>?_|refine zD hn_g1 (fun hb=>?_) fun hb=>?_
  ·have hb2:gtsC m k≠0:=by simpa using hb
   rw [frsN_ne (f:=fun k (_:Unit)=>(gtsC m k,())) hb2] at hlp
   have hlp:gtsC m k=G:=hlp
   subst hlp
   rw [orC_ne hb2]
   refine yT hC hn_g1 ?_
   exact .one (.c ler_err)
  ·rw [frsN_z (f:=fun k (_:Unit)=>(gtsC m k,())) (by simpa using hb)] at hlp
   refine aw_stop ⟨k+1,?_⟩
   and_intros
   all_goals first|rfl|exact List.Sublist.refl _|exact True.intro|exact hlp|exact c_int om|omega
 have hk1:k=m.pages.length+1:=by omega
 subst hk1
 rw [Nat.sub_self] at hlp
 have hG0:G=0:=hlp.symm
 subst hG0
 rw [orC_z rfl]
 have hI:=fun k hk=>inp_16 hG (k:=k) hk
 have hp8:m.pages.length≤8:=by
  unfold pgsC at h3
  split at h3
  ·cases h3
  ·omega
 have hIi:∀k,k≤m.pages.length→∀i,((gtsK m k).getD i gt0).inputs.length≤16:=fun k hk i=>getD_all (P:=fun x:GtD=>x.inputs.length≤16) (hI k hk) (Nat.zero_le _) i
 have hsz:=fun k hk sp=>inP_size (hI k hk) sp
 have hgl:=fun k=>gtsK_len hw2 k
 clear hlp
 generalize hN:inN1 m=N
 repeat' first|refine yA1 hn_g1 ?_|refine zW hn_g1 ?_|refine yP hn_g1 ?_|refine yN hn_g1 ?_|refine zC hn_g1 (fun hb=>?_) fun hb=>?_|refine zG hn_g1 (fun hb=>?_) fun hb=>?_|refine zD hn_g1 (fun hb=>?_) fun hb=>?_
 refine aw_lp (fun x:Nat×List BS×Option Nat=>[(1,.c (.optr g1 0)),(2,.c .nilI),(7,.c (gs x.2.2 1 x.2.1.length)),(8,.c (.int .i64 ((x.1:Int)-1)))]) (fun x=>gh x.2.2 9 x.2.1.length (strsF x.2.1)++[(g1,.cells 30 8 (ofL (mdc true m)))]) (fun x=>x.1≤m.pages.length+1∧(x.2.2=none→x.2.1.length=0)∧x.2.1.length≤16777216*x.1∧(frsN (inP m) (m.pages.length+1-x.1) x.1 x.2.1).1=N) (fun x=>m.pages.length+1-x.1) (0,[],none) (zB hn_g1) zZ ⟨Nat.zero_le _,fun _=>rfl,Nat.zero_le _,hN⟩ ?_
 rintro ⟨k,sp,og⟩ ⟨hk,hog,hsp,hlp⟩
 dsimp only at hk hog hsp hlp⊢
 refine aw_nd fun hnd=> ?_
 have hgn:∀g,og=some g→(g=g1)=False:=fun g e=>by
  subst e
  simp only [gh,Heap.keys,List.map_append,List.map_cons,List.map_nil,List.cons_append,List.nil_append] at hnd
  exact eq_false fun e=>(List.nodup_cons.1 hnd).1 (by rw [e];exact List.mem_cons_self)
 refine aw_perm List.perm_append_comm ?_
 clear hnd
 simp only [List.cons_append,List.nil_append]
 repeat' first|refine yA1 hn_g1 ?_|refine zW hn_g1 ?_|refine yP hn_g1 ?_|refine yN hn_g1 ?_|refine zC hn_g1 (fun hb=>?_) fun hb=>?_|refine zG hn_g1 (fun hb=>?_) fun hb=>?_|refine zD hn_g1 (fun hb=>?_) fun hb=>?_
 ·have hk':k≤m.pages.length:=by omega
  have hsz':=hsz k hk' sp
  have hgk:=hgl k
  rw [show m.pages.length+1-k=(m.pages.length+1-(k+1))+1 from by omega] at hlp
  refine aw_callh (hc:=gh og 9 sp.length (strsF sp)) (hr:=[(g1,.cells 30 8 (ofL (mdc true m)))]) (checkInputs_fh m k sp og hk' hm hw2 (hIi k hk') (fun i j=>ho.inl k i j) hog om) rfl rfl rfl (List.perm_append_comm (l₁:=[(g1,_)])) (zL hn_g1) ?_
  rintro _ _ (⟨q1,rfl,rfl⟩|⟨q1,og2,q2,rfl,rfl⟩) _
  ·rw [frsN_ne (f:=inP m) q1] at hlp
   subst hlp
   simp only [List.nil_append]
   rw [orC_ne q1]
   refine yS hn_g1 ?_
   repeat' first|refine yA1 hn_g1 ?_|refine zW hn_g1 ?_|refine yP hn_g1 ?_|refine yN hn_g1 ?_|refine zC hn_g1 (fun hb=>?_) fun hb=>?_|refine zG hn_g1 (fun hb=>?_) fun hb=>?_|refine zD hn_g1 (fun hb=>?_) fun hb=>?_
   ·refine yT hC hn_g1 ?_
    exact .one (.c ler_err)
   ·exfalso;simp_all
  ·rw [frsN_z (f:=inP m) q1] at hlp
   refine yS hn_g1 ?_
   repeat' first|refine yA1 hn_g1 ?_|refine zW hn_g1 ?_|refine yP hn_g1 ?_|refine yN hn_g1 ?_|refine zC hn_g1 (fun hb=>?_) fun hb=>?_|refine zG hn_g1 (fun hb=>?_) fun hb=>?_|refine zD hn_g1 (fun hb=>?_) fun hb=>?_
   refine aw_stop ⟨(k+1,(inP m k sp).2,og2),?_⟩
   and_intros
   all_goals first|rfl|exact List.Sublist.refl _|exact True.intro|exact q2|exact hlp|exact c_int om|(dsimp only;omega)
 all_goals
  have hk1:k=m.pages.length+1:=by omega
  subst hk1
  rw [Nat.sub_self] at hlp
  have hN0:N=0:=hlp.symm
  subst hN0
  rw [orC_z rfl]
 have f3:=isInput_fa m 0 m.top (Nat.zero_le _) hm (Nat.le_trans (hgl 0) (by decide)) (Nat.le_trans ho.tp (by decide))
 rw [show((0:Nat):Int)-1= -1 from rfl] at f3
 have f4:=checkGroups_fa m hm ho.wf4
 have f5:=checkPhases_fa m hm hw2 ho.wf3
 clear hlp hsp hog hgn
 repeat' first|refine yA1 hn_g1 ?_|(refine yC2 hn_g1 (f3) ?_)|(refine yD2 hn_g1 (f3) ?_)|(refine yC2 hn_g1 (f4) ?_)|(refine yD2 hn_g1 (f4) ?_)|(refine yC2 hn_g1 (f5) ?_)|(refine yD2 hn_g1 (f5) ?_)|refine zW hn_g1 ?_|refine yP hn_g1 ?_|refine yN hn_g1 ?_|refine zC hn_g1 (fun hb=>?_) fun hb=>?_|refine zG hn_g1 (fun hb=>?_) fun hb=>?_|refine zD hn_g1 (fun hb=>?_) fun hb=>?_
 ·refine yT hC hn_g1 ?_
  rw [show isInp m 0 m.top=false from by simpa using hb,if_neg (by decide),orC_ne (by decide)]
  exact .one (.c (ler_errE rfl (by decide)))
 ·rename_i h4
  rw [if_pos (by simpa using h4),orC_z rfl,orC_ne (by simpa using hb)]
  refine yT hC hn_g1 ?_
  exact .one (.c ler_err)
 ·rename_i h4 h5
  rw [if_pos (by simpa using h4),orC_z rfl,orC_z (by simpa using h5),orC_ne (by simpa using hb)]
  refine yT hC hn_g1 ?_
  exact .one (.c ler_err)
 rename_i h4 h5
 have e0:mcode0 m=0:=by
  unfold mcode0
  rw [if_pos (by simpa using h1),orC_z rfl,orC_z (by simpa using h2),orC_z h3,orC_z hG,orC_z hN,if_pos (by simpa using h4),orC_z rfl,orC_z (by simpa using h5)]
  simpa using hb
 rw [if_pos (by simpa using h4),orC_z rfl,orC_z (by simpa using h5),orC_z (by simpa using hb)]
 have f6:=cyclic_fa m (ho.cy e0)
 repeat' first|refine yA1 hn_g1 ?_|(refine yC2 hn_g1 (f6) ?_)|(refine yD2 hn_g1 (f6) ?_)|refine zW hn_g1 ?_|refine yP hn_g1 ?_|refine yN hn_g1 ?_|refine zC hn_g1 (fun hb=>?_) fun hb=>?_|refine zG hn_g1 (fun hb=>?_) fun hb=>?_|refine zD hn_g1 (fun hb=>?_) fun hb=>?_
 ·refine yT hC hn_g1 ?_
  rw [if_pos hb]
  exact .one (.c (ler_errE rfl (by decide)))
 ·refine yT hC hn_g1 ?_
  rw [if_neg (by simpa using hb)]
  exact .one (.c (ler_err0 rfl))
end Go.Proofs.YteehccacfedolaaGreat
namespace Go.PN
open Go.AI
theorem splitT_len {l:BS} (B:Nat):∀(n i:Nat) (out:List TK),out.length+(l.length-i)≤B→(splitT l n i out).2.length≤B
 |0,_,_,h=>by unfold splitT;dsimp only;omega
 |n+1,i,out,h=>by
  unfold splitT
  by_cases hi:i<l.length
  ·rw [if_pos hi]
   cases hs:stepT l i with
   |err c=>exact Nat.zero_le _
   |skip e=>
    have:=stepT_skip hi hs
    exact splitT_len B n e out om
   |tok k e=>
    have:=stepT_tok hi hs
    exact splitT_len B n e _ (by rw [List.length_append,List.length_singleton];omega)
  ·rw [if_neg hi];dsimp only;omega
theorem splitT_txt {l:BS}:∀(n i:Nat) (out:List TK),(∀t∈out,t.text.length≤l.length)→∀t∈(splitT l n i out).2,t.text.length≤l.length
 |0,_,_,h=>h
 |n+1,i,out,h=>by
  unfold splitT
  by_cases hi:i<l.length
  ·rw [if_pos hi]
   cases hs:stepT l i with
   |err c=>exact fun _ h=>by cases h
   |skip e=>exact splitT_txt n e out h
   |tok k e=>
    have hh:=stepT_tok hi hs
    refine splitT_txt n e _ fun t ht=> ?_
    rcases List.mem_append.1 ht with e'|e'
    ·exact h t e'
    ·rw [List.mem_singleton.1 e']
     show(cutS l i e).length≤_
     rw [cutS_len hh.2];omega
  ·rw [if_neg hi];exact h
theorem splitS_len (l:BS):(splitS l).2.length≤65536:=by
 unfold splitS
 split
 ·exact Nat.zero_le _
 ·exact splitT_len 65536 _ _ _ (by simp;omega)
theorem splitS_txt (l:BS):∀t∈(splitS l).2,t.text.length≤65536:=by
 unfold splitS
 split
 ·exact fun _ h=>by cases h
 ·exact fun t ht=>Nat.le_trans (splitT_txt _ _ _ (fun _ h=>by cases h) t ht) om
theorem splitS_ok (l:BS):TksOk (splitS l).2:=by
 unfold splitS
 split
 ·exact fun _ h=>by cases h
 ·exact splitT_ok _ _ _ fun _ h=>by cases h
end Go.PN
namespace Go.PN
open Go.AI
theorem read_o (l:BS):MdO (readS ⟨(splitS l).2,0⟩).1:=sz_read _ (fun t ht=>Nat.le_trans (splitS_txt l t ht) (by decide)) (by
 have:=splitS_len l
 show(if(0:Int)=0 then(splitS l).2.length+1 else 0)≤NG
 rw [if_pos rfl]
 show _≤1048576
 omega)
theorem md0_o:MdO md0:=⟨Nat.zero_le _,Nat.zero_le _,⟨Nat.zero_le _,fun _ h=>by cases h⟩,⟨Nat.zero_le _,fun _ h=>by cases h⟩,⟨Nat.zero_le _,fun _ h=>by cases h⟩,⟨Nat.zero_le _,fun _ h=>by cases h⟩,⟨Nat.zero_le _,fun _ h=>by cases h⟩,⟨Nat.zero_le _,fun _ h=>by cases h⟩⟩
theorem modelP_o (ck:MdD→Int) (l:BS):MdO (modelP ck l).1:=by
 unfold modelP
 dsimp only
 split
 ·exact md0_o
 split
 ·exact md0_o
 split
 ·exact md0_o
 ·exact read_o l
end Go.PN
namespace Go.Proofs.YteehccacfedolaaGreat
open Go.AI Go.PN
attribute [local irreducible] aw Fa Fh DrK
theorem pm_fa (l:BS) (hl:l.length≤1099511627776):Fa Tryz.prog 5 [.c (.str (sB l))] (.tup [.agg (mdc true (modelP mcC l).1),.c (errA (modelP mcC l).2)]):=
 pmodel_fa mcC l hl (Nat.le_trans (splitS_len l) (by decide)) (fun t ht=>Nat.le_trans (splitS_txt l t ht) (by decide)) fun _=>check_fa _ (read_o l)
theorem pg_fa (l:BS) (hl:l.length≤1099511627776):Fa Tryz.prog 9 [.c (.str (sB l))] (.tup [.agg (gtc (gateP l).1),.c (errA (gateP l).2)]):=pgate_fa l hl (Nat.le_trans (splitS_len l) (by decide)) (fun t ht=>Nat.le_trans (splitS_txt l t ht) (by decide))
end Go.Proofs.YteehccacfedolaaGreat
