/- Parts of one proof, laid by a program. -/
import Derived.Test.YtjegkdadeghpjaaGreatDoorW00
import Derived.Test.YtjegkdadeghpjaaGreatDoorW10a
set_option linter.unusedSimpArgs false
set_option linter.unusedVariables false
set_option maxRecDepth 100000
set_option maxHeartbeats 12800000
namespace Go.Proofs.YtjegkdadeghpjaaGreatDoor
open Go.AI Go.PN Proofs.Tryz
attribute [local irreducible] aw Fa VA Vk Fh YO
theorem SO (m:Qz) (ho:K5 m):Fa prog 40 [.agg (Xo true m)] (.c (.int .i64 (Vd m))):=by
 have hm:=ho.ok
 have hw:=ho.RW
 have cZ:=ho.wi
 have hl:=hw.l
 refine fA func40 fun C hC=>?_
 refine zA o0 ?_
 refine xB fun g1 ah=>?_
 repeat' first|refine zV ah ?_|refine zH ah ?_ ?_<;>intro hb|fail
 ·refine yT hC ah ?_
  exact .one (.c (Qn (by unfold Vd;rw [iP om])))
 have ef:Vd m=XU (iv m) m.ai 0:=by
  unfold Vd
  rw [iN om]
 generalize hF:XU (iv m) m.ai 0=F at ef
 refine Qh (fun i:Nat=>[(1,.c (.aj g1 0)),(16,.c (fS true m.ai)),(17,.c (.int .i64 m.ai.length)),(18,.c (.int .i64 i))]) (fun _=>[(g1,.cells 45 8 (ao (Xo true m)))]) (fun i=>i≤m.ai.length∧XU (iv m) (m.ai.drop i) i=F) (fun i=>m.ai.length-i) 0 (zB ah) zZ ⟨Lz _,hF⟩ ?_
 rintro i ⟨hi,aB⟩
 repeat' first|refine zV ah ?_|refine zH ah ?_ ?_<;>intro hb|fail
 ·obtain⟨w0,w1,w2⟩:=hw.ph i
  have w3:∀k,((m.ai.getD i cd).values.getD k bE).p.wf 500000000:=fun k=>V2.m (QF (QF ho.ph.2 uy i).2.2.2 CZ k).2
  have hi':=hb
  have hR:∀c,iv m i (m.ai.getD i cd)=c→c≠0→Vd m=c:=fun c hc h0=>by
   rw [ef];exact Zk aB hi' hc h0
  have hG:=Vi (d:=cd) aB hi'
  clear aB
  generalize hx:m.ai.getD i cd=x at*
  have f1:Fa prog 82 [.c (.str (sB x.name))] (.c (.bool (QD x.name))):=Ji x.name w0
  have f3:Fa prog 91 [.agg (Xo true m),.c (.int .i64 (-1)),.c (.str (sB x.top))] (.c (.bool (Yg m 0 x.top))):=Aw m 0 x.top (Lz _) hm.ev hm.hs hm.pg (Lt (ho.ca 0).1 Af) w1
  refine yA ah fun g4 aC=>?_
  all_goals try(have Z:=(oj ah aC);(repeat' first|refine zV Z ?_|refine yQ Z f1 ?_|refine zH Z ?_ ?_<;>intro hb|fail);all_goals clear Z)
  ·refine yT hC (oj ah aC) ?_
   refine .one (.c (Qn (hR _ ?_ Af).symm))
   unfold iv
   rw [iP (by simpa using hb)]
  have fW:=hb
  have p8:((m.ai.getD i cd).name==x.name)=true:=by rw [hx];exact beq_self_eq_true _
  refine Qh (fun j:Nat=>[(1,.c (.aj g1 0)),(3,.c (.int .i64 i)),(4,.c (.aj g4 0)),(16,.c (fS true m.ai)),(17,.c (.int .i64 m.ai.length)),(18,.c (.int .i64 i)),(30,.c (.row true 3 i (V1 m.ai))),(31,.c (.int .i64 i)),(32,.c (.int .i64 j))]) (fun _=>[(g4,.cells 112 3 (ao (Wr x))),(g1,.cells 45 8 (ao (Xo true m)))]) (fun j=>j≤i∧∀t,t<j→((m.ai.getD t cd).name==x.name)=false) (fun j=>i-j) 0 (zB (oj ah aC)) zZ ⟨Lz _,fun t ht=>absurd ht (Nat.not_lt_zero t)⟩ ?_
  rintro j ⟨hj,fX⟩
  all_goals try(have Z:=(oj ah aC);(repeat' first|refine zV Z ?_|refine zH Z ?_ ?_<;>intro hb|fail);all_goals clear Z)
  ·have dO:=hb
   refine yA (oj ah aC) fun g6 aJ=>?_
   all_goals try(have Z:=(oj ah (oj aC aJ));(repeat' first|refine zV Z ?_|refine zH Z ?_ ?_<;>intro hb|fail);all_goals clear Z)
   ·refine yT hC (oj ah (oj aC aJ)) ?_
    refine .one (.c (Qn (hR _ ?_ Af).symm))
    unfold iv
    rw [iN (by simpa using fW),iP (Cj (d:=cd) om dO (by simpa using hb) fX)]
   ·refine Qb ⟨j+1,?_⟩
    and_intros
    all_goals first|rfl|exact Lr _|exact Ls _ _|exact True.intro|exact uj (p:=fun t=>(m.ai.getD t cd).name==x.name) fX (by simpa using hb)|omega
  have rE:j=i:=by omega
  subst rE
  have km:¬Xj (fun y:Ke=>y.name==x.name) m.ai<(j:Nat):=AA (d:=cd) hi' p8 fX
  all_goals try(have Z:=(oj ah aC);(repeat' first|refine zV Z ?_|refine yQ Z f3 ?_|refine zH Z ?_ ?_<;>intro hb|fail);all_goals clear Z)
  ·refine yT hC (oj ah aC) ?_
   refine .one (.c (Qn (hR _ ?_ Af).symm))
   unfold iv
   rw [iN (by simpa using fW),iN km,iP (by simpa using hb)]
  have Ep:=hb
  have hp:iv m j x=XU (gY m x) x.values 0:=by
   unfold iv
   rw [iN (by simpa using fW),iN km,iN (by simpa using Ep)]
  clear f1 f3 fX
  generalize iU:XU (gY m x) x.values 0=F2 at hp
  refine Qh (fun k:Nat=>[(1,.c (.aj g1 0)),(4,.c (.aj g4 0)),(16,.c (fS true m.ai)),(17,.c (.int .i64 m.ai.length)),(18,.c (.int .i64 j)),(48,.c (ll true x.values)),(49,.c (.int .i64 x.values.length)),(50,.c (.int .i64 k))]) (fun _=>[(g4,.cells 112 3 (ao (Wr x))),(g1,.cells 45 8 (ao (Xo true m)))]) (fun k=>k≤x.values.length∧XU (gY m x) (x.values.drop k) k=F2) (fun k=>x.values.length-k) 0 (zB (oj ah aC)) zZ ⟨Lz _,iU⟩ ?_
  rintro k ⟨hk,bT⟩
  all_goals try(have Z:=(oj ah aC);(repeat' first|refine zV Z ?_|refine zH Z ?_ ?_<;>intro hb|fail);all_goals clear Z)
  ·have dC:=hb
   have jT:∀c,gY m x k (x.values.getD k bE)=c→c≠0→Vd m=c:=fun c hc h0=>hR c (hp.trans (Zk bT dC hc h0)) h0
   have uX:=Vi (d:=bE) bT dC
   clear bT
   have w4:=w3 k
   generalize hv:x.values.getD k bE=v at*
   have f1:=ZM m v.event hm.ev
   have f3:=wI v.p w4
   have hvn:((x.values.getD k bE).event==v.event)=true:=by rw [hv];exact beq_self_eq_true _
   refine yA (oj ah aC) fun g8 eP=>?_
   all_goals try(have Z:=(oj ah (oj aC eP));(repeat' first|refine zV Z ?_|refine yQ Z f1 ?_|refine zH Z ?_ ?_<;>intro hb|fail);all_goals clear Z)
   ·refine yT hC (oj ah (oj aC eP)) ?_
    refine .one (.c (Qn (jT _ ?_ Af).symm))
    unfold gY
    rw [iP hb]
   have m1:=hb
   refine Qh (fun q:Nat=>[(1,.c (.aj g1 0)),(4,.c (.aj g4 0)),(7,.c (.int .i64 k)),(8,.c (.aj g8 0)),(16,.c (fS true m.ai)),(17,.c (.int .i64 m.ai.length)),(18,.c (.int .i64 j)),(48,.c (ll true x.values)),(49,.c (.int .i64 x.values.length)),(50,.c (.int .i64 k)),(63,.c (.row true 4 k (VJ x.values))),(64,.c (.int .i64 k)),(65,.c (.int .i64 q))]) (fun _=>(g8,.cells 114 4 (ao (O3 v)))::[(g4,.cells 112 3 (ao (Wr x))),(g1,.cells 45 8 (ao (Xo true m)))]) (fun q=>q≤k∧∀t,t<q→((x.values.getD t bE).event==v.event)=false) (fun q=>k-q) 0 (zB (oj ah (oj aC eP))) zZ ⟨Lz _,fun t ht=>absurd ht (Nat.not_lt_zero t)⟩ ?_
   rintro q ⟨hq,fX⟩
   all_goals try(have Z:=(oj ah (oj aC eP));(repeat' first|refine zV Z ?_|refine zH Z ?_ ?_<;>intro hb|fail);all_goals clear Z)
   ·have tB:=hb
    refine yA (oj ah (oj aC eP)) fun g10 bk=>?_
    all_goals try(have Z:=(oj ah (oj aC (oj eP bk)));(repeat' first|refine zV Z ?_|refine zH Z ?_ ?_<;>intro hb|fail);all_goals clear Z)
    ·refine yT hC (oj ah (oj aC (oj eP bk))) ?_
     refine .one (.c (Qn (jT _ ?_ Af).symm))
     unfold gY
     rw [iN m1,iP (Cj (d:=bE) om tB (by simpa using hb) fX)]
    ·refine Qb ⟨q+1,?_⟩
     and_intros
     all_goals first|rfl|exact Lr _|exact Ls _ _|exact True.intro|exact uj (p:=fun t=>(x.values.getD t bE).event==v.event) fX (by simpa using hb)|omega
   have hqE:q=k:=by omega
   subst hqE
   have m2:¬Xj (fun y:Zh=>y.event==v.event) x.values<(q:Nat):=AA (d:=bE) dC hvn fX
   all_goals try(have Z:=(oj ah (oj aC eP));(repeat' first|refine zV Z ?_|refine yQ Z f3 ?_|refine zH Z ?_ ?_<;>intro hb|fail);all_goals clear Z)
   ·refine yT hC (oj ah (oj aC eP)) ?_
    refine .one (.c (Qn (jT _ ?_ Af).symm))
    unfold gY
    rw [iN m1,iN m2,iP (by simpa using hb)]
   ·refine Qb ⟨q+1,?_⟩
    have hz:gY m x q v=0:=by
     unfold gY
     rw [iN m1,iN m2,iN (by simpa using hb)]
    and_intros
    all_goals first|rfl|exact Lr _|exact Ls _ _|exact True.intro|exact uX hz|omega
  ·have bU:=YK bT hb
   refine Qb ⟨j+1,?_⟩
   and_intros
   all_goals first|rfl|exact Lr _|exact Ls _ _|exact True.intro|exact hG (hp.trans bU)|omega
 ·have bU:=YK aB hb
  subst bU
  refine yT hC ah ?_
  exact .one (.c (Qn ef.symm))
theorem SP (m:Qz) (ho:K5 m):Fa prog 39 [.agg (Xo true m)] (.c (.int .i64 (YP m))):=by
 have hm:=ho.ok
 have hw:=ho.RX
 have hl:=hw.l
 refine fA func39 fun C hC=>?_
 refine zA o0 ?_
 refine xB fun g1 ah=>?_
 repeat' first|refine zV ah ?_|refine zH ah ?_ ?_<;>intro hb|fail
 ·refine yT hC ah ?_
  exact .one (.c (Qn (by unfold YP;rw [iP om])))
 have h8:m.ae.length≤8:=by omega
 have ef:YP m=(XT (WB m) m.ae 0 []).1:=by
  unfold YP
  rw [iN om]
 generalize hF:XT (WB m) m.ae 0 []=F at ef
 refine Qh (fun x:Nat×List BS×Option Nat=>[(1,.c (.aj g1 0)),(3,.c (gs x.2.2 1 x.2.1.length)),(21,.c (fB true m.ae)),(22,.c (.int .i64 m.ae.length)),(23,.c (.int .i64 x.1))]) (fun x=>[(g1,.cells 45 8 (ao (Xo true m)))]++gh x.2.2 9 x.2.1.length (Qi x.2.1)) (fun x=>x.1≤m.ae.length∧(x.2.2=none→x.2.1.length=0)∧x.2.1.length≤1048576*x.1∧XT (WB m) (m.ae.drop x.1) x.1 x.2.1=F) (fun x=>m.ae.length-x.1) (0,[],none) (zB ah) zZ ⟨Lz _,fun _=>rfl,Lz _,hF⟩ ?_
 rintro ⟨i,ms,og⟩ ⟨hi,ax,bF,aB⟩
 dsimp only at hi ax bF aB⊢
 simp only [Lq,Ln]
 repeat' first|refine zV ah ?_|refine zH ah ?_ ?_<;>intro hb|fail
 ·obtain⟨w0,w1,w2⟩:=hw.gr i
  have w3:∀k,((m.ae.getD i bJ).ar.getD k aW).wf 500000000:=fun k=>V2.m (QF (QF ho.gr.2 ux i).2.2.2.2 ZK k)
  have hi':=hb
  have hR:∀c s,WB m i (m.ae.getD i bJ) ms=(c,s)→c≠0→YP m=c:=fun c s hc h0=>by
   rw [ef,VO aB hi' hc h0]
  have cC:=fun r=>KV (d:=bJ) (r:=r) aB hi'
  clear aB
  have p8:((m.ae.getD i bJ).name==(m.ae.getD i bJ).name)=true:=beq_self_eq_true _
  generalize hx:m.ae.getD i bJ=x at*
  rw [←hx] at p8
  have f1:Fa prog 82 [.c (.str (sB x.name))] (.c (.bool (QD x.name))):=Ji x.name w0
  refine yA ah fun g5 aM=>?_
  all_goals try(have Z:=(oj ah aM);(repeat' first|refine zV Z ?_|refine yQ Z f1 ?_|refine zH Z ?_ ?_<;>intro hb|fail);all_goals clear Z)
  ·refine yT hC (oj ah aM) ?_
   refine .one (.c (Qn (hR _ ms ?_ Af).symm))
   unfold WB
   rw [iP (by simpa using hb)]
  have fW:=hb
  rw [hx] at p8
  refine Qh (fun j:Nat=>[(1,.c (.aj g1 0)),(3,.c (gs og 1 ms.length)),(4,.c (.int .i64 i)),(5,.c (.aj g5 0)),(21,.c (fB true m.ae)),(22,.c (.int .i64 m.ae.length)),(23,.c (.int .i64 i)),(35,.c (.row true 4 i (Vs m.ae))),(36,.c (.int .i64 i)),(37,.c (.int .i64 j))]) (fun _=>(g5,.cells 108 4 (ao (UF x)))::(g1,.cells 45 8 (ao (Xo true m)))::gh og 9 ms.length (Qi ms)) (fun j=>j≤i∧∀t,t<j→((m.ae.getD t bJ).name==x.name)=false) (fun j=>i-j) 0 (zB (oj ah aM)) zZ ⟨Lz _,fun t ht=>absurd ht (Nat.not_lt_zero t)⟩ ?_
  rintro j ⟨hj,fX⟩
  by_cases dw:j<i
  ·have dj:decide (j<i)=true:=Dt dw
   refine zA (oj ah (oj aM dj)) ?_
   refine yA (oj ah (oj aM dj)) fun g7 da=>?_
   all_goals try(have Z:=(oj ah (oj aM (oj dj da)));(repeat' first|refine zV Z ?_|refine zH Z ?_ ?_<;>intro hb|fail);all_goals clear Z)
   ·refine yT hC (oj ah (oj aM (oj dj da))) ?_
    refine .one (.c (Qn (hR _ ms ?_ Af).symm))
    unfold WB
    rw [iN (by simpa using fW),iP (Cj (d:=bJ) om dw (by simpa using hb) fX)]
   ·refine Qb ⟨j+1,?_⟩
    and_intros
    all_goals first|rfl|exact Lr _|exact Ls _ _|exact True.intro|exact uj (p:=fun t=>(m.ae.getD t bJ).name==x.name) fX (by simpa using hb)|omega
  have rE:j=i:=by omega
  subst rE
  have dj:decide (j<j)=false:=De dw
  have km:¬Xj (fun y:YU=>y.name==x.name) m.ae<(j:Nat):=AA (d:=bJ) hi' (by rw [hx];exact beq_self_eq_true _) fX
  clear fX hj dw f1 p8
  have hK:∀(mo:Int) (fc:Int),mo=(if x.kind=1 then 4 else 24)→fc=(if x.kind=1 then(x.members.length:Int)-1 else 1)→WB m j x ms=if x.kind≠0∧x.kind≠1 then(7,ms) else if(x.members.length:Int)<2∨(x.members.length:Int)>mo∨(x.ar.length:Int)≠fc then(11,ms)
   else if(XT (Wx m) x.members 0 ms).1≠0 then XT (Wx m) x.members 0 ms
   else if x.ar.all RD.bI=false then(3,ms) else(0,(XT (Wx m) x.members 0 ms).2):=fun mo fc h1 h2=>by
   unfold WB
   rw [iN (by simpa using fW),iN km,h1,h2]
  obtain⟨nm,kd,mb,fc⟩:=x
  dsimp only at*
  all_goals try(have Z:=(oj ah (oj aM dj));(repeat' first|refine zV Z ?_|refine zH Z ?_ ?_<;>intro hb|fail);all_goals clear Z)
  all_goals
   try
    refine Xl 6 Qg kR ?_
  all_goals try(have Z:=(oj ah (oj aM dj));(repeat' first|refine zV Z ?_|refine zH Z ?_ ?_<;>intro hb|fail);all_goals clear Z)
  all_goals first
   |(refine yT hC (oj ah (oj aM dj)) ?_
     refine .one (.c (Qn (hR _ ms ?_ Af).symm))
     rw [hK _ _ rfl rfl]
     clear hK hR cC
     repeat' split
     all_goals exact Ah)
   |skip
  all_goals
   have hQ:WB m j ⟨nm,kd,mb,fc⟩ ms=(if(XT (Wx m) mb 0 ms).1≠0 then XT (Wx m) mb 0 ms else if fc.all RD.bI=false then(3,ms) else(0,(XT (Wx m) mb 0 ms).2)):=by
    rw [hK _ _ rfl rfl]
    clear hK hR cC
    rw [iN,iN]
    all_goals (simp_all<;>omega)
   clear hK
   generalize iU:XT (Wx m) mb 0 ms=F2 at hQ
   refine Qh (fun y:Nat×List BS×Option Nat=>[(1,.c (.aj g1 0)),(3,.c (gs y.2.2 1 y.2.1.length)),(5,.c (.aj g5 0)),(21,.c (fB true m.ae)),(22,.c (.int .i64 m.ae.length)),(23,.c (.int .i64 j)),(81,.c (YH true mb)),(82,.c (.int .i64 mb.length)),(83,.c (.int .i64 y.1))]) (fun y=>[(g5,.cells 108 4 (ao (UF ⟨nm,kd,mb,fc⟩))),(g1,.cells 45 8 (ao (Xo true m)))]++gh y.2.2 9 y.2.1.length (Qi y.2.1)) (fun y=>y.1≤mb.length∧(y.2.2=none→y.2.1.length=0)∧y.2.1.length≤ms.length+y.1∧XT (Wx m) (mb.drop y.1) y.1 y.2.1=F2) (fun y=>mb.length-y.1) (0,ms,og) (zB (oj ah (oj aM dj))) zZ ⟨Lz _,ax,by dsimp only;omega,iU⟩ ?_
   rintro ⟨q,sq,oq⟩ ⟨hq,dI,oO,bT⟩
   dsimp only at hq dI oO bT⊢
   simp only [Lq,Ln]
   by_cases vE:q<mb.length
   ·have dq:decide (q<mb.length)=true:=Dt vE
    have jK:=fun r=>VO (d:=([]:BS)) (r:=r) bT vE
    have mU:=fun r=>KV (d:=([]:BS)) (r:=r) bT vE
    clear bT
    generalize hy:mb.getD q []=y at*
    have jT:∀c s,Wx m q y sq=(c,s)→c≠0→YP m=c:=fun c s h1 h2=>by
     have a1:=jK _ h1 h2
     refine hR c s ?_ h2
     rw [hQ,a1]
     exact iP h2
    have f5:=ZM m y hm.ev
    all_goals try(have Z:=(oj ah (oj aM (oj dj (oj dq hy))));(repeat' first|refine zV Z ?_|refine yQ Z f5 ?_|refine zH Z ?_ ?_<;>intro hb|fail);all_goals clear Z)
    ·refine yT hC (oj ah (oj aM (oj dj (oj dq hy)))) ?_
     refine .one (.c (Qn (jT _ sq ?_ Af).symm))
     unfold Wx
     rw [iP hb]
    have h5:=hb
    refine Xh (QB.lV (zE (oj ah (oj aM (oj dj (oj dq hy))))) (zE (oj ah (oj aM (oj dj (oj dq hy))))) (wR (s:=1) dI)) rfl rfl ?_
    have J1:=oj ah (oj aM (oj dj (oj dq hy)))
    refine yS J1 ?_
    refine zA J1 ?_
    refine Qh (fun t:Nat=>[(1,.c (.aj g1 0)),(3,.c (gs oq 1 sq.length)),(5,.c (.aj g5 0)),(11,.c (.str (sB y))),(21,.c (fB true m.ae)),(22,.c (.int .i64 m.ae.length)),(23,.c (.int .i64 j)),(81,.c (YH true mb)),(82,.c (.int .i64 mb.length)),(83,.c (.int .i64 q)),(91,.c (gs oq 1 sq.length)),(92,.c (.int .i64 sq.length)),(93,.c (.int .i64 t))]) (fun _=>(g5,.cells 108 4 (ao (UF ⟨nm,kd,mb,fc⟩)))::(g1,.cells 45 8 (ao (Xo true m)))::gh oq 9 sq.length (Qi sq)) (fun t=>t≤sq.length∧∀u,u<t→(sq.getD u []==y)=false) (fun t=>sq.length-t) 0 (zB J1) zZ ⟨Lz _,fun u hu=>absurd hu (Nat.not_lt_zero u)⟩ ?_
    rintro t ⟨ht,gj⟩
    by_cases fO:t<sq.length
    ·have dt:decide (t<sq.length)=true:=Dt fO
     obtain⟨g,rfl⟩:∃g,oq=some g:=by
      cases oq with
      |none=>exact absurd (dI rfl) om
      |some g=>exact⟨g,rfl⟩
     dsimp only [gs,gh]
     refine YY fun bf=> ?_
     simp only [Qa.keys,Ld,List.map_nil] at bf
     replace bf:=CC bf
     dsimp only [z6,vY] at bf
     all_goals try(have Z:=(oj ah (oj aM (oj dj (oj dq (oj hy (oj dt bf))))));(repeat' first|refine zV Z ?_|refine zH Z ?_ ?_<;>intro hb|fail);all_goals clear Z)
     ·refine yT hC (oj ah (oj aM (oj dj (oj dq (oj hy (oj dt bf)))))) ?_
      refine .one (.c (Qn (jT _ sq ?_ Af).symm))
      unfold Wx
      rw [iN h5,iP (MR fO hb)]
     ·refine Qb ⟨t+1,?_⟩
      and_intros
      all_goals first|rfl|exact Lr _|exact True.intro|exact uj (p:=fun u=>sq.getD u []==y) gj (by simpa using hb)|omega
    ·have dt:decide (t<sq.length)=false:=De fO
     have hz:Wx m q y sq=(0,sq++[y]):=by
      unfold Wx
      rw [iN h5,iN (by rw [MQ fun u hu=>gj u om];decide)]
     have tB:=mU _ hz rfl
     have dZ:(sq++[y]).length=sq.length+1:=by rw [La];rfl
     refine zA (oj ah (oj aM (oj dj (oj dq (oj hy dt))))) ?_
     refine QT (pre:=[(g5,.cells 108 4 (ao (UF ⟨nm,kd,mb,fc⟩))),(g1,.cells 45 8 (ao (Xo true m)))]) rfl rfl rfl rfl rfl rfl rfl (zE (oj ah (oj aM (oj dj (oj dq (oj hy dt)))))) (zE (oj ah (oj aM (oj dj (oj dq (oj hy dt)))))) (by rfl) om om (zE (oj ah (oj aM (oj dj (oj dq (oj hy dt)))))) om (by exact dI) (zE (oj ah (oj aM (oj dj (oj dq (oj hy dt)))))) (by rfl) (by rfl) qb qc om (by exact Yq rfl y) fun gb bH=> ?_
     replace bH:=Qa.ay bH
     first|dsimp only [Qa.ne,gh] at bH|dsimp only [Qa.ne] at bH|skip
     have J2:=oj ah (oj aM (oj dj (oj dq (oj hy (oj dt bH)))))
     refine yS J2 ?_
     refine zA J2 ?_
     refine Qb ⟨(q+1,sq++[y],some gb),?_⟩
     dsimp only
     simp only [dZ]
     and_intros
     all_goals first|rfl|exact Lr _|exact Ls _ _|exact True.intro|exact Xx|exact tB|omega
   ·have dq:decide (q<mb.length)=false:=De vE
    have bU:=YL bT vE
    subst bU
    refine zA (oj ah (oj aM (oj dj dq))) ?_
    refine Qh (fun t:Nat=>[(1,.c (.aj g1 0)),(3,.c (gs oq 1 sq.length)),(21,.c (fB true m.ae)),(22,.c (.int .i64 m.ae.length)),(23,.c (.int .i64 j)),(107,.c (OB true fc)),(108,.c (.int .i64 fc.length)),(109,.c (.int .i64 t))]) (fun _=>(g5,.cells 108 4 (ao (UF ⟨nm,kd,mb,fc⟩)))::(g1,.cells 45 8 (ao (Xo true m)))::gh oq 9 sq.length (Qi sq)) (fun t=>t≤fc.length∧∀u,u<t→(fc.getD u aW).bI=true) (fun t=>fc.length-t) 0 (zB (oj ah (oj aM (oj dj dq)))) zZ ⟨Lz _,fun u hu=>absurd hu (Nat.not_lt_zero u)⟩ ?_
    rintro t ⟨ht,Rs⟩
    by_cases fO:t<fc.length
    ·have dt:decide (t<fc.length)=true:=Dt fO
     have f6:=wI (fc.getD t aW) (w3 t)
     refine zA (oj ah (oj aM (oj dj (oj dq dt)))) ?_
     refine yA (oj ah (oj aM (oj dj (oj dq dt)))) fun g15 vW=>?_
     all_goals try(have Z:=(oj ah (oj aM (oj dj (oj dq (oj dt vW)))));(repeat' first|refine zV Z ?_|refine yQ Z f6 ?_|refine zH Z ?_ ?_<;>intro hb|fail);all_goals clear Z)
     ·refine yT hC (oj ah (oj aM (oj dj (oj dq (oj dt vW))))) ?_
      refine .one (.c (Qn (hR _ ms ?_ Af).symm))
      rw [hQ,iN (by simp),iP (Qs8 fO (by simpa using hb))]
     ·refine Qb ⟨t+1,?_⟩
      and_intros
      all_goals first|rfl|exact Lr _|exact Ls _ _|exact True.intro|exact QqB (p:=fun u=>(fc.getD u aW).bI) Rs (by simpa using hb)|omega
    ·have dt:decide (t<fc.length)=false:=De fO
     have hz:WB m j ⟨nm,kd,mb,fc⟩ ms=(0,sq):=by
      rw [hQ,iN (by simp),iN (by rw [Qn6 Rs om];decide)]
     have hg:=cC _ hz rfl
     refine zA (oj ah (oj aM (oj dj (oj dq dt)))) ?_
     refine Qb ⟨(j+1,sq,oq),?_⟩
     and_intros
     all_goals first|rfl|exact Lr _|exact Ls _ _|exact True.intro|exact dI|exact hg|(dsimp only;omega)
 ·have bU:=YL aB hb
  subst bU
  refine yT hC ah ?_
  exact .one (.c (Qn ef.symm))
end Go.Proofs.YtjegkdadeghpjaaGreatDoor
