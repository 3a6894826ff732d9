/- Parts of one proof, laid by a program. -/
import Derived.Test.YtjegkdadeghpjaaGreatDoorW00
import Derived.Test.YtjegkdadeghpjaaGreatDoorW10a
set_option linter.unusedSimpArgs false
set_option linter.unusedVariables false
set_option maxRecDepth 100000
set_option maxHeartbeats 12800000
namespace Go.Proofs.YtjegkdadeghpjaaGreatDoor
open Go.AI Go.PN Proofs.Tryz
attribute [local irreducible] aw Fa VA Vk Fh YO
theorem SQ (m:Qz) (ho:K5 m) (Ez:m.aa.length≤8) (hI:∀k,k≤m.aa.length→∀i,((Qt m k).getD i aU).ak.length≤16):Fa prog 38 [.agg (Xo true m)] (.c (.int .i64 (lr m))):=by
 have hm:=ho.ok
 have bY:∀k,(Qt m k).length≤1048576:=fun k=>(ho.ca k).1
 unfold lr
 generalize hN:uI m=N
 refine fA func38 fun C hC=>?_
 refine zA o0 ?_
 refine xB fun g1 ah=>?_
 refine zA ah ?_
 refine Qh (fun x:Nat×List BS×Option Nat=>[(1,.c (.aj g1 0)),(3,.c (gs x.2.2 1 x.2.1.length)),(4,.c (.int .i64 ((x.1:Int)-1)))]) (fun x=>[(g1,.cells 45 8 (ao (Xo true m)))]++gh x.2.2 9 x.2.1.length (Qi x.2.1)) (fun x=>x.1≤m.aa.length+1∧(x.2.2=none→x.2.1.length=0)∧x.2.1.length≤16777216*x.1∧(Kw (Ud m) (m.aa.length+1-x.1) x.1 x.2.1).1=N) (fun x=>m.aa.length+1-x.1) (0,[],none) (zB ah) zZ ⟨Lz _,fun _=>rfl,Lz _,hN⟩ ?_
 rintro ⟨k,eA,tH⟩ ⟨hk,lO,EI,kj⟩
 dsimp only at hk lO EI kj⊢
 simp only [Lq,Ln]
 by_cases mO:k≤m.aa.length
 ·have f0:=Kh m k mO om
  have DK:=hI k mO
  have bV:=fun i j=>ho.inl k i j
  have tl:=bY k
  have D9:∀c s,Ud m k eA=(c,s)→(c≠0→N=c)∧(c=0→(Kw (Ud m) (m.aa.length+1-(k+1)) (k+1) s).1=N):=fun c s h=>by
   rw [show m.aa.length+1-k=(m.aa.length+1-(k+1))+1 from by omega] at kj
   refine⟨fun h0=> ?_,fun h0=> ?_⟩
   ·rw [xj (f:=Ud m) (by rw [h];exact h0),h] at kj
    exact kj.symm
   ·rw [x7 (f:=Ud m) (by rw [h];exact h0),h] at kj
    exact kj
  have uN:=AU (m.aa.getD (k-1) bj).an (m.aa.getD (k-1) bj).top (by have:=(ho.wi.pg (k-1)).2;omega)
  have uO:=ZM m (m.aa.getD (k-1) bj).top hm.ev
  repeat' first|refine zV ah ?_|refine yQ ah f0 ?_|refine zH ah ?_ ?_<;>intro hb|fail
  all_goals try (exfalso;omega)
  clear kj f0
  generalize hF:XT (mu m k) (Qt m k) 0 eA=F
  have zf:F.1≠0→Ud m k eA=F:=fun h=>by unfold Ud;rw [hF,iN h]
  have rj:F.1=0→Ud m k eA=(ju m k,F.2):=fun h=>by unfold Ud;rw [hF,iP h]
  generalize hL:Qt m k=L at*
  refine Qh (fun x:Nat×List BS×Option Nat=>[(1,.c (.aj g1 0)),(3,.c (gs x.2.2 1 x.2.1.length)),(4,.c (.int .i64 ((k:Int)-1))),(21,.c (ca true L)),(22,.c (.int .i64 L.length)),(23,.c (.int .i64 x.1))]) (fun x=>[(g1,.cells 45 8 (ao (Xo true m)))]++gh x.2.2 9 x.2.1.length (Qi x.2.1)) (fun x=>x.1≤L.length∧(x.2.2=none→x.2.1.length=0)∧x.2.1.length≤eA.length+16*x.1∧XT (mu m k) (L.drop x.1) x.1 x.2.1=F) (fun x=>L.length-x.1) (0,eA,tH) (zB ah) zZ ⟨Lz _,lO,by dsimp only;omega,hF⟩ ?_
  rintro ⟨i,sp,og⟩ ⟨hi,ax,bF,aB⟩
  dsimp only at hi ax bF aB⊢
  simp only [Lq,Ln]
  repeat' first|refine zV ah ?_|refine zH ah ?_ ?_<;>intro hb|fail
  ·as_aux_lemma=>
   have hi':=hb
   have w1:=DK i
   have w2:=bV i
   have jG:=fun r=>VO (d:=aU) (r:=r) aB hi'
   have cC:=fun r=>KV (d:=aU) (r:=r) aB hi'
   clear aB uN uO
   generalize hx:L.getD i aU=x at*
   refine yA ah fun g6 aJ=>?_
   refine zA (oj ah aJ) ?_
   generalize iU:XT (O6 m k x) x.ak 0 sp=F2
   have e2:mu m k i x sp=F2:=iU
   rw [e2] at jG cC
   refine Qh (fun y:Nat×List BS×Option Nat=>[(1,.c (.aj g1 0)),(3,.c (gs y.2.2 1 y.2.1.length)),(4,.c (.int .i64 ((k:Int)-1))),(6,.c (.aj g6 0)),(21,.c (ca true L)),(22,.c (.int .i64 L.length)),(23,.c (.int .i64 i)),(28,.c (YH true x.ak)),(29,.c (.int .i64 x.ak.length)),(30,.c (.int .i64 y.1))]) (fun y=>[(g6,.cells 71 7 (ao (Zi x))),(g1,.cells 45 8 (ao (Xo true m)))]++gh y.2.2 9 y.2.1.length (Qi y.2.1)) (fun y=>y.1≤x.ak.length∧(y.2.2=none→y.2.1.length=0)∧y.2.1.length≤sp.length+y.1∧XT (O6 m k x) (x.ak.drop y.1) y.1 y.2.1=F2) (fun y=>x.ak.length-y.1) (0,sp,og) (zB (oj ah aJ)) zZ ⟨Lz _,ax,by dsimp only;omega,iU⟩ ?_
   rintro ⟨j,sq,oq⟩ ⟨hj,dI,oO,bT⟩
   dsimp only at hj dI oO bT⊢
   simp only [Lq,Ln]
   all_goals try(have Z:=(oj ah aJ);(repeat' first|refine zV Z ?_|refine zH Z ?_ ?_<;>intro hb|fail);all_goals clear Z)
   ·have dO:=hb
    have w3:=w2 j
    have jK:=fun r=>VO (d:=([]:BS)) (r:=r) bT dO
    have mU:=fun r=>KV (d:=([]:BS)) (r:=r) bT dO
    clear bT
    generalize hy:x.ak.getD j []=y at*
    have hR:∀c s,O6 m k x j y sq=(c,s)→c≠0→c=Z2 N (if Yg m 0 m.top=true then 0 else 5):=fun c s h1 h2=>by
     have a1:=jK _ h1 h2
     rw [a1] at jG
     have a2:=jG _ rfl h2
     have a3:=(D9 c s (by rw [zf (by rw [a2];exact h2),a2])).1 h2
     rw [a3,Vz h2]
    have f1:=Aw m k y mO hm.ev hm.hs hm.pg (by rw [hL];omega) w3
    have f3:=ZM m y hm.ev
    have te:O6 m k x j y sq=if Yg m k y=false then(5,sq) else if V5 x j=true∧Vt m y<0 then(7,sq) else if x.kind=7 then(if sq.contains y then(6,sq) else(0,sq++[y])) else(0,sq):=rfl
    have rC:∀s,O6 m k x j y sq=(0,s)→XT (O6 m k x) (x.ak.drop (j+1)) (j+1) s=F2:=fun s h=>mU _ h rfl
    clear jK mU jG zf rj D9
    by_cases c1:Yg m k y=false
    ·rw [c1] at f1
     refine Zg (oj ah aJ) f1 ?_
     refine yT hC (oj ah aJ) ?_
     exact .one (.c (Qn (hR 5 sq (by rw [te,iP c1]) Af)))
    replace c1:Yg m k y=true:=by simpa using c1
    rw [c1] at f1
    rw [iN (by rw [c1];decide)] at te
    have p5:V5 x j=false∨¬Vt m y<0→x.kind≠7→O6 m k x j y sq=(0,sq):=fun h1 h2=>by
     rw [te,iN,iN h2]
     rintro ⟨z1,z2⟩
     rcases h1 with h1|h1
     ·rw [h1] at z1;cases z1
     ·exact h1 z2
    by_cases c7:x.kind=7
    ·have q1:(x.kind==7)=true:=beq_iff_eq.2 c7
     have q2:(x.kind !=7)=false:=by rw [c7];rfl
     have hM:V5 x j=true:=by unfold V5;rw [c7];rfl
     all_goals try(have Z:=(oj ah (oj aJ (oj q1 q2)));(repeat' first|refine zV Z ?_|refine yQ Z f1 ?_|refine yQ Z f3 ?_|refine zH Z ?_ ?_<;>intro hb|fail);all_goals clear Z)
     ·refine yT hC (oj ah (oj aJ (oj q1 q2))) ?_
      exact .one (.c (Qn (hR 7 sq (by rw [te,iP ⟨hM,hb⟩]) Af)))
     have Pt:O6 m k x j y sq=if sq.contains y then(6,sq) else(0,sq++[y]):=by rw [te,iN (fun z=>hb z.2),iP c7]
     refine Xh (QB.lV (zE (oj ah (oj aJ (oj q1 q2)))) (zE (oj ah (oj aJ (oj q1 q2)))) (wR (s:=1) dI)) rfl rfl ?_
     have J1:=oj ah (oj aJ (oj q1 q2))
     refine yS J1 ?_
     refine zA J1 ?_
     refine Qh (fun t:Nat=>[(1,.c (.aj g1 0)),(3,.c (gs oq 1 sq.length)),(4,.c (.int .i64 ((k:Int)-1))),(6,.c (.aj g6 0)),(8,.c (.str (sB y))),(21,.c (ca true L)),(22,.c (.int .i64 L.length)),(23,.c (.int .i64 i)),(28,.c (YH true x.ak)),(29,.c (.int .i64 x.ak.length)),(30,.c (.int .i64 j)),(62,.c (gs oq 1 sq.length)),(63,.c (.int .i64 sq.length)),(64,.c (.int .i64 t))]) (fun _=>(g6,.cells 71 7 (ao (Zi x)))::(g1,.cells 45 8 (ao (Xo true m)))::gh oq 9 sq.length (Qi sq)) (fun t=>t≤sq.length∧∀u,u<t→(sq.getD u []==y)=false) (fun t=>sq.length-t) 0 (zB J1) zZ ⟨Lz _,fun u hu=>absurd hu (Nat.not_lt_zero u)⟩ ?_
     rintro t ⟨ht,gj⟩
     by_cases fO:t<sq.length
     ·have dt:decide (t<sq.length)=true:=Dt fO
      obtain⟨g,rfl⟩:∃g,oq=some g:=by
       cases oq with
       |none=>exact absurd (dI rfl) om
       |some g=>exact⟨g,rfl⟩
      dsimp only [gs,gh]
      refine YY fun bf=> ?_
      simp only [Qa.keys,Ld,List.map_nil] at bf
      replace bf:=CC bf
      dsimp only [z6,vY] at bf
      all_goals try(have Z:=(oj ah (oj aJ (oj q1 (oj q2 (oj dt bf)))));(repeat' first|refine zV Z ?_|refine zH Z ?_ ?_<;>intro hb|fail);all_goals clear Z)
      ·refine yT hC (oj ah (oj aJ (oj q1 (oj q2 (oj dt bf))))) ?_
       refine .one (.c (Qn (hR _ sq ?_ Af)))
       rw [Pt,iP (MR fO hb)]
      ·refine Qb ⟨t+1,?_⟩
       and_intros
       all_goals first|rfl|exact Lr _|exact True.intro|exact uj (p:=fun u=>sq.getD u []==y) gj (by simpa using hb)|omega
     ·have dt:decide (t<sq.length)=false:=De fO
      have hz:O6 m k x j y sq=(0,sq++[y]):=by rw [Pt,MQ fun u hu=>gj u om];rfl
      have hq:=rC _ hz
      have dZ:(sq++[y]).length=sq.length+1:=by rw [La];rfl
      refine zA (oj ah (oj aJ (oj q1 (oj q2 dt)))) ?_
      refine QT (pre:=[(g6,.cells 71 7 (ao (Zi x))),(g1,.cells 45 8 (ao (Xo true m)))]) rfl rfl rfl rfl rfl rfl rfl (zE (oj ah (oj aJ (oj q1 (oj q2 dt))))) (zE (oj ah (oj aJ (oj q1 (oj q2 dt))))) (by rfl) om om (zE (oj ah (oj aJ (oj q1 (oj q2 dt))))) om (by exact dI) (zE (oj ah (oj aJ (oj q1 (oj q2 dt))))) (by rfl) (by rfl) qb qc om (by exact Yq rfl y) fun gb bH=> ?_
      replace bH:=Qa.ay bH
      first|dsimp only [Qa.ne,gh] at bH|dsimp only [Qa.ne] at bH|skip
      have J2:=oj ah (oj aJ (oj q1 (oj q2 (oj dt bH))))
      refine yS J2 ?_
      refine zA J2 ?_
      refine Qb ⟨(j+1,sq++[y],some gb),?_⟩
      dsimp only
      simp only [dZ]
      and_intros
      all_goals first|rfl|exact Lr _|exact Ls _ _|exact True.intro|exact Xx|exact hq|omega
    have q1:(x.kind==7)=false:=beq_eq_false_iff_ne.2 c7
    have q2:(x.kind !=7)=true:=bne_iff_ne.2 c7
    by_cases c8:x.kind=8∧j>0
    ·have q3:(x.kind==8)=true:=beq_iff_eq.2 c8.1
     have q4:decide (j>0)=true:=Dt c8.2
     have hM:V5 x j=true:=by unfold V5;rw [Dt c8.1,Dt c8.2];simp
     all_goals try(have Z:=(oj ah (oj aJ (oj q1 (oj q2 (oj q3 q4)))));(repeat' first|refine zV Z ?_|refine yQ Z f1 ?_|refine yQ Z f3 ?_|refine zH Z ?_ ?_<;>intro hb|fail);all_goals clear Z)
     ·refine yT hC (oj ah (oj aJ (oj q1 (oj q2 (oj q3 q4))))) ?_
      exact .one (.c (Qn (hR 7 sq (by rw [te,iP ⟨hM,hb⟩]) Af)))
     ·have hq:=rC _ (p5 (.inr hb) c7)
      exact Qb ⟨(j+1,sq,oq),(by dsimp only;omega),(zB (oj ah (oj aJ (oj q1 (oj q2 (oj q3 q4)))))),zZ,(by dsimp only;omega),dI,(by dsimp only;omega),hq⟩
    ·have hM:V5 x j=false:=by
      unfold V5
      rw [De c7,Bool.false_or,←Bool.decide_and]
      exact De c8
     have hq:=rC _ (p5 (.inl hM) c7)
     by_cases c9:x.kind=8
     ·have q3:(x.kind==8)=true:=beq_iff_eq.2 c9
      have q4:decide (j>0)=false:=De fun z=>c8 ⟨c9,z⟩
      refine mv (oj ah (oj aJ (oj q1 (oj q2 (oj q3 q4))))) f1 f3 ?_
      exact Qb ⟨(j+1,sq,oq),(by dsimp only;omega),(zB (oj ah (oj aJ (oj q1 (oj q2 (oj q3 q4)))))),zZ,(by dsimp only;omega),dI,(by dsimp only;omega),hq⟩
     ·have q3:(x.kind==8)=false:=beq_eq_false_iff_ne.2 c9
      refine mv (oj ah (oj aJ (oj q1 (oj q2 q3)))) f1 f3 ?_
      exact Qb ⟨(j+1,sq,oq),(by dsimp only;omega),(zB (oj ah (oj aJ (oj q1 (oj q2 q3))))),zZ,(by dsimp only;omega),dI,(by dsimp only;omega),hq⟩
   ·have bU:=YL bT hb
    subst bU
    refine Qb ⟨(i+1,sq,oq),?_⟩
    and_intros
    all_goals first|rfl|exact Lr _|exact Ls _ _|exact True.intro|exact dI|exact cC _ rfl rfl|(dsimp only;omega)
  ·as_aux_lemma=>
   have cA:=hb
   have bU:=YL aB cA
   subst bU
   have hT:Ud m k eA=(ju m k,sp):=rj rfl
   obtain⟨vk,tk⟩:=D9 _ _ hT
   have va:ju m k=if k=0 then 0 else if fg (m.aa.getD (k-1) bj).an (m.aa.getD (k-1) bj).top<0∧Vt m (m.aa.getD (k-1) bj).top<0 then 5 else 0:=by
    clear vk tk
    rcases k with _|q
    ·rfl
    ·rw [iN om];rfl
   by_cases oG:k=0
   ·have d0:decide ((k:Int)-1≥0)=false:=De om
    have kj:=tk (by rw [va,iP oG])
    refine Xl 29 Qg kR ?_
    refine zA (oj ah d0) ?_
    exact Qb ⟨(k+1,sp,og),(by dsimp only;omega),(zB (oj ah d0)),zZ,(by dsimp only;omega),ax,(by dsimp only;omega),kj⟩
   ·have d1:decide ((k:Int)-1≥0)=true:=Dt om
    have fI:((k:Int)-1).toNat=k-1:=by omega
    rw [iN oG] at va
    refine Xl 29 Qg kR ?_
    all_goals try(have Z:=(oj ah (oj d1 fI));(repeat' first|refine zV Z ?_|refine yQ Z uN ?_|refine yQ Z uO ?_|refine zH Z ?_ ?_<;>intro hb|fail);all_goals clear Z)
    ·refine yT hC (oj ah (oj d1 fI)) ?_
     have h5:ju m k=5:=by rw [va];exact iP ⟨by assumption,by assumption⟩
     rw [vk (by rw [h5];decide),h5]
     exact .one (.c (.int _ _))
    ·have kj:=tk (by rw [va];exact iN fun z=>hb z.2)
     exact Qb ⟨(k+1,sp,og),(by dsimp only;omega),(zB (oj ah (oj d1 fI))),zZ,(by dsimp only;omega),ax,(by dsimp only;omega),kj⟩
    ·have kj:=tk (by rw [va];exact iN fun z=>hb z.1)
     exact Qb ⟨(k+1,sp,og),(by dsimp only;omega),(zB (oj ah (oj d1 fI))),zZ,(by dsimp only;omega),ax,(by dsimp only;omega),kj⟩
 ·as_aux_lemma=>
  have Ef:k=m.aa.length+1:=by omega
  subst Ef
  rw [Nat.sub_self] at kj
  have ti:N=0:=kj.symm
  subst ti
  have f3:=Aw m 0 m.top (Lz _) hm.ev hm.hs hm.pg (Lt (bY 0) Af) (Lt ho.tp Af)
  rw [show((0:Nat):Int)-1= -1 from rfl] at f3
  rw [XO rfl]
  repeat' first|refine zV ah ?_|refine yQ ah f3 ?_|refine zH ah ?_ ?_<;>intro hb|fail
  all_goals try (exfalso;omega)
  ·refine yT hC ah ?_
   rw [show Yg m 0 m.top=false from by simpa using hb]
   exact .one (.c (.int _ _))
  ·refine yT hC ah ?_
   rw [show Yg m 0 m.top=true from by simpa using hb]
   exact .one (.c (.int _ _))
end Go.Proofs.YtjegkdadeghpjaaGreatDoor
