/- Parts of one proof, laid by a program. -/
import Derived.Test.YtjegkdadeghpjaaGreatDoorW00
import Derived.Test.YtjegkdadeghpjaaGreatDoorW10b
import Derived.Test.YtjegkdadeghpjaaGreatDoorW10c
import Derived.Test.YtjegkdadeghpjaaGreatDoorW10d
import Derived.Test.YtjegkdadeghpjaaGreatDoorW10e
import Derived.Test.YtjegkdadeghpjaaGreatDoorW10f
import Derived.Test.YtjegkdadeghpjaaGreatDoorW10g
set_option linter.unusedSimpArgs false
set_option linter.unusedVariables false
set_option maxRecDepth 100000
set_option maxHeartbeats 12800000
namespace Go.Proofs.YtjegkdadeghpjaaGreatDoor
open Go.AI Go.PN Proofs.Tryz
attribute [local irreducible] aw Fa VA Vk Fh YO
theorem T6 (m:Qz) (ho:K5 m):Fa prog 13 [.agg (Xo true m)] (.c (.int .i64 (ez m))):=by
 have hm:=ho.ok
 have bY:∀k,(Qt m k).length≤1048576:=fun k=>(ho.ca k).1
 have hpg6:m.aa.length≤1048576:=ho.pg.1
 have f1:=T4 m ho
 have hE:ez m=Z2 (Od m) (Z2 (sZ m) (Z2 (lr m) (Z2 (YP m) (Z2 (Vd m) (if lu m then 14 else 0))))):=by
  rw [CB]
  unfold Od lr
  simp only [AZ]
 rw [hE]
 refine fA func13 fun C hC=>?_
 refine zA o0 ?_
 refine xB fun g1 ah=>?_
 repeat' first|refine zV ah ?_|refine yQ ah f1 ?_|refine zH ah ?_ ?_<;>intro hb|fail
 ·have h1:Od m≠0:=by simpa using hb
  rw [Vz h1]
  refine yT hC ah ?_
  exact .one (.c (.int _ _))
 have h1:Od m=0:=by simpa using hb
 rw [XO h1]
 clear f1
 generalize hG:sZ m=G
 refine Qh (fun k:Nat=>[(1,.c (.aj g1 0)),(4,.c (.int .i64 ((k:Int)-1)))]) (fun _=>[(g1,.cells 45 8 (ao (Xo true m)))]) (fun k=>k≤m.aa.length+1∧(Kw (fun k (_:Unit)=>(UJ m k,())) (m.aa.length+1-k) k ()).1=G) (fun k=>m.aa.length+1-k) 0 (zB ah) zZ ⟨Lz _,hG⟩ ?_
 rintro k ⟨hk,aB⟩
 by_cases mO:k≤m.aa.length
 ·have f0:=Kh m k mO hm.pg
  have hg6:=bY k
  rw [show m.aa.length+1-k=(m.aa.length+1-(k+1))+1 from by omega] at aB
  repeat' first|refine zV ah ?_|refine yQ ah f0 ?_|refine zH ah ?_ ?_<;>intro hb|fail
  all_goals try (exfalso;omega)
  have oH:UJ m k=XU (fU m k) (Qt m k) 0:=rfl
  generalize hF:XU (fU m k) (Qt m k) 0=F at oH
  refine Qh (fun i:Nat=>[(1,.c (.aj g1 0)),(4,.c (.int .i64 ((k:Int)-1))),(24,.c (.int .i64 (Qt m k).length)),(25,.c (.int .i64 i))]) (fun _=>[(g1,.cells 45 8 (ao (Xo true m)))]) (fun i=>i≤(Qt m k).length∧XU (fU m k) ((Qt m k).drop i) i=F) (fun i=>(Qt m k).length-i) 0 (zB ah) zZ ⟨Lz _,hF⟩ ?_
  rintro i ⟨hi,bT⟩
  by_cases eH:i<(Qt m k).length
  ·have di:decide (i<(Qt m k).length)=true:=Dt eH
   have f2:=T5 m k i mO eH ho
   have hq:=fun c=>Zk (d:=aU) (c:=c) bT eH
   have cC:=Vi (d:=aU) bT eH
   generalize fU m k i ((Qt m k).getD i aU)=c at*
   all_goals try(have Z:=(oj ah di);(repeat' first|refine zV Z ?_|refine yQ Z f2 ?_|refine zH Z ?_ ?_<;>intro hb|fail);all_goals clear Z)
   ·have hc:c≠0:=by simpa using hb
    have iU:UJ m k≠0:=by rw [oH,hq c rfl hc];exact hc
    rw [xj (f:=fun k (_:Unit)=>(UJ m k,())) iU] at aB
    have uX:G=c:=by rw [←aB];show UJ m k=c;rw [oH,hq c rfl hc]
    rw [uX,Vz hc]
    refine yT hC (oj ah di) ?_
    exact .one (.c (.int _ _))
   ·refine Qb ⟨i+1,?_⟩
    and_intros
    all_goals first|rfl|exact Lr _|exact True.intro|exact cC (by simpa using hb)|omega
  ·have di:decide (i<(Qt m k).length)=false:=De eH
   have bU:=YK bT eH
   rw [x7 (f:=fun k (_:Unit)=>(UJ m k,())) (oH.trans bU)] at aB
   refine zA (oj ah di) ?_
   refine Qb ⟨k+1,?_⟩
   and_intros
   all_goals first|rfl|exact Lr _|exact True.intro|exact aB|exact Ul om|omega
 have jn:k=m.aa.length+1:=by omega
 subst jn
 rw [Nat.sub_self] at aB
 have DJ:G=0:=aB.symm
 subst DJ
 rw [XO rfl]
 have h3:Jx m=0:=by
  unfold Od at h1
  obtain⟨_,h1⟩:=Vf.1 h1
  exact(Vf.1 h1).2
 have Ez:m.aa.length≤8:=by
  unfold Jx at h3
  split at h3
  ·cases h3
  ·omega
 have DL:∀k,k≤m.aa.length→∀i,((Qt m k).getD i aU).ak.length≤16:=fun k hk i=>QF (P:=fun x:Xk=>x.ak.length≤16) (Nt hG hk) (Lz _) i
 have f3:=SQ m ho Ez DL
 have f4:=SP m ho
 have f5:=SO m ho
 have hC0:lr m=0→YP m=0→Vd m=0→Vu m=0:=fun a b c=>by
  have e:=CB m
  unfold ez at e
  have:Z2 (Vu m) 1=Z2 (if QD m.name then 0 else 5) (Z2 (Jw m) (Z2 (Jx m) (Z2 (sZ m) (Z2 (uI m) (Z2 (if Yg m 0 m.top then 0 else 5) (Z2 (YP m) (Z2 (Vd m) 1))))))):=by
   unfold Vu
   simp only [AZ]
  unfold Od at h1
  obtain⟨a1,h1⟩:=Vf.1 h1
  obtain⟨a2,a3⟩:=Vf.1 h1
  unfold lr at a
  obtain⟨a4,a5⟩:=Vf.1 a
  rw [XO a1,XO a2,XO a3,XO hG,XO a4,XO a5,XO b,XO c] at this
  by_cases z:Vu m=0
  ·exact z
  ·unfold Vu
   rw [XO a1,XO a2,XO a3,XO hG,XO a4,XO a5,XO b,c]
 repeat' first|refine zV ah ?_|refine zH ah ?_ ?_<;>intro hb|fail
 all_goals try (exfalso;omega)
 have hT:([lr m,YP m,Vd m].drop 0).foldr Z2 (if lu m then 14 else 0)=Z2 (lr m) (Z2 (YP m) (Z2 (Vd m) (if lu m then 14 else 0))):=rfl
 generalize hTT:Z2 (lr m) (Z2 (YP m) (Z2 (Vd m) (if lu m then 14 else 0)))=T at*
 refine Yl ([(g1,.cells 45 8 (ao (Xo true m)))]) [(0,0),(1,0),(2,0),(3,0),(4,0),(5,0),(8,0),(6,1),(7,0)] Qg kR eI ?_
 refine yG ah ?_
 refine X9 rfl f3 rfl rfl rfl (fun _ _=>(zL ah)) ?_
 refine Xw ah ?_
 refine X9 rfl f4 rfl rfl rfl (fun _ _=>(zL ah)) ?_
 refine Xw ah ?_
 refine X9 rfl f5 rfl rfl rfl (fun _ _=>(zL ah)) ?_
 refine Xw ah ?_
 refine Qv (xs:=[.tmp 37,.tmp 39,.tmp 41]) (cells:=[.int .i64 (lr m),.int .i64 (YP m),.int .i64 (Vd m)]) rfl rfl rfl rfl (zE ah) (by refine yS ah ?_;rfl) rfl om om (by intro x hx;simp only [Lb,Lj,or_false] at hx;rcases hx with rfl|rfl|rfl<;>exact⟨rfl,rfl,rfl⟩) rfl Ag eI (fun ga bR=> ?_) (hm:=.inr ⟨rfl,rfl⟩)
 replace bR:=Qa.ay bR
 simp only [Qa.ne] at bR
 have J1:=oj ah bR
 refine Xw J1 ?_
 refine QY (f':=gD [lr m,YP m,Vd m]) (fun j hj=>by
  match j,hj with
  |0,_=>rfl
  |1,_=>rfl
  |2,_=>rfl) ?_
 generalize th:[lr m,YP m,Vd m]=LL at*
 have hL3:LL.length=3:=by rw [←th];rfl
 refine Qh (fun j:Nat=>[(1,.c (.aj g1 0)),(42,.c (.aO ga 1 0 3)),(43,.c (.int .i64 3)),(44,.c (.int .i64 j))]) (fun _=>[(ga,.cells 3 3 (gD LL)),(g1,.cells 45 8 (ao (Xo true m)))]) (fun j=>j≤3∧(LL.drop j).foldr Z2 (if lu m then 14 else 0)=T∧∀i,i<j→LL.getD i 0=0) (fun j=>3-j) 0 (zB J1) zZ ⟨Lz _,hT,fun i hi=>absurd hi (Nat.not_lt_zero i)⟩ ?_
 rintro j ⟨hj,hl,hz⟩
 by_cases fG:j<3
 ·have dj:decide (j<3)=true:=Dt fG
  all_goals try(have Z:=(oj ah (oj bR dj));(repeat' first|refine zV Z ?_|refine zH Z ?_ ?_<;>intro hb|fail);all_goals clear Z)
  ·refine yT hC (oj ah (oj bR dj)) ?_
   exact .one (.c (Qn (Qs9 hl om hb).symm))
  ·have h0:LL.getD j 0=0:=hb
   refine Qb ⟨j+1,?_⟩
   and_intros
   all_goals first|rfl|exact Lr _|exact True.intro|exact QuR hl om h0|omega|skip
   intro i hi
   rcases Nat.lt_succ_iff_lt_or_eq.1 hi with e|rfl
   ·exact hz i e
   ·exact h0
 ·have dj:decide (j<3)=false:=De fG
  obtain rfl:j=3:=by omega
  have zi:(if lu m then 14 else 0:Int)=T:=by
   rw [←hl,List.drop_of_length_le om];rfl
  have z0:lr m=0:=by have:=hz 0 om;rw [←th] at this;exact this
  have z1:YP m=0:=by have:=hz 1 om;rw [←th] at this;exact this
  have z2:Vd m=0:=by have:=hz 2 om;rw [←th] at this;exact this
  have f6:=T3 m ho (GY (hC0 z0 z1 z2))
  all_goals try(have Z:=(oj ah (oj bR dj));(repeat' first|refine zV Z ?_|refine yQ Z f6 ?_|refine zH Z ?_ ?_<;>intro hb|fail);all_goals clear Z)
  ·rw [iP (by simpa using hb)] at zi
   refine yT hC (oj ah (oj bR dj)) ?_
   exact .one (.c (Qn zi))
  ·rw [iN (by simpa using hb)] at zi
   refine yT hC (oj ah (oj bR dj)) ?_
   exact .one (.c (Qn zi))
theorem H8 (m:Qz) (ho:K5 m):Fa prog 27 [.agg (Xo true m)] (.aF [.agg (Xo true (if ez m=0 then OO m else j2)),.c (Z7 (ez m))]):=by
 have f1:=B2 m ho
 by_cases hc:ez m=0
 ·rw [iP hc,hc]
  rw [hc] at f1
  have e0:Z7 0=.aN:=iP rfl
  rw [e0] at f1⊢
  have hg:=B3 hc
  exact QnX m hg (Np ho hg) f1
 ·rw [iN hc]
  have dv:(!decide (ez m=0))=true:=by rw [De hc];rfl
  refine fA func27 fun C hC=>?_
  refine xG ?_
  refine xB fun g1 ah=>?_
  refine yA ah fun g2 aq=>?_
  refine Zg (oj ah (oj aq dv)) f1 ?_
  refine yT hC (oj ah (oj aq dv)) ?_
  exact .aF ⟨.agg wG,.c ZT,trivial⟩
theorem Qwd (l:BS) (hl:l.length≤1099511627776):Fa prog 47 [.c (.str (sB l))] (.aF [.agg (Xo true (U9 ez l).1),.c (Z7 (U9 ez l).2)]):=
 T8 ez l hl (Lt (FI l) Af) (fun t ht=>Lt (FJ l t ht) Af) fun _=>B2 _ (Nq l)
end Go.Proofs.YtjegkdadeghpjaaGreatDoor
namespace Go.Proofs.YtjegkdadeghpjaaGreatDoor
open Go.AI Go.PN Proofs.Tryz
attribute [local irreducible] aw Fa VA Vk Fh YO
theorem SR:Fa prog 22 [] (.c (.bool true)):=by
 have o1:K5 cH:=by have:=QqH ez qH;rw [H9] at this;exact this
 have f1:=Qwd qH Af
 have f2:=Qn8 cH o1 (fun _=>Qte) rfl rfl rfl rfl
 have f3:=H8 cH o1
 have f4:=Ii ⟨[103],0,0,[[98],[97]],aW⟩ Af Af Af (RD.wf.mono ZK Af) (by decide+kernel)
 rw [H9] at f1
 rw [iN (fun h=>h xw),Ia.1] at f2
 rw [iP xw,xw,QqK] at f3
 dsimp only at f1 f2 f3 f4
 have e0:Z7 0=.aN:=iP rfl
 rw [e0] at f1 f2 f3
 have eg:ZZ ⟨[103],0,0,[[98],[97]],aW⟩=[103,97,116,101,32,103,32,97,110,100,32,98,32,97,59]:=by decide+kernel
 rw [eg] at f4
 unfold qH at f1
 unfold jx at f2
 have q0:Zu [⟨[97],aW,aW,aW,0⟩,⟨[98],aW,aW,aW,0⟩] 0=.str (sB [97]):=rfl
 have r0:X1 [⟨[103],0,0,[[98],[97]],aW⟩] 0=.str (sB [103]):=rfl
 have r1:X1 [⟨[103],0,0,[[98],[97]],aW⟩] 1=.int .i64 0:=rfl
 have r2:X1 [⟨[103],0,0,[[98],[97]],aW⟩] 2=.int .i64 0:=rfl
 have r3:X1 [⟨[103],0,0,[[98],[97]],aW⟩] 3=YH true [[98],[97]]:=rfl
 have r4:X1 [⟨[103],0,0,[[98],[97]],aW⟩] 4=.bool aW.neg:=rfl
 have r5:X1 [⟨[103],0,0,[[98],[97]],aW⟩] 5=ws true aW.num:=rfl
 have r6:X1 [⟨[103],0,0,[[98],[97]],aW⟩] 6=ws true aW.den:=rfl
 refine fA func22 fun C hC=>?_
 all_goals try(have Z:=(oj q0 (oj r0 (oj r1 (oj r2 (oj r3 (oj r4 (oj r5 r6)))))));(repeat' first|refine zV Z ?_|refine yQ Z f1 ?_|refine yQ Z f2 ?_|refine yQ Z f3 ?_|refine yQ Z f4 ?_|refine zH Z ?_ ?_<;>intro hb|fail);all_goals clear Z)
 refine yA (oj q0 (oj r0 (oj r1 (oj r2 (oj r3 (oj r4 (oj r5 r6))))))) fun g1 ah=>?_
 all_goals try(have Z:=(oj q0 (oj r0 (oj r1 (oj r2 (oj r3 (oj r4 (oj r5 (oj r6 ah))))))));(repeat' first|refine zV Z ?_|refine yQ Z f1 ?_|refine yQ Z f2 ?_|refine yQ Z f3 ?_|refine yQ Z f4 ?_|refine zH Z ?_ ?_<;>intro hb|fail);all_goals clear Z)
 refine yA (oj q0 (oj r0 (oj r1 (oj r2 (oj r3 (oj r4 (oj r5 (oj r6 ah)))))))) fun g5 aM=>?_
 all_goals try(have Z:=(oj q0 (oj r0 (oj r1 (oj r2 (oj r3 (oj r4 (oj r5 (oj r6 (oj ah aM)))))))));(repeat' first|refine zV Z ?_|refine yQ Z f1 ?_|refine yQ Z f2 ?_|refine yQ Z f3 ?_|refine yQ Z f4 ?_|refine zH Z ?_ ?_<;>intro hb|fail);all_goals clear Z)
 all_goals first
  |(exfalso;revert hb;decide)
  |(refine yT hC (oj q0 (oj r0 (oj r1 (oj r2 (oj r3 (oj r4 (oj r5 (oj r6 (oj ah aM))))))))) ?_
    exact .one (.c (Qe Af)))
end Go.Proofs.YtjegkdadeghpjaaGreatDoor
namespace Go.Proofs.YtjegkdadeghpjaaGreatDoor
open Go.AI Go.PN Proofs.Tryz
attribute [local irreducible] aw Fa VA Vk Fh YO
theorem Sg (m:Qz) (g:Xk) {n k:Nat} (hu:qv n m) (hn:n≤1048576) (hv:mw k g) (hk:k≤1048576):VA prog 4 [.agg (Xo true m),.agg (Zi g)] (.c (.bool true)):=by
 have f0:=SR
 have f1:=QqR m hu hn
 have f2:=Jv g.aH hv.2.2.2.2 hk
 have ngi:g.ak.length≤1099511627776:=Lt hv.2.2.2.1.1 (Lt hk Af)
 by_cases hL:KK m=true
 ·rw [hL] at f1
  by_cases hI:g.ak.length>100
  ·refine VB func4 rfl rfl (by simp [ntmps4]) fun C hC hT=> ?_
   simp only [ZD,Nat.reduceAdd]
   repeat' first|refine zV o0 ?_|refine zH o0 ?_ ?_<;>intro hb|fail
   refine xB fun g2 aq=>?_
   refine yB aq fun g3 av=>?_
   all_goals try(have Z:=(oj aq av);(repeat' first|refine zV Z ?_|refine yQ Z f0 ?_|refine yQ Z f1 ?_|refine yQ Z f2 ?_|refine zH Z ?_ ?_<;>intro hb|fail);all_goals clear Z)
   ·refine yT hC (oj aq av) ?_
    exact .one (.c (.bool _))
   all_goals exact absurd hI om
  ·by_cases hS:X2 g.aH=true
   ·have ho:=Qsm hL hu hn
    rw [hS] at f2
    have hw:g.aH.wf 1000:=by
     have:X2 g.aH=(decide (g.aH.num.length≤40)&&decide (g.aH.den.length≤40)):=rfl
     rw [hS] at this
     have h2:=this.symm
     simp only [Ba,Dq] at h2
     exact⟨hv.2.2.2.2.1,hv.2.2.2.2.2.1,by omega,by omega⟩
    have hlen:=QqO hv hk om (QsX hw)
    have fP:=QuG (G4 (T:=WC) g hv.2.1.1 hv.2.1.2 (fun _ C hT=>(Nx g.k hv.2.2.1.1 (by have:=hv.2.2.1.2;omega)).lk hT) (XZ hw Af) (by
     have e:(ZZ g).length=(Zo g).length+VK (Zo g) (Zo g).length:=UR _ _
     rw [←e];exact hlen))
    have fR:=Qp4 g hv.2.1.1 hv.2.1.2 (fun _=>⟨hv.2.2.1.1,by have:=hv.2.2.1.2;omega⟩) (XZ hw Af) om
    have f3:=H8 m ho
    have f4:=T6 m ho
    have f5:=Qua (ez m)
    have f7:=MV j2 j2 uA uA
    have e0:Z7 0=.aN:=iP rfl
    by_cases hc:ez m=0
    ·have hg:=B3 hc
     have Ev:=QuT (Qtc m) ho
     have f6:=Qqu m hg (Np ho hg)
     have f8:=MV (OO m) (OO m) Ev Ev
     rw [iP hc,hc,e0] at f3
     rw [hc] at f4
     rw [Dt rfl] at f8
     clear Ev hg
     generalize OO m=N at*
     generalize ZZ g=X at*
     have hX:(X==X)=true:=by simp
     refine VB func4 rfl rfl (by simp [ntmps4]) fun C hC hT=> ?_
     simp only [ZD,Nat.reduceAdd]
     repeat' first|refine zV o0 ?_|refine zH o0 ?_ ?_<;>intro hb|fail
     refine xB fun g2 aq=>?_
     refine yB aq fun g3 av=>?_
     all_goals try(have Z:=(oj aq (oj av hX));(repeat' first|refine zV Z ?_|refine yQ Z f0 ?_|refine yQ Z f1 ?_|refine yQ Z f2 ?_|refine zH Z ?_ ?_<;>intro hb|fail);all_goals clear Z)
     all_goals try (exfalso;omega)
     refine Xl 5 Qg kR ?_
     all_goals try(have Z:=(oj aq (oj av hX));(repeat' first|refine zV Z ?_|(refine tO Z ((fP).lk hT) ?_)|(refine wj Z ((fP).lk hT) ?_)|(refine tO Z ((fR).lk hT) ?_)|(refine wj Z ((fR).lk hT) ?_)|refine yQ Z f3 ?_|refine zH Z ?_ ?_<;>intro hb|fail);all_goals clear Z)
     refine yA (oj aq (oj av hX)) fun g5 aM=>?_
     all_goals try(have Z:=(oj aq (oj av (oj hX aM)));(repeat' first|refine zV Z ?_|refine yQ Z f4 ?_|refine zH Z ?_ ?_<;>intro hb|fail);all_goals clear Z)
     refine Xl 9 Qg kR ?_
     all_goals try(have Z:=(oj aq (oj av (oj hX aM)));(repeat' first|refine zV Z ?_|refine yQ Z f6 ?_|refine yQ Z f8 ?_|refine zH Z ?_ ?_<;>intro hb|fail);all_goals clear Z)
     refine yT hC (oj aq (oj av (oj hX aM))) ?_
     exact .one (.c (.bool _))
    ·rw [iN hc] at f3
     rw [Dt rfl] at f7
     have kb:(ez m !=0)=true:=by simpa using hc
     have ke:(ez m==ez m)=true:=by simp
     have vf:(!decide (ez m=0))=true:=by rw [De hc];rfl
     generalize ZZ g=X at*
     have hX:(X==X)=true:=by simp
     refine VB func4 rfl rfl (by simp [ntmps4]) fun C hC hT=> ?_
     simp only [ZD,Nat.reduceAdd]
     repeat' first|refine zV o0 ?_|refine zH o0 ?_ ?_<;>intro hb|fail
     refine xB fun g2 aq=>?_
     refine yB aq fun g3 av=>?_
     all_goals try(have Z:=(oj aq (oj av (oj kb (oj vf (oj hX ke)))));(repeat' first|refine zV Z ?_|refine yQ Z f0 ?_|refine yQ Z f1 ?_|refine yQ Z f2 ?_|refine zH Z ?_ ?_<;>intro hb|fail);all_goals clear Z)
     all_goals try (exfalso;omega)
     refine Xl 5 Qg kR ?_
     all_goals try(have Z:=(oj aq (oj av (oj kb (oj vf (oj hX ke)))));(repeat' first|refine zV Z ?_|(refine tO Z ((fP).lk hT) ?_)|(refine wj Z ((fP).lk hT) ?_)|(refine tO Z ((fR).lk hT) ?_)|(refine wj Z ((fR).lk hT) ?_)|refine yQ Z f3 ?_|refine zH Z ?_ ?_<;>intro hb|fail);all_goals clear Z)
     refine yA (oj aq (oj av (oj kb (oj vf (oj hX ke))))) fun g5 aM=>?_
     all_goals try(have Z:=(oj aq (oj av (oj kb (oj vf (oj hX (oj ke aM))))));(repeat' first|refine zV Z ?_|refine yQ Z f4 ?_|refine yQ Z f7 ?_|refine yQ Z f5 ?_|refine zH Z ?_ ?_<;>intro hb|fail);all_goals clear Z)
     refine yT hC (oj aq (oj av (oj kb (oj vf (oj hX (oj ke aM)))))) ?_
     exact .one (.c (.bool _))
   ·have DQ:X2 g.aH=false:=by simpa using hS
    rw [DQ] at f2
    refine VB func4 rfl rfl (by simp [ntmps4]) fun C hC hT=> ?_
    simp only [ZD,Nat.reduceAdd]
    repeat' first|refine zV o0 ?_|refine zH o0 ?_ ?_<;>intro hb|fail
    refine xB fun g2 aq=>?_
    refine yB aq fun g3 av=>?_
    all_goals try(have Z:=(oj aq av);(repeat' first|refine zV Z ?_|refine yQ Z f0 ?_|refine yQ Z f1 ?_|refine yQ Z f2 ?_|refine zH Z ?_ ?_<;>intro hb|fail);all_goals clear Z)
    all_goals
     refine yT hC (oj aq av) ?_
     exact .one (.c (.bool _))
 ·have zu:KK m=false:=by simpa using hL
  rw [zu] at f1
  refine VB func4 rfl rfl (by simp [ntmps4]) fun C hC hT=> ?_
  simp only [ZD,Nat.reduceAdd]
  repeat' first|refine zV o0 ?_|refine zH o0 ?_ ?_<;>intro hb|fail
  refine xB fun g2 aq=>?_
  refine yB aq fun g3 av=>?_
  all_goals try(have Z:=(oj aq av);(repeat' first|refine zV Z ?_|refine yQ Z f0 ?_|refine yQ Z f1 ?_|refine zH Z ?_ ?_<;>intro hb|fail);all_goals clear Z)
  refine yT hC (oj aq av) ?_
  exact .one (.c (.bool _))
end Go.Proofs.YtjegkdadeghpjaaGreatDoor
