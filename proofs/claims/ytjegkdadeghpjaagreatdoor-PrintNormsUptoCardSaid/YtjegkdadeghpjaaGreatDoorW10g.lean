/- Parts of one proof, laid by a program. -/
import Derived.Test.YtjegkdadeghpjaaGreatDoorW00
import Derived.Test.YtjegkdadeghpjaaGreatDoorW10a
set_option linter.unusedSimpArgs false
set_option linter.unusedVariables false
set_option maxRecDepth 100000
set_option maxHeartbeats 12800000
namespace Go.Proofs.YtjegkdadeghpjaaGreatDoor
open Go.AI Go.PN Proofs.Tryz
attribute [local irreducible] aw Fa VA Vk Fh YO
theorem Jv (r:RD) {n:Nat} (hu:iz n r) (hn:n≤1048576):Fa prog 24 [.agg (YS r)] (.c (.bool (X2 r))):=by
 have l1:r.num.length≤1099511627776:=Lt hu.2.2.1 (Lt hn Af)
 have l2:r.den.length≤1099511627776:=Lt hu.2.2.2 (Lt hn Af)
 have hX:X2 r=(decide (r.num.length≤40)&&decide (r.den.length≤40)):=rfl
 refine fA func24 fun C hC=>?_
 repeat' first|refine zV o0 ?_|refine zH o0 ?_ ?_<;>intro hb|fail
 refine xB fun g1 ah=>?_
 repeat' first|refine zV ah ?_|refine zH ah ?_ ?_<;>intro hb|fail
 all_goals
  refine yT hC ah ?_
  exact .one (.c (Qe (by rw [hX];first|(simp_all;done)|(simp_all;intros;omega))))
theorem Ns (l:List Xk) {n:Nat} (hu:nx n l) (hn:n≤1048576):Fa prog 49 [.c (ca true l)] (.c (.bool (W5 l))):=by
 have l1:l.length≤1099511627776:=Lt hu.1 (Lt hn Af)
 have hg:∀i,mw n (l.getD i aU):=fun i=>QF hu.2 (Qwg n) i
 refine fA func49 fun C hC=>?_
 repeat' first|refine zV o0 ?_|refine zH o0 ?_ ?_<;>intro hb|fail
 refine Qh (fun i:Nat=>[(0,.c (ca true l)),(5,.c (ca true l)),(6,.c (.int .i64 l.length)),(7,.c (.int .i64 i))]) (fun _=>[]) (fun i=>i≤l.length∧∀j,j<i→po (l.getD j aU)=true) (fun i=>l.length-i) 0 eB zZ ⟨Lz _,fun _ h=>absurd h (Nat.not_lt_zero _)⟩ ?_
 rintro i ⟨hi,hs⟩
 repeat' first|refine zV o0 ?_|refine zH o0 ?_ ?_<;>intro hb|fail
 ·have hi':=hb
  have Ec:=hg i
  have f1:=Jv (l.getD i aU).aH Ec.2.2.2.2 hn
  have Ea:=QuU hi'
  have bP:=fun h:po (l.getD i aU)=true=>(show∀j,j<i+1→po (l.getD j aU)=true from fun j hj=>by
   rcases Nat.lt_succ_iff_lt_or_eq.1 hj with h1|h1
   ·exact hs j h1
   ·rw [h1];exact h)
  have l2:(l.getD i aU).ak.length≤1099511627776:=Lt Ec.2.2.2.1.1 (Lt hn Af)
  have hX:po (l.getD i aU)=(decide ((l.getD i aU).ak.length≤40)&&X2 (l.getD i aU).aH):=rfl
  clear hb
  refine xA fun g4 aC=>?_
  generalize l.getD i aU=x at*
  repeat' first|refine zV aC ?_|refine yQ aC f1 ?_|refine zH aC ?_ ?_<;>intro hb|fail
  all_goals first
   |(refine yT hC aC ?_
     exact .one (.c (Qe (Ea (by rw [hX];simp_all<;>(intros;omega)))))
     done)
   |(refine Qb ⟨i+1,?_⟩
     have ku:=bP (by rw [hX];simp_all)
     and_intros
     all_goals first|rfl|exact Ls _ _|exact Lr _|exact True.intro|exact ku|omega)
 ·have ht:=QuV (l:=l) fun j hj=>hs j om
  refine xT hC ?_
  exact .one (.c (Qe (by rw [←ht])))
end Go.Proofs.YtjegkdadeghpjaaGreatDoor
namespace Go.Proofs.YtjegkdadeghpjaaGreatDoor
open Go.AI Go.PN Proofs.Tryz
attribute [local irreducible] aw Fa VA Vk Fh YO
theorem QqR (m:Qz) {n:Nat} (hu:qv n m) (hn:n≤1048576):Fa prog 23 [.agg (Xo true m)] (.c (.bool (KK m))):=by
 have pC:∀{k:Nat},k≤n→k≤1099511627776:=fun h=>Lt h (Lt hn Af)
 have l1:=pC hu.ev.1
 have l2:=pC hu.hs.1
 have l3:=pC hu.pg.1
 have l4:=pC hu.gr.1
 have l5:=pC hu.ph.1
 have f1:=Ns m.an hu.gt hn
 have hF:¬Ki m→false=KK m:=QqL
 have hT:Ki m→true=KK m:=QqM
 have mH:Ki m↔Ki m:=Iff.rfl
 conv at mH=>rhs;unfold Ki
 generalize KK m=X at*
 refine fA func23 fun C hC=>?_
 refine zA o0 ?_
 refine xB fun g1 ah=>?_
 repeat' first|refine zV ah ?_|refine yQ ah f1 ?_|refine zH ah ?_ ?_<;>intro hb|fail
 all_goals try (first
  |(refine yT hC ah ?_
    refine .one (.c (Qe (hF fun h=> ?_)))
    obtain⟨c1,c2,c3,c4,c5,c6,_⟩:=mH.1 h
    first|omega|(exfalso;simp_all;done)
    done))
 have b6:W5 m.an=true:=by simpa using hb
 clear hb f1
 refine Qh (fun i:Nat=>[(1,.c (.aj g1 0)),(50,.c (gS true m.events)),(51,.c (.int .i64 m.events.length)),(52,.c (.int .i64 i))]) (fun _=>[(g1,.cells 45 8 (ao (Xo true m)))]) (fun i=>i≤m.events.length∧∀j,j<i→Wb (m.events.getD j bn)=true) (fun i=>m.events.length-i) 0 (zB ah) zZ ⟨Lz _,sP⟩ ?_
 rintro i ⟨hi,hs⟩
 repeat' first|refine zV ah ?_|refine zH ah ?_ ?_<;>intro hb|fail
 ·have hi':=hb
  have hq:Ki m→Wb (m.events.getD i bn)=true:=fun h=>(mH.1 h).2.2.2.2.2.2.1 i hi'
  have bP:=Ox (p:=fun j=>Wb (m.events.getD j bn)=true) (i:=i) hs
  have mq:=QF hu.ev.2 (Qwf n) i
  have s1:=Jv _ mq.2.1 hn
  have s2:=Jv _ mq.2.2.1 hn
  have s3:=Jv _ mq.2.2.2.1 hn
  clear hb
  refine yA ah fun g4 aC=>?_
  generalize hv:m.events.getD i bn=x at*
  have hX:Wb x=(X2 x.p&&X2 x.fail&&X2 x.rep):=rfl
  all_goals try(have Z:=(oj ah aC);(repeat' first|refine zV Z ?_|refine yQ Z s1 ?_|refine yQ Z s2 ?_|refine yQ Z s3 ?_|refine zH Z ?_ ?_<;>intro hb|fail);all_goals clear Z)
  all_goals first
   |(refine yT hC (oj ah aC) ?_
     refine .one (.c (Qe (hF fun h=> ?_)))
     have h2:=hq h
     clear mH hT hF hs hq bP hv s1 s2 s3 h
     rw [hX] at h2
     simp_all
     done)
   |(refine Qb ⟨i+1,?_⟩
     have ku:=bP (by rw [hX];clear mH hT hF hs hq bP hv s1 s2 s3;simp_all)
     and_intros
     all_goals first|rfl|exact Ls _ _|exact Lr _|exact True.intro|exact ku|omega)
 have e7:∀j,j<m.events.length→Wb (m.events.getD j bn)=true:=fun j hj=>hs j om
 clear hs hi hb
 refine Qh (fun i:Nat=>[(1,.c (.aj g1 0)),(74,.c (ir true m.aa)),(75,.c (.int .i64 m.aa.length)),(76,.c (.int .i64 i))]) (fun _=>[(g1,.cells 45 8 (ao (Xo true m)))]) (fun i=>i≤m.aa.length∧∀j,j<i→W5 (m.aa.getD j bj).an=true) (fun i=>m.aa.length-i) 0 (zB ah) zZ ⟨Lz _,sP⟩ ?_
 rintro i ⟨hi,hs⟩
 repeat' first|refine zV ah ?_|refine zH ah ?_ ?_<;>intro hb|fail
 ·have hi':=hb
  have hq:Ki m→W5 (m.aa.getD i bj).an=true:=fun h=>(mH.1 h).2.2.2.2.2.2.2.1 i hi'
  have bP:=Ox (p:=fun j=>W5 (m.aa.getD j bj).an=true) (i:=i) hs
  have mq:=QF hu.pg.2 (Qwh n) i
  have s1:=Ns _ mq.2.2 hn
  clear hb
  refine yA ah fun g6 aJ=>?_
  generalize hv:m.aa.getD i bj=x at*
  all_goals try(have Z:=(oj ah aJ);(repeat' first|refine zV Z ?_|refine yQ Z s1 ?_|refine zH Z ?_ ?_<;>intro hb|fail);all_goals clear Z)
  all_goals first
   |(refine yT hC (oj ah aJ) ?_
     refine .one (.c (Qe (hF fun h=> ?_)))
     have h2:=hq h
     clear mH hT hF hs hq bP hv s1 h
     simp_all
     done)
   |(refine Qb ⟨i+1,?_⟩
     have ku:=bP (by clear mH hT hF hs hq bP hv s1;simp_all)
     and_intros
     all_goals first|rfl|exact Ls _ _|exact Lr _|exact True.intro|exact ku|omega)
 have e8:∀j,j<m.aa.length→W5 (m.aa.getD j bj).an=true:=fun j hj=>hs j om
 clear hs hi hb
 refine Qh (fun i:Nat=>[(1,.c (.aj g1 0)),(86,.c (fB true m.ae)),(87,.c (.int .i64 m.ae.length)),(88,.c (.int .i64 i))]) (fun _=>[(g1,.cells 45 8 (ao (Xo true m)))]) (fun i=>i≤m.ae.length∧∀j,j<i→VQ (m.ae.getD j bJ)=true) (fun i=>m.ae.length-i) 0 (zB ah) zZ ⟨Lz _,sP⟩ ?_
 rintro i ⟨hi,hs⟩
 repeat' first|refine zV ah ?_|refine zH ah ?_ ?_<;>intro hb|fail
 ·have hi':=hb
  have hq:Ki m→VQ (m.ae.getD i bJ)=true:=fun h=>(mH.1 h).2.2.2.2.2.2.2.2.1 i hi'
  have bP:=Ox (p:=fun j=>VQ (m.ae.getD j bJ)=true) (i:=i) hs
  have mq:=QF hu.gr.2 (Qwi n) i
  have nm1:=pC mq.2.2.1.1
  have nm2:=pC mq.2.2.2.1
  clear hb
  refine yA ah fun g8 eP=>?_
  generalize hv:m.ae.getD i bJ=x at*
  all_goals try(have Z:=(oj ah eP);(repeat' first|refine zV Z ?_|refine zH Z ?_ ?_<;>intro hb|fail);all_goals clear Z)
  all_goals try (first
   |(refine yT hC (oj ah eP) ?_
     refine .one (.c (Qe (hF fun h=> ?_)))
     have h2:=hq h
     unfold VQ at h2
     simp only [Ba,Dq] at h2
     omega
     done))
  have c2:=hb
  clear hb
  refine Qh (fun k:Nat=>[(1,.c (.aj g1 0)),(86,.c (fB true m.ae)),(87,.c (.int .i64 m.ae.length)),(88,.c (.int .i64 i)),(103,.c (OB true x.ar)),(104,.c (.int .i64 x.ar.length)),(105,.c (.int .i64 k))]) (fun _=>[(g1,.cells 45 8 (ao (Xo true m)))]) (fun k=>k≤x.ar.length∧∀j,j<k→X2 (x.ar.getD j aW)=true) (fun k=>x.ar.length-k) 0 (zB (oj ah eP)) (Ls _ _) ⟨Lz _,sP⟩ ?_
  rintro k ⟨hk,kM⟩
  all_goals try(have Z:=(oj ah eP);(repeat' first|refine zV Z ?_|refine zH Z ?_ ?_<;>intro hb|fail);all_goals clear Z)
  ·have dC:=hb
   have ED:X2 (x.ar.getD k aW)=false→VQ x=false:=Qn9 dC
   have rV:=Ox (p:=fun j=>X2 (x.ar.getD j aW)=true) (i:=k) kM
   have s1:=Jv _ (QF mq.2.2.2.2 (sO n) k) hn
   clear hb
   refine yA (oj ah eP) fun g10 bk=>?_
   generalize jr:x.ar.getD k aW=y at*
   all_goals try(have Z:=(oj ah (oj eP bk));(repeat' first|refine zV Z ?_|refine yQ Z s1 ?_|refine zH Z ?_ ?_<;>intro hb|fail);all_goals clear Z)
   all_goals first
    |(refine yT hC (oj ah (oj eP bk)) ?_
      refine .one (.c (Qe (hF fun h=> ?_)))
      have h2:=hq h
      rw [ED (by simpa using hb)] at h2
      cases h2
      done)
    |(refine Qb ⟨k+1,?_⟩
      have ku:=rV (by simpa using hb)
      and_intros
      all_goals first|rfl|exact Ls _ _|exact Lr _|exact True.intro|exact ku|omega)
  ·have ku:=bP (Qoa om om fun j hj=>kM j om)
   refine Qb ⟨i+1,?_⟩
   and_intros
   all_goals first|rfl|exact Ls _ _|exact Lr _|exact True.intro|exact ku|omega
 have e9:∀j,j<m.ae.length→VQ (m.ae.getD j bJ)=true:=fun j hj=>hs j om
 clear hs hi hb
 refine Qh (fun i:Nat=>[(1,.c (.aj g1 0)),(115,.c (fS true m.ai)),(116,.c (.int .i64 m.ai.length)),(117,.c (.int .i64 i))]) (fun _=>[(g1,.cells 45 8 (ao (Xo true m)))]) (fun i=>i≤m.ai.length∧∀j,j<i→VR (m.ai.getD j cd)=true) (fun i=>m.ai.length-i) 0 (zB ah) zZ ⟨Lz _,sP⟩ ?_
 rintro i ⟨hi,hs⟩
 repeat' first|refine zV ah ?_|refine zH ah ?_ ?_<;>intro hb|fail
 ·have hi':=hb
  have hq:Ki m→VR (m.ai.getD i cd)=true:=fun h=>(mH.1 h).2.2.2.2.2.2.2.2.2 i hi'
  have bP:=Ox (p:=fun j=>VR (m.ai.getD j cd)=true) (i:=i) hs
  have mq:=QF hu.ph.2 (Qwk n) i
  have nm1:=pC mq.2.2.1
  clear hb
  refine yA ah fun g12 fq=>?_
  generalize hv:m.ai.getD i cd=x at*
  all_goals try(have Z:=(oj ah fq);(repeat' first|refine zV Z ?_|refine zH Z ?_ ?_<;>intro hb|fail);all_goals clear Z)
  all_goals try (first
   |(refine yT hC (oj ah fq) ?_
     refine .one (.c (Qe (hF fun h=> ?_)))
     have h2:=hq h
     unfold VR at h2
     simp only [Ba,Dq] at h2
     omega
     done))
  have c2:=hb
  clear hb
  refine Qh (fun k:Nat=>[(1,.c (.aj g1 0)),(115,.c (fS true m.ai)),(116,.c (.int .i64 m.ai.length)),(117,.c (.int .i64 i)),(126,.c (ll true x.values)),(127,.c (.int .i64 x.values.length)),(128,.c (.int .i64 k))]) (fun _=>[(g1,.cells 45 8 (ao (Xo true m)))]) (fun k=>k≤x.values.length∧∀j,j<k→X2 (x.values.getD j bE).p=true) (fun k=>x.values.length-k) 0 (zB (oj ah fq)) (Ls _ _) ⟨Lz _,sP⟩ ?_
  rintro k ⟨hk,kM⟩
  all_goals try(have Z:=(oj ah fq);(repeat' first|refine zV Z ?_|refine zH Z ?_ ?_<;>intro hb|fail);all_goals clear Z)
  ·have dC:=hb
   have ED:X2 (x.values.getD k bE).p=false→VR x=false:=Qob dC
   have rV:=Ox (p:=fun j=>X2 (x.values.getD j bE).p=true) (i:=k) kM
   have s1:=Jv _ (QF mq.2.2.2 (Qwj n) k).2 hn
   clear hb
   refine yA (oj ah fq) fun g14 jM=>?_
   generalize jr:x.values.getD k bE=y at*
   all_goals try(have Z:=(oj ah (oj fq jM));(repeat' first|refine zV Z ?_|refine yQ Z s1 ?_|refine zH Z ?_ ?_<;>intro hb|fail);all_goals clear Z)
   all_goals first
    |(refine yT hC (oj ah (oj fq jM)) ?_
      refine .one (.c (Qe (hF fun h=> ?_)))
      have h2:=hq h
      rw [ED (by simpa using hb)] at h2
      cases h2
      done)
    |(refine Qb ⟨k+1,?_⟩
      have ku:=rV (by simpa using hb)
      and_intros
      all_goals first|rfl|exact Ls _ _|exact Lr _|exact True.intro|exact ku|omega)
  ·have ku:=bP (Qoc om fun j hj=>kM j om)
   refine Qb ⟨i+1,?_⟩
   and_intros
   all_goals first|rfl|exact Ls _ _|exact Lr _|exact True.intro|exact ku|omega
 have e10:∀j,j<m.ai.length→VR (m.ai.getD j cd)=true:=fun j hj=>hs j om
 refine yT hC ah ?_
 exact .one (.c (Qe (hT (mH.2 ⟨by omega,by omega,by omega,by omega,by omega,b6,e7,e8,e9,e10⟩))))
end Go.Proofs.YtjegkdadeghpjaaGreatDoor
