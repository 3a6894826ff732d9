/- Parts of one proof, laid by a program. -/
import Derived.Test.YtjegkdadeghpjaaGreatDoorW00
import Derived.Test.YtjegkdadeghpjaaGreatDoorW10a
set_option linter.unusedSimpArgs false
set_option linter.unusedVariables false
set_option maxRecDepth 100000
set_option maxHeartbeats 12800000
namespace Go.Proofs.YtjegkdadeghpjaaGreatDoor
open Go.AI Go.PN Proofs.Tryz
attribute [local irreducible] aw Fa VA Vk Fh YO
theorem T3 (m:Qz) (ho:K5 m) (hc:qu m):Fa prog 41 [.agg (Xo true m)] (.c (.bool (lu m))):=by
 have f1:=Qn5 m ho hc
 have hb:=Qn4 (yj hc)
 have hlen:=T0 ho
 have PA:=F9 (m:=m)
 have zj:=GH m
 have Pz:=Ci ho (m.aa.length+1)
 have dJ:m.aa.length≤1048576:=ho.pg.1
 have hN:(Zp m).length≤1099513724928:=by omega
 rw [Qqx hc,←zj]
 rw [←zj] at hb
 generalize Zp m=U at*
 clear PA Pz
 generalize hR:mg U U.length U.length (List.replicate U.length false)=R
 refine fA func41 fun C hC=>?_
 refine zA o0 ?_
 refine xB fun g1 ah=>?_
 refine Zg ah f1 ?_
 refine KP (n:=U.length) (c:=U.length) (size:=1) (z:=[.bool false]) rfl rfl rfl (zE ah) (zE ah) rfl om (zE ah) (zE ah) om om om om om fun g4 aC=> ?_
 simp only [Ad]
 rw [QrM U.length]
 replace aC:=Qa.ay aC
 dsimp only [Qa.ne] at aC
 have J1:=oj ah aC
 refine yS J1 ?_
 refine zA J1 ?_
 refine Qh (fun y:Nat×List Bool=>[(3,.c (qk true U)),(4,.c (.aO g4 1 0 U.length)),(18,.c (.int .i64 U.length)),(19,.c (.int .i64 y.1))]) (fun y=>[(g4,.cells 4 U.length (mB y.2)),(g1,.cells 45 8 (ao (Xo true m)))]) (fun y=>y.1≤U.length∧y.2.length=U.length∧mg U U.length (U.length-y.1) y.2=R) (fun y=>U.length-y.1) (0,List.replicate U.length false) (zB J1) zZ ⟨Lz _,List.length_replicate,hR⟩ ?_
 rintro ⟨r,off⟩ ⟨hr,lP,oK⟩
 dsimp only at hr lP oK⊢
 by_cases kq:r<U.length
 ·have dr:decide (r<U.length)=true:=Dt kq
  refine zA (oj ah (oj aC dr)) ?_
  rw [show U.length-r=(U.length-(r+1))+1 from by omega] at oK
  replace oK:mg U U.length (U.length-(r+1)) (s8 U off U.length)=R:=oK
  refine Qh (fun i:Nat=>[(3,.c (qk true U)),(4,.c (.aO g4 1 0 U.length)),(18,.c (.int .i64 U.length)),(19,.c (.int .i64 r)),(21,.c (qk true U)),(22,.c (.int .i64 U.length)),(23,.c (.int .i64 i))]) (fun i=>[(g4,.cells 4 U.length (mB ((List.range i).foldl (Wz U) off))),(g1,.cells 45 8 (ao (Xo true m)))]) (fun i=>i≤U.length) (fun i=>U.length-i) 0 (zB (oj ah (oj aC dr))) zZ (Lz _) ?_
  intro i hi
  have cW:=wx U (List.range i) off
  rw [lP] at cW
  have ea:(List.range (i+1)).foldl (Wz U) off=((List.range i).foldl (Wz U) off).set i (((List.range i).foldl (Wz U) off).getD i false||(U.getD i []).all fun u=>((List.range i).foldl (Wz U) off).getD u false):=by rw [List.range_succ,List.foldl_append];rfl
  have pV:(List.range U.length).foldl (Wz U) off=s8 U off U.length:=rfl
  by_cases eH:i<U.length
  ·have di:decide (i<U.length)=true:=Dt eH
   have hl6:=hlen (U.getD i []) (by rw [Lg,Li eH];exact Le eH)
   have kJ:=hb (U.getD i []) (by rw [Lg,Li eH];exact Le eH)
   generalize (List.range i).foldl (Wz U) off=o2 at*
   generalize hl:U.getD i []=l at*
   refine zA (oj ah (oj aC (oj dr (oj di hl)))) ?_
   refine Qh (fun j:Nat=>[(3,.c (qk true U)),(4,.c (.aO g4 1 0 U.length)),(5,.c (.int .i64 i)),(7,.c (.bool ((l.take j).all fun u=>o2.getD u false))),(18,.c (.int .i64 U.length)),(19,.c (.int .i64 r)),(21,.c (qk true U)),(22,.c (.int .i64 U.length)),(23,.c (.int .i64 i)),(28,.c (vX true l)),(29,.c (.int .i64 l.length)),(30,.c (.int .i64 j))]) (fun _=>[(g4,.cells 4 U.length (mB o2)),(g1,.cells 45 8 (ao (Xo true m)))]) (fun j=>j≤l.length) (fun j=>l.length-j) 0 (zB (oj ah (oj aC (oj dr (oj di hl))))) zZ (Lz _) ?_
   intro j hj
   by_cases bp:j<l.length
   ·have dj:decide (j<l.length)=true:=Dt bp
    have hu:=kJ (l.getD j 0) (by rw [Lg,Li bp];exact Le bp)
    have hta:=QqA (p:=fun u=>o2.getD u false) bp
    generalize (l.take j).all (fun u=>o2.getD u false)=b at*
    all_goals try(have Z:=(oj ah (oj aC (oj dr (oj di (oj hl dj)))));(repeat' first|refine zV Z ?_|refine zH Z ?_ ?_<;>intro hb|fail);all_goals clear Z)
    all_goals
     refine Qb ⟨j+1,?_⟩
     rw [hta,hb]
     first
      |rw [Bool.true_and]
      |rw [Bool.false_and]
     and_intros
     all_goals first|rfl|exact Lr _|exact True.intro|omega
   ·have dj:decide (j<l.length)=false:=De bp
    have rE:l.take j=l:=Ly om
    rw [rE]
    generalize l.all (fun u=>o2.getD u false)=b at*
    all_goals try(have Z:=(oj ah (oj aC (oj dr (oj di (oj hl dj)))));(repeat' first|refine zV Z ?_|refine zH Z ?_ ?_<;>intro hb|fail);all_goals clear Z)
    all_goals
     rw [QrL om]
     refine Qb ⟨i+1,by omega,(zB (oj ah (oj aC (oj dr (oj di (oj hl dj)))))),?_,by omega⟩
     show List.Sublist [(g4,XS.cells 4 U.length (mB ((List.range (i+1)).foldl (Wz U) off))),_] _
     rw [ea,hb]
     first
      |rw [Bool.true_or]
      |rw [Bool.false_or]
     exact Lr _
  ·have di:decide (i<U.length)=false:=De eH
   obtain rfl:i=U.length:=by omega
   refine zA (oj ah (oj aC (oj dr di))) ?_
   refine Qb ⟨(r+1,s8 U off U.length),?_⟩
   dsimp only
   and_intros
   all_goals first|rfl|exact Lr _|exact True.intro|exact oK|exact cW|omega
 ·have dr:decide (r<U.length)=false:=De kq
  obtain rfl:r=U.length:=by omega
  rw [Nat.sub_self] at oK
  replace oK:off=R:=oK
  subst oK
  refine zA (oj ah (oj aC dr)) ?_
  refine Qh (fun j:Nat=>[(54,.c (.aO g4 1 0 U.length)),(55,.c (.int .i64 U.length)),(56,.c (.int .i64 j))]) (fun _=>[(g4,.cells 4 U.length (mB off)),(g1,.cells 45 8 (ao (Xo true m)))]) (fun j=>j≤U.length∧∀t,t<j→off.getD t false=true) (fun j=>U.length-j) 0 (zB (oj ah (oj aC dr))) zZ ⟨Lz _,fun t ht=>absurd ht (Nat.not_lt_zero t)⟩ ?_
  rintro j ⟨hj,bQ⟩
  all_goals try(have Z:=(oj ah (oj aC dr));(repeat' first|refine zV Z ?_|refine zH Z ?_ ?_<;>intro hb|fail);all_goals clear Z)
  ·have hx:off.all id=false:=QuQ (t:=j) om (by simpa using hb)
   rw [hx]
   refine yT hC (oj ah (oj aC dr)) ?_
   exact .one (.c (.bool _))
  ·refine Qb ⟨j+1,?_⟩
   have hx:off.getD j false=true:=by simpa using hb
   and_intros
   all_goals first|rfl|exact Lr _|exact True.intro|omega|skip
   intro t ht
   rcases Nat.lt_succ_iff_lt_or_eq.1 ht with e|rfl
   ·exact bQ t e
   ·exact hx
  ·have hx:off.all id=true:=Qs5 (fun t ht=>bQ t om)
   rw [hx]
   refine yT hC (oj ah (oj aC dr)) ?_
   exact .one (.c (.bool _))
theorem T4 (m:Qz) (ho:K5 m):Fa prog 35 [.agg (Xo true m)] (.c (.int .i64 (Od m))):=by
 have hm:=ho.ok
 have hw:=ho.wf
 have cZ:=ho.wi
 have jW:=hm.ev
 have gV:=hm.hs
 have bY:=cZ.gl
 have dJ:=cZ.pl
 have hP:∀i,i≤m.aa.length→lX (m.aa.take i)≤1099511627776:=fun i hi=>by
  have h1:∀j,((m.aa.take i).getD j bj).an.length≤1048576:=fun j=>by
   by_cases hj:j<i
   ·have:=(cZ.pg j).2
    rw [Lg,List.getElem?_take_of_lt hj,←Lg];exact this
   ·rw [Lg,List.getElem?_take_eq_none om];exact Lz _
  have h2:=Nl h1
  rw [List.length_take] at h2
  have:min i m.aa.length≤1048576:=by omega
  calc _≤_:=h2
   _≤1048576*1048576:=Nm _ this
 have fn:Fa prog 82 [.c (.str (sB m.name))] (.c (.bool (QD m.name))):=Ji m.name hw.nm
 refine fA func35 fun C hC=>?_
 refine zA o0 ?_
 refine xB fun g1 ah=>?_
 repeat' first|refine zV ah ?_|refine yQ ah fn ?_|refine zH ah ?_ ?_<;>intro hb|fail
 ·refine yT hC ah ?_
  refine .one (.c (Qn ?_))
  unfold Od Z2
  rw [show QD m.name=false from by simpa using hb]
  rfl
 ·rename_i Et
  have e1:Od m=Z2 (Jw m) (Jx m):=by
   unfold Od
   rw [iP (by simpa using Et)]
   exact iP rfl
  refine yT hC ah ?_
  refine .one (.c (Qn ?_))
  rw [e1]
  unfold Jw Z2
  rw [iP (show m.events.length>24 by omega)]
  rfl
 rename_i Et
 have e1:Od m=Z2 (Jw m) (Jx m):=by
  unfold Od
  rw [iP (by simpa using Et)]
  exact iP rfl
 have he:¬m.events.length>24:=by omega
 have e2:Jw m=Z2 (XU (jl m) m.events 0) (if m.af.length>16 then 4 else XU (iL m) m.af 0):=iN he
 generalize hF:XU (jl m) m.events 0=F at e2
 refine Qh (fun i:Nat=>[(1,.c (.aj g1 0)),(21,.c (gS true m.events)),(22,.c (.int .i64 m.events.length)),(23,.c (.int .i64 i))]) (fun _=>[(g1,.cells 45 8 (ao (Xo true m)))]) (fun i=>i≤m.events.length∧XU (jl m) (m.events.drop i) i=F) (fun i=>m.events.length-i) 0 (zB ah) zZ ⟨Lz _,hF⟩ ?_
 rintro i ⟨hi,aB⟩
 repeat' first|refine zV ah ?_|refine zH ah ?_ ?_<;>intro hb|fail
 ·obtain⟨w0,w1,w2,w3⟩:=hw.ev i
  have wp:(m.events.getD i bn).p.wf 500000000:=V2.m (QF ho.ev.2 CY i).2.1
  have hi':=hb
  have hR:∀c,jl m i (m.events.getD i bn)=c→c≠0→Od m=c:=fun c hc h0=>by
   have:=Zk aB hi' hc h0
   rw [e1,e2,this]
   unfold Z2
   rw [iN h0,iN h0]
  have hG:=Vi (d:=bn) aB hi'
  generalize hx:m.events.getD i bn=x at*
  have f1:Fa prog 82 [.c (.str (sB x.name))] (.c (.bool (QD x.name))):=Ji x.name w0
  have f2:=ZM m x.name jW
  have f3:=wI x.p wp
  have f4:=G2 x.fail w2
  have f5:=G2 x.rep w3
  refine yA ah fun g4 aC=>?_
  all_goals try(have Z:=(oj ah aC);(repeat' first|refine zV Z ?_|refine yQ Z f1 ?_|refine yQ Z f2 ?_|refine yQ Z f3 ?_|refine yQ Z f4 ?_|refine yQ Z f5 ?_|refine zH Z ?_ ?_<;>intro hb|fail);all_goals clear Z)
  all_goals clear f1 f2 f3 f4 f5 fn
  all_goals first
   |(refine yT hC (oj ah aC) ?_
     refine .one (.c (Qn ?_))
     refine(hR _ ?_ Af).symm
     clear hR hG aB hF hx
     unfold jl
     repeat' split
     all_goals exact Ah)
   |(refine Qb ⟨i+1,?_⟩
     have hz:jl m i x=0:=by
      clear hR hG aB hF hx
      unfold jl
      repeat' split
      all_goals exact Ah
     and_intros
     all_goals first|rfl|exact Lr _|exact Ls _ _|exact True.intro|exact hG hz|omega)
 ·have bU:=YK aB (by assumption)
  subst bU
  refine yT hC ah ?_
  refine .one (.c (Qn ?_))
  rw [e1,e2]
  unfold Z2
  rw [iP rfl,iP (show m.af.length>16 by omega)]
  rfl
 have bU:=YK aB (by assumption)
 subst bU
 have hh:¬m.af.length>16:=by omega
 have e3:Jw m=XU (iL m) m.af 0:=by
  rw [e2]
  unfold Z2
  rw [iP rfl,iN hh]
 clear aB hi hF e2
 generalize hF:XU (iL m) m.af 0=F at e3
 refine Qh (fun i:Nat=>[(1,.c (.aj g1 0)),(65,.c (jb true m.af)),(66,.c (.int .i64 m.af.length)),(67,.c (.int .i64 i))]) (fun _=>[(g1,.cells 45 8 (ao (Xo true m)))]) (fun i=>i≤m.af.length∧XU (iL m) (m.af.drop i) i=F) (fun i=>m.af.length-i) 0 (zB ah) zZ ⟨Lz _,hF⟩ ?_
 rintro i ⟨hi,aB⟩
 repeat' first|refine zV ah ?_|refine zH ah ?_ ?_<;>intro hb|fail
 ·have w0:=hw.hs i
  have hi':=hb
  have hR:∀c,iL m i (m.af.getD i bw)=c→c≠0→Od m=c:=fun c hc h0=>by
   have:=Zk aB hi' hc h0
   rw [e1,e3,this]
   unfold Z2
   rw [iN h0]
  have hG:=Vi (d:=bw) aB hi'
  generalize hx:m.af.getD i bw=x at*
  have f1:Fa prog 82 [.c (.str (sB x.name))] (.c (.bool (QD x.name))):=Ji x.name w0
  have f2:=ZM m x.name jW
  have f3:=Av m x.name gV
  refine yA ah fun g4 aC=>?_
  all_goals try(have Z:=(oj ah aC);(repeat' first|refine zV Z ?_|refine yQ Z f1 ?_|refine yQ Z f2 ?_|refine yQ Z f3 ?_|refine zH Z ?_ ?_<;>intro hb|fail);all_goals clear Z)
  all_goals clear f1 f2 f3 fn
  all_goals first
   |(refine yT hC (oj ah aC) ?_
     refine .one (.c (Qn ?_))
     refine(hR _ ?_ Af).symm
     clear hR hG aB hF hx
     unfold iL
     repeat' split
     all_goals exact Ah)
   |(refine Qb ⟨i+1,?_⟩
     have hz:iL m i x=0:=by
      clear hR hG aB hF hx
      unfold iL
      repeat' split
      all_goals exact Ah
     and_intros
     all_goals first|rfl|exact Lr _|exact Ls _ _|exact True.intro|exact hG hz|omega)
 have bU:=YK aB hb
 have e4:Od m=Jx m:=by
  rw [e1,e3,bU]
  exact iP rfl
 clear aB hi hF e3 e1 bU
 refine Qh (fun i:Nat=>[(1,.c (.aj g1 0)),(7,.c (.int .i64 ((m.an.length+lX (m.aa.take i):Nat):Int))),(94,.c (ir true m.aa)),(95,.c (.int .i64 m.aa.length)),(96,.c (.int .i64 i))]) (fun _=>[(g1,.cells 45 8 (ao (Xo true m)))]) (fun i=>i≤m.aa.length) (fun i=>m.aa.length-i) 0 (zB ah) zZ (Lz _) ?_
 rintro i hi
 have hPi:=hP i hi
 repeat' first|refine zV ah ?_|refine zH ah ?_ ?_<;>intro hb|fail
 ·have hi':=hb
  have zd:=hP (i+1) hi'
  have ht:=Hq hi'
  have zx:=(cZ.pg i).2
  refine yA ah fun g4 aC=>?_
  refine zA (oj ah aC) ?_
  refine Qb ⟨i+1,?_⟩
  and_intros
  all_goals first|rfl|exact Lr _|exact Ls _ _|exact True.intro|exact Ul om|omega
 ·refine yT hC ah ?_
  refine .one (.c (Qn ?_))
  rw [e4]
  unfold Jx
  rw [iP (.inl om)]
 ·rename_i h8 cA
  have jc:m.aa.take i=m.aa:=Ly om
  rw [jc] at hb
  have hg:pI m>64:=by
   show m.an.length+lX m.aa>64
   omega
  refine yT hC ah ?_
  refine .one (.c (Qn ?_))
  rw [e4]
  unfold Jx
  rw [iP (.inr hg)]
 rename_i h8 cA
 have jc:m.aa.take i=m.aa:=Ly om
 rw [jc] at hb
 have hg:¬pI m>64:=by
  show¬m.an.length+lX m.aa>64
  omega
 have ef:Od m=XU (jt m) m.aa 0:=by
  rw [e4]
  unfold Jx
  rw [iN (fun z=>z.elim om hg)]
 generalize hF:XU (jt m) m.aa 0=F at ef
 refine Qh (fun i:Nat=>[(1,.c (.aj g1 0)),(115,.c (ir true m.aa)),(116,.c (.int .i64 m.aa.length)),(117,.c (.int .i64 i))]) (fun _=>[(g1,.cells 45 8 (ao (Xo true m)))]) (fun i=>i≤m.aa.length∧XU (jt m) (m.aa.drop i) i=F) (fun i=>m.aa.length-i) 0 (zB ah) zZ ⟨Lz _,hF⟩ ?_
 rintro i ⟨hi,aB⟩
 repeat' first|refine zV ah ?_|refine zH ah ?_ ?_<;>intro hb|fail
 ·obtain⟨w0,_⟩:=cZ.pg i
  have hi':=hb
  have hR:∀c,jt m i (m.aa.getD i bj)=c→c≠0→Od m=c:=fun c hc h0=>by
   rw [ef];exact Zk aB hi' hc h0
  have hG:=Vi (d:=bj) aB hi'
  generalize hx:m.aa.getD i bj=x at*
  have f1:Fa prog 82 [.c (.str (sB x.name))] (.c (.bool (QD x.name))):=Ji x.name w0
  have f2:=AT m x.name hm.pg
  refine yA ah fun g4 aC=>?_
  all_goals try(have Z:=(oj ah aC);(repeat' first|refine zV Z ?_|refine yQ Z f1 ?_|refine yQ Z f2 ?_|refine zH Z ?_ ?_<;>intro hb|fail);all_goals clear Z)
  all_goals clear f1 f2 fn
  all_goals first
   |(refine yT hC (oj ah aC) ?_
     refine .one (.c (Qn ?_))
     refine(hR _ ?_ Af).symm
     clear hR hG aB hF hx
     unfold jt
     repeat' split
     all_goals exact Ah)
   |(refine Qb ⟨i+1,?_⟩
     have hz:jt m i x=0:=by
      clear hR hG aB hF hx
      unfold jt
      repeat' split
      all_goals exact Ah
     and_intros
     all_goals first|rfl|exact Lr _|exact Ls _ _|exact True.intro|exact hG hz|omega)
 ·have bU:=YK aB hb
  subst bU
  refine yT hC ah ?_
  exact .one (.c (Qn ef.symm))
theorem T5 (m:Qz) (k i:Nat) (hk:k≤m.aa.length) (hi:i<(Qt m k).length) (ho:K5 m):Fa prog 37 [.agg (Xo true m),.c (.int .i64 ((k:Int)-1)),.c (.int .i64 i)] (.c (.int .i64 (fU m k i ((Qt m k).getD i aU)))):=by
 have hm:=ho.ok
 have bY:(Qt m k).length≤1099511627776:=Lt (ho.ca k).1 Af
 obtain⟨w0,w1,w2,_⟩:=ho.uT k i
 have w2':((Qt m k).getD i aU).ak.length≤1099511627776:=Lt w2 Af
 have f0:=Kh m k hk hm.pg
 have f9:=f0
 generalize hx:(Qt m k).getD i aU=x at*
 have f1:Fa prog 82 [.c (.str (sB x.name))] (.c (.bool (QD x.name))):=Ji x.name (Lt w0 Af)
 have f2:=S8 x.kind
 have f3:=ZM m x.name hm.ev
 have f4:=Av m x.name hm.hs
 have f5:=AU (Qt m k) x.name bY
 have f6:=wI x.aH (XZ w1 Af)
 have f7:=Qnm x.aH w1.w
 have hS:=Qs7 x
 generalize hA:(lv x.kind).1=lo at*
 generalize hB:(lv x.kind).2=hi' at*
 have hc:fU m k i x=(if QD x.name=false then 5 else if Vt m x.name≥0∨ey m x.name≥0∨fg (Qt m k) x.name<i then 6 else UI x):=rfl
 rw [hc,hS]
 clear hc hS hA hB
 obtain⟨xn,kd,kv,xi,xd⟩:=x
 dsimp only at*
 refine fA func37 fun C hC=>?_
 repeat' first|refine zV o0 ?_|refine zH o0 ?_ ?_<;>intro hb|fail
 refine xB fun g1 ah=>?_
 repeat' first|refine zV ah ?_|refine yQ ah f0 ?_|refine zH ah ?_ ?_<;>intro hb|fail
 refine yA ah fun g2 aq=>?_
 rw [hx]
 all_goals try(have Z:=(oj ah aq);(repeat' first|refine zV Z ?_|refine yQ Z f1 ?_|refine yQ Z f2 ?_|refine zH Z ?_ ?_<;>intro hb|fail);all_goals clear Z)
 ·rw [iP (by simpa using hb)]
  refine yT hC (oj ah aq) ?_
  exact .one (.c (.int _ _))
 rw [iN (by simpa using hb)]
 clear hb hx f0 f1 f2
 by_cases e1:Vt m xn≥0
 ·have d1:decide (Vt m xn≥0)=true:=Dt e1
  all_goals try(have Z:=(oj ah (oj aq d1));(repeat' first|refine zV Z ?_|refine yQ Z f3 ?_|refine zH Z ?_ ?_<;>intro hb|fail);all_goals clear Z)
  rw [iP (.inl e1)]
  refine yT hC (oj ah (oj aq d1)) ?_
  exact .one (.c (.int _ _))
 have d1:decide (Vt m xn≥0)=false:=De e1
 by_cases e2:ey m xn≥0
 ·have d2:decide (ey m xn≥0)=true:=Dt e2
  all_goals try(have Z:=(oj ah (oj aq (oj d1 d2)));(repeat' first|refine zV Z ?_|refine yQ Z f3 ?_|refine yQ Z f4 ?_|refine zH Z ?_ ?_<;>intro hb|fail);all_goals clear Z)
  rw [iP (.inr (.inl e2))]
  refine yT hC (oj ah (oj aq (oj d1 d2))) ?_
  exact .one (.c (.int _ _))
 have d2:decide (ey m xn≥0)=false:=De e2
 all_goals try(have Z:=(oj ah (oj aq (oj d1 d2)));(repeat' first|refine zV Z ?_|refine yQ Z f3 ?_|refine yQ Z f4 ?_|refine zH Z ?_ ?_<;>intro hb|fail);all_goals clear Z)
 refine Xl 9 Qg kR ?_
 by_cases e3:fg (Qt m k) xn<i
 ·have d3:decide (fg (Qt m k) xn<(i:Int))=true:=Dt e3
  all_goals try(have Z:=(oj ah (oj aq (oj d1 (oj d2 d3))));(repeat' first|refine zV Z ?_|refine yQ Z f9 ?_|refine yQ Z f5 ?_|refine zH Z ?_ ?_<;>intro hb|fail);all_goals clear Z)
  rw [iP (.inr (.inr e3))]
  refine yT hC (oj ah (oj aq (oj d1 (oj d2 d3)))) ?_
  exact .one (.c (.int _ _))
 have d3:decide (fg (Qt m k) xn<(i:Int))=false:=De e3
 rw [iN om]
 clear e1 e2 e3 f3 f4
 by_cases e4:hi'=0
 ·have d4:(hi'==0)=true:=by rw [e4];rfl
  all_goals try(have Z:=(oj ah (oj aq (oj d1 (oj d2 (oj d3 d4)))));(repeat' first|refine zV Z ?_|refine yQ Z f9 ?_|refine yQ Z f5 ?_|refine zH Z ?_ ?_<;>intro hb|fail);all_goals clear Z)
  rw [iP e4]
  refine yT hC (oj ah (oj aq (oj d1 (oj d2 (oj d3 d4))))) ?_
  exact .one (.c (.int _ _))
 have d4:(hi'==0)=false:=beq_eq_false_iff_ne.2 e4
 rw [iN e4]
 by_cases e5:(xi.length:Int)<lo
 ·have d5:decide ((xi.length:Int)<lo)=true:=Dt e5
  all_goals try(have Z:=(oj ah (oj aq (oj d1 (oj d2 (oj d3 (oj d4 d5))))));(repeat' first|refine zV Z ?_|refine yQ Z f9 ?_|refine yQ Z f5 ?_|refine zH Z ?_ ?_<;>intro hb|fail);all_goals clear Z)
  rw [iP (.inl e5)]
  refine yT hC (oj ah (oj aq (oj d1 (oj d2 (oj d3 (oj d4 d5)))))) ?_
  exact .one (.c (.int _ _))
 have d5:decide ((xi.length:Int)<lo)=false:=De e5
 by_cases e6:(xi.length:Int)>hi'
 ·have d6:decide ((xi.length:Int)>hi')=true:=Dt e6
  all_goals try(have Z:=(oj ah (oj aq (oj d1 (oj d2 (oj d3 (oj d4 (oj d5 d6)))))));(repeat' first|refine zV Z ?_|refine yQ Z f9 ?_|refine yQ Z f5 ?_|refine zH Z ?_ ?_<;>intro hb|fail);all_goals clear Z)
  rw [iP (.inr e6)]
  refine yT hC (oj ah (oj aq (oj d1 (oj d2 (oj d3 (oj d4 (oj d5 d6))))))) ?_
  exact .one (.c (.int _ _))
 have d6:decide ((xi.length:Int)>hi')=false:=De e6
 rw [iN (fun z=>z.elim e5 e6)]
 by_cases k2:kd=2
 ·subst k2
  all_goals try(have Z:=(oj ah (oj aq (oj d1 (oj d2 (oj d3 (oj d4 (oj d5 d6)))))));(repeat' first|refine zV Z ?_|refine yQ Z f9 ?_|refine yQ Z f5 ?_|refine yQ Z f7 ?_|refine zH Z ?_ ?_<;>intro hb|fail);all_goals clear Z)
  all_goals clear f9 f5 f7
  all_goals
   refine yT hC (oj ah (oj aq (oj d1 (oj d2 (oj d3 (oj d4 (oj d5 d6))))))) ?_
   refine .one (.c (Qn ?_))
   repeat' split
   all_goals exact Ah
 have q2:(kd==2)=false:=beq_eq_false_iff_ne.2 k2
 have r2:(kd !=2)=true:=bne_iff_ne.2 k2
 by_cases k7:kd=7
 ·subst k7
  all_goals try(have Z:=(oj ah (oj aq (oj d1 (oj d2 (oj d3 (oj d4 (oj d5 (oj d6 (oj q2 r2)))))))));(repeat' first|refine zV Z ?_|refine yQ Z f9 ?_|refine yQ Z f5 ?_|refine yQ Z f6 ?_|refine zH Z ?_ ?_<;>intro hb|fail);all_goals clear Z)
  all_goals clear f9 f5 f6
  all_goals
   refine yT hC (oj ah (oj aq (oj d1 (oj d2 (oj d3 (oj d4 (oj d5 (oj d6 (oj q2 r2))))))))) ?_
   refine .one (.c (Qn ?_))
   repeat' split
   all_goals exact Ah
 have q7:(kd==7)=false:=beq_eq_false_iff_ne.2 k7
 have r7:(kd !=7)=true:=bne_iff_ne.2 k7
 all_goals try(have Z:=(oj ah (oj aq (oj d1 (oj d2 (oj d3 (oj d4 (oj d5 (oj d6 (oj q2 (oj r2 (oj q7 r7)))))))))));(repeat' first|refine zV Z ?_|refine yQ Z f9 ?_|refine yQ Z f5 ?_|refine yQ Z f7 ?_|refine zH Z ?_ ?_<;>intro hb|fail);all_goals clear Z)
 all_goals clear f9 f5 f7
 all_goals
  refine yT hC (oj ah (oj aq (oj d1 (oj d2 (oj d3 (oj d4 (oj d5 (oj d6 (oj q2 (oj r2 (oj q7 r7))))))))))) ?_
  refine .one (.c (Qn ?_))
  repeat' split
  all_goals exact Ah
end Go.Proofs.YtjegkdadeghpjaaGreatDoor
