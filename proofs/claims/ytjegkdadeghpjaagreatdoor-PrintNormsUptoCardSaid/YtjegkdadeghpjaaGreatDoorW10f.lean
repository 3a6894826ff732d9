/- Parts of one proof, laid by a program. -/
import Derived.Test.YtjegkdadeghpjaaGreatDoorW00
import Derived.Test.YtjegkdadeghpjaaGreatDoorW10a
set_option linter.unusedSimpArgs false
set_option linter.unusedVariables false
set_option maxRecDepth 100000
set_option maxHeartbeats 12800000
namespace Go.Proofs.YtjegkdadeghpjaaGreatDoor
open Go.AI Go.PN Proofs.Tryz
attribute [local irreducible] aw Fa VA Vk Fh YO
theorem Ib (xs ys:List BS) (hl:xs.length≤1099511627776) (gV:ys.length≤1099511627776):Fa prog 75 [.c (YH false xs),.c (YH false ys)] (.c (.bool (decide (xs=ys)))):=by
 refine fA func75 fun C hC=>?_
 repeat' first|refine zV o0 ?_|refine zH o0 ?_ ?_<;>intro hb|fail
 ·refine xT hC ?_
  exact .one (.c (Qe (De fun e=>hb (by rw [e])).symm))
 have hlen:xs.length=ys.length:=by simpa using hb
 refine Qh (fun i:Nat=>[(0,.c (YH false xs)),(1,.c (YH false ys)),(12,.c (.int .i64 xs.length)),(13,.c (.int .i64 i))]) (fun _=>[]) (fun i=>i≤xs.length∧∀j,j<i→xs.getD j []=ys.getD j []) (fun i=>xs.length-i) 0 eB zZ ⟨Lz _,fun j hj=>absurd hj om⟩ ?_
 rintro i ⟨hi,hs⟩
 repeat' first|refine zV o0 ?_|refine zH o0 ?_ ?_<;>intro hb|fail
 ·have hi':=hb
  have jV:i<ys.length:=by omega
  refine Xl 9 Qg kR ?_
  repeat' first|refine zV o0 ?_|refine zH o0 ?_ ?_<;>intro hb|fail
  ·refine xT hC ?_
   exact .one (.c (Qe (De fun e=>hb (by rw [e])).symm))
  ·refine Qb ⟨i+1,?_⟩
   have cu:=VX hs (by simpa using hb)
   and_intros
   all_goals first|rfl|exact Lr _|exact True.intro|exact cu|omega
 ·refine xT hC ?_
  exact .one (.c (Qe (Dt (VW [] hlen fun j hj=>hs j om)).symm))
theorem Qtf (xs ys:List RD) (hw:∀i,(xs.getD i aW).wf 68719476736) (hl:xs.length≤1099511627776) (gV:ys.length≤1099511627776):Fa prog 76 [.c (OB true xs),.c (OB true ys)] (.c (.bool (decide (xs=ys)))):=by
 refine fA func76 fun C hC=>?_
 repeat' first|refine zV o0 ?_|refine zH o0 ?_ ?_<;>intro hb|fail
 ·refine xT hC ?_
  exact .one (.c (Qe (De fun e=>hb (by rw [e])).symm))
 have hlen:xs.length=ys.length:=by simpa using hb
 refine Qh (fun i:Nat=>[(0,.c (OB true xs)),(1,.c (OB true ys)),(12,.c (.int .i64 xs.length)),(13,.c (.int .i64 i))]) (fun _=>[]) (fun i=>i≤xs.length∧∀j,j<i→xs.getD j aW=ys.getD j aW) (fun i=>xs.length-i) 0 eB zZ ⟨Lz _,fun j hj=>absurd hj om⟩ ?_
 rintro i ⟨hi,hs⟩
 have f1:=Uz (xs.getD i aW) (ys.getD i aW) (hw i)
 repeat' first|refine zV o0 ?_|refine zH o0 ?_ ?_<;>intro hb|fail
 ·have hi':=hb
  have jV:i<ys.length:=by omega
  refine Xl 10 Qg kR ?_
  repeat' first|refine zV o0 ?_|refine yQ o0 f1 ?_|refine zH o0 ?_ ?_<;>intro hb|fail
  ·refine xT hC ?_
   exact .one (.c (Qe (De fun e=>by rw [e] at hb;simp at hb).symm))
  ·refine Qb ⟨i+1,?_⟩
   have cu:=VX hs (by simpa using hb)
   and_intros
   all_goals first|rfl|exact Lr _|exact True.intro|exact cu|omega
 ·refine xT hC ?_
  exact .one (.c (Qe (Dt (VW aW hlen fun j hj=>hs j om)).symm))
theorem Ft (xs ys:List Xk) (hw:∀i,(xs.getD i aU).aH.wf 68719476736∧(xs.getD i aU).ak.length≤1099511627776∧(ys.getD i aU).ak.length≤1099511627776) (hl:xs.length≤1099511627776) (gV:ys.length≤1099511627776):Fa prog 74 [.c (ca true xs),.c (ca true ys)] (.c (.bool (decide (xs=ys)))):=by
 refine fA func74 fun C hC=>?_
 repeat' first|refine zV o0 ?_|refine zH o0 ?_ ?_<;>intro hb|fail
 ·refine xT hC ?_
  exact .one (.c (Qe (De fun e=>hb (by rw [e])).symm))
 have hlen:xs.length=ys.length:=by simpa using hb
 refine Qh (fun i:Nat=>[(13,.c (ca true xs)),(1,.c (ca true ys)),(14,.c (.int .i64 xs.length)),(15,.c (.int .i64 i))]) (fun _=>[]) (fun i=>i≤xs.length∧∀j,j<i→xs.getD j aU=ys.getD j aU) (fun i=>xs.length-i) 0 eB zZ ⟨Lz _,fun j hj=>absurd hj om⟩ ?_
 rintro i ⟨hi,hs⟩
 obtain⟨w1,w2,w3⟩:=hw i
 repeat' first|refine zV o0 ?_|refine zH o0 ?_ ?_<;>intro hb|fail
 ·have hi':=hb
  have jV:i<ys.length:=by omega
  have aK:xs.getD i aU≠ys.getD i aU→decide (xs=ys)=false:=fun h=>De fun e=>h (by rw [e])
  have cu:=fun h=>VX (d:=aU) hs h
  refine xA fun g6 aJ=>?_
  refine zA aJ ?_
  refine yA aJ fun g7 da=>?_
  generalize xs.getD i aU=x at*
  generalize ys.getD i aU=y at*
  have f1:=Ib x.ak y.ak w2 w3
  have f2:=Uz x.aH y.aH w1
  obtain⟨xn,xk,xv,xi,xd⟩:=x
  obtain⟨yn,yk,yv,yi,yd⟩:=y
  dsimp only at*
  all_goals try(have Z:=(oj aJ da);(repeat' first|refine zV Z ?_|refine yQ Z f1 ?_|refine yQ Z f2 ?_|refine zH Z ?_ ?_<;>intro hb|fail);all_goals clear Z)
  all_goals clear f1 f2
  all_goals first
   |(refine yT hC (oj aJ da) ?_
     exact .one (.c (Qe (aK (by simp_all)).symm)))
   |(refine Qb ⟨i+1,?_⟩
     have fN:=cu (by simp_all)
     and_intros
     all_goals first|rfl|exact List.nil_sublist _|exact True.intro|exact fN|omega)
 ·refine xT hC ?_
  exact .one (.c (Qe (Dt (VW aU hlen fun j hj=>hs j om)).symm))
end Go.Proofs.YtjegkdadeghpjaaGreatDoor
namespace Go.Proofs.YtjegkdadeghpjaaGreatDoor
open Go.AI Go.PN Proofs.Tryz
attribute [local irreducible] aw Fa VA Vk Fh YO
theorem Ss (a b:Qz) (ha:K5 a) (cY:K5 b):Fa prog 73 [.agg (Xo true a),.agg (Xo true b)] (.c (.bool (decide (a.events=b.events∧a.af=b.af∧a.aa=b.aa)))):=by
 have a1:=ha.ok
 have a2:=cY.ok
 have b1:=a1.ev
 have b2:=a1.hs
 have b3:=a1.pg
 have b4:=a2.ev
 have b5:=a2.hs
 have b6:=a2.pg
 refine fA func73 fun C hC=>?_
 refine zA o0 ?_
 refine xB fun g2 aq=>?_
 refine zA aq ?_
 refine yB aq fun g3 av=>?_
 all_goals try(have Z:=(oj aq av);(repeat' first|refine zV Z ?_|refine zH Z ?_ ?_<;>intro hb|fail);all_goals clear Z)
 ·refine yT hC (oj aq av) ?_
  exact .one (.c (Qe (C4 fun e=>hb (by rw [e.1]))))
 ·refine yT hC (oj aq av) ?_
  exact .one (.c (Qe (C4 fun e=>hb (by rw [e.2.1]))))
 ·refine yT hC (oj aq av) ?_
  exact .one (.c (Qe (C4 fun e=>hb (by rw [e.2.2]))))
 rename_i l1 l2
 have l3:a.aa.length=b.aa.length:=by simpa using hb
 clear hb
 have wv:=fun i=>QF ha.ev.2 CY i
 have wg:=ha.tI
 have wh:=cY.tI
 refine Qh (fun i:Nat=>[(2,.c (.aj g2 0)),(3,.c (.aj g3 0)),(38,.c (gS true a.events)),(39,.c (.int .i64 a.events.length)),(40,.c (.int .i64 i))]) (fun _=>[(g3,.cells 45 8 (ao (Xo true b))),(g2,.cells 45 8 (ao (Xo true a)))]) (fun i=>i≤a.events.length∧∀j,j<i→a.events.getD j bn=b.events.getD j bn) (fun i=>a.events.length-i) 0 (zB (oj aq av)) zZ ⟨Lz _,fun j hj=>absurd hj om⟩ ?_
 rintro i ⟨hi,hs⟩
 all_goals try(have Z:=(oj aq av);(repeat' first|refine zV Z ?_|refine zH Z ?_ ?_<;>intro hb|fail);all_goals clear Z)
 ·have hi':=hb
  have jV:i<b.events.length:=by omega
  have aK:a.events.getD i bn≠b.events.getD i bn→decide (a.events=b.events∧a.af=b.af∧a.aa=b.aa)=false:=fun h=>De fun e=>h (by rw [e.1])
  have cu:=fun h=>VX (d:=bn) hs h
  obtain⟨_,w1,w2,w3⟩:=wv i
  refine yA (oj aq av) fun g6 aJ=>?_
  refine zA (oj aq (oj av aJ)) ?_
  refine yA (oj aq (oj av aJ)) fun g7 da=>?_
  generalize a.events.getD i bn=x at*
  generalize b.events.getD i bn=y at*
  have f1:=Uz x.p y.p (XZ w1 Af)
  have f2:=Uz x.fail y.fail (XZ w2 Af)
  have f3:=Uz x.rep y.rep (XZ w3 Af)
  obtain⟨xn,xp,xf,xr,xc⟩:=x
  obtain⟨yn,yp,yf,yr,yc⟩:=y
  dsimp only at*
  all_goals try(have Z:=(oj aq (oj av (oj aJ da)));(repeat' first|refine zV Z ?_|refine yQ Z f1 ?_|refine yQ Z f2 ?_|refine yQ Z f3 ?_|refine zH Z ?_ ?_<;>intro hb|fail);all_goals clear Z)
  all_goals clear f1 f2 f3
  all_goals first
   |(refine yT hC (oj aq (oj av (oj aJ da))) ?_
     exact .one (.c (Qe (aK (by simp_all)).symm)))
   |(refine Qb ⟨i+1,?_⟩
     have fN:=cu (by simp_all)
     and_intros
     all_goals first|rfl|exact .cons _ (.cons _ (.refl _))|exact True.intro|exact fN|omega)
 have e1:a.events=b.events:=VW bn l1 fun j hj=>hs j om
 clear hs hi hb
 refine Qh (fun i:Nat=>[(2,.c (.aj g2 0)),(3,.c (.aj g3 0)),(89,.c (.int .i64 a.af.length)),(90,.c (.int .i64 i))]) (fun _=>[(g3,.cells 45 8 (ao (Xo true b))),(g2,.cells 45 8 (ao (Xo true a)))]) (fun i=>i≤a.af.length∧∀j,j<i→a.af.getD j bw=b.af.getD j bw) (fun i=>a.af.length-i) 0 (zB (oj aq av)) zZ ⟨Lz _,fun j hj=>absurd hj om⟩ ?_
 rintro i ⟨hi,hs⟩
 all_goals try(have Z:=(oj aq av);(repeat' first|refine zV Z ?_|refine zH Z ?_ ?_<;>intro hb|fail);all_goals clear Z)
 ·have hi':=hb
  have jV:i<b.af.length:=by omega
  have aK:a.af.getD i bw≠b.af.getD i bw→decide (a.events=b.events∧a.af=b.af∧a.aa=b.aa)=false:=fun h=>De fun e=>h (by rw [e.2.1])
  have cu:=fun h=>VX (d:=bw) hs h
  refine Xl 11 Qg kR ?_
  refine zA (oj aq av) ?_
  generalize a.af.getD i bw=x at*
  generalize b.af.getD i bw=y at*
  obtain⟨xn,xo⟩:=x
  obtain⟨yn,yo⟩:=y
  dsimp only at*
  refine KR (QB.vZ (a:=xn) (b:=xo) (c:=yn) (d:=yo) (zE (oj aq av)) (zE (oj aq av)) kR) rfl rfl ?_
  have J1:=oj aq av
  refine yS J1 ?_
  all_goals repeat' first|refine zV J1 ?_|refine zH J1 ?_ ?_<;>intro hb|fail
  all_goals first
   |(refine yT hC J1 ?_
     exact .one (.c (Qe (aK (fun e=>by have:=Vq.mk.inj e;simp [this] at hb)).symm)))
   |(refine Qb ⟨i+1,?_⟩
     have fN:=cu (by simp_all)
     and_intros
     all_goals first|rfl|exact .refl _|exact True.intro|exact fN|omega)
 have e2:a.af=b.af:=VW bw l2 fun j hj=>hs j om
 clear hs hi hb
 refine Qh (fun i:Nat=>[(2,.c (.aj g2 0)),(3,.c (.aj g3 0)),(106,.c (ir true a.aa)),(107,.c (.int .i64 a.aa.length)),(108,.c (.int .i64 i))]) (fun _=>[(g3,.cells 45 8 (ao (Xo true b))),(g2,.cells 45 8 (ao (Xo true a)))]) (fun i=>i≤a.aa.length∧∀j,j<i→a.aa.getD j bj=b.aa.getD j bj) (fun i=>a.aa.length-i) 0 (zB (oj aq av)) zZ ⟨Lz _,fun j hj=>absurd hj om⟩ ?_
 rintro i ⟨hi,hs⟩
 all_goals try(have Z:=(oj aq av);(repeat' first|refine zV Z ?_|refine zH Z ?_ ?_<;>intro hb|fail);all_goals clear Z)
 ·have hi':=hb
  have jV:i<b.aa.length:=by omega
  have aK:a.aa.getD i bj≠b.aa.getD i bj→decide (a.events=b.events∧a.af=b.af∧a.aa=b.aa)=false:=fun h=>De fun e=>h (by rw [e.2.2])
  have cu:=fun h=>VX (d:=bj) hs h
  have w1:=wg i
  have w2:=wh i
  refine yA (oj aq av) fun g6 aJ=>?_
  refine zA (oj aq (oj av aJ)) ?_
  refine yA (oj aq (oj av aJ)) fun g7 da=>?_
  generalize a.aa.getD i bj=x at*
  generalize b.aa.getD i bj=y at*
  have f1:=Ft x.an y.an (fun j=>⟨XZ (QF w1.2.2.2 qD j).2.1 Af,Lt (QF w1.2.2.2 qD j).2.2.1 Af,Lt (QF w2.2.2.2 qD j).2.2.1 Af⟩) (Lt w1.2.2.1 Af) (Lt w2.2.2.1 Af)
  obtain⟨xn,xt,xg⟩:=x
  obtain⟨yn,yt,yg⟩:=y
  dsimp only at*
  clear w1 w2
  all_goals try(have Z:=(oj aq (oj av (oj aJ da)));(repeat' first|refine zV Z ?_|refine yQ Z f1 ?_|refine zH Z ?_ ?_<;>intro hb|fail);all_goals clear Z)
  all_goals clear f1
  all_goals first
   |(refine yT hC (oj aq (oj av (oj aJ da))) ?_
     exact .one (.c (Qe (aK (by simp_all)).symm)))
   |(refine Qb ⟨i+1,?_⟩
     have fN:=cu (by simp_all)
     and_intros
     all_goals first|rfl|exact .cons _ (.cons _ (.refl _))|exact True.intro|exact fN|omega)
 ·refine yT hC (oj aq av) ?_
  exact .one (.c (Qe (NC ⟨e1,e2,VW bj l3 fun j hj=>hs j om⟩)))
theorem MV (a b:Qz) (ha:K5 a) (cY:K5 b):Fa prog 28 [.agg (Xo true a),.agg (Xo true b)] (.c (.bool (decide (a=b)))):=by
 have f1:=Ss a b ha cY
 have f2:=Ft a.an b.an (fun j=>⟨XZ (QF ha.gt.2 qD j).2.1 Af,Lt (QF ha.gt.2 qD j).2.2.1 Af,Lt (QF cY.gt.2 qD j).2.2.1 Af⟩) (Lt ha.gt.1 Af) (Lt cY.gt.1 Af)
 have a1:a.ae.length≤1099511627776:=Lt ha.gr.1 Af
 have a2:a.ai.length≤1099511627776:=Lt ha.ph.1 Af
 have a3:b.ae.length≤1099511627776:=Lt cY.gr.1 Af
 have a4:b.ai.length≤1099511627776:=Lt cY.ph.1 Af
 have v1:=fun i=>QF ha.gr.2 ux i
 have v2:=fun i=>QF cY.gr.2 ux i
 have v3:=fun i=>QF ha.ph.2 uy i
 have v4:=fun i=>QF cY.ph.2 uy i
 have hE:a.name=b.name→a.top=b.top→(a.events=b.events∧a.af=b.af∧a.aa=b.aa)→a.an=b.an→a.ae=b.ae→a.ai=b.ai→a=b:=by
  rintro q1 q2 ⟨q3,q4,q5⟩ q6 q7 q8
  cases a;cases b
  simp_all
 have n1:a.name≠b.name→decide (a=b)=false:=fun h=>De fun e=>h (by rw [e])
 have n2:a.top≠b.top→decide (a=b)=false:=fun h=>De fun e=>h (by rw [e])
 have n3:¬(a.events=b.events∧a.af=b.af∧a.aa=b.aa)→decide (a=b)=false:=fun h=>De fun e=>h (by rw [e];exact⟨rfl,rfl,rfl⟩)
 have n4:a.an≠b.an→decide (a=b)=false:=fun h=>De fun e=>h (by rw [e])
 have n5:a.ae.length≠b.ae.length→decide (a=b)=false:=fun h=>De fun e=>h (by rw [e])
 have n6:a.ai.length≠b.ai.length→decide (a=b)=false:=fun h=>De fun e=>h (by rw [e])
 have n7:∀i,a.ae.getD i bJ≠b.ae.getD i bJ→decide (a=b)=false:=fun i h=>De fun e=>h (by rw [e])
 have n8:∀i,a.ai.getD i cd≠b.ai.getD i cd→decide (a=b)=false:=fun i h=>De fun e=>h (by rw [e])
 generalize hX:decide (a=b)=X at*
 refine fA func28 fun C hC=>?_
 refine zA o0 ?_
 refine xB fun g2 aq=>?_
 refine zA aq ?_
 refine yB aq fun g3 av=>?_
 all_goals try(have Z:=(oj aq av);(repeat' first|refine zV Z ?_|refine yQ Z f1 ?_|refine yQ Z f2 ?_|refine zH Z ?_ ?_<;>intro hb|fail);all_goals clear Z)
 ·refine yT hC (oj aq av) ?_
  exact .one (.c (Qe (n1 hb).symm))
 ·refine yT hC (oj aq av) ?_
  exact .one (.c (Qe (n2 hb).symm))
 ·refine yT hC (oj aq av) ?_
  exact .one (.c (Qe (n3 fun z=>by simp [z.1,z.2.1,z.2.2] at hb).symm))
 ·refine yT hC (oj aq av) ?_
  exact .one (.c (Qe (n4 (by simpa using hb)).symm))
 ·refine yT hC (oj aq av) ?_
  exact .one (.c (Qe (n5 hb).symm))
 ·refine yT hC (oj aq av) ?_
  exact .one (.c (Qe (n6 hb).symm))
 rename_i q1 q2 q3 q4 q5
 have q6:a.ai.length=b.ai.length:=by simpa using hb
 have q3:a.events=b.events∧a.af=b.af∧a.aa=b.aa:=by simpa using q3
 have q4:a.an=b.an:=by simpa using q4
 clear hb f1 f2 n1 n2 n3 n4 n5 n6
 refine Qh (fun i:Nat=>[(2,.c (.aj g2 0)),(3,.c (.aj g3 0)),(59,.c (fB true a.ae)),(60,.c (.int .i64 a.ae.length)),(61,.c (.int .i64 i))]) (fun _=>[(g3,.cells 45 8 (ao (Xo true b))),(g2,.cells 45 8 (ao (Xo true a)))]) (fun i=>i≤a.ae.length∧∀j,j<i→a.ae.getD j bJ=b.ae.getD j bJ) (fun i=>a.ae.length-i) 0 (zB (oj aq av)) zZ ⟨Lz _,fun j hj=>absurd hj om⟩ ?_
 rintro i ⟨hi,hs⟩
 all_goals try(have Z:=(oj aq av);(repeat' first|refine zV Z ?_|refine zH Z ?_ ?_<;>intro hb|fail);all_goals clear Z)
 ·have hi':=hb
  have jV:i<b.ae.length:=by omega
  have cu:=fun h=>VX (d:=bJ) hs h
  have aK:=n7 i
  have w1:=v1 i
  have w2:=v2 i
  refine yA (oj aq av) fun g6 aJ=>?_
  refine zA (oj aq (oj av aJ)) ?_
  refine yA (oj aq (oj av aJ)) fun g7 da=>?_
  generalize a.ae.getD i bJ=x at*
  generalize b.ae.getD i bJ=y at*
  have f1:=Ib x.members y.members (Lt w1.2.1 Af) (Lt w2.2.1 Af)
  have f2:=Qtf x.ar y.ar (fun j=>XZ (QF w1.2.2.2.2 ZK j) Af) (Lt w1.2.2.2.1 Af) (Lt w2.2.2.2.1 Af)
  obtain⟨xn,xk,xm,xf⟩:=x
  obtain⟨yn,yk,ym,yf⟩:=y
  dsimp only at*
  clear w1 w2
  all_goals try(have Z:=(oj aq (oj av (oj aJ da)));(repeat' first|refine zV Z ?_|refine yQ Z f1 ?_|refine yQ Z f2 ?_|refine zH Z ?_ ?_<;>intro hb|fail);all_goals clear Z)
  all_goals clear f1 f2
  all_goals first
   |(refine yT hC (oj aq (oj av (oj aJ da))) ?_
     exact .one (.c (Qe (aK (by simp_all)).symm)))
   |(refine Qb ⟨i+1,?_⟩
     have fN:=cu (by simp_all)
     and_intros
     all_goals first|rfl|exact .cons _ (.cons _ (.refl _))|exact True.intro|exact fN|omega)
 have q7:a.ae=b.ae:=VW bJ q5 fun j hj=>hs j om
 clear hs hi hb
 refine Qh (fun i:Nat=>[(2,.c (.aj g2 0)),(3,.c (.aj g3 0)),(101,.c (fS true a.ai)),(102,.c (.int .i64 a.ai.length)),(103,.c (.int .i64 i))]) (fun _=>[(g3,.cells 45 8 (ao (Xo true b))),(g2,.cells 45 8 (ao (Xo true a)))]) (fun i=>i≤a.ai.length∧∀j,j<i→a.ai.getD j cd=b.ai.getD j cd) (fun i=>a.ai.length-i) 0 (zB (oj aq av)) zZ ⟨Lz _,fun j hj=>absurd hj om⟩ ?_
 rintro i ⟨hi,hs⟩
 all_goals try(have Z:=(oj aq av);(repeat' first|refine zV Z ?_|refine zH Z ?_ ?_<;>intro hb|fail);all_goals clear Z)
 ·have hi':=hb
  have jV:i<b.ai.length:=by omega
  have cu:=fun h=>VX (d:=cd) hs h
  have aK:=n8 i
  have w1:=v3 i
  have w2:=v4 i
  refine yA (oj aq av) fun g6 aJ=>?_
  refine zA (oj aq (oj av aJ)) ?_
  refine yA (oj aq (oj av aJ)) fun g7 da=>?_
  generalize a.ai.getD i cd=x at*
  generalize b.ai.getD i cd=y at*
  obtain⟨xn,xt,xv⟩:=x
  obtain⟨yn,yt,yv⟩:=y
  dsimp only at*
  have u1:xv.length≤1099511627776:=Lt w1.2.2.1 Af
  have u2:yv.length≤1099511627776:=Lt w2.2.2.1 Af
  all_goals try(have Z:=(oj aq (oj av (oj aJ da)));(repeat' first|refine zV Z ?_|refine zH Z ?_ ?_<;>intro hb|fail);all_goals clear Z)
  ·refine yT hC (oj aq (oj av (oj aJ da))) ?_
   exact .one (.c (Qe (aK (by simp_all)).symm))
  ·refine yT hC (oj aq (oj av (oj aJ da))) ?_
   exact .one (.c (Qe (aK (by simp_all)).symm))
  ·refine yT hC (oj aq (oj av (oj aJ da))) ?_
   exact .one (.c (Qe (aK (fun e=>hb (by rw [(Ke.mk.inj e).2.2]))).symm))
  rename_i r1 r2
  have r3:xv.length=yv.length:=by simpa using hb
  clear hb
  refine Qh (fun k:Nat=>[(2,.c (.aj g2 0)),(3,.c (.aj g3 0)),(10,.c (.aj g7 0)),(101,.c (fS true a.ai)),(102,.c (.int .i64 a.ai.length)),(103,.c (.int .i64 i)),(135,.c (ll true xv)),(136,.c (.int .i64 xv.length)),(137,.c (.int .i64 k))]) (fun _=>[(g7,.cells 112 3 (ao (Wr ⟨yn,yt,yv⟩))),(g3,.cells 45 8 (ao (Xo true b))),(g2,.cells 45 8 (ao (Xo true a)))]) (fun k=>k≤xv.length∧∀j,j<k→xv.getD j bE=yv.getD j bE) (fun k=>xv.length-k) 0 (zB (oj aq (oj av (oj aJ da)))) (by first|exact .refl _|exact .cons _ (.refl _)|exact .cons_cons _ (.cons _ (.refl _))) ⟨Lz _,fun j hj=>absurd hj om⟩ ?_
  rintro k ⟨hk,ht⟩
  all_goals try(have Z:=(oj aq (oj av (oj aJ da)));(repeat' first|refine zV Z ?_|refine zH Z ?_ ?_<;>intro hb|fail);all_goals clear Z)
  ·have dC:=hb
   have pU:k<yv.length:=by omega
   have vJ:=fun h=>VX (d:=bE) ht h
   have cF:xv.getD k bE≠yv.getD k bE→X=false:=fun h=>aK (fun e=>h (by rw [(Ke.mk.inj e).2.2]))
   have w3:=(QF w1.2.2.2 CZ k).2
   refine yA (oj aq (oj av (oj aJ da))) fun g8 eP=>?_
   refine zA (oj aq (oj av (oj aJ (oj da eP)))) ?_
   refine yA (oj aq (oj av (oj aJ (oj da eP)))) fun g9 gI=>?_
   generalize xv.getD k bE=p at*
   generalize yv.getD k bE=q at*
   have f1:=Uz p.p q.p (XZ w3 Af)
   obtain⟨pe,pp⟩:=p
   obtain⟨qe,qp⟩:=q
   dsimp only at*
   all_goals try(have Z:=(oj aq (oj av (oj aJ (oj da (oj eP gI)))));(repeat' first|refine zV Z ?_|refine yQ Z f1 ?_|refine zH Z ?_ ?_<;>intro hb|fail);all_goals clear Z)
   all_goals clear f1
   all_goals first
    |(refine yT hC (oj aq (oj av (oj aJ (oj da (oj eP gI))))) ?_
      exact .one (.c (Qe (cF (by simp_all)).symm)))
    |(refine Qb ⟨k+1,?_⟩
      have ku:=vJ (by simp_all)
      and_intros
      all_goals first|rfl|exact .cons _ (.cons _ (.refl _))|exact True.intro|exact ku|omega)
  ·have r4:xv=yv:=VW bE r3 fun j hj=>ht j om
   refine zA (oj aq (oj av (oj aJ da))) ?_
   refine Qb ⟨i+1,?_⟩
   have fN:=cu (by simp_all)
   and_intros
   all_goals first|rfl|exact .cons _ (.refl _)|exact True.intro|exact fN|omega
 ·have q8:a.ai=b.ai:=VW cd q6 fun j hj=>hs j om
  refine yT hC (oj aq av) ?_
  rw [←hX]
  exact .one (.c (Qe (NC (hE q1 q2 q3 q4 q7 q8))))
end Go.Proofs.YtjegkdadeghpjaaGreatDoor
