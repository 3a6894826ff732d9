/- Parts of one proof, laid by a program. -/
import Derived.Test.YtjegkdadeghpjaaGreatDoorW00
import Derived.Test.YtjegkdadeghpjaaGreatDoorW10a
set_option linter.unusedSimpArgs false
set_option linter.unusedVariables false
set_option maxRecDepth 100000
set_option maxHeartbeats 12800000
namespace Go.Proofs.YtjegkdadeghpjaaGreatDoor
open Go.AI Go.PN Proofs.Tryz
attribute [local irreducible] aw Fa VA Vk Fh YO
set_option pp.maxSteps 40000 in
set_option pp.deepTerms true in
theorem Qn8 (m:Qz) (ho:K5 m) (hP:ez m=0→Ff m) (zH:m.af.length=0) (zP:m.aa.length=0) (zR:m.ae.length=0) (zS:m.ai.length=0):Fa prog 48 [.agg (Xo true m)] (.aF [.c (.str (sB (if ez m≠0 then([],ez m) else OM m).1)),.c (Z7 (if ez m≠0 then([],ez m) else OM m).2)]):=by
 have f1:=B2 m ho
 by_cases hc:ez m=0
 ·rw [iN (fun h=>h hc)]
  rw [hc] at f1
  have e0:Z7 0=.aN:=rfl
  rw [e0] at f1
  have p:=hP hc
  have uY:=B3 hc
  have vz:=QuL ho uY
  have h0l:(Yw [Vr,m.name]).length≤10000000000:=by have a:=LX m 0;have b:=p.len;unfold Jq at a;simp only [La] at a;omega
  have nR:m.ae.length≤1099511627776:=Lt ho.gr.1 Af
  have nS:m.ai.length≤1099511627776:=Lt ho.ph.1 Af
  have nP:m.aa.length≤1099511627776:=Lt ho.pg.1 Af
  have nG:m.an.length≤1099511627776:=Lt ho.gt.1 Af
  have nH:m.af.length≤1099511627776:=Lt ho.hs.1 Af
  have nE:m.events.length≤1099511627776:=Lt ho.ev.1 Af
  refine fA func48 fun C hC=>?_
  refine xG ?_
  refine xB fun g1 ah=>?_
  refine yG ah ?_
  refine yC ah (f1) ?_
  refine yG ah ?_
  refine yN ah ?_
  repeat first|apply fy|apply sw|apply sz|apply jP
  refine Xh (QB.qS (vs:=[.pointer none,.slice none 0 0,.bool false]) kR kR) rfl rfl ?_
  refine yS ah ?_
  refine ZP (t:=31) (v:=.agg [.raw (.pointer none),.raw (.slice none 0 0),.bool false]) (fun S w u h=>by obtain⟨us,e,hL⟩:=h;exact⟨us,e,by match us,hL with|[_,_,_],h=>exact h⟩) rfl ?_
  refine yS ah ?_
  refine yB ah fun g5 aM=>?_
  refine(?_:aw _ _ _ [Yr 172 [.bool false] g5 (.raw (.pointer none)) (JN none 0),(g1,.cells 45 8 (ao (Xo true m)))])
  have J1:=oj ah aM
  refine yG J1 ?_
  refine Qw (xs:=[.const (.string (sB Vr)),.tmp 35]) (cells:=[.str (sB Vr),.str (sB m.name)]) rfl rfl rfl (zE J1) (by refine yS J1 ?_;rfl) rfl om om (by intro z hz;simp only [Lb,Lj,or_false] at hz;rcases hz with rfl|rfl<;>exact⟨rfl,rfl,rfl⟩) rfl fun g36 n_36=> ?_
  refine yS J1 ?_
  refine Qr (Ov false [Vr,m.name] (by rw [←UR];omega)) rfl rfl rfl (by refine yS J1 ?_;exact .c (Nr (n:=2) (ty:=9) (f:=ao [.str (sB Vr),.str (sB m.name)]) (by simp [Qa.get]) rfl (fun q hq=>by match q,hq with|0,_=>rw [X0];rfl|1,_=>rw [X0];rfl))) ?_
  refine Xa (Sl.le_refl _) (Ls _ _) ?_
  refine yS J1 ?_
  refine Qq (hc:=ec 172 [.bool false] g5 (.raw (.pointer none)) none []) (hr:=[(g1,.cells 45 8 (ao (Xo true m)))]) (x6 false g5 _ none [] (Yw [Vr,m.name]) ⟨.inl rfl,fun _=>rfl⟩ (by rw [Lu];omega)) rfl rfl rfl (.refl _) (zL J1) ?_
  rintro _ _ ⟨og,ax,rfl,rfl⟩ _
  refine Qj (List.perm_append_comm (l₂:=[_])) ?_
  rw [show []++Yw [Vr,m.name]++[10]=Jq m 0 from by simp [Jq]] at ax⊢
  refine(?_:aw _ _ _ ((g1,.cells 45 8 (ao (Xo true m)))::ec 172 [.bool (Jr m 0)] g5 (.aj g5 0) og (Jq m 0)))
  refine Xw J1 ?_
  refine Qh (fun z:Nat×Option Nat=>[(1,.c (.aj g1 0)),(5,.c (.aj g5 0)),(40,.c (gS true m.events)),(41,.c (.int .i64 m.events.length)),(42,.c (.int .i64 z.1))]) (fun z=>(g1,.cells 45 8 (ao (Xo true m)))::ec 172 [.bool (Jr m z.1)] g5 (.aj g5 0) z.2 (Jq m z.1)) (fun z=>z.1≤m.events.length∧lx (.aj g5 0) g5 z.2 (Jq m z.1)) (fun z=>m.events.length-z.1) (0,og) (zB J1) zZ ⟨Lz _,ax⟩ ?_
  rintro ⟨j,oX⟩ ⟨hj,oL⟩
  dsimp only at hj oL⊢
  by_cases ba:j<m.events.length
  ·have d1:decide (j<m.events.length)=true:=Dt ba
   have hx:m.events.getD j bn∈m.events:=by rw [Lg,Li ba];exact Le _
   obtain⟨x1,x2,x3,x4,x5⟩:=p.ev _ hx
   generalize hv:m.events.getD j bn=x at*
   all_goals try(have Z:=(oj ah (oj aM (oj d1 hv)));(repeat' first|refine zV Z ?_|refine zH Z ?_ ?_<;>intro hb|fail);all_goals clear Z)
   refine yA (oj ah (oj aM (oj d1 hv))) fun g7 da=>?_
   all_goals try(have Z:=(oj ah (oj aM (oj d1 (oj hv da))));(repeat' first|refine zV Z ?_|refine zH Z ?_ ?_<;>intro hb|fail);all_goals clear Z)
   have hs:=QnE m j ba
   have zw:=S1 m j ba
   rw [hv] at hs zw
   have hb:=LX m (j+1)
   have iE:=p.len
   have hlen:(Jq m (j+1)).length=(Jq m j).length+(Yw (iC x)).length+1:=by rw [hs];simp;omega
   have hlw:(Yw (iC x)).length=(iC x).length+VK (iC x) (iC x).length:=UR _ _
   have he:=Qny (Jr m j) g5 (.aj g5 0) (JN oX (Jq m j).length) x x1 x2 x3 x4 x5 om
   refine Qq (hc:=[Yr 172 [.bool (Jr m j)] g5 (.aj g5 0) (JN oX (Jq m j).length)]) (hr:=(g7,.cells 101 11 (ao (OD x)))::(g1,.cells 45 8 (ao (Xo true m)))::gh oX 5 (Jq m j).length (UU (Jq m j))) he rfl rfl rfl (List.perm_middle (l₁:=[_,_])) (zL (oj ah (oj aM (oj d1 (oj hv da))))) ?_
   rintro _ _ ⟨rfl,rfl⟩ _
   have J2:=oj ah (oj aM (oj d1 (oj hv da)))
   refine yS J2 ?_
   refine Qq (hc:=ec 172 [.bool (Jp (Jr m j) x 4)] g5 (.aj g5 0) oX (Jq m j)) (hr:=[(g7,.cells 101 11 (ao (OD x))),(g1,.cells 45 8 (ao (Xo true m)))]) (x6 _ g5 _ oX (Jq m j) (Yw (iC x)) oL om) rfl rfl rfl (List.Perm.cons _ (List.perm_append_comm (l₁:=[_,_]))) (zL J2) ?_
   rintro _ _ ⟨ej,cj,rfl,rfl⟩ _
   rw [←hs] at cj⊢
   rw [←zw]
   refine Qj (List.perm_append_comm (l₂:=[_,_])) ?_
   refine Xa (Sl.le_refl _) (Ls _ _) ?_
   refine Xw J2 ?_
   exact Qb ⟨(j+1,ej),by dsimp only;omega,(zB J2),zZ,by dsimp only;omega,cj⟩
  have d1:decide (j<m.events.length)=false:=De ba
  obtain rfl:j=m.events.length:=by omega
  rw [show Jq m m.events.length=px m 0 from by simp [px]] at oL⊢
  generalize Jr m m.events.length=oS at*
  all_goals try(have Z:=(oj ah (oj aM d1));(repeat' first|refine zV Z ?_|refine zH Z ?_ ?_<;>intro hb|fail);all_goals clear Z)
  refine Qh (fun z:Nat×Option Nat=>[(1,.c (.aj g1 0)),(5,.c (.aj g5 0)),(53,.c (jb true m.af)),(54,.c (.int .i64 m.af.length)),(55,.c (.int .i64 z.1))]) (fun z=>(g1,.cells 45 8 (ao (Xo true m)))::ec 172 [.bool oS] g5 (.aj g5 0) z.2 (px m z.1)) (fun z=>z.1≤m.af.length∧lx (.aj g5 0) g5 z.2 (px m z.1)) (fun z=>m.af.length-z.1) (0,oX) (zB (oj ah (oj aM d1))) zZ ⟨Lz _,oL⟩ ?_
  rintro ⟨j,og⟩ ⟨hj,ax⟩
  dsimp only at hj ax⊢
  by_cases ba:j<m.af.length
  ·exfalso;omega
  have d1:decide (j<m.af.length)=false:=De ba
  obtain rfl:j=m.af.length:=by omega
  rw [show px m m.af.length=US m 0 from by simp [US]] at ax⊢
  rw [show oS=KM oS m.an 0 from by simp [KM]]
  all_goals try(have Z:=(oj ah (oj aM (oj d1 d1)));(repeat' first|refine zV Z ?_|refine zH Z ?_ ?_<;>intro hb|fail);all_goals clear Z)
  refine Qh (fun z:Nat×Option Nat=>[(1,.c (.aj g1 0)),(5,.c (.aj g5 0)),(70,.c (ca true m.an)),(71,.c (.int .i64 m.an.length)),(72,.c (.int .i64 z.1))]) (fun z=>(g1,.cells 45 8 (ao (Xo true m)))::ec 172 [.bool (KM oS m.an z.1)] g5 (.aj g5 0) z.2 (US m z.1)) (fun z=>z.1≤m.an.length∧lx (.aj g5 0) g5 z.2 (US m z.1)) (fun z=>m.an.length-z.1) (0,og) (zB (oj ah (oj aM (oj d1 d1)))) zZ ⟨Lz _,ax⟩ ?_
  rintro ⟨j,og⟩ ⟨hj,ax⟩
  dsimp only at hj ax⊢
  by_cases ba:j<m.an.length
  ·have d1:decide (j<m.an.length)=true:=Dt ba
   have hx:m.an.getD j aU∈m.an:=by rw [Lg,Li ba];exact Le _
   obtain⟨x1,x2,x3,x4⟩:=p.gt _ hx
   have hs:=QnD m j ba
   have zw:=SZ oS m.an j ba
   have cY:=QsW m (j+1)
   have iE:=p.len
   generalize hv:m.an.getD j aU=x at*
   have hlen:(US m (j+1)).length=(US m j).length+(ZZ x).length+1:=by rw [hs];simp only [La,Lc,Lu]
   have hlw:(ZZ x).length=(Zo x).length+VK (Zo x) (Zo x).length:=UR _ _
   have he:=Qqe (KM oS m.an j) g5 (.aj g5 0) (JN og (US m j).length) x x1 x2 x3 x4 om
   all_goals try(have Z:=(oj ah (oj aM (oj d1 (oj d1 (oj d1 hv)))));(repeat' first|refine zV Z ?_|refine zH Z ?_ ?_<;>intro hb|fail);all_goals clear Z)
   refine yA (oj ah (oj aM (oj d1 (oj d1 (oj d1 hv))))) fun g12 fq=>?_
   all_goals try(have Z:=(oj ah (oj aM (oj d1 (oj d1 (oj d1 (oj hv fq))))));(repeat' first|refine zV Z ?_|refine zH Z ?_ ?_<;>intro hb|fail);all_goals clear Z)
   refine Qq (hc:=[Yr 172 [.bool (KM oS m.an j)] g5 (.aj g5 0) (JN og (US m j).length)]) (hr:=(g12,.cells 71 7 (ao (Zi x)))::(g1,.cells 45 8 (ao (Xo true m)))::gh og 5 (US m j).length (UU (US m j))) he rfl rfl rfl (List.perm_middle (l₁:=[_,_])) (zL (oj ah (oj aM (oj d1 (oj d1 (oj d1 (oj hv fq))))))) ?_
   rintro _ _ ⟨rfl,rfl⟩ _
   rw [←zw]
   have J3:=oj ah (oj aM (oj d1 (oj d1 (oj d1 (oj hv fq)))))
   refine yS J3 ?_
   refine Qq (hc:=ec 172 [.bool (KM oS m.an (j+1))] g5 (.aj g5 0) og (US m j)) (hr:=[(g12,.cells 71 7 (ao (Zi x))),(g1,.cells 45 8 (ao (Xo true m)))]) (x6 _ g5 _ og (US m j) (ZZ x) ax om) rfl rfl rfl (List.Perm.cons _ (List.perm_append_comm (l₁:=[_,_]))) (zL J3) ?_
   rintro _ _ ⟨ej,cj,rfl,rfl⟩ _
   rw [←hs] at cj⊢
   refine Qj (List.perm_append_comm (l₂:=[_,_])) ?_
   refine Xa (Sl.le_refl _) (Ls _ _) ?_
   refine Xw J3 ?_
   exact Qb ⟨(j+1,ej),by dsimp only;omega,(zB J3),zZ,by dsimp only;omega,cj⟩
  have d1:decide (j<m.an.length)=false:=De ba
  obtain rfl:j=m.an.length:=by omega
  rw [show US m m.an.length=qK m 0 from by simp [qK]] at ax⊢
  generalize KM oS m.an m.an.length=zT at*
  rw [show zT=sH zT m.aa 0 from by simp [sH]]
  all_goals try(have Z:=(oj ah (oj aM (oj d1 (oj d1 d1))));(repeat' first|refine zV Z ?_|refine zH Z ?_ ?_<;>intro hb|fail);all_goals clear Z)
  refine Qh (fun z:Nat×Option Nat=>[(1,.c (.aj g1 0)),(5,.c (.aj g5 0)),(83,.c (ir true m.aa)),(84,.c (.int .i64 m.aa.length)),(85,.c (.int .i64 z.1))]) (fun z=>(g1,.cells 45 8 (ao (Xo true m)))::ec 172 [.bool (sH zT m.aa z.1)] g5 (.aj g5 0) z.2 (qK m z.1)) (fun z=>z.1≤m.aa.length∧lx (.aj g5 0) g5 z.2 (qK m z.1)) (fun z=>m.aa.length-z.1) (0,og) (zB (oj ah (oj aM (oj d1 (oj d1 d1))))) zZ ⟨Lz _,ax⟩ ?_
  rintro ⟨j,og⟩ ⟨hj,ax⟩
  dsimp only at hj ax⊢
  by_cases ba:j<m.aa.length
  ·exfalso;omega
  have d1:decide (j<m.aa.length)=false:=De ba
  obtain rfl:j=m.aa.length:=by omega
  rw [show qK m m.aa.length=qL m 0 from by simp [qL]] at ax⊢
  generalize sH zT m.aa m.aa.length=zU at*
  rw [show zU=sI zU m.ae 0 from by simp [sI]]
  all_goals try(have Z:=(oj ah (oj aM (oj d1 (oj d1 (oj d1 d1)))));(repeat' first|refine zV Z ?_|refine zH Z ?_ ?_<;>intro hb|fail);all_goals clear Z)
  refine Qh (fun z:Nat×Option Nat=>[(1,.c (.aj g1 0)),(5,.c (.aj g5 0)),(117,.c (fB true m.ae)),(118,.c (.int .i64 m.ae.length)),(119,.c (.int .i64 z.1))]) (fun z=>(g1,.cells 45 8 (ao (Xo true m)))::ec 172 [.bool (sI zU m.ae z.1)] g5 (.aj g5 0) z.2 (qL m z.1)) (fun z=>z.1≤m.ae.length∧lx (.aj g5 0) g5 z.2 (qL m z.1)) (fun z=>m.ae.length-z.1) (0,og) (zB (oj ah (oj aM (oj d1 (oj d1 (oj d1 d1)))))) zZ ⟨Lz _,ax⟩ ?_
  rintro ⟨j,og⟩ ⟨hj,ax⟩
  dsimp only at hj ax⊢
  by_cases ba:j<m.ae.length
  ·exfalso;omega
  ·have d1:decide (j<m.ae.length)=false:=De ba
   obtain rfl:j=m.ae.length:=by omega
   rw [show qL m m.ae.length=oh m 0 from by simp [oh]] at ax⊢
   generalize sI zU m.ae m.ae.length=zX at*
   rw [show zX=sF zX m.ai 0 from by simp [sF]]
   all_goals try(have Z:=(oj ah (oj aM (oj d1 (oj d1 (oj d1 (oj d1 d1))))));(repeat' first|refine zV Z ?_|refine zH Z ?_ ?_<;>intro hb|fail);all_goals clear Z)
   refine Qh (fun z:Nat×Option Nat=>[(1,.c (.aj g1 0)),(5,.c (.aj g5 0)),(156,.c (fS true m.ai)),(157,.c (.int .i64 m.ai.length)),(158,.c (.int .i64 z.1))]) (fun z=>(g1,.cells 45 8 (ao (Xo true m)))::ec 172 [.bool (sF zX m.ai z.1)] g5 (.aj g5 0) z.2 (oh m z.1)) (fun z=>z.1≤m.ai.length∧lx (.aj g5 0) g5 z.2 (oh m z.1)) (fun z=>m.ai.length-z.1) (0,og) (zB (oj ah (oj aM (oj d1 (oj d1 (oj d1 (oj d1 d1))))))) zZ ⟨Lz _,ax⟩ ?_
   rintro ⟨j,og⟩ ⟨hj,ax⟩
   dsimp only at hj ax⊢
   by_cases ba:j<m.ai.length
   ·exfalso;omega
   ·have d1:decide (j<m.ai.length)=false:=De ba
    obtain rfl:j=m.ai.length:=by omega
    have jE:=Qqk m
    have iE:=p.len
    have hbe:(oh m m.ai.length).length+(Yw [Y2,m.top]).length+1≤10000000000:=by rw [←jE] at iE;simp only [La,Lc,Lu] at iE⊢;omega
    all_goals try(have Z:=(oj ah (oj aM (oj d1 (oj d1 (oj d1 (oj d1 (oj d1 d1)))))));(repeat' first|refine zV Z ?_|refine zH Z ?_ ?_<;>intro hb|fail);all_goals clear Z)
    refine Qw (xs:=[.const (.string (sB Y2)),.tmp 196]) (cells:=[.str (sB Y2),.str (sB m.top)]) rfl rfl rfl (zE (oj ah (oj aM (oj d1 (oj d1 (oj d1 (oj d1 (oj d1 d1)))))))) (by refine yS (oj ah (oj aM (oj d1 (oj d1 (oj d1 (oj d1 (oj d1 d1))))))) ?_;rfl) rfl om om (by intro z hz;simp only [Lb,Lj,or_false] at hz;rcases hz with rfl|rfl<;>exact⟨rfl,rfl,rfl⟩) rfl fun g197 Rx=> ?_
    have J4:=oj ah (oj aM (oj d1 (oj d1 (oj d1 (oj d1 (oj d1 d1))))))
    refine yS J4 ?_
    refine Qr (Ov false [Y2,m.top] (by rw [←UR];omega)) rfl rfl rfl (by refine yS J4 ?_;exact .c (Nr (n:=2) (ty:=9) (f:=ao [.str (sB Y2),.str (sB m.top)]) (by simp [Qa.get]) rfl (fun q hq=>by match q,hq with|0,_=>rw [X0];rfl|1,_=>rw [X0];rfl))) ?_
    refine Xa (Sl.le_refl _) (.cons _ (.cons _ (Lr _))) ?_
    refine yS J4 ?_
    refine Qq (hc:=ec 172 [.bool (sF zX m.ai m.ai.length)] g5 (.aj g5 0) og (oh m m.ai.length)) (hr:=[]) (x6 _ g5 _ og (oh m m.ai.length) (Yw [Y2,m.top]) ax om) rfl rfl rfl (by rw [Lp]) (zL J4) ?_
    rintro _ _ ⟨ej,cj,rfl,rfl⟩ _
    rw [jE] at cj⊢
    rw [Lp]
    rw [vz]
    have lO:ej=none→ZL m=[]:=fun e=>Lh.1 (cj.2 e)
    by_cases hL:sQ m=true
    ·have hR:OM m=([],4):=by unfold OM;rw [iP (.inl hL)]
     rw [hR,hL]
     all_goals repeat' first|refine zV J4 ?_|refine zH J4 ?_ ?_<;>intro hb|fail
     refine yT hC J4 ?_
     exact .aF ⟨.c (.str _),.c (Uy rfl om),trivial⟩
    ·have Pu:sQ m=false:=by simpa using hL
     rw [Pu]
     all_goals repeat' first|refine zV J4 ?_|refine zH J4 ?_ ?_<;>intro hb|fail
     refine Qq (hc:=ec 172 [.bool false] g5 (.aj g5 0) ej (ZL m)) (hr:=[]) (QsH g5 _ ej (ZL m) cj.2) rfl rfl rfl (by rw [Lp]) (zL J4) ?_
     rintro _ _ ⟨rfl,rfl⟩ _
     rw [Lp]
     refine yS J4 ?_
     by_cases hl:(ZL m).length>65536
     ·have hR:OM m=([],4):=by unfold OM;rw [iP (.inr hl)]
      have d3:decide (((ZL m).length:Int)>65536)=true:=Dt om
      rw [hR]
      all_goals try(have Z:=(oj ah (oj aM (oj d1 (oj d1 (oj d1 (oj d1 (oj d1 (oj d1 d3))))))));(repeat' first|refine zV Z ?_|refine zH Z ?_ ?_<;>intro hb|fail);all_goals clear Z)
      refine yT hC (oj ah (oj aM (oj d1 (oj d1 (oj d1 (oj d1 (oj d1 (oj d1 d3)))))))) ?_
      exact .aF ⟨.c (.str _),.c (Uy rfl om),trivial⟩
     ·have hR:OM m=(ZL m,0):=by unfold OM;rw [iN (by rw [Pu];simpa using hl)]
      have d3:decide (((ZL m).length:Int)>65536)=false:=De om
      rw [hR]
      all_goals try(have Z:=(oj ah (oj aM (oj d1 (oj d1 (oj d1 (oj d1 (oj d1 (oj d1 d3))))))));(repeat' first|refine zV Z ?_|refine zH Z ?_ ?_<;>intro hb|fail);all_goals clear Z)
      have aK:ZL m≠[]:=by unfold ZL Yw;simp
      refine Qq (hc:=ec 172 [.bool false] g5 (.aj g5 0) ej (ZL m)) (hr:=[]) (Ie g5 _ ej (ZL m) lO (fun e=>absurd e aK) om) rfl rfl rfl (by rw [Lp]) (zL (oj ah (oj aM (oj d1 (oj d1 (oj d1 (oj d1 (oj d1 (oj d1 d3))))))))) ?_
      rintro _ _ ⟨rfl,rfl⟩ _
      have J5:=oj ah (oj aM (oj d1 (oj d1 (oj d1 (oj d1 (oj d1 (oj d1 d3)))))))
      refine yS J5 ?_
      all_goals repeat' first|refine zV J5 ?_|refine zH J5 ?_ ?_<;>intro hb|fail
      refine yT hC J5 ?_
      exact .aF ⟨.c (.str _),.c (ZF rfl),trivial⟩
 ·rw [iP hc]
  have dv:(!decide (ez m=0))=true:=by rw [De hc];rfl
  refine fA func48 fun C hC=>?_
  refine xG ?_
  refine xB fun g1 ah=>?_
  all_goals try(have Z:=(oj ah dv);(repeat' first|refine zV Z ?_|refine yQ Z f1 ?_|refine zH Z ?_ ?_<;>intro hb|fail);all_goals clear Z)
  refine yT hC (oj ah dv) ?_
  exact .aF ⟨.c (.str _),.c ZT,trivial⟩
end Go.Proofs.YtjegkdadeghpjaaGreatDoor
namespace Go.PN
open Go.AI
theorem xw:ez cH=0:=by decide+kernel
theorem H9:U9 ez qH=(cH,0):=by
 have h1:(XL qH).1=0:=by decide+kernel
 have h2:(OJ ⟨(XL qH).2,0⟩).1=cH:=by decide+kernel
 have h3:(OJ ⟨(XL qH).2,0⟩).2.e=0:=by decide+kernel
 unfold U9
 dsimp only
 rw [iN (fun h=>h h1),iN (fun h=>h h3),h2,iN (fun h=>h xw)]
theorem x9 (w:BS):Ws w aW=[]:=by
 have:YZ aW.q=0:=by decide+kernel
 unfold Ws
 rw [iP this]
theorem QxF:rd ((0:Int):Rat)=aW:=by decide+kernel
theorem Ia:OM cH=(jx,0)∧ZL cH=jx:=by
 have hl:sQ cH=false:=by
  show((XG aW||XG aW||XG aW)||((XG aW||XG aW||XG aW)||false)||(XG aW||false)||false||false||false)=false
  rw [CR];rfl
 have ht:ZL cH=jx:=by
  unfold ZL
  show Yw [Vr,[109]]++10::((Yw (iC ⟨[98],aW,aW,aW,0⟩)++[10]++(Yw (iC ⟨[97],aW,aW,aW,0⟩)++[10]++[]))++([]++(([]++ZZ ⟨[103],0,0,[[98],[97]],aW⟩++[10]++[])++([]++([]++([]++(Yw [Y2,[103]]++[10])))))))=jx
  unfold iC
  dsimp only
  rw [x9,x9,x9,QxF,x9]
  rfl
 refine⟨?_,ht⟩
 unfold OM
 rw [iN (by rw [hl,ht];decide),ht]
theorem Qte:Ff cH where
 ev:=fun x hx=>by
  have hx:x=⟨[98],aW,aW,aW,0⟩∨x=⟨[97],aW,aW,aW,0⟩:=by simpa [cH] using hx
  have hr:=RD.wf.mono ZK (show 1000≤100000 by decide)
  rcases hx with rfl|rfl<;>exact⟨hr,hr,hr,by decide,by decide⟩
 gt:=fun x hx=>by
  have hx:x=⟨[103],0,0,[[98],[97]],aW⟩:=by simpa [cH] using hx
  subst hx
  exact⟨by decide,by decide,fun h=>absurd h Af,RD.wf.mono ZK (show 1000≤100000 by decide)⟩
 pg:=fun _ h=>by cases h
 gr:=fun _ h=>by cases h
 gk:=fun _ h=>by cases h
 ph:=fun _ h=>by cases h
 len:=by rw [Ia.2];decide
theorem QqK:OO cH=Qwe:=by decide+kernel
end Go.PN
