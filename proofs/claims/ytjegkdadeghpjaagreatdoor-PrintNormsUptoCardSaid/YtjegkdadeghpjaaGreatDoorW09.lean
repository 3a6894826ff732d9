/- Parts of one proof, laid by a program. -/
import Derived.Test.YtjegkdadeghpjaaGreatDoorW00
import Derived.Test.YtjegkdadeghpjaaGreatDoorW08
set_option linter.unusedSimpArgs false
set_option linter.unusedVariables false
set_option maxRecDepth 100000
set_option maxHeartbeats 12800000
namespace Go.PN
open Go.AI
structure Aq (m:Qz):Prop where
 ev:∀x∈m.events,x.p.wf 1000∧x.fail.wf 1000∧x.rep.wf 1000
 gt:∀g∈m.an,tS g
 uU:m.an.length≤64
 pg:∀p∈m.aa,p.an.length≤64∧∀g∈p.an,tS g
 gr:∀x∈m.ae,x.members.length≤24∧x.ar.length≤24∧∀r∈x.ar,r.wf 1000
 ph:∀x∈m.ai,x.values.length≤24∧∀v∈x.values,v.p.wf 1000
abbrev gG (m:Qz) (e h g p r s:CV):List CV:=[.str (sB m.name),.str (sB m.top),e,h,g,p,r,s]
theorem Ay {α:Type} (l:List α) (d:α) {j:Nat} (hj:j<l.length):l.take (j+1)=l.take j++[l.getD j d]:=by
 rw [List.take_add_one,Li hj,Lg,Li hj];rfl
end Go.PN
namespace Go.Proofs.YtjegkdadeghpjaaGreatDoor
open Go.AI Go.PN Proofs.Tryz
abbrev mZ (g:Nat):Nat×XS:=(g,.cells 45 8 (ao [.str {data:= #[]},.str {data:= #[]},.ab,.ab,.ab,.ab,.ab,.ab]))
abbrev mM (g:Nat) (m:Qz):Nat×XS:=(g,.cells 45 8 (ao (Xo true m)))
abbrev mD (g:Nat) (m:Qz) (a b c d e f:CV):Nat×XS:=(g,.cells 45 8 (ao (gG m a b c d e f)))
attribute [local irreducible] aw Fa VA Vk Fh YO
theorem QnX (m:Qz) (hg:Go.PN.Good m) (hs:Aq m) (f1:Fa prog 56 [.agg (Xo true m)] (.c .aN)):Fa prog 27 [.agg (Xo true m)] (.aF [.agg (Xo true (OO m)),.c .aN]):=by
 have nE:m.events.length≤1099511627776:=Lt hg.uM Af
 have nH:m.af.length≤1099511627776:=Lt hg.cq Af
 have nP:m.aa.length≤1099511627776:=Lt hg.Ak Af
 have nR:m.ae.length≤1099511627776:=Lt hg.y9 Af
 have nS:m.ai.length≤1099511627776:=Lt hg.Am Af
 have hlg:=hs.uU
 have nH2:m.af.length≤16:=hg.cq
 have f2:=G8 m.an hs.gt om hg.gt.1
 obtain⟨RG,oy⟩:∃c:CV,c=ca true (JQ m.an):=⟨_,rfl⟩
 rw [←oy] at f2
 obtain⟨RE,uZ⟩:∃c:CV,c=.row true 11 m.events.length (Zu (Ql X7.name m.events)):=⟨_,rfl⟩
 obtain⟨RH,u0⟩:∃c:CV,c=.row true 2 m.af.length (Zv (Ql Vq.name m.af)):=⟨_,rfl⟩
 obtain⟨RP,u5⟩:∃c:CV,c=.row true 3 m.aa.length (V0 (Ql YT.name (m.aa.map bu))):=⟨_,rfl⟩
 obtain⟨RR,u6⟩:∃c:CV,c=.row true 4 m.ae.length (Vs (Ql YU.name (m.ae.map bB))):=⟨_,rfl⟩
 obtain⟨RS,u7⟩:∃c:CV,c=.row true 3 m.ai.length (V1 (m.ai.map bz)):=⟨_,rfl⟩
 have cq:(Ql Vq.name m.af).length=m.af.length:=(QW _ _).length_eq
 have vj:(Ql X7.name m.events).length=m.events.length:=(QW _ _).length_eq
 refine fA func27 fun C hC=>?_
 refine xG ?_
 refine xB fun g1 ah=>?_
 refine yA ah fun g2 aq=>?_
 refine Zg (oj ah aq) f1 ?_
 refine Ym (fun z:Nat×Option Nat=>[(1,.c (.aj g1 0)),(2,.c (.aj g2 0)),(3,.c .aN),(5,.c (.aj z.1 0))]) (fun z=>mD z.1 m .ab (gs z.2 2 m.af.length) RG .ab .ab .ab::mZ g2::mM g1 m::gh z.2 103 (m.af.length*2) (Zv m.af)) (fun z=>(z.2=none→m.af.length=0)) ?_ ?_
 ·refine Nu Qg ?_
  refine L0 6 11 Af ?_ ?_
  ·refine x8 [mM g1 m] [(0,0),(1,0),(2,0),(3,0),(4,0),(5,0),(7,0),(8,0),(6,1),(9,0),(10,0),(11,1),(12,2)] kR qa ?_
   have J1:=oj ah aq
   refine yG J1 ?_
   refine Ur (hc:=[]) (hr:=[mZ g2,mM g1 m]) rfl (G7 m.af om) rfl rfl rfl (.refl _) (zL J1) (fun _ _ hq=>by obtain⟨og,_,_,rfl⟩:=hq;exact Qm (by simp) Qf) ?_ (hm:=.inr ⟨rfl,rfl⟩)
   rintro _ _ ⟨og,ax,rfl,rfl⟩ _
   refine Xw J1 ?_
   refine X9 rfl f2 rfl rfl rfl (fun _ _=>(zL J1)) ?_
   refine Xw J1 ?_
   refine Z1 (r:=.agg (gG m .ab (gs og 2 m.af.length) RG .ab .ab .ab)) rfl (fun _ _=>Um (ps:=[(0,.tmp 27),(1,.tmp 29),(3,.tmp 32),(4,.tmp 35)]) (zE J1) (by subst oy;cases og<;>rfl)) rfl rfl ?_
   refine Xw J1 ?_
   refine WP rfl rfl rfl rfl (zE J1) qa (fun g5 aM=> ?_) (hm:=.inr ⟨rfl,rfl⟩)
   refine Xw J1 ?_
   refine Xc (FP':=[]) rfl rfl rfl rfl rfl (zE J1) (zE J1) (zE J1) (zE J1) (fun _ e=>by cases e) (by subst oy;cases og<;>rfl) rfl (Ac 8) rfl Qf ?_
   refine Xw J1 ?_
   refine Qj (h':=mD g5 m .ab (gs og 2 m.af.length) RG .ab .ab .ab::mZ g2::mM g1 m::gh og 103 (m.af.length*2) (Zv m.af)) (.cons _ List.perm_append_comm) ?_
   exact Qb ⟨(g5,og),(zB J1),zZ,ax⟩
  ·refine x8 [mM g1 m] [(0,0),(1,0),(2,0),(3,0),(4,0),(5,0),(7,0),(8,0),(11,1),(6,1),(9,0),(10,0),(12,2)] kR qa ?_
   have J2:=oj ah aq
   refine yG J2 ?_
   refine WP rfl rfl rfl rfl (zE J2) qa (fun g5 aM=> ?_) (hm:=.inr ⟨rfl,rfl⟩)
   refine Xw J2 ?_
   refine Ur (hc:=[]) (hr:=[mZ g5,mZ g2,mM g1 m]) rfl (G7 m.af om) rfl rfl rfl (.refl _) (zL J2) (fun _ _ hq=>by obtain⟨og,_,_,rfl⟩:=hq;exact Qm (by simp) Qf) ?_ (hm:=.inr ⟨rfl,rfl⟩)
   rintro _ _ ⟨og,ax,rfl,rfl⟩ _
   refine B5 (h':=mZ g5::(gh og 103 (m.af.length*2) (Zv m.af)++[mZ g2,mM g1 m])) List.perm_middle ?_
   refine Xw J2 ?_
   refine X9 rfl f2 rfl rfl rfl (fun _ _=>(zL J2)) ?_
   refine Xw J2 ?_
   refine Z1 (r:=.agg (gG m .ab (gs og 2 m.af.length) RG .ab .ab .ab)) rfl (fun _ _=>Um (ps:=[(0,.tmp 27),(1,.tmp 29),(3,.tmp 32),(4,.tmp 35)]) (zE J2) (by subst oy;cases og<;>rfl)) rfl rfl ?_
   refine Xw J2 ?_
   refine Xc (FP':=[]) rfl rfl rfl rfl rfl (zE J2) (zE J2) (zE J2) (zE J2) (fun _ e=>by cases e) (by subst oy;cases og<;>rfl) rfl (Ac 8) rfl Qf ?_
   refine Xw J2 ?_
   refine Qj (h':=mD g5 m .ab (gs og 2 m.af.length) RG .ab .ab .ab::mZ g2::mM g1 m::gh og 103 (m.af.length*2) (Zv m.af)) (.cons _ List.perm_append_comm) ?_
   exact Qb ⟨(g5,og),(zB J2),zZ,ax⟩
 ·rintro ⟨g5,og⟩ ax
  dsimp only at ax⊢
  refine YY fun bf=> ?_
  have q1:g5≠g2:=fun e=>by subst e;simp [Qa.keys] at bf
  have q2:g5≠g1:=fun e=>by subst e;simp [Qa.keys] at bf
  clear bf
  have a1:=eq_false q1
  have a2:=eq_false q1.symm
  have a3:=eq_false q2
  have a4:=eq_false q2.symm
  refine zA (oj ah (oj aq (oj a1 (oj a2 (oj a3 a4))))) ?_
  refine Qq (hc:=gh og 103 (m.af.length*2) (Zv m.af)) (hr:=[mD g5 m .ab (gs og 2 m.af.length) RG .ab .ab .ab,mZ g2,mM g1 m]) (Qqm og m.af ax hg.jL om) rfl rfl rfl (List.perm_append_comm (l₁:=[_,_,_])) (zL (oj ah (oj aq (oj a1 (oj a2 (oj a3 a4)))))) ?_
  rintro _ _ ⟨rfl,rfl⟩ _
  refine Qj (h':=mD g5 m .ab (gs og 2 m.af.length) RG .ab .ab .ab::(gh og 103 (m.af.length*2) (Zv (Ql Vq.name m.af))++[mZ g2,mM g1 m])) List.perm_middle ?_
  refine Q7 (j0:=3) (m:=8) (f:=(ao (gG m .ab (gs og 2 m.af.length) RG .ab .ab .ab))) (f':=(ao (gG m .ab RH RG .ab .ab .ab))) (fp:=Zv (Ql Vq.name m.af)) rfl u0 (fun i hi h3=>by match i,hi,h3 with|0,_,_=>rfl|1,_,_=>rfl|2,_,_=>rfl|3,_,h=>exact absurd rfl h|4,_,_=>rfl|5,_,_=>rfl|6,_,_=>rfl|7,_,_=>rfl) ax (fun g _=>hC g) ?_
  have J3:=oj ah (oj aq (oj a1 (oj a2 (oj a3 a4))))
  refine yS J3 ?_
  refine zA J3 ?_
  refine Qh (fun z:Nat×Option Nat=>[(1,.c (.aj g1 0)),(2,.c (.aj g2 0)),(3,.c .aN),(5,.c (.aj g5 0)),(41,.c (gS true m.events)),(42,.c (.int .i64 m.events.length)),(43,.c (.int .i64 z.1))]) (fun z=>mD g5 m (gs z.2 11 z.1) RH RG .ab .ab .ab::mZ g2::mM g1 m::gh z.2 101 (z.1*11) (Zu (m.events.take z.1))) (fun z=>z.1≤m.events.length∧(z.2=none→z.1=0)) (fun z=>m.events.length-z.1) (0,none) (zB J3) zZ ⟨Lz _,fun _=>rfl⟩ ?_
  rintro ⟨j,og⟩ ⟨hj,ax⟩
  dsimp only at hj ax⊢
  by_cases ba:j<m.events.length
  ·have d1:decide (j<m.events.length)=true:=Dt ba
   have hx:=hs.ev (m.events.getD j bn) (by rw [Lg,Li ba];exact Le _)
   have hT:=Ay m.events bn ba
   have dE:(m.events.take j).length=j:=by rw [List.length_take];omega
   have hevl:=hg.uM
   generalize hv:m.events.getD j bn=x at*
   have c1:=K9 _ hx.1
   have c2:=K9 _ hx.2.1
   have c3:=K9 _ hx.2.2
   refine zA (oj ah (oj aq (oj a1 (oj a2 (oj a3 (oj a4 (oj d1 hv))))))) ?_
   refine yA (oj ah (oj aq (oj a1 (oj a2 (oj a3 (oj a4 (oj d1 hv))))))) fun g7 da=>?_
   refine zA (oj ah (oj aq (oj a1 (oj a2 (oj a3 (oj a4 (oj d1 (oj hv da)))))))) ?_
   refine Yl [(g7,.cells 101 11 (ao (OD x)))] [(0,0),(1,0),(2,0),(3,0),(4,0),(5,0),(6,0),(7,0),(8,0),(9,0),(10,2),(11,0),(12,2),(13,0),(14,2)] Qg kR qa ?_
   have J4:=oj ah (oj aq (oj a1 (oj a2 (oj a3 (oj a4 (oj d1 (oj hv da)))))))
   refine yG J4 ?_
   refine X9 rfl c1 rfl rfl rfl (fun _ _=>(zL J4)) ?_
   refine Xw J4 ?_
   refine X9 rfl c2 rfl rfl rfl (fun _ _=>(zL J4)) ?_
   refine Xw J4 ?_
   refine X9 rfl c3 rfl rfl rfl (fun _ _=>(zL J4)) ?_
   refine Xw J4 ?_
   refine Xc (FP':=[]) rfl rfl rfl rfl rfl (zE J4) (zE J4) (zE J4) (zE J4) (fun _ e=>by cases e) rfl rfl (show 4≤11 from by omega) rfl Qf ?_
   refine Xw J4 ?_
   refine Xc (FP':=[]) rfl rfl rfl rfl rfl (zE J4) (zE J4) (zE J4) (zE J4) (fun _ e=>by cases e) rfl rfl (show 7≤11 from by omega) rfl Qf ?_
   refine Xw J4 ?_
   refine Xc (FP':=[]) rfl rfl rfl rfl rfl (zE J4) (zE J4) (zE J4) (zE J4) (fun _ e=>by cases e) rfl rfl (show 10≤11 from by omega) rfl Qf ?_
   refine Xw J4 ?_
   refine zA J4 ?_
   refine QT (pre:=[(g7,.cells 101 11 (ao (OD x))),mD g5 m (gs og 11 j) RH RG .ab .ab .ab,mZ g2,mM g1 m]) rfl rfl rfl rfl rfl rfl rfl (zE J4) (zE J4) (by rfl) om om (zE J4) om (by exact ax) (zE J4) (by rfl) (by rfl) qb qc om (by exact Bz dE x) fun gq bh=> ?_
   replace bh:=Qa.ay bh
   first|dsimp only [Qa.ne,gh] at bh|dsimp only [Qa.ne] at bh|skip
   have J5:=oj ah (oj aq (oj a1 (oj a2 (oj a3 (oj a4 (oj d1 (oj hv (oj da bh))))))))
   refine yS J5 ?_
   rw [←hT]
   refine zA J5 ?_
   exact Qb ⟨(j+1,some gq),by dsimp only;omega,(zB J5),Ls _ _,by dsimp only;omega,fun e=>by cases e⟩
  ·have d1:decide (j<m.events.length)=false:=De ba
   obtain rfl:j=m.events.length:=by omega
   rw [Ly (Ac m.events.length)]
   refine zA (oj ah (oj aq (oj a1 (oj a2 (oj a3 (oj a4 d1)))))) ?_
   refine Qq (hc:=gh og 101 (m.events.length*11) (Zu m.events)) (hr:=[mD g5 m (gs og 11 m.events.length) RH RG .ab .ab .ab,mZ g2,mM g1 m]) (Qqn og m.events ax hg.Pe om) rfl rfl rfl (List.perm_append_comm (l₁:=[_,_,_])) (zL (oj ah (oj aq (oj a1 (oj a2 (oj a3 (oj a4 d1))))))) ?_
   rintro _ _ ⟨rfl,rfl⟩ _
   refine Qj (h':=mD g5 m (gs og 11 m.events.length) RH RG .ab .ab .ab::(gh og 101 (m.events.length*11) (Zu (Ql X7.name m.events))++[mZ g2,mM g1 m])) List.perm_middle ?_
   refine Q7 (j0:=2) (m:=8) (f:=(ao (gG m (gs og 11 m.events.length) RH RG .ab .ab .ab))) (f':=(ao (gG m RE RH RG .ab .ab .ab))) (fp:=Zu (Ql X7.name m.events)) rfl uZ (fun i hi h3=>by match i,hi,h3 with|0,_,_=>rfl|1,_,_=>rfl|2,_,h=>exact absurd rfl h|3,_,_=>rfl|4,_,_=>rfl|5,_,_=>rfl|6,_,_=>rfl|7,_,_=>rfl) ax (fun g _=>hC g) ?_
   have J6:=oj ah (oj aq (oj a1 (oj a2 (oj a3 (oj a4 d1)))))
   refine yS J6 ?_
   refine zA J6 ?_
   refine Qh (fun z:Nat×Option Nat=>[(1,.c (.aj g1 0)),(2,.c (.aj g2 0)),(3,.c .aN),(5,.c (.aj g5 0)),(70,.c (ir true m.aa)),(71,.c (.int .i64 m.aa.length)),(72,.c (.int .i64 z.1))]) (fun z=>mD g5 m RE RH RG (gs z.2 3 z.1) .ab .ab::mZ g2::mM g1 m::gh z.2 105 (z.1*3) (V0 ((m.aa.map bu).take z.1))) (fun z=>z.1≤m.aa.length∧(z.2=none→z.1=0)) (fun z=>m.aa.length-z.1) (0,none) (zB J6) zZ ⟨Lz _,fun _=>rfl⟩ ?_
   rintro ⟨j,og⟩ ⟨hj,ax⟩
   dsimp only at hj ax⊢
   by_cases ba:j<m.aa.length
   ·have d1:decide (j<m.aa.length)=true:=Dt ba
    have hm:m.aa.getD j bj∈m.aa:=by rw [Lg,Li ba];exact Le _
    have hx:=hs.pg _ hm
    have vp:=(hg.pg _ hm).2.1.1
    have hT:=KZ bu m.aa bj ba
    have dE:=JR bu m.aa (Ll ba)
    have hpgl:=hg.Ak
    clear hm J3
    generalize hv:m.aa.getD j bj=x at*
    have c1:=G8 x.an hx.2 (by have:=hx.1;omega) vp
    refine zA (oj ah (oj aq (oj a1 (oj a2 (oj a3 (oj a4 (oj d1 (oj d1 hv)))))))) ?_
    refine yA (oj ah (oj aq (oj a1 (oj a2 (oj a3 (oj a4 (oj d1 (oj d1 hv)))))))) fun g9 gI=>?_
    refine zA (oj ah (oj aq (oj a1 (oj a2 (oj a3 (oj a4 (oj d1 (oj d1 (oj hv gI))))))))) ?_
    refine Yl [(g9,.cells 105 3 (ao (iO x))),mD g5 m RE RH RG (gs og 3 j) .ab .ab] [(0,0),(1,0),(2,0),(3,0),(4,0),(5,0),(6,0),(7,0),(8,0),(9,0),(10,1),(11,1),(12,0),(13,2)] Qg kR (Qm (by simp) qa) ?_
    have J7:=oj ah (oj aq (oj a1 (oj a2 (oj a3 (oj a4 (oj d1 (oj d1 (oj hv gI))))))))
    refine yG J7 ?_
    refine X9 rfl c1 rfl rfl rfl (fun _ _=>(zL J7)) ?_
    refine Xw J7 ?_
    refine Qv (xs:=[.tmp 85]) (cells:=iO (bu x)) rfl rfl rfl rfl (zE J7) (by refine yS J7 ?_;rfl) rfl om om qd rfl Ag (Qm (by simp) qa) (fun g86 oV=> ?_) (hm:=.inr ⟨rfl,rfl⟩)
    refine yS J7 ?_
    refine YJ (pre:=[(g9,.cells 105 3 (ao (iO x))),mD g5 m RE RH RG (gs og 3 j) .ab .ab,mZ g2,mM g1 m]) (og:=og) (n:=j) (s:=77) (d1:=86) (gt:=g86) (v:=.agg (iO (bu x))) rfl rfl rfl rfl (zE J7) (zE J7) (by rfl) om om (zE J7) (zE J7) ax (by rfl) (by rfl) (by simp only [Ad,Lq,Ln];rfl) qc om (BA dE (bu x)) (XR (Qm (by simp) qa)) (fun gb bH=> ?_) (hm:=.inr ⟨rfl,rfl⟩)
    replace oV:=Qa.ay oV
    simp only [Qa.ne] at oV
    rw [←hT]
    have J8:=oj ah (oj aq (oj a1 (oj a2 (oj a3 (oj a4 (oj d1 (oj d1 (oj hv (oj gI oV)))))))))
    refine Xw J8 ?_
    refine Xc (FP':=[]) rfl rfl rfl rfl rfl (zE J8) (zE J8) (zE J8) (zE J8) (fun _ e=>by cases e) rfl rfl (show 6≤8 from by omega) rfl Qf ?_
    refine Xw J8 ?_
    exact Qb ⟨(j+1,some gb),by dsimp only;omega,(zB J8),(.cons _ (Ls _ _)),by dsimp only;omega,fun e=>by cases e⟩
   ·have d1:decide (j<m.aa.length)=false:=De ba
    obtain rfl:j=m.aa.length:=by omega
    have dJ:(m.aa.map bu).length=m.aa.length:=Lw _
    rw [Ly (Nat.le_of_eq dJ)]
    have bK:=Qqo og (m.aa.map bu) (by rw [dJ];exact ax) (by rw [List.map_map];exact hg.RF) (by rw [dJ];omega)
    rw [dJ] at bK
    refine zA (oj ah (oj aq (oj a1 (oj a2 (oj a3 (oj a4 (oj d1 d1))))))) ?_
    refine Qq (hc:=gh og 105 (m.aa.length*3) (V0 (m.aa.map bu))) (hr:=[mD g5 m RE RH RG (gs og 3 m.aa.length) .ab .ab,mZ g2,mM g1 m]) (bK) rfl rfl rfl (List.perm_append_comm (l₁:=[_,_,_])) (zL (oj ah (oj aq (oj a1 (oj a2 (oj a3 (oj a4 (oj d1 d1)))))))) ?_
    rintro _ _ ⟨rfl,rfl⟩ _
    refine Qj (h':=mD g5 m RE RH RG (gs og 3 m.aa.length) .ab .ab::(gh og 105 (m.aa.length*3) (V0 (Ql YT.name (m.aa.map bu)))++[mZ g2,mM g1 m])) List.perm_middle ?_
    refine Q7 (j0:=5) (m:=8) (f:=(ao (gG m RE RH RG (gs og 3 m.aa.length) .ab .ab))) (f':=(ao (gG m RE RH RG RP .ab .ab))) (fp:=V0 (Ql YT.name (m.aa.map bu))) rfl u5 (fun i hi h3=>by match i,hi,h3 with|0,_,_=>rfl|1,_,_=>rfl|2,_,_=>rfl|3,_,_=>rfl|4,_,_=>rfl|5,_,h=>exact absurd rfl h|6,_,_=>rfl|7,_,_=>rfl) ax (fun g _=>hC g) ?_
    have J9:=oj ah (oj aq (oj a1 (oj a2 (oj a3 (oj a4 (oj d1 d1))))))
    refine yS J9 ?_
    refine zA J9 ?_
    refine Qh (fun z:Nat×Option Nat=>[(1,.c (.aj g1 0)),(2,.c (.aj g2 0)),(3,.c .aN),(5,.c (.aj g5 0)),(94,.c (fB true m.ae)),(95,.c (.int .i64 m.ae.length)),(96,.c (.int .i64 z.1))]) (fun z=>mD g5 m RE RH RG RP (gs z.2 4 z.1) .ab::mZ g2::mM g1 m::gh z.2 108 (z.1*4) (Vs ((m.ae.map bB).take z.1))) (fun z=>z.1≤m.ae.length∧(z.2=none→z.1=0)) (fun z=>m.ae.length-z.1) (0,none) (zB J9) zZ ⟨Lz _,fun _=>rfl⟩ ?_
    rintro ⟨j,og⟩ ⟨hj,ax⟩
    dsimp only at hj ax⊢
    by_cases ba:j<m.ae.length
    ·have d1:decide (j<m.ae.length)=true:=Dt ba
     have hm:m.ae.getD j bJ∈m.ae:=by rw [Lg,Li ba];exact Le _
     have hx:=hs.gr _ hm
     have lL:2≤(m.ae.getD j bJ).members.length:=by have:=(hg.gr _ hm).2.2.1.1;omega
     have hT:=KZ bB m.ae bJ ba
     have dE:=JR bB m.ae (Ll ba)
     have hgrl:=hg.y9
     clear hm
     generalize hv:m.ae.getD j bJ=x at*
     obtain⟨mr,kQ,r9⟩:=hx
     have nF:x.ar.length≤1099511627776:=by omega
     obtain⟨HG,pK⟩:∃HG:Qa,HG=gh og 108 (j*4) (Vs ((m.ae.map bB).take j)):=⟨_,rfl⟩
     rw [←pK]
     refine zA (oj ah (oj aq (oj a1 (oj a2 (oj a3 (oj a4 (oj d1 (oj d1 (oj d1 hv))))))))) ?_
     refine yA (oj ah (oj aq (oj a1 (oj a2 (oj a3 (oj a4 (oj d1 (oj d1 (oj d1 hv))))))))) fun g11 cT=>?_
     refine zA (oj ah (oj aq (oj a1 (oj a2 (oj a3 (oj a4 (oj d1 (oj d1 (oj d1 (oj hv cT)))))))))) ?_
     refine Ym (fun z:Nat×Nat=>[(1,.c (.aj g1 0)),(2,.c (.aj g2 0)),(3,.c .aN),(5,.c (.aj g5 0)),(11,.c (.aj g11 0)),(12,.c (.aj z.1 0)),(94,.c (fB true m.ae)),(95,.c (.int .i64 m.ae.length)),(96,.c (.int .i64 j))]) (fun z=>(z.1,.cells 108 4 (ao [.str (sB x.name),.int .i64 x.kind,.aO z.2 1 0 x.members.length,.ab]))::(z.2,.cells 9 x.members.length (Qi x.members))::(g11,.cells 108 4 (ao (UF x)))::mD g5 m RE RH RG RP (gs og 4 j) .ab::mZ g2::mM g1 m::HG) (fun _=>x.members.length≤24) ?_ ?_
     ·refine Nu Qg ?_
      refine L0 6 8 Af ?_ ?_
      ·refine x8 [(g11,.cells 108 4 (ao (UF x)))] [(0,0),(1,0),(2,0),(3,0),(4,0),(5,0),(6,1),(7,0),(8,1),(9,2)] kR qa ?_
       have dB:=oj ah (oj aq (oj a1 (oj a2 (oj a3 (oj a4 (oj d1 (oj d1 (oj d1 (oj hv cT)))))))))
       refine yG dB ?_
       refine Ur (hc:=[]) (hr:=(g11,.cells 108 4 (ao (UF x)))::mD g5 m RE RH RG RP (gs og 4 j) .ab::mZ g2::mM g1 m::HG) rfl (AD x.members om) rfl rfl rfl (.refl _) (zL dB) (fun _ _ hq=>by obtain⟨og,_,_,rfl⟩:=hq;exact Qm (by simp) Qf) ?_ (hm:=.inr ⟨rfl,rfl⟩)
       rintro _ _ ⟨ej,cj,rfl,rfl⟩ _
       cases ej with
       |none=>exact absurd (cj rfl) om
       |some g3=>
        rw [Ad]
        refine Xw dB ?_
        refine Z1 (r:=.agg [.str (sB x.name),.int .i64 x.kind,gs (some g3) 1 x.members.length,.ab]) rfl (fun _ _=>Um (ps:=[(0,.tmp 101),(1,.tmp 103),(2,.tmp 106)]) (zE dB) (by rfl)) rfl rfl ?_
        refine Xw dB ?_
        refine WP rfl rfl rfl rfl (zE dB) qa (fun g12 fq=> ?_) (hm:=.inr ⟨rfl,rfl⟩)
        refine Xw dB ?_
        refine Xc (FP':=[]) rfl rfl rfl rfl rfl (zE dB) (zE dB) (zE dB) (zE dB) (fun _ e=>by cases e) rfl rfl (Ac 4) rfl Qf ?_
        refine Xw dB ?_
        exact Qb ⟨(g12,g3),(zB dB),Lr _,mr⟩
      ·refine x8 [(g11,.cells 108 4 (ao (UF x)))] [(0,0),(1,0),(2,0),(3,0),(4,0),(5,0),(8,1),(6,1),(7,0),(9,2)] kR qa ?_
       have cD:=oj ah (oj aq (oj a1 (oj a2 (oj a3 (oj a4 (oj d1 (oj d1 (oj d1 (oj hv cT)))))))))
       refine yG cD ?_
       refine WP rfl rfl rfl rfl (zE cD) qa (fun g12 fq=> ?_) (hm:=.inr ⟨rfl,rfl⟩)
       refine Xw cD ?_
       refine Ur (hc:=[]) (hr:=(g12,.cells 108 4 (ao [.str {data:= #[]},.int .i64 0,.ab,.ab]))::(g11,.cells 108 4 (ao (UF x)))::mD g5 m RE RH RG RP (gs og 4 j) .ab::mZ g2::mM g1 m::HG) rfl (AD x.members om) rfl rfl rfl (.refl _) (zL cD) (fun _ _ hq=>by obtain⟨og,_,_,rfl⟩:=hq;exact Qm (by simp) Qf) ?_ (hm:=.inr ⟨rfl,rfl⟩)
       rintro _ _ ⟨ej,cj,rfl,rfl⟩ _
       cases ej with
       |none=>exact absurd (cj rfl) om
       |some g3=>
        refine B5 (List.Perm.swap _ _ _) ?_
        rw [Ad]
        refine Xw cD ?_
        refine Z1 (r:=.agg [.str (sB x.name),.int .i64 x.kind,gs (some g3) 1 x.members.length,.ab]) rfl (fun _ _=>Um (ps:=[(0,.tmp 101),(1,.tmp 103),(2,.tmp 106)]) (zE cD) (by rfl)) rfl rfl ?_
        refine Xw cD ?_
        refine Xc (FP':=[]) rfl rfl rfl rfl rfl (zE cD) (zE cD) (zE cD) (zE cD) (fun _ e=>by cases e) rfl rfl (Ac 4) rfl Qf ?_
        refine Xw cD ?_
        exact Qb ⟨(g12,g3),(zB cD),Lr _,mr⟩
     ·rintro ⟨g12,g3⟩ _
      dsimp only
      refine YY fun bf=> ?_
      have r1:g12≠g3:=fun e=>by subst e;simp [Qa.keys] at bf
      have r2:g12≠g11:=fun e=>by subst e;simp [Qa.keys] at bf
      have r3:g12≠g5:=fun e=>by subst e;simp [Qa.keys] at bf
      have r4:g12≠g1:=fun e=>by subst e;simp [Qa.keys] at bf
      have r5:g3≠g11:=fun e=>by subst e;simp [Qa.keys] at bf
      clear bf
      have b1:=eq_false r1
      have b2:=eq_false r1.symm
      have b3:=eq_false r2
      have b4:=eq_false r2.symm
      have b5:=eq_false r3
      have b6:=eq_false r3.symm
      have b7:=eq_false r4
      have b8:=eq_false r4.symm
      have tv:(Ql id x.members).length=x.members.length:=(QW _ _).length_eq
      have bK:=Io (some g3) x.members (fun e=>by cases e) om
      simp only [Ad] at bK
      refine zA (oj ah (oj aq (oj a1 (oj a2 (oj a3 (oj a4 (oj d1 (oj d1 (oj d1 (oj hv (oj cT (oj b1 (oj b2 (oj b3 (oj b4 (oj b5 (oj b6 (oj b7 b8)))))))))))))))))) ?_
      refine Qq (hc:=gh (some g3) 9 x.members.length (Qi x.members)) (hr:=(g12,.cells 108 4 (ao [.str (sB x.name),.int .i64 x.kind,.aO g3 1 0 x.members.length,.ab]))::(g11,.cells 108 4 (ao (UF x)))::mD g5 m RE RH RG RP (gs og 4 j) .ab::mZ g2::mM g1 m::HG) bK rfl rfl rfl (List.Perm.swap _ _ _) (zL (oj ah (oj aq (oj a1 (oj a2 (oj a3 (oj a4 (oj d1 (oj d1 (oj d1 (oj hv (oj cT (oj b1 (oj b2 (oj b3 (oj b4 (oj b5 (oj b6 (oj b7 b8))))))))))))))))))) ?_
      rintro _ _ ⟨rfl,rfl⟩ _
      refine Qj (h':=(g12,.cells 108 4 (ao [.str (sB x.name),.int .i64 x.kind,.aO g3 1 0 x.members.length,.ab]))::(gh (some g3) 9 (x.members.length*1) (Qi (Ql id x.members))++(g11,.cells 108 4 (ao (UF x)))::mD g5 m RE RH RG RP (gs og 4 j) .ab::mZ g2::mM g1 m::HG)) (by rw [Ad];exact List.Perm.swap _ _ _) ?_
      refine Q7 (s:=1) (og:=some g3) (n:=x.members.length) (j0:=2) (m:=4) (f:=ao [.str (sB x.name),.int .i64 x.kind,.aO g3 1 0 x.members.length,.ab]) (f':=ao [.str (sB x.name),.int .i64 x.kind,.row true 1 x.members.length (Qi (Ql id x.members)),.ab]) (fp:=Qi (Ql id x.members)) rfl rfl (fun i hi h3=>by match i,hi,h3 with|0,_,_=>rfl|1,_,_=>rfl|2,_,h=>exact absurd rfl h|3,_,_=>rfl) (fun e=>by cases e) (fun g _=>hC g) ?_
      have jj:=oj ah (oj aq (oj a1 (oj a2 (oj a3 (oj a4 (oj d1 (oj d1 (oj d1 (oj hv (oj cT (oj b1 (oj b2 (oj b3 (oj b4 (oj b5 (oj b6 (oj b7 b8)))))))))))))))))
      refine yS jj ?_
      refine zA jj ?_
      refine Qh (fun z:Nat×Option Nat=>[(1,.c (.aj g1 0)),(2,.c (.aj g2 0)),(3,.c .aN),(5,.c (.aj g5 0)),(12,.c (.aj g12 0)),(94,.c (fB true m.ae)),(95,.c (.int .i64 m.ae.length)),(96,.c (.int .i64 j)),(112,.c (OB true x.ar)),(113,.c (.int .i64 x.ar.length)),(114,.c (.int .i64 z.1))]) (fun z=>(g12,.cells 108 4 (ao [.str (sB x.name),.int .i64 x.kind,.row true 1 x.members.length (Qi (Ql id x.members)),gs z.2 3 z.1]))::mD g5 m RE RH RG RP (gs og 4 j) .ab::mZ g2::mM g1 m::(HG++gh z.2 69 (z.1*3) (Z6 (x.ar.take z.1)))) (fun z=>z.1≤x.ar.length∧(z.2=none→z.1=0)) (fun z=>x.ar.length-z.1) (0,none) (zB jj) (by show List.Sublist ((g12,.cells 108 4 (ao [.str (sB x.name),.int .i64 x.kind,.row true 1 x.members.length (Qi (Ql id x.members)),.ab]))::mD g5 m RE RH RG RP (gs og 4 j) .ab::mZ g2::mM g1 m::(HG++[])) _;rw [Lp];exact .cons_cons _ (.cons _ (Lr _))) ⟨Lz _,fun _=>rfl⟩ ?_
      rintro ⟨k,ok⟩ ⟨hk,bo⟩
      dsimp only at hk bo⊢
      by_cases fI:k<x.ar.length
      ·have d2:decide (k<x.ar.length)=true:=Dt fI
       have hr:=r9 (x.ar.getD k aW) (by rw [Lg,Li fI];exact Le _)
       have hU:=Ay x.ar aW fI
       have rl:(x.ar.take k).length=k:=by rw [List.length_take];omega
       generalize eY:x.ar.getD k aW=r at*
       have c1:=K9 r hr
       refine zA (oj ah (oj aq (oj a1 (oj a2 (oj a3 (oj a4 (oj d1 (oj d1 (oj d1 (oj hv (oj cT (oj b1 (oj b2 (oj b3 (oj b4 (oj b5 (oj b6 (oj b7 (oj b8 (oj d2 eY)))))))))))))))))))) ?_
       refine yA (oj ah (oj aq (oj a1 (oj a2 (oj a3 (oj a4 (oj d1 (oj d1 (oj d1 (oj hv (oj cT (oj b1 (oj b2 (oj b3 (oj b4 (oj b5 (oj b6 (oj b7 (oj b8 (oj d2 eY)))))))))))))))))))) fun g14 jM=>?_
       refine zA (oj ah (oj aq (oj a1 (oj a2 (oj a3 (oj a4 (oj d1 (oj d1 (oj d1 (oj hv (oj cT (oj b1 (oj b2 (oj b3 (oj b4 (oj b5 (oj b6 (oj b7 (oj b8 (oj d2 (oj eY jM))))))))))))))))))))) ?_
       refine Yl [(g14,.cells 69 3 (ao (YS r))),(g12,.cells 108 4 (ao [.str (sB x.name),.int .i64 x.kind,.row true 1 x.members.length (Qi (Ql id x.members)),gs ok 3 k]))] [(0,0),(1,0),(2,0),(3,0),(4,1),(5,1),(6,0),(7,2)] Qg kR (Qm (by simp) qa) ?_
       have iS:=oj ah (oj aq (oj a1 (oj a2 (oj a3 (oj a4 (oj d1 (oj d1 (oj d1 (oj hv (oj cT (oj b1 (oj b2 (oj b3 (oj b4 (oj b5 (oj b6 (oj b7 (oj b8 (oj d2 (oj eY jM))))))))))))))))))))
       refine yG iS ?_
       refine X9 rfl c1 rfl rfl rfl (fun _ _=>(zL iS)) ?_
       refine Xw iS ?_
       refine Qv (xs:=[.tmp 121]) (cells:=YS r) rfl rfl rfl rfl (zE iS) (by refine yS iS ?_;rfl) rfl om om qd rfl Ag (Qm (by simp) qa) (fun Dx kX=> ?_) (hm:=.inr ⟨rfl,rfl⟩)
       refine yS iS ?_
       refine YJ (pre:=[(g14,.cells 69 3 (ao (YS r))),(g12,.cells 108 4 (ao [.str (sB x.name),.int .i64 x.kind,.row true 1 x.members.length (Qi (Ql id x.members)),gs ok 3 k])),mD g5 m RE RH RG RP (gs og 4 j) .ab,mZ g2,mM g1 m]++HG) (og:=ok) (n:=k) (s:=119) (d1:=122) (gt:=Dx) (v:=.agg (YS r)) rfl rfl rfl rfl (zE iS) (zE iS) (by rfl) om om (zE iS) (zE iS) bo (by rfl) (by rfl) (by simp only [Ad,Lq,Ln];rfl) qc om (QmQ rl r) (XR (Qm (by simp) qa)) (fun gb bH=> ?_) (hm:=.inr ⟨rfl,rfl⟩)
       replace kX:=Qa.ay kX
       simp only [Qa.ne,Lq,Ln] at kX
       rw [←hU]
       simp only [Lq,Ln]
       have jS:=oj ah (oj aq (oj a1 (oj a2 (oj a3 (oj a4 (oj d1 (oj d1 (oj d1 (oj hv (oj cT (oj b1 (oj b2 (oj b3 (oj b4 (oj b5 (oj b6 (oj b7 (oj b8 (oj d2 (oj eY (oj jM kX)))))))))))))))))))))
       refine Xw jS ?_
       refine Xc (FP':=[]) rfl rfl rfl rfl rfl (zE jS) (zE jS) (zE jS) (zE jS) (fun _ e=>by cases e) rfl rfl (show 4≤4 from by omega) rfl Qf ?_
       refine Xw jS ?_
       exact Qb ⟨(k+1,some gb),by dsimp only;omega,(zB jS),(.cons _ (Ls _ _)),by dsimp only;omega,fun e=>by cases e⟩
      ·have d2:decide (k<x.ar.length)=false:=De fI
       obtain rfl:k=x.ar.length:=by omega
       rw [Ly (Ac x.ar.length)]
       refine Qj (h':=(g12,.cells 108 4 (ao [.str (sB x.name),.int .i64 x.kind,.row true 1 x.members.length (Qi (Ql id x.members)),gs ok 3 x.ar.length]))::(gh ok 69 (x.ar.length*3) (Z6 x.ar)++(mD g5 m RE RH RG RP (gs og 4 j) .ab::mZ g2::mM g1 m::HG))) (.cons _ ?_) ?_
       ·exact List.perm_append_comm (l₁:=mD g5 m RE RH RG RP (gs og 4 j) .ab::mZ g2::mM g1 m::HG)
       refine Q7 (j0:=3) (m:=4) (f:=ao [.str (sB x.name),.int .i64 x.kind,.row true 1 x.members.length (Qi (Ql id x.members)),gs ok 3 x.ar.length]) (f':=ao [.str (sB x.name),.int .i64 x.kind,.row true 1 x.members.length (Qi (Ql id x.members)),OB true x.ar]) (fp:=Z6 x.ar) rfl rfl (fun i hi h3=>by match i,hi,h3 with|0,_,_=>rfl|1,_,_=>rfl|2,_,_=>rfl|3,_,h=>exact absurd rfl h) bo (fun g _=>hC g) ?_
       rw [←tv]
       rw [pK]
       have jw:=oj ah (oj aq (oj a1 (oj a2 (oj a3 (oj a4 (oj d1 (oj d1 (oj d1 (oj hv (oj cT (oj b1 (oj b2 (oj b3 (oj b4 (oj b5 (oj b6 (oj b7 (oj b8 d2))))))))))))))))))
       refine yS jw ?_
       refine zA jw ?_
       refine QT (pre:=[(g12,.cells 108 4 (ao (UF (bB x)))),mD g5 m RE RH RG RP (gs og 4 j) .ab,mZ g2,mM g1 m]) rfl rfl rfl rfl rfl rfl rfl (zE jw) (zE jw) (by rfl) om om (zE jw) om (by exact ax) (zE jw) (by rfl) (by rfl) qb qc om (by exact BB dE (bB x)) fun gq bh=> ?_
       replace bh:=Qa.ay bh
       first|dsimp only [Qa.ne,gh] at bh|dsimp only [Qa.ne] at bh|skip
       have l6:=oj ah (oj aq (oj a1 (oj a2 (oj a3 (oj a4 (oj d1 (oj d1 (oj d1 (oj hv (oj cT (oj b1 (oj b2 (oj b3 (oj b4 (oj b5 (oj b6 (oj b7 (oj b8 (oj d2 bh)))))))))))))))))))
       refine yS l6 ?_
       rw [←hT]
       refine zA l6 ?_
       exact Qb ⟨(j+1,some gq),by dsimp only;omega,(zB l6),Ls _ _,by dsimp only;omega,fun e=>by cases e⟩
    ·have d1:decide (j<m.ae.length)=false:=De ba
     obtain rfl:j=m.ae.length:=by omega
     have kq:(m.ae.map bB).length=m.ae.length:=Lw _
     rw [Ly (Nat.le_of_eq kq)]
     have bK:=Qqp og (m.ae.map bB) (by rw [kq];exact ax) (by rw [List.map_map];exact hg.Pq) (by rw [kq];omega)
     rw [kq] at bK
     refine zA (oj ah (oj aq (oj a1 (oj a2 (oj a3 (oj a4 (oj d1 (oj d1 d1)))))))) ?_
     refine Qq (hc:=gh og 108 (m.ae.length*4) (Vs (m.ae.map bB))) (hr:=[mD g5 m RE RH RG RP (gs og 4 m.ae.length) .ab,mZ g2,mM g1 m]) (bK) rfl rfl rfl (List.perm_append_comm (l₁:=[_,_,_])) (zL (oj ah (oj aq (oj a1 (oj a2 (oj a3 (oj a4 (oj d1 (oj d1 d1))))))))) ?_
     rintro _ _ ⟨rfl,rfl⟩ _
     refine Qj (h':=mD g5 m RE RH RG RP (gs og 4 m.ae.length) .ab::(gh og 108 (m.ae.length*4) (Vs (Ql YU.name (m.ae.map bB)))++[mZ g2,mM g1 m])) List.perm_middle ?_
     refine Q7 (j0:=6) (m:=8) (f:=(ao (gG m RE RH RG RP (gs og 4 m.ae.length) .ab))) (f':=(ao (gG m RE RH RG RP RR .ab))) (fp:=Vs (Ql YU.name (m.ae.map bB))) rfl u6 (fun i hi h3=>by match i,hi,h3 with|0,_,_=>rfl|1,_,_=>rfl|2,_,_=>rfl|3,_,_=>rfl|4,_,_=>rfl|5,_,_=>rfl|6,_,h=>exact absurd rfl h|7,_,_=>rfl) ax (fun g _=>hC g) ?_
     have qq:=oj ah (oj aq (oj a1 (oj a2 (oj a3 (oj a4 (oj d1 (oj d1 d1)))))))
     refine yS qq ?_
     refine zA qq ?_
     refine Qh (fun z:Nat×Option Nat=>[(1,.c (.aj g1 0)),(2,.c (.aj g2 0)),(3,.c .aN),(5,.c (.aj g5 0)),(137,.c (fS true m.ai)),(138,.c (.int .i64 m.ai.length)),(139,.c (.int .i64 z.1))]) (fun z=>mD g5 m RE RH RG RP RR (gs z.2 3 z.1)::mZ g2::mM g1 m::gh z.2 112 (z.1*3) (V1 ((m.ai.map bz).take z.1))) (fun z=>z.1≤m.ai.length∧(z.2=none→z.1=0)) (fun z=>m.ai.length-z.1) (0,none) (zB qq) zZ ⟨Lz _,fun _=>rfl⟩ ?_
     rintro ⟨j,og⟩ ⟨hj,ax⟩
     dsimp only at hj ax⊢
     by_cases ba:j<m.ai.length
     ·have d1:decide (j<m.ai.length)=true:=Dt ba
      have hm:m.ai.getD j cd∈m.ai:=by rw [Lg,Li ba];exact Le _
      have hx:=hs.ph _ hm
      have Es:=(hg.ph _ hm).2.2.2
      have hT:=KZ bz m.ai cd ba
      have dE:=JR bz m.ai (Ll ba)
      have hphl:=hg.Am
      clear hm
      generalize hv:m.ai.getD j cd=x at*
      obtain⟨mr,r9⟩:=hx
      have nV:x.values.length≤1099511627776:=by omega
      obtain⟨HG,pK⟩:∃HG:Qa,HG=gh og 112 (j*3) (V1 ((m.ai.map bz).take j)):=⟨_,rfl⟩
      rw [←pK]
      refine zA (oj ah (oj aq (oj a1 (oj a2 (oj a3 (oj a4 (oj d1 (oj d1 (oj d1 (oj d1 hv)))))))))) ?_
      refine yA (oj ah (oj aq (oj a1 (oj a2 (oj a3 (oj a4 (oj d1 (oj d1 (oj d1 (oj d1 hv)))))))))) fun g16 ft=>?_
      refine zA (oj ah (oj aq (oj a1 (oj a2 (oj a3 (oj a4 (oj d1 (oj d1 (oj d1 (oj d1 (oj hv ft))))))))))) ?_
      refine yA (oj ah (oj aq (oj a1 (oj a2 (oj a3 (oj a4 (oj d1 (oj d1 (oj d1 (oj d1 (oj hv ft))))))))))) fun g17 gH=>?_
      refine zA (oj ah (oj aq (oj a1 (oj a2 (oj a3 (oj a4 (oj d1 (oj d1 (oj d1 (oj d1 (oj hv (oj ft gH)))))))))))) ?_
      refine Qh (fun z:Nat×Option Nat=>[(1,.c (.aj g1 0)),(2,.c (.aj g2 0)),(3,.c .aN),(5,.c (.aj g5 0)),(17,.c (.aj g17 0)),(137,.c (fS true m.ai)),(138,.c (.int .i64 m.ai.length)),(139,.c (.int .i64 j)),(149,.c (ll true x.values)),(150,.c (.int .i64 x.values.length)),(151,.c (.int .i64 z.1))]) (fun z=>(g17,.cells 112 3 (ao [.str (sB x.name),.str (sB x.top),gs z.2 4 z.1]))::mD g5 m RE RH RG RP RR (gs og 3 j)::mZ g2::mM g1 m::(HG++gh z.2 114 (z.1*4) (VJ (x.values.take z.1)))) (fun z=>z.1≤x.values.length∧(z.2=none→z.1=0)) (fun z=>x.values.length-z.1) (0,none) (zB (oj ah (oj aq (oj a1 (oj a2 (oj a3 (oj a4 (oj d1 (oj d1 (oj d1 (oj d1 (oj hv (oj ft gH))))))))))))) (by show List.Sublist ((g17,.cells 112 3 (ao [.str (sB x.name),.str (sB x.top),.ab]))::mD g5 m RE RH RG RP RR (gs og 3 j)::mZ g2::mM g1 m::(HG++[])) _;rw [Lp];exact .cons_cons _ (.cons _ (Lr _))) ⟨Lz _,fun _=>rfl⟩ ?_
      rintro ⟨k,ok⟩ ⟨hk,bo⟩
      dsimp only at hk bo⊢
      by_cases fI:k<x.values.length
      ·have d2:decide (k<x.values.length)=true:=Dt fI
       have hr:=r9 (x.values.getD k bE) (by rw [Lg,Li fI];exact Le _)
       have hU:=Ay x.values bE fI
       have rl:(x.values.take k).length=k:=by rw [List.length_take];omega
       generalize eY:x.values.getD k bE=v at*
       have c1:=K9 v.p hr
       refine zA (oj ah (oj aq (oj a1 (oj a2 (oj a3 (oj a4 (oj d1 (oj d1 (oj d1 (oj d1 (oj hv (oj ft (oj gH (oj d2 eY)))))))))))))) ?_
       refine yA (oj ah (oj aq (oj a1 (oj a2 (oj a3 (oj a4 (oj d1 (oj d1 (oj d1 (oj d1 (oj hv (oj ft (oj gH (oj d2 eY)))))))))))))) fun g19 fu=>?_
       refine zA (oj ah (oj aq (oj a1 (oj a2 (oj a3 (oj a4 (oj d1 (oj d1 (oj d1 (oj d1 (oj hv (oj ft (oj gH (oj d2 (oj eY fu))))))))))))))) ?_
       refine Yl [(g19,.cells 114 4 (ao (O3 v))),(g17,.cells 112 3 (ao [.str (sB x.name),.str (sB x.top),gs ok 4 k]))] [(0,0),(1,0),(2,0),(3,0),(4,0),(5,0),(6,0),(7,0),(8,1),(9,1),(10,0),(11,2)] Qg kR (Qm (by simp) qa) ?_
       have kE:=oj ah (oj aq (oj a1 (oj a2 (oj a3 (oj a4 (oj d1 (oj d1 (oj d1 (oj d1 (oj hv (oj ft (oj gH (oj d2 (oj eY fu))))))))))))))
       refine yG kE ?_
       refine X9 rfl c1 rfl rfl rfl (fun _ _=>(zL kE)) ?_
       refine Xw kE ?_
       refine Qv (xs:=[.tmp 162]) (cells:=O3 v) rfl rfl rfl rfl (zE kE) (by refine yS kE ?_;rfl) rfl om om qd rfl Ag (Qm (by simp) qa) (fun Dz kZ=> ?_) (hm:=.inr ⟨rfl,rfl⟩)
       refine yS kE ?_
       refine YJ (pre:=[(g19,.cells 114 4 (ao (O3 v))),(g17,.cells 112 3 (ao [.str (sB x.name),.str (sB x.top),gs ok 4 k])),mD g5 m RE RH RG RP RR (gs og 3 j),mZ g2,mM g1 m]++HG) (og:=ok) (n:=k) (s:=156) (d1:=163) (gt:=Dz) (v:=.agg (O3 v)) rfl rfl rfl rfl (zE kE) (zE kE) (by rfl) om om (zE kE) (zE kE) bo (by rfl) (by rfl) (by simp only [Ad,Lq,Ln];rfl) qc om (BD rl v) (XR (Qm (by simp) qa)) (fun gb bH=> ?_) (hm:=.inr ⟨rfl,rfl⟩)
       replace kZ:=Qa.ay kZ
       simp only [Qa.ne,Lq,Ln] at kZ
       rw [←hU]
       simp only [Lq,Ln]
       have l7:=oj ah (oj aq (oj a1 (oj a2 (oj a3 (oj a4 (oj d1 (oj d1 (oj d1 (oj d1 (oj hv (oj ft (oj gH (oj d2 (oj eY (oj fu kZ)))))))))))))))
       refine Xw l7 ?_
       refine Xc (FP':=[]) rfl rfl rfl rfl rfl (zE l7) (zE l7) (zE l7) (zE l7) (fun _ e=>by cases e) rfl rfl (show 3≤3 from by omega) rfl Qf ?_
       refine Xw l7 ?_
       exact Qb ⟨(k+1,some gb),by dsimp only;omega,(zB l7),(.cons _ (Ls _ _)),by dsimp only;omega,fun e=>by cases e⟩
      ·have d2:decide (k<x.values.length)=false:=De fI
       obtain rfl:k=x.values.length:=by omega
       rw [Ly (Ac x.values.length)]
       have bK:=Qqq ok x.values bo Es om
       have js:(Ql Zh.event x.values).length=x.values.length:=(QW _ _).length_eq
       refine zA (oj ah (oj aq (oj a1 (oj a2 (oj a3 (oj a4 (oj d1 (oj d1 (oj d1 (oj d1 (oj hv (oj ft (oj gH d2))))))))))))) ?_
       refine Qq (hc:=gh ok 114 (x.values.length*4) (VJ x.values)) (hr:=(g17,.cells 112 3 (ao [.str (sB x.name),.str (sB x.top),gs ok 4 x.values.length]))::mD g5 m RE RH RG RP RR (gs og 3 j)::mZ g2::mM g1 m::HG) bK rfl rfl rfl (List.perm_append_comm (l₁:=(g17,.cells 112 3 (ao [.str (sB x.name),.str (sB x.top),gs ok 4 x.values.length]))::mD g5 m RE RH RG RP RR (gs og 3 j)::mZ g2::mM g1 m::HG)) (zL (oj ah (oj aq (oj a1 (oj a2 (oj a3 (oj a4 (oj d1 (oj d1 (oj d1 (oj d1 (oj hv (oj ft (oj gH d2)))))))))))))) ?_
       rintro _ _ ⟨rfl,rfl⟩ _
       refine Qj (h':=(g17,.cells 112 3 (ao [.str (sB x.name),.str (sB x.top),gs ok 4 x.values.length]))::(gh ok 114 (x.values.length*4) (VJ (Ql Zh.event x.values))++(mD g5 m RE RH RG RP RR (gs og 3 j)::mZ g2::mM g1 m::HG))) List.perm_middle ?_
       refine Q7 (j0:=2) (m:=3) (f:=ao [.str (sB x.name),.str (sB x.top),gs ok 4 x.values.length]) (f':=ao [.str (sB x.name),.str (sB x.top),.row true 4 x.values.length (VJ (Ql Zh.event x.values))]) (fp:=VJ (Ql Zh.event x.values)) rfl rfl (fun i hi h3=>by match i,hi,h3 with|0,_,_=>rfl|1,_,_=>rfl|2,_,h=>exact absurd rfl h) bo (fun g _=>hC g) ?_
       rw [←js]
       rw [pK]
       have j3:=oj ah (oj aq (oj a1 (oj a2 (oj a3 (oj a4 (oj d1 (oj d1 (oj d1 (oj d1 (oj hv (oj ft (oj gH d2))))))))))))
       refine yS j3 ?_
       refine zA j3 ?_
       refine QT (pre:=[(g17,.cells 112 3 (ao (Wr (bz x)))),mD g5 m RE RH RG RP RR (gs og 3 j),mZ g2,mM g1 m]) rfl rfl rfl rfl rfl rfl rfl (zE j3) (zE j3) (by rfl) om om (zE j3) om (by exact ax) (zE j3) (by rfl) (by rfl) qb qc om (by exact BC dE (bz x)) fun gq bh=> ?_
       replace bh:=Qa.ay bh
       first|dsimp only [Qa.ne,gh] at bh|dsimp only [Qa.ne] at bh|skip
       have l8:=oj ah (oj aq (oj a1 (oj a2 (oj a3 (oj a4 (oj d1 (oj d1 (oj d1 (oj d1 (oj hv (oj ft (oj gH (oj d2 bh)))))))))))))
       refine yS l8 ?_
       rw [←hT]
       refine zA l8 ?_
       exact Qb ⟨(j+1,some gq),by dsimp only;omega,(zB l8),Ls _ _,by dsimp only;omega,fun e=>by cases e⟩
     ·have d1:decide (j<m.ai.length)=false:=De ba
      obtain rfl:j=m.ai.length:=by omega
      have EH:(m.ai.map bz).length=m.ai.length:=Lw _
      rw [Ly (Nat.le_of_eq EH)]
      refine Qj (h':=mD g5 m RE RH RG RP RR (gs og 3 m.ai.length)::(gh og 112 (m.ai.length*3) (V1 (m.ai.map bz))++[mZ g2,mM g1 m])) (.cons _ (List.perm_append_comm (l₁:=[_,_]))) ?_
      refine Q7 (j0:=7) (m:=8) (f:=(ao (gG m RE RH RG RP RR (gs og 3 m.ai.length)))) (f':=(ao (gG m RE RH RG RP RR RS))) (fp:=V1 (m.ai.map bz)) rfl u7 (fun i hi h3=>by match i,hi,h3 with|0,_,_=>rfl|1,_,_=>rfl|2,_,_=>rfl|3,_,_=>rfl|4,_,_=>rfl|5,_,_=>rfl|6,_,_=>rfl|7,_,h=>exact absurd rfl h) ax (fun g _=>hC g) ?_
      refine yS (oj ah (oj aq (oj a1 (oj a2 (oj a3 (oj a4 (oj d1 (oj d1 d1)))))))) ?_
      have ze:RE=gS true (Ql X7.name m.events):=by rw [uZ];show _=CV.row true _ _ _;rw [(QW _ _).length_eq]
      have zh:RH=jb true (Ql Vq.name m.af):=by rw [u0];show _=CV.row true _ _ _;rw [(QW _ _).length_eq]
      have zp:RP=ir true (Ql YT.name (m.aa.map bu)):=by rw [u5];show _=CV.row true _ _ _;rw [(QW _ _).length_eq,Lw]
      have zr:RR=fB true (Ql YU.name (m.ae.map bB)):=by rw [u6];show _=CV.row true _ _ _;rw [(QW _ _).length_eq,Lw]
      have zs:RS=fS true (m.ai.map bz):=by rw [u7];show _=CV.row true _ _ _;rw [Lw]
      rw [ze,zh,zp,zr,zs,oy]
      refine zA (oj ah (oj aq (oj a1 (oj a2 (oj a3 (oj a4 (oj d1 (oj d1 (oj d1 d1))))))))) ?_
      refine yT hC (oj ah (oj aq (oj a1 (oj a2 (oj a3 (oj a4 (oj d1 (oj d1 (oj d1 d1))))))))) ?_
      exact .aF ⟨.agg (Ct (x:=OO m)),.c .aN,trivial⟩
end Go.Proofs.YtjegkdadeghpjaaGreatDoor
namespace Go.PN
open Go.AI
theorem ZV {α:Type} (l:List α) (d:α) {q:Nat} (h:q<l.length):l.getD q d∈l:=by
 rw [Lg,Li h];exact Le _
end Go.PN

namespace Go.Proofs.YtjegkdadeghpjaaGreatDoor
open Go.AI Go.PN
theorem JS {a b:Nat×XS} {h:Qa} (h1:a∈h:=by simp) (h2:b∈h:=by simp):Kq [a,b] h:=Qm h1 (Qm h2 Qf)
attribute [local irreducible] aw Fa VA Vk Fh YO
end Go.Proofs.YtjegkdadeghpjaaGreatDoor
namespace Go.AI
section
variable {P : Program} {h : Qa} {ρ : Operand → AV}
theorem QB.sl {t e size bytes g off n:Nat} {x y:Operand} {k:IntKind} {f:Nat→CV} (ht:QP P t=some (e,size,bytes)) (hx:ρ x=.c (.aO g size off n)) (hy:ρ y=.c (.int k (n:Int))):QB P h ρ (.slice t x (some y) none none) (.c (.row false size 0 f)):=fun S w jk hS ho _=>by
 have r:=ho x Ag
 rw [hx] at r
 obtain⟨c,hv,hc,cE,cs,ty,hb,cn⟩:=r
 obtain⟨hu,inf,cA,bF,_⟩:=Q6 ht
 have ry:jk y=.int k n:=by have:=ho y Ag;rw [hy] at this;exact this
 have lR:=Zd (P:=P) (w:=w) (len:=n) (cap:=c) (l:=n) (hi:=n) (lo:=some (jk y)) (hi':=none) (.inr ⟨k,by rw [ry]⟩) (.inl ⟨rfl,rfl⟩) (Ac _) hc hc
 by_cases bS:c=n
 ·refine⟨.slice (some ⟨g,off,none⟩) 0 0,fun o au=> ?_,some ⟨g,off,none⟩,0,rfl,Ac _,fun h0=>by simp at h0⟩
  subst bS
  simp [execOp,au,Instr.sliceAt,run_underlying hu,Instr.slice,hv,lR,sizeOf,typeInfo,cA,bF]
 ·refine⟨.slice (some (Addr.add ⟨g,off,none⟩ (n*size))) 0 (c-n),fun o au=> ?_,some (Addr.add ⟨g,off,none⟩ (n*size)),c-n,rfl,Lz _,fun h0=>by simp at h0⟩
  simp [execOp,au,Instr.sliceAt,run_underlying hu,Instr.slice,hv,lR,sizeOf,typeInfo,cA,bF,bS]
theorem GC {t e size bytes g n k m:Nat} {ty:TypeId} {f:Nat→CV} (ht:QP P t=some (e,size,bytes)) (hk:k≤n) (hm:n*size≤m):
  ∃cx,(∀(h:Qa) (ρ:Operand→AV) (x y:Operand) (kd:IntKind),ρ x=.c (.aO g size 0 n)→ρ y=.c (.int kd (k:Int))→QB P h ρ (.slice t x (some y) none none) (.c cx))∧∀h:Qa,h.get g=some (.cells ty m f)→Src h size cx (n-k) (fun j=>f (k*size+j)):=by
 by_cases aD:k<n
 ·refine⟨.aO g size (0+k*size) (n-k),fun h ρ x y kd hx hy=>QB.jh ht hx (by simp [Yc,hy]) (by simp [Yc]) (Ll aD) (Ac _) (.inr aD),fun h hg=>.aO hg ?_ fun j _=>by rw [Nz]⟩
  rw [Nz,←Nat.add_mul,Nat.add_sub_cancel' hk];exact hm
 ·obtain rfl:k=n:=by omega
  refine⟨.row false size 0 (fun j=>f (k*size+j)),fun h ρ x y kd hx hy=>QB.sl ht hx hy,fun h _=> ?_⟩
  rw [Nat.sub_self]
  exact .row
theorem QB.nn {t e size bytes g n k:Nat} {kd:IntKind} {x y:Operand} (ht:QP P t=some (e,size,bytes)) (hx:ρ x=.c (.aO g size 0 n)) (hy:ρ y=.c (.int kd (k:Int))) (hk:k≤n):QB P h ρ (.slice t x none (some y) none) (.c (.aO g size 0 k)):=by
 have:=QB.jh (h:=h) (l:=0) (hi:=k) (lo:=none) (hi':=some y) ht hx (by simp [Yc]) (by simp [Yc,hy]) (Lz _) hk (.inl rfl)
 rwa [Nat.zero_mul,Nz,Nat.sub_zero] at this
theorem QB.lh {t e size bytes:Nat} {x y:Operand} {k:IntKind} (ht:QP P t=some (e,size,bytes)) (hx:ρ x=.c .ab) (hy:ρ y=.c (.int k 0)):QB P h ρ (.slice t x (some y) none none) (.c .ab):=fun S w jk hS ho _=>by
 have r:=ho x Ag
 rw [hx] at r
 obtain⟨A,hv⟩:=r
 obtain⟨hu,inf,cA,bF,_⟩:=Q6 ht
 have ry:jk y=.int k 0:=by have:=ho y Ag;rw [hy] at this;exact this
 have lR:=Zd (P:=P) (w:=w) (len:=0) (cap:=0) (l:=0) (hi:=0) (lo:=some (jk y)) (hi':=none) (.inr ⟨k,by rw [ry];rfl⟩) (.inl ⟨rfl,rfl⟩) (Ac _) (Ac _) (Ac _)
 refine⟨.slice A 0 0,fun o au=> ?_,A,rfl⟩
 simp [execOp,au,Instr.sliceAt,run_underlying hu,Instr.slice,hv,lR,sizeOf,typeInfo,cA,bF]
theorem QB.lg {t e size bytes:Nat} {x y:Operand} {k:IntKind} (ht:QP P t=some (e,size,bytes)) (hx:ρ x=.c .ab) (hy:ρ y=.c (.int k 0)):QB P h ρ (.slice t x none (some y) none) (.c .ab):=fun S w jk hS ho _=>by
 have r:=ho x Ag
 rw [hx] at r
 obtain⟨A,hv⟩:=r
 obtain⟨hu,inf,cA,bF,_⟩:=Q6 ht
 have ry:jk y=.int k 0:=by have:=ho y Ag;rw [hy] at this;exact this
 have lR:=Zd (P:=P) (w:=w) (len:=0) (cap:=0) (l:=0) (hi:=0) (lo:=none) (hi':=some (jk y)) (.inl ⟨rfl,rfl⟩) (.inr ⟨k,by rw [ry];rfl⟩) (Ac _) (Ac _) (Ac _)
 refine⟨.slice A 0 0,fun o au=> ?_,A,rfl⟩
 simp [execOp,au,Instr.sliceAt,run_underlying hu,Instr.slice,hv,lR,sizeOf,typeInfo,cA,bF]
end
section
variable {E : Vj} {K : List It} {l : List Oper} {FP FP' : Qa} {σ σ' : Sl} {h : Qa} {o : Oper}
theorem xq {i mk:Nat} {cs:List (Nat×Nat)} {t e size bytes n k g:Nat} {z:List CV} {f f2:Nat→CV} {s x:Operand} {cx:CV} {h2:Qa} (ho:l[i]?=some o) (au:o.op=.call {callee:=.builtin .append,args:= #[s,x],argTypes:= #[t,t]}) (hw:Qu l σ o=some true) (hd:Qs E.N o.dst=true)
  (ht:QP E.P t=some (e,size,bytes)) (hz:Qk E.P e=some z) (aY:z.length=size) (bw:0<size) (hs:ev σ s=.c (.aO g size 0 n)) (hg:h.get g=some (.cells e (n*size) f)) (hx:ev σ x=.c cx) (cl:Src h size cx k f2) (df:∀j,j<k*size→(f2 j).aX=true)
  (dn:n+k≤maxLen) (ed:(n+k)*bytes≤140737488355328) (tm:h.del g=h2) (fK:Kq FP' h2)
  (kk:∀g',g'∉h2.keys→CW E l K FP' cs (σ.az o.dst (.c (.aO g' size 0 (n+k)))) ((g',.cells e ((n+k)*size) (Xs f (n*size) f2))::h2)) (jI:mk=2∨mk=1∧FP'=FP:=by first|exact .inl rfl|exact .inr ⟨rfl,rfl⟩):CW E l K FP ((i,mk)::cs) σ h:=by
 refine .k6 ho jI (R:=fun r hh=>∃g',g'∉h2.keys∧r=.c (.aO g' size 0 (n+k))∧hh=(g',.cells e ((n+k)*size) (Xs f (n*size) f2))::h2) (fun σ' K gw=> ?_) ?_ ?_
 ·have e1:=(XD (by rw [au];simp [Op.operands,Call.operands]) gw).trans hs
  have e2:=(XD (by rw [au];simp [Op.operands,Call.operands]) gw).trans hx
  by_cases hk:0<k
  ·exact YA au ((Xg gw).trans hw) hd ht hz aY bw e1 hg (Ac _) e2 cl df hk dn ed tm fun g' ch=>XP (Qb ⟨_,⟨g',ch,rfl,rfl⟩,rfl⟩)
  ·obtain rfl:k=0:=by omega
   refine YY fun bf=> ?_
   refine Vm (cs:=.aO g size 0 n) au ((Xg gw).trans hw) hd ht e1 rfl e2 cl rfl ?_
   have hp:=Qa.dD hg
   rw [tm] at hp
   have rM:=(List.Perm.nodup_iff (hp.map (fun p:Nat×XS=>p.1))).1 (show(h.map fun p=>p.1).Nodup from bf)
   refine Qj hp ?_
   refine QY (f':=Xs f (n*size) f2) (fun j hj=>by simp [Xs,hj]) ?_
   exact XP (Qb ⟨_,⟨g,(List.nodup_cons.1 rM).1,rfl,rfl⟩,rfl⟩)
 ·rintro r hh ⟨g',_,_,rfl⟩;exact fun p hp=>Lm _ (fK p hp)
 ·rintro r hh ⟨g',ch,rfl,rfl⟩;exact kk g' ch
theorem L1 {i mk:Nat} {cs:List (Nat×Nat)} {t e size bytes k:Nat} {z:List CV} {f2:Nat→CV} {s x:Operand} {cx:CV} (ho:l[i]?=some o) (au:o.op=.call {callee:=.builtin .append,args:= #[s,x],argTypes:= #[t,t]}) (hw:Qu l σ o=some true) (hd:Qs E.N o.dst=true)
  (ht:QP E.P t=some (e,size,bytes)) (hz:Qk E.P e=some z) (aY:z.length=size) (bw:0<size) (hs:ev σ s=.c .ab) (hx:ev σ x=.c cx) (cl:Src h size cx k f2) (hk:0<k)
  (dn:k≤maxLen) (ed:k*bytes≤140737488355328) (fK:Kq FP' h)
  (kk:∀g',g'∉h.keys→CW E l K FP' cs (σ.az o.dst (.c (.aO g' size 0 k))) ((g',.cells e (k*size) f2)::h)) (jI:mk=2∨mk=1∧FP'=FP:=by first|exact .inl rfl|exact .inr ⟨rfl,rfl⟩):CW E l K FP ((i,mk)::cs) σ h:=by
 refine .k6 ho jI (R:=fun r hh=>∃g',g'∉h.keys∧r=.c (.aO g' size 0 k)∧hh=(g',.cells e (k*size) f2)::h) (fun σ' K gw=> ?_) ?_ ?_
 ·exact UX au ((Xg gw).trans hw) hd ht hz aY bw ((XD (by rw [au];simp [Op.operands,Call.operands]) gw).trans hs) ((XD (by rw [au];simp [Op.operands,Call.operands]) gw).trans hx) cl hk dn ed fun g' ch=>XP (Qb ⟨_,⟨g',ch,rfl,rfl⟩,rfl⟩)
 ·rintro r hh ⟨g',_,_,rfl⟩;exact fun p hp=>Lm _ (fK p hp)
 ·rintro r hh ⟨g',ch,rfl,rfl⟩;exact kk g' ch
end
end Go.AI
namespace Go.PN
variable {α β : Type}
theorem xu (f:α→BS) (x:α) (l:List α) (k:Nat) (h1:∀y∈l.drop k,Vy (f x) (f y)=true) (h2:∀y,(l.take k).getLast?=some y→Vy (f x) (f y)=false):KY f x l=l.take k++x::l.drop k:=by
 have hl:l.reverse=(l.drop k).reverse++(l.take k).reverse:=by rw [←List.reverse_append,List.take_append_drop]
 have ht:(l.take k).reverse.takeWhile (fun y=>Vy (f x) (f y))=[]:=by
  cases hr:(l.take k).reverse with
  |nil=>rfl
  |cons a r=>
   have:=h2 a (by rw [List.getLast?_eq_head?_reverse,hr];rfl)
   rw [List.takeWhile_cons,this];rfl
 have hd:(l.take k).reverse.dropWhile (fun y=>Vy (f x) (f y))=(l.take k).reverse:=by
  cases hr:(l.take k).reverse with
  |nil=>rfl
  |cons a r=>
   have:=h2 a (by rw [List.getLast?_eq_head?_reverse,hr];rfl)
   rw [List.dropWhile_cons,this];rfl
 have h3:∀y∈(l.drop k).reverse,Vy (f x) (f y)=true:=fun y hy=>h1 y (List.mem_reverse.1 hy)
 unfold KY
 rw [hl,List.takeWhile_append_of_pos h3,List.dropWhile_append_of_pos h3,ht,hd,Lp,List.reverse_reverse,List.reverse_reverse]
theorem Qqt (g:α→β) (f:β→BS) (x:α) (l:List α):KY f (g x) (l.map g)=(KY (fun a=>f (g a)) x l).map g:=by
 unfold KY
 rw [←List.map_reverse,List.takeWhile_map,List.dropWhile_map,List.map_append,Ld,List.map_reverse,List.map_reverse]
 rfl
theorem AE (g:α→β) (f:β→BS) (l:List α):Ql f (l.map g)=(Ql (fun a=>f (g a)) l).map g:=by
 have key:∀(l a:List α),(l.map g).foldl (fun a x=>KY f x a) (a.map g)=(l.foldl (fun a x=>KY (fun a=>f (g a)) x a) a).map g:=by
  intro l
  induction l with
  |nil=>intro a;rfl
  |cons x l ih=>
   intro a
   rw [Ld,List.foldl_cons,List.foldl_cons,Qqt,ih]
 exact key l []
theorem ZW (f:α→BS) (l:List α):(Ql f l).length=l.length:=(Ou f l []).length_eq
theorem Gy (f:α→BS) (l:List α) (x:α):Ql f (l++[x])=KY f x (Ql f l):=by
 unfold Ql
 rw [List.foldl_append];rfl
def ZB (names:List BS) (i:Nat):List Nat:=Ql (fun j=>names.getD j []) (List.range i)
theorem QnY (names:List BS) (i:Nat):ZB names (i+1)=KY (fun j=>names.getD j []) i (ZB names i):=by
 unfold ZB
 rw [List.range_succ,Gy]
theorem KC (names:List BS) (i:Nat):(ZB names i).length=i:=by unfold ZB;rw [ZW,List.length_range]
theorem Wj {names:List BS} {i j:Nat} (h:j∈ZB names i):j<i:=List.mem_range.1 (((Ou _ (List.range i) []).mem_iff).1 h)
theorem Ob (f:α→BS) (l:List α) (d:α):(ZB (l.map f) l.length).map (fun j=>l.getD j d)=Ql f l:=by
 have e:(List.range l.length).map (fun j=>l.getD j d)=l:=by
  refine List.ext_getElem (by simp) fun j h1 h2=> ?_
  rw [List.getElem_map,List.getElem_range,Lg,Li h2];rfl
 have h:=AE (fun j=>l.getD j d) f (List.range l.length)
 rw [e] at h
 rw [h]
 unfold ZB
 have hc:∀(L a:List Nat),(∀j∈L,j<l.length)→(∀j∈a,j<l.length)→L.foldl (fun a x=>KY (fun j=>(l.map f).getD j []) x a) a=L.foldl (fun a x=>KY (fun j=>f (l.getD j d)) x a) a:=by
  have hn:∀j,j<l.length→(l.map f).getD j []=f (l.getD j d):=fun j hj=>by
   rw [Lg,Lg,List.getElem?_map,Li hj];rfl
  intro L
  induction L with
  |nil=>intro a _ _;rfl
  |cons x L ih=>
   intro a h1 h2
   have hx:=h1 x (by simp)
   have hi:KY (fun j=>(l.map f).getD j []) x a=KY (fun j=>f (l.getD j d)) x a:=by
    have hp:∀y∈a.reverse,Vy ((l.map f).getD x []) ((l.map f).getD y [])=Vy (f (l.getD x d)) (f (l.getD y d)):=fun y hy=>by
     rw [hn x hx,hn y (h2 y (List.mem_reverse.1 hy))]
    have ht:∀(r:List Nat),(∀y∈r,Vy ((l.map f).getD x []) ((l.map f).getD y [])=Vy (f (l.getD x d)) (f (l.getD y d)))→(r.takeWhile fun y=>Vy ((l.map f).getD x []) ((l.map f).getD y []))=(r.takeWhile fun y=>Vy (f (l.getD x d)) (f (l.getD y d)))∧(r.dropWhile fun y=>Vy ((l.map f).getD x []) ((l.map f).getD y []))=(r.dropWhile fun y=>Vy (f (l.getD x d)) (f (l.getD y d))):=by
     intro r
     induction r with
     |nil=>intro _;exact⟨rfl,rfl⟩
     |cons y r qg=>
      intro hr
      have h3:=hr y (by simp)
      obtain⟨i1,i2⟩:=qg fun z hz=>hr z (by simp [hz])
      simp only [List.takeWhile_cons,List.dropWhile_cons,h3,i1,i2,and_self]
    obtain⟨i1,i2⟩:=ht a.reverse hp
    unfold KY
    rw [i1,i2]
   rw [List.foldl_cons,List.foldl_cons,hi]
   refine ih _ (fun j hj=>h1 j (by simp [hj])) fun j hj=> ?_
   rcases Lb.1 ((G0 _ x a).mem_iff.1 hj) with e|e
   ·rw [e];exact hx
   ·exact h2 j e
 exact congrArg _ (hc (List.range l.length) [] (fun j hj=>List.mem_range.1 hj) (fun j hj=>by cases hj))
end Go.PN
namespace Go.PN
open Go.AI
variable {α : Type}
theorem GD {l:List α} {k:Nat} (d:α) (hk:k+1≤l.length):(l.take (k+1)).getLast?=some (l.getD k d):=by
 rw [List.getLast?_eq_getElem?,List.length_take,Nat.min_eq_left hk,List.getElem?_take,iP om,Lg,Nat.add_sub_cancel,Li (show k<l.length by omega)];rfl
theorem L2 (l:List α) (d:α) {j:Nat} (h:j<l.length):l.take (j+1)=l.take j++[l.getD j d]:=by
 rw [List.take_add_one,Li h,Lg,Li h];rfl
theorem wA {p:α→Prop} {l:List α} {k:Nat} (d:α) (h:∀j,k≤j→j<l.length→p (l.getD j d)):∀y∈l.drop k,p y:=fun y hy=>by
 obtain⟨i,hi,rfl⟩:=List.mem_iff_getElem.1 hy
 rw [List.length_drop] at hi
 have:=h (k+i) om om
 rw [Lg,Li om] at this
 rw [List.getElem_drop]
 exact this
theorem NB {c:α→CV} {d:α} {F:List α→Nat→CV} (hF:∀l j,F l j=c (l.getD j d)) (x:α) (l:List α) {k:Nat} (hk:k≤l.length) (j:Nat):Xs (F l) k (Xs (ao [c x]) 1 fun j=>c (l.getD (k+j) d)) j=F (l.take k++x::l.drop k) j:=by
 have ht:(l.take k).length=k:=by rw [List.length_take];omega
 rw [hF]
 simp only [Xs]
 by_cases h1:j<k
 ·rw [iP h1,hF,Lg,Lg,List.getElem?_append_left om,List.getElem?_take,iP h1]
 ·rw [iN h1,Lg (l:=_++_),List.getElem?_append_right om,ht]
  by_cases h2:j-k<1
  ·rw [iP h2,show j-k=0 from by omega];rfl
  ·obtain⟨q,hq⟩:∃q,j-k=q+1:=⟨j-k-1,by omega⟩
   rw [iN h2,hq,List.getElem?_cons_succ,List.getElem?_drop,Nat.add_sub_cancel,←Lg]
theorem L3 {x:CV} {f:Nat→CV} (hx:x.aX=true) (hf:∀j,(f j).aX=true) (n:Nat):∀j,j<n→(Xs (ao [x]) (1*1) f j).aX=true:=fun j _=>by
 unfold Xs
 split
 ·rename_i h
  obtain rfl:j=0:=by omega
  exact hx
 ·exact hf _
end Go.PN
namespace Go.Proofs.YtjegkdadeghpjaaGreatDoor
open Go.AI Go.PN Proofs.Tryz
attribute [local irreducible] aw Fa VA Vk Fh YO
theorem Az (t:Bool) (l:List BS) (hl:l.length≤1048576):Fa prog 80 [.c (YH t l)] (.c (YH true (Ql id l))):=by
 refine fA func80 fun C hC=>?_
 repeat' first|refine zV o0 ?_|refine zH o0 ?_ ?_<;>intro hb|fail
 refine Qh (fun z:Nat×Option Nat=>[(3,.c (gs z.2 1 z.1)),(7,.c (YH t l)),(8,.c (.int .i64 l.length)),(9,.c (.int .i64 z.1))]) (fun z=>gh z.2 9 (z.1*1) (Qi (Ql id (l.take z.1)))) (fun z=>z.1≤l.length∧(z.2=none→z.1=0)) (fun z=>l.length-z.1) (0,none) eB zZ ⟨Lz _,fun _=>rfl⟩ ?_
 rintro ⟨i,og⟩ ⟨hi,ax⟩
 dsimp only at hi ax⊢
 have ho:(Ql id (l.take i)).length=i:=by rw [ZW,List.length_take];omega
 repeat' first|refine zV o0 ?_|refine zH o0 ?_ ?_<;>intro hb|fail
 ·have jL:Ql id (l.take (i+1))=KY id (l.getD i []) (Ql id (l.take i)):=by rw [L2 l [] hb,Gy]
  generalize l.getD i []=s at*
  generalize Ql id (l.take i)=out at*
  refine Xh (QB.lV eE eE (wR (s:=1) ax)) rfl rfl ?_
  refine xS ?_
  refine xH ?_
  apply X5
  refine Ym (fun k:Nat=>[(3,.c (gs og 1 i)),(5,.c (.str (sB s))),(6,.c (.int .i64 k)),(7,.c (YH t l)),(8,.c (.int .i64 l.length)),(9,.c (.int .i64 i))]) (fun _=>gh og 9 i (Qi out)) (fun k=>k≤i∧KY id s out=out.take k++s::out.drop k) ?_ ?_
  ·apply Zc
   refine Qh (fun k:Nat=>[(3,.c (gs og 1 i)),(5,.c (.str (sB s))),(6,.c (.int .i64 k)),(7,.c (YH t l)),(8,.c (.int .i64 l.length)),(9,.c (.int .i64 i))]) (fun _=>gh og 9 i (Qi out)) (fun k=>k≤i∧∀j,k≤j→j<i→Vy s (out.getD j [])=true) (fun k=>k) i eB zZ ⟨Ac _,fun j h1 h2=>absurd h1 om⟩ ?_
   rintro k ⟨hk,bQ⟩
   cases k with
   |zero=>
    repeat' first|refine zV o0 ?_|refine zH o0 ?_ ?_<;>intro hb|fail
    exact Qb ⟨0,eB,zZ,Lz _,xu id s out 0 (wA [] fun j h1 h2=>bQ j h1 om) (fun y h=>by cases h)⟩
   |succ k=>
    obtain⟨g,rfl⟩:∃g,og=some g:=by
     cases og with
     |none=>have:=ax rfl;omega
     |some g=>exact⟨g,rfl⟩
    simp only [gs,gh]
    have e1:(k:Int)+1-1=(k:Int):=by omega
    have e2:decide ((k:Int)+1>0)=true:=Dt om
    all_goals try(have Z:=(oj e1 e2);(repeat' first|refine zV Z ?_|refine zH Z ?_ ?_<;>intro hb|fail);all_goals clear Z)
    ·refine Qb ⟨k,by omega,(zB (oj e1 e2)),zZ,by omega,fun j h1 h2=> ?_⟩
     by_cases e:j=k
     ·rw [e];exact hb
     ·exact bQ j om h2
    ·exact Qb ⟨k+1,(zB (oj e1 e2)),zZ,hk,xu id s out (k+1) (wA [] fun j h1 h2=>bQ j h1 om) (fun y h=>by rw [GD [] om] at h;injection h with h;rw [←h];exact hb)⟩
  ·rintro k ⟨hk,hn⟩
   rw [hn] at jL
   cases og with
   |none=>
    obtain rfl:i=0:=ax rfl
    obtain rfl:k=0:=by omega
    obtain rfl:out=[]:=Lh.1 ho
    simp only [gs,gh]
    repeat' first|refine zV o0 ?_|refine zH o0 ?_ ?_<;>intro hb|fail
    refine Yl [] [(0,0),(1,0),(2,0),(3,0),(5,0),(6,0),(7,0),(4,1),(8,1),(9,2),(10,0)] Qg kR Qf ?_
    refine xG ?_
    refine Z1 rfl (fun _ _=>QB.lg (by exact XY) eE eE) rfl rfl ?_
    refine ZA ?_
    refine Z1 rfl (fun _ _=>QB.lh (by exact XY) eE eE) rfl rfl ?_
    refine ZA ?_
    refine Qv (xs:=[.tmp 31]) (cells:=[.str (sB s)]) rfl rfl rfl rfl eE (by refine xS ?_;rfl) rfl om om qd rfl (by intro z hz;simp only [Lv] at hz;subst hz;simp [Op.operands]) Qf (fun gx iq=> ?_) (.inr ⟨rfl,rfl⟩)
    refine ZA ?_
    refine xq (size:=1) (n:=1) (k:=0) (g:=gx) (f:=ao [.str (sB s)]) (f2:=fun _=>.any) (cx:=.ab) (h2:=[]) rfl rfl rfl rfl (by exact XY) (by exact ZS) rfl om eE (by simp [Qa.get]) eE .ab (fun i hi=>absurd hi om) qc om (by simp [Qa.del]) Qf (fun gy kA=> ?_) (.inr ⟨rfl,rfl⟩)
    refine ZA ?_
    refine L1 (size:=1) (k:=1) (f2:=ao [.str (sB s)]) (cx:=.aO gy 1 0 1) rfl rfl rfl rfl (by exact XY) (by exact ZS) rfl om eE eE (.aO eE om (fun j hj=>by match j,hj with|0,_=>rfl)) om qc om Qf (fun gz ng=> ?_)
    refine ZA ?_
    refine QY (f':=Qi (Ql id (l.take (0+1)))) (fun j hj=>by rw [jL];match j,hj with|0,_=>rfl) ?_
    refine Xa (h':=[(gz,.cells 9 1 (Qi (Ql id (l.take (0+1)))))]) (Sl.le_refl _) (List.Sublist.cons_cons _ (.cons _ .slnil)) ?_
    exact Qb ⟨(0+1,some gz),by dsimp only;omega,eB,zZ,by dsimp only;omega,fun e=>by cases e⟩
   |some g=>
    simp only [gs,gh]
    obtain⟨cx,oA,kb⟩:=GC (P:=prog) (t:=66) (g:=g) (ty:=9) (m:=i) (f:=Qi out) (by exact XY) hk om
    repeat' first|refine zV o0 ?_|refine zH o0 ?_ ?_<;>intro hb|fail
    refine Yl [] [(0,0),(1,0),(2,0),(3,0),(5,0),(6,0),(7,0),(4,1),(8,1),(9,2),(10,0)] Qg kR Qf ?_
    refine xG ?_
    refine Z1 rfl (fun h _=>QB.nn (by exact XY) eE eE hk) rfl rfl ?_
    refine ZA ?_
    refine Z1 rfl (fun h _=>oA h _ _ _ _ eE eE) rfl rfl ?_
    refine ZA ?_
    refine Qv (xs:=[.tmp 31]) (cells:=[.str (sB s)]) rfl rfl rfl rfl eE (by refine xS ?_;rfl) rfl om om qd rfl (by intro z hz;simp only [Lv] at hz;subst hz;simp [Op.operands]) Qf (fun gx iq=> ?_) (.inr ⟨rfl,rfl⟩)
    replace iq:=Qa.ay iq
    dsimp only [Qa.ne] at iq
    refine Xw iq ?_
    refine xq (size:=1) (n:=1) (k:=i-k) (g:=gx) (f:=ao [.str (sB s)]) (f2:=fun j=>Qi out (k*1+j)) (cx:=cx) (h2:=[(g,.cells 9 i (Qi out))]) rfl rfl rfl rfl (by exact XY) (by exact ZS) rfl om (zE iq) (by simp [Qa.get]) (zE iq) (kb _ (zE iq)) (fun j _=>YI _ _) qc om (by simp [Qa.del]) Qf (fun gy kA=> ?_) (.inr ⟨rfl,rfl⟩)
    replace kA:=Qa.ay kA
    dsimp only [Qa.ne] at kA
    have J1:=oj iq kA
    refine Xw J1 ?_
    refine Wi (size:=1) (n:=k) (k:=1+(i-k)) (m:=i) (g:=g) (f:=Qi out) (f2:=Xs (ao [.str (sB s)]) (1*1) fun j=>Qi out (k*1+j)) (cx:=.aO gy 1 0 (1+(i-k))) (h2:=[(gy,.cells 9 (1+(i-k)) (Xs (ao [.str (sB s)]) (1*1) fun j=>Qi out (k*1+j)))]) rfl rfl rfl rfl (by exact XY) (by exact ZS) rfl om (zE J1) (zE J1) om (zE J1) (.aO (m:=1+(i-k)) (f':=Xs (ao [.str (sB s)]) (1*1) fun j=>Qi out (k*1+j)) (zE J1) om (fun j _=>by rw [Nz])) (L3 rfl (fun j=>YI _ _) _) om qc om (by simp [Qa.del,kA,X0]) Qf (fun gz ng=> ?_)
    replace ng:=Qa.ay ng
    dsimp only [Qa.ne] at ng
    have J2:=oj iq (oj kA ng)
    refine Xw J2 ?_
    have en:k+(1+(i-k))=i+1:=by omega
    rw [en]
    refine QY (f':=Qi (Ql id (l.take (i+1)))) (fun j hj=>by rw [jL];exact NB (c:=fun b=>CV.str (sB b)) (d:=[]) (F:=Qi) X0 s out (k:=k) om j) ?_
    refine Xa (h':=[(gz,.cells 9 (i+1) (Qi (Ql id (l.take (i+1)))))]) (Sl.le_refl _) (List.Sublist.cons_cons _ (.cons _ .slnil)) ?_
    exact Qb ⟨(i+1,some gz),by dsimp only;omega,(zB J2),zZ,by dsimp only;omega,fun e=>by cases e⟩
 ·obtain rfl:i=l.length:=by omega
  rw [Lk]
  refine Qj (h':=gh og 9 (l.length*1) (Qi (Ql id l))++[]) (by rw [Lp]) ?_
  refine Z8 (t:=2) (s:=1) (f:=Qi (Ql id l)) (f':=Qi (Ql id l)) ax (show l.length=(Ql id l).length from(ZW id l).symm) eE (fun g _=>hC g) (fun i _=>rfl) eE ?_
  refine xS ?_
  refine xT hC ?_
  exact .one (.c BE)
end Go.Proofs.YtjegkdadeghpjaaGreatDoor
namespace Go.PN
def zP (l:List Nat):List Int:=l.map fun(n:Nat)=>(n:Int)
theorem Oc (l:List Nat):(zP l).length=l.length:=by unfold zP;rw [Lw]
theorem qw (l:List Nat) (i:Nat):(zP l).getD i 0=((l.getD i 0:Nat):Int):=by
 unfold zP
 rw [Lg,Lg,List.getElem?_map]
 cases l[i]?<;>rfl
theorem QuO (l:List Nat) (k i:Nat):zP (l.take k++i::l.drop k)=(zP l).take k++(i:Int)::(zP l).drop k:=by
 unfold zP
 rw [List.map_append,Ld,List.map_take,List.map_drop]
end Go.PN
namespace Go.Proofs.YtjegkdadeghpjaaGreatDoor
open Go.AI Go.PN Proofs.Tryz
attribute [local irreducible] aw Fa VA Vk Fh YO
theorem GF (t:Bool) (l:List BS) (hl:l.length≤1048576):Fa prog 79 [.c (YH t l)] (.c (is true (zP (ZB l l.length)))):=by
 refine fA func79 fun C hC=>?_
 repeat' first|refine zV o0 ?_|refine zH o0 ?_ ?_<;>intro hb|fail
 refine Qh (fun z:Nat×Option Nat=>[(0,.c (YH t l)),(3,.c (gs z.2 1 z.1)),(7,.c (.int .i64 l.length)),(8,.c (.int .i64 z.1))]) (fun z=>gh z.2 3 (z.1*1) (gD (zP (ZB l z.1)))) (fun z=>z.1≤l.length∧(z.2=none→z.1=0)) (fun z=>l.length-z.1) (0,none) eB zZ ⟨Lz _,fun _=>rfl⟩ ?_
 rintro ⟨i,og⟩ ⟨hi,ax⟩
 dsimp only at hi ax⊢
 have ho:(ZB l i).length=i:=KC l i
 have aD:∀j,j<i→(ZB l i).getD j 0<i:=fun j hj=>Wj (ZV _ _ om)
 repeat' first|refine zV o0 ?_|refine zH o0 ?_ ?_<;>intro hb|fail
 ·have jL:=QnY l i
  generalize ZB l i=out at*
  refine Xh (QB.lV eE eE (wR (s:=1) ax)) rfl rfl ?_
  refine xS ?_
  refine xH ?_
  apply X5
  refine Ym (fun k:Nat=>[(0,.c (YH t l)),(3,.c (gs og 1 i)),(4,.c (.int .i64 i)),(5,.c (.int .i64 k)),(7,.c (.int .i64 l.length)),(8,.c (.int .i64 i))]) (fun _=>gh og 3 i (gD (zP out))) (fun k=>k≤i∧KY (fun j=>l.getD j []) i out=out.take k++i::out.drop k) ?_ ?_
  ·apply Zc
   refine Qh (fun k:Nat=>[(0,.c (YH t l)),(3,.c (gs og 1 i)),(4,.c (.int .i64 i)),(5,.c (.int .i64 k)),(7,.c (.int .i64 l.length)),(8,.c (.int .i64 i))]) (fun _=>gh og 3 i (gD (zP out))) (fun k=>k≤i∧∀j,k≤j→j<i→Vy (l.getD i []) (l.getD (out.getD j 0) [])=true) (fun k=>k) i eB zZ ⟨Ac _,fun j h1 h2=>absurd h1 om⟩ ?_
   rintro k ⟨hk,bQ⟩
   cases k with
   |zero=>
    repeat' first|refine zV o0 ?_|refine zH o0 ?_ ?_<;>intro hb|fail
    refine Xl 17 Qg kR ?_
    repeat' first|refine zV o0 ?_|refine zH o0 ?_ ?_<;>intro hb|fail
    exact Qb ⟨0,eB,zZ,Lz _,xu (fun j=>l.getD j []) i out 0 (wA 0 fun j h1 h2=>bQ j h1 om) (fun y h=>by cases h)⟩
   |succ k=>
    obtain⟨g,rfl⟩:∃g,og=some g:=by
     cases og with
     |none=>have:=ax rfl;omega
     |some g=>exact⟨g,rfl⟩
    simp only [gs,gh]
    have e1:(k:Int)+1-1=(k:Int):=by omega
    have e2:decide ((k:Int)+1>0)=true:=Dt om
    have hq:=aD k om
    have e3:=qw out k
    generalize Rb:out.getD k 0=q at*
    have fk:q<l.length:=by omega
    all_goals try(have Z:=(oj e1 (oj e2 e3));(repeat' first|refine zV Z ?_|refine zH Z ?_ ?_<;>intro hb|fail);all_goals clear Z)
    refine Xl 17 Qg kR ?_
    all_goals try(have Z:=(oj e1 (oj e2 e3));(repeat' first|refine zV Z ?_|refine zH Z ?_ ?_<;>intro hb|fail);all_goals clear Z)
    ·refine Qb ⟨k,by omega,(zB (oj e1 (oj e2 e3))),zZ,by omega,fun j h1 h2=> ?_⟩
     by_cases e:j=k
     ·rw [e,Rb];exact hb
     ·exact bQ j om h2
    ·exact Qb ⟨k+1,(zB (oj e1 (oj e2 e3))),zZ,hk,xu (fun j=>l.getD j []) i out (k+1) (wA 0 fun j h1 h2=>bQ j h1 om) (fun y h=>by rw [GD 0 om,Rb] at h;injection h with h;rw [←h];exact hb)⟩
  ·rintro k ⟨hk,hn⟩
   rw [hn] at jL
   cases og with
   |none=>
    obtain rfl:i=0:=ax rfl
    obtain rfl:k=0:=by omega
    obtain rfl:out=[]:=Lh.1 ho
    simp only [gs,gh]
    repeat' first|refine zV o0 ?_|refine zH o0 ?_ ?_<;>intro hb|fail
    refine Yl [] [(0,0),(1,0),(2,0),(3,0),(5,0),(6,0),(7,0),(4,1),(8,1),(9,2),(10,0)] Qg kR Qf ?_
    refine xG ?_
    refine Z1 rfl (fun _ _=>QB.lg (by exact Kt) eE eE) rfl rfl ?_
    refine ZA ?_
    refine Z1 rfl (fun _ _=>QB.lh (by exact Kt) eE eE) rfl rfl ?_
    refine ZA ?_
    refine Qv (xs:=[.tmp 35]) (cells:=[.int .i64 ((0:Nat):Int)]) rfl rfl rfl rfl eE (by refine xS ?_;rfl) rfl om om qd rfl (by intro z hz;simp only [Lv] at hz;subst hz;simp [Op.operands]) Qf (fun gx iq=> ?_) (.inr ⟨rfl,rfl⟩)
    refine ZA ?_
    refine xq (size:=1) (n:=1) (k:=0) (g:=gx) (f:=ao [.int .i64 ((0:Nat):Int)]) (f2:=fun _=>.any) (cx:=.ab) (h2:=[]) rfl rfl rfl rfl (by exact Kt) (by exact wX) rfl om eE (by simp [Qa.get]) eE .ab (fun i hi=>absurd hi om) qc om (by simp [Qa.del]) Qf (fun gy kA=> ?_) (.inr ⟨rfl,rfl⟩)
    refine ZA ?_
    refine L1 (size:=1) (k:=1) (f2:=ao [.int .i64 ((0:Nat):Int)]) (cx:=.aO gy 1 0 1) rfl rfl rfl rfl (by exact Kt) (by exact wX) rfl om eE eE (.aO eE om (fun j hj=>by match j,hj with|0,_=>rfl)) om qc om Qf (fun gz ng=> ?_)
    refine ZA ?_
    refine QY (f':=gD (zP (ZB l (0+1)))) (fun j hj=>by rw [jL];match j,hj with|0,_=>rfl) ?_
    refine Xa (h':=[(gz,.cells 3 1 (gD (zP (ZB l (0+1)))))]) (Sl.le_refl _) (List.Sublist.cons_cons _ (.cons _ .slnil)) ?_
    exact Qb ⟨(0+1,some gz),by dsimp only;omega,eB,zZ,by dsimp only;omega,fun e=>by cases e⟩
   |some g=>
    simp only [gs,gh]
    obtain⟨cx,oA,kb⟩:=GC (P:=prog) (t:=98) (g:=g) (ty:=3) (m:=i) (f:=gD (zP out)) (by exact Kt) hk om
    repeat' first|refine zV o0 ?_|refine zH o0 ?_ ?_<;>intro hb|fail
    refine Yl [] [(0,0),(1,0),(2,0),(3,0),(5,0),(6,0),(7,0),(4,1),(8,1),(9,2),(10,0)] Qg kR Qf ?_
    refine xG ?_
    refine Z1 rfl (fun h _=>QB.nn (by exact Kt) eE eE hk) rfl rfl ?_
    refine ZA ?_
    refine Z1 rfl (fun h _=>oA h _ _ _ _ eE eE) rfl rfl ?_
    refine ZA ?_
    refine Qv (xs:=[.tmp 35]) (cells:=[.int .i64 (i:Int)]) rfl rfl rfl rfl eE (by refine xS ?_;rfl) rfl om om qd rfl (by intro z hz;simp only [Lv] at hz;subst hz;simp [Op.operands]) Qf (fun gx iq=> ?_) (.inr ⟨rfl,rfl⟩)
    replace iq:=Qa.ay iq
    dsimp only [Qa.ne] at iq
    refine Xw iq ?_
    refine xq (size:=1) (n:=1) (k:=i-k) (g:=gx) (f:=ao [.int .i64 (i:Int)]) (f2:=fun j=>gD (zP out) (k*1+j)) (cx:=cx) (h2:=[(g,.cells 3 i (gD (zP out)))]) rfl rfl rfl rfl (by exact Kt) (by exact wX) rfl om (zE iq) (by simp [Qa.get]) (zE iq) (kb _ (zE iq)) (fun j _=>rfl) qc om (by simp [Qa.del]) Qf (fun gy kA=> ?_) (.inr ⟨rfl,rfl⟩)
    replace kA:=Qa.ay kA
    dsimp only [Qa.ne] at kA
    have J1:=oj iq kA
    refine Xw J1 ?_
    refine Wi (size:=1) (n:=k) (k:=1+(i-k)) (m:=i) (g:=g) (f:=gD (zP out)) (f2:=Xs (ao [.int .i64 (i:Int)]) (1*1) fun j=>gD (zP out) (k*1+j)) (cx:=.aO gy 1 0 (1+(i-k))) (h2:=[(gy,.cells 3 (1+(i-k)) (Xs (ao [.int .i64 (i:Int)]) (1*1) fun j=>gD (zP out) (k*1+j)))]) rfl rfl rfl rfl (by exact Kt) (by exact wX) rfl om (zE J1) (zE J1) om (zE J1) (.aO (m:=1+(i-k)) (f':=Xs (ao [.int .i64 (i:Int)]) (1*1) fun j=>gD (zP out) (k*1+j)) (zE J1) om (fun j _=>by rw [Nz])) (L3 rfl (fun j=>rfl) _) om qc om (by simp [Qa.del,kA,gD]) Qf (fun gz ng=> ?_)
    replace ng:=Qa.ay ng
    dsimp only [Qa.ne] at ng
    have J2:=oj iq (oj kA ng)
    refine Xw J2 ?_
    have en:k+(1+(i-k))=i+1:=by omega
    rw [en]
    refine QY (f':=gD (zP (ZB l (i+1)))) (fun j hj=>by rw [jL,QuO];exact NB (c:=CV.int .i64) (d:=0) (F:=gD) (fun _ _=>rfl) (i:Int) (zP out) (k:=k) (by rw [Oc];omega) j) ?_
    refine Xa (h':=[(gz,.cells 3 (i+1) (gD (zP (ZB l (i+1)))))]) (Sl.le_refl _) (List.Sublist.cons_cons _ (.cons _ .slnil)) ?_
    exact Qb ⟨(i+1,some gz),by dsimp only;omega,(zB J2),zZ,by dsimp only;omega,fun e=>by cases e⟩
 ·obtain rfl:i=l.length:=by omega
  refine Qj (h':=gh og 3 (l.length*1) (gD (zP (ZB l l.length)))++[]) (by rw [Lp]) ?_
  refine Z8 (t:=2) (s:=1) (f:=gD (zP (ZB l l.length))) (f':=gD (zP (ZB l l.length))) ax (show l.length=(zP (ZB l l.length)).length by rw [Oc,KC]) eE (fun g _=>hC g) (fun i _=>rfl) eE ?_
  refine xS ?_
  refine xT hC ?_
  exact .one (.c Qt9)
end Go.Proofs.YtjegkdadeghpjaaGreatDoor
namespace Go.PN
open Go.AI
theorem Ys {α β:Type} (f:α→β) (l:List α) (d:α) {j:Nat} (h:j<l.length):(l.map f).take (j+1)=(l.map f).take j++[f (l.getD j d)]:=by
 rw [L2 (l.map f) (f d) (by rw [Lw];exact h)]
 congr 2
 rw [Lg,Lg,List.getElem?_map,Li h];rfl
theorem Y7 {α β:Type} (f:α→β) (l:List α) {j:Nat} (h:j≤l.length):((l.map f).take j).length=j:=by
 rw [List.length_take,Lw];omega
theorem QnZ (L:List Xk):(ZB (L.map Xk.name) L.length).map (fun p=>aV (L.getD p aU))=JQ L:=by
 have h:=congrArg (List.map aV) (Ob Xk.name L aU)
 rw [List.map_map] at h
 refine h.trans ?_
 unfold JQ
 rw [AE aV Xk.name L]
 rfl
end Go.PN
namespace Go.Proofs.YtjegkdadeghpjaaGreatDoor
open Go.AI Go.PN Proofs.Tryz
attribute [local irreducible] aw Fa VA Vk Fh YO
theorem GG (L:List Xk) (hO:∀g∈L,tS g) (hl:L.length≤1048576):Fa prog 78 [.c (ca true L)] (.c (ca true (JQ L))):=by
 have nL:L.length≤1099511627776:=by omega
 refine fA func78 fun C hC=>?_
 apply X5
 apply YW
 refine xH ?_
 apply X5
 apply YW
 refine xH ?_
 apply X5
 refine Ym (fun og:Option Nat=>[(0,.c (ca true L)),(3,.c (gs og 1 L.length))]) (fun og=>gh og 9 (L.length*1) (Qi (L.map Xk.name))) (fun og=>og=none→L.length=0) ?_ ?_
 ·refine zA o0 ?_
  refine Qh (fun z:Nat×Option Nat=>[(0,.c (ca true L)),(3,.c (gs z.2 1 z.1)),(10,.c (ca true L)),(11,.c (.int .i64 L.length)),(12,.c (.int .i64 z.1))]) (fun z=>gh z.2 9 (z.1*1) (Qi ((L.map Xk.name).take z.1))) (fun z=>z.1≤L.length∧(z.2=none→z.1=0)) (fun z=>L.length-z.1) (0,none) eB zZ ⟨Lz _,fun _=>rfl⟩ ?_
  rintro ⟨j,og⟩ ⟨hj,ax⟩
  dsimp only at hj ax⊢
  repeat' first|refine zV o0 ?_|refine zH o0 ?_ ?_<;>intro hb|fail
  ·have hT:=Ys Xk.name L aU hb
   have dE:=Y7 Xk.name L hj
   generalize hv:L.getD j aU=x at*
   refine yA hv fun g5 aM=>?_
   obtain⟨nm,kd,kk,aZ,dm⟩:=x
   dsimp only at*
   refine zA (oj hv aM) ?_
   refine QT (pre:=[(g5,.cells 71 7 (ao (Zi ⟨nm,kd,kk,aZ,dm⟩)))]) rfl rfl rfl rfl rfl rfl rfl (zE (oj hv aM)) (zE (oj hv aM)) (by rfl) om om (zE (oj hv aM)) om (by exact ax) (zE (oj hv aM)) (by rfl) (by rfl) qb qc om (by exact Yq dE nm) fun gq bh=> ?_
   replace bh:=Qa.ay bh
   first|dsimp only [Qa.ne,gh] at bh|dsimp only [Qa.ne] at bh|skip
   have J1:=oj hv (oj aM bh)
   refine yS J1 ?_
   refine zA J1 ?_
   rw [←hT]
   refine Xa (h':=gh (some gq) 9 (j+1) (Qi ((L.map Xk.name).take (j+1)))) (Sl.le_refl _) (.cons _ (Lr _)) ?_
   exact Qb ⟨(j+1,some gq),by dsimp only;omega,(zB J1),zZ,by dsimp only;omega,fun e=>by cases e⟩
  ·obtain rfl:j=L.length:=by omega
   rw [Ly (by rw [Lw];exact Ac _)]
   exact Qb ⟨og,eB,zZ,ax⟩
 ·rintro og ax
  have f1:=GF true (L.map Xk.name) (by rw [Lw];omega)
  rw [Lw] at f1
  have fC:=KC (L.map Xk.name) L.length
  have hP:∀j,j<L.length→(ZB (L.map Xk.name) L.length).getD j 0<L.length:=fun j hj=>Wj (ZV _ _ om)
  rw [←QnZ]
  generalize ZB (L.map Xk.name) L.length=Q at*
  have aY:=Oc Q
  refine Qj (h':=gh og 9 (L.length*1) (Qi (L.map Xk.name))++[]) (by rw [Lp]) ?_
  refine Z8 (t:=3) (s:=1) (f:=Qi (L.map Xk.name)) (f':=Qi (L.map Xk.name)) ax (show L.length=(L.map Xk.name).length by rw [Lw]) eE (fun g _=>hC g) (fun i _=>rfl) eE ?_
  refine xS ?_
  refine Zg (oj aY fC) f1 ?_
  refine Qh (fun z:Nat×Option Nat=>[(0,.c (ca true L)),(6,.c (gs z.2 7 z.1)),(23,.c (is true (zP Q))),(24,.c (.int .i64 L.length)),(25,.c (.int .i64 z.1))]) (fun z=>gh z.2 71 (z.1*7) (X1 ((Q.map fun p=>aV (L.getD p aU)).take z.1))) (fun z=>z.1≤L.length∧(z.2=none→z.1=0)) (fun z=>L.length-z.1) (0,none) (zB (oj aY fC)) zZ ⟨Lz _,fun _=>rfl⟩ ?_
  rintro ⟨j,og⟩ ⟨hj,ax⟩
  dsimp only at hj ax⊢
  by_cases ba:j<L.length
  ·have hT:=Ys (fun p=>aV (L.getD p aU)) Q 0 (show j<Q.length by omega)
   have dE:=Y7 (fun p=>aV (L.getD p aU)) Q (show j≤Q.length by omega)
   have fk:=hP j ba
   have hz:=qw Q j
   generalize Q.getD j 0=q at*
   have hx:=hO (L.getD q aU) (ZV L aU fk)
   generalize hv:L.getD q aU=x at*
   obtain⟨hd,kh,jV,PZ⟩:=hx
   have iG:decide (j<L.length)=true:=Dt ba
   refine zA (oj aY (oj fC (oj hz (oj hv iG)))) ?_
   refine yA (oj aY (oj fC (oj hz (oj hv iG)))) fun g5 aM=>?_
   by_cases cz:Jo x.kind
   ·have hN:=Gv cz
    rw [hN] at hT
    clear hN
    have hc:=Az true x.ak om
    obtain⟨nm,kd,kk,aZ,dm⟩:=x
    dsimp only at*
    rcases cz with e|e|e|e
    all_goals
     have b0:(kd==0)=_:=congrArg (·==0) e
     have b1:(kd==1)=_:=congrArg (·==1) e
     have b2:(kd==2)=_:=congrArg (·==2) e
     have b4:(kd==4)=_:=congrArg (·==4) e
     refine Zg (oj aY (oj fC (oj hz (oj hv (oj iG (oj aM (oj b0 (oj b1 (oj b2 b4))))))))) hc ?_
     refine QT (pre:=[(g5,.cells 71 7 (ao (Zi ⟨nm,kd,kk,Ql id aZ,dm⟩)))]) rfl rfl rfl rfl rfl rfl rfl (zE (oj aY (oj fC (oj hz (oj hv (oj iG (oj aM (oj b0 (oj b1 (oj b2 b4)))))))))) (zE (oj aY (oj fC (oj hz (oj hv (oj iG (oj aM (oj b0 (oj b1 (oj b2 b4)))))))))) (by rfl) om om (zE (oj aY (oj fC (oj hz (oj hv (oj iG (oj aM (oj b0 (oj b1 (oj b2 b4)))))))))) om (by exact ax) (zE (oj aY (oj fC (oj hz (oj hv (oj iG (oj aM (oj b0 (oj b1 (oj b2 b4)))))))))) (by rfl) (by rfl) qb qc om (by exact Kv dE ⟨nm,kd,kk,Ql id aZ,dm⟩) fun gq bh=> ?_
     replace bh:=Qa.ay bh
     first|dsimp only [Qa.ne,gh] at bh|dsimp only [Qa.ne] at bh|skip
     have J2:=oj aY (oj fC (oj hz (oj hv (oj iG (oj aM (oj b0 (oj b1 (oj b2 (oj b4 bh)))))))))
     refine yS J2 ?_
     refine zA J2 ?_
     rw [←hT]
     refine Xa (h':=gh (some gq) 71 ((j+1)*7) (X1 ((Q.map fun p=>aV (L.getD p aU)).take (j+1)))) (Sl.le_refl _) (.cons _ (Lr _)) ?_
     exact Qb ⟨(j+1,some gq),by dsimp only;omega,(zB J2),zZ,by dsimp only;omega,fun e=>by cases e⟩
   ·by_cases h8:x.kind=8
    ·obtain⟨nm,kd,kk,aZ,dm⟩:=x
     dsimp only at*
     subst h8
     cases aZ with
     |nil=>exact absurd kh (by simp)
     |cons a aZ=>
      have hN:=LZ (x:=⟨nm,8,kk,a::aZ,dm⟩) rfl rfl
      dsimp only at hN
      rw [hN] at hT
      clear hN
      have hi5:1≤aZ.length:=by have:=PZ rfl;simpa using this
      have hi6:aZ.length≤15:=by simpa using jV
      refine zA (oj aY (oj fC (oj hz (oj hv (oj iG aM))))) ?_
      refine Yl [(g5,.cells 71 7 (ao (Zi ⟨nm,8,kk,a::aZ,dm⟩)))] [(0,0),(1,0),(2,0),(3,0),(5,0),(6,0),(7,0),(8,0),(4,1),(9,1),(10,0),(11,2)] Qg kR qa ?_
      have J3:=oj aY (oj fC (oj hz (oj hv (oj iG aM))))
      refine yG J3 ?_
      have kq:(Ql id aZ).length=aZ.length:=ZW id aZ
      refine X9 (args:=[.c (YH true aZ)]) rfl (Az true aZ om) rfl rfl rfl (fun _ _=>by
       refine yS J3 ?_
       exact .c (.row (fun h=>h) fun i _=>by
        rw [X0,show(a::aZ).getD (1+i) []=aZ.getD i [] from by rw [Nat.add_comm];rfl]
        exact .refl _)) ?_
      refine Xw J3 ?_
      refine Qv (xs:=[.tmp 54]) (cells:=[.str (sB a)]) rfl rfl rfl rfl (zE J3) (by refine yS J3 ?_;rfl) rfl om om qd rfl (by intro z hz;simp only [Lv] at hz;subst hz;simp [Op.operands]) qa (fun g34 n_34=> ?_) (.inr ⟨rfl,rfl⟩)
      have J4:=oj aY (oj fC (oj hz (oj hv (oj iG aM))))
      refine Xw J4 ?_
      refine Wi (size:=1) (n:=1) (k:=(Ql id aZ).length) (m:=1*1) (g:=g34) (f:=ao [.str (sB a)]) (f2:=Qi (Ql id aZ)) (cx:=YH true (Ql id aZ)) (h2:=(g5,.cells 71 7 (ao (Zi ⟨nm,8,kk,a::aZ,dm⟩)))::gh og 71 (j*7) (X1 ((Q.map fun p=>aV (L.getD p aU)).take j))) rfl rfl rfl rfl (by exact XY) (by exact ZS) rfl om (zE J4) (by simp [Qa.get]) om (zE J4)
       .row (fun i _=>YI _ i) om qc om (by simp [Qa.del]) qa (fun uQ E4=> ?_) (.inr ⟨rfl,rfl⟩)
      have r1:uQ≠g5:=fun e=>E4 (by subst e;simp [Qa.keys])
      have r2:=eq_false r1
      have r3:=eq_false r1.symm
      have J5:=oj aY (oj fC (oj hz (oj hv (oj iG (oj aM (oj r2 r3))))))
      refine Xw J5 ?_
      refine Xc (FP':=[]) rfl rfl rfl rfl rfl (zE J5) (zE J5) (zE J5) (zE J5) (fun _ e=>by cases e) rfl rfl (show 4≤7 from by omega) rfl Qf ?_
      refine yS J5 ?_
      refine oZ ?_
      refine QY (f':=Qi (a::(Ql id aZ))) (fun i hi=>by
       match i with
       |0=>rw [X0];rfl
       |i+1=>rw [X0];unfold Xs;rw [iN om,X0];rfl) ?_
      have dZ:(a::(Ql id aZ)).length=1+(Ql id aZ).length:=by rw [Lc,Nat.add_comm]
      refine Qj (h':=(g5,.cells 71 7 (ao (mi ⟨nm,8,kk,a::aZ,dm⟩ (.aO uQ 1 0 (1+(Ql id aZ).length)))))::(gh (some uQ) 9 ((1+(Ql id aZ).length)*1) (Qi (a::(Ql id aZ)))++gh og 71 (j*7) (X1 ((Q.map fun p=>aV (L.getD p aU)).take j)))) (by rw [Ad];exact List.Perm.swap _ _ _) ?_
      refine Q7 (og:=some uQ) (s:=1) (n:=1+(Ql id aZ).length) (j0:=3) (m:=7) (f:=ao (mi ⟨nm,8,kk,a::aZ,dm⟩ (.aO uQ 1 0 (1+(Ql id aZ).length)))) (f':=ao (Zi ⟨nm,8,kk,a::(Ql id aZ),dm⟩)) (fp:=Qi (a::(Ql id aZ))) rfl (by show CV.row true 1 _ _=CV.row true 1 _ _;rw [dZ]) (fun i hi h3=>by match i,hi,h3 with|0,_,_=>rfl|1,_,_=>rfl|2,_,_=>rfl|3,_,h=>exact absurd rfl h|4,_,_=>rfl|5,_,_=>rfl|6,_,_=>rfl) (fun e=>by cases e) (fun g _=>hC g) ?_
      refine yS J5 ?_
      refine zA J5 ?_
      refine QT (pre:=[(g5,.cells 71 7 (ao (Zi ⟨nm,8,kk,a::(Ql id aZ),dm⟩)))]) rfl rfl rfl rfl rfl rfl rfl (zE J5) (zE J5) (by rfl) om om (zE J5) om (by exact ax) (zE J5) (by rfl) (by rfl) qb qc om (by exact Kv dE ⟨nm,8,kk,a::(Ql id aZ),dm⟩) fun gq bh=> ?_
      replace bh:=Qa.ay bh
      first|dsimp only [Qa.ne,gh] at bh|dsimp only [Qa.ne] at bh|skip
      have J6:=oj aY (oj fC (oj hz (oj hv (oj iG (oj aM (oj r2 (oj r3 bh)))))))
      refine yS J6 ?_
      refine zA J6 ?_
      rw [←hT]
      refine Xa (h':=gh (some gq) 71 ((j+1)*7) (X1 ((Q.map fun p=>aV (L.getD p aU)).take (j+1)))) (Sl.le_refl _) (.cons _ (Lr _)) ?_
      exact Qb ⟨(j+1,some gq),by dsimp only;omega,(zB J6),zZ,by dsimp only;omega,fun e=>by cases e⟩
    ·have hN:=Ip cz h8
     rw [hN] at hT
     clear hN
     obtain⟨nm,kd,kk,aZ,dm⟩:=x
     dsimp only at*
     have b0:(kd==0)=false:=by unfold Jo at cz;simp only [beq_eq_false_iff_ne];omega
     have b1:(kd==1)=false:=by unfold Jo at cz;simp only [beq_eq_false_iff_ne];omega
     have b2:(kd==2)=false:=by unfold Jo at cz;simp only [beq_eq_false_iff_ne];omega
     have b4:(kd==4)=false:=by unfold Jo at cz;simp only [beq_eq_false_iff_ne];omega
     have b8:(kd==8)=false:=by simp only [beq_eq_false_iff_ne];omega
     refine zA (oj aY (oj fC (oj hz (oj hv (oj iG (oj aM (oj b0 (oj b1 (oj b2 (oj b4 b8)))))))))) ?_
     refine Qw (xs:=[]) (cells:=[]) rfl rfl rfl (by exact XY) (by refine yS (oj aY (oj fC (oj hz (oj hv (oj iG (oj aM (oj b0 (oj b1 (oj b2 (oj b4 b8)))))))))) ?_;rfl) rfl om om (by simp) rfl fun Ph E2=> ?_
     have r0:g5≠Ph:=fun e=>E2 (by subst e;simp [Qa.keys])
     have r1:=eq_false r0
     have r2:=eq_false r0.symm
     have J7:=oj aY (oj fC (oj hz (oj hv (oj iG (oj aM (oj b0 (oj b1 (oj b2 (oj b4 (oj b8 (oj r1 r2)))))))))))
     refine yS J7 ?_
     refine zA J7 ?_
     refine YA (size:=1) (n:=0) (k:=aZ.length) (m:=0) (g:=Ph) (f:=ao []) (f2:=Qi aZ) (cx:=YH true aZ) (h2:=(g5,.cells 71 7 (ao (Zi ⟨nm,kd,kk,aZ,dm⟩)))::gh og 71 (j*7) (X1 ((Q.map fun p=>aV (L.getD p aU)).take j))) rfl rfl rfl (by exact XY) (by exact ZS) rfl om (zE J7) (by simp [Qa.get]) om (zE J7) .row (fun i _=>YI _ i) om qc om (by simp [Qa.del]) fun uP E3=> ?_
     have r3:uP≠g5:=fun e=>E3 (by subst e;simp [Qa.keys])
     have r4:=eq_false r3
     have r5:=eq_false r3.symm
     have J8:=oj aY (oj fC (oj hz (oj hv (oj iG (oj aM (oj b0 (oj b1 (oj b2 (oj b4 (oj b8 (oj r1 (oj r2 (oj r4 r5)))))))))))))
     refine yS J8 ?_
     refine yH J8 ?_
     refine Kn rfl rfl rfl rfl (zE J8) (zE J8) (zE J8) (zE J8) (fun _ e=>by cases e) (by rfl) (by rfl) (show 4≤7 from by omega) rfl ?_
     refine yS J8 ?_
     refine QY (f':=Qi aZ) (fun i hi=>by unfold Xs;rw [iN om];rfl) ?_
     refine Qj (h':=(g5,.cells 71 7 (ao (mi ⟨nm,kd,kk,aZ,dm⟩ (.aO uP 1 0 aZ.length))))::(gh (some uP) 9 (aZ.length*1) (Qi aZ)++gh og 71 (j*7) (X1 ((Q.map fun p=>aV (L.getD p aU)).take j)))) (by rw [Ad];exact List.Perm.swap _ _ _) ?_
     refine Q7 (og:=some uP) (s:=1) (n:=aZ.length) (j0:=3) (m:=7) (f:=ao (mi ⟨nm,kd,kk,aZ,dm⟩ (.aO uP 1 0 aZ.length))) (f':=ao (Zi ⟨nm,kd,kk,aZ,dm⟩)) (fp:=Qi aZ) rfl rfl (fun i hi h3=>by match i,hi,h3 with|0,_,_=>rfl|1,_,_=>rfl|2,_,_=>rfl|3,_,h=>exact absurd rfl h|4,_,_=>rfl|5,_,_=>rfl|6,_,_=>rfl) (fun e=>by cases e) (fun g _=>hC g) ?_
     refine yS J8 ?_
     refine zA J8 ?_
     refine QT (pre:=[(g5,.cells 71 7 (ao (Zi ⟨nm,kd,kk,aZ,dm⟩)))]) rfl rfl rfl rfl rfl rfl rfl (zE J8) (zE J8) (by rfl) om om (zE J8) om (by exact ax) (zE J8) (by rfl) (by rfl) qb qc om (by exact Kv dE ⟨nm,kd,kk,aZ,dm⟩) fun gq bh=> ?_
     replace bh:=Qa.ay bh
     first|dsimp only [Qa.ne,gh] at bh|dsimp only [Qa.ne] at bh|skip
     have J9:=oj aY (oj fC (oj hz (oj hv (oj iG (oj aM (oj b0 (oj b1 (oj b2 (oj b4 (oj b8 (oj r1 (oj r2 (oj r4 (oj r5 bh))))))))))))))
     refine yS J9 ?_
     refine zA J9 ?_
     rw [←hT]
     refine Xa (h':=gh (some gq) 71 ((j+1)*7) (X1 ((Q.map fun p=>aV (L.getD p aU)).take (j+1)))) (Sl.le_refl _) (.cons _ (Lr _)) ?_
     exact Qb ⟨(j+1,some gq),by dsimp only;omega,(zB J9),zZ,by dsimp only;omega,fun e=>by cases e⟩
  ·obtain rfl:j=L.length:=by omega
   have dZ:(Q.map fun p=>aV (L.getD p aU)).length=L.length:=by rw [Lw];exact fC
   rw [Ly om]
   have hY:decide (L.length<L.length)=false:=De (Nat.lt_irrefl _)
   refine zA (oj aY (oj fC hY)) ?_
   refine Qj (h':=gh og 71 (L.length*7) (X1 (Q.map fun p=>aV (L.getD p aU)))++[]) (by rw [Lp]) ?_
   refine Z8 (t:=2) (s:=7) (f:=X1 (Q.map fun p=>aV (L.getD p aU))) (f':=X1 (Q.map fun p=>aV (L.getD p aU))) ax dZ.symm (zE (oj aY (oj fC hY))) (fun g _=>hC g) (fun i _=>rfl) (zE (oj aY (oj fC hY))) ?_
   refine yS (oj aY (oj fC hY)) ?_
   refine yT hC (oj aY (oj fC hY)) ?_
   exact .one (.c JM)
end Go.Proofs.YtjegkdadeghpjaaGreatDoor
namespace Go.PN
open Go.AI
theorem MO {α β:Type} (f:α→BS) (g:α→β) (fb:β→BS) (Eb:∀a,fb (g a)=f a) (l:List α) (d:α):(ZB (l.map f) l.length).map (fun p=>g (l.getD p d))=Ql fb (l.map g):=by
 have h:=congrArg (List.map g) (Ob f l d)
 rw [List.map_map] at h
 refine h.trans ?_
 rw [AE g fb l,show(fun a=>fb (g a))=f from funext Eb]
end Go.PN
namespace Go.Proofs.YtjegkdadeghpjaaGreatDoor
open Go.AI Go.PN Proofs.Tryz
abbrev nA (g:Nat) (a b c d:CV):Nat×XS:=(g,.cells 141 4 (ao [a,b,c,d]))
attribute [local irreducible] aw Fa VA Vk Fh YO
theorem tX {α:Type} (f:α→BS) (l:List α) (hl:l.length≤1048576):Fa prog 79 [.c (.row true 1 l.length (Qi (l.map f)))] (.c (is true (zP (ZB (l.map f) l.length)))):=by
 have h:=GF true (l.map f) (by rw [Lw];exact hl)
 rw [Lw] at h
 have e:YH true (l.map f)=.row true 1 l.length (Qi (l.map f)):=by show CV.row true 1 (l.map f).length _=_;rw [Lw]
 rw [e] at h
 exact h
theorem Qqu (m:Qz) (hg:Go.PN.Good m) (hs:Aq m):Fa prog 29 [.agg (Xo true m)] (.agg (Xo true (OO m))):=by
 have nE:m.events.length≤1048576:=Lt hg.uM Af
 have nH:m.af.length≤1048576:=Lt hg.cq Af
 have nP:m.aa.length≤1048576:=Lt hg.Ak Af
 have nR:m.ae.length≤1048576:=Lt hg.y9 Af
 have nS:m.ai.length≤1048576:=Lt hg.Am Af
 have hlg:=hs.uU
 have f2:=GG m.an hs.gt om
 obtain⟨RE,uZ⟩:∃c:CV,c=.row true 11 m.events.length (Zu (Ql X7.name m.events)):=⟨_,rfl⟩
 obtain⟨RH,u0⟩:∃c:CV,c=.row true 2 m.af.length (Zv (Ql Vq.name m.af)):=⟨_,rfl⟩
 obtain⟨RP,u5⟩:∃c:CV,c=.row true 3 m.aa.length (V0 (Ql YT.name (m.aa.map bu))):=⟨_,rfl⟩
 obtain⟨RR,u6⟩:∃c:CV,c=.row true 4 m.ae.length (Vs (Ql YU.name (m.ae.map bB))):=⟨_,rfl⟩
 obtain⟨RS,u7⟩:∃c:CV,c=.row true 3 m.ai.length (V1 (m.ai.map bz)):=⟨_,rfl⟩
 obtain⟨N0,ti⟩:∃c:CV,c=.row true 1 m.events.length (Qi (m.events.map X7.name)):=⟨_,rfl⟩
 have o0:=tX X7.name m.events om
 rw [←ti] at o0
 have q0:=KC (m.events.map X7.name) m.events.length
 have p0:∀j,j<m.events.length→(ZB (m.events.map X7.name) m.events.length).getD j 0<m.events.length:=fun j hj=>Wj (ZV _ _ om)
 have s0:=Ob X7.name m.events bn
 generalize ZB (m.events.map X7.name) m.events.length=Q0 at o0 q0 p0 s0
 have z0:=Oc Q0
 obtain⟨N1,Pv⟩:∃c:CV,c=.row true 1 m.af.length (Qi (m.af.map Vq.name)):=⟨_,rfl⟩
 have o1:=tX Vq.name m.af om
 rw [←Pv] at o1
 have q1:=KC (m.af.map Vq.name) m.af.length
 have p1:∀j,j<m.af.length→(ZB (m.af.map Vq.name) m.af.length).getD j 0<m.af.length:=fun j hj=>Wj (ZV _ _ om)
 have s1:=Ob Vq.name m.af bw
 generalize ZB (m.af.map Vq.name) m.af.length=Q1 at o1 q1 p1 s1
 have z1:=Oc Q1
 obtain⟨N2,Pw⟩:∃c:CV,c=.row true 1 m.aa.length (Qi (m.aa.map YT.name)):=⟨_,rfl⟩
 have o2:=tX YT.name m.aa om
 rw [←Pw] at o2
 have q2:=KC (m.aa.map YT.name) m.aa.length
 have p2:∀j,j<m.aa.length→(ZB (m.aa.map YT.name) m.aa.length).getD j 0<m.aa.length:=fun j hj=>Wj (ZV _ _ om)
 have s2:=MO YT.name bu YT.name (fun _=>rfl) m.aa bj
 generalize ZB (m.aa.map YT.name) m.aa.length=Q2 at o2 q2 p2 s2
 have z2:=Oc Q2
 obtain⟨N3,Px⟩:∃c:CV,c=.row true 1 m.ae.length (Qi (m.ae.map YU.name)):=⟨_,rfl⟩
 have o3:=tX YU.name m.ae om
 rw [←Px] at o3
 have q3:=KC (m.ae.map YU.name) m.ae.length
 have p3:∀j,j<m.ae.length→(ZB (m.ae.map YU.name) m.ae.length).getD j 0<m.ae.length:=fun j hj=>Wj (ZV _ _ om)
 have s3:=MO YU.name bB YU.name (fun _=>rfl) m.ae bJ
 generalize ZB (m.ae.map YU.name) m.ae.length=Q3 at o3 q3 p3 s3
 have z3:=Oc Q3
 refine fA func29 fun C hC=>?_
 refine xG ?_
 refine xB fun g1 ah=>?_
 refine yA ah fun g2 aq=>?_
 refine zA (oj ah aq) ?_
 refine Yl [mZ g2,mM g1 m] [(0,0),(1,0),(2,0),(3,0),(4,0),(5,0),(6,0),(7,0),(8,1),(9,2)] Qg kR JS ?_
 have J1:=oj ah aq
 refine yG J1 ?_
 refine X9 rfl f2 rfl rfl rfl (fun _ _=>(zL J1)) ?_
 refine Xw J1 ?_
 refine WP rfl rfl rfl rfl (zE J1) JS (fun g3 av=> ?_) (hm:=.inr ⟨rfl,rfl⟩)
 refine Xw J1 ?_
 refine Xc (FP':=[]) rfl rfl rfl rfl rfl (zE J1) (zE J1) (zE J1) (zE J1) (fun _ e=>by cases e) rfl rfl (show 8≤8 from by omega) rfl Qf ?_
 refine Xw J1 ?_
 replace av:=Qa.ay av
 simp only [Qa.ne] at av
 obtain⟨RG,oy⟩:∃c:CV,c=ca true (JQ m.an):=⟨_,rfl⟩
 simp only [←oy]
 refine zA (oj ah (oj aq av)) ?_
 refine yA (oj ah (oj aq av)) fun g4 aC=>?_
 have F:=oj ah (oj aq (oj av aC))
 refine yS F ?_
 refine zA F ?_
 refine Qh (fun z:Nat×Option Nat=>[(1,.c (.aj g1 0)),(2,.c (.aj g2 0)),(3,.c (.aj g3 0)),(4,.c (.aj g4 0)),(39,.c (gS true m.events)),(40,.c (.int .i64 m.events.length)),(41,.c (.int .i64 z.1))]) (fun z=>nA g4 (gs z.2 1 z.1) .ab .ab .ab::mD g3 m .ab .ab RG .ab .ab .ab::mZ g2::mM g1 m::gh z.2 9 (z.1*1) (Qi ((m.events.map X7.name).take z.1))) (fun z=>z.1≤m.events.length∧(z.2=none→z.1=0)) (fun z=>m.events.length-z.1) (0,none) (zB F) zZ ⟨Lz _,fun _=>rfl⟩ ?_
 rintro ⟨j,og⟩ ⟨hj,ax⟩
 dsimp only at hj ax⊢
 by_cases ba:j<m.events.length
 ·have d1:decide (j<m.events.length)=true:=Dt ba
  have hT:=Ys X7.name m.events bn ba
  have dE:=Y7 X7.name m.events hj
  generalize hv:m.events.getD j bn=x at*
  refine zA (oj F (oj d1 hv)) ?_
  refine yA (oj F (oj d1 hv)) fun g6 aJ=>?_
  refine zA (oj F (oj d1 (oj hv aJ))) ?_
  refine Xh (QB.bq (el:=66) (n:=4) (i:=0) kR kR (zE (oj F (oj d1 (oj hv aJ)))) (zE (oj F (oj d1 (oj hv aJ)))) Af Af) rfl rfl ?_
  have J2:=oj F (oj d1 (oj hv aJ))
  refine yS J2 ?_
  refine zA J2 ?_
  refine QT (pre:=[(g6,.cells 101 11 (ao (OD x))),nA g4 (gs og 1 j) .ab .ab .ab,mD g3 m .ab .ab RG .ab .ab .ab,mZ g2,mM g1 m]) rfl rfl rfl rfl rfl rfl rfl (zE J2) (zE J2) (by rfl) om om (zE J2) om (by exact ax) (zE J2) (by rfl) (by rfl) qb qc om (by exact Yq dE x.name) fun gq bh=> ?_
  replace bh:=Qa.ay bh
  first|dsimp only [Qa.ne,gh] at bh|dsimp only [Qa.ne] at bh|skip
  have J3:=oj F (oj d1 (oj hv (oj aJ bh)))
  refine yS J3 ?_
  rw [←hT]
  refine Xh (QB.bq (el:=66) (n:=4) (i:=0) kR kR (zE J3) (zE J3) Af Af) rfl rfl ?_
  refine yS J3 ?_
  refine zA J3 ?_
  exact Qb ⟨(j+1,some gq),by dsimp only;omega,(zB J3),Ls _ _,by dsimp only;omega,fun e=>by cases e⟩
 ·obtain rfl:j=m.events.length:=by omega
  have d1:decide (m.events.length<m.events.length)=false:=De om
  rw [Ly (by rw [Lw];exact Ac _)]
  refine zA (oj F d1) ?_
  refine Qj (h':=nA g4 (gs og 1 m.events.length) .ab .ab .ab::(gh og 9 (m.events.length*1) (Qi (m.events.map X7.name))++[mD g3 m .ab .ab RG .ab .ab .ab,mZ g2,mM g1 m])) (.cons _ (List.perm_append_comm (l₁:=[_,_,_]))) ?_
  refine Q7 (j0:=0) (m:=4) (f:=(ao [gs og 1 m.events.length,.ab,.ab,.ab])) (f':=(ao [N0,.ab,.ab,.ab])) (fp:=Qi (m.events.map X7.name)) rfl ti (fun i hi h3=>by match i,hi,h3 with|0,_,h=>exact absurd rfl h|1,_,_=>rfl|2,_,_=>rfl|3,_,_=>rfl) ax (fun g _=>hC g) ?_
  refine yS (oj F d1) ?_
  refine Qh (fun z:Nat×Option Nat=>[(1,.c (.aj g1 0)),(2,.c (.aj g2 0)),(3,.c (.aj g3 0)),(4,.c (.aj g4 0)),(54,.c (jb true m.af)),(55,.c (.int .i64 m.af.length)),(56,.c (.int .i64 z.1))]) (fun z=>nA g4 N0 (gs z.2 1 z.1) .ab .ab::mD g3 m .ab .ab RG .ab .ab .ab::mZ g2::mM g1 m::gh z.2 9 (z.1*1) (Qi ((m.af.map Vq.name).take z.1))) (fun z=>z.1≤m.af.length∧(z.2=none→z.1=0)) (fun z=>m.af.length-z.1) (0,none) (zB F) zZ ⟨Lz _,fun _=>rfl⟩ ?_
  rintro ⟨j,og⟩ ⟨hj,ax⟩
  dsimp only at hj ax⊢
  by_cases ba:j<m.af.length
  ·have d1:decide (j<m.af.length)=true:=Dt ba
   have hT:=Ys Vq.name m.af bw ba
   have dE:=Y7 Vq.name m.af hj
   generalize hv:m.af.getD j bw=x at*
   refine zA (oj F (oj d1 hv)) ?_
   refine yA (oj F (oj d1 hv)) fun g6 aJ=>?_
   refine zA (oj F (oj d1 (oj hv aJ))) ?_
   refine Xh (QB.bq (el:=66) (n:=4) (i:=1) kR kR (zE (oj F (oj d1 (oj hv aJ)))) (zE (oj F (oj d1 (oj hv aJ)))) Af Af) rfl rfl ?_
   have J4:=oj F (oj d1 (oj hv aJ))
   refine yS J4 ?_
   refine zA J4 ?_
   refine QT (pre:=[(g6,.cells 103 2 (ao (kr x))),nA g4 N0 (gs og 1 j) .ab .ab,mD g3 m .ab .ab RG .ab .ab .ab,mZ g2,mM g1 m]) rfl rfl rfl rfl rfl rfl rfl (zE J4) (zE J4) (by rfl) om om (zE J4) om (by exact ax) (zE J4) (by rfl) (by rfl) qb qc om (by exact Yq dE x.name) fun gq bh=> ?_
   replace bh:=Qa.ay bh
   first|dsimp only [Qa.ne,gh] at bh|dsimp only [Qa.ne] at bh|skip
   have J5:=oj F (oj d1 (oj hv (oj aJ bh)))
   refine yS J5 ?_
   rw [←hT]
   refine Xh (QB.bq (el:=66) (n:=4) (i:=1) kR kR (zE J5) (zE J5) Af Af) rfl rfl ?_
   refine yS J5 ?_
   refine zA J5 ?_
   exact Qb ⟨(j+1,some gq),by dsimp only;omega,(zB J5),Ls _ _,by dsimp only;omega,fun e=>by cases e⟩
  ·obtain rfl:j=m.af.length:=by omega
   have d1:decide (m.af.length<m.af.length)=false:=De om
   rw [Ly (by rw [Lw];exact Ac _)]
   refine zA (oj F d1) ?_
   refine Qj (h':=nA g4 N0 (gs og 1 m.af.length) .ab .ab::(gh og 9 (m.af.length*1) (Qi (m.af.map Vq.name))++[mD g3 m .ab .ab RG .ab .ab .ab,mZ g2,mM g1 m])) (.cons _ (List.perm_append_comm (l₁:=[_,_,_]))) ?_
   refine Q7 (j0:=1) (m:=4) (f:=(ao [N0,gs og 1 m.af.length,.ab,.ab])) (f':=(ao [N0,N1,.ab,.ab])) (fp:=Qi (m.af.map Vq.name)) rfl Pv (fun i hi h3=>by match i,hi,h3 with|0,_,_=>rfl|1,_,h=>exact absurd rfl h|2,_,_=>rfl|3,_,_=>rfl) ax (fun g _=>hC g) ?_
   refine yS (oj F d1) ?_
   refine Qh (fun z:Nat×Option Nat=>[(1,.c (.aj g1 0)),(2,.c (.aj g2 0)),(3,.c (.aj g3 0)),(4,.c (.aj g4 0)),(69,.c (ir true m.aa)),(70,.c (.int .i64 m.aa.length)),(71,.c (.int .i64 z.1))]) (fun z=>nA g4 N0 N1 (gs z.2 1 z.1) .ab::mD g3 m .ab .ab RG .ab .ab .ab::mZ g2::mM g1 m::gh z.2 9 (z.1*1) (Qi ((m.aa.map YT.name).take z.1))) (fun z=>z.1≤m.aa.length∧(z.2=none→z.1=0)) (fun z=>m.aa.length-z.1) (0,none) (zB F) zZ ⟨Lz _,fun _=>rfl⟩ ?_
   rintro ⟨j,og⟩ ⟨hj,ax⟩
   dsimp only at hj ax⊢
   by_cases ba:j<m.aa.length
   ·have d1:decide (j<m.aa.length)=true:=Dt ba
    have hT:=Ys YT.name m.aa bj ba
    have dE:=Y7 YT.name m.aa hj
    generalize hv:m.aa.getD j bj=x at*
    refine zA (oj F (oj d1 hv)) ?_
    refine yA (oj F (oj d1 hv)) fun g6 aJ=>?_
    refine zA (oj F (oj d1 (oj hv aJ))) ?_
    refine Xh (QB.bq (el:=66) (n:=4) (i:=2) kR kR (zE (oj F (oj d1 (oj hv aJ)))) (zE (oj F (oj d1 (oj hv aJ)))) Af Af) rfl rfl ?_
    have J6:=oj F (oj d1 (oj hv aJ))
    refine yS J6 ?_
    refine zA J6 ?_
    refine QT (pre:=[(g6,.cells 105 3 (ao (iO x))),nA g4 N0 N1 (gs og 1 j) .ab,mD g3 m .ab .ab RG .ab .ab .ab,mZ g2,mM g1 m]) rfl rfl rfl rfl rfl rfl rfl (zE J6) (zE J6) (by rfl) om om (zE J6) om (by exact ax) (zE J6) (by rfl) (by rfl) qb qc om (by exact Yq dE x.name) fun gq bh=> ?_
    replace bh:=Qa.ay bh
    first|dsimp only [Qa.ne,gh] at bh|dsimp only [Qa.ne] at bh|skip
    have J7:=oj F (oj d1 (oj hv (oj aJ bh)))
    refine yS J7 ?_
    rw [←hT]
    refine Xh (QB.bq (el:=66) (n:=4) (i:=2) kR kR (zE J7) (zE J7) Af Af) rfl rfl ?_
    refine yS J7 ?_
    refine zA J7 ?_
    exact Qb ⟨(j+1,some gq),by dsimp only;omega,(zB J7),Ls _ _,by dsimp only;omega,fun e=>by cases e⟩
   ·obtain rfl:j=m.aa.length:=by omega
    have d1:decide (m.aa.length<m.aa.length)=false:=De om
    rw [Ly (by rw [Lw];exact Ac _)]
    refine zA (oj F d1) ?_
    refine Qj (h':=nA g4 N0 N1 (gs og 1 m.aa.length) .ab::(gh og 9 (m.aa.length*1) (Qi (m.aa.map YT.name))++[mD g3 m .ab .ab RG .ab .ab .ab,mZ g2,mM g1 m])) (.cons _ (List.perm_append_comm (l₁:=[_,_,_]))) ?_
    refine Q7 (j0:=2) (m:=4) (f:=(ao [N0,N1,gs og 1 m.aa.length,.ab])) (f':=(ao [N0,N1,N2,.ab])) (fp:=Qi (m.aa.map YT.name)) rfl Pw (fun i hi h3=>by match i,hi,h3 with|0,_,_=>rfl|1,_,_=>rfl|2,_,h=>exact absurd rfl h|3,_,_=>rfl) ax (fun g _=>hC g) ?_
    refine yS (oj F d1) ?_
    refine Qh (fun z:Nat×Option Nat=>[(1,.c (.aj g1 0)),(2,.c (.aj g2 0)),(3,.c (.aj g3 0)),(4,.c (.aj g4 0)),(84,.c (fB true m.ae)),(85,.c (.int .i64 m.ae.length)),(86,.c (.int .i64 z.1))]) (fun z=>nA g4 N0 N1 N2 (gs z.2 1 z.1)::mD g3 m .ab .ab RG .ab .ab .ab::mZ g2::mM g1 m::gh z.2 9 (z.1*1) (Qi ((m.ae.map YU.name).take z.1))) (fun z=>z.1≤m.ae.length∧(z.2=none→z.1=0)) (fun z=>m.ae.length-z.1) (0,none) (zB F) zZ ⟨Lz _,fun _=>rfl⟩ ?_
    rintro ⟨j,og⟩ ⟨hj,ax⟩
    dsimp only at hj ax⊢
    by_cases ba:j<m.ae.length
    ·have d1:decide (j<m.ae.length)=true:=Dt ba
     have hT:=Ys YU.name m.ae bJ ba
     have dE:=Y7 YU.name m.ae hj
     generalize hv:m.ae.getD j bJ=x at*
     refine zA (oj F (oj d1 hv)) ?_
     refine yA (oj F (oj d1 hv)) fun g6 aJ=>?_
     refine zA (oj F (oj d1 (oj hv aJ))) ?_
     refine Xh (QB.bq (el:=66) (n:=4) (i:=3) kR kR (zE (oj F (oj d1 (oj hv aJ)))) (zE (oj F (oj d1 (oj hv aJ)))) Af Af) rfl rfl ?_
     have J8:=oj F (oj d1 (oj hv aJ))
     refine yS J8 ?_
     refine zA J8 ?_
     refine QT (pre:=[(g6,.cells 108 4 (ao (UF x))),nA g4 N0 N1 N2 (gs og 1 j),mD g3 m .ab .ab RG .ab .ab .ab,mZ g2,mM g1 m]) rfl rfl rfl rfl rfl rfl rfl (zE J8) (zE J8) (by rfl) om om (zE J8) om (by exact ax) (zE J8) (by rfl) (by rfl) qb qc om (by exact Yq dE x.name) fun gq bh=> ?_
     replace bh:=Qa.ay bh
     first|dsimp only [Qa.ne,gh] at bh|dsimp only [Qa.ne] at bh|skip
     have J9:=oj F (oj d1 (oj hv (oj aJ bh)))
     refine yS J9 ?_
     rw [←hT]
     refine Xh (QB.bq (el:=66) (n:=4) (i:=3) kR kR (zE J9) (zE J9) Af Af) rfl rfl ?_
     refine yS J9 ?_
     refine zA J9 ?_
     exact Qb ⟨(j+1,some gq),by dsimp only;omega,(zB J9),Ls _ _,by dsimp only;omega,fun e=>by cases e⟩
    ·obtain rfl:j=m.ae.length:=by omega
     have d1:decide (m.ae.length<m.ae.length)=false:=De om
     rw [Ly (by rw [Lw];exact Ac _)]
     refine zA (oj F d1) ?_
     refine Qj (h':=nA g4 N0 N1 N2 (gs og 1 m.ae.length)::(gh og 9 (m.ae.length*1) (Qi (m.ae.map YU.name))++[mD g3 m .ab .ab RG .ab .ab .ab,mZ g2,mM g1 m])) (.cons _ (List.perm_append_comm (l₁:=[_,_,_]))) ?_
     refine Q7 (j0:=3) (m:=4) (f:=(ao [N0,N1,N2,gs og 1 m.ae.length])) (f':=(ao [N0,N1,N2,N3])) (fp:=Qi (m.ae.map YU.name)) rfl Px (fun i hi h3=>by match i,hi,h3 with|0,_,_=>rfl|1,_,_=>rfl|2,_,_=>rfl|3,_,h=>exact absurd rfl h) ax (fun g _=>hC g) ?_
     refine yS (oj F d1) ?_
     refine Qj (h':=mD g3 m .ab .ab RG .ab .ab .ab::nA g4 N0 N1 N2 N3::mZ g2::[mM g1 m]) (List.Perm.swap _ _ _) ?_
     refine Xh (QB.bq (el:=66) (n:=4) (i:=0) kR kR (zE F) (zE F) Af Af) rfl rfl ?_
     refine yS F ?_
     refine Zg (oj F (oj z0 q0)) o0 ?_
     refine Qh (fun z:Nat×Option Nat=>[(1,.c (.aj g1 0)),(2,.c (.aj g2 0)),(3,.c (.aj g3 0)),(4,.c (.aj g4 0)),(100,.c (is true (zP Q0))),(101,.c (.int .i64 m.events.length)),(102,.c (.int .i64 z.1))]) (fun z=>mD g3 m (gs z.2 11 z.1) .ab RG .ab .ab .ab::nA g4 N0 N1 N2 N3::mZ g2::mM g1 m::gh z.2 101 (z.1*11) (Zu ((Q0.map fun p=>m.events.getD p bn).take z.1))) (fun z=>z.1≤m.events.length∧(z.2=none→z.1=0)) (fun z=>m.events.length-z.1) (0,none) (zB (oj F (oj z0 q0))) zZ ⟨Lz _,fun _=>rfl⟩ ?_
     rintro ⟨j,og⟩ ⟨hj,ax⟩
     dsimp only at hj ax⊢
     by_cases ba:j<m.events.length
     ·have d1:decide (j<m.events.length)=true:=Dt ba
      have hT:=Ys (fun p=>m.events.getD p bn) Q0 0 (show j<Q0.length by omega)
      have dE:=Y7 (fun p=>m.events.getD p bn) Q0 (show j≤Q0.length by omega)
      have fk:=p0 j ba
      have hz:=qw Q0 j
      generalize Q0.getD j 0=q at hT fk hz⊢
      have hm:=ZV m.events bn fk
      clear hm
      generalize hv:m.events.getD q bn=x at*
      refine zA (oj F (oj z0 (oj q0 (oj d1 (oj hz hv))))) ?_
      refine Yl [mD g3 m (gs og 11 j) .ab RG .ab .ab .ab,mM g1 m] [(0,0),(1,0),(2,0),(3,0),(4,0),(5,0),(6,0),(7,1),(8,1),(9,0),(10,2)] Qg kR JS ?_
      have dB:=oj F (oj z0 (oj q0 (oj d1 (oj hz hv))))
      refine yG dB ?_
      refine Qv (xs:=[.tmp 112]) (cells:=OD x) rfl rfl rfl rfl (zE dB) (by refine yS dB ?_;rfl) rfl om om qd rfl Ag JS (fun Dw kW=> ?_) (hm:=.inr ⟨rfl,rfl⟩)
      refine yS dB ?_
      refine YJ (pre:=[mD g3 m (gs og 11 j) .ab RG .ab .ab .ab,nA g4 N0 N1 N2 N3,mZ g2,mM g1 m]) (og:=og) (n:=j) (s:=107) (d1:=113) (gt:=Dw) (v:=.agg (OD x)) rfl rfl rfl rfl (zE dB) (zE dB) (by rfl) om om (zE dB) (zE dB) ax (by rfl) (by rfl) (by simp only [Ad,Lq,Ln];rfl) qc om (Bz dE x) (XR JS) (fun gb bH=> ?_) (hm:=.inr ⟨rfl,rfl⟩)
      replace kW:=Qa.ay kW
      simp only [Qa.ne,Lq,Ln] at kW
      rw [←hT]
      have cD:=oj F (oj z0 (oj q0 (oj d1 (oj hz (oj hv kW)))))
      refine Xw cD ?_
      refine Xc (FP':=[]) rfl rfl rfl rfl rfl (zE cD) (zE cD) (zE cD) (zE cD) (fun _ e=>by cases e) rfl rfl (show 3≤8 from by omega) rfl Qf ?_
      refine Xw cD ?_
      refine zA cD ?_
      exact Qb ⟨(j+1,some gb),by dsimp only;omega,(zB cD),Ls _ _,by dsimp only;omega,fun e=>by cases e⟩
     ·obtain rfl:j=m.events.length:=by omega
      have d1:decide (m.events.length<m.events.length)=false:=De om
      rw [Ly (by rw [Lw];omega),s0]
      refine zA (oj F (oj z0 (oj q0 d1))) ?_
      refine Qj (h':=mD g3 m (gs og 11 m.events.length) .ab RG .ab .ab .ab::(gh og 101 (m.events.length*11) (Zu (Ql X7.name m.events))++[nA g4 N0 N1 N2 N3,mZ g2,mM g1 m])) (.cons _ (List.perm_append_comm (l₁:=[_,_,_]))) ?_
      refine Q7 (j0:=2) (m:=8) (f:=(ao (gG m (gs og 11 m.events.length) .ab RG .ab .ab .ab))) (f':=(ao (gG m RE .ab RG .ab .ab .ab))) (fp:=Zu (Ql X7.name m.events)) rfl uZ (fun i hi h3=>by match i,hi,h3 with|0,_,_=>rfl|1,_,_=>rfl|2,_,h=>exact absurd rfl h|3,_,_=>rfl|4,_,_=>rfl|5,_,_=>rfl|6,_,_=>rfl|7,_,_=>rfl) ax (fun g _=>hC g) ?_
      refine yS (oj F (oj z0 (oj q0 d1))) ?_
      refine Xh (QB.bq (el:=66) (n:=4) (i:=1) kR kR (zE F) (zE F) Af Af) rfl rfl ?_
      refine yS F ?_
      refine Zg (oj F (oj z1 q1)) o1 ?_
      have jj:=oj F (oj z1 q1)
      refine yS jj ?_
      refine zA jj ?_
      refine Qh (fun z:Nat×Option Nat=>[(1,.c (.aj g1 0)),(2,.c (.aj g2 0)),(3,.c (.aj g3 0)),(4,.c (.aj g4 0)),(119,.c (is true (zP Q1))),(120,.c (.int .i64 m.af.length)),(121,.c (.int .i64 z.1))]) (fun z=>mD g3 m RE (gs z.2 2 z.1) RG .ab .ab .ab::nA g4 N0 N1 N2 N3::mZ g2::mM g1 m::gh z.2 103 (z.1*2) (Zv ((Q1.map fun p=>m.af.getD p bw).take z.1))) (fun z=>z.1≤m.af.length∧(z.2=none→z.1=0)) (fun z=>m.af.length-z.1) (0,none) (zB jj) zZ ⟨Lz _,fun _=>rfl⟩ ?_
      rintro ⟨j,og⟩ ⟨hj,ax⟩
      dsimp only at hj ax⊢
      by_cases ba:j<m.af.length
      ·have d1:decide (j<m.af.length)=true:=Dt ba
       have hT:=Ys (fun p=>m.af.getD p bw) Q1 0 (show j<Q1.length by omega)
       have dE:=Y7 (fun p=>m.af.getD p bw) Q1 (show j≤Q1.length by omega)
       have fk:=p1 j ba
       have hz:=qw Q1 j
       generalize Q1.getD j 0=q at hT fk hz⊢
       have hm:=ZV m.af bw fk
       clear hm jj
       generalize hv:m.af.getD q bw=x at*
       refine zA (oj F (oj z1 (oj q1 (oj d1 (oj hz hv))))) ?_
       refine Yl [mD g3 m RE (gs og 2 j) RG .ab .ab .ab,mM g1 m] [(0,0),(1,0),(2,0),(3,0),(4,0),(5,0),(6,0),(7,1),(8,1),(9,0),(10,2)] Qg kR JS ?_
       have iS:=oj F (oj z1 (oj q1 (oj d1 (oj hz hv))))
       refine yG iS ?_
       refine Qv (xs:=[.tmp 131]) (cells:=kr x) rfl rfl rfl rfl (zE iS) (by refine yS iS ?_;rfl) rfl om om qd rfl Ag JS (fun Dy kY=> ?_) (hm:=.inr ⟨rfl,rfl⟩)
       refine yS iS ?_
       refine YJ (pre:=[mD g3 m RE (gs og 2 j) RG .ab .ab .ab,nA g4 N0 N1 N2 N3,mZ g2,mM g1 m]) (og:=og) (n:=j) (s:=126) (d1:=132) (gt:=Dy) (v:=.agg (kr x)) rfl rfl rfl rfl (zE iS) (zE iS) (by rfl) om om (zE iS) (zE iS) ax (by rfl) (by rfl) (by simp only [Ad,Lq,Ln];rfl) qc om (HO dE x) (XR JS) (fun gb bH=> ?_) (hm:=.inr ⟨rfl,rfl⟩)
       replace kY:=Qa.ay kY
       simp only [Qa.ne,Lq,Ln] at kY
       rw [←hT]
       have jS:=oj F (oj z1 (oj q1 (oj d1 (oj hz (oj hv kY)))))
       refine Xw jS ?_
       refine Xc (FP':=[]) rfl rfl rfl rfl rfl (zE jS) (zE jS) (zE jS) (zE jS) (fun _ e=>by cases e) rfl rfl (show 4≤8 from by omega) rfl Qf ?_
       refine Xw jS ?_
       refine zA jS ?_
       exact Qb ⟨(j+1,some gb),by dsimp only;omega,(zB jS),Ls _ _,by dsimp only;omega,fun e=>by cases e⟩
      ·obtain rfl:j=m.af.length:=by omega
       have d1:decide (m.af.length<m.af.length)=false:=De om
       rw [Ly (by rw [Lw];omega),s1]
       refine zA (oj F (oj z1 (oj q1 d1))) ?_
       refine Qj (h':=mD g3 m RE (gs og 2 m.af.length) RG .ab .ab .ab::(gh og 103 (m.af.length*2) (Zv (Ql Vq.name m.af))++[nA g4 N0 N1 N2 N3,mZ g2,mM g1 m])) (.cons _ (List.perm_append_comm (l₁:=[_,_,_]))) ?_
       refine Q7 (j0:=3) (m:=8) (f:=(ao (gG m RE (gs og 2 m.af.length) RG .ab .ab .ab))) (f':=(ao (gG m RE RH RG .ab .ab .ab))) (fp:=Zv (Ql Vq.name m.af)) rfl u0 (fun i hi h3=>by match i,hi,h3 with|0,_,_=>rfl|1,_,_=>rfl|2,_,_=>rfl|3,_,h=>exact absurd rfl h|4,_,_=>rfl|5,_,_=>rfl|6,_,_=>rfl|7,_,_=>rfl) ax (fun g _=>hC g) ?_
       refine yS (oj F (oj z1 (oj q1 d1))) ?_
       refine Xh (QB.bq (el:=66) (n:=4) (i:=2) kR kR (zE F) (zE F) Af Af) rfl rfl ?_
       refine yS F ?_
       refine Zg (oj F (oj z2 q2)) o2 ?_
       refine yS (oj F (oj z2 q2)) ?_
       refine zA (oj F (oj z2 q2)) ?_
       refine Qh (fun z:Nat×Option Nat=>[(1,.c (.aj g1 0)),(2,.c (.aj g2 0)),(3,.c (.aj g3 0)),(4,.c (.aj g4 0)),(138,.c (is true (zP Q2))),(139,.c (.int .i64 m.aa.length)),(140,.c (.int .i64 z.1))]) (fun z=>mD g3 m RE RH RG (gs z.2 3 z.1) .ab .ab::nA g4 N0 N1 N2 N3::mZ g2::mM g1 m::gh z.2 105 (z.1*3) (V0 ((Q2.map fun p=>bu (m.aa.getD p bj)).take z.1))) (fun z=>z.1≤m.aa.length∧(z.2=none→z.1=0)) (fun z=>m.aa.length-z.1) (0,none) (zB (oj F (oj z2 q2))) zZ ⟨Lz _,fun _=>rfl⟩ ?_
       rintro ⟨j,og⟩ ⟨hj,ax⟩
       dsimp only at hj ax⊢
       by_cases ba:j<m.aa.length
       ·have d1:decide (j<m.aa.length)=true:=Dt ba
        have hT:=Ys (fun p=>bu (m.aa.getD p bj)) Q2 0 (show j<Q2.length by omega)
        have dE:=Y7 (fun p=>bu (m.aa.getD p bj)) Q2 (show j≤Q2.length by omega)
        have fk:=p2 j ba
        have hz:=qw Q2 j
        generalize Q2.getD j 0=q at hT fk hz⊢
        have hm:=ZV m.aa bj fk
        have hx:=hs.pg _ hm
        clear hm
        generalize hv:m.aa.getD q bj=x at*
        have c1:=GG x.an hx.2 (by have:=hx.1;omega)
        refine zA (oj F (oj z2 (oj q2 (oj d1 (oj hz hv))))) ?_
        refine Yl [mD g3 m RE RH RG (gs og 3 j) .ab .ab,mM g1 m] [(0,0),(1,0),(2,0),(3,0),(4,0),(5,0),(6,0),(7,0),(8,0),(9,0),(10,0),(11,0),(12,0),(13,0),(14,0),(15,0),(16,0),(17,0),(18,0),(19,0),(20,0),(21,0),(22,1),(23,1),(24,0),(25,2)] Qg kR JS ?_
        have jw:=oj F (oj z2 (oj q2 (oj d1 (oj hz hv))))
        refine yG jw ?_
        refine X9 rfl c1 rfl rfl rfl (fun _ _=>(zL jw)) ?_
        refine Xw jw ?_
        refine Qv (xs:=[.tmp 165]) (cells:=iO (bu x)) rfl rfl rfl rfl (zE jw) (by refine yS jw ?_;rfl) rfl om om qd rfl Ag JS (fun DA k4=> ?_) (hm:=.inr ⟨rfl,rfl⟩)
        refine yS jw ?_
        refine YJ (pre:=[mD g3 m RE RH RG (gs og 3 j) .ab .ab,nA g4 N0 N1 N2 N3,mZ g2,mM g1 m]) (og:=og) (n:=j) (s:=145) (d1:=166) (gt:=DA) (v:=.agg (iO (bu x))) rfl rfl rfl rfl (zE jw) (zE jw) (by rfl) om om (zE jw) (zE jw) ax (by rfl) (by rfl) (by simp only [Ad,Lq,Ln];rfl) qc om (BA dE (bu x)) (XR JS) (fun gb bH=> ?_) (hm:=.inr ⟨rfl,rfl⟩)
        replace k4:=Qa.ay k4
        simp only [Qa.ne,Lq,Ln] at k4
        rw [←hT]
        have l6:=oj F (oj z2 (oj q2 (oj d1 (oj hz (oj hv k4)))))
        refine Xw l6 ?_
        refine Xc (FP':=[]) rfl rfl rfl rfl rfl (zE l6) (zE l6) (zE l6) (zE l6) (fun _ e=>by cases e) rfl rfl (show 6≤8 from by omega) rfl Qf ?_
        refine Xw l6 ?_
        refine zA l6 ?_
        exact Qb ⟨(j+1,some gb),by dsimp only;omega,(zB l6),Ls _ _,by dsimp only;omega,fun e=>by cases e⟩
       ·obtain rfl:j=m.aa.length:=by omega
        have d1:decide (m.aa.length<m.aa.length)=false:=De om
        rw [Ly (by rw [Lw];omega),s2]
        refine zA (oj F (oj z2 (oj q2 d1))) ?_
        refine Qj (h':=mD g3 m RE RH RG (gs og 3 m.aa.length) .ab .ab::(gh og 105 (m.aa.length*3) (V0 (Ql YT.name (m.aa.map bu)))++[nA g4 N0 N1 N2 N3,mZ g2,mM g1 m])) (.cons _ (List.perm_append_comm (l₁:=[_,_,_]))) ?_
        refine Q7 (j0:=5) (m:=8) (f:=(ao (gG m RE RH RG (gs og 3 m.aa.length) .ab .ab))) (f':=(ao (gG m RE RH RG RP .ab .ab))) (fp:=V0 (Ql YT.name (m.aa.map bu))) rfl u5 (fun i hi h3=>by match i,hi,h3 with|0,_,_=>rfl|1,_,_=>rfl|2,_,_=>rfl|3,_,_=>rfl|4,_,_=>rfl|5,_,h=>exact absurd rfl h|6,_,_=>rfl|7,_,_=>rfl) ax (fun g _=>hC g) ?_
        refine yS (oj F (oj z2 (oj q2 d1))) ?_
        refine Xh (QB.bq (el:=66) (n:=4) (i:=3) kR kR (zE F) (zE F) Af Af) rfl rfl ?_
        refine yS F ?_
        refine Zg (oj F (oj z3 q3)) o3 ?_
        refine yS (oj F (oj z3 q3)) ?_
        refine zA (oj F (oj z3 q3)) ?_
        refine Qh (fun z:Nat×Option Nat=>[(1,.c (.aj g1 0)),(2,.c (.aj g2 0)),(3,.c (.aj g3 0)),(4,.c (.aj g4 0)),(172,.c (is true (zP Q3))),(173,.c (.int .i64 m.ae.length)),(174,.c (.int .i64 z.1))]) (fun z=>mD g3 m RE RH RG RP (gs z.2 4 z.1) .ab::nA g4 N0 N1 N2 N3::mZ g2::mM g1 m::gh z.2 108 (z.1*4) (Vs ((Q3.map fun p=>bB (m.ae.getD p bJ)).take z.1))) (fun z=>z.1≤m.ae.length∧(z.2=none→z.1=0)) (fun z=>m.ae.length-z.1) (0,none) (zB (oj F (oj z3 q3))) zZ ⟨Lz _,fun _=>rfl⟩ ?_
        rintro ⟨j,og⟩ ⟨hj,ax⟩
        dsimp only at hj ax⊢
        by_cases ba:j<m.ae.length
        ·have d1:decide (j<m.ae.length)=true:=Dt ba
         have hT:=Ys (fun p=>bB (m.ae.getD p bJ)) Q3 0 (show j<Q3.length by omega)
         have dE:=Y7 (fun p=>bB (m.ae.getD p bJ)) Q3 (show j≤Q3.length by omega)
         have fk:=p3 j ba
         have hz:=qw Q3 j
         generalize Q3.getD j 0=q at hT fk hz⊢
         have hm:=ZV m.ae bJ fk
         have hx:=(hs.gr _ hm).1
         clear hm
         generalize hv:m.ae.getD q bJ=x at*
         have c1:=Az true x.members om
         refine zA (oj F (oj z3 (oj q3 (oj d1 (oj hz hv))))) ?_
         refine yA (oj F (oj z3 (oj q3 (oj d1 (oj hz hv))))) fun g8 eP=>?_
         obtain⟨nm,kd,mb,fc⟩:=x
         dsimp only at*
         refine Zg (oj F (oj z3 (oj q3 (oj d1 (oj hz (oj hv eP)))))) c1 ?_
         refine QT (pre:=[(g8,.cells 108 4 (ao (UF (bB ⟨nm,kd,mb,fc⟩)))),mD g3 m RE RH RG RP (gs og 4 j) .ab,nA g4 N0 N1 N2 N3,mZ g2,mM g1 m]) rfl rfl rfl rfl rfl rfl rfl (zE (oj F (oj z3 (oj q3 (oj d1 (oj hz (oj hv eP))))))) (zE (oj F (oj z3 (oj q3 (oj d1 (oj hz (oj hv eP))))))) (by rfl) om om (zE (oj F (oj z3 (oj q3 (oj d1 (oj hz (oj hv eP))))))) om (by exact ax) (zE (oj F (oj z3 (oj q3 (oj d1 (oj hz (oj hv eP))))))) (by rfl) (by rfl) qb qc om (by exact BB dE (bB ⟨nm,kd,mb,fc⟩)) fun gq bh=> ?_
         replace bh:=Qa.ay bh
         first|dsimp only [Qa.ne,gh] at bh|dsimp only [Qa.ne] at bh|skip
         have qq:=oj F (oj z3 (oj q3 (oj d1 (oj hz (oj hv (oj eP bh))))))
         refine yS qq ?_
         rw [←hT]
         refine zA qq ?_
         exact Qb ⟨(j+1,some gq),by dsimp only;omega,(zB qq),Ls _ _,by dsimp only;omega,fun e=>by cases e⟩
        ·obtain rfl:j=m.ae.length:=by omega
         have d1:decide (m.ae.length<m.ae.length)=false:=De om
         rw [Ly (by rw [Lw];omega),s3]
         refine zA (oj F (oj z3 (oj q3 d1))) ?_
         refine Qj (h':=mD g3 m RE RH RG RP (gs og 4 m.ae.length) .ab::(gh og 108 (m.ae.length*4) (Vs (Ql YU.name (m.ae.map bB)))++[nA g4 N0 N1 N2 N3,mZ g2,mM g1 m])) (.cons _ (List.perm_append_comm (l₁:=[_,_,_]))) ?_
         refine Q7 (j0:=6) (m:=8) (f:=(ao (gG m RE RH RG RP (gs og 4 m.ae.length) .ab))) (f':=(ao (gG m RE RH RG RP RR .ab))) (fp:=Vs (Ql YU.name (m.ae.map bB))) rfl u6 (fun i hi h3=>by match i,hi,h3 with|0,_,_=>rfl|1,_,_=>rfl|2,_,_=>rfl|3,_,_=>rfl|4,_,_=>rfl|5,_,_=>rfl|6,_,h=>exact absurd rfl h|7,_,_=>rfl) ax (fun g _=>hC g) ?_
         refine yS (oj F (oj z3 (oj q3 d1))) ?_
         skip
         refine yS F ?_
         refine zA F ?_
         refine Qh (fun z:Nat×Option Nat=>[(1,.c (.aj g1 0)),(2,.c (.aj g2 0)),(3,.c (.aj g3 0)),(4,.c (.aj g4 0)),(195,.c (fS true m.ai)),(196,.c (.int .i64 m.ai.length)),(197,.c (.int .i64 z.1))]) (fun z=>mD g3 m RE RH RG RP RR (gs z.2 3 z.1)::nA g4 N0 N1 N2 N3::mZ g2::mM g1 m::gh z.2 112 (z.1*3) (V1 ((m.ai.map bz).take z.1))) (fun z=>z.1≤m.ai.length∧(z.2=none→z.1=0)) (fun z=>m.ai.length-z.1) (0,none) (zB F) zZ ⟨Lz _,fun _=>rfl⟩ ?_
         rintro ⟨j,og⟩ ⟨hj,ax⟩
         dsimp only at hj ax⊢
         by_cases ba:j<m.ai.length
         ·have d1:decide (j<m.ai.length)=true:=Dt ba
          have hm:=ZV m.ai cd ba
          have hx:=hs.ph _ hm
          have hT:=Ys bz m.ai cd ba
          have dE:=Y7 bz m.ai hj
          clear hm
          generalize hv:m.ai.getD j cd=x at*
          obtain⟨mr,r9⟩:=hx
          have nV:x.values.length≤1048576:=by omega
          have o4:=tX Zh.event x.values om
          have q4:=KC (x.values.map Zh.event) x.values.length
          have p4:∀j,j<x.values.length→(ZB (x.values.map Zh.event) x.values.length).getD j 0<x.values.length:=fun j hj=>Wj (ZV _ _ om)
          have s4:=Ob Zh.event x.values bE
          generalize ZB (x.values.map Zh.event) x.values.length=Q4 at o4 q4 p4 s4
          have z4:=Oc Q4
          obtain⟨N4,Py⟩:∃c:CV,c=.row true 1 x.values.length (Qi (x.values.map Zh.event)):=⟨_,rfl⟩
          rw [←Py] at o4
          obtain⟨HG,pK⟩:∃HG:Qa,HG=gh og 112 (j*3) (V1 ((m.ai.map bz).take j)):=⟨_,rfl⟩
          rw [←pK]
          refine zA (oj F (oj d1 hv)) ?_
          refine yA (oj F (oj d1 hv)) fun g10 bk=>?_
          refine zA (oj F (oj d1 (oj hv bk))) ?_
          refine Qh (fun z:Nat×Option Nat=>[(1,.c (.aj g1 0)),(2,.c (.aj g2 0)),(3,.c (.aj g3 0)),(4,.c (.aj g4 0)),(23,.c (.aj g10 0)),(24,.c (gs z.2 1 z.1)),(195,.c (fS true m.ai)),(196,.c (.int .i64 m.ai.length)),(197,.c (.int .i64 j)),(202,.c (ll true x.values)),(203,.c (.int .i64 x.values.length)),(204,.c (.int .i64 z.1))]) (fun z=>(g10,.cells 112 3 (ao (Wr x)))::mD g3 m RE RH RG RP RR (gs og 3 j)::nA g4 N0 N1 N2 N3::mZ g2::mM g1 m::(HG++gh z.2 9 (z.1*1) (Qi ((x.values.map Zh.event).take z.1)))) (fun z=>z.1≤x.values.length∧(z.2=none→z.1=0)) (fun z=>x.values.length-z.1) (0,none) (zB (oj F (oj d1 (oj hv bk)))) (by show List.Sublist ((g10,.cells 112 3 (ao (Wr x)))::mD g3 m RE RH RG RP RR (gs og 3 j)::nA g4 N0 N1 N2 N3::mZ g2::mM g1 m::(HG++[])) _;rw [Lp];exact Lr _) ⟨Lz _,fun _=>rfl⟩ ?_
          rintro ⟨k,ok⟩ ⟨hk,bo⟩
          dsimp only at hk bo⊢
          by_cases fI:k<x.values.length
          ·have e1:decide (k<x.values.length)=true:=Dt fI
           have hU:=Ys Zh.event x.values bE fI
           have rl:=Y7 Zh.event x.values hk
           generalize eY:x.values.getD k bE=v at*
           refine zA (oj F (oj d1 (oj hv (oj bk (oj e1 eY))))) ?_
           refine yA (oj F (oj d1 (oj hv (oj bk (oj e1 eY))))) fun g6 aJ=>?_
           refine zA (oj F (oj d1 (oj hv (oj bk (oj e1 (oj eY aJ)))))) ?_
           refine QT (pre:=[(g6,.cells 114 4 (ao (O3 v))),(g10,.cells 112 3 (ao (Wr x))),mD g3 m RE RH RG RP RR (gs og 3 j),nA g4 N0 N1 N2 N3,mZ g2,mM g1 m]++HG) rfl rfl rfl rfl rfl rfl rfl (zE (oj F (oj d1 (oj hv (oj bk (oj e1 (oj eY aJ))))))) (zE (oj F (oj d1 (oj hv (oj bk (oj e1 (oj eY aJ))))))) (by rfl) om om (zE (oj F (oj d1 (oj hv (oj bk (oj e1 (oj eY aJ))))))) om (by exact bo) (zE (oj F (oj d1 (oj hv (oj bk (oj e1 (oj eY aJ))))))) (by rfl) (by rfl) qb qc om (by exact Yq rl v.event) fun gq bh=> ?_
           replace bh:=Qa.ay bh
           first|dsimp only [Qa.ne,gh] at bh|dsimp only [Qa.ne] at bh|skip
           have kE:=oj F (oj d1 (oj hv (oj bk (oj e1 (oj eY (oj aJ bh))))))
           refine yS kE ?_
           rw [←hU]
           try simp only [Lq,Ln]
           refine zA kE ?_
           exact Qb ⟨(k+1,some gq),by dsimp only;omega,(zB kE),Ls _ _,by dsimp only;omega,fun e=>by cases e⟩
          ·obtain rfl:k=x.values.length:=by omega
           have e1:decide (x.values.length<x.values.length)=false:=De om
           rw [Ly (by rw [Lw];exact Ac _)]
           refine Qj (h':=gh ok 9 (x.values.length*1) (Qi (x.values.map Zh.event))++((g10,.cells 112 3 (ao (Wr x)))::mD g3 m RE RH RG RP RR (gs og 3 j)::nA g4 N0 N1 N2 N3::mZ g2::mM g1 m::HG)) (List.perm_append_comm (l₁:=(g10,.cells 112 3 (ao (Wr x)))::mD g3 m RE RH RG RP RR (gs og 3 j)::nA g4 N0 N1 N2 N3::mZ g2::mM g1 m::HG)) ?_
           refine Z8 (t:=24) (s:=1) (f:=Qi (x.values.map Zh.event)) (f':=Qi (x.values.map Zh.event)) bo (show x.values.length=x.values.length from rfl) (zE (oj F (oj d1 (oj hv bk)))) (fun g _=>hC g) (fun i _=>rfl) (zE (oj F (oj d1 (oj hv bk)))) ?_
           rw [←Py]
           have l7:=oj F (oj d1 (oj hv (oj bk e1)))
           refine yS l7 ?_
           refine zA l7 ?_
           refine yA l7 fun g11 cT=>?_
           refine Zg (oj F (oj d1 (oj hv (oj bk (oj e1 (oj cT (oj z4 q4))))))) o4 ?_
           refine Qh (fun z:Nat×Option Nat=>[(1,.c (.aj g1 0)),(2,.c (.aj g2 0)),(3,.c (.aj g3 0)),(4,.c (.aj g4 0)),(23,.c (.aj g10 0)),(27,.c (.aj g11 0)),(195,.c (fS true m.ai)),(196,.c (.int .i64 m.ai.length)),(197,.c (.int .i64 j)),(220,.c (is true (zP Q4))),(221,.c (.int .i64 x.values.length)),(222,.c (.int .i64 z.1))]) (fun z=>(g11,.cells 112 3 (ao [.str (sB x.name),.str (sB x.top),gs z.2 4 z.1]))::(g10,.cells 112 3 (ao (Wr x)))::mD g3 m RE RH RG RP RR (gs og 3 j)::nA g4 N0 N1 N2 N3::mZ g2::mM g1 m::(HG++gh z.2 114 (z.1*4) (VJ ((Q4.map fun p=>x.values.getD p bE).take z.1)))) (fun z=>z.1≤x.values.length∧(z.2=none→z.1=0)) (fun z=>x.values.length-z.1) (0,none) (zB (oj F (oj d1 (oj hv (oj bk (oj e1 (oj cT (oj z4 q4)))))))) (by show List.Sublist ((g11,.cells 112 3 (ao [.str (sB x.name),.str (sB x.top),.ab]))::(g10,.cells 112 3 (ao (Wr x)))::mD g3 m RE RH RG RP RR (gs og 3 j)::nA g4 N0 N1 N2 N3::mZ g2::mM g1 m::(HG++[])) _;rw [Lp];exact Lr _) ⟨Lz _,fun _=>rfl⟩ ?_
           clear bo l7
           rintro ⟨k,ok⟩ ⟨hk,bo⟩
           dsimp only at hk bo⊢
           by_cases fI:k<x.values.length
           ·have e1:decide (k<x.values.length)=true:=Dt fI
            have hU:=Ys (fun p=>x.values.getD p bE) Q4 0 (show k<Q4.length by omega)
            have rl:=Y7 (fun p=>x.values.getD p bE) Q4 (show k≤Q4.length by omega)
            have fk:=p4 k fI
            have hz:=qw Q4 k
            generalize Q4.getD k 0=q at hU fk hz⊢
            generalize eY:x.values.getD q bE=v at*
            refine zA (oj F (oj d1 (oj hv (oj bk (oj e1 (oj cT (oj z4 (oj q4 (oj e1 (oj hz eY)))))))))) ?_
            refine Yl [(g11,.cells 112 3 (ao [.str (sB x.name),.str (sB x.top),gs ok 4 k])),(g10,.cells 112 3 (ao (Wr x)))] [(0,0),(1,0),(2,0),(3,0),(4,0),(5,0),(6,0),(7,1),(8,1),(9,0),(10,2)] Qg kR JS ?_
            have j3:=oj F (oj d1 (oj hv (oj bk (oj e1 (oj cT (oj z4 (oj q4 (oj e1 (oj hz eY)))))))))
            refine yG j3 ?_
            refine Qv (xs:=[.tmp 232]) (cells:=O3 v) rfl rfl rfl rfl (zE j3) (by refine yS j3 ?_;rfl) rfl om om qd rfl Ag JS (fun DB k5=> ?_) (hm:=.inr ⟨rfl,rfl⟩)
            refine yS j3 ?_
            refine YJ (pre:=[(g11,.cells 112 3 (ao [.str (sB x.name),.str (sB x.top),gs ok 4 k])),(g10,.cells 112 3 (ao (Wr x))),mD g3 m RE RH RG RP RR (gs og 3 j),nA g4 N0 N1 N2 N3,mZ g2,mM g1 m]++HG) (og:=ok) (n:=k) (s:=227) (d1:=233) (gt:=DB) (v:=.agg (O3 v)) rfl rfl rfl rfl (zE j3) (zE j3) (by rfl) om om (zE j3) (zE j3) bo (by rfl) (by rfl) (by simp only [Ad,Lq,Ln];rfl) qc om (BD rl v) (XR JS) (fun gb bH=> ?_) (hm:=.inr ⟨rfl,rfl⟩)
            replace k5:=Qa.ay k5
            simp only [Qa.ne,Lq,Ln] at k5
            rw [←hU]
            simp only [Lq,Ln]
            have l8:=oj F (oj d1 (oj hv (oj bk (oj e1 (oj cT (oj z4 (oj q4 (oj e1 (oj hz (oj eY k5))))))))))
            refine Xw l8 ?_
            refine Xc (FP':=[]) rfl rfl rfl rfl rfl (zE l8) (zE l8) (zE l8) (zE l8) (fun _ e=>by cases e) rfl rfl (show 3≤3 from by omega) rfl Qf ?_
            refine Xw l8 ?_
            refine zA l8 ?_
            exact Qb ⟨(k+1,some gb),by dsimp only;omega,(zB l8),Ls _ _,by dsimp only;omega,fun e=>by cases e⟩
           ·obtain rfl:k=x.values.length:=by omega
            have e1:decide (x.values.length<x.values.length)=false:=De om
            rw [Ly (by rw [Lw];omega),s4]
            refine Qj (h':=(g11,.cells 112 3 (ao [.str (sB x.name),.str (sB x.top),gs ok 4 x.values.length]))::(gh ok 114 (x.values.length*4) (VJ (Ql Zh.event x.values))++((g10,.cells 112 3 (ao (Wr x)))::mD g3 m RE RH RG RP RR (gs og 3 j)::nA g4 N0 N1 N2 N3::mZ g2::mM g1 m::HG))) (.cons _ (List.perm_append_comm (l₁:=(g10,.cells 112 3 (ao (Wr x)))::mD g3 m RE RH RG RP RR (gs og 3 j)::nA g4 N0 N1 N2 N3::mZ g2::mM g1 m::HG))) ?_
            refine Q7 (j0:=2) (m:=3) (f:=ao [.str (sB x.name),.str (sB x.top),gs ok 4 x.values.length]) (f':=ao (Wr (bz x))) (fp:=VJ (Ql Zh.event x.values)) rfl (by show CV.row true 4 (Ql Zh.event x.values).length _=CV.row true 4 _ _;rw [ZW];rfl) (fun i hi h3=>by match i,hi,h3 with|0,_,_=>rfl|1,_,_=>rfl|2,_,h=>exact absurd rfl h) bo (fun g _=>hC g) ?_
            rw [pK]
            have sE:=oj F (oj d1 (oj hv (oj bk (oj e1 (oj cT (oj z4 (oj q4 e1)))))))
            refine yS sE ?_
            refine zA sE ?_
            refine QT (pre:=[(g11,.cells 112 3 (ao (Wr (bz x)))),(g10,.cells 112 3 (ao (Wr x))),mD g3 m RE RH RG RP RR (gs og 3 j),nA g4 N0 N1 N2 N3,mZ g2,mM g1 m]) rfl rfl rfl rfl rfl rfl rfl (zE sE) (zE sE) (by rfl) om om (zE sE) om (by exact ax) (zE sE) (by rfl) (by rfl) qb qc om (by exact BC dE (bz x)) fun gq bh=> ?_
            replace bh:=Qa.ay bh
            first|dsimp only [Qa.ne,gh] at bh|dsimp only [Qa.ne] at bh|skip
            have Ap:=oj F (oj d1 (oj hv (oj bk (oj e1 (oj cT (oj z4 (oj q4 (oj e1 bh))))))))
            refine yS Ap ?_
            rw [←hT]
            refine zA Ap ?_
            exact Qb ⟨(j+1,some gq),by dsimp only;omega,(zB Ap),(.cons _ (Ls _ _)),by dsimp only;omega,fun e=>by cases e⟩
         ·have d1:decide (j<m.ai.length)=false:=De ba
          obtain rfl:j=m.ai.length:=by omega
          rw [Ly (show(m.ai.map bz).length≤m.ai.length by rw [Lw];exact Ac _)]
          refine Qj (h':=mD g3 m RE RH RG RP RR (gs og 3 m.ai.length)::(gh og 112 (m.ai.length*3) (V1 (m.ai.map bz))++[nA g4 N0 N1 N2 N3,mZ g2,mM g1 m])) (.cons _ (List.perm_append_comm (l₁:=[_,_,_]))) ?_
          refine Q7 (j0:=7) (m:=8) (f:=(ao (gG m RE RH RG RP RR (gs og 3 m.ai.length)))) (f':=(ao (gG m RE RH RG RP RR RS))) (fp:=V1 (m.ai.map bz)) rfl u7 (fun i hi h3=>by match i,hi,h3 with|0,_,_=>rfl|1,_,_=>rfl|2,_,_=>rfl|3,_,_=>rfl|4,_,_=>rfl|5,_,_=>rfl|6,_,_=>rfl|7,_,h=>exact absurd rfl h) ax (fun g _=>hC g) ?_
          refine yS F ?_
          have ye:RE=gS true (Ql X7.name m.events):=by rw [uZ];show _=CV.row true _ _ _;rw [ZW]
          have yh:RH=jb true (Ql Vq.name m.af):=by rw [u0];show _=CV.row true _ _ _;rw [ZW]
          have yp:RP=ir true (Ql YT.name (m.aa.map bu)):=by rw [u5];show _=CV.row true _ _ _;rw [ZW,Lw]
          have yr:RR=fB true (Ql YU.name (m.ae.map bB)):=by rw [u6];show _=CV.row true _ _ _;rw [ZW,Lw]
          have ys:RS=fS true (m.ai.map bz):=by rw [u7];show _=CV.row true _ _ _;rw [Lw]
          rw [ye,yh,yp,yr,ys,oy]
          refine zA (oj F d1) ?_
          refine yT hC (oj F d1) ?_
          exact .one (.agg (Ct (x:=OO m)))
end Go.Proofs.YtjegkdadeghpjaaGreatDoor
namespace Go.PN
open Go.AI
theorem Nv {m:Qz}:∀k,0≤YQ m k
 |0=>Int.le_refl _
 |k+1=>by
  have:=Nv (m:=m) k
  unfold YQ
  omega
theorem TZ {m:Qz} {k i:Nat} (hi:i<(Qt m k).length):(Yx m k)[i]?=some (2,(k:Int)-1,(i:Int)):=by
 unfold Yx
 rw [List.getElem?_map,List.getElem?_range hi];rfl
theorem Ow {m:Qz} {k:Nat}:(Yx m k).length=(Qt m k).length:=by unfold Yx;rw [Lw,List.length_range]
theorem Gz {m:Qz}:∀n k,((Z3 m k n).length:Int)=YQ m (k+n)-YQ m k
 |0,k=>by
  show(0:Int)=YQ m k-YQ m k
  omega
 |n+1,k=>by
  show((Yx m k++Z3 m (k+1) n).length:Int)=_
  have h:=Gz (m:=m) n (k+1)
  have e:YQ m (k+1)=YQ m k+(Qt m k).length:=rfl
  rw [La,Ow,show k+(n+1)=k+1+n from by omega]
  omega
theorem GA {m:Qz}:∀(n k0 k i x:Nat),k0≤k→k<k0+n→i<(Qt m k).length→(x:Int)=YQ m k-YQ m k0+i→(Z3 m k0 n)[x]?=some (2,(k:Int)-1,(i:Int))
 |0,k0,k,i,x,h1,h2,_,_=>by omega
 |n+1,k0,k,i,x,h1,h2,h3,h4=>by
  show(Yx m k0++Z3 m (k0+1) n)[x]?=_
  have e:YQ m (k0+1)=YQ m k0+(Qt m k0).length:=rfl
  by_cases hk:k=k0
  ·subst hk
   have hx:x=i:=by omega
   subst hx
   have hl:x<(Yx m k).length:=by rw [Ow];exact h3
   rw [List.getElem?_append_left hl,TZ h3]
  ·have hm:∀d:Nat,YQ m (k0+1)≤YQ m (k0+1+d):=fun d=>by
    induction d with
    |zero=>exact Int.le_refl _
    |succ d ih=>
     have:YQ m (k0+1+(d+1))=YQ m (k0+1+d)+(Qt m (k0+1+d)).length:=rfl
     omega
   have vA:=hm (k-(k0+1))
   rw [show k0+1+(k-(k0+1))=k from by omega] at vA
   have hl:(Yx m k0).length≤x:=by rw [Ow];omega
   rw [List.getElem?_append_right hl]
   exact GA n (k0+1) k i _ om om h3 (by rw [Ow];omega)
theorem GB {m:Qz} {k i x:Nat} (hk:k≤m.aa.length) (hi:i<(Qt m k).length) (hx:(x:Int)=YQ m k+i):(Q5 m)[x]?=some (2,(k:Int)-1,(i:Int)):=
 GA _ 0 k i x (Lz _) om hi (by show(x:Int)=YQ m k-0+i;omega)
theorem F9 {m:Qz}:((Q5 m).length:Int)=YQ m (m.aa.length+1):=by
 have h:=Gz (m:=m) (m.aa.length+1) 0
 have e:YQ m 0=0:=rfl
 rw [Nz,e] at h
 unfold Q5
 omega
def sY (m:Qz) (t:Th):Nat:= @List.idxOf Th instBEqOfDecidableEq t (Q5 m)
theorem Qn1 {m:Qz} {k i:Nat} (hk:k≤m.aa.length) (hi:i<(Qt m k).length):((sY m ((2:Int),(k:Int)-1,(i:Int)):Nat):Int)=YQ m k+i:=by
 have h0:=Nv (m:=m) k
 obtain⟨x,hx⟩:∃x:Nat,(x:Int)=YQ m k+i:=⟨(YQ m k+i).toNat,by omega⟩
 have hg:=GB hk hi hx
 obtain⟨hl,he⟩:=List.getElem?_eq_some_iff.1 hg
 have hn:(Q5 m).Nodup:=Wf m _ _
 unfold sY
 rw [←he, @List.Nodup.idxOf_getElem Th instBEqOfDecidableEq inferInstance _ hn x hl,hx]
def py (m:Qz) (k:Nat) (l:List BS):List Nat:=((l.map (Jm m k)).filter fun y=> !Y9 y).map (sY m)
def Zp (m:Qz):List (List Nat):=(Q5 m).map fun t=>((VU m t).filter fun y=> !Y9 y).map (sY m)
theorem Qn2 (m:Qz) (k:Nat) (l:List BS) (n:BS):py m k (l++[n])=if Y9 (Jm m k n)=true then py m k l else py m k l++[sY m (Jm m k n)]:=by
 unfold py
 rw [List.map_append,List.filter_append,List.map_append]
 show _++List.map _ (List.filter _ [Jm m k n])=_
 cases h:Y9 (Jm m k n) with
 |true=>rw [List.filter_cons,h];simp
 |false=>rw [List.filter_cons,h];simp
theorem GH (m:Qz):(Zp m).length=(Q5 m).length:=by unfold Zp;rw [Lw]
theorem Qn3 {m:Qz} {k i x:Nat} (hk:k≤m.aa.length) (hi:i<(Qt m k).length) (hx:(x:Int)=YQ m k+i):(Zp m).take (x+1)=(Zp m).take x++[py m k ((Qt m k).getD i aU).ak]:=by
 have hg:=GB hk hi hx
 have hu:(Zp m)[x]?=some (py m k ((Qt m k).getD i aU).ak):=by
  unfold Zp
  rw [List.getElem?_map,hg]
  show some (List.map _ (List.filter _ (VU m _)))=_
  unfold VU pz py
  dsimp only
  rw [show((k:Int)-1+1).toNat=k from by omega,Int.toNat_natCast]
 rw [List.take_add_one,hu];rfl
theorem Is {m:Qz} {k:Nat} {n:BS} (h:Y9 (W7 m k n)=true∨W7 m k n∈Q5 m):mh m k n=W7 m k n:=by
 unfold mh W7
 unfold W7 at h
 by_cases h1:Vt m n≥0
 ·rw [iP h1,iP h1]
 ·rw [iN h1] at h⊢
  rw [iN h1]
  by_cases h2:ey m n≥0
  ·rw [iP h2,iP h2]
  ·rw [iN h2] at h⊢
   rw [iN h2]
   by_cases h3:fg (Qt m k) n≥0
   ·rw [iP h3]
   ·exfalso
    rcases h with h|h
    ·cases h
    ·obtain⟨j,i,_,_,e⟩:=Vx.1 h
     simp only [Ab] at e
     omega
theorem Qqw {m:Qz} {k:Nat} {n:BS} (h:Dd m k n):qN m k n=Jm m k n:=by
 obtain⟨h0,h1,h2⟩:=h
 unfold qN
 unfold Jm s9 ta at h2⊢
 by_cases eU:XE n 0=64
 ·have hp:=h1 eU
  rw [iP eU,iP eU] at h2⊢
  rw [iP ⟨h0,eU⟩,iN om]
  exact Is h2
 ·rw [iN eU,iN eU] at h2⊢
  rw [iN fun z=>eU z.2]
  exact Is h2
theorem MP {s:BS} (h:QD s=true):¬(0<s.length∧XE s 0=64):=fun z=>by
 unfold QD at h
 simp only [Ba,Dq] at h
 have:=h.1.2
 rw [z.2] at this
 exact absurd this Af
theorem QuP {m:Qz} (h:qu m) (q:Nat) (hq:q<m.aa.length):¬(0<(m.aa.getD q bj).top.length∧XE (m.aa.getD q bj).top 0=64):=by
 generalize ht:(m.aa.getD q bj).top=t
 have h1:=h.tp q hq
 rw [ht] at h1
 rcases h1 with h1|h1
 ·obtain⟨i,_,h5,h6⟩:=KA aU h1
  have h7:=h.gt (q+1) om i h5
  have e:((m.aa.getD q bj).an.getD i aU).name=t:=by simpa using h6
  unfold fU at h7
  split at h7
  ·cases h7
  ·rename_i h8
   have:=MP (s:=((Qt m (q+1)).getD i aU).name) (by simpa using h8)
   rw [show((Qt m (q+1)).getD i aU).name=t from e] at this
   exact this
 ·obtain⟨i,_,h5,h6⟩:=KA bn h1
  have:=MP (h.ev i h5)
  rw [show(m.events.getD i bn).name=t from by simpa using h6] at this
  exact this
theorem Qqx {m:Qz} (h:qu m):lu m= !((mg (Zp m) (Q5 m).length (Q5 m).length (List.replicate (Q5 m).length false)).all id):=
 Quy (Wf m _ _) Wg (K7 (yj h)) rfl
end Go.PN
namespace Go.AI
open Go.PN
abbrev zY (u:Nat):List CV:=[CV.int .i64 (u:Int)]
def qQ (l:List Nat):Nat→CV:=lf 1 zY (0:Nat) l
@[go_sem] theorem QxD (l:List Nat) (i:Nat):qQ l i=.int .i64 ((l.getD i 0:Nat):Int):=by have:=Q9 (s:=1) (c:=zY) (d:=(0:Nat)) (xs:=l) (i:=i) (k:=0) om;rw [Ad,Nat.add_zero] at this;exact this
abbrev vX (t:Bool) (l:List Nat):CV:=.row t 1 l.length (qQ l)
abbrev z7 (l:List Nat):List CV:=[vX true l]
def mj (l:List (List Nat)):Nat→CV:=lf 1 z7 ([]:List Nat) l
@[go_sem] theorem QxE (l:List (List Nat)) (i:Nat):mj l i=vX true (l.getD i []):=by have:=Q9 (s:=1) (c:=z7) (d:=([]:List Nat)) (xs:=l) (i:=i) (k:=0) om;rw [Ad,Nat.add_zero] at this;exact this
abbrev qk (t:Bool) (l:List (List Nat)):CV:=.row t 1 l.length (mj l)
theorem Qqy {xs:List Nat} {n:Nat} (hn:xs.length=n) (t:Nat):∀j,j<(n+1)*1→Xs (qQ xs) (n*1) (ao (zY t)) j=qQ (xs++[t]) j:=YR (s:=1) (c:=zY) (d:=(0:Nat)) hn t Af
theorem Qqz {xs:List (List Nat)} {n:Nat} (hn:xs.length=n) (t:List Nat):∀j,j<(n+1)*1→Xs (mj xs) (n*1) (ao (z7 t)) j=mj (xs++[t]) j:=YR (s:=1) (c:=z7) (d:=([]:List Nat)) hn t Af
end Go.AI
namespace Go.Proofs.YtjegkdadeghpjaaGreatDoor
open Go.AI Go.PN
theorem Qs3 {h:Qa} {l:List Nat}:JU h (vX true l) (vX true l):=.row fun j _=>cp Af (fun x k hk=>match k,hk with|0,_=>.int _ _) j
theorem Qs4 {h:Qa} {l:List (List Nat)}:JU h (qk true l) (qk true l):=.row fun j _=>cp Af (fun x k hk=>match k,hk with|0,_=>Qs3) j
end Go.Proofs.YtjegkdadeghpjaaGreatDoor
namespace Go.PN
open Go.AI
theorem Ci {m:Qz} (ho:K5 m) (k:Nat):0≤YQ m k∧YQ m k≤1048576*k:=CI (fun k=>(ho.ca k).1) k
theorem GI {m:Qz} (k:Nat):∀d:Nat,YQ m k≤YQ m (k+d)
 |0=>Int.le_refl _
 |d+1=>by
  have h:=GI (m:=m) k d
  have e:YQ m (k+(d+1))=YQ m (k+d)+(Qt m (k+d)).length:=rfl
  omega
theorem OP {α:Type} {l:List α} {j:Nat} {d:α} (hj:j<l.length):l.take (j+1)=l.take j++[l.getD j d]:=by
 rw [List.take_add_one,Lg,Li hj];rfl
theorem Qn4 {m:Qz} (h:yL m):∀l∈Zp m,∀u∈l,u<(Q5 m).length:=fun l hl u hu=>by
 unfold Zp at hl
 obtain⟨t,ht,rfl⟩:=List.mem_map.1 hl
 obtain⟨y,hy,rfl⟩:=List.mem_map.1 hu
 obtain⟨zN,EV⟩:=List.mem_filter.1 hy
 have zO:Y9 y=false:=by simpa using EV
 have EX:=(K7 h t ht y zN).resolve_left (by rw [zO];decide)
 exact(@List.idxOf_lt_length_iff Th instBEqOfDecidableEq inferInstance _ _).2 EX
theorem QqA {l:List Nat} {j:Nat} {p:Nat→Bool} (hj:j<l.length):(l.take (j+1)).all p=((l.take j).all p&&p (l.getD j 0)):=by
 rw [OP (d:=(0:Nat)) hj,List.all_append]
 simp
theorem Qs5 {l:List Bool} (h:∀t,t<l.length→l.getD t false=true):l.all id=true:=List.all_eq_true.2 fun x hx=>by
 obtain⟨i,hi,rfl⟩:=List.getElem_of_mem hx
 have:=h i hi
 rw [Lg,Li hi] at this
 exact this
theorem QuQ {l:List Bool} {t:Nat} (ht:t<l.length) (h:l.getD t false=false):l.all id=false:=by
 rw [Bool.eq_false_iff]
 intro ha
 have:=List.all_eq_true.1 ha (l[t]) (Le ht)
 rw [Lg,Li ht] at h
 simp at h this
 rw [h] at this
 cases this
end Go.PN
namespace Go.Proofs.YtjegkdadeghpjaaGreatDoor
open Go.AI Go.PN Proofs.Tryz
attribute [local irreducible] aw Fa VA Vk Fh YO
theorem Qn5 (m:Qz) (ho:K5 m) (hc:qu m):Fa prog 92 [.agg (Xo true m)] (.c (qk true (Zp m))):=by
 have hm:=ho.ok
 have bV:=yj hc
 have dJ:m.aa.length≤1048576:=ho.pg.1
 have PA:=F9 (m:=m)
 have zj:=GH m
 have bY:∀k,(Qt m k).length≤1048576:=fun k=>(ho.ca k).1
 have Pz:=Ci ho (m.aa.length+1)
 refine fA func92 fun C hC=>?_
 refine zA o0 ?_
 refine xB fun g1 ah=>?_
 refine zA ah ?_
 refine Qh (fun y:Nat×Nat×Option Nat=>[(1,.c (.aj g1 0)),(3,.c (gs y.2.2 1 y.2.1)),(4,.c (.int .i64 ((y.1:Int)-1)))]) (fun y=>[(g1,.cells 45 8 (ao (Xo true m)))]++gh y.2.2 98 y.2.1 (mj ((Zp m).take y.2.1))) (fun y=>y.1≤m.aa.length+1∧(y.2.2=none→y.2.1=0)∧(y.2.1:Int)=YQ m y.1) (fun y=>m.aa.length+1-y.1) (0,0,none) (zB ah) zZ ⟨Lz _,fun _=>rfl,rfl⟩ ?_
 rintro ⟨k,x,og⟩ ⟨hk,ax,hx⟩
 dsimp only at hk ax hx⊢
 simp only [Lq,Ln]
 by_cases mO:k≤m.aa.length
 ·have f0:=Kh m k mO hm.pg
  repeat' first|refine zV ah ?_|refine yQ ah f0 ?_|refine zH ah ?_ ?_<;>intro hb|fail
  all_goals try (exfalso;omega)
  have e1:YQ m (k+1)=YQ m k+(Qt m k).length:=rfl
  have hNk:=Ci ho k
  have hmn:=GI (m:=m) (k+1) (m.aa.length-k)
  rw [show k+1+(m.aa.length-k)=m.aa.length+1 from by omega] at hmn
  have tl:=bY k
  refine Qh (fun y:Nat×Nat×Option Nat=>[(1,.c (.aj g1 0)),(3,.c (gs y.2.2 1 y.2.1)),(4,.c (.int .i64 ((k:Int)-1))),(22,.c (ca true (Qt m k))),(23,.c (.int .i64 (Qt m k).length)),(24,.c (.int .i64 y.1))]) (fun y=>[(g1,.cells 45 8 (ao (Xo true m)))]++gh y.2.2 98 y.2.1 (mj ((Zp m).take y.2.1))) (fun y=>y.1≤(Qt m k).length∧(y.2.2=none→y.2.1=0)∧(y.2.1:Int)=YQ m k+y.1) (fun y=>(Qt m k).length-y.1) (0,x,og) (zB ah) zZ ⟨Lz _,ax,by dsimp only;omega⟩ ?_
  clear hx ax
  rintro ⟨i,x,og⟩ ⟨hi,ax,hx⟩
  dsimp only at hi ax hx⊢
  simp only [Lq,Ln]
  repeat' first|refine zV ah ?_|refine zH ah ?_ ?_<;>intro hb|fail
  ·have hi':=hb
   have Ee:=bV k mO i hi'
   have il:=Qn3 mO hi' hx
   have cC:=ho.uT k i
   have eH:=ho.inl k i
   generalize hg:(Qt m k).getD i aU=g at*
   have Ec:g.ak.length≤1048576:=cC.2.2.1
   refine yA ah fun g6 aJ=>?_
   refine zA (oj ah aJ) ?_
   refine Qh (fun y:Nat×List Nat×Option Nat=>[(1,.c (.aj g1 0)),(3,.c (gs og 1 x)),(4,.c (.int .i64 ((k:Int)-1))),(7,.c (gs y.2.2 1 y.2.1.length)),(22,.c (ca true (Qt m k))),(23,.c (.int .i64 (Qt m k).length)),(24,.c (.int .i64 i)),(29,.c (YH true g.ak)),(30,.c (.int .i64 g.ak.length)),(31,.c (.int .i64 y.1))]) (fun y=>(g6,.cells 71 7 (ao (Zi g)))::(g1,.cells 45 8 (ao (Xo true m)))::(gh og 98 x (mj ((Zp m).take x))++gh y.2.2 3 y.2.1.length (qQ y.2.1))) (fun y=>y.1≤g.ak.length∧(y.2.2=none→y.2.1.length=0)∧y.2.1.length≤y.1∧y.2.1=py m k (g.ak.take y.1)) (fun y=>g.ak.length-y.1) (0,[],none) (zB (oj ah aJ)) (by dsimp only [gh];rw [Lp];exact Lr _) ⟨Lz _,fun _=>rfl,Ac _,rfl⟩ ?_
   rintro ⟨j,l,oq⟩ ⟨hj,dI,bp,hl⟩
   dsimp only at hj dI bp hl⊢
   all_goals try(have Z:=(oj ah aJ);(repeat' first|refine zV Z ?_|refine zH Z ?_ ?_<;>intro hb|fail);all_goals clear Z)
   ·have dO:=hb
    have jc:=OP (d:=([]:BS)) dO
    have P1:=Ee (g.ak.getD j []) (by rw [Lg,Li dO];exact Le dO)
    have jL:=Qn2 m k (g.ak.take j) (g.ak.getD j [])
    rw [←jc,←hl] at jL
    have f1:=Qp5 m k (g.ak.getD j []) mO hm.ev hm.hs hm.pg (fun k=>Lt (bY k) Af) (eH j) (fun q hq=>⟨Lt (ho.tI q).2.1 Af,QuP hc q hq⟩)
    rw [Qqw P1] at f1
    have pW:=P1.2.2
    generalize Jm m k (g.ak.getD j [])=r at*
    by_cases vF:r.1=2
    ·have Ej:Y9 r=false:=by unfold Y9;simpa using vF
     rw [Ej] at jL pW
     obtain⟨k',i',dC,jV,rfl⟩:=Vx.1 (pW.resolve_left Af)
     have f2:=SS m k' i' dC dJ bY (Lt (Ll jV) (bY k'))
     rw [←Qn1 dC jV] at f2
     generalize sY m (2,(k':Int)-1,(i':Int))=u at*
     rw [iN Af] at jL
     dsimp only at f1
     refine mv (oj ah aJ) f1 f2 ?_
     have dZ:(l++[u]).length=l.length+1:=by rw [La];rfl
     refine QT (pre:=(g6,.cells 71 7 (ao (Zi g)))::(g1,.cells 45 8 (ao (Xo true m)))::gh og 98 x (mj ((Zp m).take x))) rfl rfl rfl rfl rfl rfl rfl (zE (oj ah aJ)) (zE (oj ah aJ)) (by rfl) om om (zE (oj ah aJ)) om (by exact dI) (zE (oj ah aJ)) (by rfl) (by rfl) qb qc om (by exact Qqy rfl u) fun gb bH=> ?_
     replace bH:=Qa.ay bH
     first|dsimp only [Qa.ne,gh] at bH|dsimp only [Qa.ne] at bH|skip
     refine yS (oj ah (oj aJ bH)) ?_
     refine zA (oj ah (oj aJ bH)) ?_
     refine Qb ⟨(j+1,l++[u],some gb),?_⟩
     dsimp only
     simp only [dZ]
     and_intros
     all_goals first|rfl|exact Lr _|exact True.intro|exact Xx|exact jL.symm|omega
    ·have Ej:Y9 r=true:=by unfold Y9;simpa using vF
     rw [iP Ej] at jL
     all_goals try(have Z:=(oj ah aJ);(repeat' first|refine zV Z ?_|refine yQ Z f1 ?_|refine zH Z ?_ ?_<;>intro hb|fail);all_goals clear Z)
     ·exact absurd hb vF
     refine Qb ⟨(j+1,l,oq),?_⟩
     and_intros
     all_goals first|rfl|exact Lr _|exact True.intro|exact dI|exact jL.symm|(dsimp only;omega)
   ·have rE:j=g.ak.length:=by omega
    rw [rE,Lk] at hl
    rw [←hl] at il
    refine Qj (h':=gh oq 3 (l.length*1) (qQ l)++((g6,.cells 71 7 (ao (Zi g)))::(g1,.cells 45 8 (ao (Xo true m)))::gh og 98 x (mj ((Zp m).take x)))) (by
     rw [Ad]
     exact List.perm_append_comm (l₁:=(g6,.cells 71 7 (ao (Zi g)))::(g1,.cells 45 8 (ao (Xo true m)))::gh og 98 x (mj ((Zp m).take x)))) ?_
    refine Z8 (t:=54) (f':=qQ l) dI rfl (zE (oj ah aJ)) (fun g _=>hC g) (fun _ _=>rfl) rfl ?_
    have J1:=oj ah aJ
    refine yS J1 ?_
    have EU:((Zp m).take x).length=x:=by rw [List.length_take,zj];omega
    refine zA J1 ?_
    refine QT (pre:=[(g6,.cells 71 7 (ao (Zi g))),(g1,.cells 45 8 (ao (Xo true m)))]) rfl rfl rfl rfl rfl rfl rfl (zE J1) (zE J1) (by rfl) om om (zE J1) om (by exact ax) (zE J1) (by rfl) (by rfl) qb qc om (by exact Qqz EU l) fun gb bH=> ?_
    replace bH:=Qa.ay bH
    first|dsimp only [Qa.ne,gh] at bH|dsimp only [Qa.ne] at bH|skip
    have J2:=oj ah (oj aJ bH)
    refine yS J2 ?_
    rw [←il]
    refine zA J2 ?_
    refine Qb ⟨(i+1,x+1,some gb),?_⟩
    dsimp only
    and_intros
    all_goals first|rfl|exact Lr _|exact .cons _ (.refl _)|exact True.intro|exact Xx|omega
  ·refine Qb ⟨(k+1,x,og),?_⟩
   dsimp only
   have cA:=hb
   and_intros
   all_goals first|rfl|exact Lr _|exact True.intro|exact ax|exact Ul om|omega
 ·have Ef:k=m.aa.length+1:=by omega
  subst Ef
  repeat' first|refine zV ah ?_|refine zH ah ?_ ?_<;>intro hb|fail
  all_goals try (exfalso;omega)
  have hxL:x=(Zp m).length:=by omega
  subst hxL
  rw [Lk]
  refine Qj (h':=gh og 98 ((Zp m).length*1) (mj (Zp m))++[(g1,.cells 45 8 (ao (Xo true m)))]) (by
   rw [Ad]
   exact List.perm_append_comm (l₁:=([(g1,.cells 45 8 (ao (Xo true m)))]:Qa))) ?_
  refine Z8 (t:=2) (f':=mj (Zp m)) ax rfl (zE ah) (fun g _=>hC g) (fun _ _=>rfl) rfl ?_
  refine yS ah ?_
  refine zA ah ?_
  refine yT hC ah ?_
  exact .one (.c Qs4)
end Go.Proofs.YtjegkdadeghpjaaGreatDoor
