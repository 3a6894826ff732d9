/- Parts of one proof, laid by a program. -/
import Derived.Test.YtngjgahldnnapaaGreatDoorM00
import Derived.Test.YtngjgahldnnapaaGreatDoorM08
set_option linter.unusedSimpArgs false
set_option linter.unusedVariables false
set_option maxRecDepth 100000
set_option maxHeartbeats 12800000
namespace Go.PN
open Go.AI
structure MdN (m:Qv):Prop where
 ev:∀x∈m.events,x.p.wf 1000∧x.fail.wf 1000∧x.rep.wf 1000
 gt:∀g∈m.gates,GtN g
 gtl:m.gates.length≤64
 pg:∀p∈m.pages,p.gates.length≤64∧∀g∈p.gates,GtN g
 gr:∀x∈m.groups,x.members.length≤24∧x.factors.length≤24∧∀r∈x.factors,r.wf 1000
 ph:∀x∈m.phases,x.values.length≤24∧∀v∈x.values,v.p.wf 1000
abbrev mdN (m:Qv) (e h g p r s:CV):List CV:=[.str (sB m.name),.str (sB m.top),e,h,g,p,r,s]
theorem Qbd {α:Type} (l:List α) (d:α) {j:Nat} (hj:j<l.length):l.take (j+1)=l.take j++[l.getD j d]:=by
 rw [List.take_add_one,Li hj,Lg,Li hj];rfl
section
variable {α β : Type}
def QlW (k:Int) (l l':List BS):Prop:=if K6 k then l'.Perm l else if k=8 then l'.take 1=l.take 1∧(l'.drop 1).Perm (l.drop 1) else l'=l
structure ReG (g g':Xe):Prop where
 nm:g'.name=g.name
 kd:g'.kind=g.kind
 k:g'.k=g.k
 dm:g'.dorm=g.dorm
 inp:QlW g.kind g.inputs g'.inputs
def ReL (L L':List Xe):Prop:=∃h:Xe→Xe,(∀g∈L,ReG g (h g))∧L'.Perm (L.map h)
structure ReP (x x':Yz):Prop where
 nm:x'.name=x.name
 tp:x'.top=x.top
 gt:ReL x.gates x'.gates
structure ReR (x x':YB):Prop where
 nm:x'.name=x.name
 kd:x'.kind=x.kind
 fa:x'.factors=x.factors
 me:x'.members.Perm x.members
structure ReH (x x':V0):Prop where
 nm:x'.name=x.name
 tp:x'.top=x.top
 vl:x'.values.Perm x.values
structure ReM (m m':Qv):Prop where
 nm:m'.name=m.name
 tp:m'.top=m.top
 ev:m'.events.Perm m.events
 hs:m'.houses.Perm m.houses
 gt:ReL m.gates m'.gates
 pg:∃h:Yz→Yz,(∀x∈m.pages,ReP x (h x))∧m'.pages.Perm (m.pages.map h)
 gr:∃h:YB→YB,(∀x∈m.groups,ReR x (h x))∧m'.groups.Perm (m.groups.map h)
 ph:∃h:V0→V0,(∀x∈m.phases,ReH x (h x))∧m'.phases=m.phases.map h
end
section
variable {α : Type}
structure XaP (m:Qv):Prop where
 ev:∀i,i+1<m.events.length→VU (m.events.getD i ev0).name (m.events.getD (i+1) ev0).name=true
 hs:∀i,i+1<m.houses.length→VU (m.houses.getD i hs0).name (m.houses.getD (i+1) hs0).name=true
 gr:∀i,i+1<m.groups.length→VU (m.groups.getD i gr0).name (m.groups.getD (i+1) gr0).name=true
 pg:∀i,i+1<m.pages.length→VU (m.pages.getD i pg0).name (m.pages.getD (i+1) pg0).name=true
 gt:∀k i,i+1<(Qt m k).length→VU ((Qt m k).getD i gt0).name ((Qt m k).getD (i+1) gt0).name=true
 inp:∀k,∀g∈Qt m k,g.kind=0∨g.kind=1→∀i,i+1<g.inputs.length→VU (g.inputs.getD (i+1) []) (g.inputs.getD i [])=false
end
theorem Qnu {x:Xe} (h:Je x=0):1≤x.inputs.length∧(x.kind=8→2≤x.inputs.length):=by
 unfold Je at h
 rw [Kl Af,Kl Af] at h
 obtain⟨h1,h2,_⟩:=h
 unfold QeR at h2
 simp only [Bool.not_eq_false] at h2
 split at h2
 ·have:=beq_iff_eq.1 h2;omega
 ·split at h2
  ·have:=beq_iff_eq.1 h2;omega
  ·split at h2
   ·simp only [Ba,Dq] at h2;omega
   ·simp only [Ba,Dq] at h2;omega
theorem Qsc {m:Qv} {L:List Xe} (hL:GsA m L) (ho:∀g∈L,GtO g):∀g∈L,GtN g:=fun g hg=>by
 have h:=(hL.2 g hg).2.2.2.1
 exact⟨(ho g hg).2.1,(Qnu h).1,(Qnn h).inp,(Qnu h).2⟩
theorem Qsd {m:Qv} (ho:Jb m) (hg:Good m):MdN m:=by
 obtain⟨g1,g2⟩:=QrX hg
 refine⟨fun x hx=>(ho.ev.2 x hx).2,Qsc hg.gt ho.gt.2,g1,fun p hp=>⟨g2 p hp,Qsc (hg.pg p hp).2.1 (ho.pg.2 p hp).2.2.2⟩,fun x hx=> ?_,fun x hx=>⟨Qv3 hg hx,fun v hv=>((ho.ph.2 x hx).2.2.2 v hv).2⟩⟩
 obtain⟨b1,b2,b3,b4,b5⟩:=hg.gr x hx
 have c1:x.members.length≤24∧x.factors.length≤24:=by
  obtain⟨d1,d2,d3⟩:=b3
  split at d2<;>(split at d3<;>omega)
 exact⟨c1.1,c1.2,(ho.gr.2 x hx).2.2.2.2⟩
theorem Qnv {α:Type} {p:α→Bool} {l:List α} {d:α} {j:Nat} (hj:j<l.length) (h:p (l.getD j d)=false):l.all p=false:=by
 refine Bool.of_not_eq_true fun e=> ?_
 have:=List.all_eq_true.1 e (l.getD j d) (by rw [Lg,Li hj];exact Le _)
 rw [h] at this;cases this
theorem Qnw {α:Type} {p:α→Bool} {l:List α} {d:α} (h:∀j,j<l.length→p (l.getD j d)=true):l.all p=true:=by
 refine List.all_eq_true.2 fun x hx=> ?_
 obtain⟨j,hj,rfl⟩:=List.getElem_of_mem hx
 have:=h j hj
 rwa [Lg,Li hj] at this
theorem QdZ {α:Type} {p:α→Bool} {l:List α} (d:α):l.all p=true↔∀j,j<l.length→p (l.getD j d)=true:=
 ⟨fun h j hj=>Bool.of_not_eq_false fun e=>(by rw [Qnv hj e] at h;cases h),Qnw⟩
def KN (m:Qv):Prop:=m.events.length≤60∧m.houses.length≤60∧m.pages.length≤30∧m.groups.length≤30∧m.phases.length≤30∧O0 m.gates=true∧(∀j,j<m.events.length→W6 (m.events.getD j ev0)=true)∧(∀j,j<m.pages.length→O0 (m.pages.getD j pg0).gates=true)∧(∀j,j<m.groups.length→Ke (m.groups.getD j gr0)=true)∧(∀j,j<m.phases.length→Kg (m.phases.getD j ph0)=true)
theorem QgR (m:Qv):Kh m=true↔KN m:=by
 unfold Kh KN
 rw [←QdZ (p:=W6) ev0,←QdZ (p:=Ke) gr0,←QdZ (p:=Kg) ph0]
 rw [show(∀j,j<m.pages.length→O0 (m.pages.getD j pg0).gates=true)↔m.pages.all Qlf=true from(QdZ (p:=Qlf) pg0).symm]
 simp only [Ba,Dq,and_assoc]
theorem Qse {m:Qv} (h:¬KN m):false=Kh m:=(Bool.of_not_eq_true fun e=>h ((QgR m).1 e)).symm
theorem Qsf {m:Qv} (h:KN m):true=Kh m:=((QgR m).2 h).symm
theorem Qw9 {l:List Xe} {j:Nat} (hj:j<l.length) (h:Qjn (l.getD j gt0)=false):false=O0 l:=by
 unfold O0
 rw [Qnv hj h];rfl
theorem Qxa {l:List Xe} (h:∀j,j<l.length→Qjn (l.getD j gt0)=true):decide (l.length≤100)=O0 l:=by
 unfold O0
 rw [Qnw h];rfl
theorem QpS {x:YB} {j:Nat} (hj:j<x.factors.length) (h:Yr (x.factors.getD j rd0)=false):Ke x=false:=by
 unfold Ke
 rw [Qnv hj h,Bool.and_false]
theorem QpT {x:YB} (h1:x.members.length≤60) (h2:x.factors.length≤60) (h:∀j,j<x.factors.length→Yr (x.factors.getD j rd0)=true):Ke x=true:=by
 unfold Ke
 rw [Qnw h,Dt h1,Dt h2];rfl
theorem QpU {x:V0} {j:Nat} (hj:j<x.values.length) (h:Yr (x.values.getD j vl0).p=false):Kg x=false:=by
 unfold Kg
 rw [Qnv (p:=fun v:Zp=>Yr v.p) hj h,Bool.and_false]
theorem QpV {x:V0} (h1:x.values.length≤60) (h:∀j,j<x.values.length→Yr (x.values.getD j vl0).p=true):Kg x=true:=by
 unfold Kg
 rw [Qnw (p:=fun v:Zp=>Yr v.p) h,Dt h1];rfl
theorem QgS (n:Nat):RdU n rd0:=RD.wf.mono (a:=0) ⟨fun _ h=>(by cases h),fun _ h=>(by cases h),Ac _,Ac _⟩ (Lz n)
theorem QyG (n:Nat):EvU n ev0:=⟨Lz _,QgS n,QgS n,QgS n,by decide,by decide⟩
theorem QyH (n:Nat):GtU n gt0:=⟨Lz _,by decide,by decide,⟨Lz _,fun _ h=>(by cases h)⟩,QgS n⟩
theorem QyI (n:Nat):PgU n pg0:=⟨Lz _,Lz _,Lz _,fun _ h=>by cases h⟩
theorem QyJ (n:Nat):GrU n gr0:=⟨Lz _,by decide,⟨Lz _,fun _ h=>(by cases h)⟩,Lz _,fun _ h=>(by cases h)⟩
theorem QyK (n:Nat):VlU n vl0:=⟨Lz _,QgS n⟩
theorem QyL (n:Nat):PhU n ph0:=⟨Lz _,Lz _,Lz _,fun _ h=>by cases h⟩
end Go.PN
namespace Go.Proofs.YtngjgahldnnapaaGreatDoor
open Go.AI Go.PN Proofs.Tryz
abbrev mZ (g:Nat):Nat×XD:=(g,.cells 29 8 (ofL [.str {data:= #[]},.str {data:= #[]},.nils,.nils,.nils,.nils,.nils,.nils]))
abbrev mM (g:Nat) (m:Qv):Nat×XD:=(g,.cells 29 8 (ofL (Xa true m)))
abbrev mD (g:Nat) (m:Qv) (a b c d e f:CV):Nat×XD:=(g,.cells 29 8 (ofL (mdN m a b c d e f)))
attribute [local irreducible] aw Fa ZN ZZ Fh YE
theorem QpW (m:Qv) (hg:Go.PN.Good m) (hs:MdN m) (f1:Fa prog 53 [.agg (Xa true m)] (.c .nilI)):Fa prog 35 [.agg (Xa true m)] (.tup [.agg (Xa true (Kw m)),.c .nilI]):=by
 have nE:m.events.length≤1099511627776:=Lt hg.evl Af
 have nH:m.houses.length≤1099511627776:=Lt hg.hsl Af
 have nP:m.pages.length≤1099511627776:=Lt hg.pgl Af
 have nR:m.groups.length≤1099511627776:=Lt hg.grl Af
 have nS:m.phases.length≤1099511627776:=Lt hg.phl Af
 have hlg:=hs.gtl
 have nH2:m.houses.length≤16:=hg.hsl
 have f2:=QgQ m.gates hs.gt om hg.gt.1
 obtain⟨RG,hRG⟩:∃c:CV,c=gts true (UP m.gates):=⟨_,rfl⟩
 rw [←hRG] at f2
 obtain⟨RE,hRE⟩:∃c:CV,c=.row true 11 m.events.length (ZS (Qk X3.name m.events)):=⟨_,rfl⟩
 obtain⟨RH,hRH⟩:∃c:CV,c=.row true 2 m.houses.length (ZT (Qk Vx.name m.houses)):=⟨_,rfl⟩
 obtain⟨RP,hRP⟩:∃c:CV,c=.row true 3 m.pages.length (Kq (Qk Yz.name (m.pages.map normP))):=⟨_,rfl⟩
 obtain⟨RR,hRR⟩:∃c:CV,c=.row true 4 m.groups.length (VR (Qk YB.name (m.groups.map normR))):=⟨_,rfl⟩
 obtain⟨RS,hRS⟩:∃c:CV,c=.row true 3 m.phases.length (Kr (m.phases.map normH)):=⟨_,rfl⟩
 have hsl:(Qk Vx.name m.houses).length=m.houses.length:=(Q6 _ _).length_eq
 have hel:(Qk X3.name m.events).length=m.events.length:=(Q6 _ _).length_eq
 refine fA func35 fun C hC=>?_
 refine xG ?_
 refine xB fun g1 n_1=>?_
 refine yA n_1 fun g2 n_2=>?_
 refine Zo (oj n_1 n_2) f1 ?_
 refine Yy (fun z:Nat×Option Nat=>[(1,.c (.optr g1 0)),(2,.c (.optr g2 0)),(3,.c .nilI),(5,.c (.optr z.1 0))]) (fun z=>mD z.1 m .nils (gs z.2 2 m.houses.length) RG .nils .nils .nils::mZ g2::mM g1 m::gh z.2 115 (m.houses.length*2) (ZT m.houses)) (fun z=>(z.2=none→m.houses.length=0)) ?_ ?_
 ·refine Qr5 Qg ?_
  refine Qnt 6 11 Af ?_ ?_
  ·refine QhY [mM g1 m] [(0,0),(1,0),(2,0),(3,0),(4,0),(5,0),(7,0),(8,0),(6,1),(9,0),(10,0),(11,1),(12,2)] kR qa ?_
   have J1:=oj n_1 n_2
   refine yG J1 ?_
   refine Kc (hc:=[]) (hr:=[mZ g2,mM g1 m]) rfl (QgP m.houses om) rfl rfl rfl (.refl _) (zL J1) (fun _ _ hq=>by obtain⟨og,_,_,rfl⟩:=hq;exact Qm (by simp) Qf) ?_ (hm:=.inr ⟨rfl,rfl⟩)
   rintro _ _ ⟨og,hog,rfl,rfl⟩ _
   refine Xp J1 ?_
   refine Yg rfl f2 rfl rfl rfl (fun _ _=>(zL J1)) ?_
   refine Xp J1 ?_
   refine Vq (r:=.agg (mdN m .nils (gs og 2 m.houses.length) RG .nils .nils .nils)) rfl (fun _ _=>JH (ps:=[(0,.tmp 27),(1,.tmp 29),(3,.tmp 32),(4,.tmp 35)]) (zE J1) (by subst hRG;cases og<;>rfl)) rfl rfl ?_
   refine Xp J1 ?_
   refine OT rfl rfl rfl rfl (zE J1) qa (fun g5 n_5=> ?_) (hm:=.inr ⟨rfl,rfl⟩)
   refine Xp J1 ?_
   refine Xm (FP':=[]) rfl rfl rfl rfl rfl (zE J1) (zE J1) (zE J1) (zE J1) (fun _ e=>by cases e) (by subst hRG;cases og<;>rfl) rfl (Ac 8) rfl Qf ?_
   refine Xp J1 ?_
   refine Qi (h':=mD g5 m .nils (gs og 2 m.houses.length) RG .nils .nils .nils::mZ g2::mM g1 m::gh og 115 (m.houses.length*2) (ZT m.houses)) (.cons _ List.perm_append_comm) ?_
   exact Qb ⟨(g5,og),(zB J1),zZ,hog⟩
  ·refine QhY [mM g1 m] [(0,0),(1,0),(2,0),(3,0),(4,0),(5,0),(7,0),(8,0),(11,1),(6,1),(9,0),(10,0),(12,2)] kR qa ?_
   have J2:=oj n_1 n_2
   refine yG J2 ?_
   refine OT rfl rfl rfl rfl (zE J2) qa (fun g5 n_5=> ?_) (hm:=.inr ⟨rfl,rfl⟩)
   refine Xp J2 ?_
   refine Kc (hc:=[]) (hr:=[mZ g5,mZ g2,mM g1 m]) rfl (QgP m.houses om) rfl rfl rfl (.refl _) (zL J2) (fun _ _ hq=>by obtain⟨og,_,_,rfl⟩:=hq;exact Qm (by simp) Qf) ?_ (hm:=.inr ⟨rfl,rfl⟩)
   rintro _ _ ⟨og,hog,rfl,rfl⟩ _
   refine QhA (h':=mZ g5::(gh og 115 (m.houses.length*2) (ZT m.houses)++[mZ g2,mM g1 m])) List.perm_middle ?_
   refine Xp J2 ?_
   refine Yg rfl f2 rfl rfl rfl (fun _ _=>(zL J2)) ?_
   refine Xp J2 ?_
   refine Vq (r:=.agg (mdN m .nils (gs og 2 m.houses.length) RG .nils .nils .nils)) rfl (fun _ _=>JH (ps:=[(0,.tmp 27),(1,.tmp 29),(3,.tmp 32),(4,.tmp 35)]) (zE J2) (by subst hRG;cases og<;>rfl)) rfl rfl ?_
   refine Xp J2 ?_
   refine Xm (FP':=[]) rfl rfl rfl rfl rfl (zE J2) (zE J2) (zE J2) (zE J2) (fun _ e=>by cases e) (by subst hRG;cases og<;>rfl) rfl (Ac 8) rfl Qf ?_
   refine Xp J2 ?_
   refine Qi (h':=mD g5 m .nils (gs og 2 m.houses.length) RG .nils .nils .nils::mZ g2::mM g1 m::gh og 115 (m.houses.length*2) (ZT m.houses)) (.cons _ List.perm_append_comm) ?_
   exact Qb ⟨(g5,og),(zB J2),zZ,hog⟩
 ·rintro ⟨g5,og⟩ hog
  dsimp only at hog⊢
  refine Y9 fun hnd=> ?_
  have q1:g5≠g2:=fun e=>by subst e;simp [Qa.keys] at hnd
  have q2:g5≠g1:=fun e=>by subst e;simp [Qa.keys] at hnd
  clear hnd
  have a1:=eq_false q1
  have a2:=eq_false q1.symm
  have a3:=eq_false q2
  have a4:=eq_false q2.symm
  refine zA (oj n_1 (oj n_2 (oj a1 (oj a2 (oj a3 a4))))) ?_
  refine Ql (hc:=gh og 115 (m.houses.length*2) (ZT m.houses)) (hr:=[mD g5 m .nils (gs og 2 m.houses.length) RG .nils .nils .nils,mZ g2,mM g1 m]) (Qr6 og m.houses hog hg.hsn om) rfl rfl rfl (List.perm_append_comm (l₁:=[_,_,_])) (zL (oj n_1 (oj n_2 (oj a1 (oj a2 (oj a3 a4)))))) ?_
  rintro _ _ ⟨rfl,rfl⟩ _
  refine Qi (h':=mD g5 m .nils (gs og 2 m.houses.length) RG .nils .nils .nils::(gh og 115 (m.houses.length*2) (ZT (Qk Vx.name m.houses))++[mZ g2,mM g1 m])) List.perm_middle ?_
  refine Xi (j0:=3) (m:=8) (f:=(ofL (mdN m .nils (gs og 2 m.houses.length) RG .nils .nils .nils))) (f':=(ofL (mdN m .nils RH RG .nils .nils .nils))) (fp:=ZT (Qk Vx.name m.houses)) rfl hRH (fun i hi h3=>by match i,hi,h3 with|0,_,_=>rfl|1,_,_=>rfl|2,_,_=>rfl|3,_,h=>exact absurd rfl h|4,_,_=>rfl|5,_,_=>rfl|6,_,_=>rfl|7,_,_=>rfl) hog (fun g _=>hC g) ?_
  have J3:=oj n_1 (oj n_2 (oj a1 (oj a2 (oj a3 a4))))
  refine yS J3 ?_
  refine zA J3 ?_
  refine Qh (fun z:Nat×Option Nat=>[(1,.c (.optr g1 0)),(2,.c (.optr g2 0)),(3,.c .nilI),(5,.c (.optr g5 0)),(41,.c (evs true m.events)),(42,.c (.int .i64 m.events.length)),(43,.c (.int .i64 z.1))]) (fun z=>mD g5 m (gs z.2 11 z.1) RH RG .nils .nils .nils::mZ g2::mM g1 m::gh z.2 89 (z.1*11) (ZS (m.events.take z.1))) (fun z=>z.1≤m.events.length∧(z.2=none→z.1=0)) (fun z=>m.events.length-z.1) (0,none) (zB J3) zZ ⟨Lz _,fun _=>rfl⟩ ?_
  rintro ⟨j,og⟩ ⟨hj,hog⟩
  dsimp only at hj hog⊢
  by_cases hjn:j<m.events.length
  ·have d1:decide (j<m.events.length)=true:=Dt hjn
   have hx:=hs.ev (m.events.getD j ev0) (by rw [Lg,Li hjn];exact Le _)
   have hT:=Qbd m.events ev0 hjn
   have hTl:(m.events.take j).length=j:=by rw [List.length_take];omega
   have hevl:=hg.evl
   generalize hv:m.events.getD j ev0=x at*
   have c1:=JO _ hx.1
   have c2:=JO _ hx.2.1
   have c3:=JO _ hx.2.2
   refine zA (oj n_1 (oj n_2 (oj a1 (oj a2 (oj a3 (oj a4 (oj d1 hv))))))) ?_
   refine yA (oj n_1 (oj n_2 (oj a1 (oj a2 (oj a3 (oj a4 (oj d1 hv))))))) fun g7 n_7=>?_
   refine zA (oj n_1 (oj n_2 (oj a1 (oj a2 (oj a3 (oj a4 (oj d1 (oj hv n_7)))))))) ?_
   refine Yf [(g7,.cells 89 11 (ofL (evc x)))] [(0,0),(1,0),(2,0),(3,0),(4,0),(5,0),(6,0),(7,0),(8,0),(9,0),(10,2),(11,0),(12,2),(13,0),(14,2)] Qg kR qa ?_
   have J4:=oj n_1 (oj n_2 (oj a1 (oj a2 (oj a3 (oj a4 (oj d1 (oj hv n_7)))))))
   refine yG J4 ?_
   refine Yg rfl c1 rfl rfl rfl (fun _ _=>(zL J4)) ?_
   refine Xp J4 ?_
   refine Yg rfl c2 rfl rfl rfl (fun _ _=>(zL J4)) ?_
   refine Xp J4 ?_
   refine Yg rfl c3 rfl rfl rfl (fun _ _=>(zL J4)) ?_
   refine Xp J4 ?_
   refine Xm (FP':=[]) rfl rfl rfl rfl rfl (zE J4) (zE J4) (zE J4) (zE J4) (fun _ e=>by cases e) rfl rfl (show 4≤11 from by omega) rfl Qf ?_
   refine Xp J4 ?_
   refine Xm (FP':=[]) rfl rfl rfl rfl rfl (zE J4) (zE J4) (zE J4) (zE J4) (fun _ e=>by cases e) rfl rfl (show 7≤11 from by omega) rfl Qf ?_
   refine Xp J4 ?_
   refine Xm (FP':=[]) rfl rfl rfl rfl rfl (zE J4) (zE J4) (zE J4) (zE J4) (fun _ e=>by cases e) rfl rfl (show 10≤11 from by omega) rfl Qf ?_
   refine Xp J4 ?_
   refine zA J4 ?_
   refine QX (pre:=[(g7,.cells 89 11 (ofL (evc x))),mD g5 m (gs og 11 j) RH RG .nils .nils .nils,mZ g2,mM g1 m]) rfl rfl rfl rfl rfl rfl rfl (zE J4) (zE J4) (by rfl) om om (zE J4) om (by exact hog) (zE J4) (by rfl) (by rfl) qb qc om (by exact QeM hTl x) fun gq n_q=> ?_
   replace n_q:=Qa.ne_of n_q
   first|dsimp only [Qa.ne,gh] at n_q|dsimp only [Qa.ne] at n_q|skip
   have J5:=oj n_1 (oj n_2 (oj a1 (oj a2 (oj a3 (oj a4 (oj d1 (oj hv (oj n_7 n_q))))))))
   refine yS J5 ?_
   rw [←hT]
   refine zA J5 ?_
   exact Qb ⟨(j+1,some gq),by dsimp only;omega,(zB J5),Ls _ _,by dsimp only;omega,fun e=>by cases e⟩
  ·have d1:decide (j<m.events.length)=false:=De hjn
   obtain rfl:j=m.events.length:=by omega
   rw [Ly (Ac m.events.length)]
   refine zA (oj n_1 (oj n_2 (oj a1 (oj a2 (oj a3 (oj a4 d1)))))) ?_
   refine Ql (hc:=gh og 89 (m.events.length*11) (ZS m.events)) (hr:=[mD g5 m (gs og 11 m.events.length) RH RG .nils .nils .nils,mZ g2,mM g1 m]) (Qr7 og m.events hog hg.evn om) rfl rfl rfl (List.perm_append_comm (l₁:=[_,_,_])) (zL (oj n_1 (oj n_2 (oj a1 (oj a2 (oj a3 (oj a4 d1))))))) ?_
   rintro _ _ ⟨rfl,rfl⟩ _
   refine Qi (h':=mD g5 m (gs og 11 m.events.length) RH RG .nils .nils .nils::(gh og 89 (m.events.length*11) (ZS (Qk X3.name m.events))++[mZ g2,mM g1 m])) List.perm_middle ?_
   refine Xi (j0:=2) (m:=8) (f:=(ofL (mdN m (gs og 11 m.events.length) RH RG .nils .nils .nils))) (f':=(ofL (mdN m RE RH RG .nils .nils .nils))) (fp:=ZS (Qk X3.name m.events)) rfl hRE (fun i hi h3=>by match i,hi,h3 with|0,_,_=>rfl|1,_,_=>rfl|2,_,h=>exact absurd rfl h|3,_,_=>rfl|4,_,_=>rfl|5,_,_=>rfl|6,_,_=>rfl|7,_,_=>rfl) hog (fun g _=>hC g) ?_
   have J6:=oj n_1 (oj n_2 (oj a1 (oj a2 (oj a3 (oj a4 d1)))))
   refine yS J6 ?_
   refine zA J6 ?_
   refine Qh (fun z:Nat×Option Nat=>[(1,.c (.optr g1 0)),(2,.c (.optr g2 0)),(3,.c .nilI),(5,.c (.optr g5 0)),(70,.c (pgs true m.pages)),(71,.c (.int .i64 m.pages.length)),(72,.c (.int .i64 z.1))]) (fun z=>mD g5 m RE RH RG (gs z.2 3 z.1) .nils .nils::mZ g2::mM g1 m::gh z.2 91 (z.1*3) (Kq ((m.pages.map normP).take z.1))) (fun z=>z.1≤m.pages.length∧(z.2=none→z.1=0)) (fun z=>m.pages.length-z.1) (0,none) (zB J6) zZ ⟨Lz _,fun _=>rfl⟩ ?_
   rintro ⟨j,og⟩ ⟨hj,hog⟩
   dsimp only at hj hog⊢
   by_cases hjn:j<m.pages.length
   ·have d1:decide (j<m.pages.length)=true:=Dt hjn
    have hm:m.pages.getD j pg0∈m.pages:=by rw [Lg,Li hjn];exact Le _
    have hx:=hs.pg _ hm
    have hgs:=(hg.pg _ hm).2.1.1
    have hT:=JC normP m.pages pg0 hjn
    have hTl:=UQ normP m.pages (Ll hjn)
    have hpgl:=hg.pgl
    clear hm J3
    generalize hv:m.pages.getD j pg0=x at*
    have c1:=QgQ x.gates hx.2 (by have:=hx.1;omega) hgs
    refine zA (oj n_1 (oj n_2 (oj a1 (oj a2 (oj a3 (oj a4 (oj d1 (oj d1 hv)))))))) ?_
    refine yA (oj n_1 (oj n_2 (oj a1 (oj a2 (oj a3 (oj a4 (oj d1 (oj d1 hv)))))))) fun g9 n_9=>?_
    refine zA (oj n_1 (oj n_2 (oj a1 (oj a2 (oj a3 (oj a4 (oj d1 (oj d1 (oj hv n_9))))))))) ?_
    refine Yf [(g9,.cells 91 3 (ofL (pgc x))),mD g5 m RE RH RG (gs og 3 j) .nils .nils] [(0,0),(1,0),(2,0),(3,0),(4,0),(5,0),(6,0),(7,0),(8,0),(9,0),(10,1),(11,1),(12,0),(13,2)] Qg kR (Qm (by simp) qa) ?_
    have J7:=oj n_1 (oj n_2 (oj a1 (oj a2 (oj a3 (oj a4 (oj d1 (oj d1 (oj hv n_9))))))))
    refine yG J7 ?_
    refine Yg rfl c1 rfl rfl rfl (fun _ _=>(zL J7)) ?_
    refine Xp J7 ?_
    refine Qs (xs:=[.tmp 85]) (cells:=pgc (normP x)) rfl rfl rfl rfl (zE J7) (by refine yS J7 ?_;rfl) rfl om om qd rfl Ag (Qm (by simp) qa) (fun g86 n_86=> ?_) (hm:=.inr ⟨rfl,rfl⟩)
    refine yS J7 ?_
    refine YT (pre:=[(g9,.cells 91 3 (ofL (pgc x))),mD g5 m RE RH RG (gs og 3 j) .nils .nils,mZ g2,mM g1 m]) (og:=og) (n:=j) (s:=77) (d1:=86) (gt:=g86) (v:=.agg (pgc (normP x))) rfl rfl rfl rfl (zE J7) (zE J7) (by rfl) om om (zE J7) (zE J7) hog (by rfl) (by rfl) (by simp only [Ad,Lq,Ln];rfl) qc om (QeN hTl (normP x)) (XY (Qm (by simp) qa)) (fun gb n_b=> ?_) (hm:=.inr ⟨rfl,rfl⟩)
    replace n_86:=Qa.ne_of n_86
    simp only [Qa.ne] at n_86
    rw [←hT]
    have J8:=oj n_1 (oj n_2 (oj a1 (oj a2 (oj a3 (oj a4 (oj d1 (oj d1 (oj hv (oj n_9 n_86)))))))))
    refine Xp J8 ?_
    refine Xm (FP':=[]) rfl rfl rfl rfl rfl (zE J8) (zE J8) (zE J8) (zE J8) (fun _ e=>by cases e) rfl rfl (show 6≤8 from by omega) rfl Qf ?_
    refine Xp J8 ?_
    exact Qb ⟨(j+1,some gb),by dsimp only;omega,(zB J8),(.cons _ (Ls _ _)),by dsimp only;omega,fun e=>by cases e⟩
   ·have d1:decide (j<m.pages.length)=false:=De hjn
    obtain rfl:j=m.pages.length:=by omega
    have hpl:(m.pages.map normP).length=m.pages.length:=Lw _
    rw [Ly (Nat.le_of_eq hpl)]
    have hcall:=Qr8 og (m.pages.map normP) (by rw [hpl];exact hog) (by rw [List.map_map];exact hg.pgn) (by rw [hpl];omega)
    rw [hpl] at hcall
    refine zA (oj n_1 (oj n_2 (oj a1 (oj a2 (oj a3 (oj a4 (oj d1 d1))))))) ?_
    refine Ql (hc:=gh og 91 (m.pages.length*3) (Kq (m.pages.map normP))) (hr:=[mD g5 m RE RH RG (gs og 3 m.pages.length) .nils .nils,mZ g2,mM g1 m]) (hcall) rfl rfl rfl (List.perm_append_comm (l₁:=[_,_,_])) (zL (oj n_1 (oj n_2 (oj a1 (oj a2 (oj a3 (oj a4 (oj d1 d1)))))))) ?_
    rintro _ _ ⟨rfl,rfl⟩ _
    refine Qi (h':=mD g5 m RE RH RG (gs og 3 m.pages.length) .nils .nils::(gh og 91 (m.pages.length*3) (Kq (Qk Yz.name (m.pages.map normP)))++[mZ g2,mM g1 m])) List.perm_middle ?_
    refine Xi (j0:=5) (m:=8) (f:=(ofL (mdN m RE RH RG (gs og 3 m.pages.length) .nils .nils))) (f':=(ofL (mdN m RE RH RG RP .nils .nils))) (fp:=Kq (Qk Yz.name (m.pages.map normP))) rfl hRP (fun i hi h3=>by match i,hi,h3 with|0,_,_=>rfl|1,_,_=>rfl|2,_,_=>rfl|3,_,_=>rfl|4,_,_=>rfl|5,_,h=>exact absurd rfl h|6,_,_=>rfl|7,_,_=>rfl) hog (fun g _=>hC g) ?_
    have J9:=oj n_1 (oj n_2 (oj a1 (oj a2 (oj a3 (oj a4 (oj d1 d1))))))
    refine yS J9 ?_
    refine zA J9 ?_
    refine Qh (fun z:Nat×Option Nat=>[(1,.c (.optr g1 0)),(2,.c (.optr g2 0)),(3,.c .nilI),(5,.c (.optr g5 0)),(94,.c (grs true m.groups)),(95,.c (.int .i64 m.groups.length)),(96,.c (.int .i64 z.1))]) (fun z=>mD g5 m RE RH RG RP (gs z.2 4 z.1) .nils::mZ g2::mM g1 m::gh z.2 94 (z.1*4) (VR ((m.groups.map normR).take z.1))) (fun z=>z.1≤m.groups.length∧(z.2=none→z.1=0)) (fun z=>m.groups.length-z.1) (0,none) (zB J9) zZ ⟨Lz _,fun _=>rfl⟩ ?_
    rintro ⟨j,og⟩ ⟨hj,hog⟩
    dsimp only at hj hog⊢
    by_cases hjn:j<m.groups.length
    ·have d1:decide (j<m.groups.length)=true:=Dt hjn
     have hm:m.groups.getD j gr0∈m.groups:=by rw [Lg,Li hjn];exact Le _
     have hx:=hs.gr _ hm
     have hmem:2≤(m.groups.getD j gr0).members.length:=by have:=(hg.gr _ hm).2.2.1.1;omega
     have hT:=JC normR m.groups gr0 hjn
     have hTl:=UQ normR m.groups (Ll hjn)
     have hgrl:=hg.grl
     clear hm
     generalize hv:m.groups.getD j gr0=x at*
     obtain⟨hx1,hx2,hx3⟩:=hx
     have nF:x.factors.length≤1099511627776:=by omega
     obtain⟨HG,hHG⟩:∃HG:Qa,HG=gh og 94 (j*4) (VR ((m.groups.map normR).take j)):=⟨_,rfl⟩
     rw [←hHG]
     refine zA (oj n_1 (oj n_2 (oj a1 (oj a2 (oj a3 (oj a4 (oj d1 (oj d1 (oj d1 hv))))))))) ?_
     refine yA (oj n_1 (oj n_2 (oj a1 (oj a2 (oj a3 (oj a4 (oj d1 (oj d1 (oj d1 hv))))))))) fun g11 n_11=>?_
     refine zA (oj n_1 (oj n_2 (oj a1 (oj a2 (oj a3 (oj a4 (oj d1 (oj d1 (oj d1 (oj hv n_11)))))))))) ?_
     refine Yy (fun z:Nat×Nat=>[(1,.c (.optr g1 0)),(2,.c (.optr g2 0)),(3,.c .nilI),(5,.c (.optr g5 0)),(11,.c (.optr g11 0)),(12,.c (.optr z.1 0)),(94,.c (grs true m.groups)),(95,.c (.int .i64 m.groups.length)),(96,.c (.int .i64 j))]) (fun z=>(z.1,.cells 94 4 (ofL [.str (sB x.name),.int .i64 x.kind,.osl z.2 1 0 x.members.length,.nils]))::(z.2,.cells 9 x.members.length (Qe x.members))::(g11,.cells 94 4 (ofL (Wx x)))::mD g5 m RE RH RG RP (gs og 4 j) .nils::mZ g2::mM g1 m::HG) (fun _=>x.members.length≤24) ?_ ?_
     ·refine Qr5 Qg ?_
      refine Qnt 6 8 Af ?_ ?_
      ·refine QhY [(g11,.cells 94 4 (ofL (Wx x)))] [(0,0),(1,0),(2,0),(3,0),(4,0),(5,0),(6,1),(7,0),(8,1),(9,2)] kR qa ?_
       have J10:=oj n_1 (oj n_2 (oj a1 (oj a2 (oj a3 (oj a4 (oj d1 (oj d1 (oj d1 (oj hv n_11)))))))))
       refine yG J10 ?_
       refine Kc (hc:=[]) (hr:=(g11,.cells 94 4 (ofL (Wx x)))::mD g5 m RE RH RG RP (gs og 4 j) .nils::mZ g2::mM g1 m::HG) rfl (Qc7 x.members om) rfl rfl rfl (.refl _) (zL J10) (fun _ _ hq=>by obtain⟨og,_,_,rfl⟩:=hq;exact Qm (by simp) Qf) ?_ (hm:=.inr ⟨rfl,rfl⟩)
       rintro _ _ ⟨og2,hog2,rfl,rfl⟩ _
       cases og2 with
       |none=>exact absurd (hog2 rfl) om
       |some g3=>
        rw [Ad]
        refine Xp J10 ?_
        refine Vq (r:=.agg [.str (sB x.name),.int .i64 x.kind,gs (some g3) 1 x.members.length,.nils]) rfl (fun _ _=>JH (ps:=[(0,.tmp 101),(1,.tmp 103),(2,.tmp 106)]) (zE J10) (by rfl)) rfl rfl ?_
        refine Xp J10 ?_
        refine OT rfl rfl rfl rfl (zE J10) qa (fun g12 n_12=> ?_) (hm:=.inr ⟨rfl,rfl⟩)
        refine Xp J10 ?_
        refine Xm (FP':=[]) rfl rfl rfl rfl rfl (zE J10) (zE J10) (zE J10) (zE J10) (fun _ e=>by cases e) rfl rfl (Ac 4) rfl Qf ?_
        refine Xp J10 ?_
        exact Qb ⟨(g12,g3),(zB J10),Lr _,hx1⟩
      ·refine QhY [(g11,.cells 94 4 (ofL (Wx x)))] [(0,0),(1,0),(2,0),(3,0),(4,0),(5,0),(8,1),(6,1),(7,0),(9,2)] kR qa ?_
       have J11:=oj n_1 (oj n_2 (oj a1 (oj a2 (oj a3 (oj a4 (oj d1 (oj d1 (oj d1 (oj hv n_11)))))))))
       refine yG J11 ?_
       refine OT rfl rfl rfl rfl (zE J11) qa (fun g12 n_12=> ?_) (hm:=.inr ⟨rfl,rfl⟩)
       refine Xp J11 ?_
       refine Kc (hc:=[]) (hr:=(g12,.cells 94 4 (ofL [.str {data:= #[]},.int .i64 0,.nils,.nils]))::(g11,.cells 94 4 (ofL (Wx x)))::mD g5 m RE RH RG RP (gs og 4 j) .nils::mZ g2::mM g1 m::HG) rfl (Qc7 x.members om) rfl rfl rfl (.refl _) (zL J11) (fun _ _ hq=>by obtain⟨og,_,_,rfl⟩:=hq;exact Qm (by simp) Qf) ?_ (hm:=.inr ⟨rfl,rfl⟩)
       rintro _ _ ⟨og2,hog2,rfl,rfl⟩ _
       cases og2 with
       |none=>exact absurd (hog2 rfl) om
       |some g3=>
        refine QhA (List.Perm.swap _ _ _) ?_
        rw [Ad]
        refine Xp J11 ?_
        refine Vq (r:=.agg [.str (sB x.name),.int .i64 x.kind,gs (some g3) 1 x.members.length,.nils]) rfl (fun _ _=>JH (ps:=[(0,.tmp 101),(1,.tmp 103),(2,.tmp 106)]) (zE J11) (by rfl)) rfl rfl ?_
        refine Xp J11 ?_
        refine Xm (FP':=[]) rfl rfl rfl rfl rfl (zE J11) (zE J11) (zE J11) (zE J11) (fun _ e=>by cases e) rfl rfl (Ac 4) rfl Qf ?_
        refine Xp J11 ?_
        exact Qb ⟨(g12,g3),(zB J11),Lr _,hx1⟩
     ·rintro ⟨g12,g3⟩ _
      dsimp only
      refine Y9 fun hnd=> ?_
      have r1:g12≠g3:=fun e=>by subst e;simp [Qa.keys] at hnd
      have r2:g12≠g11:=fun e=>by subst e;simp [Qa.keys] at hnd
      have r3:g12≠g5:=fun e=>by subst e;simp [Qa.keys] at hnd
      have r4:g12≠g1:=fun e=>by subst e;simp [Qa.keys] at hnd
      have r5:g3≠g11:=fun e=>by subst e;simp [Qa.keys] at hnd
      clear hnd
      have b1:=eq_false r1
      have b2:=eq_false r1.symm
      have b3:=eq_false r2
      have b4:=eq_false r2.symm
      have b5:=eq_false r3
      have b6:=eq_false r3.symm
      have b7:=eq_false r4
      have b8:=eq_false r4.symm
      have hml:(Qk id x.members).length=x.members.length:=(Q6 _ _).length_eq
      have hcall:=Qkj (some g3) x.members (fun e=>by cases e) om
      simp only [Ad] at hcall
      refine zA (oj n_1 (oj n_2 (oj a1 (oj a2 (oj a3 (oj a4 (oj d1 (oj d1 (oj d1 (oj hv (oj n_11 (oj b1 (oj b2 (oj b3 (oj b4 (oj b5 (oj b6 (oj b7 b8)))))))))))))))))) ?_
      refine Ql (hc:=gh (some g3) 9 x.members.length (Qe x.members)) (hr:=(g12,.cells 94 4 (ofL [.str (sB x.name),.int .i64 x.kind,.osl g3 1 0 x.members.length,.nils]))::(g11,.cells 94 4 (ofL (Wx x)))::mD g5 m RE RH RG RP (gs og 4 j) .nils::mZ g2::mM g1 m::HG) hcall rfl rfl rfl (List.Perm.swap _ _ _) (zL (oj n_1 (oj n_2 (oj a1 (oj a2 (oj a3 (oj a4 (oj d1 (oj d1 (oj d1 (oj hv (oj n_11 (oj b1 (oj b2 (oj b3 (oj b4 (oj b5 (oj b6 (oj b7 b8))))))))))))))))))) ?_
      rintro _ _ ⟨rfl,rfl⟩ _
      refine Qi (h':=(g12,.cells 94 4 (ofL [.str (sB x.name),.int .i64 x.kind,.osl g3 1 0 x.members.length,.nils]))::(gh (some g3) 9 (x.members.length*1) (Qe (Qk id x.members))++(g11,.cells 94 4 (ofL (Wx x)))::mD g5 m RE RH RG RP (gs og 4 j) .nils::mZ g2::mM g1 m::HG)) (by rw [Ad];exact List.Perm.swap _ _ _) ?_
      refine Xi (s:=1) (og:=some g3) (n:=x.members.length) (j0:=2) (m:=4) (f:=ofL [.str (sB x.name),.int .i64 x.kind,.osl g3 1 0 x.members.length,.nils]) (f':=ofL [.str (sB x.name),.int .i64 x.kind,.row true 1 x.members.length (Qe (Qk id x.members)),.nils]) (fp:=Qe (Qk id x.members)) rfl rfl (fun i hi h3=>by match i,hi,h3 with|0,_,_=>rfl|1,_,_=>rfl|2,_,h=>exact absurd rfl h|3,_,_=>rfl) (fun e=>by cases e) (fun g _=>hC g) ?_
      have J12:=oj n_1 (oj n_2 (oj a1 (oj a2 (oj a3 (oj a4 (oj d1 (oj d1 (oj d1 (oj hv (oj n_11 (oj b1 (oj b2 (oj b3 (oj b4 (oj b5 (oj b6 (oj b7 b8)))))))))))))))))
      refine yS J12 ?_
      refine zA J12 ?_
      refine Qh (fun z:Nat×Option Nat=>[(1,.c (.optr g1 0)),(2,.c (.optr g2 0)),(3,.c .nilI),(5,.c (.optr g5 0)),(12,.c (.optr g12 0)),(94,.c (grs true m.groups)),(95,.c (.int .i64 m.groups.length)),(96,.c (.int .i64 j)),(112,.c (VQ true x.factors)),(113,.c (.int .i64 x.factors.length)),(114,.c (.int .i64 z.1))]) (fun z=>(g12,.cells 94 4 (ofL [.str (sB x.name),.int .i64 x.kind,.row true 1 x.members.length (Qe (Qk id x.members)),gs z.2 3 z.1]))::mD g5 m RE RH RG RP (gs og 4 j) .nils::mZ g2::mM g1 m::(HG++gh z.2 77 (z.1*3) (Vv (x.factors.take z.1)))) (fun z=>z.1≤x.factors.length∧(z.2=none→z.1=0)) (fun z=>x.factors.length-z.1) (0,none) (zB J12) (by show List.Sublist ((g12,.cells 94 4 (ofL [.str (sB x.name),.int .i64 x.kind,.row true 1 x.members.length (Qe (Qk id x.members)),.nils]))::mD g5 m RE RH RG RP (gs og 4 j) .nils::mZ g2::mM g1 m::(HG++[])) _;rw [Lp];exact .cons_cons _ (.cons _ (Lr _))) ⟨Lz _,fun _=>rfl⟩ ?_
      rintro ⟨k,ok⟩ ⟨hk,hok⟩
      dsimp only at hk hok⊢
      by_cases hkn:k<x.factors.length
      ·have d2:decide (k<x.factors.length)=true:=Dt hkn
       have hr:=hx3 (x.factors.getD k rd0) (by rw [Lg,Li hkn];exact Le _)
       have hU:=Qbd x.factors rd0 hkn
       have hUl:(x.factors.take k).length=k:=by rw [List.length_take];omega
       generalize hv3:x.factors.getD k rd0=r at*
       have c1:=JO r hr
       refine zA (oj n_1 (oj n_2 (oj a1 (oj a2 (oj a3 (oj a4 (oj d1 (oj d1 (oj d1 (oj hv (oj n_11 (oj b1 (oj b2 (oj b3 (oj b4 (oj b5 (oj b6 (oj b7 (oj b8 (oj d2 hv3)))))))))))))))))))) ?_
       refine yA (oj n_1 (oj n_2 (oj a1 (oj a2 (oj a3 (oj a4 (oj d1 (oj d1 (oj d1 (oj hv (oj n_11 (oj b1 (oj b2 (oj b3 (oj b4 (oj b5 (oj b6 (oj b7 (oj b8 (oj d2 hv3)))))))))))))))))))) fun g14 n_14=>?_
       refine zA (oj n_1 (oj n_2 (oj a1 (oj a2 (oj a3 (oj a4 (oj d1 (oj d1 (oj d1 (oj hv (oj n_11 (oj b1 (oj b2 (oj b3 (oj b4 (oj b5 (oj b6 (oj b7 (oj b8 (oj d2 (oj hv3 n_14))))))))))))))))))))) ?_
       refine Yf [(g14,.cells 77 3 (ofL (Y1 r))),(g12,.cells 94 4 (ofL [.str (sB x.name),.int .i64 x.kind,.row true 1 x.members.length (Qe (Qk id x.members)),gs ok 3 k]))] [(0,0),(1,0),(2,0),(3,0),(4,1),(5,1),(6,0),(7,2)] Qg kR (Qm (by simp) qa) ?_
       have J13:=oj n_1 (oj n_2 (oj a1 (oj a2 (oj a3 (oj a4 (oj d1 (oj d1 (oj d1 (oj hv (oj n_11 (oj b1 (oj b2 (oj b3 (oj b4 (oj b5 (oj b6 (oj b7 (oj b8 (oj d2 (oj hv3 n_14))))))))))))))))))))
       refine yG J13 ?_
       refine Yg rfl c1 rfl rfl rfl (fun _ _=>(zL J13)) ?_
       refine Xp J13 ?_
       refine Qs (xs:=[.tmp 121]) (cells:=Y1 r) rfl rfl rfl rfl (zE J13) (by refine yS J13 ?_;rfl) rfl om om qd rfl Ag (Qm (by simp) qa) (fun g122 n_122=> ?_) (hm:=.inr ⟨rfl,rfl⟩)
       refine yS J13 ?_
       refine YT (pre:=[(g14,.cells 77 3 (ofL (Y1 r))),(g12,.cells 94 4 (ofL [.str (sB x.name),.int .i64 x.kind,.row true 1 x.members.length (Qe (Qk id x.members)),gs ok 3 k])),mD g5 m RE RH RG RP (gs og 4 j) .nils,mZ g2,mM g1 m]++HG) (og:=ok) (n:=k) (s:=119) (d1:=122) (gt:=g122) (v:=.agg (Y1 r)) rfl rfl rfl rfl (zE J13) (zE J13) (by rfl) om om (zE J13) (zE J13) hok (by rfl) (by rfl) (by simp only [Ad,Lq,Ln];rfl) qc om (QoE hUl r) (XY (Qm (by simp) qa)) (fun gb n_b=> ?_) (hm:=.inr ⟨rfl,rfl⟩)
       replace n_122:=Qa.ne_of n_122
       simp only [Qa.ne,Lq,Ln] at n_122
       rw [←hU]
       simp only [Lq,Ln]
       have J14:=oj n_1 (oj n_2 (oj a1 (oj a2 (oj a3 (oj a4 (oj d1 (oj d1 (oj d1 (oj hv (oj n_11 (oj b1 (oj b2 (oj b3 (oj b4 (oj b5 (oj b6 (oj b7 (oj b8 (oj d2 (oj hv3 (oj n_14 n_122)))))))))))))))))))))
       refine Xp J14 ?_
       refine Xm (FP':=[]) rfl rfl rfl rfl rfl (zE J14) (zE J14) (zE J14) (zE J14) (fun _ e=>by cases e) rfl rfl (show 4≤4 from by omega) rfl Qf ?_
       refine Xp J14 ?_
       exact Qb ⟨(k+1,some gb),by dsimp only;omega,(zB J14),(.cons _ (Ls _ _)),by dsimp only;omega,fun e=>by cases e⟩
      ·have d2:decide (k<x.factors.length)=false:=De hkn
       obtain rfl:k=x.factors.length:=by omega
       rw [Ly (Ac x.factors.length)]
       refine Qi (h':=(g12,.cells 94 4 (ofL [.str (sB x.name),.int .i64 x.kind,.row true 1 x.members.length (Qe (Qk id x.members)),gs ok 3 x.factors.length]))::(gh ok 77 (x.factors.length*3) (Vv x.factors)++(mD g5 m RE RH RG RP (gs og 4 j) .nils::mZ g2::mM g1 m::HG))) (.cons _ ?_) ?_
       ·exact List.perm_append_comm (l₁:=mD g5 m RE RH RG RP (gs og 4 j) .nils::mZ g2::mM g1 m::HG)
       refine Xi (j0:=3) (m:=4) (f:=ofL [.str (sB x.name),.int .i64 x.kind,.row true 1 x.members.length (Qe (Qk id x.members)),gs ok 3 x.factors.length]) (f':=ofL [.str (sB x.name),.int .i64 x.kind,.row true 1 x.members.length (Qe (Qk id x.members)),VQ true x.factors]) (fp:=Vv x.factors) rfl rfl (fun i hi h3=>by match i,hi,h3 with|0,_,_=>rfl|1,_,_=>rfl|2,_,_=>rfl|3,_,h=>exact absurd rfl h) hok (fun g _=>hC g) ?_
       rw [←hml]
       rw [hHG]
       have J15:=oj n_1 (oj n_2 (oj a1 (oj a2 (oj a3 (oj a4 (oj d1 (oj d1 (oj d1 (oj hv (oj n_11 (oj b1 (oj b2 (oj b3 (oj b4 (oj b5 (oj b6 (oj b7 (oj b8 d2))))))))))))))))))
       refine yS J15 ?_
       refine zA J15 ?_
       refine QX (pre:=[(g12,.cells 94 4 (ofL (Wx (normR x)))),mD g5 m RE RH RG RP (gs og 4 j) .nils,mZ g2,mM g1 m]) rfl rfl rfl rfl rfl rfl rfl (zE J15) (zE J15) (by rfl) om om (zE J15) om (by exact hog) (zE J15) (by rfl) (by rfl) qb qc om (by exact QeO hTl (normR x)) fun gq n_q=> ?_
       replace n_q:=Qa.ne_of n_q
       first|dsimp only [Qa.ne,gh] at n_q|dsimp only [Qa.ne] at n_q|skip
       have J16:=oj n_1 (oj n_2 (oj a1 (oj a2 (oj a3 (oj a4 (oj d1 (oj d1 (oj d1 (oj hv (oj n_11 (oj b1 (oj b2 (oj b3 (oj b4 (oj b5 (oj b6 (oj b7 (oj b8 (oj d2 n_q)))))))))))))))))))
       refine yS J16 ?_
       rw [←hT]
       refine zA J16 ?_
       exact Qb ⟨(j+1,some gq),by dsimp only;omega,(zB J16),Ls _ _,by dsimp only;omega,fun e=>by cases e⟩
    ·have d1:decide (j<m.groups.length)=false:=De hjn
     obtain rfl:j=m.groups.length:=by omega
     have hrl:(m.groups.map normR).length=m.groups.length:=Lw _
     rw [Ly (Nat.le_of_eq hrl)]
     have hcall:=Qr9 og (m.groups.map normR) (by rw [hrl];exact hog) (by rw [List.map_map];exact hg.grn) (by rw [hrl];omega)
     rw [hrl] at hcall
     refine zA (oj n_1 (oj n_2 (oj a1 (oj a2 (oj a3 (oj a4 (oj d1 (oj d1 d1)))))))) ?_
     refine Ql (hc:=gh og 94 (m.groups.length*4) (VR (m.groups.map normR))) (hr:=[mD g5 m RE RH RG RP (gs og 4 m.groups.length) .nils,mZ g2,mM g1 m]) (hcall) rfl rfl rfl (List.perm_append_comm (l₁:=[_,_,_])) (zL (oj n_1 (oj n_2 (oj a1 (oj a2 (oj a3 (oj a4 (oj d1 (oj d1 d1))))))))) ?_
     rintro _ _ ⟨rfl,rfl⟩ _
     refine Qi (h':=mD g5 m RE RH RG RP (gs og 4 m.groups.length) .nils::(gh og 94 (m.groups.length*4) (VR (Qk YB.name (m.groups.map normR)))++[mZ g2,mM g1 m])) List.perm_middle ?_
     refine Xi (j0:=6) (m:=8) (f:=(ofL (mdN m RE RH RG RP (gs og 4 m.groups.length) .nils))) (f':=(ofL (mdN m RE RH RG RP RR .nils))) (fp:=VR (Qk YB.name (m.groups.map normR))) rfl hRR (fun i hi h3=>by match i,hi,h3 with|0,_,_=>rfl|1,_,_=>rfl|2,_,_=>rfl|3,_,_=>rfl|4,_,_=>rfl|5,_,_=>rfl|6,_,h=>exact absurd rfl h|7,_,_=>rfl) hog (fun g _=>hC g) ?_
     have J17:=oj n_1 (oj n_2 (oj a1 (oj a2 (oj a3 (oj a4 (oj d1 (oj d1 d1)))))))
     refine yS J17 ?_
     refine zA J17 ?_
     refine Qh (fun z:Nat×Option Nat=>[(1,.c (.optr g1 0)),(2,.c (.optr g2 0)),(3,.c .nilI),(5,.c (.optr g5 0)),(137,.c (phs true m.phases)),(138,.c (.int .i64 m.phases.length)),(139,.c (.int .i64 z.1))]) (fun z=>mD g5 m RE RH RG RP RR (gs z.2 3 z.1)::mZ g2::mM g1 m::gh z.2 97 (z.1*3) (Kr ((m.phases.map normH).take z.1))) (fun z=>z.1≤m.phases.length∧(z.2=none→z.1=0)) (fun z=>m.phases.length-z.1) (0,none) (zB J17) zZ ⟨Lz _,fun _=>rfl⟩ ?_
     rintro ⟨j,og⟩ ⟨hj,hog⟩
     dsimp only at hj hog⊢
     by_cases hjn:j<m.phases.length
     ·have d1:decide (j<m.phases.length)=true:=Dt hjn
      have hm:m.phases.getD j ph0∈m.phases:=by rw [Lg,Li hjn];exact Le _
      have hx:=hs.ph _ hm
      have hnd3:=(hg.ph _ hm).2.2.2
      have hT:=JC normH m.phases ph0 hjn
      have hTl:=UQ normH m.phases (Ll hjn)
      have hphl:=hg.phl
      clear hm
      generalize hv:m.phases.getD j ph0=x at*
      obtain⟨hx1,hx3⟩:=hx
      have nV:x.values.length≤1099511627776:=by omega
      obtain⟨HG,hHG⟩:∃HG:Qa,HG=gh og 97 (j*3) (Kr ((m.phases.map normH).take j)):=⟨_,rfl⟩
      rw [←hHG]
      refine zA (oj n_1 (oj n_2 (oj a1 (oj a2 (oj a3 (oj a4 (oj d1 (oj d1 (oj d1 (oj d1 hv)))))))))) ?_
      refine yA (oj n_1 (oj n_2 (oj a1 (oj a2 (oj a3 (oj a4 (oj d1 (oj d1 (oj d1 (oj d1 hv)))))))))) fun g16 n_16=>?_
      refine zA (oj n_1 (oj n_2 (oj a1 (oj a2 (oj a3 (oj a4 (oj d1 (oj d1 (oj d1 (oj d1 (oj hv n_16))))))))))) ?_
      refine yA (oj n_1 (oj n_2 (oj a1 (oj a2 (oj a3 (oj a4 (oj d1 (oj d1 (oj d1 (oj d1 (oj hv n_16))))))))))) fun g17 n_17=>?_
      refine zA (oj n_1 (oj n_2 (oj a1 (oj a2 (oj a3 (oj a4 (oj d1 (oj d1 (oj d1 (oj d1 (oj hv (oj n_16 n_17)))))))))))) ?_
      refine Qh (fun z:Nat×Option Nat=>[(1,.c (.optr g1 0)),(2,.c (.optr g2 0)),(3,.c .nilI),(5,.c (.optr g5 0)),(17,.c (.optr g17 0)),(137,.c (phs true m.phases)),(138,.c (.int .i64 m.phases.length)),(139,.c (.int .i64 j)),(149,.c (vls true x.values)),(150,.c (.int .i64 x.values.length)),(151,.c (.int .i64 z.1))]) (fun z=>(g17,.cells 97 3 (ofL [.str (sB x.name),.str (sB x.top),gs z.2 4 z.1]))::mD g5 m RE RH RG RP RR (gs og 3 j)::mZ g2::mM g1 m::(HG++gh z.2 99 (z.1*4) (V6 (x.values.take z.1)))) (fun z=>z.1≤x.values.length∧(z.2=none→z.1=0)) (fun z=>x.values.length-z.1) (0,none) (zB (oj n_1 (oj n_2 (oj a1 (oj a2 (oj a3 (oj a4 (oj d1 (oj d1 (oj d1 (oj d1 (oj hv (oj n_16 n_17))))))))))))) (by show List.Sublist ((g17,.cells 97 3 (ofL [.str (sB x.name),.str (sB x.top),.nils]))::mD g5 m RE RH RG RP RR (gs og 3 j)::mZ g2::mM g1 m::(HG++[])) _;rw [Lp];exact .cons_cons _ (.cons _ (Lr _))) ⟨Lz _,fun _=>rfl⟩ ?_
      rintro ⟨k,ok⟩ ⟨hk,hok⟩
      dsimp only at hk hok⊢
      by_cases hkn:k<x.values.length
      ·have d2:decide (k<x.values.length)=true:=Dt hkn
       have hr:=hx3 (x.values.getD k vl0) (by rw [Lg,Li hkn];exact Le _)
       have hU:=Qbd x.values vl0 hkn
       have hUl:(x.values.take k).length=k:=by rw [List.length_take];omega
       generalize hv3:x.values.getD k vl0=v at*
       have c1:=JO v.p hr
       refine zA (oj n_1 (oj n_2 (oj a1 (oj a2 (oj a3 (oj a4 (oj d1 (oj d1 (oj d1 (oj d1 (oj hv (oj n_16 (oj n_17 (oj d2 hv3)))))))))))))) ?_
       refine yA (oj n_1 (oj n_2 (oj a1 (oj a2 (oj a3 (oj a4 (oj d1 (oj d1 (oj d1 (oj d1 (oj hv (oj n_16 (oj n_17 (oj d2 hv3)))))))))))))) fun g19 n_19=>?_
       refine zA (oj n_1 (oj n_2 (oj a1 (oj a2 (oj a3 (oj a4 (oj d1 (oj d1 (oj d1 (oj d1 (oj hv (oj n_16 (oj n_17 (oj d2 (oj hv3 n_19))))))))))))))) ?_
       refine Yf [(g19,.cells 99 4 (ofL (vlc v))),(g17,.cells 97 3 (ofL [.str (sB x.name),.str (sB x.top),gs ok 4 k]))] [(0,0),(1,0),(2,0),(3,0),(4,0),(5,0),(6,0),(7,0),(8,1),(9,1),(10,0),(11,2)] Qg kR (Qm (by simp) qa) ?_
       have J18:=oj n_1 (oj n_2 (oj a1 (oj a2 (oj a3 (oj a4 (oj d1 (oj d1 (oj d1 (oj d1 (oj hv (oj n_16 (oj n_17 (oj d2 (oj hv3 n_19))))))))))))))
       refine yG J18 ?_
       refine Yg rfl c1 rfl rfl rfl (fun _ _=>(zL J18)) ?_
       refine Xp J18 ?_
       refine Qs (xs:=[.tmp 162]) (cells:=vlc v) rfl rfl rfl rfl (zE J18) (by refine yS J18 ?_;rfl) rfl om om qd rfl Ag (Qm (by simp) qa) (fun g163 n_163=> ?_) (hm:=.inr ⟨rfl,rfl⟩)
       refine yS J18 ?_
       refine YT (pre:=[(g19,.cells 99 4 (ofL (vlc v))),(g17,.cells 97 3 (ofL [.str (sB x.name),.str (sB x.top),gs ok 4 k])),mD g5 m RE RH RG RP RR (gs og 3 j),mZ g2,mM g1 m]++HG) (og:=ok) (n:=k) (s:=156) (d1:=163) (gt:=g163) (v:=.agg (vlc v)) rfl rfl rfl rfl (zE J18) (zE J18) (by rfl) om om (zE J18) (zE J18) hok (by rfl) (by rfl) (by simp only [Ad,Lq,Ln];rfl) qc om (QeL hUl v) (XY (Qm (by simp) qa)) (fun gb n_b=> ?_) (hm:=.inr ⟨rfl,rfl⟩)
       replace n_163:=Qa.ne_of n_163
       simp only [Qa.ne,Lq,Ln] at n_163
       rw [←hU]
       simp only [Lq,Ln]
       have J19:=oj n_1 (oj n_2 (oj a1 (oj a2 (oj a3 (oj a4 (oj d1 (oj d1 (oj d1 (oj d1 (oj hv (oj n_16 (oj n_17 (oj d2 (oj hv3 (oj n_19 n_163)))))))))))))))
       refine Xp J19 ?_
       refine Xm (FP':=[]) rfl rfl rfl rfl rfl (zE J19) (zE J19) (zE J19) (zE J19) (fun _ e=>by cases e) rfl rfl (show 3≤3 from by omega) rfl Qf ?_
       refine Xp J19 ?_
       exact Qb ⟨(k+1,some gb),by dsimp only;omega,(zB J19),(.cons _ (Ls _ _)),by dsimp only;omega,fun e=>by cases e⟩
      ·have d2:decide (k<x.values.length)=false:=De hkn
       obtain rfl:k=x.values.length:=by omega
       rw [Ly (Ac x.values.length)]
       have hcall:=Qsa ok x.values hok hnd3 om
       have hvl:(Qk Zp.event x.values).length=x.values.length:=(Q6 _ _).length_eq
       refine zA (oj n_1 (oj n_2 (oj a1 (oj a2 (oj a3 (oj a4 (oj d1 (oj d1 (oj d1 (oj d1 (oj hv (oj n_16 (oj n_17 d2))))))))))))) ?_
       refine Ql (hc:=gh ok 99 (x.values.length*4) (V6 x.values)) (hr:=(g17,.cells 97 3 (ofL [.str (sB x.name),.str (sB x.top),gs ok 4 x.values.length]))::mD g5 m RE RH RG RP RR (gs og 3 j)::mZ g2::mM g1 m::HG) hcall rfl rfl rfl (List.perm_append_comm (l₁:=(g17,.cells 97 3 (ofL [.str (sB x.name),.str (sB x.top),gs ok 4 x.values.length]))::mD g5 m RE RH RG RP RR (gs og 3 j)::mZ g2::mM g1 m::HG)) (zL (oj n_1 (oj n_2 (oj a1 (oj a2 (oj a3 (oj a4 (oj d1 (oj d1 (oj d1 (oj d1 (oj hv (oj n_16 (oj n_17 d2)))))))))))))) ?_
       rintro _ _ ⟨rfl,rfl⟩ _
       refine Qi (h':=(g17,.cells 97 3 (ofL [.str (sB x.name),.str (sB x.top),gs ok 4 x.values.length]))::(gh ok 99 (x.values.length*4) (V6 (Qk Zp.event x.values))++(mD g5 m RE RH RG RP RR (gs og 3 j)::mZ g2::mM g1 m::HG))) List.perm_middle ?_
       refine Xi (j0:=2) (m:=3) (f:=ofL [.str (sB x.name),.str (sB x.top),gs ok 4 x.values.length]) (f':=ofL [.str (sB x.name),.str (sB x.top),.row true 4 x.values.length (V6 (Qk Zp.event x.values))]) (fp:=V6 (Qk Zp.event x.values)) rfl rfl (fun i hi h3=>by match i,hi,h3 with|0,_,_=>rfl|1,_,_=>rfl|2,_,h=>exact absurd rfl h) hok (fun g _=>hC g) ?_
       rw [←hvl]
       rw [hHG]
       have J20:=oj n_1 (oj n_2 (oj a1 (oj a2 (oj a3 (oj a4 (oj d1 (oj d1 (oj d1 (oj d1 (oj hv (oj n_16 (oj n_17 d2))))))))))))
       refine yS J20 ?_
       refine zA J20 ?_
       refine QX (pre:=[(g17,.cells 97 3 (ofL (WR (normH x)))),mD g5 m RE RH RG RP RR (gs og 3 j),mZ g2,mM g1 m]) rfl rfl rfl rfl rfl rfl rfl (zE J20) (zE J20) (by rfl) om om (zE J20) om (by exact hog) (zE J20) (by rfl) (by rfl) qb qc om (by exact QeP hTl (normH x)) fun gq n_q=> ?_
       replace n_q:=Qa.ne_of n_q
       first|dsimp only [Qa.ne,gh] at n_q|dsimp only [Qa.ne] at n_q|skip
       have J21:=oj n_1 (oj n_2 (oj a1 (oj a2 (oj a3 (oj a4 (oj d1 (oj d1 (oj d1 (oj d1 (oj hv (oj n_16 (oj n_17 (oj d2 n_q)))))))))))))
       refine yS J21 ?_
       rw [←hT]
       refine zA J21 ?_
       exact Qb ⟨(j+1,some gq),by dsimp only;omega,(zB J21),Ls _ _,by dsimp only;omega,fun e=>by cases e⟩
     ·have d1:decide (j<m.phases.length)=false:=De hjn
      obtain rfl:j=m.phases.length:=by omega
      have hsl2:(m.phases.map normH).length=m.phases.length:=Lw _
      rw [Ly (Nat.le_of_eq hsl2)]
      refine Qi (h':=mD g5 m RE RH RG RP RR (gs og 3 m.phases.length)::(gh og 97 (m.phases.length*3) (Kr (m.phases.map normH))++[mZ g2,mM g1 m])) (.cons _ (List.perm_append_comm (l₁:=[_,_]))) ?_
      refine Xi (j0:=7) (m:=8) (f:=(ofL (mdN m RE RH RG RP RR (gs og 3 m.phases.length)))) (f':=(ofL (mdN m RE RH RG RP RR RS))) (fp:=Kr (m.phases.map normH)) rfl hRS (fun i hi h3=>by match i,hi,h3 with|0,_,_=>rfl|1,_,_=>rfl|2,_,_=>rfl|3,_,_=>rfl|4,_,_=>rfl|5,_,_=>rfl|6,_,_=>rfl|7,_,h=>exact absurd rfl h) hog (fun g _=>hC g) ?_
      refine yS (oj n_1 (oj n_2 (oj a1 (oj a2 (oj a3 (oj a4 (oj d1 (oj d1 d1)))))))) ?_
      have ze:RE=evs true (Qk X3.name m.events):=by rw [hRE];show _=CV.row true _ _ _;rw [(Q6 _ _).length_eq]
      have zh:RH=hss true (Qk Vx.name m.houses):=by rw [hRH];show _=CV.row true _ _ _;rw [(Q6 _ _).length_eq]
      have zp:RP=pgs true (Qk Yz.name (m.pages.map normP)):=by rw [hRP];show _=CV.row true _ _ _;rw [(Q6 _ _).length_eq,Lw]
      have zr:RR=grs true (Qk YB.name (m.groups.map normR)):=by rw [hRR];show _=CV.row true _ _ _;rw [(Q6 _ _).length_eq,Lw]
      have zs:RS=phs true (m.phases.map normH):=by rw [hRS];show _=CV.row true _ _ _;rw [Lw]
      rw [ze,zh,zp,zr,zs,hRG]
      refine zA (oj n_1 (oj n_2 (oj a1 (oj a2 (oj a3 (oj a4 (oj d1 (oj d1 (oj d1 d1))))))))) ?_
      refine yT hC (oj n_1 (oj n_2 (oj a1 (oj a2 (oj a3 (oj a4 (oj d1 (oj d1 (oj d1 d1))))))))) ?_
      exact .tup ⟨.agg (QhE (x:=Kw m)),.c .nilI,trivial⟩
end Go.Proofs.YtngjgahldnnapaaGreatDoor
namespace Go.Proofs.YtngjgahldnnapaaGreatDoor
open Go.AI Go.PN Proofs.Tryz
attribute [local irreducible] aw Fa ZN ZZ Fh YE
theorem Qkk (m:Qv) (ho:Jb m):Fa prog 35 [.agg (Xa true m)] (.tup [.agg (Xa true (if UA m=0 then Kw m else md0)),.c (Y2 (UA m))]):=by
 have f1:=Qfw m ho
 by_cases hc:UA m=0
 ·rw [iP hc,hc]
  rw [hc] at f1
  have e0:Y2 0=.nilI:=iP rfl
  rw [e0] at f1⊢
  have hg:=WJ hc
  exact QpW m hg (Qsd ho hg) f1
 ·rw [iN hc]
  have hc':(!decide (UA m=0))=true:=by rw [De hc];rfl
  refine fA func35 fun C hC=>?_
  refine xG ?_
  refine xB fun g1 n_1=>?_
  refine yA n_1 fun g2 n_2=>?_
  refine Zo (oj n_1 (oj n_2 hc')) f1 ?_
  refine yT hC (oj n_1 (oj n_2 hc')) ?_
  exact .tup ⟨.agg QbF,.c Zv,trivial⟩
theorem WK (r:RD) {n:Nat} (hu:RdU n r) (hn:n≤1048576):Fa prog 32 [.agg (Y1 r)] (.c (.bool (Yr r))):=by
 have l1:r.num.length≤1099511627776:=Lt hu.2.2.1 (Lt hn Af)
 have l2:r.den.length≤1099511627776:=Lt hu.2.2.2 (Lt hn Af)
 have hX:Yr r=(decide (r.num.length≤40)&&decide (r.den.length≤40)):=rfl
 refine fA func32 fun C hC=>?_
 repeat' first|refine zV o0 ?_|refine zH o0 ?_ ?_<;>intro hb|fail
 refine xB fun g1 n_1=>?_
 repeat' first|refine zV n_1 ?_|refine zH n_1 ?_ ?_<;>intro hb|fail
 all_goals
  refine yT hC n_1 ?_
  exact .one (.c (Qp (by rw [hX];first|(simp_all;done)|(simp_all;intros;omega))))
theorem Qsg (l:List Xe) {n:Nat} (hu:GsU n l) (hn:n≤1048576):Fa prog 39 [.c (gts true l)] (.c (.bool (O0 l))):=by
 have l1:l.length≤1099511627776:=Lt hu.1 (Lt hn Af)
 have hg:∀i,GtU n (l.getD i gt0):=fun i=>Xw hu.2 (QyH n) i
 refine fA func39 fun C hC=>?_
 repeat' first|refine zV o0 ?_|refine zH o0 ?_ ?_<;>intro hb|fail
 refine Qh (fun i:Nat=>[(0,.c (gts true l)),(5,.c (gts true l)),(6,.c (.int .i64 l.length)),(7,.c (.int .i64 i))]) (fun _=>[]) (fun i=>i≤l.length∧∀j,j<i→Qjn (l.getD j gt0)=true) (fun i=>l.length-i) 0 eB zZ ⟨Lz _,fun _ h=>absurd h (Nat.not_lt_zero _)⟩ ?_
 rintro i ⟨hi,hs⟩
 repeat' first|refine zV o0 ?_|refine zH o0 ?_ ?_<;>intro hb|fail
 ·have hi':=hb
  have hgi:=hg i
  have f1:=WK (l.getD i gt0).dorm hgi.2.2.2.2 hn
  have hff:=Qw9 hi'
  have hst:=fun h:Qjn (l.getD i gt0)=true=>(show∀j,j<i+1→Qjn (l.getD j gt0)=true from fun j hj=>by
   rcases Nat.lt_succ_iff_lt_or_eq.1 hj with h1|h1
   ·exact hs j h1
   ·rw [h1];exact h)
  have l2:(l.getD i gt0).inputs.length≤1099511627776:=Lt hgi.2.2.2.1.1 (Lt hn Af)
  have hX:Qjn (l.getD i gt0)=(decide ((l.getD i gt0).inputs.length≤40)&&Yr (l.getD i gt0).dorm):=rfl
  clear hb
  refine xA fun g4 n_4=>?_
  generalize l.getD i gt0=x at*
  repeat' first|refine zV n_4 ?_|refine yQ n_4 f1 ?_|refine zH n_4 ?_ ?_<;>intro hb|fail
  all_goals first
   |(refine yT hC n_4 ?_
     exact .one (.c (Qp (hff (by rw [hX];simp_all<;>(intros;omega)))))
     done)
   |(refine Qb ⟨i+1,?_⟩
     have ht3:=hst (by rw [hX];simp_all)
     and_intros
     all_goals first|rfl|exact Ls _ _|exact Lr _|exact True.intro|exact ht3|omega)
 ·have ht:=Qxa (l:=l) fun j hj=>hs j om
  refine xT hC ?_
  exact .one (.c (Qp (by rw [←ht])))
end Go.Proofs.YtngjgahldnnapaaGreatDoor
namespace Go.Proofs.YtngjgahldnnapaaGreatDoor
open Go.AI Go.PN Proofs.Tryz
theorem Qax {p:Nat→Prop} {i:Nat} (hs:∀j,j<i→p j) (h:p i):∀j,j<i+1→p j:=fun j hj=>by
 rcases Nat.lt_succ_iff_lt_or_eq.1 hj with h1|h1
 ·exact hs j h1
 ·rw [h1];exact h
theorem QgT {p:Nat→Prop}:∀j,j<0→p j:=fun _ h=>absurd h (Nat.not_lt_zero _)
attribute [local irreducible] aw Fa ZN ZZ Fh YE
theorem Qkl (m:Qv) {n:Nat} (hu:MdU n m) (hn:n≤1048576):Fa prog 8 [.agg (Xa true m)] (.c (.bool (Kh m))):=by
 have big:∀{k:Nat},k≤n→k≤1099511627776:=fun h=>Lt h (Lt hn Af)
 have l1:=big hu.ev.1
 have l2:=big hu.hs.1
 have l3:=big hu.pg.1
 have l4:=big hu.gr.1
 have l5:=big hu.ph.1
 have f1:=Qsg m.gates hu.gt hn
 have hF:¬KN m→false=Kh m:=Qse
 have hT:KN m→true=Kh m:=Qsf
 have hLP:KN m↔KN m:=Iff.rfl
 conv at hLP=>rhs;unfold KN
 generalize Kh m=X at*
 refine fA func8 fun C hC=>?_
 refine zA o0 ?_
 refine xB fun g1 n_1=>?_
 repeat' first|refine zV n_1 ?_|refine yQ n_1 f1 ?_|refine zH n_1 ?_ ?_<;>intro hb|fail
 all_goals try (first
  |(refine yT hC n_1 ?_
    refine .one (.c (Qp (hF fun h=> ?_)))
    obtain⟨c1,c2,c3,c4,c5,c6,_⟩:=hLP.1 h
    first|omega|(exfalso;simp_all;done)
    done))
 have b6:O0 m.gates=true:=by simpa using hb
 clear hb f1
 refine Qh (fun i:Nat=>[(1,.c (.optr g1 0)),(50,.c (evs true m.events)),(51,.c (.int .i64 m.events.length)),(52,.c (.int .i64 i))]) (fun _=>[(g1,.cells 29 8 (ofL (Xa true m)))]) (fun i=>i≤m.events.length∧∀j,j<i→W6 (m.events.getD j ev0)=true) (fun i=>m.events.length-i) 0 (zB n_1) zZ ⟨Lz _,QgT⟩ ?_
 rintro i ⟨hi,hs⟩
 repeat' first|refine zV n_1 ?_|refine zH n_1 ?_ ?_<;>intro hb|fail
 ·have hi':=hb
  have hq:KN m→W6 (m.events.getD i ev0)=true:=fun h=>(hLP.1 h).2.2.2.2.2.2.1 i hi'
  have hst:=Qax (p:=fun j=>W6 (m.events.getD j ev0)=true) (i:=i) hs
  have hu1:=Xw hu.ev.2 (QyG n) i
  have s1:=WK _ hu1.2.1 hn
  have s2:=WK _ hu1.2.2.1 hn
  have s3:=WK _ hu1.2.2.2.1 hn
  clear hb
  refine yA n_1 fun g4 n_4=>?_
  generalize hv:m.events.getD i ev0=x at*
  have hX:W6 x=(Yr x.p&&Yr x.fail&&Yr x.rep):=rfl
  all_goals try(have Z:=(oj n_1 n_4);(repeat' first|refine zV Z ?_|refine yQ Z s1 ?_|refine yQ Z s2 ?_|refine yQ Z s3 ?_|refine zH Z ?_ ?_<;>intro hb|fail);all_goals clear Z)
  all_goals first
   |(refine yT hC (oj n_1 n_4) ?_
     refine .one (.c (Qp (hF fun h=> ?_)))
     have h2:=hq h
     clear hLP hT hF hs hq hst hv s1 s2 s3 h
     rw [hX] at h2
     simp_all
     done)
   |(refine Qb ⟨i+1,?_⟩
     have ht3:=hst (by rw [hX];clear hLP hT hF hs hq hst hv s1 s2 s3;simp_all)
     and_intros
     all_goals first|rfl|exact Ls _ _|exact Lr _|exact True.intro|exact ht3|omega)
 have e7:∀j,j<m.events.length→W6 (m.events.getD j ev0)=true:=fun j hj=>hs j om
 clear hs hi hb
 refine Qh (fun i:Nat=>[(1,.c (.optr g1 0)),(74,.c (pgs true m.pages)),(75,.c (.int .i64 m.pages.length)),(76,.c (.int .i64 i))]) (fun _=>[(g1,.cells 29 8 (ofL (Xa true m)))]) (fun i=>i≤m.pages.length∧∀j,j<i→O0 (m.pages.getD j pg0).gates=true) (fun i=>m.pages.length-i) 0 (zB n_1) zZ ⟨Lz _,QgT⟩ ?_
 rintro i ⟨hi,hs⟩
 repeat' first|refine zV n_1 ?_|refine zH n_1 ?_ ?_<;>intro hb|fail
 ·have hi':=hb
  have hq:KN m→O0 (m.pages.getD i pg0).gates=true:=fun h=>(hLP.1 h).2.2.2.2.2.2.2.1 i hi'
  have hst:=Qax (p:=fun j=>O0 (m.pages.getD j pg0).gates=true) (i:=i) hs
  have hu1:=Xw hu.pg.2 (QyI n) i
  have s1:=Qsg _ hu1.2.2 hn
  clear hb
  refine yA n_1 fun g6 n_6=>?_
  generalize hv:m.pages.getD i pg0=x at*
  all_goals try(have Z:=(oj n_1 n_6);(repeat' first|refine zV Z ?_|refine yQ Z s1 ?_|refine zH Z ?_ ?_<;>intro hb|fail);all_goals clear Z)
  all_goals first
   |(refine yT hC (oj n_1 n_6) ?_
     refine .one (.c (Qp (hF fun h=> ?_)))
     have h2:=hq h
     clear hLP hT hF hs hq hst hv s1 h
     simp_all
     done)
   |(refine Qb ⟨i+1,?_⟩
     have ht3:=hst (by clear hLP hT hF hs hq hst hv s1;simp_all)
     and_intros
     all_goals first|rfl|exact Ls _ _|exact Lr _|exact True.intro|exact ht3|omega)
 have e8:∀j,j<m.pages.length→O0 (m.pages.getD j pg0).gates=true:=fun j hj=>hs j om
 clear hs hi hb
 refine Qh (fun i:Nat=>[(1,.c (.optr g1 0)),(86,.c (grs true m.groups)),(87,.c (.int .i64 m.groups.length)),(88,.c (.int .i64 i))]) (fun _=>[(g1,.cells 29 8 (ofL (Xa true m)))]) (fun i=>i≤m.groups.length∧∀j,j<i→Ke (m.groups.getD j gr0)=true) (fun i=>m.groups.length-i) 0 (zB n_1) zZ ⟨Lz _,QgT⟩ ?_
 rintro i ⟨hi,hs⟩
 repeat' first|refine zV n_1 ?_|refine zH n_1 ?_ ?_<;>intro hb|fail
 ·have hi':=hb
  have hq:KN m→Ke (m.groups.getD i gr0)=true:=fun h=>(hLP.1 h).2.2.2.2.2.2.2.2.1 i hi'
  have hst:=Qax (p:=fun j=>Ke (m.groups.getD j gr0)=true) (i:=i) hs
  have hu1:=Xw hu.gr.2 (QyJ n) i
  have nm1:=big hu1.2.2.1.1
  have nm2:=big hu1.2.2.2.1
  clear hb
  refine yA n_1 fun g8 n_8=>?_
  generalize hv:m.groups.getD i gr0=x at*
  all_goals try(have Z:=(oj n_1 n_8);(repeat' first|refine zV Z ?_|refine zH Z ?_ ?_<;>intro hb|fail);all_goals clear Z)
  all_goals try (first
   |(refine yT hC (oj n_1 n_8) ?_
     refine .one (.c (Qp (hF fun h=> ?_)))
     have h2:=hq h
     unfold Ke at h2
     simp only [Ba,Dq] at h2
     omega
     done))
  have c2:=hb
  clear hb
  refine Qh (fun k:Nat=>[(1,.c (.optr g1 0)),(86,.c (grs true m.groups)),(87,.c (.int .i64 m.groups.length)),(88,.c (.int .i64 i)),(103,.c (VQ true x.factors)),(104,.c (.int .i64 x.factors.length)),(105,.c (.int .i64 k))]) (fun _=>[(g1,.cells 29 8 (ofL (Xa true m)))]) (fun k=>k≤x.factors.length∧∀j,j<k→Yr (x.factors.getD j rd0)=true) (fun k=>x.factors.length-k) 0 (zB (oj n_1 n_8)) (Ls _ _) ⟨Lz _,QgT⟩ ?_
  rintro k ⟨hk,hks⟩
  all_goals try(have Z:=(oj n_1 n_8);(repeat' first|refine zV Z ?_|refine zH Z ?_ ?_<;>intro hb|fail);all_goals clear Z)
  ·have hk':=hb
   have hqf:Yr (x.factors.getD k rd0)=false→Ke x=false:=QpS hk'
   have hst2:=Qax (p:=fun j=>Yr (x.factors.getD j rd0)=true) (i:=k) hks
   have s1:=WK _ (Xw hu1.2.2.2.2 (QgS n) k) hn
   clear hb
   refine yA (oj n_1 n_8) fun g10 n_10=>?_
   generalize hv2:x.factors.getD k rd0=y at*
   all_goals try(have Z:=(oj n_1 (oj n_8 n_10));(repeat' first|refine zV Z ?_|refine yQ Z s1 ?_|refine zH Z ?_ ?_<;>intro hb|fail);all_goals clear Z)
   all_goals first
    |(refine yT hC (oj n_1 (oj n_8 n_10)) ?_
      refine .one (.c (Qp (hF fun h=> ?_)))
      have h2:=hq h
      rw [hqf (by simpa using hb)] at h2
      cases h2
      done)
    |(refine Qb ⟨k+1,?_⟩
      have ht3:=hst2 (by simpa using hb)
      and_intros
      all_goals first|rfl|exact Ls _ _|exact Lr _|exact True.intro|exact ht3|omega)
  ·have ht3:=hst (QpT om om fun j hj=>hks j om)
   refine Qb ⟨i+1,?_⟩
   and_intros
   all_goals first|rfl|exact Ls _ _|exact Lr _|exact True.intro|exact ht3|omega
 have e9:∀j,j<m.groups.length→Ke (m.groups.getD j gr0)=true:=fun j hj=>hs j om
 clear hs hi hb
 refine Qh (fun i:Nat=>[(1,.c (.optr g1 0)),(115,.c (phs true m.phases)),(116,.c (.int .i64 m.phases.length)),(117,.c (.int .i64 i))]) (fun _=>[(g1,.cells 29 8 (ofL (Xa true m)))]) (fun i=>i≤m.phases.length∧∀j,j<i→Kg (m.phases.getD j ph0)=true) (fun i=>m.phases.length-i) 0 (zB n_1) zZ ⟨Lz _,QgT⟩ ?_
 rintro i ⟨hi,hs⟩
 repeat' first|refine zV n_1 ?_|refine zH n_1 ?_ ?_<;>intro hb|fail
 ·have hi':=hb
  have hq:KN m→Kg (m.phases.getD i ph0)=true:=fun h=>(hLP.1 h).2.2.2.2.2.2.2.2.2 i hi'
  have hst:=Qax (p:=fun j=>Kg (m.phases.getD j ph0)=true) (i:=i) hs
  have hu1:=Xw hu.ph.2 (QyL n) i
  have nm1:=big hu1.2.2.1
  clear hb
  refine yA n_1 fun g12 n_12=>?_
  generalize hv:m.phases.getD i ph0=x at*
  all_goals try(have Z:=(oj n_1 n_12);(repeat' first|refine zV Z ?_|refine zH Z ?_ ?_<;>intro hb|fail);all_goals clear Z)
  all_goals try (first
   |(refine yT hC (oj n_1 n_12) ?_
     refine .one (.c (Qp (hF fun h=> ?_)))
     have h2:=hq h
     unfold Kg at h2
     simp only [Ba,Dq] at h2
     omega
     done))
  have c2:=hb
  clear hb
  refine Qh (fun k:Nat=>[(1,.c (.optr g1 0)),(115,.c (phs true m.phases)),(116,.c (.int .i64 m.phases.length)),(117,.c (.int .i64 i)),(126,.c (vls true x.values)),(127,.c (.int .i64 x.values.length)),(128,.c (.int .i64 k))]) (fun _=>[(g1,.cells 29 8 (ofL (Xa true m)))]) (fun k=>k≤x.values.length∧∀j,j<k→Yr (x.values.getD j vl0).p=true) (fun k=>x.values.length-k) 0 (zB (oj n_1 n_12)) (Ls _ _) ⟨Lz _,QgT⟩ ?_
  rintro k ⟨hk,hks⟩
  all_goals try(have Z:=(oj n_1 n_12);(repeat' first|refine zV Z ?_|refine zH Z ?_ ?_<;>intro hb|fail);all_goals clear Z)
  ·have hk':=hb
   have hqf:Yr (x.values.getD k vl0).p=false→Kg x=false:=QpU hk'
   have hst2:=Qax (p:=fun j=>Yr (x.values.getD j vl0).p=true) (i:=k) hks
   have s1:=WK _ (Xw hu1.2.2.2 (QyK n) k).2 hn
   clear hb
   refine yA (oj n_1 n_12) fun g14 n_14=>?_
   generalize hv2:x.values.getD k vl0=y at*
   all_goals try(have Z:=(oj n_1 (oj n_12 n_14));(repeat' first|refine zV Z ?_|refine yQ Z s1 ?_|refine zH Z ?_ ?_<;>intro hb|fail);all_goals clear Z)
   all_goals first
    |(refine yT hC (oj n_1 (oj n_12 n_14)) ?_
      refine .one (.c (Qp (hF fun h=> ?_)))
      have h2:=hq h
      rw [hqf (by simpa using hb)] at h2
      cases h2
      done)
    |(refine Qb ⟨k+1,?_⟩
      have ht3:=hst2 (by simpa using hb)
      and_intros
      all_goals first|rfl|exact Ls _ _|exact Lr _|exact True.intro|exact ht3|omega)
  ·have ht3:=hst (QpV om fun j hj=>hks j om)
   refine Qb ⟨i+1,?_⟩
   and_intros
   all_goals first|rfl|exact Ls _ _|exact Lr _|exact True.intro|exact ht3|omega
 have e10:∀j,j<m.phases.length→Kg (m.phases.getD j ph0)=true:=fun j hj=>hs j om
 refine yT hC n_1 ?_
 exact .one (.c (Qp (hT (hLP.2 ⟨by omega,by omega,by omega,by omega,by omega,b6,e7,e8,e9,e10⟩))))
end Go.Proofs.YtngjgahldnnapaaGreatDoor
