/- Parts of one proof, laid by a program. -/
import Derived.Test.YtngjgahldnnapaaGreatDoorM00
import Derived.Test.YtngjgahldnnapaaGreatDoorM09
import Derived.Test.YtngjgahldnnapaaGreatDoorM10
set_option linter.unusedSimpArgs false
set_option linter.unusedVariables false
set_option maxRecDepth 100000
set_option maxHeartbeats 12800000
namespace Go.PN
open Go.AI
abbrev mdg (m:Qv) (o:Og):List CV:=[.str (sB m.name),.str (sB m.top),gs o.e 11 m.events.length,gs o.h 2 m.houses.length,gs o.g 7 m.gates.length,gs o.p 3 m.pages.length,gs o.r 4 m.groups.length,gs o.s 3 m.phases.length]
theorem QyQ (m:Qv) {s:PS} {t:TK} {l':List TK} (e0:s.e=0) (hl:s.l=t::l') (hk:t.kind≠1) (ht:t.text=Xn):stB m s=({m with events:=m.events++[(Ji ⟨l',0⟩).1]},(Ji ⟨l',0⟩).2):=by
 have hi:∀w,Xs s w=(t.text==w):=fun w=>by rw [VJ e0 hl,bne_iff_ne.2 hk,Bool.true_and]
 unfold stB
 rw [hi,hi,hi,hi,hi,hi,ht]
 dsimp only
 rw [show(Xn==Xn||Xn==QP||Xn==Qz||Xn==XT||Xn==Xf||Xn==Q9)=true from rfl,Xo e0 hl,ht]
 rfl
theorem QyR (m:Qv) {s:PS} {t:TK} {l':List TK} (e0:s.e=0) (hl:s.l=t::l') (hk:t.kind≠1) (ht:t.text=QP):stB m s=({m with houses:=m.houses++[(Jj ⟨l',0⟩).1]},(Jj ⟨l',0⟩).2):=by
 have hi:∀w,Xs s w=(t.text==w):=fun w=>by rw [VJ e0 hl,bne_iff_ne.2 hk,Bool.true_and]
 unfold stB
 rw [hi,hi,hi,hi,hi,hi,ht]
 dsimp only
 rw [show(QP==Xn||QP==QP||QP==Qz||QP==XT||QP==Xf||QP==Q9)=true from rfl,Xo e0 hl,ht]
 rfl
theorem QyS (m:Qv) {s:PS} {t:TK} {l':List TK} (e0:s.e=0) (hl:s.l=t::l') (hk:t.kind≠1) (ht:t.text=Qz):stB m s=({m with gates:=m.gates++[(K9 ⟨l',0⟩).1]},(K9 ⟨l',0⟩).2):=by
 have hi:∀w,Xs s w=(t.text==w):=fun w=>by rw [VJ e0 hl,bne_iff_ne.2 hk,Bool.true_and]
 unfold stB
 rw [hi,hi,hi,hi,hi,hi,ht]
 dsimp only
 rw [show(Qz==Xn||Qz==QP||Qz==Qz||Qz==XT||Qz==Xf||Qz==Q9)=true from rfl,Xo e0 hl,ht]
 rfl
theorem QyT (m:Qv) {s:PS} {t:TK} {l':List TK} (e0:s.e=0) (hl:s.l=t::l') (hk:t.kind≠1) (ht:t.text=XT):stB m s=({m with pages:=m.pages++[(Ou ⟨l',0⟩).1]},(Ou ⟨l',0⟩).2):=by
 have hi:∀w,Xs s w=(t.text==w):=fun w=>by rw [VJ e0 hl,bne_iff_ne.2 hk,Bool.true_and]
 unfold stB
 rw [hi,hi,hi,hi,hi,hi,ht]
 dsimp only
 rw [show(XT==Xn||XT==QP||XT==Qz||XT==XT||XT==Xf||XT==Q9)=true from rfl,Xo e0 hl,ht]
 rfl
theorem QyU (m:Qv) {s:PS} {t:TK} {l':List TK} (e0:s.e=0) (hl:s.l=t::l') (hk:t.kind≠1) (ht:t.text=Xf):stB m s=({m with groups:=m.groups++[(Jk ⟨l',0⟩).1]},(Jk ⟨l',0⟩).2):=by
 have hi:∀w,Xs s w=(t.text==w):=fun w=>by rw [VJ e0 hl,bne_iff_ne.2 hk,Bool.true_and]
 unfold stB
 rw [hi,hi,hi,hi,hi,hi,ht]
 dsimp only
 rw [show(Xf==Xn||Xf==QP||Xf==Qz||Xf==XT||Xf==Xf||Xf==Q9)=true from rfl,Xo e0 hl,ht]
 rfl
theorem QyV (m:Qv) {s:PS} {t:TK} {l':List TK} (e0:s.e=0) (hl:s.l=t::l') (hk:t.kind≠1) (ht:t.text=Q9):stB m s=({m with phases:=m.phases++[(Jl ⟨l',0⟩).1]},(Jl ⟨l',0⟩).2):=by
 have hi:∀w,Xs s w=(t.text==w):=fun w=>by rw [VJ e0 hl,bne_iff_ne.2 hk,Bool.true_and]
 unfold stB
 rw [hi,hi,hi,hi,hi,hi,ht]
 dsimp only
 rw [show(Q9==Xn||Q9==QP||Q9==Qz||Q9==XT||Q9==Xf||Q9==Q9)=true from rfl,Xo e0 hl,ht]
 rfl
theorem Qxm (m:Qv) {s:PS} (n0:Xs s Xn=false) (n1:Xs s QP=false) (n2:Xs s Qz=false) (n3:Xs s XT=false) (n4:Xs s Xf=false) (n5:Xs s Q9=false):stB m s=(m,(QZ false s).2):=by
 unfold stB
 rw [n0,n1,n2,n3,n4,n5]
 have ht:(QZ false s).1=[]:=by
  unfold QZ
  split
  ·split<;>rfl
  ·rfl
 dsimp only
 rw [show(false||false||false||false||false||false)=false from rfl,ht]
 rfl
theorem Qvo (s:PS):(QZ false s).1=[]:=by
 unfold QZ
 split
 ·split<;>rfl
 ·rfl
theorem ZM {α:Type} {l X Y Z:List α} (h:l=X++(Y++Z)):l.Perm ((X++Z)++Y):=by
 rw [h,Lo]
 exact List.Perm.append_left X List.perm_append_comm
end Go.PN
namespace Go.Proofs.YtngjgahldnnapaaGreatDoor
open Go.AI Go.PN Proofs.Tryz
def OE (m:Qv) (o:Og):Qa:=List.flatten [gh o.e 89 (m.events.length*11) (ZS m.events),gh o.h 115 (m.houses.length*2) (ZT m.houses),gh o.g 79 (m.gates.length*7) (X7 m.gates),gh o.p 91 (m.pages.length*3) (Kq m.pages),gh o.r 94 (m.groups.length*4) (VR m.groups),gh o.s 97 (m.phases.length*3) (Kr m.phases)]
abbrev mdO (m:Qv) (o:Og):XD:=.cells 29 8 (ofL (mdg m o))
attribute [local irreducible] aw Fa ZN ZZ Fh YE
theorem Qh8 (gM g:Nat) (L:List TX) (s:PS) (m:Qv) (o:Og) (hs:s.l<:+L.map TX.t) (hL:L.length≤1048576) (hw:∀t∈L,t.t.text.length≤1099511627776) (ho:QtX m o) (hb':Qjh m 1048576):Fh prog 110 ([(gM,mdO m o),(g,Ye L s)]++OE m o) [.c (.optr g 0),.c (.optr gM 0)] (fun x h=>x=.tup []∧∃o',QtX (stB m s).1 o'∧h=[(gM,mdO (stB m s).1 o'),(g,Ye L (stB m s).2)]++OE (stB m s).1 o'):=by
 have i0:=VE g L s Xn hs om
 have i1:=VE g L s QP hs om
 have i2:=VE g L s Qz hs om
 have i3:=VE g L s XT hs om
 have i4:=VE g L s Xf hs om
 have i5:=VE g L s Q9 hs om
 refine fH func110 fun C hC=>?_
 refine Y9 fun hnd=> ?_
 have hne:gM≠g:=fun e=>by subst e;simp [Qa.keys] at hnd
 have hne':g≠gM:=fun e=>hne e.symm
 clear hnd
 simp only [Lq,Ln] at*
 all_goals try(have Z:=(oj hne hne');(repeat' first|refine zV Z ?_|refine yQ Z i0 ?_|refine yQ Z i1 ?_|refine yQ Z i2 ?_|refine yQ Z i3 ?_|refine yQ Z i4 ?_|refine yQ Z i5 ?_|refine zH Z ?_ ?_<;>intro hb|fail);all_goals clear Z)
 ·obtain⟨h0,t,l',hl,hk,ht⟩:=U3 hb
  have hB:=QyQ m h0 hl hk ht
  rw [hB]
  have f6:=YO g L s true hs om
  rw [Xo h0 hl,iP rfl,ht] at f6
  dsimp only at f6
  have hsl:l'<:+L.map TX.t:=(show l'<:+s.l from by rw [hl];exact List.suffix_cons t l').trans hs
  have f7:=QsF g L ⟨l',0⟩ hsl om hw
  clear hB i0 i1 i2 i3 i4 i5
  generalize Ji ⟨l',0⟩=y at*
  obtain⟨v,sy⟩:=y
  dsimp only at*
  have q0:(Xn==Xn)=true:=rfl
  have q1:(Xn==QP)=false:=rfl
  have q2:(Xn==Qz)=false:=rfl
  have q3:(Xn==XT)=false:=rfl
  have q4:(Xn==Xf)=false:=rfl
  have q5:(Xn==Q9)=false:=rfl
  refine Zo (oj hne (oj hne' (oj q0 (oj q1 (oj q2 (oj q3 (oj q4 q5))))))) f6 ?_
  obtain⟨X,hX⟩:∃X:Qa,X=List.flatten []:=⟨_,rfl⟩
  obtain⟨Z,hZ⟩:∃Z:Qa,Z=List.flatten [gh o.h 115 (m.houses.length*2) (ZT m.houses),gh o.g 79 (m.gates.length*7) (X7 m.gates),gh o.p 91 (m.pages.length*3) (Kq m.pages),gh o.r 94 (m.groups.length*4) (VR m.groups),gh o.s 97 (m.phases.length*3) (Kr m.phases)]:=⟨_,rfl⟩
  have hsp:OE m o=X++(gh o.e 89 (m.events.length*11) (ZS m.events)++Z):=by
   subst hX hZ
   unfold OE
   simp only [List.flatten_cons,List.flatten_nil,Lo,Lp,Ln]
  refine Qi (h':=(gM,mdO m o)::(g,Ye L ⟨l',0⟩)::((X++Z)++gh o.e 89 (m.events.length*11) (ZS m.events))) (.cons _ (.cons _ (ZM hsp))) ?_
  refine Yf ([(gM,mdO m o)]) [(0,0),(1,0),(2,0),(3,0),(4,0),(5,0),(6,1),(7,1),(8,1),(9,0),(10,0),(11,2)] Qg kR eI ?_
  have J1:=oj hne (oj hne' (oj q0 (oj q1 (oj q2 (oj q3 (oj q4 q5))))))
  refine yG J1 ?_
  refine OY rfl f7 rfl rfl rfl (zE J1) (zL J1) (by refine yS J1 ?_;exact Qm (Lf ..) Qf) ?_
  refine Xp J1 ?_
  refine Qs (xs:=[.tmp 38]) (cells:=evc v) rfl rfl rfl rfl (zE J1) (by refine yS J1 ?_;rfl) rfl om om qd rfl Ag (Qm (Lf ..) Qf) (fun ga n_a=> ?_) (hm:=.inr ⟨rfl,rfl⟩)
  refine yS J1 ?_
  refine YT (pre:=(gM,mdO m o)::(g,Ye L sy)::(X++Z)) (og:=o.e) (n:=m.events.length) (s:=36) (d1:=39) (gt:=ga) (v:=.agg (evc v)) rfl rfl rfl rfl (zE J1) (zE J1) (by rfl) om om (zE J1) (zE J1) ho.e (by rfl) (by rfl) (by simp only [Ad,Lq,Ln];rfl) (by have:=hb'.e;unfold maxLen;omega) (by have:=hb'.e;omega) (QeM rfl v) (XY (Qm (Lf ..) Qf)) (fun gb n_b=> ?_) (hm:=.inr ⟨rfl,rfl⟩)
  replace n_a:=Qa.ne_of n_a
  simp only [Qa.ne] at n_a
  have J2:=oj hne (oj hne' (oj q0 (oj q1 (oj q2 (oj q3 (oj q4 (oj q5 n_a)))))))
  refine Xp J2 ?_
  refine Xm (FP':=[]) rfl rfl rfl rfl rfl (zE J2) (zE J2) (zE J2) (zE J2) (fun _ e=>by cases e) rfl rfl (show 3≤8 from by omega) rfl Qf ?_
  refine Xp J2 ?_
  have hln:(m.events++[v]).length=m.events.length+1:=by rw [La];rfl
  rw [←hln]
  have hsp2:OE {m with events:=m.events++[v]} {o with e:=some gb}=X++(gh (some gb) 89 ((m.events++[v]).length*11) (ZS (m.events++[v]))++Z):=by
   subst hX hZ
   unfold OE
   simp only [List.flatten_cons,List.flatten_nil,Lo,Lp,Ln]
  refine Yl [] _ (zB J2) (Ls _ _) ?_
  refine Qi (h':=(gM,mdO {m with events:=m.events++[v]} {o with e:=some gb})::(g,Ye L sy)::OE {m with events:=m.events++[v]} {o with e:=some gb}) (.cons _ (.cons _ (ZM hsp2).symm)) ?_
  refine zA J2 ?_
  refine yV J2 ?_
  exact⟨rfl,{o with e:=some gb},⟨XJ,ho.h,ho.g,ho.p,ho.r,ho.s⟩,rfl⟩
 ·rename_i n0
  obtain⟨h0,t,l',hl,hk,ht⟩:=U3 hb
  have hB:=QyR m h0 hl hk ht
  rw [hB]
  have f6:=YO g L s true hs om
  rw [Xo h0 hl,iP rfl,ht] at f6
  dsimp only at f6
  have hsl:l'<:+L.map TX.t:=(show l'<:+s.l from by rw [hl];exact List.suffix_cons t l').trans hs
  have f7:=QsC g L ⟨l',0⟩ hsl om
  clear hB i0 i1 i2 i3 i4 i5
  generalize Jj ⟨l',0⟩=y at*
  obtain⟨v,sy⟩:=y
  dsimp only at*
  have q0:(QP==Xn)=false:=rfl
  have q1:(QP==QP)=true:=rfl
  have q2:(QP==Qz)=false:=rfl
  have q3:(QP==XT)=false:=rfl
  have q4:(QP==Xf)=false:=rfl
  have q5:(QP==Q9)=false:=rfl
  refine Zo (oj hne (oj hne' (oj q0 (oj q1 (oj q2 (oj q3 (oj q4 q5))))))) f6 ?_
  obtain⟨X,hX⟩:∃X:Qa,X=List.flatten [gh o.e 89 (m.events.length*11) (ZS m.events)]:=⟨_,rfl⟩
  obtain⟨Z,hZ⟩:∃Z:Qa,Z=List.flatten [gh o.g 79 (m.gates.length*7) (X7 m.gates),gh o.p 91 (m.pages.length*3) (Kq m.pages),gh o.r 94 (m.groups.length*4) (VR m.groups),gh o.s 97 (m.phases.length*3) (Kr m.phases)]:=⟨_,rfl⟩
  have hsp:OE m o=X++(gh o.h 115 (m.houses.length*2) (ZT m.houses)++Z):=by
   subst hX hZ
   unfold OE
   simp only [List.flatten_cons,List.flatten_nil,Lo,Lp,Ln]
  refine Qi (h':=(gM,mdO m o)::(g,Ye L ⟨l',0⟩)::((X++Z)++gh o.h 115 (m.houses.length*2) (ZT m.houses))) (.cons _ (.cons _ (ZM hsp))) ?_
  refine Yf ([(gM,mdO m o)]) [(0,0),(1,0),(2,0),(3,0),(4,0),(5,0),(6,1),(7,1),(8,1),(9,0),(10,0),(11,2)] Qg kR eI ?_
  have J3:=oj hne (oj hne' (oj q0 (oj q1 (oj q2 (oj q3 (oj q4 q5))))))
  refine yG J3 ?_
  refine OY rfl f7 rfl rfl rfl (zE J3) (zL J3) (by refine yS J3 ?_;exact Qm (Lf ..) Qf) ?_
  refine Xp J3 ?_
  refine Qs (xs:=[.tmp 51]) (cells:=hsc v) rfl rfl rfl rfl (zE J3) (by refine yS J3 ?_;rfl) rfl om om qd rfl Ag (Qm (Lf ..) Qf) (fun ga n_a=> ?_) (hm:=.inr ⟨rfl,rfl⟩)
  refine yS J3 ?_
  refine YT (pre:=(gM,mdO m o)::(g,Ye L sy)::(X++Z)) (og:=o.h) (n:=m.houses.length) (s:=49) (d1:=52) (gt:=ga) (v:=.agg (hsc v)) rfl rfl rfl rfl (zE J3) (zE J3) (by rfl) om om (zE J3) (zE J3) ho.h (by rfl) (by rfl) (by simp only [Ad,Lq,Ln];rfl) (by have:=hb'.h;unfold maxLen;omega) (by have:=hb'.h;omega) (Qji rfl v) (XY (Qm (Lf ..) Qf)) (fun gb n_b=> ?_) (hm:=.inr ⟨rfl,rfl⟩)
  replace n_a:=Qa.ne_of n_a
  simp only [Qa.ne] at n_a
  have J4:=oj hne (oj hne' (oj q0 (oj q1 (oj q2 (oj q3 (oj q4 (oj q5 n_a)))))))
  refine Xp J4 ?_
  refine Xm (FP':=[]) rfl rfl rfl rfl rfl (zE J4) (zE J4) (zE J4) (zE J4) (fun _ e=>by cases e) rfl rfl (show 4≤8 from by omega) rfl Qf ?_
  refine Xp J4 ?_
  have hln:(m.houses++[v]).length=m.houses.length+1:=by rw [La];rfl
  rw [←hln]
  have hsp2:OE {m with houses:=m.houses++[v]} {o with h:=some gb}=X++(gh (some gb) 115 ((m.houses++[v]).length*2) (ZT (m.houses++[v]))++Z):=by
   subst hX hZ
   unfold OE
   simp only [List.flatten_cons,List.flatten_nil,Lo,Lp,Ln]
  refine Yl [] _ (zB J4) (Ls _ _) ?_
  refine Qi (h':=(gM,mdO {m with houses:=m.houses++[v]} {o with h:=some gb})::(g,Ye L sy)::OE {m with houses:=m.houses++[v]} {o with h:=some gb}) (.cons _ (.cons _ (ZM hsp2).symm)) ?_
  refine zA J4 ?_
  refine yV J4 ?_
  exact⟨rfl,{o with h:=some gb},⟨ho.e,XJ,ho.g,ho.p,ho.r,ho.s⟩,rfl⟩
 ·rename_i n0 n1
  obtain⟨h0,t,l',hl,hk,ht⟩:=U3 hb
  have hB:=QyS m h0 hl hk ht
  rw [hB]
  have f6:=YO g L s true hs om
  rw [Xo h0 hl,iP rfl,ht] at f6
  dsimp only at f6
  have hsl:l'<:+L.map TX.t:=(show l'<:+s.l from by rw [hl];exact List.suffix_cons t l').trans hs
  have f7:=QnV g L ⟨l',0⟩ hsl om hw
  clear hB i0 i1 i2 i3 i4 i5
  generalize K9 ⟨l',0⟩=y at*
  obtain⟨v,sy⟩:=y
  dsimp only at*
  have q0:(Qz==Xn)=false:=rfl
  have q1:(Qz==QP)=false:=rfl
  have q2:(Qz==Qz)=true:=rfl
  have q3:(Qz==XT)=false:=rfl
  have q4:(Qz==Xf)=false:=rfl
  have q5:(Qz==Q9)=false:=rfl
  refine Zo (oj hne (oj hne' (oj q0 (oj q1 (oj q2 (oj q3 (oj q4 q5))))))) f6 ?_
  obtain⟨X,hX⟩:∃X:Qa,X=List.flatten [gh o.e 89 (m.events.length*11) (ZS m.events),gh o.h 115 (m.houses.length*2) (ZT m.houses)]:=⟨_,rfl⟩
  obtain⟨Z,hZ⟩:∃Z:Qa,Z=List.flatten [gh o.p 91 (m.pages.length*3) (Kq m.pages),gh o.r 94 (m.groups.length*4) (VR m.groups),gh o.s 97 (m.phases.length*3) (Kr m.phases)]:=⟨_,rfl⟩
  have hsp:OE m o=X++(gh o.g 79 (m.gates.length*7) (X7 m.gates)++Z):=by
   subst hX hZ
   unfold OE
   simp only [List.flatten_cons,List.flatten_nil,Lo,Lp,Ln]
  refine Qi (h':=(gM,mdO m o)::(g,Ye L ⟨l',0⟩)::((X++Z)++gh o.g 79 (m.gates.length*7) (X7 m.gates))) (.cons _ (.cons _ (ZM hsp))) ?_
  refine Yf ([(gM,mdO m o)]) [(0,0),(1,0),(2,0),(3,0),(4,0),(5,0),(6,1),(7,1),(8,1),(9,0),(10,0),(11,2)] Qg kR eI ?_
  have J5:=oj hne (oj hne' (oj q0 (oj q1 (oj q2 (oj q3 (oj q4 q5))))))
  refine yG J5 ?_
  refine OY rfl f7 rfl rfl rfl (zE J5) (zL J5) (by refine yS J5 ?_;exact Qm (Lf ..) Qf) ?_
  refine Xp J5 ?_
  refine Qs (xs:=[.tmp 64]) (cells:=Zy v) rfl rfl rfl rfl (zE J5) (by refine yS J5 ?_;rfl) rfl om om qd rfl Ag (Qm (Lf ..) Qf) (fun ga n_a=> ?_) (hm:=.inr ⟨rfl,rfl⟩)
  refine yS J5 ?_
  refine YT (pre:=(gM,mdO m o)::(g,Ye L sy)::(X++Z)) (og:=o.g) (n:=m.gates.length) (s:=62) (d1:=65) (gt:=ga) (v:=.agg (Zy v)) rfl rfl rfl rfl (zE J5) (zE J5) (by rfl) om om (zE J5) (zE J5) ho.g (by rfl) (by rfl) (by simp only [Ad,Lq,Ln];rfl) (by have:=hb'.g;unfold maxLen;omega) (by have:=hb'.g;omega) (K0 rfl v) (XY (Qm (Lf ..) Qf)) (fun gb n_b=> ?_) (hm:=.inr ⟨rfl,rfl⟩)
  replace n_a:=Qa.ne_of n_a
  simp only [Qa.ne] at n_a
  have J6:=oj hne (oj hne' (oj q0 (oj q1 (oj q2 (oj q3 (oj q4 (oj q5 n_a)))))))
  refine Xp J6 ?_
  refine Xm (FP':=[]) rfl rfl rfl rfl rfl (zE J6) (zE J6) (zE J6) (zE J6) (fun _ e=>by cases e) rfl rfl (show 5≤8 from by omega) rfl Qf ?_
  refine Xp J6 ?_
  have hln:(m.gates++[v]).length=m.gates.length+1:=by rw [La];rfl
  rw [←hln]
  have hsp2:OE {m with gates:=m.gates++[v]} {o with g:=some gb}=X++(gh (some gb) 79 ((m.gates++[v]).length*7) (X7 (m.gates++[v]))++Z):=by
   subst hX hZ
   unfold OE
   simp only [List.flatten_cons,List.flatten_nil,Lo,Lp,Ln]
  refine Yl [] _ (zB J6) (Ls _ _) ?_
  refine Qi (h':=(gM,mdO {m with gates:=m.gates++[v]} {o with g:=some gb})::(g,Ye L sy)::OE {m with gates:=m.gates++[v]} {o with g:=some gb}) (.cons _ (.cons _ (ZM hsp2).symm)) ?_
  refine zA J6 ?_
  refine yV J6 ?_
  exact⟨rfl,{o with g:=some gb},⟨ho.e,ho.h,XJ,ho.p,ho.r,ho.s⟩,rfl⟩
 ·rename_i n0 n1 n2
  obtain⟨h0,t,l',hl,hk,ht⟩:=U3 hb
  have hB:=QyT m h0 hl hk ht
  rw [hB]
  have f6:=YO g L s true hs om
  rw [Xo h0 hl,iP rfl,ht] at f6
  dsimp only at f6
  have hsl:l'<:+L.map TX.t:=(show l'<:+s.l from by rw [hl];exact List.suffix_cons t l').trans hs
  have f7:=Qvn g L ⟨l',0⟩ hsl om hw
  clear hB i0 i1 i2 i3 i4 i5
  generalize Ou ⟨l',0⟩=y at*
  obtain⟨v,sy⟩:=y
  dsimp only at*
  have q0:(XT==Xn)=false:=rfl
  have q1:(XT==QP)=false:=rfl
  have q2:(XT==Qz)=false:=rfl
  have q3:(XT==XT)=true:=rfl
  have q4:(XT==Xf)=false:=rfl
  have q5:(XT==Q9)=false:=rfl
  refine Zo (oj hne (oj hne' (oj q0 (oj q1 (oj q2 (oj q3 (oj q4 q5))))))) f6 ?_
  obtain⟨X,hX⟩:∃X:Qa,X=List.flatten [gh o.e 89 (m.events.length*11) (ZS m.events),gh o.h 115 (m.houses.length*2) (ZT m.houses),gh o.g 79 (m.gates.length*7) (X7 m.gates)]:=⟨_,rfl⟩
  obtain⟨Z,hZ⟩:∃Z:Qa,Z=List.flatten [gh o.r 94 (m.groups.length*4) (VR m.groups),gh o.s 97 (m.phases.length*3) (Kr m.phases)]:=⟨_,rfl⟩
  have hsp:OE m o=X++(gh o.p 91 (m.pages.length*3) (Kq m.pages)++Z):=by
   subst hX hZ
   unfold OE
   simp only [List.flatten_cons,List.flatten_nil,Lo,Lp,Ln]
  refine Qi (h':=(gM,mdO m o)::(g,Ye L ⟨l',0⟩)::((X++Z)++gh o.p 91 (m.pages.length*3) (Kq m.pages))) (.cons _ (.cons _ (ZM hsp))) ?_
  refine Yf ([(gM,mdO m o)]) [(0,0),(1,0),(2,0),(3,0),(4,0),(5,0),(6,1),(7,1),(8,1),(9,0),(10,0),(11,2)] Qg kR eI ?_
  have J7:=oj hne (oj hne' (oj q0 (oj q1 (oj q2 (oj q3 (oj q4 q5))))))
  refine yG J7 ?_
  refine OY rfl f7 rfl rfl rfl (zE J7) (zL J7) (by refine yS J7 ?_;exact Qm (Lf ..) Qf) ?_
  refine Xp J7 ?_
  refine Qs (xs:=[.tmp 77]) (cells:=pgc v) rfl rfl rfl rfl (zE J7) (by refine yS J7 ?_;rfl) rfl om om qd rfl Ag (Qm (Lf ..) Qf) (fun ga n_a=> ?_) (hm:=.inr ⟨rfl,rfl⟩)
  refine yS J7 ?_
  refine YT (pre:=(gM,mdO m o)::(g,Ye L sy)::(X++Z)) (og:=o.p) (n:=m.pages.length) (s:=75) (d1:=78) (gt:=ga) (v:=.agg (pgc v)) rfl rfl rfl rfl (zE J7) (zE J7) (by rfl) om om (zE J7) (zE J7) ho.p (by rfl) (by rfl) (by simp only [Ad,Lq,Ln];rfl) (by have:=hb'.p;unfold maxLen;omega) (by have:=hb'.p;omega) (QeN rfl v) (XY (Qm (Lf ..) Qf)) (fun gb n_b=> ?_) (hm:=.inr ⟨rfl,rfl⟩)
  replace n_a:=Qa.ne_of n_a
  simp only [Qa.ne] at n_a
  have J8:=oj hne (oj hne' (oj q0 (oj q1 (oj q2 (oj q3 (oj q4 (oj q5 n_a)))))))
  refine Xp J8 ?_
  refine Xm (FP':=[]) rfl rfl rfl rfl rfl (zE J8) (zE J8) (zE J8) (zE J8) (fun _ e=>by cases e) rfl rfl (show 6≤8 from by omega) rfl Qf ?_
  refine Xp J8 ?_
  have hln:(m.pages++[v]).length=m.pages.length+1:=by rw [La];rfl
  rw [←hln]
  have hsp2:OE {m with pages:=m.pages++[v]} {o with p:=some gb}=X++(gh (some gb) 91 ((m.pages++[v]).length*3) (Kq (m.pages++[v]))++Z):=by
   subst hX hZ
   unfold OE
   simp only [List.flatten_cons,List.flatten_nil,Lo,Lp,Ln]
  refine Yl [] _ (zB J8) (Ls _ _) ?_
  refine Qi (h':=(gM,mdO {m with pages:=m.pages++[v]} {o with p:=some gb})::(g,Ye L sy)::OE {m with pages:=m.pages++[v]} {o with p:=some gb}) (.cons _ (.cons _ (ZM hsp2).symm)) ?_
  refine zA J8 ?_
  refine yV J8 ?_
  exact⟨rfl,{o with p:=some gb},⟨ho.e,ho.h,ho.g,XJ,ho.r,ho.s⟩,rfl⟩
 ·rename_i n0 n1 n2 n3
  obtain⟨h0,t,l',hl,hk,ht⟩:=U3 hb
  have hB:=QyU m h0 hl hk ht
  rw [hB]
  have f6:=YO g L s true hs om
  rw [Xo h0 hl,iP rfl,ht] at f6
  dsimp only at f6
  have hsl:l'<:+L.map TX.t:=(show l'<:+s.l from by rw [hl];exact List.suffix_cons t l').trans hs
  have f7:=QsE g L ⟨l',0⟩ hsl om hw
  clear hB i0 i1 i2 i3 i4 i5
  generalize Jk ⟨l',0⟩=y at*
  obtain⟨v,sy⟩:=y
  dsimp only at*
  have q0:(Xf==Xn)=false:=rfl
  have q1:(Xf==QP)=false:=rfl
  have q2:(Xf==Qz)=false:=rfl
  have q3:(Xf==XT)=false:=rfl
  have q4:(Xf==Xf)=true:=rfl
  have q5:(Xf==Q9)=false:=rfl
  refine Zo (oj hne (oj hne' (oj q0 (oj q1 (oj q2 (oj q3 (oj q4 q5))))))) f6 ?_
  obtain⟨X,hX⟩:∃X:Qa,X=List.flatten [gh o.e 89 (m.events.length*11) (ZS m.events),gh o.h 115 (m.houses.length*2) (ZT m.houses),gh o.g 79 (m.gates.length*7) (X7 m.gates),gh o.p 91 (m.pages.length*3) (Kq m.pages)]:=⟨_,rfl⟩
  obtain⟨Z,hZ⟩:∃Z:Qa,Z=List.flatten [gh o.s 97 (m.phases.length*3) (Kr m.phases)]:=⟨_,rfl⟩
  have hsp:OE m o=X++(gh o.r 94 (m.groups.length*4) (VR m.groups)++Z):=by
   subst hX hZ
   unfold OE
   simp only [List.flatten_cons,List.flatten_nil,Lo,Lp,Ln]
  refine Qi (h':=(gM,mdO m o)::(g,Ye L ⟨l',0⟩)::((X++Z)++gh o.r 94 (m.groups.length*4) (VR m.groups))) (.cons _ (.cons _ (ZM hsp))) ?_
  refine Yf ([(gM,mdO m o)]) [(0,0),(1,0),(2,0),(3,0),(4,0),(5,0),(6,1),(7,1),(8,1),(9,0),(10,0),(11,2)] Qg kR eI ?_
  have J9:=oj hne (oj hne' (oj q0 (oj q1 (oj q2 (oj q3 (oj q4 q5))))))
  refine yG J9 ?_
  refine OY rfl f7 rfl rfl rfl (zE J9) (zL J9) (by refine yS J9 ?_;exact Qm (Lf ..) Qf) ?_
  refine Xp J9 ?_
  refine Qs (xs:=[.tmp 90]) (cells:=Wx v) rfl rfl rfl rfl (zE J9) (by refine yS J9 ?_;rfl) rfl om om qd rfl Ag (Qm (Lf ..) Qf) (fun ga n_a=> ?_) (hm:=.inr ⟨rfl,rfl⟩)
  refine yS J9 ?_
  refine YT (pre:=(gM,mdO m o)::(g,Ye L sy)::(X++Z)) (og:=o.r) (n:=m.groups.length) (s:=88) (d1:=91) (gt:=ga) (v:=.agg (Wx v)) rfl rfl rfl rfl (zE J9) (zE J9) (by rfl) om om (zE J9) (zE J9) ho.r (by rfl) (by rfl) (by simp only [Ad,Lq,Ln];rfl) (by have:=hb'.r;unfold maxLen;omega) (by have:=hb'.r;omega) (QeO rfl v) (XY (Qm (Lf ..) Qf)) (fun gb n_b=> ?_) (hm:=.inr ⟨rfl,rfl⟩)
  replace n_a:=Qa.ne_of n_a
  simp only [Qa.ne] at n_a
  have J10:=oj hne (oj hne' (oj q0 (oj q1 (oj q2 (oj q3 (oj q4 (oj q5 n_a)))))))
  refine Xp J10 ?_
  refine Xm (FP':=[]) rfl rfl rfl rfl rfl (zE J10) (zE J10) (zE J10) (zE J10) (fun _ e=>by cases e) rfl rfl (show 7≤8 from by omega) rfl Qf ?_
  refine Xp J10 ?_
  have hln:(m.groups++[v]).length=m.groups.length+1:=by rw [La];rfl
  rw [←hln]
  have hsp2:OE {m with groups:=m.groups++[v]} {o with r:=some gb}=X++(gh (some gb) 94 ((m.groups++[v]).length*4) (VR (m.groups++[v]))++Z):=by
   subst hX hZ
   unfold OE
   simp only [List.flatten_cons,List.flatten_nil,Lo,Lp,Ln]
  refine Yl [] _ (zB J10) (Ls _ _) ?_
  refine Qi (h':=(gM,mdO {m with groups:=m.groups++[v]} {o with r:=some gb})::(g,Ye L sy)::OE {m with groups:=m.groups++[v]} {o with r:=some gb}) (.cons _ (.cons _ (ZM hsp2).symm)) ?_
  refine zA J10 ?_
  refine yV J10 ?_
  exact⟨rfl,{o with r:=some gb},⟨ho.e,ho.h,ho.g,ho.p,XJ,ho.s⟩,rfl⟩
 ·rename_i n0 n1 n2 n3
  have n4:=hb
  cases hb:Xs s Q9 with
  |true=>
   obtain⟨h0,t,l',hl,hk,ht⟩:=U3 hb
   have hB:=QyV m h0 hl hk ht
   rw [hB]
   have f6:=YO g L s true hs om
   rw [Xo h0 hl,iP rfl,ht] at f6
   dsimp only at f6
   have hsl:l'<:+L.map TX.t:=(show l'<:+s.l from by rw [hl];exact List.suffix_cons t l').trans hs
   have f7:=QsD g L ⟨l',0⟩ hsl om hw
   clear hB i0 i1 i2 i3 i4 i5
   generalize Jl ⟨l',0⟩=y at*
   obtain⟨v,sy⟩:=y
   dsimp only at*
   have q0:(Q9==Xn)=false:=rfl
   have q1:(Q9==QP)=false:=rfl
   have q2:(Q9==Qz)=false:=rfl
   have q3:(Q9==XT)=false:=rfl
   have q4:(Q9==Xf)=false:=rfl
   have q5:(Q9==Q9)=true:=rfl
   refine Zo (oj hne (oj hne' (oj q0 (oj q1 (oj q2 (oj q3 (oj q4 q5))))))) f6 ?_
   obtain⟨X,hX⟩:∃X:Qa,X=List.flatten [gh o.e 89 (m.events.length*11) (ZS m.events),gh o.h 115 (m.houses.length*2) (ZT m.houses),gh o.g 79 (m.gates.length*7) (X7 m.gates),gh o.p 91 (m.pages.length*3) (Kq m.pages),gh o.r 94 (m.groups.length*4) (VR m.groups)]:=⟨_,rfl⟩
   obtain⟨Z,hZ⟩:∃Z:Qa,Z=List.flatten []:=⟨_,rfl⟩
   have hsp:OE m o=X++(gh o.s 97 (m.phases.length*3) (Kr m.phases)++Z):=by
    subst hX hZ
    unfold OE
    simp only [List.flatten_cons,List.flatten_nil,Lo,Lp,Ln]
   refine Qi (h':=(gM,mdO m o)::(g,Ye L ⟨l',0⟩)::((X++Z)++gh o.s 97 (m.phases.length*3) (Kr m.phases))) (.cons _ (.cons _ (ZM hsp))) ?_
   refine Yf ([(gM,mdO m o)]) [(0,0),(1,0),(2,0),(3,0),(4,0),(5,0),(6,1),(7,1),(8,1),(9,0),(10,0),(11,2)] Qg kR eI ?_
   have J11:=oj hne (oj hne' (oj q0 (oj q1 (oj q2 (oj q3 (oj q4 q5))))))
   refine yG J11 ?_
   refine OY rfl f7 rfl rfl rfl (zE J11) (zL J11) (by refine yS J11 ?_;exact Qm (Lf ..) Qf) ?_
   refine Xp J11 ?_
   refine Qs (xs:=[.tmp 103]) (cells:=WR v) rfl rfl rfl rfl (zE J11) (by refine yS J11 ?_;rfl) rfl om om qd rfl Ag (Qm (Lf ..) Qf) (fun ga n_a=> ?_) (hm:=.inr ⟨rfl,rfl⟩)
   refine yS J11 ?_
   refine YT (pre:=(gM,mdO m o)::(g,Ye L sy)::(X++Z)) (og:=o.s) (n:=m.phases.length) (s:=101) (d1:=104) (gt:=ga) (v:=.agg (WR v)) rfl rfl rfl rfl (zE J11) (zE J11) (by rfl) om om (zE J11) (zE J11) ho.s (by rfl) (by rfl) (by simp only [Ad,Lq,Ln];rfl) (by have:=hb'.s;unfold maxLen;omega) (by have:=hb'.s;omega) (QeP rfl v) (XY (Qm (Lf ..) Qf)) (fun gb n_b=> ?_) (hm:=.inr ⟨rfl,rfl⟩)
   replace n_a:=Qa.ne_of n_a
   simp only [Qa.ne] at n_a
   have J12:=oj hne (oj hne' (oj q0 (oj q1 (oj q2 (oj q3 (oj q4 (oj q5 n_a)))))))
   refine Xp J12 ?_
   refine Xm (FP':=[]) rfl rfl rfl rfl rfl (zE J12) (zE J12) (zE J12) (zE J12) (fun _ e=>by cases e) rfl rfl (show 8≤8 from by omega) rfl Qf ?_
   refine Xp J12 ?_
   have hln:(m.phases++[v]).length=m.phases.length+1:=by rw [La];rfl
   rw [←hln]
   have hsp2:OE {m with phases:=m.phases++[v]} {o with s:=some gb}=X++(gh (some gb) 97 ((m.phases++[v]).length*3) (Kr (m.phases++[v]))++Z):=by
    subst hX hZ
    unfold OE
    simp only [List.flatten_cons,List.flatten_nil,Lo,Lp,Ln]
   refine Yl [] _ (zB J12) (Ls _ _) ?_
   refine Qi (h':=(gM,mdO {m with phases:=m.phases++[v]} {o with s:=some gb})::(g,Ye L sy)::OE {m with phases:=m.phases++[v]} {o with s:=some gb}) (.cons _ (.cons _ (ZM hsp2).symm)) ?_
   refine zA J12 ?_
   refine yV J12 ?_
   exact⟨rfl,{o with s:=some gb},⟨ho.e,ho.h,ho.g,ho.p,ho.r,XJ⟩,rfl⟩
  |false=>
   have hB:=Qxm m n0 n1 n2 n3 n4 hb
   rw [hB]
   have f6:=YO g L s false hs om
   rw [Qvo] at f6
   have q0:(([]:BS)==Xn)=false:=rfl
   have q1:(([]:BS)==QP)=false:=rfl
   have q2:(([]:BS)==Qz)=false:=rfl
   have q3:(([]:BS)==XT)=false:=rfl
   have q4:(([]:BS)==Xf)=false:=rfl
   have q5:(([]:BS)==Q9)=false:=rfl
   refine Zo (oj hne (oj hne' (oj q0 (oj q1 (oj q2 (oj q3 (oj q4 q5))))))) f6 ?_
   refine yV (oj hne (oj hne' (oj q0 (oj q1 (oj q2 (oj q3 (oj q4 q5))))))) ?_
   exact⟨rfl,o,ho,rfl⟩
end Go.Proofs.YtngjgahldnnapaaGreatDoor
namespace Go.Proofs.YtngjgahldnnapaaGreatDoor
open Go.AI Go.PN Proofs.Tryz
attribute [local irreducible] aw Fa ZN ZZ Fh YE
theorem Qxn (g:Nat) (L:List TX) (s:PS) (hs:s.l<:+L.map TX.t) (hL:L.length≤1099511627776):Fg prog 112 g (Ye L s) [.c (.optr g 0)] (.c (Y2 (QdG s).e)) (Ye L (QdG s)):=by
 have h:=rat hs
 have f1:=JE g L s 2 Af
 generalize ha:L.length-s.l.length=a at h
 have hle:=h.le
 unfold Fg
 rw [QfJ ha]
 rw [QfJ ha] at f1
 refine fH func112 fun C hC=>?_
 refine zA o0 ?_
 refine Xv 17 Qg kR ?_
 repeat' first|refine zV o0 ?_|refine yQ o0 f1 ?_|refine zH o0 ?_ ?_<;>intro hb|fail
 ·rename_i h0
  obtain⟨l',hl,_⟩:=h.cons hb
  have he:QdG s=YM 2 s:=by
   unfold QdG YM
   rw [iP ⟨h0,by rw [hl];simp⟩,iP h0]
  refine xU ?_
  rw [he]
  exact⟨rfl,rfl⟩
 ·have he:QdG s=s:=by
   unfold QdG
   rw [iN fun z=>z.2 (h.nil hb)]
  refine xU ?_
  rw [he,←QfJ ha]
  exact⟨rfl,rfl⟩
 ·have he:QdG s=s:=by
   unfold QdG
   rw [iN fun z=>hb z.1]
  refine xU ?_
  rw [he,←QfJ ha]
  exact⟨rfl,rfl⟩
theorem QsG (l:BS) (hl:l.length≤1099511627776):Fh prog 106 [] [.c (.str (sB l))] (fun x h=>∃(out:List TX) (g:Nat),out.map TX.t=(XU l).2∧h=[(g,Ye out ⟨(XU l).2,0⟩)]∧x=.tup [.c (.optr g 0),.c (Y2 (XU l).1)]):=by
 refine fH func106 fun C hC=>?_
 refine zA o0 ?_
 refine Ql (hr:=[]) (Qp6 l hl) rfl rfl rfl (.refl _) eL ?_
 rintro r h' ⟨rfl,out,ho,rfl⟩ _
 refine zA o0 ?_
 refine xB fun g n_=>?_
 refine zA n_ ?_
 refine yU n_ ?_
 refine⟨out,g,ho,?_,rfl⟩
 unfold Ye
 rw [show out.length-(PS.mk (XU l).2 0).l.length=0 from by rw [←ho,Lw];exact Nat.sub_self _]
 rfl
end Go.Proofs.YtngjgahldnnapaaGreatDoor
namespace Go.PN
open Go.AI
def Of (ck:Qv→Int) (l:BS):Qv×Int:=if(XU l).1≠0 then(md0,(XU l).1) else let r:=QaR ⟨(XU l).2,0⟩;if r.2.e≠0 then(md0,r.2.e) else if ck r.1≠0 then(md0,ck r.1) else(r.1,0)
theorem Qjh.stB {m:Qv} {n:Nat} (h:Qjh m n) (s:PS):Qjh (stB m s).1 (n+1):=by
 obtain⟨h1,h2,h3,h4,h5,h6⟩:=h
 unfold Go.PN.stB
 dsimp only
 repeat' split
 all_goals constructor
 all_goals first|(dsimp only;rw [La];exact Nat.succ_le_succ (by assumption))|(dsimp only;omega)
end Go.PN
namespace Go.Proofs.YtngjgahldnnapaaGreatDoor
open Go.AI Go.PN Proofs.Tryz
attribute [local irreducible] aw Fa ZN ZZ Fh YE
theorem Qp9 (ck:Qv→Int) (l:BS) (hl:l.length≤1099511627776) (hn:(XU l).2.length≤1048576) (hw:∀t∈(XU l).2,t.text.length≤1099511627776) (hck:(QaR ⟨(XU l).2,0⟩).2.e=0→Fa prog 53 [.agg (Xa true (QaR ⟨(XU l).2,0⟩).1)] (.c (Y2 (ck (QaR ⟨(XU l).2,0⟩).1)))):Fa prog 52 [.c (.str (sB l))] (.tup [.agg (Xa true (Of ck l).1),.c (Y2 (Of ck l).2)]):=by
 refine fA func52 fun C hC=>?_
 refine zA o0 ?_
 refine xA fun g2 n_2=>?_
 refine zA n_2 ?_
 refine Ql (hr:=[(g2,.cells 29 8 (ofL [.str (sB []),.str (sB []),.nils,.nils,.nils,.nils,.nils,.nils]))]) (QsG l hl) rfl rfl rfl (.refl _) (zL n_2) ?_
 rintro r h' ⟨out,g,ho,rfl,rfl⟩ hgg
 have hne:g≠g2:=by simpa [Qa.keys] using hgg
 have hne':g2≠g:=fun e=>hne e.symm
 clear hgg
 simp only [Lq,Ln]
 have hs:(PS.mk (XU l).2 0).l<:+out.map TX.t:=by rw [ho];exact List.suffix_refl _
 have hL:out.length≤1048576:=by rw [←Lw TX.t,ho];exact hn
 have hw':∀t∈out,t.t.text.length≤1099511627776:=fun t ht=>hw t.t (by rw [←ho];exact List.mem_map_of_mem ht)
 clear hw hn
 unfold Of
 unfold QaR at hck⊢
 dsimp only at hck⊢
 have f0:=XK g out ⟨(XU l).2,0⟩ ZR hs om
 have hs1:=((QJ ZR).suf ⟨(XU l).2,0⟩).trans hs
 generalize Xz ZR ⟨(XU l).2,0⟩=s1 at*
 have f1:=Km g out s1 hs1 om
 have hs2:=Uq hs1
 generalize XB s1=r at*
 obtain⟨nm,s2⟩:=r
 dsimp only at*
 have f2:=XK g out s2 Q7 hs2 om
 have hs3:(Xz Q7 s2).l<:+out.map TX.t:=((QJ Q7).suf s2).trans hs2
 generalize Xz Q7 s2=s3 at*
 generalize hF:Jv (fun s=> !Xs s Yx) stB {md0 with name:=nm} s3=F at*
 have hs4:F.2.l<:+out.map TX.t:=by rw [←hF];exact((ZW Qh6 _).suf s3).trans hs3
 have f3:=XK g out F.2 Yx hs4 om
 have hs5:(Xz Yx F.2).l<:+out.map TX.t:=((QJ Yx).suf F.2).trans hs4
 generalize Xz Yx F.2=s5 at*
 have f4:=Qcd g out s5 hs5 om hw'
 have hs6:=(V5.suf s5).trans hs5
 generalize Zl s5=r at*
 obtain⟨tp,s6⟩:=r
 dsimp only at*
 have f5:=XK g out s6 Q7 hs6 om
 have hs7:(Xz Q7 s6).l<:+out.map TX.t:=((QJ Q7).suf s6).trans hs6
 generalize Xz Q7 s6=s7 at*
 have f6:=Qxn g out s7 hs7 om
 all_goals try(have Z:=(oj n_2 (oj hne hne'));(repeat' first|refine zV Z ?_|refine zH Z ?_ ?_<;>intro hb|fail);all_goals clear Z)
 ·have h0:(XU l).1≠0:=by simpa using hb
  refine yT hC (oj n_2 (oj hne hne')) ?_
  rw [iP h0]
  exact .tup ⟨.agg QbF,.c Zv,trivial⟩
 have h0:¬(XU l).1≠0:=by simpa using hb
 rw [iN h0]
 refine yA (oj n_2 (oj hne hne')) fun gM n_M=>?_
 have J1:=oj n_2 (oj hne (oj hne' n_M))
 refine yW J1 ?_
 refine yS J1 ?_
 refine zA2 J1 f0 f1 ?_
 refine QbD f2 rfl rfl rfl (zE J1) (zL2 o0) ?_
 refine yS J1 ?_
 refine yH J1 ?_
 apply wa1
 refine Yy (fun _:Og=>[(2,.c (.optr g2 0)),(3,.c .nilI),(4,.c (.optr g 0)),(6,.c (.optr gM 0))]) (fun o=>[(gM,mdO F.1 o),(g,Ye out F.2)]++OE F.1 o++[(g2,.cells 29 8 (ofL [.str (sB []),.str (sB []),.nils,.nils,.nils,.nils,.nils,.nils]))]) (fun o=>QtX F.1 o) ?_ ?_
 ·apply wa2
  refine Qh (fun _:PS×Qv×Og=>[(2,.c (.optr g2 0)),(3,.c .nilI),(4,.c (.optr g 0)),(6,.c (.optr gM 0))]) (fun x=>[(gM,mdO x.2.1 x.2.2),(g,Ye out x.1)]++OE x.2.1 x.2.2++[(g2,.cells 29 8 (ofL [.str (sB []),.str (sB []),.nils,.nils,.nils,.nils,.nils,.nils]))])
   (fun x=>x.1.l<:+out.map TX.t∧QtX x.2.1 x.2.2∧Qjh x.2.1 (1048577-mS x.1)∧Jv (fun s=> !Xs s Yx) stB x.2.1 x.1=F) (fun x=>mS x.1) (s3,{md0 with name:=nm},⟨none,none,none,none,none,none⟩) (zB J1) zZ ⟨hs3,⟨fun _=>rfl,fun _=>rfl,fun _=>rfl,fun _=>rfl,fun _=>rfl,fun _=>rfl⟩,⟨Lz _,Lz _,Lz _,Lz _,Lz _,Lz _⟩,hF⟩ ?_
  rintro ⟨sx,m,o⟩ ⟨hsx,hog,hm,hlp⟩
  dsimp only at hsx hog hm hlp⊢
  simp only [Lq,Ln]
  have i0:=VE g out sx Yx hsx om
  all_goals repeat' first|refine zV J1 ?_|refine yQ J1 i0 ?_|refine zH J1 ?_ ?_<;>intro hb|fail
  ·rename_i hz
   have hc:(fun s=> !Xs s Yx) sx=true:=hb
   have hst:=Vy (c:=fun s=> !Xs s Yx) (b:=stB) (a:=m) (fun a s h _=>Qh7 a s h) hz hc
   have hlt:=Qh7 m sx hz
   rw [hst] at hlp
   have hsy:(stB m sx).2.l<:+out.map TX.t:=((Qh6 m).suf sx).trans hsx
   have hm1:1≤mS sx:=by unfold mS;rw [iP hz];omega
   have hm2:mS sx≤1048577:=by
    have:=hsx.length_le
    rw [Lw] at this
    unfold mS
    split<;>omega
   have hf:=Qh8 gM g out sx m o hsx hL hw' hog (hm.mono om)
   have hm3:=(hm.stB sx).mono (show _≤1048577-mS (stB m sx).2 by omega)
   refine Ql (hr:=[(g2,.cells 29 8 (ofL [.str (sB []),.str (sB []),.nils,.nils,.nils,.nils,.nils,.nils]))]) hf rfl rfl rfl (by simp only [Lq,Ln];exact .refl _) (zL J1) ?_
   rintro r h' ⟨rfl,o',ho',rfl⟩ _
   refine zA J1 ?_
   refine Qb ⟨((stB m sx).2,(stB m sx).1,o'),?_⟩
   refine⟨hlt,?_⟩
   and_intros
   all_goals first|rfl|exact Lr _|exact True.intro|exact hsy|exact ho'|exact hm3|exact hlp
  ·have hc:¬(sx.e=0∧(fun s=> !Xs s Yx) sx=true):=fun z=>by rw [show(fun s=> !Xs s Yx) sx=false from hb] at z;exact absurd z.2 Af
   rw [Yn hc] at hlp
   subst hlp
   refine Qb ⟨o,?_⟩
   and_intros<;>first|rfl|exact Lr _|exact True.intro|exact hog
  ·have hc:¬(sx.e=0∧(fun s=> !Xs s Yx) sx=true):=fun z=>hb z.1
   rw [Yn hc] at hlp
   subst hlp
   refine Qb ⟨o,?_⟩
   and_intros<;>first|rfl|exact Lr _|exact True.intro|exact hog
 rintro o hog
 try dsimp only at hog⊢
 refine Qi (h':=(gM,mdO F.1 o)::(gh o.e 89 (F.1.events.length*11) (ZS F.1.events)++(gh o.h 115 (F.1.houses.length*2) (ZT F.1.houses)++(gh o.g 79 (F.1.gates.length*7) (X7 F.1.gates)++(gh o.p 91 (F.1.pages.length*3) (Kq F.1.pages)++(gh o.r 94 (F.1.groups.length*4) (VR F.1.groups)++(gh o.s 97 (F.1.phases.length*3) (Kr F.1.phases)++([(g,Ye out F.2),(g2,.cells 29 8 (ofL [.str (sB []),.str (sB []),.nils,.nils,.nils,.nils,.nils,.nils]))])))))))) (.cons _ ?_) ?_
 ·have e:gh o.e 89 (F.1.events.length*11) (ZS F.1.events)++(gh o.h 115 (F.1.houses.length*2) (ZT F.1.houses)++(gh o.g 79 (F.1.gates.length*7) (X7 F.1.gates)++(gh o.p 91 (F.1.pages.length*3) (Kq F.1.pages)++(gh o.r 94 (F.1.groups.length*4) (VR F.1.groups)++(gh o.s 97 (F.1.phases.length*3) (Kr F.1.phases)++([(g,Ye out F.2),(g2,.cells 29 8 (ofL [.str (sB []),.str (sB []),.nils,.nils,.nils,.nils,.nils,.nils]))]))))))=OE F.1 o++[(g,Ye out F.2),(g2,.cells 29 8 (ofL [.str (sB []),.str (sB []),.nils,.nils,.nils,.nils,.nils,.nils]))]:=by
   unfold OE
   simp only [List.flatten_cons,List.flatten_nil,Lo,Lp,Ln]
  rw [e]
  exact(List.perm_middle (l₁:=OE F.1 o)).symm
 refine Xi (j0:=2) (n:=F.1.events.length) (s:=11) (f':=ofL [.str (sB F.1.name),.str (sB F.1.top),evs true F.1.events,gs o.h 2 F.1.houses.length,gs o.g 7 F.1.gates.length,gs o.p 3 F.1.pages.length,gs o.r 4 F.1.groups.length,gs o.s 3 F.1.phases.length]) rfl rfl (fun j hj hj3=>by
  match j,hj,hj3 with
  |0,_,_=>rfl
  |1,_,_=>rfl
  |2,_,h=>exact absurd rfl h
  |3,_,_=>rfl
  |4,_,_=>rfl
  |5,_,_=>rfl
  |6,_,_=>rfl
  |7,_,_=>rfl
  |j+8,h,_=>exact absurd h om) hog.e (fun g _=>hC g) ?_
 refine Xi (j0:=3) (n:=F.1.houses.length) (s:=2) (f':=ofL [.str (sB F.1.name),.str (sB F.1.top),evs true F.1.events,hss true F.1.houses,gs o.g 7 F.1.gates.length,gs o.p 3 F.1.pages.length,gs o.r 4 F.1.groups.length,gs o.s 3 F.1.phases.length]) rfl rfl (fun j hj hj3=>by
  match j,hj,hj3 with
  |0,_,_=>rfl
  |1,_,_=>rfl
  |2,_,_=>rfl
  |3,_,h=>exact absurd rfl h
  |4,_,_=>rfl
  |5,_,_=>rfl
  |6,_,_=>rfl
  |7,_,_=>rfl
  |j+8,h,_=>exact absurd h om) hog.h (fun g _=>hC g) ?_
 refine Xi (j0:=4) (n:=F.1.gates.length) (s:=7) (f':=ofL [.str (sB F.1.name),.str (sB F.1.top),evs true F.1.events,hss true F.1.houses,gts true F.1.gates,gs o.p 3 F.1.pages.length,gs o.r 4 F.1.groups.length,gs o.s 3 F.1.phases.length]) rfl rfl (fun j hj hj3=>by
  match j,hj,hj3 with
  |0,_,_=>rfl
  |1,_,_=>rfl
  |2,_,_=>rfl
  |3,_,_=>rfl
  |4,_,h=>exact absurd rfl h
  |5,_,_=>rfl
  |6,_,_=>rfl
  |7,_,_=>rfl
  |j+8,h,_=>exact absurd h om) hog.g (fun g _=>hC g) ?_
 refine Xi (j0:=5) (n:=F.1.pages.length) (s:=3) (f':=ofL [.str (sB F.1.name),.str (sB F.1.top),evs true F.1.events,hss true F.1.houses,gts true F.1.gates,pgs true F.1.pages,gs o.r 4 F.1.groups.length,gs o.s 3 F.1.phases.length]) rfl rfl (fun j hj hj3=>by
  match j,hj,hj3 with
  |0,_,_=>rfl
  |1,_,_=>rfl
  |2,_,_=>rfl
  |3,_,_=>rfl
  |4,_,_=>rfl
  |5,_,h=>exact absurd rfl h
  |6,_,_=>rfl
  |7,_,_=>rfl
  |j+8,h,_=>exact absurd h om) hog.p (fun g _=>hC g) ?_
 refine Xi (j0:=6) (n:=F.1.groups.length) (s:=4) (f':=ofL [.str (sB F.1.name),.str (sB F.1.top),evs true F.1.events,hss true F.1.houses,gts true F.1.gates,pgs true F.1.pages,grs true F.1.groups,gs o.s 3 F.1.phases.length]) rfl rfl (fun j hj hj3=>by
  match j,hj,hj3 with
  |0,_,_=>rfl
  |1,_,_=>rfl
  |2,_,_=>rfl
  |3,_,_=>rfl
  |4,_,_=>rfl
  |5,_,_=>rfl
  |6,_,h=>exact absurd rfl h
  |7,_,_=>rfl
  |j+8,h,_=>exact absurd h om) hog.r (fun g _=>hC g) ?_
 refine Xi (j0:=7) (n:=F.1.phases.length) (s:=3) (f':=ofL [.str (sB F.1.name),.str (sB F.1.top),evs true F.1.events,hss true F.1.houses,gts true F.1.gates,pgs true F.1.pages,grs true F.1.groups,phs true F.1.phases]) rfl rfl (fun j hj hj3=>by
  match j,hj,hj3 with
  |0,_,_=>rfl
  |1,_,_=>rfl
  |2,_,_=>rfl
  |3,_,_=>rfl
  |4,_,_=>rfl
  |5,_,_=>rfl
  |6,_,_=>rfl
  |7,_,h=>exact absurd rfl h
  |j+8,h,_=>exact absurd h om) hog.s (fun g _=>hC g) ?_
 all_goals repeat' first|refine zV J1 ?_|refine yQ J1 f3 ?_|refine yQ J1 f4 ?_|refine yQ J1 f5 ?_|refine yQ J1 f6 ?_|refine zH J1 ?_ ?_<;>intro hb|fail
 ·have h1:(QdG s7).e≠0:=by simpa using hb
  refine yT hC J1 ?_
  rw [iP h1]
  exact .tup ⟨.agg QbF,.c Zv,trivial⟩
 have h1:¬(QdG s7).e≠0:=by simpa using hb
 rw [iN h1]
 have f7:=hck (by simpa using h1)
 all_goals repeat' first|refine zV J1 ?_|refine yQ J1 f7 ?_|refine zH J1 ?_ ?_<;>intro hb|fail
 ·have h2:ck {F.1 with top:=tp}≠0:=by simpa using hb
  refine yT hC J1 ?_
  rw [iP h2]
  exact .tup ⟨.agg QbF,.c Zv,trivial⟩
 ·have h2:¬ck {F.1 with top:=tp}≠0:=by simpa using hb
  refine yT hC J1 ?_
  rw [iN h2]
  exact .tup ⟨.agg (QhE (x:={F.1 with top:=tp})),.c (Z6 rfl),trivial⟩
end Go.Proofs.YtngjgahldnnapaaGreatDoor
namespace Go.PN
open Go.AI
variable {α β γ : Type}
theorem SzO.ite {P:α→Prop} {c:PS→Prop} [DecidablePred c] {f g:PS→α×PS} (hf:SzO P f) (hg:SzO P g):SzO P fun s=>if c s then f s else g s:=fun s hs=>by
 dsimp only
 split
 ·exact hf s hs
 ·exact hg s hs
theorem Qvp (m:PS→Bool):SzO (fun x:BS=>x.length≤BG) fun s=>QZ (m s) s:=fun s hs=>by
 dsimp only
 unfold QZ
 split
 ·split
  ·exact Lz _
  ·rename_i t l e
   split
   ·exact hs t (by rw [e];exact Lf)
   ·exact Lz _
 ·exact Lz _
theorem Kn:SzO (fun x:BS=>x.length≤BG) XB:=Qvp _
theorem QnW (s:BS):Ks (Qbe s):=(QnP s).mono Af
theorem Ql3:SzO Ks Ys:=fun s _=>by
 unfold Ys
 dsimp only
 split
 ·exact QnW _
 ·exact ZU
theorem QfK:SzO (fun x:BS=>x.length≤BG+1) Zl:=fun s hs=>by
 unfold Zl
 split
 ·exact Nat.succ_le_succ (Kn _ (hs.suf ((QJ kAt).suf s)))
 ·exact Nat.le_succ_of_le (Kn s hs)
theorem Qce {J:α→PS→Prop} {c:PS→Bool} {b:α→PS→α×PS} (hb:∀a s,s.e=0→J a s→J (b a s).1 (b a s).2):∀(n:Nat) (a:α) (s:PS),J a s→J (Wv c b n a s).1 (Wv c b n a s).2
 |0,_,_,h=>h
 |n+1,a,s,h=>by
  unfold Wv
  split
  ·rename_i e
   exact Qce hb n _ _ (hb a s e.1 h)
  ·exact h
theorem Oh {P:α→Prop} {N:Nat} {a:List α} {s:PS} {x:α} {s':PS} (h:GrO P N a s) (hs:s'.l<:+s.l) (hm:mS s'<mS s) (hx:P x):GrO P N (a++[x]) s':=
 ⟨h.1.suf hs,by rw [La,List.length_singleton];have:=h.2.1;omega,fun y hy=>by
  rcases List.mem_append.1 hy with e|e
  ·exact h.2.2 y e
  ·rw [Lv.1 e];exact hx⟩
theorem Qae {P:α→Prop} {c:PS→Bool} {f:PS→α×PS} {b:List α→PS→List α×PS} (hb:∀a s,b a s=(a++[(f s).1],(f s).2)) (rf:Rdr f) (cf:Con f) (hf:ZH P f):ZH (fun l=>l.length≤NG∧∀x∈l,P x) (Jv c b []):=fun s ht hN=>by
 have:=Qce (J:=fun a s=>GrO P NG a s∧mS s≤NG) (c:=c) (b:=b) (fun a s e h=>by
  rw [hb]
  exact⟨Oh h.1 (rf.suf s) (cf s e) (hf s h.1.1 h.2),Lt (QcJ rf s) h.2⟩) (mS s) [] s ⟨⟨ht,by simpa using hN,fun _ h=>by cases h⟩,hN⟩
 exact⟨by have:=this.1.2.1;unfold Jv;omega,this.1.2.2⟩
theorem QnX:ZH GtO K9:=by
 rw [QfG]
 refine ZH.bnd Kn.n XM fun nm hn=>ZH.bnd (P:=fun _=>True) (fun _ _ _=>trivial) Ql1 fun k _=> ?_
 refine ZH.bnd (P:=fun _=>True) (fun _ _ _=>trivial) (Qb8 WN (QQ 0)) fun v _=> ?_
 refine ZH.bnd (P:=Ks) (SzO.ite (c:=fun _=>k=some 7) Ql3 (SzO.pure ZU)).n (Qb8 Zx (QQ rd0)) fun d hd=> ?_
 refine ZH.bnd (P:=fun l:List BS=>l.length≤NG∧∀x∈l,x.length≤BG+1) ?_ QnI fun q hq=>ZH.pure ⟨hn,hd,hq⟩
 exact ZH.bnd (Q:=fun l:List BS=>l.length≤NG∧∀x∈l,x.length≤BG+1) (Qae (fun _ _=>rfl) V5 QgZ QfK.n) (ZW Qd1 []) fun q hq=>ZH.bnd (Q:=fun l:List BS=>l.length≤NG∧∀x∈l,x.length≤BG+1) ZH.unit (QJ Q7) fun _ _=>ZH.pure (P:=fun l:List BS=>l.length≤NG∧∀x∈l,x.length≤BG+1) hq
theorem QnY {P:α→Prop} {k:BS→PS→α×PS} (h:∀t,t.length≤BG+1→ZH P (k t)):ZH P (Qvb k):=
 ZH.bnd ZH.unit (QJ _) fun _ _=>ZH.bnd QfK.n V5 fun t ht=>ZH.bnd ZH.unit (QJ _) fun _ _=>h t ht
theorem Qvq:ZH PgO Ou:=by
 rw [Qku]
 refine ZH.bnd Kn.n XM fun nm hn=>QnY fun t ht=> ?_
 refine ZH.bnd (Qae (P:=GtO) (f:=PN.bnd (fun s=>((),Xz Qz s)) fun _=>K9) (fun _ _=>rfl) (Rdr.bnd (QJ Qz) fun _=>Qad) (Con.bnd (Qh4 Qz) fun _=>Qad) (ZH.bnd ZH.unit (QJ Qz) fun _ _=>QnX)) (ZW Qd2 _) fun q hq=> ?_
 exact ZH.bnd ZH.unit (QJ _) fun _ _=>ZH.pure ⟨hn,ht,hq⟩
theorem QsH:ZH PhO Jl:=by
 rw [Qg1]
 refine ZH.bnd Kn.n XM fun nm hn=>QnY fun t ht=> ?_
 refine ZH.bnd (Qae (P:=VlO) (f:=PN.bnd XB fun w=>PN.bnd Ys fun q=>PN.bnd (fun s=>((),Xz Q7 s)) fun _ s=>((⟨w,q⟩:Zp),s)) (fun _ _=>rfl) (Rdr.bnd XM fun w=>Rdr.bnd Zx fun q=>Rdr.bnd (QJ Q7) fun _=>QQ _) (Con.bnd Qac fun w=>Rdr.bnd Zx fun q=>Rdr.bnd (QJ Q7) fun _=>QQ _) ?_) (ZW Qd3 _) fun q hq=> ?_
 ·exact ZH.bnd Kn.n XM fun w hw=>ZH.bnd Ql3.n Zx fun q hq=>ZH.bnd ZH.unit (QJ Q7) fun _ _=>ZH.pure ⟨hw,hq⟩
 ·exact ZH.bnd ZH.unit (QJ _) fun _ _=>ZH.pure ⟨hn,ht,hq⟩
theorem QsI:ZH Qub Jk:=by
 rw [Qg2]
 refine ZH.bnd Kn.n XM fun nm hn=>ZH.bnd (P:=fun _=>True) (fun _ _ _=>trivial) QnN fun g _=> ?_
 refine ZH.bnd (Qae (P:=Ks) (f:=Ys) (fun _ _=>rfl) Zx QnG Ql3.n) (ZW Qca _) fun f hf=>ZH.bnd ZH.unit (QJ _) fun _ _=> ?_
 refine ZH.bnd (Qae (P:=fun x:BS=>x.length≤BG) (f:=XB) (fun _ _=>rfl) XM Qac Kn.n) (ZW Qcb _) fun m hm=>ZH.bnd ZH.unit (QJ _) fun _ _=>ZH.pure ⟨hn,hm.1,hm.2,hf⟩
theorem QsJ:ZH HsO Jj:=by
 rw [Qg0]
 exact ZH.bnd Kn.n XM fun nm hn=>ZH.bnd (P:=fun _=>True) (fun _ _ _=>trivial) QnK fun b _=>ZH.bnd ZH.unit (QJ _) fun _ _=>ZH.pure hn
theorem QsK:ZH EvO Ji:=fun s hs _=>by
 have hw:=Kn s hs
 have:=Qce (J:=fun(x:List BS×X3) (_:PS)=>EvO x.2) (c:=fun s=> !Xs s Q7) (b:=evB) (fun a s _ h=>by
  have hn:∀r,Ks (Ys r).1:=fun r=>by
   unfold Ys
   dsimp only
   split
   ·exact QnW _
   ·exact ZU
  unfold evB
  dsimp only
  split
  ·exact h
  split
  ·exact⟨h.1,hn _,h.2.2⟩
  split
  ·exact⟨h.1,h.2.1,hn _,h.2.2.2⟩
  split
  ·exact⟨h.1,h.2.1,h.2.2.1,hn _⟩
  split<;>exact h) (mS (XB s).2) ([],{ev0 with name:=(XB s).1}) (XB s).2 ⟨hw,ZU,ZU,ZU⟩
 exact this
theorem QsL {m:Qv} {s:PS} (e0:s.e=0) (h:MdR m s):MdR (stB m s).1 (stB m s).2:=by
 have hsf:=(Qh6 m).suf s
 have hcm:=Qh7 m s e0
 have hm:mS s≤NG:=by have:=h.ev.2.1;omega
 have rt:=Zm stM
 have ht:TB (QZ (stM s) s).2:=h.ev.1.suf (rt.suf s)
 have hmt:mS (QZ (stM s) s).2≤NG:=Lt (QcJ rt s) hm
 unfold stB at hsf hcm⊢
 dsimp only at hsf hcm⊢
 change TB (QZ (Xs s Xn||Xs s QP||Xs s Qz||Xs s XT||Xs s Xf||Xs s Q9) s).2 at ht
 change mS (QZ (Xs s Xn||Xs s QP||Xs s Qz||Xs s XT||Xs s Xf||Xs s Q9) s).2≤NG at hmt
 generalize QZ (Xs s Xn||Xs s QP||Xs s Qz||Xs s XT||Xs s Xf||Xs s Q9) s=r at*
 have kp:∀{s':PS},s'.l<:+s.l→mS s'<mS s→MdR m s':=fun a b=>h.keep a (Ll b)
 split at hsf
 ·rename_i e
  rw [iP e] at hcm⊢
  exact {kp hsf hcm with ev:=Oh h.ev hsf hcm (QsK _ ht hmt)}
 rename_i e;rw [iN e] at hcm⊢
 split at hsf
 ·rename_i e
  rw [iP e] at hcm⊢
  exact {kp hsf hcm with hs:=Oh h.hs hsf hcm (QsJ _ ht hmt)}
 rename_i e;rw [iN e] at hcm⊢
 split at hsf
 ·rename_i e
  rw [iP e] at hcm⊢
  exact {kp hsf hcm with gt:=Oh h.gt hsf hcm (QnX _ ht hmt)}
 rename_i e;rw [iN e] at hcm⊢
 split at hsf
 ·rename_i e
  rw [iP e] at hcm⊢
  exact {kp hsf hcm with pg:=Oh h.pg hsf hcm (Qvq _ ht hmt)}
 rename_i e;rw [iN e] at hcm⊢
 split at hsf
 ·rename_i e
  rw [iP e] at hcm⊢
  exact {kp hsf hcm with gr:=Oh h.gr hsf hcm (QsI _ ht hmt)}
 rename_i e;rw [iN e] at hcm⊢
 split at hsf
 ·rename_i e
  rw [iP e] at hcm⊢
  exact {kp hsf hcm with ph:=Oh h.ph hsf hcm (QsH _ ht hmt)}
 rename_i e;rw [iN e] at hcm⊢
 exact kp hsf hcm
theorem Qvr:ZH Jb QaR:=by
 rw [Qsw]
 refine ZH.bnd ZH.unit (QJ _) fun _ _=>ZH.bnd Kn.n XM fun nm hn=>ZH.bnd ZH.unit (QJ _) fun _ _=> ?_
 intro s hs hm
 have g0:∀{α:Type} (P:α→Prop),GrO P NG [] s:=fun P=>⟨hs,by simpa using hm,fun _ h=>by cases h⟩
 have h0:MdR {md0 with name:=nm} s:=⟨hn,Lz _,g0 _,g0 _,g0 _,g0 _,g0 _,g0 _⟩
 have h1:=Qce (J:=MdR) (c:=fun s=> !Xs s Yx) (b:=stB) (fun a s e h=>QsL e h) (mS s) _ _ h0
 have ht:∀x:Qv,MdR x (Jv (fun s=> !Xs s Yx) stB {md0 with name:=nm} s).2→ZH Jb (rdK x):=fun x hx=>by
  refine ZH.bnd ZH.unit (QJ _) fun _ _=>ZH.bnd QfK.n V5 fun t ht=>ZH.bnd ZH.unit (QJ _) fun _ _=> ?_
  have gl:∀{α:Type} {P:α→Prop} {l:List α} {r:PS},GrO P NG l r→l.length≤NG∧∀x∈l,P x:=fun h=>⟨by have:=h.2.1;omega,h.2.2⟩
  exact fun _ _ _=>⟨hx.nm,ht,gl hx.ev,gl hx.hs,gl hx.gt,gl hx.pg,gl hx.gr,gl hx.ph⟩
 have h1':MdR (Jv (fun s=> !Xs s Yx) stB {md0 with name:=nm} s).1 (Jv (fun s=> !Xs s Yx) stB {md0 with name:=nm} s).2:=h1
 exact ht _ h1' _ h1'.ev.1 (by have:=h1'.ev.2.1;omega)
end Go.PN
namespace Go.PN
open Go.AI
theorem Qbg {l:BS} (B:Nat):∀(n i:Nat) (out:List TK),out.length+(l.length-i)≤B→(Yw l n i out).2.length≤B
 |0,_,_,h=>by unfold Yw;dsimp only;omega
 |n+1,i,out,h=>by
  unfold Yw
  by_cases hi:i<l.length
  ·rw [iP hi]
   cases hs:Vb l i with
   |err c=>exact Lz _
   |skip e=>
    have:=Oe hi hs
    exact Qbg B n e out om
   |tok k e=>
    have:=V3 hi hs
    exact Qbg B n e _ (by rw [La,List.length_singleton];omega)
  ·rw [iN hi];dsimp only;omega
theorem Qbh {l:BS}:∀(n i:Nat) (out:List TK),(∀t∈out,t.text.length≤l.length)→∀t∈(Yw l n i out).2,t.text.length≤l.length
 |0,_,_,h=>h
 |n+1,i,out,h=>by
  unfold Yw
  by_cases hi:i<l.length
  ·rw [iP hi]
   cases hs:Vb l i with
   |err c=>exact fun _ h=>by cases h
   |skip e=>exact Qbh n e out h
   |tok k e=>
    have hh:=V3 hi hs
    refine Qbh n e _ fun t ht=> ?_
    rcases List.mem_append.1 ht with e'|e'
    ·exact h t e'
    ·rw [Lv.1 e']
     show(VN l i e).length≤_
     rw [Qsh hh.2];omega
  ·rw [iN hi];exact h
theorem QfL (l:BS):(XU l).2.length≤65536:=by
 unfold XU
 split
 ·exact Lz _
 ·exact Qbg 65536 _ _ _ (by simp;omega)
theorem QfM (l:BS):∀t∈(XU l).2,t.text.length≤65536:=by
 unfold XU
 split
 ·exact fun _ h=>by cases h
 ·exact fun t ht=>Lt (Qbh _ _ _ (fun _ h=>by cases h) t ht) om
end Go.PN
namespace Go.PN
open Go.AI
variable {β : Type}
theorem WL.app {ws vs:List BS} {ts us:List TK} (h:WL ws ts) (h2:WL vs us):WL (ws++vs) (ts++us):=by
 induction h with
 |nil=>exact h2
 |cons hw _ ih=>rw [Lq,Lo];exact .cons hw ih
end Go.PN
namespace Go.PN
open Go.AI
theorem QsM (l:BS):Jb (QaR ⟨(XU l).2,0⟩).1:=Qvr _ (fun t ht=>Lt (QfM l t ht) Af) (by
 have:=QfL l
 show(if(0:Int)=0 then(XU l).2.length+1 else 0)≤NG
 rw [iP rfl]
 show _≤1048576
 omega)
theorem QsN:Jb md0:=⟨Lz _,Lz _,⟨Lz _,fun _ h=>by cases h⟩,⟨Lz _,fun _ h=>by cases h⟩,⟨Lz _,fun _ h=>by cases h⟩,⟨Lz _,fun _ h=>by cases h⟩,⟨Lz _,fun _ h=>by cases h⟩,⟨Lz _,fun _ h=>by cases h⟩⟩
theorem QsO (ck:Qv→Int) (l:BS):Jb (Of ck l).1:=by
 unfold Of
 dsimp only
 split
 ·exact QsN
 split
 ·exact QsN
 split
 ·exact QsN
 ·exact QsM l
end Go.PN
namespace Go.Proofs.YtngjgahldnnapaaGreatDoor
open Go.AI Go.PN Proofs.Tryz
attribute [local irreducible] aw Fa ZN ZZ Fh YE
theorem QyW (l:BS) (hl:l.length≤1099511627776):Fa prog 52 [.c (.str (sB l))] (.tup [.agg (Xa true (Of UA l).1),.c (Y2 (Of UA l).2)]):=
 Qp9 UA l hl (Lt (QfL l) Af) (fun t ht=>Lt (QfM l t ht) Af) fun _=>Qfw _ (QsM l)
end Go.Proofs.YtngjgahldnnapaaGreatDoor
namespace Go.PN
open Go.AI
instance:DecidableEq Xe:=fun a b=>decidable_of_iff (a.name=b.name∧a.kind=b.kind∧a.k=b.k∧a.inputs=b.inputs∧a.dorm=b.dorm) (by cases a;cases b;simp)
instance:DecidableEq X3:=fun a b=>decidable_of_iff (a.name=b.name∧a.p=b.p∧a.fail=b.fail∧a.rep=b.rep∧a.cost=b.cost) (by cases a;cases b;simp)
instance:DecidableEq Vx:=fun a b=>decidable_of_iff (a.name=b.name∧a.on=b.on) (by cases a;cases b;simp)
instance:DecidableEq Yz:=fun a b=>decidable_of_iff (a.name=b.name∧a.top=b.top∧a.gates=b.gates) (by cases a;cases b;simp)
instance:DecidableEq YB:=fun a b=>decidable_of_iff (a.name=b.name∧a.kind=b.kind∧a.members=b.members∧a.factors=b.factors) (by cases a;cases b;simp)
instance:DecidableEq Zp:=fun a b=>decidable_of_iff (a.event=b.event∧a.p=b.p) (by cases a;cases b;simp)
instance:DecidableEq V0:=fun a b=>decidable_of_iff (a.name=b.name∧a.top=b.top∧a.values=b.values) (by cases a;cases b;simp)
instance:DecidableEq Qv:=fun a b=>decidable_of_iff (a.name=b.name∧a.top=b.top∧a.events=b.events∧a.houses=b.houses∧a.gates=b.gates∧a.pages=b.pages∧a.groups=b.groups∧a.phases=b.phases) (by cases a;cases b;simp)
end Go.PN

namespace Go.PN
open Go.AI
def QfN:BS:=[109,111,100,101,108,32,109,59,32,101,118,101,110,116,32,98,59,32,101,118,101,110,116,32,97,59,32,103,97,116,101,32,103,32,97,110,100,32,98,32,97,59,32,116,111,112,32,103,59]
abbrev awM24:Qv:=⟨[109],[103],[⟨[98],rd0,rd0,rd0,0⟩,⟨[97],rd0,rd0,rd0,0⟩],[],[⟨[103],0,0,[[98],[97]],rd0⟩],[],[],[]⟩
abbrev QyX:Qv:=⟨[109],[103],[⟨[97],rd0,rd0,rd0,0⟩,⟨[98],rd0,rd0,rd0,0⟩],[],[⟨[103],0,0,[[97],[98]],rd0⟩],[],[],[]⟩
def awS24:BS:=[109,111,100,101,108,32,109,59,10,101,118,101,110,116,32,98,59,10,101,118,101,110,116,32,97,59,10,103,97,116,101,32,103,32,97,110,100,32,98,32,97,59,10,116,111,112,32,103,59,10]
theorem Qd4:UA awM24=0:=by decide+kernel
theorem Qky:Of UA QfN=(awM24,0):=by
 have h1:(XU QfN).1=0:=by decide+kernel
 have h2:(QaR ⟨(XU QfN).2,0⟩).1=awM24:=by decide+kernel
 have h3:(QaR ⟨(XU QfN).2,0⟩).2.e=0:=by decide+kernel
 unfold Of
 dsimp only
 rw [iN (fun h=>h h1),iN (fun h=>h h3),h2,iN (fun h=>h Qd4)]
theorem Qh9 (w:BS):Yj w rd0=[]:=by
 have:YJ rd0.q=0:=by decide+kernel
 unfold Yj
 rw [iP this]
theorem Xak:rd ((0:Int):Rat)=rd0:=by decide+kernel
theorem QsP:Vo awM24=(awS24,0):=by
 have hl:Jp awM24=false:=by
  show((QF rd0||QF rd0||QF rd0)||((QF rd0||QF rd0||QF rd0)||false)||(QF rd0||false)||false||false||false)=false
  rw [QlH];rfl
 have ht:XZ awM24=awS24:=by
  unfold XZ
  show Xj [ZR,[109]]++10::((Xj (evW ⟨[98],rd0,rd0,rd0,0⟩)++[10]++(Xj (evW ⟨[97],rd0,rd0,rd0,0⟩)++[10]++[]))++([]++(([]++Zj ⟨[103],0,0,[[98],[97]],rd0⟩++[10]++[])++([]++([]++([]++(Xj [Yx,[103]]++[10])))))))=awS24
  unfold evW
  dsimp only
  rw [Qh9,Qh9,Qh9,Xak,Qh9]
  rfl
 unfold Vo
 rw [iN (by rw [hl,ht];decide),ht]
theorem QsQ:Kw awM24=QyX:=by decide+kernel
end Go.PN
namespace Go.Proofs.YtngjgahldnnapaaGreatDoor
open Go.AI Go.PN Proofs.Tryz
attribute [local irreducible] aw Fa ZN ZZ Fh YE
theorem Ql4:Fa prog 29 [] (.c (.bool true)):=by
 have o1:Jb awM24:=by have:=QsO UA QfN;rw [Qky] at this;exact this
 have f1:=QyW QfN Af
 have f2:=Qfx awM24 o1 (fun h=>QhU o1 h)
 have f3:=Qkk awM24 o1
 have f4:=QjU ⟨[103],0,0,[[98],[97]],rd0⟩ Af Af Af (RD.wf.mono ZU Af) (by decide+kernel)
 rw [Qky] at f1
 rw [iN (fun h=>h Qd4),QsP] at f2
 rw [iP Qd4,Qd4,QsQ] at f3
 dsimp only at f1 f2 f3 f4
 have e0:Y2 0=.nilI:=iP rfl
 rw [e0] at f1 f2 f3
 have eg:Zj ⟨[103],0,0,[[98],[97]],rd0⟩=[103,97,116,101,32,103,32,97,110,100,32,98,32,97,59]:=by decide+kernel
 rw [eg] at f4
 unfold QfN at f1
 unfold awS24 at f2
 have q0:ZS [⟨[97],rd0,rd0,rd0,0⟩,⟨[98],rd0,rd0,rd0,0⟩] 0=.str (sB [97]):=rfl
 have r0:X7 [⟨[103],0,0,[[98],[97]],rd0⟩] 0=.str (sB [103]):=rfl
 have r1:X7 [⟨[103],0,0,[[98],[97]],rd0⟩] 1=.int .i64 0:=rfl
 have r2:X7 [⟨[103],0,0,[[98],[97]],rd0⟩] 2=.int .i64 0:=rfl
 have r3:X7 [⟨[103],0,0,[[98],[97]],rd0⟩] 3=X0 true [[98],[97]]:=rfl
 have r4:X7 [⟨[103],0,0,[[98],[97]],rd0⟩] 4=.bool rd0.neg:=rfl
 have r5:X7 [⟨[103],0,0,[[98],[97]],rd0⟩] 5=ws true rd0.num:=rfl
 have r6:X7 [⟨[103],0,0,[[98],[97]],rd0⟩] 6=ws true rd0.den:=rfl
 refine fA func29 fun C hC=>?_
 refine zA4 (oj q0 (oj r0 (oj r1 (oj r2 (oj r3 (oj r4 (oj r5 r6))))))) f1 f2 f3 f4 ?_
 refine yA (oj q0 (oj r0 (oj r1 (oj r2 (oj r3 (oj r4 (oj r5 r6))))))) fun g1 n_1=>?_
 refine zA4 (oj q0 (oj r0 (oj r1 (oj r2 (oj r3 (oj r4 (oj r5 (oj r6 n_1)))))))) f1 f2 f3 f4 ?_
 refine yA (oj q0 (oj r0 (oj r1 (oj r2 (oj r3 (oj r4 (oj r5 (oj r6 n_1)))))))) fun g5 n_5=>?_
 all_goals try(have Z:=(oj q0 (oj r0 (oj r1 (oj r2 (oj r3 (oj r4 (oj r5 (oj r6 (oj n_1 n_5)))))))));(repeat' first|refine zV Z ?_|refine yQ Z f1 ?_|refine yQ Z f2 ?_|refine yQ Z f3 ?_|refine yQ Z f4 ?_|refine zH Z ?_ ?_<;>intro hb|fail);all_goals clear Z)
 all_goals first
  |(exfalso;revert hb;decide)
  |(refine yT hC (oj q0 (oj r0 (oj r1 (oj r2 (oj r3 (oj r4 (oj r5 (oj r6 (oj n_1 n_5))))))))) ?_
    exact .one (.c (Qp Af)))
theorem Qf9 (m:Qv) {n:Nat} (hu:MdU n m) (hn:n≤1048576):ZN prog 5 [.agg (Xa true m)] (.c (.bool true)):=by
 have f0:=Ql4
 have f1:=Qkl m hu hn
 by_cases hL:Kh m=true
 ·have ho:=QmY hL hu hn
  rw [hL] at f1
  have f2:=Qfx m ho (fun h=>QhU ho h)
  have f3:=Qfz m ho
  by_cases hc:UA m=0
  ·have f4:=Qka m ho hc
   rw [iN (fun h=>h hc)] at f2
   rw [hc] at f3
   have f5:=Qla (Vo m).2
   generalize Vo m=R at*
   obtain⟨t,c⟩:=R
   dsimp only at*
   have ht:(t==t)=true:=by simp
   have hcc:(c==c)=true:=by simp
   refine Yo func5 rfl rfl (by simp [ntmps5]) fun C hC hT=> ?_
   simp only [Y8,Nat.reduceAdd]
   repeat' first|refine zV o0 ?_|refine zH o0 ?_ ?_<;>intro hb|fail
   refine xB fun g1 n_1=>?_
   all_goals try(have Z:=(oj n_1 (oj ht hcc));(repeat' first|refine zV Z ?_|refine yQ Z f0 ?_|refine yQ Z f1 ?_|refine yQ Z f2 ?_|refine yQ Z f3 ?_|(refine yC3 Z ((f4).toC hT) ?_)|(refine yD3 Z ((f4).toC hT) ?_)|refine yQ Z f5 ?_|refine zH Z ?_ ?_<;>intro hb|fail);all_goals clear Z)
   refine yT hC (oj n_1 (oj ht hcc)) ?_
   exact .one (.c (.bool _))
  ·have f5:=Qla (UA m)
   rw [iP hc] at f2
   dsimp only at f2
   have hc':(!decide (UA m=0))=true:=by rw [De hc];rfl
   have hc2:(UA m !=0)=true:=by simpa using hc
   have hcc:(UA m==UA m)=true:=by simp
   refine Yo func5 rfl rfl (by simp [ntmps5]) fun C hC hT=> ?_
   simp only [Y8,Nat.reduceAdd]
   repeat' first|refine zV o0 ?_|refine zH o0 ?_ ?_<;>intro hb|fail
   refine xB fun g1 n_1=>?_
   all_goals try(have Z:=(oj n_1 (oj hc' (oj hc2 hcc)));(repeat' first|refine zV Z ?_|refine yQ Z f0 ?_|refine yQ Z f1 ?_|refine yQ Z f2 ?_|refine yQ Z f3 ?_|refine yQ Z f5 ?_|refine zH Z ?_ ?_<;>intro hb|fail);all_goals clear Z)
   ·refine yT hC (oj n_1 (oj hc' (oj hc2 hcc))) ?_
    exact .one (.c (.bool _))
   ·exact absurd rfl hb
 ·have hl':Kh m=false:=by simpa using hL
  rw [hl'] at f1
  refine Yo func5 rfl rfl (by simp [ntmps5]) fun C hC hT=> ?_
  simp only [Y8,Nat.reduceAdd]
  repeat' first|refine zV o0 ?_|refine zH o0 ?_ ?_<;>intro hb|fail
  refine xB fun g1 n_1=>?_
  repeat' first|refine zV n_1 ?_|refine yQ n_1 f0 ?_|refine yQ n_1 f1 ?_|refine zH n_1 ?_ ?_<;>intro hb|fail
  refine yT hC n_1 ?_
  exact .one (.c (.bool _))
end Go.Proofs.YtngjgahldnnapaaGreatDoor
