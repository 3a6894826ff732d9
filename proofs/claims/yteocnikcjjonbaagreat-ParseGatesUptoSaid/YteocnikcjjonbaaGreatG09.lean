/- Parts of one proof, laid by a program. -/
import Derived.Test.YteocnikcjjonbaaGreatG00
import Derived.Test.YteocnikcjjonbaaGreatG08
set_option linter.unusedSimpArgs false
set_option linter.unusedVariables false
set_option maxRecDepth 100000
set_option maxHeartbeats 12800000
namespace Go.PN
open Go.AI
structure Og where
 e:Option Nat
 h:Option Nat
 g:Option Nat
 p:Option Nat
 r:Option Nat
 s:Option Nat
structure OgOk (m:MdD) (o:Og):Prop where
 e:o.e=none→m.events.length=0
 h:o.h=none→m.houses.length=0
 g:o.g=none→m.gates.length=0
 p:o.p=none→m.pages.length=0
 r:o.r=none→m.groups.length=0
 s:o.s=none→m.phases.length=0
abbrev mdg (m:MdD) (o:Og):List CV:=[.str (sB m.name),.str (sB m.top),gs o.e 11 m.events.length,gs o.h 2 m.houses.length,gs o.g 7 m.gates.length,gs o.p 3 m.pages.length,gs o.r 4 m.groups.length,gs o.s 3 m.phases.length]
structure MdSm (m:MdD) (n:Nat):Prop where
 e:m.events.length≤n
 h:m.houses.length≤n
 g:m.gates.length≤n
 p:m.pages.length≤n
 r:m.groups.length≤n
 s:m.phases.length≤n
theorem evs_push {xs:List EvD} {n:Nat} (hn:xs.length=n) (t:EvD):∀j,j<(n+1)*11→appF (evsF xs) (n*11) (ofL (evc t)) j=evsF (xs++[t]) j:=lf_push (s:=11) (c:=evc) (d:=(ev0:EvD)) hn t (by decide)
theorem hss_push {xs:List HsD} {n:Nat} (hn:xs.length=n) (t:HsD):∀j,j<(n+1)*2→appF (hssF xs) (n*2) (ofL (hsc t)) j=hssF (xs++[t]) j:=lf_push (s:=2) (c:=hsc) (d:=(hs0:HsD)) hn t (by decide)
theorem pgs_push {xs:List PgD} {n:Nat} (hn:xs.length=n) (t:PgD):∀j,j<(n+1)*3→appF (pgsF xs) (n*3) (ofL (pgc t)) j=pgsF (xs++[t]) j:=lf_push (s:=3) (c:=pgc) (d:=(pg0:PgD)) hn t (by decide)
theorem grs_push {xs:List GrD} {n:Nat} (hn:xs.length=n) (t:GrD):∀j,j<(n+1)*4→appF (grsF xs) (n*4) (ofL (grc t)) j=grsF (xs++[t]) j:=lf_push (s:=4) (c:=grc) (d:=(gr0:GrD)) hn t (by decide)
theorem phs_push {xs:List PhD} {n:Nat} (hn:xs.length=n) (t:PhD):∀j,j<(n+1)*3→appF (phsF xs) (n*3) (ofL (phc t)) j=phsF (xs++[t]) j:=lf_push (s:=3) (c:=phc) (d:=(ph0:PhD)) hn t (by decide)
theorem stB_e (m:MdD) {s:PS} {t:TK} {l':List TK} (e0:s.e=0) (hl:s.l=t::l') (hk:t.kind≠1) (ht:t.text=kEvent):stB m s=({m with events:=m.events++[(eventS ⟨l',0⟩).1]},(eventS ⟨l',0⟩).2):=by
 have hi:∀w,isS s w=(t.text==w):=fun w=>by rw [is_cons e0 hl,bne_iff_ne.2 hk,Bool.true_and]
 unfold stB
 rw [hi,hi,hi,hi,hi,hi,ht]
 dsimp only
 rw [show(kEvent==kEvent||kEvent==kHouse||kEvent==kGate||kEvent==kPage||kEvent==kGroup||kEvent==kPhase)=true from rfl,take_cons e0 hl,ht]
 rfl
theorem stB_h (m:MdD) {s:PS} {t:TK} {l':List TK} (e0:s.e=0) (hl:s.l=t::l') (hk:t.kind≠1) (ht:t.text=kHouse):stB m s=({m with houses:=m.houses++[(houseS ⟨l',0⟩).1]},(houseS ⟨l',0⟩).2):=by
 have hi:∀w,isS s w=(t.text==w):=fun w=>by rw [is_cons e0 hl,bne_iff_ne.2 hk,Bool.true_and]
 unfold stB
 rw [hi,hi,hi,hi,hi,hi,ht]
 dsimp only
 rw [show(kHouse==kEvent||kHouse==kHouse||kHouse==kGate||kHouse==kPage||kHouse==kGroup||kHouse==kPhase)=true from rfl,take_cons e0 hl,ht]
 rfl
theorem stB_g (m:MdD) {s:PS} {t:TK} {l':List TK} (e0:s.e=0) (hl:s.l=t::l') (hk:t.kind≠1) (ht:t.text=kGate):stB m s=({m with gates:=m.gates++[(gateS ⟨l',0⟩).1]},(gateS ⟨l',0⟩).2):=by
 have hi:∀w,isS s w=(t.text==w):=fun w=>by rw [is_cons e0 hl,bne_iff_ne.2 hk,Bool.true_and]
 unfold stB
 rw [hi,hi,hi,hi,hi,hi,ht]
 dsimp only
 rw [show(kGate==kEvent||kGate==kHouse||kGate==kGate||kGate==kPage||kGate==kGroup||kGate==kPhase)=true from rfl,take_cons e0 hl,ht]
 rfl
theorem stB_p (m:MdD) {s:PS} {t:TK} {l':List TK} (e0:s.e=0) (hl:s.l=t::l') (hk:t.kind≠1) (ht:t.text=kPage):stB m s=({m with pages:=m.pages++[(pageS ⟨l',0⟩).1]},(pageS ⟨l',0⟩).2):=by
 have hi:∀w,isS s w=(t.text==w):=fun w=>by rw [is_cons e0 hl,bne_iff_ne.2 hk,Bool.true_and]
 unfold stB
 rw [hi,hi,hi,hi,hi,hi,ht]
 dsimp only
 rw [show(kPage==kEvent||kPage==kHouse||kPage==kGate||kPage==kPage||kPage==kGroup||kPage==kPhase)=true from rfl,take_cons e0 hl,ht]
 rfl
theorem stB_r (m:MdD) {s:PS} {t:TK} {l':List TK} (e0:s.e=0) (hl:s.l=t::l') (hk:t.kind≠1) (ht:t.text=kGroup):stB m s=({m with groups:=m.groups++[(groupS ⟨l',0⟩).1]},(groupS ⟨l',0⟩).2):=by
 have hi:∀w,isS s w=(t.text==w):=fun w=>by rw [is_cons e0 hl,bne_iff_ne.2 hk,Bool.true_and]
 unfold stB
 rw [hi,hi,hi,hi,hi,hi,ht]
 dsimp only
 rw [show(kGroup==kEvent||kGroup==kHouse||kGroup==kGate||kGroup==kPage||kGroup==kGroup||kGroup==kPhase)=true from rfl,take_cons e0 hl,ht]
 rfl
theorem stB_s (m:MdD) {s:PS} {t:TK} {l':List TK} (e0:s.e=0) (hl:s.l=t::l') (hk:t.kind≠1) (ht:t.text=kPhase):stB m s=({m with phases:=m.phases++[(phaseS ⟨l',0⟩).1]},(phaseS ⟨l',0⟩).2):=by
 have hi:∀w,isS s w=(t.text==w):=fun w=>by rw [is_cons e0 hl,bne_iff_ne.2 hk,Bool.true_and]
 unfold stB
 rw [hi,hi,hi,hi,hi,hi,ht]
 dsimp only
 rw [show(kPhase==kEvent||kPhase==kHouse||kPhase==kGate||kPhase==kPage||kPhase==kGroup||kPhase==kPhase)=true from rfl,take_cons e0 hl,ht]
 rfl
theorem stB_no (m:MdD) {s:PS} (n0:isS s kEvent=false) (n1:isS s kHouse=false) (n2:isS s kGate=false) (n3:isS s kPage=false) (n4:isS s kGroup=false) (n5:isS s kPhase=false):stB m s=(m,(takeS false s).2):=by
 unfold stB
 rw [n0,n1,n2,n3,n4,n5]
 have ht:(takeS false s).1=[]:=by
  unfold takeS
  split
  ·split<;>rfl
  ·rfl
 dsimp only
 rw [show(false||false||false||false||false||false)=false from rfl,ht]
 rfl
theorem take_ff (s:PS):(takeS false s).1=[]:=by
 unfold takeS
 split
 ·split<;>rfl
 ·rfl
theorem perm_mid {α:Type} {l X Y Z:List α} (h:l=X++(Y++Z)):l.Perm ((X++Z)++Y):=by
 rw [h,List.append_assoc]
 exact List.Perm.append_left X List.perm_append_comm
end Go.PN
namespace Go.Proofs.YteocnikcjjonbaaGreat
open Go.AI Go.PN
def mdT (m:MdD) (o:Og):Heap:=List.flatten [gh o.e 61 (m.events.length*11) (evsF m.events),gh o.h 125 (m.houses.length*2) (hssF m.houses),gh o.g 65 (m.gates.length*7) (gtsF m.gates),gh o.p 128 (m.pages.length*3) (pgsF m.pages),gh o.r 100 (m.groups.length*4) (grsF m.groups),gh o.s 104 (m.phases.length*3) (phsF m.phases)]
abbrev mdO (m:MdD) (o:Og):AObj:=.cells 30 8 (ofL (mdg m o))
attribute [local irreducible] aw Fa Fh DrK
theorem statement_fh (gM g:Nat) (L:List TX) (s:PS) (m:MdD) (o:Og) (hs:s.l<:+L.map TX.t) (hL:L.length≤1048576) (hw:∀t∈L,t.t.text.length≤1099511627776) (ho:OgOk m o) (hb':MdSm m 1048576):Fh Tryz.prog 30 ([(gM,mdO m o),(g,rdO L s)]++mdT m o) [.c (.optr g 0),.c (.optr gM 0)] (fun x h=>x=.tup []∧∃o',OgOk (stB m s).1 o'∧h=[(gM,mdO (stB m s).1 o'),(g,rdO L (stB m s).2)]++mdT (stB m s).1 o'):=by
 have i0:=is_fg g L s kEvent hs om
 have i1:=is_fg g L s kHouse hs om
 have i2:=is_fg g L s kGate hs om
 have i3:=is_fg g L s kPage hs om
 have i4:=is_fg g L s kGroup hs om
 have i5:=is_fg g L s kPhase hs om
 refine fh_of_body Tryz.func30 rfl rfl (by simp [Tryz.ntmps30]) fun C hC=> ?_
 simp only [initS,Nat.reduceAdd]
 refine aw_nd fun hnd=> ?_
 have hne:gM≠g:=fun e=>by subst e;simp [Heap.keys] at hnd
 have hne':g≠gM:=fun e=>hne e.symm
 clear hnd
 simp only [List.cons_append,List.nil_append] at*
 all_goals try(have Z:=(oj hne hne');(repeat' first|refine yA1 Z ?_|(refine zg Z (i0) ?_)|(refine zg Z (i1) ?_)|(refine zg Z (i2) ?_)|(refine zg Z (i3) ?_)|(refine zg Z (i4) ?_)|(refine zg Z (i5) ?_)|refine zW Z ?_|refine yP Z ?_|refine yN Z ?_|refine zC Z (fun hb=>?_) fun hb=>?_|refine zG Z (fun hb=>?_) fun hb=>?_|refine zD Z (fun hb=>?_) fun hb=>?_);all_goals clear Z)
 ·obtain⟨h0,t,l',hl,hk,ht⟩:=is_tok hb
  have hB:=stB_e m h0 hl hk ht
  rw [hB]
  have f6:=take_fg g L s true hs om
  rw [take_cons h0 hl,if_pos rfl,ht] at f6
  dsimp only at f6
  have hsl:l'<:+L.map TX.t:=(show l'<:+s.l from by rw [hl];exact List.suffix_cons t l').trans hs
  have f7:=event_fg g L ⟨l',0⟩ hsl om hw
  clear hB i0 i1 i2 i3 i4 i5
  generalize eventS ⟨l',0⟩=y at*
  obtain⟨v,sy⟩:=y
  dsimp only at*
  have q0:(kEvent==kEvent)=true:=rfl
  have q1:(kEvent==kHouse)=false:=rfl
  have q2:(kEvent==kGate)=false:=rfl
  have q3:(kEvent==kPage)=false:=rfl
  have q4:(kEvent==kGroup)=false:=rfl
  have q5:(kEvent==kPhase)=false:=rfl
  all_goals try(have Z:=(oj hne (oj hne' (oj q0 (oj q1 (oj q2 (oj q3 (oj q4 q5)))))));(repeat' first|refine yA1 Z ?_|(refine zg Z (f6) ?_)|refine zW Z ?_|refine yP Z ?_|refine yN Z ?_|refine zC Z (fun hb=>?_) fun hb=>?_|refine zG Z (fun hb=>?_) fun hb=>?_|refine zD Z (fun hb=>?_) fun hb=>?_);all_goals clear Z)
  obtain⟨X,hX⟩:∃X:Heap,X=List.flatten []:=⟨_,rfl⟩
  obtain⟨Z,hZ⟩:∃Z:Heap,Z=List.flatten [gh o.h 125 (m.houses.length*2) (hssF m.houses),gh o.g 65 (m.gates.length*7) (gtsF m.gates),gh o.p 128 (m.pages.length*3) (pgsF m.pages),gh o.r 100 (m.groups.length*4) (grsF m.groups),gh o.s 104 (m.phases.length*3) (phsF m.phases)]:=⟨_,rfl⟩
  have hsp:mdT m o=X++(gh o.e 61 (m.events.length*11) (evsF m.events)++Z):=by
   subst hX hZ
   unfold mdT
   simp only [List.flatten_cons,List.flatten_nil,List.append_assoc,List.append_nil,List.nil_append]
  refine aw_perm (h':=(gM,mdO m o)::(g,rdO L ⟨l',0⟩)::((X++Z)++gh o.e 61 (m.events.length*11) (evsF m.events))) (.cons _ (.cons _ (perm_mid hsp))) ?_
  refine aw_cw ([(gM,mdO m o)]) [(0,0),(1,0),(2,0),(3,0),(4,0),(5,0),(6,1),(7,1),(8,1),(9,0),(10,0),(11,2)] ty_mixed (by kernel_rfl) eI ?_
  have J1:=oj hne (oj hne' (oj q0 (oj q1 (oj q2 (oj q3 (oj q4 q5))))))
  refine yG J1 ?_
  refine cw_cg rfl f7 rfl rfl rfl (zE J1) (zL J1) (by refine yS J1 ?_;exact has0_cons (List.mem_cons_self ..) has0_nil) ?_
  refine ySG J1 ?_
  refine cw_buildSlice (xs:=[.tmp 38]) (cells:=evc v) rfl rfl rfl rfl (zE J1) (by refine yS J1 ?_;rfl) rfl om om (by intro x hx;simp only [List.mem_singleton] at hx;subst hx;exact⟨rfl,rfl,rfl⟩) rfl (by simp [Op.operands]) (has0_cons (List.mem_cons_self ..) has0_nil) (fun ga hn_ga=> ?_) (hm:=.inr ⟨rfl,rfl⟩)
  refine yS J1 ?_
  refine cw_push (pre:=(gM,mdO m o)::(g,rdO L sy)::(X++Z)) (og:=o.e) (n:=m.events.length) (s:=36) (d1:=39) (gt:=ga) (v:=.agg (evc v)) rfl rfl rfl rfl (zE J1) (zE J1) (by rfl) om om (zE J1) (zE J1) ho.e (by rfl) (by rfl) (by simp only [Nat.mul_one,List.cons_append,List.nil_append];rfl) (by have:=hb'.e;unfold maxLen;omega) (by have:=hb'.e;omega) (evs_push rfl v) (has0_skip (has0_cons (List.mem_cons_self ..) has0_nil)) (fun gb hn_gb=> ?_) (hm:=.inr ⟨rfl,rfl⟩)
  replace hn_ga:=Heap.ne_of hn_ga
  simp only [Heap.ne] at hn_ga
  have J2:=oj hne (oj hne' (oj q0 (oj q1 (oj q2 (oj q3 (oj q4 (oj q5 hn_ga)))))))
  refine ySG J2 ?_
  refine cw_store (FP':=[]) rfl rfl rfl rfl rfl (zE J2) (zE J2) (zE J2) (zE J2) (fun _ e=>by cases e) rfl rfl (show 3≤8 from by omega) rfl has0_nil ?_
  refine ySG J2 ?_
  have hln:(m.events++[v]).length=m.events.length+1:=by rw [List.length_append];rfl
  rw [←hln]
  have hsp2:mdT {m with events:=m.events++[v]} {o with e:=some gb}=X++(gh (some gb) 61 ((m.events++[v]).length*11) (evsF (m.events++[v]))++Z):=by
   subst hX hZ
   unfold mdT
   simp only [List.flatten_cons,List.flatten_nil,List.append_assoc,List.append_nil,List.nil_append]
  refine aw_keep [] _ (zB J2) (List.sublist_cons_self _ _) ?_
  refine aw_perm (h':=(gM,mdO {m with events:=m.events++[v]} {o with e:=some gb})::(g,rdO L sy)::mdT {m with events:=m.events++[v]} {o with e:=some gb}) (.cons _ (.cons _ (perm_mid hsp2).symm)) ?_
  all_goals try(have Z:=J2;(repeat' first|refine yA1 Z ?_|refine zW Z ?_|refine yP Z ?_|refine yN Z ?_|refine zC Z (fun hb=>?_) fun hb=>?_|refine zG Z (fun hb=>?_) fun hb=>?_|refine zD Z (fun hb=>?_) fun hb=>?_);all_goals clear Z)
  refine yV J2 ?_
  exact⟨rfl,{o with e:=some gb},⟨some_ne,ho.h,ho.g,ho.p,ho.r,ho.s⟩,rfl⟩
 ·rename_i n0
  obtain⟨h0,t,l',hl,hk,ht⟩:=is_tok hb
  have hB:=stB_h m h0 hl hk ht
  rw [hB]
  have f6:=take_fg g L s true hs om
  rw [take_cons h0 hl,if_pos rfl,ht] at f6
  dsimp only at f6
  have hsl:l'<:+L.map TX.t:=(show l'<:+s.l from by rw [hl];exact List.suffix_cons t l').trans hs
  have f7:=house_fg g L ⟨l',0⟩ hsl om
  clear hB i0 i1 i2 i3 i4 i5
  generalize houseS ⟨l',0⟩=y at*
  obtain⟨v,sy⟩:=y
  dsimp only at*
  have q0:(kHouse==kEvent)=false:=rfl
  have q1:(kHouse==kHouse)=true:=rfl
  have q2:(kHouse==kGate)=false:=rfl
  have q3:(kHouse==kPage)=false:=rfl
  have q4:(kHouse==kGroup)=false:=rfl
  have q5:(kHouse==kPhase)=false:=rfl
  all_goals try(have Z:=(oj hne (oj hne' (oj q0 (oj q1 (oj q2 (oj q3 (oj q4 q5)))))));(repeat' first|refine yA1 Z ?_|(refine zg Z (f6) ?_)|refine zW Z ?_|refine yP Z ?_|refine yN Z ?_|refine zC Z (fun hb=>?_) fun hb=>?_|refine zG Z (fun hb=>?_) fun hb=>?_|refine zD Z (fun hb=>?_) fun hb=>?_);all_goals clear Z)
  obtain⟨X,hX⟩:∃X:Heap,X=List.flatten [gh o.e 61 (m.events.length*11) (evsF m.events)]:=⟨_,rfl⟩
  obtain⟨Z,hZ⟩:∃Z:Heap,Z=List.flatten [gh o.g 65 (m.gates.length*7) (gtsF m.gates),gh o.p 128 (m.pages.length*3) (pgsF m.pages),gh o.r 100 (m.groups.length*4) (grsF m.groups),gh o.s 104 (m.phases.length*3) (phsF m.phases)]:=⟨_,rfl⟩
  have hsp:mdT m o=X++(gh o.h 125 (m.houses.length*2) (hssF m.houses)++Z):=by
   subst hX hZ
   unfold mdT
   simp only [List.flatten_cons,List.flatten_nil,List.append_assoc,List.append_nil,List.nil_append]
  refine aw_perm (h':=(gM,mdO m o)::(g,rdO L ⟨l',0⟩)::((X++Z)++gh o.h 125 (m.houses.length*2) (hssF m.houses))) (.cons _ (.cons _ (perm_mid hsp))) ?_
  refine aw_cw ([(gM,mdO m o)]) [(0,0),(1,0),(2,0),(3,0),(4,0),(5,0),(6,1),(7,1),(8,1),(9,0),(10,0),(11,2)] ty_mixed (by kernel_rfl) eI ?_
  have J3:=oj hne (oj hne' (oj q0 (oj q1 (oj q2 (oj q3 (oj q4 q5))))))
  refine yG J3 ?_
  refine cw_cg rfl f7 rfl rfl rfl (zE J3) (zL J3) (by refine yS J3 ?_;exact has0_cons (List.mem_cons_self ..) has0_nil) ?_
  refine ySG J3 ?_
  refine cw_buildSlice (xs:=[.tmp 51]) (cells:=hsc v) rfl rfl rfl rfl (zE J3) (by refine yS J3 ?_;rfl) rfl om om (by intro x hx;simp only [List.mem_singleton] at hx;subst hx;exact⟨rfl,rfl,rfl⟩) rfl (by simp [Op.operands]) (has0_cons (List.mem_cons_self ..) has0_nil) (fun ga hn_ga=> ?_) (hm:=.inr ⟨rfl,rfl⟩)
  refine yS J3 ?_
  refine cw_push (pre:=(gM,mdO m o)::(g,rdO L sy)::(X++Z)) (og:=o.h) (n:=m.houses.length) (s:=49) (d1:=52) (gt:=ga) (v:=.agg (hsc v)) rfl rfl rfl rfl (zE J3) (zE J3) (by rfl) om om (zE J3) (zE J3) ho.h (by rfl) (by rfl) (by simp only [Nat.mul_one,List.cons_append,List.nil_append];rfl) (by have:=hb'.h;unfold maxLen;omega) (by have:=hb'.h;omega) (hss_push rfl v) (has0_skip (has0_cons (List.mem_cons_self ..) has0_nil)) (fun gb hn_gb=> ?_) (hm:=.inr ⟨rfl,rfl⟩)
  replace hn_ga:=Heap.ne_of hn_ga
  simp only [Heap.ne] at hn_ga
  have J4:=oj hne (oj hne' (oj q0 (oj q1 (oj q2 (oj q3 (oj q4 (oj q5 hn_ga)))))))
  refine ySG J4 ?_
  refine cw_store (FP':=[]) rfl rfl rfl rfl rfl (zE J4) (zE J4) (zE J4) (zE J4) (fun _ e=>by cases e) rfl rfl (show 4≤8 from by omega) rfl has0_nil ?_
  refine ySG J4 ?_
  have hln:(m.houses++[v]).length=m.houses.length+1:=by rw [List.length_append];rfl
  rw [←hln]
  have hsp2:mdT {m with houses:=m.houses++[v]} {o with h:=some gb}=X++(gh (some gb) 125 ((m.houses++[v]).length*2) (hssF (m.houses++[v]))++Z):=by
   subst hX hZ
   unfold mdT
   simp only [List.flatten_cons,List.flatten_nil,List.append_assoc,List.append_nil,List.nil_append]
  refine aw_keep [] _ (zB J4) (List.sublist_cons_self _ _) ?_
  refine aw_perm (h':=(gM,mdO {m with houses:=m.houses++[v]} {o with h:=some gb})::(g,rdO L sy)::mdT {m with houses:=m.houses++[v]} {o with h:=some gb}) (.cons _ (.cons _ (perm_mid hsp2).symm)) ?_
  all_goals try(have Z:=J4;(repeat' first|refine yA1 Z ?_|refine zW Z ?_|refine yP Z ?_|refine yN Z ?_|refine zC Z (fun hb=>?_) fun hb=>?_|refine zG Z (fun hb=>?_) fun hb=>?_|refine zD Z (fun hb=>?_) fun hb=>?_);all_goals clear Z)
  refine yV J4 ?_
  exact⟨rfl,{o with h:=some gb},⟨ho.e,some_ne,ho.g,ho.p,ho.r,ho.s⟩,rfl⟩
 ·rename_i n0 n1
  obtain⟨h0,t,l',hl,hk,ht⟩:=is_tok hb
  have hB:=stB_g m h0 hl hk ht
  rw [hB]
  have f6:=take_fg g L s true hs om
  rw [take_cons h0 hl,if_pos rfl,ht] at f6
  dsimp only at f6
  have hsl:l'<:+L.map TX.t:=(show l'<:+s.l from by rw [hl];exact List.suffix_cons t l').trans hs
  have f7:=gate_fg g L ⟨l',0⟩ hsl om hw
  clear hB i0 i1 i2 i3 i4 i5
  generalize gateS ⟨l',0⟩=y at*
  obtain⟨v,sy⟩:=y
  dsimp only at*
  have q0:(kGate==kEvent)=false:=rfl
  have q1:(kGate==kHouse)=false:=rfl
  have q2:(kGate==kGate)=true:=rfl
  have q3:(kGate==kPage)=false:=rfl
  have q4:(kGate==kGroup)=false:=rfl
  have q5:(kGate==kPhase)=false:=rfl
  all_goals try(have Z:=(oj hne (oj hne' (oj q0 (oj q1 (oj q2 (oj q3 (oj q4 q5)))))));(repeat' first|refine yA1 Z ?_|(refine zg Z (f6) ?_)|refine zW Z ?_|refine yP Z ?_|refine yN Z ?_|refine zC Z (fun hb=>?_) fun hb=>?_|refine zG Z (fun hb=>?_) fun hb=>?_|refine zD Z (fun hb=>?_) fun hb=>?_);all_goals clear Z)
  obtain⟨X,hX⟩:∃X:Heap,X=List.flatten [gh o.e 61 (m.events.length*11) (evsF m.events),gh o.h 125 (m.houses.length*2) (hssF m.houses)]:=⟨_,rfl⟩
  obtain⟨Z,hZ⟩:∃Z:Heap,Z=List.flatten [gh o.p 128 (m.pages.length*3) (pgsF m.pages),gh o.r 100 (m.groups.length*4) (grsF m.groups),gh o.s 104 (m.phases.length*3) (phsF m.phases)]:=⟨_,rfl⟩
  have hsp:mdT m o=X++(gh o.g 65 (m.gates.length*7) (gtsF m.gates)++Z):=by
   subst hX hZ
   unfold mdT
   simp only [List.flatten_cons,List.flatten_nil,List.append_assoc,List.append_nil,List.nil_append]
  refine aw_perm (h':=(gM,mdO m o)::(g,rdO L ⟨l',0⟩)::((X++Z)++gh o.g 65 (m.gates.length*7) (gtsF m.gates))) (.cons _ (.cons _ (perm_mid hsp))) ?_
  refine aw_cw ([(gM,mdO m o)]) [(0,0),(1,0),(2,0),(3,0),(4,0),(5,0),(6,1),(7,1),(8,1),(9,0),(10,0),(11,2)] ty_mixed (by kernel_rfl) eI ?_
  have J5:=oj hne (oj hne' (oj q0 (oj q1 (oj q2 (oj q3 (oj q4 q5))))))
  refine yG J5 ?_
  refine cw_cg rfl f7 rfl rfl rfl (zE J5) (zL J5) (by refine yS J5 ?_;exact has0_cons (List.mem_cons_self ..) has0_nil) ?_
  refine ySG J5 ?_
  refine cw_buildSlice (xs:=[.tmp 64]) (cells:=gtc v) rfl rfl rfl rfl (zE J5) (by refine yS J5 ?_;rfl) rfl om om (by intro x hx;simp only [List.mem_singleton] at hx;subst hx;exact⟨rfl,rfl,rfl⟩) rfl (by simp [Op.operands]) (has0_cons (List.mem_cons_self ..) has0_nil) (fun ga hn_ga=> ?_) (hm:=.inr ⟨rfl,rfl⟩)
  refine yS J5 ?_
  refine cw_push (pre:=(gM,mdO m o)::(g,rdO L sy)::(X++Z)) (og:=o.g) (n:=m.gates.length) (s:=62) (d1:=65) (gt:=ga) (v:=.agg (gtc v)) rfl rfl rfl rfl (zE J5) (zE J5) (by rfl) om om (zE J5) (zE J5) ho.g (by rfl) (by rfl) (by simp only [Nat.mul_one,List.cons_append,List.nil_append];rfl) (by have:=hb'.g;unfold maxLen;omega) (by have:=hb'.g;omega) (gts_push rfl v) (has0_skip (has0_cons (List.mem_cons_self ..) has0_nil)) (fun gb hn_gb=> ?_) (hm:=.inr ⟨rfl,rfl⟩)
  replace hn_ga:=Heap.ne_of hn_ga
  simp only [Heap.ne] at hn_ga
  have J6:=oj hne (oj hne' (oj q0 (oj q1 (oj q2 (oj q3 (oj q4 (oj q5 hn_ga)))))))
  refine ySG J6 ?_
  refine cw_store (FP':=[]) rfl rfl rfl rfl rfl (zE J6) (zE J6) (zE J6) (zE J6) (fun _ e=>by cases e) rfl rfl (show 5≤8 from by omega) rfl has0_nil ?_
  refine ySG J6 ?_
  have hln:(m.gates++[v]).length=m.gates.length+1:=by rw [List.length_append];rfl
  rw [←hln]
  have hsp2:mdT {m with gates:=m.gates++[v]} {o with g:=some gb}=X++(gh (some gb) 65 ((m.gates++[v]).length*7) (gtsF (m.gates++[v]))++Z):=by
   subst hX hZ
   unfold mdT
   simp only [List.flatten_cons,List.flatten_nil,List.append_assoc,List.append_nil,List.nil_append]
  refine aw_keep [] _ (zB J6) (List.sublist_cons_self _ _) ?_
  refine aw_perm (h':=(gM,mdO {m with gates:=m.gates++[v]} {o with g:=some gb})::(g,rdO L sy)::mdT {m with gates:=m.gates++[v]} {o with g:=some gb}) (.cons _ (.cons _ (perm_mid hsp2).symm)) ?_
  all_goals try(have Z:=J6;(repeat' first|refine yA1 Z ?_|refine zW Z ?_|refine yP Z ?_|refine yN Z ?_|refine zC Z (fun hb=>?_) fun hb=>?_|refine zG Z (fun hb=>?_) fun hb=>?_|refine zD Z (fun hb=>?_) fun hb=>?_);all_goals clear Z)
  refine yV J6 ?_
  exact⟨rfl,{o with g:=some gb},⟨ho.e,ho.h,some_ne,ho.p,ho.r,ho.s⟩,rfl⟩
 ·rename_i n0 n1 n2
  obtain⟨h0,t,l',hl,hk,ht⟩:=is_tok hb
  have hB:=stB_p m h0 hl hk ht
  rw [hB]
  have f6:=take_fg g L s true hs om
  rw [take_cons h0 hl,if_pos rfl,ht] at f6
  dsimp only at f6
  have hsl:l'<:+L.map TX.t:=(show l'<:+s.l from by rw [hl];exact List.suffix_cons t l').trans hs
  have f7:=page_fg g L ⟨l',0⟩ hsl om hw
  clear hB i0 i1 i2 i3 i4 i5
  generalize pageS ⟨l',0⟩=y at*
  obtain⟨v,sy⟩:=y
  dsimp only at*
  have q0:(kPage==kEvent)=false:=rfl
  have q1:(kPage==kHouse)=false:=rfl
  have q2:(kPage==kGate)=false:=rfl
  have q3:(kPage==kPage)=true:=rfl
  have q4:(kPage==kGroup)=false:=rfl
  have q5:(kPage==kPhase)=false:=rfl
  all_goals try(have Z:=(oj hne (oj hne' (oj q0 (oj q1 (oj q2 (oj q3 (oj q4 q5)))))));(repeat' first|refine yA1 Z ?_|(refine zg Z (f6) ?_)|refine zW Z ?_|refine yP Z ?_|refine yN Z ?_|refine zC Z (fun hb=>?_) fun hb=>?_|refine zG Z (fun hb=>?_) fun hb=>?_|refine zD Z (fun hb=>?_) fun hb=>?_);all_goals clear Z)
  obtain⟨X,hX⟩:∃X:Heap,X=List.flatten [gh o.e 61 (m.events.length*11) (evsF m.events),gh o.h 125 (m.houses.length*2) (hssF m.houses),gh o.g 65 (m.gates.length*7) (gtsF m.gates)]:=⟨_,rfl⟩
  obtain⟨Z,hZ⟩:∃Z:Heap,Z=List.flatten [gh o.r 100 (m.groups.length*4) (grsF m.groups),gh o.s 104 (m.phases.length*3) (phsF m.phases)]:=⟨_,rfl⟩
  have hsp:mdT m o=X++(gh o.p 128 (m.pages.length*3) (pgsF m.pages)++Z):=by
   subst hX hZ
   unfold mdT
   simp only [List.flatten_cons,List.flatten_nil,List.append_assoc,List.append_nil,List.nil_append]
  refine aw_perm (h':=(gM,mdO m o)::(g,rdO L ⟨l',0⟩)::((X++Z)++gh o.p 128 (m.pages.length*3) (pgsF m.pages))) (.cons _ (.cons _ (perm_mid hsp))) ?_
  refine aw_cw ([(gM,mdO m o)]) [(0,0),(1,0),(2,0),(3,0),(4,0),(5,0),(6,1),(7,1),(8,1),(9,0),(10,0),(11,2)] ty_mixed (by kernel_rfl) eI ?_
  have J7:=oj hne (oj hne' (oj q0 (oj q1 (oj q2 (oj q3 (oj q4 q5))))))
  refine yG J7 ?_
  refine cw_cg rfl f7 rfl rfl rfl (zE J7) (zL J7) (by refine yS J7 ?_;exact has0_cons (List.mem_cons_self ..) has0_nil) ?_
  refine ySG J7 ?_
  refine cw_buildSlice (xs:=[.tmp 77]) (cells:=pgc v) rfl rfl rfl rfl (zE J7) (by refine yS J7 ?_;rfl) rfl om om (by intro x hx;simp only [List.mem_singleton] at hx;subst hx;exact⟨rfl,rfl,rfl⟩) rfl (by simp [Op.operands]) (has0_cons (List.mem_cons_self ..) has0_nil) (fun ga hn_ga=> ?_) (hm:=.inr ⟨rfl,rfl⟩)
  refine yS J7 ?_
  refine cw_push (pre:=(gM,mdO m o)::(g,rdO L sy)::(X++Z)) (og:=o.p) (n:=m.pages.length) (s:=75) (d1:=78) (gt:=ga) (v:=.agg (pgc v)) rfl rfl rfl rfl (zE J7) (zE J7) (by rfl) om om (zE J7) (zE J7) ho.p (by rfl) (by rfl) (by simp only [Nat.mul_one,List.cons_append,List.nil_append];rfl) (by have:=hb'.p;unfold maxLen;omega) (by have:=hb'.p;omega) (pgs_push rfl v) (has0_skip (has0_cons (List.mem_cons_self ..) has0_nil)) (fun gb hn_gb=> ?_) (hm:=.inr ⟨rfl,rfl⟩)
  replace hn_ga:=Heap.ne_of hn_ga
  simp only [Heap.ne] at hn_ga
  have J8:=oj hne (oj hne' (oj q0 (oj q1 (oj q2 (oj q3 (oj q4 (oj q5 hn_ga)))))))
  refine ySG J8 ?_
  refine cw_store (FP':=[]) rfl rfl rfl rfl rfl (zE J8) (zE J8) (zE J8) (zE J8) (fun _ e=>by cases e) rfl rfl (show 6≤8 from by omega) rfl has0_nil ?_
  refine ySG J8 ?_
  have hln:(m.pages++[v]).length=m.pages.length+1:=by rw [List.length_append];rfl
  rw [←hln]
  have hsp2:mdT {m with pages:=m.pages++[v]} {o with p:=some gb}=X++(gh (some gb) 128 ((m.pages++[v]).length*3) (pgsF (m.pages++[v]))++Z):=by
   subst hX hZ
   unfold mdT
   simp only [List.flatten_cons,List.flatten_nil,List.append_assoc,List.append_nil,List.nil_append]
  refine aw_keep [] _ (zB J8) (List.sublist_cons_self _ _) ?_
  refine aw_perm (h':=(gM,mdO {m with pages:=m.pages++[v]} {o with p:=some gb})::(g,rdO L sy)::mdT {m with pages:=m.pages++[v]} {o with p:=some gb}) (.cons _ (.cons _ (perm_mid hsp2).symm)) ?_
  all_goals try(have Z:=J8;(repeat' first|refine yA1 Z ?_|refine zW Z ?_|refine yP Z ?_|refine yN Z ?_|refine zC Z (fun hb=>?_) fun hb=>?_|refine zG Z (fun hb=>?_) fun hb=>?_|refine zD Z (fun hb=>?_) fun hb=>?_);all_goals clear Z)
  refine yV J8 ?_
  exact⟨rfl,{o with p:=some gb},⟨ho.e,ho.h,ho.g,some_ne,ho.r,ho.s⟩,rfl⟩
 ·rename_i n0 n1 n2 n3
  obtain⟨h0,t,l',hl,hk,ht⟩:=is_tok hb
  have hB:=stB_r m h0 hl hk ht
  rw [hB]
  have f6:=take_fg g L s true hs om
  rw [take_cons h0 hl,if_pos rfl,ht] at f6
  dsimp only at f6
  have hsl:l'<:+L.map TX.t:=(show l'<:+s.l from by rw [hl];exact List.suffix_cons t l').trans hs
  have f7:=group_fg g L ⟨l',0⟩ hsl om hw
  clear hB i0 i1 i2 i3 i4 i5
  generalize groupS ⟨l',0⟩=y at*
  obtain⟨v,sy⟩:=y
  dsimp only at*
  have q0:(kGroup==kEvent)=false:=rfl
  have q1:(kGroup==kHouse)=false:=rfl
  have q2:(kGroup==kGate)=false:=rfl
  have q3:(kGroup==kPage)=false:=rfl
  have q4:(kGroup==kGroup)=true:=rfl
  have q5:(kGroup==kPhase)=false:=rfl
  all_goals try(have Z:=(oj hne (oj hne' (oj q0 (oj q1 (oj q2 (oj q3 (oj q4 q5)))))));(repeat' first|refine yA1 Z ?_|(refine zg Z (f6) ?_)|refine zW Z ?_|refine yP Z ?_|refine yN Z ?_|refine zC Z (fun hb=>?_) fun hb=>?_|refine zG Z (fun hb=>?_) fun hb=>?_|refine zD Z (fun hb=>?_) fun hb=>?_);all_goals clear Z)
  obtain⟨X,hX⟩:∃X:Heap,X=List.flatten [gh o.e 61 (m.events.length*11) (evsF m.events),gh o.h 125 (m.houses.length*2) (hssF m.houses),gh o.g 65 (m.gates.length*7) (gtsF m.gates),gh o.p 128 (m.pages.length*3) (pgsF m.pages)]:=⟨_,rfl⟩
  obtain⟨Z,hZ⟩:∃Z:Heap,Z=List.flatten [gh o.s 104 (m.phases.length*3) (phsF m.phases)]:=⟨_,rfl⟩
  have hsp:mdT m o=X++(gh o.r 100 (m.groups.length*4) (grsF m.groups)++Z):=by
   subst hX hZ
   unfold mdT
   simp only [List.flatten_cons,List.flatten_nil,List.append_assoc,List.append_nil,List.nil_append]
  refine aw_perm (h':=(gM,mdO m o)::(g,rdO L ⟨l',0⟩)::((X++Z)++gh o.r 100 (m.groups.length*4) (grsF m.groups))) (.cons _ (.cons _ (perm_mid hsp))) ?_
  refine aw_cw ([(gM,mdO m o)]) [(0,0),(1,0),(2,0),(3,0),(4,0),(5,0),(6,1),(7,1),(8,1),(9,0),(10,0),(11,2)] ty_mixed (by kernel_rfl) eI ?_
  have J9:=oj hne (oj hne' (oj q0 (oj q1 (oj q2 (oj q3 (oj q4 q5))))))
  refine yG J9 ?_
  refine cw_cg rfl f7 rfl rfl rfl (zE J9) (zL J9) (by refine yS J9 ?_;exact has0_cons (List.mem_cons_self ..) has0_nil) ?_
  refine ySG J9 ?_
  refine cw_buildSlice (xs:=[.tmp 90]) (cells:=grc v) rfl rfl rfl rfl (zE J9) (by refine yS J9 ?_;rfl) rfl om om (by intro x hx;simp only [List.mem_singleton] at hx;subst hx;exact⟨rfl,rfl,rfl⟩) rfl (by simp [Op.operands]) (has0_cons (List.mem_cons_self ..) has0_nil) (fun ga hn_ga=> ?_) (hm:=.inr ⟨rfl,rfl⟩)
  refine yS J9 ?_
  refine cw_push (pre:=(gM,mdO m o)::(g,rdO L sy)::(X++Z)) (og:=o.r) (n:=m.groups.length) (s:=88) (d1:=91) (gt:=ga) (v:=.agg (grc v)) rfl rfl rfl rfl (zE J9) (zE J9) (by rfl) om om (zE J9) (zE J9) ho.r (by rfl) (by rfl) (by simp only [Nat.mul_one,List.cons_append,List.nil_append];rfl) (by have:=hb'.r;unfold maxLen;omega) (by have:=hb'.r;omega) (grs_push rfl v) (has0_skip (has0_cons (List.mem_cons_self ..) has0_nil)) (fun gb hn_gb=> ?_) (hm:=.inr ⟨rfl,rfl⟩)
  replace hn_ga:=Heap.ne_of hn_ga
  simp only [Heap.ne] at hn_ga
  have J10:=oj hne (oj hne' (oj q0 (oj q1 (oj q2 (oj q3 (oj q4 (oj q5 hn_ga)))))))
  refine ySG J10 ?_
  refine cw_store (FP':=[]) rfl rfl rfl rfl rfl (zE J10) (zE J10) (zE J10) (zE J10) (fun _ e=>by cases e) rfl rfl (show 7≤8 from by omega) rfl has0_nil ?_
  refine ySG J10 ?_
  have hln:(m.groups++[v]).length=m.groups.length+1:=by rw [List.length_append];rfl
  rw [←hln]
  have hsp2:mdT {m with groups:=m.groups++[v]} {o with r:=some gb}=X++(gh (some gb) 100 ((m.groups++[v]).length*4) (grsF (m.groups++[v]))++Z):=by
   subst hX hZ
   unfold mdT
   simp only [List.flatten_cons,List.flatten_nil,List.append_assoc,List.append_nil,List.nil_append]
  refine aw_keep [] _ (zB J10) (List.sublist_cons_self _ _) ?_
  refine aw_perm (h':=(gM,mdO {m with groups:=m.groups++[v]} {o with r:=some gb})::(g,rdO L sy)::mdT {m with groups:=m.groups++[v]} {o with r:=some gb}) (.cons _ (.cons _ (perm_mid hsp2).symm)) ?_
  all_goals try(have Z:=J10;(repeat' first|refine yA1 Z ?_|refine zW Z ?_|refine yP Z ?_|refine yN Z ?_|refine zC Z (fun hb=>?_) fun hb=>?_|refine zG Z (fun hb=>?_) fun hb=>?_|refine zD Z (fun hb=>?_) fun hb=>?_);all_goals clear Z)
  refine yV J10 ?_
  exact⟨rfl,{o with r:=some gb},⟨ho.e,ho.h,ho.g,ho.p,some_ne,ho.s⟩,rfl⟩
 ·rename_i n0 n1 n2 n3
  have n4:=hb
  cases hb:isS s kPhase with
  |true=>
   obtain⟨h0,t,l',hl,hk,ht⟩:=is_tok hb
   have hB:=stB_s m h0 hl hk ht
   rw [hB]
   have f6:=take_fg g L s true hs om
   rw [take_cons h0 hl,if_pos rfl,ht] at f6
   dsimp only at f6
   have hsl:l'<:+L.map TX.t:=(show l'<:+s.l from by rw [hl];exact List.suffix_cons t l').trans hs
   have f7:=phase_fg g L ⟨l',0⟩ hsl om hw
   clear hB i0 i1 i2 i3 i4 i5
   generalize phaseS ⟨l',0⟩=y at*
   obtain⟨v,sy⟩:=y
   dsimp only at*
   have q0:(kPhase==kEvent)=false:=rfl
   have q1:(kPhase==kHouse)=false:=rfl
   have q2:(kPhase==kGate)=false:=rfl
   have q3:(kPhase==kPage)=false:=rfl
   have q4:(kPhase==kGroup)=false:=rfl
   have q5:(kPhase==kPhase)=true:=rfl
   all_goals try(have Z:=(oj hne (oj hne' (oj q0 (oj q1 (oj q2 (oj q3 (oj q4 q5)))))));(repeat' first|refine yA1 Z ?_|(refine zg Z (f6) ?_)|refine zW Z ?_|refine yP Z ?_|refine yN Z ?_|refine zC Z (fun hb=>?_) fun hb=>?_|refine zG Z (fun hb=>?_) fun hb=>?_|refine zD Z (fun hb=>?_) fun hb=>?_);all_goals clear Z)
   obtain⟨X,hX⟩:∃X:Heap,X=List.flatten [gh o.e 61 (m.events.length*11) (evsF m.events),gh o.h 125 (m.houses.length*2) (hssF m.houses),gh o.g 65 (m.gates.length*7) (gtsF m.gates),gh o.p 128 (m.pages.length*3) (pgsF m.pages),gh o.r 100 (m.groups.length*4) (grsF m.groups)]:=⟨_,rfl⟩
   obtain⟨Z,hZ⟩:∃Z:Heap,Z=List.flatten []:=⟨_,rfl⟩
   have hsp:mdT m o=X++(gh o.s 104 (m.phases.length*3) (phsF m.phases)++Z):=by
    subst hX hZ
    unfold mdT
    simp only [List.flatten_cons,List.flatten_nil,List.append_assoc,List.append_nil,List.nil_append]
   refine aw_perm (h':=(gM,mdO m o)::(g,rdO L ⟨l',0⟩)::((X++Z)++gh o.s 104 (m.phases.length*3) (phsF m.phases))) (.cons _ (.cons _ (perm_mid hsp))) ?_
   refine aw_cw ([(gM,mdO m o)]) [(0,0),(1,0),(2,0),(3,0),(4,0),(5,0),(6,1),(7,1),(8,1),(9,0),(10,0),(11,2)] ty_mixed (by kernel_rfl) eI ?_
   have J11:=oj hne (oj hne' (oj q0 (oj q1 (oj q2 (oj q3 (oj q4 q5))))))
   refine yG J11 ?_
   refine cw_cg rfl f7 rfl rfl rfl (zE J11) (zL J11) (by refine yS J11 ?_;exact has0_cons (List.mem_cons_self ..) has0_nil) ?_
   refine ySG J11 ?_
   refine cw_buildSlice (xs:=[.tmp 103]) (cells:=phc v) rfl rfl rfl rfl (zE J11) (by refine yS J11 ?_;rfl) rfl om om (by intro x hx;simp only [List.mem_singleton] at hx;subst hx;exact⟨rfl,rfl,rfl⟩) rfl (by simp [Op.operands]) (has0_cons (List.mem_cons_self ..) has0_nil) (fun ga hn_ga=> ?_) (hm:=.inr ⟨rfl,rfl⟩)
   refine yS J11 ?_
   refine cw_push (pre:=(gM,mdO m o)::(g,rdO L sy)::(X++Z)) (og:=o.s) (n:=m.phases.length) (s:=101) (d1:=104) (gt:=ga) (v:=.agg (phc v)) rfl rfl rfl rfl (zE J11) (zE J11) (by rfl) om om (zE J11) (zE J11) ho.s (by rfl) (by rfl) (by simp only [Nat.mul_one,List.cons_append,List.nil_append];rfl) (by have:=hb'.s;unfold maxLen;omega) (by have:=hb'.s;omega) (phs_push rfl v) (has0_skip (has0_cons (List.mem_cons_self ..) has0_nil)) (fun gb hn_gb=> ?_) (hm:=.inr ⟨rfl,rfl⟩)
   replace hn_ga:=Heap.ne_of hn_ga
   simp only [Heap.ne] at hn_ga
   have J12:=oj hne (oj hne' (oj q0 (oj q1 (oj q2 (oj q3 (oj q4 (oj q5 hn_ga)))))))
   refine ySG J12 ?_
   refine cw_store (FP':=[]) rfl rfl rfl rfl rfl (zE J12) (zE J12) (zE J12) (zE J12) (fun _ e=>by cases e) rfl rfl (show 8≤8 from by omega) rfl has0_nil ?_
   refine ySG J12 ?_
   have hln:(m.phases++[v]).length=m.phases.length+1:=by rw [List.length_append];rfl
   rw [←hln]
   have hsp2:mdT {m with phases:=m.phases++[v]} {o with s:=some gb}=X++(gh (some gb) 104 ((m.phases++[v]).length*3) (phsF (m.phases++[v]))++Z):=by
    subst hX hZ
    unfold mdT
    simp only [List.flatten_cons,List.flatten_nil,List.append_assoc,List.append_nil,List.nil_append]
   refine aw_keep [] _ (zB J12) (List.sublist_cons_self _ _) ?_
   refine aw_perm (h':=(gM,mdO {m with phases:=m.phases++[v]} {o with s:=some gb})::(g,rdO L sy)::mdT {m with phases:=m.phases++[v]} {o with s:=some gb}) (.cons _ (.cons _ (perm_mid hsp2).symm)) ?_
   all_goals try(have Z:=J12;(repeat' first|refine yA1 Z ?_|refine zW Z ?_|refine yP Z ?_|refine yN Z ?_|refine zC Z (fun hb=>?_) fun hb=>?_|refine zG Z (fun hb=>?_) fun hb=>?_|refine zD Z (fun hb=>?_) fun hb=>?_);all_goals clear Z)
   refine yV J12 ?_
   exact⟨rfl,{o with s:=some gb},⟨ho.e,ho.h,ho.g,ho.p,ho.r,some_ne⟩,rfl⟩
  |false=>
   have hB:=stB_no m n0 n1 n2 n3 n4 hb
   rw [hB]
   have f6:=take_fg g L s false hs om
   rw [take_ff] at f6
   have q0:(([]:BS)==kEvent)=false:=rfl
   have q1:(([]:BS)==kHouse)=false:=rfl
   have q2:(([]:BS)==kGate)=false:=rfl
   have q3:(([]:BS)==kPage)=false:=rfl
   have q4:(([]:BS)==kGroup)=false:=rfl
   have q5:(([]:BS)==kPhase)=false:=rfl
   all_goals try(have Z:=(oj hne (oj hne' (oj q0 (oj q1 (oj q2 (oj q3 (oj q4 q5)))))));(repeat' first|refine yA1 Z ?_|(refine zg Z (f6) ?_)|refine zW Z ?_|refine yP Z ?_|refine yN Z ?_|refine zC Z (fun hb=>?_) fun hb=>?_|refine zG Z (fun hb=>?_) fun hb=>?_|refine zD Z (fun hb=>?_) fun hb=>?_);all_goals clear Z)
   refine yV (oj hne (oj hne' (oj q0 (oj q1 (oj q2 (oj q3 (oj q4 q5))))))) ?_
   exact⟨rfl,o,ho,rfl⟩
end Go.Proofs.YteocnikcjjonbaaGreat
namespace Go.Proofs.YteocnikcjjonbaaGreat
open Go.AI Go.PN
theorem lf_ler {α:Type} {h:Heap} {s:Nat} {c:α→List CV} {d:α} {xs:List α} (hs:0<s) (H:∀(x:α) k,k<s→LeR h (ofL (c x) k) (ofL (c x) k)) (j:Nat):LeR h (lf s c d xs j) (lf s c d xs j):=by
 obtain⟨i,k,hk,rfl⟩:∃i k,k<s∧j=i*s+k:=⟨j/s,j%s,Nat.mod_lt _ hs,by rw [Nat.mul_comm];exact(Nat.div_add_mod j s).symm⟩
 rw [lf_at hk]
 exact H _ _ hk
theorem ler_strs {h:Heap} {l:List BS}:LeR h (strs true l) (strs true l):=.row fun j _=>lf_ler (by decide) (fun x k hk=>match k,hk with|0,_=>.str _) j
theorem ler_evs {h:Heap} {l:List EvD}:LeR h (evs true l) (evs true l):=.row fun j _=>lf_ler (by decide) (fun x k hk=>match k,hk with|0,_=>.str _|1,_=>.bool _|2,_=>ler_ws|3,_=>ler_ws|4,_=>.bool _|5,_=>ler_ws|6,_=>ler_ws|7,_=>.bool _|8,_=>ler_ws|9,_=>ler_ws|10,_=>.int _ _) j
theorem ler_hss {h:Heap} {l:List HsD}:LeR h (hss true l) (hss true l):=.row fun j _=>lf_ler (by decide) (fun x k hk=>match k,hk with|0,_=>.str _|1,_=>.bool _) j
theorem lerk_gt {h:Heap} (x:GtD) (k:Nat) (hk:k<7):LeR h (ofL (gtc x) k) (ofL (gtc x) k):=match k,hk with|0,_=>.str _|1,_=>.int _ _|2,_=>.int _ _|3,_=>ler_strs|4,_=>.bool _|5,_=>ler_ws|6,_=>ler_ws
theorem ler_gts {h:Heap} {l:List GtD}:LeR h (gts true l) (gts true l):=.row fun j _=>lf_ler (by decide) lerk_gt j
theorem lerl_gt {h:Heap} {x:GtD}:LeRL h (gtc x) (gtc x):=⟨.str _,.int _ _,.int _ _,ler_strs,.bool _,ler_ws,ler_ws,trivial⟩
theorem ler_pgs {h:Heap} {l:List PgD}:LeR h (pgs true l) (pgs true l):=.row fun j _=>lf_ler (by decide) (fun x k hk=>match k,hk with|0,_=>.str _|1,_=>.str _|2,_=>ler_gts) j
theorem ler_grs {h:Heap} {l:List GrD}:LeR h (grs true l) (grs true l):=.row fun j _=>lf_ler (by decide) (fun x k hk=>match k,hk with|0,_=>.str _|1,_=>.int _ _|2,_=>ler_strs|3,_=>ler_rats) j
theorem ler_vls {h:Heap} {l:List VlD}:LeR h (vls true l) (vls true l):=.row fun j _=>lf_ler (by decide) (fun x k hk=>match k,hk with|0,_=>.str _|1,_=>.bool _|2,_=>ler_ws|3,_=>ler_ws) j
theorem ler_phs {h:Heap} {l:List PhD}:LeR h (phs true l) (phs true l):=.row fun j _=>lf_ler (by decide) (fun x k hk=>match k,hk with|0,_=>.str _|1,_=>.str _|2,_=>ler_vls) j
theorem lerl_md {h:Heap} {x:MdD}:LeRL h (mdc true x) (mdc true x):=⟨.str _,.str _,ler_evs,ler_hss,ler_gts,ler_pgs,ler_grs,ler_phs,trivial⟩
theorem lerl_md0 {h:Heap}:LeRL h [.str (sB []),.str (sB []),.nils,.nils,.nils,.nils,.nils,.nils] (mdc true md0):=⟨.str _,.str _,.nils,.nils,.nils,.nils,.nils,.nils,trivial⟩
theorem lerl_gt0 {h:Heap}:LeRL h [.str (sB []),.int .i64 0,.int .i64 0,.nils,.bool false,.nils,.nils] (gtc gt0):=⟨.str _,.int _ _,.int _ _,.nils,.bool _,.nils,.nils,trivial⟩
end Go.Proofs.YteocnikcjjonbaaGreat
namespace Go.PN
def inputP (l:BS):BS×Int:=if(splitS l).1≠0 then([],(splitS l).1) else let r:=inputS ⟨(splitS l).2,0⟩;if(endS r.2).e≠0 then([],(endS r.2).e) else(r.1,0)
def gateP (l:BS):GtD×Int:=if(splitS l).1≠0 then(gt0,(splitS l).1) else let r:=gateS (expS kGate ⟨(splitS l).2,0⟩);if(endS r.2).e≠0 then(gt0,(endS r.2).e) else(r.1,0)
end Go.PN
namespace Go.Proofs.YteocnikcjjonbaaGreat
open Go.AI Go.PN
attribute [local irreducible] aw Fa Fh DrK
theorem end_fg (g:Nat) (L:List TX) (s:PS) (hs:s.l<:+L.map TX.t) (hL:L.length≤1099511627776):Fg Tryz.prog 32 g (rdO L s) [.c (.optr g 0)] (.c (errA (endS s).e)) (rdO L (endS s)):=by
 have h:=rat hs
 have f1:=fail_fg g L s 2 (by decide)
 generalize ha:L.length-s.l.length=a at h
 have hle:=h.le
 unfold Fg
 rw [ha_of ha]
 rw [ha_of ha] at f1
 refine fh_of_body Tryz.func32 rfl rfl (by simp [Tryz.ntmps32]) fun C hC=> ?_
 simp only [initS,Nat.reduceAdd]
 repeat' first|refine yA1 o0 ?_|refine zW o0 ?_|refine yP o0 ?_|refine yN o0 ?_|refine zC o0 (fun hb=>?_) fun hb=>?_|refine zG o0 (fun hb=>?_) fun hb=>?_|refine zD o0 (fun hb=>?_) fun hb=>?_
 refine aw_dr 17 ty_mixed (by kernel_rfl) ?_
 repeat' first|refine yA1 o0 ?_|(refine zg o0 (f1) ?_)|refine zW o0 ?_|refine yP o0 ?_|refine yN o0 ?_|refine zC o0 (fun hb=>?_) fun hb=>?_|refine zG o0 (fun hb=>?_) fun hb=>?_|refine zD o0 (fun hb=>?_) fun hb=>?_
 ·rename_i h0
  obtain⟨l',hl,_⟩:=h.cons hb
  have he:endS s=failS 2 s:=by
   unfold endS failS
   rw [if_pos ⟨h0,by rw [hl];simp⟩,if_pos h0]
  refine xU ?_
  rw [he]
  exact⟨rfl,rfl⟩
 ·have he:endS s=s:=by
   unfold endS
   rw [if_neg fun z=>z.2 (h.nil hb)]
  refine xU ?_
  rw [he,←ha_of ha]
  exact⟨rfl,rfl⟩
 ·have he:endS s=s:=by
   unfold endS
   rw [if_neg fun z=>hb z.1]
  refine xU ?_
  rw [he,←ha_of ha]
  exact⟨rfl,rfl⟩
theorem begin_fh (l:BS) (hl:l.length≤1099511627776):Fh Tryz.prog 26 [] [.c (.str (sB l))] (fun x h=>∃(out:List TX) (g:Nat),out.map TX.t=(splitS l).2∧h=[(g,rdO out ⟨(splitS l).2,0⟩)]∧x=.tup [.c (.optr g 0),.c (errA (splitS l).1)]):=by
 refine fh_of_body Tryz.func26 rfl rfl (by simp [Tryz.ntmps26]) fun C hC=> ?_
 simp only [initS,Nat.reduceAdd]
 repeat' first|refine yA1 o0 ?_|refine zW o0 ?_|refine yP o0 ?_|refine yN o0 ?_|refine zC o0 (fun hb=>?_) fun hb=>?_|refine zG o0 (fun hb=>?_) fun hb=>?_|refine zD o0 (fun hb=>?_) fun hb=>?_
 refine aw_callh (hr:=[]) (tsplit_fh l hl) rfl rfl rfl (.refl _) eL ?_
 rintro r h' ⟨rfl,out,ho,rfl⟩ _
 repeat' first|refine yA1 o0 ?_|refine zW o0 ?_|refine yP o0 ?_|refine yN o0 ?_|refine zC o0 (fun hb=>?_) fun hb=>?_|refine zG o0 (fun hb=>?_) fun hb=>?_|refine zD o0 (fun hb=>?_) fun hb=>?_
 refine xB fun g hn_g=>?_
 repeat' first|refine yA1 hn_g ?_|refine zW hn_g ?_|refine yP hn_g ?_|refine yN hn_g ?_|refine zC hn_g (fun hb=>?_) fun hb=>?_|refine zG hn_g (fun hb=>?_) fun hb=>?_|refine zD hn_g (fun hb=>?_) fun hb=>?_
 refine yU hn_g ?_
 refine⟨out,g,ho,?_,rfl⟩
 unfold rdO
 rw [show out.length-(PS.mk (splitS l).2 0).l.length=0 from by rw [←ho,List.length_map];exact Nat.sub_self _]
 rfl
theorem pinput_fa (l:BS) (hl:l.length≤1099511627776) (hn:(splitS l).2.length≤1048576) (hw:∀t∈(splitS l).2,t.text.length≤1099511627776):Fa Tryz.prog 21 [.c (.str (sB l))] (.tup [.c (.str (sB (inputP l).1)),.c (errA (inputP l).2)]):=by
 refine fa_of_body Tryz.func21 rfl rfl (by simp [Tryz.ntmps21]) fun C hC=> ?_
 simp only [initS,Nat.reduceAdd]
 repeat' first|refine yA1 o0 ?_|refine zW o0 ?_|refine yP o0 ?_|refine yN o0 ?_|refine zC o0 (fun hb=>?_) fun hb=>?_|refine zG o0 (fun hb=>?_) fun hb=>?_|refine zD o0 (fun hb=>?_) fun hb=>?_
 refine aw_callh (hr:=[]) (begin_fh l hl) rfl rfl rfl (.refl _) eL ?_
 rintro r h' ⟨out,g,ho,rfl,rfl⟩ _
 simp only [List.append_nil]
 have hs:(PS.mk (splitS l).2 0).l<:+out.map TX.t:=by rw [ho];exact List.suffix_refl _
 have hL:out.length≤1048576:=by rw [←List.length_map TX.t,ho];exact hn
 have hw':∀t∈out,t.t.text.length≤1099511627776:=fun t ht=>hw t.t (by rw [←ho];exact List.mem_map_of_mem ht)
 have f1:=input_fg g out ⟨(splitS l).2,0⟩ hs om hw'
 have f2:=end_fg g out (inputS ⟨(splitS l).2,0⟩).2 ((rdr_input.suf _).trans hs) om
 repeat' first|refine yA1 o0 ?_|(refine zg o0 (f1) ?_)|(refine zg o0 (f2) ?_)|refine zW o0 ?_|refine yP o0 ?_|refine yN o0 ?_|refine zC o0 (fun hb=>?_) fun hb=>?_|refine zG o0 (fun hb=>?_) fun hb=>?_|refine zD o0 (fun hb=>?_) fun hb=>?_
 ·have h0:(splitS l).1≠0:=by simpa using hb
  refine xT hC ?_
  rw [show inputP l=([],(splitS l).1) from if_pos h0]
  exact .tup ⟨.c (.str _),.c ler_err,trivial⟩
 ·rename_i h0
  replace h0:¬(splitS l).1≠0:=by simpa using h0
  have h1:(endS (inputS ⟨(splitS l).2,0⟩).2).e≠0:=by simpa using hb
  refine xT hC ?_
  rw [show inputP l=([],(endS (inputS ⟨(splitS l).2,0⟩).2).e) from(if_neg h0).trans (if_pos h1)]
  exact .tup ⟨.c (.str _),.c ler_err,trivial⟩
 ·rename_i h0
  replace h0:¬(splitS l).1≠0:=by simpa using h0
  have h1:¬(endS (inputS ⟨(splitS l).2,0⟩).2).e≠0:=by simpa using hb
  refine xT hC ?_
  rw [show inputP l=((inputS ⟨(splitS l).2,0⟩).1,0) from(if_neg h0).trans (if_neg h1)]
  exact .tup ⟨.c (.str _),.c (ler_err0 rfl),trivial⟩
theorem pgate_fa (l:BS) (hl:l.length≤1099511627776) (hn:(splitS l).2.length≤1048576) (hw:∀t∈(splitS l).2,t.text.length≤1099511627776):Fa Tryz.prog 20 [.c (.str (sB l))] (.tup [.agg (gtc (gateP l).1),.c (errA (gateP l).2)]):=by
 refine fa_of_body Tryz.func20 rfl rfl (by simp [Tryz.ntmps20]) fun C hC=> ?_
 simp only [initS,Nat.reduceAdd]
 repeat' first|refine yA1 o0 ?_|refine zW o0 ?_|refine yP o0 ?_|refine yN o0 ?_|refine zC o0 (fun hb=>?_) fun hb=>?_|refine zG o0 (fun hb=>?_) fun hb=>?_|refine zD o0 (fun hb=>?_) fun hb=>?_
 refine xA fun g2 hn_g2=>?_
 repeat' first|refine yA1 hn_g2 ?_|refine zW hn_g2 ?_|refine yP hn_g2 ?_|refine yN hn_g2 ?_|refine zC hn_g2 (fun hb=>?_) fun hb=>?_|refine zG hn_g2 (fun hb=>?_) fun hb=>?_|refine zD hn_g2 (fun hb=>?_) fun hb=>?_
 refine aw_callh (hr:=[(g2,.cells 65 7 (ofL [.str (sB []),.int .i64 0,.int .i64 0,.nils,.bool false,.nils,.nils]))]) (begin_fh l hl) rfl rfl rfl (.refl _) (zL hn_g2) ?_
 rintro r h' ⟨out,g,ho,rfl,rfl⟩ hgg
 have hne:g≠g2:=by simpa [Heap.keys] using hgg
 have hne':g2≠g:=fun e=>hne e.symm
 clear hgg
 simp only [List.cons_append,List.nil_append]
 have hs:(PS.mk (splitS l).2 0).l<:+out.map TX.t:=by rw [ho];exact List.suffix_refl _
 have hL:out.length≤1048576:=by rw [←List.length_map TX.t,ho];exact hn
 have hw':∀t∈out,t.t.text.length≤1099511627776:=fun t ht=>hw t.t (by rw [←ho];exact List.mem_map_of_mem ht)
 have f0:=expect_fg g out ⟨(splitS l).2,0⟩ kGate hs om
 have hs1:=((rdr_exp kGate).suf ⟨(splitS l).2,0⟩).trans hs
 have hG:∀s,gateP l=s↔gateP l=s:=fun _=>Iff.rfl
 unfold gateP at hG⊢
 dsimp only at hG⊢
 clear hG
 generalize expS kGate ⟨(splitS l).2,0⟩=s1 at*
 have f1:=gate_fg g out s1 hs1 om hw'
 have f2:=end_fg g out (gateS s1).2 ((rdr_gate.suf s1).trans hs1) om
 generalize gateS s1=r at*
 obtain⟨G,s2⟩:=r
 dsimp only at*
 all_goals try(have Z:=(oj hn_g2 (oj hne hne'));(repeat' first|refine yA1 Z ?_|(refine zg Z (f0) ?_)|(refine zg Z (f1) ?_)|(refine zg Z (f2) ?_)|refine zW Z ?_|refine yP Z ?_|refine yN Z ?_|refine zC Z (fun hb=>?_) fun hb=>?_|refine zG Z (fun hb=>?_) fun hb=>?_|refine zD Z (fun hb=>?_) fun hb=>?_);all_goals clear Z)
 ·have h0:(splitS l).1≠0:=by simpa using hb
  refine yT hC (oj hn_g2 (oj hne hne')) ?_
  rw [if_pos h0]
  exact .tup ⟨.agg lerl_gt0,.c ler_err,trivial⟩
 have h0:¬(splitS l).1≠0:=by simpa using hb
 rw [if_neg h0]
 refine yA (oj hn_g2 (oj hne hne')) fun g3 hn_g3=>?_
 have J1:=oj hn_g2 (oj hne (oj hne' hn_g3))
 refine yW J1 ?_
 refine yS J1 ?_
 all_goals try(have Z:=J1;(repeat' first|refine yA1 Z ?_|(refine zg Z (f2) ?_)|refine zW Z ?_|refine yP Z ?_|refine yN Z ?_|refine zC Z (fun hb=>?_) fun hb=>?_|refine zG Z (fun hb=>?_) fun hb=>?_|refine zD Z (fun hb=>?_) fun hb=>?_);all_goals clear Z)
 ·have h1:(endS s2).e≠0:=by simpa using hb
  refine yT hC J1 ?_
  rw [if_pos h1]
  exact .tup ⟨.agg lerl_gt0,.c ler_err,trivial⟩
 ·have h1:¬(endS s2).e≠0:=by simpa using hb
  refine yT hC J1 ?_
  rw [if_neg h1]
  exact .tup ⟨.agg lerl_gt,.c (ler_err0 rfl),trivial⟩
end Go.Proofs.YteocnikcjjonbaaGreat
namespace Go.PN
open Go.AI
def modelP (ck:MdD→Int) (l:BS):MdD×Int:=if(splitS l).1≠0 then(md0,(splitS l).1) else let r:=readS ⟨(splitS l).2,0⟩;if r.2.e≠0 then(md0,r.2.e) else if ck r.1≠0 then(md0,ck r.1) else(r.1,0)
theorem MdSm.mono {m:MdD} {a b:Nat} (h:MdSm m a) (hab:a≤b):MdSm m b:=⟨Nat.le_trans h.e hab,Nat.le_trans h.h hab,Nat.le_trans h.g hab,Nat.le_trans h.p hab,Nat.le_trans h.r hab,Nat.le_trans h.s hab⟩
theorem MdSm.stB {m:MdD} {n:Nat} (h:MdSm m n) (s:PS):MdSm (stB m s).1 (n+1):=by
 obtain⟨h1,h2,h3,h4,h5,h6⟩:=h
 unfold Go.PN.stB
 dsimp only
 repeat' split
 all_goals constructor
 all_goals first|(dsimp only;rw [List.length_append];exact Nat.succ_le_succ (by assumption))|(dsimp only;omega)
end Go.PN
namespace Go.Proofs.YteocnikcjjonbaaGreat
open Go.AI Go.PN
attribute [local irreducible] aw Fa Fh DrK
theorem pmodel_fa (ck:MdD→Int) (l:BS) (hl:l.length≤1099511627776) (hn:(splitS l).2.length≤1048576) (hw:∀t∈(splitS l).2,t.text.length≤1099511627776) (hck:(readS ⟨(splitS l).2,0⟩).2.e=0→Fa Tryz.prog 14 [.agg (mdc true (readS ⟨(splitS l).2,0⟩).1)] (.c (errA (ck (readS ⟨(splitS l).2,0⟩).1)))):Fa Tryz.prog 10 [.c (.str (sB l))] (.tup [.agg (mdc true (modelP ck l).1),.c (errA (modelP ck l).2)]):=by
 refine fa_of_body Tryz.func10 rfl rfl (by simp [Tryz.ntmps10]) fun C hC=> ?_
 simp only [initS,Nat.reduceAdd]
 repeat' first|refine yA1 o0 ?_|refine zW o0 ?_|refine yP o0 ?_|refine yN o0 ?_|refine zC o0 (fun hb=>?_) fun hb=>?_|refine zG o0 (fun hb=>?_) fun hb=>?_|refine zD o0 (fun hb=>?_) fun hb=>?_
 refine xA fun g2 hn_g2=>?_
 repeat' first|refine yA1 hn_g2 ?_|refine zW hn_g2 ?_|refine yP hn_g2 ?_|refine yN hn_g2 ?_|refine zC hn_g2 (fun hb=>?_) fun hb=>?_|refine zG hn_g2 (fun hb=>?_) fun hb=>?_|refine zD hn_g2 (fun hb=>?_) fun hb=>?_
 refine aw_callh (hr:=[(g2,.cells 30 8 (ofL [.str (sB []),.str (sB []),.nils,.nils,.nils,.nils,.nils,.nils]))]) (begin_fh l hl) rfl rfl rfl (.refl _) (zL hn_g2) ?_
 rintro r h' ⟨out,g,ho,rfl,rfl⟩ hgg
 have hne:g≠g2:=by simpa [Heap.keys] using hgg
 have hne':g2≠g:=fun e=>hne e.symm
 clear hgg
 simp only [List.cons_append,List.nil_append]
 have hs:(PS.mk (splitS l).2 0).l<:+out.map TX.t:=by rw [ho];exact List.suffix_refl _
 have hL:out.length≤1048576:=by rw [←List.length_map TX.t,ho];exact hn
 have hw':∀t∈out,t.t.text.length≤1099511627776:=fun t ht=>hw t.t (by rw [←ho];exact List.mem_map_of_mem ht)
 clear hw hn
 unfold modelP
 unfold readS at hck⊢
 dsimp only at hck⊢
 have f0:=expect_fg g out ⟨(splitS l).2,0⟩ kModel hs om
 have hs1:=((rdr_exp kModel).suf ⟨(splitS l).2,0⟩).trans hs
 generalize expS kModel ⟨(splitS l).2,0⟩=s1 at*
 have f1:=word_fg g out s1 hs1 om
 have hs2:=suf_word hs1
 generalize wordS s1=r at*
 obtain⟨nm,s2⟩:=r
 dsimp only at*
 have f2:=expect_fg g out s2 kSemi hs2 om
 have hs3:(expS kSemi s2).l<:+out.map TX.t:=((rdr_exp kSemi).suf s2).trans hs2
 generalize expS kSemi s2=s3 at*
 generalize hF:lpS (fun s=> !isS s kTop) stB {md0 with name:=nm} s3=F at*
 have hs4:F.2.l<:+out.map TX.t:=by rw [←hF];exact((rdr_lp rdr_stB _).suf s3).trans hs3
 have f3:=expect_fg g out F.2 kTop hs4 om
 have hs5:(expS kTop F.2).l<:+out.map TX.t:=((rdr_exp kTop).suf F.2).trans hs4
 generalize expS kTop F.2=s5 at*
 have f4:=input_fg g out s5 hs5 om hw'
 have hs6:=(rdr_input.suf s5).trans hs5
 generalize inputS s5=r at*
 obtain⟨tp,s6⟩:=r
 dsimp only at*
 have f5:=expect_fg g out s6 kSemi hs6 om
 have hs7:(expS kSemi s6).l<:+out.map TX.t:=((rdr_exp kSemi).suf s6).trans hs6
 generalize expS kSemi s6=s7 at*
 have f6:=end_fg g out s7 hs7 om
 all_goals try(have Z:=(oj hn_g2 (oj hne hne'));(repeat' first|refine yA1 Z ?_|refine zW Z ?_|refine yP Z ?_|refine yN Z ?_|refine zC Z (fun hb=>?_) fun hb=>?_|refine zG Z (fun hb=>?_) fun hb=>?_|refine zD Z (fun hb=>?_) fun hb=>?_);all_goals clear Z)
 ·have h0:(splitS l).1≠0:=by simpa using hb
  refine yT hC (oj hn_g2 (oj hne hne')) ?_
  rw [if_pos h0]
  exact .tup ⟨.agg lerl_md0,.c ler_err,trivial⟩
 have h0:¬(splitS l).1≠0:=by simpa using hb
 rw [if_neg h0]
 refine yA (oj hn_g2 (oj hne hne')) fun gM hn_gM=>?_
 have J1:=oj hn_g2 (oj hne (oj hne' hn_gM))
 refine yW J1 ?_
 refine yS J1 ?_
 all_goals try(have Z:=J1;(repeat' first|refine yA1 Z ?_|(refine zg Z (f0) ?_)|(refine zg Z (f1) ?_)|refine zW Z ?_|refine yP Z ?_|refine yN Z ?_|refine zC Z (fun hb=>?_) fun hb=>?_|refine zG Z (fun hb=>?_) fun hb=>?_|refine zD Z (fun hb=>?_) fun hb=>?_);all_goals clear Z)
 refine aw_cg f2 rfl rfl rfl (zE J1) (zL2 o0) ?_
 refine yS J1 ?_
 refine yH J1 ?_
 apply wa1
 refine aw_cut (fun _:Og=>[(2,.c (.optr g2 0)),(3,.c .nilI),(4,.c (.optr g 0)),(6,.c (.optr gM 0))]) (fun o=>[(gM,mdO F.1 o),(g,rdO out F.2)]++mdT F.1 o++[(g2,.cells 30 8 (ofL [.str (sB []),.str (sB []),.nils,.nils,.nils,.nils,.nils,.nils]))]) (fun o=>OgOk F.1 o) ?_ ?_
 ·apply wa2
  refine aw_lp (fun _:PS×MdD×Og=>[(2,.c (.optr g2 0)),(3,.c .nilI),(4,.c (.optr g 0)),(6,.c (.optr gM 0))]) (fun x=>[(gM,mdO x.2.1 x.2.2),(g,rdO out x.1)]++mdT x.2.1 x.2.2++[(g2,.cells 30 8 (ofL [.str (sB []),.str (sB []),.nils,.nils,.nils,.nils,.nils,.nils]))])
   (fun x=>x.1.l<:+out.map TX.t∧OgOk x.2.1 x.2.2∧MdSm x.2.1 (1048577-mS x.1)∧lpS (fun s=> !isS s kTop) stB x.2.1 x.1=F) (fun x=>mS x.1) (s3,{md0 with name:=nm},⟨none,none,none,none,none,none⟩) (zB J1) zZ ⟨hs3,⟨fun _=>rfl,fun _=>rfl,fun _=>rfl,fun _=>rfl,fun _=>rfl,fun _=>rfl⟩,⟨Nat.zero_le _,Nat.zero_le _,Nat.zero_le _,Nat.zero_le _,Nat.zero_le _,Nat.zero_le _⟩,hF⟩ ?_
  rintro ⟨sx,m,o⟩ ⟨hsx,hog,hm,hlp⟩
  dsimp only at hsx hog hm hlp⊢
  simp only [List.cons_append,List.nil_append]
  have i0:=is_fg g out sx kTop hsx om
  all_goals try(have Z:=J1;(repeat' first|refine yA1 Z ?_|(refine zg Z (i0) ?_)|refine zW Z ?_|refine yP Z ?_|refine yN Z ?_|refine zC Z (fun hb=>?_) fun hb=>?_|refine zG Z (fun hb=>?_) fun hb=>?_|refine zD Z (fun hb=>?_) fun hb=>?_);all_goals clear Z)
  ·rename_i hz
   have hc:(fun s=> !isS s kTop) sx=true:=hb
   have hst:=lpS_step (c:=fun s=> !isS s kTop) (b:=stB) (a:=m) (fun a s h _=>con_stB a s h) hz hc
   have hlt:=con_stB m sx hz
   rw [hst] at hlp
   have hsy:(stB m sx).2.l<:+out.map TX.t:=((rdr_stB m).suf sx).trans hsx
   have hm1:1≤mS sx:=by unfold mS;rw [if_pos hz];omega
   have hm2:mS sx≤1048577:=by
    have:=hsx.length_le
    rw [List.length_map] at this
    unfold mS
    split<;>omega
   have hf:=statement_fh gM g out sx m o hsx hL hw' hog (hm.mono om)
   have hm3:=(hm.stB sx).mono (show _≤1048577-mS (stB m sx).2 by omega)
   refine aw_callh (hr:=[(g2,.cells 30 8 (ofL [.str (sB []),.str (sB []),.nils,.nils,.nils,.nils,.nils,.nils]))]) hf rfl rfl rfl (by simp only [List.cons_append,List.nil_append];exact .refl _) (zL J1) ?_
   rintro r h' ⟨rfl,o',ho',rfl⟩ _
   all_goals try(have Z:=J1;(repeat' first|refine yA1 Z ?_|refine zW Z ?_|refine yP Z ?_|refine yN Z ?_|refine zC Z (fun hb=>?_) fun hb=>?_|refine zG Z (fun hb=>?_) fun hb=>?_|refine zD Z (fun hb=>?_) fun hb=>?_);all_goals clear Z)
   refine aw_stop ⟨((stB m sx).2,(stB m sx).1,o'),?_⟩
   refine⟨hlt,?_⟩
   and_intros
   all_goals first|rfl|exact List.Sublist.refl _|exact True.intro|exact hsy|exact ho'|exact hm3|exact hlp
  ·have hc:¬(sx.e=0∧(fun s=> !isS s kTop) sx=true):=fun z=>by rw [show(fun s=> !isS s kTop) sx=false from hb] at z;exact absurd z.2 (by decide)
   rw [lpS_end hc] at hlp
   subst hlp
   refine aw_stop ⟨o,?_⟩
   and_intros<;>first|rfl|exact List.Sublist.refl _|exact True.intro|exact hog
  ·have hc:¬(sx.e=0∧(fun s=> !isS s kTop) sx=true):=fun z=>hb z.1
   rw [lpS_end hc] at hlp
   subst hlp
   refine aw_stop ⟨o,?_⟩
   and_intros<;>first|rfl|exact List.Sublist.refl _|exact True.intro|exact hog
 rintro o hog
 try dsimp only at hog⊢
 refine aw_perm (h':=(gM,mdO F.1 o)::(gh o.e 61 (F.1.events.length*11) (evsF F.1.events)++(gh o.h 125 (F.1.houses.length*2) (hssF F.1.houses)++(gh o.g 65 (F.1.gates.length*7) (gtsF F.1.gates)++(gh o.p 128 (F.1.pages.length*3) (pgsF F.1.pages)++(gh o.r 100 (F.1.groups.length*4) (grsF F.1.groups)++(gh o.s 104 (F.1.phases.length*3) (phsF F.1.phases)++([(g,rdO out F.2),(g2,.cells 30 8 (ofL [.str (sB []),.str (sB []),.nils,.nils,.nils,.nils,.nils,.nils]))])))))))) (.cons _ ?_) ?_
 ·have e:gh o.e 61 (F.1.events.length*11) (evsF F.1.events)++(gh o.h 125 (F.1.houses.length*2) (hssF F.1.houses)++(gh o.g 65 (F.1.gates.length*7) (gtsF F.1.gates)++(gh o.p 128 (F.1.pages.length*3) (pgsF F.1.pages)++(gh o.r 100 (F.1.groups.length*4) (grsF F.1.groups)++(gh o.s 104 (F.1.phases.length*3) (phsF F.1.phases)++([(g,rdO out F.2),(g2,.cells 30 8 (ofL [.str (sB []),.str (sB []),.nils,.nils,.nils,.nils,.nils,.nils]))]))))))=mdT F.1 o++[(g,rdO out F.2),(g2,.cells 30 8 (ofL [.str (sB []),.str (sB []),.nils,.nils,.nils,.nils,.nils,.nils]))]:=by
   unfold mdT
   simp only [List.flatten_cons,List.flatten_nil,List.append_assoc,List.append_nil,List.nil_append]
  rw [e]
  exact(List.perm_middle (l₁:=mdT F.1 o)).symm
 refine aw_frzG (j0:=2) (n:=F.1.events.length) (s:=11) (f':=ofL [.str (sB F.1.name),.str (sB F.1.top),evs true F.1.events,gs o.h 2 F.1.houses.length,gs o.g 7 F.1.gates.length,gs o.p 3 F.1.pages.length,gs o.r 4 F.1.groups.length,gs o.s 3 F.1.phases.length]) rfl rfl (fun j hj hj3=>by
  match j,hj,hj3 with
  |0,_,_=>rfl
  |1,_,_=>rfl
  |2,_,h=>exact absurd rfl h
  |3,_,_=>rfl
  |4,_,_=>rfl
  |5,_,_=>rfl
  |6,_,_=>rfl
  |7,_,_=>rfl
  |j+8,h,_=>exact absurd h om) hog.e (fun g _=>hC g) ?_
 refine aw_frzG (j0:=3) (n:=F.1.houses.length) (s:=2) (f':=ofL [.str (sB F.1.name),.str (sB F.1.top),evs true F.1.events,hss true F.1.houses,gs o.g 7 F.1.gates.length,gs o.p 3 F.1.pages.length,gs o.r 4 F.1.groups.length,gs o.s 3 F.1.phases.length]) rfl rfl (fun j hj hj3=>by
  match j,hj,hj3 with
  |0,_,_=>rfl
  |1,_,_=>rfl
  |2,_,_=>rfl
  |3,_,h=>exact absurd rfl h
  |4,_,_=>rfl
  |5,_,_=>rfl
  |6,_,_=>rfl
  |7,_,_=>rfl
  |j+8,h,_=>exact absurd h om) hog.h (fun g _=>hC g) ?_
 refine aw_frzG (j0:=4) (n:=F.1.gates.length) (s:=7) (f':=ofL [.str (sB F.1.name),.str (sB F.1.top),evs true F.1.events,hss true F.1.houses,gts true F.1.gates,gs o.p 3 F.1.pages.length,gs o.r 4 F.1.groups.length,gs o.s 3 F.1.phases.length]) rfl rfl (fun j hj hj3=>by
  match j,hj,hj3 with
  |0,_,_=>rfl
  |1,_,_=>rfl
  |2,_,_=>rfl
  |3,_,_=>rfl
  |4,_,h=>exact absurd rfl h
  |5,_,_=>rfl
  |6,_,_=>rfl
  |7,_,_=>rfl
  |j+8,h,_=>exact absurd h om) hog.g (fun g _=>hC g) ?_
 refine aw_frzG (j0:=5) (n:=F.1.pages.length) (s:=3) (f':=ofL [.str (sB F.1.name),.str (sB F.1.top),evs true F.1.events,hss true F.1.houses,gts true F.1.gates,pgs true F.1.pages,gs o.r 4 F.1.groups.length,gs o.s 3 F.1.phases.length]) rfl rfl (fun j hj hj3=>by
  match j,hj,hj3 with
  |0,_,_=>rfl
  |1,_,_=>rfl
  |2,_,_=>rfl
  |3,_,_=>rfl
  |4,_,_=>rfl
  |5,_,h=>exact absurd rfl h
  |6,_,_=>rfl
  |7,_,_=>rfl
  |j+8,h,_=>exact absurd h om) hog.p (fun g _=>hC g) ?_
 refine aw_frzG (j0:=6) (n:=F.1.groups.length) (s:=4) (f':=ofL [.str (sB F.1.name),.str (sB F.1.top),evs true F.1.events,hss true F.1.houses,gts true F.1.gates,pgs true F.1.pages,grs true F.1.groups,gs o.s 3 F.1.phases.length]) rfl rfl (fun j hj hj3=>by
  match j,hj,hj3 with
  |0,_,_=>rfl
  |1,_,_=>rfl
  |2,_,_=>rfl
  |3,_,_=>rfl
  |4,_,_=>rfl
  |5,_,_=>rfl
  |6,_,h=>exact absurd rfl h
  |7,_,_=>rfl
  |j+8,h,_=>exact absurd h om) hog.r (fun g _=>hC g) ?_
 refine aw_frzG (j0:=7) (n:=F.1.phases.length) (s:=3) (f':=ofL [.str (sB F.1.name),.str (sB F.1.top),evs true F.1.events,hss true F.1.houses,gts true F.1.gates,pgs true F.1.pages,grs true F.1.groups,phs true F.1.phases]) rfl rfl (fun j hj hj3=>by
  match j,hj,hj3 with
  |0,_,_=>rfl
  |1,_,_=>rfl
  |2,_,_=>rfl
  |3,_,_=>rfl
  |4,_,_=>rfl
  |5,_,_=>rfl
  |6,_,_=>rfl
  |7,_,h=>exact absurd rfl h
  |j+8,h,_=>exact absurd h om) hog.s (fun g _=>hC g) ?_
 all_goals try(have Z:=J1;(repeat' first|refine yA1 Z ?_|(refine zg Z (f3) ?_)|(refine zg Z (f4) ?_)|(refine zg Z (f5) ?_)|(refine zg Z (f6) ?_)|refine zW Z ?_|refine yP Z ?_|refine yN Z ?_|refine zC Z (fun hb=>?_) fun hb=>?_|refine zG Z (fun hb=>?_) fun hb=>?_|refine zD Z (fun hb=>?_) fun hb=>?_);all_goals clear Z)
 ·have h1:(endS s7).e≠0:=by simpa using hb
  refine yT hC J1 ?_
  rw [if_pos h1]
  exact .tup ⟨.agg lerl_md0,.c ler_err,trivial⟩
 have h1:¬(endS s7).e≠0:=by simpa using hb
 rw [if_neg h1]
 have f7:=hck (by simpa using h1)
 all_goals try(have Z:=J1;(repeat' first|refine yA1 Z ?_|(refine yC2 Z (f7) ?_)|(refine yD2 Z (f7) ?_)|refine zW Z ?_|refine yP Z ?_|refine yN Z ?_|refine zC Z (fun hb=>?_) fun hb=>?_|refine zG Z (fun hb=>?_) fun hb=>?_|refine zD Z (fun hb=>?_) fun hb=>?_);all_goals clear Z)
 ·have h2:ck {F.1 with top:=tp}≠0:=by simpa using hb
  refine yT hC J1 ?_
  rw [if_pos h2]
  exact .tup ⟨.agg lerl_md0,.c ler_err,trivial⟩
 ·have h2:¬ck {F.1 with top:=tp}≠0:=by simpa using hb
  refine yT hC J1 ?_
  rw [if_neg h2]
  exact .tup ⟨.agg (lerl_md (x:={F.1 with top:=tp})),.c (ler_err0 rfl),trivial⟩
end Go.Proofs.YteocnikcjjonbaaGreat
namespace Go.PN
def RD.prob (r:RD):Bool:=r.valid&&decide (0≤r.q)&&decide (r.q≤1)
theorem sq_le_one {n d:Nat} (hd:d≠0):sq false n d≤1↔n≤d:=by
 unfold sq sgn
 simp only [Bool.false_eq_true,if_false]
 rw [Rat.mkRat_eq_div]
 have hd0:(0:Rat)<(d:Rat):=by
  have:((0:Nat):Rat)<(d:Rat):=Rat.natCast_lt_natCast.2 om
  exact this
 have hne:(d:Rat)≠0:=fun e=>by rw [e] at hd0;exact Rat.lt_irrefl hd0
 have hx:((n:Int):Rat)/(d:Rat)*(d:Rat)=(n:Rat):=by
  have h1:((n:Int):Rat)=(n:Rat):=rfl
  rw [h1,Rat.div_def,Rat.mul_assoc,Rat.inv_mul_cancel _ hne,Rat.mul_one]
 generalize ((n:Int):Rat)/(d:Rat)=x at hx
 constructor
 ·intro h
  have h1:=Rat.mul_le_mul_of_nonneg_right h (Rat.le_of_lt hd0)
  rw [hx,Rat.one_mul] at h1
  exact Rat.natCast_le_natCast.1 h1
 ·intro h
  have h1:(n:Rat)≤(d:Rat):=Rat.natCast_le_natCast.2 h
  rw [←hx] at h1
  refine Rat.not_lt.1 fun hlt=> ?_
  have h2:=Rat.mul_lt_mul_of_pos_right hlt hd0
  rw [Rat.one_mul] at h2
  exact absurd h1 (Rat.not_le.2 h2)
theorem prob_eq {r:RD} {L:Nat} (hw:r.wf L) (hv:r.valid=true):((!r.neg)&&decide (cmpN (val r.num) (val r.den)≤0))=(decide (0≤r.q)&&decide (r.q≤1)):=by
 cases hs:r.some with
 |false=>
  have hn:r.num.length=0:=by
   simp only [RD.some,hv,Bool.true_and,decide_eq_false_iff_not,ne_eq,Classical.not_not] at hs
   exact hs
  have hq:r.q=0:=by unfold RD.q RD.pn;simp [hs,sq_zero]
  have hv':=hv
  unfold RD.valid at hv'
  split at hv'
  ·rename_i h
   have h1:r.num=[]:=List.length_eq_zero_iff.1 h.1
   have h2:r.den=[]:=List.length_eq_zero_iff.1 h.2
   rw [hq,h1,h2]
   simp only [Bool.not_eq_true'] at hv'
   simp [hv',val,cmpN]
   decide
  ·simp [plainB,hn] at hv'
 |true=>
  obtain⟨h1,h2,h3,h4,h5⟩:=RD.some_spec hw hs
  have hq:r.q=sq r.neg (val r.num) (val r.den):=by unfold RD.q RD.ps RD.pn RD.pd;simp [hs]
  rw [hq]
  have hneg:=sq_lt (neg:=r.neg) h3 h4
  cases hb:r.neg with
  |true=>
   rw [hb] at hneg
   have:¬(0≤sq true (val r.num) (val r.den)):=Rat.not_le.2 (hneg.2 rfl)
   simp [this]
  |false=>
   rw [hb] at hneg
   have hge:0≤sq false (val r.num) (val r.den):=Rat.not_lt.1 fun h=>by cases hneg.1 h
   have hle:=sq_le_one (n:=val r.num) h4
   have hc:cmpN (val r.num) (val r.den)≤0↔val r.num≤val r.den:=by
    unfold cmpN
    split
    ·constructor<;>intro _<;>omega
    ·split<;>constructor<;>intro _<;>omega
   simp only [hge,decide_true,Bool.true_and,Bool.not_false,hle,hc]
end Go.PN
namespace Go.Proofs.YteocnikcjjonbaaGreat
open Go.AI Go.PN
attribute [local irreducible] aw Fa Fh DrK
theorem rprob_fa (r:RD) (hw:r.wf 1073741824):Fa Tryz.prog 85 [.agg (rdc r)] (.c (.bool r.prob)):=by
 have h1:=hw.2.2.1
 have h2:=hw.2.2.2
 refine fa_of_body Tryz.func85 rfl rfl (by simp [Tryz.ntmps85]) fun C hC=> ?_
 simp only [initS,Nat.reduceAdd]
 refine xG ?_
 refine xB fun g1 hn_g1=>?_
 refine yG hn_g1 ?_
 refine yC hn_g1 (rvalid_fa r (wf_mono hw ?_)) ?_
 ·omega
 refine yG hn_g1 ?_
 unfold RD.prob
 refine aw_split 5 (zE hn_g1) (fun hv=> ?_) (fun hv=> ?_)<;>refine yS hn_g1 ?_
 ·have hp:=prob_eq hw hv
  refine yG hn_g1 ?_
  refine aw_split 10 (zE hn_g1) (fun hn=> ?_) (fun hn=> ?_)<;>refine yS hn_g1 ?_
  ·refine yG hn_g1 ?_
   refine yC hn_g1 (cmp_fa _ _ hw.1 hw.2.1 ?_ ?_) ?_
   ·omega
   ·omega
   refine yGT hC hn_g1 ?_
   refine .one (.c (ler_bool ?_))
   rw [hv,Bool.true_and,←hp,hn,Bool.true_and]
  ·refine yGT hC hn_g1 ?_
   refine .one (.c (ler_bool ?_))
   rw [hv,Bool.true_and,←hp,hn,Bool.false_and]
 ·refine yGT hC hn_g1 ?_
  refine .one (.c (ler_bool ?_))
  rw [hv,Bool.false_and,Bool.false_and]
end Go.Proofs.YteocnikcjjonbaaGreat
namespace Go.PN
open Go.AI
variable {α β σ : Type}
def fidx (p:α→Bool):List α→Int
 |[]=> -1
 |x::l=>if p x then 0 else if fidx p l<0 then-1 else fidx p l+1
theorem fidx_ge (p:α→Bool):∀l:List α,-1≤fidx p l
 |[]=>Int.le_refl _
 |x::l=>by
  have:=fidx_ge p l
  unfold fidx
  split
  ·decide
  ·split<;>omega
theorem fidx_lt (p:α→Bool):∀l:List α,fidx p l<l.length
 |[]=>(show(-1:Int)<0 from by decide)
 |x::l=>by
  have:=fidx_lt p l
  unfold fidx
  rw [List.length_cons]
  split
  ·omega
  ·split<;>omega
theorem fidx_no {p:α→Bool} (d:α):∀{l:List α},(∀j,j<l.length→p (l.getD j d)=false)→fidx p l= -1
 |[],_=>rfl
 |x::l,h=>by
  have h0:p x=false:=by simpa using h 0 (by simp)
  have ih:=fidx_no d (l:=l) fun j hj=>by simpa using h (j+1) (by simpa using hj)
  unfold fidx
  rw [h0,ih];rfl
theorem fidx_at {p:α→Bool} (d:α):∀{l:List α} {i:Nat},i<l.length→p (l.getD i d)=true→(∀j,j<i→p (l.getD j d)=false)→fidx p l=i
 |x::l,0,_,h,_=>by
  have:p x=true:=by simpa using h
  unfold fidx
  rw [this];rfl
 |x::l,i+1,hl,h,hn=>by
  have h0:p x=false:=by simpa using hn 0 om
  have ih:=fidx_at d (l:=l) (i:=i) (by simpa using hl) (by simpa using h) fun j hj=>by simpa using hn (j+1) om
  unfold fidx
  rw [h0,ih]
  rw [if_neg (by decide),if_neg om]
  omega
def frst (f:Nat→α→Int):List α→Nat→Int
 |[],_=>0
 |x::l,i=>if f i x=0 then frst f l (i+1) else f i x
theorem frst_step {f:Nat→α→Int} (d:α) {l:List α} {i:Nat} (h:i<l.length):frst f (l.drop i) i=if f i (l.getD i d)=0 then frst f (l.drop (i+1)) (i+1) else f i (l.getD i d):=by
 rw [List.drop_eq_getElem_cons h,List.getD_eq_getElem?_getD,List.getElem?_eq_getElem h];rfl
theorem frst_end {f:Nat→α→Int} {l:List α} {i:Nat} (h:¬i<l.length):frst f (l.drop i) i=0:=by rw [List.drop_of_length_le om];rfl
def frsS (f:Nat→α→σ→Int×σ):List α→Nat→σ→Int×σ
 |[],_,s=>(0,s)
 |x::l,i,s=>if(f i x s).1=0 then frsS f l (i+1) (f i x s).2 else f i x s
theorem frsS_step {f:Nat→α→σ→Int×σ} (d:α) {l:List α} {i:Nat} {s:σ} (h:i<l.length):frsS f (l.drop i) i s=if(f i (l.getD i d) s).1=0 then frsS f (l.drop (i+1)) (i+1) (f i (l.getD i d) s).2 else f i (l.getD i d) s:=by
 rw [List.drop_eq_getElem_cons h,List.getD_eq_getElem?_getD,List.getElem?_eq_getElem h];rfl
theorem frsS_end {f:Nat→α→σ→Int×σ} {l:List α} {i:Nat} {s:σ} (h:¬i<l.length):frsS f (l.drop i) i s=(0,s):=by rw [List.drop_of_length_le om];rfl
def frsN (f:Nat→σ→Int×σ):Nat→Nat→σ→Int×σ
 |0,_,s=>(0,s)
 |n+1,i,s=>if(f i s).1=0 then frsN f n (i+1) (f i s).2 else f i s
def orC (a b:Int):Int:=if a=0 then b else a
def evI (m:MdD) (n:BS):Int:=fidx (fun x=>x.name==n) m.events
def hsI (m:MdD) (n:BS):Int:=fidx (fun x=>x.name==n) m.houses
def gtI (l:List GtD) (n:BS):Int:=fidx (fun x=>x.name==n) l
def pgI (m:MdD) (n:BS):Int:=fidx (fun x=>x.name==n) m.pages
def gtsK (m:MdD):Nat→List GtD
 |0=>m.gates
 |k+1=>(m.pages.getD k pg0).gates
def rateB (r:RD):Bool:=r.valid&&decide (signQ r.q≥0)
def nameOk (s:BS):Bool:=decide (0<s.length)&&decide (s.length≤24)&&isLet (bAt s 0)&&decide (spanE isIns s 0=s.length)
def evC (m:MdD) (i:Nat) (x:EvD):Int:=if nameOk x.name=false then 5 else if evI m x.name<i then 6
 else if x.p.prob=false∨rateB x.fail=false∨rateB x.rep=false∨x.cost<0∨x.cost>1073741824 then 3 else 0
def hsC (m:MdD) (i:Nat) (x:HsD):Int:=if nameOk x.name=false then 5 else if evI m x.name≥0∨hsI m x.name<i then 6 else 0
def evhC (m:MdD):Int:=if m.events.length>24 then 4 else orC (frst (evC m) m.events 0) (if m.houses.length>16 then 4 else frst (hsC m) m.houses 0)
def gtN (m:MdD):Nat:=m.gates.length+(m.pages.map fun p=>p.gates.length).sum
def pgC (m:MdD) (i:Nat) (x:PgD):Int:=if nameOk x.name=false then 5 else if pgI m x.name<i then 6 else 0
def pgsC (m:MdD):Int:=if m.pages.length>8∨gtN m>64 then 4 else frst (pgC m) m.pages 0
def inpB (k:Int) (n:Nat):Bool:=if k=3 then n==1 else if k=5 then n==2 else if k=6∨k=7∨k=8 then decide (n≥2)&&decide (n≤16) else decide (n≥1)&&decide (n≤16)
def zeroB (r:RD):Bool:= !r.neg&&r.num.length==0&&r.den.length==0
def shpC (x:GtD):Int:=if x.kind<0∨x.kind>8 then 7 else if inpB x.kind x.inputs.length=false then 11
 else if x.kind=2∧(x.k<1∨x.k>x.inputs.length) then 3 else if x.kind≠2∧x.k≠0 then 2
 else if x.kind=7∧x.dorm.prob=false then 3 else if x.kind≠7∧zeroB x.dorm=false then 2 else 0
def gtC (m:MdD) (k:Nat) (i:Nat) (x:GtD):Int:=if nameOk x.name=false then 5 else if evI m x.name≥0∨hsI m x.name≥0∨gtI (gtsK m k) x.name<i then 6 else shpC x
def gtsC (m:MdD) (k:Nat):Int:=frst (gtC m k) (gtsK m k) 0
def isInp (m:MdD) (k:Nat) (i:BS):Bool:=if 0<i.length∧bAt i 0=64 then decide (pgI m (i.drop 1)≥0) else decide (evI m i≥0)||decide (hsI m i≥0)||decide (gtI (gtsK m k) i≥0)
def mustE (x:GtD) (j:Nat):Bool:=decide (x.kind=7)||(decide (x.kind=8)&&decide (j>0))
def inI (m:MdD) (k:Nat) (x:GtD) (j:Nat) (i:BS) (sp:List BS):Int×List BS:=if isInp m k i=false then(5,sp) else if mustE x j=true∧evI m i<0 then(7,sp)
 else if x.kind=7 then(if sp.contains i then(6,sp) else(0,sp++[i])) else(0,sp)
def inG (m:MdD) (k:Nat) (_:Nat) (x:GtD) (sp:List BS):Int×List BS:=frsS (inI m k x) x.inputs 0 sp
def tpC (m:MdD):Nat→Int
 |0=>0
 |k+1=>if gtI (m.pages.getD k pg0).gates (m.pages.getD k pg0).top<0∧evI m (m.pages.getD k pg0).top<0 then 5 else 0
def inP (m:MdD) (k:Nat) (sp:List BS):Int×List BS:=if(frsS (inG m k) (gtsK m k) 0 sp).1=0 then(tpC m k,(frsS (inG m k) (gtsK m k) 0 sp).2) else frsS (inG m k) (gtsK m k) 0 sp
def meC (m:MdD) (_:Nat) (n:BS) (ms:List BS):Int×List BS:=if evI m n<0 then(5,ms) else if ms.contains n then(6,ms) else(0,ms++[n])
def grC (m:MdD) (i:Nat) (x:GrD) (ms:List BS):Int×List BS:=if nameOk x.name=false then(5,ms) else if fidx (fun y=>y.name==x.name) m.groups<i then(6,ms)
 else if x.kind≠0∧x.kind≠1 then(7,ms)
 else if(x.members.length:Int)<2∨(x.members.length:Int)>(if x.kind=1 then 4 else 24)∨(x.factors.length:Int)≠(if x.kind=1 then(x.members.length:Int)-1 else 1) then(11,ms)
 else if(frsS (meC m) x.members 0 ms).1≠0 then frsS (meC m) x.members 0 ms
 else if x.factors.all RD.prob=false then(3,ms) else(0,(frsS (meC m) x.members 0 ms).2)
def grsC (m:MdD):Int:=if m.groups.length>8 then 4 else(frsS (grC m) m.groups 0 []).1
def vlC (m:MdD) (x:PhD) (k:Nat) (v:VlD):Int:=if evI m v.event<0 then 5 else if fidx (fun y=>y.event==v.event) x.values<k then 6 else if v.p.prob=false then 3 else 0
def phC (m:MdD) (i:Nat) (x:PhD):Int:=if nameOk x.name=false then 5 else if fidx (fun y=>y.name==x.name) m.phases<i then 6 else if isInp m 0 x.top=false then 5 else frst (vlC m x) x.values 0
def phsC (m:MdD):Int:=if m.phases.length>6 then 4 else frst (phC m) m.phases 0
def mcode0 (m:MdD):Int:=orC (if nameOk m.name then 0 else 5) (orC (evhC m) (orC (pgsC m) (orC (frsN (fun k (_:Unit)=>(gtsC m k,())) (m.pages.length+1) 0 ()).1
 (orC (frsN (inP m) (m.pages.length+1) 0 []).1 (orC (if isInp m 0 m.top then 0 else 5) (orC (grsC m) (phsC m)))))))
end Go.PN
namespace Go.AI
section
variable {E : Env} {K : List It} {σ σ' : Sl} {h : Heap} {all l rest : List Oper} {o : Oper}
theorem aw_cgv {f:FuncId} {x:Operand} {xs:List Operand} {ts:Array TypeId} {g:Nat} {ob ob':AObj} {args:List AV} {r:AV} (hf:Fg E.P f g ob (args++[.c (.optr g 0)]) r ob') (hop:o.op=.call {callee:=.value x,args:=xs.toArray,argTypes:=ts}) (hw:wantA all σ o=some true) (hd:dstOk E.N o.dst=true)
  (hx:ev σ x=.c (fnC f [g])) (hg:h.get g=some ob) (le:LeA [] (xs.map (ev σ)) args) (k:aw E (.ops all rest::K) (σ.setO o.dst r) (h.set g ob')):aw E (.ops all (o::rest)::K) σ h:=by
 refine aw_callhv (gs:=[g]) hf hop hw hd hx (hr:=h.del g) (Heap.get_perm hg) le ?_
 rintro _ _ ⟨rfl,rfl⟩ _
 exact aw_perm (Heap.set_perm hg).symm k
end
end Go.AI
namespace Go.Proofs.YteocnikcjjonbaaGreat
open Go.AI Go.PN
abbrev stO (n:BS):AObj:=.cells 9 1 (ofL [.str (sB n)])
attribute [local irreducible] aw Fa Fh DrK
theorem event1_fg (g:Nat) (n:BS) (x:EvD):Fg Tryz.prog 128 g (stO n) [.agg (evc x),.c (.optr g 0)] (.c (.bool (x.name==n))) (stO n):=by
 unfold Fg
 refine fh_of_body Tryz.func128 rfl rfl (by simp [Tryz.ntmps128]) fun C hC=> ?_
 simp only [initS,Nat.reduceAdd]
 repeat' first|refine yA1 o0 ?_|refine zW o0 ?_|refine yP o0 ?_|refine yN o0 ?_|refine zC o0 (fun hb=>?_) fun hb=>?_|refine zG o0 (fun hb=>?_) fun hb=>?_|refine zD o0 (fun hb=>?_) fun hb=>?_
 refine xB fun g1 hn_g1=>?_
 repeat' first|refine yA1 hn_g1 ?_|refine zW hn_g1 ?_|refine yP hn_g1 ?_|refine yN hn_g1 ?_|refine zC hn_g1 (fun hb=>?_) fun hb=>?_|refine zG hn_g1 (fun hb=>?_) fun hb=>?_|refine zD hn_g1 (fun hb=>?_) fun hb=>?_
 refine aw_rethw (h':=[(g,stO n)]) rfl (by first|exact List.Sublist.refl _|exact .cons _ (.refl _)|exact .cons _ (.cons _ (.refl _))|exact .cons _ (.cons _ (.cons _ (.refl _)))) fun R r=>?_;simp only[go_sem,hn_g1];refine r _ rfl ?_;clear r R
 exact⟨rfl,rfl⟩
theorem eventI_fg (g:Nat) (n:BS) (l:List EvD) (hl:l.length≤1099511627776):Fg Tryz.prog 127 g (stO n) [.c (evs true l),.c (fnC 128 [g])] (.c (.int .i64 (fidx (fun x=>x.name==n) l))) (stO n):=by
 unfold Fg
 refine fh_of_body Tryz.func127 rfl rfl (by simp [Tryz.ntmps127]) fun C hC=> ?_
 simp only [initS,Nat.reduceAdd]
 repeat' first|refine yA1 o0 ?_|refine zW o0 ?_|refine yP o0 ?_|refine yN o0 ?_|refine zC o0 (fun hb=>?_) fun hb=>?_|refine zG o0 (fun hb=>?_) fun hb=>?_|refine zD o0 (fun hb=>?_) fun hb=>?_
 refine aw_lp (fun i:Nat=>[(0,.c (evs true l)),(1,.c (fnC 128 [g])),(4,.c (.int .i64 0)),(7,.c (.int .i64 l.length)),(8,.c (.int .i64 i))]) (fun _=>[(g,stO n)]) (fun i=>i≤l.length∧∀j,j<i→((fun x:EvD=>x.name==n) (l.getD j ev0))=false) (fun i=>l.length-i) 0 eB zZ ⟨Nat.zero_le _,fun j hj=>absurd hj om⟩ ?_
 rintro i ⟨hi,hn⟩
 repeat' first|refine yA1 o0 ?_|refine zW o0 ?_|refine yP o0 ?_|refine yN o0 ?_|refine zC o0 (fun hb=>?_) fun hb=>?_|refine zG o0 (fun hb=>?_) fun hb=>?_|refine zD o0 (fun hb=>?_) fun hb=>?_
 ·have hi':=hb
  have hf:=event1_fg g n (l.getD i ev0)
  refine aw_cgv (args:=[.agg (evc (l.getD i ev0))]) hf rfl rfl rfl eE eE eL ?_
  refine xS ?_
  repeat' first|refine yA1 o0 ?_|refine zW o0 ?_|refine yP o0 ?_|refine yN o0 ?_|refine zC o0 (fun hb=>?_) fun hb=>?_|refine zG o0 (fun hb=>?_) fun hb=>?_|refine zD o0 (fun hb=>?_) fun hb=>?_
  ·rw [fidx_at (p:=fun x:EvD=>x.name==n) ev0 hi' (by simpa using hb) hn]
   refine xU ?_
   exact⟨rfl,rfl⟩
  ·refine aw_stop ⟨i+1,?_⟩
   have hn':∀j,j<i+1→((fun x:EvD=>x.name==n) (l.getD j ev0))=false:=fun j hj=>by
    by_cases e:j=i
    ·subst e;simpa using hb
    ·exact hn j om
   and_intros
   all_goals first|rfl|exact List.Sublist.refl _|exact True.intro|exact hn'|omega
 ·have hf:fidx (fun x=>x.name==n) l= -1:=fidx_no ev0 (fun j hj=>hn j om)
  rw [hf]
  refine xU ?_
  exact⟨rfl,rfl⟩
theorem event_fa (m:MdD) (n:BS) (hl:m.events.length≤1099511627776):Fa Tryz.prog 84 [.agg (mdc true m),.c (.str (sB n))] (.c (.int .i64 (fidx (fun x=>x.name==n) m.events))):=by
 refine fa_of_body Tryz.func84 rfl rfl (by simp [Tryz.ntmps84]) fun C hC=> ?_
 simp only [initS,Nat.reduceAdd]
 repeat' first|refine yA1 o0 ?_|refine zW o0 ?_|refine yP o0 ?_|refine yN o0 ?_|refine zC o0 (fun hb=>?_) fun hb=>?_|refine zG o0 (fun hb=>?_) fun hb=>?_|refine zD o0 (fun hb=>?_) fun hb=>?_
 refine xB fun g1 hn_g1=>?_
 repeat' first|refine yA1 hn_g1 ?_|refine zW hn_g1 ?_|refine yP hn_g1 ?_|refine yN hn_g1 ?_|refine zC hn_g1 (fun hb=>?_) fun hb=>?_|refine zG hn_g1 (fun hb=>?_) fun hb=>?_|refine zD hn_g1 (fun hb=>?_) fun hb=>?_
 refine yB hn_g1 fun g2 hn_g2=>?_
 all_goals try(have Z:=(oj hn_g1 hn_g2);(repeat' first|refine yA1 Z ?_|refine zW Z ?_|refine yP Z ?_|refine yN Z ?_|refine zC Z (fun hb=>?_) fun hb=>?_|refine zG Z (fun hb=>?_) fun hb=>?_|refine zD Z (fun hb=>?_) fun hb=>?_);all_goals clear Z)
 refine aw_makeFunc (gs:=[g2]) rfl rfl rfl (zE (oj hn_g1 hn_g2)) ?_
 have J1:=oj hn_g1 hn_g2
 refine yS J1 ?_
 have hf:=eventI_fg g2 n m.events hl
 all_goals try(have Z:=J1;(repeat' first|refine yA1 Z ?_|(refine zg Z (hf) ?_)|refine zW Z ?_|refine yP Z ?_|refine yN Z ?_|refine zC Z (fun hb=>?_) fun hb=>?_|refine zG Z (fun hb=>?_) fun hb=>?_|refine zD Z (fun hb=>?_) fun hb=>?_);all_goals clear Z)
 refine yT hC J1 ?_
 exact .one (.c (.int _ _))
theorem house1_fg (g:Nat) (n:BS) (x:HsD):Fg Tryz.prog 133 g (stO n) [.agg (hsc x),.c (.optr g 0)] (.c (.bool (x.name==n))) (stO n):=by
 unfold Fg
 refine fh_of_body Tryz.func133 rfl rfl (by simp [Tryz.ntmps133]) fun C hC=> ?_
 simp only [initS,Nat.reduceAdd]
 repeat' first|refine yA1 o0 ?_|refine zW o0 ?_|refine yP o0 ?_|refine yN o0 ?_|refine zC o0 (fun hb=>?_) fun hb=>?_|refine zG o0 (fun hb=>?_) fun hb=>?_|refine zD o0 (fun hb=>?_) fun hb=>?_
 refine xB fun g1 hn_g1=>?_
 repeat' first|refine yA1 hn_g1 ?_|refine zW hn_g1 ?_|refine yP hn_g1 ?_|refine yN hn_g1 ?_|refine zC hn_g1 (fun hb=>?_) fun hb=>?_|refine zG hn_g1 (fun hb=>?_) fun hb=>?_|refine zD hn_g1 (fun hb=>?_) fun hb=>?_
 refine aw_rethw (h':=[(g,stO n)]) rfl (by first|exact List.Sublist.refl _|exact .cons _ (.refl _)|exact .cons _ (.cons _ (.refl _))|exact .cons _ (.cons _ (.cons _ (.refl _)))) fun R r=>?_;simp only[go_sem,hn_g1];refine r _ rfl ?_;clear r R
 exact⟨rfl,rfl⟩
theorem houseI_fg (g:Nat) (n:BS) (l:List HsD) (hl:l.length≤1099511627776):Fg Tryz.prog 132 g (stO n) [.c (hss true l),.c (fnC 133 [g])] (.c (.int .i64 (fidx (fun x=>x.name==n) l))) (stO n):=by
 unfold Fg
 refine fh_of_body Tryz.func132 rfl rfl (by simp [Tryz.ntmps132]) fun C hC=> ?_
 simp only [initS,Nat.reduceAdd]
 repeat' first|refine yA1 o0 ?_|refine zW o0 ?_|refine yP o0 ?_|refine yN o0 ?_|refine zC o0 (fun hb=>?_) fun hb=>?_|refine zG o0 (fun hb=>?_) fun hb=>?_|refine zD o0 (fun hb=>?_) fun hb=>?_
 refine aw_lp (fun i:Nat=>[(0,.c (hss true l)),(1,.c (fnC 133 [g])),(4,.c (.int .i64 0)),(7,.c (.int .i64 l.length)),(8,.c (.int .i64 i))]) (fun _=>[(g,stO n)]) (fun i=>i≤l.length∧∀j,j<i→((fun x:HsD=>x.name==n) (l.getD j hs0))=false) (fun i=>l.length-i) 0 eB zZ ⟨Nat.zero_le _,fun j hj=>absurd hj om⟩ ?_
 rintro i ⟨hi,hn⟩
 repeat' first|refine yA1 o0 ?_|refine zW o0 ?_|refine yP o0 ?_|refine yN o0 ?_|refine zC o0 (fun hb=>?_) fun hb=>?_|refine zG o0 (fun hb=>?_) fun hb=>?_|refine zD o0 (fun hb=>?_) fun hb=>?_
 ·have hi':=hb
  have hf:=house1_fg g n (l.getD i hs0)
  refine aw_cgv (args:=[.agg (hsc (l.getD i hs0))]) hf rfl rfl rfl eE eE eL ?_
  refine xS ?_
  repeat' first|refine yA1 o0 ?_|refine zW o0 ?_|refine yP o0 ?_|refine yN o0 ?_|refine zC o0 (fun hb=>?_) fun hb=>?_|refine zG o0 (fun hb=>?_) fun hb=>?_|refine zD o0 (fun hb=>?_) fun hb=>?_
  ·rw [fidx_at (p:=fun x:HsD=>x.name==n) hs0 hi' (by simpa using hb) hn]
   refine xU ?_
   exact⟨rfl,rfl⟩
  ·refine aw_stop ⟨i+1,?_⟩
   have hn':∀j,j<i+1→((fun x:HsD=>x.name==n) (l.getD j hs0))=false:=fun j hj=>by
    by_cases e:j=i
    ·subst e;simpa using hb
    ·exact hn j om
   and_intros
   all_goals first|rfl|exact List.Sublist.refl _|exact True.intro|exact hn'|omega
 ·have hf:fidx (fun x=>x.name==n) l= -1:=fidx_no hs0 (fun j hj=>hn j om)
  rw [hf]
  refine xU ?_
  exact⟨rfl,rfl⟩
theorem house_fa (m:MdD) (n:BS) (hl:m.houses.length≤1099511627776):Fa Tryz.prog 87 [.agg (mdc true m),.c (.str (sB n))] (.c (.int .i64 (fidx (fun x=>x.name==n) m.houses))):=by
 refine fa_of_body Tryz.func87 rfl rfl (by simp [Tryz.ntmps87]) fun C hC=> ?_
 simp only [initS,Nat.reduceAdd]
 repeat' first|refine yA1 o0 ?_|refine zW o0 ?_|refine yP o0 ?_|refine yN o0 ?_|refine zC o0 (fun hb=>?_) fun hb=>?_|refine zG o0 (fun hb=>?_) fun hb=>?_|refine zD o0 (fun hb=>?_) fun hb=>?_
 refine xB fun g1 hn_g1=>?_
 repeat' first|refine yA1 hn_g1 ?_|refine zW hn_g1 ?_|refine yP hn_g1 ?_|refine yN hn_g1 ?_|refine zC hn_g1 (fun hb=>?_) fun hb=>?_|refine zG hn_g1 (fun hb=>?_) fun hb=>?_|refine zD hn_g1 (fun hb=>?_) fun hb=>?_
 refine yB hn_g1 fun g2 hn_g2=>?_
 all_goals try(have Z:=(oj hn_g1 hn_g2);(repeat' first|refine yA1 Z ?_|refine zW Z ?_|refine yP Z ?_|refine yN Z ?_|refine zC Z (fun hb=>?_) fun hb=>?_|refine zG Z (fun hb=>?_) fun hb=>?_|refine zD Z (fun hb=>?_) fun hb=>?_);all_goals clear Z)
 refine aw_makeFunc (gs:=[g2]) rfl rfl rfl (zE (oj hn_g1 hn_g2)) ?_
 have J1:=oj hn_g1 hn_g2
 refine yS J1 ?_
 have hf:=houseI_fg g2 n m.houses hl
 all_goals try(have Z:=J1;(repeat' first|refine yA1 Z ?_|(refine zg Z (hf) ?_)|refine zW Z ?_|refine yP Z ?_|refine yN Z ?_|refine zC Z (fun hb=>?_) fun hb=>?_|refine zG Z (fun hb=>?_) fun hb=>?_|refine zD Z (fun hb=>?_) fun hb=>?_);all_goals clear Z)
 refine yT hC J1 ?_
 exact .one (.c (.int _ _))
theorem page1_fg (g:Nat) (n:BS) (x:PgD):Fg Tryz.prog 135 g (stO n) [.agg (pgc x),.c (.optr g 0)] (.c (.bool (x.name==n))) (stO n):=by
 unfold Fg
 refine fh_of_body Tryz.func135 rfl rfl (by simp [Tryz.ntmps135]) fun C hC=> ?_
 simp only [initS,Nat.reduceAdd]
 repeat' first|refine yA1 o0 ?_|refine zW o0 ?_|refine yP o0 ?_|refine yN o0 ?_|refine zC o0 (fun hb=>?_) fun hb=>?_|refine zG o0 (fun hb=>?_) fun hb=>?_|refine zD o0 (fun hb=>?_) fun hb=>?_
 refine xB fun g1 hn_g1=>?_
 repeat' first|refine yA1 hn_g1 ?_|refine zW hn_g1 ?_|refine yP hn_g1 ?_|refine yN hn_g1 ?_|refine zC hn_g1 (fun hb=>?_) fun hb=>?_|refine zG hn_g1 (fun hb=>?_) fun hb=>?_|refine zD hn_g1 (fun hb=>?_) fun hb=>?_
 refine aw_rethw (h':=[(g,stO n)]) rfl (by first|exact List.Sublist.refl _|exact .cons _ (.refl _)|exact .cons _ (.cons _ (.refl _))|exact .cons _ (.cons _ (.cons _ (.refl _)))) fun R r=>?_;simp only[go_sem,hn_g1];refine r _ rfl ?_;clear r R
 exact⟨rfl,rfl⟩
theorem pageI_fg (g:Nat) (n:BS) (l:List PgD) (hl:l.length≤1099511627776):Fg Tryz.prog 134 g (stO n) [.c (pgs true l),.c (fnC 135 [g])] (.c (.int .i64 (fidx (fun x=>x.name==n) l))) (stO n):=by
 unfold Fg
 refine fh_of_body Tryz.func134 rfl rfl (by simp [Tryz.ntmps134]) fun C hC=> ?_
 simp only [initS,Nat.reduceAdd]
 repeat' first|refine yA1 o0 ?_|refine zW o0 ?_|refine yP o0 ?_|refine yN o0 ?_|refine zC o0 (fun hb=>?_) fun hb=>?_|refine zG o0 (fun hb=>?_) fun hb=>?_|refine zD o0 (fun hb=>?_) fun hb=>?_
 refine aw_lp (fun i:Nat=>[(0,.c (pgs true l)),(1,.c (fnC 135 [g])),(4,.c (.int .i64 0)),(7,.c (.int .i64 l.length)),(8,.c (.int .i64 i))]) (fun _=>[(g,stO n)]) (fun i=>i≤l.length∧∀j,j<i→((fun x:PgD=>x.name==n) (l.getD j pg0))=false) (fun i=>l.length-i) 0 eB zZ ⟨Nat.zero_le _,fun j hj=>absurd hj om⟩ ?_
 rintro i ⟨hi,hn⟩
 repeat' first|refine yA1 o0 ?_|refine zW o0 ?_|refine yP o0 ?_|refine yN o0 ?_|refine zC o0 (fun hb=>?_) fun hb=>?_|refine zG o0 (fun hb=>?_) fun hb=>?_|refine zD o0 (fun hb=>?_) fun hb=>?_
 ·have hi':=hb
  have hf:=page1_fg g n (l.getD i pg0)
  refine aw_cgv (args:=[.agg (pgc (l.getD i pg0))]) hf rfl rfl rfl eE eE eL ?_
  refine xS ?_
  repeat' first|refine yA1 o0 ?_|refine zW o0 ?_|refine yP o0 ?_|refine yN o0 ?_|refine zC o0 (fun hb=>?_) fun hb=>?_|refine zG o0 (fun hb=>?_) fun hb=>?_|refine zD o0 (fun hb=>?_) fun hb=>?_
  ·rw [fidx_at (p:=fun x:PgD=>x.name==n) pg0 hi' (by simpa using hb) hn]
   refine xU ?_
   exact⟨rfl,rfl⟩
  ·refine aw_stop ⟨i+1,?_⟩
   have hn':∀j,j<i+1→((fun x:PgD=>x.name==n) (l.getD j pg0))=false:=fun j hj=>by
    by_cases e:j=i
    ·subst e;simpa using hb
    ·exact hn j om
   and_intros
   all_goals first|rfl|exact List.Sublist.refl _|exact True.intro|exact hn'|omega
 ·have hf:fidx (fun x=>x.name==n) l= -1:=fidx_no pg0 (fun j hj=>hn j om)
  rw [hf]
  refine xU ?_
  exact⟨rfl,rfl⟩
theorem page_fa (m:MdD) (n:BS) (hl:m.pages.length≤1099511627776):Fa Tryz.prog 88 [.agg (mdc true m),.c (.str (sB n))] (.c (.int .i64 (fidx (fun x=>x.name==n) m.pages))):=by
 refine fa_of_body Tryz.func88 rfl rfl (by simp [Tryz.ntmps88]) fun C hC=> ?_
 simp only [initS,Nat.reduceAdd]
 repeat' first|refine yA1 o0 ?_|refine zW o0 ?_|refine yP o0 ?_|refine yN o0 ?_|refine zC o0 (fun hb=>?_) fun hb=>?_|refine zG o0 (fun hb=>?_) fun hb=>?_|refine zD o0 (fun hb=>?_) fun hb=>?_
 refine xB fun g1 hn_g1=>?_
 repeat' first|refine yA1 hn_g1 ?_|refine zW hn_g1 ?_|refine yP hn_g1 ?_|refine yN hn_g1 ?_|refine zC hn_g1 (fun hb=>?_) fun hb=>?_|refine zG hn_g1 (fun hb=>?_) fun hb=>?_|refine zD hn_g1 (fun hb=>?_) fun hb=>?_
 refine yB hn_g1 fun g2 hn_g2=>?_
 all_goals try(have Z:=(oj hn_g1 hn_g2);(repeat' first|refine yA1 Z ?_|refine zW Z ?_|refine yP Z ?_|refine yN Z ?_|refine zC Z (fun hb=>?_) fun hb=>?_|refine zG Z (fun hb=>?_) fun hb=>?_|refine zD Z (fun hb=>?_) fun hb=>?_);all_goals clear Z)
 refine aw_makeFunc (gs:=[g2]) rfl rfl rfl (zE (oj hn_g1 hn_g2)) ?_
 have J1:=oj hn_g1 hn_g2
 refine yS J1 ?_
 have hf:=pageI_fg g2 n m.pages hl
 all_goals try(have Z:=J1;(repeat' first|refine yA1 Z ?_|(refine zg Z (hf) ?_)|refine zW Z ?_|refine yP Z ?_|refine yN Z ?_|refine zC Z (fun hb=>?_) fun hb=>?_|refine zG Z (fun hb=>?_) fun hb=>?_|refine zD Z (fun hb=>?_) fun hb=>?_);all_goals clear Z)
 refine yT hC J1 ?_
 exact .one (.c (.int _ _))
theorem gate1_fg (g:Nat) (n:BS) (x:GtD):Fg Tryz.prog 137 g (stO n) [.agg (gtc x),.c (.optr g 0)] (.c (.bool (x.name==n))) (stO n):=by
 unfold Fg
 refine fh_of_body Tryz.func137 rfl rfl (by simp [Tryz.ntmps137]) fun C hC=> ?_
 simp only [initS,Nat.reduceAdd]
 repeat' first|refine yA1 o0 ?_|refine zW o0 ?_|refine yP o0 ?_|refine yN o0 ?_|refine zC o0 (fun hb=>?_) fun hb=>?_|refine zG o0 (fun hb=>?_) fun hb=>?_|refine zD o0 (fun hb=>?_) fun hb=>?_
 refine xB fun g1 hn_g1=>?_
 repeat' first|refine yA1 hn_g1 ?_|refine zW hn_g1 ?_|refine yP hn_g1 ?_|refine yN hn_g1 ?_|refine zC hn_g1 (fun hb=>?_) fun hb=>?_|refine zG hn_g1 (fun hb=>?_) fun hb=>?_|refine zD hn_g1 (fun hb=>?_) fun hb=>?_
 refine aw_rethw (h':=[(g,stO n)]) rfl (by first|exact List.Sublist.refl _|exact .cons _ (.refl _)|exact .cons _ (.cons _ (.refl _))|exact .cons _ (.cons _ (.cons _ (.refl _)))) fun R r=>?_;simp only[go_sem,hn_g1];refine r _ rfl ?_;clear r R
 exact⟨rfl,rfl⟩
theorem gateI_fg (g:Nat) (n:BS) (l:List GtD) (hl:l.length≤1099511627776):Fg Tryz.prog 136 g (stO n) [.c (gts true l),.c (fnC 137 [g])] (.c (.int .i64 (fidx (fun x=>x.name==n) l))) (stO n):=by
 unfold Fg
 refine fh_of_body Tryz.func136 rfl rfl (by simp [Tryz.ntmps136]) fun C hC=> ?_
 simp only [initS,Nat.reduceAdd]
 repeat' first|refine yA1 o0 ?_|refine zW o0 ?_|refine yP o0 ?_|refine yN o0 ?_|refine zC o0 (fun hb=>?_) fun hb=>?_|refine zG o0 (fun hb=>?_) fun hb=>?_|refine zD o0 (fun hb=>?_) fun hb=>?_
 refine aw_lp (fun i:Nat=>[(0,.c (gts true l)),(1,.c (fnC 137 [g])),(4,.c (.int .i64 0)),(7,.c (.int .i64 l.length)),(8,.c (.int .i64 i))]) (fun _=>[(g,stO n)]) (fun i=>i≤l.length∧∀j,j<i→((fun x:GtD=>x.name==n) (l.getD j gt0))=false) (fun i=>l.length-i) 0 eB zZ ⟨Nat.zero_le _,fun j hj=>absurd hj om⟩ ?_
 rintro i ⟨hi,hn⟩
 repeat' first|refine yA1 o0 ?_|refine zW o0 ?_|refine yP o0 ?_|refine yN o0 ?_|refine zC o0 (fun hb=>?_) fun hb=>?_|refine zG o0 (fun hb=>?_) fun hb=>?_|refine zD o0 (fun hb=>?_) fun hb=>?_
 ·have hi':=hb
  have hf:=gate1_fg g n (l.getD i gt0)
  refine aw_cgv (args:=[.agg (gtc (l.getD i gt0))]) hf rfl rfl rfl eE eE eL ?_
  refine xS ?_
  repeat' first|refine yA1 o0 ?_|refine zW o0 ?_|refine yP o0 ?_|refine yN o0 ?_|refine zC o0 (fun hb=>?_) fun hb=>?_|refine zG o0 (fun hb=>?_) fun hb=>?_|refine zD o0 (fun hb=>?_) fun hb=>?_
  ·rw [fidx_at (p:=fun x:GtD=>x.name==n) gt0 hi' (by simpa using hb) hn]
   refine xU ?_
   exact⟨rfl,rfl⟩
  ·refine aw_stop ⟨i+1,?_⟩
   have hn':∀j,j<i+1→((fun x:GtD=>x.name==n) (l.getD j gt0))=false:=fun j hj=>by
    by_cases e:j=i
    ·subst e;simpa using hb
    ·exact hn j om
   and_intros
   all_goals first|rfl|exact List.Sublist.refl _|exact True.intro|exact hn'|omega
 ·have hf:fidx (fun x=>x.name==n) l= -1:=fidx_no gt0 (fun j hj=>hn j om)
  rw [hf]
  refine xU ?_
  exact⟨rfl,rfl⟩
theorem gate_fa (l:List GtD) (n:BS) (hl:l.length≤1099511627776):Fa Tryz.prog 90 [.c (gts true l),.c (.str (sB n))] (.c (.int .i64 (gtI l n))):=by
 refine fa_of_body Tryz.func90 rfl rfl (by simp [Tryz.ntmps90]) fun C hC=> ?_
 simp only [initS,Nat.reduceAdd]
 repeat' first|refine yA1 o0 ?_|refine zW o0 ?_|refine yP o0 ?_|refine yN o0 ?_|refine zC o0 (fun hb=>?_) fun hb=>?_|refine zG o0 (fun hb=>?_) fun hb=>?_|refine zD o0 (fun hb=>?_) fun hb=>?_
 refine xB fun g2 hn_g2=>?_
 repeat' first|refine yA1 hn_g2 ?_|refine zW hn_g2 ?_|refine yP hn_g2 ?_|refine yN hn_g2 ?_|refine zC hn_g2 (fun hb=>?_) fun hb=>?_|refine zG hn_g2 (fun hb=>?_) fun hb=>?_|refine zD hn_g2 (fun hb=>?_) fun hb=>?_
 refine aw_makeFunc (gs:=[g2]) rfl rfl rfl (zE hn_g2) ?_
 refine yS hn_g2 ?_
 have hf:=gateI_fg g2 n l hl
 repeat' first|refine yA1 hn_g2 ?_|(refine zg hn_g2 (hf) ?_)|refine zW hn_g2 ?_|refine yP hn_g2 ?_|refine yN hn_g2 ?_|refine zC hn_g2 (fun hb=>?_) fun hb=>?_|refine zG hn_g2 (fun hb=>?_) fun hb=>?_|refine zD hn_g2 (fun hb=>?_) fun hb=>?_
 refine yT hC hn_g2 ?_
 exact .one (.c (.int _ _))
end Go.Proofs.YteocnikcjjonbaaGreat
namespace Go.PN
open Go.AI
theorem RD.wf.mono {r:RD} {a b:Nat} (h:r.wf a) (hab:a≤b):r.wf b:=by
 exact⟨h.1,h.2.1,Nat.le_trans h.2.2.1 hab,Nat.le_trans h.2.2.2 hab⟩
end Go.PN
namespace Go.Proofs.YteocnikcjjonbaaGreat
open Go.AI Go.PN
attribute [local irreducible] aw Fa Fh DrK
theorem rate_fa (r:RD) (hw:r.wf 1073741824):Fa Tryz.prog 86 [.agg (rdc r)] (.c (.bool (rateB r))):=by
 have f1:=rvalid_fa r (hw.mono (by decide))
 have f2:=rsign_fa r hw
 unfold rateB
 refine fa_of_body Tryz.func86 rfl rfl (by simp [Tryz.ntmps86]) fun C hC=> ?_
 simp only [initS,Nat.reduceAdd]
 repeat' first|refine yA1 o0 ?_|refine zW o0 ?_|refine yP o0 ?_|refine yN o0 ?_|refine zC o0 (fun hb=>?_) fun hb=>?_|refine zG o0 (fun hb=>?_) fun hb=>?_|refine zD o0 (fun hb=>?_) fun hb=>?_
 refine xB fun g1 hn_g1=>?_
 repeat' first|refine yA1 hn_g1 ?_|(refine yC2 hn_g1 (f1) ?_)|(refine yD2 hn_g1 (f1) ?_)|(refine yC2 hn_g1 (f2) ?_)|(refine yD2 hn_g1 (f2) ?_)|refine zW hn_g1 ?_|refine yP hn_g1 ?_|refine yN hn_g1 ?_|refine zC hn_g1 (fun hb=>?_) fun hb=>?_|refine zG hn_g1 (fun hb=>?_) fun hb=>?_|refine zD hn_g1 (fun hb=>?_) fun hb=>?_
 all_goals
  refine yT hC hn_g1 ?_
  refine .one (.c (ler_bool ?_))
  simp [hb]
theorem must_fa (x:GtD) (j:Nat) (hj:j≤1099511627776):Fa Tryz.prog 92 [.agg (gtc x),.c (.int .i64 j)] (.c (.bool (mustE x j))):=by
 unfold mustE
 refine fa_of_body Tryz.func92 rfl rfl (by simp [Tryz.ntmps92]) fun C hC=> ?_
 simp only [initS,Nat.reduceAdd]
 repeat' first|refine yA1 o0 ?_|refine zW o0 ?_|refine yP o0 ?_|refine yN o0 ?_|refine zC o0 (fun hb=>?_) fun hb=>?_|refine zG o0 (fun hb=>?_) fun hb=>?_|refine zD o0 (fun hb=>?_) fun hb=>?_
 refine xB fun g1 hn_g1=>?_
 repeat' first|refine yA1 hn_g1 ?_|refine zW hn_g1 ?_|refine yP hn_g1 ?_|refine yN hn_g1 ?_|refine zC hn_g1 (fun hb=>?_) fun hb=>?_|refine zG hn_g1 (fun hb=>?_) fun hb=>?_|refine zD hn_g1 (fun hb=>?_) fun hb=>?_
 all_goals
  refine yT hC hn_g1 ?_
  refine .one (.c (ler_bool ?_))
  simp_all
theorem minp_fa (k:Int) (n:Nat) (hn:n≤1099511627776):Fa Tryz.prog 138 [.c (.int .i64 k),.c (.int .i64 n)] (.c (.bool (inpB k n))):=by
 unfold inpB
 refine fa_of_body Tryz.func138 rfl rfl (by simp [Tryz.ntmps138]) fun C hC=> ?_
 simp only [initS,Nat.reduceAdd]
 repeat' first|refine yA1 o0 ?_|refine zW o0 ?_|refine yP o0 ?_|refine yN o0 ?_|refine zC o0 (fun hb=>?_) fun hb=>?_|refine zG o0 (fun hb=>?_) fun hb=>?_|refine zD o0 (fun hb=>?_) fun hb=>?_
 all_goals first
  |(exfalso;omega)
  |(refine xT hC ?_
    refine .one (.c (ler_bool ?_))
    simp_all<;>omega)
theorem mzero_fa (r:RD) (hw:r.wf 1073741824):Fa Tryz.prog 139 [.agg (rdc r)] (.c (.bool (zeroB r))):=by
 unfold zeroB
 obtain⟨w1,w2⟩:r.num.length≤1073741824∧r.den.length≤1073741824:=⟨hw.2.2.1,hw.2.2.2⟩
 refine fa_of_body Tryz.func139 rfl rfl (by simp [Tryz.ntmps139]) fun C hC=> ?_
 simp only [initS,Nat.reduceAdd]
 repeat' first|refine yA1 o0 ?_|refine zW o0 ?_|refine yP o0 ?_|refine yN o0 ?_|refine zC o0 (fun hb=>?_) fun hb=>?_|refine zG o0 (fun hb=>?_) fun hb=>?_|refine zD o0 (fun hb=>?_) fun hb=>?_
 refine xB fun g1 hn_g1=>?_
 repeat' first|refine yA1 hn_g1 ?_|refine zW hn_g1 ?_|refine yP hn_g1 ?_|refine yN hn_g1 ?_|refine zC hn_g1 (fun hb=>?_) fun hb=>?_|refine zG hn_g1 (fun hb=>?_) fun hb=>?_|refine zD hn_g1 (fun hb=>?_) fun hb=>?_
 all_goals
  refine yT hC hn_g1 ?_
  refine .one (.c (ler_bool ?_))
  simp_all
theorem gatesOf_fa (m:MdD) (k:Nat) (hk:k≤m.pages.length) (hl:m.pages.length≤1099511627776):Fa Tryz.prog 89 [.agg (mdc true m),.c (.int .i64 ((k:Int)-1))] (.c (gts true (gtsK m k))):=by
 refine fa_of_body Tryz.func89 rfl rfl (by simp [Tryz.ntmps89]) fun C hC=> ?_
 simp only [initS,Nat.reduceAdd]
 repeat' first|refine yA1 o0 ?_|refine zW o0 ?_|refine yP o0 ?_|refine yN o0 ?_|refine zC o0 (fun hb=>?_) fun hb=>?_|refine zG o0 (fun hb=>?_) fun hb=>?_|refine zD o0 (fun hb=>?_) fun hb=>?_
 refine xB fun g1 hn_g1=>?_
 repeat' first|refine yA1 hn_g1 ?_|refine zW hn_g1 ?_|refine yP hn_g1 ?_|refine yN hn_g1 ?_|refine zC hn_g1 (fun hb=>?_) fun hb=>?_|refine zG hn_g1 (fun hb=>?_) fun hb=>?_|refine zD hn_g1 (fun hb=>?_) fun hb=>?_
 ·have h0:k=0:=by omega
  subst h0
  refine yT hC hn_g1 ?_
  exact .one (.c ler_gts)
 ·obtain⟨j,rfl⟩:∃j,k=j+1:=⟨k-1,by omega⟩
  refine yT hC hn_g1 ?_
  exact .one (.c ler_gts)
theorem ler_errE {h:Heap} {T:TypeId} {n c:Int} (e:c=n) (h0:n≠0):LeR h (.ifc T (.int .i64 n)) (errC T c):=ler_errN e.symm (by rw [e];exact h0)
theorem fidx_mem (n:BS):∀l:List BS,decide (fidx (fun x=>n==x) l≥0)=l.contains n
 |[]=>rfl
 |x::l=>by
  have ih:=fidx_mem n l
  rw [List.contains_cons,←ih]
  have hg:=fidx_ge (fun x=>n==x) l
  show decide ((if(n==x)=true then(0:Int) else if fidx (fun x=>n==x) l<0 then-1 else fidx (fun x=>n==x) l+1)≥0)=(n==x||decide (fidx (fun x=>n==x) l≥0))
  cases h:(n==x) with
  |true=>rfl
  |false=>
   rw [if_neg (by simp),Bool.false_or]
   by_cases h2:fidx (fun x=>n==x) l<0
   ·have a:¬fidx (fun x=>n==x) l≥0:=by omega
    rw [if_pos h2,decide_eq_false a];rfl
   ·have a:fidx (fun x=>n==x) l≥0:=by omega
    have b:fidx (fun x=>n==x) l+1≥0:=by omega
    rw [if_neg h2,decide_eq_true a,decide_eq_true b]
theorem checkGate_fa (x:GtD) (hw:x.dorm.wf 1073741824) (hl:x.inputs.length≤1099511627776):Fa Tryz.prog 91 [.agg (gtc x)] (.c (errA (shpC x))):=by
 have f1:=minp_fa x.kind x.inputs.length hl
 have f2:=rprob_fa x.dorm hw
 have f3:=mzero_fa x.dorm hw
 refine fa_of_body Tryz.func91 rfl rfl (by simp [Tryz.ntmps91]) fun C hC=> ?_
 simp only [initS,Nat.reduceAdd]
 repeat' first|refine yA1 o0 ?_|refine zW o0 ?_|refine yP o0 ?_|refine yN o0 ?_|refine zC o0 (fun hb=>?_) fun hb=>?_|refine zG o0 (fun hb=>?_) fun hb=>?_|refine zD o0 (fun hb=>?_) fun hb=>?_
 refine xB fun g1 hn_g1=>?_
 repeat' first|refine yA1 hn_g1 ?_|(refine yC2 hn_g1 (f1) ?_)|(refine yD2 hn_g1 (f1) ?_)|(refine yC2 hn_g1 (f2) ?_)|(refine yD2 hn_g1 (f2) ?_)|(refine yC2 hn_g1 (f3) ?_)|(refine yD2 hn_g1 (f3) ?_)|refine zW hn_g1 ?_|refine yP hn_g1 ?_|refine yN hn_g1 ?_|refine zC hn_g1 (fun hb=>?_) fun hb=>?_|refine zG hn_g1 (fun hb=>?_) fun hb=>?_|refine zD hn_g1 (fun hb=>?_) fun hb=>?_
 all_goals first
  |(exfalso;omega)
  |(refine yT hC hn_g1 ?_
    first
     |(refine .one (.c (ler_errE (c:=shpC x) ?_ (by decide)))
       unfold shpC
       repeat' split
       all_goals first|rfl|(exfalso;simp_all;done)|(exfalso;simp_all;omega))
     |(refine .one (.c (ler_err0 (c:=shpC x) ?_))
       unfold shpC
       repeat' split
       all_goals first|rfl|(exfalso;simp_all;done)|(exfalso;simp_all;omega)))
structure MdOk (m:MdD):Prop where
 ev:m.events.length≤1099511627776
 hs:m.houses.length≤1099511627776
 gt:m.gates.length≤1099511627776
 pg:m.pages.length≤1099511627776
 pgt:∀p∈m.pages,p.gates.length≤1099511627776
theorem isInput_fa (m:MdD) (k:Nat) (n:BS) (hk:k≤m.pages.length) (hm:MdOk m) (hg:(gtsK m k).length≤1099511627776) (hn:n.length≤1099511627776):Fa Tryz.prog 47 [.agg (mdc true m),.c (.int .i64 ((k:Int)-1)),.c (.str (sB n))] (.c (.bool (isInp m k n))):=by
 have f1:=event_fa m n hm.ev
 have f2:=house_fa m n hm.hs
 have f3:=page_fa m (cutS n 1 n.length) hm.pg
 have f4:=gatesOf_fa m k hk hm.pg
 have f5:=gate_fa (gtsK m k) n hg
 refine fa_of_body Tryz.func47 rfl rfl (by simp [Tryz.ntmps47]) fun C hC=> ?_
 simp only [initS,Nat.reduceAdd]
 repeat' first|refine yA1 o0 ?_|refine zW o0 ?_|refine yP o0 ?_|refine yN o0 ?_|refine zC o0 (fun hb=>?_) fun hb=>?_|refine zG o0 (fun hb=>?_) fun hb=>?_|refine zD o0 (fun hb=>?_) fun hb=>?_
 refine xB fun g1 hn_g1=>?_
 repeat' first|refine yA1 hn_g1 ?_|(refine yC2 hn_g1 (f1) ?_)|(refine yD2 hn_g1 (f1) ?_)|(refine yC2 hn_g1 (f2) ?_)|(refine yD2 hn_g1 (f2) ?_)|(refine yC2 hn_g1 (f3) ?_)|(refine yD2 hn_g1 (f3) ?_)|(refine yC2 hn_g1 (f4) ?_)|(refine yD2 hn_g1 (f4) ?_)|(refine yC2 hn_g1 (f5) ?_)|(refine yD2 hn_g1 (f5) ?_)|refine zW hn_g1 ?_|refine yP hn_g1 ?_|refine yN hn_g1 ?_|refine zC hn_g1 (fun hb=>?_) fun hb=>?_|refine zG hn_g1 (fun hb=>?_) fun hb=>?_|refine zD hn_g1 (fun hb=>?_) fun hb=>?_
 ·rename_i h0
  refine aw_dr 6 ty_mixed (by kernel_rfl) ?_
  repeat' first|refine yA1 hn_g1 ?_|(refine yC2 hn_g1 (f3) ?_)|(refine yD2 hn_g1 (f3) ?_)|refine zW hn_g1 ?_|refine yP hn_g1 ?_|refine yN hn_g1 ?_|refine zC hn_g1 (fun hb=>?_) fun hb=>?_|refine zG hn_g1 (fun hb=>?_) fun hb=>?_|refine zD hn_g1 (fun hb=>?_) fun hb=>?_
  rw [cutS_drop]
  rw [show isInp m k n=decide (pgI m (n.drop 1)≥0) from if_pos ⟨h0,hb⟩]
  refine yT hC hn_g1 ?_
  exact .one (.c (.bool _))
 all_goals
  clear f1 f2 f3 f4 f5
  refine yT hC hn_g1 ?_
  refine .one (.c (ler_bool ?_))
  unfold isInp evI hsI
  simp_all<;>omega
end Go.Proofs.YteocnikcjjonbaaGreat
namespace Go.PN
open Go.AI
theorem frst_ret {α:Type} {f:Nat→α→Int} {l:List α} {d:α} {i:Nat} {F:Int} (h:frst f (l.drop i) i=F) (hi:i<l.length) {c:Int} (hc:f i (l.getD i d)=c) (h0:c≠0):F=c:=by
 rw [frst_step d hi,hc,if_neg h0] at h
 exact h.symm
theorem frst_go {α:Type} {f:Nat→α→Int} {l:List α} {d:α} {i:Nat} {F:Int} (h:frst f (l.drop i) i=F) (hi:i<l.length) (hc:f i (l.getD i d)=0):frst f (l.drop (i+1)) (i+1)=F:=by
 rw [frst_step d hi,hc,if_pos rfl] at h
 exact h
theorem frst_fin {α:Type} {f:Nat→α→Int} {l:List α} {i:Nat} {F:Int} (h:frst f (l.drop i) i=F) (hi:¬i<l.length):F=0:=by
 rw [frst_end hi] at h
 exact h.symm
structure MdWf (m:MdD):Prop where
 nm:m.name.length≤1099511627776
 ev:∀i,(m.events.getD i ev0).name.length≤1099511627776∧(m.events.getD i ev0).p.wf 1073741824∧(m.events.getD i ev0).fail.wf 1073741824∧(m.events.getD i ev0).rep.wf 1073741824
 hs:∀i,(m.houses.getD i hs0).name.length≤1099511627776
end Go.PN
namespace Go.Proofs.YteocnikcjjonbaaGreat
open Go.AI Go.PN
attribute [local irreducible] aw Fa Fh DrK
theorem checkEvents_fa (m:MdD) (hm:MdOk m) (hw:MdWf m):Fa Tryz.prog 43 [.agg (mdc true m)] (.c (errA (evhC m))):=by
 refine fa_of_body Tryz.func43 rfl rfl (by simp [Tryz.ntmps43]) fun C hC=> ?_
 simp only [initS,Nat.reduceAdd]
 repeat' first|refine yA1 o0 ?_|refine zW o0 ?_|refine yP o0 ?_|refine yN o0 ?_|refine zC o0 (fun hb=>?_) fun hb=>?_|refine zG o0 (fun hb=>?_) fun hb=>?_|refine zD o0 (fun hb=>?_) fun hb=>?_
 refine xB fun g1 hn_g1=>?_
 repeat' first|refine yA1 hn_g1 ?_|refine zW hn_g1 ?_|refine yP hn_g1 ?_|refine yN hn_g1 ?_|refine zC hn_g1 (fun hb=>?_) fun hb=>?_|refine zG hn_g1 (fun hb=>?_) fun hb=>?_|refine zD hn_g1 (fun hb=>?_) fun hb=>?_
 ·refine yT hC hn_g1 ?_
  exact .one (.c (ler_errE (by unfold evhC;rw [if_pos om]) (by decide)))
 have he:¬m.events.length>24:=by omega
 generalize hF:frst (evC m) m.events 0=F
 have hl1:=hm.ev
 have hl2:=hm.hs
 refine aw_lp (fun i:Nat=>[(1,.c (.optr g1 0)),(2,.c .nilI),(13,.c (evs true m.events)),(14,.c (.int .i64 m.events.length)),(15,.c (.int .i64 i))]) (fun _=>[(g1,.cells 30 8 (ofL (mdc true m)))]) (fun i=>i≤m.events.length∧frst (evC m) (m.events.drop i) i=F) (fun i=>m.events.length-i) 0 (zB hn_g1) zZ ⟨Nat.zero_le _,hF⟩ ?_
 rintro i ⟨hi,hlp⟩
 repeat' first|refine yA1 hn_g1 ?_|refine zW hn_g1 ?_|refine yP hn_g1 ?_|refine yN hn_g1 ?_|refine zC hn_g1 (fun hb=>?_) fun hb=>?_|refine zG hn_g1 (fun hb=>?_) fun hb=>?_|refine zD hn_g1 (fun hb=>?_) fun hb=>?_
 ·obtain⟨w0,w1,w2,w3⟩:=hw.ev i
  have hi':=hb
  have hR:∀c,evC m i (m.events.getD i ev0)=c→c≠0→evhC m=c:=fun c hc h0=>by
   have:=frst_ret hlp hi' hc h0
   unfold evhC orC
   rw [if_neg he,hF,this,if_neg h0]
  have hG:=frst_go (d:=ev0) hlp hi'
  generalize hx:m.events.getD i ev0=x at*
  have f1:Fa Tryz.prog 42 [.c (.str (sB x.name))] (.c (.bool (nameOk x.name))):=tname_fa x.name w0
  have f2:=event_fa m x.name hl1
  have f3:=rprob_fa x.p w1
  have f4:=rate_fa x.fail w2
  have f5:=rate_fa x.rep w3
  refine yA hn_g1 fun g4 hn_g4=>?_
  all_goals try(have Z:=(oj hn_g1 hn_g4);(repeat' first|refine yA1 Z ?_|(refine yC2 Z (f1) ?_)|(refine yD2 Z (f1) ?_)|(refine yC2 Z (f2) ?_)|(refine yD2 Z (f2) ?_)|(refine yC2 Z (f3) ?_)|(refine yD2 Z (f3) ?_)|(refine yC2 Z (f4) ?_)|(refine yD2 Z (f4) ?_)|(refine yC2 Z (f5) ?_)|(refine yD2 Z (f5) ?_)|refine zW Z ?_|refine yP Z ?_|refine yN Z ?_|refine zC Z (fun hb=>?_) fun hb=>?_|refine zG Z (fun hb=>?_) fun hb=>?_|refine zD Z (fun hb=>?_) fun hb=>?_);all_goals clear Z)
  all_goals clear f1 f2 f3 f4 f5
  all_goals first
   |(refine yT hC (oj hn_g1 hn_g4) ?_
     refine .one (.c (ler_errE (c:=evhC m) (hR _ ?_ (by decide)) (by decide)))
     clear hR hG hlp hF hx
     unfold evC evI
     repeat' split
     all_goals first|rfl|(exfalso;simp_all;done)|(exfalso;simp_all;omega))
   |(refine aw_stop ⟨i+1,?_⟩
     have hz:evC m i x=0:=by
      clear hR hG hlp hF hx
      unfold evC evI
      repeat' split
      all_goals first|rfl|(exfalso;simp_all;done)|(exfalso;simp_all;omega)
     and_intros
     all_goals first|rfl|exact List.Sublist.refl _|exact List.sublist_cons_self _ _|exact True.intro|exact hG hz|omega)
 ·rename_i hi0
  have hF0:=frst_fin hlp hi0
  subst hF0
  refine yT hC hn_g1 ?_
  refine .one (.c (ler_errE (c:=evhC m) ?_ (by decide)))
  unfold evhC orC
  rw [if_neg he,hF,if_pos rfl,if_pos om]
 rename_i hi0
 have hF0:=frst_fin hlp hi0
 subst hF0
 have hh:¬m.houses.length>16:=by omega
 have he2:evhC m=frst (hsC m) m.houses 0:=by
  unfold evhC orC
  rw [if_neg he,hF,if_pos rfl,if_neg hh]
 clear hlp hi0 hi hF
 generalize hF:frst (hsC m) m.houses 0=F at he2
 refine aw_lp (fun i:Nat=>[(1,.c (.optr g1 0)),(2,.c .nilI),(69,.c (hss true m.houses)),(70,.c (.int .i64 m.houses.length)),(71,.c (.int .i64 i))]) (fun _=>[(g1,.cells 30 8 (ofL (mdc true m)))]) (fun i=>i≤m.houses.length∧frst (hsC m) (m.houses.drop i) i=F) (fun i=>m.houses.length-i) 0 (zB hn_g1) zZ ⟨Nat.zero_le _,hF⟩ ?_
 rintro i ⟨hi,hlp⟩
 repeat' first|refine yA1 hn_g1 ?_|refine zW hn_g1 ?_|refine yP hn_g1 ?_|refine yN hn_g1 ?_|refine zC hn_g1 (fun hb=>?_) fun hb=>?_|refine zG hn_g1 (fun hb=>?_) fun hb=>?_|refine zD hn_g1 (fun hb=>?_) fun hb=>?_
 ·have w0:=hw.hs i
  have hi':=hb
  have hR:∀c,hsC m i (m.houses.getD i hs0)=c→c≠0→evhC m=c:=fun c hc h0=>by
   rw [he2];exact frst_ret hlp hi' hc h0
  have hG:=frst_go (d:=hs0) hlp hi'
  generalize hx:m.houses.getD i hs0=x at*
  have f1:Fa Tryz.prog 42 [.c (.str (sB x.name))] (.c (.bool (nameOk x.name))):=tname_fa x.name w0
  have f2:=event_fa m x.name hl1
  have f3:=house_fa m x.name hl2
  refine yA hn_g1 fun g4 hn_g4=>?_
  all_goals try(have Z:=(oj hn_g1 hn_g4);(repeat' first|refine yA1 Z ?_|(refine yC2 Z (f1) ?_)|(refine yD2 Z (f1) ?_)|(refine yC2 Z (f2) ?_)|(refine yD2 Z (f2) ?_)|(refine yC2 Z (f3) ?_)|(refine yD2 Z (f3) ?_)|refine zW Z ?_|refine yP Z ?_|refine yN Z ?_|refine zC Z (fun hb=>?_) fun hb=>?_|refine zG Z (fun hb=>?_) fun hb=>?_|refine zD Z (fun hb=>?_) fun hb=>?_);all_goals clear Z)
  all_goals clear f1 f2 f3
  all_goals first
   |(refine yT hC (oj hn_g1 hn_g4) ?_
     refine .one (.c (ler_errE (c:=evhC m) (hR _ ?_ (by decide)) (by decide)))
     clear hR hG hlp hF hx
     unfold hsC evI hsI
     repeat' split
     all_goals first|rfl|(exfalso;simp_all;done)|(exfalso;simp_all;omega))
   |(refine aw_stop ⟨i+1,?_⟩
     have hz:hsC m i x=0:=by
      clear hR hG hlp hF hx
      unfold hsC evI hsI
      repeat' split
      all_goals first|rfl|(exfalso;simp_all;done)|(exfalso;simp_all;omega)
     and_intros
     all_goals first|rfl|exact List.Sublist.refl _|exact List.sublist_cons_self _ _|exact True.intro|exact hG hz|omega)
 ·have hF0:=frst_fin hlp hb
  subst hF0
  refine yT hC hn_g1 ?_
  exact .one (.c (ler_err0 he2))
end Go.Proofs.YteocnikcjjonbaaGreat
