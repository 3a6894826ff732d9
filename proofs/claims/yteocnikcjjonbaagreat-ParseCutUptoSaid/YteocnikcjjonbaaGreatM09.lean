/- Parts of one proof, laid by a program. -/
import Derived.Test.YteocnikcjjonbaaGreatM00
import Derived.Test.YteocnikcjjonbaaGreatM08
set_option linter.unusedSimpArgs false
set_option linter.unusedVariables false
set_option maxRecDepth 100000
set_option maxHeartbeats 12800000
namespace Go.PN
open Go.AI
structure Og where
 e:Option Nat
 h:Option Nat
 g:Option Nat
 p:Option Nat
 r:Option Nat
 s:Option Nat
structure OgOk (m:MdD) (o:Og):Prop where
 e:o.e=none→m.events.length=0
 h:o.h=none→m.houses.length=0
 g:o.g=none→m.gates.length=0
 p:o.p=none→m.pages.length=0
 r:o.r=none→m.groups.length=0
 s:o.s=none→m.phases.length=0
abbrev mdg (m:MdD) (o:Og):List CV:=[.str (sB m.name),.str (sB m.top),gs o.e 11 m.events.length,gs o.h 2 m.houses.length,gs o.g 7 m.gates.length,gs o.p 3 m.pages.length,gs o.r 4 m.groups.length,gs o.s 3 m.phases.length]
structure MdSm (m:MdD) (n:Nat):Prop where
 e:m.events.length≤n
 h:m.houses.length≤n
 g:m.gates.length≤n
 p:m.pages.length≤n
 r:m.groups.length≤n
 s:m.phases.length≤n
theorem evs_push {xs:List EvD} {n:Nat} (hn:xs.length=n) (t:EvD):∀j,j<(n+1)*11→appF (evsF xs) (n*11) (ofL (evc t)) j=evsF (xs++[t]) j:=lf_push (s:=11) (c:=evc) (d:=(ev0:EvD)) hn t (by decide)
theorem hss_push {xs:List HsD} {n:Nat} (hn:xs.length=n) (t:HsD):∀j,j<(n+1)*2→appF (hssF xs) (n*2) (ofL (hsc t)) j=hssF (xs++[t]) j:=lf_push (s:=2) (c:=hsc) (d:=(hs0:HsD)) hn t (by decide)
theorem pgs_push {xs:List PgD} {n:Nat} (hn:xs.length=n) (t:PgD):∀j,j<(n+1)*3→appF (pgsF xs) (n*3) (ofL (pgc t)) j=pgsF (xs++[t]) j:=lf_push (s:=3) (c:=pgc) (d:=(pg0:PgD)) hn t (by decide)
theorem grs_push {xs:List GrD} {n:Nat} (hn:xs.length=n) (t:GrD):∀j,j<(n+1)*4→appF (grsF xs) (n*4) (ofL (grc t)) j=grsF (xs++[t]) j:=lf_push (s:=4) (c:=grc) (d:=(gr0:GrD)) hn t (by decide)
theorem phs_push {xs:List PhD} {n:Nat} (hn:xs.length=n) (t:PhD):∀j,j<(n+1)*3→appF (phsF xs) (n*3) (ofL (phc t)) j=phsF (xs++[t]) j:=lf_push (s:=3) (c:=phc) (d:=(ph0:PhD)) hn t (by decide)
theorem stB_e (m:MdD) {s:PS} {t:TK} {l':List TK} (e0:s.e=0) (hl:s.l=t::l') (hk:t.kind≠1) (ht:t.text=kEvent):stB m s=({m with events:=m.events++[(eventS ⟨l',0⟩).1]},(eventS ⟨l',0⟩).2):=by
 have hi:∀w,isS s w=(t.text==w):=fun w=>by rw [is_cons e0 hl,bne_iff_ne.2 hk,Bool.true_and]
 unfold stB
 rw [hi,hi,hi,hi,hi,hi,ht]
 dsimp only
 rw [show(kEvent==kEvent||kEvent==kHouse||kEvent==kGate||kEvent==kPage||kEvent==kGroup||kEvent==kPhase)=true from rfl,take_cons e0 hl,ht]
 rfl
theorem stB_h (m:MdD) {s:PS} {t:TK} {l':List TK} (e0:s.e=0) (hl:s.l=t::l') (hk:t.kind≠1) (ht:t.text=kHouse):stB m s=({m with houses:=m.houses++[(houseS ⟨l',0⟩).1]},(houseS ⟨l',0⟩).2):=by
 have hi:∀w,isS s w=(t.text==w):=fun w=>by rw [is_cons e0 hl,bne_iff_ne.2 hk,Bool.true_and]
 unfold stB
 rw [hi,hi,hi,hi,hi,hi,ht]
 dsimp only
 rw [show(kHouse==kEvent||kHouse==kHouse||kHouse==kGate||kHouse==kPage||kHouse==kGroup||kHouse==kPhase)=true from rfl,take_cons e0 hl,ht]
 rfl
theorem stB_g (m:MdD) {s:PS} {t:TK} {l':List TK} (e0:s.e=0) (hl:s.l=t::l') (hk:t.kind≠1) (ht:t.text=kGate):stB m s=({m with gates:=m.gates++[(gateS ⟨l',0⟩).1]},(gateS ⟨l',0⟩).2):=by
 have hi:∀w,isS s w=(t.text==w):=fun w=>by rw [is_cons e0 hl,bne_iff_ne.2 hk,Bool.true_and]
 unfold stB
 rw [hi,hi,hi,hi,hi,hi,ht]
 dsimp only
 rw [show(kGate==kEvent||kGate==kHouse||kGate==kGate||kGate==kPage||kGate==kGroup||kGate==kPhase)=true from rfl,take_cons e0 hl,ht]
 rfl
theorem stB_p (m:MdD) {s:PS} {t:TK} {l':List TK} (e0:s.e=0) (hl:s.l=t::l') (hk:t.kind≠1) (ht:t.text=kPage):stB m s=({m with pages:=m.pages++[(pageS ⟨l',0⟩).1]},(pageS ⟨l',0⟩).2):=by
 have hi:∀w,isS s w=(t.text==w):=fun w=>by rw [is_cons e0 hl,bne_iff_ne.2 hk,Bool.true_and]
 unfold stB
 rw [hi,hi,hi,hi,hi,hi,ht]
 dsimp only
 rw [show(kPage==kEvent||kPage==kHouse||kPage==kGate||kPage==kPage||kPage==kGroup||kPage==kPhase)=true from rfl,take_cons e0 hl,ht]
 rfl
theorem stB_r (m:MdD) {s:PS} {t:TK} {l':List TK} (e0:s.e=0) (hl:s.l=t::l') (hk:t.kind≠1) (ht:t.text=kGroup):stB m s=({m with groups:=m.groups++[(groupS ⟨l',0⟩).1]},(groupS ⟨l',0⟩).2):=by
 have hi:∀w,isS s w=(t.text==w):=fun w=>by rw [is_cons e0 hl,bne_iff_ne.2 hk,Bool.true_and]
 unfold stB
 rw [hi,hi,hi,hi,hi,hi,ht]
 dsimp only
 rw [show(kGroup==kEvent||kGroup==kHouse||kGroup==kGate||kGroup==kPage||kGroup==kGroup||kGroup==kPhase)=true from rfl,take_cons e0 hl,ht]
 rfl
theorem stB_s (m:MdD) {s:PS} {t:TK} {l':List TK} (e0:s.e=0) (hl:s.l=t::l') (hk:t.kind≠1) (ht:t.text=kPhase):stB m s=({m with phases:=m.phases++[(phaseS ⟨l',0⟩).1]},(phaseS ⟨l',0⟩).2):=by
 have hi:∀w,isS s w=(t.text==w):=fun w=>by rw [is_cons e0 hl,bne_iff_ne.2 hk,Bool.true_and]
 unfold stB
 rw [hi,hi,hi,hi,hi,hi,ht]
 dsimp only
 rw [show(kPhase==kEvent||kPhase==kHouse||kPhase==kGate||kPhase==kPage||kPhase==kGroup||kPhase==kPhase)=true from rfl,take_cons e0 hl,ht]
 rfl
theorem stB_no (m:MdD) {s:PS} (n0:isS s kEvent=false) (n1:isS s kHouse=false) (n2:isS s kGate=false) (n3:isS s kPage=false) (n4:isS s kGroup=false) (n5:isS s kPhase=false):stB m s=(m,(takeS false s).2):=by
 unfold stB
 rw [n0,n1,n2,n3,n4,n5]
 have ht:(takeS false s).1=[]:=by
  unfold takeS
  split
  ·split<;>rfl
  ·rfl
 dsimp only
 rw [show(false||false||false||false||false||false)=false from rfl,ht]
 rfl
theorem take_ff (s:PS):(takeS false s).1=[]:=by
 unfold takeS
 split
 ·split<;>rfl
 ·rfl
theorem perm_mid {α:Type} {l X Y Z:List α} (h:l=X++(Y++Z)):l.Perm ((X++Z)++Y):=by
 rw [h,List.append_assoc]
 exact List.Perm.append_left X List.perm_append_comm
end Go.PN
namespace Go.Proofs.YteocnikcjjonbaaGreat
open Go.AI Go.PN
def mdT (m:MdD) (o:Og):Heap:=List.flatten [gh o.e 61 (m.events.length*11) (evsF m.events),gh o.h 125 (m.houses.length*2) (hssF m.houses),gh o.g 65 (m.gates.length*7) (gtsF m.gates),gh o.p 128 (m.pages.length*3) (pgsF m.pages),gh o.r 100 (m.groups.length*4) (grsF m.groups),gh o.s 104 (m.phases.length*3) (phsF m.phases)]
abbrev mdO (m:MdD) (o:Og):AObj:=.cells 30 8 (ofL (mdg m o))
attribute [local irreducible] aw Fa Fh DrK
theorem statement_fh (gM g:Nat) (L:List TX) (s:PS) (m:MdD) (o:Og) (hs:s.l<:+L.map TX.t) (hL:L.length≤1048576) (hw:∀t∈L,t.t.text.length≤1099511627776) (ho:OgOk m o) (hb':MdSm m 1048576):Fh Tryz.prog 30 ([(gM,mdO m o),(g,rdO L s)]++mdT m o) [.c (.optr g 0),.c (.optr gM 0)] (fun x h=>x=.tup []∧∃o',OgOk (stB m s).1 o'∧h=[(gM,mdO (stB m s).1 o'),(g,rdO L (stB m s).2)]++mdT (stB m s).1 o'):=by
 have i0:=is_fg g L s kEvent hs om
 have i1:=is_fg g L s kHouse hs om
 have i2:=is_fg g L s kGate hs om
 have i3:=is_fg g L s kPage hs om
 have i4:=is_fg g L s kGroup hs om
 have i5:=is_fg g L s kPhase hs om
 refine fh_of_body Tryz.func30 rfl rfl (by simp [Tryz.ntmps30]) fun C hC=> ?_
 simp only [initS,Nat.reduceAdd]
 refine aw_nd fun hnd=> ?_
 have hne:gM≠g:=fun e=>by subst e;simp [Heap.keys] at hnd
 have hne':g≠gM:=fun e=>hne e.symm
 clear hnd
 simp only [List.cons_append,List.nil_append] at*
 repeat' first|refine yA1 (oj hne hne') ?_|(refine aw_cg (i0) rfl rfl rfl (zE (oj hne hne')) (zL2 (oj hne hne')) ?_;refine yS (oj hne hne') ?_)|(refine aw_cg (i1) rfl rfl rfl (zE (oj hne hne')) (zL2 (oj hne hne')) ?_;refine yS (oj hne hne') ?_)|(refine aw_cg (i2) rfl rfl rfl (zE (oj hne hne')) (zL2 (oj hne hne')) ?_;refine yS (oj hne hne') ?_)|(refine aw_cg (i3) rfl rfl rfl (zE (oj hne hne')) (zL2 (oj hne hne')) ?_;refine yS (oj hne hne') ?_)|(refine aw_cg (i4) rfl rfl rfl (zE (oj hne hne')) (zL2 (oj hne hne')) ?_;refine yS (oj hne hne') ?_)|(refine aw_cg (i5) rfl rfl rfl (zE (oj hne hne')) (zL2 (oj hne hne')) ?_;refine yS (oj hne hne') ?_)|(refine yW (oj hne hne') ?_;refine yS (oj hne hne') ?_)|refine yP (oj hne hne') ?_|refine yN (oj hne hne') ?_|refine aw_cd (zE (oj hne hne')) (fun hb=>?_) (fun hb=>?_)|refine aw_ce (zE (oj hne hne')) (fun hb=>?_) (fun hb=>?_)|refine aw_cn (zE (oj hne hne')) (fun hb=>?_) (fun hb=>?_)|(refine yF (oj hne hne') (fun hb=>?_) (fun hb=>?_)<;>fail_if_success (cases hb;done))|(refine aw_gsd rfl rfl (zE (oj hne hne')) (fun hb=>?_) (fun hb=>?_)<;>refine yS (oj hne hne') ?_)|(refine aw_gse rfl rfl (zE (oj hne hne')) (fun hb=>?_) (fun hb=>?_)<;>refine yS (oj hne hne') ?_)|(refine aw_gsn rfl rfl (zE (oj hne hne')) (fun hb=>?_) (fun hb=>?_)<;>refine yS (oj hne hne') ?_)|(refine aw_gs rfl rfl (zE (oj hne hne')) (fun hb=>?_) (fun hb=>?_)<;>fail_if_success (cases hb;done)<;>refine yS (oj hne hne') ?_)|(refine drk_gsd rfl rfl (zE (oj hne hne')) (fun hb=>?_) (fun hb=>?_)<;>refine yS (oj hne hne') ?_)|(refine drk_gse rfl rfl (zE (oj hne hne')) (fun hb=>?_) (fun hb=>?_)<;>refine yS (oj hne hne') ?_)|(refine drk_gsn rfl rfl (zE (oj hne hne')) (fun hb=>?_) (fun hb=>?_)<;>refine yS (oj hne hne') ?_)|(refine drk_gs rfl rfl (zE (oj hne hne')) (fun hb=>?_) (fun hb=>?_)<;>fail_if_success (cases hb;done)<;>refine yS (oj hne hne') ?_)
 ·obtain⟨h0,t,l',hl,hk,ht⟩:=is_tok hb
  have hB:=stB_e m h0 hl hk ht
  rw [hB]
  have f6:=take_fg g L s true hs om
  rw [take_cons h0 hl,if_pos rfl,ht] at f6
  dsimp only at f6
  have hsl:l'<:+L.map TX.t:=(show l'<:+s.l from by rw [hl];exact List.suffix_cons t l').trans hs
  have f7:=event_fg g L ⟨l',0⟩ hsl om hw
  clear hB i0 i1 i2 i3 i4 i5
  generalize eventS ⟨l',0⟩=y at*
  obtain⟨v,sy⟩:=y
  dsimp only at*
  have q0:(kEvent==kEvent)=true:=rfl
  have q1:(kEvent==kHouse)=false:=rfl
  have q2:(kEvent==kGate)=false:=rfl
  have q3:(kEvent==kPage)=false:=rfl
  have q4:(kEvent==kGroup)=false:=rfl
  have q5:(kEvent==kPhase)=false:=rfl
  repeat' first|refine yA1 (oj hne (oj hne' (oj q0 (oj q1 (oj q2 (oj q3 (oj q4 q5))))))) ?_|(refine aw_cg (f6) rfl rfl rfl (zE (oj hne (oj hne' (oj q0 (oj q1 (oj q2 (oj q3 (oj q4 q5)))))))) (zL2 (oj hne (oj hne' (oj q0 (oj q1 (oj q2 (oj q3 (oj q4 q5)))))))) ?_;refine yS (oj hne (oj hne' (oj q0 (oj q1 (oj q2 (oj q3 (oj q4 q5))))))) ?_)|(refine yW (oj hne (oj hne' (oj q0 (oj q1 (oj q2 (oj q3 (oj q4 q5))))))) ?_;refine yS (oj hne (oj hne' (oj q0 (oj q1 (oj q2 (oj q3 (oj q4 q5))))))) ?_)|refine yP (oj hne (oj hne' (oj q0 (oj q1 (oj q2 (oj q3 (oj q4 q5))))))) ?_|refine yN (oj hne (oj hne' (oj q0 (oj q1 (oj q2 (oj q3 (oj q4 q5))))))) ?_|refine aw_cd (zE (oj hne (oj hne' (oj q0 (oj q1 (oj q2 (oj q3 (oj q4 q5)))))))) (fun hb=>?_) (fun hb=>?_)|refine aw_ce (zE (oj hne (oj hne' (oj q0 (oj q1 (oj q2 (oj q3 (oj q4 q5)))))))) (fun hb=>?_) (fun hb=>?_)|refine aw_cn (zE (oj hne (oj hne' (oj q0 (oj q1 (oj q2 (oj q3 (oj q4 q5)))))))) (fun hb=>?_) (fun hb=>?_)|(refine yF (oj hne (oj hne' (oj q0 (oj q1 (oj q2 (oj q3 (oj q4 q5))))))) (fun hb=>?_) (fun hb=>?_)<;>fail_if_success (cases hb;done))|(refine aw_gsd rfl rfl (zE (oj hne (oj hne' (oj q0 (oj q1 (oj q2 (oj q3 (oj q4 q5)))))))) (fun hb=>?_) (fun hb=>?_)<;>refine yS (oj hne (oj hne' (oj q0 (oj q1 (oj q2 (oj q3 (oj q4 q5))))))) ?_)|(refine aw_gse rfl rfl (zE (oj hne (oj hne' (oj q0 (oj q1 (oj q2 (oj q3 (oj q4 q5)))))))) (fun hb=>?_) (fun hb=>?_)<;>refine yS (oj hne (oj hne' (oj q0 (oj q1 (oj q2 (oj q3 (oj q4 q5))))))) ?_)|(refine aw_gsn rfl rfl (zE (oj hne (oj hne' (oj q0 (oj q1 (oj q2 (oj q3 (oj q4 q5)))))))) (fun hb=>?_) (fun hb=>?_)<;>refine yS (oj hne (oj hne' (oj q0 (oj q1 (oj q2 (oj q3 (oj q4 q5))))))) ?_)|(refine aw_gs rfl rfl (zE (oj hne (oj hne' (oj q0 (oj q1 (oj q2 (oj q3 (oj q4 q5)))))))) (fun hb=>?_) (fun hb=>?_)<;>fail_if_success (cases hb;done)<;>refine yS (oj hne (oj hne' (oj q0 (oj q1 (oj q2 (oj q3 (oj q4 q5))))))) ?_)|(refine drk_gsd rfl rfl (zE (oj hne (oj hne' (oj q0 (oj q1 (oj q2 (oj q3 (oj q4 q5)))))))) (fun hb=>?_) (fun hb=>?_)<;>refine yS (oj hne (oj hne' (oj q0 (oj q1 (oj q2 (oj q3 (oj q4 q5))))))) ?_)|(refine drk_gse rfl rfl (zE (oj hne (oj hne' (oj q0 (oj q1 (oj q2 (oj q3 (oj q4 q5)))))))) (fun hb=>?_) (fun hb=>?_)<;>refine yS (oj hne (oj hne' (oj q0 (oj q1 (oj q2 (oj q3 (oj q4 q5))))))) ?_)|(refine drk_gsn rfl rfl (zE (oj hne (oj hne' (oj q0 (oj q1 (oj q2 (oj q3 (oj q4 q5)))))))) (fun hb=>?_) (fun hb=>?_)<;>refine yS (oj hne (oj hne' (oj q0 (oj q1 (oj q2 (oj q3 (oj q4 q5))))))) ?_)|(refine drk_gs rfl rfl (zE (oj hne (oj hne' (oj q0 (oj q1 (oj q2 (oj q3 (oj q4 q5)))))))) (fun hb=>?_) (fun hb=>?_)<;>fail_if_success (cases hb;done)<;>refine yS (oj hne (oj hne' (oj q0 (oj q1 (oj q2 (oj q3 (oj q4 q5))))))) ?_)
  obtain⟨X,hX⟩:∃X:Heap,X=List.flatten []:=⟨_,rfl⟩
  obtain⟨Z,hZ⟩:∃Z:Heap,Z=List.flatten [gh o.h 125 (m.houses.length*2) (hssF m.houses),gh o.g 65 (m.gates.length*7) (gtsF m.gates),gh o.p 128 (m.pages.length*3) (pgsF m.pages),gh o.r 100 (m.groups.length*4) (grsF m.groups),gh o.s 104 (m.phases.length*3) (phsF m.phases)]:=⟨_,rfl⟩
  have hsp:mdT m o=X++(gh o.e 61 (m.events.length*11) (evsF m.events)++Z):=by
   subst hX hZ
   unfold mdT
   simp only [List.flatten_cons,List.flatten_nil,List.append_assoc,List.append_nil,List.nil_append]
  refine aw_perm (h':=(gM,mdO m o)::(g,rdO L ⟨l',0⟩)::((X++Z)++gh o.e 61 (m.events.length*11) (evsF m.events))) (.cons _ (.cons _ (perm_mid hsp))) ?_
  refine aw_cw ([(gM,mdO m o)]) [(0,0),(1,0),(2,0),(3,0),(4,0),(5,0),(6,1),(7,1),(8,1),(9,0),(10,0),(11,2)] ty_mixed (by kernel_rfl) eI ?_
  have J1:=oj hne (oj hne' (oj q0 (oj q1 (oj q2 (oj q3 (oj q4 q5))))))
  refine yG J1 ?_
  refine cw_cg rfl f7 rfl rfl rfl (zE J1) (zL J1) (by refine yS J1 ?_;exact has0_cons (List.mem_cons_self ..) has0_nil) ?_
  refine ySG J1 ?_
  refine cw_buildSlice (xs:=[.tmp 38]) (cells:=evc v) rfl rfl rfl rfl (zE J1) (by refine yS J1 ?_;rfl) rfl om om (by intro x hx;simp only [List.mem_singleton] at hx;subst hx;exact⟨rfl,rfl,rfl⟩) rfl (by simp [Op.operands]) (has0_cons (List.mem_cons_self ..) has0_nil) (fun ga hn_ga=> ?_) (hm:=.inr ⟨rfl,rfl⟩)
  refine yS J1 ?_
  refine cw_push (pre:=(gM,mdO m o)::(g,rdO L sy)::(X++Z)) (og:=o.e) (n:=m.events.length) (s:=36) (d1:=39) (gt:=ga) (v:=.agg (evc v)) rfl rfl rfl rfl (zE J1) (zE J1) (by rfl) om om (zE J1) (zE J1) ho.e (by rfl) (by rfl) (by simp only [Nat.mul_one,List.cons_append,List.nil_append];rfl) (by have:=hb'.e;unfold maxLen;omega) (by have:=hb'.e;omega) (evs_push rfl v) (has0_skip (has0_cons (List.mem_cons_self ..) has0_nil)) (fun gb hn_gb=> ?_) (hm:=.inr ⟨rfl,rfl⟩)
  replace hn_ga:=Heap.ne_of hn_ga
  simp only [Heap.ne] at hn_ga
  have J2:=oj hne (oj hne' (oj q0 (oj q1 (oj q2 (oj q3 (oj q4 (oj q5 hn_ga)))))))
  refine ySG J2 ?_
  refine cw_store (FP':=[]) rfl rfl rfl rfl rfl (zE J2) (zE J2) (zE J2) (zE J2) (fun _ e=>by cases e) rfl rfl (show 3≤8 from by omega) rfl has0_nil ?_
  refine ySG J2 ?_
  have hln:(m.events++[v]).length=m.events.length+1:=by rw [List.length_append];rfl
  rw [←hln]
  have hsp2:mdT {m with events:=m.events++[v]} {o with e:=some gb}=X++(gh (some gb) 61 ((m.events++[v]).length*11) (evsF (m.events++[v]))++Z):=by
   subst hX hZ
   unfold mdT
   simp only [List.flatten_cons,List.flatten_nil,List.append_assoc,List.append_nil,List.nil_append]
  refine aw_keep [] _ (zB J2) (List.sublist_cons_self _ _) ?_
  refine aw_perm (h':=(gM,mdO {m with events:=m.events++[v]} {o with e:=some gb})::(g,rdO L sy)::mdT {m with events:=m.events++[v]} {o with e:=some gb}) (.cons _ (.cons _ (perm_mid hsp2).symm)) ?_
  repeat' first|refine yA1 J2 ?_|(refine yW J2 ?_;refine yS J2 ?_)|refine yP J2 ?_|refine yN J2 ?_|refine aw_cd (zE J2) (fun hb=>?_) (fun hb=>?_)|refine aw_ce (zE J2) (fun hb=>?_) (fun hb=>?_)|refine aw_cn (zE J2) (fun hb=>?_) (fun hb=>?_)|(refine yF J2 (fun hb=>?_) (fun hb=>?_)<;>fail_if_success (cases hb;done))|(refine aw_gsd rfl rfl (zE J2) (fun hb=>?_) (fun hb=>?_)<;>refine yS J2 ?_)|(refine aw_gse rfl rfl (zE J2) (fun hb=>?_) (fun hb=>?_)<;>refine yS J2 ?_)|(refine aw_gsn rfl rfl (zE J2) (fun hb=>?_) (fun hb=>?_)<;>refine yS J2 ?_)|(refine aw_gs rfl rfl (zE J2) (fun hb=>?_) (fun hb=>?_)<;>fail_if_success (cases hb;done)<;>refine yS J2 ?_)|(refine drk_gsd rfl rfl (zE J2) (fun hb=>?_) (fun hb=>?_)<;>refine yS J2 ?_)|(refine drk_gse rfl rfl (zE J2) (fun hb=>?_) (fun hb=>?_)<;>refine yS J2 ?_)|(refine drk_gsn rfl rfl (zE J2) (fun hb=>?_) (fun hb=>?_)<;>refine yS J2 ?_)|(refine drk_gs rfl rfl (zE J2) (fun hb=>?_) (fun hb=>?_)<;>fail_if_success (cases hb;done)<;>refine yS J2 ?_)
  refine yV J2 ?_
  exact⟨rfl,{o with e:=some gb},⟨some_ne,ho.h,ho.g,ho.p,ho.r,ho.s⟩,rfl⟩
 ·rename_i n0
  obtain⟨h0,t,l',hl,hk,ht⟩:=is_tok hb
  have hB:=stB_h m h0 hl hk ht
  rw [hB]
  have f6:=take_fg g L s true hs om
  rw [take_cons h0 hl,if_pos rfl,ht] at f6
  dsimp only at f6
  have hsl:l'<:+L.map TX.t:=(show l'<:+s.l from by rw [hl];exact List.suffix_cons t l').trans hs
  have f7:=house_fg g L ⟨l',0⟩ hsl om
  clear hB i0 i1 i2 i3 i4 i5
  generalize houseS ⟨l',0⟩=y at*
  obtain⟨v,sy⟩:=y
  dsimp only at*
  have q0:(kHouse==kEvent)=false:=rfl
  have q1:(kHouse==kHouse)=true:=rfl
  have q2:(kHouse==kGate)=false:=rfl
  have q3:(kHouse==kPage)=false:=rfl
  have q4:(kHouse==kGroup)=false:=rfl
  have q5:(kHouse==kPhase)=false:=rfl
  repeat' first|refine yA1 (oj hne (oj hne' (oj q0 (oj q1 (oj q2 (oj q3 (oj q4 q5))))))) ?_|(refine aw_cg (f6) rfl rfl rfl (zE (oj hne (oj hne' (oj q0 (oj q1 (oj q2 (oj q3 (oj q4 q5)))))))) (zL2 (oj hne (oj hne' (oj q0 (oj q1 (oj q2 (oj q3 (oj q4 q5)))))))) ?_;refine yS (oj hne (oj hne' (oj q0 (oj q1 (oj q2 (oj q3 (oj q4 q5))))))) ?_)|(refine yW (oj hne (oj hne' (oj q0 (oj q1 (oj q2 (oj q3 (oj q4 q5))))))) ?_;refine yS (oj hne (oj hne' (oj q0 (oj q1 (oj q2 (oj q3 (oj q4 q5))))))) ?_)|refine yP (oj hne (oj hne' (oj q0 (oj q1 (oj q2 (oj q3 (oj q4 q5))))))) ?_|refine yN (oj hne (oj hne' (oj q0 (oj q1 (oj q2 (oj q3 (oj q4 q5))))))) ?_|refine aw_cd (zE (oj hne (oj hne' (oj q0 (oj q1 (oj q2 (oj q3 (oj q4 q5)))))))) (fun hb=>?_) (fun hb=>?_)|refine aw_ce (zE (oj hne (oj hne' (oj q0 (oj q1 (oj q2 (oj q3 (oj q4 q5)))))))) (fun hb=>?_) (fun hb=>?_)|refine aw_cn (zE (oj hne (oj hne' (oj q0 (oj q1 (oj q2 (oj q3 (oj q4 q5)))))))) (fun hb=>?_) (fun hb=>?_)|(refine yF (oj hne (oj hne' (oj q0 (oj q1 (oj q2 (oj q3 (oj q4 q5))))))) (fun hb=>?_) (fun hb=>?_)<;>fail_if_success (cases hb;done))|(refine aw_gsd rfl rfl (zE (oj hne (oj hne' (oj q0 (oj q1 (oj q2 (oj q3 (oj q4 q5)))))))) (fun hb=>?_) (fun hb=>?_)<;>refine yS (oj hne (oj hne' (oj q0 (oj q1 (oj q2 (oj q3 (oj q4 q5))))))) ?_)|(refine aw_gse rfl rfl (zE (oj hne (oj hne' (oj q0 (oj q1 (oj q2 (oj q3 (oj q4 q5)))))))) (fun hb=>?_) (fun hb=>?_)<;>refine yS (oj hne (oj hne' (oj q0 (oj q1 (oj q2 (oj q3 (oj q4 q5))))))) ?_)|(refine aw_gsn rfl rfl (zE (oj hne (oj hne' (oj q0 (oj q1 (oj q2 (oj q3 (oj q4 q5)))))))) (fun hb=>?_) (fun hb=>?_)<;>refine yS (oj hne (oj hne' (oj q0 (oj q1 (oj q2 (oj q3 (oj q4 q5))))))) ?_)|(refine aw_gs rfl rfl (zE (oj hne (oj hne' (oj q0 (oj q1 (oj q2 (oj q3 (oj q4 q5)))))))) (fun hb=>?_) (fun hb=>?_)<;>fail_if_success (cases hb;done)<;>refine yS (oj hne (oj hne' (oj q0 (oj q1 (oj q2 (oj q3 (oj q4 q5))))))) ?_)|(refine drk_gsd rfl rfl (zE (oj hne (oj hne' (oj q0 (oj q1 (oj q2 (oj q3 (oj q4 q5)))))))) (fun hb=>?_) (fun hb=>?_)<;>refine yS (oj hne (oj hne' (oj q0 (oj q1 (oj q2 (oj q3 (oj q4 q5))))))) ?_)|(refine drk_gse rfl rfl (zE (oj hne (oj hne' (oj q0 (oj q1 (oj q2 (oj q3 (oj q4 q5)))))))) (fun hb=>?_) (fun hb=>?_)<;>refine yS (oj hne (oj hne' (oj q0 (oj q1 (oj q2 (oj q3 (oj q4 q5))))))) ?_)|(refine drk_gsn rfl rfl (zE (oj hne (oj hne' (oj q0 (oj q1 (oj q2 (oj q3 (oj q4 q5)))))))) (fun hb=>?_) (fun hb=>?_)<;>refine yS (oj hne (oj hne' (oj q0 (oj q1 (oj q2 (oj q3 (oj q4 q5))))))) ?_)|(refine drk_gs rfl rfl (zE (oj hne (oj hne' (oj q0 (oj q1 (oj q2 (oj q3 (oj q4 q5)))))))) (fun hb=>?_) (fun hb=>?_)<;>fail_if_success (cases hb;done)<;>refine yS (oj hne (oj hne' (oj q0 (oj q1 (oj q2 (oj q3 (oj q4 q5))))))) ?_)
  obtain⟨X,hX⟩:∃X:Heap,X=List.flatten [gh o.e 61 (m.events.length*11) (evsF m.events)]:=⟨_,rfl⟩
  obtain⟨Z,hZ⟩:∃Z:Heap,Z=List.flatten [gh o.g 65 (m.gates.length*7) (gtsF m.gates),gh o.p 128 (m.pages.length*3) (pgsF m.pages),gh o.r 100 (m.groups.length*4) (grsF m.groups),gh o.s 104 (m.phases.length*3) (phsF m.phases)]:=⟨_,rfl⟩
  have hsp:mdT m o=X++(gh o.h 125 (m.houses.length*2) (hssF m.houses)++Z):=by
   subst hX hZ
   unfold mdT
   simp only [List.flatten_cons,List.flatten_nil,List.append_assoc,List.append_nil,List.nil_append]
  refine aw_perm (h':=(gM,mdO m o)::(g,rdO L ⟨l',0⟩)::((X++Z)++gh o.h 125 (m.houses.length*2) (hssF m.houses))) (.cons _ (.cons _ (perm_mid hsp))) ?_
  refine aw_cw ([(gM,mdO m o)]) [(0,0),(1,0),(2,0),(3,0),(4,0),(5,0),(6,1),(7,1),(8,1),(9,0),(10,0),(11,2)] ty_mixed (by kernel_rfl) eI ?_
  have J3:=oj hne (oj hne' (oj q0 (oj q1 (oj q2 (oj q3 (oj q4 q5))))))
  refine yG J3 ?_
  refine cw_cg rfl f7 rfl rfl rfl (zE J3) (zL J3) (by refine yS J3 ?_;exact has0_cons (List.mem_cons_self ..) has0_nil) ?_
  refine ySG J3 ?_
  refine cw_buildSlice (xs:=[.tmp 51]) (cells:=hsc v) rfl rfl rfl rfl (zE J3) (by refine yS J3 ?_;rfl) rfl om om (by intro x hx;simp only [List.mem_singleton] at hx;subst hx;exact⟨rfl,rfl,rfl⟩) rfl (by simp [Op.operands]) (has0_cons (List.mem_cons_self ..) has0_nil) (fun ga hn_ga=> ?_) (hm:=.inr ⟨rfl,rfl⟩)
  refine yS J3 ?_
  refine cw_push (pre:=(gM,mdO m o)::(g,rdO L sy)::(X++Z)) (og:=o.h) (n:=m.houses.length) (s:=49) (d1:=52) (gt:=ga) (v:=.agg (hsc v)) rfl rfl rfl rfl (zE J3) (zE J3) (by rfl) om om (zE J3) (zE J3) ho.h (by rfl) (by rfl) (by simp only [Nat.mul_one,List.cons_append,List.nil_append];rfl) (by have:=hb'.h;unfold maxLen;omega) (by have:=hb'.h;omega) (hss_push rfl v) (has0_skip (has0_cons (List.mem_cons_self ..) has0_nil)) (fun gb hn_gb=> ?_) (hm:=.inr ⟨rfl,rfl⟩)
  replace hn_ga:=Heap.ne_of hn_ga
  simp only [Heap.ne] at hn_ga
  have J4:=oj hne (oj hne' (oj q0 (oj q1 (oj q2 (oj q3 (oj q4 (oj q5 hn_ga)))))))
  refine ySG J4 ?_
  refine cw_store (FP':=[]) rfl rfl rfl rfl rfl (zE J4) (zE J4) (zE J4) (zE J4) (fun _ e=>by cases e) rfl rfl (show 4≤8 from by omega) rfl has0_nil ?_
  refine ySG J4 ?_
  have hln:(m.houses++[v]).length=m.houses.length+1:=by rw [List.length_append];rfl
  rw [←hln]
  have hsp2:mdT {m with houses:=m.houses++[v]} {o with h:=some gb}=X++(gh (some gb) 125 ((m.houses++[v]).length*2) (hssF (m.houses++[v]))++Z):=by
   subst hX hZ
   unfold mdT
   simp only [List.flatten_cons,List.flatten_nil,List.append_assoc,List.append_nil,List.nil_append]
  refine aw_keep [] _ (zB J4) (List.sublist_cons_self _ _) ?_
  refine aw_perm (h':=(gM,mdO {m with houses:=m.houses++[v]} {o with h:=some gb})::(g,rdO L sy)::mdT {m with houses:=m.houses++[v]} {o with h:=some gb}) (.cons _ (.cons _ (perm_mid hsp2).symm)) ?_
  repeat' first|refine yA1 J4 ?_|(refine yW J4 ?_;refine yS J4 ?_)|refine yP J4 ?_|refine yN J4 ?_|refine aw_cd (zE J4) (fun hb=>?_) (fun hb=>?_)|refine aw_ce (zE J4) (fun hb=>?_) (fun hb=>?_)|refine aw_cn (zE J4) (fun hb=>?_) (fun hb=>?_)|(refine yF J4 (fun hb=>?_) (fun hb=>?_)<;>fail_if_success (cases hb;done))|(refine aw_gsd rfl rfl (zE J4) (fun hb=>?_) (fun hb=>?_)<;>refine yS J4 ?_)|(refine aw_gse rfl rfl (zE J4) (fun hb=>?_) (fun hb=>?_)<;>refine yS J4 ?_)|(refine aw_gsn rfl rfl (zE J4) (fun hb=>?_) (fun hb=>?_)<;>refine yS J4 ?_)|(refine aw_gs rfl rfl (zE J4) (fun hb=>?_) (fun hb=>?_)<;>fail_if_success (cases hb;done)<;>refine yS J4 ?_)|(refine drk_gsd rfl rfl (zE J4) (fun hb=>?_) (fun hb=>?_)<;>refine yS J4 ?_)|(refine drk_gse rfl rfl (zE J4) (fun hb=>?_) (fun hb=>?_)<;>refine yS J4 ?_)|(refine drk_gsn rfl rfl (zE J4) (fun hb=>?_) (fun hb=>?_)<;>refine yS J4 ?_)|(refine drk_gs rfl rfl (zE J4) (fun hb=>?_) (fun hb=>?_)<;>fail_if_success (cases hb;done)<;>refine yS J4 ?_)
  refine yV J4 ?_
  exact⟨rfl,{o with h:=some gb},⟨ho.e,some_ne,ho.g,ho.p,ho.r,ho.s⟩,rfl⟩
 ·rename_i n0 n1
  obtain⟨h0,t,l',hl,hk,ht⟩:=is_tok hb
  have hB:=stB_g m h0 hl hk ht
  rw [hB]
  have f6:=take_fg g L s true hs om
  rw [take_cons h0 hl,if_pos rfl,ht] at f6
  dsimp only at f6
  have hsl:l'<:+L.map TX.t:=(show l'<:+s.l from by rw [hl];exact List.suffix_cons t l').trans hs
  have f7:=gate_fg g L ⟨l',0⟩ hsl om hw
  clear hB i0 i1 i2 i3 i4 i5
  generalize gateS ⟨l',0⟩=y at*
  obtain⟨v,sy⟩:=y
  dsimp only at*
  have q0:(kGate==kEvent)=false:=rfl
  have q1:(kGate==kHouse)=false:=rfl
  have q2:(kGate==kGate)=true:=rfl
  have q3:(kGate==kPage)=false:=rfl
  have q4:(kGate==kGroup)=false:=rfl
  have q5:(kGate==kPhase)=false:=rfl
  repeat' first|refine yA1 (oj hne (oj hne' (oj q0 (oj q1 (oj q2 (oj q3 (oj q4 q5))))))) ?_|(refine aw_cg (f6) rfl rfl rfl (zE (oj hne (oj hne' (oj q0 (oj q1 (oj q2 (oj q3 (oj q4 q5)))))))) (zL2 (oj hne (oj hne' (oj q0 (oj q1 (oj q2 (oj q3 (oj q4 q5)))))))) ?_;refine yS (oj hne (oj hne' (oj q0 (oj q1 (oj q2 (oj q3 (oj q4 q5))))))) ?_)|(refine yW (oj hne (oj hne' (oj q0 (oj q1 (oj q2 (oj q3 (oj q4 q5))))))) ?_;refine yS (oj hne (oj hne' (oj q0 (oj q1 (oj q2 (oj q3 (oj q4 q5))))))) ?_)|refine yP (oj hne (oj hne' (oj q0 (oj q1 (oj q2 (oj q3 (oj q4 q5))))))) ?_|refine yN (oj hne (oj hne' (oj q0 (oj q1 (oj q2 (oj q3 (oj q4 q5))))))) ?_|refine aw_cd (zE (oj hne (oj hne' (oj q0 (oj q1 (oj q2 (oj q3 (oj q4 q5)))))))) (fun hb=>?_) (fun hb=>?_)|refine aw_ce (zE (oj hne (oj hne' (oj q0 (oj q1 (oj q2 (oj q3 (oj q4 q5)))))))) (fun hb=>?_) (fun hb=>?_)|refine aw_cn (zE (oj hne (oj hne' (oj q0 (oj q1 (oj q2 (oj q3 (oj q4 q5)))))))) (fun hb=>?_) (fun hb=>?_)|(refine yF (oj hne (oj hne' (oj q0 (oj q1 (oj q2 (oj q3 (oj q4 q5))))))) (fun hb=>?_) (fun hb=>?_)<;>fail_if_success (cases hb;done))|(refine aw_gsd rfl rfl (zE (oj hne (oj hne' (oj q0 (oj q1 (oj q2 (oj q3 (oj q4 q5)))))))) (fun hb=>?_) (fun hb=>?_)<;>refine yS (oj hne (oj hne' (oj q0 (oj q1 (oj q2 (oj q3 (oj q4 q5))))))) ?_)|(refine aw_gse rfl rfl (zE (oj hne (oj hne' (oj q0 (oj q1 (oj q2 (oj q3 (oj q4 q5)))))))) (fun hb=>?_) (fun hb=>?_)<;>refine yS (oj hne (oj hne' (oj q0 (oj q1 (oj q2 (oj q3 (oj q4 q5))))))) ?_)|(refine aw_gsn rfl rfl (zE (oj hne (oj hne' (oj q0 (oj q1 (oj q2 (oj q3 (oj q4 q5)))))))) (fun hb=>?_) (fun hb=>?_)<;>refine yS (oj hne (oj hne' (oj q0 (oj q1 (oj q2 (oj q3 (oj q4 q5))))))) ?_)|(refine aw_gs rfl rfl (zE (oj hne (oj hne' (oj q0 (oj q1 (oj q2 (oj q3 (oj q4 q5)))))))) (fun hb=>?_) (fun hb=>?_)<;>fail_if_success (cases hb;done)<;>refine yS (oj hne (oj hne' (oj q0 (oj q1 (oj q2 (oj q3 (oj q4 q5))))))) ?_)|(refine drk_gsd rfl rfl (zE (oj hne (oj hne' (oj q0 (oj q1 (oj q2 (oj q3 (oj q4 q5)))))))) (fun hb=>?_) (fun hb=>?_)<;>refine yS (oj hne (oj hne' (oj q0 (oj q1 (oj q2 (oj q3 (oj q4 q5))))))) ?_)|(refine drk_gse rfl rfl (zE (oj hne (oj hne' (oj q0 (oj q1 (oj q2 (oj q3 (oj q4 q5)))))))) (fun hb=>?_) (fun hb=>?_)<;>refine yS (oj hne (oj hne' (oj q0 (oj q1 (oj q2 (oj q3 (oj q4 q5))))))) ?_)|(refine drk_gsn rfl rfl (zE (oj hne (oj hne' (oj q0 (oj q1 (oj q2 (oj q3 (oj q4 q5)))))))) (fun hb=>?_) (fun hb=>?_)<;>refine yS (oj hne (oj hne' (oj q0 (oj q1 (oj q2 (oj q3 (oj q4 q5))))))) ?_)|(refine drk_gs rfl rfl (zE (oj hne (oj hne' (oj q0 (oj q1 (oj q2 (oj q3 (oj q4 q5)))))))) (fun hb=>?_) (fun hb=>?_)<;>fail_if_success (cases hb;done)<;>refine yS (oj hne (oj hne' (oj q0 (oj q1 (oj q2 (oj q3 (oj q4 q5))))))) ?_)
  obtain⟨X,hX⟩:∃X:Heap,X=List.flatten [gh o.e 61 (m.events.length*11) (evsF m.events),gh o.h 125 (m.houses.length*2) (hssF m.houses)]:=⟨_,rfl⟩
  obtain⟨Z,hZ⟩:∃Z:Heap,Z=List.flatten [gh o.p 128 (m.pages.length*3) (pgsF m.pages),gh o.r 100 (m.groups.length*4) (grsF m.groups),gh o.s 104 (m.phases.length*3) (phsF m.phases)]:=⟨_,rfl⟩
  have hsp:mdT m o=X++(gh o.g 65 (m.gates.length*7) (gtsF m.gates)++Z):=by
   subst hX hZ
   unfold mdT
   simp only [List.flatten_cons,List.flatten_nil,List.append_assoc,List.append_nil,List.nil_append]
  refine aw_perm (h':=(gM,mdO m o)::(g,rdO L ⟨l',0⟩)::((X++Z)++gh o.g 65 (m.gates.length*7) (gtsF m.gates))) (.cons _ (.cons _ (perm_mid hsp))) ?_
  refine aw_cw ([(gM,mdO m o)]) [(0,0),(1,0),(2,0),(3,0),(4,0),(5,0),(6,1),(7,1),(8,1),(9,0),(10,0),(11,2)] ty_mixed (by kernel_rfl) eI ?_
  have J5:=oj hne (oj hne' (oj q0 (oj q1 (oj q2 (oj q3 (oj q4 q5))))))
  refine yG J5 ?_
  refine cw_cg rfl f7 rfl rfl rfl (zE J5) (zL J5) (by refine yS J5 ?_;exact has0_cons (List.mem_cons_self ..) has0_nil) ?_
  refine ySG J5 ?_
  refine cw_buildSlice (xs:=[.tmp 64]) (cells:=gtc v) rfl rfl rfl rfl (zE J5) (by refine yS J5 ?_;rfl) rfl om om (by intro x hx;simp only [List.mem_singleton] at hx;subst hx;exact⟨rfl,rfl,rfl⟩) rfl (by simp [Op.operands]) (has0_cons (List.mem_cons_self ..) has0_nil) (fun ga hn_ga=> ?_) (hm:=.inr ⟨rfl,rfl⟩)
  refine yS J5 ?_
  refine cw_push (pre:=(gM,mdO m o)::(g,rdO L sy)::(X++Z)) (og:=o.g) (n:=m.gates.length) (s:=62) (d1:=65) (gt:=ga) (v:=.agg (gtc v)) rfl rfl rfl rfl (zE J5) (zE J5) (by rfl) om om (zE J5) (zE J5) ho.g (by rfl) (by rfl) (by simp only [Nat.mul_one,List.cons_append,List.nil_append];rfl) (by have:=hb'.g;unfold maxLen;omega) (by have:=hb'.g;omega) (gts_push rfl v) (has0_skip (has0_cons (List.mem_cons_self ..) has0_nil)) (fun gb hn_gb=> ?_) (hm:=.inr ⟨rfl,rfl⟩)
  replace hn_ga:=Heap.ne_of hn_ga
  simp only [Heap.ne] at hn_ga
  have J6:=oj hne (oj hne' (oj q0 (oj q1 (oj q2 (oj q3 (oj q4 (oj q5 hn_ga)))))))
  refine ySG J6 ?_
  refine cw_store (FP':=[]) rfl rfl rfl rfl rfl (zE J6) (zE J6) (zE J6) (zE J6) (fun _ e=>by cases e) rfl rfl (show 5≤8 from by omega) rfl has0_nil ?_
  refine ySG J6 ?_
  have hln:(m.gates++[v]).length=m.gates.length+1:=by rw [List.length_append];rfl
  rw [←hln]
  have hsp2:mdT {m with gates:=m.gates++[v]} {o with g:=some gb}=X++(gh (some gb) 65 ((m.gates++[v]).length*7) (gtsF (m.gates++[v]))++Z):=by
   subst hX hZ
   unfold mdT
   simp only [List.flatten_cons,List.flatten_nil,List.append_assoc,List.append_nil,List.nil_append]
  refine aw_keep [] _ (zB J6) (List.sublist_cons_self _ _) ?_
  refine aw_perm (h':=(gM,mdO {m with gates:=m.gates++[v]} {o with g:=some gb})::(g,rdO L sy)::mdT {m with gates:=m.gates++[v]} {o with g:=some gb}) (.cons _ (.cons _ (perm_mid hsp2).symm)) ?_
  repeat' first|refine yA1 J6 ?_|(refine yW J6 ?_;refine yS J6 ?_)|refine yP J6 ?_|refine yN J6 ?_|refine aw_cd (zE J6) (fun hb=>?_) (fun hb=>?_)|refine aw_ce (zE J6) (fun hb=>?_) (fun hb=>?_)|refine aw_cn (zE J6) (fun hb=>?_) (fun hb=>?_)|(refine yF J6 (fun hb=>?_) (fun hb=>?_)<;>fail_if_success (cases hb;done))|(refine aw_gsd rfl rfl (zE J6) (fun hb=>?_) (fun hb=>?_)<;>refine yS J6 ?_)|(refine aw_gse rfl rfl (zE J6) (fun hb=>?_) (fun hb=>?_)<;>refine yS J6 ?_)|(refine aw_gsn rfl rfl (zE J6) (fun hb=>?_) (fun hb=>?_)<;>refine yS J6 ?_)|(refine aw_gs rfl rfl (zE J6) (fun hb=>?_) (fun hb=>?_)<;>fail_if_success (cases hb;done)<;>refine yS J6 ?_)|(refine drk_gsd rfl rfl (zE J6) (fun hb=>?_) (fun hb=>?_)<;>refine yS J6 ?_)|(refine drk_gse rfl rfl (zE J6) (fun hb=>?_) (fun hb=>?_)<;>refine yS J6 ?_)|(refine drk_gsn rfl rfl (zE J6) (fun hb=>?_) (fun hb=>?_)<;>refine yS J6 ?_)|(refine drk_gs rfl rfl (zE J6) (fun hb=>?_) (fun hb=>?_)<;>fail_if_success (cases hb;done)<;>refine yS J6 ?_)
  refine yV J6 ?_
  exact⟨rfl,{o with g:=some gb},⟨ho.e,ho.h,some_ne,ho.p,ho.r,ho.s⟩,rfl⟩
 ·rename_i n0 n1 n2
  obtain⟨h0,t,l',hl,hk,ht⟩:=is_tok hb
  have hB:=stB_p m h0 hl hk ht
  rw [hB]
  have f6:=take_fg g L s true hs om
  rw [take_cons h0 hl,if_pos rfl,ht] at f6
  dsimp only at f6
  have hsl:l'<:+L.map TX.t:=(show l'<:+s.l from by rw [hl];exact List.suffix_cons t l').trans hs
  have f7:=page_fg g L ⟨l',0⟩ hsl om hw
  clear hB i0 i1 i2 i3 i4 i5
  generalize pageS ⟨l',0⟩=y at*
  obtain⟨v,sy⟩:=y
  dsimp only at*
  have q0:(kPage==kEvent)=false:=rfl
  have q1:(kPage==kHouse)=false:=rfl
  have q2:(kPage==kGate)=false:=rfl
  have q3:(kPage==kPage)=true:=rfl
  have q4:(kPage==kGroup)=false:=rfl
  have q5:(kPage==kPhase)=false:=rfl
  repeat' first|refine yA1 (oj hne (oj hne' (oj q0 (oj q1 (oj q2 (oj q3 (oj q4 q5))))))) ?_|(refine aw_cg (f6) rfl rfl rfl (zE (oj hne (oj hne' (oj q0 (oj q1 (oj q2 (oj q3 (oj q4 q5)))))))) (zL2 (oj hne (oj hne' (oj q0 (oj q1 (oj q2 (oj q3 (oj q4 q5)))))))) ?_;refine yS (oj hne (oj hne' (oj q0 (oj q1 (oj q2 (oj q3 (oj q4 q5))))))) ?_)|(refine yW (oj hne (oj hne' (oj q0 (oj q1 (oj q2 (oj q3 (oj q4 q5))))))) ?_;refine yS (oj hne (oj hne' (oj q0 (oj q1 (oj q2 (oj q3 (oj q4 q5))))))) ?_)|refine yP (oj hne (oj hne' (oj q0 (oj q1 (oj q2 (oj q3 (oj q4 q5))))))) ?_|refine yN (oj hne (oj hne' (oj q0 (oj q1 (oj q2 (oj q3 (oj q4 q5))))))) ?_|refine aw_cd (zE (oj hne (oj hne' (oj q0 (oj q1 (oj q2 (oj q3 (oj q4 q5)))))))) (fun hb=>?_) (fun hb=>?_)|refine aw_ce (zE (oj hne (oj hne' (oj q0 (oj q1 (oj q2 (oj q3 (oj q4 q5)))))))) (fun hb=>?_) (fun hb=>?_)|refine aw_cn (zE (oj hne (oj hne' (oj q0 (oj q1 (oj q2 (oj q3 (oj q4 q5)))))))) (fun hb=>?_) (fun hb=>?_)|(refine yF (oj hne (oj hne' (oj q0 (oj q1 (oj q2 (oj q3 (oj q4 q5))))))) (fun hb=>?_) (fun hb=>?_)<;>fail_if_success (cases hb;done))|(refine aw_gsd rfl rfl (zE (oj hne (oj hne' (oj q0 (oj q1 (oj q2 (oj q3 (oj q4 q5)))))))) (fun hb=>?_) (fun hb=>?_)<;>refine yS (oj hne (oj hne' (oj q0 (oj q1 (oj q2 (oj q3 (oj q4 q5))))))) ?_)|(refine aw_gse rfl rfl (zE (oj hne (oj hne' (oj q0 (oj q1 (oj q2 (oj q3 (oj q4 q5)))))))) (fun hb=>?_) (fun hb=>?_)<;>refine yS (oj hne (oj hne' (oj q0 (oj q1 (oj q2 (oj q3 (oj q4 q5))))))) ?_)|(refine aw_gsn rfl rfl (zE (oj hne (oj hne' (oj q0 (oj q1 (oj q2 (oj q3 (oj q4 q5)))))))) (fun hb=>?_) (fun hb=>?_)<;>refine yS (oj hne (oj hne' (oj q0 (oj q1 (oj q2 (oj q3 (oj q4 q5))))))) ?_)|(refine aw_gs rfl rfl (zE (oj hne (oj hne' (oj q0 (oj q1 (oj q2 (oj q3 (oj q4 q5)))))))) (fun hb=>?_) (fun hb=>?_)<;>fail_if_success (cases hb;done)<;>refine yS (oj hne (oj hne' (oj q0 (oj q1 (oj q2 (oj q3 (oj q4 q5))))))) ?_)|(refine drk_gsd rfl rfl (zE (oj hne (oj hne' (oj q0 (oj q1 (oj q2 (oj q3 (oj q4 q5)))))))) (fun hb=>?_) (fun hb=>?_)<;>refine yS (oj hne (oj hne' (oj q0 (oj q1 (oj q2 (oj q3 (oj q4 q5))))))) ?_)|(refine drk_gse rfl rfl (zE (oj hne (oj hne' (oj q0 (oj q1 (oj q2 (oj q3 (oj q4 q5)))))))) (fun hb=>?_) (fun hb=>?_)<;>refine yS (oj hne (oj hne' (oj q0 (oj q1 (oj q2 (oj q3 (oj q4 q5))))))) ?_)|(refine drk_gsn rfl rfl (zE (oj hne (oj hne' (oj q0 (oj q1 (oj q2 (oj q3 (oj q4 q5)))))))) (fun hb=>?_) (fun hb=>?_)<;>refine yS (oj hne (oj hne' (oj q0 (oj q1 (oj q2 (oj q3 (oj q4 q5))))))) ?_)|(refine drk_gs rfl rfl (zE (oj hne (oj hne' (oj q0 (oj q1 (oj q2 (oj q3 (oj q4 q5)))))))) (fun hb=>?_) (fun hb=>?_)<;>fail_if_success (cases hb;done)<;>refine yS (oj hne (oj hne' (oj q0 (oj q1 (oj q2 (oj q3 (oj q4 q5))))))) ?_)
  obtain⟨X,hX⟩:∃X:Heap,X=List.flatten [gh o.e 61 (m.events.length*11) (evsF m.events),gh o.h 125 (m.houses.length*2) (hssF m.houses),gh o.g 65 (m.gates.length*7) (gtsF m.gates)]:=⟨_,rfl⟩
  obtain⟨Z,hZ⟩:∃Z:Heap,Z=List.flatten [gh o.r 100 (m.groups.length*4) (grsF m.groups),gh o.s 104 (m.phases.length*3) (phsF m.phases)]:=⟨_,rfl⟩
  have hsp:mdT m o=X++(gh o.p 128 (m.pages.length*3) (pgsF m.pages)++Z):=by
   subst hX hZ
   unfold mdT
   simp only [List.flatten_cons,List.flatten_nil,List.append_assoc,List.append_nil,List.nil_append]
  refine aw_perm (h':=(gM,mdO m o)::(g,rdO L ⟨l',0⟩)::((X++Z)++gh o.p 128 (m.pages.length*3) (pgsF m.pages))) (.cons _ (.cons _ (perm_mid hsp))) ?_
  refine aw_cw ([(gM,mdO m o)]) [(0,0),(1,0),(2,0),(3,0),(4,0),(5,0),(6,1),(7,1),(8,1),(9,0),(10,0),(11,2)] ty_mixed (by kernel_rfl) eI ?_
  have J7:=oj hne (oj hne' (oj q0 (oj q1 (oj q2 (oj q3 (oj q4 q5))))))
  refine yG J7 ?_
  refine cw_cg rfl f7 rfl rfl rfl (zE J7) (zL J7) (by refine yS J7 ?_;exact has0_cons (List.mem_cons_self ..) has0_nil) ?_
  refine ySG J7 ?_
  refine cw_buildSlice (xs:=[.tmp 77]) (cells:=pgc v) rfl rfl rfl rfl (zE J7) (by refine yS J7 ?_;rfl) rfl om om (by intro x hx;simp only [List.mem_singleton] at hx;subst hx;exact⟨rfl,rfl,rfl⟩) rfl (by simp [Op.operands]) (has0_cons (List.mem_cons_self ..) has0_nil) (fun ga hn_ga=> ?_) (hm:=.inr ⟨rfl,rfl⟩)
  refine yS J7 ?_
  refine cw_push (pre:=(gM,mdO m o)::(g,rdO L sy)::(X++Z)) (og:=o.p) (n:=m.pages.length) (s:=75) (d1:=78) (gt:=ga) (v:=.agg (pgc v)) rfl rfl rfl rfl (zE J7) (zE J7) (by rfl) om om (zE J7) (zE J7) ho.p (by rfl) (by rfl) (by simp only [Nat.mul_one,List.cons_append,List.nil_append];rfl) (by have:=hb'.p;unfold maxLen;omega) (by have:=hb'.p;omega) (pgs_push rfl v) (has0_skip (has0_cons (List.mem_cons_self ..) has0_nil)) (fun gb hn_gb=> ?_) (hm:=.inr ⟨rfl,rfl⟩)
  replace hn_ga:=Heap.ne_of hn_ga
  simp only [Heap.ne] at hn_ga
  have J8:=oj hne (oj hne' (oj q0 (oj q1 (oj q2 (oj q3 (oj q4 (oj q5 hn_ga)))))))
  refine ySG J8 ?_
  refine cw_store (FP':=[]) rfl rfl rfl rfl rfl (zE J8) (zE J8) (zE J8) (zE J8) (fun _ e=>by cases e) rfl rfl (show 6≤8 from by omega) rfl has0_nil ?_
  refine ySG J8 ?_
  have hln:(m.pages++[v]).length=m.pages.length+1:=by rw [List.length_append];rfl
  rw [←hln]
  have hsp2:mdT {m with pages:=m.pages++[v]} {o with p:=some gb}=X++(gh (some gb) 128 ((m.pages++[v]).length*3) (pgsF (m.pages++[v]))++Z):=by
   subst hX hZ
   unfold mdT
   simp only [List.flatten_cons,List.flatten_nil,List.append_assoc,List.append_nil,List.nil_append]
  refine aw_keep [] _ (zB J8) (List.sublist_cons_self _ _) ?_
  refine aw_perm (h':=(gM,mdO {m with pages:=m.pages++[v]} {o with p:=some gb})::(g,rdO L sy)::mdT {m with pages:=m.pages++[v]} {o with p:=some gb}) (.cons _ (.cons _ (perm_mid hsp2).symm)) ?_
  repeat' first|refine yA1 J8 ?_|(refine yW J8 ?_;refine yS J8 ?_)|refine yP J8 ?_|refine yN J8 ?_|refine aw_cd (zE J8) (fun hb=>?_) (fun hb=>?_)|refine aw_ce (zE J8) (fun hb=>?_) (fun hb=>?_)|refine aw_cn (zE J8) (fun hb=>?_) (fun hb=>?_)|(refine yF J8 (fun hb=>?_) (fun hb=>?_)<;>fail_if_success (cases hb;done))|(refine aw_gsd rfl rfl (zE J8) (fun hb=>?_) (fun hb=>?_)<;>refine yS J8 ?_)|(refine aw_gse rfl rfl (zE J8) (fun hb=>?_) (fun hb=>?_)<;>refine yS J8 ?_)|(refine aw_gsn rfl rfl (zE J8) (fun hb=>?_) (fun hb=>?_)<;>refine yS J8 ?_)|(refine aw_gs rfl rfl (zE J8) (fun hb=>?_) (fun hb=>?_)<;>fail_if_success (cases hb;done)<;>refine yS J8 ?_)|(refine drk_gsd rfl rfl (zE J8) (fun hb=>?_) (fun hb=>?_)<;>refine yS J8 ?_)|(refine drk_gse rfl rfl (zE J8) (fun hb=>?_) (fun hb=>?_)<;>refine yS J8 ?_)|(refine drk_gsn rfl rfl (zE J8) (fun hb=>?_) (fun hb=>?_)<;>refine yS J8 ?_)|(refine drk_gs rfl rfl (zE J8) (fun hb=>?_) (fun hb=>?_)<;>fail_if_success (cases hb;done)<;>refine yS J8 ?_)
  refine yV J8 ?_
  exact⟨rfl,{o with p:=some gb},⟨ho.e,ho.h,ho.g,some_ne,ho.r,ho.s⟩,rfl⟩
 ·rename_i n0 n1 n2 n3
  obtain⟨h0,t,l',hl,hk,ht⟩:=is_tok hb
  have hB:=stB_r m h0 hl hk ht
  rw [hB]
  have f6:=take_fg g L s true hs om
  rw [take_cons h0 hl,if_pos rfl,ht] at f6
  dsimp only at f6
  have hsl:l'<:+L.map TX.t:=(show l'<:+s.l from by rw [hl];exact List.suffix_cons t l').trans hs
  have f7:=group_fg g L ⟨l',0⟩ hsl om hw
  clear hB i0 i1 i2 i3 i4 i5
  generalize groupS ⟨l',0⟩=y at*
  obtain⟨v,sy⟩:=y
  dsimp only at*
  have q0:(kGroup==kEvent)=false:=rfl
  have q1:(kGroup==kHouse)=false:=rfl
  have q2:(kGroup==kGate)=false:=rfl
  have q3:(kGroup==kPage)=false:=rfl
  have q4:(kGroup==kGroup)=true:=rfl
  have q5:(kGroup==kPhase)=false:=rfl
  repeat' first|refine yA1 (oj hne (oj hne' (oj q0 (oj q1 (oj q2 (oj q3 (oj q4 q5))))))) ?_|(refine aw_cg (f6) rfl rfl rfl (zE (oj hne (oj hne' (oj q0 (oj q1 (oj q2 (oj q3 (oj q4 q5)))))))) (zL2 (oj hne (oj hne' (oj q0 (oj q1 (oj q2 (oj q3 (oj q4 q5)))))))) ?_;refine yS (oj hne (oj hne' (oj q0 (oj q1 (oj q2 (oj q3 (oj q4 q5))))))) ?_)|(refine yW (oj hne (oj hne' (oj q0 (oj q1 (oj q2 (oj q3 (oj q4 q5))))))) ?_;refine yS (oj hne (oj hne' (oj q0 (oj q1 (oj q2 (oj q3 (oj q4 q5))))))) ?_)|refine yP (oj hne (oj hne' (oj q0 (oj q1 (oj q2 (oj q3 (oj q4 q5))))))) ?_|refine yN (oj hne (oj hne' (oj q0 (oj q1 (oj q2 (oj q3 (oj q4 q5))))))) ?_|refine aw_cd (zE (oj hne (oj hne' (oj q0 (oj q1 (oj q2 (oj q3 (oj q4 q5)))))))) (fun hb=>?_) (fun hb=>?_)|refine aw_ce (zE (oj hne (oj hne' (oj q0 (oj q1 (oj q2 (oj q3 (oj q4 q5)))))))) (fun hb=>?_) (fun hb=>?_)|refine aw_cn (zE (oj hne (oj hne' (oj q0 (oj q1 (oj q2 (oj q3 (oj q4 q5)))))))) (fun hb=>?_) (fun hb=>?_)|(refine yF (oj hne (oj hne' (oj q0 (oj q1 (oj q2 (oj q3 (oj q4 q5))))))) (fun hb=>?_) (fun hb=>?_)<;>fail_if_success (cases hb;done))|(refine aw_gsd rfl rfl (zE (oj hne (oj hne' (oj q0 (oj q1 (oj q2 (oj q3 (oj q4 q5)))))))) (fun hb=>?_) (fun hb=>?_)<;>refine yS (oj hne (oj hne' (oj q0 (oj q1 (oj q2 (oj q3 (oj q4 q5))))))) ?_)|(refine aw_gse rfl rfl (zE (oj hne (oj hne' (oj q0 (oj q1 (oj q2 (oj q3 (oj q4 q5)))))))) (fun hb=>?_) (fun hb=>?_)<;>refine yS (oj hne (oj hne' (oj q0 (oj q1 (oj q2 (oj q3 (oj q4 q5))))))) ?_)|(refine aw_gsn rfl rfl (zE (oj hne (oj hne' (oj q0 (oj q1 (oj q2 (oj q3 (oj q4 q5)))))))) (fun hb=>?_) (fun hb=>?_)<;>refine yS (oj hne (oj hne' (oj q0 (oj q1 (oj q2 (oj q3 (oj q4 q5))))))) ?_)|(refine aw_gs rfl rfl (zE (oj hne (oj hne' (oj q0 (oj q1 (oj q2 (oj q3 (oj q4 q5)))))))) (fun hb=>?_) (fun hb=>?_)<;>fail_if_success (cases hb;done)<;>refine yS (oj hne (oj hne' (oj q0 (oj q1 (oj q2 (oj q3 (oj q4 q5))))))) ?_)|(refine drk_gsd rfl rfl (zE (oj hne (oj hne' (oj q0 (oj q1 (oj q2 (oj q3 (oj q4 q5)))))))) (fun hb=>?_) (fun hb=>?_)<;>refine yS (oj hne (oj hne' (oj q0 (oj q1 (oj q2 (oj q3 (oj q4 q5))))))) ?_)|(refine drk_gse rfl rfl (zE (oj hne (oj hne' (oj q0 (oj q1 (oj q2 (oj q3 (oj q4 q5)))))))) (fun hb=>?_) (fun hb=>?_)<;>refine yS (oj hne (oj hne' (oj q0 (oj q1 (oj q2 (oj q3 (oj q4 q5))))))) ?_)|(refine drk_gsn rfl rfl (zE (oj hne (oj hne' (oj q0 (oj q1 (oj q2 (oj q3 (oj q4 q5)))))))) (fun hb=>?_) (fun hb=>?_)<;>refine yS (oj hne (oj hne' (oj q0 (oj q1 (oj q2 (oj q3 (oj q4 q5))))))) ?_)|(refine drk_gs rfl rfl (zE (oj hne (oj hne' (oj q0 (oj q1 (oj q2 (oj q3 (oj q4 q5)))))))) (fun hb=>?_) (fun hb=>?_)<;>fail_if_success (cases hb;done)<;>refine yS (oj hne (oj hne' (oj q0 (oj q1 (oj q2 (oj q3 (oj q4 q5))))))) ?_)
  obtain⟨X,hX⟩:∃X:Heap,X=List.flatten [gh o.e 61 (m.events.length*11) (evsF m.events),gh o.h 125 (m.houses.length*2) (hssF m.houses),gh o.g 65 (m.gates.length*7) (gtsF m.gates),gh o.p 128 (m.pages.length*3) (pgsF m.pages)]:=⟨_,rfl⟩
  obtain⟨Z,hZ⟩:∃Z:Heap,Z=List.flatten [gh o.s 104 (m.phases.length*3) (phsF m.phases)]:=⟨_,rfl⟩
  have hsp:mdT m o=X++(gh o.r 100 (m.groups.length*4) (grsF m.groups)++Z):=by
   subst hX hZ
   unfold mdT
   simp only [List.flatten_cons,List.flatten_nil,List.append_assoc,List.append_nil,List.nil_append]
  refine aw_perm (h':=(gM,mdO m o)::(g,rdO L ⟨l',0⟩)::((X++Z)++gh o.r 100 (m.groups.length*4) (grsF m.groups))) (.cons _ (.cons _ (perm_mid hsp))) ?_
  refine aw_cw ([(gM,mdO m o)]) [(0,0),(1,0),(2,0),(3,0),(4,0),(5,0),(6,1),(7,1),(8,1),(9,0),(10,0),(11,2)] ty_mixed (by kernel_rfl) eI ?_
  have J9:=oj hne (oj hne' (oj q0 (oj q1 (oj q2 (oj q3 (oj q4 q5))))))
  refine yG J9 ?_
  refine cw_cg rfl f7 rfl rfl rfl (zE J9) (zL J9) (by refine yS J9 ?_;exact has0_cons (List.mem_cons_self ..) has0_nil) ?_
  refine ySG J9 ?_
  refine cw_buildSlice (xs:=[.tmp 90]) (cells:=grc v) rfl rfl rfl rfl (zE J9) (by refine yS J9 ?_;rfl) rfl om om (by intro x hx;simp only [List.mem_singleton] at hx;subst hx;exact⟨rfl,rfl,rfl⟩) rfl (by simp [Op.operands]) (has0_cons (List.mem_cons_self ..) has0_nil) (fun ga hn_ga=> ?_) (hm:=.inr ⟨rfl,rfl⟩)
  refine yS J9 ?_
  refine cw_push (pre:=(gM,mdO m o)::(g,rdO L sy)::(X++Z)) (og:=o.r) (n:=m.groups.length) (s:=88) (d1:=91) (gt:=ga) (v:=.agg (grc v)) rfl rfl rfl rfl (zE J9) (zE J9) (by rfl) om om (zE J9) (zE J9) ho.r (by rfl) (by rfl) (by simp only [Nat.mul_one,List.cons_append,List.nil_append];rfl) (by have:=hb'.r;unfold maxLen;omega) (by have:=hb'.r;omega) (grs_push rfl v) (has0_skip (has0_cons (List.mem_cons_self ..) has0_nil)) (fun gb hn_gb=> ?_) (hm:=.inr ⟨rfl,rfl⟩)
  replace hn_ga:=Heap.ne_of hn_ga
  simp only [Heap.ne] at hn_ga
  have J10:=oj hne (oj hne' (oj q0 (oj q1 (oj q2 (oj q3 (oj q4 (oj q5 hn_ga)))))))
  refine ySG J10 ?_
  refine cw_store (FP':=[]) rfl rfl rfl rfl rfl (zE J10) (zE J10) (zE J10) (zE J10) (fun _ e=>by cases e) rfl rfl (show 7≤8 from by omega) rfl has0_nil ?_
  refine ySG J10 ?_
  have hln:(m.groups++[v]).length=m.groups.length+1:=by rw [List.length_append];rfl
  rw [←hln]
  have hsp2:mdT {m with groups:=m.groups++[v]} {o with r:=some gb}=X++(gh (some gb) 100 ((m.groups++[v]).length*4) (grsF (m.groups++[v]))++Z):=by
   subst hX hZ
   unfold mdT
   simp only [List.flatten_cons,List.flatten_nil,List.append_assoc,List.append_nil,List.nil_append]
  refine aw_keep [] _ (zB J10) (List.sublist_cons_self _ _) ?_
  refine aw_perm (h':=(gM,mdO {m with groups:=m.groups++[v]} {o with r:=some gb})::(g,rdO L sy)::mdT {m with groups:=m.groups++[v]} {o with r:=some gb}) (.cons _ (.cons _ (perm_mid hsp2).symm)) ?_
  repeat' first|refine yA1 J10 ?_|(refine yW J10 ?_;refine yS J10 ?_)|refine yP J10 ?_|refine yN J10 ?_|refine aw_cd (zE J10) (fun hb=>?_) (fun hb=>?_)|refine aw_ce (zE J10) (fun hb=>?_) (fun hb=>?_)|refine aw_cn (zE J10) (fun hb=>?_) (fun hb=>?_)|(refine yF J10 (fun hb=>?_) (fun hb=>?_)<;>fail_if_success (cases hb;done))|(refine aw_gsd rfl rfl (zE J10) (fun hb=>?_) (fun hb=>?_)<;>refine yS J10 ?_)|(refine aw_gse rfl rfl (zE J10) (fun hb=>?_) (fun hb=>?_)<;>refine yS J10 ?_)|(refine aw_gsn rfl rfl (zE J10) (fun hb=>?_) (fun hb=>?_)<;>refine yS J10 ?_)|(refine aw_gs rfl rfl (zE J10) (fun hb=>?_) (fun hb=>?_)<;>fail_if_success (cases hb;done)<;>refine yS J10 ?_)|(refine drk_gsd rfl rfl (zE J10) (fun hb=>?_) (fun hb=>?_)<;>refine yS J10 ?_)|(refine drk_gse rfl rfl (zE J10) (fun hb=>?_) (fun hb=>?_)<;>refine yS J10 ?_)|(refine drk_gsn rfl rfl (zE J10) (fun hb=>?_) (fun hb=>?_)<;>refine yS J10 ?_)|(refine drk_gs rfl rfl (zE J10) (fun hb=>?_) (fun hb=>?_)<;>fail_if_success (cases hb;done)<;>refine yS J10 ?_)
  refine yV J10 ?_
  exact⟨rfl,{o with r:=some gb},⟨ho.e,ho.h,ho.g,ho.p,some_ne,ho.s⟩,rfl⟩
 ·rename_i n0 n1 n2 n3
  have n4:=hb
  cases hb:isS s kPhase with
  |true=>
   obtain⟨h0,t,l',hl,hk,ht⟩:=is_tok hb
   have hB:=stB_s m h0 hl hk ht
   rw [hB]
   have f6:=take_fg g L s true hs om
   rw [take_cons h0 hl,if_pos rfl,ht] at f6
   dsimp only at f6
   have hsl:l'<:+L.map TX.t:=(show l'<:+s.l from by rw [hl];exact List.suffix_cons t l').trans hs
   have f7:=phase_fg g L ⟨l',0⟩ hsl om hw
   clear hB i0 i1 i2 i3 i4 i5
   generalize phaseS ⟨l',0⟩=y at*
   obtain⟨v,sy⟩:=y
   dsimp only at*
   have q0:(kPhase==kEvent)=false:=rfl
   have q1:(kPhase==kHouse)=false:=rfl
   have q2:(kPhase==kGate)=false:=rfl
   have q3:(kPhase==kPage)=false:=rfl
   have q4:(kPhase==kGroup)=false:=rfl
   have q5:(kPhase==kPhase)=true:=rfl
   repeat' first|refine yA1 (oj hne (oj hne' (oj q0 (oj q1 (oj q2 (oj q3 (oj q4 q5))))))) ?_|(refine aw_cg (f6) rfl rfl rfl (zE (oj hne (oj hne' (oj q0 (oj q1 (oj q2 (oj q3 (oj q4 q5)))))))) (zL2 (oj hne (oj hne' (oj q0 (oj q1 (oj q2 (oj q3 (oj q4 q5)))))))) ?_;refine yS (oj hne (oj hne' (oj q0 (oj q1 (oj q2 (oj q3 (oj q4 q5))))))) ?_)|(refine yW (oj hne (oj hne' (oj q0 (oj q1 (oj q2 (oj q3 (oj q4 q5))))))) ?_;refine yS (oj hne (oj hne' (oj q0 (oj q1 (oj q2 (oj q3 (oj q4 q5))))))) ?_)|refine yP (oj hne (oj hne' (oj q0 (oj q1 (oj q2 (oj q3 (oj q4 q5))))))) ?_|refine yN (oj hne (oj hne' (oj q0 (oj q1 (oj q2 (oj q3 (oj q4 q5))))))) ?_|refine aw_cd (zE (oj hne (oj hne' (oj q0 (oj q1 (oj q2 (oj q3 (oj q4 q5)))))))) (fun hb=>?_) (fun hb=>?_)|refine aw_ce (zE (oj hne (oj hne' (oj q0 (oj q1 (oj q2 (oj q3 (oj q4 q5)))))))) (fun hb=>?_) (fun hb=>?_)|refine aw_cn (zE (oj hne (oj hne' (oj q0 (oj q1 (oj q2 (oj q3 (oj q4 q5)))))))) (fun hb=>?_) (fun hb=>?_)|(refine yF (oj hne (oj hne' (oj q0 (oj q1 (oj q2 (oj q3 (oj q4 q5))))))) (fun hb=>?_) (fun hb=>?_)<;>fail_if_success (cases hb;done))|(refine aw_gsd rfl rfl (zE (oj hne (oj hne' (oj q0 (oj q1 (oj q2 (oj q3 (oj q4 q5)))))))) (fun hb=>?_) (fun hb=>?_)<;>refine yS (oj hne (oj hne' (oj q0 (oj q1 (oj q2 (oj q3 (oj q4 q5))))))) ?_)|(refine aw_gse rfl rfl (zE (oj hne (oj hne' (oj q0 (oj q1 (oj q2 (oj q3 (oj q4 q5)))))))) (fun hb=>?_) (fun hb=>?_)<;>refine yS (oj hne (oj hne' (oj q0 (oj q1 (oj q2 (oj q3 (oj q4 q5))))))) ?_)|(refine aw_gsn rfl rfl (zE (oj hne (oj hne' (oj q0 (oj q1 (oj q2 (oj q3 (oj q4 q5)))))))) (fun hb=>?_) (fun hb=>?_)<;>refine yS (oj hne (oj hne' (oj q0 (oj q1 (oj q2 (oj q3 (oj q4 q5))))))) ?_)|(refine aw_gs rfl rfl (zE (oj hne (oj hne' (oj q0 (oj q1 (oj q2 (oj q3 (oj q4 q5)))))))) (fun hb=>?_) (fun hb=>?_)<;>fail_if_success (cases hb;done)<;>refine yS (oj hne (oj hne' (oj q0 (oj q1 (oj q2 (oj q3 (oj q4 q5))))))) ?_)|(refine drk_gsd rfl rfl (zE (oj hne (oj hne' (oj q0 (oj q1 (oj q2 (oj q3 (oj q4 q5)))))))) (fun hb=>?_) (fun hb=>?_)<;>refine yS (oj hne (oj hne' (oj q0 (oj q1 (oj q2 (oj q3 (oj q4 q5))))))) ?_)|(refine drk_gse rfl rfl (zE (oj hne (oj hne' (oj q0 (oj q1 (oj q2 (oj q3 (oj q4 q5)))))))) (fun hb=>?_) (fun hb=>?_)<;>refine yS (oj hne (oj hne' (oj q0 (oj q1 (oj q2 (oj q3 (oj q4 q5))))))) ?_)|(refine drk_gsn rfl rfl (zE (oj hne (oj hne' (oj q0 (oj q1 (oj q2 (oj q3 (oj q4 q5)))))))) (fun hb=>?_) (fun hb=>?_)<;>refine yS (oj hne (oj hne' (oj q0 (oj q1 (oj q2 (oj q3 (oj q4 q5))))))) ?_)|(refine drk_gs rfl rfl (zE (oj hne (oj hne' (oj q0 (oj q1 (oj q2 (oj q3 (oj q4 q5)))))))) (fun hb=>?_) (fun hb=>?_)<;>fail_if_success (cases hb;done)<;>refine yS (oj hne (oj hne' (oj q0 (oj q1 (oj q2 (oj q3 (oj q4 q5))))))) ?_)
   obtain⟨X,hX⟩:∃X:Heap,X=List.flatten [gh o.e 61 (m.events.length*11) (evsF m.events),gh o.h 125 (m.houses.length*2) (hssF m.houses),gh o.g 65 (m.gates.length*7) (gtsF m.gates),gh o.p 128 (m.pages.length*3) (pgsF m.pages),gh o.r 100 (m.groups.length*4) (grsF m.groups)]:=⟨_,rfl⟩
   obtain⟨Z,hZ⟩:∃Z:Heap,Z=List.flatten []:=⟨_,rfl⟩
   have hsp:mdT m o=X++(gh o.s 104 (m.phases.length*3) (phsF m.phases)++Z):=by
    subst hX hZ
    unfold mdT
    simp only [List.flatten_cons,List.flatten_nil,List.append_assoc,List.append_nil,List.nil_append]
   refine aw_perm (h':=(gM,mdO m o)::(g,rdO L ⟨l',0⟩)::((X++Z)++gh o.s 104 (m.phases.length*3) (phsF m.phases))) (.cons _ (.cons _ (perm_mid hsp))) ?_
   refine aw_cw ([(gM,mdO m o)]) [(0,0),(1,0),(2,0),(3,0),(4,0),(5,0),(6,1),(7,1),(8,1),(9,0),(10,0),(11,2)] ty_mixed (by kernel_rfl) eI ?_
   have J11:=oj hne (oj hne' (oj q0 (oj q1 (oj q2 (oj q3 (oj q4 q5))))))
   refine yG J11 ?_
   refine cw_cg rfl f7 rfl rfl rfl (zE J11) (zL J11) (by refine yS J11 ?_;exact has0_cons (List.mem_cons_self ..) has0_nil) ?_
   refine ySG J11 ?_
   refine cw_buildSlice (xs:=[.tmp 103]) (cells:=phc v) rfl rfl rfl rfl (zE J11) (by refine yS J11 ?_;rfl) rfl om om (by intro x hx;simp only [List.mem_singleton] at hx;subst hx;exact⟨rfl,rfl,rfl⟩) rfl (by simp [Op.operands]) (has0_cons (List.mem_cons_self ..) has0_nil) (fun ga hn_ga=> ?_) (hm:=.inr ⟨rfl,rfl⟩)
   refine yS J11 ?_
   refine cw_push (pre:=(gM,mdO m o)::(g,rdO L sy)::(X++Z)) (og:=o.s) (n:=m.phases.length) (s:=101) (d1:=104) (gt:=ga) (v:=.agg (phc v)) rfl rfl rfl rfl (zE J11) (zE J11) (by rfl) om om (zE J11) (zE J11) ho.s (by rfl) (by rfl) (by simp only [Nat.mul_one,List.cons_append,List.nil_append];rfl) (by have:=hb'.s;unfold maxLen;omega) (by have:=hb'.s;omega) (phs_push rfl v) (has0_skip (has0_cons (List.mem_cons_self ..) has0_nil)) (fun gb hn_gb=> ?_) (hm:=.inr ⟨rfl,rfl⟩)
   replace hn_ga:=Heap.ne_of hn_ga
   simp only [Heap.ne] at hn_ga
   have J12:=oj hne (oj hne' (oj q0 (oj q1 (oj q2 (oj q3 (oj q4 (oj q5 hn_ga)))))))
   refine ySG J12 ?_
   refine cw_store (FP':=[]) rfl rfl rfl rfl rfl (zE J12) (zE J12) (zE J12) (zE J12) (fun _ e=>by cases e) rfl rfl (show 8≤8 from by omega) rfl has0_nil ?_
   refine ySG J12 ?_
   have hln:(m.phases++[v]).length=m.phases.length+1:=by rw [List.length_append];rfl
   rw [←hln]
   have hsp2:mdT {m with phases:=m.phases++[v]} {o with s:=some gb}=X++(gh (some gb) 104 ((m.phases++[v]).length*3) (phsF (m.phases++[v]))++Z):=by
    subst hX hZ
    unfold mdT
    simp only [List.flatten_cons,List.flatten_nil,List.append_assoc,List.append_nil,List.nil_append]
   refine aw_keep [] _ (zB J12) (List.sublist_cons_self _ _) ?_
   refine aw_perm (h':=(gM,mdO {m with phases:=m.phases++[v]} {o with s:=some gb})::(g,rdO L sy)::mdT {m with phases:=m.phases++[v]} {o with s:=some gb}) (.cons _ (.cons _ (perm_mid hsp2).symm)) ?_
   repeat' first|refine yA1 J12 ?_|(refine yW J12 ?_;refine yS J12 ?_)|refine yP J12 ?_|refine yN J12 ?_|refine aw_cd (zE J12) (fun hb=>?_) (fun hb=>?_)|refine aw_ce (zE J12) (fun hb=>?_) (fun hb=>?_)|refine aw_cn (zE J12) (fun hb=>?_) (fun hb=>?_)|(refine yF J12 (fun hb=>?_) (fun hb=>?_)<;>fail_if_success (cases hb;done))|(refine aw_gsd rfl rfl (zE J12) (fun hb=>?_) (fun hb=>?_)<;>refine yS J12 ?_)|(refine aw_gse rfl rfl (zE J12) (fun hb=>?_) (fun hb=>?_)<;>refine yS J12 ?_)|(refine aw_gsn rfl rfl (zE J12) (fun hb=>?_) (fun hb=>?_)<;>refine yS J12 ?_)|(refine aw_gs rfl rfl (zE J12) (fun hb=>?_) (fun hb=>?_)<;>fail_if_success (cases hb;done)<;>refine yS J12 ?_)|(refine drk_gsd rfl rfl (zE J12) (fun hb=>?_) (fun hb=>?_)<;>refine yS J12 ?_)|(refine drk_gse rfl rfl (zE J12) (fun hb=>?_) (fun hb=>?_)<;>refine yS J12 ?_)|(refine drk_gsn rfl rfl (zE J12) (fun hb=>?_) (fun hb=>?_)<;>refine yS J12 ?_)|(refine drk_gs rfl rfl (zE J12) (fun hb=>?_) (fun hb=>?_)<;>fail_if_success (cases hb;done)<;>refine yS J12 ?_)
   refine yV J12 ?_
   exact⟨rfl,{o with s:=some gb},⟨ho.e,ho.h,ho.g,ho.p,ho.r,some_ne⟩,rfl⟩
  |false=>
   have hB:=stB_no m n0 n1 n2 n3 n4 hb
   rw [hB]
   have f6:=take_fg g L s false hs om
   rw [take_ff] at f6
   have q0:(([]:BS)==kEvent)=false:=rfl
   have q1:(([]:BS)==kHouse)=false:=rfl
   have q2:(([]:BS)==kGate)=false:=rfl
   have q3:(([]:BS)==kPage)=false:=rfl
   have q4:(([]:BS)==kGroup)=false:=rfl
   have q5:(([]:BS)==kPhase)=false:=rfl
   repeat' first|refine yA1 (oj hne (oj hne' (oj q0 (oj q1 (oj q2 (oj q3 (oj q4 q5))))))) ?_|(refine aw_cg (f6) rfl rfl rfl (zE (oj hne (oj hne' (oj q0 (oj q1 (oj q2 (oj q3 (oj q4 q5)))))))) (zL2 (oj hne (oj hne' (oj q0 (oj q1 (oj q2 (oj q3 (oj q4 q5)))))))) ?_;refine yS (oj hne (oj hne' (oj q0 (oj q1 (oj q2 (oj q3 (oj q4 q5))))))) ?_)|(refine yW (oj hne (oj hne' (oj q0 (oj q1 (oj q2 (oj q3 (oj q4 q5))))))) ?_;refine yS (oj hne (oj hne' (oj q0 (oj q1 (oj q2 (oj q3 (oj q4 q5))))))) ?_)|refine yP (oj hne (oj hne' (oj q0 (oj q1 (oj q2 (oj q3 (oj q4 q5))))))) ?_|refine yN (oj hne (oj hne' (oj q0 (oj q1 (oj q2 (oj q3 (oj q4 q5))))))) ?_|refine aw_cd (zE (oj hne (oj hne' (oj q0 (oj q1 (oj q2 (oj q3 (oj q4 q5)))))))) (fun hb=>?_) (fun hb=>?_)|refine aw_ce (zE (oj hne (oj hne' (oj q0 (oj q1 (oj q2 (oj q3 (oj q4 q5)))))))) (fun hb=>?_) (fun hb=>?_)|refine aw_cn (zE (oj hne (oj hne' (oj q0 (oj q1 (oj q2 (oj q3 (oj q4 q5)))))))) (fun hb=>?_) (fun hb=>?_)|(refine yF (oj hne (oj hne' (oj q0 (oj q1 (oj q2 (oj q3 (oj q4 q5))))))) (fun hb=>?_) (fun hb=>?_)<;>fail_if_success (cases hb;done))|(refine aw_gsd rfl rfl (zE (oj hne (oj hne' (oj q0 (oj q1 (oj q2 (oj q3 (oj q4 q5)))))))) (fun hb=>?_) (fun hb=>?_)<;>refine yS (oj hne (oj hne' (oj q0 (oj q1 (oj q2 (oj q3 (oj q4 q5))))))) ?_)|(refine aw_gse rfl rfl (zE (oj hne (oj hne' (oj q0 (oj q1 (oj q2 (oj q3 (oj q4 q5)))))))) (fun hb=>?_) (fun hb=>?_)<;>refine yS (oj hne (oj hne' (oj q0 (oj q1 (oj q2 (oj q3 (oj q4 q5))))))) ?_)|(refine aw_gsn rfl rfl (zE (oj hne (oj hne' (oj q0 (oj q1 (oj q2 (oj q3 (oj q4 q5)))))))) (fun hb=>?_) (fun hb=>?_)<;>refine yS (oj hne (oj hne' (oj q0 (oj q1 (oj q2 (oj q3 (oj q4 q5))))))) ?_)|(refine aw_gs rfl rfl (zE (oj hne (oj hne' (oj q0 (oj q1 (oj q2 (oj q3 (oj q4 q5)))))))) (fun hb=>?_) (fun hb=>?_)<;>fail_if_success (cases hb;done)<;>refine yS (oj hne (oj hne' (oj q0 (oj q1 (oj q2 (oj q3 (oj q4 q5))))))) ?_)|(refine drk_gsd rfl rfl (zE (oj hne (oj hne' (oj q0 (oj q1 (oj q2 (oj q3 (oj q4 q5)))))))) (fun hb=>?_) (fun hb=>?_)<;>refine yS (oj hne (oj hne' (oj q0 (oj q1 (oj q2 (oj q3 (oj q4 q5))))))) ?_)|(refine drk_gse rfl rfl (zE (oj hne (oj hne' (oj q0 (oj q1 (oj q2 (oj q3 (oj q4 q5)))))))) (fun hb=>?_) (fun hb=>?_)<;>refine yS (oj hne (oj hne' (oj q0 (oj q1 (oj q2 (oj q3 (oj q4 q5))))))) ?_)|(refine drk_gsn rfl rfl (zE (oj hne (oj hne' (oj q0 (oj q1 (oj q2 (oj q3 (oj q4 q5)))))))) (fun hb=>?_) (fun hb=>?_)<;>refine yS (oj hne (oj hne' (oj q0 (oj q1 (oj q2 (oj q3 (oj q4 q5))))))) ?_)|(refine drk_gs rfl rfl (zE (oj hne (oj hne' (oj q0 (oj q1 (oj q2 (oj q3 (oj q4 q5)))))))) (fun hb=>?_) (fun hb=>?_)<;>fail_if_success (cases hb;done)<;>refine yS (oj hne (oj hne' (oj q0 (oj q1 (oj q2 (oj q3 (oj q4 q5))))))) ?_)
   refine yV (oj hne (oj hne' (oj q0 (oj q1 (oj q2 (oj q3 (oj q4 q5))))))) ?_
   exact⟨rfl,o,ho,rfl⟩
end Go.Proofs.YteocnikcjjonbaaGreat
namespace Go.Proofs.YteocnikcjjonbaaGreat
open Go.AI Go.PN
theorem lf_ler {α:Type} {h:Heap} {s:Nat} {c:α→List CV} {d:α} {xs:List α} (hs:0<s) (H:∀(x:α) k,k<s→LeR h (ofL (c x) k) (ofL (c x) k)) (j:Nat):LeR h (lf s c d xs j) (lf s c d xs j):=by
 obtain⟨i,k,hk,rfl⟩:∃i k,k<s∧j=i*s+k:=⟨j/s,j%s,Nat.mod_lt _ hs,by rw [Nat.mul_comm];exact(Nat.div_add_mod j s).symm⟩
 rw [lf_at hk]
 exact H _ _ hk
theorem ler_strs {h:Heap} {l:List BS}:LeR h (strs true l) (strs true l):=.row fun j _=>lf_ler (by decide) (fun x k hk=>match k,hk with|0,_=>.str _) j
theorem ler_evs {h:Heap} {l:List EvD}:LeR h (evs true l) (evs true l):=.row fun j _=>lf_ler (by decide) (fun x k hk=>match k,hk with|0,_=>.str _|1,_=>.bool _|2,_=>ler_ws|3,_=>ler_ws|4,_=>.bool _|5,_=>ler_ws|6,_=>ler_ws|7,_=>.bool _|8,_=>ler_ws|9,_=>ler_ws|10,_=>.int _ _) j
theorem ler_hss {h:Heap} {l:List HsD}:LeR h (hss true l) (hss true l):=.row fun j _=>lf_ler (by decide) (fun x k hk=>match k,hk with|0,_=>.str _|1,_=>.bool _) j
theorem lerk_gt {h:Heap} (x:GtD) (k:Nat) (hk:k<7):LeR h (ofL (gtc x) k) (ofL (gtc x) k):=match k,hk with|0,_=>.str _|1,_=>.int _ _|2,_=>.int _ _|3,_=>ler_strs|4,_=>.bool _|5,_=>ler_ws|6,_=>ler_ws
theorem ler_gts {h:Heap} {l:List GtD}:LeR h (gts true l) (gts true l):=.row fun j _=>lf_ler (by decide) lerk_gt j
theorem lerl_gt {h:Heap} {x:GtD}:LeRL h (gtc x) (gtc x):=⟨.str _,.int _ _,.int _ _,ler_strs,.bool _,ler_ws,ler_ws,trivial⟩
theorem ler_pgs {h:Heap} {l:List PgD}:LeR h (pgs true l) (pgs true l):=.row fun j _=>lf_ler (by decide) (fun x k hk=>match k,hk with|0,_=>.str _|1,_=>.str _|2,_=>ler_gts) j
theorem ler_grs {h:Heap} {l:List GrD}:LeR h (grs true l) (grs true l):=.row fun j _=>lf_ler (by decide) (fun x k hk=>match k,hk with|0,_=>.str _|1,_=>.int _ _|2,_=>ler_strs|3,_=>ler_rats) j
theorem ler_vls {h:Heap} {l:List VlD}:LeR h (vls true l) (vls true l):=.row fun j _=>lf_ler (by decide) (fun x k hk=>match k,hk with|0,_=>.str _|1,_=>.bool _|2,_=>ler_ws|3,_=>ler_ws) j
theorem ler_phs {h:Heap} {l:List PhD}:LeR h (phs true l) (phs true l):=.row fun j _=>lf_ler (by decide) (fun x k hk=>match k,hk with|0,_=>.str _|1,_=>.str _|2,_=>ler_vls) j
theorem lerl_md {h:Heap} {x:MdD}:LeRL h (mdc true x) (mdc true x):=⟨.str _,.str _,ler_evs,ler_hss,ler_gts,ler_pgs,ler_grs,ler_phs,trivial⟩
theorem lerl_md0 {h:Heap}:LeRL h [.str (sB []),.str (sB []),.nils,.nils,.nils,.nils,.nils,.nils] (mdc true md0):=⟨.str _,.str _,.nils,.nils,.nils,.nils,.nils,.nils,trivial⟩
theorem lerl_gt0 {h:Heap}:LeRL h [.str (sB []),.int .i64 0,.int .i64 0,.nils,.bool false,.nils,.nils] (gtc gt0):=⟨.str _,.int _ _,.int _ _,.nils,.bool _,.nils,.nils,trivial⟩
end Go.Proofs.YteocnikcjjonbaaGreat
namespace Go.PN
def gateP (l:BS):GtD×Int:=if(splitS l).1≠0 then(gt0,(splitS l).1) else let r:=gateS (expS kGate ⟨(splitS l).2,0⟩);if(endS r.2).e≠0 then(gt0,(endS r.2).e) else(r.1,0)
end Go.PN
namespace Go.Proofs.YteocnikcjjonbaaGreat
open Go.AI Go.PN
attribute [local irreducible] aw Fa Fh DrK
theorem end_fg (g:Nat) (L:List TX) (s:PS) (hs:s.l<:+L.map TX.t) (hL:L.length≤1099511627776):Fg Tryz.prog 32 g (rdO L s) [.c (.optr g 0)] (.c (errA (endS s).e)) (rdO L (endS s)):=by
 have h:=rat hs
 have f1:=fail_fg g L s 2 (by decide)
 generalize ha:L.length-s.l.length=a at h
 have hle:=h.le
 unfold Fg
 rw [ha_of ha]
 rw [ha_of ha] at f1
 refine fh_of_body Tryz.func32 rfl rfl (by simp [Tryz.ntmps32]) fun C hC=> ?_
 simp only [initS,Nat.reduceAdd]
 repeat' first|refine yA1 o0 ?_|(refine xW ?_;refine xS ?_)|refine xP ?_|refine xN ?_|refine aw_cd eE (fun hb=>?_) (fun hb=>?_)|refine aw_ce eE (fun hb=>?_) (fun hb=>?_)|refine aw_cn eE (fun hb=>?_) (fun hb=>?_)|(refine xF (fun hb=>?_) (fun hb=>?_)<;>fail_if_success (cases hb;done))|(refine aw_gsd rfl rfl eE (fun hb=>?_) (fun hb=>?_)<;>refine xS ?_)|(refine aw_gse rfl rfl eE (fun hb=>?_) (fun hb=>?_)<;>refine xS ?_)|(refine aw_gsn rfl rfl eE (fun hb=>?_) (fun hb=>?_)<;>refine xS ?_)|(refine aw_gs rfl rfl eE (fun hb=>?_) (fun hb=>?_)<;>fail_if_success (cases hb;done)<;>refine xS ?_)|(refine drk_gsd rfl rfl eE (fun hb=>?_) (fun hb=>?_)<;>refine xS ?_)|(refine drk_gse rfl rfl eE (fun hb=>?_) (fun hb=>?_)<;>refine xS ?_)|(refine drk_gsn rfl rfl eE (fun hb=>?_) (fun hb=>?_)<;>refine xS ?_)|(refine drk_gs rfl rfl eE (fun hb=>?_) (fun hb=>?_)<;>fail_if_success (cases hb;done)<;>refine xS ?_)
 refine aw_dr 17 ty_mixed (by kernel_rfl) ?_
 repeat' first|refine yA1 o0 ?_|(refine aw_cg (f1) rfl rfl rfl eE (zL2 o0) ?_;refine xS ?_)|(refine xW ?_;refine xS ?_)|refine xP ?_|refine xN ?_|refine aw_cd eE (fun hb=>?_) (fun hb=>?_)|refine aw_ce eE (fun hb=>?_) (fun hb=>?_)|refine aw_cn eE (fun hb=>?_) (fun hb=>?_)|(refine xF (fun hb=>?_) (fun hb=>?_)<;>fail_if_success (cases hb;done))|(refine aw_gsd rfl rfl eE (fun hb=>?_) (fun hb=>?_)<;>refine xS ?_)|(refine aw_gse rfl rfl eE (fun hb=>?_) (fun hb=>?_)<;>refine xS ?_)|(refine aw_gsn rfl rfl eE (fun hb=>?_) (fun hb=>?_)<;>refine xS ?_)|(refine aw_gs rfl rfl eE (fun hb=>?_) (fun hb=>?_)<;>fail_if_success (cases hb;done)<;>refine xS ?_)|(refine drk_gsd rfl rfl eE (fun hb=>?_) (fun hb=>?_)<;>refine xS ?_)|(refine drk_gse rfl rfl eE (fun hb=>?_) (fun hb=>?_)<;>refine xS ?_)|(refine drk_gsn rfl rfl eE (fun hb=>?_) (fun hb=>?_)<;>refine xS ?_)|(refine drk_gs rfl rfl eE (fun hb=>?_) (fun hb=>?_)<;>fail_if_success (cases hb;done)<;>refine xS ?_)
 ·rename_i h0
  obtain⟨l',hl,_⟩:=h.cons hb
  have he:endS s=failS 2 s:=by
   unfold endS failS
   rw [if_pos ⟨h0,by rw [hl];simp⟩,if_pos h0]
  refine xU ?_
  rw [he]
  exact⟨rfl,rfl⟩
 ·have he:endS s=s:=by
   unfold endS
   rw [if_neg fun z=>z.2 (h.nil hb)]
  refine xU ?_
  rw [he,←ha_of ha]
  exact⟨rfl,rfl⟩
 ·have he:endS s=s:=by
   unfold endS
   rw [if_neg fun z=>hb z.1]
  refine xU ?_
  rw [he,←ha_of ha]
  exact⟨rfl,rfl⟩
theorem begin_fh (l:BS) (hl:l.length≤1099511627776):Fh Tryz.prog 26 [] [.c (.str (sB l))] (fun x h=>∃(out:List TX) (g:Nat),out.map TX.t=(splitS l).2∧h=[(g,rdO out ⟨(splitS l).2,0⟩)]∧x=.tup [.c (.optr g 0),.c (errA (splitS l).1)]):=by
 refine fh_of_body Tryz.func26 rfl rfl (by simp [Tryz.ntmps26]) fun C hC=> ?_
 simp only [initS,Nat.reduceAdd]
 repeat' first|refine yA1 o0 ?_|(refine xW ?_;refine xS ?_)|refine xP ?_|refine xN ?_|refine aw_cd eE (fun hb=>?_) (fun hb=>?_)|refine aw_ce eE (fun hb=>?_) (fun hb=>?_)|refine aw_cn eE (fun hb=>?_) (fun hb=>?_)|(refine xF (fun hb=>?_) (fun hb=>?_)<;>fail_if_success (cases hb;done))|(refine aw_gsd rfl rfl eE (fun hb=>?_) (fun hb=>?_)<;>refine xS ?_)|(refine aw_gse rfl rfl eE (fun hb=>?_) (fun hb=>?_)<;>refine xS ?_)|(refine aw_gsn rfl rfl eE (fun hb=>?_) (fun hb=>?_)<;>refine xS ?_)|(refine aw_gs rfl rfl eE (fun hb=>?_) (fun hb=>?_)<;>fail_if_success (cases hb;done)<;>refine xS ?_)|(refine drk_gsd rfl rfl eE (fun hb=>?_) (fun hb=>?_)<;>refine xS ?_)|(refine drk_gse rfl rfl eE (fun hb=>?_) (fun hb=>?_)<;>refine xS ?_)|(refine drk_gsn rfl rfl eE (fun hb=>?_) (fun hb=>?_)<;>refine xS ?_)|(refine drk_gs rfl rfl eE (fun hb=>?_) (fun hb=>?_)<;>fail_if_success (cases hb;done)<;>refine xS ?_)
 refine aw_callh (hr:=[]) (tsplit_fh l hl) rfl rfl rfl (.refl _) eL ?_
 rintro r h' ⟨rfl,out,ho,rfl⟩ _
 repeat' first|refine yA1 o0 ?_|(refine xW ?_;refine xS ?_)|refine xP ?_|refine xN ?_|refine aw_cd eE (fun hb=>?_) (fun hb=>?_)|refine aw_ce eE (fun hb=>?_) (fun hb=>?_)|refine aw_cn eE (fun hb=>?_) (fun hb=>?_)|(refine xF (fun hb=>?_) (fun hb=>?_)<;>fail_if_success (cases hb;done))|(refine aw_gsd rfl rfl eE (fun hb=>?_) (fun hb=>?_)<;>refine xS ?_)|(refine aw_gse rfl rfl eE (fun hb=>?_) (fun hb=>?_)<;>refine xS ?_)|(refine aw_gsn rfl rfl eE (fun hb=>?_) (fun hb=>?_)<;>refine xS ?_)|(refine aw_gs rfl rfl eE (fun hb=>?_) (fun hb=>?_)<;>fail_if_success (cases hb;done)<;>refine xS ?_)|(refine drk_gsd rfl rfl eE (fun hb=>?_) (fun hb=>?_)<;>refine xS ?_)|(refine drk_gse rfl rfl eE (fun hb=>?_) (fun hb=>?_)<;>refine xS ?_)|(refine drk_gsn rfl rfl eE (fun hb=>?_) (fun hb=>?_)<;>refine xS ?_)|(refine drk_gs rfl rfl eE (fun hb=>?_) (fun hb=>?_)<;>fail_if_success (cases hb;done)<;>refine xS ?_)
 refine xB fun g hn_g=>?_
 repeat' first|refine yA1 hn_g ?_|(refine yW hn_g ?_;refine yS hn_g ?_)|refine yP hn_g ?_|refine yN hn_g ?_|refine aw_cd (zE hn_g) (fun hb=>?_) (fun hb=>?_)|refine aw_ce (zE hn_g) (fun hb=>?_) (fun hb=>?_)|refine aw_cn (zE hn_g) (fun hb=>?_) (fun hb=>?_)|(refine yF hn_g (fun hb=>?_) (fun hb=>?_)<;>fail_if_success (cases hb;done))|(refine aw_gsd rfl rfl (zE hn_g) (fun hb=>?_) (fun hb=>?_)<;>refine yS hn_g ?_)|(refine aw_gse rfl rfl (zE hn_g) (fun hb=>?_) (fun hb=>?_)<;>refine yS hn_g ?_)|(refine aw_gsn rfl rfl (zE hn_g) (fun hb=>?_) (fun hb=>?_)<;>refine yS hn_g ?_)|(refine aw_gs rfl rfl (zE hn_g) (fun hb=>?_) (fun hb=>?_)<;>fail_if_success (cases hb;done)<;>refine yS hn_g ?_)|(refine drk_gsd rfl rfl (zE hn_g) (fun hb=>?_) (fun hb=>?_)<;>refine yS hn_g ?_)|(refine drk_gse rfl rfl (zE hn_g) (fun hb=>?_) (fun hb=>?_)<;>refine yS hn_g ?_)|(refine drk_gsn rfl rfl (zE hn_g) (fun hb=>?_) (fun hb=>?_)<;>refine yS hn_g ?_)|(refine drk_gs rfl rfl (zE hn_g) (fun hb=>?_) (fun hb=>?_)<;>fail_if_success (cases hb;done)<;>refine yS hn_g ?_)
 refine yU hn_g ?_
 refine⟨out,g,ho,?_,rfl⟩
 unfold rdO
 rw [show out.length-(PS.mk (splitS l).2 0).l.length=0 from by rw [←ho,List.length_map];exact Nat.sub_self _]
 rfl
theorem pgate_fa (l:BS) (hl:l.length≤1099511627776) (hn:(splitS l).2.length≤1048576) (hw:∀t∈(splitS l).2,t.text.length≤1099511627776):Fa Tryz.prog 20 [.c (.str (sB l))] (.tup [.agg (gtc (gateP l).1),.c (errA (gateP l).2)]):=by
 refine fa_of_body Tryz.func20 rfl rfl (by simp [Tryz.ntmps20]) fun C hC=> ?_
 simp only [initS,Nat.reduceAdd]
 repeat' first|refine yA1 o0 ?_|(refine xW ?_;refine xS ?_)|refine xP ?_|refine xN ?_|refine aw_cd eE (fun hb=>?_) (fun hb=>?_)|refine aw_ce eE (fun hb=>?_) (fun hb=>?_)|refine aw_cn eE (fun hb=>?_) (fun hb=>?_)|(refine xF (fun hb=>?_) (fun hb=>?_)<;>fail_if_success (cases hb;done))|(refine aw_gsd rfl rfl eE (fun hb=>?_) (fun hb=>?_)<;>refine xS ?_)|(refine aw_gse rfl rfl eE (fun hb=>?_) (fun hb=>?_)<;>refine xS ?_)|(refine aw_gsn rfl rfl eE (fun hb=>?_) (fun hb=>?_)<;>refine xS ?_)|(refine aw_gs rfl rfl eE (fun hb=>?_) (fun hb=>?_)<;>fail_if_success (cases hb;done)<;>refine xS ?_)|(refine drk_gsd rfl rfl eE (fun hb=>?_) (fun hb=>?_)<;>refine xS ?_)|(refine drk_gse rfl rfl eE (fun hb=>?_) (fun hb=>?_)<;>refine xS ?_)|(refine drk_gsn rfl rfl eE (fun hb=>?_) (fun hb=>?_)<;>refine xS ?_)|(refine drk_gs rfl rfl eE (fun hb=>?_) (fun hb=>?_)<;>fail_if_success (cases hb;done)<;>refine xS ?_)
 refine xA fun g2 hn_g2=>?_
 repeat' first|refine yA1 hn_g2 ?_|(refine yW hn_g2 ?_;refine yS hn_g2 ?_)|refine yP hn_g2 ?_|refine yN hn_g2 ?_|refine aw_cd (zE hn_g2) (fun hb=>?_) (fun hb=>?_)|refine aw_ce (zE hn_g2) (fun hb=>?_) (fun hb=>?_)|refine aw_cn (zE hn_g2) (fun hb=>?_) (fun hb=>?_)|(refine yF hn_g2 (fun hb=>?_) (fun hb=>?_)<;>fail_if_success (cases hb;done))|(refine aw_gsd rfl rfl (zE hn_g2) (fun hb=>?_) (fun hb=>?_)<;>refine yS hn_g2 ?_)|(refine aw_gse rfl rfl (zE hn_g2) (fun hb=>?_) (fun hb=>?_)<;>refine yS hn_g2 ?_)|(refine aw_gsn rfl rfl (zE hn_g2) (fun hb=>?_) (fun hb=>?_)<;>refine yS hn_g2 ?_)|(refine aw_gs rfl rfl (zE hn_g2) (fun hb=>?_) (fun hb=>?_)<;>fail_if_success (cases hb;done)<;>refine yS hn_g2 ?_)|(refine drk_gsd rfl rfl (zE hn_g2) (fun hb=>?_) (fun hb=>?_)<;>refine yS hn_g2 ?_)|(refine drk_gse rfl rfl (zE hn_g2) (fun hb=>?_) (fun hb=>?_)<;>refine yS hn_g2 ?_)|(refine drk_gsn rfl rfl (zE hn_g2) (fun hb=>?_) (fun hb=>?_)<;>refine yS hn_g2 ?_)|(refine drk_gs rfl rfl (zE hn_g2) (fun hb=>?_) (fun hb=>?_)<;>fail_if_success (cases hb;done)<;>refine yS hn_g2 ?_)
 refine aw_callh (hr:=[(g2,.cells 65 7 (ofL [.str (sB []),.int .i64 0,.int .i64 0,.nils,.bool false,.nils,.nils]))]) (begin_fh l hl) rfl rfl rfl (.refl _) (zL hn_g2) ?_
 rintro r h' ⟨out,g,ho,rfl,rfl⟩ hgg
 have hne:g≠g2:=by simpa [Heap.keys] using hgg
 have hne':g2≠g:=fun e=>hne e.symm
 clear hgg
 simp only [List.cons_append,List.nil_append]
 have hs:(PS.mk (splitS l).2 0).l<:+out.map TX.t:=by rw [ho];exact List.suffix_refl _
 have hL:out.length≤1048576:=by rw [←List.length_map TX.t,ho];exact hn
 have hw':∀t∈out,t.t.text.length≤1099511627776:=fun t ht=>hw t.t (by rw [←ho];exact List.mem_map_of_mem ht)
 have f0:=expect_fg g out ⟨(splitS l).2,0⟩ kGate hs om
 have hs1:=((rdr_exp kGate).suf ⟨(splitS l).2,0⟩).trans hs
 have hG:∀s,gateP l=s↔gateP l=s:=fun _=>Iff.rfl
 unfold gateP at hG⊢
 dsimp only at hG⊢
 clear hG
 generalize expS kGate ⟨(splitS l).2,0⟩=s1 at*
 have f1:=gate_fg g out s1 hs1 om hw'
 have f2:=end_fg g out (gateS s1).2 ((rdr_gate.suf s1).trans hs1) om
 generalize gateS s1=r at*
 obtain⟨G,s2⟩:=r
 dsimp only at*
 repeat' first|refine yA1 (oj hn_g2 (oj hne hne')) ?_|(refine aw_cg (f0) rfl rfl rfl (zE (oj hn_g2 (oj hne hne'))) (zL2 (oj hn_g2 (oj hne hne'))) ?_;refine yS (oj hn_g2 (oj hne hne')) ?_)|(refine aw_cg (f1) rfl rfl rfl (zE (oj hn_g2 (oj hne hne'))) (zL2 (oj hn_g2 (oj hne hne'))) ?_;refine yS (oj hn_g2 (oj hne hne')) ?_)|(refine aw_cg (f2) rfl rfl rfl (zE (oj hn_g2 (oj hne hne'))) (zL2 (oj hn_g2 (oj hne hne'))) ?_;refine yS (oj hn_g2 (oj hne hne')) ?_)|(refine yW (oj hn_g2 (oj hne hne')) ?_;refine yS (oj hn_g2 (oj hne hne')) ?_)|refine yP (oj hn_g2 (oj hne hne')) ?_|refine yN (oj hn_g2 (oj hne hne')) ?_|refine aw_cd (zE (oj hn_g2 (oj hne hne'))) (fun hb=>?_) (fun hb=>?_)|refine aw_ce (zE (oj hn_g2 (oj hne hne'))) (fun hb=>?_) (fun hb=>?_)|refine aw_cn (zE (oj hn_g2 (oj hne hne'))) (fun hb=>?_) (fun hb=>?_)|(refine yF (oj hn_g2 (oj hne hne')) (fun hb=>?_) (fun hb=>?_)<;>fail_if_success (cases hb;done))|(refine aw_gsd rfl rfl (zE (oj hn_g2 (oj hne hne'))) (fun hb=>?_) (fun hb=>?_)<;>refine yS (oj hn_g2 (oj hne hne')) ?_)|(refine aw_gse rfl rfl (zE (oj hn_g2 (oj hne hne'))) (fun hb=>?_) (fun hb=>?_)<;>refine yS (oj hn_g2 (oj hne hne')) ?_)|(refine aw_gsn rfl rfl (zE (oj hn_g2 (oj hne hne'))) (fun hb=>?_) (fun hb=>?_)<;>refine yS (oj hn_g2 (oj hne hne')) ?_)|(refine aw_gs rfl rfl (zE (oj hn_g2 (oj hne hne'))) (fun hb=>?_) (fun hb=>?_)<;>fail_if_success (cases hb;done)<;>refine yS (oj hn_g2 (oj hne hne')) ?_)|(refine drk_gsd rfl rfl (zE (oj hn_g2 (oj hne hne'))) (fun hb=>?_) (fun hb=>?_)<;>refine yS (oj hn_g2 (oj hne hne')) ?_)|(refine drk_gse rfl rfl (zE (oj hn_g2 (oj hne hne'))) (fun hb=>?_) (fun hb=>?_)<;>refine yS (oj hn_g2 (oj hne hne')) ?_)|(refine drk_gsn rfl rfl (zE (oj hn_g2 (oj hne hne'))) (fun hb=>?_) (fun hb=>?_)<;>refine yS (oj hn_g2 (oj hne hne')) ?_)|(refine drk_gs rfl rfl (zE (oj hn_g2 (oj hne hne'))) (fun hb=>?_) (fun hb=>?_)<;>fail_if_success (cases hb;done)<;>refine yS (oj hn_g2 (oj hne hne')) ?_)
 ·have h0:(splitS l).1≠0:=by simpa using hb
  refine yT hC (oj hn_g2 (oj hne hne')) ?_
  rw [if_pos h0]
  exact .tup ⟨.agg lerl_gt0,.c ler_err,trivial⟩
 have h0:¬(splitS l).1≠0:=by simpa using hb
 rw [if_neg h0]
 refine yA (oj hn_g2 (oj hne hne')) fun g3 hn_g3=>?_
 have J1:=oj hn_g2 (oj hne (oj hne' hn_g3))
 refine yW J1 ?_
 refine yS J1 ?_
 repeat' first|refine yA1 J1 ?_|(refine aw_cg (f2) rfl rfl rfl (zE J1) (zL2 J1) ?_;refine yS J1 ?_)|(refine yW J1 ?_;refine yS J1 ?_)|refine yP J1 ?_|refine yN J1 ?_|refine aw_cd (zE J1) (fun hb=>?_) (fun hb=>?_)|refine aw_ce (zE J1) (fun hb=>?_) (fun hb=>?_)|refine aw_cn (zE J1) (fun hb=>?_) (fun hb=>?_)|(refine yF J1 (fun hb=>?_) (fun hb=>?_)<;>fail_if_success (cases hb;done))|(refine aw_gsd rfl rfl (zE J1) (fun hb=>?_) (fun hb=>?_)<;>refine yS J1 ?_)|(refine aw_gse rfl rfl (zE J1) (fun hb=>?_) (fun hb=>?_)<;>refine yS J1 ?_)|(refine aw_gsn rfl rfl (zE J1) (fun hb=>?_) (fun hb=>?_)<;>refine yS J1 ?_)|(refine aw_gs rfl rfl (zE J1) (fun hb=>?_) (fun hb=>?_)<;>fail_if_success (cases hb;done)<;>refine yS J1 ?_)|(refine drk_gsd rfl rfl (zE J1) (fun hb=>?_) (fun hb=>?_)<;>refine yS J1 ?_)|(refine drk_gse rfl rfl (zE J1) (fun hb=>?_) (fun hb=>?_)<;>refine yS J1 ?_)|(refine drk_gsn rfl rfl (zE J1) (fun hb=>?_) (fun hb=>?_)<;>refine yS J1 ?_)|(refine drk_gs rfl rfl (zE J1) (fun hb=>?_) (fun hb=>?_)<;>fail_if_success (cases hb;done)<;>refine yS J1 ?_)
 ·have h1:(endS s2).e≠0:=by simpa using hb
  refine yT hC J1 ?_
  rw [if_pos h1]
  exact .tup ⟨.agg lerl_gt0,.c ler_err,trivial⟩
 ·have h1:¬(endS s2).e≠0:=by simpa using hb
  refine yT hC J1 ?_
  rw [if_neg h1]
  exact .tup ⟨.agg lerl_gt,.c (ler_err0 rfl),trivial⟩
end Go.Proofs.YteocnikcjjonbaaGreat
namespace Go.PN
open Go.AI
def modelP (ck:MdD→Int) (l:BS):MdD×Int:=if(splitS l).1≠0 then(md0,(splitS l).1) else let r:=readS ⟨(splitS l).2,0⟩;if r.2.e≠0 then(md0,r.2.e) else if ck r.1≠0 then(md0,ck r.1) else(r.1,0)
theorem MdSm.mono {m:MdD} {a b:Nat} (h:MdSm m a) (hab:a≤b):MdSm m b:=⟨Nat.le_trans h.e hab,Nat.le_trans h.h hab,Nat.le_trans h.g hab,Nat.le_trans h.p hab,Nat.le_trans h.r hab,Nat.le_trans h.s hab⟩
theorem MdSm.stB {m:MdD} {n:Nat} (h:MdSm m n) (s:PS):MdSm (stB m s).1 (n+1):=by
 obtain⟨h1,h2,h3,h4,h5,h6⟩:=h
 unfold Go.PN.stB
 dsimp only
 repeat' split
 all_goals constructor
 all_goals first|(dsimp only;rw [List.length_append];exact Nat.succ_le_succ (by assumption))|(dsimp only;omega)
end Go.PN
namespace Go.Proofs.YteocnikcjjonbaaGreat
open Go.AI Go.PN
attribute [local irreducible] aw Fa Fh DrK
theorem pmodel_fa (ck:MdD→Int) (l:BS) (hl:l.length≤1099511627776) (hn:(splitS l).2.length≤1048576) (hw:∀t∈(splitS l).2,t.text.length≤1099511627776) (hck:(readS ⟨(splitS l).2,0⟩).2.e=0→Fa Tryz.prog 14 [.agg (mdc true (readS ⟨(splitS l).2,0⟩).1)] (.c (errA (ck (readS ⟨(splitS l).2,0⟩).1)))):Fa Tryz.prog 10 [.c (.str (sB l))] (.tup [.agg (mdc true (modelP ck l).1),.c (errA (modelP ck l).2)]):=by
 refine fa_of_body Tryz.func10 rfl rfl (by simp [Tryz.ntmps10]) fun C hC=> ?_
 simp only [initS,Nat.reduceAdd]
 repeat' first|refine yA1 o0 ?_|(refine xW ?_;refine xS ?_)|refine xP ?_|refine xN ?_|refine aw_cd eE (fun hb=>?_) (fun hb=>?_)|refine aw_ce eE (fun hb=>?_) (fun hb=>?_)|refine aw_cn eE (fun hb=>?_) (fun hb=>?_)|(refine xF (fun hb=>?_) (fun hb=>?_)<;>fail_if_success (cases hb;done))|(refine aw_gsd rfl rfl eE (fun hb=>?_) (fun hb=>?_)<;>refine xS ?_)|(refine aw_gse rfl rfl eE (fun hb=>?_) (fun hb=>?_)<;>refine xS ?_)|(refine aw_gsn rfl rfl eE (fun hb=>?_) (fun hb=>?_)<;>refine xS ?_)|(refine aw_gs rfl rfl eE (fun hb=>?_) (fun hb=>?_)<;>fail_if_success (cases hb;done)<;>refine xS ?_)|(refine drk_gsd rfl rfl eE (fun hb=>?_) (fun hb=>?_)<;>refine xS ?_)|(refine drk_gse rfl rfl eE (fun hb=>?_) (fun hb=>?_)<;>refine xS ?_)|(refine drk_gsn rfl rfl eE (fun hb=>?_) (fun hb=>?_)<;>refine xS ?_)|(refine drk_gs rfl rfl eE (fun hb=>?_) (fun hb=>?_)<;>fail_if_success (cases hb;done)<;>refine xS ?_)
 refine xA fun g2 hn_g2=>?_
 repeat' first|refine yA1 hn_g2 ?_|(refine yW hn_g2 ?_;refine yS hn_g2 ?_)|refine yP hn_g2 ?_|refine yN hn_g2 ?_|refine aw_cd (zE hn_g2) (fun hb=>?_) (fun hb=>?_)|refine aw_ce (zE hn_g2) (fun hb=>?_) (fun hb=>?_)|refine aw_cn (zE hn_g2) (fun hb=>?_) (fun hb=>?_)|(refine yF hn_g2 (fun hb=>?_) (fun hb=>?_)<;>fail_if_success (cases hb;done))|(refine aw_gsd rfl rfl (zE hn_g2) (fun hb=>?_) (fun hb=>?_)<;>refine yS hn_g2 ?_)|(refine aw_gse rfl rfl (zE hn_g2) (fun hb=>?_) (fun hb=>?_)<;>refine yS hn_g2 ?_)|(refine aw_gsn rfl rfl (zE hn_g2) (fun hb=>?_) (fun hb=>?_)<;>refine yS hn_g2 ?_)|(refine aw_gs rfl rfl (zE hn_g2) (fun hb=>?_) (fun hb=>?_)<;>fail_if_success (cases hb;done)<;>refine yS hn_g2 ?_)|(refine drk_gsd rfl rfl (zE hn_g2) (fun hb=>?_) (fun hb=>?_)<;>refine yS hn_g2 ?_)|(refine drk_gse rfl rfl (zE hn_g2) (fun hb=>?_) (fun hb=>?_)<;>refine yS hn_g2 ?_)|(refine drk_gsn rfl rfl (zE hn_g2) (fun hb=>?_) (fun hb=>?_)<;>refine yS hn_g2 ?_)|(refine drk_gs rfl rfl (zE hn_g2) (fun hb=>?_) (fun hb=>?_)<;>fail_if_success (cases hb;done)<;>refine yS hn_g2 ?_)
 refine aw_callh (hr:=[(g2,.cells 30 8 (ofL [.str (sB []),.str (sB []),.nils,.nils,.nils,.nils,.nils,.nils]))]) (begin_fh l hl) rfl rfl rfl (.refl _) (zL hn_g2) ?_
 rintro r h' ⟨out,g,ho,rfl,rfl⟩ hgg
 have hne:g≠g2:=by simpa [Heap.keys] using hgg
 have hne':g2≠g:=fun e=>hne e.symm
 clear hgg
 simp only [List.cons_append,List.nil_append]
 have hs:(PS.mk (splitS l).2 0).l<:+out.map TX.t:=by rw [ho];exact List.suffix_refl _
 have hL:out.length≤1048576:=by rw [←List.length_map TX.t,ho];exact hn
 have hw':∀t∈out,t.t.text.length≤1099511627776:=fun t ht=>hw t.t (by rw [←ho];exact List.mem_map_of_mem ht)
 clear hw hn
 unfold modelP
 unfold readS at hck⊢
 dsimp only at hck⊢
 have f0:=expect_fg g out ⟨(splitS l).2,0⟩ kModel hs om
 have hs1:=((rdr_exp kModel).suf ⟨(splitS l).2,0⟩).trans hs
 generalize expS kModel ⟨(splitS l).2,0⟩=s1 at*
 have f1:=word_fg g out s1 hs1 om
 have hs2:=suf_word hs1
 generalize wordS s1=r at*
 obtain⟨nm,s2⟩:=r
 dsimp only at*
 have f2:=expect_fg g out s2 kSemi hs2 om
 have hs3:(expS kSemi s2).l<:+out.map TX.t:=((rdr_exp kSemi).suf s2).trans hs2
 generalize expS kSemi s2=s3 at*
 generalize hF:lpS (fun s=> !isS s kTop) stB {md0 with name:=nm} s3=F at*
 have hs4:F.2.l<:+out.map TX.t:=by rw [←hF];exact((rdr_lp rdr_stB _).suf s3).trans hs3
 have f3:=expect_fg g out F.2 kTop hs4 om
 have hs5:(expS kTop F.2).l<:+out.map TX.t:=((rdr_exp kTop).suf F.2).trans hs4
 generalize expS kTop F.2=s5 at*
 have f4:=input_fg g out s5 hs5 om hw'
 have hs6:=(rdr_input.suf s5).trans hs5
 generalize inputS s5=r at*
 obtain⟨tp,s6⟩:=r
 dsimp only at*
 have f5:=expect_fg g out s6 kSemi hs6 om
 have hs7:(expS kSemi s6).l<:+out.map TX.t:=((rdr_exp kSemi).suf s6).trans hs6
 generalize expS kSemi s6=s7 at*
 have f6:=end_fg g out s7 hs7 om
 repeat' first|refine yA1 (oj hn_g2 (oj hne hne')) ?_|(refine yW (oj hn_g2 (oj hne hne')) ?_;refine yS (oj hn_g2 (oj hne hne')) ?_)|refine yP (oj hn_g2 (oj hne hne')) ?_|refine yN (oj hn_g2 (oj hne hne')) ?_|refine aw_cd (zE (oj hn_g2 (oj hne hne'))) (fun hb=>?_) (fun hb=>?_)|refine aw_ce (zE (oj hn_g2 (oj hne hne'))) (fun hb=>?_) (fun hb=>?_)|refine aw_cn (zE (oj hn_g2 (oj hne hne'))) (fun hb=>?_) (fun hb=>?_)|(refine yF (oj hn_g2 (oj hne hne')) (fun hb=>?_) (fun hb=>?_)<;>fail_if_success (cases hb;done))|(refine aw_gsd rfl rfl (zE (oj hn_g2 (oj hne hne'))) (fun hb=>?_) (fun hb=>?_)<;>refine yS (oj hn_g2 (oj hne hne')) ?_)|(refine aw_gse rfl rfl (zE (oj hn_g2 (oj hne hne'))) (fun hb=>?_) (fun hb=>?_)<;>refine yS (oj hn_g2 (oj hne hne')) ?_)|(refine aw_gsn rfl rfl (zE (oj hn_g2 (oj hne hne'))) (fun hb=>?_) (fun hb=>?_)<;>refine yS (oj hn_g2 (oj hne hne')) ?_)|(refine aw_gs rfl rfl (zE (oj hn_g2 (oj hne hne'))) (fun hb=>?_) (fun hb=>?_)<;>fail_if_success (cases hb;done)<;>refine yS (oj hn_g2 (oj hne hne')) ?_)|(refine drk_gsd rfl rfl (zE (oj hn_g2 (oj hne hne'))) (fun hb=>?_) (fun hb=>?_)<;>refine yS (oj hn_g2 (oj hne hne')) ?_)|(refine drk_gse rfl rfl (zE (oj hn_g2 (oj hne hne'))) (fun hb=>?_) (fun hb=>?_)<;>refine yS (oj hn_g2 (oj hne hne')) ?_)|(refine drk_gsn rfl rfl (zE (oj hn_g2 (oj hne hne'))) (fun hb=>?_) (fun hb=>?_)<;>refine yS (oj hn_g2 (oj hne hne')) ?_)|(refine drk_gs rfl rfl (zE (oj hn_g2 (oj hne hne'))) (fun hb=>?_) (fun hb=>?_)<;>fail_if_success (cases hb;done)<;>refine yS (oj hn_g2 (oj hne hne')) ?_)
 ·have h0:(splitS l).1≠0:=by simpa using hb
  refine yT hC (oj hn_g2 (oj hne hne')) ?_
  rw [if_pos h0]
  exact .tup ⟨.agg lerl_md0,.c ler_err,trivial⟩
 have h0:¬(splitS l).1≠0:=by simpa using hb
 rw [if_neg h0]
 refine yA (oj hn_g2 (oj hne hne')) fun gM hn_gM=>?_
 have J1:=oj hn_g2 (oj hne (oj hne' hn_gM))
 refine yW J1 ?_
 refine yS J1 ?_
 repeat' first|refine yA1 J1 ?_|(refine aw_cg (f0) rfl rfl rfl (zE J1) (zL2 J1) ?_;refine yS J1 ?_)|(refine aw_cg (f1) rfl rfl rfl (zE J1) (zL2 J1) ?_;refine yS J1 ?_)|(refine yW J1 ?_;refine yS J1 ?_)|refine yP J1 ?_|refine yN J1 ?_|refine aw_cd (zE J1) (fun hb=>?_) (fun hb=>?_)|refine aw_ce (zE J1) (fun hb=>?_) (fun hb=>?_)|refine aw_cn (zE J1) (fun hb=>?_) (fun hb=>?_)|(refine yF J1 (fun hb=>?_) (fun hb=>?_)<;>fail_if_success (cases hb;done))|(refine aw_gsd rfl rfl (zE J1) (fun hb=>?_) (fun hb=>?_)<;>refine yS J1 ?_)|(refine aw_gse rfl rfl (zE J1) (fun hb=>?_) (fun hb=>?_)<;>refine yS J1 ?_)|(refine aw_gsn rfl rfl (zE J1) (fun hb=>?_) (fun hb=>?_)<;>refine yS J1 ?_)|(refine aw_gs rfl rfl (zE J1) (fun hb=>?_) (fun hb=>?_)<;>fail_if_success (cases hb;done)<;>refine yS J1 ?_)|(refine drk_gsd rfl rfl (zE J1) (fun hb=>?_) (fun hb=>?_)<;>refine yS J1 ?_)|(refine drk_gse rfl rfl (zE J1) (fun hb=>?_) (fun hb=>?_)<;>refine yS J1 ?_)|(refine drk_gsn rfl rfl (zE J1) (fun hb=>?_) (fun hb=>?_)<;>refine yS J1 ?_)|(refine drk_gs rfl rfl (zE J1) (fun hb=>?_) (fun hb=>?_)<;>fail_if_success (cases hb;done)<;>refine yS J1 ?_)
 refine aw_cg f2 rfl rfl rfl (zE J1) (zL2 o0) ?_
 refine yS J1 ?_
 refine yH J1 ?_
 apply wa1
 refine aw_cut (fun _:Og=>[(2,.c (.optr g2 0)),(3,.c .nilI),(4,.c (.optr g 0)),(6,.c (.optr gM 0))]) (fun o=>[(gM,mdO F.1 o),(g,rdO out F.2)]++mdT F.1 o++[(g2,.cells 30 8 (ofL [.str (sB []),.str (sB []),.nils,.nils,.nils,.nils,.nils,.nils]))]) (fun o=>OgOk F.1 o) ?_ ?_
 ·apply wa2
  refine aw_lp (fun _:PS×MdD×Og=>[(2,.c (.optr g2 0)),(3,.c .nilI),(4,.c (.optr g 0)),(6,.c (.optr gM 0))]) (fun x=>[(gM,mdO x.2.1 x.2.2),(g,rdO out x.1)]++mdT x.2.1 x.2.2++[(g2,.cells 30 8 (ofL [.str (sB []),.str (sB []),.nils,.nils,.nils,.nils,.nils,.nils]))])
   (fun x=>x.1.l<:+out.map TX.t∧OgOk x.2.1 x.2.2∧MdSm x.2.1 (1048577-mS x.1)∧lpS (fun s=> !isS s kTop) stB x.2.1 x.1=F) (fun x=>mS x.1) (s3,{md0 with name:=nm},⟨none,none,none,none,none,none⟩) (zB J1) zZ ⟨hs3,⟨fun _=>rfl,fun _=>rfl,fun _=>rfl,fun _=>rfl,fun _=>rfl,fun _=>rfl⟩,⟨Nat.zero_le _,Nat.zero_le _,Nat.zero_le _,Nat.zero_le _,Nat.zero_le _,Nat.zero_le _⟩,hF⟩ ?_
  rintro ⟨sx,m,o⟩ ⟨hsx,hog,hm,hlp⟩
  dsimp only at hsx hog hm hlp⊢
  simp only [List.cons_append,List.nil_append]
  have i0:=is_fg g out sx kTop hsx om
  repeat' first|refine yA1 J1 ?_|(refine aw_cg (i0) rfl rfl rfl (zE J1) (zL2 J1) ?_;refine yS J1 ?_)|(refine yW J1 ?_;refine yS J1 ?_)|refine yP J1 ?_|refine yN J1 ?_|refine aw_cd (zE J1) (fun hb=>?_) (fun hb=>?_)|refine aw_ce (zE J1) (fun hb=>?_) (fun hb=>?_)|refine aw_cn (zE J1) (fun hb=>?_) (fun hb=>?_)|(refine yF J1 (fun hb=>?_) (fun hb=>?_)<;>fail_if_success (cases hb;done))|(refine aw_gsd rfl rfl (zE J1) (fun hb=>?_) (fun hb=>?_)<;>refine yS J1 ?_)|(refine aw_gse rfl rfl (zE J1) (fun hb=>?_) (fun hb=>?_)<;>refine yS J1 ?_)|(refine aw_gsn rfl rfl (zE J1) (fun hb=>?_) (fun hb=>?_)<;>refine yS J1 ?_)|(refine aw_gs rfl rfl (zE J1) (fun hb=>?_) (fun hb=>?_)<;>fail_if_success (cases hb;done)<;>refine yS J1 ?_)|(refine drk_gsd rfl rfl (zE J1) (fun hb=>?_) (fun hb=>?_)<;>refine yS J1 ?_)|(refine drk_gse rfl rfl (zE J1) (fun hb=>?_) (fun hb=>?_)<;>refine yS J1 ?_)|(refine drk_gsn rfl rfl (zE J1) (fun hb=>?_) (fun hb=>?_)<;>refine yS J1 ?_)|(refine drk_gs rfl rfl (zE J1) (fun hb=>?_) (fun hb=>?_)<;>fail_if_success (cases hb;done)<;>refine yS J1 ?_)
  ·rename_i hz
   have hc:(fun s=> !isS s kTop) sx=true:=hb
   have hst:=lpS_step (c:=fun s=> !isS s kTop) (b:=stB) (a:=m) (fun a s h _=>con_stB a s h) hz hc
   have hlt:=con_stB m sx hz
   rw [hst] at hlp
   have hsy:(stB m sx).2.l<:+out.map TX.t:=((rdr_stB m).suf sx).trans hsx
   have hm1:1≤mS sx:=by unfold mS;rw [if_pos hz];omega
   have hm2:mS sx≤1048577:=by
    have:=hsx.length_le
    rw [List.length_map] at this
    unfold mS
    split<;>omega
   have hf:=statement_fh gM g out sx m o hsx hL hw' hog (hm.mono om)
   have hm3:=(hm.stB sx).mono (show _≤1048577-mS (stB m sx).2 by omega)
   refine aw_callh (hr:=[(g2,.cells 30 8 (ofL [.str (sB []),.str (sB []),.nils,.nils,.nils,.nils,.nils,.nils]))]) hf rfl rfl rfl (by simp only [List.cons_append,List.nil_append];exact .refl _) (zL J1) ?_
   rintro r h' ⟨rfl,o',ho',rfl⟩ _
   repeat' first|refine yA1 J1 ?_|(refine yW J1 ?_;refine yS J1 ?_)|refine yP J1 ?_|refine yN J1 ?_|refine aw_cd (zE J1) (fun hb=>?_) (fun hb=>?_)|refine aw_ce (zE J1) (fun hb=>?_) (fun hb=>?_)|refine aw_cn (zE J1) (fun hb=>?_) (fun hb=>?_)|(refine yF J1 (fun hb=>?_) (fun hb=>?_)<;>fail_if_success (cases hb;done))|(refine aw_gsd rfl rfl (zE J1) (fun hb=>?_) (fun hb=>?_)<;>refine yS J1 ?_)|(refine aw_gse rfl rfl (zE J1) (fun hb=>?_) (fun hb=>?_)<;>refine yS J1 ?_)|(refine aw_gsn rfl rfl (zE J1) (fun hb=>?_) (fun hb=>?_)<;>refine yS J1 ?_)|(refine aw_gs rfl rfl (zE J1) (fun hb=>?_) (fun hb=>?_)<;>fail_if_success (cases hb;done)<;>refine yS J1 ?_)|(refine drk_gsd rfl rfl (zE J1) (fun hb=>?_) (fun hb=>?_)<;>refine yS J1 ?_)|(refine drk_gse rfl rfl (zE J1) (fun hb=>?_) (fun hb=>?_)<;>refine yS J1 ?_)|(refine drk_gsn rfl rfl (zE J1) (fun hb=>?_) (fun hb=>?_)<;>refine yS J1 ?_)|(refine drk_gs rfl rfl (zE J1) (fun hb=>?_) (fun hb=>?_)<;>fail_if_success (cases hb;done)<;>refine yS J1 ?_)
   refine aw_stop ⟨((stB m sx).2,(stB m sx).1,o'),?_⟩
   refine⟨hlt,?_⟩
   and_intros
   all_goals first|rfl|exact List.Sublist.refl _|exact True.intro|exact hsy|exact ho'|exact hm3|exact hlp
  ·have hc:¬(sx.e=0∧(fun s=> !isS s kTop) sx=true):=fun z=>by rw [show(fun s=> !isS s kTop) sx=false from hb] at z;exact absurd z.2 (by decide)
   rw [lpS_end hc] at hlp
   subst hlp
   refine aw_stop ⟨o,?_⟩
   and_intros<;>first|rfl|exact List.Sublist.refl _|exact True.intro|exact hog
  ·have hc:¬(sx.e=0∧(fun s=> !isS s kTop) sx=true):=fun z=>hb z.1
   rw [lpS_end hc] at hlp
   subst hlp
   refine aw_stop ⟨o,?_⟩
   and_intros<;>first|rfl|exact List.Sublist.refl _|exact True.intro|exact hog
 rintro o hog
 try dsimp only at hog⊢
 refine aw_perm (h':=(gM,mdO F.1 o)::(gh o.e 61 (F.1.events.length*11) (evsF F.1.events)++(gh o.h 125 (F.1.houses.length*2) (hssF F.1.houses)++(gh o.g 65 (F.1.gates.length*7) (gtsF F.1.gates)++(gh o.p 128 (F.1.pages.length*3) (pgsF F.1.pages)++(gh o.r 100 (F.1.groups.length*4) (grsF F.1.groups)++(gh o.s 104 (F.1.phases.length*3) (phsF F.1.phases)++([(g,rdO out F.2),(g2,.cells 30 8 (ofL [.str (sB []),.str (sB []),.nils,.nils,.nils,.nils,.nils,.nils]))])))))))) (.cons _ ?_) ?_
 ·have e:gh o.e 61 (F.1.events.length*11) (evsF F.1.events)++(gh o.h 125 (F.1.houses.length*2) (hssF F.1.houses)++(gh o.g 65 (F.1.gates.length*7) (gtsF F.1.gates)++(gh o.p 128 (F.1.pages.length*3) (pgsF F.1.pages)++(gh o.r 100 (F.1.groups.length*4) (grsF F.1.groups)++(gh o.s 104 (F.1.phases.length*3) (phsF F.1.phases)++([(g,rdO out F.2),(g2,.cells 30 8 (ofL [.str (sB []),.str (sB []),.nils,.nils,.nils,.nils,.nils,.nils]))]))))))=mdT F.1 o++[(g,rdO out F.2),(g2,.cells 30 8 (ofL [.str (sB []),.str (sB []),.nils,.nils,.nils,.nils,.nils,.nils]))]:=by
   unfold mdT
   simp only [List.flatten_cons,List.flatten_nil,List.append_assoc,List.append_nil,List.nil_append]
  rw [e]
  exact(List.perm_middle (l₁:=mdT F.1 o)).symm
 refine aw_frzG (j0:=2) (n:=F.1.events.length) (s:=11) (f':=ofL [.str (sB F.1.name),.str (sB F.1.top),evs true F.1.events,gs o.h 2 F.1.houses.length,gs o.g 7 F.1.gates.length,gs o.p 3 F.1.pages.length,gs o.r 4 F.1.groups.length,gs o.s 3 F.1.phases.length]) rfl rfl (fun j hj hj3=>by
  match j,hj,hj3 with
  |0,_,_=>rfl
  |1,_,_=>rfl
  |2,_,h=>exact absurd rfl h
  |3,_,_=>rfl
  |4,_,_=>rfl
  |5,_,_=>rfl
  |6,_,_=>rfl
  |7,_,_=>rfl
  |j+8,h,_=>exact absurd h om) hog.e (fun g _=>hC g) ?_
 refine aw_frzG (j0:=3) (n:=F.1.houses.length) (s:=2) (f':=ofL [.str (sB F.1.name),.str (sB F.1.top),evs true F.1.events,hss true F.1.houses,gs o.g 7 F.1.gates.length,gs o.p 3 F.1.pages.length,gs o.r 4 F.1.groups.length,gs o.s 3 F.1.phases.length]) rfl rfl (fun j hj hj3=>by
  match j,hj,hj3 with
  |0,_,_=>rfl
  |1,_,_=>rfl
  |2,_,_=>rfl
  |3,_,h=>exact absurd rfl h
  |4,_,_=>rfl
  |5,_,_=>rfl
  |6,_,_=>rfl
  |7,_,_=>rfl
  |j+8,h,_=>exact absurd h om) hog.h (fun g _=>hC g) ?_
 refine aw_frzG (j0:=4) (n:=F.1.gates.length) (s:=7) (f':=ofL [.str (sB F.1.name),.str (sB F.1.top),evs true F.1.events,hss true F.1.houses,gts true F.1.gates,gs o.p 3 F.1.pages.length,gs o.r 4 F.1.groups.length,gs o.s 3 F.1.phases.length]) rfl rfl (fun j hj hj3=>by
  match j,hj,hj3 with
  |0,_,_=>rfl
  |1,_,_=>rfl
  |2,_,_=>rfl
  |3,_,_=>rfl
  |4,_,h=>exact absurd rfl h
  |5,_,_=>rfl
  |6,_,_=>rfl
  |7,_,_=>rfl
  |j+8,h,_=>exact absurd h om) hog.g (fun g _=>hC g) ?_
 refine aw_frzG (j0:=5) (n:=F.1.pages.length) (s:=3) (f':=ofL [.str (sB F.1.name),.str (sB F.1.top),evs true F.1.events,hss true F.1.houses,gts true F.1.gates,pgs true F.1.pages,gs o.r 4 F.1.groups.length,gs o.s 3 F.1.phases.length]) rfl rfl (fun j hj hj3=>by
  match j,hj,hj3 with
  |0,_,_=>rfl
  |1,_,_=>rfl
  |2,_,_=>rfl
  |3,_,_=>rfl
  |4,_,_=>rfl
  |5,_,h=>exact absurd rfl h
  |6,_,_=>rfl
  |7,_,_=>rfl
  |j+8,h,_=>exact absurd h om) hog.p (fun g _=>hC g) ?_
 refine aw_frzG (j0:=6) (n:=F.1.groups.length) (s:=4) (f':=ofL [.str (sB F.1.name),.str (sB F.1.top),evs true F.1.events,hss true F.1.houses,gts true F.1.gates,pgs true F.1.pages,grs true F.1.groups,gs o.s 3 F.1.phases.length]) rfl rfl (fun j hj hj3=>by
  match j,hj,hj3 with
  |0,_,_=>rfl
  |1,_,_=>rfl
  |2,_,_=>rfl
  |3,_,_=>rfl
  |4,_,_=>rfl
  |5,_,_=>rfl
  |6,_,h=>exact absurd rfl h
  |7,_,_=>rfl
  |j+8,h,_=>exact absurd h om) hog.r (fun g _=>hC g) ?_
 refine aw_frzG (j0:=7) (n:=F.1.phases.length) (s:=3) (f':=ofL [.str (sB F.1.name),.str (sB F.1.top),evs true F.1.events,hss true F.1.houses,gts true F.1.gates,pgs true F.1.pages,grs true F.1.groups,phs true F.1.phases]) rfl rfl (fun j hj hj3=>by
  match j,hj,hj3 with
  |0,_,_=>rfl
  |1,_,_=>rfl
  |2,_,_=>rfl
  |3,_,_=>rfl
  |4,_,_=>rfl
  |5,_,_=>rfl
  |6,_,_=>rfl
  |7,_,h=>exact absurd rfl h
  |j+8,h,_=>exact absurd h om) hog.s (fun g _=>hC g) ?_
 repeat' first|refine yA1 J1 ?_|(refine aw_cg (f3) rfl rfl rfl (zE J1) (zL2 J1) ?_;refine yS J1 ?_)|(refine aw_cg (f4) rfl rfl rfl (zE J1) (zL2 J1) ?_;refine yS J1 ?_)|(refine aw_cg (f5) rfl rfl rfl (zE J1) (zL2 J1) ?_;refine yS J1 ?_)|(refine aw_cg (f6) rfl rfl rfl (zE J1) (zL2 J1) ?_;refine yS J1 ?_)|(refine yW J1 ?_;refine yS J1 ?_)|refine yP J1 ?_|refine yN J1 ?_|refine aw_cd (zE J1) (fun hb=>?_) (fun hb=>?_)|refine aw_ce (zE J1) (fun hb=>?_) (fun hb=>?_)|refine aw_cn (zE J1) (fun hb=>?_) (fun hb=>?_)|(refine yF J1 (fun hb=>?_) (fun hb=>?_)<;>fail_if_success (cases hb;done))|(refine aw_gsd rfl rfl (zE J1) (fun hb=>?_) (fun hb=>?_)<;>refine yS J1 ?_)|(refine aw_gse rfl rfl (zE J1) (fun hb=>?_) (fun hb=>?_)<;>refine yS J1 ?_)|(refine aw_gsn rfl rfl (zE J1) (fun hb=>?_) (fun hb=>?_)<;>refine yS J1 ?_)|(refine aw_gs rfl rfl (zE J1) (fun hb=>?_) (fun hb=>?_)<;>fail_if_success (cases hb;done)<;>refine yS J1 ?_)|(refine drk_gsd rfl rfl (zE J1) (fun hb=>?_) (fun hb=>?_)<;>refine yS J1 ?_)|(refine drk_gse rfl rfl (zE J1) (fun hb=>?_) (fun hb=>?_)<;>refine yS J1 ?_)|(refine drk_gsn rfl rfl (zE J1) (fun hb=>?_) (fun hb=>?_)<;>refine yS J1 ?_)|(refine drk_gs rfl rfl (zE J1) (fun hb=>?_) (fun hb=>?_)<;>fail_if_success (cases hb;done)<;>refine yS J1 ?_)
 ·have h1:(endS s7).e≠0:=by simpa using hb
  refine yT hC J1 ?_
  rw [if_pos h1]
  exact .tup ⟨.agg lerl_md0,.c ler_err,trivial⟩
 have h1:¬(endS s7).e≠0:=by simpa using hb
 rw [if_neg h1]
 have f7:=hck (by simpa using h1)
 repeat' first|refine yA1 J1 ?_|(refine yC2 J1 (f7) ?_)|(refine yD2 J1 (f7) ?_)|(refine yW J1 ?_;refine yS J1 ?_)|refine yP J1 ?_|refine yN J1 ?_|refine aw_cd (zE J1) (fun hb=>?_) (fun hb=>?_)|refine aw_ce (zE J1) (fun hb=>?_) (fun hb=>?_)|refine aw_cn (zE J1) (fun hb=>?_) (fun hb=>?_)|(refine yF J1 (fun hb=>?_) (fun hb=>?_)<;>fail_if_success (cases hb;done))|(refine aw_gsd rfl rfl (zE J1) (fun hb=>?_) (fun hb=>?_)<;>refine yS J1 ?_)|(refine aw_gse rfl rfl (zE J1) (fun hb=>?_) (fun hb=>?_)<;>refine yS J1 ?_)|(refine aw_gsn rfl rfl (zE J1) (fun hb=>?_) (fun hb=>?_)<;>refine yS J1 ?_)|(refine aw_gs rfl rfl (zE J1) (fun hb=>?_) (fun hb=>?_)<;>fail_if_success (cases hb;done)<;>refine yS J1 ?_)|(refine drk_gsd rfl rfl (zE J1) (fun hb=>?_) (fun hb=>?_)<;>refine yS J1 ?_)|(refine drk_gse rfl rfl (zE J1) (fun hb=>?_) (fun hb=>?_)<;>refine yS J1 ?_)|(refine drk_gsn rfl rfl (zE J1) (fun hb=>?_) (fun hb=>?_)<;>refine yS J1 ?_)|(refine drk_gs rfl rfl (zE J1) (fun hb=>?_) (fun hb=>?_)<;>fail_if_success (cases hb;done)<;>refine yS J1 ?_)
 ·have h2:ck {F.1 with top:=tp}≠0:=by simpa using hb
  refine yT hC J1 ?_
  rw [if_pos h2]
  exact .tup ⟨.agg lerl_md0,.c ler_err,trivial⟩
 ·have h2:¬ck {F.1 with top:=tp}≠0:=by simpa using hb
  refine yT hC J1 ?_
  rw [if_neg h2]
  exact .tup ⟨.agg (lerl_md (x:={F.1 with top:=tp})),.c (ler_err0 rfl),trivial⟩
end Go.Proofs.YteocnikcjjonbaaGreat
namespace Go.PN
def RD.prob (r:RD):Bool:=r.valid&&decide (0≤r.q)&&decide (r.q≤1)
theorem sq_le_one {n d:Nat} (hd:d≠0):sq false n d≤1↔n≤d:=by
 unfold sq sgn
 simp only [Bool.false_eq_true,if_false]
 rw [Rat.mkRat_eq_div]
 have hd0:(0:Rat)<(d:Rat):=by
  have:((0:Nat):Rat)<(d:Rat):=Rat.natCast_lt_natCast.2 om
  exact this
 have hne:(d:Rat)≠0:=fun e=>by rw [e] at hd0;exact Rat.lt_irrefl hd0
 have hx:((n:Int):Rat)/(d:Rat)*(d:Rat)=(n:Rat):=by
  have h1:((n:Int):Rat)=(n:Rat):=rfl
  rw [h1,Rat.div_def,Rat.mul_assoc,Rat.inv_mul_cancel _ hne,Rat.mul_one]
 generalize ((n:Int):Rat)/(d:Rat)=x at hx
 constructor
 ·intro h
  have h1:=Rat.mul_le_mul_of_nonneg_right h (Rat.le_of_lt hd0)
  rw [hx,Rat.one_mul] at h1
  exact Rat.natCast_le_natCast.1 h1
 ·intro h
  have h1:(n:Rat)≤(d:Rat):=Rat.natCast_le_natCast.2 h
  rw [←hx] at h1
  refine Rat.not_lt.1 fun hlt=> ?_
  have h2:=Rat.mul_lt_mul_of_pos_right hlt hd0
  rw [Rat.one_mul] at h2
  exact absurd h1 (Rat.not_le.2 h2)
theorem prob_eq {r:RD} {L:Nat} (hw:r.wf L) (hv:r.valid=true):((!r.neg)&&decide (cmpN (val r.num) (val r.den)≤0))=(decide (0≤r.q)&&decide (r.q≤1)):=by
 cases hs:r.some with
 |false=>
  have hn:r.num.length=0:=by
   simp only [RD.some,hv,Bool.true_and,decide_eq_false_iff_not,ne_eq,Classical.not_not] at hs
   exact hs
  have hq:r.q=0:=by unfold RD.q RD.pn;simp [hs,sq_zero]
  have hv':=hv
  unfold RD.valid at hv'
  split at hv'
  ·rename_i h
   have h1:r.num=[]:=List.length_eq_zero_iff.1 h.1
   have h2:r.den=[]:=List.length_eq_zero_iff.1 h.2
   rw [hq,h1,h2]
   simp only [Bool.not_eq_true'] at hv'
   simp [hv',val,cmpN]
   decide
  ·simp [plainB,hn] at hv'
 |true=>
  obtain⟨h1,h2,h3,h4,h5⟩:=RD.some_spec hw hs
  have hq:r.q=sq r.neg (val r.num) (val r.den):=by unfold RD.q RD.ps RD.pn RD.pd;simp [hs]
  rw [hq]
  have hneg:=sq_lt (neg:=r.neg) h3 h4
  cases hb:r.neg with
  |true=>
   rw [hb] at hneg
   have:¬(0≤sq true (val r.num) (val r.den)):=Rat.not_le.2 (hneg.2 rfl)
   simp [this]
  |false=>
   rw [hb] at hneg
   have hge:0≤sq false (val r.num) (val r.den):=Rat.not_lt.1 fun h=>by cases hneg.1 h
   have hle:=sq_le_one (n:=val r.num) h4
   have hc:cmpN (val r.num) (val r.den)≤0↔val r.num≤val r.den:=by
    unfold cmpN
    split
    ·constructor<;>intro _<;>omega
    ·split<;>constructor<;>intro _<;>omega
   simp only [hge,decide_true,Bool.true_and,Bool.not_false,hle,hc]
end Go.PN
namespace Go.Proofs.YteocnikcjjonbaaGreat
open Go.AI Go.PN
attribute [local irreducible] aw Fa Fh DrK
theorem rprob_fa (r:RD) (hw:r.wf 1073741824):Fa Tryz.prog 85 [.agg (rdc r)] (.c (.bool r.prob)):=by
 have h1:=hw.2.2.1
 have h2:=hw.2.2.2
 refine fa_of_body Tryz.func85 rfl rfl (by simp [Tryz.ntmps85]) fun C hC=> ?_
 simp only [initS,Nat.reduceAdd]
 refine xG ?_
 refine xB fun g1 hn_g1=>?_
 refine yG hn_g1 ?_
 refine yC hn_g1 (rvalid_fa r (wf_mono hw ?_)) ?_
 ·omega
 refine yG hn_g1 ?_
 unfold RD.prob
 refine aw_split 5 (zE hn_g1) (fun hv=> ?_) (fun hv=> ?_)<;>refine yS hn_g1 ?_
 ·have hp:=prob_eq hw hv
  refine yG hn_g1 ?_
  refine aw_split 10 (zE hn_g1) (fun hn=> ?_) (fun hn=> ?_)<;>refine yS hn_g1 ?_
  ·refine yG hn_g1 ?_
   refine yC hn_g1 (cmp_fa _ _ hw.1 hw.2.1 ?_ ?_) ?_
   ·omega
   ·omega
   refine yGT hC hn_g1 ?_
   refine .one (.c (ler_bool ?_))
   rw [hv,Bool.true_and,←hp,hn,Bool.true_and]
  ·refine yGT hC hn_g1 ?_
   refine .one (.c (ler_bool ?_))
   rw [hv,Bool.true_and,←hp,hn,Bool.false_and]
 ·refine yGT hC hn_g1 ?_
  refine .one (.c (ler_bool ?_))
  rw [hv,Bool.false_and,Bool.false_and]
end Go.Proofs.YteocnikcjjonbaaGreat
