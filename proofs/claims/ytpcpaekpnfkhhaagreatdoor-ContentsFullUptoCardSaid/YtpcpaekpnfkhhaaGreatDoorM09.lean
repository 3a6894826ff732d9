/- Parts of one proof, laid by a program. -/
import Derived.Test.YtpcpaekpnfkhhaaGreatDoorM00
import Derived.Test.YtpcpaekpnfkhhaaGreatDoorM08
import Derived.Deep.AppendSrc
import Derived.Lib.UnsafeStr
import Derived.Lib.Builder
import Derived.Laws.IdiomStrings
import Derived.Laws.Externs
import Derived.Lib.MakeNoZero
set_option linter.unusedSimpArgs false
set_option linter.unusedVariables false
set_option maxRecDepth 100000
set_option maxHeartbeats 12800000
namespace Go.PN
open Go.AI
structure MdN (m:MdD):Prop where
 ev:∀x∈m.events,x.p.wf 1000∧x.fail.wf 1000∧x.rep.wf 1000
 gt:∀g∈m.gates,GtN g
 gtl:m.gates.length≤64
 pg:∀p∈m.pages,p.gates.length≤64∧∀g∈p.gates,GtN g
 gr:∀x∈m.groups,x.members.length≤24∧x.factors.length≤24∧∀r∈x.factors,r.wf 1000
 ph:∀x∈m.phases,x.values.length≤24∧∀v∈x.values,v.p.wf 1000
abbrev mdN (m:MdD) (e h g p r s:CV):List CV:=[.str (sB m.name),.str (sB m.top),e,h,g,p,r,s]
theorem take_succ' {α:Type} (l:List α) (d:α) {j:Nat} (hj:j<l.length):l.take (j+1)=l.take j++[l.getD j d]:=by
 rw [List.take_add_one,List.getElem?_eq_getElem hj,List.getD_eq_getElem?_getD,List.getElem?_eq_getElem hj];rfl
end Go.PN
namespace Go.Proofs.YtpcpaekpnfkhhaaGreatDoor
open Go.AI Go.PN
abbrev mZ (g:Nat):Nat×AObj:=(g,.cells 29 8 (ofL [.str {data:= #[]},.str {data:= #[]},.nils,.nils,.nils,.nils,.nils,.nils]))
abbrev mM (g:Nat) (m:MdD):Nat×AObj:=(g,.cells 29 8 (ofL (mdc true m)))
abbrev mD (g:Nat) (m:MdD) (a b c d e f:CV):Nat×AObj:=(g,.cells 29 8 (ofL (mdN m a b c d e f)))
attribute [local irreducible] aw Fa Fh DrK
theorem pnormT_fa (m:MdD) (hg:Go.PN.Good m) (hs:MdN m) (f1:Fa Tryz.prog 39 [.agg (mdc true m)] (.c .nilI)):Fa Tryz.prog 17 [.agg (mdc true m)] (.tup [.agg (mdc true (normM m)),.c .nilI]):=by
 have nE:m.events.length≤1099511627776:=Nat.le_trans hg.evl (by decide)
 have nH:m.houses.length≤1099511627776:=Nat.le_trans hg.hsl (by decide)
 have nP:m.pages.length≤1099511627776:=Nat.le_trans hg.pgl (by decide)
 have nR:m.groups.length≤1099511627776:=Nat.le_trans hg.grl (by decide)
 have nS:m.phases.length≤1099511627776:=Nat.le_trans hg.phl (by decide)
 have hlg:=hs.gtl
 have nH2:m.houses.length≤16:=hg.hsl
 have f2:=pgates_fa m.gates hs.gt om hg.gt.1
 obtain⟨RG,hRG⟩:∃c:CV,c=gts true (normL m.gates):=⟨_,rfl⟩
 rw [←hRG] at f2
 obtain⟨RE,hRE⟩:∃c:CV,c=.row true 11 m.events.length (evsF (sortK EvD.name m.events)):=⟨_,rfl⟩
 obtain⟨RH,hRH⟩:∃c:CV,c=.row true 2 m.houses.length (hssF (sortK HsD.name m.houses)):=⟨_,rfl⟩
 obtain⟨RP,hRP⟩:∃c:CV,c=.row true 3 m.pages.length (pgsF (sortK PgD.name (m.pages.map normP))):=⟨_,rfl⟩
 obtain⟨RR,hRR⟩:∃c:CV,c=.row true 4 m.groups.length (grsF (sortK GrD.name (m.groups.map normR))):=⟨_,rfl⟩
 obtain⟨RS,hRS⟩:∃c:CV,c=.row true 3 m.phases.length (phsF (m.phases.map normH)):=⟨_,rfl⟩
 have hsl:(sortK HsD.name m.houses).length=m.houses.length:=(sortK_perm _ _).length_eq
 have hel:(sortK EvD.name m.events).length=m.events.length:=(sortK_perm _ _).length_eq
 refine fa_of_body Tryz.func17 rfl rfl (by simp [Tryz.ntmps17]) fun C hC=> ?_
 simp only [initS,Nat.reduceAdd]
 refine xG ?_
 refine xB fun g1 hn_g1=>?_
 refine yA hn_g1 fun g2 hn_g2=>?_
 refine zA1 (oj hn_g1 hn_g2) f1 ?_
 refine aw_cut (fun z:Nat×Option Nat=>[(1,.c (.optr g1 0)),(2,.c (.optr g2 0)),(3,.c .nilI),(5,.c (.optr z.1 0))]) (fun z=>mD z.1 m .nils (gs z.2 2 m.houses.length) RG .nils .nils .nils::mZ g2::mM g1 m::gh z.2 105 (m.houses.length*2) (hssF m.houses)) (fun z=>(z.2=none→m.houses.length=0)) ?_ ?_
 ·refine aw_any ty_mixed ?_
  refine any_alt 6 11 (by decide) ?_ ?_
  ·refine any_cw [mM g1 m] [(0,0),(1,0),(2,0),(3,0),(4,0),(5,0),(7,0),(8,0),(6,1),(9,0),(10,0),(11,1),(12,2)] (by kernel_rfl) qa ?_
   have J1:=oj hn_g1 hn_g2
   refine yG J1 ?_
   refine cw_callh (hc:=[]) (hr:=[mZ g2,mM g1 m]) rfl (cloneH_fh m.houses om) rfl rfl rfl (.refl _) (zL J1) (fun _ _ hq=>by obtain⟨og,_,_,rfl⟩:=hq;exact has0_cons (by simp) has0_nil) ?_ (hm:=.inr ⟨rfl,rfl⟩)
   rintro _ _ ⟨og,hog,rfl,rfl⟩ _
   refine ySG J1 ?_
   refine cw_callq rfl f2 rfl rfl rfl (fun _ _=>(zL J1)) ?_
   refine ySG J1 ?_
   refine cw_pok (r:=.agg (mdN m .nils (gs og 2 m.houses.length) RG .nils .nils .nils)) rfl (fun _ _=>build2_ok (ps:=[(0,.tmp 27),(1,.tmp 29),(3,.tmp 32),(4,.tmp 35)]) (zE J1) (by subst hRG;cases og<;>rfl)) rfl rfl ?_
   refine ySG J1 ?_
   refine cw_alloc rfl rfl rfl rfl (zE J1) qa (fun g5 hn_g5=> ?_) (hm:=.inr ⟨rfl,rfl⟩)
   refine ySG J1 ?_
   refine cw_store (FP':=[]) rfl rfl rfl rfl rfl (zE J1) (zE J1) (zE J1) (zE J1) (fun _ e=>by cases e) (by subst hRG;cases og<;>rfl) rfl (Nat.le_refl 8) rfl has0_nil ?_
   refine ySG J1 ?_
   refine aw_perm (h':=mD g5 m .nils (gs og 2 m.houses.length) RG .nils .nils .nils::mZ g2::mM g1 m::gh og 105 (m.houses.length*2) (hssF m.houses)) (.cons _ List.perm_append_comm) ?_
   exact aw_stop ⟨(g5,og),(zB J1),zZ,hog⟩
  ·refine any_cw [mM g1 m] [(0,0),(1,0),(2,0),(3,0),(4,0),(5,0),(7,0),(8,0),(11,1),(6,1),(9,0),(10,0),(12,2)] (by kernel_rfl) qa ?_
   have J2:=oj hn_g1 hn_g2
   refine yG J2 ?_
   refine cw_alloc rfl rfl rfl rfl (zE J2) qa (fun g5 hn_g5=> ?_) (hm:=.inr ⟨rfl,rfl⟩)
   refine ySG J2 ?_
   refine cw_callh (hc:=[]) (hr:=[mZ g5,mZ g2,mM g1 m]) rfl (cloneH_fh m.houses om) rfl rfl rfl (.refl _) (zL J2) (fun _ _ hq=>by obtain⟨og,_,_,rfl⟩:=hq;exact has0_cons (by simp) has0_nil) ?_ (hm:=.inr ⟨rfl,rfl⟩)
   rintro _ _ ⟨og,hog,rfl,rfl⟩ _
   refine cw_perm (h':=mZ g5::(gh og 105 (m.houses.length*2) (hssF m.houses)++[mZ g2,mM g1 m])) List.perm_middle ?_
   refine ySG J2 ?_
   refine cw_callq rfl f2 rfl rfl rfl (fun _ _=>(zL J2)) ?_
   refine ySG J2 ?_
   refine cw_pok (r:=.agg (mdN m .nils (gs og 2 m.houses.length) RG .nils .nils .nils)) rfl (fun _ _=>build2_ok (ps:=[(0,.tmp 27),(1,.tmp 29),(3,.tmp 32),(4,.tmp 35)]) (zE J2) (by subst hRG;cases og<;>rfl)) rfl rfl ?_
   refine ySG J2 ?_
   refine cw_store (FP':=[]) rfl rfl rfl rfl rfl (zE J2) (zE J2) (zE J2) (zE J2) (fun _ e=>by cases e) (by subst hRG;cases og<;>rfl) rfl (Nat.le_refl 8) rfl has0_nil ?_
   refine ySG J2 ?_
   refine aw_perm (h':=mD g5 m .nils (gs og 2 m.houses.length) RG .nils .nils .nils::mZ g2::mM g1 m::gh og 105 (m.houses.length*2) (hssF m.houses)) (.cons _ List.perm_append_comm) ?_
   exact aw_stop ⟨(g5,og),(zB J2),zZ,hog⟩
 ·rintro ⟨g5,og⟩ hog
  dsimp only at hog⊢
  refine aw_nd fun hnd=> ?_
  have q1:g5≠g2:=fun e=>by subst e;simp [Heap.keys] at hnd
  have q2:g5≠g1:=fun e=>by subst e;simp [Heap.keys] at hnd
  clear hnd
  have a1:=eq_false q1
  have a2:=eq_false q1.symm
  have a3:=eq_false q2
  have a4:=eq_false q2.symm
  refine zA (oj hn_g1 (oj hn_g2 (oj a1 (oj a2 (oj a3 a4))))) ?_
  refine aw_callh (hc:=gh og 105 (m.houses.length*2) (hssF m.houses)) (hr:=[mD g5 m .nils (gs og 2 m.houses.length) RG .nils .nils .nils,mZ g2,mM g1 m]) (srtHs_fh og m.houses hog hg.hsn om) rfl rfl rfl (List.perm_append_comm (l₁:=[_,_,_])) (zL (oj hn_g1 (oj hn_g2 (oj a1 (oj a2 (oj a3 a4)))))) ?_
  rintro _ _ ⟨rfl,rfl⟩ _
  refine aw_perm (h':=mD g5 m .nils (gs og 2 m.houses.length) RG .nils .nils .nils::(gh og 105 (m.houses.length*2) (hssF (sortK HsD.name m.houses))++[mZ g2,mM g1 m])) List.perm_middle ?_
  refine aw_frzG (j0:=3) (m:=8) (f:=(ofL (mdN m .nils (gs og 2 m.houses.length) RG .nils .nils .nils))) (f':=(ofL (mdN m .nils RH RG .nils .nils .nils))) (fp:=hssF (sortK HsD.name m.houses)) rfl hRH (fun i hi h3=>by match i,hi,h3 with|0,_,_=>rfl|1,_,_=>rfl|2,_,_=>rfl|3,_,h=>exact absurd rfl h|4,_,_=>rfl|5,_,_=>rfl|6,_,_=>rfl|7,_,_=>rfl) hog (fun g _=>hC g) ?_
  have J3:=oj hn_g1 (oj hn_g2 (oj a1 (oj a2 (oj a3 a4))))
  refine yS J3 ?_
  refine zA J3 ?_
  refine aw_lp (fun z:Nat×Option Nat=>[(1,.c (.optr g1 0)),(2,.c (.optr g2 0)),(3,.c .nilI),(5,.c (.optr g5 0)),(41,.c (evs true m.events)),(42,.c (.int .i64 m.events.length)),(43,.c (.int .i64 z.1))]) (fun z=>mD g5 m (gs z.2 11 z.1) RH RG .nils .nils .nils::mZ g2::mM g1 m::gh z.2 54 (z.1*11) (evsF (m.events.take z.1))) (fun z=>z.1≤m.events.length∧(z.2=none→z.1=0)) (fun z=>m.events.length-z.1) (0,none) (zB J3) zZ ⟨Nat.zero_le _,fun _=>rfl⟩ ?_
  rintro ⟨j,og⟩ ⟨hj,hog⟩
  dsimp only at hj hog⊢
  by_cases hjn:j<m.events.length
  ·have d1:decide (j<m.events.length)=true:=decide_eq_true hjn
   have hx:=hs.ev (m.events.getD j ev0) (by rw [List.getD_eq_getElem?_getD,List.getElem?_eq_getElem hjn];exact List.getElem_mem _)
   have hT:=take_succ' m.events ev0 hjn
   have hTl:(m.events.take j).length=j:=by rw [List.length_take];omega
   have hevl:=hg.evl
   generalize hv:m.events.getD j ev0=x at*
   have c1:=pclone_fa _ hx.1
   have c2:=pclone_fa _ hx.2.1
   have c3:=pclone_fa _ hx.2.2
   refine zA (oj hn_g1 (oj hn_g2 (oj a1 (oj a2 (oj a3 (oj a4 (oj d1 hv))))))) ?_
   refine yA (oj hn_g1 (oj hn_g2 (oj a1 (oj a2 (oj a3 (oj a4 (oj d1 hv))))))) fun g7 hn_g7=>?_
   refine zA (oj hn_g1 (oj hn_g2 (oj a1 (oj a2 (oj a3 (oj a4 (oj d1 (oj hv hn_g7)))))))) ?_
   refine aw_cw [(g7,.cells 54 11 (ofL (evc x)))] [(0,0),(1,0),(2,0),(3,0),(4,0),(5,0),(6,0),(7,0),(8,0),(9,0),(10,2),(11,0),(12,2),(13,0),(14,2)] ty_mixed (by kernel_rfl) qa ?_
   have J4:=oj hn_g1 (oj hn_g2 (oj a1 (oj a2 (oj a3 (oj a4 (oj d1 (oj hv hn_g7)))))))
   refine yG J4 ?_
   refine cw_callq rfl c1 rfl rfl rfl (fun _ _=>(zL J4)) ?_
   refine ySG J4 ?_
   refine cw_callq rfl c2 rfl rfl rfl (fun _ _=>(zL J4)) ?_
   refine ySG J4 ?_
   refine cw_callq rfl c3 rfl rfl rfl (fun _ _=>(zL J4)) ?_
   refine ySG J4 ?_
   refine cw_store (FP':=[]) rfl rfl rfl rfl rfl (zE J4) (zE J4) (zE J4) (zE J4) (fun _ e=>by cases e) rfl rfl (show 4≤11 from by omega) rfl has0_nil ?_
   refine ySG J4 ?_
   refine cw_store (FP':=[]) rfl rfl rfl rfl rfl (zE J4) (zE J4) (zE J4) (zE J4) (fun _ e=>by cases e) rfl rfl (show 7≤11 from by omega) rfl has0_nil ?_
   refine ySG J4 ?_
   refine cw_store (FP':=[]) rfl rfl rfl rfl rfl (zE J4) (zE J4) (zE J4) (zE J4) (fun _ e=>by cases e) rfl rfl (show 10≤11 from by omega) rfl has0_nil ?_
   refine ySG J4 ?_
   refine zA J4 ?_
   refine aw_push (pre:=[(g7,.cells 54 11 (ofL (evc x))),mD g5 m (gs og 11 j) RH RG .nils .nils .nils,mZ g2,mM g1 m]) rfl rfl rfl rfl rfl rfl rfl (zE J4) (zE J4) (by rfl) om om (zE J4) om (by exact hog) (zE J4) (by rfl) (by rfl) qb qc om (by exact evs_push hTl x) fun gq hn_gq=> ?_
   replace hn_gq:=Heap.ne_of hn_gq
   first|dsimp only [Heap.ne,gh] at hn_gq|dsimp only [Heap.ne] at hn_gq|skip
   have J5:=oj hn_g1 (oj hn_g2 (oj a1 (oj a2 (oj a3 (oj a4 (oj d1 (oj hv (oj hn_g7 hn_gq))))))))
   refine yS J5 ?_
   rw [←hT]
   refine zA J5 ?_
   exact aw_stop ⟨(j+1,some gq),by dsimp only;omega,(zB J5),List.sublist_cons_self _ _,by dsimp only;omega,fun e=>by cases e⟩
  ·have d1:decide (j<m.events.length)=false:=decide_eq_false hjn
   obtain rfl:j=m.events.length:=by omega
   rw [List.take_of_length_le (Nat.le_refl m.events.length)]
   refine zA (oj hn_g1 (oj hn_g2 (oj a1 (oj a2 (oj a3 (oj a4 d1)))))) ?_
   refine aw_callh (hc:=gh og 54 (m.events.length*11) (evsF m.events)) (hr:=[mD g5 m (gs og 11 m.events.length) RH RG .nils .nils .nils,mZ g2,mM g1 m]) (srtEv_fh og m.events hog hg.evn om) rfl rfl rfl (List.perm_append_comm (l₁:=[_,_,_])) (zL (oj hn_g1 (oj hn_g2 (oj a1 (oj a2 (oj a3 (oj a4 d1))))))) ?_
   rintro _ _ ⟨rfl,rfl⟩ _
   refine aw_perm (h':=mD g5 m (gs og 11 m.events.length) RH RG .nils .nils .nils::(gh og 54 (m.events.length*11) (evsF (sortK EvD.name m.events))++[mZ g2,mM g1 m])) List.perm_middle ?_
   refine aw_frzG (j0:=2) (m:=8) (f:=(ofL (mdN m (gs og 11 m.events.length) RH RG .nils .nils .nils))) (f':=(ofL (mdN m RE RH RG .nils .nils .nils))) (fp:=evsF (sortK EvD.name m.events)) rfl hRE (fun i hi h3=>by match i,hi,h3 with|0,_,_=>rfl|1,_,_=>rfl|2,_,h=>exact absurd rfl h|3,_,_=>rfl|4,_,_=>rfl|5,_,_=>rfl|6,_,_=>rfl|7,_,_=>rfl) hog (fun g _=>hC g) ?_
   have J6:=oj hn_g1 (oj hn_g2 (oj a1 (oj a2 (oj a3 (oj a4 d1)))))
   refine yS J6 ?_
   refine zA J6 ?_
   refine aw_lp (fun z:Nat×Option Nat=>[(1,.c (.optr g1 0)),(2,.c (.optr g2 0)),(3,.c .nilI),(5,.c (.optr g5 0)),(70,.c (pgs true m.pages)),(71,.c (.int .i64 m.pages.length)),(72,.c (.int .i64 z.1))]) (fun z=>mD g5 m RE RH RG (gs z.2 3 z.1) .nils .nils::mZ g2::mM g1 m::gh z.2 91 (z.1*3) (pgsF ((m.pages.map normP).take z.1))) (fun z=>z.1≤m.pages.length∧(z.2=none→z.1=0)) (fun z=>m.pages.length-z.1) (0,none) (zB J6) zZ ⟨Nat.zero_le _,fun _=>rfl⟩ ?_
   rintro ⟨j,og⟩ ⟨hj,hog⟩
   dsimp only at hj hog⊢
   by_cases hjn:j<m.pages.length
   ·have d1:decide (j<m.pages.length)=true:=decide_eq_true hjn
    have hm:m.pages.getD j pg0∈m.pages:=by rw [List.getD_eq_getElem?_getD,List.getElem?_eq_getElem hjn];exact List.getElem_mem _
    have hx:=hs.pg _ hm
    have hgs:=(hg.pg _ hm).2.1.1
    have hT:=mapTake_succ normP m.pages pg0 hjn
    have hTl:=mapTake_len normP m.pages (Nat.le_of_lt hjn)
    have hpgl:=hg.pgl
    clear hm J3
    generalize hv:m.pages.getD j pg0=x at*
    have c1:=pgates_fa x.gates hx.2 (by have:=hx.1;omega) hgs
    refine zA (oj hn_g1 (oj hn_g2 (oj a1 (oj a2 (oj a3 (oj a4 (oj d1 (oj d1 hv)))))))) ?_
    refine yA (oj hn_g1 (oj hn_g2 (oj a1 (oj a2 (oj a3 (oj a4 (oj d1 (oj d1 hv)))))))) fun g9 hn_g9=>?_
    refine zA (oj hn_g1 (oj hn_g2 (oj a1 (oj a2 (oj a3 (oj a4 (oj d1 (oj d1 (oj hv hn_g9))))))))) ?_
    refine aw_cw [(g9,.cells 91 3 (ofL (pgc x))),mD g5 m RE RH RG (gs og 3 j) .nils .nils] [(0,0),(1,0),(2,0),(3,0),(4,0),(5,0),(6,0),(7,0),(8,0),(9,0),(10,1),(11,1),(12,0),(13,2)] ty_mixed (by kernel_rfl) (has0_cons (by simp) qa) ?_
    have J7:=oj hn_g1 (oj hn_g2 (oj a1 (oj a2 (oj a3 (oj a4 (oj d1 (oj d1 (oj hv hn_g9))))))))
    refine yG J7 ?_
    refine cw_callq rfl c1 rfl rfl rfl (fun _ _=>(zL J7)) ?_
    refine ySG J7 ?_
    refine cw_buildSlice (xs:=[.tmp 85]) (cells:=pgc (normP x)) rfl rfl rfl rfl (zE J7) (by refine yS J7 ?_;rfl) rfl om om qd rfl (by simp [Op.operands]) (has0_cons (by simp) qa) (fun g86 hn_g86=> ?_) (hm:=.inr ⟨rfl,rfl⟩)
    refine yS J7 ?_
    refine cw_push (pre:=[(g9,.cells 91 3 (ofL (pgc x))),mD g5 m RE RH RG (gs og 3 j) .nils .nils,mZ g2,mM g1 m]) (og:=og) (n:=j) (s:=77) (d1:=86) (gt:=g86) (v:=.agg (pgc (normP x))) rfl rfl rfl rfl (zE J7) (zE J7) (by rfl) om om (zE J7) (zE J7) hog (by rfl) (by rfl) (by simp only [Nat.mul_one,List.cons_append,List.nil_append];rfl) qc om (pgs_push hTl (normP x)) (has0_skip (has0_cons (by simp) qa)) (fun gb hn_gb=> ?_) (hm:=.inr ⟨rfl,rfl⟩)
    replace hn_g86:=Heap.ne_of hn_g86
    simp only [Heap.ne] at hn_g86
    rw [←hT]
    have J8:=oj hn_g1 (oj hn_g2 (oj a1 (oj a2 (oj a3 (oj a4 (oj d1 (oj d1 (oj hv (oj hn_g9 hn_g86)))))))))
    refine ySG J8 ?_
    refine cw_store (FP':=[]) rfl rfl rfl rfl rfl (zE J8) (zE J8) (zE J8) (zE J8) (fun _ e=>by cases e) rfl rfl (show 6≤8 from by omega) rfl has0_nil ?_
    refine ySG J8 ?_
    exact aw_stop ⟨(j+1,some gb),by dsimp only;omega,(zB J8),(.cons _ (List.sublist_cons_self _ _)),by dsimp only;omega,fun e=>by cases e⟩
   ·have d1:decide (j<m.pages.length)=false:=decide_eq_false hjn
    obtain rfl:j=m.pages.length:=by omega
    have hpl:(m.pages.map normP).length=m.pages.length:=List.length_map _
    rw [List.take_of_length_le (Nat.le_of_eq hpl)]
    have hcall:=srtPg_fh og (m.pages.map normP) (by rw [hpl];exact hog) (by rw [List.map_map];exact hg.pgn) (by rw [hpl];omega)
    rw [hpl] at hcall
    refine zA (oj hn_g1 (oj hn_g2 (oj a1 (oj a2 (oj a3 (oj a4 (oj d1 d1))))))) ?_
    refine aw_callh (hc:=gh og 91 (m.pages.length*3) (pgsF (m.pages.map normP))) (hr:=[mD g5 m RE RH RG (gs og 3 m.pages.length) .nils .nils,mZ g2,mM g1 m]) (hcall) rfl rfl rfl (List.perm_append_comm (l₁:=[_,_,_])) (zL (oj hn_g1 (oj hn_g2 (oj a1 (oj a2 (oj a3 (oj a4 (oj d1 d1)))))))) ?_
    rintro _ _ ⟨rfl,rfl⟩ _
    refine aw_perm (h':=mD g5 m RE RH RG (gs og 3 m.pages.length) .nils .nils::(gh og 91 (m.pages.length*3) (pgsF (sortK PgD.name (m.pages.map normP)))++[mZ g2,mM g1 m])) List.perm_middle ?_
    refine aw_frzG (j0:=5) (m:=8) (f:=(ofL (mdN m RE RH RG (gs og 3 m.pages.length) .nils .nils))) (f':=(ofL (mdN m RE RH RG RP .nils .nils))) (fp:=pgsF (sortK PgD.name (m.pages.map normP))) rfl hRP (fun i hi h3=>by match i,hi,h3 with|0,_,_=>rfl|1,_,_=>rfl|2,_,_=>rfl|3,_,_=>rfl|4,_,_=>rfl|5,_,h=>exact absurd rfl h|6,_,_=>rfl|7,_,_=>rfl) hog (fun g _=>hC g) ?_
    have J9:=oj hn_g1 (oj hn_g2 (oj a1 (oj a2 (oj a3 (oj a4 (oj d1 d1))))))
    refine yS J9 ?_
    refine zA J9 ?_
    refine aw_lp (fun z:Nat×Option Nat=>[(1,.c (.optr g1 0)),(2,.c (.optr g2 0)),(3,.c .nilI),(5,.c (.optr g5 0)),(94,.c (grs true m.groups)),(95,.c (.int .i64 m.groups.length)),(96,.c (.int .i64 z.1))]) (fun z=>mD g5 m RE RH RG RP (gs z.2 4 z.1) .nils::mZ g2::mM g1 m::gh z.2 95 (z.1*4) (grsF ((m.groups.map normR).take z.1))) (fun z=>z.1≤m.groups.length∧(z.2=none→z.1=0)) (fun z=>m.groups.length-z.1) (0,none) (zB J9) zZ ⟨Nat.zero_le _,fun _=>rfl⟩ ?_
    rintro ⟨j,og⟩ ⟨hj,hog⟩
    dsimp only at hj hog⊢
    by_cases hjn:j<m.groups.length
    ·have d1:decide (j<m.groups.length)=true:=decide_eq_true hjn
     have hm:m.groups.getD j gr0∈m.groups:=by rw [List.getD_eq_getElem?_getD,List.getElem?_eq_getElem hjn];exact List.getElem_mem _
     have hx:=hs.gr _ hm
     have hmem:2≤(m.groups.getD j gr0).members.length:=by have:=(hg.gr _ hm).2.2.1.1;omega
     have hT:=mapTake_succ normR m.groups gr0 hjn
     have hTl:=mapTake_len normR m.groups (Nat.le_of_lt hjn)
     have hgrl:=hg.grl
     clear hm
     generalize hv:m.groups.getD j gr0=x at*
     obtain⟨hx1,hx2,hx3⟩:=hx
     have nF:x.factors.length≤1099511627776:=by omega
     obtain⟨HG,hHG⟩:∃HG:Heap,HG=gh og 95 (j*4) (grsF ((m.groups.map normR).take j)):=⟨_,rfl⟩
     rw [←hHG]
     refine zA (oj hn_g1 (oj hn_g2 (oj a1 (oj a2 (oj a3 (oj a4 (oj d1 (oj d1 (oj d1 hv))))))))) ?_
     refine yA (oj hn_g1 (oj hn_g2 (oj a1 (oj a2 (oj a3 (oj a4 (oj d1 (oj d1 (oj d1 hv))))))))) fun g11 hn_g11=>?_
     refine zA (oj hn_g1 (oj hn_g2 (oj a1 (oj a2 (oj a3 (oj a4 (oj d1 (oj d1 (oj d1 (oj hv hn_g11)))))))))) ?_
     refine aw_cut (fun z:Nat×Nat=>[(1,.c (.optr g1 0)),(2,.c (.optr g2 0)),(3,.c .nilI),(5,.c (.optr g5 0)),(11,.c (.optr g11 0)),(12,.c (.optr z.1 0)),(94,.c (grs true m.groups)),(95,.c (.int .i64 m.groups.length)),(96,.c (.int .i64 j))]) (fun z=>(z.1,.cells 95 4 (ofL [.str (sB x.name),.int .i64 x.kind,.osl z.2 1 0 x.members.length,.nils]))::(z.2,.cells 9 x.members.length (strsF x.members))::(g11,.cells 95 4 (ofL (grc x)))::mD g5 m RE RH RG RP (gs og 4 j) .nils::mZ g2::mM g1 m::HG) (fun _=>x.members.length≤24) ?_ ?_
     ·refine aw_any ty_mixed ?_
      refine any_alt 6 8 (by decide) ?_ ?_
      ·refine any_cw [(g11,.cells 95 4 (ofL (grc x)))] [(0,0),(1,0),(2,0),(3,0),(4,0),(5,0),(6,1),(7,0),(8,1),(9,2)] (by kernel_rfl) qa ?_
       have J10:=oj hn_g1 (oj hn_g2 (oj a1 (oj a2 (oj a3 (oj a4 (oj d1 (oj d1 (oj d1 (oj hv hn_g11)))))))))
       refine yG J10 ?_
       refine cw_callh (hc:=[]) (hr:=(g11,.cells 95 4 (ofL (grc x)))::mD g5 m RE RH RG RP (gs og 4 j) .nils::mZ g2::mM g1 m::HG) rfl (cloneS_fh x.members om) rfl rfl rfl (.refl _) (zL J10) (fun _ _ hq=>by obtain⟨og,_,_,rfl⟩:=hq;exact has0_cons (by simp) has0_nil) ?_ (hm:=.inr ⟨rfl,rfl⟩)
       rintro _ _ ⟨og2,hog2,rfl,rfl⟩ _
       cases og2 with
       |none=>exact absurd (hog2 rfl) om
       |some g3=>
        rw [Nat.mul_one]
        refine ySG J10 ?_
        refine cw_pok (r:=.agg [.str (sB x.name),.int .i64 x.kind,gs (some g3) 1 x.members.length,.nils]) rfl (fun _ _=>build2_ok (ps:=[(0,.tmp 101),(1,.tmp 103),(2,.tmp 106)]) (zE J10) (by rfl)) rfl rfl ?_
        refine ySG J10 ?_
        refine cw_alloc rfl rfl rfl rfl (zE J10) qa (fun g12 hn_g12=> ?_) (hm:=.inr ⟨rfl,rfl⟩)
        refine ySG J10 ?_
        refine cw_store (FP':=[]) rfl rfl rfl rfl rfl (zE J10) (zE J10) (zE J10) (zE J10) (fun _ e=>by cases e) rfl rfl (Nat.le_refl 4) rfl has0_nil ?_
        refine ySG J10 ?_
        exact aw_stop ⟨(g12,g3),(zB J10),List.Sublist.refl _,hx1⟩
      ·refine any_cw [(g11,.cells 95 4 (ofL (grc x)))] [(0,0),(1,0),(2,0),(3,0),(4,0),(5,0),(8,1),(6,1),(7,0),(9,2)] (by kernel_rfl) qa ?_
       have J11:=oj hn_g1 (oj hn_g2 (oj a1 (oj a2 (oj a3 (oj a4 (oj d1 (oj d1 (oj d1 (oj hv hn_g11)))))))))
       refine yG J11 ?_
       refine cw_alloc rfl rfl rfl rfl (zE J11) qa (fun g12 hn_g12=> ?_) (hm:=.inr ⟨rfl,rfl⟩)
       refine ySG J11 ?_
       refine cw_callh (hc:=[]) (hr:=(g12,.cells 95 4 (ofL [.str {data:= #[]},.int .i64 0,.nils,.nils]))::(g11,.cells 95 4 (ofL (grc x)))::mD g5 m RE RH RG RP (gs og 4 j) .nils::mZ g2::mM g1 m::HG) rfl (cloneS_fh x.members om) rfl rfl rfl (.refl _) (zL J11) (fun _ _ hq=>by obtain⟨og,_,_,rfl⟩:=hq;exact has0_cons (by simp) has0_nil) ?_ (hm:=.inr ⟨rfl,rfl⟩)
       rintro _ _ ⟨og2,hog2,rfl,rfl⟩ _
       cases og2 with
       |none=>exact absurd (hog2 rfl) om
       |some g3=>
        refine cw_perm (List.Perm.swap _ _ _) ?_
        rw [Nat.mul_one]
        refine ySG J11 ?_
        refine cw_pok (r:=.agg [.str (sB x.name),.int .i64 x.kind,gs (some g3) 1 x.members.length,.nils]) rfl (fun _ _=>build2_ok (ps:=[(0,.tmp 101),(1,.tmp 103),(2,.tmp 106)]) (zE J11) (by rfl)) rfl rfl ?_
        refine ySG J11 ?_
        refine cw_store (FP':=[]) rfl rfl rfl rfl rfl (zE J11) (zE J11) (zE J11) (zE J11) (fun _ e=>by cases e) rfl rfl (Nat.le_refl 4) rfl has0_nil ?_
        refine ySG J11 ?_
        exact aw_stop ⟨(g12,g3),(zB J11),List.Sublist.refl _,hx1⟩
     ·rintro ⟨g12,g3⟩ _
      dsimp only
      refine aw_nd fun hnd=> ?_
      have r1:g12≠g3:=fun e=>by subst e;simp [Heap.keys] at hnd
      have r2:g12≠g11:=fun e=>by subst e;simp [Heap.keys] at hnd
      have r3:g12≠g5:=fun e=>by subst e;simp [Heap.keys] at hnd
      have r4:g12≠g1:=fun e=>by subst e;simp [Heap.keys] at hnd
      have r5:g3≠g11:=fun e=>by subst e;simp [Heap.keys] at hnd
      clear hnd
      have b1:=eq_false r1
      have b2:=eq_false r1.symm
      have b3:=eq_false r2
      have b4:=eq_false r2.symm
      have b5:=eq_false r3
      have b6:=eq_false r3.symm
      have b7:=eq_false r4
      have b8:=eq_false r4.symm
      have hml:(sortK id x.members).length=x.members.length:=(sortK_perm _ _).length_eq
      have hcall:=srtSt_fh (some g3) x.members (fun e=>by cases e) om
      simp only [Nat.mul_one] at hcall
      refine zA (oj hn_g1 (oj hn_g2 (oj a1 (oj a2 (oj a3 (oj a4 (oj d1 (oj d1 (oj d1 (oj hv (oj hn_g11 (oj b1 (oj b2 (oj b3 (oj b4 (oj b5 (oj b6 (oj b7 b8)))))))))))))))))) ?_
      refine aw_callh (hc:=gh (some g3) 9 x.members.length (strsF x.members)) (hr:=(g12,.cells 95 4 (ofL [.str (sB x.name),.int .i64 x.kind,.osl g3 1 0 x.members.length,.nils]))::(g11,.cells 95 4 (ofL (grc x)))::mD g5 m RE RH RG RP (gs og 4 j) .nils::mZ g2::mM g1 m::HG) hcall rfl rfl rfl (List.Perm.swap _ _ _) (zL (oj hn_g1 (oj hn_g2 (oj a1 (oj a2 (oj a3 (oj a4 (oj d1 (oj d1 (oj d1 (oj hv (oj hn_g11 (oj b1 (oj b2 (oj b3 (oj b4 (oj b5 (oj b6 (oj b7 b8))))))))))))))))))) ?_
      rintro _ _ ⟨rfl,rfl⟩ _
      refine aw_perm (h':=(g12,.cells 95 4 (ofL [.str (sB x.name),.int .i64 x.kind,.osl g3 1 0 x.members.length,.nils]))::(gh (some g3) 9 (x.members.length*1) (strsF (sortK id x.members))++(g11,.cells 95 4 (ofL (grc x)))::mD g5 m RE RH RG RP (gs og 4 j) .nils::mZ g2::mM g1 m::HG)) (by rw [Nat.mul_one];exact List.Perm.swap _ _ _) ?_
      refine aw_frzG (s:=1) (og:=some g3) (n:=x.members.length) (j0:=2) (m:=4) (f:=ofL [.str (sB x.name),.int .i64 x.kind,.osl g3 1 0 x.members.length,.nils]) (f':=ofL [.str (sB x.name),.int .i64 x.kind,.row true 1 x.members.length (strsF (sortK id x.members)),.nils]) (fp:=strsF (sortK id x.members)) rfl rfl (fun i hi h3=>by match i,hi,h3 with|0,_,_=>rfl|1,_,_=>rfl|2,_,h=>exact absurd rfl h|3,_,_=>rfl) (fun e=>by cases e) (fun g _=>hC g) ?_
      have J12:=oj hn_g1 (oj hn_g2 (oj a1 (oj a2 (oj a3 (oj a4 (oj d1 (oj d1 (oj d1 (oj hv (oj hn_g11 (oj b1 (oj b2 (oj b3 (oj b4 (oj b5 (oj b6 (oj b7 b8)))))))))))))))))
      refine yS J12 ?_
      refine zA J12 ?_
      refine aw_lp (fun z:Nat×Option Nat=>[(1,.c (.optr g1 0)),(2,.c (.optr g2 0)),(3,.c .nilI),(5,.c (.optr g5 0)),(12,.c (.optr g12 0)),(94,.c (grs true m.groups)),(95,.c (.int .i64 m.groups.length)),(96,.c (.int .i64 j)),(112,.c (rats true x.factors)),(113,.c (.int .i64 x.factors.length)),(114,.c (.int .i64 z.1))]) (fun z=>(g12,.cells 95 4 (ofL [.str (sB x.name),.int .i64 x.kind,.row true 1 x.members.length (strsF (sortK id x.members)),gs z.2 3 z.1]))::mD g5 m RE RH RG RP (gs og 4 j) .nils::mZ g2::mM g1 m::(HG++gh z.2 52 (z.1*3) (ratsF (x.factors.take z.1)))) (fun z=>z.1≤x.factors.length∧(z.2=none→z.1=0)) (fun z=>x.factors.length-z.1) (0,none) (zB J12) (by show List.Sublist ((g12,.cells 95 4 (ofL [.str (sB x.name),.int .i64 x.kind,.row true 1 x.members.length (strsF (sortK id x.members)),.nils]))::mD g5 m RE RH RG RP (gs og 4 j) .nils::mZ g2::mM g1 m::(HG++[])) _;rw [List.append_nil];exact .cons_cons _ (.cons _ (List.Sublist.refl _))) ⟨Nat.zero_le _,fun _=>rfl⟩ ?_
      rintro ⟨k,ok⟩ ⟨hk,hok⟩
      dsimp only at hk hok⊢
      by_cases hkn:k<x.factors.length
      ·have d2:decide (k<x.factors.length)=true:=decide_eq_true hkn
       have hr:=hx3 (x.factors.getD k rd0) (by rw [List.getD_eq_getElem?_getD,List.getElem?_eq_getElem hkn];exact List.getElem_mem _)
       have hU:=take_succ' x.factors rd0 hkn
       have hUl:(x.factors.take k).length=k:=by rw [List.length_take];omega
       generalize hv3:x.factors.getD k rd0=r at*
       have c1:=pclone_fa r hr
       refine zA (oj hn_g1 (oj hn_g2 (oj a1 (oj a2 (oj a3 (oj a4 (oj d1 (oj d1 (oj d1 (oj hv (oj hn_g11 (oj b1 (oj b2 (oj b3 (oj b4 (oj b5 (oj b6 (oj b7 (oj b8 (oj d2 hv3)))))))))))))))))))) ?_
       refine yA (oj hn_g1 (oj hn_g2 (oj a1 (oj a2 (oj a3 (oj a4 (oj d1 (oj d1 (oj d1 (oj hv (oj hn_g11 (oj b1 (oj b2 (oj b3 (oj b4 (oj b5 (oj b6 (oj b7 (oj b8 (oj d2 hv3)))))))))))))))))))) fun g14 hn_g14=>?_
       refine zA (oj hn_g1 (oj hn_g2 (oj a1 (oj a2 (oj a3 (oj a4 (oj d1 (oj d1 (oj d1 (oj hv (oj hn_g11 (oj b1 (oj b2 (oj b3 (oj b4 (oj b5 (oj b6 (oj b7 (oj b8 (oj d2 (oj hv3 hn_g14))))))))))))))))))))) ?_
       refine aw_cw [(g14,.cells 52 3 (ofL (rdc r))),(g12,.cells 95 4 (ofL [.str (sB x.name),.int .i64 x.kind,.row true 1 x.members.length (strsF (sortK id x.members)),gs ok 3 k]))] [(0,0),(1,0),(2,0),(3,0),(4,1),(5,1),(6,0),(7,2)] ty_mixed (by kernel_rfl) (has0_cons (by simp) qa) ?_
       have J13:=oj hn_g1 (oj hn_g2 (oj a1 (oj a2 (oj a3 (oj a4 (oj d1 (oj d1 (oj d1 (oj hv (oj hn_g11 (oj b1 (oj b2 (oj b3 (oj b4 (oj b5 (oj b6 (oj b7 (oj b8 (oj d2 (oj hv3 hn_g14))))))))))))))))))))
       refine yG J13 ?_
       refine cw_callq rfl c1 rfl rfl rfl (fun _ _=>(zL J13)) ?_
       refine ySG J13 ?_
       refine cw_buildSlice (xs:=[.tmp 121]) (cells:=rdc r) rfl rfl rfl rfl (zE J13) (by refine yS J13 ?_;rfl) rfl om om qd rfl (by simp [Op.operands]) (has0_cons (by simp) qa) (fun g122 hn_g122=> ?_) (hm:=.inr ⟨rfl,rfl⟩)
       refine yS J13 ?_
       refine cw_push (pre:=[(g14,.cells 52 3 (ofL (rdc r))),(g12,.cells 95 4 (ofL [.str (sB x.name),.int .i64 x.kind,.row true 1 x.members.length (strsF (sortK id x.members)),gs ok 3 k])),mD g5 m RE RH RG RP (gs og 4 j) .nils,mZ g2,mM g1 m]++HG) (og:=ok) (n:=k) (s:=119) (d1:=122) (gt:=g122) (v:=.agg (rdc r)) rfl rfl rfl rfl (zE J13) (zE J13) (by rfl) om om (zE J13) (zE J13) hok (by rfl) (by rfl) (by simp only [Nat.mul_one,List.cons_append,List.nil_append];rfl) qc om (rats_push hUl r) (has0_skip (has0_cons (by simp) qa)) (fun gb hn_gb=> ?_) (hm:=.inr ⟨rfl,rfl⟩)
       replace hn_g122:=Heap.ne_of hn_g122
       simp only [Heap.ne,List.cons_append,List.nil_append] at hn_g122
       rw [←hU]
       simp only [List.cons_append,List.nil_append]
       have J14:=oj hn_g1 (oj hn_g2 (oj a1 (oj a2 (oj a3 (oj a4 (oj d1 (oj d1 (oj d1 (oj hv (oj hn_g11 (oj b1 (oj b2 (oj b3 (oj b4 (oj b5 (oj b6 (oj b7 (oj b8 (oj d2 (oj hv3 (oj hn_g14 hn_g122)))))))))))))))))))))
       refine ySG J14 ?_
       refine cw_store (FP':=[]) rfl rfl rfl rfl rfl (zE J14) (zE J14) (zE J14) (zE J14) (fun _ e=>by cases e) rfl rfl (show 4≤4 from by omega) rfl has0_nil ?_
       refine ySG J14 ?_
       exact aw_stop ⟨(k+1,some gb),by dsimp only;omega,(zB J14),(.cons _ (List.sublist_cons_self _ _)),by dsimp only;omega,fun e=>by cases e⟩
      ·have d2:decide (k<x.factors.length)=false:=decide_eq_false hkn
       obtain rfl:k=x.factors.length:=by omega
       rw [List.take_of_length_le (Nat.le_refl x.factors.length)]
       refine aw_perm (h':=(g12,.cells 95 4 (ofL [.str (sB x.name),.int .i64 x.kind,.row true 1 x.members.length (strsF (sortK id x.members)),gs ok 3 x.factors.length]))::(gh ok 52 (x.factors.length*3) (ratsF x.factors)++(mD g5 m RE RH RG RP (gs og 4 j) .nils::mZ g2::mM g1 m::HG))) (.cons _ ?_) ?_
       ·exact List.perm_append_comm (l₁:=mD g5 m RE RH RG RP (gs og 4 j) .nils::mZ g2::mM g1 m::HG)
       refine aw_frzG (j0:=3) (m:=4) (f:=ofL [.str (sB x.name),.int .i64 x.kind,.row true 1 x.members.length (strsF (sortK id x.members)),gs ok 3 x.factors.length]) (f':=ofL [.str (sB x.name),.int .i64 x.kind,.row true 1 x.members.length (strsF (sortK id x.members)),rats true x.factors]) (fp:=ratsF x.factors) rfl rfl (fun i hi h3=>by match i,hi,h3 with|0,_,_=>rfl|1,_,_=>rfl|2,_,_=>rfl|3,_,h=>exact absurd rfl h) hok (fun g _=>hC g) ?_
       rw [←hml]
       rw [hHG]
       have J15:=oj hn_g1 (oj hn_g2 (oj a1 (oj a2 (oj a3 (oj a4 (oj d1 (oj d1 (oj d1 (oj hv (oj hn_g11 (oj b1 (oj b2 (oj b3 (oj b4 (oj b5 (oj b6 (oj b7 (oj b8 d2))))))))))))))))))
       refine yS J15 ?_
       refine zA J15 ?_
       refine aw_push (pre:=[(g12,.cells 95 4 (ofL (grc (normR x)))),mD g5 m RE RH RG RP (gs og 4 j) .nils,mZ g2,mM g1 m]) rfl rfl rfl rfl rfl rfl rfl (zE J15) (zE J15) (by rfl) om om (zE J15) om (by exact hog) (zE J15) (by rfl) (by rfl) qb qc om (by exact grs_push hTl (normR x)) fun gq hn_gq=> ?_
       replace hn_gq:=Heap.ne_of hn_gq
       first|dsimp only [Heap.ne,gh] at hn_gq|dsimp only [Heap.ne] at hn_gq|skip
       have J16:=oj hn_g1 (oj hn_g2 (oj a1 (oj a2 (oj a3 (oj a4 (oj d1 (oj d1 (oj d1 (oj hv (oj hn_g11 (oj b1 (oj b2 (oj b3 (oj b4 (oj b5 (oj b6 (oj b7 (oj b8 (oj d2 hn_gq)))))))))))))))))))
       refine yS J16 ?_
       rw [←hT]
       refine zA J16 ?_
       exact aw_stop ⟨(j+1,some gq),by dsimp only;omega,(zB J16),List.sublist_cons_self _ _,by dsimp only;omega,fun e=>by cases e⟩
    ·have d1:decide (j<m.groups.length)=false:=decide_eq_false hjn
     obtain rfl:j=m.groups.length:=by omega
     have hrl:(m.groups.map normR).length=m.groups.length:=List.length_map _
     rw [List.take_of_length_le (Nat.le_of_eq hrl)]
     have hcall:=srtGr_fh og (m.groups.map normR) (by rw [hrl];exact hog) (by rw [List.map_map];exact hg.grn) (by rw [hrl];omega)
     rw [hrl] at hcall
     refine zA (oj hn_g1 (oj hn_g2 (oj a1 (oj a2 (oj a3 (oj a4 (oj d1 (oj d1 d1)))))))) ?_
     refine aw_callh (hc:=gh og 95 (m.groups.length*4) (grsF (m.groups.map normR))) (hr:=[mD g5 m RE RH RG RP (gs og 4 m.groups.length) .nils,mZ g2,mM g1 m]) (hcall) rfl rfl rfl (List.perm_append_comm (l₁:=[_,_,_])) (zL (oj hn_g1 (oj hn_g2 (oj a1 (oj a2 (oj a3 (oj a4 (oj d1 (oj d1 d1))))))))) ?_
     rintro _ _ ⟨rfl,rfl⟩ _
     refine aw_perm (h':=mD g5 m RE RH RG RP (gs og 4 m.groups.length) .nils::(gh og 95 (m.groups.length*4) (grsF (sortK GrD.name (m.groups.map normR)))++[mZ g2,mM g1 m])) List.perm_middle ?_
     refine aw_frzG (j0:=6) (m:=8) (f:=(ofL (mdN m RE RH RG RP (gs og 4 m.groups.length) .nils))) (f':=(ofL (mdN m RE RH RG RP RR .nils))) (fp:=grsF (sortK GrD.name (m.groups.map normR))) rfl hRR (fun i hi h3=>by match i,hi,h3 with|0,_,_=>rfl|1,_,_=>rfl|2,_,_=>rfl|3,_,_=>rfl|4,_,_=>rfl|5,_,_=>rfl|6,_,h=>exact absurd rfl h|7,_,_=>rfl) hog (fun g _=>hC g) ?_
     have J17:=oj hn_g1 (oj hn_g2 (oj a1 (oj a2 (oj a3 (oj a4 (oj d1 (oj d1 d1)))))))
     refine yS J17 ?_
     refine zA J17 ?_
     refine aw_lp (fun z:Nat×Option Nat=>[(1,.c (.optr g1 0)),(2,.c (.optr g2 0)),(3,.c .nilI),(5,.c (.optr g5 0)),(137,.c (phs true m.phases)),(138,.c (.int .i64 m.phases.length)),(139,.c (.int .i64 z.1))]) (fun z=>mD g5 m RE RH RG RP RR (gs z.2 3 z.1)::mZ g2::mM g1 m::gh z.2 98 (z.1*3) (phsF ((m.phases.map normH).take z.1))) (fun z=>z.1≤m.phases.length∧(z.2=none→z.1=0)) (fun z=>m.phases.length-z.1) (0,none) (zB J17) zZ ⟨Nat.zero_le _,fun _=>rfl⟩ ?_
     rintro ⟨j,og⟩ ⟨hj,hog⟩
     dsimp only at hj hog⊢
     by_cases hjn:j<m.phases.length
     ·have d1:decide (j<m.phases.length)=true:=decide_eq_true hjn
      have hm:m.phases.getD j ph0∈m.phases:=by rw [List.getD_eq_getElem?_getD,List.getElem?_eq_getElem hjn];exact List.getElem_mem _
      have hx:=hs.ph _ hm
      have hnd3:=(hg.ph _ hm).2.2.2
      have hT:=mapTake_succ normH m.phases ph0 hjn
      have hTl:=mapTake_len normH m.phases (Nat.le_of_lt hjn)
      have hphl:=hg.phl
      clear hm
      generalize hv:m.phases.getD j ph0=x at*
      obtain⟨hx1,hx3⟩:=hx
      have nV:x.values.length≤1099511627776:=by omega
      obtain⟨HG,hHG⟩:∃HG:Heap,HG=gh og 98 (j*3) (phsF ((m.phases.map normH).take j)):=⟨_,rfl⟩
      rw [←hHG]
      refine zA (oj hn_g1 (oj hn_g2 (oj a1 (oj a2 (oj a3 (oj a4 (oj d1 (oj d1 (oj d1 (oj d1 hv)))))))))) ?_
      refine yA (oj hn_g1 (oj hn_g2 (oj a1 (oj a2 (oj a3 (oj a4 (oj d1 (oj d1 (oj d1 (oj d1 hv)))))))))) fun g16 hn_g16=>?_
      refine zA (oj hn_g1 (oj hn_g2 (oj a1 (oj a2 (oj a3 (oj a4 (oj d1 (oj d1 (oj d1 (oj d1 (oj hv hn_g16))))))))))) ?_
      refine yA (oj hn_g1 (oj hn_g2 (oj a1 (oj a2 (oj a3 (oj a4 (oj d1 (oj d1 (oj d1 (oj d1 (oj hv hn_g16))))))))))) fun g17 hn_g17=>?_
      refine zA (oj hn_g1 (oj hn_g2 (oj a1 (oj a2 (oj a3 (oj a4 (oj d1 (oj d1 (oj d1 (oj d1 (oj hv (oj hn_g16 hn_g17)))))))))))) ?_
      refine aw_lp (fun z:Nat×Option Nat=>[(1,.c (.optr g1 0)),(2,.c (.optr g2 0)),(3,.c .nilI),(5,.c (.optr g5 0)),(17,.c (.optr g17 0)),(137,.c (phs true m.phases)),(138,.c (.int .i64 m.phases.length)),(139,.c (.int .i64 j)),(149,.c (vls true x.values)),(150,.c (.int .i64 x.values.length)),(151,.c (.int .i64 z.1))]) (fun z=>(g17,.cells 98 3 (ofL [.str (sB x.name),.str (sB x.top),gs z.2 4 z.1]))::mD g5 m RE RH RG RP RR (gs og 3 j)::mZ g2::mM g1 m::(HG++gh z.2 100 (z.1*4) (vlsF (x.values.take z.1)))) (fun z=>z.1≤x.values.length∧(z.2=none→z.1=0)) (fun z=>x.values.length-z.1) (0,none) (zB (oj hn_g1 (oj hn_g2 (oj a1 (oj a2 (oj a3 (oj a4 (oj d1 (oj d1 (oj d1 (oj d1 (oj hv (oj hn_g16 hn_g17))))))))))))) (by show List.Sublist ((g17,.cells 98 3 (ofL [.str (sB x.name),.str (sB x.top),.nils]))::mD g5 m RE RH RG RP RR (gs og 3 j)::mZ g2::mM g1 m::(HG++[])) _;rw [List.append_nil];exact .cons_cons _ (.cons _ (List.Sublist.refl _))) ⟨Nat.zero_le _,fun _=>rfl⟩ ?_
      rintro ⟨k,ok⟩ ⟨hk,hok⟩
      dsimp only at hk hok⊢
      by_cases hkn:k<x.values.length
      ·have d2:decide (k<x.values.length)=true:=decide_eq_true hkn
       have hr:=hx3 (x.values.getD k vl0) (by rw [List.getD_eq_getElem?_getD,List.getElem?_eq_getElem hkn];exact List.getElem_mem _)
       have hU:=take_succ' x.values vl0 hkn
       have hUl:(x.values.take k).length=k:=by rw [List.length_take];omega
       generalize hv3:x.values.getD k vl0=v at*
       have c1:=pclone_fa v.p hr
       refine zA (oj hn_g1 (oj hn_g2 (oj a1 (oj a2 (oj a3 (oj a4 (oj d1 (oj d1 (oj d1 (oj d1 (oj hv (oj hn_g16 (oj hn_g17 (oj d2 hv3)))))))))))))) ?_
       refine yA (oj hn_g1 (oj hn_g2 (oj a1 (oj a2 (oj a3 (oj a4 (oj d1 (oj d1 (oj d1 (oj d1 (oj hv (oj hn_g16 (oj hn_g17 (oj d2 hv3)))))))))))))) fun g19 hn_g19=>?_
       refine zA (oj hn_g1 (oj hn_g2 (oj a1 (oj a2 (oj a3 (oj a4 (oj d1 (oj d1 (oj d1 (oj d1 (oj hv (oj hn_g16 (oj hn_g17 (oj d2 (oj hv3 hn_g19))))))))))))))) ?_
       refine aw_cw [(g19,.cells 100 4 (ofL (vlc v))),(g17,.cells 98 3 (ofL [.str (sB x.name),.str (sB x.top),gs ok 4 k]))] [(0,0),(1,0),(2,0),(3,0),(4,0),(5,0),(6,0),(7,0),(8,1),(9,1),(10,0),(11,2)] ty_mixed (by kernel_rfl) (has0_cons (by simp) qa) ?_
       have J18:=oj hn_g1 (oj hn_g2 (oj a1 (oj a2 (oj a3 (oj a4 (oj d1 (oj d1 (oj d1 (oj d1 (oj hv (oj hn_g16 (oj hn_g17 (oj d2 (oj hv3 hn_g19))))))))))))))
       refine yG J18 ?_
       refine cw_callq rfl c1 rfl rfl rfl (fun _ _=>(zL J18)) ?_
       refine ySG J18 ?_
       refine cw_buildSlice (xs:=[.tmp 162]) (cells:=vlc v) rfl rfl rfl rfl (zE J18) (by refine yS J18 ?_;rfl) rfl om om qd rfl (by simp [Op.operands]) (has0_cons (by simp) qa) (fun g163 hn_g163=> ?_) (hm:=.inr ⟨rfl,rfl⟩)
       refine yS J18 ?_
       refine cw_push (pre:=[(g19,.cells 100 4 (ofL (vlc v))),(g17,.cells 98 3 (ofL [.str (sB x.name),.str (sB x.top),gs ok 4 k])),mD g5 m RE RH RG RP RR (gs og 3 j),mZ g2,mM g1 m]++HG) (og:=ok) (n:=k) (s:=156) (d1:=163) (gt:=g163) (v:=.agg (vlc v)) rfl rfl rfl rfl (zE J18) (zE J18) (by rfl) om om (zE J18) (zE J18) hok (by rfl) (by rfl) (by simp only [Nat.mul_one,List.cons_append,List.nil_append];rfl) qc om (vls_push hUl v) (has0_skip (has0_cons (by simp) qa)) (fun gb hn_gb=> ?_) (hm:=.inr ⟨rfl,rfl⟩)
       replace hn_g163:=Heap.ne_of hn_g163
       simp only [Heap.ne,List.cons_append,List.nil_append] at hn_g163
       rw [←hU]
       simp only [List.cons_append,List.nil_append]
       have J19:=oj hn_g1 (oj hn_g2 (oj a1 (oj a2 (oj a3 (oj a4 (oj d1 (oj d1 (oj d1 (oj d1 (oj hv (oj hn_g16 (oj hn_g17 (oj d2 (oj hv3 (oj hn_g19 hn_g163)))))))))))))))
       refine ySG J19 ?_
       refine cw_store (FP':=[]) rfl rfl rfl rfl rfl (zE J19) (zE J19) (zE J19) (zE J19) (fun _ e=>by cases e) rfl rfl (show 3≤3 from by omega) rfl has0_nil ?_
       refine ySG J19 ?_
       exact aw_stop ⟨(k+1,some gb),by dsimp only;omega,(zB J19),(.cons _ (List.sublist_cons_self _ _)),by dsimp only;omega,fun e=>by cases e⟩
      ·have d2:decide (k<x.values.length)=false:=decide_eq_false hkn
       obtain rfl:k=x.values.length:=by omega
       rw [List.take_of_length_le (Nat.le_refl x.values.length)]
       have hcall:=srtVl_fh ok x.values hok hnd3 om
       have hvl:(sortK VlD.event x.values).length=x.values.length:=(sortK_perm _ _).length_eq
       refine zA (oj hn_g1 (oj hn_g2 (oj a1 (oj a2 (oj a3 (oj a4 (oj d1 (oj d1 (oj d1 (oj d1 (oj hv (oj hn_g16 (oj hn_g17 d2))))))))))))) ?_
       refine aw_callh (hc:=gh ok 100 (x.values.length*4) (vlsF x.values)) (hr:=(g17,.cells 98 3 (ofL [.str (sB x.name),.str (sB x.top),gs ok 4 x.values.length]))::mD g5 m RE RH RG RP RR (gs og 3 j)::mZ g2::mM g1 m::HG) hcall rfl rfl rfl (List.perm_append_comm (l₁:=(g17,.cells 98 3 (ofL [.str (sB x.name),.str (sB x.top),gs ok 4 x.values.length]))::mD g5 m RE RH RG RP RR (gs og 3 j)::mZ g2::mM g1 m::HG)) (zL (oj hn_g1 (oj hn_g2 (oj a1 (oj a2 (oj a3 (oj a4 (oj d1 (oj d1 (oj d1 (oj d1 (oj hv (oj hn_g16 (oj hn_g17 d2)))))))))))))) ?_
       rintro _ _ ⟨rfl,rfl⟩ _
       refine aw_perm (h':=(g17,.cells 98 3 (ofL [.str (sB x.name),.str (sB x.top),gs ok 4 x.values.length]))::(gh ok 100 (x.values.length*4) (vlsF (sortK VlD.event x.values))++(mD g5 m RE RH RG RP RR (gs og 3 j)::mZ g2::mM g1 m::HG))) List.perm_middle ?_
       refine aw_frzG (j0:=2) (m:=3) (f:=ofL [.str (sB x.name),.str (sB x.top),gs ok 4 x.values.length]) (f':=ofL [.str (sB x.name),.str (sB x.top),.row true 4 x.values.length (vlsF (sortK VlD.event x.values))]) (fp:=vlsF (sortK VlD.event x.values)) rfl rfl (fun i hi h3=>by match i,hi,h3 with|0,_,_=>rfl|1,_,_=>rfl|2,_,h=>exact absurd rfl h) hok (fun g _=>hC g) ?_
       rw [←hvl]
       rw [hHG]
       have J20:=oj hn_g1 (oj hn_g2 (oj a1 (oj a2 (oj a3 (oj a4 (oj d1 (oj d1 (oj d1 (oj d1 (oj hv (oj hn_g16 (oj hn_g17 d2))))))))))))
       refine yS J20 ?_
       refine zA J20 ?_
       refine aw_push (pre:=[(g17,.cells 98 3 (ofL (phc (normH x)))),mD g5 m RE RH RG RP RR (gs og 3 j),mZ g2,mM g1 m]) rfl rfl rfl rfl rfl rfl rfl (zE J20) (zE J20) (by rfl) om om (zE J20) om (by exact hog) (zE J20) (by rfl) (by rfl) qb qc om (by exact phs_push hTl (normH x)) fun gq hn_gq=> ?_
       replace hn_gq:=Heap.ne_of hn_gq
       first|dsimp only [Heap.ne,gh] at hn_gq|dsimp only [Heap.ne] at hn_gq|skip
       have J21:=oj hn_g1 (oj hn_g2 (oj a1 (oj a2 (oj a3 (oj a4 (oj d1 (oj d1 (oj d1 (oj d1 (oj hv (oj hn_g16 (oj hn_g17 (oj d2 hn_gq)))))))))))))
       refine yS J21 ?_
       rw [←hT]
       refine zA J21 ?_
       exact aw_stop ⟨(j+1,some gq),by dsimp only;omega,(zB J21),List.sublist_cons_self _ _,by dsimp only;omega,fun e=>by cases e⟩
     ·have d1:decide (j<m.phases.length)=false:=decide_eq_false hjn
      obtain rfl:j=m.phases.length:=by omega
      have hsl2:(m.phases.map normH).length=m.phases.length:=List.length_map _
      rw [List.take_of_length_le (Nat.le_of_eq hsl2)]
      refine aw_perm (h':=mD g5 m RE RH RG RP RR (gs og 3 m.phases.length)::(gh og 98 (m.phases.length*3) (phsF (m.phases.map normH))++[mZ g2,mM g1 m])) (.cons _ (List.perm_append_comm (l₁:=[_,_]))) ?_
      refine aw_frzG (j0:=7) (m:=8) (f:=(ofL (mdN m RE RH RG RP RR (gs og 3 m.phases.length)))) (f':=(ofL (mdN m RE RH RG RP RR RS))) (fp:=phsF (m.phases.map normH)) rfl hRS (fun i hi h3=>by match i,hi,h3 with|0,_,_=>rfl|1,_,_=>rfl|2,_,_=>rfl|3,_,_=>rfl|4,_,_=>rfl|5,_,_=>rfl|6,_,_=>rfl|7,_,h=>exact absurd rfl h) hog (fun g _=>hC g) ?_
      refine yS (oj hn_g1 (oj hn_g2 (oj a1 (oj a2 (oj a3 (oj a4 (oj d1 (oj d1 d1)))))))) ?_
      have ze:RE=evs true (sortK EvD.name m.events):=by rw [hRE];show _=CV.row true _ _ _;rw [(sortK_perm _ _).length_eq]
      have zh:RH=hss true (sortK HsD.name m.houses):=by rw [hRH];show _=CV.row true _ _ _;rw [(sortK_perm _ _).length_eq]
      have zp:RP=pgs true (sortK PgD.name (m.pages.map normP)):=by rw [hRP];show _=CV.row true _ _ _;rw [(sortK_perm _ _).length_eq,List.length_map]
      have zr:RR=grs true (sortK GrD.name (m.groups.map normR)):=by rw [hRR];show _=CV.row true _ _ _;rw [(sortK_perm _ _).length_eq,List.length_map]
      have zs:RS=phs true (m.phases.map normH):=by rw [hRS];show _=CV.row true _ _ _;rw [List.length_map]
      rw [ze,zh,zp,zr,zs,hRG]
      refine zA (oj hn_g1 (oj hn_g2 (oj a1 (oj a2 (oj a3 (oj a4 (oj d1 (oj d1 (oj d1 d1))))))))) ?_
      refine yT hC (oj hn_g1 (oj hn_g2 (oj a1 (oj a2 (oj a3 (oj a4 (oj d1 (oj d1 (oj d1 d1))))))))) ?_
      exact .tup ⟨.agg (lerl_md (x:=normM m)),.c .nilI,trivial⟩
end Go.Proofs.YtpcpaekpnfkhhaaGreatDoor
namespace Go.AI
def byF (l:List UInt8) (j:Nat):CV:=.int .u8 ((l.getD j 0).toNat:Int)
theorem byF_rep {S:Bool→Nat→Prop} {w:World} {l:List UInt8} {j:Nat} (h:j<l.length) {u:Value} (hr:RepC S w (byF l j) u):u=.int .u8 ((l[j]).toNat:Int):=by
 have:u=.int .u8 ((l.getD j 0).toNat:Int):=hr
 rw [this,List.getD_eq_getElem?_getD,List.getElem?_eq_getElem h];rfl
section
variable {P : Program} {h : Heap} {ρ : Operand → AV}
theorem POk.bytesStr {s d el ty:TypeId} {x:Operand} {g m:Nat} {f:Nat→CV} {l:List UInt8} (hs:P.underlying s=some (.slice el)) (he:P.underlying el=some (.int .u8)) (hd:P.underlying d=some .string) (hx:ρ x=.c (.osl g 1 0 l.length))
  (hg:h.get g=some (.cells ty m f)) (hm:l.length≤m) (hf:∀j,j<l.length→f j=byF l j):POk P h ρ (.convert s d x) (.c (.str ⟨l.toArray⟩)):=fun S w e _ ho hh=>by
 have h2:=ho x (by simp [Op.operands])
 rw [hx] at h2
 obtain⟨c,hv,_,_,_⟩:=h2
 obtain⟨cs,hb,hn,hj⟩:=hh _ _ (Heap.get_mem hg)
 refine⟨.string ⟨l.toArray⟩,fun o hop=> ?_,rfl⟩
 have:=run_convert_bytes_back (P:=P) w s d el ⟨g,0,none⟩ c l hs he hd (fun j hjl=>by
  obtain⟨u,hu,hr⟩:=hj j om
  rw [hf j hjl] at hr
  rw [add_mk,cell_own hb,Nat.zero_add,hu,byF_rep hjl hr])
 simp [execOp,hop,hv,this]
theorem POk.sliceArr {t el ty:TypeId} {x:Operand} {g n m:Nat} {f:Nat→CV} (ht:P.underlying t=some (.array n el)) (hz:P.cellsOf el=1) (hi:(P.info? el).isSome=true) (hx:ρ x=.c (.optr g 0)) (hg:h.get g=some (.cells ty m f)) (hm:n≤m) (h63:n≤maxLen):
  POk P h ρ (.slice t x none none none) (.c (.osl g 1 0 n)):=fun S w e _ ho hh=>by
 have h2:e x=.pointer (some ⟨g,0,none⟩):=by have:=ho x (by simp [Op.operands]);rw [hx] at this;exact this
 obtain⟨cs,hb,hn,hj⟩:=hh _ _ (Heap.get_mem hg)
 obtain⟨i,hi'⟩:=Option.isSome_iff_exists.1 hi
 refine⟨.slice (some ⟨g,0,none⟩) n n,fun o hop=> ?_,n,rfl,Nat.le_refl _,h63,cs,ty,⟨_,hb⟩,by omega⟩
 by_cases h0:n=0
 ·simp [execOp,hop,h2,Instr.sliceAt,run_underlying ht,Instr.sureAddr,Instr.sliceBounds,sizeOf,typeInfo,hi',h0]
 ·have h0':¬0=n:=fun e=>h0 e.symm
  simp [execOp,hop,h2,Instr.sliceAt,run_underlying ht,Instr.sureAddr,Instr.sliceBounds,sizeOf,typeInfo,hi',h0]
  exact add_mk g 0 0
theorem run_equalIn_pn (d:Nat) {t el:TypeId} (ht:P.underlying t=some (.pointer el)) (w:World):(Op.equalIn (d+1) t (.pointer none) (.pointer none)).run P w=.ok true w:=by
 simp [Op.equalIn,run_underlying ht]
theorem run_equalIn_pa (d:Nat) {t el:TypeId} (ht:P.underlying t=some (.pointer el)) (a:Addr) (w:World):(Op.equalIn (d+1) t (.pointer (some a)) (.pointer none)).run P w=.ok false w:=by
 simp [Op.equalIn,run_underlying ht]
theorem run_eqGuard_ptr (op:BinOp) (t:TypeId) (x y:Operand) (a b:Option Addr) (w:World):(eqGuard op t x y (.pointer a) (.pointer b)).run P w=.ok () w:=by
 unfold eqGuard
 cases op<;>simp
theorem POk.eqPtr {t t':TypeId} {x y:Operand} {a:CV} {b:Bool} {el:TypeId} (ht:P.underlying t=some (.pointer el)) (hx:ρ x=.c a) (hy:ρ y=.c (.raw (.pointer none))) (ha:(a=.raw (.pointer none)∧b=true)∨∃g,a=.optr g 0∧b=false):POk P h ρ (.binOp .eql t x y t') (.c (.bool b)):=fun S w e _ ho _=>by
 have h1:=ho x (by simp [Op.operands])
 have h2:=ho y (by simp [Op.operands])
 rw [hx] at h1
 rw [hy] at h2
 have h2':e y=.pointer none:=h2
 rcases ha with ⟨rfl,rfl⟩|⟨g,rfl,rfl⟩
 ·have h1':e x=.pointer none:=h1
  refine⟨.bool true,fun o hop=>exec_bin hop (by rw [h1',h2'];exact run_eqGuard_ptr ..) ?_,rfl⟩
  rw [h1',h2']
  simp only [Go.binOp]
  simp [Op.equal,Op.maxDepth,run_equalIn_pn 9999 ht]
 ·have h1':e x=.pointer (some ⟨g,0,none⟩):=h1
  refine⟨.bool false,fun o hop=>exec_bin hop (by rw [h1',h2'];exact run_eqGuard_ptr ..) ?_,rfl⟩
  rw [h1',h2']
  simp only [Go.binOp]
  simp [Op.equal,Op.maxDepth,run_equalIn_pa 9999 ht]
theorem POk.neqPtr {t t':TypeId} {x y:Operand} {g:Nat} {el:TypeId} {j:TypeInfo} (ht:P.underlying t=some (.pointer el)) (hj:P.info? el=some j) (hx:ρ x=.c (.optr g 0)) (hy:ρ y=.c (.optr g 0)):POk P h ρ (.binOp .neq t x y t') (.c (.bool false)):=fun S w e _ ho _=>by
 have h1:e x=.pointer (some ⟨g,0,none⟩):=by have:=ho x (by simp [Op.operands]);rw [hx] at this;exact this
 have h2:e y=.pointer (some ⟨g,0,none⟩):=by have:=ho y (by simp [Op.operands]);rw [hy] at this;exact this
 exact⟨.bool false,fun o hop=>exec_bin hop (by rw [h1,h2];exact run_eqGuard_ptr ..) (by rw [h1,h2];exact Lib.run_neq_ptr_same w _ ht hj),rfl⟩
theorem POk.toUnsafe {s d t ty:TypeId} {x:Operand} {g m:Nat} {f:Nat→CV} {j:TypeInfo} (hs:P.underlying s=some (.pointer t)) (hd:P.underlying d=some .unsafePointer) (hj:P.info? t=some j) (hj0:j.size≠0) (hx:ρ x=.c (.optr g 0)) (hg:h.get g=some (.cells ty m f)) (hm:0<m):
  POk P h ρ (.convert s d x) (.c (.optr g 0)):=fun S w e _ ho hh=>by
 have h2:e x=.pointer (some ⟨g,0,none⟩):=by have:=ho x (by simp [Op.operands]);rw [hx] at this;exact this
 obtain⟨cs,hb,hn,_⟩:=hh _ _ (Heap.get_mem hg)
 have hsh:w.shape? g=some (ty,cs.size):=by simp [World.shape?,hb]
 refine⟨_,fun o hop=> ?_,rfl⟩
 have:=Lib.run_to_unsafe (P:=P) w ⟨g,0,none⟩ hs hd hj hj0 hsh (by show 0<cs.size;omega)
 simp [execOp,hop,h2,this]
theorem liesAt_self {e:TypeId} {n count:Nat} (hc:P.cellsOf e=n) (hn:0<n) (h1:1≤count):liesAt P P.depth e count 0 e 1=true:=by
 have hd:P.depth=(2*(P.types.size+Made.depth)+1)+1:=rfl
 rw [hd]
 simp only [liesAt,Bool.or_eq_true]
 left
 rw [hd]
 simp [rowAt,hc,sameLayout]
 omega
theorem POk.fromUnsafe {s d u:TypeId} {x:Operand} {g m n:Nat} {f:Nat→CV} {j:TypeInfo} (hs:P.underlying s=some .unsafePointer) (hd:P.underlying d=some (.pointer u)) (hj:P.info? u=some j) (hc:P.cellsOf u=n) (hn0:0<n) (hx:ρ x=.c (.optr g 0)) (hg:h.get g=some (.cells u m f)) (hm:n≤m):
  POk P h ρ (.convert s d x) (.c (.optr g 0)):=fun S w e _ ho hh=>by
 have h2:e x=.pointer (some ⟨g,0,none⟩):=by have:=ho x (by simp [Op.operands]);rw [hx] at this;exact this
 obtain⟨cs,hb,hn,_⟩:=hh _ _ (Heap.get_mem hg)
 have hsh:w.shape? g=some (u,cs.size):=by simp [World.shape?,hb]
 refine⟨_,fun o hop=> ?_,rfl⟩
 have:=Lib.run_from_unsafe (P:=P) w ⟨g,0,none⟩ hs hd hj hsh (liesAt_self hc hn0 (by rw [hc];exact(Nat.le_div_iff_mul_le hn0).2 om))
 simp [execOp,hop,h2,this]
theorem POk.noEscape {f:FuncId} {fn:Func} {x:Operand} {ts:Array TypeId} {a:CV} (hf:P.funcs[f]?=some fn) (hname:(fn.name== "runtime.NumGoroutine")=false) (hb:fn.body.isNone=true) (hn:Extern.findNext fn=none) (he:Extern.find fn=some Extern.AbiNoEscape.same) (hk:ρ (.func f)=.c (.raw (.func (.func f) #[] #[]))) (hx:ρ x=.c a):
  POk P h ρ (.call {callee:=.value (.func f),args:= #[x],argTypes:=ts}) (.c a):=fun S w e _ ho _=>by
 have h1:=ho x (by simp [Op.operands,Call.operands])
 rw [hx] at h1
 refine⟨e x,fun o hop=> ?_,h1⟩
 have:=run_callFunc_extern (P:=P) hf hname hb hn he #[e x] w
 rw [Lib.run_noEscape] at this
 have h3:=ho (.func f) (by simp [Op.operands,Call.operands])
 rw [hk] at h3
 have h3':e (.func f)=.func (.func f) #[] #[]:=h3
 simp [execOp,hop,resolve,invoke,h3',Deferred.ofValue,this,Result.andThen]
theorem POk.sliceData {t:TypeId} {x:Operand} {g n:Nat} (hx:ρ x=.c (.osl g 1 0 n)) (hn:0<n):POk P h ρ (.call {callee:=.builtin .unsafeSliceData,args:= #[x],argTypes:= #[t]}) (.c (.optr g 0)):=fun S w e _ ho _=>by
 have h2:=ho x (by simp [Op.operands,Call.operands])
 rw [hx] at h2
 obtain⟨c,hv,hnc,_⟩:=h2
 refine⟨_,fun o hop=> ?_,rfl⟩
 have:=Lib.run_unsafeSliceData_row (P:=P) (w:=w) #[t] o.type ⟨g,0,none⟩ n c om
 simp [execOp,hop,resolve,invoke,Go.builtin,hv,this]
theorem POk.sliceDataN {t:TypeId} {x:Operand} (hx:ρ x=.c (.raw (.slice none 0 0))):POk P h ρ (.call {callee:=.builtin .unsafeSliceData,args:= #[x],argTypes:= #[t]}) (.c (.raw (.pointer none))):=fun S w e _ ho _=>by
 have h2:=ho x (by simp [Op.operands,Call.operands])
 rw [hx] at h2
 have hv:e x=.slice none 0 0:=h2
 refine⟨_,fun o hop=> ?_,rfl⟩
 have:=Lib.run_unsafeSliceData_nil (P:=P) (w:=w) #[t] o.type 0 0
 simp [execOp,hop,resolve,invoke,Go.builtin,hv,this]
end
end Go.AI
namespace Go.AI
def gsR (og:Option Nat) (n:Nat):CV:=match og with
 |none=>.raw (.slice none 0 0)
 |some g=>.osl g 1 0 n
theorem byteCells_get (s:ByteArray) (j:Nat) (h:j<s.size):(byteCells s)[j]?=some (.int .u8 ((s.data.toList.getD j 0).toNat:Int)):=by
 have h':j<s.data.toList.length:=by rw [Array.length_toList];exact h
 unfold byteCells
 rw [List.getElem?_map,List.getElem?_eq_getElem h',List.getD_eq_getElem?_getD,List.getElem?_eq_getElem h']
 rfl
theorem append_str_own {P:Program} {w:World} {t tx ty e bytes n c g:Nat} {z:List CV} {cs:Array Value} {s:ByteArray} (ht:tElem P t=some (e,1,bytes)) (htx:P.underlying tx=some .string) (hz:tZero P e=some z) (hzl:z.length=1)
  (hb:w.heap[g]?=some (.cells cs e (0,0))) (hcs:c≤cs.size) (hnc:n≤c) (hcm:c≤maxLen) (h63:n+s.size≤maxLen) (hby:(n+s.size)*bytes≤140737488355328):
  ∃g' c' w' cs',(Builtin.append_ #[t,tx] ty #[.slice (some ⟨g,0,none⟩) n c,.string s]).run P w=.ok (.slice (some ⟨g',0,none⟩) (n+s.size) c') w'∧w'.heap[g']?=some (.cells cs' e (0,0))∧c'≤cs'.size∧n+s.size≤c'∧c'≤maxLen∧
   (∀j,j<n→cs'[j]?=cs[j]?)∧(∀j,j<s.size→cs'[n+j]?=(byteCells s)[j]?)∧(g'=g∨g'=w.heap.size)∧Fr (fun b=>b=g) w w':=by
 obtain⟨hu,inf,hi,hsz,hbb⟩:=tElem_spec ht
 obtain⟨i',zv,hi',hzv,rfl⟩:=tZero_spec hz
 rw [hi] at hi'
 injection hi' with hi'
 subst hi'
 subst hbb
 have hzs:zv.cells.size=1:=by simpa using hzl
 have h63':n+s.size≤9223372036854775807:=by simp only [maxLen] at h63;omega
 have hnl:=byteCells_length s
 have h1:∀u∈byteCells s,u.oneCell'=true:=(Go.Src.ofString (P:=P) w htx s).one
 by_cases hroom:n+s.size≤c
 ·have hfit:n+(byteCells s).length≤cs.size:=by rw [hnl];omega
  have hst:=run_storeCells_at P g n e (byteCells s) 0 cs w hb (by simpa using hfit) h1
  simp only [Nat.add_zero] at hst
  have hf:=firstCells_string (P:=P) s w
  have hr:(Builtin.append_ #[t,tx] ty #[.slice (some ⟨g,0,none⟩) n c,.string s]).run P w=.ok (.slice (some ⟨g,0,none⟩) (n+s.size) c) (w.setRow g (cs.toList.take n++byteCells s++cs.toList.drop (n+(byteCells s).length)).toArray):=by
   simp [Builtin.append_,run_underlying hu,run_underlying htx,sizeOf,typeInfo,hi,hsz,Builtin.lenOf,hroom,hf,Addr.add_lit,hst]
  refine⟨g,c,_,_,hr,setRow_heap w g cs _ e _ hb,?_,hroom,hcm,fun j hj=> ?_,fun j hj=> ?_,.inl rfl,Fr.setRow hb ?_⟩
  ·refine Nat.le_trans hcs ?_;simp only [List.size_toArray,List.length_append,List.length_take,List.length_drop,Array.length_toList];omega
  ·simp only [List.getElem?_toArray,List.append_assoc]
   rw [List.getElem?_append_left (by simp;omega),List.getElem?_take]
   simp [hj]
  ·simp only [List.getElem?_toArray,List.append_assoc]
   rw [List.getElem?_append_right (by simp;omega),List.getElem?_append_left (by simp;omega)]
   simp [Nat.min_eq_left (show n≤cs.size by omega)]
  ·simp only [List.size_toArray,List.length_append,List.length_take,List.length_drop,Array.length_toList];omega
 ·have hold:∀j v,(cs.toList.take n)[j]?=some v→w.drew.cell? ((⟨g,0,none⟩:Addr).add j)=some v:=by
   intro j v hv
   rw [show w.drew.cell? ((⟨g,0,none⟩:Addr).add j)=w.cell? ((⟨g,0,none⟩:Addr).add j) from rfl,add_mk,cell_own hb,Nat.zero_add]
   rw [List.getElem?_take] at hv
   split at hv
   ·simpa using hv
   ·cases hv
  have hol:(cs.toList.take n).length=n:=by simp;omega
  have hfc:=run_firstCells_some (P:=P) w.drew 1 n ⟨g,0,none⟩ n c (cs.toList.take n) (by rw [hol,Nat.mul_one]) hold
  have hS:Go.Src P inf.size tx (.string s) s.size (byteCells s) w:=by rw [hsz];exact Go.Src.ofString w htx s
  have hr:=run_append_grow_src (P:=P) w t tx ty e inf zv hu hi hzv (some ⟨g,0,none⟩) n c _ (by rw [hsz];exact hfc) (.string s) s.size _ hS om om (growslice_fits om hby)
  have hge:=grownCap_ge w (n+s.size) c e
  refine⟨w.heap.size,_,_,_,hr,heap_alloc_new w.drew _,?_,hge,grownCap_le_maxLen w (n+s.size) c e h63,fun j hj=> ?_,fun j hj=> ?_,.inr rfl,?_⟩
  ·refine Nat.le_of_eq ?_
   simp only [Array.size_append,List.size_toArray,List.length_append,size_zeroCells,hzs,hol,hnl,Nat.mul_one]
   omega
  ·rw [Array.getElem?_append_left (by simp;omega)]
   simp only [List.getElem?_toArray]
   rw [List.getElem?_append_left (by rw [hol];exact hj),List.getElem?_take]
   simp [hj]
  ·rw [Array.getElem?_append_left (by simp [hnl];omega)]
   simp only [List.getElem?_toArray]
   rw [List.getElem?_append_right (by rw [hol];omega),hol]
   simp
  ·exact(Fr.drew (fun b=>b=g) w (w.drawn+1)).trans (Fr.alloc (fun _=>False) w.drew _) (fun x hx _=>hx.elim)
theorem append_str_new {P:Program} {w:World} {t tx ty e bytes:Nat} {z:List CV} {s:ByteArray} (ht:tElem P t=some (e,1,bytes)) (htx:P.underlying tx=some .string) (hz:tZero P e=some z) (hzl:z.length=1) (hk:0<s.size) (h63:s.size≤maxLen) (hby:s.size*bytes≤140737488355328):
  ∃c' w' cs',(Builtin.append_ #[t,tx] ty #[.slice none 0 0,.string s]).run P w=.ok (.slice (some ⟨w.heap.size,0,none⟩) s.size c') w'∧w'.heap[w.heap.size]?=some (.cells cs' e (0,0))∧c'≤cs'.size∧s.size≤c'∧c'≤maxLen∧
   (∀j,j<s.size→cs'[j]?=(byteCells s)[j]?)∧Fr (fun _=>False) w w':=by
 obtain⟨hu,inf,hi,hsz,hbb⟩:=tElem_spec ht
 obtain⟨i',zv,hi',hzv,rfl⟩:=tZero_spec hz
 rw [hi] at hi'
 injection hi' with hi'
 subst hi'
 subst hbb
 have hzs:zv.cells.size=1:=by simpa using hzl
 have hnl:=byteCells_length s
 have h63':s.size≤9223372036854775807:=by simp only [maxLen] at h63;omega
 have hS:Go.Src P inf.size tx (.string s) s.size (byteCells s) w:=by rw [hsz];exact Go.Src.ofString w htx s
 have hr:=run_append_grow_src (P:=P) w t tx ty e inf zv hu hi hzv none 0 0 [] (by rw [hsz];exact run_firstCells_none w.drew 1 0 0 0) (.string s) s.size _ hS om om (growslice_fits om (by simpa using hby))
 rw [Nat.zero_add] at hr
 have hge:=grownCap_ge w s.size 0 e
 refine⟨_,_,_,hr,heap_alloc_new w.drew _,?_,hge,grownCap_le_maxLen w s.size 0 e h63,fun j hj=> ?_,?_⟩
 ·refine Nat.le_of_eq ?_
  simp only [Array.size_append,List.size_toArray,List.length_append,List.length_nil,size_zeroCells,hzs,hnl,Nat.mul_one]
  omega
 ·rw [Array.getElem?_append_left (by simp [hnl];omega)]
  simp
 ·exact(Fr.drew (fun _=>False) w (w.drawn+1)).trans (Fr.alloc (fun _=>False) w.drew _) (fun x hx _=>hx.elim)
theorem append_str_none {P:Program} {w:World} {t tx ty e bytes:Nat} {s:ByteArray} (ht:tElem P t=some (e,1,bytes)) (htx:P.underlying tx=some .string) (hk:s.size=0):
  (Builtin.append_ #[t,tx] ty #[.slice none 0 0,.string s]).run P w=.ok (.slice none 0 0) w:=by
 obtain⟨hu,inf,hi,hsz,hbb⟩:=tElem_spec ht
 have hf:=firstCells_string (P:=P) s w
 rw [hk] at hf
 simp [Builtin.append_,run_underlying hu,run_underlying htx,sizeOf,typeInfo,hi,hsz,Builtin.lenOf,hk,hf]
section
variable {E : Env} {K : List It} {σ σ' : Sl} {h : Heap} {all rest : List Oper} {o : Oper}
theorem exec_appendS {P:Program} {o:Oper} {s x:Operand} {t tx:TypeId} {e:Operand→Value} {w w':World} {v:Value} (hop:o.op=.call {callee:=.builtin .append,args:= #[s,x],argTypes:= #[t,tx]})
  (hr:(Builtin.append_ #[t,tx] o.type #[e s,e x]).run P w=.ok v w'):(execOp e o).run P w=.ok (.value v) w':=by
 simp only [execOp,hop,resolve,invoke,Go.builtin,Sem.run_bind,Sem.run_pure,Result.andThen_ok,List.map_toArray,List.map_cons,List.map_nil,hr]
theorem aw_appendStr {t tx e bytes n:Nat} {z:List CV} {og:Option Nat} {f:Nat→CV} {pre:Heap} {s x:Operand} {bs:ByteArray} (hop:o.op=.call {callee:=.builtin .append,args:= #[s,x],argTypes:= #[t,tx]}) (hw:wantA all σ o=some true) (hd:dstOk E.N o.dst=true)
  (ht:tElem E.P t=some (e,1,bytes)) (htx:E.P.underlying tx=some .string) (hz:tZero E.P e=some z) (hzl:z.length=1) (hs:ev σ s=.c (gsR og n)) (hx:ev σ x=.c (.str bs)) (hog:og=none→n=0) (hh:h=pre++gh og e n f)
  (h63:n+bs.size≤maxLen) (hby:(n+bs.size)*bytes≤140737488355328)
  (kk:∀og',(og'=none→n+bs.size=0)→(∀g',og'=some g'→og=some g'∨g'∉h.keys)→aw E (.ops all rest::K) (σ.setO o.dst (.c (gsR og' (n+bs.size)))) (pre++gh og' e (n+bs.size) (appF f n (byF bs.data.toList)))):aw E (.ops all (o::rest)::K) σ h:=by
 have hsz':bs.data.toList.length=bs.size:=by rw [Array.length_toList];rfl
 cases og with
 |none=>
  have hn:=hog rfl
  subst hn
  by_cases hk:bs.size=0
  ·refine aw_step (σ':=σ.setO o.dst (.c (gsR none (0+bs.size)))) (h':=pre++gh none e (0+bs.size) (appF f 0 (byF bs.data.toList))) hw (fun a w st=> ?_) (kk none (fun _=>by omega) (fun g' e=>by cases e))
   have r1:=ev_rep st s
   have r2:=ev_rep st x
   rw [hs] at r1
   rw [hx] at r2
   have v1:a.eval s=.slice none 0 0:=r1
   have v2:a.eval x=.string bs:=r2
   refine⟨.slice none 0 0,w,.inl (exec_appendS hop (by rw [v1,v2];exact append_str_none ht htx hk)),?_⟩
   subst hh
   exact st.put hd (r:=.c (gsR none (0+bs.size))) (v:=.slice none 0 0) rfl
  ·have hp:h=pre:=by rw [hh];simp [gh]
   subst hp
   refine aw_new (r:=fun g=>.c (gsR (some g) (0+bs.size))) (ob:=.cells e (0+bs.size) (appF f 0 (byF bs.data.toList))) hw hd (fun a w st=> ?_) fun g' hg'=> ?_
   ·have r1:=ev_rep st s
    have r2:=ev_rep st x
    rw [hs] at r1
    rw [hx] at r2
    have v1:a.eval s=.slice none 0 0:=r1
    have v2:a.eval x=.string bs:=r2
    obtain⟨c',w',cs',hrun,hb',hcs',hle',hcm',hnew,hfr⟩:=append_str_new (P:=E.P) (w:=w) (ty:=o.type) (s:=bs) ht htx hz hzl om om (by simpa using hby)
    have hlt:w.heap.size<w'.heap.size:=(Array.getElem?_eq_some_iff.1 hb').1
    refine⟨_,w',exec_appendS hop (by rw [v1,v2];exact hrun),hfr,hlt,⟨cs',hb',by omega,fun j hjl=> ?_⟩,c',by rw [Nat.zero_add],by omega,hcm',cs',e,⟨_,hb'⟩,by omega⟩
    have hjl':j<bs.size:=by omega
    rw [hnew j hjl',byteCells_get bs j hjl']
    refine⟨_,rfl,?_⟩
    unfold appF
    rw [if_neg om,Nat.sub_zero]
    rfl
   ·refine aw_perm (h':=h++[(g',.cells e (0+bs.size) (appF f 0 (byF bs.data.toList)))]) (List.perm_append_singleton _ _).symm ?_
    exact kk (some g') (fun e=>by cases e) (fun g2 e=>by cases e;exact .inr hg')
 |some g=>
  refine aw_nd fun hnd=> ?_
  have hnp:g∉pre.keys:=fun hm=>by
   rw [hh] at hnd
   simp only [Heap.keys,gh,List.map_append,List.map_cons,List.map_nil] at hnd
   exact(List.nodup_append.1 hnd).2.2 g hm g (by simp) rfl
  have hget:h.get g=some (.cells e n f):=by rw [hh];exact Heap.get_app hnp
  have hdel:h.del g=pre:=by rw [hh];exact Heap.del_app hnp
  intro a w st
  have r1:=ev_rep st s
  have r2:=ev_rep st x
  rw [hs] at r1
  rw [hx] at r2
  have v2:a.eval x=.string bs:=r2
  obtain⟨c,hv1,hnc,hcm,cs0,ty0,⟨_,hb0⟩,hcs0⟩:=r1
  obtain⟨cs,hb,hn,hj⟩:=st.heap g _ (Heap.get_mem hget)
  rw [hb] at hb0
  injection hb0 with hb0
  injection hb0 with hb0 _
  subst hb0
  obtain⟨g',c',w',cs',hrun,hb',hcs',hle',hcm',hold,hnew,hat,hfr⟩:=append_str_own (P:=E.P) (w:=w) (ty:=o.type) (s:=bs) ht htx hz hzl hb (by simpa using hcs0) hnc hcm h63 hby
  obtain⟨st',hnot⟩:=st.replace (ob':=.cells e (n+bs.size) (appF f n (byF bs.data.toList))) hget hfr hat (fun kp=>⟨cs',hb',by omega,fun j hjl=>by
   unfold appF
   by_cases hjn:j<n
   ·rw [if_pos hjn,hold j hjn]
    obtain⟨u,hu,hr⟩:=hj j om
    exact⟨u,hu,hr.keep kp⟩
   ·rw [if_neg hjn]
    have hjk:j-n<bs.size:=by omega
    have:=hnew (j-n) hjk
    rw [show n+(j-n)=j from by omega] at this
    rw [this,byteCells_get bs _ hjk]
    exact⟨_,rfl,rfl⟩⟩)
  rw [hdel] at st' hnot
  have st2:=st'.put hd (r:=.c (gsR (some g') (n+bs.size))) (v:=.slice (some ⟨g',0,none⟩) (n+bs.size) c') ⟨c',rfl,hle',hcm',cs',e,⟨_,hb'⟩,by omega⟩
  have hk':=aw_perm (E:=E) (List.perm_append_singleton _ _).symm (kk (some g') (fun e=>by cases e) (fun g2 e=>by
   cases e
   rcases hat with rfl|rfl
   ·exact .inl rfl
   ·exact .inr fun hm=>Nat.lt_irrefl _ (st.klt hm))) _ _ st2
  show wpList _ _ _ _ _ _
  unfold wpList
  rw [if_pos (st.wanted hw)]
  refine .inl ?_
  unfold Oper.wp
  rw [exec_appendS hop (by rw [hv1,v2];exact hrun)]
  exact hk'
end
end Go.AI
namespace Go.AI
def zeroL (P:Program) (t:TypeId):Option (List Value):=((P.info? t).bind (·.zero)).map fun z=>z.cells.toList
theorem zeroL_spec {P:Program} {t:TypeId} {vs:List Value} (hz:zeroL P t=some vs):∃i v,P.info? t=some i∧i.zero=some v∧vs=v.cells.toList:=by
 unfold zeroL at hz
 cases hi:P.info? t with
 |none=>simp [hi] at hz
 |some i=>
  cases hv:i.zero with
  |none=>simp [hi,hv] at hz
  |some v=>simp [hi,hv] at hz;exact⟨i,v,rfl,hv,hz.symm⟩
theorem rawL_rep (S:Bool→Nat→Prop) (w:World):∀l:List Value,RepL S w (l.map CV.raw) l
 |[]=>trivial
 |v::l=>⟨rfl,rawL_rep S w l⟩
section
variable {E : Env} {K : List It} {σ σ' : Sl} {h : Heap} {all rest l : List Oper} {o : Oper}
theorem aw_allocR {t:TypeId} {vs:List Value} (hop:o.op=.alloc t) (hw:wantA all σ o=some true) (hd:dstOk E.N o.dst=true) (hz:zeroL E.P t=some vs)
  (k:∀g,g∉h.keys→aw E (.ops all rest::K) (σ.setO o.dst (.c (.optr g 0))) ((g,.cells t (vs.map CV.raw).length (ofL (vs.map CV.raw)))::h)):aw E (.ops all (o::rest)::K) σ h:=by
 refine aw_new (r:=fun g=>.c (.optr g 0)) (ob:=.cells t (vs.map CV.raw).length (ofL (vs.map CV.raw))) hw hd (fun a w s=> ?_) k
 obtain⟨i,v,hi,hv,rfl⟩:=zeroL_spec hz
 refine⟨.pointer (some ⟨w.heap.size,0,none⟩),w.alloc (.cells v.cells.toList.toArray t),?_,Fr.alloc _ _ _,by simp,orep_new (rawL_rep _ _ _),rfl⟩
 simp only [execOp,hop,Instr.alloc,zeroValue,typeInfo,newVar,newRow,Sem.run_bind]
 simp [hi,hv]
theorem POk.unsafeStr0 {P:Program} {ρ:Operand→AV} {pt it:TypeId} {p x:Operand} (hp:ρ p=.c (.raw (.pointer none))) (hx:ρ x=.c (.int .i64 0)):POk P h ρ (.call {callee:=.builtin .unsafeString,args:= #[p,x],argTypes:= #[pt,it]}) (.c (.str ⟨#[]⟩)):=fun S w e _ ho _=>by
 have h1:e p=.pointer none:=by have:=ho p (by simp [Op.operands,Call.operands]);rw [hp] at this;exact this
 have h2:e x=.int .i64 0:=by have:=ho x (by simp [Op.operands,Call.operands]);rw [hx] at this;exact this
 refine⟨.string .empty,fun o hop=> ?_,rfl⟩
 have:=Lib.run_unsafeString_none (P:=P) (w:=w) pt it o.type none
 simp [execOp,hop,resolve,invoke,Go.builtin,h1,h2,this]
theorem Fr.freeze (w:World) (g n:Nat):Fr (fun b=>b=g) w (w.freeze ⟨g,0,none⟩ n):=by
 unfold World.freeze
 split
 ·exact Fr.refl _ _
 ·refine⟨rfl,rfl,rfl,by simp,Nat.le_refl _,fun b _ hn=> ?_,fun g1 m hh=> ?_⟩
  ·simp only [Array.getElem?_modify]
   rw [if_neg (fun e=>hn e.symm)]
  ·obtain⟨cs,ty,⟨fr,hc⟩,hs⟩:=hh
   by_cases e:g=g1
   ·subst e
    refine⟨cs,ty,?_,hs⟩
    simp only [Array.getElem?_modify,hc]
    simp
   ·refine⟨cs,ty,⟨fr,?_⟩,hs⟩
    simp only [Array.getElem?_modify]
    rw [if_neg e];exact hc
theorem St.drop {N:Nat} {C:Ctx} {a:Act} {w w':World} {g:Nat} (s:St N C σ h a w) (hg:g∈h.keys) (hfr:Fr (fun b=>b=g) w w'):St N C σ (h.del g) a w':=by
 have hsub:∀b,b∈(h.del g).keys→b∈h.keys:=fun b hb=>by
  obtain⟨p,hp,e⟩:=List.mem_map.1 hb
  exact List.mem_map.2 ⟨p,(Heap.del_sub h g).subset hp,e⟩
 have kp:Keeps (Stab C h w) (Stab C (h.del g) w') w w':=
  ⟨fun t b hb=>⟨hb.1,Nat.lt_of_lt_of_le hb.2.1 hfr.size,fun hm=>hb.2.2 (hsub b hm)⟩,fun t b hb=>hfr.block b hb.2.1 (fun e=>hb.2.2 (e▸hg)),hfr.has⟩
 refine⟨s.size,s.defers,fun t=>Rep.keep kp (s.slots t),fun g1 o1 hm=> ?_,((Heap.del_sub h g).map _).nodup s.nodup,fun g1 hg1=>s.keys g1 (hsub _ hg1),?_⟩
 ·have h1:=s.heap g1 o1 ((Heap.del_sub h g).subset hm)
  have hmk:g1∈(h.del g).keys:=List.mem_map.2 ⟨(g1,o1),hm,rfl⟩
  have hne:g1≠g:=fun e=>Heap.del_not h g s.nodup (e▸hmk)
  exact ORep.keep kp (hfr.block g1 h1.lt hne) h1
 ·refine s.frame.trans hfr (fun x hx hlt=> ?_)
  subst hx
  exact(s.keys _ hg).resolve_right om
theorem aw_unsafeStr {pt it e:TypeId} {p x:Operand} {g m:Nat} {f:Nat→CV} {bs:List UInt8} {h':Heap} (hop:o.op=.call {callee:=.builtin .unsafeString,args:= #[p,x],argTypes:= #[pt,it]}) (hw:wantA all σ o=some true) (hd:dstOk E.N o.dst=true)
  (hpt:E.P.underlying pt=some (.pointer e)) (hc:E.P.cellsOf e=1) (hp:ev σ p=.c (.optr g 0)) (hx:ev σ x=.c (.int .i64 bs.length)) (hg:h.get g=some (.cells e m f)) (hm:bs.length≤m) (h0:bs≠[]) (h63:bs.length≤9223372036854775807) (hf:∀j,j<bs.length→f j=byF bs j)
  (hh:h.del g=h') (k:aw E (.ops all rest::K) (σ.setO o.dst (.c (.str ⟨bs.toArray⟩))) h'):aw E (.ops all (o::rest)::K) σ h:=by
 subst hh
 refine aw_step hw (fun a w s=> ?_) k
 have r1:=ev_rep s p
 have r2:=ev_rep s x
 rw [hp] at r1
 rw [hx] at r2
 have v1:a.eval p=.pointer (some ⟨g,0,none⟩):=r1
 have v2:a.eval x=.int .i64 bs.length:=r2
 obtain⟨cs,hb,hn,hj⟩:=s.heap g _ (Heap.get_mem hg)
 have hsh:w.shape? g=some (e,cs.size):=by simp [World.shape?,hb]
 have hr:=Lib.run_unsafeString_row (P:=E.P) (w:=w) pt it o.type e hpt hc g cs.size hsh bs h0 om h63 (fun j u hu=>by
  obtain⟨hjl,rfl⟩:=List.getElem?_eq_some_iff.1 hu
  obtain⟨u,hu,hr⟩:=hj j om
  rw [hf j hjl] at hr
  rw [add_mk,cell_own hb,Nat.zero_add,hu,byF_rep hjl hr])
 refine⟨.string ⟨bs.toArray⟩,w.freeze ⟨g,0,none⟩ bs.length,.inl ?_,?_⟩
 ·simp [execOp,hop,resolve,invoke,Go.builtin,v1,v2,hr]
 ·exact(s.drop (List.mem_map.2 ⟨_,Heap.get_mem hg,rfl⟩) (Fr.freeze w g _)).put hd (r:=.c (.str ⟨bs.toArray⟩)) rfl
theorem cw_unsafeStr {FP FP':Heap} {i mk:Nat} {cs:List (Nat×Nat)} {pt it e:TypeId} {p x:Operand} {g m:Nat} {f:Nat→CV} {bs:List UInt8} {h':Heap} (ho:l[i]?=some o) (hop:o.op=.call {callee:=.builtin .unsafeString,args:= #[p,x],argTypes:= #[pt,it]}) (hw:wantA l σ o=some true) (hd:dstOk E.N o.dst=true)
  (hpt:E.P.underlying pt=some (.pointer e)) (hc:E.P.cellsOf e=1) (hp:ev σ p=.c (.optr g 0)) (hx:ev σ x=.c (.int .i64 bs.length)) (hg:h.get g=some (.cells e m f)) (hm:bs.length≤m) (h0:bs≠[]) (h63:bs.length≤9223372036854775807) (hf:∀j,j<bs.length→f j=byF bs j)
  (hh:h.del g=h') (hFP:Has0 FP' h') (k:CW E l K FP' cs (σ.setO o.dst (.c (.str ⟨bs.toArray⟩))) h') (hmk:mk=2∨mk=1∧FP'=FP:=by first|exact .inl rfl|exact .inr ⟨rfl,rfl⟩):CW E l K FP ((i,mk)::cs) σ h:=by
 refine .pin ho hmk (R:=fun r h2=>r=.c (.str ⟨bs.toArray⟩)∧h2=h') (fun σ' K hs=> ?_) ?_ ?_
 ·exact aw_unsafeStr hop ((want_same hs).trans hw) hd hpt hc ((ev_same (by rw [hop];simp [Op.operands,Call.operands]) hs).trans hp) ((ev_same (by rw [hop];simp [Op.operands,Call.operands]) hs).trans hx) hg hm h0 h63 hf hh (aw_ops_nil (aw_stop ⟨_,⟨rfl,rfl⟩,rfl⟩))
 ·rintro _ _ ⟨_,rfl⟩;exact hFP
 ·rintro _ _ ⟨rfl,rfl⟩;exact k
end
end Go.AI
namespace Go.AI
theorem sb_app (a b:List UInt8):sB a++sB b=sB (a++b):=by apply ByteArray.ext;simp
theorem sb_eq (a b:List UInt8):strEq (sB a) (sB b)=(a==b):=by unfold strEq;rw [sb_toList,sb_toList]
theorem quo_u32 (a b:Nat) (ha:a<4294967296):quoZ .u32 (a:Int) (b:Int)=((a/b:Nat):Int):=by
 rw [quoZ_eq]
 show IntKind.u32.wrap ((a:Int).tdiv b)=_
 have h:=Nat.div_le_self a b
 have e:(a:Int).tdiv (b:Int)=((a/b:Nat):Int):=rfl
 rw [e,IntKind.wrap_u32]
 generalize a/b=q at*
 omega
section
variable {P : Program} {h : Heap} {ρ : Operand → AV}
theorem POk.indexArr {t el:TypeId} {x ix:Operand} {g n:Nat} {k:IntKind} {i:Int} (ht:P.underlying t=some (.array n el)) (hz:(P.info? el).map (·.size)=some 1) (hx:ρ x=.c (.optr g 0)) (hix:ρ ix=.c (.int k i)) (h0:0≤i) (hl:i<n):POk P h ρ (.indexAddr t x ix) (.c (.optr g i.toNat)):=fun S w e _ ho _=>by
 have h1:e x=.pointer (some ⟨g,0,none⟩):=by have:=ho x (by simp [Op.operands]);rw [hx] at this;exact this
 have h2:e ix=.int k i:=by have:=ho ix (by simp [Op.operands]);rw [hix] at this;exact this
 obtain⟨j,hj,hjs⟩:=Option.map_eq_some_iff.1 hz
 refine⟨_,fun o hop=> ?_,rfl⟩
 simp [execOp,hop,h1,h2,Instr.indexAt,Instr.sureAddr,asIntOf,run_underlying ht,h0,hl,sizeOf,typeInfo,hj,hjs,add_mk]
end
end Go.AI
namespace Go.PN
open Go.AI
theorem sB_size (l:List UInt8):(sB l).size=l.length:=rfl
theorem sB_data (l:List UInt8):(sB l).data.toList=l:=rfl
theorem byF_app (a b:List UInt8):∀j,appF (byF a) a.length (byF b) j=byF (a++b) j:=fun j=>by
 unfold appF byF
 split
 ·rename_i h
  rw [List.getD_eq_getElem?_getD,List.getD_eq_getElem?_getD,List.getElem?_append_left h]
 ·rename_i h
  rw [List.getD_eq_getElem?_getD,List.getD_eq_getElem?_getD,List.getElem?_append_right om]
end Go.PN
namespace Go.Proofs.YtpcpaekpnfkhhaaGreatDoor
open Go.AI Go.PN
attribute [local irreducible] aw Fa Fh DrK
theorem und_bp:Tryz.prog.underlying 142=some (.pointer 144):=Tryz.underlying142
theorem und_up:Tryz.prog.underlying 308=some .unsafePointer:=Tryz.underlying308
theorem und_str:Tryz.prog.underlying 9=some .string:=Tryz.underlying9
theorem und_u8p:Tryz.prog.underlying 190=some (.pointer 5):=Tryz.underlying190
abbrev bldO (gB:Nat) (a b:CV):Nat×AObj:=(gB,.cells 144 2 (ofL [a,b]))
theorem POk.lenNil {h:Heap} {ρ:Operand→AV} {t el size bytes:Nat} {x:Operand} (ht:tElem Tryz.prog t=some (el,size,bytes)) (hx:ρ x=.c (.raw (.slice none 0 0))):POk Tryz.prog h ρ (.call {callee:=.builtin .len,args:= #[x],argTypes:= #[t]}) (.c (.int .i64 0)):=fun S w e _ ho _=>by
 have h2:e x=.slice none 0 0:=by have:=ho x (by simp [Op.operands,Call.operands]);rw [hx] at this;exact this
 obtain⟨hu,_⟩:=tElem_spec ht
 exact⟨.int .i64 0,fun o hop=>by simp [execOp,hop,resolve,invoke,Go.builtin,Builtin.len_,h2,run_underlying hu,goInt],rfl⟩
section
variable {E : Env} {K : List It} {σ : Sl}
theorem aw_convG {x:Nat×AObj} {og:Option Nat} {ty:TypeId} {n n':Nat} {f f':Nat→CV} (hn:n=n') (hf:∀j,j<n→f j=f' j) (k:aw E K σ (x::gh og ty n' f')):aw E K σ (x::gh og ty n f):=by
 subst hn
 cases og with
 |none=>exact k
 |some g=>exact aw_perm (List.Perm.swap _ _ _) (aw_conv1 hf (aw_perm (List.Perm.swap _ _ _) k))
end
theorem copyCheck_new (gB:Nat) (b:CV):Fh Tryz.prog 225 [bldO gB (.raw (.pointer none)) b] [.c (.optr gB 0)] (fun x h=>x=.tup []∧h=[bldO gB (.optr gB 0) b]):=by
 obtain⟨j,hj,hjs⟩:=Option.map_eq_some_iff.1 (show(Tryz.prog.info? 144).map (·.size)=some 2 from by kernel_rfl)
 refine fh_of_body Tryz.func225 rfl rfl (by simp [Tryz.ntmps225]) fun C hC=> ?_
 simp only [initS,Nat.reduceAdd]
 refine xG ?_
 refine aw_pok (POk.eqPtr (b:=true) und_bp eE eE (.inl ⟨rfl,rfl⟩)) rfl rfl ?_
 refine xSG ?_
 refine xP ?_
 refine xG ?_
 refine aw_pok (POk.toUnsafe und_bp und_up hj (by rw [hjs];decide) eE eE om) rfl rfl ?_
 refine xSG ?_
 refine aw_pok (POk.noEscape Tryz.func293 rfl rfl rfl rfl rfl eE) rfl rfl ?_
 refine xSG ?_
 refine aw_pok (POk.fromUnsafe und_up und_bp hj (n:=2) (by kernel_rfl) om eE eE om) rfl rfl ?_
 refine xSG ?_
 refine xW ?_
 refine xS ?_
 refine aw_conv1 (f':=ofL [.optr gB 0,b]) (fun j hj=>by match j,hj with|0,_=>rfl|1,_=>rfl) ?_
 refine xG ?_
 refine xV ?_
 exact⟨rfl,rfl⟩
theorem copyCheck_old (gB:Nat) (b:CV):Fh Tryz.prog 225 [bldO gB (.optr gB 0) b] [.c (.optr gB 0)] (fun x h=>x=.tup []∧h=[bldO gB (.optr gB 0) b]):=by
 obtain⟨j,hj,hjs⟩:=Option.map_eq_some_iff.1 (show(Tryz.prog.info? 144).map (·.size)=some 2 from by kernel_rfl)
 refine fh_of_body Tryz.func225 rfl rfl (by simp [Tryz.ntmps225]) fun C hC=> ?_
 simp only [initS,Nat.reduceAdd]
 refine xG ?_
 refine aw_pok (POk.eqPtr (b:=false) und_bp eE eE (.inr ⟨gB,rfl,rfl⟩)) rfl rfl ?_
 refine xSG ?_
 refine xN ?_
 refine xG ?_
 refine aw_pok (POk.neqPtr und_bp hj eE eE) rfl rfl ?_
 refine xSG ?_
 refine xN ?_
 refine xG ?_
 refine xV ?_
 exact⟨rfl,rfl⟩
theorem wstr_fh (gB:Nat) (a:CV) (ha:a=.raw (.pointer none)∨a=.optr gB 0) (og:Option Nat) (B l:List UInt8) (hog:og=none→B.length=0) (hlen:B.length+l.length≤100000000000):
  Fh Tryz.prog 120 (bldO gB a (gsR og B.length)::gh og 5 B.length (byF B)) [.c (.optr gB 0),.c (.str (sB l))]
   (fun x h=>∃og',(og'=none→(B++l).length=0)∧x=.tup [.c (.int .i64 l.length),.c .nilI]∧h=bldO gB (.optr gB 0) (gsR og' (B++l).length)::gh og' 5 (B++l).length (byF (B++l))):=by
 have hcc:Fh Tryz.prog 225 [bldO gB a (gsR og B.length)] [.c (.optr gB 0)] (fun x h=>x=.tup []∧h=[bldO gB (.optr gB 0) (gsR og B.length)]):=by
  rcases ha with rfl|rfl
  ·exact copyCheck_new ..
  ·exact copyCheck_old ..
 refine fh_of_body Tryz.func120 rfl rfl (by simp [Tryz.ntmps120]) fun C hC=> ?_
 simp only [initS,Nat.reduceAdd]
 refine xG ?_
 refine aw_callh (hc:=[bldO gB a (gsR og B.length)]) (hr:=gh og 5 B.length (byF B)) hcc rfl rfl rfl (.refl _) eL ?_
 rintro _ _ ⟨rfl,rfl⟩ _
 refine xSG ?_
 refine aw_appendStr (pre:=[bldO gB (.optr gB 0) (gsR og B.length)]) (f:=byF B) (bs:=sB l) rfl rfl rfl eE und_str eE (by rfl) eE eE hog rfl (by rw [sB_size];unfold maxLen;omega) (by rw [sB_size];omega) fun og' h1 h2=> ?_
 rw [sB_size,sB_data,List.singleton_append]
 refine aw_convG (n':=(B++l).length) (f':=byF (B++l)) (by simp) (fun j _=>byF_app B l j) ?_
 rw [show B.length+l.length=(B++l).length from by simp]
 rw [sB_size,show B.length+l.length=(B++l).length from by simp] at h1
 refine xSG ?_
 have hsol:(gsR og' (B++l).length).solid=true:=by cases og'<;>rfl
 refine aw_store rfl rfl rfl rfl eE eE eE eE (fun _ e=>by cases e) (by simp only [AV.cells,List.all_cons,List.all_nil,hsol];rfl) (by rfl) om rfl ?_
 refine xS ?_
 refine aw_conv1 (f':=ofL [.optr gB 0,gsR og' (B++l).length]) (fun j hj=>by match j,hj with|0,_=>rfl|1,_=>rfl) ?_
 refine xG ?_
 refine xU ?_
 exact⟨og',h1,rfl,rfl⟩
theorem bstr_fh (gB:Nat) (a:CV) (og:Option Nat) (B:List UInt8) (h0:og=none→B=[]) (h1:B=[]→og=none) (hlen:B.length≤100000000000):
  Fh Tryz.prog 79 (bldO gB a (gsR og B.length)::gh og 5 B.length (byF B)) [.c (.optr gB 0)] (fun x h=>x=.c (.str (sB B))∧h=[]):=by
 cases og with
 |none=>
  have hB:=h0 rfl
  subst hB
  refine fh_of_body Tryz.func79 rfl rfl (by simp [Tryz.ntmps79]) fun C hC=> ?_
  simp only [initS,Nat.reduceAdd]
  refine xG ?_
  refine aw_dr 11 ty_mixed (by kernel_rfl) ?_
  refine xG ?_
  refine drk_pok (POk.sliceDataN eE) rfl rfl ?_
  refine xSG ?_
  refine drk_pok (POk.lenNil (by exact tya_e_85) eE) rfl rfl ?_
  refine xSG ?_
  refine drk_pok (POk.unsafeStr0 eE eE) rfl rfl ?_
  refine xSG ?_
  refine aw_weak (Sl.le_refl _) (List.nil_sublist _) ?_
  refine xU ?_
  exact⟨rfl,rfl⟩
 |some g=>
  have hB:B≠[]:=fun e=>by have:=h1 e;cases this
  have hB':0<B.length:=List.length_pos_iff.2 hB
  refine(?_:Fh _ _ (bldO gB a (.osl g 1 0 B.length)::[(g,.cells 5 B.length (byF B))]) _ _)
  refine fh_of_body Tryz.func79 rfl rfl (by simp [Tryz.ntmps79]) fun C hC=> ?_
  simp only [initS,Nat.reduceAdd]
  refine aw_nd fun hnd=> ?_
  have hne:gB≠g:=fun e=>by subst e;simp [Heap.keys] at hnd
  have hne':(gB=g)=False:=eq_false hne
  refine yG hne' ?_
  refine aw_cw [bldO gB a (.osl g 1 0 B.length)] [(0,0),(1,0),(2,0),(3,0),(4,0),(5,0),(6,0),(7,0),(8,0),(9,0),(10,2),(11,0)] ty_mixed (by kernel_rfl) (has0_cons (List.mem_cons_self ..) has0_nil) ?_
  refine yG hne' ?_
  refine cw_pok rfl (fun _ _=>POk.sliceData (zE hne') hB') rfl rfl ?_
  refine ySG hne' ?_
  refine cw_unsafeStr (FP':=[]) (bs:=B) (h':=[bldO gB a (.osl g 1 0 B.length)]) rfl rfl rfl rfl und_u8p (by kernel_rfl) (zE hne') (zE hne') (zE hne') (Nat.le_refl _) hB om (fun _ _=>rfl) (zE hne') has0_nil ?_
  refine ySG hne' ?_
  refine aw_weak (Sl.le_refl _) (List.nil_sublist _) ?_
  refine yU hne' ?_
  exact⟨rfl,rfl⟩
end Go.Proofs.YtpcpaekpnfkhhaaGreatDoor
namespace Go.AI
section
variable {E : Env} {K : List It} {σ σ' : Sl} {h : Heap} {all rest l : List Oper} {o : Oper}
theorem aw_mnz {f:FuncId} {fn:Func} {ps:Array TypeId} {t e:TypeId} {x:Operand} {ts:Array TypeId} {n:Nat} (hf:E.P.funcs[f]?=some fn) (hname:(fn.name== "runtime.NumGoroutine")=false) (hb:fn.body.isNone=true) (hn0:Extern.findNext fn=none) (he:Extern.find fn=some (Extern.BytealgMakeNoZero.makeNoZero ps #[t]))
  (ht:E.P.underlying t=some (.slice e)) (hop:o.op=.call {callee:=.value (.func f),args:= #[x],argTypes:=ts}) (hw:wantA all σ o=some true) (hd:dstOk E.N o.dst=true) (hk:ev σ (.func f)=.c (.raw (.func (.func f) #[] #[]))) (hx:ev σ x=.c (.int .i64 n)) (hn:n≤140737488355328)
  (k:∀g,g∉h.keys→aw E (.ops all rest::K) (σ.setO o.dst (.c (.osl g 1 0 n))) ((g,.cells e n (fun _=>.any))::h)):aw E (.ops all (o::rest)::K) σ h:=by
 refine aw_new (r:=fun g=>.c (.osl g 1 0 n)) (ob:=.cells e n (fun _=>.any)) hw hd (fun a w s=> ?_) k
 have h1:=ev_rep s x
 rw [hx] at h1
 have h1:a.eval x=.int .i64 n:=h1
 have h3:=ev_rep s (.func f)
 rw [hk] at h3
 have h3:a.eval (.func f)=.func (.func f) #[] #[]:=h3
 obtain⟨cs,hrun,hle,hmax⟩:=Lib.run_makeNoZero (P:=E.P) w ps t e ht n (Nat.le_trans hn (by decide))
 have hcall:=run_callFunc_extern (P:=E.P) hf hname hb hn0 he #[a.eval x] w
 rw [h1,hrun] at hcall
 have hsz:(w.drew.drew.alloc (.cells cs e)).heap[w.heap.size]?=some (.cells cs e (0,0)):=heap_alloc_new w.drew.drew _
 refine⟨.slice (some ⟨w.heap.size,0,none⟩) n cs.size,w.drew.drew.alloc (.cells cs e),?_,?_,by simp,⟨cs,hsz,hle,fun j hj=>⟨cs[j]'om,Array.getElem?_eq_getElem om,trivial⟩⟩,?_⟩
 ·simp [execOp,hop,resolve,invoke,h3,h1,Deferred.ofValue,hcall,Result.andThen]
 ·exact(Fr.drew (fun _=>False) w (w.drawn+1)).trans ((Fr.drew (fun _=>False) w.drew (w.drew.drawn+1)).trans (Fr.alloc (fun _=>False) w.drew.drew _) fun _ h _=>h) fun _ h _=>h
 ·exact⟨cs.size,rfl,hle,hmax (Nat.le_trans hn (by decide)),cs,e,⟨(0,0),hsz⟩,by omega⟩
theorem cw_mnz {FP FP':Heap} {i m:Nat} {cs:List (Nat×Nat)} {f:FuncId} {fn:Func} {ps:Array TypeId} {t e:TypeId} {x:Operand} {ts:Array TypeId} {n:Nat} (ho:l[i]?=some o) (hf:E.P.funcs[f]?=some fn) (hname:(fn.name== "runtime.NumGoroutine")=false) (hb:fn.body.isNone=true) (hn0:Extern.findNext fn=none) (he:Extern.find fn=some (Extern.BytealgMakeNoZero.makeNoZero ps #[t]))
  (ht:E.P.underlying t=some (.slice e)) (hop:o.op=.call {callee:=.value (.func f),args:= #[x],argTypes:=ts}) (hw:wantA l σ o=some true) (hd:dstOk E.N o.dst=true) (hk:∀σ:Sl,ev σ (.func f)=.c (.raw (.func (.func f) #[] #[]))) (hx:ev σ x=.c (.int .i64 n)) (hn:n≤140737488355328) (hFP:Has0 FP' h)
  (k:∀g,g∉h.keys→CW E l K FP' cs (σ.setO o.dst (.c (.osl g 1 0 n))) ((g,.cells e n (fun _=>.any))::h)) (hm:m=2∨m=1∧FP'=FP:=by first|exact .inl rfl|exact .inr ⟨rfl,rfl⟩):CW E l K FP ((i,m)::cs) σ h:=by
 refine .pin ho hm (R:=fun r h2=>∃g,g∉h.keys∧r=.c (.osl g 1 0 n)∧h2=(g,.cells e n (fun _=>.any))::h) (fun σ' K hs=> ?_) ?_ ?_
 ·exact aw_mnz hf hname hb hn0 he ht hop ((want_same hs).trans hw) hd (hk _) ((ev_same (by rw [hop];simp [Op.operands,Call.operands]) hs).trans hx) hn fun g hg=>aw_ops_nil (aw_stop ⟨_,⟨g,hg,rfl,rfl⟩,rfl⟩)
 ·rintro r h2 ⟨g,_,_,rfl⟩;exact fun p hp=>List.mem_cons_of_mem _ (hFP p hp)
 ·rintro r h2 ⟨g,hg,rfl,rfl⟩;exact k g hg
end
end Go.AI
namespace Go.AI
section
variable {P : Program} {h : Heap} {ρ : Operand → AV}
theorem POk.fromUnsafeG {s d u ty:TypeId} {x:Operand} {g m n:Nat} {f:Nat→CV} {j:TypeInfo} (hs:P.underlying s=some .unsafePointer) (hd:P.underlying d=some (.pointer u)) (hj:P.info? u=some j) (hl:∀count,1≤count→liesAt P P.depth ty count 0 u 1=true) (hc:P.cellsOf ty=n) (hn0:0<n) (hx:ρ x=.c (.optr g 0)) (hg:h.get g=some (.cells ty m f)) (hm:n≤m):
  POk P h ρ (.convert s d x) (.c (.optr g 0)):=fun S w e _ ho hh=>by
 have h2:e x=.pointer (some ⟨g,0,none⟩):=by have:=ho x (by simp [Op.operands]);rw [hx] at this;exact this
 obtain⟨cs,hb,hn,_⟩:=hh _ _ (Heap.get_mem hg)
 have hsh:w.shape? g=some (ty,cs.size):=by simp [World.shape?,hb]
 refine⟨_,fun o hop=> ?_,rfl⟩
 have:=Lib.run_from_unsafe (P:=P) w ⟨g,0,none⟩ hs hd hj hsh (hl _ (by rw [hc];exact(Nat.le_div_iff_mul_le hn0).2 om))
 simp [execOp,hop,h2,this]
end
end Go.AI
namespace Go.Proofs.YtpcpaekpnfkhhaaGreatDoor
open Go.AI Go.PN
attribute [local irreducible] aw Fa Fh DrK
structure BlkB (ty:TypeId) (r:List CV):Prop where
 l:∀count,1≤count→liesAt Tryz.prog Tryz.prog.depth ty count 0 144 1=true
 c:Tryz.prog.cellsOf ty=2+r.length
 s:r.all CV.solid=true
abbrev bldG (ty:TypeId) (r:List CV) (gB:Nat) (a b:CV):Nat×AObj:=(gB,.cells ty (2+r.length) (ofL (a::b::r)))
theorem blkB:BlkB 144 []:=⟨fun count h=>liesAt_self (n:=2) (by kernel_rfl) om h,by kernel_rfl,rfl⟩
theorem copyCheckG_new {ty:TypeId} {r:List CV} (hB:BlkB ty r) (gB:Nat) (b:CV):Fh Tryz.prog 225 [bldG ty r gB (.raw (.pointer none)) b] [.c (.optr gB 0)] (fun x h=>x=.tup []∧h=[bldG ty r gB (.optr gB 0) b]):=by
 obtain⟨j,hj,hjs⟩:=Option.map_eq_some_iff.1 (show(Tryz.prog.info? 144).map (·.size)=some 2 from by kernel_rfl)
 refine fh_of_body Tryz.func225 rfl rfl (by simp [Tryz.ntmps225]) fun C hC=> ?_
 simp only [initS,Nat.reduceAdd]
 refine xG ?_
 refine aw_pok (POk.eqPtr (b:=true) und_bp eE eE (.inl ⟨rfl,rfl⟩)) rfl rfl ?_
 refine xSG ?_
 refine xP ?_
 refine xG ?_
 refine aw_pok (POk.toUnsafe und_bp und_up hj (by rw [hjs];decide) eE eE om) rfl rfl ?_
 refine xSG ?_
 refine aw_pok (POk.noEscape Tryz.func293 rfl rfl rfl rfl rfl eE) rfl rfl ?_
 refine xSG ?_
 refine aw_pok (POk.fromUnsafeG und_up und_bp hj hB.l hB.c om eE eE om) rfl rfl ?_
 refine xSG ?_
 refine xW ?_
 refine xS ?_
 refine aw_conv1 (f':=ofL (.optr gB 0::b::r)) (fun j hj=>by match j,hj with|0,_=>rfl|j+1,_=>rfl) ?_
 refine xG ?_
 refine xV ?_
 exact⟨rfl,rfl⟩
theorem copyCheckG_old {ty:TypeId} {r:List CV} (gB:Nat) (b:CV):Fh Tryz.prog 225 [bldG ty r gB (.optr gB 0) b] [.c (.optr gB 0)] (fun x h=>x=.tup []∧h=[bldG ty r gB (.optr gB 0) b]):=by
 obtain⟨j,hj,hjs⟩:=Option.map_eq_some_iff.1 (show(Tryz.prog.info? 144).map (·.size)=some 2 from by kernel_rfl)
 refine fh_of_body Tryz.func225 rfl rfl (by simp [Tryz.ntmps225]) fun C hC=> ?_
 simp only [initS,Nat.reduceAdd]
 refine xG ?_
 refine aw_pok (POk.eqPtr (b:=false) und_bp eE eE (.inr ⟨gB,rfl,rfl⟩)) rfl rfl ?_
 refine xSG ?_
 refine xN ?_
 refine xG ?_
 refine aw_pok (POk.neqPtr und_bp hj eE eE) rfl rfl ?_
 refine xSG ?_
 refine xN ?_
 refine xG ?_
 refine xV ?_
 exact⟨rfl,rfl⟩
def BdOk (a:CV) (gB:Nat) (og:Option Nat) (B:List UInt8):Prop:=(a=.raw (.pointer none)∨a=.optr gB 0)∧(og=none→B.length=0)
abbrev bdH (ty:TypeId) (r:List CV) (gB:Nat) (a:CV) (og:Option Nat) (B:List UInt8):Heap:=bldG ty r gB a (gsR og B.length)::gh og 5 B.length (byF B)
theorem copyCheckG_fh {ty:TypeId} {r:List CV} (hB:BlkB ty r) (gB:Nat) (a b:CV) (ha:a=.raw (.pointer none)∨a=.optr gB 0):Fh Tryz.prog 225 [bldG ty r gB a b] [.c (.optr gB 0)] (fun x h=>x=.tup []∧h=[bldG ty r gB (.optr gB 0) b]):=by
 rcases ha with rfl|rfl
 ·exact copyCheckG_new hB ..
 ·exact copyCheckG_old ..
theorem wstrG_fh {ty:TypeId} {r:List CV} (hB:BlkB ty r) (gB:Nat) (a:CV) (og:Option Nat) (B l:List UInt8) (hbd:BdOk a gB og B) (hlen:B.length+l.length≤100000000000):
  Fh Tryz.prog 120 (bdH ty r gB a og B) [.c (.optr gB 0),.c (.str (sB l))]
   (fun x h=>∃og',BdOk (.optr gB 0) gB og' (B++l)∧x=.tup [.c (.int .i64 l.length),.c .nilI]∧h=bdH ty r gB (.optr gB 0) og' (B++l)):=by
 obtain⟨ha,hog⟩:=hbd
 have hcc:=copyCheckG_fh hB gB a (gsR og B.length) ha
 refine fh_of_body Tryz.func120 rfl rfl (by simp [Tryz.ntmps120]) fun C hC=> ?_
 simp only [initS,Nat.reduceAdd]
 refine xG ?_
 refine aw_callh (hc:=[bldG ty r gB a (gsR og B.length)]) (hr:=gh og 5 B.length (byF B)) hcc rfl rfl rfl (.refl _) eL ?_
 rintro _ _ ⟨rfl,rfl⟩ _
 refine xSG ?_
 refine aw_appendStr (pre:=[bldG ty r gB (.optr gB 0) (gsR og B.length)]) (f:=byF B) (bs:=sB l) rfl rfl rfl eE und_str eE (by rfl) eE eE hog rfl (by rw [sB_size];unfold maxLen;omega) (by rw [sB_size];omega) fun og' h1 h2=> ?_
 rw [sB_size,sB_data,List.singleton_append]
 refine aw_convG (n':=(B++l).length) (f':=byF (B++l)) (by simp) (fun j _=>byF_app B l j) ?_
 rw [show B.length+l.length=(B++l).length from by simp]
 rw [sB_size,show B.length+l.length=(B++l).length from by simp] at h1
 refine xSG ?_
 have hsol:(gsR og' (B++l).length).solid=true:=by cases og'<;>rfl
 refine aw_store rfl rfl rfl rfl eE eE eE eE (fun _ e=>by cases e) (by simp only [AV.cells,List.all_cons,List.all_nil,hsol];rfl) (by rfl) om rfl ?_
 refine xS ?_
 refine aw_conv1 (f':=ofL (.optr gB 0::gsR og' (B++l).length::r)) (fun j hj=>by match j,hj with|0,_=>rfl|1,_=>rfl|j+2,_=>rfl) ?_
 refine xG ?_
 refine xU ?_
 exact⟨og',⟨.inr rfl,h1⟩,rfl,rfl⟩
end Go.Proofs.YtpcpaekpnfkhhaaGreatDoor
namespace Go.AI
theorem zero_rd:∀j,j<3→∀S w u,RepC S w (ofL [CV.bool false,.nils,.nils] j) u→RepC S w (ofL [CV.bool (Go.PN.rd 0).neg,ws true (Go.PN.rd 0).num,ws true (Go.PN.rd 0).den] j) u:=by
 rw [Go.PN.rd_zero]
 intro j hj S w u h
 match j,hj with
 |0,_=>exact h
 |1,_=>exact repC_nil h
 |2,_=>exact repC_nil h
end Go.AI
namespace Go.AI
section
variable {E : Env} {K : List It} {σ σ' : Sl} {h : Heap} {all rest l : List Oper} {o : Oper}
theorem repL_one {S:Bool→Nat→Prop} {w:World}:∀{cs:List CV} {us:List Value},RepL S w cs us→cs.all CV.solid=true→∀u∈us,u.oneCell'=true
 |[],[],_,_,u,hu=>absurd hu List.not_mem_nil
 |c::cs,u::us,h,hs,v,hv=>by
  rw [List.all_cons,Bool.and_eq_true] at hs
  rcases List.mem_cons.1 hv with rfl|hv
  ·exact solid_one hs.1 h.1
  ·exact repL_one h.2 hs.2 v hv
theorem aw_copyS {t e size bytes n m k q g off:Nat} {f f2:Nat→CV} {x s:Operand} {cx:CV} {h':Heap} (hop:o.op=.call {callee:=.builtin .copy,args:= #[x,s],argTypes:= #[t,t]}) (hw:wantA all σ o=some true) (hd:dstOk E.N o.dst=true)
  (ht:tElem E.P t=some (e,size,bytes)) (hx:ev σ x=.c (.osl g size off n)) (hg:h.get g=some (.cells e m f)) (hs:ev σ s=.c cx) (hsrc:Src h size cx k f2) (hq:q=min k n) (hm:off+n*size≤m)
  (hsol:(cellsAt f2 0 0 (q*size)).all CV.solid=true) (hh:h.set g (.cells e m (updF f off (cellsAt f2 0 0 (q*size))))=h') (kk:aw E (.ops all rest::K) (σ.setO o.dst (.c (.int .i64 q))) h'):aw E (.ops all (o::rest)::K) σ h:=by
 subst hh
 refine aw_step hw (fun ac w st=> ?_) kk
 have h1:=ev_rep st x
 have h2:=ev_rep st s
 rw [hx] at h1
 rw [hs] at h2
 obtain⟨c,hv1,hnc,hcm,cs0,ty0,⟨_,hb0⟩,hcs0⟩:=h1
 obtain⟨A,d,hv2,hA⟩:=hsrc.cells st.heap h2
 obtain⟨cs,hb,hn,hj⟩:=st.heap g _ (Heap.get_mem hg)
 obtain⟨hu,inf,hi,hsz,hbb⟩:=tElem_spec ht
 have hqk:q*size≤k*size:=Nat.mul_le_mul_right _ om
 have hqn:q*size≤n*size:=Nat.mul_le_mul_right _ om
 have hload:∃us,(Builtin.firstCells size q (.slice A k d)).run E.P w=.ok us.toArray w∧RepL (Stab E.C h w) w (cellsAt f2 0 0 (q*size)) us:=by
  rcases Nat.eq_zero_or_pos (q*size) with h0|h0
  ·refine⟨[],?_,by rw [h0];trivial⟩
   cases A with
   |none=>simp [Builtin.firstCells]
   |some a=>simp [Builtin.firstCells,h0,loadCells,loadCellsFrom]
  ·obtain⟨ad,rfl,hc⟩:=hA om
   obtain⟨us,hus,hrs⟩:=run_loadCellsFrom (P:=E.P) (S:=Stab E.C h w) (w:=w) (ad:=ad) (f:=f2) (off:=0) (q*size) 0 #[] (fun j _ hj=>by
    obtain⟨u,e1,e2⟩:=hc j om
    exact⟨u,e1,by rw [Nat.zero_add];exact e2⟩)
   exact⟨us,by simp [Builtin.firstCells,loadCells,hus],hrs⟩
 obtain⟨us,hus,hL⟩:=hload
 have hul:us.length=q*size:=by rw [hL.length,cellsAt_len]
 obtain⟨w',hrun,hbl,hfr⟩:=run_storeCells (P:=E.P) us w cs off 0 hb om (repL_one hL hsol)
 refine⟨.int .i64 (q:Int),w',.inl ?_,?_⟩
 ·have hq':Nat.min k n=q:=by rw [hq]
  simp only [execOp,hop,resolve,invoke,Go.builtin,Builtin.copy_,Sem.run_bind,Sem.run_pure,Result.andThen_ok,List.map_toArray,List.map_cons,List.map_nil,hv1,hv2,run_underlying hu,Builtin.lenOf,sizeOf,typeInfo,hi,hsz,hq',hus,hrun,List.size_toArray,List.length_cons,List.length_nil,List.getElem?_toArray,List.getElem?_cons_zero,List.getElem?_cons_succ,goInt]
  simp [Sem.run_bind,run_underlying hu,Builtin.lenOf,sizeOf,typeInfo,hi,hsz,hq',hus,hrun,goInt]
 ·have hgm:g∈h.keys:=List.mem_map.2 ⟨_,Heap.get_mem hg,rfl⟩
  have hkk:(h.set g (.cells e m (updF f off (cellsAt f2 0 0 (q*size))))).keys=h.keys:=Heap.keys_set _ _ _
  have kp:Keeps (Stab E.C h w) (Stab E.C (h.set g (.cells e m (updF f off (cellsAt f2 0 0 (q*size))))) w') w w':=
   ⟨fun t b hb=>⟨hb.1,Nat.lt_of_lt_of_le hb.2.1 hfr.size,by rw [hkk];exact hb.2.2⟩,fun t b hb=>hfr.block b hb.2.1 (fun e=>hb.2.2 (e▸hgm)),hfr.has⟩
  refine(st.setObj (ob':=.cells e m (updF f off (cellsAt f2 0 0 (q*size)))) hg hfr ⟨_,hbl,by rw [putL_size];exact hn,?_⟩).put hd (r:=.c (.int .i64 q)) rfl
  have:=putL_rep (cellsAt f2 0 0 (q*size)) us cs f (off+0) (hL.keep kp) hn (fun j hjn=>by obtain⟨u,hu,hr⟩:=hj j hjn;exact⟨u,hu,hr.keep kp⟩)
  simpa using this
end
end Go.AI
