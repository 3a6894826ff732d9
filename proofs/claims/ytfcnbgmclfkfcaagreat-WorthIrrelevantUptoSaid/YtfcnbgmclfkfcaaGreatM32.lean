/- Parts of one proof, laid by a program. -/
import Derived.Test.YtfcnbgmclfkfcaaGreatM00
import Derived.Test.YtfcnbgmclfkfcaaGreatM31
set_option linter.unusedSimpArgs false
set_option linter.unusedVariables false
namespace Go.AI
theorem fa_of_ints {P:Program} {f:FuncId} {args:List AV} {l:List Int} (hf:Fh P f [] args (fun x h=>x=.tup [.c (is true l),.c .nilI]∧h=[])):Fa P f args (.tup [.c (is true l),.c .nilI]):=by
 unfold Fh at hf
 unfold Fa
 refine⟨hf.1,fun S w vs mono lt hr=> ?_⟩
 let C:Ctx:={w0:=w,S0:=S,own0:=fun _=>False,mono:=mono,apart:=fun _ _ _ h=>h,lt:=lt}
 refine(hf.2 C vs (fun b=>⟨False.elim,by simp [Heap.keys]⟩) (by simp [Heap.keys]) (fun g o h=>by cases h) hr).mono ?_
 rintro e w' ⟨v,r,h',he,⟨rfl,rfl⟩,_,_,hrep,_,hfr⟩
 refine⟨v,he,?_,hfr⟩
 simp only [Rep,RepT,Rep0,RepC,is] at hrep⊢
 obtain⟨us,hv,hu⟩:=hrep
 refine⟨us,hv,?_⟩
 match us,hu with
 |[a,b],hu=>
  obtain⟨⟨A,c,h1,h2,h3⟩,h4⟩:=hu
  refine⟨⟨A,c,h1,h2,fun hn=> ?_⟩,h4⟩
  obtain⟨ad,e1,e2,e3⟩:=h3 hn
  refine⟨ad,e1,⟨e2.1,e2.2.1⟩,fun j hj=> ?_⟩
  obtain⟨u,e4,e5⟩:=e3 j hj
  refine⟨u,e4,?_⟩
  unfold isF at e5⊢
  cases l[j]?<;>exact e5
end Go.AI
namespace Go.Proofs.YtfcnbgmclfkfcaaGreat
open Go.AI Go.PN
attribute [local irreducible] aw Fa Fh DrK
theorem cuts_fa {f:FM} {o:List Int} (hk:K33 f o) (h10:f.vars≤10) (hn:f.nodes.length≤1099511627776) (ha:ArgsOk f):Fa Tryz.prog 58 [.agg (fmc false f),.c (is false o)] (.tup [.c (is true (zL (cutsF f))),.c .nilI]):=by
 refine fa_of_ints ((Cuts_fh f o hk h10 hn ha).mono ?_)
 rintro x h ⟨h1,l,hl,_,hlm,hx⟩
 rw [cutsF_is hl hlm]
 exact⟨hx,h1⟩
abbrev FH (g8 g2 g9 g3:Nat) (f:FM) (p:List RD) (l:List Nat) (gT:Nat):Heap:=
 [(g8,.cells 52 1 (ofL [is true (zL l)])),(g2,.cells 24 3 (ofL (fmc false f))),(g9,.cells 88 1 (ofL [.optr gT 0])),(g3,.cells 25 1 (ofL [rats false p]))]
set_option maxRecDepth 100000 in
set_option maxHeartbeats 6400000 in
theorem fus1_fh (g8 g2 g9 g3 gT gU gM:Nat) (f:FM) (p:List RD) (l:List Nat) {o pl:List Int} (ho:OdOk o pl) (hol:o.length=p.length) (h6:p.length≤6) (hpv:(p.length:Int)=f.vars) (hw:∀r∈p,r.wf 4) (hll:l.length≤64) (hlm:∀x∈l,x<2^p.length) {og:Option Nat} {ns:List DN} {mm:Mem3} (hs:TS o og ns mm) (hn:ns.length≤900000000) (i:Nat) (hi:i<p.length):
 Fh Tryz.prog 60 (FH g8 g2 g9 g3 f p l gT++THp gT gU gM og o pl ns mm) ([.c (.int .i64 i)]++[g8,g2,g9,g3].map fun g=>.c (.optr g 0)) (fun r h=>∃og' ns' mm',TS o og' ns' mm'∧ns'.length≤ns.length+100000∧r=.tup [.agg (rdc (rd (wF l p i))),.c .nilI]∧h=FH g8 g2 g9 g3 f p l gT++THp gT gU gM og' o pl ns' mm'):=by
 have hpow:2^(o.length+1)≤2^7:=Nat.pow_le_pow_right om om
 have hp6:2^p.length≤2^6:=Nat.pow_le_pow_right om h6
 have hzl:=zL_len l
 simp only [FH,List.cons_append,List.nil_append,List.map_cons,List.map_nil]
 refine fh_of_body Tryz.func60 rfl rfl (by simp [Tryz.ntmps60]) fun C hC=> ?_
 simp only [initS,Nat.reduceAdd]
 refine xG ?_
 refine xA fun g6 hn_g6=>?_
 clear hn_g6
 refine aw_nd fun hnd=> ?_
 simp only [Heap.keys,List.map_cons] at hnd
 replace hnd:=ndP_of hnd
 dsimp only [ndP,neA] at hnd
 have J1:=oj hnd hzl
 refine yG J1 ?_
 refine aw_lp (fun y:Nat×Option Nat×List DN×Mem3×Int=>[(0,.c (.int .i64 i)),(1,.c (.optr g8 0)),(2,.c (.optr g2 0)),(3,.c (.optr g9 0)),(4,.c (.optr g3 0)),(6,.c (.optr g6 0)),(8,.c (.int .i64 y.2.2.2.2)),(13,.c (is true (zL l))),(14,.c (.int .i64 l.length)),(15,.c (.int .i64 y.1))]) (fun y=>(g6,.cells 30 3 (ofL [.bool false,.nils,.nils]))::(FH g8 g2 g9 g3 f p l gT++THp gT gU gM y.2.1 o pl y.2.2.1 y.2.2.2.1))
  (fun y=>y.1≤l.length∧TS o y.2.1 y.2.2.1 y.2.2.2.1∧y.2.2.1.length≤ns.length+y.1*1000∧RefOk y.2.2.1 y.2.2.2.2∧∀s,evalD y.2.2.1 s y.2.2.2.2=failsB (cutsI (l.take y.1) i) s) (fun y=>l.length-y.1) (0,og,ns,mm,0) (zB J1) zZ ⟨Nat.zero_le _,hs,by dsimp only;omega,ref0,fun s=>ev0⟩ ?_
 rintro ⟨j,og1,ns1,mm1,so⟩ ⟨hj,h1,h2,h3,h4⟩
 dsimp only at hj h1 h2 h3 h4⊢
 refine yG J1 ?_
 refine yF J1 (fun hb=>?_) fun hb=>?_
 ·have hjl:j<l.length:=dT hb
  have hx:l.getD j 0<2^p.length:=hlm _ (by rw [List.getD_eq_getElem?_getD,List.getElem?_eq_getElem hjl];exact List.getElem_mem _)
  have hzg:=zL_get l j
  have hst:=cutsI_take hjl i
  have hful:∀s,allT (l.getD j 0) p.length s=subT (l.getD j 0) s:=allT_full hx
  generalize l.getD j 0=c at*
  have e0:=bitA0 c i om om
  have J2:=oj hnd (oj hzl (oj hzg e0))
  refine yG J2 ?_
  refine yF J2 (fun hc=>?_) fun hc=>?_
  ·have hcb:c.testBit i=false:=by simpa using hc
   refine yG J2 ?_
   refine aw_stop ⟨(j+1,og1,ns1,mm1,so),by dsimp only;omega,(zB J2),zZ,by dsimp only;omega,h1,by dsimp only;omega,h3,fun s=> ?_⟩
   dsimp only
   rw [h4,hst,hcb]
   simp
  ·have hcb:c.testBit i=true:=by simpa using hc
   refine yG J2 ?_
   refine aw_lp (fun y:Nat×Option Nat×List DN×Mem3×Int=>[(0,.c (.int .i64 i)),(1,.c (.optr g8 0)),(2,.c (.optr g2 0)),(3,.c (.optr g9 0)),(4,.c (.optr g3 0)),(6,.c (.optr g6 0)),(8,.c (.int .i64 so)),(10,.c (.int .i64 c)),(11,.c (.int .i64 y.2.2.2.2)),(13,.c (is true (zL l))),(14,.c (.int .i64 l.length)),(15,.c (.int .i64 j)),(25,.c (.int .i64 f.vars)),(26,.c (.int .i64 y.1))]) (fun y=>(g6,.cells 30 3 (ofL [.bool false,.nils,.nils]))::(FH g8 g2 g9 g3 f p l gT++THp gT gU gM y.2.1 o pl y.2.2.1 y.2.2.2.1))
    (fun y=>y.1≤p.length∧TS o y.2.1 y.2.2.1 y.2.2.2.1∧Later o ns1 y.2.2.1 (y.1*128)∧RefOk y.2.2.1 y.2.2.2.2∧∀s,evalD y.2.2.1 s y.2.2.2.2=allT c y.1 s) (fun y=>p.length-y.1) (0,og1,ns1,mm1,1) (zB J2) zZ ⟨Nat.zero_le _,h1,Later.refl h1.tab _,ref1,fun s=>ev1⟩ ?_
   rintro ⟨k,og2,ns2,mm2,al⟩ ⟨hk,k1,k2,k3,k4⟩
   dsimp only at hk k1 k2 k3 k4⊢
   have n2:=k2.len
   refine yG J2 ?_
   refine yF J2 (fun hkb=>?_) fun hkb=>?_
   ·have hkl:k<p.length:=dT hkb
    have e1:=bitA1 c k om om
    have J3:=oj hnd (oj hzl (oj hzg (oj e0 e1)))
    refine yG J3 ?_
    refine yF J3 (fun hck=>?_) fun hck=>?_
    ·refine yG J3 ?_
     refine aw_cw ([(g9,.cells 88 1 (ofL [.optr gT 0]))]) [(0,0),(1,0),(2,0),(3,0),(4,1),(5,1),(6,0)] ty_mixed (by kernel_rfl) eI ?_
     refine yG J3 ?_
     refine cw_callh (hc:=THp gT gU gM og2 o pl ns2 mm2) (hr:=(g6,.cells 30 3 (ofL [.bool false,.nils,.nils]))::FH g8 g2 g9 g3 f p l gT) rfl (tevent_fh gT gU gM k1 om (v:=(k:Int)) om om) rfl rfl rfl (List.perm_append_comm (l₁:=(g6,_)::FH g8 g2 g9 g3 f p l gT)) (zL J3) (by
      rintro _ _ ⟨_,_,_,_,_,_,_,_,rfl,rfl⟩;exact has0_app2 eI) ?_ (hm:=.inr ⟨rfl,rfl⟩)
     rintro _ _ ⟨og3,ns3,mm3,ev,d1,d2,d3,d4,rfl,rfl⟩ _
     have n3:=d2.len
     refine ySG J3 ?_
     refine cw_callh (hc:=THp gT gU gM og3 o pl ns3 mm3) (hr:=(g6,.cells 30 3 (ofL [.bool false,.nils,.nils]))::FH g8 g2 g9 g3 f p l gT) rfl (tand_fh gT gU gM ho d1 om (d2.ref k3) d3) rfl rfl rfl (.refl _) (zL J3) (by
      rintro _ _ ⟨_,_,_,_,_,_,_,_,rfl,rfl⟩;exact has0_app2 eI) ?_ (hm:=.inr ⟨rfl,rfl⟩)
     rintro _ _ ⟨og4,ns4,mm4,al',f1,f2,f3,f4,rfl,rfl⟩ _
     have n4:=f2.len
     refine yS J3 ?_
     refine cw_perm List.perm_append_comm ?_
     simp only [FH,List.cons_append,List.nil_append]
     refine ySG J3 ?_
     have l04:=k2.trans (d2.trans f2 (Nat.le_refl _)) (k:=(k+1)*128) om
     refine aw_stop ⟨(k+1,og4,ns4,mm4,al'),by dsimp only;omega,(zB J3),zZ,by dsimp only;omega,f1,l04,f3,fun s=> ?_⟩
     dsimp only
     rw [f4]
     dsimp only
     rw [d2.eval k1.tab k3,k4,d4,allT_succ,hck,Int.toNat_natCast]
     simp
    ·refine yG J3 ?_
     refine aw_stop ⟨(k+1,og2,ns2,mm2,al),by dsimp only;omega,(zB J3),zZ,by dsimp only;omega,k1,⟨k2.tab,k2.pre,by dsimp only;omega⟩,k3,fun s=> ?_⟩
     dsimp only
     rw [k4,allT_succ,hck]
     simp
   ·have hkl:k=p.length:=dF hkb
    subst hkl
    refine yG J2 ?_
    refine aw_callh (hr:=(g6,.cells 30 3 (ofL [.bool false,.nils,.nils]))::FH g8 g2 g9 g3 f p l gT) (tor_fh gT gU gM ho k1 om (k2.ref h3) k3) rfl rfl rfl (List.perm_append_comm (l₁:=(g6,_)::FH g8 g2 g9 g3 f p l gT)) (zL J2) ?_
    rintro _ _ ⟨og3,ns3,mm3,so',d1,d2,d3,d4,rfl,rfl⟩ _
    have n3:=d2.len
    refine aw_perm List.perm_append_comm ?_
    simp only [FH,List.cons_append,List.nil_append]
    refine ySG J2 ?_
    refine aw_stop ⟨(j+1,og3,ns3,mm3,so'),by dsimp only;omega,(zB J2),zZ,by dsimp only;omega,d1,by dsimp only;omega,d3,fun s=> ?_⟩
    dsimp only
    rw [d4]
    dsimp only
    rw [k2.eval h1.tab h3,h4,k4,hful,hst,hcb,Bool.true_and]
 ·have hjl:j=l.length:=dF hb
  subst hjl
  rw [List.take_length] at h4
  have hpq:=prT_wF hol h4
  have hpb:=prob_fh gT gU gM ho om h1 om p hw hol.symm h3
  rw [hpq] at hpb
  refine yG J1 ?_
  refine aw_callh (hr:=(g6,.cells 30 3 (ofL [.bool false,.nils,.nils]))::FH g8 g2 g9 g3 f p l gT) hpb rfl rfl rfl (List.perm_append_comm (l₁:=(g6,_)::FH g8 g2 g9 g3 f p l gT)) (zL J1) ?_
  rintro _ _ ⟨rfl,rfl⟩ _
  refine aw_perm List.perm_append_comm ?_
  simp only [FH,List.cons_append,List.nil_append]
  refine ySGWSG J1 ?_
  refine aw_rethw (h':=FH g8 g2 g9 g3 f p l gT++THp gT gU gM og1 o pl ns1 mm1) rfl (List.Sublist.cons _ (List.Sublist.refl _)) (fun R hR=> ?_)
  simp only [go_sem,hnd,hzl]
  refine hR _ rfl ?_
  exact⟨og1,ns1,mm1,h1,by omega,rfl,rfl⟩
set_option maxRecDepth 100000 in
set_option maxHeartbeats 3200000 in
theorem fus_fa {f:FM} {p:List RD} (h:WSm f p):Fa Tryz.prog 20 [.agg (fmc false f),.c (rats false p)] (.tup [.c (rats true (if mcode f p=0 then fusL f p else [])),.c (errA (mcode f p))]):=by
 refine fa_of_body Tryz.func20 rfl rfl (by simp [Tryz.ntmps20]) fun C hC=> ?_
 simp only [initS,Nat.reduceAdd]
 refine xG ?_
 refine xB fun g2 hn_g2=>?_
 refine yG hn_g2 ?_
 refine yB hn_g2 fun g3 hn_g3=>?_
 refine yG (oj hn_g2 hn_g3) ?_
 by_cases hc:wcode f p=0
 ·have hk:=wok_of hc
  have h6:=h.v6 hk
  have hpl:=hk.len
  have hX:=wV_fits (f:=f) h.w om
  refine aw_callh (hc:=[]) (hr:=[(g3,.cells 25 1 (ofL [rats false p])),(g2,.cells 24 3 (ofL (fmc false f)))]) (wopen_fh f p hk h6 h.hn h.ha h.w) rfl rfl rfl (.refl _) (zL (oj hn_g2 hn_g3)) ?_
  rintro _ _ ⟨gS,o,D,hpo,hol,hD,rfl,rfl⟩ hk2
  obtain⟨hDl,hsD,hdp⟩:=sysD hk h6 h.w hD hol
  have hoc:ocode o f.vars=0:=by rw [←hpl,←hol];exact perm_code hpo om
  have hod:OdOk o (placesL o):=⟨hpo,pl_ok hpo,by omega⟩
  have hcu:=cuts_fa ⟨hk.c,hoc,hk.coh⟩ om h.hn h.ha
  have hcl:=cutsF_le (f:=f) om
  have hcv:2^f.vars.toNat=2^p.length:=by rw [←hpl];rfl
  have hcm:∀x∈cutsF f,x<2^p.length:=fun x hx=>by
   unfold cutsF at hx
   have:=sol_ltN (sort_mem.1 hx)
   omega
  unfold fusL
  generalize cutsF f=l at*
  simp only [SY,List.cons_append,List.nil_append]
  refine aw_nd fun hnd=> ?_
  simp only [Heap.keys,List.map_cons,List.map_nil] at hnd
  replace hnd:=ndP_of hnd
  dsimp only [ndP,neA] at hnd
  refine ySGNG hnd ?_
  by_cases hz:wV f p=0
  ·have hs:(signQ (rd (wV f p)).q==0)=true:=by rw [rd_q,hz];rfl
   rw [m_zero hc hz,if_neg (by decide)]
   have J1:=oj hnd hs
   refine yC J1 (rsign_fa (rd (wV f p)) (rd_wf (fits_mono hX ?_))) ?_
   ·omega
   refine yGPGT hC J1 ?_
   exact .tup ⟨.c .nils,.c (ler_errN rfl (by decide)),trivial⟩
  ·have hs:(signQ (rd (wV f p)).q==0)=false:=by
    rw [rd_q]
    unfold signQ
    rw [if_neg hz]
    split<;>rfl
   rw [m_ok hc hz,if_pos rfl]
   have J2:=oj hnd hs
   refine yC J2 (rsign_fa (rd (wV f p)) (rd_wf (fits_mono hX ?_))) ?_
   ·omega
   refine yGNG J2 ?_
   refine aw_cw ([(gS,.cells 76 11 (ofL (fmc false f++[rats false p,is true o]++dgc true D++rdc (rd (wV f p))))),(g2,.cells 24 3 (ofL (fmc false f)))]) [(0,0),(1,0),(2,0),(3,0),(4,0),(5,0),(6,0),(7,0),(8,3),(9,1),(10,2),(11,0)] ty_mixed (by kernel_rfl) eI ?_
   refine yG J2 ?_
   refine cw_callq rfl hcu rfl rfl rfl (fun _ _=>(zL J2)) ?_
   refine ySG J2 ?_
   iterate 1 (refine wc3 rfl rfl fun R r=> ?_;simp only [go_sem,hnd,hs];with_reducible show R (some _);with_reducible refine r _ _ ?_;clear r R)
   refine yS (oj hnd hs) ?_
   refine cw_alloc rfl rfl rfl rfl (zE (oj hnd hs)) eI (fun g8 hn_g8=> ?_) (hm:=.inr ⟨rfl,rfl⟩)
   replace hn_g8:=Heap.ne_of hn_g8
   dsimp only [Heap.ne] at hn_g8
   have J3:=oj hnd (oj hs hn_g8)
   refine yS J3 ?_
   refine cw_store (FP':=[]) rfl rfl rfl rfl rfl (zE J3) (zE J3) (zE J3) (zE J3) (fun _ e=>by cases e) rfl rfl (Nat.le_refl 1) rfl has0_nil ?_
   refine ySGNG J3 ?_
   refine aw_callh (hc:=[]) (new_fh o hpo om) rfl rfl rfl (.refl _) (zL J3) ?_
   rintro _ _ ⟨gT,gU,gM,rfl,rfl⟩ _
   refine ySG J3 ?_
   refine yA J3 fun g9 hn_g9=>?_
   have J4:=oj hnd (oj hs (oj hn_g8 hn_g9))
   refine yGWSG J4 ?_
   refine aw_makeFunc (gs:=[g8,g2,g9,g3]) rfl rfl rfl (zE J4) ?_
   refine ySG J4 ?_
   refine aw_callh (hr:=[]) (each_fh (α:=Option Nat×List DN×Mem3) (fun y=>FH g8 g2 g9 g3 f p l gT++THp gT gU gM y.1 o (placesL o) y.2.1 y.2.2) (fun y=>FH g8 g2 g9 g3 f p l gT++THp gT gU gM y.1 o (placesL o) y.2.1 y.2.2) (SY gS f p o D (wV f p)) (fun y i=>TS o y.1 y.2.1 y.2.2∧y.2.1.length≤i*100000) (wF l p) 60 [g8,g2,g9,g3] gS f p o D hz hX om (fun i hi=>fits_mono (wF_fits h.w om i) om) (fun _=>List.perm_append_comm) (fun i y hi hy=>(fus1_fh g8 g2 g9 g3 gT gU gM f p l hod hol om hpl h.w hcl.1 hcm hy.1 (by have:=hy.2;omega) i hi).mono (fun r h' hq=>by
    obtain⟨og',ns',mm',q1,q2,q3,q4⟩:=hq
    exact⟨(og',ns',mm'),⟨q1,by have:=hy.2;dsimp only;omega⟩,q3,q4⟩)) (none,[],[]) ⟨⟨fun _=>rfl,fun i hi=>absurd hi (Nat.not_lt_zero _),fun e he=>absurd he List.not_mem_nil⟩,Nat.zero_le _⟩) rfl rfl rfl ?_ (zL J4) ?_
   ·rw [List.append_nil]
    exact(List.Perm.cons _ List.perm_append_comm).trans ((permL [(g9,_),(g8,_),(gS,_),(g3,_),(g2,_)] [0,1,2,3,4] [2,1,4,0,3] (by decide)).append_right (THp gT gU gM none o (placesL o) [] []))
   rintro _ _ ⟨y,og,_,hog,rfl,rfl⟩ _
   refine aw_perm (h':=gh og 30 (p.length*3) (ratsF (eachL (wF l p) (wV f p) p.length))++(SY gS f p o D (wV f p)++(FH g8 g2 g9 g3 f p l gT++THp gT gU gM y.1 o (placesL o) y.2.1 y.2.2))) (by rw [List.append_nil];exact List.perm_append_comm) ?_
   refine ySG J4 ?_
   refine aw_frzGT (t:=4) (f':=ratsF (eachL (wF l p) (wV f p) p.length)) hog (eachL_len (wF l p) (wV f p) p.length).symm (zE J4) (fun g _=>hC g) (fun _ _=>rfl) rfl ?_
   refine ySGT hC J4 ?_
   exact .tup ⟨.c ler_rats,.c .nilI,trivial⟩
 ·rw [m_bad hc,if_neg hc]
  refine aw_callh (hc:=[]) (hr:=[(g3,.cells 25 1 (ofL [rats false p])),(g2,.cells 24 3 (ofL (fmc false f)))]) (wopen_err f p hc h.hn h.ha h.t0 h.t1 h.w5 (by have:=h.l;omega)) rfl rfl rfl (.refl _) eL ?_
  rintro _ _ ⟨rfl,rfl⟩ _
  have hcf:=ieq_f hc
  have J5:=oj hn_g2 (oj hn_g3 hcf)
  refine ySGPG J5 ?_
  refine yT hC J5 ?_
  exact .tup ⟨.c .nils,.c ler_err,trivial⟩
end Go.Proofs.YtfcnbgmclfkfcaaGreat
namespace Go.PN
open Go.AI
theorem getRD {xs:List RD} {i:Nat} (h:i<xs.length):xs.getD i rd0=xs[i]:=by
 rw [List.getD_eq_getElem?_getD,List.getElem?_eq_getElem h];rfl
theorem ratL_ext {xs ys:List RD} (hl:xs.length=ys.length) (h:∀j,j<xs.length→xs.getD j rd0=ys.getD j rd0):xs=ys:=by
 refine List.ext_getElem hl fun j h1 h2=> ?_
 have:=h j h1
 rw [getRD h1,getRD h2] at this
 exact this
end Go.PN
namespace Go.Proofs.YtfcnbgmclfkfcaaGreat
open Go.AI Go.PN
attribute [local irreducible] aw Fa Fh DrK
set_option maxHeartbeats 1600000 in
theorem rats_fa (xs ys:List RD) (hw:∀x∈xs,x.wf 68719476736) (hl:xs.length≤1099511627776):Fa Tryz.prog 24 [.c (rats false xs),.c (rats false ys)] (.c (.bool (decide (xs=ys)))):=by
 refine fa_of_body Tryz.func24 rfl rfl (by simp [Tryz.ntmps24]) fun C hC=> ?_
 simp only [initS,Nat.reduceAdd]
 refine xG ?_
 refine xF (fun hb=>?_) fun hb=>?_
 ·refine xGT hC ?_
  refine .one (.c (ler_bool ?_))
  have:xs≠ys:=fun e=>by rw [e] at hb;simp at hb
  simp [this]
 ·have hlen:xs.length=ys.length:=by
   have:((xs.length:Int)==(ys.length:Int))=true:=by simpa [bne] using hb
   have:=eq_of_beq this;omega
  refine xG ?_
  refine aw_lp (fun i:Nat=>[(0,.c (rats false xs)),(1,.c (rats false ys)),(12,.c (.int .i64 xs.length)),(13,.c (.int .i64 i))]) (fun _=>[]) (fun i=>i≤xs.length∧∀j,j<i→xs.getD j rd0=ys.getD j rd0) (fun i=>xs.length-i) 0 eB zZ ⟨Nat.zero_le _,fun j hj=>by omega⟩ ?_
  rintro i ⟨hi,hs⟩
  refine xG ?_
  refine xF (fun hb=>?_) fun hb=>?_
  ·have hin:i<xs.length:=dT hb
   refine xG ?_
   refine aw_dr 10 ty_mixed (by kernel_rfl) ?_
   refine xG ?_
   refine xD (ratEq_fa (xs.getD i rd0) (ys.getD i rd0) ?_) ?_
   ·rw [getRD hin];exact hw _ (List.getElem_mem hin)
   refine xG ?_
   refine xF (fun hc=>?_) fun hc=>?_
   ·have hc':xs.getD i rd0≠ys.getD i rd0:=by simpa using hc
    refine xGT hC ?_
    refine .one (.c (ler_bool ?_))
    have:xs≠ys:=fun e=>hc' (by rw [e])
    simp [this]
   ·have hc':xs.getD i rd0=ys.getD i rd0:=by simpa using hc
    refine xG ?_
    refine aw_stop ⟨i+1,by omega,eB,zZ,by omega,fun j hj=> ?_⟩
    by_cases hji:j=i
    ·rw [hji];exact hc'
    ·exact hs j om
  ·have hin:i=xs.length:=dF hb
   subst hin
   refine xGT hC ?_
   refine .one (.c (ler_bool ?_))
   have:xs=ys:=ratL_ext hlen hs
   simp [this]
end Go.Proofs.YtfcnbgmclfkfcaaGreat
namespace Go.PN
open Go.AI Go.Proofs.YtfcnbgmclfkfcaaGreat
theorem ler_fns {h:Heap} {t:Bool} {ps:List FN}:LeR h (fns true ps) (fns t ps):=
 .row (lf_ler om fun x _ k hk=>by match k,hk with|0,_=>exact .int _ _|1,_=>exact .int _ _|2,_=>exact ler_is)
end Go.PN

namespace Go.Proofs.YtfcnbgmclfkfcaaGreat
open Go.AI Go.PN
attribute [local irreducible] aw Fa Fh DrK
def bigW (r:RD):Bool:=decide ((r.num.length:Int)>2)||decide ((r.den.length:Int)>2)
noncomputable def largeWA (f:FM) (p:List RD):Bool:=decide ((p.length:Int)>100)||((decide (f.vars>6)&&((p.length:Int)==f.vars))&&(fcode f==0))
noncomputable def largeW (f:FM) (p:List RD):Bool:=largeWA f p||p.any bigW
theorem ws_of {f:FM} {p:List RD} (hn:f.nodes.length≤1099511627776) (ha:ArgsOk f) (ht0: -9223372036854775808≤f.top) (ht:f.top≤9223372036854775807) (hw:WordsOk p) (h:largeW f p=false):WSm f p:=by
 unfold largeW largeWA at h
 simp only [Bool.or_eq_false_iff,Bool.and_eq_false_iff,decide_eq_false_iff_not,beq_eq_false_iff_ne] at h
 obtain⟨⟨h1,h2⟩,h3⟩:=h
 refine⟨hn,ha,ht0,ht,fun r hr=> ?_,by omega,fun hc hl=> ?_⟩
 ·have hb:bigW r=false:=by
   cases hb:bigW r with
   |false=>rfl
   |true=>rw [List.any_eq_true.2 ⟨r,hr,hb⟩] at h3;cases h3
  unfold bigW at hb
  simp only [Bool.or_eq_false_iff,decide_eq_false_iff_not] at hb
  obtain⟨w1,w2⟩:=hw r hr
  exact⟨w1,w2,by omega,by omega⟩
 ·rcases h2 with (h2|h2)|h2
  ·omega
  ·exact absurd hl h2
  ·exact absurd hc h2
theorem WSm.fn {f:FM} {p:List RD} (h:WSm f p) (hk:WOk f p):WFn f p:=⟨hk.c,hk.len,by have:=h.v6 hk;have:=hk.len;omega,h.w⟩
set_option maxHeartbeats 800000 in
theorem part43_fa (n d:Int) (h0: -9223372036854775808≤n) (h1:n≤9223372036854775807) (h2: -9223372036854775808≤d) (h3:d≤9223372036854775807) (hd:d≠0):
 Fa Tryz.prog 43 [.c (.int .i64 n),.c (.int .i64 d)] (.agg (rdc (rd ((n:Rat)/(d:Rat))))):=by
 refine fa_of_body Tryz.func43 rfl rfl (by simp [Tryz.ntmps43]) fun C hC=> ?_
 simp only [initS,Nat.reduceAdd]
 refine xG ?_
 refine xA fun g4 hn_g4=>?_
 refine yG hn_g4 ?_
 refine yC hn_g4 (smake_fa n d h0 h1 h2 h3 hd) ?_
 refine yG hn_g4 ?_
 refine yA hn_g4 fun g5 hn_g5=>?_
 have J1:=oj hn_g4 hn_g5
 refine yGWSG J1 ?_
 refine yW J1 ?_
 refine ySGT hC J1 ?_
 exact ler_rd rfl
set_option maxRecDepth 100000 in
set_option maxHeartbeats 1600000 in
theorem example43_fa:Fa Tryz.prog 44 [] (.agg (fmc true exG)):=by
 refine fa_of_body Tryz.func44 rfl rfl (by simp [Tryz.ntmps44]) fun C hC=> ?_
 simp only [initS,Nat.reduceAdd]
 refine xG ?_
 refine xA fun g0 hn_g0=>?_
 refine yG hn_g0 ?_
 refine aw_buildSlice (xs:=[.const (.int .i64 1),.const (.int .i64 2)]) (cells:=[.int .i64 1,.int .i64 2]) rfl rfl rfl (zE hn_g0) (by refine yS hn_g0 ?_;rfl) rfl om om (by intro x hx;simp only [List.mem_cons,List.not_mem_nil,or_false] at hx;rcases hx with rfl|rfl<;>exact⟨rfl,rfl,rfl⟩) rfl fun g1 hn_g1=> ?_
 replace hn_g1:=Heap.ne_of hn_g1
 dsimp only [Heap.ne] at hn_g1
 have J1:=oj hn_g0 hn_g1
 refine yS J1 ?_
 refine aw_frzT (t:=1) (isF [1,2]) (zE J1) (zE J1) om (hC g1) (fun j hj=>by match j,hj with|0,_=>rfl|1,_=>rfl) rfl (zE J1) ?_
 refine ySG J1 ?_
 refine aw_buildSlice (xs:=[.const (.int .i64 0),.const (.int .i64 3)]) (cells:=[.int .i64 0,.int .i64 3]) rfl rfl rfl (zE J1) (by refine yS J1 ?_;rfl) rfl om om (by intro x hx;simp only [List.mem_cons,List.not_mem_nil,or_false] at hx;rcases hx with rfl|rfl<;>exact⟨rfl,rfl,rfl⟩) rfl fun g3 hn_g3=> ?_
 replace hn_g3:=Heap.ne_of hn_g3
 dsimp only [Heap.ne] at hn_g3
 have J2:=oj hn_g0 (oj hn_g1 hn_g3)
 refine yS J2 ?_
 refine aw_frzT (t:=3) (isF [0,3]) (zE J2) (zE J2) om (hC g3) (fun j hj=>by match j,hj with|0,_=>rfl|1,_=>rfl) rfl (zE J2) ?_
 refine ySG J2 ?_
 refine aw_buildSlice (xs:=[.tmp 2,.tmp 4]) (cells:=[.int .i64 2,.int .i64 0,is true [1,2],.int .i64 3,.int .i64 0,is true [0,3]]) rfl rfl rfl (zE J2) (by refine yS J2 ?_;rfl) rfl om om (by intro x hx;simp only [List.mem_cons,List.not_mem_nil,or_false] at hx;rcases hx with rfl|rfl<;>exact⟨rfl,rfl,rfl⟩) rfl fun g5 hn_g5=> ?_
 replace hn_g5:=Heap.ne_of hn_g5
 dsimp only [Heap.ne] at hn_g5
 have J3:=oj hn_g0 (oj hn_g1 (oj hn_g3 hn_g5))
 refine yS J3 ?_
 refine aw_frzT (t:=5) (fnsF exG.nodes) (zE J3) (zE J3) om (hC g5) (fun j hj=>by match j,hj with|0,_=>rfl|1,_=>rfl|2,_=>rfl|3,_=>rfl|4,_=>rfl|5,_=>rfl) rfl (zE J3) ?_
 refine ySGWSG J3 ?_
 refine yT hC J3 ?_
 exact .one (.agg ⟨.int _ _,ler_fns (t:=true) (ps:=[⟨2,0,[1,2]⟩,⟨3,0,[0,3]⟩]),.int _ _,trivial⟩)
theorem exG_wsm:WSm exG exGP:=⟨by decide,exG_argsOk,by decide,by decide,exGP_wf,by decide,fun _ _=>by decide⟩
theorem exG_mcode:mcode exG exGP=0:=m_ok exG_ok.code (by rw [exG_top];decide+kernel)
theorem exG_rcode:rcode exG exGP 1=0:=by
 unfold rcode
 rw [if_neg (fun k=>k exG_ok.code),if_pos ⟨by decide,by decide⟩,if_neg]
 intro h
 rw [show(1:Int).toNat=1 from rfl,show rd0=rd 0 from rd0_rd,exG_set] at h
 revert h
 decide+kernel
set_option maxRecDepth 100000 in
set_option maxHeartbeats 3200000 in
theorem awake43_of (P:List RD) (hP:P=exGP) (hf:Fa Tryz.prog 20 [.agg (fmc false exG),.c (rats false P)] (.tup [.c (rats true [rd (4/7),rd (4/7),rd (4/7)]),.c .nilI])) (hv:Fa Tryz.prog 21 [.agg (fmc false exG),.c (rats false P)] (.tup [.c (rats true [rd (16/7),rd (10/7),rd (10/7)]),.c .nilI])) (hr:Fa Tryz.prog 12 [.agg (fmc false exG),.c (rats false P),.c (.int .i64 1)] (.tup [.agg (rdc (rd (7/4))),.c .nilI])):
 Fa Tryz.prog 10 [] (.c (.bool true)):=by
 refine fa_of_body Tryz.func10 rfl rfl (by simp [Tryz.ntmps10]) fun C hC=> ?_
 simp only [initS,Nat.reduceAdd]
 refine xG ?_
 refine xC (part43_fa 1 4 ?_ ?_ ?_ ?_ ?_) ?_
 ·omega
 ·omega
 ·omega
 ·omega
 ·omega
 refine xG ?_
 refine xC (part43_fa 1 2 ?_ ?_ ?_ ?_ ?_) ?_
 ·omega
 ·omega
 ·omega
 ·omega
 ·omega
 refine xG ?_
 refine xC (part43_fa 1 2 ?_ ?_ ?_ ?_ ?_) ?_
 ·omega
 ·omega
 ·omega
 ·omega
 ·omega
 refine xG ?_
 refine aw_buildSlice (xs:=[.tmp 8,.tmp 9,.tmp 10]) (cells:=rdc (rd (1/4))++(rdc (rd (1/2))++rdc (rd (1/2)))) rfl rfl rfl eE (by refine xS ?_;rfl) rfl om om (by intro x hx;simp only [List.mem_cons,List.not_mem_nil,or_false] at hx;rcases hx with rfl|rfl|rfl<;>exact⟨rfl,rfl,rfl⟩) rfl fun g11 hn_g11=> ?_
 refine xS ?_
 refine aw_frzT (t:=11) (ratsF exGP) eE eE om (hC g11) (fun j hj=>by match j,hj with|0,_=>rfl|1,_=>rfl|2,_=>rfl|3,_=>rfl|4,_=>rfl|5,_=>rfl|6,_=>rfl|7,_=>rfl|8,_=>rfl) rfl eE ?_
 refine xSG ?_
 refine aw_weak (σ':=[(0,.c (.bool false)),(1,.c (rats true P))]) (h':=[]) (Sl.sub_le (by subst hP;exact⟨rfl,rfl,trivial⟩)) (List.nil_sublist _) ?_
 refine xG ?_
 refine xC (example43_fa) ?_
 refine xG ?_
 refine aw_callq hf rfl rfl rfl (by refine xS ?_;exact⟨.agg ⟨.refl _,le_any_row (by simp),.refl _,trivial⟩,.c wl2⟩) ?_
 refine xSG ?_
 refine xC (example43_fa) ?_
 refine xG ?_
 refine aw_callq hv rfl rfl rfl (by refine xS ?_;exact⟨.agg ⟨.refl _,le_any_row (by simp),.refl _,trivial⟩,.c wl2⟩) ?_
 refine xSG ?_
 refine xC (example43_fa) ?_
 refine xG ?_
 refine aw_callq hr rfl rfl rfl (by refine xS ?_;exact⟨.agg ⟨.refl _,le_any_row (by simp),.refl _,trivial⟩,.c wl2,.c (.refl _)⟩) ?_
 refine xSG ?_
 refine xA fun g6 hn_g6=>?_
 refine yGWSG hn_g6 ?_
 refine aw_cw ([(g6,.cells 30 3 (ofL (rdc (rd (7/4)))))]) [(0,0),(1,0),(2,0),(3,0),(4,0),(5,0),(6,0),(7,0),(8,0),(9,0),(10,0),(11,0),(12,0),(13,0),(14,0),(15,0),(16,0),(17,0),(18,0),(19,0),(20,1),(21,1),(22,0),(23,0),(24,0),(25,0),(26,0),(27,0),(28,1),(29,1),(30,0),(31,0)] ty_mixed (by kernel_rfl) eI ?_
 refine yG hn_g6 ?_
 refine cw_callq rfl (part43_fa 7 4 om om om om om) rfl rfl rfl (fun _ _=>(zL hn_g6)) ?_
 refine ySG hn_g6 ?_
 refine cw_callq rfl (ratEq_fa (rd (7/4)) (rd (((7:Int):Rat)/((4:Int):Rat))) (rd_wf (fits_mono (L:=1) ⟨by decide+kernel,by decide+kernel⟩ om))) rfl rfl rfl (fun _ _=>(zL hn_g6)) ?_
 rw [rdec_eq (show rd (7/4)=rd (((7:Int):Rat)/((4:Int):Rat)) from rfl)]
 refine ySG hn_g6 ?_
 refine cw_callq rfl (part43_fa 4 7 om om om om om) rfl rfl rfl (fun _ _=>(zL hn_g6)) ?_
 refine yS hn_g6 ?_
 refine cw_callq rfl (part43_fa 4 7 om om om om om) rfl rfl rfl (fun _ _=>(zL hn_g6)) ?_
 refine yS hn_g6 ?_
 refine cw_callq rfl (part43_fa 4 7 om om om om om) rfl rfl rfl (fun _ _=>(zL hn_g6)) ?_
 refine yS hn_g6 ?_
 refine cw_buildSlice (xs:=[.tmp 47,.tmp 48,.tmp 49]) (cells:=rdc (rd (4/7))++(rdc (rd (4/7))++rdc (rd (4/7)))) rfl rfl rfl rfl (zE hn_g6) (by refine yS hn_g6 ?_;rfl) rfl om om (by intro x hx;simp only [List.mem_cons,List.not_mem_nil,or_false] at hx;rcases hx with rfl|rfl|rfl<;>exact⟨rfl,rfl,rfl⟩) rfl (by simp [Op.operands]) eI (fun g20 hn_g20=> ?_) (hm:=.inr ⟨rfl,rfl⟩)
 refine yS hn_g6 ?_
 refine cw_callqP rfl (rats_fa [rd (4/7),rd (4/7),rd (4/7)] [rd (4/7),rd (4/7),rd (4/7)] (by
  intro r hr
  simp only [List.mem_cons,List.not_mem_nil,or_false] at hr
  rcases hr with rfl|rfl|rfl<;>exact rd_wf (fits_mono (L:=1) ⟨by decide+kernel,by decide+kernel⟩ om)) (by simp)) rfl rfl rfl (by refine yS hn_g6 ?_;exact⟨.c wl2,.c (.osl (m:=9) (zE hn_g6) om (fun j hj=>by match j,hj with|0,_=>exact .refl _|1,_=>exact .refl _|2,_=>exact .refl _|3,_=>exact .refl _|4,_=>exact .refl _|5,_=>exact .refl _|6,_=>exact .refl _|7,_=>exact .refl _|8,_=>exact .refl _))⟩) eI ?_ (hm:=.inr ⟨rfl,rfl⟩)
 rw [decide_eq_true (rfl:[rd (4/7),rd (4/7),rd (4/7)]=_)]
 refine ySG hn_g6 ?_
 refine cw_callq rfl (part43_fa 16 7 om om om om om) rfl rfl rfl (fun _ _=>(zL hn_g6)) ?_
 refine yS hn_g6 ?_
 refine cw_callq rfl (part43_fa 10 7 om om om om om) rfl rfl rfl (fun _ _=>(zL hn_g6)) ?_
 refine yS hn_g6 ?_
 refine cw_callq rfl (part43_fa 10 7 om om om om om) rfl rfl rfl (fun _ _=>(zL hn_g6)) ?_
 refine yS hn_g6 ?_
 refine cw_buildSlice (xs:=[.tmp 55,.tmp 56,.tmp 57]) (cells:=rdc (rd (16/7))++(rdc (rd (10/7))++rdc (rd (10/7)))) rfl rfl rfl rfl (zE hn_g6) (by refine yS hn_g6 ?_;rfl) rfl om om (by intro x hx;simp only [List.mem_cons,List.not_mem_nil,or_false] at hx;rcases hx with rfl|rfl|rfl<;>exact⟨rfl,rfl,rfl⟩) rfl (by simp [Op.operands]) eI (fun g28 hn_g28=> ?_) (hm:=.inr ⟨rfl,rfl⟩)
 refine yS hn_g6 ?_
 refine cw_callqP rfl (rats_fa [rd (16/7),rd (10/7),rd (10/7)] [rd (16/7),rd (10/7),rd (10/7)] (by
  intro r hr
  simp only [List.mem_cons,List.not_mem_nil,or_false] at hr
  rcases hr with rfl|rfl|rfl<;>exact rd_wf (fits_mono (L:=1) ⟨by decide+kernel,by decide+kernel⟩ om)) (by simp)) rfl rfl rfl (by refine yS hn_g6 ?_;exact⟨.c wl2,.c (.osl (m:=9) (zE hn_g6) om (fun j hj=>by match j,hj with|0,_=>exact .refl _|1,_=>exact .refl _|2,_=>exact .refl _|3,_=>exact .refl _|4,_=>exact .refl _|5,_=>exact .refl _|6,_=>exact .refl _|7,_=>exact .refl _|8,_=>exact .refl _))⟩) eI ?_ (hm:=.inr ⟨rfl,rfl⟩)
 rw [decide_eq_true (rfl:[rd (16/7),rd (10/7),rd (10/7)]=_)]
 refine ySGT hC hn_g6 ?_
 exact .one (.c (.bool _))
theorem awake43_fa:Fa Tryz.prog 10 [] (.c (.bool true)):=by
 have hf:=fus_fa exG_wsm
 rw [exG_mcode,if_pos rfl,exG_fus,show errA 0=CV.nilI from rfl] at hf
 have hv:=ach_fa exG_wsm
 rw [exG_mcode,if_pos rfl,exG_ach,show errA 0=CV.nilI from rfl] at hv
 have hr:=red_fa exG_wsm 1
 rw [exG_rcode,if_pos rfl,show(1:Int).toNat=1 from rfl,exG_red,show errA 0=CV.nilI from rfl] at hr
 exact awake43_of exGP rfl hf hv hr
set_option maxRecDepth 100000 in
set_option maxHeartbeats 1600000 in
theorem large43_fa (f:FM) (p:List RD) (hn:f.nodes.length≤1099511627776) (ha:ArgsOk f) (ht0: -9223372036854775808≤f.top) (ht:f.top≤9223372036854775807) (hl:p.length≤1099511627776):Fa Tryz.prog 11 [.agg (fmc false f),.c (rats false p)] (.c (.bool (largeW f p))):=by
 have hA:largeWA f p=true→largeW f p=true:=fun h=>by unfold largeW;rw [h];rfl
 refine fa_of_body Tryz.func11 rfl rfl (by simp [Tryz.ntmps11]) fun C hC=> ?_
 simp only [initS,Nat.reduceAdd]
 apply aw_seq
 apply aw_region
 refine xB fun g2 hn_g2=>?_
 refine yH hn_g2 ?_
 apply aw_seq
 refine aw_cut (fun _:Unit=>[(1,.c (rats false p))]) (fun _=>[]) (fun _=>largeWA f p=false) ?_ ?_
 ·refine yG hn_g2 ?_
  refine aw_split 9 (zE hn_g2) (fun a1=> ?_) (fun a1=> ?_)<;>refine yS hn_g2 ?_
  ·rw [hA (by unfold largeWA;rw [a1];rfl)]
   repeat first
    |refine yO hn_g2 ?_
    |(refine aw_skipU (zE hn_g2) rfl ?_;refine yS hn_g2 ?_)
    |(refine aw_skipN rfl rfl (zE hn_g2) rfl ?_;refine yS hn_g2 ?_)
   refine yGPGT hC hn_g2 ?_
   exact .one (.c (.bool _))
  refine yG hn_g2 ?_
  refine aw_split 13 (zE hn_g2) (fun a2=> ?_) (fun a2=> ?_)<;>refine yS hn_g2 ?_
  ·refine yG hn_g2 ?_
   refine aw_split 20 (zE hn_g2) (fun a3=> ?_) (fun a3=> ?_)<;>refine yS hn_g2 ?_
   ·refine yG hn_g2 ?_
    refine yC hn_g2 (fcheckR_fa f hn ha ht0 ht) ?_
    refine yG hn_g2 ?_
    refine yF hn_g2 (fun a4=>?_) fun a4=>?_
    ·rw [hA (by unfold largeWA;rw [a1,a2,a3,a4];rfl)]
     refine yGT hC hn_g2 ?_
     exact .one (.c (.bool _))
    ·refine yG hn_g2 ?_
     exact aw_stop ⟨(),(zB hn_g2),List.nil_sublist _,by unfold largeWA;rw [a1,a2,a3,a4];rfl⟩
   ·refine yGNG hn_g2 ?_
    exact aw_stop ⟨(),(zB hn_g2),List.nil_sublist _,by unfold largeWA;rw [a1,a2,a3];rfl⟩
  ·refine yGNG hn_g2 ?_
   exact aw_stop ⟨(),(zB hn_g2),List.nil_sublist _,by unfold largeWA;rw [a1,a2];rfl⟩
 rintro _ hLA
 have hB:largeW f p=p.any bigW:=by unfold largeW;rw [hLA];rfl
 rw [hB]
 refine yG hn_g2 ?_
 refine aw_lp (fun x:Nat=>[(1,.c (rats false p)),(5,.c (.int .i64 x))]) (fun x=>[]) (fun x=>x≤p.length∧∀j,j<x→bigW (p.getD j rd0)=false) (fun x=>p.length-x) 0 (zB hn_g2) zZ ⟨Nat.zero_le _,by omega⟩ ?_
 rintro i ⟨hi,hs⟩
 refine yG hn_g2 ?_
 refine yF hn_g2 (fun h1=>?_) fun h1=>?_
 ·have h1':i<p.length:=dT h1
  have hmem:p.getD i rd0∈p:=by rw [List.getD_eq_getElem?_getD,List.getElem?_eq_getElem h1'];exact List.getElem_mem h1'
  refine yG hn_g2 ?_
  refine aw_split 39 (zE hn_g2) (fun h2=> ?_) (fun h2=> ?_)<;>refine yS hn_g2 ?_
  ·rw [List.any_eq_true.2 ⟨_,hmem,by unfold bigW;rw [h2];rfl⟩]
   refine yGPGT hC hn_g2 ?_
   exact .one (.c (.bool _))
  ·refine yG hn_g2 ?_
   refine yF hn_g2 (fun h3=>?_) fun h3=>?_
   ·rw [List.any_eq_true.2 ⟨_,hmem,by unfold bigW;rw [h2,h3];rfl⟩]
    refine yGT hC hn_g2 ?_
    exact .one (.c (.bool _))
   ·refine yG hn_g2 ?_
    refine aw_stop ⟨i+1,by omega,(zB hn_g2),zZ,by omega,fun j hj=> ?_⟩
    rcases Nat.lt_succ_iff_lt_or_eq.1 hj with h|h
    ·exact hs j h
    ·rw [h];unfold bigW;rw [h2,h3];rfl
 ·have h1':i=p.length:=dF h1
  subst h1'
  refine yGT hC hn_g2 ?_
  refine .one (.c (ler_bool ?_))
  cases ha:p.any bigW with
  |false=>rfl
  |true=>
   obtain⟨x,hx,hxb⟩:=List.any_eq_true.1 ha
   obtain⟨j,hj,e⟩:=List.mem_iff_getElem.1 hx
   have:=hs j hj
   rw [List.getD_eq_getElem?_getD,List.getElem?_eq_getElem hj,Option.getD_some,e,hxb] at this
   cases this
end Go.Proofs.YtfcnbgmclfkfcaaGreat
