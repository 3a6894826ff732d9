/- Parts of one proof, laid by a program. -/
import Derived.Test.YteocnikcjjonbaaGreatM00
import Derived.Test.YteocnikcjjonbaaGreatM07
set_option linter.unusedSimpArgs false
set_option linter.unusedVariables false
set_option maxRecDepth 100000
set_option maxHeartbeats 12800000
namespace Go.PN
open Go.AI
def svL (seen:List BS):List (BS×Value):=seen.reverse.map fun k=>(k,.bool true)
theorem svL_cons (k:BS) (seen:List BS):svL (k::seen)=svL seen++[(k,.bool true)]:=by unfold svL;simp
theorem kvGet_app (a:BS):∀(l:List (BS×Value)) (k:BS) (v:Value),kvGet a (l++[(k,v)])=(match kvGet a l with|some x=>some x|none=>if a=k then some v else none)
 |[],k,v=>rfl
 |p::l,k,v=>by
  show(if a=p.1 then some p.2 else kvGet a (l++[(k,v)]))=(match (if a=p.1 then some p.2 else kvGet a l) with|some x=>some x|none=>_)
  by_cases h:a=p.1
  ·rw [if_pos h,if_pos h]
  ·rw [if_neg h,if_neg h];exact kvGet_app a l k v
theorem svL_get (a:BS):∀seen:List BS,kvGet a (svL seen)=if seen.contains a then some (.bool true) else none
 |[]=>rfl
 |k::seen=>by
  rw [svL_cons,kvGet_app,svL_get a seen,List.contains_cons]
  by_cases h:seen.contains a=true
  ·rw [if_pos h,h];simp
  ·have h':seen.contains a=false:=by simpa using h
   rw [h']
   by_cases e:a=k
   ·subst e;simp
   ·have:(a==k)=false:=by simpa using e
    rw [this];simp [e]
theorem is_tok {s:PS} {w:BS} (h:isS s w=true):s.e=0∧∃t l,s.l=t::l∧t.kind≠1∧t.text=w:=by
 unfold isS at h
 simp only [Bool.and_eq_true,decide_eq_true_eq] at h
 refine⟨h.1,?_⟩
 cases hl:s.l with
 |nil=>rw [hl] at h;simp at h
 |cons t l=>
  rw [hl] at h
  simp at h
  exact⟨t,l,rfl,h.2.1,h.2.2⟩
theorem evB_p {s:PS} {t:TK} {l':List TK} (seen:List BS) (x:EvD) (e0:s.e=0) (hl:s.l=t::l') (hk:t.kind≠1) (ht:t.text=kP):evB (seen,x) s=if seen.contains kP=true then((seen,x),failS 6 s) else((kP::seen,{x with p:=(numS ⟨l',0⟩).1}),(numS ⟨l',0⟩).2):=by
 have hi:∀w,isS s w=(t.text==w):=fun w=>by rw [is_cons e0 hl,bne_iff_ne.2 hk,Bool.true_and]
 unfold evB
 rw [hi,hi,hi,hi,hd_cons hl,ht]
 dsimp only
 rw [take_cons e0 hl,ht]
 rfl
theorem evB_fail {s:PS} {t:TK} {l':List TK} (seen:List BS) (x:EvD) (e0:s.e=0) (hl:s.l=t::l') (hk:t.kind≠1) (ht:t.text=kFail):evB (seen,x) s=if seen.contains kFail=true then((seen,x),failS 6 s) else((kFail::seen,{x with fail:=(numS ⟨l',0⟩).1}),(numS ⟨l',0⟩).2):=by
 have hi:∀w,isS s w=(t.text==w):=fun w=>by rw [is_cons e0 hl,bne_iff_ne.2 hk,Bool.true_and]
 unfold evB
 rw [hi,hi,hi,hi,hd_cons hl,ht]
 dsimp only
 rw [take_cons e0 hl,ht]
 rfl
theorem evB_rep {s:PS} {t:TK} {l':List TK} (seen:List BS) (x:EvD) (e0:s.e=0) (hl:s.l=t::l') (hk:t.kind≠1) (ht:t.text=kRepair):evB (seen,x) s=if seen.contains kRepair=true then((seen,x),failS 6 s) else((kRepair::seen,{x with rep:=(numS ⟨l',0⟩).1}),(numS ⟨l',0⟩).2):=by
 have hi:∀w,isS s w=(t.text==w):=fun w=>by rw [is_cons e0 hl,bne_iff_ne.2 hk,Bool.true_and]
 unfold evB
 rw [hi,hi,hi,hi,hd_cons hl,ht]
 dsimp only
 rw [take_cons e0 hl,ht]
 rfl
theorem evB_cost {s:PS} {t:TK} {l':List TK} (seen:List BS) (x:EvD) (e0:s.e=0) (hl:s.l=t::l') (hk:t.kind≠1) (ht:t.text=kCost):evB (seen,x) s=if seen.contains kCost=true then((seen,x),failS 6 s) else((kCost::seen,{x with cost:=(wholeS ⟨l',0⟩).1}),(wholeS ⟨l',0⟩).2):=by
 have hi:∀w,isS s w=(t.text==w):=fun w=>by rw [is_cons e0 hl,bne_iff_ne.2 hk,Bool.true_and]
 unfold evB
 rw [hi,hi,hi,hi,hd_cons hl,ht]
 dsimp only
 rw [take_cons e0 hl,ht]
 rfl
theorem evB_no {s:PS} (seen:List BS) (x:EvD) (h0:isS s kP=false) (h1:isS s kFail=false) (h2:isS s kRepair=false) (h3:isS s kCost=false):evB (seen,x) s=((((takeS false s).1::seen,x),(takeS false s).2)):=by
 unfold evB
 rw [h0,h1,h2,h3]
 have ht:(takeS false s).1=[]:=by
  unfold takeS
  split
  ·split<;>rfl
  ·rfl
 dsimp only
 rw [show(false||false||false||false)=false from rfl,ht]
 rfl
theorem take_f (s:PS) (e0:s.e=0):(takeS false s).1=[]∧(takeS false s).2.e≠0:=by
 cases hl:s.l with
 |nil=>rw [take_nil e0 hl];exact⟨rfl,by simp⟩
 |cons t l=>rw [take_cons e0 hl];exact⟨rfl,by simp⟩
end Go.PN
namespace Go.Proofs.YteocnikcjjonbaaGreat
open Go.AI Go.PN
theorem conv_ev {a:CV}:∀j,j<11→∀(S:Bool→Nat→Prop) w u,RepC S w (ofL [a,.bool false,.nils,.nils,.bool false,.nils,.nils,.bool false,.nils,.nils,.int .i64 0] j) u→RepC S w (ofL ([a]++rdc rd0++rdc rd0++rdc rd0++[.int .i64 0]) j) u:=fun j hj S w u hr=>by
 match j,hj with
 |0,_=>exact hr
 |1,_=>exact hr
 |2,_=>exact repC_nil hr
 |3,_=>exact repC_nil hr
 |4,_=>exact hr
 |5,_=>exact repC_nil hr
 |6,_=>exact repC_nil hr
 |7,_=>exact hr
 |8,_=>exact repC_nil hr
 |9,_=>exact repC_nil hr
 |10,_=>exact hr
attribute [local irreducible] aw Fa Fh DrK
theorem event_fg (g:Nat) (L:List TX) (s:PS) (hs:s.l<:+L.map TX.t) (hL:L.length≤1048576) (hw:∀t∈L,t.t.text.length≤1099511627776):Fg Tryz.prog 63 g (rdO L s) [.c (.optr g 0)] (.agg (evc (eventS s).1)) (rdO L (eventS s).2):=by
 have f1:=word_fg g L s hs om
 have hs1:=suf_word hs
 unfold eventS
 dsimp only
 generalize wordS s=r at*
 obtain⟨nm,s1⟩:=r
 dsimp only at*
 generalize hF:lpS (fun s=> !isS s kSemi) evB ([],{ev0 with name:=nm}) s1=F at*
 have hsF:F.2.l<:+L.map TX.t:=by rw [←hF];exact((rdr_lp rdr_evB _).suf s1).trans hs1
 have f8:=expect_fg g L F.2 kSemi hsF om
 unfold Fg
 refine fh_of_body Tryz.func63 rfl rfl (by simp [Tryz.ntmps63]) fun C hC=> ?_
 simp only [initS,Nat.reduceAdd]
 apply wa1
 apply wa6
 refine xA fun g2 hn_g2=>?_
 refine yH hn_g2 ?_
 apply wa1
 apply wa6
 refine yH hn_g2 ?_
 refine aw_cg f1 rfl rfl rfl (zE hn_g2) (zL2 o0) ?_
 refine yS hn_g2 ?_
 refine yH hn_g2 ?_
 refine yA hn_g2 fun g3 hn_g3=>?_
 have J1:=oj hn_g2 hn_g3
 refine yW J1 ?_
 refine yS J1 ?_
 refine yH J1 ?_
 refine aw_convR (f':=ofL (evc {ev0 with name:=nm})) conv_ev ?_
 apply wa1
 apply wa6
 refine aw_makeMap (Kf:=keyS) rfl rfl rfl fun gm hn_gm=> ?_
 replace hn_gm:=Heap.ne_of hn_gm
 simp only [Heap.ne] at hn_gm
 have J2:=oj hn_g2 (oj hn_g3 hn_gm)
 refine yS J2 ?_
 refine yH J2 ?_
 apply wa1
 refine aw_cut (fun _:Unit=>[(0,.c (.optr g 0)),(2,.c (.optr g2 0)),(3,.c (.optr g3 0))]) (fun _=>[(g3,.cells 61 11 (ofL (evc F.1.2))),(g2,.cells 61 11 (ofL [.str (sB []),.bool false,.nils,.nils,.bool false,.nils,.nils,.bool false,.nils,.nils,.int .i64 0])),(g,rdO L F.2)]) (fun _=>1=1) ?_ ?_
 ·apply wa2
  refine aw_lp (fun _:PS×List BS×EvD=>[(0,.c (.optr g 0)),(2,.c (.optr g2 0)),(3,.c (.optr g3 0)),(4,.c (.raw (.map (some gm))))]) (fun x=>[(gm,.gen (MapI keyS (svL x.2.1))),(g3,.cells 61 11 (ofL (evc x.2.2))),(g2,.cells 61 11 (ofL [.str (sB []),.bool false,.nils,.nils,.bool false,.nils,.nils,.bool false,.nils,.nils,.int .i64 0])),(g,rdO L x.1)])
   (fun x=>x.1.l<:+L.map TX.t∧(x.1.e=0→x.2.1.contains []=false)∧lpS (fun s=> !isS s kSemi) evB (x.2.1,x.2.2) x.1=F) (fun x=>mS x.1) (s1,[],{ev0 with name:=nm}) (zB J2) zZ ⟨hs1,fun _=>rfl,hF⟩ ?_
  rintro ⟨sx,seen,x⟩ ⟨hsx,hne,hlp⟩
  dsimp only at hsx hne hlp⊢
  have i0:=is_fg g L sx kSemi hsx om
  have i1:=is_fg g L sx kP hsx om
  have i2:=is_fg g L sx kFail hsx om
  have i3:=is_fg g L sx kRepair hsx om
  have i4:=is_fg g L sx kCost hsx om
  have hr:=rat hsx
  have hcon:=con_evB (seen,x) sx
  have hsuf:=((rdr_evB (seen,x)).suf sx).trans hsx
  have hst:=fun h0 hc=>lpS_step (c:=fun s=> !isS s kSemi) (b:=evB) (a:=(seen,x)) (s:=sx) (fun a s h _=>con_evB a s h) h0 hc
  repeat' first|refine yA1 J2 ?_|(refine aw_cg (i0) rfl rfl rfl (zE J2) (zL2 J2) ?_;refine yS J2 ?_)|(refine aw_cg (i1) rfl rfl rfl (zE J2) (zL2 J2) ?_;refine yS J2 ?_)|(refine aw_cg (i2) rfl rfl rfl (zE J2) (zL2 J2) ?_;refine yS J2 ?_)|(refine aw_cg (i3) rfl rfl rfl (zE J2) (zL2 J2) ?_;refine yS J2 ?_)|(refine aw_cg (i4) rfl rfl rfl (zE J2) (zL2 J2) ?_;refine yS J2 ?_)|(refine yW J2 ?_;refine yS J2 ?_)|refine yP J2 ?_|refine yN J2 ?_|refine aw_cd (zE J2) (fun hb=>?_) (fun hb=>?_)|refine aw_ce (zE J2) (fun hb=>?_) (fun hb=>?_)|refine aw_cn (zE J2) (fun hb=>?_) (fun hb=>?_)|(refine yF J2 (fun hb=>?_) (fun hb=>?_)<;>fail_if_success (cases hb;done))|(refine aw_gsd rfl rfl (zE J2) (fun hb=>?_) (fun hb=>?_)<;>refine yS J2 ?_)|(refine aw_gse rfl rfl (zE J2) (fun hb=>?_) (fun hb=>?_)<;>refine yS J2 ?_)|(refine aw_gsn rfl rfl (zE J2) (fun hb=>?_) (fun hb=>?_)<;>refine yS J2 ?_)|(refine aw_gs rfl rfl (zE J2) (fun hb=>?_) (fun hb=>?_)<;>fail_if_success (cases hb;done)<;>refine yS J2 ?_)|(refine drk_gsd rfl rfl (zE J2) (fun hb=>?_) (fun hb=>?_)<;>refine yS J2 ?_)|(refine drk_gse rfl rfl (zE J2) (fun hb=>?_) (fun hb=>?_)<;>refine yS J2 ?_)|(refine drk_gsn rfl rfl (zE J2) (fun hb=>?_) (fun hb=>?_)<;>refine yS J2 ?_)|(refine drk_gs rfl rfl (zE J2) (fun hb=>?_) (fun hb=>?_)<;>fail_if_success (cases hb;done)<;>refine yS J2 ?_)
  ·rename_i h0 hc
   obtain⟨_,t,l',hl,hk,ht⟩:=is_tok hb
   have hB:=evB_p seen x h0 hl hk ht
   have hat:L.length-sx.l.length<L.length:=Classical.byContradiction fun h=>by have:=hr.nil h;rw [this] at hl;cases hl
   obtain⟨l2,hl2,hl3⟩:=hr.cons hat
   have htx:(L.getD (L.length-sx.l.length) tx0).t.text=kP:=by
    have hx:=(List.cons.inj (hl.symm.trans hl2)).1
    rw [←hx];exact ht
   have hsl:l'<:+L.map TX.t:=(show l'<:+sx.l from by rw [hl];exact List.suffix_cons t l').trans hsx
   have hcon':=hcon h0
   have hst':=hst h0 hc
   have q0:(kP==kP)=true:=rfl
   have q1:(kP==kFail)=false:=rfl
   have q2:(kP==kRepair)=false:=rfl
   have q3:(kP==kCost)=false:=rfl
   refine aw_dr 16 ty_mixed (by kernel_rfl) ?_
   repeat' first|refine yA1 (oj hn_g2 (oj hn_g3 (oj hn_gm (oj htx (oj q0 (oj q1 (oj q2 q3))))))) ?_|(refine yW (oj hn_g2 (oj hn_g3 (oj hn_gm (oj htx (oj q0 (oj q1 (oj q2 q3))))))) ?_;refine yS (oj hn_g2 (oj hn_g3 (oj hn_gm (oj htx (oj q0 (oj q1 (oj q2 q3))))))) ?_)|refine yP (oj hn_g2 (oj hn_g3 (oj hn_gm (oj htx (oj q0 (oj q1 (oj q2 q3))))))) ?_|refine yN (oj hn_g2 (oj hn_g3 (oj hn_gm (oj htx (oj q0 (oj q1 (oj q2 q3))))))) ?_|refine aw_cd (zE (oj hn_g2 (oj hn_g3 (oj hn_gm (oj htx (oj q0 (oj q1 (oj q2 q3)))))))) (fun hb=>?_) (fun hb=>?_)|refine aw_ce (zE (oj hn_g2 (oj hn_g3 (oj hn_gm (oj htx (oj q0 (oj q1 (oj q2 q3)))))))) (fun hb=>?_) (fun hb=>?_)|refine aw_cn (zE (oj hn_g2 (oj hn_g3 (oj hn_gm (oj htx (oj q0 (oj q1 (oj q2 q3)))))))) (fun hb=>?_) (fun hb=>?_)|(refine yF (oj hn_g2 (oj hn_g3 (oj hn_gm (oj htx (oj q0 (oj q1 (oj q2 q3))))))) (fun hb=>?_) (fun hb=>?_)<;>fail_if_success (cases hb;done))|(refine aw_gsd rfl rfl (zE (oj hn_g2 (oj hn_g3 (oj hn_gm (oj htx (oj q0 (oj q1 (oj q2 q3)))))))) (fun hb=>?_) (fun hb=>?_)<;>refine yS (oj hn_g2 (oj hn_g3 (oj hn_gm (oj htx (oj q0 (oj q1 (oj q2 q3))))))) ?_)|(refine aw_gse rfl rfl (zE (oj hn_g2 (oj hn_g3 (oj hn_gm (oj htx (oj q0 (oj q1 (oj q2 q3)))))))) (fun hb=>?_) (fun hb=>?_)<;>refine yS (oj hn_g2 (oj hn_g3 (oj hn_gm (oj htx (oj q0 (oj q1 (oj q2 q3))))))) ?_)|(refine aw_gsn rfl rfl (zE (oj hn_g2 (oj hn_g3 (oj hn_gm (oj htx (oj q0 (oj q1 (oj q2 q3)))))))) (fun hb=>?_) (fun hb=>?_)<;>refine yS (oj hn_g2 (oj hn_g3 (oj hn_gm (oj htx (oj q0 (oj q1 (oj q2 q3))))))) ?_)|(refine aw_gs rfl rfl (zE (oj hn_g2 (oj hn_g3 (oj hn_gm (oj htx (oj q0 (oj q1 (oj q2 q3)))))))) (fun hb=>?_) (fun hb=>?_)<;>fail_if_success (cases hb;done)<;>refine yS (oj hn_g2 (oj hn_g3 (oj hn_gm (oj htx (oj q0 (oj q1 (oj q2 q3))))))) ?_)|(refine drk_gsd rfl rfl (zE (oj hn_g2 (oj hn_g3 (oj hn_gm (oj htx (oj q0 (oj q1 (oj q2 q3)))))))) (fun hb=>?_) (fun hb=>?_)<;>refine yS (oj hn_g2 (oj hn_g3 (oj hn_gm (oj htx (oj q0 (oj q1 (oj q2 q3))))))) ?_)|(refine drk_gse rfl rfl (zE (oj hn_g2 (oj hn_g3 (oj hn_gm (oj htx (oj q0 (oj q1 (oj q2 q3)))))))) (fun hb=>?_) (fun hb=>?_)<;>refine yS (oj hn_g2 (oj hn_g3 (oj hn_gm (oj htx (oj q0 (oj q1 (oj q2 q3))))))) ?_)|(refine drk_gsn rfl rfl (zE (oj hn_g2 (oj hn_g3 (oj hn_gm (oj htx (oj q0 (oj q1 (oj q2 q3)))))))) (fun hb=>?_) (fun hb=>?_)<;>refine yS (oj hn_g2 (oj hn_g3 (oj hn_gm (oj htx (oj q0 (oj q1 (oj q2 q3))))))) ?_)|(refine drk_gs rfl rfl (zE (oj hn_g2 (oj hn_g3 (oj hn_gm (oj htx (oj q0 (oj q1 (oj q2 q3)))))))) (fun hb=>?_) (fun hb=>?_)<;>fail_if_success (cases hb;done)<;>refine yS (oj hn_g2 (oj hn_g3 (oj hn_gm (oj htx (oj q0 (oj q1 (oj q2 q3))))))) ?_)
   refine drk_lookup1 (a:=kP) (kv:=svL seen) (Kf:=keyS) (z:=.bool false) rfl rfl rfl (kt:=9) (et:=4) (by kernel_rfl) (keyS_ok (by kernel_rfl)) (by kernel_rfl) (zE (oj hn_g2 (oj hn_g3 (oj hn_gm (oj htx (oj q0 (oj q1 (oj q2 q3)))))))) (zE (oj hn_g2 (oj hn_g3 (oj hn_gm (oj htx (oj q0 (oj q1 (oj q2 q3)))))))) (ck:=.c (.str (sB kP))) (zE (oj hn_g2 (oj hn_g3 (oj hn_gm (oj htx (oj q0 (oj q1 (oj q2 q3)))))))) (fun _ _ _ h=>h) ?_
   rw [svL_get]
   by_cases hcs:seen.contains kP=true
   ·rw [if_pos hcs] at hB⊢
    have f6:=fail_fg g L sx 6 (by decide)
    repeat' first|refine yA1 (oj hn_g2 (oj hn_g3 (oj hn_gm (oj htx (oj q0 (oj q1 (oj q2 q3))))))) ?_|(refine aw_cg (f6) rfl rfl rfl (zE (oj hn_g2 (oj hn_g3 (oj hn_gm (oj htx (oj q0 (oj q1 (oj q2 q3)))))))) (zL2 (oj hn_g2 (oj hn_g3 (oj hn_gm (oj htx (oj q0 (oj q1 (oj q2 q3)))))))) ?_;refine yS (oj hn_g2 (oj hn_g3 (oj hn_gm (oj htx (oj q0 (oj q1 (oj q2 q3))))))) ?_)|(refine yW (oj hn_g2 (oj hn_g3 (oj hn_gm (oj htx (oj q0 (oj q1 (oj q2 q3))))))) ?_;refine yS (oj hn_g2 (oj hn_g3 (oj hn_gm (oj htx (oj q0 (oj q1 (oj q2 q3))))))) ?_)|refine yP (oj hn_g2 (oj hn_g3 (oj hn_gm (oj htx (oj q0 (oj q1 (oj q2 q3))))))) ?_|refine yN (oj hn_g2 (oj hn_g3 (oj hn_gm (oj htx (oj q0 (oj q1 (oj q2 q3))))))) ?_|refine aw_cd (zE (oj hn_g2 (oj hn_g3 (oj hn_gm (oj htx (oj q0 (oj q1 (oj q2 q3)))))))) (fun hb=>?_) (fun hb=>?_)|refine aw_ce (zE (oj hn_g2 (oj hn_g3 (oj hn_gm (oj htx (oj q0 (oj q1 (oj q2 q3)))))))) (fun hb=>?_) (fun hb=>?_)|refine aw_cn (zE (oj hn_g2 (oj hn_g3 (oj hn_gm (oj htx (oj q0 (oj q1 (oj q2 q3)))))))) (fun hb=>?_) (fun hb=>?_)|(refine yF (oj hn_g2 (oj hn_g3 (oj hn_gm (oj htx (oj q0 (oj q1 (oj q2 q3))))))) (fun hb=>?_) (fun hb=>?_)<;>fail_if_success (cases hb;done))|(refine aw_gsd rfl rfl (zE (oj hn_g2 (oj hn_g3 (oj hn_gm (oj htx (oj q0 (oj q1 (oj q2 q3)))))))) (fun hb=>?_) (fun hb=>?_)<;>refine yS (oj hn_g2 (oj hn_g3 (oj hn_gm (oj htx (oj q0 (oj q1 (oj q2 q3))))))) ?_)|(refine aw_gse rfl rfl (zE (oj hn_g2 (oj hn_g3 (oj hn_gm (oj htx (oj q0 (oj q1 (oj q2 q3)))))))) (fun hb=>?_) (fun hb=>?_)<;>refine yS (oj hn_g2 (oj hn_g3 (oj hn_gm (oj htx (oj q0 (oj q1 (oj q2 q3))))))) ?_)|(refine aw_gsn rfl rfl (zE (oj hn_g2 (oj hn_g3 (oj hn_gm (oj htx (oj q0 (oj q1 (oj q2 q3)))))))) (fun hb=>?_) (fun hb=>?_)<;>refine yS (oj hn_g2 (oj hn_g3 (oj hn_gm (oj htx (oj q0 (oj q1 (oj q2 q3))))))) ?_)|(refine aw_gs rfl rfl (zE (oj hn_g2 (oj hn_g3 (oj hn_gm (oj htx (oj q0 (oj q1 (oj q2 q3)))))))) (fun hb=>?_) (fun hb=>?_)<;>fail_if_success (cases hb;done)<;>refine yS (oj hn_g2 (oj hn_g3 (oj hn_gm (oj htx (oj q0 (oj q1 (oj q2 q3))))))) ?_)|(refine drk_gsd rfl rfl (zE (oj hn_g2 (oj hn_g3 (oj hn_gm (oj htx (oj q0 (oj q1 (oj q2 q3)))))))) (fun hb=>?_) (fun hb=>?_)<;>refine yS (oj hn_g2 (oj hn_g3 (oj hn_gm (oj htx (oj q0 (oj q1 (oj q2 q3))))))) ?_)|(refine drk_gse rfl rfl (zE (oj hn_g2 (oj hn_g3 (oj hn_gm (oj htx (oj q0 (oj q1 (oj q2 q3)))))))) (fun hb=>?_) (fun hb=>?_)<;>refine yS (oj hn_g2 (oj hn_g3 (oj hn_gm (oj htx (oj q0 (oj q1 (oj q2 q3))))))) ?_)|(refine drk_gsn rfl rfl (zE (oj hn_g2 (oj hn_g3 (oj hn_gm (oj htx (oj q0 (oj q1 (oj q2 q3)))))))) (fun hb=>?_) (fun hb=>?_)<;>refine yS (oj hn_g2 (oj hn_g3 (oj hn_gm (oj htx (oj q0 (oj q1 (oj q2 q3))))))) ?_)|(refine drk_gs rfl rfl (zE (oj hn_g2 (oj hn_g3 (oj hn_gm (oj htx (oj q0 (oj q1 (oj q2 q3)))))))) (fun hb=>?_) (fun hb=>?_)<;>fail_if_success (cases hb;done)<;>refine yS (oj hn_g2 (oj hn_g3 (oj hn_gm (oj htx (oj q0 (oj q1 (oj q2 q3))))))) ?_)
    rw [hst',hB,lpS_end (fun z=>by have:=z.1;unfold failS at this;rw [if_pos h0] at this;exact absurd this (by simp))] at hlp
    subst hlp
    refine aw_stop ⟨(),?_⟩
    and_intros<;>first|rfl|exact List.Sublist.cons _ (List.Sublist.refl _)|exact True.intro
   ·rw [if_neg hcs] at hB⊢
    have hcs':seen.contains kP=false:=by simpa using hcs
    have f6:=take_fg g L sx true hsx om
    rw [take_cons h0 hl,if_pos rfl,ht] at f6
    dsimp only at f6
    have f7:=number_fg g L ⟨l',0⟩ hsl om hw
    repeat' first|refine yA1 (oj hn_g2 (oj hn_g3 (oj hn_gm (oj htx (oj q0 (oj q1 (oj q2 q3))))))) ?_|(refine aw_cg (f6) rfl rfl rfl (zE (oj hn_g2 (oj hn_g3 (oj hn_gm (oj htx (oj q0 (oj q1 (oj q2 q3)))))))) (zL2 (oj hn_g2 (oj hn_g3 (oj hn_gm (oj htx (oj q0 (oj q1 (oj q2 q3)))))))) ?_;refine yS (oj hn_g2 (oj hn_g3 (oj hn_gm (oj htx (oj q0 (oj q1 (oj q2 q3))))))) ?_)|(refine yW (oj hn_g2 (oj hn_g3 (oj hn_gm (oj htx (oj q0 (oj q1 (oj q2 q3))))))) ?_;refine yS (oj hn_g2 (oj hn_g3 (oj hn_gm (oj htx (oj q0 (oj q1 (oj q2 q3))))))) ?_)|refine yP (oj hn_g2 (oj hn_g3 (oj hn_gm (oj htx (oj q0 (oj q1 (oj q2 q3))))))) ?_|refine yN (oj hn_g2 (oj hn_g3 (oj hn_gm (oj htx (oj q0 (oj q1 (oj q2 q3))))))) ?_|refine aw_cd (zE (oj hn_g2 (oj hn_g3 (oj hn_gm (oj htx (oj q0 (oj q1 (oj q2 q3)))))))) (fun hb=>?_) (fun hb=>?_)|refine aw_ce (zE (oj hn_g2 (oj hn_g3 (oj hn_gm (oj htx (oj q0 (oj q1 (oj q2 q3)))))))) (fun hb=>?_) (fun hb=>?_)|refine aw_cn (zE (oj hn_g2 (oj hn_g3 (oj hn_gm (oj htx (oj q0 (oj q1 (oj q2 q3)))))))) (fun hb=>?_) (fun hb=>?_)|(refine yF (oj hn_g2 (oj hn_g3 (oj hn_gm (oj htx (oj q0 (oj q1 (oj q2 q3))))))) (fun hb=>?_) (fun hb=>?_)<;>fail_if_success (cases hb;done))|(refine aw_gsd rfl rfl (zE (oj hn_g2 (oj hn_g3 (oj hn_gm (oj htx (oj q0 (oj q1 (oj q2 q3)))))))) (fun hb=>?_) (fun hb=>?_)<;>refine yS (oj hn_g2 (oj hn_g3 (oj hn_gm (oj htx (oj q0 (oj q1 (oj q2 q3))))))) ?_)|(refine aw_gse rfl rfl (zE (oj hn_g2 (oj hn_g3 (oj hn_gm (oj htx (oj q0 (oj q1 (oj q2 q3)))))))) (fun hb=>?_) (fun hb=>?_)<;>refine yS (oj hn_g2 (oj hn_g3 (oj hn_gm (oj htx (oj q0 (oj q1 (oj q2 q3))))))) ?_)|(refine aw_gsn rfl rfl (zE (oj hn_g2 (oj hn_g3 (oj hn_gm (oj htx (oj q0 (oj q1 (oj q2 q3)))))))) (fun hb=>?_) (fun hb=>?_)<;>refine yS (oj hn_g2 (oj hn_g3 (oj hn_gm (oj htx (oj q0 (oj q1 (oj q2 q3))))))) ?_)|(refine aw_gs rfl rfl (zE (oj hn_g2 (oj hn_g3 (oj hn_gm (oj htx (oj q0 (oj q1 (oj q2 q3)))))))) (fun hb=>?_) (fun hb=>?_)<;>fail_if_success (cases hb;done)<;>refine yS (oj hn_g2 (oj hn_g3 (oj hn_gm (oj htx (oj q0 (oj q1 (oj q2 q3))))))) ?_)|(refine drk_gsd rfl rfl (zE (oj hn_g2 (oj hn_g3 (oj hn_gm (oj htx (oj q0 (oj q1 (oj q2 q3)))))))) (fun hb=>?_) (fun hb=>?_)<;>refine yS (oj hn_g2 (oj hn_g3 (oj hn_gm (oj htx (oj q0 (oj q1 (oj q2 q3))))))) ?_)|(refine drk_gse rfl rfl (zE (oj hn_g2 (oj hn_g3 (oj hn_gm (oj htx (oj q0 (oj q1 (oj q2 q3)))))))) (fun hb=>?_) (fun hb=>?_)<;>refine yS (oj hn_g2 (oj hn_g3 (oj hn_gm (oj htx (oj q0 (oj q1 (oj q2 q3))))))) ?_)|(refine drk_gsn rfl rfl (zE (oj hn_g2 (oj hn_g3 (oj hn_gm (oj htx (oj q0 (oj q1 (oj q2 q3)))))))) (fun hb=>?_) (fun hb=>?_)<;>refine yS (oj hn_g2 (oj hn_g3 (oj hn_gm (oj htx (oj q0 (oj q1 (oj q2 q3))))))) ?_)|(refine drk_gs rfl rfl (zE (oj hn_g2 (oj hn_g3 (oj hn_gm (oj htx (oj q0 (oj q1 (oj q2 q3)))))))) (fun hb=>?_) (fun hb=>?_)<;>fail_if_success (cases hb;done)<;>refine yS (oj hn_g2 (oj hn_g3 (oj hn_gm (oj htx (oj q0 (oj q1 (oj q2 q3))))))) ?_)
    refine aw_mapNew (a:=kP) (kv:=svL seen) (Kf:=keyS) (v:=.bool true) rfl rfl rfl (kt:=9) (et:=4) (by kernel_rfl) (keyS_ok (by kernel_rfl)) (zE (oj hn_g2 (oj hn_g3 (oj hn_gm (oj htx (oj q0 (oj q1 (oj q2 q3)))))))) (zE (oj hn_g2 (oj hn_g3 (oj hn_gm (oj htx (oj q0 (oj q1 (oj q2 q3)))))))) (ck:=.c (.str (sB kP))) (zE (oj hn_g2 (oj hn_g3 (oj hn_gm (oj htx (oj q0 (oj q1 (oj q2 q3)))))))) (fun _ _ _ h=>h) (cv:=.c (.bool true)) (zE (oj hn_g2 (oj hn_g3 (oj hn_gm (oj htx (oj q0 (oj q1 (oj q2 q3)))))))) (fun _ _ _ h=>h) (by rw [svL_get,hcs'];rfl) rfl ?_
    rw [←svL_cons]
    repeat' first|refine yA1 (oj hn_g2 (oj hn_g3 (oj hn_gm (oj htx (oj q0 (oj q1 (oj q2 q3))))))) ?_|(refine aw_cg (f7) rfl rfl rfl (zE (oj hn_g2 (oj hn_g3 (oj hn_gm (oj htx (oj q0 (oj q1 (oj q2 q3)))))))) (zL2 (oj hn_g2 (oj hn_g3 (oj hn_gm (oj htx (oj q0 (oj q1 (oj q2 q3)))))))) ?_;refine yS (oj hn_g2 (oj hn_g3 (oj hn_gm (oj htx (oj q0 (oj q1 (oj q2 q3))))))) ?_)|(refine yW (oj hn_g2 (oj hn_g3 (oj hn_gm (oj htx (oj q0 (oj q1 (oj q2 q3))))))) ?_;refine yS (oj hn_g2 (oj hn_g3 (oj hn_gm (oj htx (oj q0 (oj q1 (oj q2 q3))))))) ?_)|refine yP (oj hn_g2 (oj hn_g3 (oj hn_gm (oj htx (oj q0 (oj q1 (oj q2 q3))))))) ?_|refine yN (oj hn_g2 (oj hn_g3 (oj hn_gm (oj htx (oj q0 (oj q1 (oj q2 q3))))))) ?_|refine aw_cd (zE (oj hn_g2 (oj hn_g3 (oj hn_gm (oj htx (oj q0 (oj q1 (oj q2 q3)))))))) (fun hb=>?_) (fun hb=>?_)|refine aw_ce (zE (oj hn_g2 (oj hn_g3 (oj hn_gm (oj htx (oj q0 (oj q1 (oj q2 q3)))))))) (fun hb=>?_) (fun hb=>?_)|refine aw_cn (zE (oj hn_g2 (oj hn_g3 (oj hn_gm (oj htx (oj q0 (oj q1 (oj q2 q3)))))))) (fun hb=>?_) (fun hb=>?_)|(refine yF (oj hn_g2 (oj hn_g3 (oj hn_gm (oj htx (oj q0 (oj q1 (oj q2 q3))))))) (fun hb=>?_) (fun hb=>?_)<;>fail_if_success (cases hb;done))|(refine aw_gsd rfl rfl (zE (oj hn_g2 (oj hn_g3 (oj hn_gm (oj htx (oj q0 (oj q1 (oj q2 q3)))))))) (fun hb=>?_) (fun hb=>?_)<;>refine yS (oj hn_g2 (oj hn_g3 (oj hn_gm (oj htx (oj q0 (oj q1 (oj q2 q3))))))) ?_)|(refine aw_gse rfl rfl (zE (oj hn_g2 (oj hn_g3 (oj hn_gm (oj htx (oj q0 (oj q1 (oj q2 q3)))))))) (fun hb=>?_) (fun hb=>?_)<;>refine yS (oj hn_g2 (oj hn_g3 (oj hn_gm (oj htx (oj q0 (oj q1 (oj q2 q3))))))) ?_)|(refine aw_gsn rfl rfl (zE (oj hn_g2 (oj hn_g3 (oj hn_gm (oj htx (oj q0 (oj q1 (oj q2 q3)))))))) (fun hb=>?_) (fun hb=>?_)<;>refine yS (oj hn_g2 (oj hn_g3 (oj hn_gm (oj htx (oj q0 (oj q1 (oj q2 q3))))))) ?_)|(refine aw_gs rfl rfl (zE (oj hn_g2 (oj hn_g3 (oj hn_gm (oj htx (oj q0 (oj q1 (oj q2 q3)))))))) (fun hb=>?_) (fun hb=>?_)<;>fail_if_success (cases hb;done)<;>refine yS (oj hn_g2 (oj hn_g3 (oj hn_gm (oj htx (oj q0 (oj q1 (oj q2 q3))))))) ?_)|(refine drk_gsd rfl rfl (zE (oj hn_g2 (oj hn_g3 (oj hn_gm (oj htx (oj q0 (oj q1 (oj q2 q3)))))))) (fun hb=>?_) (fun hb=>?_)<;>refine yS (oj hn_g2 (oj hn_g3 (oj hn_gm (oj htx (oj q0 (oj q1 (oj q2 q3))))))) ?_)|(refine drk_gse rfl rfl (zE (oj hn_g2 (oj hn_g3 (oj hn_gm (oj htx (oj q0 (oj q1 (oj q2 q3)))))))) (fun hb=>?_) (fun hb=>?_)<;>refine yS (oj hn_g2 (oj hn_g3 (oj hn_gm (oj htx (oj q0 (oj q1 (oj q2 q3))))))) ?_)|(refine drk_gsn rfl rfl (zE (oj hn_g2 (oj hn_g3 (oj hn_gm (oj htx (oj q0 (oj q1 (oj q2 q3)))))))) (fun hb=>?_) (fun hb=>?_)<;>refine yS (oj hn_g2 (oj hn_g3 (oj hn_gm (oj htx (oj q0 (oj q1 (oj q2 q3))))))) ?_)|(refine drk_gs rfl rfl (zE (oj hn_g2 (oj hn_g3 (oj hn_gm (oj htx (oj q0 (oj q1 (oj q2 q3)))))))) (fun hb=>?_) (fun hb=>?_)<;>fail_if_success (cases hb;done)<;>refine yS (oj hn_g2 (oj hn_g3 (oj hn_gm (oj htx (oj q0 (oj q1 (oj q2 q3))))))) ?_)
    rw [hB] at hcon' hsuf
    rw [hst',hB] at hlp
    refine aw_stop ⟨((numS ⟨l',0⟩).2,kP::seen,{x with p:=(numS ⟨l',0⟩).1}),?_⟩
    refine⟨hcon',?_⟩
    and_intros
    all_goals first|rfl|exact List.Sublist.refl _|exact True.intro|exact hsuf|exact hlp|exact fun _=>by dsimp only;rw [List.contains_cons,hne h0];rfl
  ·rename_i h0 hc n0
   obtain⟨_,t,l',hl,hk,ht⟩:=is_tok hb
   have hB:=evB_fail seen x h0 hl hk ht
   have hat:L.length-sx.l.length<L.length:=Classical.byContradiction fun h=>by have:=hr.nil h;rw [this] at hl;cases hl
   obtain⟨l2,hl2,hl3⟩:=hr.cons hat
   have htx:(L.getD (L.length-sx.l.length) tx0).t.text=kFail:=by
    have hx:=(List.cons.inj (hl.symm.trans hl2)).1
    rw [←hx];exact ht
   have hsl:l'<:+L.map TX.t:=(show l'<:+sx.l from by rw [hl];exact List.suffix_cons t l').trans hsx
   have hcon':=hcon h0
   have hst':=hst h0 hc
   have q0:(kFail==kP)=false:=rfl
   have q1:(kFail==kFail)=true:=rfl
   have q2:(kFail==kRepair)=false:=rfl
   have q3:(kFail==kCost)=false:=rfl
   refine aw_dr 16 ty_mixed (by kernel_rfl) ?_
   repeat' first|refine yA1 (oj hn_g2 (oj hn_g3 (oj hn_gm (oj htx (oj q0 (oj q1 (oj q2 q3))))))) ?_|(refine yW (oj hn_g2 (oj hn_g3 (oj hn_gm (oj htx (oj q0 (oj q1 (oj q2 q3))))))) ?_;refine yS (oj hn_g2 (oj hn_g3 (oj hn_gm (oj htx (oj q0 (oj q1 (oj q2 q3))))))) ?_)|refine yP (oj hn_g2 (oj hn_g3 (oj hn_gm (oj htx (oj q0 (oj q1 (oj q2 q3))))))) ?_|refine yN (oj hn_g2 (oj hn_g3 (oj hn_gm (oj htx (oj q0 (oj q1 (oj q2 q3))))))) ?_|refine aw_cd (zE (oj hn_g2 (oj hn_g3 (oj hn_gm (oj htx (oj q0 (oj q1 (oj q2 q3)))))))) (fun hb=>?_) (fun hb=>?_)|refine aw_ce (zE (oj hn_g2 (oj hn_g3 (oj hn_gm (oj htx (oj q0 (oj q1 (oj q2 q3)))))))) (fun hb=>?_) (fun hb=>?_)|refine aw_cn (zE (oj hn_g2 (oj hn_g3 (oj hn_gm (oj htx (oj q0 (oj q1 (oj q2 q3)))))))) (fun hb=>?_) (fun hb=>?_)|(refine yF (oj hn_g2 (oj hn_g3 (oj hn_gm (oj htx (oj q0 (oj q1 (oj q2 q3))))))) (fun hb=>?_) (fun hb=>?_)<;>fail_if_success (cases hb;done))|(refine aw_gsd rfl rfl (zE (oj hn_g2 (oj hn_g3 (oj hn_gm (oj htx (oj q0 (oj q1 (oj q2 q3)))))))) (fun hb=>?_) (fun hb=>?_)<;>refine yS (oj hn_g2 (oj hn_g3 (oj hn_gm (oj htx (oj q0 (oj q1 (oj q2 q3))))))) ?_)|(refine aw_gse rfl rfl (zE (oj hn_g2 (oj hn_g3 (oj hn_gm (oj htx (oj q0 (oj q1 (oj q2 q3)))))))) (fun hb=>?_) (fun hb=>?_)<;>refine yS (oj hn_g2 (oj hn_g3 (oj hn_gm (oj htx (oj q0 (oj q1 (oj q2 q3))))))) ?_)|(refine aw_gsn rfl rfl (zE (oj hn_g2 (oj hn_g3 (oj hn_gm (oj htx (oj q0 (oj q1 (oj q2 q3)))))))) (fun hb=>?_) (fun hb=>?_)<;>refine yS (oj hn_g2 (oj hn_g3 (oj hn_gm (oj htx (oj q0 (oj q1 (oj q2 q3))))))) ?_)|(refine aw_gs rfl rfl (zE (oj hn_g2 (oj hn_g3 (oj hn_gm (oj htx (oj q0 (oj q1 (oj q2 q3)))))))) (fun hb=>?_) (fun hb=>?_)<;>fail_if_success (cases hb;done)<;>refine yS (oj hn_g2 (oj hn_g3 (oj hn_gm (oj htx (oj q0 (oj q1 (oj q2 q3))))))) ?_)|(refine drk_gsd rfl rfl (zE (oj hn_g2 (oj hn_g3 (oj hn_gm (oj htx (oj q0 (oj q1 (oj q2 q3)))))))) (fun hb=>?_) (fun hb=>?_)<;>refine yS (oj hn_g2 (oj hn_g3 (oj hn_gm (oj htx (oj q0 (oj q1 (oj q2 q3))))))) ?_)|(refine drk_gse rfl rfl (zE (oj hn_g2 (oj hn_g3 (oj hn_gm (oj htx (oj q0 (oj q1 (oj q2 q3)))))))) (fun hb=>?_) (fun hb=>?_)<;>refine yS (oj hn_g2 (oj hn_g3 (oj hn_gm (oj htx (oj q0 (oj q1 (oj q2 q3))))))) ?_)|(refine drk_gsn rfl rfl (zE (oj hn_g2 (oj hn_g3 (oj hn_gm (oj htx (oj q0 (oj q1 (oj q2 q3)))))))) (fun hb=>?_) (fun hb=>?_)<;>refine yS (oj hn_g2 (oj hn_g3 (oj hn_gm (oj htx (oj q0 (oj q1 (oj q2 q3))))))) ?_)|(refine drk_gs rfl rfl (zE (oj hn_g2 (oj hn_g3 (oj hn_gm (oj htx (oj q0 (oj q1 (oj q2 q3)))))))) (fun hb=>?_) (fun hb=>?_)<;>fail_if_success (cases hb;done)<;>refine yS (oj hn_g2 (oj hn_g3 (oj hn_gm (oj htx (oj q0 (oj q1 (oj q2 q3))))))) ?_)
   refine drk_lookup1 (a:=kFail) (kv:=svL seen) (Kf:=keyS) (z:=.bool false) rfl rfl rfl (kt:=9) (et:=4) (by kernel_rfl) (keyS_ok (by kernel_rfl)) (by kernel_rfl) (zE (oj hn_g2 (oj hn_g3 (oj hn_gm (oj htx (oj q0 (oj q1 (oj q2 q3)))))))) (zE (oj hn_g2 (oj hn_g3 (oj hn_gm (oj htx (oj q0 (oj q1 (oj q2 q3)))))))) (ck:=.c (.str (sB kFail))) (zE (oj hn_g2 (oj hn_g3 (oj hn_gm (oj htx (oj q0 (oj q1 (oj q2 q3)))))))) (fun _ _ _ h=>h) ?_
   rw [svL_get]
   by_cases hcs:seen.contains kFail=true
   ·rw [if_pos hcs] at hB⊢
    have f6:=fail_fg g L sx 6 (by decide)
    repeat' first|refine yA1 (oj hn_g2 (oj hn_g3 (oj hn_gm (oj htx (oj q0 (oj q1 (oj q2 q3))))))) ?_|(refine aw_cg (f6) rfl rfl rfl (zE (oj hn_g2 (oj hn_g3 (oj hn_gm (oj htx (oj q0 (oj q1 (oj q2 q3)))))))) (zL2 (oj hn_g2 (oj hn_g3 (oj hn_gm (oj htx (oj q0 (oj q1 (oj q2 q3)))))))) ?_;refine yS (oj hn_g2 (oj hn_g3 (oj hn_gm (oj htx (oj q0 (oj q1 (oj q2 q3))))))) ?_)|(refine yW (oj hn_g2 (oj hn_g3 (oj hn_gm (oj htx (oj q0 (oj q1 (oj q2 q3))))))) ?_;refine yS (oj hn_g2 (oj hn_g3 (oj hn_gm (oj htx (oj q0 (oj q1 (oj q2 q3))))))) ?_)|refine yP (oj hn_g2 (oj hn_g3 (oj hn_gm (oj htx (oj q0 (oj q1 (oj q2 q3))))))) ?_|refine yN (oj hn_g2 (oj hn_g3 (oj hn_gm (oj htx (oj q0 (oj q1 (oj q2 q3))))))) ?_|refine aw_cd (zE (oj hn_g2 (oj hn_g3 (oj hn_gm (oj htx (oj q0 (oj q1 (oj q2 q3)))))))) (fun hb=>?_) (fun hb=>?_)|refine aw_ce (zE (oj hn_g2 (oj hn_g3 (oj hn_gm (oj htx (oj q0 (oj q1 (oj q2 q3)))))))) (fun hb=>?_) (fun hb=>?_)|refine aw_cn (zE (oj hn_g2 (oj hn_g3 (oj hn_gm (oj htx (oj q0 (oj q1 (oj q2 q3)))))))) (fun hb=>?_) (fun hb=>?_)|(refine yF (oj hn_g2 (oj hn_g3 (oj hn_gm (oj htx (oj q0 (oj q1 (oj q2 q3))))))) (fun hb=>?_) (fun hb=>?_)<;>fail_if_success (cases hb;done))|(refine aw_gsd rfl rfl (zE (oj hn_g2 (oj hn_g3 (oj hn_gm (oj htx (oj q0 (oj q1 (oj q2 q3)))))))) (fun hb=>?_) (fun hb=>?_)<;>refine yS (oj hn_g2 (oj hn_g3 (oj hn_gm (oj htx (oj q0 (oj q1 (oj q2 q3))))))) ?_)|(refine aw_gse rfl rfl (zE (oj hn_g2 (oj hn_g3 (oj hn_gm (oj htx (oj q0 (oj q1 (oj q2 q3)))))))) (fun hb=>?_) (fun hb=>?_)<;>refine yS (oj hn_g2 (oj hn_g3 (oj hn_gm (oj htx (oj q0 (oj q1 (oj q2 q3))))))) ?_)|(refine aw_gsn rfl rfl (zE (oj hn_g2 (oj hn_g3 (oj hn_gm (oj htx (oj q0 (oj q1 (oj q2 q3)))))))) (fun hb=>?_) (fun hb=>?_)<;>refine yS (oj hn_g2 (oj hn_g3 (oj hn_gm (oj htx (oj q0 (oj q1 (oj q2 q3))))))) ?_)|(refine aw_gs rfl rfl (zE (oj hn_g2 (oj hn_g3 (oj hn_gm (oj htx (oj q0 (oj q1 (oj q2 q3)))))))) (fun hb=>?_) (fun hb=>?_)<;>fail_if_success (cases hb;done)<;>refine yS (oj hn_g2 (oj hn_g3 (oj hn_gm (oj htx (oj q0 (oj q1 (oj q2 q3))))))) ?_)|(refine drk_gsd rfl rfl (zE (oj hn_g2 (oj hn_g3 (oj hn_gm (oj htx (oj q0 (oj q1 (oj q2 q3)))))))) (fun hb=>?_) (fun hb=>?_)<;>refine yS (oj hn_g2 (oj hn_g3 (oj hn_gm (oj htx (oj q0 (oj q1 (oj q2 q3))))))) ?_)|(refine drk_gse rfl rfl (zE (oj hn_g2 (oj hn_g3 (oj hn_gm (oj htx (oj q0 (oj q1 (oj q2 q3)))))))) (fun hb=>?_) (fun hb=>?_)<;>refine yS (oj hn_g2 (oj hn_g3 (oj hn_gm (oj htx (oj q0 (oj q1 (oj q2 q3))))))) ?_)|(refine drk_gsn rfl rfl (zE (oj hn_g2 (oj hn_g3 (oj hn_gm (oj htx (oj q0 (oj q1 (oj q2 q3)))))))) (fun hb=>?_) (fun hb=>?_)<;>refine yS (oj hn_g2 (oj hn_g3 (oj hn_gm (oj htx (oj q0 (oj q1 (oj q2 q3))))))) ?_)|(refine drk_gs rfl rfl (zE (oj hn_g2 (oj hn_g3 (oj hn_gm (oj htx (oj q0 (oj q1 (oj q2 q3)))))))) (fun hb=>?_) (fun hb=>?_)<;>fail_if_success (cases hb;done)<;>refine yS (oj hn_g2 (oj hn_g3 (oj hn_gm (oj htx (oj q0 (oj q1 (oj q2 q3))))))) ?_)
    rw [hst',hB,lpS_end (fun z=>by have:=z.1;unfold failS at this;rw [if_pos h0] at this;exact absurd this (by simp))] at hlp
    subst hlp
    refine aw_stop ⟨(),?_⟩
    and_intros<;>first|rfl|exact List.Sublist.cons _ (List.Sublist.refl _)|exact True.intro
   ·rw [if_neg hcs] at hB⊢
    have hcs':seen.contains kFail=false:=by simpa using hcs
    have f6:=take_fg g L sx true hsx om
    rw [take_cons h0 hl,if_pos rfl,ht] at f6
    dsimp only at f6
    have f7:=number_fg g L ⟨l',0⟩ hsl om hw
    repeat' first|refine yA1 (oj hn_g2 (oj hn_g3 (oj hn_gm (oj htx (oj q0 (oj q1 (oj q2 q3))))))) ?_|(refine aw_cg (f6) rfl rfl rfl (zE (oj hn_g2 (oj hn_g3 (oj hn_gm (oj htx (oj q0 (oj q1 (oj q2 q3)))))))) (zL2 (oj hn_g2 (oj hn_g3 (oj hn_gm (oj htx (oj q0 (oj q1 (oj q2 q3)))))))) ?_;refine yS (oj hn_g2 (oj hn_g3 (oj hn_gm (oj htx (oj q0 (oj q1 (oj q2 q3))))))) ?_)|(refine yW (oj hn_g2 (oj hn_g3 (oj hn_gm (oj htx (oj q0 (oj q1 (oj q2 q3))))))) ?_;refine yS (oj hn_g2 (oj hn_g3 (oj hn_gm (oj htx (oj q0 (oj q1 (oj q2 q3))))))) ?_)|refine yP (oj hn_g2 (oj hn_g3 (oj hn_gm (oj htx (oj q0 (oj q1 (oj q2 q3))))))) ?_|refine yN (oj hn_g2 (oj hn_g3 (oj hn_gm (oj htx (oj q0 (oj q1 (oj q2 q3))))))) ?_|refine aw_cd (zE (oj hn_g2 (oj hn_g3 (oj hn_gm (oj htx (oj q0 (oj q1 (oj q2 q3)))))))) (fun hb=>?_) (fun hb=>?_)|refine aw_ce (zE (oj hn_g2 (oj hn_g3 (oj hn_gm (oj htx (oj q0 (oj q1 (oj q2 q3)))))))) (fun hb=>?_) (fun hb=>?_)|refine aw_cn (zE (oj hn_g2 (oj hn_g3 (oj hn_gm (oj htx (oj q0 (oj q1 (oj q2 q3)))))))) (fun hb=>?_) (fun hb=>?_)|(refine yF (oj hn_g2 (oj hn_g3 (oj hn_gm (oj htx (oj q0 (oj q1 (oj q2 q3))))))) (fun hb=>?_) (fun hb=>?_)<;>fail_if_success (cases hb;done))|(refine aw_gsd rfl rfl (zE (oj hn_g2 (oj hn_g3 (oj hn_gm (oj htx (oj q0 (oj q1 (oj q2 q3)))))))) (fun hb=>?_) (fun hb=>?_)<;>refine yS (oj hn_g2 (oj hn_g3 (oj hn_gm (oj htx (oj q0 (oj q1 (oj q2 q3))))))) ?_)|(refine aw_gse rfl rfl (zE (oj hn_g2 (oj hn_g3 (oj hn_gm (oj htx (oj q0 (oj q1 (oj q2 q3)))))))) (fun hb=>?_) (fun hb=>?_)<;>refine yS (oj hn_g2 (oj hn_g3 (oj hn_gm (oj htx (oj q0 (oj q1 (oj q2 q3))))))) ?_)|(refine aw_gsn rfl rfl (zE (oj hn_g2 (oj hn_g3 (oj hn_gm (oj htx (oj q0 (oj q1 (oj q2 q3)))))))) (fun hb=>?_) (fun hb=>?_)<;>refine yS (oj hn_g2 (oj hn_g3 (oj hn_gm (oj htx (oj q0 (oj q1 (oj q2 q3))))))) ?_)|(refine aw_gs rfl rfl (zE (oj hn_g2 (oj hn_g3 (oj hn_gm (oj htx (oj q0 (oj q1 (oj q2 q3)))))))) (fun hb=>?_) (fun hb=>?_)<;>fail_if_success (cases hb;done)<;>refine yS (oj hn_g2 (oj hn_g3 (oj hn_gm (oj htx (oj q0 (oj q1 (oj q2 q3))))))) ?_)|(refine drk_gsd rfl rfl (zE (oj hn_g2 (oj hn_g3 (oj hn_gm (oj htx (oj q0 (oj q1 (oj q2 q3)))))))) (fun hb=>?_) (fun hb=>?_)<;>refine yS (oj hn_g2 (oj hn_g3 (oj hn_gm (oj htx (oj q0 (oj q1 (oj q2 q3))))))) ?_)|(refine drk_gse rfl rfl (zE (oj hn_g2 (oj hn_g3 (oj hn_gm (oj htx (oj q0 (oj q1 (oj q2 q3)))))))) (fun hb=>?_) (fun hb=>?_)<;>refine yS (oj hn_g2 (oj hn_g3 (oj hn_gm (oj htx (oj q0 (oj q1 (oj q2 q3))))))) ?_)|(refine drk_gsn rfl rfl (zE (oj hn_g2 (oj hn_g3 (oj hn_gm (oj htx (oj q0 (oj q1 (oj q2 q3)))))))) (fun hb=>?_) (fun hb=>?_)<;>refine yS (oj hn_g2 (oj hn_g3 (oj hn_gm (oj htx (oj q0 (oj q1 (oj q2 q3))))))) ?_)|(refine drk_gs rfl rfl (zE (oj hn_g2 (oj hn_g3 (oj hn_gm (oj htx (oj q0 (oj q1 (oj q2 q3)))))))) (fun hb=>?_) (fun hb=>?_)<;>fail_if_success (cases hb;done)<;>refine yS (oj hn_g2 (oj hn_g3 (oj hn_gm (oj htx (oj q0 (oj q1 (oj q2 q3))))))) ?_)
    refine aw_mapNew (a:=kFail) (kv:=svL seen) (Kf:=keyS) (v:=.bool true) rfl rfl rfl (kt:=9) (et:=4) (by kernel_rfl) (keyS_ok (by kernel_rfl)) (zE (oj hn_g2 (oj hn_g3 (oj hn_gm (oj htx (oj q0 (oj q1 (oj q2 q3)))))))) (zE (oj hn_g2 (oj hn_g3 (oj hn_gm (oj htx (oj q0 (oj q1 (oj q2 q3)))))))) (ck:=.c (.str (sB kFail))) (zE (oj hn_g2 (oj hn_g3 (oj hn_gm (oj htx (oj q0 (oj q1 (oj q2 q3)))))))) (fun _ _ _ h=>h) (cv:=.c (.bool true)) (zE (oj hn_g2 (oj hn_g3 (oj hn_gm (oj htx (oj q0 (oj q1 (oj q2 q3)))))))) (fun _ _ _ h=>h) (by rw [svL_get,hcs'];rfl) rfl ?_
    rw [←svL_cons]
    repeat' first|refine yA1 (oj hn_g2 (oj hn_g3 (oj hn_gm (oj htx (oj q0 (oj q1 (oj q2 q3))))))) ?_|(refine aw_cg (f7) rfl rfl rfl (zE (oj hn_g2 (oj hn_g3 (oj hn_gm (oj htx (oj q0 (oj q1 (oj q2 q3)))))))) (zL2 (oj hn_g2 (oj hn_g3 (oj hn_gm (oj htx (oj q0 (oj q1 (oj q2 q3)))))))) ?_;refine yS (oj hn_g2 (oj hn_g3 (oj hn_gm (oj htx (oj q0 (oj q1 (oj q2 q3))))))) ?_)|(refine yW (oj hn_g2 (oj hn_g3 (oj hn_gm (oj htx (oj q0 (oj q1 (oj q2 q3))))))) ?_;refine yS (oj hn_g2 (oj hn_g3 (oj hn_gm (oj htx (oj q0 (oj q1 (oj q2 q3))))))) ?_)|refine yP (oj hn_g2 (oj hn_g3 (oj hn_gm (oj htx (oj q0 (oj q1 (oj q2 q3))))))) ?_|refine yN (oj hn_g2 (oj hn_g3 (oj hn_gm (oj htx (oj q0 (oj q1 (oj q2 q3))))))) ?_|refine aw_cd (zE (oj hn_g2 (oj hn_g3 (oj hn_gm (oj htx (oj q0 (oj q1 (oj q2 q3)))))))) (fun hb=>?_) (fun hb=>?_)|refine aw_ce (zE (oj hn_g2 (oj hn_g3 (oj hn_gm (oj htx (oj q0 (oj q1 (oj q2 q3)))))))) (fun hb=>?_) (fun hb=>?_)|refine aw_cn (zE (oj hn_g2 (oj hn_g3 (oj hn_gm (oj htx (oj q0 (oj q1 (oj q2 q3)))))))) (fun hb=>?_) (fun hb=>?_)|(refine yF (oj hn_g2 (oj hn_g3 (oj hn_gm (oj htx (oj q0 (oj q1 (oj q2 q3))))))) (fun hb=>?_) (fun hb=>?_)<;>fail_if_success (cases hb;done))|(refine aw_gsd rfl rfl (zE (oj hn_g2 (oj hn_g3 (oj hn_gm (oj htx (oj q0 (oj q1 (oj q2 q3)))))))) (fun hb=>?_) (fun hb=>?_)<;>refine yS (oj hn_g2 (oj hn_g3 (oj hn_gm (oj htx (oj q0 (oj q1 (oj q2 q3))))))) ?_)|(refine aw_gse rfl rfl (zE (oj hn_g2 (oj hn_g3 (oj hn_gm (oj htx (oj q0 (oj q1 (oj q2 q3)))))))) (fun hb=>?_) (fun hb=>?_)<;>refine yS (oj hn_g2 (oj hn_g3 (oj hn_gm (oj htx (oj q0 (oj q1 (oj q2 q3))))))) ?_)|(refine aw_gsn rfl rfl (zE (oj hn_g2 (oj hn_g3 (oj hn_gm (oj htx (oj q0 (oj q1 (oj q2 q3)))))))) (fun hb=>?_) (fun hb=>?_)<;>refine yS (oj hn_g2 (oj hn_g3 (oj hn_gm (oj htx (oj q0 (oj q1 (oj q2 q3))))))) ?_)|(refine aw_gs rfl rfl (zE (oj hn_g2 (oj hn_g3 (oj hn_gm (oj htx (oj q0 (oj q1 (oj q2 q3)))))))) (fun hb=>?_) (fun hb=>?_)<;>fail_if_success (cases hb;done)<;>refine yS (oj hn_g2 (oj hn_g3 (oj hn_gm (oj htx (oj q0 (oj q1 (oj q2 q3))))))) ?_)|(refine drk_gsd rfl rfl (zE (oj hn_g2 (oj hn_g3 (oj hn_gm (oj htx (oj q0 (oj q1 (oj q2 q3)))))))) (fun hb=>?_) (fun hb=>?_)<;>refine yS (oj hn_g2 (oj hn_g3 (oj hn_gm (oj htx (oj q0 (oj q1 (oj q2 q3))))))) ?_)|(refine drk_gse rfl rfl (zE (oj hn_g2 (oj hn_g3 (oj hn_gm (oj htx (oj q0 (oj q1 (oj q2 q3)))))))) (fun hb=>?_) (fun hb=>?_)<;>refine yS (oj hn_g2 (oj hn_g3 (oj hn_gm (oj htx (oj q0 (oj q1 (oj q2 q3))))))) ?_)|(refine drk_gsn rfl rfl (zE (oj hn_g2 (oj hn_g3 (oj hn_gm (oj htx (oj q0 (oj q1 (oj q2 q3)))))))) (fun hb=>?_) (fun hb=>?_)<;>refine yS (oj hn_g2 (oj hn_g3 (oj hn_gm (oj htx (oj q0 (oj q1 (oj q2 q3))))))) ?_)|(refine drk_gs rfl rfl (zE (oj hn_g2 (oj hn_g3 (oj hn_gm (oj htx (oj q0 (oj q1 (oj q2 q3)))))))) (fun hb=>?_) (fun hb=>?_)<;>fail_if_success (cases hb;done)<;>refine yS (oj hn_g2 (oj hn_g3 (oj hn_gm (oj htx (oj q0 (oj q1 (oj q2 q3))))))) ?_)
    rw [hB] at hcon' hsuf
    rw [hst',hB] at hlp
    refine aw_stop ⟨((numS ⟨l',0⟩).2,kFail::seen,{x with fail:=(numS ⟨l',0⟩).1}),?_⟩
    refine⟨hcon',?_⟩
    and_intros
    all_goals first|rfl|exact List.Sublist.refl _|exact True.intro|exact hsuf|exact hlp|exact fun _=>by dsimp only;rw [List.contains_cons,hne h0];rfl
  ·rename_i h0 hc n0 n1
   obtain⟨_,t,l',hl,hk,ht⟩:=is_tok hb
   have hB:=evB_rep seen x h0 hl hk ht
   have hat:L.length-sx.l.length<L.length:=Classical.byContradiction fun h=>by have:=hr.nil h;rw [this] at hl;cases hl
   obtain⟨l2,hl2,hl3⟩:=hr.cons hat
   have htx:(L.getD (L.length-sx.l.length) tx0).t.text=kRepair:=by
    have hx:=(List.cons.inj (hl.symm.trans hl2)).1
    rw [←hx];exact ht
   have hsl:l'<:+L.map TX.t:=(show l'<:+sx.l from by rw [hl];exact List.suffix_cons t l').trans hsx
   have hcon':=hcon h0
   have hst':=hst h0 hc
   have q0:(kRepair==kP)=false:=rfl
   have q1:(kRepair==kFail)=false:=rfl
   have q2:(kRepair==kRepair)=true:=rfl
   have q3:(kRepair==kCost)=false:=rfl
   refine aw_dr 16 ty_mixed (by kernel_rfl) ?_
   repeat' first|refine yA1 (oj hn_g2 (oj hn_g3 (oj hn_gm (oj htx (oj q0 (oj q1 (oj q2 q3))))))) ?_|(refine yW (oj hn_g2 (oj hn_g3 (oj hn_gm (oj htx (oj q0 (oj q1 (oj q2 q3))))))) ?_;refine yS (oj hn_g2 (oj hn_g3 (oj hn_gm (oj htx (oj q0 (oj q1 (oj q2 q3))))))) ?_)|refine yP (oj hn_g2 (oj hn_g3 (oj hn_gm (oj htx (oj q0 (oj q1 (oj q2 q3))))))) ?_|refine yN (oj hn_g2 (oj hn_g3 (oj hn_gm (oj htx (oj q0 (oj q1 (oj q2 q3))))))) ?_|refine aw_cd (zE (oj hn_g2 (oj hn_g3 (oj hn_gm (oj htx (oj q0 (oj q1 (oj q2 q3)))))))) (fun hb=>?_) (fun hb=>?_)|refine aw_ce (zE (oj hn_g2 (oj hn_g3 (oj hn_gm (oj htx (oj q0 (oj q1 (oj q2 q3)))))))) (fun hb=>?_) (fun hb=>?_)|refine aw_cn (zE (oj hn_g2 (oj hn_g3 (oj hn_gm (oj htx (oj q0 (oj q1 (oj q2 q3)))))))) (fun hb=>?_) (fun hb=>?_)|(refine yF (oj hn_g2 (oj hn_g3 (oj hn_gm (oj htx (oj q0 (oj q1 (oj q2 q3))))))) (fun hb=>?_) (fun hb=>?_)<;>fail_if_success (cases hb;done))|(refine aw_gsd rfl rfl (zE (oj hn_g2 (oj hn_g3 (oj hn_gm (oj htx (oj q0 (oj q1 (oj q2 q3)))))))) (fun hb=>?_) (fun hb=>?_)<;>refine yS (oj hn_g2 (oj hn_g3 (oj hn_gm (oj htx (oj q0 (oj q1 (oj q2 q3))))))) ?_)|(refine aw_gse rfl rfl (zE (oj hn_g2 (oj hn_g3 (oj hn_gm (oj htx (oj q0 (oj q1 (oj q2 q3)))))))) (fun hb=>?_) (fun hb=>?_)<;>refine yS (oj hn_g2 (oj hn_g3 (oj hn_gm (oj htx (oj q0 (oj q1 (oj q2 q3))))))) ?_)|(refine aw_gsn rfl rfl (zE (oj hn_g2 (oj hn_g3 (oj hn_gm (oj htx (oj q0 (oj q1 (oj q2 q3)))))))) (fun hb=>?_) (fun hb=>?_)<;>refine yS (oj hn_g2 (oj hn_g3 (oj hn_gm (oj htx (oj q0 (oj q1 (oj q2 q3))))))) ?_)|(refine aw_gs rfl rfl (zE (oj hn_g2 (oj hn_g3 (oj hn_gm (oj htx (oj q0 (oj q1 (oj q2 q3)))))))) (fun hb=>?_) (fun hb=>?_)<;>fail_if_success (cases hb;done)<;>refine yS (oj hn_g2 (oj hn_g3 (oj hn_gm (oj htx (oj q0 (oj q1 (oj q2 q3))))))) ?_)|(refine drk_gsd rfl rfl (zE (oj hn_g2 (oj hn_g3 (oj hn_gm (oj htx (oj q0 (oj q1 (oj q2 q3)))))))) (fun hb=>?_) (fun hb=>?_)<;>refine yS (oj hn_g2 (oj hn_g3 (oj hn_gm (oj htx (oj q0 (oj q1 (oj q2 q3))))))) ?_)|(refine drk_gse rfl rfl (zE (oj hn_g2 (oj hn_g3 (oj hn_gm (oj htx (oj q0 (oj q1 (oj q2 q3)))))))) (fun hb=>?_) (fun hb=>?_)<;>refine yS (oj hn_g2 (oj hn_g3 (oj hn_gm (oj htx (oj q0 (oj q1 (oj q2 q3))))))) ?_)|(refine drk_gsn rfl rfl (zE (oj hn_g2 (oj hn_g3 (oj hn_gm (oj htx (oj q0 (oj q1 (oj q2 q3)))))))) (fun hb=>?_) (fun hb=>?_)<;>refine yS (oj hn_g2 (oj hn_g3 (oj hn_gm (oj htx (oj q0 (oj q1 (oj q2 q3))))))) ?_)|(refine drk_gs rfl rfl (zE (oj hn_g2 (oj hn_g3 (oj hn_gm (oj htx (oj q0 (oj q1 (oj q2 q3)))))))) (fun hb=>?_) (fun hb=>?_)<;>fail_if_success (cases hb;done)<;>refine yS (oj hn_g2 (oj hn_g3 (oj hn_gm (oj htx (oj q0 (oj q1 (oj q2 q3))))))) ?_)
   refine drk_lookup1 (a:=kRepair) (kv:=svL seen) (Kf:=keyS) (z:=.bool false) rfl rfl rfl (kt:=9) (et:=4) (by kernel_rfl) (keyS_ok (by kernel_rfl)) (by kernel_rfl) (zE (oj hn_g2 (oj hn_g3 (oj hn_gm (oj htx (oj q0 (oj q1 (oj q2 q3)))))))) (zE (oj hn_g2 (oj hn_g3 (oj hn_gm (oj htx (oj q0 (oj q1 (oj q2 q3)))))))) (ck:=.c (.str (sB kRepair))) (zE (oj hn_g2 (oj hn_g3 (oj hn_gm (oj htx (oj q0 (oj q1 (oj q2 q3)))))))) (fun _ _ _ h=>h) ?_
   rw [svL_get]
   by_cases hcs:seen.contains kRepair=true
   ·rw [if_pos hcs] at hB⊢
    have f6:=fail_fg g L sx 6 (by decide)
    repeat' first|refine yA1 (oj hn_g2 (oj hn_g3 (oj hn_gm (oj htx (oj q0 (oj q1 (oj q2 q3))))))) ?_|(refine aw_cg (f6) rfl rfl rfl (zE (oj hn_g2 (oj hn_g3 (oj hn_gm (oj htx (oj q0 (oj q1 (oj q2 q3)))))))) (zL2 (oj hn_g2 (oj hn_g3 (oj hn_gm (oj htx (oj q0 (oj q1 (oj q2 q3)))))))) ?_;refine yS (oj hn_g2 (oj hn_g3 (oj hn_gm (oj htx (oj q0 (oj q1 (oj q2 q3))))))) ?_)|(refine yW (oj hn_g2 (oj hn_g3 (oj hn_gm (oj htx (oj q0 (oj q1 (oj q2 q3))))))) ?_;refine yS (oj hn_g2 (oj hn_g3 (oj hn_gm (oj htx (oj q0 (oj q1 (oj q2 q3))))))) ?_)|refine yP (oj hn_g2 (oj hn_g3 (oj hn_gm (oj htx (oj q0 (oj q1 (oj q2 q3))))))) ?_|refine yN (oj hn_g2 (oj hn_g3 (oj hn_gm (oj htx (oj q0 (oj q1 (oj q2 q3))))))) ?_|refine aw_cd (zE (oj hn_g2 (oj hn_g3 (oj hn_gm (oj htx (oj q0 (oj q1 (oj q2 q3)))))))) (fun hb=>?_) (fun hb=>?_)|refine aw_ce (zE (oj hn_g2 (oj hn_g3 (oj hn_gm (oj htx (oj q0 (oj q1 (oj q2 q3)))))))) (fun hb=>?_) (fun hb=>?_)|refine aw_cn (zE (oj hn_g2 (oj hn_g3 (oj hn_gm (oj htx (oj q0 (oj q1 (oj q2 q3)))))))) (fun hb=>?_) (fun hb=>?_)|(refine yF (oj hn_g2 (oj hn_g3 (oj hn_gm (oj htx (oj q0 (oj q1 (oj q2 q3))))))) (fun hb=>?_) (fun hb=>?_)<;>fail_if_success (cases hb;done))|(refine aw_gsd rfl rfl (zE (oj hn_g2 (oj hn_g3 (oj hn_gm (oj htx (oj q0 (oj q1 (oj q2 q3)))))))) (fun hb=>?_) (fun hb=>?_)<;>refine yS (oj hn_g2 (oj hn_g3 (oj hn_gm (oj htx (oj q0 (oj q1 (oj q2 q3))))))) ?_)|(refine aw_gse rfl rfl (zE (oj hn_g2 (oj hn_g3 (oj hn_gm (oj htx (oj q0 (oj q1 (oj q2 q3)))))))) (fun hb=>?_) (fun hb=>?_)<;>refine yS (oj hn_g2 (oj hn_g3 (oj hn_gm (oj htx (oj q0 (oj q1 (oj q2 q3))))))) ?_)|(refine aw_gsn rfl rfl (zE (oj hn_g2 (oj hn_g3 (oj hn_gm (oj htx (oj q0 (oj q1 (oj q2 q3)))))))) (fun hb=>?_) (fun hb=>?_)<;>refine yS (oj hn_g2 (oj hn_g3 (oj hn_gm (oj htx (oj q0 (oj q1 (oj q2 q3))))))) ?_)|(refine aw_gs rfl rfl (zE (oj hn_g2 (oj hn_g3 (oj hn_gm (oj htx (oj q0 (oj q1 (oj q2 q3)))))))) (fun hb=>?_) (fun hb=>?_)<;>fail_if_success (cases hb;done)<;>refine yS (oj hn_g2 (oj hn_g3 (oj hn_gm (oj htx (oj q0 (oj q1 (oj q2 q3))))))) ?_)|(refine drk_gsd rfl rfl (zE (oj hn_g2 (oj hn_g3 (oj hn_gm (oj htx (oj q0 (oj q1 (oj q2 q3)))))))) (fun hb=>?_) (fun hb=>?_)<;>refine yS (oj hn_g2 (oj hn_g3 (oj hn_gm (oj htx (oj q0 (oj q1 (oj q2 q3))))))) ?_)|(refine drk_gse rfl rfl (zE (oj hn_g2 (oj hn_g3 (oj hn_gm (oj htx (oj q0 (oj q1 (oj q2 q3)))))))) (fun hb=>?_) (fun hb=>?_)<;>refine yS (oj hn_g2 (oj hn_g3 (oj hn_gm (oj htx (oj q0 (oj q1 (oj q2 q3))))))) ?_)|(refine drk_gsn rfl rfl (zE (oj hn_g2 (oj hn_g3 (oj hn_gm (oj htx (oj q0 (oj q1 (oj q2 q3)))))))) (fun hb=>?_) (fun hb=>?_)<;>refine yS (oj hn_g2 (oj hn_g3 (oj hn_gm (oj htx (oj q0 (oj q1 (oj q2 q3))))))) ?_)|(refine drk_gs rfl rfl (zE (oj hn_g2 (oj hn_g3 (oj hn_gm (oj htx (oj q0 (oj q1 (oj q2 q3)))))))) (fun hb=>?_) (fun hb=>?_)<;>fail_if_success (cases hb;done)<;>refine yS (oj hn_g2 (oj hn_g3 (oj hn_gm (oj htx (oj q0 (oj q1 (oj q2 q3))))))) ?_)
    rw [hst',hB,lpS_end (fun z=>by have:=z.1;unfold failS at this;rw [if_pos h0] at this;exact absurd this (by simp))] at hlp
    subst hlp
    refine aw_stop ⟨(),?_⟩
    and_intros<;>first|rfl|exact List.Sublist.cons _ (List.Sublist.refl _)|exact True.intro
   ·rw [if_neg hcs] at hB⊢
    have hcs':seen.contains kRepair=false:=by simpa using hcs
    have f6:=take_fg g L sx true hsx om
    rw [take_cons h0 hl,if_pos rfl,ht] at f6
    dsimp only at f6
    have f7:=number_fg g L ⟨l',0⟩ hsl om hw
    repeat' first|refine yA1 (oj hn_g2 (oj hn_g3 (oj hn_gm (oj htx (oj q0 (oj q1 (oj q2 q3))))))) ?_|(refine aw_cg (f6) rfl rfl rfl (zE (oj hn_g2 (oj hn_g3 (oj hn_gm (oj htx (oj q0 (oj q1 (oj q2 q3)))))))) (zL2 (oj hn_g2 (oj hn_g3 (oj hn_gm (oj htx (oj q0 (oj q1 (oj q2 q3)))))))) ?_;refine yS (oj hn_g2 (oj hn_g3 (oj hn_gm (oj htx (oj q0 (oj q1 (oj q2 q3))))))) ?_)|(refine yW (oj hn_g2 (oj hn_g3 (oj hn_gm (oj htx (oj q0 (oj q1 (oj q2 q3))))))) ?_;refine yS (oj hn_g2 (oj hn_g3 (oj hn_gm (oj htx (oj q0 (oj q1 (oj q2 q3))))))) ?_)|refine yP (oj hn_g2 (oj hn_g3 (oj hn_gm (oj htx (oj q0 (oj q1 (oj q2 q3))))))) ?_|refine yN (oj hn_g2 (oj hn_g3 (oj hn_gm (oj htx (oj q0 (oj q1 (oj q2 q3))))))) ?_|refine aw_cd (zE (oj hn_g2 (oj hn_g3 (oj hn_gm (oj htx (oj q0 (oj q1 (oj q2 q3)))))))) (fun hb=>?_) (fun hb=>?_)|refine aw_ce (zE (oj hn_g2 (oj hn_g3 (oj hn_gm (oj htx (oj q0 (oj q1 (oj q2 q3)))))))) (fun hb=>?_) (fun hb=>?_)|refine aw_cn (zE (oj hn_g2 (oj hn_g3 (oj hn_gm (oj htx (oj q0 (oj q1 (oj q2 q3)))))))) (fun hb=>?_) (fun hb=>?_)|(refine yF (oj hn_g2 (oj hn_g3 (oj hn_gm (oj htx (oj q0 (oj q1 (oj q2 q3))))))) (fun hb=>?_) (fun hb=>?_)<;>fail_if_success (cases hb;done))|(refine aw_gsd rfl rfl (zE (oj hn_g2 (oj hn_g3 (oj hn_gm (oj htx (oj q0 (oj q1 (oj q2 q3)))))))) (fun hb=>?_) (fun hb=>?_)<;>refine yS (oj hn_g2 (oj hn_g3 (oj hn_gm (oj htx (oj q0 (oj q1 (oj q2 q3))))))) ?_)|(refine aw_gse rfl rfl (zE (oj hn_g2 (oj hn_g3 (oj hn_gm (oj htx (oj q0 (oj q1 (oj q2 q3)))))))) (fun hb=>?_) (fun hb=>?_)<;>refine yS (oj hn_g2 (oj hn_g3 (oj hn_gm (oj htx (oj q0 (oj q1 (oj q2 q3))))))) ?_)|(refine aw_gsn rfl rfl (zE (oj hn_g2 (oj hn_g3 (oj hn_gm (oj htx (oj q0 (oj q1 (oj q2 q3)))))))) (fun hb=>?_) (fun hb=>?_)<;>refine yS (oj hn_g2 (oj hn_g3 (oj hn_gm (oj htx (oj q0 (oj q1 (oj q2 q3))))))) ?_)|(refine aw_gs rfl rfl (zE (oj hn_g2 (oj hn_g3 (oj hn_gm (oj htx (oj q0 (oj q1 (oj q2 q3)))))))) (fun hb=>?_) (fun hb=>?_)<;>fail_if_success (cases hb;done)<;>refine yS (oj hn_g2 (oj hn_g3 (oj hn_gm (oj htx (oj q0 (oj q1 (oj q2 q3))))))) ?_)|(refine drk_gsd rfl rfl (zE (oj hn_g2 (oj hn_g3 (oj hn_gm (oj htx (oj q0 (oj q1 (oj q2 q3)))))))) (fun hb=>?_) (fun hb=>?_)<;>refine yS (oj hn_g2 (oj hn_g3 (oj hn_gm (oj htx (oj q0 (oj q1 (oj q2 q3))))))) ?_)|(refine drk_gse rfl rfl (zE (oj hn_g2 (oj hn_g3 (oj hn_gm (oj htx (oj q0 (oj q1 (oj q2 q3)))))))) (fun hb=>?_) (fun hb=>?_)<;>refine yS (oj hn_g2 (oj hn_g3 (oj hn_gm (oj htx (oj q0 (oj q1 (oj q2 q3))))))) ?_)|(refine drk_gsn rfl rfl (zE (oj hn_g2 (oj hn_g3 (oj hn_gm (oj htx (oj q0 (oj q1 (oj q2 q3)))))))) (fun hb=>?_) (fun hb=>?_)<;>refine yS (oj hn_g2 (oj hn_g3 (oj hn_gm (oj htx (oj q0 (oj q1 (oj q2 q3))))))) ?_)|(refine drk_gs rfl rfl (zE (oj hn_g2 (oj hn_g3 (oj hn_gm (oj htx (oj q0 (oj q1 (oj q2 q3)))))))) (fun hb=>?_) (fun hb=>?_)<;>fail_if_success (cases hb;done)<;>refine yS (oj hn_g2 (oj hn_g3 (oj hn_gm (oj htx (oj q0 (oj q1 (oj q2 q3))))))) ?_)
    refine aw_mapNew (a:=kRepair) (kv:=svL seen) (Kf:=keyS) (v:=.bool true) rfl rfl rfl (kt:=9) (et:=4) (by kernel_rfl) (keyS_ok (by kernel_rfl)) (zE (oj hn_g2 (oj hn_g3 (oj hn_gm (oj htx (oj q0 (oj q1 (oj q2 q3)))))))) (zE (oj hn_g2 (oj hn_g3 (oj hn_gm (oj htx (oj q0 (oj q1 (oj q2 q3)))))))) (ck:=.c (.str (sB kRepair))) (zE (oj hn_g2 (oj hn_g3 (oj hn_gm (oj htx (oj q0 (oj q1 (oj q2 q3)))))))) (fun _ _ _ h=>h) (cv:=.c (.bool true)) (zE (oj hn_g2 (oj hn_g3 (oj hn_gm (oj htx (oj q0 (oj q1 (oj q2 q3)))))))) (fun _ _ _ h=>h) (by rw [svL_get,hcs'];rfl) rfl ?_
    rw [←svL_cons]
    repeat' first|refine yA1 (oj hn_g2 (oj hn_g3 (oj hn_gm (oj htx (oj q0 (oj q1 (oj q2 q3))))))) ?_|(refine aw_cg (f7) rfl rfl rfl (zE (oj hn_g2 (oj hn_g3 (oj hn_gm (oj htx (oj q0 (oj q1 (oj q2 q3)))))))) (zL2 (oj hn_g2 (oj hn_g3 (oj hn_gm (oj htx (oj q0 (oj q1 (oj q2 q3)))))))) ?_;refine yS (oj hn_g2 (oj hn_g3 (oj hn_gm (oj htx (oj q0 (oj q1 (oj q2 q3))))))) ?_)|(refine yW (oj hn_g2 (oj hn_g3 (oj hn_gm (oj htx (oj q0 (oj q1 (oj q2 q3))))))) ?_;refine yS (oj hn_g2 (oj hn_g3 (oj hn_gm (oj htx (oj q0 (oj q1 (oj q2 q3))))))) ?_)|refine yP (oj hn_g2 (oj hn_g3 (oj hn_gm (oj htx (oj q0 (oj q1 (oj q2 q3))))))) ?_|refine yN (oj hn_g2 (oj hn_g3 (oj hn_gm (oj htx (oj q0 (oj q1 (oj q2 q3))))))) ?_|refine aw_cd (zE (oj hn_g2 (oj hn_g3 (oj hn_gm (oj htx (oj q0 (oj q1 (oj q2 q3)))))))) (fun hb=>?_) (fun hb=>?_)|refine aw_ce (zE (oj hn_g2 (oj hn_g3 (oj hn_gm (oj htx (oj q0 (oj q1 (oj q2 q3)))))))) (fun hb=>?_) (fun hb=>?_)|refine aw_cn (zE (oj hn_g2 (oj hn_g3 (oj hn_gm (oj htx (oj q0 (oj q1 (oj q2 q3)))))))) (fun hb=>?_) (fun hb=>?_)|(refine yF (oj hn_g2 (oj hn_g3 (oj hn_gm (oj htx (oj q0 (oj q1 (oj q2 q3))))))) (fun hb=>?_) (fun hb=>?_)<;>fail_if_success (cases hb;done))|(refine aw_gsd rfl rfl (zE (oj hn_g2 (oj hn_g3 (oj hn_gm (oj htx (oj q0 (oj q1 (oj q2 q3)))))))) (fun hb=>?_) (fun hb=>?_)<;>refine yS (oj hn_g2 (oj hn_g3 (oj hn_gm (oj htx (oj q0 (oj q1 (oj q2 q3))))))) ?_)|(refine aw_gse rfl rfl (zE (oj hn_g2 (oj hn_g3 (oj hn_gm (oj htx (oj q0 (oj q1 (oj q2 q3)))))))) (fun hb=>?_) (fun hb=>?_)<;>refine yS (oj hn_g2 (oj hn_g3 (oj hn_gm (oj htx (oj q0 (oj q1 (oj q2 q3))))))) ?_)|(refine aw_gsn rfl rfl (zE (oj hn_g2 (oj hn_g3 (oj hn_gm (oj htx (oj q0 (oj q1 (oj q2 q3)))))))) (fun hb=>?_) (fun hb=>?_)<;>refine yS (oj hn_g2 (oj hn_g3 (oj hn_gm (oj htx (oj q0 (oj q1 (oj q2 q3))))))) ?_)|(refine aw_gs rfl rfl (zE (oj hn_g2 (oj hn_g3 (oj hn_gm (oj htx (oj q0 (oj q1 (oj q2 q3)))))))) (fun hb=>?_) (fun hb=>?_)<;>fail_if_success (cases hb;done)<;>refine yS (oj hn_g2 (oj hn_g3 (oj hn_gm (oj htx (oj q0 (oj q1 (oj q2 q3))))))) ?_)|(refine drk_gsd rfl rfl (zE (oj hn_g2 (oj hn_g3 (oj hn_gm (oj htx (oj q0 (oj q1 (oj q2 q3)))))))) (fun hb=>?_) (fun hb=>?_)<;>refine yS (oj hn_g2 (oj hn_g3 (oj hn_gm (oj htx (oj q0 (oj q1 (oj q2 q3))))))) ?_)|(refine drk_gse rfl rfl (zE (oj hn_g2 (oj hn_g3 (oj hn_gm (oj htx (oj q0 (oj q1 (oj q2 q3)))))))) (fun hb=>?_) (fun hb=>?_)<;>refine yS (oj hn_g2 (oj hn_g3 (oj hn_gm (oj htx (oj q0 (oj q1 (oj q2 q3))))))) ?_)|(refine drk_gsn rfl rfl (zE (oj hn_g2 (oj hn_g3 (oj hn_gm (oj htx (oj q0 (oj q1 (oj q2 q3)))))))) (fun hb=>?_) (fun hb=>?_)<;>refine yS (oj hn_g2 (oj hn_g3 (oj hn_gm (oj htx (oj q0 (oj q1 (oj q2 q3))))))) ?_)|(refine drk_gs rfl rfl (zE (oj hn_g2 (oj hn_g3 (oj hn_gm (oj htx (oj q0 (oj q1 (oj q2 q3)))))))) (fun hb=>?_) (fun hb=>?_)<;>fail_if_success (cases hb;done)<;>refine yS (oj hn_g2 (oj hn_g3 (oj hn_gm (oj htx (oj q0 (oj q1 (oj q2 q3))))))) ?_)
    rw [hB] at hcon' hsuf
    rw [hst',hB] at hlp
    refine aw_stop ⟨((numS ⟨l',0⟩).2,kRepair::seen,{x with rep:=(numS ⟨l',0⟩).1}),?_⟩
    refine⟨hcon',?_⟩
    and_intros
    all_goals first|rfl|exact List.Sublist.refl _|exact True.intro|exact hsuf|exact hlp|exact fun _=>by dsimp only;rw [List.contains_cons,hne h0];rfl
  ·rename_i h0 hc n0 n1
   have n2:=hb
   cases hb:isS sx kCost with
   |true=>
    obtain⟨_,t,l',hl,hk,ht⟩:=is_tok hb
    have hB:=evB_cost seen x h0 hl hk ht
    have hat:L.length-sx.l.length<L.length:=Classical.byContradiction fun h=>by have:=hr.nil h;rw [this] at hl;cases hl
    obtain⟨l2,hl2,hl3⟩:=hr.cons hat
    have htx:(L.getD (L.length-sx.l.length) tx0).t.text=kCost:=by
     have hx:=(List.cons.inj (hl.symm.trans hl2)).1
     rw [←hx];exact ht
    have hsl:l'<:+L.map TX.t:=(show l'<:+sx.l from by rw [hl];exact List.suffix_cons t l').trans hsx
    have hcon':=hcon h0
    have hst':=hst h0 hc
    have q0:(kCost==kP)=false:=rfl
    have q1:(kCost==kFail)=false:=rfl
    have q2:(kCost==kRepair)=false:=rfl
    have q3:(kCost==kCost)=true:=rfl
    refine aw_dr 16 ty_mixed (by kernel_rfl) ?_
    repeat' first|refine yA1 (oj hn_g2 (oj hn_g3 (oj hn_gm (oj htx (oj q0 (oj q1 (oj q2 q3))))))) ?_|(refine yW (oj hn_g2 (oj hn_g3 (oj hn_gm (oj htx (oj q0 (oj q1 (oj q2 q3))))))) ?_;refine yS (oj hn_g2 (oj hn_g3 (oj hn_gm (oj htx (oj q0 (oj q1 (oj q2 q3))))))) ?_)|refine yP (oj hn_g2 (oj hn_g3 (oj hn_gm (oj htx (oj q0 (oj q1 (oj q2 q3))))))) ?_|refine yN (oj hn_g2 (oj hn_g3 (oj hn_gm (oj htx (oj q0 (oj q1 (oj q2 q3))))))) ?_|refine aw_cd (zE (oj hn_g2 (oj hn_g3 (oj hn_gm (oj htx (oj q0 (oj q1 (oj q2 q3)))))))) (fun hb=>?_) (fun hb=>?_)|refine aw_ce (zE (oj hn_g2 (oj hn_g3 (oj hn_gm (oj htx (oj q0 (oj q1 (oj q2 q3)))))))) (fun hb=>?_) (fun hb=>?_)|refine aw_cn (zE (oj hn_g2 (oj hn_g3 (oj hn_gm (oj htx (oj q0 (oj q1 (oj q2 q3)))))))) (fun hb=>?_) (fun hb=>?_)|(refine yF (oj hn_g2 (oj hn_g3 (oj hn_gm (oj htx (oj q0 (oj q1 (oj q2 q3))))))) (fun hb=>?_) (fun hb=>?_)<;>fail_if_success (cases hb;done))|(refine aw_gsd rfl rfl (zE (oj hn_g2 (oj hn_g3 (oj hn_gm (oj htx (oj q0 (oj q1 (oj q2 q3)))))))) (fun hb=>?_) (fun hb=>?_)<;>refine yS (oj hn_g2 (oj hn_g3 (oj hn_gm (oj htx (oj q0 (oj q1 (oj q2 q3))))))) ?_)|(refine aw_gse rfl rfl (zE (oj hn_g2 (oj hn_g3 (oj hn_gm (oj htx (oj q0 (oj q1 (oj q2 q3)))))))) (fun hb=>?_) (fun hb=>?_)<;>refine yS (oj hn_g2 (oj hn_g3 (oj hn_gm (oj htx (oj q0 (oj q1 (oj q2 q3))))))) ?_)|(refine aw_gsn rfl rfl (zE (oj hn_g2 (oj hn_g3 (oj hn_gm (oj htx (oj q0 (oj q1 (oj q2 q3)))))))) (fun hb=>?_) (fun hb=>?_)<;>refine yS (oj hn_g2 (oj hn_g3 (oj hn_gm (oj htx (oj q0 (oj q1 (oj q2 q3))))))) ?_)|(refine aw_gs rfl rfl (zE (oj hn_g2 (oj hn_g3 (oj hn_gm (oj htx (oj q0 (oj q1 (oj q2 q3)))))))) (fun hb=>?_) (fun hb=>?_)<;>fail_if_success (cases hb;done)<;>refine yS (oj hn_g2 (oj hn_g3 (oj hn_gm (oj htx (oj q0 (oj q1 (oj q2 q3))))))) ?_)|(refine drk_gsd rfl rfl (zE (oj hn_g2 (oj hn_g3 (oj hn_gm (oj htx (oj q0 (oj q1 (oj q2 q3)))))))) (fun hb=>?_) (fun hb=>?_)<;>refine yS (oj hn_g2 (oj hn_g3 (oj hn_gm (oj htx (oj q0 (oj q1 (oj q2 q3))))))) ?_)|(refine drk_gse rfl rfl (zE (oj hn_g2 (oj hn_g3 (oj hn_gm (oj htx (oj q0 (oj q1 (oj q2 q3)))))))) (fun hb=>?_) (fun hb=>?_)<;>refine yS (oj hn_g2 (oj hn_g3 (oj hn_gm (oj htx (oj q0 (oj q1 (oj q2 q3))))))) ?_)|(refine drk_gsn rfl rfl (zE (oj hn_g2 (oj hn_g3 (oj hn_gm (oj htx (oj q0 (oj q1 (oj q2 q3)))))))) (fun hb=>?_) (fun hb=>?_)<;>refine yS (oj hn_g2 (oj hn_g3 (oj hn_gm (oj htx (oj q0 (oj q1 (oj q2 q3))))))) ?_)|(refine drk_gs rfl rfl (zE (oj hn_g2 (oj hn_g3 (oj hn_gm (oj htx (oj q0 (oj q1 (oj q2 q3)))))))) (fun hb=>?_) (fun hb=>?_)<;>fail_if_success (cases hb;done)<;>refine yS (oj hn_g2 (oj hn_g3 (oj hn_gm (oj htx (oj q0 (oj q1 (oj q2 q3))))))) ?_)
    refine drk_lookup1 (a:=kCost) (kv:=svL seen) (Kf:=keyS) (z:=.bool false) rfl rfl rfl (kt:=9) (et:=4) (by kernel_rfl) (keyS_ok (by kernel_rfl)) (by kernel_rfl) (zE (oj hn_g2 (oj hn_g3 (oj hn_gm (oj htx (oj q0 (oj q1 (oj q2 q3)))))))) (zE (oj hn_g2 (oj hn_g3 (oj hn_gm (oj htx (oj q0 (oj q1 (oj q2 q3)))))))) (ck:=.c (.str (sB kCost))) (zE (oj hn_g2 (oj hn_g3 (oj hn_gm (oj htx (oj q0 (oj q1 (oj q2 q3)))))))) (fun _ _ _ h=>h) ?_
    rw [svL_get]
    by_cases hcs:seen.contains kCost=true
    ·rw [if_pos hcs] at hB⊢
     have f6:=fail_fg g L sx 6 (by decide)
     repeat' first|refine yA1 (oj hn_g2 (oj hn_g3 (oj hn_gm (oj htx (oj q0 (oj q1 (oj q2 q3))))))) ?_|(refine aw_cg (f6) rfl rfl rfl (zE (oj hn_g2 (oj hn_g3 (oj hn_gm (oj htx (oj q0 (oj q1 (oj q2 q3)))))))) (zL2 (oj hn_g2 (oj hn_g3 (oj hn_gm (oj htx (oj q0 (oj q1 (oj q2 q3)))))))) ?_;refine yS (oj hn_g2 (oj hn_g3 (oj hn_gm (oj htx (oj q0 (oj q1 (oj q2 q3))))))) ?_)|(refine yW (oj hn_g2 (oj hn_g3 (oj hn_gm (oj htx (oj q0 (oj q1 (oj q2 q3))))))) ?_;refine yS (oj hn_g2 (oj hn_g3 (oj hn_gm (oj htx (oj q0 (oj q1 (oj q2 q3))))))) ?_)|refine yP (oj hn_g2 (oj hn_g3 (oj hn_gm (oj htx (oj q0 (oj q1 (oj q2 q3))))))) ?_|refine yN (oj hn_g2 (oj hn_g3 (oj hn_gm (oj htx (oj q0 (oj q1 (oj q2 q3))))))) ?_|refine aw_cd (zE (oj hn_g2 (oj hn_g3 (oj hn_gm (oj htx (oj q0 (oj q1 (oj q2 q3)))))))) (fun hb=>?_) (fun hb=>?_)|refine aw_ce (zE (oj hn_g2 (oj hn_g3 (oj hn_gm (oj htx (oj q0 (oj q1 (oj q2 q3)))))))) (fun hb=>?_) (fun hb=>?_)|refine aw_cn (zE (oj hn_g2 (oj hn_g3 (oj hn_gm (oj htx (oj q0 (oj q1 (oj q2 q3)))))))) (fun hb=>?_) (fun hb=>?_)|(refine yF (oj hn_g2 (oj hn_g3 (oj hn_gm (oj htx (oj q0 (oj q1 (oj q2 q3))))))) (fun hb=>?_) (fun hb=>?_)<;>fail_if_success (cases hb;done))|(refine aw_gsd rfl rfl (zE (oj hn_g2 (oj hn_g3 (oj hn_gm (oj htx (oj q0 (oj q1 (oj q2 q3)))))))) (fun hb=>?_) (fun hb=>?_)<;>refine yS (oj hn_g2 (oj hn_g3 (oj hn_gm (oj htx (oj q0 (oj q1 (oj q2 q3))))))) ?_)|(refine aw_gse rfl rfl (zE (oj hn_g2 (oj hn_g3 (oj hn_gm (oj htx (oj q0 (oj q1 (oj q2 q3)))))))) (fun hb=>?_) (fun hb=>?_)<;>refine yS (oj hn_g2 (oj hn_g3 (oj hn_gm (oj htx (oj q0 (oj q1 (oj q2 q3))))))) ?_)|(refine aw_gsn rfl rfl (zE (oj hn_g2 (oj hn_g3 (oj hn_gm (oj htx (oj q0 (oj q1 (oj q2 q3)))))))) (fun hb=>?_) (fun hb=>?_)<;>refine yS (oj hn_g2 (oj hn_g3 (oj hn_gm (oj htx (oj q0 (oj q1 (oj q2 q3))))))) ?_)|(refine aw_gs rfl rfl (zE (oj hn_g2 (oj hn_g3 (oj hn_gm (oj htx (oj q0 (oj q1 (oj q2 q3)))))))) (fun hb=>?_) (fun hb=>?_)<;>fail_if_success (cases hb;done)<;>refine yS (oj hn_g2 (oj hn_g3 (oj hn_gm (oj htx (oj q0 (oj q1 (oj q2 q3))))))) ?_)|(refine drk_gsd rfl rfl (zE (oj hn_g2 (oj hn_g3 (oj hn_gm (oj htx (oj q0 (oj q1 (oj q2 q3)))))))) (fun hb=>?_) (fun hb=>?_)<;>refine yS (oj hn_g2 (oj hn_g3 (oj hn_gm (oj htx (oj q0 (oj q1 (oj q2 q3))))))) ?_)|(refine drk_gse rfl rfl (zE (oj hn_g2 (oj hn_g3 (oj hn_gm (oj htx (oj q0 (oj q1 (oj q2 q3)))))))) (fun hb=>?_) (fun hb=>?_)<;>refine yS (oj hn_g2 (oj hn_g3 (oj hn_gm (oj htx (oj q0 (oj q1 (oj q2 q3))))))) ?_)|(refine drk_gsn rfl rfl (zE (oj hn_g2 (oj hn_g3 (oj hn_gm (oj htx (oj q0 (oj q1 (oj q2 q3)))))))) (fun hb=>?_) (fun hb=>?_)<;>refine yS (oj hn_g2 (oj hn_g3 (oj hn_gm (oj htx (oj q0 (oj q1 (oj q2 q3))))))) ?_)|(refine drk_gs rfl rfl (zE (oj hn_g2 (oj hn_g3 (oj hn_gm (oj htx (oj q0 (oj q1 (oj q2 q3)))))))) (fun hb=>?_) (fun hb=>?_)<;>fail_if_success (cases hb;done)<;>refine yS (oj hn_g2 (oj hn_g3 (oj hn_gm (oj htx (oj q0 (oj q1 (oj q2 q3))))))) ?_)
     rw [hst',hB,lpS_end (fun z=>by have:=z.1;unfold failS at this;rw [if_pos h0] at this;exact absurd this (by simp))] at hlp
     subst hlp
     refine aw_stop ⟨(),?_⟩
     and_intros<;>first|rfl|exact List.Sublist.cons _ (List.Sublist.refl _)|exact True.intro
    ·rw [if_neg hcs] at hB⊢
     have hcs':seen.contains kCost=false:=by simpa using hcs
     have f6:=take_fg g L sx true hsx om
     rw [take_cons h0 hl,if_pos rfl,ht] at f6
     dsimp only at f6
     have f7:=whole_fg g L ⟨l',0⟩ hsl om hw
     repeat' first|refine yA1 (oj hn_g2 (oj hn_g3 (oj hn_gm (oj htx (oj q0 (oj q1 (oj q2 q3))))))) ?_|(refine aw_cg (f6) rfl rfl rfl (zE (oj hn_g2 (oj hn_g3 (oj hn_gm (oj htx (oj q0 (oj q1 (oj q2 q3)))))))) (zL2 (oj hn_g2 (oj hn_g3 (oj hn_gm (oj htx (oj q0 (oj q1 (oj q2 q3)))))))) ?_;refine yS (oj hn_g2 (oj hn_g3 (oj hn_gm (oj htx (oj q0 (oj q1 (oj q2 q3))))))) ?_)|(refine yW (oj hn_g2 (oj hn_g3 (oj hn_gm (oj htx (oj q0 (oj q1 (oj q2 q3))))))) ?_;refine yS (oj hn_g2 (oj hn_g3 (oj hn_gm (oj htx (oj q0 (oj q1 (oj q2 q3))))))) ?_)|refine yP (oj hn_g2 (oj hn_g3 (oj hn_gm (oj htx (oj q0 (oj q1 (oj q2 q3))))))) ?_|refine yN (oj hn_g2 (oj hn_g3 (oj hn_gm (oj htx (oj q0 (oj q1 (oj q2 q3))))))) ?_|refine aw_cd (zE (oj hn_g2 (oj hn_g3 (oj hn_gm (oj htx (oj q0 (oj q1 (oj q2 q3)))))))) (fun hb=>?_) (fun hb=>?_)|refine aw_ce (zE (oj hn_g2 (oj hn_g3 (oj hn_gm (oj htx (oj q0 (oj q1 (oj q2 q3)))))))) (fun hb=>?_) (fun hb=>?_)|refine aw_cn (zE (oj hn_g2 (oj hn_g3 (oj hn_gm (oj htx (oj q0 (oj q1 (oj q2 q3)))))))) (fun hb=>?_) (fun hb=>?_)|(refine yF (oj hn_g2 (oj hn_g3 (oj hn_gm (oj htx (oj q0 (oj q1 (oj q2 q3))))))) (fun hb=>?_) (fun hb=>?_)<;>fail_if_success (cases hb;done))|(refine aw_gsd rfl rfl (zE (oj hn_g2 (oj hn_g3 (oj hn_gm (oj htx (oj q0 (oj q1 (oj q2 q3)))))))) (fun hb=>?_) (fun hb=>?_)<;>refine yS (oj hn_g2 (oj hn_g3 (oj hn_gm (oj htx (oj q0 (oj q1 (oj q2 q3))))))) ?_)|(refine aw_gse rfl rfl (zE (oj hn_g2 (oj hn_g3 (oj hn_gm (oj htx (oj q0 (oj q1 (oj q2 q3)))))))) (fun hb=>?_) (fun hb=>?_)<;>refine yS (oj hn_g2 (oj hn_g3 (oj hn_gm (oj htx (oj q0 (oj q1 (oj q2 q3))))))) ?_)|(refine aw_gsn rfl rfl (zE (oj hn_g2 (oj hn_g3 (oj hn_gm (oj htx (oj q0 (oj q1 (oj q2 q3)))))))) (fun hb=>?_) (fun hb=>?_)<;>refine yS (oj hn_g2 (oj hn_g3 (oj hn_gm (oj htx (oj q0 (oj q1 (oj q2 q3))))))) ?_)|(refine aw_gs rfl rfl (zE (oj hn_g2 (oj hn_g3 (oj hn_gm (oj htx (oj q0 (oj q1 (oj q2 q3)))))))) (fun hb=>?_) (fun hb=>?_)<;>fail_if_success (cases hb;done)<;>refine yS (oj hn_g2 (oj hn_g3 (oj hn_gm (oj htx (oj q0 (oj q1 (oj q2 q3))))))) ?_)|(refine drk_gsd rfl rfl (zE (oj hn_g2 (oj hn_g3 (oj hn_gm (oj htx (oj q0 (oj q1 (oj q2 q3)))))))) (fun hb=>?_) (fun hb=>?_)<;>refine yS (oj hn_g2 (oj hn_g3 (oj hn_gm (oj htx (oj q0 (oj q1 (oj q2 q3))))))) ?_)|(refine drk_gse rfl rfl (zE (oj hn_g2 (oj hn_g3 (oj hn_gm (oj htx (oj q0 (oj q1 (oj q2 q3)))))))) (fun hb=>?_) (fun hb=>?_)<;>refine yS (oj hn_g2 (oj hn_g3 (oj hn_gm (oj htx (oj q0 (oj q1 (oj q2 q3))))))) ?_)|(refine drk_gsn rfl rfl (zE (oj hn_g2 (oj hn_g3 (oj hn_gm (oj htx (oj q0 (oj q1 (oj q2 q3)))))))) (fun hb=>?_) (fun hb=>?_)<;>refine yS (oj hn_g2 (oj hn_g3 (oj hn_gm (oj htx (oj q0 (oj q1 (oj q2 q3))))))) ?_)|(refine drk_gs rfl rfl (zE (oj hn_g2 (oj hn_g3 (oj hn_gm (oj htx (oj q0 (oj q1 (oj q2 q3)))))))) (fun hb=>?_) (fun hb=>?_)<;>fail_if_success (cases hb;done)<;>refine yS (oj hn_g2 (oj hn_g3 (oj hn_gm (oj htx (oj q0 (oj q1 (oj q2 q3))))))) ?_)
     refine aw_mapNew (a:=kCost) (kv:=svL seen) (Kf:=keyS) (v:=.bool true) rfl rfl rfl (kt:=9) (et:=4) (by kernel_rfl) (keyS_ok (by kernel_rfl)) (zE (oj hn_g2 (oj hn_g3 (oj hn_gm (oj htx (oj q0 (oj q1 (oj q2 q3)))))))) (zE (oj hn_g2 (oj hn_g3 (oj hn_gm (oj htx (oj q0 (oj q1 (oj q2 q3)))))))) (ck:=.c (.str (sB kCost))) (zE (oj hn_g2 (oj hn_g3 (oj hn_gm (oj htx (oj q0 (oj q1 (oj q2 q3)))))))) (fun _ _ _ h=>h) (cv:=.c (.bool true)) (zE (oj hn_g2 (oj hn_g3 (oj hn_gm (oj htx (oj q0 (oj q1 (oj q2 q3)))))))) (fun _ _ _ h=>h) (by rw [svL_get,hcs'];rfl) rfl ?_
     rw [←svL_cons]
     repeat' first|refine yA1 (oj hn_g2 (oj hn_g3 (oj hn_gm (oj htx (oj q0 (oj q1 (oj q2 q3))))))) ?_|(refine aw_cg (f7) rfl rfl rfl (zE (oj hn_g2 (oj hn_g3 (oj hn_gm (oj htx (oj q0 (oj q1 (oj q2 q3)))))))) (zL2 (oj hn_g2 (oj hn_g3 (oj hn_gm (oj htx (oj q0 (oj q1 (oj q2 q3)))))))) ?_;refine yS (oj hn_g2 (oj hn_g3 (oj hn_gm (oj htx (oj q0 (oj q1 (oj q2 q3))))))) ?_)|(refine yW (oj hn_g2 (oj hn_g3 (oj hn_gm (oj htx (oj q0 (oj q1 (oj q2 q3))))))) ?_;refine yS (oj hn_g2 (oj hn_g3 (oj hn_gm (oj htx (oj q0 (oj q1 (oj q2 q3))))))) ?_)|refine yP (oj hn_g2 (oj hn_g3 (oj hn_gm (oj htx (oj q0 (oj q1 (oj q2 q3))))))) ?_|refine yN (oj hn_g2 (oj hn_g3 (oj hn_gm (oj htx (oj q0 (oj q1 (oj q2 q3))))))) ?_|refine aw_cd (zE (oj hn_g2 (oj hn_g3 (oj hn_gm (oj htx (oj q0 (oj q1 (oj q2 q3)))))))) (fun hb=>?_) (fun hb=>?_)|refine aw_ce (zE (oj hn_g2 (oj hn_g3 (oj hn_gm (oj htx (oj q0 (oj q1 (oj q2 q3)))))))) (fun hb=>?_) (fun hb=>?_)|refine aw_cn (zE (oj hn_g2 (oj hn_g3 (oj hn_gm (oj htx (oj q0 (oj q1 (oj q2 q3)))))))) (fun hb=>?_) (fun hb=>?_)|(refine yF (oj hn_g2 (oj hn_g3 (oj hn_gm (oj htx (oj q0 (oj q1 (oj q2 q3))))))) (fun hb=>?_) (fun hb=>?_)<;>fail_if_success (cases hb;done))|(refine aw_gsd rfl rfl (zE (oj hn_g2 (oj hn_g3 (oj hn_gm (oj htx (oj q0 (oj q1 (oj q2 q3)))))))) (fun hb=>?_) (fun hb=>?_)<;>refine yS (oj hn_g2 (oj hn_g3 (oj hn_gm (oj htx (oj q0 (oj q1 (oj q2 q3))))))) ?_)|(refine aw_gse rfl rfl (zE (oj hn_g2 (oj hn_g3 (oj hn_gm (oj htx (oj q0 (oj q1 (oj q2 q3)))))))) (fun hb=>?_) (fun hb=>?_)<;>refine yS (oj hn_g2 (oj hn_g3 (oj hn_gm (oj htx (oj q0 (oj q1 (oj q2 q3))))))) ?_)|(refine aw_gsn rfl rfl (zE (oj hn_g2 (oj hn_g3 (oj hn_gm (oj htx (oj q0 (oj q1 (oj q2 q3)))))))) (fun hb=>?_) (fun hb=>?_)<;>refine yS (oj hn_g2 (oj hn_g3 (oj hn_gm (oj htx (oj q0 (oj q1 (oj q2 q3))))))) ?_)|(refine aw_gs rfl rfl (zE (oj hn_g2 (oj hn_g3 (oj hn_gm (oj htx (oj q0 (oj q1 (oj q2 q3)))))))) (fun hb=>?_) (fun hb=>?_)<;>fail_if_success (cases hb;done)<;>refine yS (oj hn_g2 (oj hn_g3 (oj hn_gm (oj htx (oj q0 (oj q1 (oj q2 q3))))))) ?_)|(refine drk_gsd rfl rfl (zE (oj hn_g2 (oj hn_g3 (oj hn_gm (oj htx (oj q0 (oj q1 (oj q2 q3)))))))) (fun hb=>?_) (fun hb=>?_)<;>refine yS (oj hn_g2 (oj hn_g3 (oj hn_gm (oj htx (oj q0 (oj q1 (oj q2 q3))))))) ?_)|(refine drk_gse rfl rfl (zE (oj hn_g2 (oj hn_g3 (oj hn_gm (oj htx (oj q0 (oj q1 (oj q2 q3)))))))) (fun hb=>?_) (fun hb=>?_)<;>refine yS (oj hn_g2 (oj hn_g3 (oj hn_gm (oj htx (oj q0 (oj q1 (oj q2 q3))))))) ?_)|(refine drk_gsn rfl rfl (zE (oj hn_g2 (oj hn_g3 (oj hn_gm (oj htx (oj q0 (oj q1 (oj q2 q3)))))))) (fun hb=>?_) (fun hb=>?_)<;>refine yS (oj hn_g2 (oj hn_g3 (oj hn_gm (oj htx (oj q0 (oj q1 (oj q2 q3))))))) ?_)|(refine drk_gs rfl rfl (zE (oj hn_g2 (oj hn_g3 (oj hn_gm (oj htx (oj q0 (oj q1 (oj q2 q3)))))))) (fun hb=>?_) (fun hb=>?_)<;>fail_if_success (cases hb;done)<;>refine yS (oj hn_g2 (oj hn_g3 (oj hn_gm (oj htx (oj q0 (oj q1 (oj q2 q3))))))) ?_)
     rw [hB] at hcon' hsuf
     rw [hst',hB] at hlp
     refine aw_stop ⟨((wholeS ⟨l',0⟩).2,kCost::seen,{x with cost:=(wholeS ⟨l',0⟩).1}),?_⟩
     refine⟨hcon',?_⟩
     and_intros
     all_goals first|rfl|exact List.Sublist.refl _|exact True.intro|exact hsuf|exact hlp|exact fun _=>by dsimp only;rw [List.contains_cons,hne h0];rfl
   |false=>
    have hB:=evB_no seen x n0 n1 n2 hb
    obtain⟨ht1,ht2⟩:=take_f sx h0
    have hcon':=hcon h0
    have hst':=hst h0 hc
    have f6:=take_fg g L sx false hsx om
    rw [ht1] at f6 hB
    have q0:(([]:BS)==kP)=false:=rfl
    have q1:(([]:BS)==kFail)=false:=rfl
    have q2:(([]:BS)==kRepair)=false:=rfl
    have q3:(([]:BS)==kCost)=false:=rfl
    refine aw_dr 16 ty_mixed (by kernel_rfl) ?_
    repeat' first|refine yA1 (oj hn_g2 (oj hn_g3 (oj hn_gm (oj q0 (oj q1 (oj q2 q3)))))) ?_|(refine aw_cg (f6) rfl rfl rfl (zE (oj hn_g2 (oj hn_g3 (oj hn_gm (oj q0 (oj q1 (oj q2 q3))))))) (zL2 (oj hn_g2 (oj hn_g3 (oj hn_gm (oj q0 (oj q1 (oj q2 q3))))))) ?_;refine yS (oj hn_g2 (oj hn_g3 (oj hn_gm (oj q0 (oj q1 (oj q2 q3)))))) ?_)|(refine yW (oj hn_g2 (oj hn_g3 (oj hn_gm (oj q0 (oj q1 (oj q2 q3)))))) ?_;refine yS (oj hn_g2 (oj hn_g3 (oj hn_gm (oj q0 (oj q1 (oj q2 q3)))))) ?_)|refine yP (oj hn_g2 (oj hn_g3 (oj hn_gm (oj q0 (oj q1 (oj q2 q3)))))) ?_|refine yN (oj hn_g2 (oj hn_g3 (oj hn_gm (oj q0 (oj q1 (oj q2 q3)))))) ?_|refine aw_cd (zE (oj hn_g2 (oj hn_g3 (oj hn_gm (oj q0 (oj q1 (oj q2 q3))))))) (fun hb=>?_) (fun hb=>?_)|refine aw_ce (zE (oj hn_g2 (oj hn_g3 (oj hn_gm (oj q0 (oj q1 (oj q2 q3))))))) (fun hb=>?_) (fun hb=>?_)|refine aw_cn (zE (oj hn_g2 (oj hn_g3 (oj hn_gm (oj q0 (oj q1 (oj q2 q3))))))) (fun hb=>?_) (fun hb=>?_)|(refine yF (oj hn_g2 (oj hn_g3 (oj hn_gm (oj q0 (oj q1 (oj q2 q3)))))) (fun hb=>?_) (fun hb=>?_)<;>fail_if_success (cases hb;done))|(refine aw_gsd rfl rfl (zE (oj hn_g2 (oj hn_g3 (oj hn_gm (oj q0 (oj q1 (oj q2 q3))))))) (fun hb=>?_) (fun hb=>?_)<;>refine yS (oj hn_g2 (oj hn_g3 (oj hn_gm (oj q0 (oj q1 (oj q2 q3)))))) ?_)|(refine aw_gse rfl rfl (zE (oj hn_g2 (oj hn_g3 (oj hn_gm (oj q0 (oj q1 (oj q2 q3))))))) (fun hb=>?_) (fun hb=>?_)<;>refine yS (oj hn_g2 (oj hn_g3 (oj hn_gm (oj q0 (oj q1 (oj q2 q3)))))) ?_)|(refine aw_gsn rfl rfl (zE (oj hn_g2 (oj hn_g3 (oj hn_gm (oj q0 (oj q1 (oj q2 q3))))))) (fun hb=>?_) (fun hb=>?_)<;>refine yS (oj hn_g2 (oj hn_g3 (oj hn_gm (oj q0 (oj q1 (oj q2 q3)))))) ?_)|(refine aw_gs rfl rfl (zE (oj hn_g2 (oj hn_g3 (oj hn_gm (oj q0 (oj q1 (oj q2 q3))))))) (fun hb=>?_) (fun hb=>?_)<;>fail_if_success (cases hb;done)<;>refine yS (oj hn_g2 (oj hn_g3 (oj hn_gm (oj q0 (oj q1 (oj q2 q3)))))) ?_)|(refine drk_gsd rfl rfl (zE (oj hn_g2 (oj hn_g3 (oj hn_gm (oj q0 (oj q1 (oj q2 q3))))))) (fun hb=>?_) (fun hb=>?_)<;>refine yS (oj hn_g2 (oj hn_g3 (oj hn_gm (oj q0 (oj q1 (oj q2 q3)))))) ?_)|(refine drk_gse rfl rfl (zE (oj hn_g2 (oj hn_g3 (oj hn_gm (oj q0 (oj q1 (oj q2 q3))))))) (fun hb=>?_) (fun hb=>?_)<;>refine yS (oj hn_g2 (oj hn_g3 (oj hn_gm (oj q0 (oj q1 (oj q2 q3)))))) ?_)|(refine drk_gsn rfl rfl (zE (oj hn_g2 (oj hn_g3 (oj hn_gm (oj q0 (oj q1 (oj q2 q3))))))) (fun hb=>?_) (fun hb=>?_)<;>refine yS (oj hn_g2 (oj hn_g3 (oj hn_gm (oj q0 (oj q1 (oj q2 q3)))))) ?_)|(refine drk_gs rfl rfl (zE (oj hn_g2 (oj hn_g3 (oj hn_gm (oj q0 (oj q1 (oj q2 q3))))))) (fun hb=>?_) (fun hb=>?_)<;>fail_if_success (cases hb;done)<;>refine yS (oj hn_g2 (oj hn_g3 (oj hn_gm (oj q0 (oj q1 (oj q2 q3)))))) ?_)
    refine aw_mapNew (a:=([]:BS)) (kv:=svL seen) (Kf:=keyS) (v:=.bool true) rfl rfl rfl (kt:=9) (et:=4) (by kernel_rfl) (keyS_ok (by kernel_rfl)) (zE (oj hn_g2 (oj hn_g3 (oj hn_gm (oj q0 (oj q1 (oj q2 q3))))))) (zE (oj hn_g2 (oj hn_g3 (oj hn_gm (oj q0 (oj q1 (oj q2 q3))))))) (ck:=.c (.str (sB []))) (zE (oj hn_g2 (oj hn_g3 (oj hn_gm (oj q0 (oj q1 (oj q2 q3))))))) (fun _ _ _ h=>h) (cv:=.c (.bool true)) (zE (oj hn_g2 (oj hn_g3 (oj hn_gm (oj q0 (oj q1 (oj q2 q3))))))) (fun _ _ _ h=>h) (by rw [svL_get,hne h0];rfl) rfl ?_
    rw [←svL_cons]
    have J3:=oj hn_g2 (oj hn_g3 (oj hn_gm (oj q0 (oj q1 (oj q2 q3)))))
    refine yS J3 ?_
    repeat' first|refine yA1 J3 ?_|(refine yW J3 ?_;refine yS J3 ?_)|refine yP J3 ?_|refine yN J3 ?_|refine aw_cd (zE J3) (fun hb=>?_) (fun hb=>?_)|refine aw_ce (zE J3) (fun hb=>?_) (fun hb=>?_)|refine aw_cn (zE J3) (fun hb=>?_) (fun hb=>?_)|(refine yF J3 (fun hb=>?_) (fun hb=>?_)<;>fail_if_success (cases hb;done))|(refine aw_gsd rfl rfl (zE J3) (fun hb=>?_) (fun hb=>?_)<;>refine yS J3 ?_)|(refine aw_gse rfl rfl (zE J3) (fun hb=>?_) (fun hb=>?_)<;>refine yS J3 ?_)|(refine aw_gsn rfl rfl (zE J3) (fun hb=>?_) (fun hb=>?_)<;>refine yS J3 ?_)|(refine aw_gs rfl rfl (zE J3) (fun hb=>?_) (fun hb=>?_)<;>fail_if_success (cases hb;done)<;>refine yS J3 ?_)|(refine drk_gsd rfl rfl (zE J3) (fun hb=>?_) (fun hb=>?_)<;>refine yS J3 ?_)|(refine drk_gse rfl rfl (zE J3) (fun hb=>?_) (fun hb=>?_)<;>refine yS J3 ?_)|(refine drk_gsn rfl rfl (zE J3) (fun hb=>?_) (fun hb=>?_)<;>refine yS J3 ?_)|(refine drk_gs rfl rfl (zE J3) (fun hb=>?_) (fun hb=>?_)<;>fail_if_success (cases hb;done)<;>refine yS J3 ?_)
    rw [hB] at hcon' hsuf
    rw [hst',hB] at hlp
    refine aw_stop ⟨((takeS false sx).2,[]::seen,x),?_⟩
    refine⟨hcon',?_⟩
    and_intros
    all_goals first|rfl|exact List.Sublist.refl _|exact True.intro|exact hsuf|exact hlp|exact fun z=>absurd z ht2
  ·have hc:¬(sx.e=0∧(fun s=> !isS s kSemi) sx=true):=fun z=>by rw [show(fun s=> !isS s kSemi) sx=false from hb] at z;exact absurd z.2 (by decide)
   rw [lpS_end hc] at hlp
   subst hlp
   refine aw_stop ⟨(),?_⟩
   and_intros<;>first|rfl|exact List.Sublist.cons _ (List.Sublist.refl _)|exact True.intro
  ·have hc:¬(sx.e=0∧(fun s=> !isS s kSemi) sx=true):=fun z=>hb z.1
   rw [lpS_end hc] at hlp
   subst hlp
   refine aw_stop ⟨(),?_⟩
   and_intros<;>first|rfl|exact List.Sublist.cons _ (List.Sublist.refl _)|exact True.intro
 rintro _ _
 repeat' first|refine yA1 J2 ?_|(refine aw_cg (f8) rfl rfl rfl (zE J2) (zL2 J2) ?_;refine yS J2 ?_)|(refine yW J2 ?_;refine yS J2 ?_)|refine yP J2 ?_|refine yN J2 ?_|refine aw_cd (zE J2) (fun hb=>?_) (fun hb=>?_)|refine aw_ce (zE J2) (fun hb=>?_) (fun hb=>?_)|refine aw_cn (zE J2) (fun hb=>?_) (fun hb=>?_)|(refine yF J2 (fun hb=>?_) (fun hb=>?_)<;>fail_if_success (cases hb;done))|(refine aw_gsd rfl rfl (zE J2) (fun hb=>?_) (fun hb=>?_)<;>refine yS J2 ?_)|(refine aw_gse rfl rfl (zE J2) (fun hb=>?_) (fun hb=>?_)<;>refine yS J2 ?_)|(refine aw_gsn rfl rfl (zE J2) (fun hb=>?_) (fun hb=>?_)<;>refine yS J2 ?_)|(refine aw_gs rfl rfl (zE J2) (fun hb=>?_) (fun hb=>?_)<;>fail_if_success (cases hb;done)<;>refine yS J2 ?_)|(refine drk_gsd rfl rfl (zE J2) (fun hb=>?_) (fun hb=>?_)<;>refine yS J2 ?_)|(refine drk_gse rfl rfl (zE J2) (fun hb=>?_) (fun hb=>?_)<;>refine yS J2 ?_)|(refine drk_gsn rfl rfl (zE J2) (fun hb=>?_) (fun hb=>?_)<;>refine yS J2 ?_)|(refine drk_gs rfl rfl (zE J2) (fun hb=>?_) (fun hb=>?_)<;>fail_if_success (cases hb;done)<;>refine yS J2 ?_)
 refine aw_rethw (h':=[(g,rdO L (expS kSemi F.2))]) rfl (by first|exact List.Sublist.refl _|exact .cons _ (.refl _)|exact .cons _ (.cons _ (.refl _))|exact .cons _ (.cons _ (.cons _ (.refl _)))) fun R r=>?_;simp only[go_sem,hn_g2,hn_g3,hn_gm];refine r _ rfl ?_;clear r R
 exact⟨rfl,rfl⟩
end Go.Proofs.YteocnikcjjonbaaGreat
