/- Parts of one proof, laid by a program. -/
import Derived.Test.YtnmeahogifekdaaGreatDoorM00
import Derived.Test.YtnmeahogifekdaaGreatDoorM06
set_option linter.unusedSimpArgs false
set_option linter.unusedVariables false
set_option maxRecDepth 100000
set_option maxHeartbeats 12800000
namespace Go.AI
open Go.PN
theorem vls_push {xs:List VlD} {n:Nat} (hn:xs.length=n) (t:VlD):∀j,j<(n+1)*4→appF (vlsF xs) (n*4) (ofL (vlc t)) j=vlsF (xs++[t]) j:=lf_push (s:=4) (c:=vlc) (d:=(vl0:VlD)) hn t (by decide)
end Go.AI
namespace Go.Proofs.YtnmeahogifekdaaGreatDoor
open Go.AI Go.PN
attribute [local irreducible] aw Fa Fh DrK
theorem phase_fg (g:Nat) (L:List TX) (s:PS) (hs:s.l<:+L.map TX.t) (hL:L.length≤1048576) (hw:∀t∈L,t.t.text.length≤1099511627776):Fg Tryz.prog 104 g (rdO L s) [.c (.optr g 0)] (.agg (phc (phaseS s).1)) (rdO L (phaseS s).2):=by
 have f1:=word_fg g L s hs om
 have hs1:=suf_word hs
 unfold phaseS
 dsimp only
 generalize wordS s=r at*
 obtain⟨nm,s1⟩:=r
 dsimp only at*
 have f2:=expect_fg g L s1 kTop hs1 om
 have hs2:(expS kTop s1).l<:+L.map TX.t:=((rdr_exp kTop).suf s1).trans hs1
 generalize expS kTop s1=s2 at*
 have f3:=input_fg g L s2 hs2 om hw
 have hs3:=(rdr_input.suf s2).trans hs2
 generalize inputS s2=r at*
 obtain⟨tp,s3⟩:=r
 dsimp only at*
 have f4:=expect_fg g L s3 kOpen hs3 om
 have hs4:(expS kOpen s3).l<:+L.map TX.t:=((rdr_exp kOpen).suf s3).trans hs3
 generalize expS kOpen s3=s4 at*
 generalize hF:lpS (fun s=> !isS s kClose) vlB [] s4=F at*
 unfold Fg
 refine fh_of_body Tryz.func104 rfl rfl (by simp [Tryz.ntmps104]) fun C hC=> ?_
 simp only [initS,Nat.reduceAdd]
 repeat' first|refine zV o0 ?_|refine zH o0 (fun hb=>?_) fun hb=>?_|fail
 refine xA fun g2 hn_g2=>?_
 repeat' first|refine zV hn_g2 ?_|(refine zg hn_g2 (f1) ?_)|refine zH hn_g2 (fun hb=>?_) fun hb=>?_|fail
 refine yA hn_g2 fun g3 hn_g3=>?_
 all_goals try(have Z:=(oj hn_g2 hn_g3);(repeat' first|refine zV Z ?_|(refine zg Z (f2) ?_)|(refine zg Z (f3) ?_)|refine zH Z (fun hb=>?_) fun hb=>?_|fail);all_goals clear Z)
 refine aw_cg f4 rfl rfl rfl (zE (oj hn_g2 hn_g3)) (zL2 o0) ?_
 have J1:=oj hn_g2 hn_g3
 refine yS J1 ?_
 refine yH J1 ?_
 apply wa1
 refine aw_cut (fun _:Nat×Option Nat=>[(0,.c (.optr g 0)),(2,.c (.optr g2 0)),(3,.c (.optr g3 0))]) (fun x=>[(g3,.cells 66 3 (ofL [.str (sB nm),.str (sB tp),gs x.2 4 x.1])),(g2,.cells 66 3 (ofL [.str (sB []),.str (sB []),.nils])),(g,rdO L F.2)]++gh x.2 68 (x.1*4) (vlsF F.1)) (fun x=>F.1.length=x.1∧(x.2=none→x.1=0)) ?_ ?_
 ·apply wa2
  refine aw_lp (fun _:PS×List VlD×Nat×Option Nat=>[(0,.c (.optr g 0)),(2,.c (.optr g2 0)),(3,.c (.optr g3 0))]) (fun x=>[(g3,.cells 66 3 (ofL [.str (sB nm),.str (sB tp),gs x.2.2.2 4 x.2.2.1])),(g2,.cells 66 3 (ofL [.str (sB []),.str (sB []),.nils])),(g,rdO L x.1)]++gh x.2.2.2 68 (x.2.2.1*4) (vlsF x.2.1))
   (fun x=>x.1.l<:+L.map TX.t∧x.2.1.length=x.2.2.1∧(x.2.2.2=none→x.2.2.1=0)∧x.2.2.1+mS x.1≤1048577∧lpS (fun s=> !isS s kClose) vlB x.2.1 x.1=F) (fun x=>mS x.1) (s4,[],0,none) (zB J1) zZ ⟨hs4,rfl,fun _=>rfl,?_,hF⟩ ?_
  ·have:=(hs4).length_le
   rw [List.length_map] at this
   dsimp only
   unfold mS
   split<;>omega
  rintro ⟨sx,xs,n,og⟩ ⟨hsx,hn,hog,hm,hlp⟩
  dsimp only at hsx hn hog hm hlp⊢
  have f5:=is_fg g L sx kClose hsx om
  have f7:=word_fg g L sx hsx om
  all_goals try(have Z:=J1;(repeat' first|refine zV Z ?_|(refine zg Z (f5) ?_)|refine zH Z (fun hb=>?_) fun hb=>?_|fail);all_goals clear Z)
  ·rename_i h0
   have hc:(fun s=> !isS s kClose) sx=true:=hb
   have hst:=lpS_step (c:=fun s=> !isS s kClose) (b:=vlB) (a:=xs) (fun a s h _=>con_vlB a s h) h0 hc
   have hlt:=con_vlB xs sx h0
   rw [hst] at hlp
   have hsy:(vlB xs sx).2.l<:+L.map TX.t:=((rdr_vlB xs).suf sx).trans hsx
   have e1:(vlB xs sx).1=xs++[⟨(wordS sx).1,(numS (wordS sx).2).1⟩]:=rfl
   have e2:(vlB xs sx).2=expS kSemi (numS (wordS sx).2).2:=rfl
   rw [e2] at hlt hsy
   rw [e1,e2] at hlp
   have hsa:=suf_word hsx
   generalize wordS sx=y at*
   obtain⟨w,sa⟩:=y
   dsimp only at*
   have f8:=number_fg g L sa hsa om hw
   have hsb:=(rdr_num.suf sa).trans hsa
   generalize numS sa=y at*
   obtain⟨q,sb⟩:=y
   dsimp only at*
   have f9:=expect_fg g L sb kSemi hsb om
   generalize expS kSemi sb=sy at*
   all_goals try(have Z:=J1;(repeat' first|refine zV Z ?_|(refine zg Z (f7) ?_)|refine zH Z (fun hb=>?_) fun hb=>?_|fail);all_goals clear Z)
   refine yA J1 fun g4 hn_g4=>?_
   all_goals try(have Z:=(oj hn_g2 (oj hn_g3 hn_g4));(repeat' first|refine zV Z ?_|(refine zg Z (f8) ?_)|(refine zg Z (f9) ?_)|refine zH Z (fun hb=>?_) fun hb=>?_|fail);all_goals clear Z)
   refine aw_push (pre:=[(g4,.cells 68 4 (ofL (vlc ⟨w,q⟩))),(g3,.cells 66 3 (ofL [.str (sB nm),.str (sB tp),gs og 4 n])),(g2,.cells 66 3 (ofL [.str (sB []),.str (sB []),.nils])),(g,rdO L sy)]) rfl rfl rfl rfl rfl rfl rfl (zE (oj hn_g2 (oj hn_g3 hn_g4))) (zE (oj hn_g2 (oj hn_g3 hn_g4))) (by rfl) om om (zE (oj hn_g2 (oj hn_g3 hn_g4))) om (by exact hog) (zE (oj hn_g2 (oj hn_g3 hn_g4))) (by rfl) (by rfl) (by first|rfl|simp only [Nat.mul_one,List.nil_append,List.cons_append]<;>rfl) (by unfold maxLen;omega) om (by exact vls_push hn ⟨w,q⟩) fun gb hn_gb=> ?_
   replace hn_gb:=Heap.ne_of hn_gb
   first|dsimp only [Heap.ne,gh] at hn_gb|dsimp only [Heap.ne] at hn_gb|skip
   have J2:=oj hn_g2 (oj hn_g3 (oj hn_g4 hn_gb))
   refine yS J2 ?_
   all_goals try(have Z:=J2;(repeat' first|refine zV Z ?_|refine zH Z (fun hb=>?_) fun hb=>?_|fail);all_goals clear Z)
   refine aw_stop ⟨(sy,xs++[⟨w,q⟩],n+1,some gb),?_⟩
   refine⟨hlt,?_⟩
   and_intros
   all_goals first|rfl|exact List.Sublist.cons _ (List.Sublist.refl _)|exact True.intro|exact hsy|exact some_ne|exact hlp|(dsimp only;rw [List.length_append,hn];rfl)|(dsimp only;omega)
  ·have hc:¬(sx.e=0∧(fun s=> !isS s kClose) sx=true):=fun z=>by rw [show(fun s=> !isS s kClose) sx=false from hb] at z;exact absurd z.2 (by decide)
   rw [lpS_end hc] at hlp
   subst hlp
   refine aw_stop ⟨(n,og),?_⟩
   and_intros<;>first|rfl|exact List.Sublist.refl _|exact True.intro|exact hn|exact hog
  ·have hc:¬(sx.e=0∧(fun s=> !isS s kClose) sx=true):=fun z=>hb z.1
   rw [lpS_end hc] at hlp
   subst hlp
   refine aw_stop ⟨(n,og),?_⟩
   and_intros<;>first|rfl|exact List.Sublist.refl _|exact True.intro|exact hn|exact hog
 rintro ⟨n,og⟩ ⟨hn,hog⟩
 dsimp only at hn hog⊢
 have hs5:F.2.l<:+L.map TX.t:=by
  rw [←hF];exact((rdr_lp rdr_vlB []).suf s4).trans (hs4)
 subst hn
 refine aw_nd fun hnd=> ?_
 have hog2:∀q,og=some q→¬C.own0 q:=fun q hq hown=>by
  subst hq
  have:q=g:=by simpa [Heap.keys] using (hC q).1 hown
  subst this
  simp [Heap.keys,gh] at hnd
 refine aw_perm (h':=(g3,.cells 66 3 (ofL [.str (sB nm),.str (sB tp),gs og 4 F.1.length]))::(gh og 68 (F.1.length*4) (vlsF F.1)++[(g2,.cells 66 3 (ofL [.str (sB []),.str (sB []),.nils])),(g,rdO L F.2)])) (by exact .cons _ (List.perm_append_comm (l₁:=[(g2,.cells 66 3 (ofL [.str (sB []),.str (sB []),.nils])),(g,rdO L F.2)]))) ?_
 refine aw_frzG (j0:=2) (n:=F.1.length) (s:=4) (f':=ofL [.str (sB nm),.str (sB tp),.row true 4 F.1.length (vlsF F.1)]) rfl rfl (fun j hj hj3=>by
  match j,hj,hj3 with
  |0,_,_=>rfl
  |1,_,_=>rfl
  |j+2,h1,h2=>exact absurd (show j+2=2 from by omega) h2) hog hog2 ?_
 have f6:=expect_fg g L F.2 kClose hs5 om
 all_goals try(have Z:=J1;(repeat' first|refine zV Z ?_|(refine zg Z (f6) ?_)|refine zH Z (fun hb=>?_) fun hb=>?_|fail);all_goals clear Z)
 refine aw_rethw (h':=[(g,rdO L (expS kClose F.2))]) rfl sL fun R r=>?_;simp only[go_sem,hn_g2,hn_g3];refine r _ rfl ?_;clear r R
 exact⟨rfl,rfl⟩
end Go.Proofs.YtnmeahogifekdaaGreatDoor
namespace Go.AI
open Go.PN
theorem sb_beq (a b:BS):(sB a==sB b)=decide (a=b):=by
 show((sB a).data==(sB b).data)=_
 rw [Bool.eq_iff_iff];simp
section
variable {P : Program}
def keyS (l:BS):Value:=.string (sB l)
theorem keyS_ok {kt:TypeId} (ht:P.underlying kt=some .string):KeyOk P kt keyS:=by
 refine⟨fun b a w=> ?_,fun a ks es w h=> ?_⟩
 ·unfold Instr.checkKey keyS
  simp only [Sem.run_bind,run_underlying ht,Result.andThen_ok]
  rfl
 ·unfold Instr.findKey
  simp only [Sem.run_bind,run_underlying ht,Result.andThen_ok]
  have hn:∀(ks:List BS) (es:List MapEntry) (i:Nat),es.map (·.key)=ks.map keyS→Instr.findNow .string (keyS a) es i=some (fAsk a ks es i):=by
   intro ks
   induction ks with
   |nil=>
    intro es i h
    cases es with
    |nil=>rfl
    |cons e es=>simp at h
   |cons k ks ih=>
    intro es i h
    cases es with
    |nil=>simp at h
    |cons e es=>
     simp only [List.map_cons,List.cons.injEq] at h
     simp only [Instr.findNow,fAsk,h.1,keyS,Instr.sameNow]
     rw [show((⟨a.toArray⟩:ByteArray)==(⟨k.toArray⟩:ByteArray))=decide (a=k) from sb_beq a k]
     by_cases hk:a=k
     ·rw [decide_eq_true hk,if_pos hk]
     ·rw [decide_eq_false hk,if_neg hk]
      exact ih es (i+1) h.2
  rw [hn ks es 0 h]
  rfl
end
section
variable {E : Env} {K : List It} {σ σ' : Sl} {h : Heap} {all rest : List Oper} {o : Oper}
theorem Calm.lookup1 {l:List Oper} {α:Type} [DecidableEq α] {Kf:α→Value} {t kt et g:TypeId} {kv:List (α×Value)} {x ky:Operand} {ck:AV} {a:α} {z:Value} (hop:o.op=.lookup t x ky false) (hw:wantA l σ o=some true) (hd:dstOk E.N o.dst=true)
  (ht:tMap E.P t=some (kt,et)) (hK:KeyOk E.P kt Kf) (hz:tZ1 E.P et=some z) (hx:ev σ x=.c (.raw (.map (some g)))) (hg:h.get g=some (.gen (MapI Kf kv))) (hk:ev σ ky=ck) (hka:∀S w v,Rep S w ck v→v=Kf a):
  Calm E h l σ o (.c (cstC ((kvGet a kv).getD z))):=by
 refine⟨hd,fun σ' ac w Q hs s=> ?_⟩
 rw [if_pos (s.wanted ((want_same hs).trans hw))]
 have h1:=ev_rep s x
 rw [ev_same (by rw [hop];simp [Op.operands]) hs,hx] at h1
 have h1':ac.eval x=.map (some g):=h1
 have h2:=ev_rep s ky
 rw [ev_same (by rw [hop];simp [Op.operands]) hs,hk] at h2
 have h2':=hka _ _ _ h2
 obtain⟨ob,hb,es,c,rfl,hes⟩:=s.heap g _ (Heap.get_mem hg)
 have hkeys:es.toList.map (·.key)=(kv.map (·.1)).map Kf:=by
  have:=congrArg (List.map Prod.fst) hes
  rw [List.map_map,List.map_map] at this
  rw [List.map_map]
  exact this
 have hfind:=hK.find a (kv.map (·.1)) es.toList w hkeys
 have hget:=fAsk_get (K:=Kf) a kv es.toList 0 hes
 have hlk:(Instr.lookup t (ac.eval x) (ac.eval ky) false).run E.P w=.ok ((kvGet a kv).getD z) w:=by
  rw [h1',h2']
  unfold Instr.lookup
  simp only [Sem.run_bind,run_underlying (tMap_spec ht),Result.andThen_ok,runGet hb,Sem.run_pure,hK.check,hfind]
  rw [←hget]
  cases hf:fAsk a (kv.map (·.1)) es.toList 0 with
  |none=>simp [tZ1_run hz]
  |some p=>obtain⟨i,v⟩:=p;simp
 have hrun:(execOp ac.eval o).run E.P w=.ok (.value ((kvGet a kv).getD z)) w:=by
  simp only [execOp,hop,Sem.run_bind,hlk,Result.andThen_ok]
  rfl
 unfold Oper.wp
 rw [hrun]
 exact s.put hd (cstC_rep _ _ _)
theorem drk_lookup1 {l:List Oper} {n:Nat} {α:Type} [DecidableEq α] {Kf:α→Value} {t kt et g:TypeId} {kv:List (α×Value)} {x ky:Operand} {ck:AV} {a:α} {z:Value} (hop:o.op=.lookup t x ky false) (hw:wantA l σ o=some true) (hd:dstOk E.N o.dst=true)
 (ht:tMap E.P t=some (kt,et)) (hK:KeyOk E.P kt Kf) (hz:tZ1 E.P et=some z) (hx:ev σ x=.c (.raw (.map (some g)))) (hg:h.get g=some (.gen (MapI Kf kv))) (hk:ev σ ky=ck) (hka:∀S w v,Rep S w ck v→v=Kf a)
 (k:DrK E h l K n rest (σ.setO o.dst (.c (cstC ((kvGet a kv).getD z))))):DrK E h l K (n+1) (o::rest) σ:=drk_cons (Calm.lookup1 hop hw hd ht hK hz hx hg hk hka) k
end
end Go.AI
namespace Go.PN
open Go.AI
def svL (seen:List BS):List (BS×Value):=seen.reverse.map fun k=>(k,.bool true)
theorem svL_cons (k:BS) (seen:List BS):svL (k::seen)=svL seen++[(k,.bool true)]:=by unfold svL;simp
theorem kvGet_app (a:BS):∀(l:List (BS×Value)) (k:BS) (v:Value),kvGet a (l++[(k,v)])=(match kvGet a l with|some x=>some x|none=>if a=k then some v else none)
 |[],k,v=>rfl
 |p::l,k,v=>by
  show(if a=p.1 then some p.2 else kvGet a (l++[(k,v)]))=(match (if a=p.1 then some p.2 else kvGet a l) with|some x=>some x|none=>_)
  by_cases h:a=p.1
  ·rw [if_pos h,if_pos h]
  ·rw [if_neg h,if_neg h];exact kvGet_app a l k v
theorem svL_get (a:BS):∀seen:List BS,kvGet a (svL seen)=if seen.contains a then some (.bool true) else none
 |[]=>rfl
 |k::seen=>by
  rw [svL_cons,kvGet_app,svL_get a seen,List.contains_cons]
  by_cases h:seen.contains a=true
  ·rw [if_pos h,h];simp
  ·have h':seen.contains a=false:=by simpa using h
   rw [h']
   by_cases e:a=k
   ·subst e;simp
   ·have:(a==k)=false:=by simpa using e
    rw [this];simp [e]
theorem is_tok {s:PS} {w:BS} (h:isS s w=true):s.e=0∧∃t l,s.l=t::l∧t.kind≠1∧t.text=w:=by
 unfold isS at h
 simp only [Bool.and_eq_true,decide_eq_true_eq] at h
 refine⟨h.1,?_⟩
 cases hl:s.l with
 |nil=>rw [hl] at h;simp at h
 |cons t l=>
  rw [hl] at h
  simp at h
  exact⟨t,l,rfl,h.2.1,h.2.2⟩
theorem evB_p {s:PS} {t:TK} {l':List TK} (seen:List BS) (x:EvD) (e0:s.e=0) (hl:s.l=t::l') (hk:t.kind≠1) (ht:t.text=kP):evB (seen,x) s=if seen.contains kP=true then((seen,x),failS 6 s) else((kP::seen,{x with p:=(numS ⟨l',0⟩).1}),(numS ⟨l',0⟩).2):=by
 have hi:∀w,isS s w=(t.text==w):=fun w=>by rw [is_cons e0 hl,bne_iff_ne.2 hk,Bool.true_and]
 unfold evB
 rw [hi,hi,hi,hi,hd_cons hl,ht]
 dsimp only
 rw [take_cons e0 hl,ht]
 rfl
theorem evB_fail {s:PS} {t:TK} {l':List TK} (seen:List BS) (x:EvD) (e0:s.e=0) (hl:s.l=t::l') (hk:t.kind≠1) (ht:t.text=kFail):evB (seen,x) s=if seen.contains kFail=true then((seen,x),failS 6 s) else((kFail::seen,{x with fail:=(numS ⟨l',0⟩).1}),(numS ⟨l',0⟩).2):=by
 have hi:∀w,isS s w=(t.text==w):=fun w=>by rw [is_cons e0 hl,bne_iff_ne.2 hk,Bool.true_and]
 unfold evB
 rw [hi,hi,hi,hi,hd_cons hl,ht]
 dsimp only
 rw [take_cons e0 hl,ht]
 rfl
theorem evB_rep {s:PS} {t:TK} {l':List TK} (seen:List BS) (x:EvD) (e0:s.e=0) (hl:s.l=t::l') (hk:t.kind≠1) (ht:t.text=kRepair):evB (seen,x) s=if seen.contains kRepair=true then((seen,x),failS 6 s) else((kRepair::seen,{x with rep:=(numS ⟨l',0⟩).1}),(numS ⟨l',0⟩).2):=by
 have hi:∀w,isS s w=(t.text==w):=fun w=>by rw [is_cons e0 hl,bne_iff_ne.2 hk,Bool.true_and]
 unfold evB
 rw [hi,hi,hi,hi,hd_cons hl,ht]
 dsimp only
 rw [take_cons e0 hl,ht]
 rfl
theorem evB_cost {s:PS} {t:TK} {l':List TK} (seen:List BS) (x:EvD) (e0:s.e=0) (hl:s.l=t::l') (hk:t.kind≠1) (ht:t.text=kCost):evB (seen,x) s=if seen.contains kCost=true then((seen,x),failS 6 s) else((kCost::seen,{x with cost:=(wholeS ⟨l',0⟩).1}),(wholeS ⟨l',0⟩).2):=by
 have hi:∀w,isS s w=(t.text==w):=fun w=>by rw [is_cons e0 hl,bne_iff_ne.2 hk,Bool.true_and]
 unfold evB
 rw [hi,hi,hi,hi,hd_cons hl,ht]
 dsimp only
 rw [take_cons e0 hl,ht]
 rfl
theorem evB_no {s:PS} (seen:List BS) (x:EvD) (h0:isS s kP=false) (h1:isS s kFail=false) (h2:isS s kRepair=false) (h3:isS s kCost=false):evB (seen,x) s=((((takeS false s).1::seen,x),(takeS false s).2)):=by
 unfold evB
 rw [h0,h1,h2,h3]
 have ht:(takeS false s).1=[]:=by
  unfold takeS
  split
  ·split<;>rfl
  ·rfl
 dsimp only
 rw [show(false||false||false||false)=false from rfl,ht]
 rfl
theorem take_f (s:PS) (e0:s.e=0):(takeS false s).1=[]∧(takeS false s).2.e≠0:=by
 cases hl:s.l with
 |nil=>rw [take_nil e0 hl];exact⟨rfl,by simp⟩
 |cons t l=>rw [take_cons e0 hl];exact⟨rfl,by simp⟩
end Go.PN
namespace Go.Proofs.YtnmeahogifekdaaGreatDoor
open Go.AI Go.PN
theorem conv_ev {a:CV}:∀j,j<11→∀(S:Bool→Nat→Prop) w u,RepC S w (ofL [a,.bool false,.nils,.nils,.bool false,.nils,.nils,.bool false,.nils,.nils,.int .i64 0] j) u→RepC S w (ofL ([a]++rdc rd0++rdc rd0++rdc rd0++[.int .i64 0]) j) u:=fun j hj S w u hr=>by
 match j,hj with
 |0,_=>exact hr
 |1,_=>exact hr
 |2,_=>exact repC_nil hr
 |3,_=>exact repC_nil hr
 |4,_=>exact hr
 |5,_=>exact repC_nil hr
 |6,_=>exact repC_nil hr
 |7,_=>exact hr
 |8,_=>exact repC_nil hr
 |9,_=>exact repC_nil hr
 |10,_=>exact hr
attribute [local irreducible] aw Fa Fh DrK
theorem event_fg (g:Nat) (L:List TX) (s:PS) (hs:s.l<:+L.map TX.t) (hL:L.length≤1048576) (hw:∀t∈L,t.t.text.length≤1099511627776):Fg Tryz.prog 99 g (rdO L s) [.c (.optr g 0)] (.agg (evc (eventS s).1)) (rdO L (eventS s).2):=by
 have f1:=word_fg g L s hs om
 have hs1:=suf_word hs
 unfold eventS
 dsimp only
 generalize wordS s=r at*
 obtain⟨nm,s1⟩:=r
 dsimp only at*
 generalize hF:lpS (fun s=> !isS s kSemi) evB ([],{ev0 with name:=nm}) s1=F at*
 have hsF:F.2.l<:+L.map TX.t:=by rw [←hF];exact((rdr_lp rdr_evB _).suf s1).trans hs1
 have f8:=expect_fg g L F.2 kSemi hsF om
 unfold Fg
 refine fh_of_body Tryz.func99 rfl rfl (by simp [Tryz.ntmps99]) fun C hC=> ?_
 simp only [initS,Nat.reduceAdd]
 apply wa1
 apply wa6
 refine xA fun g2 hn_g2=>?_
 refine yH hn_g2 ?_
 apply wa1
 apply wa6
 refine yH hn_g2 ?_
 refine aw_cg f1 rfl rfl rfl (zE hn_g2) (zL2 o0) ?_
 refine yS hn_g2 ?_
 refine yH hn_g2 ?_
 refine yA hn_g2 fun g3 hn_g3=>?_
 have J1:=oj hn_g2 hn_g3
 refine yW J1 ?_
 refine yS J1 ?_
 refine yH J1 ?_
 refine aw_convR (f':=ofL (evc {ev0 with name:=nm})) conv_ev ?_
 apply wa1
 apply wa6
 refine aw_makeMap (Kf:=keyS) rfl rfl rfl fun gm hn_gm=> ?_
 replace hn_gm:=Heap.ne_of hn_gm
 simp only [Heap.ne] at hn_gm
 have J2:=oj hn_g2 (oj hn_g3 hn_gm)
 refine yS J2 ?_
 refine yH J2 ?_
 apply wa1
 refine aw_cut (fun _:Unit=>[(0,.c (.optr g 0)),(2,.c (.optr g2 0)),(3,.c (.optr g3 0))]) (fun _=>[(g3,.cells 49 11 (ofL (evc F.1.2))),(g2,.cells 49 11 (ofL [.str (sB []),.bool false,.nils,.nils,.bool false,.nils,.nils,.bool false,.nils,.nils,.int .i64 0])),(g,rdO L F.2)]) (fun _=>1=1) ?_ ?_
 ·apply wa2
  refine aw_lp (fun _:PS×List BS×EvD=>[(0,.c (.optr g 0)),(2,.c (.optr g2 0)),(3,.c (.optr g3 0)),(4,.c (.raw (.map (some gm))))]) (fun x=>[(gm,.gen (MapI keyS (svL x.2.1))),(g3,.cells 49 11 (ofL (evc x.2.2))),(g2,.cells 49 11 (ofL [.str (sB []),.bool false,.nils,.nils,.bool false,.nils,.nils,.bool false,.nils,.nils,.int .i64 0])),(g,rdO L x.1)])
   (fun x=>x.1.l<:+L.map TX.t∧(x.1.e=0→x.2.1.contains []=false)∧lpS (fun s=> !isS s kSemi) evB (x.2.1,x.2.2) x.1=F) (fun x=>mS x.1) (s1,[],{ev0 with name:=nm}) (zB J2) zZ ⟨hs1,fun _=>rfl,hF⟩ ?_
  rintro ⟨sx,seen,x⟩ ⟨hsx,hne,hlp⟩
  dsimp only at hsx hne hlp⊢
  have i0:=is_fg g L sx kSemi hsx om
  have i1:=is_fg g L sx kP hsx om
  have i2:=is_fg g L sx kFail hsx om
  have i3:=is_fg g L sx kRepair hsx om
  have i4:=is_fg g L sx kCost hsx om
  have hr:=rat hsx
  have hcon:=con_evB (seen,x) sx
  have hsuf:=((rdr_evB (seen,x)).suf sx).trans hsx
  have hst:=fun h0 hc=>lpS_step (c:=fun s=> !isS s kSemi) (b:=evB) (a:=(seen,x)) (s:=sx) (fun a s h _=>con_evB a s h) h0 hc
  all_goals try(have Z:=J2;(repeat' first|refine zV Z ?_|(refine zg Z (i0) ?_)|(refine zg Z (i1) ?_)|(refine zg Z (i2) ?_)|(refine zg Z (i3) ?_)|(refine zg Z (i4) ?_)|refine zH Z (fun hb=>?_) fun hb=>?_|fail);all_goals clear Z)
  ·rename_i h0 hc
   obtain⟨_,t,l',hl,hk,ht⟩:=is_tok hb
   have hB:=evB_p seen x h0 hl hk ht
   have hat:L.length-sx.l.length<L.length:=Classical.byContradiction fun h=>by have:=hr.nil h;rw [this] at hl;cases hl
   obtain⟨l2,hl2,hl3⟩:=hr.cons hat
   have htx:(L.getD (L.length-sx.l.length) tx0).t.text=kP:=by
    have hx:=(List.cons.inj (hl.symm.trans hl2)).1
    rw [←hx];exact ht
   have hsl:l'<:+L.map TX.t:=(show l'<:+sx.l from by rw [hl];exact List.suffix_cons t l').trans hsx
   have hcon':=hcon h0
   have hst':=hst h0 hc
   have q0:(kP==kP)=true:=rfl
   have q1:(kP==kFail)=false:=rfl
   have q2:(kP==kRepair)=false:=rfl
   have q3:(kP==kCost)=false:=rfl
   refine aw_dr 16 ty_mixed (by kernel_rfl) ?_
   all_goals try(have Z:=(oj hn_g2 (oj hn_g3 (oj hn_gm (oj htx (oj q0 (oj q1 (oj q2 q3)))))));(repeat' first|refine zV Z ?_|refine zH Z (fun hb=>?_) fun hb=>?_|fail);all_goals clear Z)
   refine drk_lookup1 (a:=kP) (kv:=svL seen) (Kf:=keyS) (z:=.bool false) rfl rfl rfl (kt:=9) (et:=4) (by kernel_rfl) (keyS_ok (by kernel_rfl)) (by kernel_rfl) (zE (oj hn_g2 (oj hn_g3 (oj hn_gm (oj htx (oj q0 (oj q1 (oj q2 q3)))))))) (zE (oj hn_g2 (oj hn_g3 (oj hn_gm (oj htx (oj q0 (oj q1 (oj q2 q3)))))))) (ck:=.c (.str (sB kP))) (zE (oj hn_g2 (oj hn_g3 (oj hn_gm (oj htx (oj q0 (oj q1 (oj q2 q3)))))))) (fun _ _ _ h=>h) ?_
   rw [svL_get]
   by_cases hcs:seen.contains kP=true
   ·rw [if_pos hcs] at hB⊢
    have f6:=fail_fg g L sx 6 (by decide)
    all_goals try(have Z:=(oj hn_g2 (oj hn_g3 (oj hn_gm (oj htx (oj q0 (oj q1 (oj q2 q3)))))));(repeat' first|refine zV Z ?_|(refine zg Z (f6) ?_)|refine zH Z (fun hb=>?_) fun hb=>?_|fail);all_goals clear Z)
    rw [hst',hB,lpS_end (fun z=>by have:=z.1;unfold failS at this;rw [if_pos h0] at this;exact absurd this (by simp))] at hlp
    subst hlp
    refine aw_stop ⟨(),?_⟩
    and_intros<;>first|rfl|exact List.Sublist.cons _ (List.Sublist.refl _)|exact True.intro
   ·rw [if_neg hcs] at hB⊢
    have hcs':seen.contains kP=false:=by simpa using hcs
    have f6:=take_fg g L sx true hsx om
    rw [take_cons h0 hl,if_pos rfl,ht] at f6
    dsimp only at f6
    have f7:=number_fg g L ⟨l',0⟩ hsl om hw
    all_goals try(have Z:=(oj hn_g2 (oj hn_g3 (oj hn_gm (oj htx (oj q0 (oj q1 (oj q2 q3)))))));(repeat' first|refine zV Z ?_|(refine zg Z (f6) ?_)|refine zH Z (fun hb=>?_) fun hb=>?_|fail);all_goals clear Z)
    refine aw_mapNew (a:=kP) (kv:=svL seen) (Kf:=keyS) (v:=.bool true) rfl rfl rfl (kt:=9) (et:=4) (by kernel_rfl) (keyS_ok (by kernel_rfl)) (zE (oj hn_g2 (oj hn_g3 (oj hn_gm (oj htx (oj q0 (oj q1 (oj q2 q3)))))))) (zE (oj hn_g2 (oj hn_g3 (oj hn_gm (oj htx (oj q0 (oj q1 (oj q2 q3)))))))) (ck:=.c (.str (sB kP))) (zE (oj hn_g2 (oj hn_g3 (oj hn_gm (oj htx (oj q0 (oj q1 (oj q2 q3)))))))) (fun _ _ _ h=>h) (cv:=.c (.bool true)) (zE (oj hn_g2 (oj hn_g3 (oj hn_gm (oj htx (oj q0 (oj q1 (oj q2 q3)))))))) (fun _ _ _ h=>h) (by rw [svL_get,hcs'];rfl) rfl ?_
    rw [←svL_cons]
    all_goals try(have Z:=(oj hn_g2 (oj hn_g3 (oj hn_gm (oj htx (oj q0 (oj q1 (oj q2 q3)))))));(repeat' first|refine zV Z ?_|(refine zg Z (f7) ?_)|refine zH Z (fun hb=>?_) fun hb=>?_|fail);all_goals clear Z)
    rw [hB] at hcon' hsuf
    rw [hst',hB] at hlp
    refine aw_stop ⟨((numS ⟨l',0⟩).2,kP::seen,{x with p:=(numS ⟨l',0⟩).1}),?_⟩
    refine⟨hcon',?_⟩
    and_intros
    all_goals first|rfl|exact List.Sublist.refl _|exact True.intro|exact hsuf|exact hlp|exact fun _=>by dsimp only;rw [List.contains_cons,hne h0];rfl
  ·rename_i h0 hc n0
   obtain⟨_,t,l',hl,hk,ht⟩:=is_tok hb
   have hB:=evB_fail seen x h0 hl hk ht
   have hat:L.length-sx.l.length<L.length:=Classical.byContradiction fun h=>by have:=hr.nil h;rw [this] at hl;cases hl
   obtain⟨l2,hl2,hl3⟩:=hr.cons hat
   have htx:(L.getD (L.length-sx.l.length) tx0).t.text=kFail:=by
    have hx:=(List.cons.inj (hl.symm.trans hl2)).1
    rw [←hx];exact ht
   have hsl:l'<:+L.map TX.t:=(show l'<:+sx.l from by rw [hl];exact List.suffix_cons t l').trans hsx
   have hcon':=hcon h0
   have hst':=hst h0 hc
   have q0:(kFail==kP)=false:=rfl
   have q1:(kFail==kFail)=true:=rfl
   have q2:(kFail==kRepair)=false:=rfl
   have q3:(kFail==kCost)=false:=rfl
   refine aw_dr 16 ty_mixed (by kernel_rfl) ?_
   all_goals try(have Z:=(oj hn_g2 (oj hn_g3 (oj hn_gm (oj htx (oj q0 (oj q1 (oj q2 q3)))))));(repeat' first|refine zV Z ?_|refine zH Z (fun hb=>?_) fun hb=>?_|fail);all_goals clear Z)
   refine drk_lookup1 (a:=kFail) (kv:=svL seen) (Kf:=keyS) (z:=.bool false) rfl rfl rfl (kt:=9) (et:=4) (by kernel_rfl) (keyS_ok (by kernel_rfl)) (by kernel_rfl) (zE (oj hn_g2 (oj hn_g3 (oj hn_gm (oj htx (oj q0 (oj q1 (oj q2 q3)))))))) (zE (oj hn_g2 (oj hn_g3 (oj hn_gm (oj htx (oj q0 (oj q1 (oj q2 q3)))))))) (ck:=.c (.str (sB kFail))) (zE (oj hn_g2 (oj hn_g3 (oj hn_gm (oj htx (oj q0 (oj q1 (oj q2 q3)))))))) (fun _ _ _ h=>h) ?_
   rw [svL_get]
   by_cases hcs:seen.contains kFail=true
   ·rw [if_pos hcs] at hB⊢
    have f6:=fail_fg g L sx 6 (by decide)
    all_goals try(have Z:=(oj hn_g2 (oj hn_g3 (oj hn_gm (oj htx (oj q0 (oj q1 (oj q2 q3)))))));(repeat' first|refine zV Z ?_|(refine zg Z (f6) ?_)|refine zH Z (fun hb=>?_) fun hb=>?_|fail);all_goals clear Z)
    rw [hst',hB,lpS_end (fun z=>by have:=z.1;unfold failS at this;rw [if_pos h0] at this;exact absurd this (by simp))] at hlp
    subst hlp
    refine aw_stop ⟨(),?_⟩
    and_intros<;>first|rfl|exact List.Sublist.cons _ (List.Sublist.refl _)|exact True.intro
   ·rw [if_neg hcs] at hB⊢
    have hcs':seen.contains kFail=false:=by simpa using hcs
    have f6:=take_fg g L sx true hsx om
    rw [take_cons h0 hl,if_pos rfl,ht] at f6
    dsimp only at f6
    have f7:=number_fg g L ⟨l',0⟩ hsl om hw
    all_goals try(have Z:=(oj hn_g2 (oj hn_g3 (oj hn_gm (oj htx (oj q0 (oj q1 (oj q2 q3)))))));(repeat' first|refine zV Z ?_|(refine zg Z (f6) ?_)|refine zH Z (fun hb=>?_) fun hb=>?_|fail);all_goals clear Z)
    refine aw_mapNew (a:=kFail) (kv:=svL seen) (Kf:=keyS) (v:=.bool true) rfl rfl rfl (kt:=9) (et:=4) (by kernel_rfl) (keyS_ok (by kernel_rfl)) (zE (oj hn_g2 (oj hn_g3 (oj hn_gm (oj htx (oj q0 (oj q1 (oj q2 q3)))))))) (zE (oj hn_g2 (oj hn_g3 (oj hn_gm (oj htx (oj q0 (oj q1 (oj q2 q3)))))))) (ck:=.c (.str (sB kFail))) (zE (oj hn_g2 (oj hn_g3 (oj hn_gm (oj htx (oj q0 (oj q1 (oj q2 q3)))))))) (fun _ _ _ h=>h) (cv:=.c (.bool true)) (zE (oj hn_g2 (oj hn_g3 (oj hn_gm (oj htx (oj q0 (oj q1 (oj q2 q3)))))))) (fun _ _ _ h=>h) (by rw [svL_get,hcs'];rfl) rfl ?_
    rw [←svL_cons]
    all_goals try(have Z:=(oj hn_g2 (oj hn_g3 (oj hn_gm (oj htx (oj q0 (oj q1 (oj q2 q3)))))));(repeat' first|refine zV Z ?_|(refine zg Z (f7) ?_)|refine zH Z (fun hb=>?_) fun hb=>?_|fail);all_goals clear Z)
    rw [hB] at hcon' hsuf
    rw [hst',hB] at hlp
    refine aw_stop ⟨((numS ⟨l',0⟩).2,kFail::seen,{x with fail:=(numS ⟨l',0⟩).1}),?_⟩
    refine⟨hcon',?_⟩
    and_intros
    all_goals first|rfl|exact List.Sublist.refl _|exact True.intro|exact hsuf|exact hlp|exact fun _=>by dsimp only;rw [List.contains_cons,hne h0];rfl
  ·rename_i h0 hc n0 n1
   obtain⟨_,t,l',hl,hk,ht⟩:=is_tok hb
   have hB:=evB_rep seen x h0 hl hk ht
   have hat:L.length-sx.l.length<L.length:=Classical.byContradiction fun h=>by have:=hr.nil h;rw [this] at hl;cases hl
   obtain⟨l2,hl2,hl3⟩:=hr.cons hat
   have htx:(L.getD (L.length-sx.l.length) tx0).t.text=kRepair:=by
    have hx:=(List.cons.inj (hl.symm.trans hl2)).1
    rw [←hx];exact ht
   have hsl:l'<:+L.map TX.t:=(show l'<:+sx.l from by rw [hl];exact List.suffix_cons t l').trans hsx
   have hcon':=hcon h0
   have hst':=hst h0 hc
   have q0:(kRepair==kP)=false:=rfl
   have q1:(kRepair==kFail)=false:=rfl
   have q2:(kRepair==kRepair)=true:=rfl
   have q3:(kRepair==kCost)=false:=rfl
   refine aw_dr 16 ty_mixed (by kernel_rfl) ?_
   all_goals try(have Z:=(oj hn_g2 (oj hn_g3 (oj hn_gm (oj htx (oj q0 (oj q1 (oj q2 q3)))))));(repeat' first|refine zV Z ?_|refine zH Z (fun hb=>?_) fun hb=>?_|fail);all_goals clear Z)
   refine drk_lookup1 (a:=kRepair) (kv:=svL seen) (Kf:=keyS) (z:=.bool false) rfl rfl rfl (kt:=9) (et:=4) (by kernel_rfl) (keyS_ok (by kernel_rfl)) (by kernel_rfl) (zE (oj hn_g2 (oj hn_g3 (oj hn_gm (oj htx (oj q0 (oj q1 (oj q2 q3)))))))) (zE (oj hn_g2 (oj hn_g3 (oj hn_gm (oj htx (oj q0 (oj q1 (oj q2 q3)))))))) (ck:=.c (.str (sB kRepair))) (zE (oj hn_g2 (oj hn_g3 (oj hn_gm (oj htx (oj q0 (oj q1 (oj q2 q3)))))))) (fun _ _ _ h=>h) ?_
   rw [svL_get]
   by_cases hcs:seen.contains kRepair=true
   ·rw [if_pos hcs] at hB⊢
    have f6:=fail_fg g L sx 6 (by decide)
    all_goals try(have Z:=(oj hn_g2 (oj hn_g3 (oj hn_gm (oj htx (oj q0 (oj q1 (oj q2 q3)))))));(repeat' first|refine zV Z ?_|(refine zg Z (f6) ?_)|refine zH Z (fun hb=>?_) fun hb=>?_|fail);all_goals clear Z)
    rw [hst',hB,lpS_end (fun z=>by have:=z.1;unfold failS at this;rw [if_pos h0] at this;exact absurd this (by simp))] at hlp
    subst hlp
    refine aw_stop ⟨(),?_⟩
    and_intros<;>first|rfl|exact List.Sublist.cons _ (List.Sublist.refl _)|exact True.intro
   ·rw [if_neg hcs] at hB⊢
    have hcs':seen.contains kRepair=false:=by simpa using hcs
    have f6:=take_fg g L sx true hsx om
    rw [take_cons h0 hl,if_pos rfl,ht] at f6
    dsimp only at f6
    have f7:=number_fg g L ⟨l',0⟩ hsl om hw
    all_goals try(have Z:=(oj hn_g2 (oj hn_g3 (oj hn_gm (oj htx (oj q0 (oj q1 (oj q2 q3)))))));(repeat' first|refine zV Z ?_|(refine zg Z (f6) ?_)|refine zH Z (fun hb=>?_) fun hb=>?_|fail);all_goals clear Z)
    refine aw_mapNew (a:=kRepair) (kv:=svL seen) (Kf:=keyS) (v:=.bool true) rfl rfl rfl (kt:=9) (et:=4) (by kernel_rfl) (keyS_ok (by kernel_rfl)) (zE (oj hn_g2 (oj hn_g3 (oj hn_gm (oj htx (oj q0 (oj q1 (oj q2 q3)))))))) (zE (oj hn_g2 (oj hn_g3 (oj hn_gm (oj htx (oj q0 (oj q1 (oj q2 q3)))))))) (ck:=.c (.str (sB kRepair))) (zE (oj hn_g2 (oj hn_g3 (oj hn_gm (oj htx (oj q0 (oj q1 (oj q2 q3)))))))) (fun _ _ _ h=>h) (cv:=.c (.bool true)) (zE (oj hn_g2 (oj hn_g3 (oj hn_gm (oj htx (oj q0 (oj q1 (oj q2 q3)))))))) (fun _ _ _ h=>h) (by rw [svL_get,hcs'];rfl) rfl ?_
    rw [←svL_cons]
    all_goals try(have Z:=(oj hn_g2 (oj hn_g3 (oj hn_gm (oj htx (oj q0 (oj q1 (oj q2 q3)))))));(repeat' first|refine zV Z ?_|(refine zg Z (f7) ?_)|refine zH Z (fun hb=>?_) fun hb=>?_|fail);all_goals clear Z)
    rw [hB] at hcon' hsuf
    rw [hst',hB] at hlp
    refine aw_stop ⟨((numS ⟨l',0⟩).2,kRepair::seen,{x with rep:=(numS ⟨l',0⟩).1}),?_⟩
    refine⟨hcon',?_⟩
    and_intros
    all_goals first|rfl|exact List.Sublist.refl _|exact True.intro|exact hsuf|exact hlp|exact fun _=>by dsimp only;rw [List.contains_cons,hne h0];rfl
  ·rename_i h0 hc n0 n1
   have n2:=hb
   cases hb:isS sx kCost with
   |true=>
    obtain⟨_,t,l',hl,hk,ht⟩:=is_tok hb
    have hB:=evB_cost seen x h0 hl hk ht
    have hat:L.length-sx.l.length<L.length:=Classical.byContradiction fun h=>by have:=hr.nil h;rw [this] at hl;cases hl
    obtain⟨l2,hl2,hl3⟩:=hr.cons hat
    have htx:(L.getD (L.length-sx.l.length) tx0).t.text=kCost:=by
     have hx:=(List.cons.inj (hl.symm.trans hl2)).1
     rw [←hx];exact ht
    have hsl:l'<:+L.map TX.t:=(show l'<:+sx.l from by rw [hl];exact List.suffix_cons t l').trans hsx
    have hcon':=hcon h0
    have hst':=hst h0 hc
    have q0:(kCost==kP)=false:=rfl
    have q1:(kCost==kFail)=false:=rfl
    have q2:(kCost==kRepair)=false:=rfl
    have q3:(kCost==kCost)=true:=rfl
    refine aw_dr 16 ty_mixed (by kernel_rfl) ?_
    all_goals try(have Z:=(oj hn_g2 (oj hn_g3 (oj hn_gm (oj htx (oj q0 (oj q1 (oj q2 q3)))))));(repeat' first|refine zV Z ?_|refine zH Z (fun hb=>?_) fun hb=>?_|fail);all_goals clear Z)
    refine drk_lookup1 (a:=kCost) (kv:=svL seen) (Kf:=keyS) (z:=.bool false) rfl rfl rfl (kt:=9) (et:=4) (by kernel_rfl) (keyS_ok (by kernel_rfl)) (by kernel_rfl) (zE (oj hn_g2 (oj hn_g3 (oj hn_gm (oj htx (oj q0 (oj q1 (oj q2 q3)))))))) (zE (oj hn_g2 (oj hn_g3 (oj hn_gm (oj htx (oj q0 (oj q1 (oj q2 q3)))))))) (ck:=.c (.str (sB kCost))) (zE (oj hn_g2 (oj hn_g3 (oj hn_gm (oj htx (oj q0 (oj q1 (oj q2 q3)))))))) (fun _ _ _ h=>h) ?_
    rw [svL_get]
    by_cases hcs:seen.contains kCost=true
    ·rw [if_pos hcs] at hB⊢
     have f6:=fail_fg g L sx 6 (by decide)
     all_goals try(have Z:=(oj hn_g2 (oj hn_g3 (oj hn_gm (oj htx (oj q0 (oj q1 (oj q2 q3)))))));(repeat' first|refine zV Z ?_|(refine zg Z (f6) ?_)|refine zH Z (fun hb=>?_) fun hb=>?_|fail);all_goals clear Z)
     rw [hst',hB,lpS_end (fun z=>by have:=z.1;unfold failS at this;rw [if_pos h0] at this;exact absurd this (by simp))] at hlp
     subst hlp
     refine aw_stop ⟨(),?_⟩
     and_intros<;>first|rfl|exact List.Sublist.cons _ (List.Sublist.refl _)|exact True.intro
    ·rw [if_neg hcs] at hB⊢
     have hcs':seen.contains kCost=false:=by simpa using hcs
     have f6:=take_fg g L sx true hsx om
     rw [take_cons h0 hl,if_pos rfl,ht] at f6
     dsimp only at f6
     have f7:=whole_fg g L ⟨l',0⟩ hsl om hw
     all_goals try(have Z:=(oj hn_g2 (oj hn_g3 (oj hn_gm (oj htx (oj q0 (oj q1 (oj q2 q3)))))));(repeat' first|refine zV Z ?_|(refine zg Z (f6) ?_)|refine zH Z (fun hb=>?_) fun hb=>?_|fail);all_goals clear Z)
     refine aw_mapNew (a:=kCost) (kv:=svL seen) (Kf:=keyS) (v:=.bool true) rfl rfl rfl (kt:=9) (et:=4) (by kernel_rfl) (keyS_ok (by kernel_rfl)) (zE (oj hn_g2 (oj hn_g3 (oj hn_gm (oj htx (oj q0 (oj q1 (oj q2 q3)))))))) (zE (oj hn_g2 (oj hn_g3 (oj hn_gm (oj htx (oj q0 (oj q1 (oj q2 q3)))))))) (ck:=.c (.str (sB kCost))) (zE (oj hn_g2 (oj hn_g3 (oj hn_gm (oj htx (oj q0 (oj q1 (oj q2 q3)))))))) (fun _ _ _ h=>h) (cv:=.c (.bool true)) (zE (oj hn_g2 (oj hn_g3 (oj hn_gm (oj htx (oj q0 (oj q1 (oj q2 q3)))))))) (fun _ _ _ h=>h) (by rw [svL_get,hcs'];rfl) rfl ?_
     rw [←svL_cons]
     all_goals try(have Z:=(oj hn_g2 (oj hn_g3 (oj hn_gm (oj htx (oj q0 (oj q1 (oj q2 q3)))))));(repeat' first|refine zV Z ?_|(refine zg Z (f7) ?_)|refine zH Z (fun hb=>?_) fun hb=>?_|fail);all_goals clear Z)
     rw [hB] at hcon' hsuf
     rw [hst',hB] at hlp
     refine aw_stop ⟨((wholeS ⟨l',0⟩).2,kCost::seen,{x with cost:=(wholeS ⟨l',0⟩).1}),?_⟩
     refine⟨hcon',?_⟩
     and_intros
     all_goals first|rfl|exact List.Sublist.refl _|exact True.intro|exact hsuf|exact hlp|exact fun _=>by dsimp only;rw [List.contains_cons,hne h0];rfl
   |false=>
    have hB:=evB_no seen x n0 n1 n2 hb
    obtain⟨ht1,ht2⟩:=take_f sx h0
    have hcon':=hcon h0
    have hst':=hst h0 hc
    have f6:=take_fg g L sx false hsx om
    rw [ht1] at f6 hB
    have q0:(([]:BS)==kP)=false:=rfl
    have q1:(([]:BS)==kFail)=false:=rfl
    have q2:(([]:BS)==kRepair)=false:=rfl
    have q3:(([]:BS)==kCost)=false:=rfl
    refine aw_dr 16 ty_mixed (by kernel_rfl) ?_
    all_goals try(have Z:=(oj hn_g2 (oj hn_g3 (oj hn_gm (oj q0 (oj q1 (oj q2 q3))))));(repeat' first|refine zV Z ?_|(refine zg Z (f6) ?_)|refine zH Z (fun hb=>?_) fun hb=>?_|fail);all_goals clear Z)
    refine aw_mapNew (a:=([]:BS)) (kv:=svL seen) (Kf:=keyS) (v:=.bool true) rfl rfl rfl (kt:=9) (et:=4) (by kernel_rfl) (keyS_ok (by kernel_rfl)) (zE (oj hn_g2 (oj hn_g3 (oj hn_gm (oj q0 (oj q1 (oj q2 q3))))))) (zE (oj hn_g2 (oj hn_g3 (oj hn_gm (oj q0 (oj q1 (oj q2 q3))))))) (ck:=.c (.str (sB []))) (zE (oj hn_g2 (oj hn_g3 (oj hn_gm (oj q0 (oj q1 (oj q2 q3))))))) (fun _ _ _ h=>h) (cv:=.c (.bool true)) (zE (oj hn_g2 (oj hn_g3 (oj hn_gm (oj q0 (oj q1 (oj q2 q3))))))) (fun _ _ _ h=>h) (by rw [svL_get,hne h0];rfl) rfl ?_
    rw [←svL_cons]
    have J3:=oj hn_g2 (oj hn_g3 (oj hn_gm (oj q0 (oj q1 (oj q2 q3)))))
    refine yS J3 ?_
    all_goals try(have Z:=J3;(repeat' first|refine zV Z ?_|refine zH Z (fun hb=>?_) fun hb=>?_|fail);all_goals clear Z)
    rw [hB] at hcon' hsuf
    rw [hst',hB] at hlp
    refine aw_stop ⟨((takeS false sx).2,[]::seen,x),?_⟩
    refine⟨hcon',?_⟩
    and_intros
    all_goals first|rfl|exact List.Sublist.refl _|exact True.intro|exact hsuf|exact hlp|exact fun z=>absurd z ht2
  ·have hc:¬(sx.e=0∧(fun s=> !isS s kSemi) sx=true):=fun z=>by rw [show(fun s=> !isS s kSemi) sx=false from hb] at z;exact absurd z.2 (by decide)
   rw [lpS_end hc] at hlp
   subst hlp
   refine aw_stop ⟨(),?_⟩
   and_intros<;>first|rfl|exact List.Sublist.cons _ (List.Sublist.refl _)|exact True.intro
  ·have hc:¬(sx.e=0∧(fun s=> !isS s kSemi) sx=true):=fun z=>hb z.1
   rw [lpS_end hc] at hlp
   subst hlp
   refine aw_stop ⟨(),?_⟩
   and_intros<;>first|rfl|exact List.Sublist.cons _ (List.Sublist.refl _)|exact True.intro
 rintro _ _
 all_goals try(have Z:=J2;(repeat' first|refine zV Z ?_|(refine zg Z (f8) ?_)|refine zH Z (fun hb=>?_) fun hb=>?_|fail);all_goals clear Z)
 refine aw_rethw (h':=[(g,rdO L (expS kSemi F.2))]) rfl sL fun R r=>?_;simp only[go_sem,hn_g2,hn_g3,hn_gm];refine r _ rfl ?_;clear r R
 exact⟨rfl,rfl⟩
end Go.Proofs.YtnmeahogifekdaaGreatDoor
namespace Go.PN
open Go.AI
structure Og where
 e:Option Nat
 h:Option Nat
 g:Option Nat
 p:Option Nat
 r:Option Nat
 s:Option Nat
structure OgOk (m:MdD) (o:Og):Prop where
 e:o.e=none→m.events.length=0
 h:o.h=none→m.houses.length=0
 g:o.g=none→m.gates.length=0
 p:o.p=none→m.pages.length=0
 r:o.r=none→m.groups.length=0
 s:o.s=none→m.phases.length=0
abbrev mdg (m:MdD) (o:Og):List CV:=[.str (sB m.name),.str (sB m.top),gs o.e 11 m.events.length,gs o.h 2 m.houses.length,gs o.g 7 m.gates.length,gs o.p 3 m.pages.length,gs o.r 4 m.groups.length,gs o.s 3 m.phases.length]
structure MdSm (m:MdD) (n:Nat):Prop where
 e:m.events.length≤n
 h:m.houses.length≤n
 g:m.gates.length≤n
 p:m.pages.length≤n
 r:m.groups.length≤n
 s:m.phases.length≤n
theorem evs_push {xs:List EvD} {n:Nat} (hn:xs.length=n) (t:EvD):∀j,j<(n+1)*11→appF (evsF xs) (n*11) (ofL (evc t)) j=evsF (xs++[t]) j:=lf_push (s:=11) (c:=evc) (d:=(ev0:EvD)) hn t (by decide)
theorem hss_push {xs:List HsD} {n:Nat} (hn:xs.length=n) (t:HsD):∀j,j<(n+1)*2→appF (hssF xs) (n*2) (ofL (hsc t)) j=hssF (xs++[t]) j:=lf_push (s:=2) (c:=hsc) (d:=(hs0:HsD)) hn t (by decide)
theorem pgs_push {xs:List PgD} {n:Nat} (hn:xs.length=n) (t:PgD):∀j,j<(n+1)*3→appF (pgsF xs) (n*3) (ofL (pgc t)) j=pgsF (xs++[t]) j:=lf_push (s:=3) (c:=pgc) (d:=(pg0:PgD)) hn t (by decide)
theorem grs_push {xs:List GrD} {n:Nat} (hn:xs.length=n) (t:GrD):∀j,j<(n+1)*4→appF (grsF xs) (n*4) (ofL (grc t)) j=grsF (xs++[t]) j:=lf_push (s:=4) (c:=grc) (d:=(gr0:GrD)) hn t (by decide)
theorem phs_push {xs:List PhD} {n:Nat} (hn:xs.length=n) (t:PhD):∀j,j<(n+1)*3→appF (phsF xs) (n*3) (ofL (phc t)) j=phsF (xs++[t]) j:=lf_push (s:=3) (c:=phc) (d:=(ph0:PhD)) hn t (by decide)
theorem stB_e (m:MdD) {s:PS} {t:TK} {l':List TK} (e0:s.e=0) (hl:s.l=t::l') (hk:t.kind≠1) (ht:t.text=kEvent):stB m s=({m with events:=m.events++[(eventS ⟨l',0⟩).1]},(eventS ⟨l',0⟩).2):=by
 have hi:∀w,isS s w=(t.text==w):=fun w=>by rw [is_cons e0 hl,bne_iff_ne.2 hk,Bool.true_and]
 unfold stB
 rw [hi,hi,hi,hi,hi,hi,ht]
 dsimp only
 rw [show(kEvent==kEvent||kEvent==kHouse||kEvent==kGate||kEvent==kPage||kEvent==kGroup||kEvent==kPhase)=true from rfl,take_cons e0 hl,ht]
 rfl
theorem stB_h (m:MdD) {s:PS} {t:TK} {l':List TK} (e0:s.e=0) (hl:s.l=t::l') (hk:t.kind≠1) (ht:t.text=kHouse):stB m s=({m with houses:=m.houses++[(houseS ⟨l',0⟩).1]},(houseS ⟨l',0⟩).2):=by
 have hi:∀w,isS s w=(t.text==w):=fun w=>by rw [is_cons e0 hl,bne_iff_ne.2 hk,Bool.true_and]
 unfold stB
 rw [hi,hi,hi,hi,hi,hi,ht]
 dsimp only
 rw [show(kHouse==kEvent||kHouse==kHouse||kHouse==kGate||kHouse==kPage||kHouse==kGroup||kHouse==kPhase)=true from rfl,take_cons e0 hl,ht]
 rfl
theorem stB_g (m:MdD) {s:PS} {t:TK} {l':List TK} (e0:s.e=0) (hl:s.l=t::l') (hk:t.kind≠1) (ht:t.text=kGate):stB m s=({m with gates:=m.gates++[(gateS ⟨l',0⟩).1]},(gateS ⟨l',0⟩).2):=by
 have hi:∀w,isS s w=(t.text==w):=fun w=>by rw [is_cons e0 hl,bne_iff_ne.2 hk,Bool.true_and]
 unfold stB
 rw [hi,hi,hi,hi,hi,hi,ht]
 dsimp only
 rw [show(kGate==kEvent||kGate==kHouse||kGate==kGate||kGate==kPage||kGate==kGroup||kGate==kPhase)=true from rfl,take_cons e0 hl,ht]
 rfl
theorem stB_p (m:MdD) {s:PS} {t:TK} {l':List TK} (e0:s.e=0) (hl:s.l=t::l') (hk:t.kind≠1) (ht:t.text=kPage):stB m s=({m with pages:=m.pages++[(pageS ⟨l',0⟩).1]},(pageS ⟨l',0⟩).2):=by
 have hi:∀w,isS s w=(t.text==w):=fun w=>by rw [is_cons e0 hl,bne_iff_ne.2 hk,Bool.true_and]
 unfold stB
 rw [hi,hi,hi,hi,hi,hi,ht]
 dsimp only
 rw [show(kPage==kEvent||kPage==kHouse||kPage==kGate||kPage==kPage||kPage==kGroup||kPage==kPhase)=true from rfl,take_cons e0 hl,ht]
 rfl
theorem stB_r (m:MdD) {s:PS} {t:TK} {l':List TK} (e0:s.e=0) (hl:s.l=t::l') (hk:t.kind≠1) (ht:t.text=kGroup):stB m s=({m with groups:=m.groups++[(groupS ⟨l',0⟩).1]},(groupS ⟨l',0⟩).2):=by
 have hi:∀w,isS s w=(t.text==w):=fun w=>by rw [is_cons e0 hl,bne_iff_ne.2 hk,Bool.true_and]
 unfold stB
 rw [hi,hi,hi,hi,hi,hi,ht]
 dsimp only
 rw [show(kGroup==kEvent||kGroup==kHouse||kGroup==kGate||kGroup==kPage||kGroup==kGroup||kGroup==kPhase)=true from rfl,take_cons e0 hl,ht]
 rfl
theorem stB_s (m:MdD) {s:PS} {t:TK} {l':List TK} (e0:s.e=0) (hl:s.l=t::l') (hk:t.kind≠1) (ht:t.text=kPhase):stB m s=({m with phases:=m.phases++[(phaseS ⟨l',0⟩).1]},(phaseS ⟨l',0⟩).2):=by
 have hi:∀w,isS s w=(t.text==w):=fun w=>by rw [is_cons e0 hl,bne_iff_ne.2 hk,Bool.true_and]
 unfold stB
 rw [hi,hi,hi,hi,hi,hi,ht]
 dsimp only
 rw [show(kPhase==kEvent||kPhase==kHouse||kPhase==kGate||kPhase==kPage||kPhase==kGroup||kPhase==kPhase)=true from rfl,take_cons e0 hl,ht]
 rfl
theorem stB_no (m:MdD) {s:PS} (n0:isS s kEvent=false) (n1:isS s kHouse=false) (n2:isS s kGate=false) (n3:isS s kPage=false) (n4:isS s kGroup=false) (n5:isS s kPhase=false):stB m s=(m,(takeS false s).2):=by
 unfold stB
 rw [n0,n1,n2,n3,n4,n5]
 have ht:(takeS false s).1=[]:=by
  unfold takeS
  split
  ·split<;>rfl
  ·rfl
 dsimp only
 rw [show(false||false||false||false||false||false)=false from rfl,ht]
 rfl
theorem take_ff (s:PS):(takeS false s).1=[]:=by
 unfold takeS
 split
 ·split<;>rfl
 ·rfl
theorem perm_mid {α:Type} {l X Y Z:List α} (h:l=X++(Y++Z)):l.Perm ((X++Z)++Y):=by
 rw [h,List.append_assoc]
 exact List.Perm.append_left X List.perm_append_comm
end Go.PN
namespace Go.Proofs.YtnmeahogifekdaaGreatDoor
open Go.AI Go.PN
def mdT (m:MdD) (o:Og):Heap:=List.flatten [gh o.e 49 (m.events.length*11) (evsF m.events),gh o.h 51 (m.houses.length*2) (hssF m.houses),gh o.g 60 (m.gates.length*7) (gtsF m.gates),gh o.p 57 (m.pages.length*3) (pgsF m.pages),gh o.r 55 (m.groups.length*4) (grsF m.groups),gh o.s 66 (m.phases.length*3) (phsF m.phases)]
abbrev mdO (m:MdD) (o:Og):AObj:=.cells 29 8 (ofL (mdg m o))
attribute [local irreducible] aw Fa Fh DrK
theorem statement_fh (gM g:Nat) (L:List TX) (s:PS) (m:MdD) (o:Og) (hs:s.l<:+L.map TX.t) (hL:L.length≤1048576) (hw:∀t∈L,t.t.text.length≤1099511627776) (ho:OgOk m o) (hb':MdSm m 1048576):Fh Tryz.prog 40 ([(gM,mdO m o),(g,rdO L s)]++mdT m o) [.c (.optr g 0),.c (.optr gM 0)] (fun x h=>x=.tup []∧∃o',OgOk (stB m s).1 o'∧h=[(gM,mdO (stB m s).1 o'),(g,rdO L (stB m s).2)]++mdT (stB m s).1 o'):=by
 have i0:=is_fg g L s kEvent hs om
 have i1:=is_fg g L s kHouse hs om
 have i2:=is_fg g L s kGate hs om
 have i3:=is_fg g L s kPage hs om
 have i4:=is_fg g L s kGroup hs om
 have i5:=is_fg g L s kPhase hs om
 refine fh_of_body Tryz.func40 rfl rfl (by simp [Tryz.ntmps40]) fun C hC=> ?_
 simp only [initS,Nat.reduceAdd]
 refine aw_nd fun hnd=> ?_
 have hne:gM≠g:=fun e=>by subst e;simp [Heap.keys] at hnd
 have hne':g≠gM:=fun e=>hne e.symm
 clear hnd
 simp only [List.cons_append,List.nil_append] at*
 all_goals try(have Z:=(oj hne hne');(repeat' first|refine zV Z ?_|(refine zg Z (i0) ?_)|(refine zg Z (i1) ?_)|(refine zg Z (i2) ?_)|(refine zg Z (i3) ?_)|(refine zg Z (i4) ?_)|(refine zg Z (i5) ?_)|refine zH Z (fun hb=>?_) fun hb=>?_|fail);all_goals clear Z)
 ·obtain⟨h0,t,l',hl,hk,ht⟩:=is_tok hb
  have hB:=stB_e m h0 hl hk ht
  rw [hB]
  have f6:=take_fg g L s true hs om
  rw [take_cons h0 hl,if_pos rfl,ht] at f6
  dsimp only at f6
  have hsl:l'<:+L.map TX.t:=(show l'<:+s.l from by rw [hl];exact List.suffix_cons t l').trans hs
  have f7:=event_fg g L ⟨l',0⟩ hsl om hw
  clear hB i0 i1 i2 i3 i4 i5
  generalize eventS ⟨l',0⟩=y at*
  obtain⟨v,sy⟩:=y
  dsimp only at*
  have q0:(kEvent==kEvent)=true:=rfl
  have q1:(kEvent==kHouse)=false:=rfl
  have q2:(kEvent==kGate)=false:=rfl
  have q3:(kEvent==kPage)=false:=rfl
  have q4:(kEvent==kGroup)=false:=rfl
  have q5:(kEvent==kPhase)=false:=rfl
  all_goals try(have Z:=(oj hne (oj hne' (oj q0 (oj q1 (oj q2 (oj q3 (oj q4 q5)))))));(repeat' first|refine zV Z ?_|(refine zg Z (f6) ?_)|refine zH Z (fun hb=>?_) fun hb=>?_|fail);all_goals clear Z)
  obtain⟨X,hX⟩:∃X:Heap,X=List.flatten []:=⟨_,rfl⟩
  obtain⟨Z,hZ⟩:∃Z:Heap,Z=List.flatten [gh o.h 51 (m.houses.length*2) (hssF m.houses),gh o.g 60 (m.gates.length*7) (gtsF m.gates),gh o.p 57 (m.pages.length*3) (pgsF m.pages),gh o.r 55 (m.groups.length*4) (grsF m.groups),gh o.s 66 (m.phases.length*3) (phsF m.phases)]:=⟨_,rfl⟩
  have hsp:mdT m o=X++(gh o.e 49 (m.events.length*11) (evsF m.events)++Z):=by
   subst hX hZ
   unfold mdT
   simp only [List.flatten_cons,List.flatten_nil,List.append_assoc,List.append_nil,List.nil_append]
  refine aw_perm (h':=(gM,mdO m o)::(g,rdO L ⟨l',0⟩)::((X++Z)++gh o.e 49 (m.events.length*11) (evsF m.events))) (.cons _ (.cons _ (perm_mid hsp))) ?_
  refine aw_cw ([(gM,mdO m o)]) [(0,0),(1,0),(2,0),(3,0),(4,0),(5,0),(6,1),(7,1),(8,1),(9,0),(10,0),(11,2)] ty_mixed (by kernel_rfl) eI ?_
  have J1:=oj hne (oj hne' (oj q0 (oj q1 (oj q2 (oj q3 (oj q4 q5))))))
  refine yG J1 ?_
  refine cw_cg rfl f7 rfl rfl rfl (zE J1) (zL J1) (by refine yS J1 ?_;exact has0_cons (List.mem_cons_self ..) has0_nil) ?_
  refine ySG J1 ?_
  refine cw_buildSlice (xs:=[.tmp 38]) (cells:=evc v) rfl rfl rfl rfl (zE J1) (by refine yS J1 ?_;rfl) rfl om om (by intro x hx;simp only [List.mem_singleton] at hx;subst hx;exact⟨rfl,rfl,rfl⟩) rfl (by simp [Op.operands]) (has0_cons (List.mem_cons_self ..) has0_nil) (fun ga hn_ga=> ?_) (hm:=.inr ⟨rfl,rfl⟩)
  refine yS J1 ?_
  refine cw_push (pre:=(gM,mdO m o)::(g,rdO L sy)::(X++Z)) (og:=o.e) (n:=m.events.length) (s:=36) (d1:=39) (gt:=ga) (v:=.agg (evc v)) rfl rfl rfl rfl (zE J1) (zE J1) (by rfl) om om (zE J1) (zE J1) ho.e (by rfl) (by rfl) (by simp only [Nat.mul_one,List.cons_append,List.nil_append];rfl) (by have:=hb'.e;unfold maxLen;omega) (by have:=hb'.e;omega) (evs_push rfl v) (has0_skip (has0_cons (List.mem_cons_self ..) has0_nil)) (fun gb hn_gb=> ?_) (hm:=.inr ⟨rfl,rfl⟩)
  replace hn_ga:=Heap.ne_of hn_ga
  simp only [Heap.ne] at hn_ga
  have J2:=oj hne (oj hne' (oj q0 (oj q1 (oj q2 (oj q3 (oj q4 (oj q5 hn_ga)))))))
  refine ySG J2 ?_
  refine cw_store (FP':=[]) rfl rfl rfl rfl rfl (zE J2) (zE J2) (zE J2) (zE J2) (fun _ e=>by cases e) rfl rfl (show 3≤8 from by omega) rfl has0_nil ?_
  refine ySG J2 ?_
  have hln:(m.events++[v]).length=m.events.length+1:=by rw [List.length_append];rfl
  rw [←hln]
  have hsp2:mdT {m with events:=m.events++[v]} {o with e:=some gb}=X++(gh (some gb) 49 ((m.events++[v]).length*11) (evsF (m.events++[v]))++Z):=by
   subst hX hZ
   unfold mdT
   simp only [List.flatten_cons,List.flatten_nil,List.append_assoc,List.append_nil,List.nil_append]
  refine aw_keep [] _ (zB J2) (List.sublist_cons_self _ _) ?_
  refine aw_perm (h':=(gM,mdO {m with events:=m.events++[v]} {o with e:=some gb})::(g,rdO L sy)::mdT {m with events:=m.events++[v]} {o with e:=some gb}) (.cons _ (.cons _ (perm_mid hsp2).symm)) ?_
  all_goals try(have Z:=J2;(repeat' first|refine zV Z ?_|refine zH Z (fun hb=>?_) fun hb=>?_|fail);all_goals clear Z)
  refine yV J2 ?_
  exact⟨rfl,{o with e:=some gb},⟨some_ne,ho.h,ho.g,ho.p,ho.r,ho.s⟩,rfl⟩
 ·rename_i n0
  obtain⟨h0,t,l',hl,hk,ht⟩:=is_tok hb
  have hB:=stB_h m h0 hl hk ht
  rw [hB]
  have f6:=take_fg g L s true hs om
  rw [take_cons h0 hl,if_pos rfl,ht] at f6
  dsimp only at f6
  have hsl:l'<:+L.map TX.t:=(show l'<:+s.l from by rw [hl];exact List.suffix_cons t l').trans hs
  have f7:=house_fg g L ⟨l',0⟩ hsl om
  clear hB i0 i1 i2 i3 i4 i5
  generalize houseS ⟨l',0⟩=y at*
  obtain⟨v,sy⟩:=y
  dsimp only at*
  have q0:(kHouse==kEvent)=false:=rfl
  have q1:(kHouse==kHouse)=true:=rfl
  have q2:(kHouse==kGate)=false:=rfl
  have q3:(kHouse==kPage)=false:=rfl
  have q4:(kHouse==kGroup)=false:=rfl
  have q5:(kHouse==kPhase)=false:=rfl
  all_goals try(have Z:=(oj hne (oj hne' (oj q0 (oj q1 (oj q2 (oj q3 (oj q4 q5)))))));(repeat' first|refine zV Z ?_|(refine zg Z (f6) ?_)|refine zH Z (fun hb=>?_) fun hb=>?_|fail);all_goals clear Z)
  obtain⟨X,hX⟩:∃X:Heap,X=List.flatten [gh o.e 49 (m.events.length*11) (evsF m.events)]:=⟨_,rfl⟩
  obtain⟨Z,hZ⟩:∃Z:Heap,Z=List.flatten [gh o.g 60 (m.gates.length*7) (gtsF m.gates),gh o.p 57 (m.pages.length*3) (pgsF m.pages),gh o.r 55 (m.groups.length*4) (grsF m.groups),gh o.s 66 (m.phases.length*3) (phsF m.phases)]:=⟨_,rfl⟩
  have hsp:mdT m o=X++(gh o.h 51 (m.houses.length*2) (hssF m.houses)++Z):=by
   subst hX hZ
   unfold mdT
   simp only [List.flatten_cons,List.flatten_nil,List.append_assoc,List.append_nil,List.nil_append]
  refine aw_perm (h':=(gM,mdO m o)::(g,rdO L ⟨l',0⟩)::((X++Z)++gh o.h 51 (m.houses.length*2) (hssF m.houses))) (.cons _ (.cons _ (perm_mid hsp))) ?_
  refine aw_cw ([(gM,mdO m o)]) [(0,0),(1,0),(2,0),(3,0),(4,0),(5,0),(6,1),(7,1),(8,1),(9,0),(10,0),(11,2)] ty_mixed (by kernel_rfl) eI ?_
  have J3:=oj hne (oj hne' (oj q0 (oj q1 (oj q2 (oj q3 (oj q4 q5))))))
  refine yG J3 ?_
  refine cw_cg rfl f7 rfl rfl rfl (zE J3) (zL J3) (by refine yS J3 ?_;exact has0_cons (List.mem_cons_self ..) has0_nil) ?_
  refine ySG J3 ?_
  refine cw_buildSlice (xs:=[.tmp 51]) (cells:=hsc v) rfl rfl rfl rfl (zE J3) (by refine yS J3 ?_;rfl) rfl om om (by intro x hx;simp only [List.mem_singleton] at hx;subst hx;exact⟨rfl,rfl,rfl⟩) rfl (by simp [Op.operands]) (has0_cons (List.mem_cons_self ..) has0_nil) (fun ga hn_ga=> ?_) (hm:=.inr ⟨rfl,rfl⟩)
  refine yS J3 ?_
  refine cw_push (pre:=(gM,mdO m o)::(g,rdO L sy)::(X++Z)) (og:=o.h) (n:=m.houses.length) (s:=49) (d1:=52) (gt:=ga) (v:=.agg (hsc v)) rfl rfl rfl rfl (zE J3) (zE J3) (by rfl) om om (zE J3) (zE J3) ho.h (by rfl) (by rfl) (by simp only [Nat.mul_one,List.cons_append,List.nil_append];rfl) (by have:=hb'.h;unfold maxLen;omega) (by have:=hb'.h;omega) (hss_push rfl v) (has0_skip (has0_cons (List.mem_cons_self ..) has0_nil)) (fun gb hn_gb=> ?_) (hm:=.inr ⟨rfl,rfl⟩)
  replace hn_ga:=Heap.ne_of hn_ga
  simp only [Heap.ne] at hn_ga
  have J4:=oj hne (oj hne' (oj q0 (oj q1 (oj q2 (oj q3 (oj q4 (oj q5 hn_ga)))))))
  refine ySG J4 ?_
  refine cw_store (FP':=[]) rfl rfl rfl rfl rfl (zE J4) (zE J4) (zE J4) (zE J4) (fun _ e=>by cases e) rfl rfl (show 4≤8 from by omega) rfl has0_nil ?_
  refine ySG J4 ?_
  have hln:(m.houses++[v]).length=m.houses.length+1:=by rw [List.length_append];rfl
  rw [←hln]
  have hsp2:mdT {m with houses:=m.houses++[v]} {o with h:=some gb}=X++(gh (some gb) 51 ((m.houses++[v]).length*2) (hssF (m.houses++[v]))++Z):=by
   subst hX hZ
   unfold mdT
   simp only [List.flatten_cons,List.flatten_nil,List.append_assoc,List.append_nil,List.nil_append]
  refine aw_keep [] _ (zB J4) (List.sublist_cons_self _ _) ?_
  refine aw_perm (h':=(gM,mdO {m with houses:=m.houses++[v]} {o with h:=some gb})::(g,rdO L sy)::mdT {m with houses:=m.houses++[v]} {o with h:=some gb}) (.cons _ (.cons _ (perm_mid hsp2).symm)) ?_
  all_goals try(have Z:=J4;(repeat' first|refine zV Z ?_|refine zH Z (fun hb=>?_) fun hb=>?_|fail);all_goals clear Z)
  refine yV J4 ?_
  exact⟨rfl,{o with h:=some gb},⟨ho.e,some_ne,ho.g,ho.p,ho.r,ho.s⟩,rfl⟩
 ·rename_i n0 n1
  obtain⟨h0,t,l',hl,hk,ht⟩:=is_tok hb
  have hB:=stB_g m h0 hl hk ht
  rw [hB]
  have f6:=take_fg g L s true hs om
  rw [take_cons h0 hl,if_pos rfl,ht] at f6
  dsimp only at f6
  have hsl:l'<:+L.map TX.t:=(show l'<:+s.l from by rw [hl];exact List.suffix_cons t l').trans hs
  have f7:=gate_fg g L ⟨l',0⟩ hsl om hw
  clear hB i0 i1 i2 i3 i4 i5
  generalize gateS ⟨l',0⟩=y at*
  obtain⟨v,sy⟩:=y
  dsimp only at*
  have q0:(kGate==kEvent)=false:=rfl
  have q1:(kGate==kHouse)=false:=rfl
  have q2:(kGate==kGate)=true:=rfl
  have q3:(kGate==kPage)=false:=rfl
  have q4:(kGate==kGroup)=false:=rfl
  have q5:(kGate==kPhase)=false:=rfl
  all_goals try(have Z:=(oj hne (oj hne' (oj q0 (oj q1 (oj q2 (oj q3 (oj q4 q5)))))));(repeat' first|refine zV Z ?_|(refine zg Z (f6) ?_)|refine zH Z (fun hb=>?_) fun hb=>?_|fail);all_goals clear Z)
  obtain⟨X,hX⟩:∃X:Heap,X=List.flatten [gh o.e 49 (m.events.length*11) (evsF m.events),gh o.h 51 (m.houses.length*2) (hssF m.houses)]:=⟨_,rfl⟩
  obtain⟨Z,hZ⟩:∃Z:Heap,Z=List.flatten [gh o.p 57 (m.pages.length*3) (pgsF m.pages),gh o.r 55 (m.groups.length*4) (grsF m.groups),gh o.s 66 (m.phases.length*3) (phsF m.phases)]:=⟨_,rfl⟩
  have hsp:mdT m o=X++(gh o.g 60 (m.gates.length*7) (gtsF m.gates)++Z):=by
   subst hX hZ
   unfold mdT
   simp only [List.flatten_cons,List.flatten_nil,List.append_assoc,List.append_nil,List.nil_append]
  refine aw_perm (h':=(gM,mdO m o)::(g,rdO L ⟨l',0⟩)::((X++Z)++gh o.g 60 (m.gates.length*7) (gtsF m.gates))) (.cons _ (.cons _ (perm_mid hsp))) ?_
  refine aw_cw ([(gM,mdO m o)]) [(0,0),(1,0),(2,0),(3,0),(4,0),(5,0),(6,1),(7,1),(8,1),(9,0),(10,0),(11,2)] ty_mixed (by kernel_rfl) eI ?_
  have J5:=oj hne (oj hne' (oj q0 (oj q1 (oj q2 (oj q3 (oj q4 q5))))))
  refine yG J5 ?_
  refine cw_cg rfl f7 rfl rfl rfl (zE J5) (zL J5) (by refine yS J5 ?_;exact has0_cons (List.mem_cons_self ..) has0_nil) ?_
  refine ySG J5 ?_
  refine cw_buildSlice (xs:=[.tmp 64]) (cells:=gtc v) rfl rfl rfl rfl (zE J5) (by refine yS J5 ?_;rfl) rfl om om (by intro x hx;simp only [List.mem_singleton] at hx;subst hx;exact⟨rfl,rfl,rfl⟩) rfl (by simp [Op.operands]) (has0_cons (List.mem_cons_self ..) has0_nil) (fun ga hn_ga=> ?_) (hm:=.inr ⟨rfl,rfl⟩)
  refine yS J5 ?_
  refine cw_push (pre:=(gM,mdO m o)::(g,rdO L sy)::(X++Z)) (og:=o.g) (n:=m.gates.length) (s:=62) (d1:=65) (gt:=ga) (v:=.agg (gtc v)) rfl rfl rfl rfl (zE J5) (zE J5) (by rfl) om om (zE J5) (zE J5) ho.g (by rfl) (by rfl) (by simp only [Nat.mul_one,List.cons_append,List.nil_append];rfl) (by have:=hb'.g;unfold maxLen;omega) (by have:=hb'.g;omega) (gts_push rfl v) (has0_skip (has0_cons (List.mem_cons_self ..) has0_nil)) (fun gb hn_gb=> ?_) (hm:=.inr ⟨rfl,rfl⟩)
  replace hn_ga:=Heap.ne_of hn_ga
  simp only [Heap.ne] at hn_ga
  have J6:=oj hne (oj hne' (oj q0 (oj q1 (oj q2 (oj q3 (oj q4 (oj q5 hn_ga)))))))
  refine ySG J6 ?_
  refine cw_store (FP':=[]) rfl rfl rfl rfl rfl (zE J6) (zE J6) (zE J6) (zE J6) (fun _ e=>by cases e) rfl rfl (show 5≤8 from by omega) rfl has0_nil ?_
  refine ySG J6 ?_
  have hln:(m.gates++[v]).length=m.gates.length+1:=by rw [List.length_append];rfl
  rw [←hln]
  have hsp2:mdT {m with gates:=m.gates++[v]} {o with g:=some gb}=X++(gh (some gb) 60 ((m.gates++[v]).length*7) (gtsF (m.gates++[v]))++Z):=by
   subst hX hZ
   unfold mdT
   simp only [List.flatten_cons,List.flatten_nil,List.append_assoc,List.append_nil,List.nil_append]
  refine aw_keep [] _ (zB J6) (List.sublist_cons_self _ _) ?_
  refine aw_perm (h':=(gM,mdO {m with gates:=m.gates++[v]} {o with g:=some gb})::(g,rdO L sy)::mdT {m with gates:=m.gates++[v]} {o with g:=some gb}) (.cons _ (.cons _ (perm_mid hsp2).symm)) ?_
  all_goals try(have Z:=J6;(repeat' first|refine zV Z ?_|refine zH Z (fun hb=>?_) fun hb=>?_|fail);all_goals clear Z)
  refine yV J6 ?_
  exact⟨rfl,{o with g:=some gb},⟨ho.e,ho.h,some_ne,ho.p,ho.r,ho.s⟩,rfl⟩
 ·rename_i n0 n1 n2
  obtain⟨h0,t,l',hl,hk,ht⟩:=is_tok hb
  have hB:=stB_p m h0 hl hk ht
  rw [hB]
  have f6:=take_fg g L s true hs om
  rw [take_cons h0 hl,if_pos rfl,ht] at f6
  dsimp only at f6
  have hsl:l'<:+L.map TX.t:=(show l'<:+s.l from by rw [hl];exact List.suffix_cons t l').trans hs
  have f7:=page_fg g L ⟨l',0⟩ hsl om hw
  clear hB i0 i1 i2 i3 i4 i5
  generalize pageS ⟨l',0⟩=y at*
  obtain⟨v,sy⟩:=y
  dsimp only at*
  have q0:(kPage==kEvent)=false:=rfl
  have q1:(kPage==kHouse)=false:=rfl
  have q2:(kPage==kGate)=false:=rfl
  have q3:(kPage==kPage)=true:=rfl
  have q4:(kPage==kGroup)=false:=rfl
  have q5:(kPage==kPhase)=false:=rfl
  all_goals try(have Z:=(oj hne (oj hne' (oj q0 (oj q1 (oj q2 (oj q3 (oj q4 q5)))))));(repeat' first|refine zV Z ?_|(refine zg Z (f6) ?_)|refine zH Z (fun hb=>?_) fun hb=>?_|fail);all_goals clear Z)
  obtain⟨X,hX⟩:∃X:Heap,X=List.flatten [gh o.e 49 (m.events.length*11) (evsF m.events),gh o.h 51 (m.houses.length*2) (hssF m.houses),gh o.g 60 (m.gates.length*7) (gtsF m.gates)]:=⟨_,rfl⟩
  obtain⟨Z,hZ⟩:∃Z:Heap,Z=List.flatten [gh o.r 55 (m.groups.length*4) (grsF m.groups),gh o.s 66 (m.phases.length*3) (phsF m.phases)]:=⟨_,rfl⟩
  have hsp:mdT m o=X++(gh o.p 57 (m.pages.length*3) (pgsF m.pages)++Z):=by
   subst hX hZ
   unfold mdT
   simp only [List.flatten_cons,List.flatten_nil,List.append_assoc,List.append_nil,List.nil_append]
  refine aw_perm (h':=(gM,mdO m o)::(g,rdO L ⟨l',0⟩)::((X++Z)++gh o.p 57 (m.pages.length*3) (pgsF m.pages))) (.cons _ (.cons _ (perm_mid hsp))) ?_
  refine aw_cw ([(gM,mdO m o)]) [(0,0),(1,0),(2,0),(3,0),(4,0),(5,0),(6,1),(7,1),(8,1),(9,0),(10,0),(11,2)] ty_mixed (by kernel_rfl) eI ?_
  have J7:=oj hne (oj hne' (oj q0 (oj q1 (oj q2 (oj q3 (oj q4 q5))))))
  refine yG J7 ?_
  refine cw_cg rfl f7 rfl rfl rfl (zE J7) (zL J7) (by refine yS J7 ?_;exact has0_cons (List.mem_cons_self ..) has0_nil) ?_
  refine ySG J7 ?_
  refine cw_buildSlice (xs:=[.tmp 77]) (cells:=pgc v) rfl rfl rfl rfl (zE J7) (by refine yS J7 ?_;rfl) rfl om om (by intro x hx;simp only [List.mem_singleton] at hx;subst hx;exact⟨rfl,rfl,rfl⟩) rfl (by simp [Op.operands]) (has0_cons (List.mem_cons_self ..) has0_nil) (fun ga hn_ga=> ?_) (hm:=.inr ⟨rfl,rfl⟩)
  refine yS J7 ?_
  refine cw_push (pre:=(gM,mdO m o)::(g,rdO L sy)::(X++Z)) (og:=o.p) (n:=m.pages.length) (s:=75) (d1:=78) (gt:=ga) (v:=.agg (pgc v)) rfl rfl rfl rfl (zE J7) (zE J7) (by rfl) om om (zE J7) (zE J7) ho.p (by rfl) (by rfl) (by simp only [Nat.mul_one,List.cons_append,List.nil_append];rfl) (by have:=hb'.p;unfold maxLen;omega) (by have:=hb'.p;omega) (pgs_push rfl v) (has0_skip (has0_cons (List.mem_cons_self ..) has0_nil)) (fun gb hn_gb=> ?_) (hm:=.inr ⟨rfl,rfl⟩)
  replace hn_ga:=Heap.ne_of hn_ga
  simp only [Heap.ne] at hn_ga
  have J8:=oj hne (oj hne' (oj q0 (oj q1 (oj q2 (oj q3 (oj q4 (oj q5 hn_ga)))))))
  refine ySG J8 ?_
  refine cw_store (FP':=[]) rfl rfl rfl rfl rfl (zE J8) (zE J8) (zE J8) (zE J8) (fun _ e=>by cases e) rfl rfl (show 6≤8 from by omega) rfl has0_nil ?_
  refine ySG J8 ?_
  have hln:(m.pages++[v]).length=m.pages.length+1:=by rw [List.length_append];rfl
  rw [←hln]
  have hsp2:mdT {m with pages:=m.pages++[v]} {o with p:=some gb}=X++(gh (some gb) 57 ((m.pages++[v]).length*3) (pgsF (m.pages++[v]))++Z):=by
   subst hX hZ
   unfold mdT
   simp only [List.flatten_cons,List.flatten_nil,List.append_assoc,List.append_nil,List.nil_append]
  refine aw_keep [] _ (zB J8) (List.sublist_cons_self _ _) ?_
  refine aw_perm (h':=(gM,mdO {m with pages:=m.pages++[v]} {o with p:=some gb})::(g,rdO L sy)::mdT {m with pages:=m.pages++[v]} {o with p:=some gb}) (.cons _ (.cons _ (perm_mid hsp2).symm)) ?_
  all_goals try(have Z:=J8;(repeat' first|refine zV Z ?_|refine zH Z (fun hb=>?_) fun hb=>?_|fail);all_goals clear Z)
  refine yV J8 ?_
  exact⟨rfl,{o with p:=some gb},⟨ho.e,ho.h,ho.g,some_ne,ho.r,ho.s⟩,rfl⟩
 ·rename_i n0 n1 n2 n3
  obtain⟨h0,t,l',hl,hk,ht⟩:=is_tok hb
  have hB:=stB_r m h0 hl hk ht
  rw [hB]
  have f6:=take_fg g L s true hs om
  rw [take_cons h0 hl,if_pos rfl,ht] at f6
  dsimp only at f6
  have hsl:l'<:+L.map TX.t:=(show l'<:+s.l from by rw [hl];exact List.suffix_cons t l').trans hs
  have f7:=group_fg g L ⟨l',0⟩ hsl om hw
  clear hB i0 i1 i2 i3 i4 i5
  generalize groupS ⟨l',0⟩=y at*
  obtain⟨v,sy⟩:=y
  dsimp only at*
  have q0:(kGroup==kEvent)=false:=rfl
  have q1:(kGroup==kHouse)=false:=rfl
  have q2:(kGroup==kGate)=false:=rfl
  have q3:(kGroup==kPage)=false:=rfl
  have q4:(kGroup==kGroup)=true:=rfl
  have q5:(kGroup==kPhase)=false:=rfl
  all_goals try(have Z:=(oj hne (oj hne' (oj q0 (oj q1 (oj q2 (oj q3 (oj q4 q5)))))));(repeat' first|refine zV Z ?_|(refine zg Z (f6) ?_)|refine zH Z (fun hb=>?_) fun hb=>?_|fail);all_goals clear Z)
  obtain⟨X,hX⟩:∃X:Heap,X=List.flatten [gh o.e 49 (m.events.length*11) (evsF m.events),gh o.h 51 (m.houses.length*2) (hssF m.houses),gh o.g 60 (m.gates.length*7) (gtsF m.gates),gh o.p 57 (m.pages.length*3) (pgsF m.pages)]:=⟨_,rfl⟩
  obtain⟨Z,hZ⟩:∃Z:Heap,Z=List.flatten [gh o.s 66 (m.phases.length*3) (phsF m.phases)]:=⟨_,rfl⟩
  have hsp:mdT m o=X++(gh o.r 55 (m.groups.length*4) (grsF m.groups)++Z):=by
   subst hX hZ
   unfold mdT
   simp only [List.flatten_cons,List.flatten_nil,List.append_assoc,List.append_nil,List.nil_append]
  refine aw_perm (h':=(gM,mdO m o)::(g,rdO L ⟨l',0⟩)::((X++Z)++gh o.r 55 (m.groups.length*4) (grsF m.groups))) (.cons _ (.cons _ (perm_mid hsp))) ?_
  refine aw_cw ([(gM,mdO m o)]) [(0,0),(1,0),(2,0),(3,0),(4,0),(5,0),(6,1),(7,1),(8,1),(9,0),(10,0),(11,2)] ty_mixed (by kernel_rfl) eI ?_
  have J9:=oj hne (oj hne' (oj q0 (oj q1 (oj q2 (oj q3 (oj q4 q5))))))
  refine yG J9 ?_
  refine cw_cg rfl f7 rfl rfl rfl (zE J9) (zL J9) (by refine yS J9 ?_;exact has0_cons (List.mem_cons_self ..) has0_nil) ?_
  refine ySG J9 ?_
  refine cw_buildSlice (xs:=[.tmp 90]) (cells:=grc v) rfl rfl rfl rfl (zE J9) (by refine yS J9 ?_;rfl) rfl om om (by intro x hx;simp only [List.mem_singleton] at hx;subst hx;exact⟨rfl,rfl,rfl⟩) rfl (by simp [Op.operands]) (has0_cons (List.mem_cons_self ..) has0_nil) (fun ga hn_ga=> ?_) (hm:=.inr ⟨rfl,rfl⟩)
  refine yS J9 ?_
  refine cw_push (pre:=(gM,mdO m o)::(g,rdO L sy)::(X++Z)) (og:=o.r) (n:=m.groups.length) (s:=88) (d1:=91) (gt:=ga) (v:=.agg (grc v)) rfl rfl rfl rfl (zE J9) (zE J9) (by rfl) om om (zE J9) (zE J9) ho.r (by rfl) (by rfl) (by simp only [Nat.mul_one,List.cons_append,List.nil_append];rfl) (by have:=hb'.r;unfold maxLen;omega) (by have:=hb'.r;omega) (grs_push rfl v) (has0_skip (has0_cons (List.mem_cons_self ..) has0_nil)) (fun gb hn_gb=> ?_) (hm:=.inr ⟨rfl,rfl⟩)
  replace hn_ga:=Heap.ne_of hn_ga
  simp only [Heap.ne] at hn_ga
  have J10:=oj hne (oj hne' (oj q0 (oj q1 (oj q2 (oj q3 (oj q4 (oj q5 hn_ga)))))))
  refine ySG J10 ?_
  refine cw_store (FP':=[]) rfl rfl rfl rfl rfl (zE J10) (zE J10) (zE J10) (zE J10) (fun _ e=>by cases e) rfl rfl (show 7≤8 from by omega) rfl has0_nil ?_
  refine ySG J10 ?_
  have hln:(m.groups++[v]).length=m.groups.length+1:=by rw [List.length_append];rfl
  rw [←hln]
  have hsp2:mdT {m with groups:=m.groups++[v]} {o with r:=some gb}=X++(gh (some gb) 55 ((m.groups++[v]).length*4) (grsF (m.groups++[v]))++Z):=by
   subst hX hZ
   unfold mdT
   simp only [List.flatten_cons,List.flatten_nil,List.append_assoc,List.append_nil,List.nil_append]
  refine aw_keep [] _ (zB J10) (List.sublist_cons_self _ _) ?_
  refine aw_perm (h':=(gM,mdO {m with groups:=m.groups++[v]} {o with r:=some gb})::(g,rdO L sy)::mdT {m with groups:=m.groups++[v]} {o with r:=some gb}) (.cons _ (.cons _ (perm_mid hsp2).symm)) ?_
  all_goals try(have Z:=J10;(repeat' first|refine zV Z ?_|refine zH Z (fun hb=>?_) fun hb=>?_|fail);all_goals clear Z)
  refine yV J10 ?_
  exact⟨rfl,{o with r:=some gb},⟨ho.e,ho.h,ho.g,ho.p,some_ne,ho.s⟩,rfl⟩
 ·rename_i n0 n1 n2 n3
  have n4:=hb
  cases hb:isS s kPhase with
  |true=>
   obtain⟨h0,t,l',hl,hk,ht⟩:=is_tok hb
   have hB:=stB_s m h0 hl hk ht
   rw [hB]
   have f6:=take_fg g L s true hs om
   rw [take_cons h0 hl,if_pos rfl,ht] at f6
   dsimp only at f6
   have hsl:l'<:+L.map TX.t:=(show l'<:+s.l from by rw [hl];exact List.suffix_cons t l').trans hs
   have f7:=phase_fg g L ⟨l',0⟩ hsl om hw
   clear hB i0 i1 i2 i3 i4 i5
   generalize phaseS ⟨l',0⟩=y at*
   obtain⟨v,sy⟩:=y
   dsimp only at*
   have q0:(kPhase==kEvent)=false:=rfl
   have q1:(kPhase==kHouse)=false:=rfl
   have q2:(kPhase==kGate)=false:=rfl
   have q3:(kPhase==kPage)=false:=rfl
   have q4:(kPhase==kGroup)=false:=rfl
   have q5:(kPhase==kPhase)=true:=rfl
   all_goals try(have Z:=(oj hne (oj hne' (oj q0 (oj q1 (oj q2 (oj q3 (oj q4 q5)))))));(repeat' first|refine zV Z ?_|(refine zg Z (f6) ?_)|refine zH Z (fun hb=>?_) fun hb=>?_|fail);all_goals clear Z)
   obtain⟨X,hX⟩:∃X:Heap,X=List.flatten [gh o.e 49 (m.events.length*11) (evsF m.events),gh o.h 51 (m.houses.length*2) (hssF m.houses),gh o.g 60 (m.gates.length*7) (gtsF m.gates),gh o.p 57 (m.pages.length*3) (pgsF m.pages),gh o.r 55 (m.groups.length*4) (grsF m.groups)]:=⟨_,rfl⟩
   obtain⟨Z,hZ⟩:∃Z:Heap,Z=List.flatten []:=⟨_,rfl⟩
   have hsp:mdT m o=X++(gh o.s 66 (m.phases.length*3) (phsF m.phases)++Z):=by
    subst hX hZ
    unfold mdT
    simp only [List.flatten_cons,List.flatten_nil,List.append_assoc,List.append_nil,List.nil_append]
   refine aw_perm (h':=(gM,mdO m o)::(g,rdO L ⟨l',0⟩)::((X++Z)++gh o.s 66 (m.phases.length*3) (phsF m.phases))) (.cons _ (.cons _ (perm_mid hsp))) ?_
   refine aw_cw ([(gM,mdO m o)]) [(0,0),(1,0),(2,0),(3,0),(4,0),(5,0),(6,1),(7,1),(8,1),(9,0),(10,0),(11,2)] ty_mixed (by kernel_rfl) eI ?_
   have J11:=oj hne (oj hne' (oj q0 (oj q1 (oj q2 (oj q3 (oj q4 q5))))))
   refine yG J11 ?_
   refine cw_cg rfl f7 rfl rfl rfl (zE J11) (zL J11) (by refine yS J11 ?_;exact has0_cons (List.mem_cons_self ..) has0_nil) ?_
   refine ySG J11 ?_
   refine cw_buildSlice (xs:=[.tmp 103]) (cells:=phc v) rfl rfl rfl rfl (zE J11) (by refine yS J11 ?_;rfl) rfl om om (by intro x hx;simp only [List.mem_singleton] at hx;subst hx;exact⟨rfl,rfl,rfl⟩) rfl (by simp [Op.operands]) (has0_cons (List.mem_cons_self ..) has0_nil) (fun ga hn_ga=> ?_) (hm:=.inr ⟨rfl,rfl⟩)
   refine yS J11 ?_
   refine cw_push (pre:=(gM,mdO m o)::(g,rdO L sy)::(X++Z)) (og:=o.s) (n:=m.phases.length) (s:=101) (d1:=104) (gt:=ga) (v:=.agg (phc v)) rfl rfl rfl rfl (zE J11) (zE J11) (by rfl) om om (zE J11) (zE J11) ho.s (by rfl) (by rfl) (by simp only [Nat.mul_one,List.cons_append,List.nil_append];rfl) (by have:=hb'.s;unfold maxLen;omega) (by have:=hb'.s;omega) (phs_push rfl v) (has0_skip (has0_cons (List.mem_cons_self ..) has0_nil)) (fun gb hn_gb=> ?_) (hm:=.inr ⟨rfl,rfl⟩)
   replace hn_ga:=Heap.ne_of hn_ga
   simp only [Heap.ne] at hn_ga
   have J12:=oj hne (oj hne' (oj q0 (oj q1 (oj q2 (oj q3 (oj q4 (oj q5 hn_ga)))))))
   refine ySG J12 ?_
   refine cw_store (FP':=[]) rfl rfl rfl rfl rfl (zE J12) (zE J12) (zE J12) (zE J12) (fun _ e=>by cases e) rfl rfl (show 8≤8 from by omega) rfl has0_nil ?_
   refine ySG J12 ?_
   have hln:(m.phases++[v]).length=m.phases.length+1:=by rw [List.length_append];rfl
   rw [←hln]
   have hsp2:mdT {m with phases:=m.phases++[v]} {o with s:=some gb}=X++(gh (some gb) 66 ((m.phases++[v]).length*3) (phsF (m.phases++[v]))++Z):=by
    subst hX hZ
    unfold mdT
    simp only [List.flatten_cons,List.flatten_nil,List.append_assoc,List.append_nil,List.nil_append]
   refine aw_keep [] _ (zB J12) (List.sublist_cons_self _ _) ?_
   refine aw_perm (h':=(gM,mdO {m with phases:=m.phases++[v]} {o with s:=some gb})::(g,rdO L sy)::mdT {m with phases:=m.phases++[v]} {o with s:=some gb}) (.cons _ (.cons _ (perm_mid hsp2).symm)) ?_
   all_goals try(have Z:=J12;(repeat' first|refine zV Z ?_|refine zH Z (fun hb=>?_) fun hb=>?_|fail);all_goals clear Z)
   refine yV J12 ?_
   exact⟨rfl,{o with s:=some gb},⟨ho.e,ho.h,ho.g,ho.p,ho.r,some_ne⟩,rfl⟩
  |false=>
   have hB:=stB_no m n0 n1 n2 n3 n4 hb
   rw [hB]
   have f6:=take_fg g L s false hs om
   rw [take_ff] at f6
   have q0:(([]:BS)==kEvent)=false:=rfl
   have q1:(([]:BS)==kHouse)=false:=rfl
   have q2:(([]:BS)==kGate)=false:=rfl
   have q3:(([]:BS)==kPage)=false:=rfl
   have q4:(([]:BS)==kGroup)=false:=rfl
   have q5:(([]:BS)==kPhase)=false:=rfl
   all_goals try(have Z:=(oj hne (oj hne' (oj q0 (oj q1 (oj q2 (oj q3 (oj q4 q5)))))));(repeat' first|refine zV Z ?_|(refine zg Z (f6) ?_)|refine zH Z (fun hb=>?_) fun hb=>?_|fail);all_goals clear Z)
   refine yV (oj hne (oj hne' (oj q0 (oj q1 (oj q2 (oj q3 (oj q4 q5))))))) ?_
   exact⟨rfl,o,ho,rfl⟩
end Go.Proofs.YtnmeahogifekdaaGreatDoor
namespace Go.Proofs.YtnmeahogifekdaaGreatDoor
open Go.AI Go.PN
theorem lf_ler {α:Type} {h:Heap} {s:Nat} {c:α→List CV} {d:α} {xs:List α} (hs:0<s) (H:∀(x:α) k,k<s→LeR h (ofL (c x) k) (ofL (c x) k)) (j:Nat):LeR h (lf s c d xs j) (lf s c d xs j):=by
 obtain⟨i,k,hk,rfl⟩:∃i k,k<s∧j=i*s+k:=⟨j/s,j%s,Nat.mod_lt _ hs,by rw [Nat.mul_comm];exact(Nat.div_add_mod j s).symm⟩
 rw [lf_at hk]
 exact H _ _ hk
theorem ler_strs {h:Heap} {l:List BS}:LeR h (strs true l) (strs true l):=.row fun j _=>lf_ler (by decide) (fun x k hk=>match k,hk with|0,_=>.str _) j
theorem ler_evs {h:Heap} {l:List EvD}:LeR h (evs true l) (evs true l):=.row fun j _=>lf_ler (by decide) (fun x k hk=>match k,hk with|0,_=>.str _|1,_=>.bool _|2,_=>ler_ws|3,_=>ler_ws|4,_=>.bool _|5,_=>ler_ws|6,_=>ler_ws|7,_=>.bool _|8,_=>ler_ws|9,_=>ler_ws|10,_=>.int _ _) j
theorem ler_hss {h:Heap} {l:List HsD}:LeR h (hss true l) (hss true l):=.row fun j _=>lf_ler (by decide) (fun x k hk=>match k,hk with|0,_=>.str _|1,_=>.bool _) j
theorem lerk_gt {h:Heap} (x:GtD) (k:Nat) (hk:k<7):LeR h (ofL (gtc x) k) (ofL (gtc x) k):=match k,hk with|0,_=>.str _|1,_=>.int _ _|2,_=>.int _ _|3,_=>ler_strs|4,_=>.bool _|5,_=>ler_ws|6,_=>ler_ws
theorem ler_gts {h:Heap} {l:List GtD}:LeR h (gts true l) (gts true l):=.row fun j _=>lf_ler (by decide) lerk_gt j
theorem ler_pgs {h:Heap} {l:List PgD}:LeR h (pgs true l) (pgs true l):=.row fun j _=>lf_ler (by decide) (fun x k hk=>match k,hk with|0,_=>.str _|1,_=>.str _|2,_=>ler_gts) j
theorem ler_grs {h:Heap} {l:List GrD}:LeR h (grs true l) (grs true l):=.row fun j _=>lf_ler (by decide) (fun x k hk=>match k,hk with|0,_=>.str _|1,_=>.int _ _|2,_=>ler_strs|3,_=>ler_rats) j
theorem ler_vls {h:Heap} {l:List VlD}:LeR h (vls true l) (vls true l):=.row fun j _=>lf_ler (by decide) (fun x k hk=>match k,hk with|0,_=>.str _|1,_=>.bool _|2,_=>ler_ws|3,_=>ler_ws) j
theorem ler_phs {h:Heap} {l:List PhD}:LeR h (phs true l) (phs true l):=.row fun j _=>lf_ler (by decide) (fun x k hk=>match k,hk with|0,_=>.str _|1,_=>.str _|2,_=>ler_vls) j
theorem lerl_md {h:Heap} {x:MdD}:LeRL h (mdc true x) (mdc true x):=⟨.str _,.str _,ler_evs,ler_hss,ler_gts,ler_pgs,ler_grs,ler_phs,trivial⟩
theorem lerl_md0 {h:Heap}:LeRL h [.str (sB []),.str (sB []),.nils,.nils,.nils,.nils,.nils,.nils] (mdc true md0):=⟨.str _,.str _,.nils,.nils,.nils,.nils,.nils,.nils,trivial⟩
end Go.Proofs.YtnmeahogifekdaaGreatDoor
namespace Go.Proofs.YtnmeahogifekdaaGreatDoor
open Go.AI Go.PN
attribute [local irreducible] aw Fa Fh DrK
theorem end_fg (g:Nat) (L:List TX) (s:PS) (hs:s.l<:+L.map TX.t) (hL:L.length≤1099511627776):Fg Tryz.prog 42 g (rdO L s) [.c (.optr g 0)] (.c (errA (endS s).e)) (rdO L (endS s)):=by
 have h:=rat hs
 have f1:=fail_fg g L s 2 (by decide)
 generalize ha:L.length-s.l.length=a at h
 have hle:=h.le
 unfold Fg
 rw [ha_of ha]
 rw [ha_of ha] at f1
 refine fh_of_body Tryz.func42 rfl rfl (by simp [Tryz.ntmps42]) fun C hC=> ?_
 simp only [initS,Nat.reduceAdd]
 repeat' first|refine zV o0 ?_|refine zH o0 (fun hb=>?_) fun hb=>?_|fail
 refine aw_dr 17 ty_mixed (by kernel_rfl) ?_
 repeat' first|refine zV o0 ?_|(refine zg o0 (f1) ?_)|refine zH o0 (fun hb=>?_) fun hb=>?_|fail
 ·rename_i h0
  obtain⟨l',hl,_⟩:=h.cons hb
  have he:endS s=failS 2 s:=by
   unfold endS failS
   rw [if_pos ⟨h0,by rw [hl];simp⟩,if_pos h0]
  refine xU ?_
  rw [he]
  exact⟨rfl,rfl⟩
 ·have he:endS s=s:=by
   unfold endS
   rw [if_neg fun z=>z.2 (h.nil hb)]
  refine xU ?_
  rw [he,←ha_of ha]
  exact⟨rfl,rfl⟩
 ·have he:endS s=s:=by
   unfold endS
   rw [if_neg fun z=>hb z.1]
  refine xU ?_
  rw [he,←ha_of ha]
  exact⟨rfl,rfl⟩
theorem begin_fh (l:BS) (hl:l.length≤1099511627776):Fh Tryz.prog 36 [] [.c (.str (sB l))] (fun x h=>∃(out:List TX) (g:Nat),out.map TX.t=(splitS l).2∧h=[(g,rdO out ⟨(splitS l).2,0⟩)]∧x=.tup [.c (.optr g 0),.c (errA (splitS l).1)]):=by
 refine fh_of_body Tryz.func36 rfl rfl (by simp [Tryz.ntmps36]) fun C hC=> ?_
 simp only [initS,Nat.reduceAdd]
 repeat' first|refine zV o0 ?_|refine zH o0 (fun hb=>?_) fun hb=>?_|fail
 refine aw_callh (hr:=[]) (tsplit_fh l hl) rfl rfl rfl (.refl _) eL ?_
 rintro r h' ⟨rfl,out,ho,rfl⟩ _
 repeat' first|refine zV o0 ?_|refine zH o0 (fun hb=>?_) fun hb=>?_|fail
 refine xB fun g hn_g=>?_
 repeat' first|refine zV hn_g ?_|refine zH hn_g (fun hb=>?_) fun hb=>?_|fail
 refine yU hn_g ?_
 refine⟨out,g,ho,?_,rfl⟩
 unfold rdO
 rw [show out.length-(PS.mk (splitS l).2 0).l.length=0 from by rw [←ho,List.length_map];exact Nat.sub_self _]
 rfl
end Go.Proofs.YtnmeahogifekdaaGreatDoor
namespace Go.PN
open Go.AI
def modelP (ck:MdD→Int) (l:BS):MdD×Int:=if(splitS l).1≠0 then(md0,(splitS l).1) else let r:=readS ⟨(splitS l).2,0⟩;if r.2.e≠0 then(md0,r.2.e) else if ck r.1≠0 then(md0,ck r.1) else(r.1,0)
theorem MdSm.mono {m:MdD} {a b:Nat} (h:MdSm m a) (hab:a≤b):MdSm m b:=⟨Nat.le_trans h.e hab,Nat.le_trans h.h hab,Nat.le_trans h.g hab,Nat.le_trans h.p hab,Nat.le_trans h.r hab,Nat.le_trans h.s hab⟩
theorem MdSm.stB {m:MdD} {n:Nat} (h:MdSm m n) (s:PS):MdSm (stB m s).1 (n+1):=by
 obtain⟨h1,h2,h3,h4,h5,h6⟩:=h
 unfold Go.PN.stB
 dsimp only
 repeat' split
 all_goals constructor
 all_goals first|(dsimp only;rw [List.length_append];exact Nat.succ_le_succ (by assumption))|(dsimp only;omega)
end Go.PN
namespace Go.Proofs.YtnmeahogifekdaaGreatDoor
open Go.AI Go.PN
attribute [local irreducible] aw Fa Fh DrK
theorem pmodel_fa (ck:MdD→Int) (l:BS) (hl:l.length≤1099511627776) (hn:(splitS l).2.length≤1048576) (hw:∀t∈(splitS l).2,t.text.length≤1099511627776) (hck:(readS ⟨(splitS l).2,0⟩).2.e=0→Fa Tryz.prog 9 [.agg (mdc true (readS ⟨(splitS l).2,0⟩).1)] (.c (errA (ck (readS ⟨(splitS l).2,0⟩).1)))):Fa Tryz.prog 12 [.c (.str (sB l))] (.tup [.agg (mdc true (modelP ck l).1),.c (errA (modelP ck l).2)]):=by
 refine fa_of_body Tryz.func12 rfl rfl (by simp [Tryz.ntmps12]) fun C hC=> ?_
 simp only [initS,Nat.reduceAdd]
 repeat' first|refine zV o0 ?_|refine zH o0 (fun hb=>?_) fun hb=>?_|fail
 refine xA fun g2 hn_g2=>?_
 repeat' first|refine zV hn_g2 ?_|refine zH hn_g2 (fun hb=>?_) fun hb=>?_|fail
 refine aw_callh (hr:=[(g2,.cells 29 8 (ofL [.str (sB []),.str (sB []),.nils,.nils,.nils,.nils,.nils,.nils]))]) (begin_fh l hl) rfl rfl rfl (.refl _) (zL hn_g2) ?_
 rintro r h' ⟨out,g,ho,rfl,rfl⟩ hgg
 have hne:g≠g2:=by simpa [Heap.keys] using hgg
 have hne':g2≠g:=fun e=>hne e.symm
 clear hgg
 simp only [List.cons_append,List.nil_append]
 have hs:(PS.mk (splitS l).2 0).l<:+out.map TX.t:=by rw [ho];exact List.suffix_refl _
 have hL:out.length≤1048576:=by rw [←List.length_map TX.t,ho];exact hn
 have hw':∀t∈out,t.t.text.length≤1099511627776:=fun t ht=>hw t.t (by rw [←ho];exact List.mem_map_of_mem ht)
 clear hw hn
 unfold modelP
 unfold readS at hck⊢
 dsimp only at hck⊢
 have f0:=expect_fg g out ⟨(splitS l).2,0⟩ kModel hs om
 have hs1:=((rdr_exp kModel).suf ⟨(splitS l).2,0⟩).trans hs
 generalize expS kModel ⟨(splitS l).2,0⟩=s1 at*
 have f1:=word_fg g out s1 hs1 om
 have hs2:=suf_word hs1
 generalize wordS s1=r at*
 obtain⟨nm,s2⟩:=r
 dsimp only at*
 have f2:=expect_fg g out s2 kSemi hs2 om
 have hs3:(expS kSemi s2).l<:+out.map TX.t:=((rdr_exp kSemi).suf s2).trans hs2
 generalize expS kSemi s2=s3 at*
 generalize hF:lpS (fun s=> !isS s kTop) stB {md0 with name:=nm} s3=F at*
 have hs4:F.2.l<:+out.map TX.t:=by rw [←hF];exact((rdr_lp rdr_stB _).suf s3).trans hs3
 have f3:=expect_fg g out F.2 kTop hs4 om
 have hs5:(expS kTop F.2).l<:+out.map TX.t:=((rdr_exp kTop).suf F.2).trans hs4
 generalize expS kTop F.2=s5 at*
 have f4:=input_fg g out s5 hs5 om hw'
 have hs6:=(rdr_input.suf s5).trans hs5
 generalize inputS s5=r at*
 obtain⟨tp,s6⟩:=r
 dsimp only at*
 have f5:=expect_fg g out s6 kSemi hs6 om
 have hs7:(expS kSemi s6).l<:+out.map TX.t:=((rdr_exp kSemi).suf s6).trans hs6
 generalize expS kSemi s6=s7 at*
 have f6:=end_fg g out s7 hs7 om
 all_goals try(have Z:=(oj hn_g2 (oj hne hne'));(repeat' first|refine zV Z ?_|refine zH Z (fun hb=>?_) fun hb=>?_|fail);all_goals clear Z)
 ·have h0:(splitS l).1≠0:=by simpa using hb
  refine yT hC (oj hn_g2 (oj hne hne')) ?_
  rw [if_pos h0]
  exact .tup ⟨.agg lerl_md0,.c ler_err,trivial⟩
 have h0:¬(splitS l).1≠0:=by simpa using hb
 rw [if_neg h0]
 refine yA (oj hn_g2 (oj hne hne')) fun gM hn_gM=>?_
 have J1:=oj hn_g2 (oj hne (oj hne' hn_gM))
 refine yW J1 ?_
 refine yS J1 ?_
 all_goals try(have Z:=J1;(repeat' first|refine zV Z ?_|(refine zg Z (f0) ?_)|(refine zg Z (f1) ?_)|refine zH Z (fun hb=>?_) fun hb=>?_|fail);all_goals clear Z)
 refine aw_cg f2 rfl rfl rfl (zE J1) (zL2 o0) ?_
 refine yS J1 ?_
 refine yH J1 ?_
 apply wa1
 refine aw_cut (fun _:Og=>[(2,.c (.optr g2 0)),(3,.c .nilI),(4,.c (.optr g 0)),(6,.c (.optr gM 0))]) (fun o=>[(gM,mdO F.1 o),(g,rdO out F.2)]++mdT F.1 o++[(g2,.cells 29 8 (ofL [.str (sB []),.str (sB []),.nils,.nils,.nils,.nils,.nils,.nils]))]) (fun o=>OgOk F.1 o) ?_ ?_
 ·apply wa2
  refine aw_lp (fun _:PS×MdD×Og=>[(2,.c (.optr g2 0)),(3,.c .nilI),(4,.c (.optr g 0)),(6,.c (.optr gM 0))]) (fun x=>[(gM,mdO x.2.1 x.2.2),(g,rdO out x.1)]++mdT x.2.1 x.2.2++[(g2,.cells 29 8 (ofL [.str (sB []),.str (sB []),.nils,.nils,.nils,.nils,.nils,.nils]))])
   (fun x=>x.1.l<:+out.map TX.t∧OgOk x.2.1 x.2.2∧MdSm x.2.1 (1048577-mS x.1)∧lpS (fun s=> !isS s kTop) stB x.2.1 x.1=F) (fun x=>mS x.1) (s3,{md0 with name:=nm},⟨none,none,none,none,none,none⟩) (zB J1) zZ ⟨hs3,⟨fun _=>rfl,fun _=>rfl,fun _=>rfl,fun _=>rfl,fun _=>rfl,fun _=>rfl⟩,⟨Nat.zero_le _,Nat.zero_le _,Nat.zero_le _,Nat.zero_le _,Nat.zero_le _,Nat.zero_le _⟩,hF⟩ ?_
  rintro ⟨sx,m,o⟩ ⟨hsx,hog,hm,hlp⟩
  dsimp only at hsx hog hm hlp⊢
  simp only [List.cons_append,List.nil_append]
  have i0:=is_fg g out sx kTop hsx om
  all_goals try(have Z:=J1;(repeat' first|refine zV Z ?_|(refine zg Z (i0) ?_)|refine zH Z (fun hb=>?_) fun hb=>?_|fail);all_goals clear Z)
  ·rename_i hz
   have hc:(fun s=> !isS s kTop) sx=true:=hb
   have hst:=lpS_step (c:=fun s=> !isS s kTop) (b:=stB) (a:=m) (fun a s h _=>con_stB a s h) hz hc
   have hlt:=con_stB m sx hz
   rw [hst] at hlp
   have hsy:(stB m sx).2.l<:+out.map TX.t:=((rdr_stB m).suf sx).trans hsx
   have hm1:1≤mS sx:=by unfold mS;rw [if_pos hz];omega
   have hm2:mS sx≤1048577:=by
    have:=hsx.length_le
    rw [List.length_map] at this
    unfold mS
    split<;>omega
   have hf:=statement_fh gM g out sx m o hsx hL hw' hog (hm.mono om)
   have hm3:=(hm.stB sx).mono (show _≤1048577-mS (stB m sx).2 by omega)
   refine aw_callh (hr:=[(g2,.cells 29 8 (ofL [.str (sB []),.str (sB []),.nils,.nils,.nils,.nils,.nils,.nils]))]) hf rfl rfl rfl (by simp only [List.cons_append,List.nil_append];exact .refl _) (zL J1) ?_
   rintro r h' ⟨rfl,o',ho',rfl⟩ _
   all_goals try(have Z:=J1;(repeat' first|refine zV Z ?_|refine zH Z (fun hb=>?_) fun hb=>?_|fail);all_goals clear Z)
   refine aw_stop ⟨((stB m sx).2,(stB m sx).1,o'),?_⟩
   refine⟨hlt,?_⟩
   and_intros
   all_goals first|rfl|exact List.Sublist.refl _|exact True.intro|exact hsy|exact ho'|exact hm3|exact hlp
  ·have hc:¬(sx.e=0∧(fun s=> !isS s kTop) sx=true):=fun z=>by rw [show(fun s=> !isS s kTop) sx=false from hb] at z;exact absurd z.2 (by decide)
   rw [lpS_end hc] at hlp
   subst hlp
   refine aw_stop ⟨o,?_⟩
   and_intros<;>first|rfl|exact List.Sublist.refl _|exact True.intro|exact hog
  ·have hc:¬(sx.e=0∧(fun s=> !isS s kTop) sx=true):=fun z=>hb z.1
   rw [lpS_end hc] at hlp
   subst hlp
   refine aw_stop ⟨o,?_⟩
   and_intros<;>first|rfl|exact List.Sublist.refl _|exact True.intro|exact hog
 rintro o hog
 try dsimp only at hog⊢
 refine aw_perm (h':=(gM,mdO F.1 o)::(gh o.e 49 (F.1.events.length*11) (evsF F.1.events)++(gh o.h 51 (F.1.houses.length*2) (hssF F.1.houses)++(gh o.g 60 (F.1.gates.length*7) (gtsF F.1.gates)++(gh o.p 57 (F.1.pages.length*3) (pgsF F.1.pages)++(gh o.r 55 (F.1.groups.length*4) (grsF F.1.groups)++(gh o.s 66 (F.1.phases.length*3) (phsF F.1.phases)++([(g,rdO out F.2),(g2,.cells 29 8 (ofL [.str (sB []),.str (sB []),.nils,.nils,.nils,.nils,.nils,.nils]))])))))))) (.cons _ ?_) ?_
 ·have e:gh o.e 49 (F.1.events.length*11) (evsF F.1.events)++(gh o.h 51 (F.1.houses.length*2) (hssF F.1.houses)++(gh o.g 60 (F.1.gates.length*7) (gtsF F.1.gates)++(gh o.p 57 (F.1.pages.length*3) (pgsF F.1.pages)++(gh o.r 55 (F.1.groups.length*4) (grsF F.1.groups)++(gh o.s 66 (F.1.phases.length*3) (phsF F.1.phases)++([(g,rdO out F.2),(g2,.cells 29 8 (ofL [.str (sB []),.str (sB []),.nils,.nils,.nils,.nils,.nils,.nils]))]))))))=mdT F.1 o++[(g,rdO out F.2),(g2,.cells 29 8 (ofL [.str (sB []),.str (sB []),.nils,.nils,.nils,.nils,.nils,.nils]))]:=by
   unfold mdT
   simp only [List.flatten_cons,List.flatten_nil,List.append_assoc,List.append_nil,List.nil_append]
  rw [e]
  exact(List.perm_middle (l₁:=mdT F.1 o)).symm
 refine aw_frzG (j0:=2) (n:=F.1.events.length) (s:=11) (f':=ofL [.str (sB F.1.name),.str (sB F.1.top),evs true F.1.events,gs o.h 2 F.1.houses.length,gs o.g 7 F.1.gates.length,gs o.p 3 F.1.pages.length,gs o.r 4 F.1.groups.length,gs o.s 3 F.1.phases.length]) rfl rfl (fun j hj hj3=>by
  match j,hj,hj3 with
  |0,_,_=>rfl
  |1,_,_=>rfl
  |2,_,h=>exact absurd rfl h
  |3,_,_=>rfl
  |4,_,_=>rfl
  |5,_,_=>rfl
  |6,_,_=>rfl
  |7,_,_=>rfl
  |j+8,h,_=>exact absurd h om) hog.e (fun g _=>hC g) ?_
 refine aw_frzG (j0:=3) (n:=F.1.houses.length) (s:=2) (f':=ofL [.str (sB F.1.name),.str (sB F.1.top),evs true F.1.events,hss true F.1.houses,gs o.g 7 F.1.gates.length,gs o.p 3 F.1.pages.length,gs o.r 4 F.1.groups.length,gs o.s 3 F.1.phases.length]) rfl rfl (fun j hj hj3=>by
  match j,hj,hj3 with
  |0,_,_=>rfl
  |1,_,_=>rfl
  |2,_,_=>rfl
  |3,_,h=>exact absurd rfl h
  |4,_,_=>rfl
  |5,_,_=>rfl
  |6,_,_=>rfl
  |7,_,_=>rfl
  |j+8,h,_=>exact absurd h om) hog.h (fun g _=>hC g) ?_
 refine aw_frzG (j0:=4) (n:=F.1.gates.length) (s:=7) (f':=ofL [.str (sB F.1.name),.str (sB F.1.top),evs true F.1.events,hss true F.1.houses,gts true F.1.gates,gs o.p 3 F.1.pages.length,gs o.r 4 F.1.groups.length,gs o.s 3 F.1.phases.length]) rfl rfl (fun j hj hj3=>by
  match j,hj,hj3 with
  |0,_,_=>rfl
  |1,_,_=>rfl
  |2,_,_=>rfl
  |3,_,_=>rfl
  |4,_,h=>exact absurd rfl h
  |5,_,_=>rfl
  |6,_,_=>rfl
  |7,_,_=>rfl
  |j+8,h,_=>exact absurd h om) hog.g (fun g _=>hC g) ?_
 refine aw_frzG (j0:=5) (n:=F.1.pages.length) (s:=3) (f':=ofL [.str (sB F.1.name),.str (sB F.1.top),evs true F.1.events,hss true F.1.houses,gts true F.1.gates,pgs true F.1.pages,gs o.r 4 F.1.groups.length,gs o.s 3 F.1.phases.length]) rfl rfl (fun j hj hj3=>by
  match j,hj,hj3 with
  |0,_,_=>rfl
  |1,_,_=>rfl
  |2,_,_=>rfl
  |3,_,_=>rfl
  |4,_,_=>rfl
  |5,_,h=>exact absurd rfl h
  |6,_,_=>rfl
  |7,_,_=>rfl
  |j+8,h,_=>exact absurd h om) hog.p (fun g _=>hC g) ?_
 refine aw_frzG (j0:=6) (n:=F.1.groups.length) (s:=4) (f':=ofL [.str (sB F.1.name),.str (sB F.1.top),evs true F.1.events,hss true F.1.houses,gts true F.1.gates,pgs true F.1.pages,grs true F.1.groups,gs o.s 3 F.1.phases.length]) rfl rfl (fun j hj hj3=>by
  match j,hj,hj3 with
  |0,_,_=>rfl
  |1,_,_=>rfl
  |2,_,_=>rfl
  |3,_,_=>rfl
  |4,_,_=>rfl
  |5,_,_=>rfl
  |6,_,h=>exact absurd rfl h
  |7,_,_=>rfl
  |j+8,h,_=>exact absurd h om) hog.r (fun g _=>hC g) ?_
 refine aw_frzG (j0:=7) (n:=F.1.phases.length) (s:=3) (f':=ofL [.str (sB F.1.name),.str (sB F.1.top),evs true F.1.events,hss true F.1.houses,gts true F.1.gates,pgs true F.1.pages,grs true F.1.groups,phs true F.1.phases]) rfl rfl (fun j hj hj3=>by
  match j,hj,hj3 with
  |0,_,_=>rfl
  |1,_,_=>rfl
  |2,_,_=>rfl
  |3,_,_=>rfl
  |4,_,_=>rfl
  |5,_,_=>rfl
  |6,_,_=>rfl
  |7,_,h=>exact absurd rfl h
  |j+8,h,_=>exact absurd h om) hog.s (fun g _=>hC g) ?_
 all_goals try(have Z:=J1;(repeat' first|refine zV Z ?_|(refine zg Z (f3) ?_)|(refine zg Z (f4) ?_)|(refine zg Z (f5) ?_)|(refine zg Z (f6) ?_)|refine zH Z (fun hb=>?_) fun hb=>?_|fail);all_goals clear Z)
 ·have h1:(endS s7).e≠0:=by simpa using hb
  refine yT hC J1 ?_
  rw [if_pos h1]
  exact .tup ⟨.agg lerl_md0,.c ler_err,trivial⟩
 have h1:¬(endS s7).e≠0:=by simpa using hb
 rw [if_neg h1]
 have f7:=hck (by simpa using h1)
 all_goals try(have Z:=J1;(repeat' first|refine zV Z ?_|(refine yC2 Z (f7) ?_)|(refine yD2 Z (f7) ?_)|refine zH Z (fun hb=>?_) fun hb=>?_|fail);all_goals clear Z)
 ·have h2:ck {F.1 with top:=tp}≠0:=by simpa using hb
  refine yT hC J1 ?_
  rw [if_pos h2]
  exact .tup ⟨.agg lerl_md0,.c ler_err,trivial⟩
 ·have h2:¬ck {F.1 with top:=tp}≠0:=by simpa using hb
  refine yT hC J1 ?_
  rw [if_neg h2]
  exact .tup ⟨.agg (lerl_md (x:={F.1 with top:=tp})),.c (ler_err0 rfl),trivial⟩
end Go.Proofs.YtnmeahogifekdaaGreatDoor
namespace Go.PN
def RD.prob (r:RD):Bool:=r.valid&&decide (0≤r.q)&&decide (r.q≤1)
theorem sq_le_one {n d:Nat} (hd:d≠0):sq false n d≤1↔n≤d:=by
 unfold sq sgn
 simp only [Bool.false_eq_true,if_false]
 rw [Rat.mkRat_eq_div]
 have hd0:(0:Rat)<(d:Rat):=by
  have:((0:Nat):Rat)<(d:Rat):=Rat.natCast_lt_natCast.2 om
  exact this
 have hne:(d:Rat)≠0:=fun e=>by rw [e] at hd0;exact Rat.lt_irrefl hd0
 have hx:((n:Int):Rat)/(d:Rat)*(d:Rat)=(n:Rat):=by
  have h1:((n:Int):Rat)=(n:Rat):=rfl
  rw [h1,Rat.div_def,Rat.mul_assoc,Rat.inv_mul_cancel _ hne,Rat.mul_one]
 generalize ((n:Int):Rat)/(d:Rat)=x at hx
 constructor
 ·intro h
  have h1:=Rat.mul_le_mul_of_nonneg_right h (Rat.le_of_lt hd0)
  rw [hx,Rat.one_mul] at h1
  exact Rat.natCast_le_natCast.1 h1
 ·intro h
  have h1:(n:Rat)≤(d:Rat):=Rat.natCast_le_natCast.2 h
  rw [←hx] at h1
  refine Rat.not_lt.1 fun hlt=> ?_
  have h2:=Rat.mul_lt_mul_of_pos_right hlt hd0
  rw [Rat.one_mul] at h2
  exact absurd h1 (Rat.not_le.2 h2)
theorem prob_eq {r:RD} {L:Nat} (hw:r.wf L) (hv:r.valid=true):((!r.neg)&&decide (cmpN (val r.num) (val r.den)≤0))=(decide (0≤r.q)&&decide (r.q≤1)):=by
 cases hs:r.some with
 |false=>
  have hn:r.num.length=0:=by
   simp only [RD.some,hv,Bool.true_and,decide_eq_false_iff_not,ne_eq,Classical.not_not] at hs
   exact hs
  have hq:r.q=0:=by unfold RD.q RD.pn;simp [hs,sq_zero]
  have hv':=hv
  unfold RD.valid at hv'
  split at hv'
  ·rename_i h
   have h1:r.num=[]:=List.length_eq_zero_iff.1 h.1
   have h2:r.den=[]:=List.length_eq_zero_iff.1 h.2
   rw [hq,h1,h2]
   simp only [Bool.not_eq_true'] at hv'
   simp [hv',val,cmpN]
   decide
  ·simp [plainB,hn] at hv'
 |true=>
  obtain⟨h1,h2,h3,h4,h5⟩:=RD.some_spec hw hs
  have hq:r.q=sq r.neg (val r.num) (val r.den):=by unfold RD.q RD.ps RD.pn RD.pd;simp [hs]
  rw [hq]
  have hneg:=sq_lt (neg:=r.neg) h3 h4
  cases hb:r.neg with
  |true=>
   rw [hb] at hneg
   have:¬(0≤sq true (val r.num) (val r.den)):=Rat.not_le.2 (hneg.2 rfl)
   simp [this]
  |false=>
   rw [hb] at hneg
   have hge:0≤sq false (val r.num) (val r.den):=Rat.not_lt.1 fun h=>by cases hneg.1 h
   have hle:=sq_le_one (n:=val r.num) h4
   have hc:cmpN (val r.num) (val r.den)≤0↔val r.num≤val r.den:=by
    unfold cmpN
    split
    ·constructor<;>intro _<;>omega
    ·split<;>constructor<;>intro _<;>omega
   simp only [hge,decide_true,Bool.true_and,Bool.not_false,hle,hc]
end Go.PN
namespace Go.Proofs.YtnmeahogifekdaaGreatDoor
open Go.AI Go.PN
attribute [local irreducible] aw Fa Fh DrK
theorem rprob_fa (r:RD) (hw:r.wf 1073741824):Fa Tryz.prog 72 [.agg (rdc r)] (.c (.bool r.prob)):=by
 have h1:=hw.2.2.1
 have h2:=hw.2.2.2
 refine fa_of_body Tryz.func72 rfl rfl (by simp [Tryz.ntmps72]) fun C hC=> ?_
 simp only [initS,Nat.reduceAdd]
 refine xG ?_
 refine xB fun g1 hn_g1=>?_
 refine yG hn_g1 ?_
 refine yC hn_g1 (rvalid_fa r (wf_mono hw ?_)) ?_
 ·omega
 refine yG hn_g1 ?_
 unfold RD.prob
 refine aw_split 5 (zE hn_g1) (fun hv=> ?_) (fun hv=> ?_)<;>refine yS hn_g1 ?_
 ·have hp:=prob_eq hw hv
  refine yG hn_g1 ?_
  refine aw_split 10 (zE hn_g1) (fun hn=> ?_) (fun hn=> ?_)<;>refine yS hn_g1 ?_
  ·refine yG hn_g1 ?_
   refine yC hn_g1 (cmp_fa _ _ hw.1 hw.2.1 ?_ ?_) ?_
   ·omega
   ·omega
   refine yGT hC hn_g1 ?_
   refine .one (.c (ler_bool ?_))
   rw [hv,Bool.true_and,←hp,hn,Bool.true_and]
  ·refine yGT hC hn_g1 ?_
   refine .one (.c (ler_bool ?_))
   rw [hv,Bool.true_and,←hp,hn,Bool.false_and]
 ·refine yGT hC hn_g1 ?_
  refine .one (.c (ler_bool ?_))
  rw [hv,Bool.false_and,Bool.false_and]
end Go.Proofs.YtnmeahogifekdaaGreatDoor
namespace Go.PN
open Go.AI
variable {α β σ : Type}
def fidx (p:α→Bool):List α→Int
 |[]=> -1
 |x::l=>if p x then 0 else if fidx p l<0 then-1 else fidx p l+1
theorem fidx_ge (p:α→Bool):∀l:List α,-1≤fidx p l
 |[]=>Int.le_refl _
 |x::l=>by
  have:=fidx_ge p l
  unfold fidx
  split
  ·decide
  ·split<;>omega
theorem fidx_lt (p:α→Bool):∀l:List α,fidx p l<l.length
 |[]=>(show(-1:Int)<0 from by decide)
 |x::l=>by
  have:=fidx_lt p l
  unfold fidx
  rw [List.length_cons]
  split
  ·omega
  ·split<;>omega
theorem fidx_no {p:α→Bool} (d:α):∀{l:List α},(∀j,j<l.length→p (l.getD j d)=false)→fidx p l= -1
 |[],_=>rfl
 |x::l,h=>by
  have h0:p x=false:=by simpa using h 0 (by simp)
  have ih:=fidx_no d (l:=l) fun j hj=>by simpa using h (j+1) (by simpa using hj)
  unfold fidx
  rw [h0,ih];rfl
theorem fidx_at {p:α→Bool} (d:α):∀{l:List α} {i:Nat},i<l.length→p (l.getD i d)=true→(∀j,j<i→p (l.getD j d)=false)→fidx p l=i
 |x::l,0,_,h,_=>by
  have:p x=true:=by simpa using h
  unfold fidx
  rw [this];rfl
 |x::l,i+1,hl,h,hn=>by
  have h0:p x=false:=by simpa using hn 0 om
  have ih:=fidx_at d (l:=l) (i:=i) (by simpa using hl) (by simpa using h) fun j hj=>by simpa using hn (j+1) om
  unfold fidx
  rw [h0,ih]
  rw [if_neg (by decide),if_neg om]
  omega
def frst (f:Nat→α→Int):List α→Nat→Int
 |[],_=>0
 |x::l,i=>if f i x=0 then frst f l (i+1) else f i x
theorem frst_step {f:Nat→α→Int} (d:α) {l:List α} {i:Nat} (h:i<l.length):frst f (l.drop i) i=if f i (l.getD i d)=0 then frst f (l.drop (i+1)) (i+1) else f i (l.getD i d):=by
 rw [List.drop_eq_getElem_cons h,List.getD_eq_getElem?_getD,List.getElem?_eq_getElem h];rfl
theorem frst_end {f:Nat→α→Int} {l:List α} {i:Nat} (h:¬i<l.length):frst f (l.drop i) i=0:=by rw [List.drop_of_length_le om];rfl
def frsS (f:Nat→α→σ→Int×σ):List α→Nat→σ→Int×σ
 |[],_,s=>(0,s)
 |x::l,i,s=>if(f i x s).1=0 then frsS f l (i+1) (f i x s).2 else f i x s
theorem frsS_step {f:Nat→α→σ→Int×σ} (d:α) {l:List α} {i:Nat} {s:σ} (h:i<l.length):frsS f (l.drop i) i s=if(f i (l.getD i d) s).1=0 then frsS f (l.drop (i+1)) (i+1) (f i (l.getD i d) s).2 else f i (l.getD i d) s:=by
 rw [List.drop_eq_getElem_cons h,List.getD_eq_getElem?_getD,List.getElem?_eq_getElem h];rfl
theorem frsS_end {f:Nat→α→σ→Int×σ} {l:List α} {i:Nat} {s:σ} (h:¬i<l.length):frsS f (l.drop i) i s=(0,s):=by rw [List.drop_of_length_le om];rfl
def frsN (f:Nat→σ→Int×σ):Nat→Nat→σ→Int×σ
 |0,_,s=>(0,s)
 |n+1,i,s=>if(f i s).1=0 then frsN f n (i+1) (f i s).2 else f i s
def orC (a b:Int):Int:=if a=0 then b else a
def evI (m:MdD) (n:BS):Int:=fidx (fun x=>x.name==n) m.events
def hsI (m:MdD) (n:BS):Int:=fidx (fun x=>x.name==n) m.houses
def gtI (l:List GtD) (n:BS):Int:=fidx (fun x=>x.name==n) l
def pgI (m:MdD) (n:BS):Int:=fidx (fun x=>x.name==n) m.pages
def gtsK (m:MdD):Nat→List GtD
 |0=>m.gates
 |k+1=>(m.pages.getD k pg0).gates
def rateB (r:RD):Bool:=r.valid&&decide (signQ r.q≥0)
def nameOk (s:BS):Bool:=decide (0<s.length)&&decide (s.length≤24)&&isLet (bAt s 0)&&decide (spanE isIns s 0=s.length)
def evC (m:MdD) (i:Nat) (x:EvD):Int:=if nameOk x.name=false then 5 else if evI m x.name<i then 6
 else if x.p.prob=false∨rateB x.fail=false∨rateB x.rep=false∨x.cost<0∨x.cost>1073741824 then 3 else 0
def hsC (m:MdD) (i:Nat) (x:HsD):Int:=if nameOk x.name=false then 5 else if evI m x.name≥0∨hsI m x.name<i then 6 else 0
def evhC (m:MdD):Int:=if m.events.length>24 then 4 else orC (frst (evC m) m.events 0) (if m.houses.length>16 then 4 else frst (hsC m) m.houses 0)
def gtN (m:MdD):Nat:=m.gates.length+(m.pages.map fun p=>p.gates.length).sum
def pgC (m:MdD) (i:Nat) (x:PgD):Int:=if nameOk x.name=false then 5 else if pgI m x.name<i then 6 else 0
def pgsC (m:MdD):Int:=if m.pages.length>8∨gtN m>64 then 4 else frst (pgC m) m.pages 0
def inpB (k:Int) (n:Nat):Bool:=if k=3 then n==1 else if k=5 then n==2 else if k=6∨k=7∨k=8 then decide (n≥2)&&decide (n≤16) else decide (n≥1)&&decide (n≤16)
def zeroB (r:RD):Bool:= !r.neg&&r.num.length==0&&r.den.length==0
def shpC (x:GtD):Int:=if x.kind<0∨x.kind>8 then 7 else if inpB x.kind x.inputs.length=false then 11
 else if x.kind=2∧(x.k<1∨x.k>x.inputs.length) then 3 else if x.kind≠2∧x.k≠0 then 2
 else if x.kind=7∧x.dorm.prob=false then 3 else if x.kind≠7∧zeroB x.dorm=false then 2 else 0
def gtC (m:MdD) (k:Nat) (i:Nat) (x:GtD):Int:=if nameOk x.name=false then 5 else if evI m x.name≥0∨hsI m x.name≥0∨gtI (gtsK m k) x.name<i then 6 else shpC x
def gtsC (m:MdD) (k:Nat):Int:=frst (gtC m k) (gtsK m k) 0
def isInp (m:MdD) (k:Nat) (i:BS):Bool:=if 0<i.length∧bAt i 0=64 then decide (pgI m (i.drop 1)≥0) else decide (evI m i≥0)||decide (hsI m i≥0)||decide (gtI (gtsK m k) i≥0)
def mustE (x:GtD) (j:Nat):Bool:=decide (x.kind=7)||(decide (x.kind=8)&&decide (j>0))
def inI (m:MdD) (k:Nat) (x:GtD) (j:Nat) (i:BS) (sp:List BS):Int×List BS:=if isInp m k i=false then(5,sp) else if mustE x j=true∧evI m i<0 then(7,sp)
 else if x.kind=7 then(if sp.contains i then(6,sp) else(0,sp++[i])) else(0,sp)
def inG (m:MdD) (k:Nat) (_:Nat) (x:GtD) (sp:List BS):Int×List BS:=frsS (inI m k x) x.inputs 0 sp
def tpC (m:MdD):Nat→Int
 |0=>0
 |k+1=>if gtI (m.pages.getD k pg0).gates (m.pages.getD k pg0).top<0∧evI m (m.pages.getD k pg0).top<0 then 5 else 0
def inP (m:MdD) (k:Nat) (sp:List BS):Int×List BS:=if(frsS (inG m k) (gtsK m k) 0 sp).1=0 then(tpC m k,(frsS (inG m k) (gtsK m k) 0 sp).2) else frsS (inG m k) (gtsK m k) 0 sp
def meC (m:MdD) (_:Nat) (n:BS) (ms:List BS):Int×List BS:=if evI m n<0 then(5,ms) else if ms.contains n then(6,ms) else(0,ms++[n])
def grC (m:MdD) (i:Nat) (x:GrD) (ms:List BS):Int×List BS:=if nameOk x.name=false then(5,ms) else if fidx (fun y=>y.name==x.name) m.groups<i then(6,ms)
 else if x.kind≠0∧x.kind≠1 then(7,ms)
 else if(x.members.length:Int)<2∨(x.members.length:Int)>(if x.kind=1 then 4 else 24)∨(x.factors.length:Int)≠(if x.kind=1 then(x.members.length:Int)-1 else 1) then(11,ms)
 else if(frsS (meC m) x.members 0 ms).1≠0 then frsS (meC m) x.members 0 ms
 else if x.factors.all RD.prob=false then(3,ms) else(0,(frsS (meC m) x.members 0 ms).2)
def grsC (m:MdD):Int:=if m.groups.length>8 then 4 else(frsS (grC m) m.groups 0 []).1
def vlC (m:MdD) (x:PhD) (k:Nat) (v:VlD):Int:=if evI m v.event<0 then 5 else if fidx (fun y=>y.event==v.event) x.values<k then 6 else if v.p.prob=false then 3 else 0
def phC (m:MdD) (i:Nat) (x:PhD):Int:=if nameOk x.name=false then 5 else if fidx (fun y=>y.name==x.name) m.phases<i then 6 else if isInp m 0 x.top=false then 5 else frst (vlC m x) x.values 0
def phsC (m:MdD):Int:=if m.phases.length>6 then 4 else frst (phC m) m.phases 0
def mcode0 (m:MdD):Int:=orC (if nameOk m.name then 0 else 5) (orC (evhC m) (orC (pgsC m) (orC (frsN (fun k (_:Unit)=>(gtsC m k,())) (m.pages.length+1) 0 ()).1
 (orC (frsN (inP m) (m.pages.length+1) 0 []).1 (orC (if isInp m 0 m.top then 0 else 5) (orC (grsC m) (phsC m)))))))
end Go.PN
