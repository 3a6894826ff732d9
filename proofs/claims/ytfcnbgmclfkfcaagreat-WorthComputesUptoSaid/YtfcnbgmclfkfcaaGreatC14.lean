/- Parts of one proof, laid by a program. -/
import Derived.Test.YtfcnbgmclfkfcaaGreatC00
import Derived.Test.YtfcnbgmclfkfcaaGreatC13
set_option linter.unusedSimpArgs false
set_option linter.unusedVariables false
set_option maxRecDepth 100000
set_option maxHeartbeats 12800000
namespace Go.Proofs.YtfcnbgmclfkfcaaGreat
open Go.AI Go.PN
attribute [local irreducible] aw Fa Fh DrK
theorem bcheck_fa (d:DG) (p:List RD) (es:List Int) (hw:∀r∈p,r.wf 500000000) (hl:p.length≤1099511627776) (hl1:d.order.length≤1099511627776) (hl2:d.nodes.length≤1099511627776) (he:es.length≤1099511627776):
 Fa Tryz.prog 81 [.agg (dgc false d),.c (rats false p),.c (is false es)] (.c (errA (bcode d p es))):=by
 refine fa_of_body Tryz.func81 rfl rfl (by simp [Tryz.ntmps81]) fun C hC=> ?_
 simp only [initS,Nat.reduceAdd]
 refine xG ?_
 refine xB fun g3 hn_g3=>?_
 refine yG hn_g3 ?_
 refine yC hn_g3 (dcheck_fa d hl1 hl2) ?_
 refine yG hn_g3 ?_
 refine yF hn_g3 (fun hb=>?_) fun hb=>?_
 ·have hb':dcode d≠0:=by simpa using hb
  have e:bcode d p es=dcode d:=by
   have hdp:dpcode d p=dcode d:=by unfold dpcode;rw [if_pos hb']
   unfold bcode;rw [hdp,if_pos hb']
  rw [e]
  refine yGT hC hn_g3 ?_
  exact .one (.c ler_err)
 have hb':dcode d=0:=by simpa using hb
 have hdp:dpcode d p=pcode p d.order.length:=by unfold dpcode;rw [if_neg (by simp [hb'])]
 refine yG hn_g3 ?_
 refine yC hn_g3 (scheck_fa p d.order.length hw hl) ?_
 refine yG hn_g3 ?_
 refine yF hn_g3 (fun hc=>?_) fun hc=>?_
 ·have hc':pcode p d.order.length≠0:=by simpa using hc
  have e:bcode d p es=pcode p d.order.length:=by unfold bcode;rw [hdp,if_pos hc']
  rw [e]
  refine yGT hC hn_g3 ?_
  exact .one (.c ler_err)
 have hc':pcode p d.order.length=0:=by simpa using hc
 have e:bcode d p es=if es.all (fun i=>decide (0≤i)&&decide (i<d.order.length)) then 0 else 10:=by unfold bcode;rw [hdp,if_neg (by simp [hc'])]
 rw [e]
 refine yG hn_g3 ?_
 refine aw_lp (fun k:Nat=>[(3,.c (.optr g3 0)),(24,.c (is false es)),(25,.c (.int .i64 es.length)),(26,.c (.int .i64 k))]) (fun _=>[(g3,.cells 55 3 (ofL (dgc false d)))]) (fun k=>k≤es.length∧∀j,j<k→0≤es.getD j 0∧es.getD j 0<d.order.length) (fun k=>es.length-k) 0 (zB hn_g3) zZ ⟨Nat.zero_le _,fun j hj=>by omega⟩ ?_
 rintro k ⟨hk,hz⟩
 refine yG hn_g3 ?_
 refine yF hn_g3 (fun h1=>?_) fun h1=>?_
 ·have h1':k<es.length:=dT h1
  have hbad:¬(0≤es.getD k 0∧es.getD k 0<d.order.length)→es.all (fun i=>decide (0≤i)&&decide (i<d.order.length))=false:=fun h=>by
   rw [List.all_eq_false]
   refine⟨es[k],List.getElem_mem h1',?_⟩
   rw [getDZ h1'] at h
   simpa using h
  refine yG hn_g3 ?_
  refine aw_split 32 (zE hn_g3) (fun h2=> ?_) (fun h2=> ?_)<;>refine yS hn_g3 ?_
  ·have h2':=of_decide_eq_true h2
   rw [hbad om]
   refine yGPGT hC hn_g3 ?_
   exact .one (.c (ler_errN rfl (by decide)))
  ·have h2':=of_decide_eq_false h2
   refine yG hn_g3 ?_
   refine yF hn_g3 (fun h3=>?_) fun h3=>?_
   ·have h3':=of_decide_eq_true h3
    rw [hbad om]
    refine yGT hC hn_g3 ?_
    exact .one (.c (ler_errN rfl (by decide)))
   ·have h3':=of_decide_eq_false h3
    refine yG hn_g3 ?_
    exact aw_stop ⟨k+1,by omega,(zB hn_g3),zZ,by omega,fun j hj=>by
     by_cases e:j=k
     ·subst e;omega
     ·exact hz j om⟩
 ·have h1':k=es.length:=dF h1
  subst h1'
  have hall:es.all (fun i=>decide (0≤i)&&decide (i<d.order.length))=true:=by
   rw [List.all_eq_true]
   intro x hx
   obtain⟨j,hj,rfl⟩:=List.mem_iff_getElem.1 hx
   have:=hz j hj
   rw [getDZ hj] at this
   simpa using this
  rw [hall]
  refine yGT hC hn_g3 ?_
  exact .one (.c (ler_err0 rfl))
theorem with_fa (d:DG) (p:List RD) (hs:Small d p) (h0:dpcode d p=0) (i:Nat) (hi:i<p.length) (q:RD) (hq:q.wf 4) (hqp:q.prob=true):
 Fa Tryz.prog 100 [.agg (dgc false d),.c (rats false p),.c (.int .i64 i),.agg (rdc q)] (.tup [.agg (rdc (rd (prS d (p.set i q)))),.c .nilI]):=by
 have s1:=hs.l
 have hp:=sprobability_fa d (p.set i q) (hs.set h0 hq)
 rw [dp_set h0 hqp,if_pos rfl] at hp
 refine fa_of_body Tryz.func100 rfl rfl (by simp [Tryz.ntmps100]) fun C hC=> ?_
 simp only [initS,Nat.reduceAdd]
 refine xG ?_
 refine xB fun g4 hn_g4=>?_
 refine yG hn_g4 ?_
 refine yB hn_g4 fun g7 hn_g7=>?_
 refine yG (oj hn_g4 hn_g7) ?_
 refine yA (oj hn_g4 hn_g7) fun g8 hn_g8=>?_
 have J1:=oj hn_g4 (oj hn_g7 hn_g8)
 refine yG J1 ?_
 refine aw_callh (hr:=[(g8,.cells 30 3 (ofL [.bool false,.nils,.nils])),(g7,.cells 30 3 (ofL (rdc q))),(g4,.cells 55 3 (ofL (dgc false d)))]) (clone_fh p om) rfl rfl rfl (List.Perm.refl _) (zL J1) ?_
 rintro _ _ ⟨og,hog,rfl,rfl⟩ hk2
 obtain⟨g,rfl⟩:∃g,og=some g:=by
  cases og with
  |none=>have:=hog rfl;omega
  |some g=>exact⟨g,rfl⟩
 have hg:=hk2 g (by simp [Heap.keys,gh])
 replace hg:=Heap.ne_of hg
 dsimp only [Heap.ne] at hg
 dsimp only [gs,gh,List.cons_append,List.nil_append]
 have J2:=oj hn_g4 (oj hn_g7 (oj hn_g8 hg))
 refine ySGWS J2 ?_
 rw [ratsF_upd om]
 refine yG J2 ?_
 refine aw_callq hp rfl rfl rfl (by refine yS J2 ?_;exact⟨.agg (lel_refl _),.c (le_oslr2 (zE J2) (by rw [List.length_set]))⟩) ?_
 refine ySGWSG J2 ?_
 refine yT hC J2 ?_
 exact .tup ⟨.agg lerl_rd,.c .nilI,trivial⟩
theorem derive_fa (d:DG) (p:List RD) (hs:Small d p) (h0:dpcode d p=0) (i:Nat) (hi:i<p.length):
 Fa Tryz.prog 82 [.agg (dgc false d),.c (rats false p),.c (.int .i64 i)] (.tup [.agg (rdc (rd (impQ d p i))),.c .nilI]):=by
 have w1:=with_fa d p hs h0 i hi (rd 1) rd1_wf rd1_prob
 have w0:=with_fa d p hs h0 i hi rd0 rd0_wf4 rd0_prob
 have f1:=pr_fits (hs.set h0 (i:=i) rd1_wf) (dp_set h0 rd1_prob)
 have f0:=pr_fits (hs.set h0 (i:=i) rd0_wf4) (dp_set h0 rd0_prob)
 unfold impQ
 generalize prS d (p.set i (rd 1))=X1 at*
 generalize prS d (p.set i rd0)=X0 at*
 refine fa_of_body Tryz.func82 rfl rfl (by simp [Tryz.ntmps82]) fun C hC=> ?_
 simp only [initS,Nat.reduceAdd]
 refine xG ?_
 refine xB fun g3 hn_g3=>?_
 refine yG hn_g3 ?_
 refine yA hn_g3 fun g6 hn_g6=>?_
 refine yG (oj hn_g3 hn_g6) ?_
 refine aw_cut (fun g:Nat=>[(1,.c (rats false p)),(2,.c (.int .i64 i)),(3,.c (.optr g3 0)),(6,.c (.optr g6 0)),(8,.c (.optr g 0)),(9,.c .nilI)]) (fun g=>[(g,.cells 30 3 (ofL (rdc (rd X1)))),(g6,.cells 30 3 (ofL [.bool false,.nils,.nils])),(g3,.cells 55 3 (ofL (dgc false d)))]) (fun g=>g∉Heap.keys [(g6,.cells 0 0 (ofL [])),(g3,.cells 0 0 (ofL []))]) ?_ ?_
 ·refine aw_drL 9 7 18 ty_mixed (by kernel_rfl) ?_
  repeat (refine drg_2q rfl fun R r=>?_;simp only[go_sem,hn_g3,hn_g6];with_reducible show R (some _);with_reducible refine r _ _ ?_;clear r R)
  refine drg_call (rof_fa 1 ?_ ?_) rfl rfl rfl (zL (oj hn_g3 hn_g6)) ?_
  ·omega
  ·omega
  refine yS (oj hn_g3 hn_g6) ?_
  repeat (refine drg_2q rfl fun R r=>?_;simp only[go_sem,hn_g3,hn_g6];with_reducible show R (some _);with_reducible refine r _ _ ?_;clear r R)
  refine drg_call (w1) rfl rfl rfl (zL (oj hn_g3 hn_g6)) ?_
  refine yS (oj hn_g3 hn_g6) ?_
  repeat (refine drg_2q rfl fun R r=>?_;simp only[go_sem,hn_g3,hn_g6];with_reducible show R (some _);with_reducible refine r _ _ ?_;clear r R)
  refine drg_new rfl (NewX.alloc rfl rfl rfl (zE (oj hn_g3 hn_g6))) (by kernel_rfl) ?_
  have J1:=oj hn_g3 hn_g6
  refine yS J1 ?_
  refine drg_nil ⟨by simp,fun γ=> ?_,fun γ=> ?_⟩
  ·simp only [List.drop_succ_cons,List.drop_zero,List.nil_append,List.cons_append]
   refine yS J1 ?_
   try simp only [List.nil_append,List.cons_append]
   generalize γ 8=g
   refine aw_fresh fun hn=> ?_
   refine yH J1 ?_
   refine yW J1 ?_
   refine yS J1 ?_
   refine yH J1 ?_
   exact aw_stop ⟨g,(zB J1),zZ,hn⟩
  ·simp only [List.drop_succ_cons,List.drop_zero,List.take_succ_cons,List.take_zero,List.nil_append,List.cons_append]
   refine yS J1 ?_
   try simp only [List.nil_append,List.cons_append]
   generalize γ 8=g
   refine aw_fresh fun hn=> ?_
   refine yH J1 ?_
   refine yW J1 ?_
   refine yS J1 ?_
   refine yH J1 ?_
   exact aw_stop ⟨g,(zB J1),zZ,hn⟩
 rintro g8 hn_g8
 replace hn_g8:=Heap.ne_of hn_g8
 dsimp only [Heap.ne] at hn_g8
 have J2:=oj hn_g3 (oj hn_g6 hn_g8)
 refine yGNG J2 ?_
 refine aw_conv (t:=27) (v:=.agg (rdc rd0)) (by refine yS J2 ?_;exact zero_agg) rfl ?_
 refine ySG J2 ?_
 refine yC J2 (w0) ?_
 refine yG J2 ?_
 refine yA J2 fun g10 hn_g10=>?_
 have J3:=oj hn_g3 (oj hn_g6 (oj hn_g8 hn_g10))
 refine yGWSG J3 ?_
 refine yC J3 (rsub_fa (rd X1) (rd X0) (rd_wf (fits_mono f1 ?_)) (rd_wf (fits_mono f0 ?_))) ?_
 ·omega
 ·omega
 rw [rd_q,rd_q]
 refine yGWSGT hC J3 ?_
 exact .tup ⟨.agg lerl_rd,.c .nilI,trivial⟩
theorem bcode0 (d:DG) (p:List RD):bcode d p []=dpcode d p:=by
 unfold bcode
 split
 ·rfl
 ·rename_i h
  simp only [List.all_nil,if_true]
  omega
theorem birnbaum_fa (d:DG) (p:List RD) (hs:Small d p):
 Fa Tryz.prog 34 [.agg (dgc false d),.c (rats false p)] (.tup [.c (rats true (if dpcode d p=0 then impL d p p.length else [])),.c (errA (dpcode d p))]):=by
 have s1:=hs.l
 have s2:=hs.o
 have s3:=hs.n
 have hb:=bcheck_fa d p [] hs.w5 om om om (by simp)
 rw [bcode0] at hb
 refine fa_of_body Tryz.func34 rfl rfl (by simp [Tryz.ntmps34]) fun C hC=> ?_
 simp only [initS,Nat.reduceAdd]
 refine xG ?_
 refine xB fun g2 hn_g2=>?_
 refine yG hn_g2 ?_
 refine yC hn_g2 (hb) ?_
 refine yG hn_g2 ?_
 refine yF hn_g2 (fun h0=>?_) fun h0=>?_
 ·have h0':dpcode d p≠0:=by simpa using h0
  rw [if_neg h0']
  refine yGT hC hn_g2 ?_
  exact .tup ⟨.c .nils,.c ler_err,trivial⟩
 have h0':dpcode d p=0:=by simpa using h0
 rw [if_pos h0']
 refine yG hn_g2 ?_
 refine aw_lp (fun x:Option Nat×Nat=>[(1,.c (rats false p)),(2,.c (.optr g2 0)),(7,.c (gs x.1 3 x.2)),(18,.c (.int .i64 p.length)),(19,.c (.int .i64 x.2))]) (fun x=>(g2,.cells 55 3 (ofL (dgc false d)))::gh x.1 30 (x.2*3) (ratsF (impL d p x.2)))
  (fun x=>x.2≤p.length∧(x.1=none→x.2=0)) (fun x=>p.length-x.2) (none,0) (zB hn_g2) (List.Sublist.cons_cons _ (List.nil_sublist _)) ⟨Nat.zero_le _,fun _=>rfl⟩ ?_
 rintro ⟨og,k⟩ ⟨hk,hog⟩
 dsimp only at hk hog⊢
 refine aw_nd fun hnd=> ?_
 refine yG hn_g2 ?_
 refine yF hn_g2 (fun h1=>?_) fun h1=>?_
 ·have h1':k<p.length:=dT h1
  refine yG hn_g2 ?_
  refine yC hn_g2 (derive_fa d p hs h0' k h1') ?_
  refine yG hn_g2 ?_
  refine yA hn_g2 fun g9 hn_g9=>?_
  have J1:=oj hn_g2 hn_g9
  refine yGWSGNG J1 ?_
  refine aw_push (pre:=[(g9,.cells 30 3 (ofL (rdc (rd (impQ d p k))))),(g2,.cells 55 3 (ofL (dgc false d)))]) rfl rfl rfl rfl rfl rfl rfl (zE J1) (zE J1) (by rfl) om om (zE J1) om (by exact hog) (zE J1) (by rfl) (by rfl) (by first|rfl|simp only [Nat.mul_one,List.nil_append,List.cons_append]<;>rfl) (by unfold maxLen;omega) om (by exact rats_push (impL_len d p k) _) fun g1 hn_g1=> ?_
  replace hn_g1:=Heap.ne_of hn_g1
  first|dsimp only [Heap.ne,gh] at hn_g1|dsimp only [Heap.ne] at hn_g1|skip
  have J2:=oj hn_g2 (oj hn_g9 hn_g1)
  refine ySG J2 ?_
  rw [←impL_succ]
  exact aw_stop ⟨(some g1,k+1),by dsimp only;omega,(zB J2),List.Sublist.cons _ (List.Sublist.refl _),by dsimp only;omega,some_ne⟩
 ·have h1':k=p.length:=dF h1
  subst h1'
  refine yGT hC hn_g2 ?_
  rw [h0']
  exact .tup ⟨.c (ler_gsr (pre:=[(g2,_)]) hog (fun g e=>by
   subst e
   simp only [Heap.keys,gh,List.map_cons,List.map_nil,List.nodup_cons,List.mem_singleton] at hnd
   simp only [Heap.keys,List.map_cons,List.map_nil,List.mem_singleton]
   exact fun e=>hnd.1 e.symm) (impL_len d p p.length)),.c .nilI,trivial⟩
end Go.Proofs.YtfcnbgmclfkfcaaGreat
namespace Go.AI
section
variable {E : Env} {K : List It} {l : List Oper} {FP FP' : Heap} {σ σ' : Sl} {h : Heap} {o : Oper} {i m : Nat} {cs : List (Nat × Nat)}
theorem cw_buildSlice {t e size bytes len:Nat} {xs:List Operand} {cells:List CV} (ho:l[i]?=some o) (hop:o.op=.buildSlice t len (enumO 0 xs).toArray) (hw:wantA l σ o=some true) (hd:dstOk E.N o.dst=true) (ht:tElem E.P t=some (e,size,bytes))
 (hz:(tZero E.P e).isSome=true) (hl:xs.length=len) (hsm:len*size≤16777216) (hlm:len≤16777216) (hx:∀x∈xs,(ev σ x).flat=true∧(ev σ x).cells.all CV.solid=true∧(ev σ x).cells.length=size) (hc:(xs.map (ev σ)).flatMap AV.cells=cells) (hops:∀x∈xs,x∈o.op.operands) (hFP:Has0 FP' h)
 (k:∀g,g∉h.keys→CW E l K FP' cs (σ.setO o.dst (.c (.osl g size 0 len))) ((g,.cells e (len*size) (ofL cells))::h)) (hm:m=2∨m=1∧FP'=FP:=by first|exact .inl rfl|exact .inr ⟨rfl,rfl⟩):CW E l K FP ((i,m)::cs) σ h:=by
 refine .pin ho hm (R:=fun r h2=>∃g,g∉h.keys∧r=.c (.osl g size 0 len)∧h2=(g,.cells e (len*size) (ofL cells))::h) (fun σ' K hs=> ?_) ?_ ?_
 ·have he:∀x∈xs,ev σ' x=ev σ x:=fun x hxx=>ev_same (hops x hxx) hs
  exact aw_buildSlice hop ((want_same hs).trans hw) hd ht hz hl hsm hlm (fun x hxx=>by rw [he x hxx];exact hx x hxx) (by rw [List.map_congr_left he];exact hc) fun g hg=>aw_ops_nil (aw_stop ⟨_,⟨g,hg,rfl,rfl⟩,rfl⟩)
 ·rintro r h2 ⟨g,_,_,rfl⟩;exact fun p hp=>List.mem_cons_of_mem _ (hFP p hp)
 ·rintro r h2 ⟨g,hg,rfl,rfl⟩;exact k g hg
theorem cw_callqP {f:FuncId} {xs:List Operand} {ts:Array TypeId} {args:List AV} {r:AV} (ho:l[i]?=some o) (hf:Fa E.P f args r) (hop:o.op=.call {callee:=.value (.func f),args:=xs.toArray,argTypes:=ts}) (hw:wantA l σ o=some true) (hd:dstOk E.N o.dst=true)
 (le:LeA h (xs.map (ev σ)) args) (hFP:Has0 FP' h) (k:CW E l K FP' cs (σ.setO o.dst r) h) (hm:m=2∨m=1∧FP'=FP:=by first|exact .inl rfl|exact .inr ⟨rfl,rfl⟩):CW E l K FP ((i,m)::cs) σ h:=by
 refine .pin ho hm (R:=fun x h2=>x=r∧h2=h) (fun σ' K hs=> ?_) ?_ ?_
 ·have he:xs.map (ev σ')=xs.map (ev σ):=evs_same (fun x hx=>by rw [hop];simp [Op.operands,Call.operands,hx]) hs
  exact aw_callq hf hop ((want_same hs).trans hw) hd (by rw [he];exact le) (aw_ops_nil (aw_stop ⟨r,⟨rfl,rfl⟩,rfl⟩))
 ·rintro _ _ ⟨_,rfl⟩;exact hFP
 ·rintro _ _ ⟨rfl,rfl⟩;exact k
theorem cw_push {t e size bytes n d1 s gt:Nat} {z:List CV} {og:Option Nat} {f f':Nat→CV} {pre:Heap} {v:AV} (ho:l[i]?=some o) (hop2:o.op=.call {callee:=.builtin .append,args:= #[.tmp s,.tmp d1],argTypes:= #[t,t]})
 (hg2:o.guard=none) (hd2:dstOk E.N o.dst=true)
 (ht:tElem E.P t=some (e,size,bytes)) (hz:tZero E.P e=some z) (hzl:z.length=size) (hs0:0<size) (hsz:size≤16777216)
 (hevs:ev σ (.tmp s)=.c (gs og size n)) (hev1:ev σ (.tmp d1)=.c (.osl gt size 0 1)) (hog:og=none→n=0) (hok:okPart v=true) (hvl:v.cells.length=size) (hh:h=(gt,.cells e (1*size) (ofL v.cells))::(pre++gh og e (n*size) f))
 (h63:n+1≤maxLen) (hby:(n+1)*bytes≤140737488355328) (hf:∀j,j<(n+1)*size→appF f (n*size) (ofL v.cells) j=f' j) (hFP:Has0 FP' ((gt,.cells e (1*size) (ofL v.cells))::pre))
 (k:∀g',g'∉Heap.keys ((gt,.cells e (1*size) (ofL v.cells))::pre)→CW E l K FP' cs (σ.setO o.dst (.c (gs (some g') size (n+1)))) ((gt,.cells e (1*size) (ofL v.cells))::(pre++gh (some g') e ((n+1)*size) f')))
 (hm:m=2∨m=1∧FP'=FP:=by first|exact .inl rfl|exact .inr ⟨rfl,rfl⟩):CW E l K FP ((i,m)::cs) σ h:=by
 subst hh
 obtain⟨ok1,ok2⟩:=okPart_spec hok
 refine .pin ho hm (R:=fun r h2=>∃g',g'∉Heap.keys ((gt,.cells e (1*size) (ofL v.cells))::pre)∧r=.c (gs (some g') size (n+1))∧h2=(gt,.cells e (1*size) (ofL v.cells))::(pre++gh (some g') e ((n+1)*size) f')) (fun σ' K hs=> ?_) ?_ ?_
 ·have hw2:∀σ2,wantA l σ2 o=some true:=fun σ2=>by unfold wantA;rw [hg2]
  have hevs':ev σ' (.tmp s)=.c (gs og size n):=(ev_same (by rw [hop2];simp [Op.operands,Call.operands]) hs).trans hevs
  have hev1':ev σ' (.tmp d1)=.c (.osl gt size 0 1):=(ev_same (by rw [hop2];simp [Op.operands,Call.operands]) hs).trans hev1
  have hsrc:∀h0:Heap,Src ((gt,.cells e (1*size) (ofL v.cells))::h0) size (.osl gt size 0 1) 1 (ofL v.cells):=fun h0=>by
   refine .osl (f':=ofL v.cells) (m:=1*size) (ty:=e) (by simp [Heap.get]) om (fun j _=>by rw [Nat.zero_add])
  cases og with
  |none=>
   have hn0:n=0:=hog rfl
   subst hn0
   refine aw_appendN (cx:=.osl gt size 0 1) (k:=1) (f2:=ofL v.cells) hop2 (hw2 _) hd2 ht hz hzl hs0 hevs' hev1' (hsrc _) om om om fun g' hg'=> ?_
   refine aw_conv1 (f':=f') (fun j hj=> ?_) ?_
   ·have:=hf j om
    rw [←this];simp [appF]
   ·have hnew:g'∉Heap.keys ((gt,.cells e (1*size) (ofL v.cells))::pre):=fun hm=>hg' (by simpa [gh] using hm)
    refine aw_perm (h':=(gt,.cells e (1*size) (ofL v.cells))::(pre++[(g',.cells e (1*size) f')])) ?_ ?_
    ·have:(pre++gh none e (0*size) f)=pre:=by simp [gh]
     rw [this]
     refine(List.Perm.swap _ _ _).trans (List.Perm.cons _ ?_)
     exact(List.perm_append_singleton _ _).symm
    ·exact aw_ops_nil (aw_stop ⟨_,⟨g',hnew,rfl,by simp [gh]⟩,rfl⟩)
  |some g=>
   refine aw_nd fun hnd=> ?_
   have hnp:g∉pre.keys:=fun hm=>by
    simp only [Heap.keys,gh,List.map_cons,List.map_append,List.map_nil,List.nodup_cons] at hnd
    have:=(List.nodup_append.1 hnd.2).2.2 g hm g (by simp)
    exact this rfl
   have hgtg:gt≠g:=fun e=>by
    subst e
    simp [Heap.keys,gh] at hnd
   refine aw_append (cx:=.osl gt size 0 1) (k:=1) (f2:=ofL v.cells) (g:=g) (m:=n*size) (f:=f) (h2:=(gt,.cells e (1*size) (ofL v.cells))::pre) hop2 (hw2 _) hd2 ht hz hzl hs0 hevs' ?_ (Nat.le_refl _) hev1' (hsrc _) ?_ om h63 hby ?_ fun g' hg'=> ?_
   ·show Heap.get ((gt,_)::(pre++[(g,_)])) g=_
    simp only [Heap.get,if_neg hgtg]
    exact Heap.get_app hnp
   ·intro j hj
    have hjl:j<v.cells.length:=by omega
    rw [ofL_get v.cells j v.cells[j] (List.getElem?_eq_getElem hjl)]
    exact List.all_eq_true.1 ok2 _ (List.getElem_mem hjl)
   ·show Heap.del ((gt,_)::(pre++[(g,_)])) g=_
    rw [Heap.del_ne hgtg,Heap.del_app hnp]
   ·refine aw_conv1 (f':=f') hf ?_
    refine aw_perm (h':=(gt,.cells e (1*size) (ofL v.cells))::(pre++[(g',.cells e ((n+1)*size) f')])) ?_ ?_
    ·refine(List.Perm.swap _ _ _).trans (List.Perm.cons _ ?_)
     exact(List.perm_append_singleton _ _).symm
    ·exact aw_ops_nil (aw_stop ⟨_,⟨g',hg',rfl,rfl⟩,rfl⟩)
 ·rintro r h2 ⟨g',_,_,rfl⟩
  intro p hp
  rcases List.mem_cons.1 (hFP p hp) with e|hm
  ·exact e▸List.mem_cons_self ..
  ·exact List.mem_cons_of_mem _ (List.mem_append_left _ hm)
 ·rintro r h2 ⟨g',hg,rfl,rfl⟩;exact k g' hg
end
end Go.AI
namespace Go.AI
theorem updF_mid (xs bs:List CV) (i:Nat) (h:i+bs.length≤xs.length):updF (ofL xs) i bs=ofL (xs.take i++(bs++xs.drop (i+bs.length))):=by
 funext j
 rw [ofL_at]
 have hl:(xs.take i).length=i:=by rw [List.length_take];omega
 by_cases h1:j<i
 ·rw [updF_out _ _ _ _ (.inl h1),ofL_at,List.getElem?_append_left om,List.getElem?_take,if_pos h1]
 ·rw [List.getElem?_append_right om,hl]
  by_cases h2:j<i+bs.length
  ·obtain⟨q,rfl⟩:∃q,j=i+q:=⟨j-i,by omega⟩
   rw [updF_in _ _ _ _ om,ofL_at,show i+q-i=q from by omega,List.getElem?_append_left om]
  ·rw [updF_out _ _ _ _ (.inr om),ofL_at,List.getElem?_append_right om,List.getElem?_drop]
   congr 2
   omega
@[go_sem ↓] theorem updF_11_4 (a b c d e f g h i j k x:CV):updF (ofL [a,b,c,d,e,f,g,h,i,j,k]) 4 [x]=ofL [a,b,c,d,x,f,g,h,i,j,k]:=updF_mid [a,b,c,d,e,f,g,h,i,j,k] [x] 4 (by simp)
@[go_sem ↓] theorem updF_11_5 (a b c d e f g h i j k x y z:CV):updF (ofL [a,b,c,d,e,f,g,h,i,j,k]) 5 [x,y,z]=ofL [a,b,c,d,e,x,y,z,i,j,k]:=updF_mid [a,b,c,d,e,f,g,h,i,j,k] [x,y,z] 5 (by simp)
@[go_sem ↓] theorem updF_11_8 (a b c d e f g h i j k x y z:CV):updF (ofL [a,b,c,d,e,f,g,h,i,j,k]) 8 [x,y,z]=ofL [a,b,c,d,e,f,g,h,x,y,z]:=updF_mid [a,b,c,d,e,f,g,h,i,j,k] [x,y,z] 8 (by simp)
end Go.AI
namespace Go.Proofs.YtfcnbgmclfkfcaaGreat
open Go.AI Go.PN
attribute [local irreducible] aw Fa Fh DrK
abbrev SY (gS:Nat) (f:FM) (p:List RD) (o:List Int) (D:DG) (X:Rat):Heap:=
 [(gS,.cells 76 11 (ofL (fmc false f++[rats false p,is true o]++dgc true D++rdc (rd X))))]
theorem wopen_err (f:FM) (p:List RD) (hc:wcode f p≠0) (hn:f.nodes.length≤1099511627776) (ha:ArgsOk f) (ht0: -9223372036854775808≤f.top) (ht:f.top≤9223372036854775807) (hw:∀r∈p,r.wf 500000000) (hl:p.length≤1099511627776):
 Fh Tryz.prog 46 [] [.agg (fmc false f),.c (rats false p)] (fun x h=>x=.tup [.c (.raw (.pointer none)),.c (errA (wcode f p))]∧h=[]):=by
 unfold wcode at hc⊢
 refine fh_of_body Tryz.func46 rfl rfl (by simp [Tryz.ntmps46]) fun C hC=> ?_
 simp only [initS,Nat.reduceAdd]
 refine xG ?_
 refine xB fun g2 hn_g2=>?_
 refine yG hn_g2 ?_
 refine aw_callq (fcheck_fa f hn ha ht0 ht) rfl rfl rfl (zL hn_g2) ?_
 by_cases h1:fcode f=0
 ·have z1:=ieq_t h1
  rw [if_neg (fun h=>h h1)] at hc⊢
  have J1:=oj hn_g2 z1
  refine ySGNG J1 ?_
  refine aw_callq (csyntax_fa f hn ha h1) rfl rfl rfl (zL J1) ?_
  cases h2:cohTo f f.nodes.length
  ·refine ySGNG J1 ?_
   refine yP J1 ?_
   refine yG J1 ?_
   refine aw_rethw (h':=[]) rfl (List.nil_sublist _) (fun R hR=> ?_)
   simp only [go_sem,hn_g2,z1]
   refine hR _ rfl ?_
   clear hR R
   exact⟨rfl,rfl⟩
  ·rw [h2] at hc
   have h3:pcode p f.vars≠0:=hc
   have z3:=ieq_f h3
   have J2:=oj hn_g2 (oj z1 z3)
   refine ySGNGNG J2 ?_
   refine aw_callq (scheck_fa p f.vars hw hl) rfl rfl rfl (zL J2) ?_
   refine ySG J2 ?_
   refine yP J2 ?_
   refine yG J2 ?_
   refine aw_rethw (h':=[]) rfl (List.nil_sublist _) (fun R hR=> ?_)
   simp only [go_sem,hn_g2,z1,z3]
   refine hR _ rfl ?_
   clear hR R
   exact⟨rfl,rfl⟩
 ·have z1:=ieq_f h1
  rw [if_pos h1]
  have J3:=oj hn_g2 z1
  refine ySG J3 ?_
  refine yP J3 ?_
  refine yG J3 ?_
  refine aw_rethw (h':=[]) rfl (List.nil_sublist _) (fun R hR=> ?_)
  simp only [go_sem,hn_g2,z1]
  refine hR _ rfl ?_
  clear hR R
  exact⟨rfl,rfl⟩
theorem wopen_fh (f:FM) (p:List RD) (hk:WOk f p) (h6:f.vars≤6) (hn:f.nodes.length≤1099511627776) (ha:ArgsOk f) (hw:∀r∈p,r.wf 4):
 Fh Tryz.prog 46 [] [.agg (fmc false f),.c (rats false p)] (fun x h=>∃gS o D,Perm0 o∧o.length=p.length∧DOut o (fun s=>valF f s f.top) D∧x=.tup [.c (.optr gS 0),.c .nilI]∧h=SY gS f p o D (wV f p)):=by
 have ok:=fr_ok hk.c
 have v0:=ok.v0
 have n128:=ok.n128
 have t0:=ok.t0
 have t1:=ok.t1
 have z1:=ieq_t hk.c
 have z2:=ieq_t hk.pc
 have z3:=hk.coh
 have hpl:(p.length:Int)=f.vars:=(pc_ok hk.pc).1
 refine fh_of_body Tryz.func46 rfl rfl (by simp [Tryz.ntmps46]) fun C hC=> ?_
 simp only [initS,Nat.reduceAdd]
 refine yG (oj z1 (oj z2 z3)) ?_
 refine yB (oj z1 (oj z2 z3)) fun g2 hn_g2=>?_
 have J1:=oj z1 (oj z2 (oj z3 hn_g2))
 refine yG J1 ?_
 refine aw_callq (fcheck_fa f hn ha om om) rfl rfl rfl (zL J1) ?_
 refine ySGNG J1 ?_
 refine aw_callq (csyntax_fa f hn ha hk.c) rfl rfl rfl (zL J1) ?_
 refine ySGNGNG J1 ?_
 refine aw_callq (scheck_fa p f.vars (fun r hr=>wf_mono (hw r hr) om) om) rfl rfl rfl (zL J1) ?_
 refine ySGNG J1 ?_
 refine yB J1 fun gS hn_gS=>?_
 have J2:=oj z1 (oj z2 (oj z3 (oj hn_g2 hn_gS)))
 refine yG J2 ?_
 refine aw_callh (hc:=[]) (oDepth_fh f hn ha hk.c) rfl rfl rfl (.refl _) (zL J2) ?_
 rintro _ _ ⟨rfl,o,rfl,hpo,hol⟩ _
 have hoc:ocode o o.length=0:=perm_code hpo om
 refine ySGWSG J2 ?_
 refine yN J2 ?_
 refine yG J2 ?_
 refine aw_cw ([(gS,.cells 76 11 (ofL [.int .i64 f.vars,fns false f.nodes,.int .i64 f.top,rats false p,is true o,.nils,.nils,.int .i64 0,.bool false,.nils,.nils])),(g2,.cells 24 3 (ofL (fmc false f)))]) [(0,0),(1,0),(2,0),(3,0),(4,0),(5,0),(6,1),(7,0),(8,0),(10,0),(11,0),(9,3),(12,2),(13,0)] ty_mixed (by kernel_rfl) eI ?_
 refine yG J2 ?_
 refine cw_callh (hc:=[]) rfl (build_fh f hn ha hk.c o hoc hol om) rfl rfl rfl (.refl _) (zL J2) (by rintro _ _ ⟨rfl,_⟩;exact eI) ?_ (hm:=.inr ⟨rfl,rfl⟩)
 rintro _ _ ⟨rfl,D,hD,rfl⟩ _
 refine ySG J2 ?_
 iterate 1 (refine wc3 rfl rfl fun R r=> ?_;simp only [go_sem,z1,z2,z3,hn_g2,hn_gS];with_reducible show R (some _);with_reducible refine r _ _ ?_;clear r R)
 have J3:=oj z1 (oj z2 (oj z3 (oj hn_g2 hn_gS)))
 refine yS J3 ?_
 refine cw_store (FP':=[]) rfl rfl rfl rfl rfl (zE J3) (zE J3) (zE J3) (zE J3) (fun _ e=>by cases e) rfl rfl (by show 5+3≤11;omega) rfl has0_nil ?_
 refine ySG J3 ?_
 refine yN J3 ?_
 have hoD:=hD.order
 have hDl:D.order.length=p.length:=by rw [hoD];omega
 have hsD:Small D p:=⟨hw,by omega,by omega,by have:=(dg_ok hD.code).n4096;omega,fun _=>by omega⟩
 have hdp:=dp_of hD.code hDl hk.prob
 have hsp:=sprobability_fa D p hsD
 rw [hdp,if_pos rfl,show sumQ p (tabL D) (2^p.length)=wV f p from prS_wV hD hDl,show errA 0=CV.nilI from rfl] at hsp
 refine yG J3 ?_
 refine yC J3 (hsp) ?_
 refine yGWSG J3 ?_
 refine aw_rethw (h':=SY gS f p o D (wV f p)) rfl (List.Sublist.cons_cons _ (List.nil_sublist _)) (fun R hR=> ?_)
 simp only [go_sem,z1,z2,z3,hn_g2,hn_gS]
 refine hR _ rfl ?_
 clear hR R
 exact⟨gS,o,D,hpo,by omega,hD,rfl,rfl⟩
theorem each_zero (gS:Nat) (f:FM) (p:List RD) (o:List Int) (D:DG) {X:Rat} (hX:X=0) (H:Heap) (fc:FuncId) (gs':List Nat):
 Fh Tryz.prog 54 (SY gS f p o D X++H) [.c (.optr gS 0),.c (fnC fc gs')] (fun r h=>r=.tup [.c .nils,.c (errA 8)]∧h=SY gS f p o D X++H):=by
 subst hX
 have hs:(signQ (rd 0).q==0)=true:=by rw [rd_q];rfl
 refine fh_of_body Tryz.func54 rfl rfl (by simp [Tryz.ntmps54]) fun C hC=> ?_
 simp only [initS,Nat.reduceAdd]
 refine yG hs ?_
 refine yC hs (rsign_fa (rd 0) (rd_wf (fits_mono fits_zero ?_))) ?_
 ·omega
 refine yGPGU hs ?_
 exact⟨rfl,rfl⟩
theorem each_fh {α:Type} (H0 H:α→Heap) (R0:Heap) (F:α→Nat→Prop) (val:Nat→Rat) (fc:FuncId) (gs':List Nat) (gS:Nat) (f:FM) (p:List RD) (o:List Int) (D:DG) {X:Rat} (hX:X≠0) (hXf:fits X 4000) (hpl:p.length≤24) (hv:∀i,i<p.length→fits (val i) 20000) (hpm:∀x,(SY gS f p o D X++H0 x).Perm (H x++R0))
 (hcb:∀(i:Nat) (x:α),i<p.length→F x i→Fh Tryz.prog fc (H x) ([.c (.int .i64 i)]++gs'.map fun g=>.c (.optr g 0)) (fun r h=>∃y,F y (i+1)∧r=.tup [.agg (rdc (rd (val i))),.c .nilI]∧h=H y)) (x0:α) (h0:F x0 0):
 Fh Tryz.prog 54 (SY gS f p o D X++H0 x0) [.c (.optr gS 0),.c (fnC fc gs')] (fun r h=>∃y og,F y p.length∧(og=none→p.length=0)∧r=.tup [.c (gs og 3 p.length),.c .nilI]∧h=(SY gS f p o D X++H0 y)++gh og 30 (p.length*3) (ratsF (eachL val X p.length))):=by
 have hs:(signQ (rd X).q==0)=false:=by
  rw [rd_q]
  unfold signQ
  rw [if_neg hX]
  split<;>rfl
 have hXw:(rd X).wf 1073741824:=rd_wf (fits_mono hXf om)
 refine fh_of_body Tryz.func54 rfl rfl (by simp [Tryz.ntmps54]) fun C hC=> ?_
 simp only [initS,Nat.reduceAdd]
 refine yG hs ?_
 refine yC hs (rsign_fa (rd X) hXw) ?_
 refine yGNG hs ?_
 refine aw_lp (fun x:α×Option Nat×Nat=>[(0,.c (.optr gS 0)),(1,.c (fnC fc gs')),(6,.c (gs x.2.1 3 x.2.2)),(21,.c (.int .i64 p.length)),(22,.c (.int .i64 x.2.2))]) (fun x=>(SY gS f p o D X++H0 x.1)++gh x.2.1 30 (x.2.2*3) (ratsF (eachL val X x.2.2)))
  (fun x=>x.2.2≤p.length∧F x.1 x.2.2∧(x.2.1=none→x.2.2=0)) (fun x=>p.length-x.2.2) (x0,none,0) (zB hs) (by show List.Sublist ((SY gS f p o D X++H0 x0)++[]) _;rw [List.append_nil];exact List.Sublist.refl _) ⟨Nat.zero_le _,h0,fun _=>rfl⟩ ?_
 rintro ⟨x,og,k⟩ ⟨hk,hF,hog⟩
 dsimp only at hk hF hog⊢
 refine yG hs ?_
 refine yF hs (fun h1=>?_) fun h1=>?_
 ·have h1':k<p.length:=dT h1
  refine yG hs ?_
  refine aw_callhv (gs:=gs') (hr:=R0++gh og 30 (k*3) (ratsF (eachL val X k))) (hcb k x h1' hF) rfl rfl rfl (zE hs) (by rw [←List.append_assoc];exact(hpm x).append_right _) (zL hs) ?_
  rintro _ _ ⟨y,hFy,rfl,rfl⟩ _
  refine aw_perm (h':=(SY gS f p o D X++H0 y)++gh og 30 (k*3) (ratsF (eachL val X k))) (by rw [←List.append_assoc];exact(hpm y).symm.append_right _) ?_
  refine ySG hs ?_
  refine yA hs fun g8 hn_g8=>?_
  have J1:=oj hs hn_g8
  refine yGWSGNG J1 ?_
  refine aw_cw ([(g8,.cells 30 3 (ofL (rdc (rd (val k))))),(gS,.cells 76 11 (ofL (fmc false f++[rats false p,is true o]++dgc true D++rdc (rd X))))]) [(0,0),(1,0),(2,0),(3,0),(4,0),(5,0),(6,0),(7,0),(8,3),(9,2),(10,0)] ty_mixed (by kernel_rfl) eI ?_
  refine yG J1 ?_
  refine cw_callq rfl (rdiv_fa (rd (val k)) (rd X) (rd_wf (fits_mono (hv k h1') om)) hXw (by rw [rd_q];exact hX)) rfl rfl rfl (fun _ _=>(zL J1)) ?_
  rw [rd_q,rd_q]
  refine ySG J1 ?_
  iterate 1 (refine wc3 rfl rfl fun R r=> ?_;simp only [go_sem,hs,hn_g8];with_reducible show R (some _);with_reducible refine r _ _ ?_;clear r R)
  have J2:=oj hs hn_g8
  refine yS J2 ?_
  refine cw_store (FP':=[]) rfl rfl rfl rfl rfl (zE J2) (zE J2) (zE J2) (zE J2) (fun _ e=>by cases e) rfl rfl (Nat.le_refl 3) rfl has0_nil ?_
  refine ySGNG J2 ?_
  refine aw_push (pre:=((g8,.cells 30 3 (ofL (rdc (rd (val k/X)))))::(SY gS f p o D X++H0 y))) rfl rfl rfl rfl rfl rfl rfl (zE J2) (zE J2) (by rfl) om om (zE J2) om (by exact hog) (zE J2) (by rfl) (by rfl) (by first|rfl|simp only [Nat.mul_one,List.nil_append,List.cons_append]<;>rfl) (by unfold maxLen;omega) om (by exact rats_push (eachL_len val X k) _) fun gp hn_gp=> ?_
  replace hn_gp:=Heap.ne_of hn_gp
  first|dsimp only [Heap.ne,gh] at hn_gp|dsimp only [Heap.ne] at hn_gp|skip
  have J3:=oj hs (oj hn_g8 hn_gp)
  refine ySG J3 ?_
  rw [←eachL_succ]
  exact aw_stop ⟨(y,some gp,k+1),by dsimp only;omega,(zB J3),List.Sublist.cons _ (List.Sublist.refl _),by dsimp only;omega,hFy,some_ne⟩
 ·have h1':k=p.length:=dF h1
  subst h1'
  refine yG hs ?_
  refine yU hs ?_
  exact⟨x,og,hF,hog,rfl,rfl⟩
end Go.Proofs.YtfcnbgmclfkfcaaGreat
namespace Go.Proofs.YtfcnbgmclfkfcaaGreat
open Go.AI Go.PN
attribute [local irreducible] aw Fa Fh DrK
theorem bcode_ok {d:DG} {p:List RD} {es:List Int} (h:bcode d p es=0):dpcode d p=0∧∀i∈es,0≤i∧i<d.order.length:=by
 unfold bcode at h
 split at h
 ·rename_i h1;exact absurd h h1
 ·rename_i h1
  split at h
  ·rename_i h2
   refine⟨by omega,fun i hi=> ?_⟩
   have:=List.all_eq_true.1 h2 i hi
   simpa using this
  ·cases h
end Go.Proofs.YtfcnbgmclfkfcaaGreat
namespace Go.Proofs.YtfcnbgmclfkfcaaGreat
open Go.AI Go.PN
attribute [local irreducible] aw Fa Fh DrK
def chcode (d:DG) (p:List RD) (i:Int) (q:RD):Int:=if bcode d p [i]≠0 then bcode d p [i] else if q.prob then 0 else 3
theorem change_fa (d:DG) (p:List RD) (hs:Small d p) (i:Int) (q:RD) (hq:q.wf 4):
 Fa Tryz.prog 47 [.agg (dgc false d),.c (rats false p),.c (.int .i64 i),.agg (rdc q)] (.tup [.agg (rdc (if chcode d p i q=0 then rd (prS d (p.set i.toNat q)) else rd0)),.c (errA (chcode d p i q))]):=by
 have s1:=hs.l
 have s2:=hs.o
 have s3:=hs.n
 have hb:=bcheck_fa d p [i] hs.w5 om om om (by simp)
 refine fa_of_body Tryz.func47 rfl rfl (by simp [Tryz.ntmps47]) fun C hC=> ?_
 simp only [initS,Nat.reduceAdd]
 refine xG ?_
 refine xB fun g4 hn_g4=>?_
 refine yG hn_g4 ?_
 refine yB hn_g4 fun g7 hn_g7=>?_
 refine yG (oj hn_g4 hn_g7) ?_
 refine yA (oj hn_g4 hn_g7) fun g8 hn_g8=>?_
 have J1:=oj hn_g4 (oj hn_g7 hn_g8)
 refine yG J1 ?_
 refine aw_buildSlice (xs:=[.tmp 13]) (cells:=[.int .i64 i]) rfl rfl rfl (zE J1) (by refine yS J1 ?_;rfl) rfl om om (by intro x hx;simp only [List.mem_singleton] at hx;subst hx;exact⟨rfl,rfl,rfl⟩) rfl fun g14 hn_g14=> ?_
 replace hn_g14:=Heap.ne_of hn_g14
 dsimp only [Heap.ne] at hn_g14
 have J2:=oj hn_g4 (oj hn_g7 (oj hn_g8 hn_g14))
 refine yS J2 ?_
 refine aw_frzT (t:=14) (isF [i]) (zE J2) (zE J2) om (hC g14) (fun q hq=>by match q,hq with|0,_=>rfl) rfl (zE J2) ?_
 refine ySG J2 ?_
 refine yC J2 (hb) ?_
 refine yG J2 ?_
 refine yF J2 (fun h1=>?_) fun h1=>?_
 ·have h1':bcode d p [i]≠0:=by simpa using h1
  have e:chcode d p i q=bcode d p [i]:=by unfold chcode;rw [if_pos h1']
  rw [e,if_neg h1']
  refine yGWSGT hC J2 ?_
  exact .tup ⟨.agg ⟨.bool _,.nils,.nils,trivial⟩,.c ler_err,trivial⟩
 have h1':bcode d p [i]=0:=by simpa using h1
 have e:chcode d p i q=if q.prob then 0 else 3:=by unfold chcode;rw [if_neg (by simp [h1'])]
 rw [e]
 obtain⟨h0,hr⟩:=bcode_ok h1'
 obtain⟨ok,hpl,_⟩:=dp_ok h0
 have hi:=hr i (by simp)
 refine yG J2 ?_
 refine yC J2 (rprob_fa q (wf_mono hq ?_)) ?_
 ·omega
 refine yG J2 ?_
 refine yF J2 (fun h2=>?_) fun h2=>?_
 ·have h2':q.prob=false:=by simpa using h2
  rw [h2']
  refine yGWSGT hC J2 ?_
  exact .tup ⟨.agg ⟨.bool _,.nils,.nils,trivial⟩,.c (ler_errN rfl (by decide)),trivial⟩
 have h2':q.prob=true:=by simpa using h2
 rw [h2',if_pos rfl,if_pos rfl]
 obtain⟨a,rfl⟩:∃a:Nat,i=a:=⟨i.toNat,by omega⟩
 rw [Int.toNat_natCast]
 refine yG J2 ?_
 refine yC J2 (with_fa d p hs h0 a ?_ q hq h2') ?_
 ·omega
 refine yGWSGT hC J2 ?_
 exact .tup ⟨.agg lerl_rd,.c .nilI,trivial⟩
end Go.Proofs.YtfcnbgmclfkfcaaGreat
namespace Go.Proofs.YtfcnbgmclfkfcaaGreat
open Go.AI Go.PN
attribute [local irreducible] aw Fa Fh DrK
structure WSm (f:FM) (p:List RD):Prop where
 hn:f.nodes.length≤1099511627776
 ha:ArgsOk f
 t0: -9223372036854775808≤f.top
 t1:f.top≤9223372036854775807
 w:∀r∈p,r.wf 4
 l:p.length≤100
 h6:fcode f=0→(p.length:Int)=f.vars→f.vars≤6
theorem WSm.w5 {f:FM} {p:List RD} (h:WSm f p):∀r∈p,r.wf 500000000:=fun r hr=>wf_mono (h.w r hr) om
theorem WSm.v6 {f:FM} {p:List RD} (h:WSm f p) (hk:WOk f p):f.vars≤6:=h.h6 hk.c hk.len
noncomputable def mcode (f:FM) (p:List RD):Int:=if wcode f p≠0 then wcode f p else if wV f p=0 then 8 else 0
theorem m_bad {f:FM} {p:List RD} (h:wcode f p≠0):mcode f p=wcode f p:=by unfold mcode;rw [if_pos h]
theorem m_zero {f:FM} {p:List RD} (h:wcode f p=0) (hz:wV f p=0):mcode f p=8:=by unfold mcode;rw [if_neg (fun k=>k h),if_pos hz]
theorem m_ok {f:FM} {p:List RD} (h:wcode f p=0) (hz:wV f p≠0):mcode f p=0:=by unfold mcode;rw [if_neg (fun k=>k h),if_neg hz]
noncomputable def rcode (f:FM) (p:List RD) (i:Int):Int:=if wcode f p≠0 then wcode f p else if 0≤i∧i<p.length then(if wV f (p.set i.toNat rd0)=0 then 8 else 0) else 10
theorem r_bad {f:FM} {p:List RD} {i:Int} (h:wcode f p≠0):rcode f p i=wcode f p:=by unfold rcode;rw [if_pos h]
theorem r_idx {f:FM} {p:List RD} {i:Int} (h:wcode f p=0) (hi:¬(0≤i∧i<p.length)):rcode f p i=10:=by unfold rcode;rw [if_neg (fun k=>k h),if_neg hi]
theorem r_zero {f:FM} {p:List RD} {k:Nat} (h:wcode f p=0) (hi:k<p.length) (hz:wV f (p.set k rd0)=0):rcode f p (k:Int)=8:=by
 unfold rcode;rw [if_neg (fun k=>k h),if_pos ⟨by omega,by omega⟩,Int.toNat_natCast,if_pos hz]
theorem r_ok {f:FM} {p:List RD} {k:Nat} (h:wcode f p=0) (hi:k<p.length) (hz:wV f (p.set k rd0)≠0):rcode f p (k:Int)=0:=by
 unfold rcode;rw [if_neg (fun k=>k h),if_pos ⟨by omega,by omega⟩,Int.toNat_natCast,if_neg hz]
theorem ch_ok {D:DG} {p:List RD} (h:dpcode D p=0) {i:Int} (h0:0≤i) (h1:i<D.order.length) {q:RD} (hq:q.prob=true):chcode D p i q=0:=by
 have hb:bcode D p [i]=0:=by
  unfold bcode
  rw [if_neg (fun k=>k h),if_pos (by simp [h0,h1])]
 unfold chcode
 rw [if_neg (fun k=>k hb),if_pos hq]
theorem ch_out {D:DG} {p:List RD} (h:dpcode D p=0) {i:Int} (h0:¬(0≤i∧i<D.order.length)) {q:RD}:chcode D p i q=10:=by
 have hb:bcode D p [i]=10:=by
  unfold bcode
  rw [if_neg (fun k=>k h),if_neg (by
   intro k
   simp only [List.all_cons,List.all_nil,Bool.and_true,Bool.and_eq_true,decide_eq_true_eq] at k
   exact h0 k)]
 unfold chcode
 rw [hb,if_pos (by decide)]
theorem sysD {f:FM} {p:List RD} (hk:WOk f p) (h6:f.vars≤6) (hw:∀r∈p,r.wf 4) {o:List Int} {D:DG} (hD:DOut o (fun s=>valF f s f.top) D) (hol:o.length=p.length):D.order.length=p.length∧Small D p∧dpcode D p=0:=by
 have hpl:=hk.len
 have hDl:D.order.length=p.length:=by rw [hD.order];exact hol
 exact⟨hDl,⟨hw,by omega,by omega,by have:=(dg_ok hD.code).n4096;omega,fun _=>by omega⟩,dp_of hD.code hDl hk.prob⟩
theorem crit1_fh (g1 g2:Nat) (b p:List RD) (i:Nat) (hi:i<p.length) (hib:i<b.length) (hbl:b.length≤1000) (hpl:p.length≤1000) {B:Rat} (hB:(b.getD i rd0)=rd B) (fB:fits B 20000) (hw:(p.getD i rd0).wf 4):
 Fh Tryz.prog 55 [(g1,.cells 25 1 (ofL [rats true b])),(g2,.cells 25 1 (ofL [rats false p]))] ([.c (.int .i64 i)]++[g1,g2].map fun g=>.c (.optr g 0)) (fun r h=>r=.tup [.agg (rdc (rd (B*(p.getD i rd0).q))),.c .nilI]∧h=[(g1,.cells 25 1 (ofL [rats true b])),(g2,.cells 25 1 (ofL [rats false p]))]):=by
 have hm:=rmul_fa (rd B) (p.getD i rd0) (rd_wf (fits_mono fB om)) (wf_mono hw om)
 rw [rd_q,←hB] at hm
 simp only [List.cons_append,List.nil_append,List.map_cons,List.map_nil]
 refine fh_of_body Tryz.func55 rfl rfl (by simp [Tryz.ntmps55]) fun C hC=> ?_
 simp only [initS,Nat.reduceAdd]
 refine aw_nd fun hnd=> ?_
 simp only [Heap.keys,List.map_cons,List.map_nil] at hnd
 replace hnd:=ndP_of hnd
 dsimp only [ndP,neA] at hnd
 refine yG hnd ?_
 refine yA hnd fun g4 hn_g4=>?_
 have J1:=oj hnd hn_g4
 refine yG J1 ?_
 refine aw_cw ([(g1,.cells 25 1 (ofL [rats true b])),(g2,.cells 25 1 (ofL [rats false p]))]) [(0,0),(1,0),(2,0),(3,0),(4,0),(5,0),(6,0),(7,0),(8,0),(9,2),(10,0)] ty_mixed (by kernel_rfl) eI ?_
 refine yG J1 ?_
 refine cw_callq rfl hm rfl rfl rfl (fun _ _=>(zL J1)) ?_
 refine ySG J1 ?_
 refine cw_store (FP':=[]) rfl rfl rfl rfl rfl (zE J1) (zE J1) (zE J1) (zE J1) (fun _ e=>by cases e) rfl rfl (Nat.le_refl 3) rfl has0_nil ?_
 refine ySG J1 ?_
 refine aw_rethw (h':=[(g1,.cells 25 1 (ofL [rats true b])),(g2,.cells 25 1 (ofL [rats false p]))]) rfl (List.Sublist.cons _ (List.Sublist.refl _)) (fun R hR=> ?_)
 simp only [go_sem,hnd,hn_g4]
 refine hR _ rfl ?_
 exact⟨rfl,rfl⟩
theorem crit_fa {f:FM} {p:List RD} (h:WSm f p):Fa Tryz.prog 19 [.agg (fmc false f),.c (rats false p)] (.tup [.c (rats true (if mcode f p=0 then critL f p else [])),.c (errA (mcode f p))]):=by
 refine fa_of_body Tryz.func19 rfl rfl (by simp [Tryz.ntmps19]) fun C hC=> ?_
 simp only [initS,Nat.reduceAdd]
 refine xG ?_
 refine xB fun g2 hn_g2=>?_
 refine yG hn_g2 ?_
 refine yB hn_g2 fun g3 hn_g3=>?_
 refine yG (oj hn_g2 hn_g3) ?_
 by_cases hc:wcode f p=0
 ·have hk:=wok_of hc
  have h6:=h.v6 hk
  have hpl:=hk.len
  refine aw_callh (hc:=[]) (hr:=[(g3,.cells 25 1 (ofL [rats false p])),(g2,.cells 24 3 (ofL (fmc false f)))]) (wopen_fh f p hk h6 h.hn h.ha h.w) rfl rfl rfl (.refl _) (zL (oj hn_g2 hn_g3)) ?_
  rintro _ _ ⟨gS,o,D,hpo,hol,hD,rfl,rfl⟩ hk2
  obtain⟨hDl,hsD,hdp⟩:=sysD hk h6 h.w hD hol
  have hb:=birnbaum_fa D p hsD
  rw [hdp,if_pos rfl,show errA 0=CV.nilI from rfl] at hb
  simp only [SY,List.cons_append,List.nil_append]
  refine aw_nd fun hnd=> ?_
  simp only [Heap.keys,List.map_cons,List.map_nil] at hnd
  replace hnd:=ndP_of hnd
  dsimp only [ndP,neA] at hnd
  refine ySGNG hnd ?_
  refine aw_cw ([(gS,.cells 76 11 (ofL (fmc false f++[rats false p,is true o]++dgc true D++rdc (rd (wV f p))))),(g3,.cells 25 1 (ofL [rats false p]))]) [(0,0),(1,0),(2,0),(3,0),(4,0),(5,0),(6,0),(7,0),(8,3),(9,1),(10,2),(11,0)] ty_mixed (by kernel_rfl) eI ?_
  refine yG hnd ?_
  refine cw_callq rfl hb rfl rfl rfl (fun _ _=>(zL hnd)) ?_
  refine ySG hnd ?_
  iterate 1 (refine wc3 rfl rfl fun R r=> ?_;simp only [go_sem,hnd];with_reducible show R (some _);with_reducible refine r _ _ ?_;clear r R)
  refine yS hnd ?_
  refine cw_alloc rfl rfl rfl rfl (zE hnd) eI (fun g8 hn_g8=> ?_) (hm:=.inr ⟨rfl,rfl⟩)
  replace hn_g8:=Heap.ne_of hn_g8
  dsimp only [Heap.ne] at hn_g8
  have J1:=oj hnd hn_g8
  refine yS J1 ?_
  refine cw_store (FP':=[]) rfl rfl rfl rfl rfl (zE J1) (zE J1) (zE J1) (zE J1) (fun _ e=>by cases e) rfl rfl (Nat.le_refl 1) rfl has0_nil ?_
  refine ySGNG J1 ?_
  refine aw_makeFunc (gs:=[g8,g3]) rfl rfl rfl (zE J1) ?_
  refine ySG J1 ?_
  by_cases hz:wV f p=0
  ·rw [m_zero hc hz,if_neg (by decide)]
   refine aw_callh (hr:=[]) (each_zero gS f p o D hz [(g8,.cells 25 1 (ofL [rats true (impL D p p.length)])),(g3,.cells 25 1 (ofL [rats false p])),(g2,.cells 24 3 (ofL (fmc false f)))] 55 [g8,g3]) rfl rfl rfl (by rw [List.append_nil];exact .swap _ _ _) (zL J1) ?_
   rintro _ _ ⟨rfl,rfl⟩ _
   refine ySGT hC J1 ?_
   exact .tup ⟨.c .nils,.c (ler_err),trivial⟩
  ·rw [m_ok hc hz,if_pos rfl]
   refine aw_callh (hr:=[(g2,.cells 24 3 (ofL (fmc false f)))]) (each_fh (α:=Unit) (fun _=>[(g8,.cells 25 1 (ofL [rats true (impL D p p.length)])),(g3,.cells 25 1 (ofL [rats false p]))]) (fun _=>[(g8,.cells 25 1 (ofL [rats true (impL D p p.length)])),(g3,.cells 25 1 (ofL [rats false p]))]) (SY gS f p o D (wV f p)) (fun _ _=>True) (critV f p) 55 [g8,g3] gS f p o D hz (wV_fits h.w om) om (fun i hi=>fits_mono (critV_fits h.w hk.prob om hi) om) (fun _=>List.perm_append_comm) (fun i x hi _=>(crit1_fh g8 g3 (impL D p p.length) p i hi (by rw [impL_len];exact hi) (by rw [impL_len];omega) om (B:=impQ D p i) (by
    unfold impL
    rw [List.getD_eq_getElem?_getD]
    simp [hi]) (fits_mono (imp_fits hsD hdp i) om) (getD_q_fits h.w hk.prob hi)).mono (fun r h' hq=>⟨(),trivial,by rw [hq.1,impQ_wV hD hDl i];rfl,hq.2⟩)) () trivial) rfl rfl rfl (.swap _ _ _) (zL J1) ?_
   rintro _ _ ⟨_,og,_,hog,rfl,rfl⟩ _
   refine aw_perm (h':=gh og 30 (p.length*3) (ratsF (eachL (critV f p) (wV f p) p.length))++((SY gS f p o D (wV f p)++[(g8,.cells 25 1 (ofL [rats true (impL D p p.length)])),(g3,.cells 25 1 (ofL [rats false p]))])++[(g2,.cells 24 3 (ofL (fmc false f)))])) (by rw [←List.append_assoc];exact List.perm_append_comm.append_right _) ?_
   refine ySG J1 ?_
   refine aw_frzGT (t:=4) (f':=ratsF (eachL (critV f p) (wV f p) p.length)) hog (eachL_len (critV f p) (wV f p) p.length).symm (zE J1) (fun g _=>hC g) (fun _ _=>rfl) rfl ?_
   refine ySGT hC J1 ?_
   exact .tup ⟨.c ler_rats,.c .nilI,trivial⟩
 ·rw [m_bad hc,if_neg hc]
  refine aw_callh (hc:=[]) (hr:=[(g3,.cells 25 1 (ofL [rats false p])),(g2,.cells 24 3 (ofL (fmc false f)))]) (wopen_err f p hc h.hn h.ha h.t0 h.t1 h.w5 (by have:=h.l;omega)) rfl rfl rfl (.refl _) eL ?_
  rintro _ _ ⟨rfl,rfl⟩ _
  have hcf:=ieq_f hc
  have J2:=oj hn_g2 (oj hn_g3 hcf)
  refine ySG J2 ?_
  refine yP J2 ?_
  refine yGT hC J2 ?_
  exact .tup ⟨.c .nils,.c ler_err,trivial⟩
end Go.Proofs.YtfcnbgmclfkfcaaGreat
namespace Go.Proofs.YtfcnbgmclfkfcaaGreat
open Go.AI Go.PN
attribute [local irreducible] aw Fa Fh DrK
theorem ach1_fh (g6 g3 gS:Nat) (f:FM) {p:List RD} {o:List Int} {D:DG} {X:Rat} (hsD:Small D p) (hdp:dpcode D p=0) (hDl:D.order.length=p.length) (i:Nat) (hi:i<p.length) {B:Rat} (hB:prS D (p.set i (rd 1))=B):
 Fh Tryz.prog 65 (SY gS f p o D X++[(g6,.cells 71 1 (ofL [.optr gS 0])),(g3,.cells 25 1 (ofL [rats false p]))]) ([.c (.int .i64 i)]++[g6,g3].map fun g=>.c (.optr g 0)) (fun r h=>r=.tup [.agg (rdc (rd B)),.c .nilI]∧h=SY gS f p o D X++[(g6,.cells 71 1 (ofL [.optr gS 0])),(g3,.cells 25 1 (ofL [rats false p]))]):=by
 have hch:=change_fa D p hsD i (rd 1) rd1_wf
 rw [ch_ok hdp om om rd1_prob,if_pos rfl,Int.toNat_natCast,hB,show errA 0=CV.nilI from rfl] at hch
 simp only [SY,List.cons_append,List.nil_append,List.map_cons,List.map_nil]
 refine fh_of_body Tryz.func65 rfl rfl (by simp [Tryz.ntmps65]) fun C hC=> ?_
 simp only [initS,Nat.reduceAdd]
 refine aw_nd fun hnd=> ?_
 simp only [Heap.keys,List.map_cons,List.map_nil] at hnd
 replace hnd:=ndP_of hnd
 dsimp only [ndP,neA] at hnd
 refine yG hnd ?_
 refine yA hnd fun g4 hn_g4=>?_
 have J1:=oj hnd hn_g4
 refine yG J1 ?_
 refine aw_cw ([(gS,.cells 76 11 (ofL (fmc false f++[rats false p,is true o]++dgc true D++rdc (rd X)))),(g6,.cells 71 1 (ofL [.optr gS 0])),(g3,.cells 25 1 (ofL [rats false p]))]) [(0,0),(1,0),(2,0),(3,0),(4,0),(5,0),(6,0),(7,0),(8,0),(9,0),(10,2),(11,0)] ty_mixed (by kernel_rfl) eI ?_
 refine yG J1 ?_
 refine cw_callq rfl (rof_fa 1 om om) rfl rfl rfl (fun _ _=>(zL J1)) ?_
 rw [cast1]
 refine ySG J1 ?_
 refine cw_callq rfl hch rfl rfl rfl (fun _ _=>(zL J1)) ?_
 refine ySG J1 ?_
 refine cw_store (FP':=[]) rfl rfl rfl rfl rfl (zE J1) (zE J1) (zE J1) (zE J1) (fun _ e=>by cases e) rfl rfl (Nat.le_refl 3) rfl has0_nil ?_
 refine ySG J1 ?_
 refine aw_rethw (h':=SY gS f p o D X++[(g6,.cells 71 1 (ofL [.optr gS 0])),(g3,.cells 25 1 (ofL [rats false p]))]) rfl (List.Sublist.cons _ (List.Sublist.refl _)) (fun R hR=> ?_)
 simp only [go_sem,hnd,hn_g4]
 refine hR _ rfl ?_
 exact⟨rfl,rfl⟩
theorem ach_fa {f:FM} {p:List RD} (h:WSm f p):Fa Tryz.prog 21 [.agg (fmc false f),.c (rats false p)] (.tup [.c (rats true (if mcode f p=0 then achL f p else [])),.c (errA (mcode f p))]):=by
 refine fa_of_body Tryz.func21 rfl rfl (by simp [Tryz.ntmps21]) fun C hC=> ?_
 simp only [initS,Nat.reduceAdd]
 refine xG ?_
 refine xB fun g2 hn_g2=>?_
 refine yG hn_g2 ?_
 refine yB hn_g2 fun g3 hn_g3=>?_
 refine yG (oj hn_g2 hn_g3) ?_
 by_cases hc:wcode f p=0
 ·have hk:=wok_of hc
  have h6:=h.v6 hk
  have hpl:=hk.len
  refine aw_callh (hc:=[]) (hr:=[(g3,.cells 25 1 (ofL [rats false p])),(g2,.cells 24 3 (ofL (fmc false f)))]) (wopen_fh f p hk h6 h.hn h.ha h.w) rfl rfl rfl (.refl _) (zL (oj hn_g2 hn_g3)) ?_
  rintro _ _ ⟨gS,o,D,hpo,hol,hD,rfl,rfl⟩ hk2
  obtain⟨hDl,hsD,hdp⟩:=sysD hk h6 h.w hD hol
  simp only [SY,List.cons_append,List.nil_append]
  refine aw_nd fun hnd=> ?_
  simp only [Heap.keys,List.map_cons,List.map_nil] at hnd
  replace hnd:=ndP_of hnd
  dsimp only [ndP,neA] at hnd
  refine ySG hnd ?_
  refine yA hnd fun g6 hn_g6=>?_
  have J1:=oj hnd hn_g6
  refine yGWSGNG J1 ?_
  refine aw_makeFunc (gs:=[g6,g3]) rfl rfl rfl (zE J1) ?_
  refine ySG J1 ?_
  by_cases hz:wV f p=0
  ·rw [m_zero hc hz,if_neg (by decide)]
   refine aw_callh (hr:=[]) (each_zero gS f p o D hz [(g6,.cells 71 1 (ofL [.optr gS 0])),(g3,.cells 25 1 (ofL [rats false p])),(g2,.cells 24 3 (ofL (fmc false f)))] 65 [g6,g3]) rfl rfl rfl (by rw [List.append_nil];exact .swap _ _ _) (zL J1) ?_
   rintro _ _ ⟨rfl,rfl⟩ _
   refine ySGT hC J1 ?_
   exact .tup ⟨.c .nils,.c (ler_err),trivial⟩
  ·rw [m_ok hc hz,if_pos rfl]
   refine aw_callh (hr:=[(g2,.cells 24 3 (ofL (fmc false f)))]) (each_fh (α:=Unit) (fun _=>[(g6,.cells 71 1 (ofL [.optr gS 0])),(g3,.cells 25 1 (ofL [rats false p]))]) (fun _=>SY gS f p o D (wV f p)++[(g6,.cells 71 1 (ofL [.optr gS 0])),(g3,.cells 25 1 (ofL [rats false p]))]) [] (fun _ _=>True) (fun i=>wV f (p.set i (rd 1))) 65 [g6,g3] gS f p o D hz (wV_fits h.w om) om (fun i hi=>fits_mono (wV1_fits h.w om i) om) (fun _=>by rw [List.append_nil]) (fun i x hi _=>(ach1_fh g6 g3 gS f hsD hdp hDl i hi (B:=wV f (p.set i (rd 1))) (prS_wV hD (by rw [List.length_set];exact hDl))).mono (fun r h' hq=>⟨(),trivial,hq.1,hq.2⟩)) () trivial) rfl rfl rfl (.swap _ _ _) (zL J1) ?_
   rintro _ _ ⟨_,og,_,hog,rfl,rfl⟩ _
   refine aw_perm (h':=gh og 30 (p.length*3) (ratsF (eachL (fun i=>wV f (p.set i (rd 1))) (wV f p) p.length))++((SY gS f p o D (wV f p)++[(g6,.cells 71 1 (ofL [.optr gS 0])),(g3,.cells 25 1 (ofL [rats false p]))])++[(g2,.cells 24 3 (ofL (fmc false f)))])) (by rw [←List.append_assoc];exact List.perm_append_comm.append_right _) ?_
   refine ySG J1 ?_
   refine aw_frzGT (t:=4) (f':=ratsF (eachL (fun i=>wV f (p.set i (rd 1))) (wV f p) p.length)) hog (eachL_len (fun i=>wV f (p.set i (rd 1))) (wV f p) p.length).symm (zE J1) (fun g _=>hC g) (fun _ _=>rfl) rfl ?_
   refine ySGT hC J1 ?_
   exact .tup ⟨.c ler_rats,.c .nilI,trivial⟩
 ·rw [m_bad hc,if_neg hc]
  refine aw_callh (hc:=[]) (hr:=[(g3,.cells 25 1 (ofL [rats false p])),(g2,.cells 24 3 (ofL (fmc false f)))]) (wopen_err f p hc h.hn h.ha h.t0 h.t1 h.w5 (by have:=h.l;omega)) rfl rfl rfl (.refl _) eL ?_
  rintro _ _ ⟨rfl,rfl⟩ _
  have hcf:=ieq_f hc
  have J2:=oj hn_g2 (oj hn_g3 hcf)
  refine ySG J2 ?_
  refine yA J2 fun g6 hn_g6=>?_
  have J3:=oj hn_g2 (oj hn_g3 (oj hcf hn_g6))
  refine yGWSG J3 ?_
  refine yP J3 ?_
  refine yGT hC J3 ?_
  exact .tup ⟨.c .nils,.c ler_err,trivial⟩
theorem red_fa {f:FM} {p:List RD} (h:WSm f p) (i:Int):Fa Tryz.prog 12 [.agg (fmc false f),.c (rats false p),.c (.int .i64 i)] (.tup [.agg (rdc (if rcode f p i=0 then rd (wV f p/wV f (p.set i.toNat rd0)) else rd0)),.c (errA (rcode f p i))]):=by
 refine fa_of_body Tryz.func12 rfl rfl (by simp [Tryz.ntmps12]) fun C hC=> ?_
 simp only [initS,Nat.reduceAdd]
 refine xG ?_
 refine xB fun g3 hn_g3=>?_
 refine yG hn_g3 ?_
 refine yA hn_g3 fun g6 hn_g6=>?_
 refine yG (oj hn_g3 hn_g6) ?_
 by_cases hc:wcode f p=0
 ·have hk:=wok_of hc
  have h6:=h.v6 hk
  have hpl:=hk.len
  refine aw_callh (hc:=[]) (hr:=[(g6,.cells 30 3 (ofL [.bool false,.nils,.nils])),(g3,.cells 24 3 (ofL (fmc false f)))]) (wopen_fh f p hk h6 h.hn h.ha h.w) rfl rfl rfl (.refl _) (zL (oj hn_g3 hn_g6)) ?_
  rintro _ _ ⟨gS,o,D,hpo,hol,hD,rfl,rfl⟩ hk2
  obtain⟨hDl,hsD,hdp⟩:=sysD hk h6 h.w hD hol
  simp only [SY,List.cons_append,List.nil_append]
  refine aw_nd fun hnd=> ?_
  simp only [Heap.keys,List.map_cons,List.map_nil] at hnd
  replace hnd:=ndP_of hnd
  dsimp only [ndP,neA] at hnd
  refine ySGNG hnd ?_
  by_cases hi:0≤i∧i<p.length
  ·obtain⟨k,rfl⟩:=Int.eq_ofNat_of_zero_le hi.1
   have hkp:k<p.length:=by omega
   have hch:=change_fa D p hsD (k:Int) rd0 rd0_wf4
   rw [ch_ok hdp hi.1 om rd0_prob,if_pos rfl,prS_wV hD (by rw [List.length_set];exact hDl),show errA 0=CV.nilI from rfl,Int.toNat_natCast] at hch
   rw [Int.toNat_natCast]
   have f0:=wV0_fits (f:=f) h.w om k
   have fX:=wV_fits (f:=f) h.w om
   refine aw_callq hch rfl rfl rfl (by refine yS hnd ?_;exact⟨.agg (by simp only [LeL];and_intros<;>first|exact True.intro|exact .refl _|exact wl2),.c (.refl _),.c (.refl _),.agg ⟨.refl _,.nils,.nils,trivial⟩⟩) ?_
   refine ySG hnd ?_
   refine yA hnd fun g10 hn_g10=>?_
   have J1:=oj hnd hn_g10
   refine yGWSGNG J1 ?_
   refine aw_cw ([(gS,.cells 76 11 (ofL (fmc false f++[rats false p,is true o]++dgc true D++rdc (rd (wV f p))))),(g10,.cells 30 3 (ofL (rdc (rd (wV f (p.set k rd0))))))]) [(0,0),(1,0),(2,0),(3,0),(4,0),(5,0),(6,0),(7,0),(8,2),(9,0)] ty_mixed (by kernel_rfl) eI ?_
   refine yG J1 ?_
   by_cases hz:wV f (p.set k rd0)=0
   ·rw [r_zero hc hkp hz,if_neg (by decide)]
    refine cw_callq rfl (rdiv_zero (rd (wV f p)) (rd (wV f (p.set k rd0))) (rd_wf (fits_mono fX om)) (rd_wf (fits_mono f0 om)) (by rw [rd_q];exact hz)) rfl rfl rfl (fun _ _=>(zL J1)) ?_
    refine ySG J1 ?_
    refine cw_store (FP':=[]) rfl rfl rfl rfl rfl (zE J1) (zE J1) (zE J1) (zE J1) (fun _ e=>by cases e) rfl rfl (Nat.le_refl 3) rfl has0_nil ?_
    refine ySGT hC J1 ?_
    exact .tup ⟨.agg lerl_rd,.c ler_err,trivial⟩
   ·rw [r_ok hc hkp hz,if_pos rfl]
    refine cw_callq rfl (rdiv_fa (rd (wV f p)) (rd (wV f (p.set k rd0))) (rd_wf (fits_mono fX om)) (rd_wf (fits_mono f0 om)) (by rw [rd_q];exact hz)) rfl rfl rfl (fun _ _=>(zL J1)) ?_
    rw [rd_q,rd_q]
    refine ySG J1 ?_
    refine cw_store (FP':=[]) rfl rfl rfl rfl rfl (zE J1) (zE J1) (zE J1) (zE J1) (fun _ e=>by cases e) rfl rfl (Nat.le_refl 3) rfl has0_nil ?_
    refine ySGT hC J1 ?_
    exact .tup ⟨.agg lerl_rd,.c .nilI,trivial⟩
  ·have hch:=change_fa D p hsD i rd0 rd0_wf4
   rw [ch_out hdp om,if_neg (by decide)] at hch
   rw [r_idx hc hi,if_neg (by decide)]
   refine aw_callq hch rfl rfl rfl (by refine yS hnd ?_;exact⟨.agg (by simp only [LeL];and_intros<;>first|exact True.intro|exact .refl _|exact wl2),.c (.refl _),.c (.refl _),.agg ⟨.refl _,.nils,.nils,trivial⟩⟩) ?_
   refine ySG hnd ?_
   refine yA hnd fun g10 hn_g10=>?_
   have J2:=oj hnd hn_g10
   refine yGWSG J2 ?_
   refine yP J2 ?_
   refine yGWSGT hC J2 ?_
   exact .tup ⟨.agg ⟨.bool _,.nils,.nils,trivial⟩,.c ler_err,trivial⟩
 ·rw [r_bad hc,if_neg hc]
  refine aw_callh (hc:=[]) (hr:=[(g6,.cells 30 3 (ofL [.bool false,.nils,.nils])),(g3,.cells 24 3 (ofL (fmc false f)))]) (wopen_err f p hc h.hn h.ha h.t0 h.t1 h.w5 (by have:=h.l;omega)) rfl rfl rfl (.refl _) eL ?_
  rintro _ _ ⟨rfl,rfl⟩ _
  have hcf:=ieq_f hc
  have J3:=oj hn_g3 (oj hn_g6 hcf)
  refine ySG J3 ?_
  refine yP J3 ?_
  refine yGWSGT hC J3 ?_
  exact .tup ⟨.agg ⟨.bool _,.nils,.nils,trivial⟩,.c ler_err,trivial⟩
end Go.Proofs.YtfcnbgmclfkfcaaGreat
namespace Go.PN
open Go.AI Go.Proofs.YtfcnbgmclfkfcaaGreat
def prT (ps:List RD) (n:Nat) (ns:List DN) (r:Int):Rat:=exQ (prP ps) n (indQ fun s=>evalD ns s r)
theorem prT_leaf {ps:List RD} {n:Nat} {ns:List DN} {r:Int} (h0:0≤r) (h1:r<2):prT ps n ns r=((r:Int):Rat):=by
 unfold prT
 have:r=0∨r=1:=by omega
 rcases this with rfl|rfl
 ·have e:(indQ fun s=>evalD ns s 0)=fun _=>((0:Int):Rat):=by funext s;show(if evalD ns s 0=true then(1:Rat) else 0)=_;rw [evalD_leaf om];rfl
  rw [e,ex_const]
 ·have e:(indQ fun s=>evalD ns s 1)=fun _=>((1:Int):Rat):=by funext s;show(if evalD ns s 1=true then(1:Rat) else 0)=_;rw [evalD_leaf om];rfl
  rw [e,ex_const]
theorem prT_node {ps:List RD} {o:List Int} {ns:List DN} (ht:TabOk o ns) {i:Nat} (hi:i<ns.length):
 prT ps o.length ns (2+i)=(1-prP ps (ns.getD i dn0).v.toNat)*prT ps o.length ns (ns.getD i dn0).lo+prP ps (ns.getD i dn0).v.toNat*prT ps o.length ns (ns.getD i dn0).hi:=by
 have nd:=ht i hi
 obtain⟨v0,v1,_,_,_,_⟩:=nd.nk
 obtain⟨r1,r2⟩:=kids_ref ht hi
 have hvv:(((ns.getD i dn0).v.toNat:Nat):Int)=(ns.getD i dn0).v:=by omega
 have:=ex_shan (p:=prP ps) (v:=(ns.getD i dn0).v.toNat) o.length _ _ om (ref_indep ht r1 (by rw [hvv];exact nd.bl)) (ref_indep ht r2 (by rw [hvv];exact nd.bh))
 unfold prT
 rw [←this]
 refine ex_congr _ _ _ fun s _=> ?_
 show(if evalD ns s (2+(i:Int))=true then(1:Rat) else 0)=if s.testBit (ns.getD i dn0).v.toNat=true then(if evalD ns s (ns.getD i dn0).hi=true then(1:Rat) else 0) else(if evalD ns s (ns.getD i dn0).lo=true then(1:Rat) else 0)
 have hen:=eval_node ht hi (v:=(ns.getD i dn0).v) (lo:=(ns.getD i dn0).lo) (hi':=(ns.getD i dn0).hi) rfl s
 rw [hen]
 cases s.testBit (ns.getD i dn0).v.toNat<;>rfl
theorem prT_fits {ps:List RD} {L:Nat} (hL:1≤L) (hw:∀x∈ps,x.wf L) {o:List Int} {ns:List DN} (ht:TabOk o ns):∀(k:Nat) (r:Int),r.toNat≤k→RefOk ns r→fits (prT ps o.length ns r) (Bl L ((o.length:Int)-lvZ o ns r).toNat):=by
 have leaf:∀r:Int,RefOk ns r→r<2→fits (prT ps o.length ns r) (Bl L ((o.length:Int)-lvZ o ns r).toNat):=fun r hr h2=>by
  have hb:=Bl_mono (L:=L) (Nat.zero_le ((o.length:Int)-lvZ o ns r).toNat)
  have h0:=hr.1
  rw [prT_leaf h0 h2]
  have:r=0∨r=1:=by omega
  rcases this with rfl|rfl
  ·exact fits_mono fits_zero hb
  ·exact fits_mono fits_one hb
 intro k
 induction k with
 |zero=>intro r hk hr;exact leaf r hr (by have:=hr.1;omega)
 |succ k ih=>
  intro r hk hr
  by_cases h2:r<2
  ·exact leaf r hr h2
  ·have h1:=hr.2
   obtain⟨i,rfl⟩:∃i:Nat,r=2+i:=⟨(r-2).toNat,by omega⟩
   have hi:i<ns.length:=by omega
   have nd:=ht i hi
   obtain⟨v0,v1,l0,l1,q0,q1⟩:=nd.nk
   obtain⟨r1,r2⟩:=kids_ref ht hi
   have f2:=ih _ om r1
   have f3:=ih _ om r2
   have f1:=RD.fits (getD_wf hw (ns.getD i dn0).v.toNat) hL
   have bl:=nd.bl
   have bh:=nd.bh
   have hpl:=place_lt (o:=o) (v:=(ns.getD i dn0).v)
   have hlv:lvZ o ns (2+(i:Int))=placeZ o (ns.getD i dn0).v:=by
    unfold lvZ
    rw [if_neg om,show(2+(i:Int)-2).toNat=i from by omega]
   rw [prT_node ht hi,hlv]
   obtain⟨h,hh⟩:∃h,((o.length:Int)-placeZ o (ns.getD i dn0).v).toNat=h+1:=⟨((o.length:Int)-placeZ o (ns.getD i dn0).v).toNat-1,by omega⟩
   rw [hh,Bl]
   have m1:=Bl_mono (L:=L) (show((o.length:Int)-lvZ o ns (ns.getD i dn0).lo).toNat≤h from by omega)
   have m2:=Bl_mono (L:=L) (show((o.length:Int)-lvZ o ns (ns.getD i dn0).hi).toNat≤h from by omega)
   exact fits_mono (fits_add (fits_mul (fits_sub fits_one f1) f2) (fits_mul f1 f3)) om
end Go.PN
namespace Go.Proofs.YtfcnbgmclfkfcaaGreat
open Go.AI Go.PN
def allT (c k s:Nat):Bool:=(List.range k).all fun m=> !c.testBit m||s.testBit m
theorem allT_succ (c k s:Nat):allT c (k+1) s=(allT c k s&&(!c.testBit k||s.testBit k)):=by
 unfold allT
 rw [List.range_succ,List.all_append]
 simp
theorem allT_full {c n:Nat} (hc:c<2^n) (s:Nat):allT c n s=subT c s:=by
 rw [Bool.eq_iff_iff,subT_iff]
 unfold allT
 rw [List.all_eq_true]
 constructor
 ·intro h j hj
  have hjn:j<n:=by
   refine Classical.byContradiction fun hn=> ?_
   rw [Nat.testBit_lt_two_pow (Nat.lt_of_lt_of_le hc (Nat.pow_le_pow_right om om))] at hj
   cases hj
  have:=h j (List.mem_range.2 hjn)
  rw [hj] at this
  simpa using this
 ·intro h m hm
  cases hb:c.testBit m with
  |false=>rfl
  |true=>rw [h m hb];rfl
theorem cutsI_take {l:List Nat} {j:Nat} (hj:j<l.length) (i s:Nat):failsB (cutsI (l.take (j+1)) i) s=(failsB (cutsI (l.take j) i) s||((l.getD j 0).testBit i&&subT (l.getD j 0) s)):=by
 unfold cutsI failsB
 rw [ltake hj,List.filter_append,List.any_append]
 cases h:(l.getD j 0).testBit i
 ·rw [List.filter_cons_of_neg (by rw [h];simp)];simp
 ·rw [List.filter_cons_of_pos (by exact h)];simp
theorem prT_wF {ns:List DN} {r:Int} {l:List Nat} {p:List RD} {i n:Nat} (hn:n=p.length) (h:∀s,evalD ns s r=failsB (cutsI l i) s):prT p n ns r=wF l p i:=by
 subst hn
 unfold prT wF
 refine ex_congr _ _ _ fun s _=> ?_
 unfold indQ evB
 simp only [h s]
abbrev exG:FM:=⟨3,[⟨2,0,[1,2]⟩,⟨3,0,[0,3]⟩],4⟩
abbrev exGT:List Bool:=[false,true,false,true,false,true,true,true]
abbrev exGQ:List Rat:=[1/4,1/2,1/2]
abbrev exGP:List RD:=exGQ.map rd
theorem exG_code:fcode exG=0:=by decide+kernel
theorem exG_coh:cohTo exG exG.nodes.length=true:=by decide+kernel
theorem exGT_eq:formTo exG 8=exGT:=by decide+kernel
theorem exG_pc:pcode exGP 3=0:=pcode_rd rfl (by decide+kernel)
theorem exG_ok:WOk exG exGP:=⟨exG_code,exG_coh,exG_pc⟩
theorem exGP_wf:∀r∈exGP,r.wf 4:=by
 intro r hr
 obtain⟨q,hq,rfl⟩:=List.mem_map.1 hr
 refine rd_wf (fits_mono (L:=1) ?_ om)
 simp only [List.mem_cons,List.not_mem_nil,or_false] at hq
 rcases hq with rfl|rfl|rfl<;>exact⟨by decide+kernel,by decide+kernel⟩
theorem exG_argsOk:ArgsOk exG:=fun x hx=>by
 simp at hx
 rcases hx with rfl|rfl<;>decide
theorem exG_v (qs:List Rat) (h:qs.length=3):wV exG (qs.map rd)=smQ qs exGT 8:=by
 rw [←top_wV,List.length_map,h,exGT_eq,sumQ_rd]
theorem exG_set (i:Nat) (a:Rat):wV exG (exGP.set i (rd a))=smQ (exGQ.set i a) exGT 8:=by
 rw [show exGP=exGQ.map rd from rfl,←List.map_set]
 exact exG_v _ (by rw [List.length_set];rfl)
theorem exG_top:wV exG exGP=7/16:=by
 rw [show exGP=exGQ.map rd from rfl,exG_v _ rfl]
 decide+kernel
theorem exG_red:wV exG exGP/wV exG (exGP.set 1 rd0)=7/4:=by
 rw [show rd0=rd 0 from rd0_rd,exG_set,exG_top]
 decide+kernel
theorem exG_ach:achL exG exGP=[rd (16/7),rd (10/7),rd (10/7)]:=by
 have e0:wV exG (exGP.set 0 (rd 1))/wV exG exGP=16/7:=by rw [exG_set,exG_top];decide+kernel
 have e1:wV exG (exGP.set 1 (rd 1))/wV exG exGP=10/7:=by rw [exG_set,exG_top];decide+kernel
 have e2:wV exG (exGP.set 2 (rd 1))/wV exG exGP=10/7:=by rw [exG_set,exG_top];decide+kernel
 show [rd (wV exG (exGP.set 0 (rd 1))/wV exG exGP),rd (wV exG (exGP.set 1 (rd 1))/wV exG exGP),rd (wV exG (exGP.set 2 (rd 1))/wV exG exGP)]=_
 rw [e0,e1,e2]
theorem exG_cuts:cutsF exG=[1,6]:=by
 unfold cutsF
 show sortN (solN (formTo exG 8) 8)=_
 rw [exGT_eq]
 decide+kernel
theorem exG_wF (i:Nat):wF [1,6] exGP i=smQ exGQ (cutT [1,6] i 3) 8:=by
 rw [←cut_sum,show exGP=exGQ.map rd from rfl,List.length_map,sumQ_rd]
 rfl
theorem exG_fus:fusL exG exGP=[rd (4/7),rd (4/7),rd (4/7)]:=by
 unfold fusL
 rw [exG_cuts]
 have e0:wF [1,6] exGP 0/wV exG exGP=4/7:=by rw [exG_wF,exG_top];decide+kernel
 have e1:wF [1,6] exGP 1/wV exG exGP=4/7:=by rw [exG_wF,exG_top];decide+kernel
 have e2:wF [1,6] exGP 2/wV exG exGP=4/7:=by rw [exG_wF,exG_top];decide+kernel
 show [rd (wF [1,6] exGP 0/wV exG exGP),rd (wF [1,6] exGP 1/wV exG exGP),rd (wF [1,6] exGP 2/wV exG exGP)]=_
 rw [e0,e1,e2]
end Go.Proofs.YtfcnbgmclfkfcaaGreat
namespace Go.PN
open Go.AI
theorem fm_of {f:FM} (ok:FrOk f):FmOk f:=by
 refine⟨ok.v0,by have:=ok.v24;omega,by have:=ok.n128;omega,fun x hx=> ?_,ok.t0,ok.t1⟩
 obtain⟨i,hi,rfl⟩:=List.mem_iff_getElem.1 hx
 have h1:=ok.len hi
 have h2:=ok.arg i hi
 have h3:=ok.v24
 have h4:=ok.n128
 rw [show f.nodes.getD i fn0=f.nodes[i] from by rw [List.getD_eq_getElem?_getD,List.getElem?_eq_getElem hi];rfl] at h1 h2
 exact⟨by omega,fun y hy=>by have:=h2 y hy;omega⟩
theorem bitA (c k:Nat) (hc:c<9223372036854775808) (hk:k≤64):andZ .i64 (shrZ .i64 (c:Int) (k:Int)) 1=((c/2^k%2:Nat):Int):=by
 rw [shrZ_nat c k hk]
 exact and_one_nat _ (Nat.lt_of_le_of_lt (Nat.div_le_self _ _) hc)
theorem bitA1 (c k:Nat) (hc:c<9223372036854775808) (hk:k≤64):(andZ .i64 (shrZ .i64 (c:Int) (k:Int)) 1==1)=c.testBit k:=by
 rw [bitA c k hc hk]
 exact bit_eq c k
theorem bitA0 (c k:Nat) (hc:c<9223372036854775808) (hk:k≤64):(andZ .i64 (shrZ .i64 (c:Int) (k:Int)) 1==0)= !c.testBit k:=by
 rw [bitA c k hc hk,←bit_eq c k]
 rcases Nat.mod_two_eq_zero_or_one (c/2^k) with h|h<;>rw [h]<;>rfl
end Go.PN
namespace Go.Proofs.YtfcnbgmclfkfcaaGreat
open Go.AI Go.PN
attribute [local irreducible] aw Fa Fh DrK
structure WFn (f:FM) (p:List RD):Prop where
 c:fcode f=0
 l:(p.length:Int)=f.vars
 h6:p.length≤6
 w:∀r∈p,r.wf 4
theorem WFn.set {f:FM} {p:List RD} (h:WFn f p) (i:Nat) {q:RD} (hq:q.wf 4):WFn f (p.set i q):=⟨h.c,by rw [List.length_set];exact h.l,by rw [List.length_set];exact h.h6,wf_set h.w i hq⟩
theorem topR_fa {f:FM} {p:List RD} (hk:WFn f p):Fa Tryz.prog 22 [.agg (fmc false f),.c (rats false p)] (.agg (rdc (rd (wV f p)))):=by
 have hpl:=hk.l
 have h6:=hk.h6
 have hvp:f.vars.toNat=p.length:=by omega
 have hfa:=formula_fa f (fm_of (fr_ok hk.c)) om
 have hfl:=formTo_len f (2^f.vars.toNat)
 have htv:=top_wV f p
 rw [hvp] at hfa hfl
 generalize formTo f (2^p.length)=tb at hfa hfl htv
 have htf:=table37_fa tb p 4 om om hk.w om hfl
 rw [hfl,htv] at htf
 refine fa_of_body Tryz.func22 rfl rfl (by simp [Tryz.ntmps22]) fun C hC=> ?_
 simp only [initS,Nat.reduceAdd]
 refine xG ?_
 refine xB fun g2 hn_g2=>?_
 refine yG hn_g2 ?_
 refine yA hn_g2 fun g4 hn_g4=>?_
 have J1:=oj hn_g2 hn_g4
 refine yG J1 ?_
 refine yC J1 (hfa) ?_
 refine yG J1 ?_
 refine yC J1 (htf) ?_
 refine yGWSGT hC J1 ?_
 exact ler_rd rfl
theorem withR_fa {f:FM} {p:List RD} (hk:WFn f p) (i:Nat) (hi:i<p.length) (q:RD) (hq:q.wf 4):Fa Tryz.prog 15 [.agg (fmc false f),.c (rats false p),.c (.int .i64 i),.agg (rdc q)] (.agg (rdc (rd (wV f (p.set i q))))):=by
 have h6:=hk.h6
 have htp:=topR_fa (hk.set i hq)
 refine fa_of_body Tryz.func15 rfl rfl (by simp [Tryz.ntmps15]) fun C hC=> ?_
 simp only [initS,Nat.reduceAdd]
 refine xG ?_
 refine xB fun g4 hn_g4=>?_
 refine yG hn_g4 ?_
 refine yB hn_g4 fun g7 hn_g7=>?_
 refine yG (oj hn_g4 hn_g7) ?_
 refine yA (oj hn_g4 hn_g7) fun g8 hn_g8=>?_
 have J1:=oj hn_g4 (oj hn_g7 hn_g8)
 refine yG J1 ?_
 refine aw_appendN (size:=3) (z:=[.bool false,.nils,.nils]) (cx:=rats false p) (k:=p.length) (f2:=ratsF p) rfl rfl rfl (zE J1) (zE J1) rfl om (zE J1) (zE J1) .row om (by unfold maxLen;omega) om fun go hn_go=> ?_
 replace hn_go:=Heap.ne_of hn_go
 dsimp only [Heap.ne] at hn_go
 have J2:=oj hn_g4 (oj hn_g7 (oj hn_g8 hn_go))
 refine ySGWS J2 ?_
 rw [ratsF_upd om]
 refine yG J2 ?_
 refine aw_callq htp rfl rfl rfl (by refine yS J2 ?_;exact⟨.agg (lel_refl _),.c (le_oslr2 (zE J2) (by rw [List.length_set]))⟩) ?_
 refine ySGWSG J2 ?_
 refine yT hC J2 ?_
 exact ler_rd rfl
theorem over_fa (a b:RD) (ha:a.wf 1073741824) (hb:b.wf 1073741824) (hz:b.q≠0):Fa Tryz.prog 53 [.agg (rdc a),.agg (rdc b)] (.agg (rdc (rd (a.q/b.q)))):=by
 refine fa_of_body Tryz.func53 rfl rfl (by simp [Tryz.ntmps53]) fun C hC=> ?_
 simp only [initS,Nat.reduceAdd]
 refine xG ?_
 refine xB fun g2 hn_g2=>?_
 refine yG hn_g2 ?_
 refine yB hn_g2 fun g3 hn_g3=>?_
 refine yG (oj hn_g2 hn_g3) ?_
 refine yA (oj hn_g2 hn_g3) fun g4 hn_g4=>?_
 have J1:=oj hn_g2 (oj hn_g3 hn_g4)
 refine yG J1 ?_
 refine yC J1 (sdiv_fa a b ha hb hz) ?_
 refine yG J1 ?_
 refine yA J1 fun g5 hn_g5=>?_
 have J2:=oj hn_g2 (oj hn_g3 (oj hn_g4 hn_g5))
 refine yGWSG J2 ?_
 refine yW J2 ?_
 refine ySGT hC J2 ?_
 exact ler_rd rfl
theorem rdw {q:Rat} {L:Nat} (h:fits q L) (hL:L≤1073741824):(rd q).wf 1073741824:=rd_wf (fits_mono h hL)
theorem critR_fa {f:FM} {p:List RD} (hk:WFn f p) (hv:∀r∈p,r.prob=true) (hz:wV f p≠0):Fa Tryz.prog 25 [.agg (fmc false f),.c (rats false p)] (.c (rats true (critL f p))):=by
 have h6:=hk.h6
 have hpl:=hk.l
 have hX:=wV_fits (f:=f) hk.w h6
 have htp:=topR_fa hk
 unfold critL
 refine fa_of_body Tryz.func25 rfl rfl (by simp [Tryz.ntmps25]) fun C hC=> ?_
 simp only [initS,Nat.reduceAdd]
 refine xG ?_
 refine xB fun g2 hn_g2=>?_
 refine yG hn_g2 ?_
 refine aw_lp (fun x:Option Nat×Nat=>[(1,.c (rats false p)),(2,.c (.optr g2 0)),(5,.c (gs x.1 3 x.2)),(6,.c (.int .i64 x.2))]) (fun x=>(g2,.cells 24 3 (ofL (fmc false f)))::gh x.1 30 (x.2*3) (ratsF (eachL (critV f p) (wV f p) x.2)))
  (fun x=>x.2≤p.length∧(x.1=none→x.2=0)) (fun x=>p.length-x.2) (none,0) (zB hn_g2) (List.Sublist.cons_cons _ (List.nil_sublist _)) ⟨Nat.zero_le _,fun _=>rfl⟩ ?_
 rintro ⟨og,k⟩ ⟨hkk,hog⟩
 dsimp only at hkk hog⊢
 refine aw_nd fun hnd=> ?_
 refine yG hn_g2 ?_
 refine yF hn_g2 (fun h1=>?_) fun h1=>?_
 ·have h1':k<p.length:=dT h1
  have w1:=withR_fa hk k h1' (rd 1) rd1_wf
  have w0:=withR_fa hk k h1' rd0 rd0_wf4
  have f1:=wV1_fits (f:=f) hk.w h6 k
  have f0:=wV0_fits (f:=f) hk.w h6 k
  have fc:=critV_fits (f:=f) hk.w hv h6 h1'
  have hw4:=getD_q_fits hk.w hv h1'
  have hs:eachL (critV f p) (wV f p) (k+1)=eachL (critV f p) (wV f p) k++[rd ((wV f (p.set k (rd 1))-wV f (p.set k rd0))*(p.getD k rd0).q/wV f p)]:=eachL_succ ..
  have fc':fits ((wV f (p.set k (rd 1))-wV f (p.set k rd0))*(p.getD k rd0).q) 9000:=fc
  clear fc
  generalize wV f (p.set k (rd 1))=A at*
  generalize wV f (p.set k rd0)=B at*
  have ho:=over_fa (rd ((A-B)*(p.getD k rd0).q)) (rd (wV f p)) (rdw fc' om) (rdw hX om) (by rw [rd_q];exact hz)
  rw [rd_q,rd_q] at ho
  have hm:=smul_fa (rd (A-B)) (p.getD k rd0) (rdw (fits_sub f1 f0) om) (wf_mono hw4 om)
  rw [rd_q] at hm
  have hsb:=ssub_fa (rd A) (rd B) (rdw f1 om) (rdw f0 om)
  rw [rd_q,rd_q] at hsb
  generalize (A-B)*(p.getD k rd0).q=V at*
  refine yG hn_g2 ?_
  refine aw_cw ([(g2,.cells 24 3 (ofL (fmc false f)))]) [(0,0),(1,0),(2,0),(3,0),(4,0),(5,0),(6,0),(7,0),(8,0),(9,0),(10,0),(11,1),(12,1)] ty_mixed (by kernel_rfl) eI ?_
  refine yG hn_g2 ?_
  refine cw_callq rfl (sof_fa 1 om om) rfl rfl rfl (fun _ _=>(zL hn_g2)) ?_
  rw [cast1]
  refine ySG hn_g2 ?_
  refine cw_callq rfl w1 rfl rfl rfl (fun _ _=>(zL hn_g2)) ?_
  refine ySG hn_g2 ?_
  refine cw_callq rfl w0 rfl rfl rfl (fun _ _=>by refine yS hn_g2 ?_;exact⟨.agg (lel_refl _),.c (.refl _),.c (.refl _),.agg ⟨.refl _,.nils,.nils,trivial⟩⟩) ?_
  refine ySG hn_g2 ?_
  refine cw_callq rfl hsb rfl rfl rfl (fun _ _=>(zL hn_g2)) ?_
  refine ySG hn_g2 ?_
  refine cw_alloc rfl rfl rfl rfl (zE hn_g2) eI (fun g7 hn_g7=> ?_) (hm:=.inr ⟨rfl,rfl⟩)
  replace hn_g7:=Heap.ne_of hn_g7
  dsimp only [Heap.ne,gh] at hn_g7
  have J1:=oj hn_g2 hn_g7
  refine yS J1 ?_
  refine cw_store rfl rfl rfl rfl rfl (zE J1) (zE J1) (zE J1) (zE J1) (fun _ e=>by cases e) rfl rfl (Nat.le_refl 3) (zE J1) eI ?_ (hm:=.inr ⟨rfl,rfl⟩)
  refine ySG J1 ?_
  refine aw_cw ([(g7,.cells 30 3 (ofL (rdc (rd (A-B))))),(g2,.cells 24 3 (ofL (fmc false f)))]) [(0,0),(1,0),(2,0),(3,0),(4,0),(5,0),(6,0),(7,0),(8,0),(9,0),(10,0),(11,1),(12,1),(13,0)] ty_mixed (by kernel_rfl) eI ?_
  refine yG J1 ?_
  refine cw_callq rfl hm rfl rfl rfl (fun _ _=>(zL J1)) ?_
  refine ySG J1 ?_
  refine cw_callq rfl htp rfl rfl rfl (fun _ _=>(zL J1)) ?_
  refine ySG J1 ?_
  refine cw_callq rfl ho rfl rfl rfl (fun _ _=>(zL J1)) ?_
  refine ySG J1 ?_
  refine cw_buildSlice (xs:=[.tmp 35]) (cells:=rdc (rd (V/wV f p))) rfl rfl rfl rfl (zE J1) (by refine yS J1 ?_;rfl) rfl om om (by intro x hx;simp only [List.mem_singleton] at hx;subst hx;exact⟨rfl,rfl,rfl⟩) rfl (by simp [Op.operands]) eI (fun ga hn_ga=> ?_) (hm:=.inr ⟨rfl,rfl⟩)
  refine yS J1 ?_
  refine cw_push (og:=og) (n:=k) (s:=25) (d1:=36) (gt:=ga) (v:=.agg (rdc (rd (V/wV f p)))) (pre:=[(g7,.cells 30 3 (ofL (rdc (rd (A-B))))),(g2,.cells 24 3 (ofL (fmc false f)))]) rfl rfl rfl rfl (zE J1) (zE J1) (by rfl) om om (zE J1) (zE J1) hog (by rfl) (by rfl) rfl (by unfold maxLen;omega) om (rats_push (eachL_len _ _ k) (rd (V/wV f p))) eI (fun gb hn_gb=> ?_) (hm:=.inr ⟨rfl,rfl⟩)
  rw [←hs]
  refine ySG J1 ?_
  exact aw_stop ⟨(some gb,k+1),by dsimp only;omega,(zB J1),.cons _ (.cons _ (.refl _)),by dsimp only;omega,some_ne⟩
 ·have h1':k=p.length:=dF h1
  subst h1'
  refine yGT hC hn_g2 ?_
  exact .one (.c (ler_gsr (pre:=[(g2,_)]) hog (fun g e=>by
   subst e
   simp only [Heap.keys,gh,List.map_cons,List.map_nil,List.nodup_cons,List.mem_singleton] at hnd
   simp only [Heap.keys,List.map_cons,List.map_nil,List.mem_singleton]
   exact fun e=>hnd.1 e.symm) (eachL_len _ _ p.length)))
theorem achR_fa {f:FM} {p:List RD} (hk:WFn f p) (hz:wV f p≠0):Fa Tryz.prog 27 [.agg (fmc false f),.c (rats false p)] (.c (rats true (achL f p))):=by
 have h6:=hk.h6
 have hpl:=hk.l
 have hX:=wV_fits (f:=f) hk.w h6
 have htp:=topR_fa hk
 unfold achL
 refine fa_of_body Tryz.func27 rfl rfl (by simp [Tryz.ntmps27]) fun C hC=> ?_
 simp only [initS,Nat.reduceAdd]
 refine xG ?_
 refine xB fun g2 hn_g2=>?_
 refine yG hn_g2 ?_
 refine aw_lp (fun x:Option Nat×Nat=>[(1,.c (rats false p)),(2,.c (.optr g2 0)),(5,.c (gs x.1 3 x.2)),(6,.c (.int .i64 x.2))]) (fun x=>(g2,.cells 24 3 (ofL (fmc false f)))::gh x.1 30 (x.2*3) (ratsF (eachL (fun i=>wV f (p.set i (rd 1))) (wV f p) x.2)))
  (fun x=>x.2≤p.length∧(x.1=none→x.2=0)) (fun x=>p.length-x.2) (none,0) (zB hn_g2) (List.Sublist.cons_cons _ (List.nil_sublist _)) ⟨Nat.zero_le _,fun _=>rfl⟩ ?_
 rintro ⟨og,k⟩ ⟨hkk,hog⟩
 dsimp only at hkk hog⊢
 refine aw_nd fun hnd=> ?_
 refine yG hn_g2 ?_
 refine yF hn_g2 (fun h1=>?_) fun h1=>?_
 ·have h1':k<p.length:=dT h1
  have w1:=withR_fa hk k h1' (rd 1) rd1_wf
  have f1:=wV1_fits (f:=f) hk.w h6 k
  have hs:=eachL_succ (fun i=>wV f (p.set i (rd 1))) (wV f p) k
  have ho:=over_fa (rd (wV f (p.set k (rd 1)))) (rd (wV f p)) (rdw f1 om) (rdw hX om) (by rw [rd_q];exact hz)
  rw [rd_q,rd_q] at ho
  refine yG hn_g2 ?_
  refine aw_cw ([(g2,.cells 24 3 (ofL (fmc false f)))]) [(0,0),(1,0),(2,0),(3,0),(4,0),(5,0),(6,0),(7,0),(8,0),(9,0),(10,1),(11,1),(12,0)] ty_mixed (by kernel_rfl) eI ?_
  refine yG hn_g2 ?_
  refine cw_callq rfl (sof_fa 1 om om) rfl rfl rfl (fun _ _=>(zL hn_g2)) ?_
  rw [cast1]
  refine ySG hn_g2 ?_
  refine cw_callq rfl w1 rfl rfl rfl (fun _ _=>(zL hn_g2)) ?_
  refine ySG hn_g2 ?_
  refine cw_callq rfl htp rfl rfl rfl (fun _ _=>(zL hn_g2)) ?_
  refine ySG hn_g2 ?_
  refine cw_callq rfl ho rfl rfl rfl (fun _ _=>(zL hn_g2)) ?_
  refine ySG hn_g2 ?_
  refine cw_buildSlice (xs:=[.tmp 22]) (cells:=rdc (rd (wV f (p.set k (rd 1))/wV f p))) rfl rfl rfl rfl (zE hn_g2) (by refine yS hn_g2 ?_;rfl) rfl om om (by intro x hx;simp only [List.mem_singleton] at hx;subst hx;exact⟨rfl,rfl,rfl⟩) rfl (by simp [Op.operands]) eI (fun ga hn_ga=> ?_) (hm:=.inr ⟨rfl,rfl⟩)
  refine yS hn_g2 ?_
  refine cw_push (og:=og) (n:=k) (s:=13) (d1:=23) (gt:=ga) (v:=.agg (rdc (rd (wV f (p.set k (rd 1))/wV f p)))) (pre:=[(g2,.cells 24 3 (ofL (fmc false f)))]) rfl rfl rfl rfl (zE hn_g2) (zE hn_g2) (by rfl) om om (zE hn_g2) (zE hn_g2) hog (by rfl) (by rfl) rfl (by unfold maxLen;omega) om (rats_push (eachL_len _ _ k) (rd (wV f (p.set k (rd 1))/wV f p))) eI (fun gb hn_gb=> ?_) (hm:=.inr ⟨rfl,rfl⟩)
  rw [←hs]
  refine ySG hn_g2 ?_
  exact aw_stop ⟨(some gb,k+1),by dsimp only;omega,(zB hn_g2),.cons _ (.refl _),by dsimp only;omega,some_ne⟩
 ·have h1':k=p.length:=dF h1
  subst h1'
  refine yGT hC hn_g2 ?_
  exact .one (.c (ler_gsr (pre:=[(g2,_)]) hog (fun g e=>by
   subst e
   simp only [Heap.keys,gh,List.map_cons,List.map_nil,List.nodup_cons,List.mem_singleton] at hnd
   simp only [Heap.keys,List.map_cons,List.map_nil,List.mem_singleton]
   exact fun e=>hnd.1 e.symm) (eachL_len _ _ p.length)))
theorem checkR43_fa (f:FM) (p:List RD) (hn:f.nodes.length≤1099511627776) (ha:ArgsOk f) (ht0: -9223372036854775808≤f.top) (ht:f.top≤9223372036854775807) (hw:∀r∈p,r.wf 500000000) (hl:p.length≤1099511627776):Fa Tryz.prog 13 [.agg (fmc false f),.c (rats false p)] (.c (.int .i64 (wcode f p))):=by
 unfold wcode
 refine fa_of_body Tryz.func13 rfl rfl (by simp [Tryz.ntmps13]) fun C hC=> ?_
 simp only [initS,Nat.reduceAdd]
 refine xG ?_
 refine xB fun g2 hn_g2=>?_
 refine yG hn_g2 ?_
 refine yC hn_g2 (fcheckR_fa f hn ha ht0 ht) ?_
 by_cases h1:fcode f=0
 ·have z1:=ieq_t h1
  rw [if_neg (fun h=>h h1)]
  have J1:=oj hn_g2 z1
  refine yGNG J1 ?_
  refine yC J1 (coherent_fa f (fr_ok h1)) ?_
  refine yG J1 ?_
  cases hc:cohTo f f.nodes.length
  ·refine ySG J1 ?_
   refine yP J1 ?_
   refine yGT hC J1 ?_
   exact .one (.c (.int _ _))
  ·refine ySGNG J1 ?_
   refine yC J1 (check37_fa p f.vars hw hl) ?_
   refine yGT hC J1 ?_
   exact .one (.c (.int _ _))
 ·have z1:=ieq_f h1
  rw [if_pos h1]
  have J2:=oj hn_g2 z1
  refine yGPGT hC J2 ?_
  exact .one (.c (.int _ _))
end Go.Proofs.YtfcnbgmclfkfcaaGreat
namespace Go.Proofs.YtfcnbgmclfkfcaaGreat
open Go.AI Go.PN
attribute [local irreducible] aw Fa Fh DrK
theorem cutsR_fa (f:FM) (hf:FmOk f) (h10:f.vars≤10):Fa Tryz.prog 69 [.agg (fmc false f)] (.c (is true (zL (sortN (solN (formTo f (2^f.vars.toNat)) (2^f.vars.toNat)))))):=by
 have hl:=formTo_len f (2^f.vars.toNat)
 have hp:2^f.vars.toNat≤2^10:=Nat.pow_le_pow_right om om
 have hs:=solR_fa (formTo f (2^f.vars.toNat)) om
 rw [hl] at hs
 refine fa_of_body Tryz.func69 rfl rfl (by simp [Tryz.ntmps69]) fun C hC=> ?_
 simp only [initS,Nat.reduceAdd]
 refine xG ?_
 refine xB fun g1 hn_g1=>?_
 refine yG hn_g1 ?_
 refine yC hn_g1 (formula_fa f hf ?_) ?_
 ·omega
 refine yG hn_g1 ?_
 refine yC hn_g1 (hs) ?_
 refine yGT hC hn_g1 ?_
 exact .one (.c ler_is)
end Go.Proofs.YtfcnbgmclfkfcaaGreat
namespace Go.Proofs.YtfcnbgmclfkfcaaGreat
open Go.AI Go.PN
attribute [local irreducible] aw Fa Fh DrK
theorem cutsI_step {l:List Nat} {j:Nat} (hj:j<l.length) (i:Nat):cutsI (l.take (j+1)) i=if(l.getD j 0).testBit i then cutsI (l.take j) i++[l.getD j 0] else cutsI (l.take j) i:=by
 unfold cutsI
 rw [ltake hj,List.filter_append]
 cases h:(l.getD j 0).testBit i
 ·rw [List.filter_cons_of_neg (by rw [h];simp)];simp
 ·rw [List.filter_cons_of_pos (by exact h)];simp
theorem cutsI_le (l:List Nat) (i:Nat):(cutsI l i).length≤l.length:=List.length_filter_le ..
theorem cutsI_mem {l:List Nat} {i x:Nat} (h:x∈cutsI l i):x∈l:=(List.mem_filter.1 h).1
theorem take_len_le {α:Type} (l:List α) (j:Nat):(l.take j).length≤l.length:=by rw [List.length_take];omega
theorem cutT_get {l:List Nat} {i n s:Nat} (hs:s<2^n):(cutT l i n).getD s false=failsB (cutsI l i) s:=tab_get _ _ s hs
theorem cutsF_le {f:FM} (h:f.vars≤6):(cutsF f).length≤64∧∀x∈cutsF f,x<64:=by
 have hp:2^f.vars.toNat≤2^6:=Nat.pow_le_pow_right om om
 unfold cutsF
 refine⟨?_,fun x hx=> ?_⟩
 ·exact Nat.le_trans (sortN_len _) (Nat.le_trans (sol_len_le _ _) om)
 ·have:=sol_ltN (sort_mem.1 hx)
  omega
theorem fusR_fa {f:FM} {p:List RD} (hk:WFn f p) (hz:wV f p≠0):Fa Tryz.prog 26 [.agg (fmc false f),.c (rats false p)] (.c (rats true (fusL f p))):=by
 have h6:=hk.h6
 have hpl:=hk.l
 have hX:=wV_fits (f:=f) hk.w h6
 have htp:=topR_fa hk
 have hct:=cutsR_fa f (fm_of (fr_ok hk.c)) om
 have hcl:=cutsF_le (f:=f) om
 have hsh:=shl_one p.length om
 have hp6:2^p.length≤2^6:=Nat.pow_le_pow_right om h6
 rw [hpl] at hsh
 unfold fusL
 rw [show sortN (solN (formTo f (2^f.vars.toNat)) (2^f.vars.toNat))=cutsF f from rfl] at hct
 generalize cutsF f=l at*
 obtain⟨hll,hlm⟩:=hcl
 have hzl:=zL_len l
 refine fa_of_body Tryz.func26 rfl rfl (by simp [Tryz.ntmps26]) fun C hC=> ?_
 simp only [initS,Nat.reduceAdd]
 refine yG (oj hsh hzl) ?_
 refine yB (oj hsh hzl) fun g2 hn_g2=>?_
 have J1:=oj hsh (oj hzl hn_g2)
 refine yG J1 ?_
 refine yC J1 (hct) ?_
 refine yG J1 ?_
 refine aw_lp (fun x:Option Nat×Nat=>[(1,.c (rats false p)),(2,.c (.optr g2 0)),(5,.c (is true (zL l))),(6,.c (gs x.1 3 x.2)),(7,.c (.int .i64 x.2))]) (fun x=>(g2,.cells 24 3 (ofL (fmc false f)))::gh x.1 30 (x.2*3) (ratsF (eachL (wF l p) (wV f p) x.2)))
  (fun x=>x.2≤p.length∧(x.1=none→x.2=0)) (fun x=>p.length-x.2) (none,0) (zB J1) (List.Sublist.cons_cons _ (List.nil_sublist _)) ⟨Nat.zero_le _,fun _=>rfl⟩ ?_
 rintro ⟨og,k⟩ ⟨hkk,hog⟩
 dsimp only at hkk hog⊢
 refine aw_nd fun hnd=> ?_
 refine yG J1 ?_
 refine yF J1 (fun h1=>?_) fun h1=>?_
 ·have h1':k<p.length:=dT h1
  refine yG J1 ?_
  refine aw_lp (fun x:Option Nat×Nat=>[(1,.c (rats false p)),(2,.c (.optr g2 0)),(5,.c (is true (zL l))),(6,.c (gs og 3 k)),(7,.c (.int .i64 k)),(8,.c (gs x.1 1 (cutsI (l.take x.2) k).length)),(9,.c (.int .i64 x.2))]) (fun x=>((g2,.cells 24 3 (ofL (fmc false f)))::gh og 30 (k*3) (ratsF (eachL (wF l p) (wV f p) k)))++gh x.1 3 (cutsI (l.take x.2) k).length (isF (zL (cutsI (l.take x.2) k))))
   (fun x=>x.2≤l.length∧(x.1=none→(cutsI (l.take x.2) k).length=0)) (fun x=>l.length-x.2) (none,0) (zB J1) (by show List.Sublist (((g2,_)::gh og _ _ _)++[]) _;rw [List.append_nil];exact List.Sublist.refl _) ⟨Nat.zero_le _,fun _=>rfl⟩ ?_
  rintro ⟨oc,j⟩ ⟨hj,hoc⟩
  dsimp only at hj hoc⊢
  have hle:=Nat.le_trans (cutsI_le (l.take j) k) (take_len_le l j)
  refine yG J1 ?_
  refine yF J1 (fun h2=>?_) fun h2=>?_
  ·have hjl:j<l.length:=dT h2
   have hx:l.getD j 0<64:=hlm _ (by rw [List.getD_eq_getElem?_getD,List.getElem?_eq_getElem hjl];exact List.getElem_mem _)
   have e1:=bitA1 (l.getD j 0) k om om
   have hzg:=zL_get l j
   have hst:=cutsI_step hjl k
   have J2:=oj hsh (oj hzl (oj hn_g2 (oj hzg e1)))
   refine yG J2 ?_
   refine yF J2 (fun h3=>?_) fun h3=>?_
   ·rw [if_pos h3] at hst
    refine yG J2 ?_
    refine aw_push (pre:=((g2,.cells 24 3 (ofL (fmc false f)))::gh og 30 (k*3) (ratsF (eachL (wF l p) (wV f p) k)))) rfl rfl rfl rfl rfl rfl rfl (zE J2) (zE J2) (by rfl) om om (zE J2) om (by exact hoc) (zE J2) (by rfl) (by rfl) (by first|rfl|simp only [Nat.mul_one,List.nil_append,List.cons_append]<;>rfl) (by unfold maxLen;omega) om (by exact is_zpush rfl _) fun g hn_g=> ?_
    replace hn_g:=Heap.ne_of hn_g
    first|dsimp only [Heap.ne,gh] at hn_g|dsimp only [Heap.ne] at hn_g|skip
    have J3:=oj hsh (oj hzl (oj hn_g2 (oj hzg (oj e1 hn_g))))
    refine ySG J3 ?_
    refine aw_stop ⟨(some g,j+1),by dsimp only;omega,by dsimp only;rw [hst,List.length_append,List.length_singleton];exact(zB J3),by dsimp only;rw [hst,List.length_append,List.length_singleton];exact zZ,by dsimp only;omega,some_ne⟩
   ·rw [if_neg (by rw [h3];simp)] at hst
    refine yG J2 ?_
    refine aw_stop ⟨(oc,j+1),by dsimp only;omega,by dsimp only;rw [hst];exact(zB J2),by dsimp only;rw [hst];exact zZ,by dsimp only;omega,by dsimp only;rw [hst];exact hoc⟩
  ·have hjl:j=l.length:=dF h2
   subst hjl
   rw [List.take_length] at hoc⊢
   have hcm:∀x∈cutsI l k,x<16777216:=fun x hx=>by have:=hlm x (cutsI_mem hx);omega
   have hcl:(cutsI l k).length≤64:=by have:=cutsI_le l k;omega
   have hfT:∀s,s<2^p.length→(cutT l k p.length).getD s false=failsB (cutsI l k) s:=fun s hs=>cutT_get hs
   have hsum:=cut_sum l p k
   have hcz:=zL_len (cutsI l k)
   refine aw_perm (h':=gh oc 3 ((cutsI l k).length*1) (isF (zL (cutsI l k)))++((g2,.cells 24 3 (ofL (fmc false f)))::gh og 30 (k*3) (ratsF (eachL (wF l p) (wV f p) k)))) (by rw [Nat.mul_one];exact List.perm_append_comm) ?_
   refine aw_frzGT (t:=8) (f':=isF (zL (cutsI l k))) hoc hcz.symm (zE J1) (fun g _=>hC g) (fun _ _=>rfl) rfl ?_
   refine yS J1 ?_
   generalize cutsI l k=C at*
   generalize cutT l k p.length=tb at*
   refine yG J1 ?_
   refine yA J1 fun g10 hn_g10=>?_
   have J4:=oj hsh (oj hzl (oj hn_g2 hn_g10))
   refine yGWSG J4 ?_
   refine aw_convR zero_rd ?_
   refine aw_lp (fun s:Nat=>[(1,.c (rats false p)),(2,.c (.optr g2 0)),(5,.c (is true (zL l))),(6,.c (gs og 3 k)),(7,.c (.int .i64 k)),(8,.c (is true (zL C))),(10,.c (.optr g10 0)),(11,.c (.int .i64 s))]) (fun s=>(g10,.cells 30 3 (ofL (rdc (rd (sumQ p tb s)))))::(g2,.cells 24 3 (ofL (fmc false f)))::gh og 30 (k*3) (ratsF (eachL (wF l p) (wV f p) k)))
    (fun s=>s≤2^p.length) (fun s=>2^p.length-s) 0 (zB J4) zZ (Nat.zero_le _) ?_
   rintro s hs
   have hfk:=fits_sum (tb:=tb) (L:=4) om hk.w s
   have hbk:((2*4+2)*p.length+2)*s+1≤200000000:=by
    have h2:=Nat.mul_le_mul (show(2*4+2)*p.length+2≤62 from by omega) (show s≤64 from by omega)
    omega
   refine yG J4 ?_
   refine yF J4 (fun h4=>?_) fun h4=>?_
   ·have hin:s<2^p.length:=dT h4
    have hfs:fits (stQ p s) 100000:=by
     refine fits_mono (fits_wt (L:=4) om hk.w _) ?_
     omega
    refine yG J4 ?_
    refine yC J4 (failsR_fa C s ?_ hcm ?_) ?_
    ·omega
    ·omega
    refine yG J4 ?_
    refine yF J4 (fun hc=>?_) fun hc=>?_
    ·refine yG J4 ?_
     refine aw_dr 5 ty_mixed (by kernel_rfl) ?_
     refine yG J4 ?_
     refine yD J4 (state_fa p s hin 4 ?_ ?_ hk.w ?_) ?_
     ·omega
     ·omega
     ·omega
     refine yG J4 ?_
     refine yD J4 (sadd_fa _ _ ?_ ?_) ?_
     ·exact rd_wf (fits_mono hfk om)
     ·exact rd_wf (fits_mono hfs om)
     rw [rd_q,rd_q]
     refine yGWSG J4 ?_
     have e:sumQ p tb (s+1)=sumQ p tb s+stQ p s:=by rw [sumQ,if_pos (by rw [hfT s hin];exact hc)]
     rw [←e]
     exact aw_stop ⟨s+1,by omega,(zB J4),zZ,by omega⟩
    ·refine yG J4 ?_
     have e:sumQ p tb (s+1)=sumQ p tb s:=by rw [sumQ,if_neg (by rw [hfT s hin,hc];simp)]
     rw [←e]
     exact aw_stop ⟨s+1,by omega,(zB J4),zZ,by omega⟩
   ·have hin:s=2^p.length:=dF h4
    subst hin
    have hs:=eachL_succ (wF l p) (wV f p) k
    have hwf:=wF_fits (l:=l) hk.w h6 k
    rw [←hsum] at hs hwf
    generalize sumQ p tb (2^p.length)=V at*
    have ho:=over_fa (rd V) (rd (wV f p)) (rdw hwf om) (rdw hX om) (by rw [rd_q];exact hz)
    rw [rd_q,rd_q] at ho
    refine yG J4 ?_
    refine aw_cw ([(g10,.cells 30 3 (ofL (rdc (rd V)))),(g2,.cells 24 3 (ofL (fmc false f)))]) [(0,0),(1,0),(2,0),(3,0),(4,0),(5,0),(6,1),(7,1),(8,0)] ty_mixed (by kernel_rfl) eI ?_
    refine yG J4 ?_
    refine cw_callq rfl htp rfl rfl rfl (fun _ _=>(zL J4)) ?_
    refine ySG J4 ?_
    refine cw_callq rfl ho rfl rfl rfl (fun _ _=>(zL J4)) ?_
    refine ySG J4 ?_
    refine cw_buildSlice (xs:=[.tmp 62]) (cells:=rdc (rd (V/wV f p))) rfl rfl rfl rfl (zE J4) (by refine yS J4 ?_;rfl) rfl om om (by intro x hx;simp only [List.mem_singleton] at hx;subst hx;exact⟨rfl,rfl,rfl⟩) rfl (by simp [Op.operands]) eI (fun ga hn_ga=> ?_) (hm:=.inr ⟨rfl,rfl⟩)
    refine yS J4 ?_
    refine cw_push (og:=og) (n:=k) (s:=57) (d1:=63) (gt:=ga) (v:=.agg (rdc (rd (V/wV f p)))) (pre:=[(g10,.cells 30 3 (ofL (rdc (rd V)))),(g2,.cells 24 3 (ofL (fmc false f)))]) rfl rfl rfl rfl (zE J4) (zE J4) (by rfl) om om (zE J4) (zE J4) hog (by rfl) (by rfl) rfl (by unfold maxLen;omega) om (rats_push (eachL_len _ _ k) (rd (V/wV f p))) eI (fun gb hn_gb=> ?_) (hm:=.inr ⟨rfl,rfl⟩)
    rw [←hs]
    refine ySG J4 ?_
    exact aw_stop ⟨(some gb,k+1),by dsimp only;omega,(zB J4),.cons _ (.cons _ (.refl _)),by dsimp only;omega,some_ne⟩
 ·have h1':k=p.length:=dF h1
  subst h1'
  refine yGT hC J1 ?_
  exact .one (.c (ler_gsr (pre:=[(g2,_)]) hog (fun g e=>by
   subst e
   simp only [Heap.keys,gh,List.map_cons,List.map_nil,List.nodup_cons,List.mem_singleton] at hnd
   simp only [Heap.keys,List.map_cons,List.map_nil,List.mem_singleton]
   exact fun e=>hnd.1 e.symm) (eachL_len _ _ p.length)))
end Go.Proofs.YtfcnbgmclfkfcaaGreat
namespace Go.AI
def MapV {α:Type} (K:α→Value) (ks:List α) (us:List Value) (o:Obj):Prop:=∃es c,o=.map es c∧es.toList.map (·.key)=ks.map K∧es.toList.map (·.val)=us
def vGet {α:Type} [DecidableEq α] (a:α):List (α×AV)→Option AV
 |[]=>none
 |p::kv=>if a=p.1 then some p.2 else vGet a kv
theorem fAsk_v {α:Type} [DecidableEq α] {S:Bool→Nat→Prop} {w:World} (a:α):∀(kv:List (α×AV)) (es:List MapEntry) (us:List Value) (i:Nat),es.map (·.val)=us→es.length=kv.length→RepT S w (kv.map (·.2)) us→
  match vGet a kv with
  |none=>fAsk a (kv.map (·.1)) es i=none
  |some x=>∃j v,fAsk a (kv.map (·.1)) es i=some (j,v)∧Rep0 S w x v
 |[],[],us,i,h,_,hr=>rfl
 |p::kv,e::es,u::us,i,h,hl,hr=>by
  simp only [List.map_cons,List.cons.injEq] at h
  simp only [List.map_cons,fAsk,vGet]
  by_cases ha:a=p.1
  ·rw [if_pos ha,if_pos ha]
   exact⟨i,e.val,rfl,by rw [h.1];exact hr.1⟩
  ·rw [if_neg ha,if_neg ha]
   exact fAsk_v a kv es us (i+1) h.2 (by simpa using hl) hr.2
 |p::kv,e::es,[],i,h,_,hr=>by simp at h
 |[],e::es,us,i,h,hl,hr=>by simp at hl
 |p::kv,[],us,i,h,hl,hr=>by simp at hl
theorem RepT.snoc {S:Bool→Nat→Prop} {w:World} {x:AV} {u:Value} (hx:Rep0 S w x u):∀{xs:List AV} {us:List Value},RepT S w xs us→RepT S w (xs++[x]) (us++[u])
 |[],[],_=>⟨hx,trivial⟩
 |_::_,_::_,hr=>⟨hr.1,RepT.snoc hx hr.2⟩
 |[],_::_,hr=>hr.elim
 |_::_,[],hr=>hr.elim
theorem RepT.length {S:Bool→Nat→Prop} {w:World}:∀{xs:List AV} {us:List Value},RepT S w xs us→us.length=xs.length
 |[],[],_=>rfl
 |_::_,_::_,hr=>by simp [RepT.length hr.2]
 |[],_::_,hr=>hr.elim
 |_::_,[],hr=>hr.elim
def tupB:AV→Bool
 |.tup _=>true
 |_=>false
theorem rep_of0 {S:Bool→Nat→Prop} {w:World} {x:AV} {v:Value} (hx:tupB x=false):Rep S w x v→Rep0 S w x v:=by
 cases x with
 |c x=>exact id
 |agg cs=>exact id
 |tup xs=>cases hx
section
variable {P : Program}
variable {E : Env} {K : List It} {σ σ' : Sl} {h : Heap} {all rest : List Oper} {o : Oper}
theorem aw_mapV {α:Type} {Kf:α→Value} {g:Nat} {h:Heap} (k:aw E K σ ((g,.vals (MapV Kf []) [])::h)):aw E K σ ((g,.gen (MapI Kf []))::h):=fun a w s=>by
 refine k a w ⟨s.size,s.defers,s.slots,fun g' o' hm=> ?_,s.nodup,s.keys,s.frame⟩
 rcases List.mem_cons.1 hm with e|hm
 ·injection e with e1 e2
  subst e1 e2
  obtain⟨o,hb,es,c,rfl,hes⟩:=s.heap _ _ (List.mem_cons_self ..)
  have hn:es.toList=[]:=by simpa using hes
  exact⟨_,[],hb,trivial,es,c,rfl,by rw [hn];rfl,by rw [hn];rfl⟩
 ·exact s.heap g' o' (List.mem_cons_of_mem _ hm)
def ZeroA (P:Program) (t:TypeId) (z:List CV):Prop:=∃us:List Value,(∀w,(zeroValue t).run P w=.ok (.agg us.toArray) w)∧∀S w,RepL S w z us
def vAns (x:Option AV) (z:List CV):AV:=.tup [x.getD (.agg z),.c (.bool x.isSome)]
theorem lookupV_run {w:World} {N:Nat} {C:Ctx} {ac:Act} {α:Type} [DecidableEq α] {Kf:α→Value} {t kt et g:TypeId} {kv:List (α×AV)} {a:α} {z:List CV} (s:St N C σ h ac w)
 (ht:tMap P t=some (kt,et)) (hK:KeyOk P kt Kf) (hz:ZeroA P et z) (hg:h.get g=some (.vals (MapV Kf (kv.map (·.1))) (kv.map (·.2)))):
 ∃us:List Value,(Instr.lookup t (.map (some g)) (Kf a) true).run P w=.ok (.tuple us.toArray) w∧RepT (Stab C h w) w [(vGet a kv).getD (.agg z),.c (.bool (vGet a kv).isSome)] us:=by
 obtain⟨ob,us,hb,hu,es,c,rfl,hk,hv⟩:=s.heap g _ (Heap.get_mem hg)
 have hlen:es.toList.length=kv.length:=by
  have:=congrArg List.length hk
  simpa using this
 have hfind:=hK.find a (kv.map (·.1)) es.toList w hk
 have hask:=fAsk_v (S:=Stab C h w) (w:=w) a kv es.toList us 0 hv hlen hu
 obtain⟨zs,hz1,hz2⟩:=hz
 cases hg2:vGet a kv with
 |none=>
  rw [hg2] at hask
  refine⟨[.agg zs.toArray,.bool false],?_,⟨⟨zs,rfl,hz2 _ _⟩,rfl,trivial⟩⟩
  unfold Instr.lookup
  simp only [Sem.run_bind,run_underlying (tMap_spec ht),Result.andThen_ok,runGet hb,Sem.run_pure,hK.check,hfind,hask]
  simp [hz1]
 |some x=>
  rw [hg2] at hask
  obtain⟨j,v,hj,hx⟩:=hask
  refine⟨[v,.bool true],?_,⟨hx,rfl,trivial⟩⟩
  unfold Instr.lookup
  simp only [Sem.run_bind,run_underlying (tMap_spec ht),Result.andThen_ok,runGet hb,Sem.run_pure,hK.check,hfind,hj]
  simp
theorem aw_lookupV {α:Type} [DecidableEq α] {Kf:α→Value} {t kt et g:TypeId} {kv:List (α×AV)} {x ky:Operand} {ck:AV} {a:α} {z:List CV} (hop:o.op=.lookup t x ky true) (hw:wantA all σ o=some true) (hd:dstOk E.N o.dst=true)
 (ht:tMap E.P t=some (kt,et)) (hK:KeyOk E.P kt Kf) (hz:ZeroA E.P et z) (hx:ev σ x=.c (.raw (.map (some g)))) (hg:h.get g=some (.vals (MapV Kf (kv.map (·.1))) (kv.map (·.2)))) (hk:ev σ ky=ck) (hka:∀S w v,Rep S w ck v→v=Kf a)
 (k:aw E (.ops all rest::K) (σ.setO o.dst (vAns (vGet a kv) z)) h):aw E (.ops all (o::rest)::K) σ h:=by
 refine aw_step hw (fun ac w s=> ?_) k
 have h1:=ev_rep s x
 rw [hx] at h1
 have h1':ac.eval x=.map (some g):=h1
 have h2:=ev_rep s ky
 rw [hk] at h2
 have h2':=hka _ _ _ h2
 obtain⟨us,hr,hu⟩:=lookupV_run (a:=a) s ht hK hz hg
 refine⟨.tuple us.toArray,w,.inl ?_,s.put hd ⟨us,rfl,hu⟩⟩
 simp only [execOp,hop,Sem.run_bind,h1',h2',hr,Result.andThen_ok]
 rfl
theorem aw_mapNewV {α:Type} [DecidableEq α] {Kf:α→Value} {t kt et g:TypeId} {kv:List (α×AV)} {x ky vl:Operand} {ck cv:AV} {a:α} (hop:o.op=.mapUpdate t x ky vl) (hdn:o.dst=none) (hw:wantA all σ o=some true)
 (ht:tMap E.P t=some (kt,et)) (hK:KeyOk E.P kt Kf) (hx:ev σ x=.c (.raw (.map (some g)))) (hg:h.get g=some (.vals (MapV Kf (kv.map (·.1))) (kv.map (·.2)))) (hk:ev σ ky=ck) (hka:∀S w u,Rep S w ck u→u=Kf a) (hv:ev σ vl=cv) (hvt:tupB cv=false)
 (hnew:vGet a kv=none) {h':Heap} (hh:h.set g (.vals (MapV Kf ((kv++[(a,cv)]).map (·.1))) ((kv++[(a,cv)]).map (·.2)))=h') (k:aw E (.ops all rest::K) σ h'):aw E (.ops all (o::rest)::K) σ h:=by
 subst hh
 refine aw_step hw (fun ac w s=> ?_) k
 have h1:=ev_rep s x
 rw [hx] at h1
 have h1':ac.eval x=.map (some g):=h1
 have h2:=ev_rep s ky
 rw [hk] at h2
 have h2':=hka _ _ _ h2
 have h3:=ev_rep s vl
 rw [hv] at h3
 have h3':=rep_of0 hvt h3
 obtain⟨v,hvv⟩:∃v,ac.eval vl=v:=⟨_,rfl⟩
 rw [hvv] at h3'
 obtain⟨ob,us,hb,hu,es,c,rfl,hks,hvs⟩:=s.heap g _ (Heap.get_mem hg)
 have hlen:es.toList.length=kv.length:=by
  have:=congrArg List.length hks
  simpa using this
 have hfind:=hK.find a (kv.map (·.1)) es.toList w hks
 have hask:=fAsk_v (S:=Stab E.C h w) (w:=w) a kv es.toList us 0 hvs hlen hu
 rw [hnew] at hask
 have hgl:g<w.heap.size:=(Array.getElem?_eq_some_iff.1 hb).1
 let w':World:={w with heap:=w.heap.setIfInBounds g (.map (es.push {key:=Kf a,val:=v,born:=c}) (c+1))}
 have hrun:(Instr.mapUpdate t (ac.eval x) (ac.eval ky) (ac.eval vl)).run E.P w=.ok () w':=by
  rw [h1',h2',hvv]
  unfold Instr.mapUpdate
  simp only [Sem.run_bind,run_underlying (tMap_spec ht),Result.andThen_ok,runGet hb,hK.check,hfind,hask,runSet _ hb]
  rfl
 have hfr:Fr (fun b=>b=g) w w':=by
  refine⟨rfl,rfl,rfl,by simp [w'],Nat.le_refl _,fun b _ hne=> ?_,fun g' m hh=> ?_⟩
  ·simp only [w'];rw [Array.getElem?_setIfInBounds_ne (fun e=>hne e.symm)]
  ·obtain⟨cs,ty,⟨fr,hc⟩,hs⟩:=hh
   refine⟨cs,ty,⟨fr,?_⟩,hs⟩
   have hne:g'≠g:=fun e=>by rw [e,hb] at hc;cases hc
   simp only [w']
   rw [Array.getElem?_setIfInBounds_ne (fun e=>hne e.symm)];exact hc
 refine⟨undef,w',.inr ⟨?_,rfl⟩,?_⟩
 ·simp only [execOp,hop,Sem.run_bind,hrun,Result.andThen_ok]
  rfl
 ·rw [hdn]
  have hgm:g∈h.keys:=List.mem_map.2 ⟨_,Heap.get_mem hg,rfl⟩
  have hkk:=Heap.keys_set h g (.vals (MapV Kf ((kv++[(a,cv)]).map (·.1))) ((kv++[(a,cv)]).map (·.2)))
  have kp:Keeps (Stab E.C h w) (Stab E.C (h.set g (.vals (MapV Kf ((kv++[(a,cv)]).map (·.1))) ((kv++[(a,cv)]).map (·.2)))) w') w w':=
   ⟨fun t b hb=>⟨hb.1,Nat.lt_of_lt_of_le hb.2.1 hfr.size,by rw [hkk];exact hb.2.2⟩,fun t b hb=>hfr.block b hb.2.1 (fun e=>hb.2.2 (e▸hgm)),hfr.has⟩
  refine s.setObj hg hfr ⟨_,us++[v],by simp only [w'];rw [Array.getElem?_setIfInBounds_self_of_lt hgl],?_,_,_,rfl,?_,?_⟩
  ·have q:=RepT.keep kp (RepT.snoc h3' hu)
   have e:kv.map (·.2)++[cv]=(kv++[(a,cv)]).map (·.2):=by simp
   rw [e] at q
   exact q
  ·simp only [Array.toList_push,List.map_append,List.map_cons,List.map_nil,hks]
  ·simp only [Array.toList_push,List.map_append,List.map_cons,List.map_nil,hvs]
theorem aw_insNewV {α:Type} [DecidableEq α] {Kf:α→Value} {t kt et g:TypeId} {kv:List (α×AV)} {x ky vl:Operand} {ck cv:AV} {a:α} (hop:o.op=.insert t x ky vl) (hdn:o.dst=none) (hw:wantA all σ o=some true)
 (ht:tMap E.P t=some (kt,et)) (hK:KeyOk E.P kt Kf) (hx:ev σ x=.c (.raw (.map (some g)))) (hg:h.get g=some (.vals (MapV Kf (kv.map (·.1))) (kv.map (·.2)))) (hk:ev σ ky=ck) (hka:∀S w u,Rep S w ck u→u=Kf a) (hv:ev σ vl=cv) (hvt:tupB cv=false)
 (hnew:vGet a kv=none) {h':Heap} (hh:h.set g (.vals (MapV Kf ((kv++[(a,cv)]).map (·.1))) ((kv++[(a,cv)]).map (·.2)))=h') (k:aw E (.ops all rest::K) σ h'):aw E (.ops all (o::rest)::K) σ h:=by
 subst hh
 refine aw_step hw (fun ac w s=> ?_) k
 have h1:=ev_rep s x
 rw [hx] at h1
 have h1':ac.eval x=.map (some g):=h1
 have h2:=ev_rep s ky
 rw [hk] at h2
 have h2':=hka _ _ _ h2
 have h3:=ev_rep s vl
 rw [hv] at h3
 have h3':=rep_of0 hvt h3
 obtain⟨v,hvv⟩:∃v,ac.eval vl=v:=⟨_,rfl⟩
 rw [hvv] at h3'
 obtain⟨ob,us,hb,hu,es,c,rfl,hks,hvs⟩:=s.heap g _ (Heap.get_mem hg)
 have hlen:es.toList.length=kv.length:=by
  have:=congrArg List.length hks
  simpa using this
 have hfind:=hK.find a (kv.map (·.1)) es.toList w hks
 have hask:=fAsk_v (S:=Stab E.C h w) (w:=w) a kv es.toList us 0 hvs hlen hu
 rw [hnew] at hask
 have hgl:g<w.heap.size:=(Array.getElem?_eq_some_iff.1 hb).1
 let w':World:={w with heap:=w.heap.setIfInBounds g (.map (es.push {key:=Kf a,val:=v,born:=c}) (c+1))}
 have hrun:(Instr.mapUpdate t (ac.eval x) (ac.eval ky) (ac.eval vl)).run E.P w=.ok () w':=by
  rw [h1',h2',hvv]
  unfold Instr.mapUpdate
  simp only [Sem.run_bind,run_underlying (tMap_spec ht),Result.andThen_ok,runGet hb,hK.check,hfind,hask,runSet _ hb]
  rfl
 have hfr:Fr (fun b=>b=g) w w':=by
  refine⟨rfl,rfl,rfl,by simp [w'],Nat.le_refl _,fun b _ hne=> ?_,fun g' m hh=> ?_⟩
  ·simp only [w'];rw [Array.getElem?_setIfInBounds_ne (fun e=>hne e.symm)]
  ·obtain⟨cs,ty,⟨fr,hc⟩,hs⟩:=hh
   refine⟨cs,ty,⟨fr,?_⟩,hs⟩
   have hne:g'≠g:=fun e=>by rw [e,hb] at hc;cases hc
   simp only [w']
   rw [Array.getElem?_setIfInBounds_ne (fun e=>hne e.symm)];exact hc
 refine⟨undef,w',.inr ⟨?_,rfl⟩,?_⟩
 ·simp only [execOp,hop,Sem.run_bind,hrun,Result.andThen_ok]
  rfl
 ·rw [hdn]
  have hgm:g∈h.keys:=List.mem_map.2 ⟨_,Heap.get_mem hg,rfl⟩
  have hkk:=Heap.keys_set h g (.vals (MapV Kf ((kv++[(a,cv)]).map (·.1))) ((kv++[(a,cv)]).map (·.2)))
  have kp:Keeps (Stab E.C h w) (Stab E.C (h.set g (.vals (MapV Kf ((kv++[(a,cv)]).map (·.1))) ((kv++[(a,cv)]).map (·.2)))) w') w w':=
   ⟨fun t b hb=>⟨hb.1,Nat.lt_of_lt_of_le hb.2.1 hfr.size,by rw [hkk];exact hb.2.2⟩,fun t b hb=>hfr.block b hb.2.1 (fun e=>hb.2.2 (e▸hgm)),hfr.has⟩
  refine s.setObj hg hfr ⟨_,us++[v],by simp only [w'];rw [Array.getElem?_setIfInBounds_self_of_lt hgl],?_,_,_,rfl,?_,?_⟩
  ·have q:=RepT.keep kp (RepT.snoc h3' hu)
   have e:kv.map (·.2)++[cv]=(kv++[(a,cv)]).map (·.2):=by simp
   rw [e] at q
   exact q
  ·simp only [Array.toList_push,List.map_append,List.map_cons,List.map_nil,hks]
  ·simp only [Array.toList_push,List.map_append,List.map_cons,List.map_nil,hvs]
end
end Go.AI
