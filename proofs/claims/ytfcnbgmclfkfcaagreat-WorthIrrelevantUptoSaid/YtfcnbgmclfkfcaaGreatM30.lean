/- Parts of one proof, laid by a program. -/
import Derived.Test.YtfcnbgmclfkfcaaGreatM00
import Derived.Test.YtfcnbgmclfkfcaaGreatM29
set_option linter.unusedSimpArgs false
set_option linter.unusedVariables false
namespace Go.Proofs.YtfcnbgmclfkfcaaGreat
open Go.AI Go.PN
noncomputable def eachL (val:Nat→Rat) (X:Rat) (n:Nat):List RD:=(List.range n).map fun i=>rd (val i/X)
theorem eachL_len (val:Nat→Rat) (X:Rat) (n:Nat):(eachL val X n).length=n:=by simp [eachL]
theorem eachL_succ (val:Nat→Rat) (X:Rat) (n:Nat):eachL val X (n+1)=eachL val X n++[rd (val n/X)]:=by simp [eachL,List.range_succ]
noncomputable def wcode (f:FM) (p:List RD):Int:=if fcode f≠0 then fcode f else if cohTo f f.nodes.length then pcode p f.vars else 7
theorem pc_ok {p:List RD} {v:Int} (h:pcode p v=0):(p.length:Int)=v∧∀r∈p,r.prob=true:=by
 unfold pcode at h
 split at h
 ·cases h
 ·rename_i h2
  split at h
  ·rename_i h3
   exact⟨Classical.not_not.1 h2,fun r hr=>List.all_eq_true.1 h3 r hr⟩
  ·cases h
theorem dp_of {D:DG} {p:List RD} (hD:dcode D=0) (hl:D.order.length=p.length) (hp:∀r∈p,r.prob=true):dpcode D p=0:=by
 unfold dpcode
 rw [if_neg (by rw [hD];simp)]
 unfold pcode
 rw [if_neg om,if_pos (List.all_eq_true.2 hp)]
structure WOk (f:FM) (p:List RD):Prop where
 c:fcode f=0
 coh:cohTo f f.nodes.length=true
 pc:pcode p f.vars=0
theorem wok_of {f:FM} {p:List RD} (h:wcode f p=0):WOk f p:=by
 unfold wcode at h
 by_cases h1:fcode f=0
 ·rw [if_neg (fun k=>k h1)] at h
  cases h2:cohTo f f.nodes.length with
  |true=>rw [h2] at h;exact⟨h1,h2,h⟩
  |false=>rw [h2] at h;cases h
 ·rw [if_pos h1] at h;exact absurd h h1
theorem WOk.code {f:FM} {p:List RD} (h:WOk f p):wcode f p=0:=by
 unfold wcode
 rw [if_neg (fun k=>k h.c),h.coh]
 exact h.pc
theorem WOk.len {f:FM} {p:List RD} (h:WOk f p):(p.length:Int)=f.vars:=(pc_ok h.pc).1
theorem WOk.prob {f:FM} {p:List RD} (h:WOk f p):∀r∈p,r.prob=true:=(pc_ok h.pc).2
theorem top_wV (f:FM) (p:List RD):sumQ p (formTo f (2^p.length)) (2^p.length)=wV f p:=by
 rw [sumQ_ex]
 refine ex_congr _ _ _ fun s hs=> ?_
 rw [form_range,tab_get _ _ s hs]
 rfl
theorem wV_fits {f:FM} {p:List RD} (hw:∀r∈p,r.wf 4) (h6:p.length≤6):fits (wV f p) 4000:=by
 rw [←top_wV]
 refine fits_mono (fits_sum (L:=4) om hw _) ?_
 have h3:2^p.length≤2^6:=Nat.pow_le_pow_right om om
 have h4:=Nat.mul_le_mul (show(2*4+2)*p.length+2≤62 from by omega) h3
 omega
theorem wf_set {p:List RD} (hw:∀r∈p,r.wf 4) (i:Nat) {q:RD} (hq:q.wf 4):∀r∈p.set i q,r.wf 4:=fun r hr=>by
 rcases List.mem_or_eq_of_mem_set hr with hr|rfl
 ·exact hw r hr
 ·exact hq
theorem wV1_fits {f:FM} {p:List RD} (hw:∀r∈p,r.wf 4) (h6:p.length≤6) (i:Nat):fits (wV f (p.set i (rd 1))) 4000:=wV_fits (wf_set hw i rd1_wf) (by rw [List.length_set];exact h6)
theorem wV0_fits {f:FM} {p:List RD} (hw:∀r∈p,r.wf 4) (h6:p.length≤6) (i:Nat):fits (wV f (p.set i rd0)) 4000:=wV_fits (wf_set hw i rd0_wf4) (by rw [List.length_set];exact h6)
noncomputable def cutsF (f:FM):List Nat:=sortN (solN (formTo f (2^f.vars.toNat)) (2^f.vars.toNat))
theorem cutsF_is {f:FM} {l:List Nat} (h:CutL (fun s=>valF f s f.top) l) (hl:∀s∈l,s<2^f.vars.toNat):cutsF f=l:=by
 unfold cutsF
 rw [form_range]
 exact sol_is h hl
noncomputable def fusL (f:FM) (p:List RD):List RD:=eachL (wF (cutsF f) p) (wV f p) p.length
noncomputable def achL (f:FM) (p:List RD):List RD:=eachL (fun i=>wV f (p.set i (rd 1))) (wV f p) p.length
noncomputable def cutT (l:List Nat) (i n:Nat):List Bool:=(List.range (2^n)).map fun s=>failsB (cutsI l i) s
theorem cut_sum (l:List Nat) (p:List RD) (i:Nat):sumQ p (cutT l i p.length) (2^p.length)=wF l p i:=by
 rw [sumQ_ex]
 unfold wF cutT
 refine ex_congr _ _ _ fun s hs=> ?_
 rw [tab_get _ _ s hs]
 rfl
theorem wF_fits {l:List Nat} {p:List RD} (hw:∀r∈p,r.wf 4) (h6:p.length≤6) (i:Nat):fits (wF l p i) 4000:=by
 rw [←cut_sum]
 refine fits_mono (fits_sum (L:=4) om hw _) ?_
 have h3:2^p.length≤2^6:=Nat.pow_le_pow_right om om
 have h4:=Nat.mul_le_mul (show(2*4+2)*p.length+2≤62 from by omega) h3
 omega
end Go.Proofs.YtfcnbgmclfkfcaaGreat
namespace Go.PN
open Go.AI
theorem sq_one {k:Nat} (h:k≠0):sq false k k=1:=by
 unfold sq sgn
 have:=Rat.mkRat_mul_left (n:=1) (d:=1) h
 rw [Int.mul_one,Nat.mul_one] at this
 simp only [Bool.false_eq_true,if_false]
 rw [this]
 rfl
theorem sq_div (x y:Bool) {n m d e:Nat} (hm:m≠0) (he:e≠0):sq (x !=y) (n*e) (d*m)=sq x n d/sq y m e:=by
 have h1:sq y m e*sq y e m=1:=by
  rw [←sq_mul,Nat.mul_comm e m,bne_self_eq_false]
  exact sq_one (Nat.mul_ne_zero hm he)
 have hb:sq y m e≠0:=fun h=>by rw [h,Rat.zero_mul] at h1;exact absurd h1 (by decide)
 have h2:(sq y m e)⁻¹=sq y e m:=by
  have h3:=Rat.inv_mul_cancel (sq y m e) hb
  have h4:(sq y m e)⁻¹*(sq y m e*sq y e m)=sq y e m:=by rw [←Rat.mul_assoc,h3,Rat.one_mul]
  rw [h1,Rat.mul_one] at h4
  exact h4
 rw [sq_mul,Rat.div_def,h2]
theorem RD.pn_ne {r:RD} (h:r.q≠0):r.pn≠0:=fun e=>h (by unfold RD.q;rw [e,sq_zero])
theorem q_div {a b:RD} {L:Nat} (hb:b.wf L) (hz:b.q≠0):sq (a.ps !=b.ps) (a.pn*b.pd) (a.pd*b.pn)=a.q/b.q:=sq_div _ _ (RD.pn_ne hz) (RD.pd_ne hb)
end Go.PN
namespace Go.Proofs.YtfcnbgmclfkfcaaGreat
open Go.AI Go.PN
attribute [local irreducible] aw Fa Fh DrK
set_option maxHeartbeats 1600000 in
theorem rdiv_fa (a b:RD) (ha:a.wf 1073741824) (hb:b.wf 1073741824) (hz:b.q≠0):Fa Tryz.prog 48 [.agg (rdc a),.agg (rdc b)] (.tup [.agg (rdc (rd (a.q/b.q))),.c .nilI]):=by
 obtain⟨l1,l2⟩:=RD.p_len ha om
 obtain⟨l3,l4⟩:=RD.p_len hb om
 have dd:a.pd*b.pn≠0:=Nat.mul_ne_zero (RD.pd_ne ha) (RD.pn_ne hz)
 have m1:=words_mul_len a.pn b.pd
 have m3:=words_mul_len a.pd b.pn
 have hl:(((words b.pn).length:Int)==0)=false:=by
  rw [beq_eq_false_iff_ne]
  intro e
  exact RD.pn_ne hz (words_eq_nil.1 (List.length_eq_zero_iff.1 om))
 refine fa_of_body Tryz.func48 rfl rfl (by simp [Tryz.ntmps48]) fun C hC=> ?_
 simp only [initS,Nat.reduceAdd]
 refine yG hl ?_
 refine yB hl fun g2 hn_g2=>?_
 refine yB (oj hl hn_g2) fun g3 hn_g3=>?_
 refine yA (oj hl (oj hn_g2 hn_g3)) fun g4 hn_g4=>?_
 have J1:=oj hl (oj hn_g2 (oj hn_g3 hn_g4))
 refine yG J1 ?_
 refine yC J1 (rparts_fa a ha) ?_
 refine yG J1 ?_
 refine yC J1 (rparts_fa b hb) ?_
 refine yGNG J1 ?_
 refine yC J1 (mulW _ _ ?_ ?_) ?_
 ·omega
 ·omega
 refine yG J1 ?_
 refine yC J1 (mulW _ _ ?_ ?_) ?_
 ·omega
 ·omega
 refine yG J1 ?_
 refine yC J1 (rform_fa _ _ _ ?_ ?_ dd) ?_
 ·omega
 ·omega
 rw [q_div hb hz]
 refine yGWSGT hC J1 ?_
 exact .tup ⟨.agg lerl_rd,.c .nilI,trivial⟩
set_option maxHeartbeats 1600000 in
theorem rdiv_zero (a b:RD) (ha:a.wf 1073741824) (hb:b.wf 1073741824) (hz:b.q=0):Fa Tryz.prog 48 [.agg (rdc a),.agg (rdc b)] (.tup [.agg (rdc rd0),.c (errA 8)]):=by
 have hp:b.pn=0:=Classical.byContradiction fun h=>sq_ne h (RD.pd_ne hb) hz
 have hl:(((words b.pn).length:Int)==0)=true:=by rw [hp,words_zero];rfl
 refine fa_of_body Tryz.func48 rfl rfl (by simp [Tryz.ntmps48]) fun C hC=> ?_
 simp only [initS,Nat.reduceAdd]
 refine yG hl ?_
 refine yB hl fun g2 hn_g2=>?_
 refine yB (oj hl hn_g2) fun g3 hn_g3=>?_
 refine yA (oj hl (oj hn_g2 hn_g3)) fun g4 hn_g4=>?_
 have J1:=oj hl (oj hn_g2 (oj hn_g3 hn_g4))
 refine yG J1 ?_
 refine yC J1 (rparts_fa a ha) ?_
 refine yG J1 ?_
 refine yC J1 (rparts_fa b hb) ?_
 refine yGPG J1 ?_
 refine yW J1 ?_
 refine ySGT hC J1 ?_
 exact .tup ⟨.agg ⟨.bool _,.nils,.nils,trivial⟩,.c (ler_errN rfl (by decide)),trivial⟩
end Go.Proofs.YtfcnbgmclfkfcaaGreat
namespace Go.Proofs.YtfcnbgmclfkfcaaGreat
open Go.AI Go.PN
attribute [local irreducible] aw Fa Fh DrK
set_option maxRecDepth 100000 in
set_option maxHeartbeats 1600000 in
theorem bcheck_fa (d:DG) (p:List RD) (es:List Int) (hw:∀r∈p,r.wf 500000000) (hl:p.length≤1099511627776) (hl1:d.order.length≤1099511627776) (hl2:d.nodes.length≤1099511627776) (he:es.length≤1099511627776):
 Fa Tryz.prog 81 [.agg (dgc false d),.c (rats false p),.c (is false es)] (.c (errA (bcode d p es))):=by
 refine fa_of_body Tryz.func81 rfl rfl (by simp [Tryz.ntmps81]) fun C hC=> ?_
 simp only [initS,Nat.reduceAdd]
 refine xG ?_
 refine xB fun g3 hn_g3=>?_
 refine yG hn_g3 ?_
 refine yC hn_g3 (dcheck_fa d hl1 hl2) ?_
 refine yG hn_g3 ?_
 refine yF hn_g3 (fun hb=>?_) fun hb=>?_
 ·have hb':dcode d≠0:=by simpa using hb
  have e:bcode d p es=dcode d:=by
   have hdp:dpcode d p=dcode d:=by unfold dpcode;rw [if_pos hb']
   unfold bcode;rw [hdp,if_pos hb']
  rw [e]
  refine yGT hC hn_g3 ?_
  exact .one (.c ler_err)
 have hb':dcode d=0:=by simpa using hb
 have hdp:dpcode d p=pcode p d.order.length:=by unfold dpcode;rw [if_neg (by simp [hb'])]
 refine yG hn_g3 ?_
 refine yC hn_g3 (scheck_fa p d.order.length hw hl) ?_
 refine yG hn_g3 ?_
 refine yF hn_g3 (fun hc=>?_) fun hc=>?_
 ·have hc':pcode p d.order.length≠0:=by simpa using hc
  have e:bcode d p es=pcode p d.order.length:=by unfold bcode;rw [hdp,if_pos hc']
  rw [e]
  refine yGT hC hn_g3 ?_
  exact .one (.c ler_err)
 have hc':pcode p d.order.length=0:=by simpa using hc
 have e:bcode d p es=if es.all (fun i=>decide (0≤i)&&decide (i<d.order.length)) then 0 else 10:=by unfold bcode;rw [hdp,if_neg (by simp [hc'])]
 rw [e]
 refine yG hn_g3 ?_
 refine aw_lp (fun k:Nat=>[(3,.c (.optr g3 0)),(24,.c (is false es)),(25,.c (.int .i64 es.length)),(26,.c (.int .i64 k))]) (fun _=>[(g3,.cells 55 3 (ofL (dgc false d)))]) (fun k=>k≤es.length∧∀j,j<k→0≤es.getD j 0∧es.getD j 0<d.order.length) (fun k=>es.length-k) 0 (zB hn_g3) zZ ⟨Nat.zero_le _,fun j hj=>by omega⟩ ?_
 rintro k ⟨hk,hz⟩
 refine yG hn_g3 ?_
 refine yF hn_g3 (fun h1=>?_) fun h1=>?_
 ·have h1':k<es.length:=dT h1
  have hbad:¬(0≤es.getD k 0∧es.getD k 0<d.order.length)→es.all (fun i=>decide (0≤i)&&decide (i<d.order.length))=false:=fun h=>by
   rw [List.all_eq_false]
   refine⟨es[k],List.getElem_mem h1',?_⟩
   rw [getDZ h1'] at h
   simpa using h
  refine yG hn_g3 ?_
  refine aw_split 32 (zE hn_g3) (fun h2=> ?_) (fun h2=> ?_)<;>refine yS hn_g3 ?_
  ·have h2':=of_decide_eq_true h2
   rw [hbad om]
   refine yGPGT hC hn_g3 ?_
   exact .one (.c (ler_errN rfl (by decide)))
  ·have h2':=of_decide_eq_false h2
   refine yG hn_g3 ?_
   refine yF hn_g3 (fun h3=>?_) fun h3=>?_
   ·have h3':=of_decide_eq_true h3
    rw [hbad om]
    refine yGT hC hn_g3 ?_
    exact .one (.c (ler_errN rfl (by decide)))
   ·have h3':=of_decide_eq_false h3
    refine yG hn_g3 ?_
    exact aw_stop ⟨k+1,by omega,(zB hn_g3),zZ,by omega,fun j hj=>by
     by_cases e:j=k
     ·subst e;omega
     ·exact hz j om⟩
 ·have h1':k=es.length:=dF h1
  subst h1'
  have hall:es.all (fun i=>decide (0≤i)&&decide (i<d.order.length))=true:=by
   rw [List.all_eq_true]
   intro x hx
   obtain⟨j,hj,rfl⟩:=List.mem_iff_getElem.1 hx
   have:=hz j hj
   rw [getDZ hj] at this
   simpa using this
  rw [hall]
  refine yGT hC hn_g3 ?_
  exact .one (.c (ler_err0 rfl))
set_option maxRecDepth 100000 in
set_option maxHeartbeats 1600000 in
theorem with_fa (d:DG) (p:List RD) (hs:Small d p) (h0:dpcode d p=0) (i:Nat) (hi:i<p.length) (q:RD) (hq:q.wf 4) (hqp:q.prob=true):
 Fa Tryz.prog 100 [.agg (dgc false d),.c (rats false p),.c (.int .i64 i),.agg (rdc q)] (.tup [.agg (rdc (rd (prS d (p.set i q)))),.c .nilI]):=by
 have s1:=hs.l
 have hp:=sprobability_fa d (p.set i q) (hs.set h0 hq)
 rw [dp_set h0 hqp,if_pos rfl] at hp
 refine fa_of_body Tryz.func100 rfl rfl (by simp [Tryz.ntmps100]) fun C hC=> ?_
 simp only [initS,Nat.reduceAdd]
 refine xG ?_
 refine xB fun g4 hn_g4=>?_
 refine yG hn_g4 ?_
 refine yB hn_g4 fun g7 hn_g7=>?_
 refine yG (oj hn_g4 hn_g7) ?_
 refine yA (oj hn_g4 hn_g7) fun g8 hn_g8=>?_
 have J1:=oj hn_g4 (oj hn_g7 hn_g8)
 refine yG J1 ?_
 refine aw_callh (hr:=[(g8,.cells 30 3 (ofL [.bool false,.nils,.nils])),(g7,.cells 30 3 (ofL (rdc q))),(g4,.cells 55 3 (ofL (dgc false d)))]) (clone_fh p om) rfl rfl rfl (List.Perm.refl _) (zL J1) ?_
 rintro _ _ ⟨og,hog,rfl,rfl⟩ hk2
 obtain⟨g,rfl⟩:∃g,og=some g:=by
  cases og with
  |none=>have:=hog rfl;omega
  |some g=>exact⟨g,rfl⟩
 have hg:=hk2 g (by simp [Heap.keys,gh])
 replace hg:=Heap.ne_of hg
 dsimp only [Heap.ne] at hg
 dsimp only [gs,gh,List.cons_append,List.nil_append]
 have J2:=oj hn_g4 (oj hn_g7 (oj hn_g8 hg))
 refine ySGWS J2 ?_
 rw [ratsF_upd om]
 refine yG J2 ?_
 refine aw_callq hp rfl rfl rfl (by refine yS J2 ?_;exact⟨.agg (lel_refl _),.c (le_oslr2 (zE J2) (by rw [List.length_set]))⟩) ?_
 refine ySGWSG J2 ?_
 refine yT hC J2 ?_
 exact .tup ⟨.agg lerl_rd,.c .nilI,trivial⟩
end Go.Proofs.YtfcnbgmclfkfcaaGreat
namespace Go.AI
section
variable {E : Env} {K : List It} {l : List Oper} {FP FP' : Heap} {σ σ' : Sl} {h : Heap} {o : Oper} {i m : Nat} {cs : List (Nat × Nat)}
theorem cw_buildSlice {t e size bytes len:Nat} {xs:List Operand} {cells:List CV} (ho:l[i]?=some o) (hop:o.op=.buildSlice t len (enumO 0 xs).toArray) (hw:wantA l σ o=some true) (hd:dstOk E.N o.dst=true) (ht:tElem E.P t=some (e,size,bytes))
 (hz:(tZero E.P e).isSome=true) (hl:xs.length=len) (hsm:len*size≤16777216) (hlm:len≤16777216) (hx:∀x∈xs,(ev σ x).flat=true∧(ev σ x).cells.all CV.solid=true∧(ev σ x).cells.length=size) (hc:(xs.map (ev σ)).flatMap AV.cells=cells) (hops:∀x∈xs,x∈o.op.operands) (hFP:Has0 FP' h)
 (k:∀g,g∉h.keys→CW E l K FP' cs (σ.setO o.dst (.c (.osl g size 0 len))) ((g,.cells e (len*size) (ofL cells))::h)) (hm:m=2∨m=1∧FP'=FP:=by first|exact .inl rfl|exact .inr ⟨rfl,rfl⟩):CW E l K FP ((i,m)::cs) σ h:=by
 refine .pin ho hm (R:=fun r h2=>∃g,g∉h.keys∧r=.c (.osl g size 0 len)∧h2=(g,.cells e (len*size) (ofL cells))::h) (fun σ' K hs=> ?_) ?_ ?_
 ·have he:∀x∈xs,ev σ' x=ev σ x:=fun x hxx=>ev_same (hops x hxx) hs
  exact aw_buildSlice hop ((want_same hs).trans hw) hd ht hz hl hsm hlm (fun x hxx=>by rw [he x hxx];exact hx x hxx) (by rw [List.map_congr_left he];exact hc) fun g hg=>aw_ops_nil (aw_stop ⟨_,⟨g,hg,rfl,rfl⟩,rfl⟩)
 ·rintro r h2 ⟨g,_,_,rfl⟩;exact fun p hp=>List.mem_cons_of_mem _ (hFP p hp)
 ·rintro r h2 ⟨g,hg,rfl,rfl⟩;exact k g hg
theorem cw_callqP {f:FuncId} {xs:List Operand} {ts:Array TypeId} {args:List AV} {r:AV} (ho:l[i]?=some o) (hf:Fa E.P f args r) (hop:o.op=.call {callee:=.value (.func f),args:=xs.toArray,argTypes:=ts}) (hw:wantA l σ o=some true) (hd:dstOk E.N o.dst=true)
 (le:LeA h (xs.map (ev σ)) args) (hFP:Has0 FP' h) (k:CW E l K FP' cs (σ.setO o.dst r) h) (hm:m=2∨m=1∧FP'=FP:=by first|exact .inl rfl|exact .inr ⟨rfl,rfl⟩):CW E l K FP ((i,m)::cs) σ h:=by
 refine .pin ho hm (R:=fun x h2=>x=r∧h2=h) (fun σ' K hs=> ?_) ?_ ?_
 ·have he:xs.map (ev σ')=xs.map (ev σ):=evs_same (fun x hx=>by rw [hop];simp [Op.operands,Call.operands,hx]) hs
  exact aw_callq hf hop ((want_same hs).trans hw) hd (by rw [he];exact le) (aw_ops_nil (aw_stop ⟨r,⟨rfl,rfl⟩,rfl⟩))
 ·rintro _ _ ⟨_,rfl⟩;exact hFP
 ·rintro _ _ ⟨rfl,rfl⟩;exact k
end
end Go.AI
namespace Go.AI
theorem updF_mid (xs bs:List CV) (i:Nat) (h:i+bs.length≤xs.length):updF (ofL xs) i bs=ofL (xs.take i++(bs++xs.drop (i+bs.length))):=by
 funext j
 rw [ofL_at]
 have hl:(xs.take i).length=i:=by rw [List.length_take];omega
 by_cases h1:j<i
 ·rw [updF_out _ _ _ _ (.inl h1),ofL_at,List.getElem?_append_left om,List.getElem?_take,if_pos h1]
 ·rw [List.getElem?_append_right om,hl]
  by_cases h2:j<i+bs.length
  ·obtain⟨q,rfl⟩:∃q,j=i+q:=⟨j-i,by omega⟩
   rw [updF_in _ _ _ _ om,ofL_at,show i+q-i=q from by omega,List.getElem?_append_left om]
  ·rw [updF_out _ _ _ _ (.inr om),ofL_at,List.getElem?_append_right om,List.getElem?_drop]
   congr 2
   omega
@[go_sem ↓] theorem updF_11_4 (a b c d e f g h i j k x:CV):updF (ofL [a,b,c,d,e,f,g,h,i,j,k]) 4 [x]=ofL [a,b,c,d,x,f,g,h,i,j,k]:=updF_mid [a,b,c,d,e,f,g,h,i,j,k] [x] 4 (by simp)
@[go_sem ↓] theorem updF_11_5 (a b c d e f g h i j k x y z:CV):updF (ofL [a,b,c,d,e,f,g,h,i,j,k]) 5 [x,y,z]=ofL [a,b,c,d,e,x,y,z,i,j,k]:=updF_mid [a,b,c,d,e,f,g,h,i,j,k] [x,y,z] 5 (by simp)
@[go_sem ↓] theorem updF_11_8 (a b c d e f g h i j k x y z:CV):updF (ofL [a,b,c,d,e,f,g,h,i,j,k]) 8 [x,y,z]=ofL [a,b,c,d,e,f,g,h,x,y,z]:=updF_mid [a,b,c,d,e,f,g,h,i,j,k] [x,y,z] 8 (by simp)
end Go.AI
namespace Go.Proofs.YtfcnbgmclfkfcaaGreat
open Go.AI Go.PN
attribute [local irreducible] aw Fa Fh DrK
abbrev SY (gS:Nat) (f:FM) (p:List RD) (o:List Int) (D:DG) (X:Rat):Heap:=
 [(gS,.cells 76 11 (ofL (fmc false f++[rats false p,is true o]++dgc true D++rdc (rd X))))]
set_option maxRecDepth 100000 in
set_option maxHeartbeats 3200000 in
theorem wopen_err (f:FM) (p:List RD) (hc:wcode f p≠0) (hn:f.nodes.length≤1099511627776) (ha:ArgsOk f) (ht0: -9223372036854775808≤f.top) (ht:f.top≤9223372036854775807) (hw:∀r∈p,r.wf 500000000) (hl:p.length≤1099511627776):
 Fh Tryz.prog 46 [] [.agg (fmc false f),.c (rats false p)] (fun x h=>x=.tup [.c (.raw (.pointer none)),.c (errA (wcode f p))]∧h=[]):=by
 unfold wcode at hc⊢
 refine fh_of_body Tryz.func46 rfl rfl (by simp [Tryz.ntmps46]) fun C hC=> ?_
 simp only [initS,Nat.reduceAdd]
 refine xG ?_
 refine xB fun g2 hn_g2=>?_
 refine yG hn_g2 ?_
 refine aw_callq (fcheck_fa f hn ha ht0 ht) rfl rfl rfl (zL hn_g2) ?_
 by_cases h1:fcode f=0
 ·have z1:=ieq_t h1
  rw [if_neg (fun h=>h h1)] at hc⊢
  have J1:=oj hn_g2 z1
  refine ySGNG J1 ?_
  refine aw_callq (csyntax_fa f hn ha h1) rfl rfl rfl (zL J1) ?_
  cases h2:cohTo f f.nodes.length
  ·refine ySGNG J1 ?_
   refine yP J1 ?_
   refine yG J1 ?_
   refine aw_rethw (h':=[]) rfl (List.nil_sublist _) (fun R hR=> ?_)
   simp only [go_sem,hn_g2,z1]
   refine hR _ rfl ?_
   clear hR R
   exact⟨rfl,rfl⟩
  ·rw [h2] at hc
   have h3:pcode p f.vars≠0:=hc
   have z3:=ieq_f h3
   have J2:=oj hn_g2 (oj z1 z3)
   refine ySGNGNG J2 ?_
   refine aw_callq (scheck_fa p f.vars hw hl) rfl rfl rfl (zL J2) ?_
   refine ySGPG J2 ?_
   refine aw_rethw (h':=[]) rfl (List.nil_sublist _) (fun R hR=> ?_)
   simp only [go_sem,hn_g2,z1,z3]
   refine hR _ rfl ?_
   clear hR R
   exact⟨rfl,rfl⟩
 ·have z1:=ieq_f h1
  rw [if_pos h1]
  have J3:=oj hn_g2 z1
  refine ySGPG J3 ?_
  refine aw_rethw (h':=[]) rfl (List.nil_sublist _) (fun R hR=> ?_)
  simp only [go_sem,hn_g2,z1]
  refine hR _ rfl ?_
  clear hR R
  exact⟨rfl,rfl⟩
set_option maxRecDepth 100000 in
set_option maxHeartbeats 6400000 in
theorem wopen_fh (f:FM) (p:List RD) (hk:WOk f p) (h6:f.vars≤6) (hn:f.nodes.length≤1099511627776) (ha:ArgsOk f) (hw:∀r∈p,r.wf 4):
 Fh Tryz.prog 46 [] [.agg (fmc false f),.c (rats false p)] (fun x h=>∃gS o D,Perm0 o∧o.length=p.length∧DOut o (fun s=>valF f s f.top) D∧x=.tup [.c (.optr gS 0),.c .nilI]∧h=SY gS f p o D (wV f p)):=by
 have ok:=fr_ok hk.c
 have v0:=ok.v0
 have n128:=ok.n128
 have t0:=ok.t0
 have t1:=ok.t1
 have z1:=ieq_t hk.c
 have z2:=ieq_t hk.pc
 have z3:=hk.coh
 have hpl:(p.length:Int)=f.vars:=(pc_ok hk.pc).1
 refine fh_of_body Tryz.func46 rfl rfl (by simp [Tryz.ntmps46]) fun C hC=> ?_
 simp only [initS,Nat.reduceAdd]
 refine yG (oj z1 (oj z2 z3)) ?_
 refine yB (oj z1 (oj z2 z3)) fun g2 hn_g2=>?_
 have J1:=oj z1 (oj z2 (oj z3 hn_g2))
 refine yG J1 ?_
 refine aw_callq (fcheck_fa f hn ha om om) rfl rfl rfl (zL J1) ?_
 refine ySGNG J1 ?_
 refine aw_callq (csyntax_fa f hn ha hk.c) rfl rfl rfl (zL J1) ?_
 refine ySGNGNG J1 ?_
 refine aw_callq (scheck_fa p f.vars (fun r hr=>wf_mono (hw r hr) om) om) rfl rfl rfl (zL J1) ?_
 refine ySGNG J1 ?_
 refine yB J1 fun gS hn_gS=>?_
 have J2:=oj z1 (oj z2 (oj z3 (oj hn_g2 hn_gS)))
 refine yG J2 ?_
 refine aw_callh (hc:=[]) (oDepth_fh f hn ha hk.c) rfl rfl rfl (.refl _) (zL J2) ?_
 rintro _ _ ⟨rfl,o,rfl,hpo,hol⟩ _
 have hoc:ocode o o.length=0:=perm_code hpo om
 refine ySGWSG J2 ?_
 refine yN J2 ?_
 refine yG J2 ?_
 refine aw_cw ([(gS,.cells 76 11 (ofL [.int .i64 f.vars,fns false f.nodes,.int .i64 f.top,rats false p,is true o,.nils,.nils,.int .i64 0,.bool false,.nils,.nils])),(g2,.cells 24 3 (ofL (fmc false f)))]) [(0,0),(1,0),(2,0),(3,0),(4,0),(5,0),(6,1),(7,0),(8,0),(10,0),(11,0),(9,3),(12,2),(13,0)] ty_mixed (by kernel_rfl) eI ?_
 refine yG J2 ?_
 refine cw_callh (hc:=[]) rfl (build_fh f hn ha hk.c o hoc hol om) rfl rfl rfl (.refl _) (zL J2) (by rintro _ _ ⟨rfl,_⟩;exact eI) ?_ (hm:=.inr ⟨rfl,rfl⟩)
 rintro _ _ ⟨rfl,D,hD,rfl⟩ _
 refine ySG J2 ?_
 iterate 1 (refine wc3 rfl rfl fun R r=> ?_;simp only [go_sem,z1,z2,z3,hn_g2,hn_gS];with_reducible show R (some _);with_reducible refine r _ _ ?_;clear r R)
 have J3:=oj z1 (oj z2 (oj z3 (oj hn_g2 hn_gS)))
 refine yS J3 ?_
 refine cw_store (FP':=[]) rfl rfl rfl rfl rfl (zE J3) (zE J3) (zE J3) (zE J3) (fun _ e=>by cases e) rfl rfl (by show 5+3≤11;omega) rfl has0_nil ?_
 refine ySG J3 ?_
 refine yN J3 ?_
 have hoD:=hD.order
 have hDl:D.order.length=p.length:=by rw [hoD];omega
 have hsD:Small D p:=⟨hw,by omega,by omega,by have:=(dg_ok hD.code).n4096;omega,fun _=>by omega⟩
 have hdp:=dp_of hD.code hDl hk.prob
 have hsp:=sprobability_fa D p hsD
 rw [hdp,if_pos rfl,show sumQ p (tabL D) (2^p.length)=wV f p from prS_wV hD hDl,show errA 0=CV.nilI from rfl] at hsp
 refine yG J3 ?_
 refine yC J3 (hsp) ?_
 refine yGWSG J3 ?_
 refine aw_rethw (h':=SY gS f p o D (wV f p)) rfl (List.Sublist.cons_cons _ (List.nil_sublist _)) (fun R hR=> ?_)
 simp only [go_sem,z1,z2,z3,hn_g2,hn_gS]
 refine hR _ rfl ?_
 clear hR R
 exact⟨gS,o,D,hpo,by omega,hD,rfl,rfl⟩
set_option maxRecDepth 100000 in
set_option maxHeartbeats 3200000 in
theorem each_zero (gS:Nat) (f:FM) (p:List RD) (o:List Int) (D:DG) {X:Rat} (hX:X=0) (H:Heap) (fc:FuncId) (gs':List Nat):
 Fh Tryz.prog 54 (SY gS f p o D X++H) [.c (.optr gS 0),.c (fnC fc gs')] (fun r h=>r=.tup [.c .nils,.c (errA 8)]∧h=SY gS f p o D X++H):=by
 subst hX
 have hs:(signQ (rd 0).q==0)=true:=by rw [rd_q];rfl
 refine fh_of_body Tryz.func54 rfl rfl (by simp [Tryz.ntmps54]) fun C hC=> ?_
 simp only [initS,Nat.reduceAdd]
 refine yG hs ?_
 refine yC hs (rsign_fa (rd 0) (rd_wf (fits_mono fits_zero ?_))) ?_
 ·omega
 refine yGPGU hs ?_
 exact⟨rfl,rfl⟩
set_option maxRecDepth 100000 in
set_option maxHeartbeats 3200000 in
theorem each_fh {α:Type} (H0 H:α→Heap) (R0:Heap) (F:α→Nat→Prop) (val:Nat→Rat) (fc:FuncId) (gs':List Nat) (gS:Nat) (f:FM) (p:List RD) (o:List Int) (D:DG) {X:Rat} (hX:X≠0) (hXf:fits X 4000) (hpl:p.length≤24) (hv:∀i,i<p.length→fits (val i) 20000) (hpm:∀x,(SY gS f p o D X++H0 x).Perm (H x++R0))
 (hcb:∀(i:Nat) (x:α),i<p.length→F x i→Fh Tryz.prog fc (H x) ([.c (.int .i64 i)]++gs'.map fun g=>.c (.optr g 0)) (fun r h=>∃y,F y (i+1)∧r=.tup [.agg (rdc (rd (val i))),.c .nilI]∧h=H y)) (x0:α) (h0:F x0 0):
 Fh Tryz.prog 54 (SY gS f p o D X++H0 x0) [.c (.optr gS 0),.c (fnC fc gs')] (fun r h=>∃y og,F y p.length∧(og=none→p.length=0)∧r=.tup [.c (gs og 3 p.length),.c .nilI]∧h=(SY gS f p o D X++H0 y)++gh og 30 (p.length*3) (ratsF (eachL val X p.length))):=by
 have hs:(signQ (rd X).q==0)=false:=by
  rw [rd_q]
  unfold signQ
  rw [if_neg hX]
  split<;>rfl
 have hXw:(rd X).wf 1073741824:=rd_wf (fits_mono hXf om)
 refine fh_of_body Tryz.func54 rfl rfl (by simp [Tryz.ntmps54]) fun C hC=> ?_
 simp only [initS,Nat.reduceAdd]
 refine yG hs ?_
 refine yC hs (rsign_fa (rd X) hXw) ?_
 refine yGNG hs ?_
 refine aw_lp (fun x:α×Option Nat×Nat=>[(0,.c (.optr gS 0)),(1,.c (fnC fc gs')),(6,.c (gs x.2.1 3 x.2.2)),(21,.c (.int .i64 p.length)),(22,.c (.int .i64 x.2.2))]) (fun x=>(SY gS f p o D X++H0 x.1)++gh x.2.1 30 (x.2.2*3) (ratsF (eachL val X x.2.2)))
  (fun x=>x.2.2≤p.length∧F x.1 x.2.2∧(x.2.1=none→x.2.2=0)) (fun x=>p.length-x.2.2) (x0,none,0) (zB hs) (by show List.Sublist ((SY gS f p o D X++H0 x0)++[]) _;rw [List.append_nil];exact List.Sublist.refl _) ⟨Nat.zero_le _,h0,fun _=>rfl⟩ ?_
 rintro ⟨x,og,k⟩ ⟨hk,hF,hog⟩
 dsimp only at hk hF hog⊢
 refine yG hs ?_
 refine yF hs (fun h1=>?_) fun h1=>?_
 ·have h1':k<p.length:=dT h1
  refine yG hs ?_
  refine aw_callhv (gs:=gs') (hr:=R0++gh og 30 (k*3) (ratsF (eachL val X k))) (hcb k x h1' hF) rfl rfl rfl (zE hs) (by rw [←List.append_assoc];exact(hpm x).append_right _) (zL hs) ?_
  rintro _ _ ⟨y,hFy,rfl,rfl⟩ _
  refine aw_perm (h':=(SY gS f p o D X++H0 y)++gh og 30 (k*3) (ratsF (eachL val X k))) (by rw [←List.append_assoc];exact(hpm y).symm.append_right _) ?_
  refine ySG hs ?_
  refine yA hs fun g8 hn_g8=>?_
  have J1:=oj hs hn_g8
  refine yGWSGNG J1 ?_
  refine aw_cw ([(g8,.cells 30 3 (ofL (rdc (rd (val k))))),(gS,.cells 76 11 (ofL (fmc false f++[rats false p,is true o]++dgc true D++rdc (rd X))))]) [(0,0),(1,0),(2,0),(3,0),(4,0),(5,0),(6,0),(7,0),(8,3),(9,2),(10,0)] ty_mixed (by kernel_rfl) eI ?_
  refine yG J1 ?_
  refine cw_callq rfl (rdiv_fa (rd (val k)) (rd X) (rd_wf (fits_mono (hv k h1') om)) hXw (by rw [rd_q];exact hX)) rfl rfl rfl (fun _ _=>(zL J1)) ?_
  rw [rd_q,rd_q]
  refine ySG J1 ?_
  iterate 1 (refine wc3 rfl rfl fun R r=> ?_;simp only [go_sem,hs,hn_g8];with_reducible show R (some _);with_reducible refine r _ _ ?_;clear r R)
  have J2:=oj hs hn_g8
  refine yS J2 ?_
  refine cw_store (FP':=[]) rfl rfl rfl rfl rfl (zE J2) (zE J2) (zE J2) (zE J2) (fun _ e=>by cases e) rfl rfl (Nat.le_refl 3) rfl has0_nil ?_
  refine ySGNG J2 ?_
  refine aw_push (pre:=((g8,.cells 30 3 (ofL (rdc (rd (val k/X)))))::(SY gS f p o D X++H0 y))) rfl rfl rfl rfl rfl rfl rfl (zE J2) (zE J2) (by rfl) om om (zE J2) om (by exact hog) (zE J2) (by rfl) (by rfl) (by first|rfl|simp only [Nat.mul_one,List.nil_append,List.cons_append]<;>rfl) (by unfold maxLen;omega) om (by exact rats_push (eachL_len val X k) _) fun gp hn_gp=> ?_
  replace hn_gp:=Heap.ne_of hn_gp
  first|dsimp only [Heap.ne,gh] at hn_gp|dsimp only [Heap.ne] at hn_gp|skip
  have J3:=oj hs (oj hn_g8 hn_gp)
  refine ySG J3 ?_
  rw [←eachL_succ]
  exact aw_stop ⟨(y,some gp,k+1),by dsimp only;omega,(zB J3),List.Sublist.cons _ (List.Sublist.refl _),by dsimp only;omega,hFy,some_ne⟩
 ·have h1':k=p.length:=dF h1
  subst h1'
  refine yG hs ?_
  refine yU hs ?_
  exact⟨x,og,hF,hog,rfl,rfl⟩
end Go.Proofs.YtfcnbgmclfkfcaaGreat
namespace Go.Proofs.YtfcnbgmclfkfcaaGreat
open Go.AI Go.PN
attribute [local irreducible] aw Fa Fh DrK
theorem bcode_ok {d:DG} {p:List RD} {es:List Int} (h:bcode d p es=0):dpcode d p=0∧∀i∈es,0≤i∧i<d.order.length:=by
 unfold bcode at h
 split at h
 ·rename_i h1;exact absurd h h1
 ·rename_i h1
  split at h
  ·rename_i h2
   refine⟨by omega,fun i hi=> ?_⟩
   have:=List.all_eq_true.1 h2 i hi
   simpa using this
  ·cases h
end Go.Proofs.YtfcnbgmclfkfcaaGreat
namespace Go.Proofs.YtfcnbgmclfkfcaaGreat
open Go.AI Go.PN
attribute [local irreducible] aw Fa Fh DrK
def chcode (d:DG) (p:List RD) (i:Int) (q:RD):Int:=if bcode d p [i]≠0 then bcode d p [i] else if q.prob then 0 else 3
set_option maxRecDepth 100000 in
set_option maxHeartbeats 1600000 in
theorem change_fa (d:DG) (p:List RD) (hs:Small d p) (i:Int) (q:RD) (hq:q.wf 4):
 Fa Tryz.prog 47 [.agg (dgc false d),.c (rats false p),.c (.int .i64 i),.agg (rdc q)] (.tup [.agg (rdc (if chcode d p i q=0 then rd (prS d (p.set i.toNat q)) else rd0)),.c (errA (chcode d p i q))]):=by
 have s1:=hs.l
 have s2:=hs.o
 have s3:=hs.n
 have hb:=bcheck_fa d p [i] hs.w5 om om om (by simp)
 refine fa_of_body Tryz.func47 rfl rfl (by simp [Tryz.ntmps47]) fun C hC=> ?_
 simp only [initS,Nat.reduceAdd]
 refine xG ?_
 refine xB fun g4 hn_g4=>?_
 refine yG hn_g4 ?_
 refine yB hn_g4 fun g7 hn_g7=>?_
 refine yG (oj hn_g4 hn_g7) ?_
 refine yA (oj hn_g4 hn_g7) fun g8 hn_g8=>?_
 have J1:=oj hn_g4 (oj hn_g7 hn_g8)
 refine yG J1 ?_
 refine aw_buildSlice (xs:=[.tmp 13]) (cells:=[.int .i64 i]) rfl rfl rfl (zE J1) (by refine yS J1 ?_;rfl) rfl om om (by intro x hx;simp only [List.mem_singleton] at hx;subst hx;exact⟨rfl,rfl,rfl⟩) rfl fun g14 hn_g14=> ?_
 replace hn_g14:=Heap.ne_of hn_g14
 dsimp only [Heap.ne] at hn_g14
 have J2:=oj hn_g4 (oj hn_g7 (oj hn_g8 hn_g14))
 refine yS J2 ?_
 refine aw_frzT (t:=14) (isF [i]) (zE J2) (zE J2) om (hC g14) (fun q hq=>by match q,hq with|0,_=>rfl) rfl (zE J2) ?_
 refine ySG J2 ?_
 refine yC J2 (hb) ?_
 refine yG J2 ?_
 refine yF J2 (fun h1=>?_) fun h1=>?_
 ·have h1':bcode d p [i]≠0:=by simpa using h1
  have e:chcode d p i q=bcode d p [i]:=by unfold chcode;rw [if_pos h1']
  rw [e,if_neg h1']
  refine yGWSGT hC J2 ?_
  exact .tup ⟨.agg ⟨.bool _,.nils,.nils,trivial⟩,.c ler_err,trivial⟩
 have h1':bcode d p [i]=0:=by simpa using h1
 have e:chcode d p i q=if q.prob then 0 else 3:=by unfold chcode;rw [if_neg (by simp [h1'])]
 rw [e]
 obtain⟨h0,hr⟩:=bcode_ok h1'
 obtain⟨ok,hpl,_⟩:=dp_ok h0
 have hi:=hr i (by simp)
 refine yG J2 ?_
 refine yC J2 (rprob_fa q (wf_mono hq ?_)) ?_
 ·omega
 refine yG J2 ?_
 refine yF J2 (fun h2=>?_) fun h2=>?_
 ·have h2':q.prob=false:=by simpa using h2
  rw [h2']
  refine yGWSGT hC J2 ?_
  exact .tup ⟨.agg ⟨.bool _,.nils,.nils,trivial⟩,.c (ler_errN rfl (by decide)),trivial⟩
 have h2':q.prob=true:=by simpa using h2
 rw [h2',if_pos rfl,if_pos rfl]
 obtain⟨a,rfl⟩:∃a:Nat,i=a:=⟨i.toNat,by omega⟩
 rw [Int.toNat_natCast]
 refine yG J2 ?_
 refine yC J2 (with_fa d p hs h0 a ?_ q hq h2') ?_
 ·omega
 refine yGWSGT hC J2 ?_
 exact .tup ⟨.agg lerl_rd,.c .nilI,trivial⟩
end Go.Proofs.YtfcnbgmclfkfcaaGreat
namespace Go.Proofs.YtfcnbgmclfkfcaaGreat
open Go.AI Go.PN
attribute [local irreducible] aw Fa Fh DrK
structure WSm (f:FM) (p:List RD):Prop where
 hn:f.nodes.length≤1099511627776
 ha:ArgsOk f
 t0: -9223372036854775808≤f.top
 t1:f.top≤9223372036854775807
 w:∀r∈p,r.wf 4
 l:p.length≤100
 h6:fcode f=0→(p.length:Int)=f.vars→f.vars≤6
theorem WSm.w5 {f:FM} {p:List RD} (h:WSm f p):∀r∈p,r.wf 500000000:=fun r hr=>wf_mono (h.w r hr) om
theorem WSm.v6 {f:FM} {p:List RD} (h:WSm f p) (hk:WOk f p):f.vars≤6:=h.h6 hk.c hk.len
noncomputable def mcode (f:FM) (p:List RD):Int:=if wcode f p≠0 then wcode f p else if wV f p=0 then 8 else 0
theorem m_bad {f:FM} {p:List RD} (h:wcode f p≠0):mcode f p=wcode f p:=by unfold mcode;rw [if_pos h]
theorem m_zero {f:FM} {p:List RD} (h:wcode f p=0) (hz:wV f p=0):mcode f p=8:=by unfold mcode;rw [if_neg (fun k=>k h),if_pos hz]
theorem m_ok {f:FM} {p:List RD} (h:wcode f p=0) (hz:wV f p≠0):mcode f p=0:=by unfold mcode;rw [if_neg (fun k=>k h),if_neg hz]
noncomputable def rcode (f:FM) (p:List RD) (i:Int):Int:=if wcode f p≠0 then wcode f p else if 0≤i∧i<p.length then(if wV f (p.set i.toNat rd0)=0 then 8 else 0) else 10
theorem r_bad {f:FM} {p:List RD} {i:Int} (h:wcode f p≠0):rcode f p i=wcode f p:=by unfold rcode;rw [if_pos h]
theorem r_idx {f:FM} {p:List RD} {i:Int} (h:wcode f p=0) (hi:¬(0≤i∧i<p.length)):rcode f p i=10:=by unfold rcode;rw [if_neg (fun k=>k h),if_neg hi]
theorem r_zero {f:FM} {p:List RD} {k:Nat} (h:wcode f p=0) (hi:k<p.length) (hz:wV f (p.set k rd0)=0):rcode f p (k:Int)=8:=by
 unfold rcode;rw [if_neg (fun k=>k h),if_pos ⟨by omega,by omega⟩,Int.toNat_natCast,if_pos hz]
theorem r_ok {f:FM} {p:List RD} {k:Nat} (h:wcode f p=0) (hi:k<p.length) (hz:wV f (p.set k rd0)≠0):rcode f p (k:Int)=0:=by
 unfold rcode;rw [if_neg (fun k=>k h),if_pos ⟨by omega,by omega⟩,Int.toNat_natCast,if_neg hz]
theorem ch_ok {D:DG} {p:List RD} (h:dpcode D p=0) {i:Int} (h0:0≤i) (h1:i<D.order.length) {q:RD} (hq:q.prob=true):chcode D p i q=0:=by
 have hb:bcode D p [i]=0:=by
  unfold bcode
  rw [if_neg (fun k=>k h),if_pos (by simp [h0,h1])]
 unfold chcode
 rw [if_neg (fun k=>k hb),if_pos hq]
theorem ch_out {D:DG} {p:List RD} (h:dpcode D p=0) {i:Int} (h0:¬(0≤i∧i<D.order.length)) {q:RD}:chcode D p i q=10:=by
 have hb:bcode D p [i]=10:=by
  unfold bcode
  rw [if_neg (fun k=>k h),if_neg (by
   intro k
   simp only [List.all_cons,List.all_nil,Bool.and_true,Bool.and_eq_true,decide_eq_true_eq] at k
   exact h0 k)]
 unfold chcode
 rw [hb,if_pos (by decide)]
theorem sysD {f:FM} {p:List RD} (hk:WOk f p) (h6:f.vars≤6) (hw:∀r∈p,r.wf 4) {o:List Int} {D:DG} (hD:DOut o (fun s=>valF f s f.top) D) (hol:o.length=p.length):D.order.length=p.length∧Small D p∧dpcode D p=0:=by
 have hpl:=hk.len
 have hDl:D.order.length=p.length:=by rw [hD.order];exact hol
 exact⟨hDl,⟨hw,by omega,by omega,by have:=(dg_ok hD.code).n4096;omega,fun _=>by omega⟩,dp_of hD.code hDl hk.prob⟩
end Go.Proofs.YtfcnbgmclfkfcaaGreat
namespace Go.Proofs.YtfcnbgmclfkfcaaGreat
open Go.AI Go.PN
attribute [local irreducible] aw Fa Fh DrK
set_option maxRecDepth 100000 in
set_option maxHeartbeats 1600000 in
theorem ach1_fh (g6 g3 gS:Nat) (f:FM) {p:List RD} {o:List Int} {D:DG} {X:Rat} (hsD:Small D p) (hdp:dpcode D p=0) (hDl:D.order.length=p.length) (i:Nat) (hi:i<p.length) {B:Rat} (hB:prS D (p.set i (rd 1))=B):
 Fh Tryz.prog 65 (SY gS f p o D X++[(g6,.cells 71 1 (ofL [.optr gS 0])),(g3,.cells 25 1 (ofL [rats false p]))]) ([.c (.int .i64 i)]++[g6,g3].map fun g=>.c (.optr g 0)) (fun r h=>r=.tup [.agg (rdc (rd B)),.c .nilI]∧h=SY gS f p o D X++[(g6,.cells 71 1 (ofL [.optr gS 0])),(g3,.cells 25 1 (ofL [rats false p]))]):=by
 have hch:=change_fa D p hsD i (rd 1) rd1_wf
 rw [ch_ok hdp om om rd1_prob,if_pos rfl,Int.toNat_natCast,hB,show errA 0=CV.nilI from rfl] at hch
 simp only [SY,List.cons_append,List.nil_append,List.map_cons,List.map_nil]
 refine fh_of_body Tryz.func65 rfl rfl (by simp [Tryz.ntmps65]) fun C hC=> ?_
 simp only [initS,Nat.reduceAdd]
 refine aw_nd fun hnd=> ?_
 simp only [Heap.keys,List.map_cons,List.map_nil] at hnd
 replace hnd:=ndP_of hnd
 dsimp only [ndP,neA] at hnd
 refine yG hnd ?_
 refine yA hnd fun g4 hn_g4=>?_
 have J1:=oj hnd hn_g4
 refine yG J1 ?_
 refine aw_cw ([(gS,.cells 76 11 (ofL (fmc false f++[rats false p,is true o]++dgc true D++rdc (rd X)))),(g6,.cells 71 1 (ofL [.optr gS 0])),(g3,.cells 25 1 (ofL [rats false p]))]) [(0,0),(1,0),(2,0),(3,0),(4,0),(5,0),(6,0),(7,0),(8,0),(9,0),(10,2),(11,0)] ty_mixed (by kernel_rfl) eI ?_
 refine yG J1 ?_
 refine cw_callq rfl (rof_fa 1 om om) rfl rfl rfl (fun _ _=>(zL J1)) ?_
 rw [cast1]
 refine ySG J1 ?_
 refine cw_callq rfl hch rfl rfl rfl (fun _ _=>(zL J1)) ?_
 refine ySG J1 ?_
 refine cw_store (FP':=[]) rfl rfl rfl rfl rfl (zE J1) (zE J1) (zE J1) (zE J1) (fun _ e=>by cases e) rfl rfl (Nat.le_refl 3) rfl has0_nil ?_
 refine ySG J1 ?_
 refine aw_rethw (h':=SY gS f p o D X++[(g6,.cells 71 1 (ofL [.optr gS 0])),(g3,.cells 25 1 (ofL [rats false p]))]) rfl (List.Sublist.cons _ (List.Sublist.refl _)) (fun R hR=> ?_)
 simp only [go_sem,hnd,hn_g4]
 refine hR _ rfl ?_
 exact⟨rfl,rfl⟩
set_option maxRecDepth 100000 in
set_option maxHeartbeats 3200000 in
theorem ach_fa {f:FM} {p:List RD} (h:WSm f p):Fa Tryz.prog 21 [.agg (fmc false f),.c (rats false p)] (.tup [.c (rats true (if mcode f p=0 then achL f p else [])),.c (errA (mcode f p))]):=by
 refine fa_of_body Tryz.func21 rfl rfl (by simp [Tryz.ntmps21]) fun C hC=> ?_
 simp only [initS,Nat.reduceAdd]
 refine xG ?_
 refine xB fun g2 hn_g2=>?_
 refine yG hn_g2 ?_
 refine yB hn_g2 fun g3 hn_g3=>?_
 refine yG (oj hn_g2 hn_g3) ?_
 by_cases hc:wcode f p=0
 ·have hk:=wok_of hc
  have h6:=h.v6 hk
  have hpl:=hk.len
  refine aw_callh (hc:=[]) (hr:=[(g3,.cells 25 1 (ofL [rats false p])),(g2,.cells 24 3 (ofL (fmc false f)))]) (wopen_fh f p hk h6 h.hn h.ha h.w) rfl rfl rfl (.refl _) (zL (oj hn_g2 hn_g3)) ?_
  rintro _ _ ⟨gS,o,D,hpo,hol,hD,rfl,rfl⟩ hk2
  obtain⟨hDl,hsD,hdp⟩:=sysD hk h6 h.w hD hol
  simp only [SY,List.cons_append,List.nil_append]
  refine aw_nd fun hnd=> ?_
  simp only [Heap.keys,List.map_cons,List.map_nil] at hnd
  replace hnd:=ndP_of hnd
  dsimp only [ndP,neA] at hnd
  refine ySG hnd ?_
  refine yA hnd fun g6 hn_g6=>?_
  have J1:=oj hnd hn_g6
  refine yGWSGNG J1 ?_
  refine aw_makeFunc (gs:=[g6,g3]) rfl rfl rfl (zE J1) ?_
  refine ySG J1 ?_
  by_cases hz:wV f p=0
  ·rw [m_zero hc hz,if_neg (by decide)]
   refine aw_callh (hr:=[]) (each_zero gS f p o D hz [(g6,.cells 71 1 (ofL [.optr gS 0])),(g3,.cells 25 1 (ofL [rats false p])),(g2,.cells 24 3 (ofL (fmc false f)))] 65 [g6,g3]) rfl rfl rfl (by rw [List.append_nil];exact .swap _ _ _) (zL J1) ?_
   rintro _ _ ⟨rfl,rfl⟩ _
   refine ySGT hC J1 ?_
   exact .tup ⟨.c .nils,.c (ler_err),trivial⟩
  ·rw [m_ok hc hz,if_pos rfl]
   refine aw_callh (hr:=[(g2,.cells 24 3 (ofL (fmc false f)))]) (each_fh (α:=Unit) (fun _=>[(g6,.cells 71 1 (ofL [.optr gS 0])),(g3,.cells 25 1 (ofL [rats false p]))]) (fun _=>SY gS f p o D (wV f p)++[(g6,.cells 71 1 (ofL [.optr gS 0])),(g3,.cells 25 1 (ofL [rats false p]))]) [] (fun _ _=>True) (fun i=>wV f (p.set i (rd 1))) 65 [g6,g3] gS f p o D hz (wV_fits h.w om) om (fun i hi=>fits_mono (wV1_fits h.w om i) om) (fun _=>by rw [List.append_nil]) (fun i x hi _=>(ach1_fh g6 g3 gS f hsD hdp hDl i hi (B:=wV f (p.set i (rd 1))) (prS_wV hD (by rw [List.length_set];exact hDl))).mono (fun r h' hq=>⟨(),trivial,hq.1,hq.2⟩)) () trivial) rfl rfl rfl (.swap _ _ _) (zL J1) ?_
   rintro _ _ ⟨_,og,_,hog,rfl,rfl⟩ _
   refine aw_perm (h':=gh og 30 (p.length*3) (ratsF (eachL (fun i=>wV f (p.set i (rd 1))) (wV f p) p.length))++((SY gS f p o D (wV f p)++[(g6,.cells 71 1 (ofL [.optr gS 0])),(g3,.cells 25 1 (ofL [rats false p]))])++[(g2,.cells 24 3 (ofL (fmc false f)))])) (by rw [←List.append_assoc];exact List.perm_append_comm.append_right _) ?_
   refine ySG J1 ?_
   refine aw_frzGT (t:=4) (f':=ratsF (eachL (fun i=>wV f (p.set i (rd 1))) (wV f p) p.length)) hog (eachL_len (fun i=>wV f (p.set i (rd 1))) (wV f p) p.length).symm (zE J1) (fun g _=>hC g) (fun _ _=>rfl) rfl ?_
   refine ySGT hC J1 ?_
   exact .tup ⟨.c ler_rats,.c .nilI,trivial⟩
 ·rw [m_bad hc,if_neg hc]
  refine aw_callh (hc:=[]) (hr:=[(g3,.cells 25 1 (ofL [rats false p])),(g2,.cells 24 3 (ofL (fmc false f)))]) (wopen_err f p hc h.hn h.ha h.t0 h.t1 h.w5 (by have:=h.l;omega)) rfl rfl rfl (.refl _) eL ?_
  rintro _ _ ⟨rfl,rfl⟩ _
  have hcf:=ieq_f hc
  have J2:=oj hn_g2 (oj hn_g3 hcf)
  refine ySG J2 ?_
  refine yA J2 fun g6 hn_g6=>?_
  have J3:=oj hn_g2 (oj hn_g3 (oj hcf hn_g6))
  refine yGWSG J3 ?_
  refine yP J3 ?_
  refine yGT hC J3 ?_
  exact .tup ⟨.c .nils,.c ler_err,trivial⟩
set_option maxRecDepth 100000 in
set_option maxHeartbeats 3200000 in
theorem red_fa {f:FM} {p:List RD} (h:WSm f p) (i:Int):Fa Tryz.prog 12 [.agg (fmc false f),.c (rats false p),.c (.int .i64 i)] (.tup [.agg (rdc (if rcode f p i=0 then rd (wV f p/wV f (p.set i.toNat rd0)) else rd0)),.c (errA (rcode f p i))]):=by
 refine fa_of_body Tryz.func12 rfl rfl (by simp [Tryz.ntmps12]) fun C hC=> ?_
 simp only [initS,Nat.reduceAdd]
 refine xG ?_
 refine xB fun g3 hn_g3=>?_
 refine yG hn_g3 ?_
 refine yA hn_g3 fun g6 hn_g6=>?_
 refine yG (oj hn_g3 hn_g6) ?_
 by_cases hc:wcode f p=0
 ·have hk:=wok_of hc
  have h6:=h.v6 hk
  have hpl:=hk.len
  refine aw_callh (hc:=[]) (hr:=[(g6,.cells 30 3 (ofL [.bool false,.nils,.nils])),(g3,.cells 24 3 (ofL (fmc false f)))]) (wopen_fh f p hk h6 h.hn h.ha h.w) rfl rfl rfl (.refl _) (zL (oj hn_g3 hn_g6)) ?_
  rintro _ _ ⟨gS,o,D,hpo,hol,hD,rfl,rfl⟩ hk2
  obtain⟨hDl,hsD,hdp⟩:=sysD hk h6 h.w hD hol
  simp only [SY,List.cons_append,List.nil_append]
  refine aw_nd fun hnd=> ?_
  simp only [Heap.keys,List.map_cons,List.map_nil] at hnd
  replace hnd:=ndP_of hnd
  dsimp only [ndP,neA] at hnd
  refine ySGNG hnd ?_
  by_cases hi:0≤i∧i<p.length
  ·obtain⟨k,rfl⟩:=Int.eq_ofNat_of_zero_le hi.1
   have hkp:k<p.length:=by omega
   have hch:=change_fa D p hsD (k:Int) rd0 rd0_wf4
   rw [ch_ok hdp hi.1 om rd0_prob,if_pos rfl,prS_wV hD (by rw [List.length_set];exact hDl),show errA 0=CV.nilI from rfl,Int.toNat_natCast] at hch
   rw [Int.toNat_natCast]
   have f0:=wV0_fits (f:=f) h.w om k
   have fX:=wV_fits (f:=f) h.w om
   refine aw_callq hch rfl rfl rfl (by refine yS hnd ?_;exact⟨.agg (by simp only [LeL];and_intros<;>first|exact True.intro|exact .refl _|exact wl2),.c (.refl _),.c (.refl _),.agg ⟨.refl _,.nils,.nils,trivial⟩⟩) ?_
   refine ySG hnd ?_
   refine yA hnd fun g10 hn_g10=>?_
   have J1:=oj hnd hn_g10
   refine yGWSGNG J1 ?_
   refine aw_cw ([(gS,.cells 76 11 (ofL (fmc false f++[rats false p,is true o]++dgc true D++rdc (rd (wV f p))))),(g10,.cells 30 3 (ofL (rdc (rd (wV f (p.set k rd0))))))]) [(0,0),(1,0),(2,0),(3,0),(4,0),(5,0),(6,0),(7,0),(8,2),(9,0)] ty_mixed (by kernel_rfl) eI ?_
   refine yG J1 ?_
   by_cases hz:wV f (p.set k rd0)=0
   ·rw [r_zero hc hkp hz,if_neg (by decide)]
    refine cw_callq rfl (rdiv_zero (rd (wV f p)) (rd (wV f (p.set k rd0))) (rd_wf (fits_mono fX om)) (rd_wf (fits_mono f0 om)) (by rw [rd_q];exact hz)) rfl rfl rfl (fun _ _=>(zL J1)) ?_
    refine ySG J1 ?_
    refine cw_store (FP':=[]) rfl rfl rfl rfl rfl (zE J1) (zE J1) (zE J1) (zE J1) (fun _ e=>by cases e) rfl rfl (Nat.le_refl 3) rfl has0_nil ?_
    refine ySGT hC J1 ?_
    exact .tup ⟨.agg lerl_rd,.c ler_err,trivial⟩
   ·rw [r_ok hc hkp hz,if_pos rfl]
    refine cw_callq rfl (rdiv_fa (rd (wV f p)) (rd (wV f (p.set k rd0))) (rd_wf (fits_mono fX om)) (rd_wf (fits_mono f0 om)) (by rw [rd_q];exact hz)) rfl rfl rfl (fun _ _=>(zL J1)) ?_
    rw [rd_q,rd_q]
    refine ySG J1 ?_
    refine cw_store (FP':=[]) rfl rfl rfl rfl rfl (zE J1) (zE J1) (zE J1) (zE J1) (fun _ e=>by cases e) rfl rfl (Nat.le_refl 3) rfl has0_nil ?_
    refine ySGT hC J1 ?_
    exact .tup ⟨.agg lerl_rd,.c .nilI,trivial⟩
  ·have hch:=change_fa D p hsD i rd0 rd0_wf4
   rw [ch_out hdp om,if_neg (by decide)] at hch
   rw [r_idx hc hi,if_neg (by decide)]
   refine aw_callq hch rfl rfl rfl (by refine yS hnd ?_;exact⟨.agg (by simp only [LeL];and_intros<;>first|exact True.intro|exact .refl _|exact wl2),.c (.refl _),.c (.refl _),.agg ⟨.refl _,.nils,.nils,trivial⟩⟩) ?_
   refine ySG hnd ?_
   refine yA hnd fun g10 hn_g10=>?_
   have J2:=oj hnd hn_g10
   refine yGWSG J2 ?_
   refine yP J2 ?_
   refine yGWSGT hC J2 ?_
   exact .tup ⟨.agg ⟨.bool _,.nils,.nils,trivial⟩,.c ler_err,trivial⟩
 ·rw [r_bad hc,if_neg hc]
  refine aw_callh (hc:=[]) (hr:=[(g6,.cells 30 3 (ofL [.bool false,.nils,.nils])),(g3,.cells 24 3 (ofL (fmc false f)))]) (wopen_err f p hc h.hn h.ha h.t0 h.t1 h.w5 (by have:=h.l;omega)) rfl rfl rfl (.refl _) eL ?_
  rintro _ _ ⟨rfl,rfl⟩ _
  have hcf:=ieq_f hc
  have J3:=oj hn_g3 (oj hn_g6 hcf)
  refine ySGPG J3 ?_
  refine yW J3 ?_
  refine ySGT hC J3 ?_
  exact .tup ⟨.agg ⟨.bool _,.nils,.nils,trivial⟩,.c ler_err,trivial⟩
end Go.Proofs.YtfcnbgmclfkfcaaGreat
namespace Go.PN
open Go.AI Go.Proofs.YtfcnbgmclfkfcaaGreat
def prT (ps:List RD) (n:Nat) (ns:List DN) (r:Int):Rat:=exQ (prP ps) n (indQ fun s=>evalD ns s r)
theorem prT_leaf {ps:List RD} {n:Nat} {ns:List DN} {r:Int} (h0:0≤r) (h1:r<2):prT ps n ns r=((r:Int):Rat):=by
 unfold prT
 have:r=0∨r=1:=by omega
 rcases this with rfl|rfl
 ·have e:(indQ fun s=>evalD ns s 0)=fun _=>((0:Int):Rat):=by funext s;show(if evalD ns s 0=true then(1:Rat) else 0)=_;rw [evalD_leaf om];rfl
  rw [e,ex_const]
 ·have e:(indQ fun s=>evalD ns s 1)=fun _=>((1:Int):Rat):=by funext s;show(if evalD ns s 1=true then(1:Rat) else 0)=_;rw [evalD_leaf om];rfl
  rw [e,ex_const]
theorem prT_node {ps:List RD} {o:List Int} {ns:List DN} (ht:TabOk o ns) {i:Nat} (hi:i<ns.length):
 prT ps o.length ns (2+i)=(1-prP ps (ns.getD i dn0).v.toNat)*prT ps o.length ns (ns.getD i dn0).lo+prP ps (ns.getD i dn0).v.toNat*prT ps o.length ns (ns.getD i dn0).hi:=by
 have nd:=ht i hi
 obtain⟨v0,v1,_,_,_,_⟩:=nd.nk
 obtain⟨r1,r2⟩:=kids_ref ht hi
 have hvv:(((ns.getD i dn0).v.toNat:Nat):Int)=(ns.getD i dn0).v:=by omega
 have:=ex_shan (p:=prP ps) (v:=(ns.getD i dn0).v.toNat) o.length _ _ om (ref_indep ht r1 (by rw [hvv];exact nd.bl)) (ref_indep ht r2 (by rw [hvv];exact nd.bh))
 unfold prT
 rw [←this]
 refine ex_congr _ _ _ fun s _=> ?_
 show(if evalD ns s (2+(i:Int))=true then(1:Rat) else 0)=if s.testBit (ns.getD i dn0).v.toNat=true then(if evalD ns s (ns.getD i dn0).hi=true then(1:Rat) else 0) else(if evalD ns s (ns.getD i dn0).lo=true then(1:Rat) else 0)
 have hen:=eval_node ht hi (v:=(ns.getD i dn0).v) (lo:=(ns.getD i dn0).lo) (hi':=(ns.getD i dn0).hi) rfl s
 rw [hen]
 cases s.testBit (ns.getD i dn0).v.toNat<;>rfl
theorem prT_fits {ps:List RD} {L:Nat} (hL:1≤L) (hw:∀x∈ps,x.wf L) {o:List Int} {ns:List DN} (ht:TabOk o ns):∀(k:Nat) (r:Int),r.toNat≤k→RefOk ns r→fits (prT ps o.length ns r) (Bl L ((o.length:Int)-lvZ o ns r).toNat):=by
 have leaf:∀r:Int,RefOk ns r→r<2→fits (prT ps o.length ns r) (Bl L ((o.length:Int)-lvZ o ns r).toNat):=fun r hr h2=>by
  have hb:=Bl_mono (L:=L) (Nat.zero_le ((o.length:Int)-lvZ o ns r).toNat)
  have h0:=hr.1
  rw [prT_leaf h0 h2]
  have:r=0∨r=1:=by omega
  rcases this with rfl|rfl
  ·exact fits_mono fits_zero hb
  ·exact fits_mono fits_one hb
 intro k
 induction k with
 |zero=>intro r hk hr;exact leaf r hr (by have:=hr.1;omega)
 |succ k ih=>
  intro r hk hr
  by_cases h2:r<2
  ·exact leaf r hr h2
  ·have h1:=hr.2
   obtain⟨i,rfl⟩:∃i:Nat,r=2+i:=⟨(r-2).toNat,by omega⟩
   have hi:i<ns.length:=by omega
   have nd:=ht i hi
   obtain⟨v0,v1,l0,l1,q0,q1⟩:=nd.nk
   obtain⟨r1,r2⟩:=kids_ref ht hi
   have f2:=ih _ om r1
   have f3:=ih _ om r2
   have f1:=RD.fits (getD_wf hw (ns.getD i dn0).v.toNat) hL
   have bl:=nd.bl
   have bh:=nd.bh
   have hpl:=place_lt (o:=o) (v:=(ns.getD i dn0).v)
   have hlv:lvZ o ns (2+(i:Int))=placeZ o (ns.getD i dn0).v:=by
    unfold lvZ
    rw [if_neg om,show(2+(i:Int)-2).toNat=i from by omega]
   rw [prT_node ht hi,hlv]
   obtain⟨h,hh⟩:∃h,((o.length:Int)-placeZ o (ns.getD i dn0).v).toNat=h+1:=⟨((o.length:Int)-placeZ o (ns.getD i dn0).v).toNat-1,by omega⟩
   rw [hh,Bl]
   have m1:=Bl_mono (L:=L) (show((o.length:Int)-lvZ o ns (ns.getD i dn0).lo).toNat≤h from by omega)
   have m2:=Bl_mono (L:=L) (show((o.length:Int)-lvZ o ns (ns.getD i dn0).hi).toNat≤h from by omega)
   exact fits_mono (fits_add (fits_mul (fits_sub fits_one f1) f2) (fits_mul f1 f3)) om
end Go.PN
