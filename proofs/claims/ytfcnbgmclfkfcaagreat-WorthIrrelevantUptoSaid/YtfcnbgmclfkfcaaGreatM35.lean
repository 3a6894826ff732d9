/- Parts of one proof, laid by a program. -/
import Derived.Test.YtfcnbgmclfkfcaaGreatM00
import Derived.Test.YtfcnbgmclfkfcaaGreatM33
set_option linter.unusedSimpArgs false
set_option linter.unusedVariables false
namespace Go.AI
section
variable {E : Env} {K : List It} {σ σ' : Sl} {h : Heap} {l : List Oper} {o : Oper}
section
variable {Fin : Sl → List Al → Prop} {M i n : Nat} {rest : List Oper} {pre : List Al}
theorem drg_call {f:FuncId} {xs:List Operand} {ts:Array TypeId} {args:List AV} {r:AV} (hf:Fa E.P f args r) (hop:o.op=.call {callee:=.value (.func f),args:=xs.toArray,argTypes:=ts}) (hw:wantA l σ o=some true) (hd:dstOk E.N o.dst=true)
 (le:LeA h (xs.map (ev σ)) args) (k:DrG E h l Fin M (i+1) n rest (σ.setO o.dst r) pre):DrG E h l Fin M i (n+1) (o::rest) σ pre:=drg_calm (CalmX.call hf hop hw hd le) k
end
theorem aw_fresh {g:Nat} {ob:AObj} {h:Heap} (k:g∉h.keys→aw E K σ ((g,ob)::h)):aw E K σ ((g,ob)::h):=aw_nd fun hnd=>k (by
 simp only [Heap.keys,List.map_cons,List.nodup_cons] at hnd
 exact hnd.1)
end
end Go.AI
namespace Go.AI
open Go.PN
theorem zero_agg:∀(S:Bool→Nat→Prop) (w:World) (u:Value),Rep S w (.agg [.bool false,.nils,.nils]) u→Rep S w (.agg [.bool rd0.neg,ws true rd0.num,ws true rd0.den]) u:=by
 rintro S w u ⟨us,rfl,h⟩
 refine⟨us,rfl,?_⟩
 match us,h with
 |[a,b,c],⟨h1,h2,h3,_⟩=>exact⟨h1,repC_nil h2,repC_nil h3,trivial⟩
end Go.AI

namespace Go.Proofs.YtfcnbgmclfkfcaaGreat
open Go.AI Go.PN
def impQ (d:DG) (p:List RD) (i:Nat):Rat:=prS d (p.set i (rd 1))-prS d (p.set i rd0)
theorem pr_fits {d:DG} {p:List RD} (hs:Small d p) (h0:dpcode d p=0):fits (prS d p) 4000:=by
 have h6:=hs.o6 h0
 obtain⟨ok,hpl,_⟩:=dp_ok h0
 refine fits_mono (fits_sum (L:=4) om hs.w _) ?_
 have h3:2^p.length≤2^6:=Nat.pow_le_pow_right om om
 have h4:=Nat.mul_le_mul (show(2*4+2)*p.length+2≤62 from by omega) h3
 omega
theorem imp_fits {d:DG} {p:List RD} (hs:Small d p) (h0:dpcode d p=0) (i:Nat):fits (impQ d p i) 9000:=by
 have f1:=pr_fits (hs.set h0 (i:=i) rd1_wf) (dp_set h0 rd1_prob)
 have f2:=pr_fits (hs.set h0 (i:=i) rd0_wf4) (dp_set h0 rd0_prob)
 exact fits_mono (fits_sub f1 f2) om
def impL (d:DG) (p:List RD) (k:Nat):List RD:=(List.range k).map fun i=>rd (impQ d p i)
theorem impL_len (d:DG) (p:List RD) (k:Nat):(impL d p k).length=k:=by simp [impL]
theorem impL_succ (d:DG) (p:List RD) (k:Nat):impL d p (k+1)=impL d p k++[rd (impQ d p k)]:=by simp [impL,List.range_succ]
end Go.Proofs.YtfcnbgmclfkfcaaGreat
namespace Go.Proofs.YtfcnbgmclfkfcaaGreat
open Go.AI Go.PN
theorem impQ_wV {f:FM} {o:List Int} {D:DG} {p:List RD} (hD:DOut o (fun s=>valF f s f.top) D) (hl:D.order.length=p.length) (i:Nat):impQ D p i=wV f (p.set i (rd 1))-wV f (p.set i rd0):=by
 unfold impQ
 rw [prS_wV hD (by rw [List.length_set];exact hl),prS_wV hD (by rw [List.length_set];exact hl)]
end Go.Proofs.YtfcnbgmclfkfcaaGreat
namespace Go.Proofs.YtfcnbgmclfkfcaaGreat
open Go.AI Go.PN
noncomputable def critV (f:FM) (p:List RD) (i:Nat):Rat:=(wV f (p.set i (rd 1))-wV f (p.set i rd0))*(p.getD i rd0).q
noncomputable def critL (f:FM) (p:List RD):List RD:=eachL (critV f p) (wV f p) p.length
theorem getD_q_fits {p:List RD} (hw:∀r∈p,r.wf 4) (hv:∀r∈p,r.prob=true) {i:Nat} (hi:i<p.length):(p.getD i rd0).wf 4:=by
 rw [List.getD_eq_getElem?_getD,List.getElem?_eq_getElem hi]
 exact hw _ (List.getElem_mem hi)
theorem critV_fits {f:FM} {p:List RD} (hw:∀r∈p,r.wf 4) (hv:∀r∈p,r.prob=true) (h6:p.length≤6) {i:Nat} (hi:i<p.length):fits (critV f p i) 9000:=
 fits_mono (fits_mul (fits_sub (wV1_fits hw h6 i) (wV0_fits hw h6 i)) (RD.fits (getD_q_fits hw hv hi) om)) om
end Go.Proofs.YtfcnbgmclfkfcaaGreat
namespace Go.Proofs.YtfcnbgmclfkfcaaGreat
open Go.AI Go.PN
attribute [local irreducible] aw Fa Fh DrK
set_option maxRecDepth 100000 in
set_option maxHeartbeats 1600000 in
theorem derive_fa (d:DG) (p:List RD) (hs:Small d p) (h0:dpcode d p=0) (i:Nat) (hi:i<p.length):
 Fa Tryz.prog 82 [.agg (dgc false d),.c (rats false p),.c (.int .i64 i)] (.tup [.agg (rdc (rd (impQ d p i))),.c .nilI]):=by
 have w1:=with_fa d p hs h0 i hi (rd 1) rd1_wf rd1_prob
 have w0:=with_fa d p hs h0 i hi rd0 rd0_wf4 rd0_prob
 have f1:=pr_fits (hs.set h0 (i:=i) rd1_wf) (dp_set h0 rd1_prob)
 have f0:=pr_fits (hs.set h0 (i:=i) rd0_wf4) (dp_set h0 rd0_prob)
 unfold impQ
 generalize prS d (p.set i (rd 1))=X1 at*
 generalize prS d (p.set i rd0)=X0 at*
 refine fa_of_body Tryz.func82 rfl rfl (by simp [Tryz.ntmps82]) fun C hC=> ?_
 simp only [initS,Nat.reduceAdd]
 refine xG ?_
 refine xB fun g3 hn_g3=>?_
 refine yG hn_g3 ?_
 refine yA hn_g3 fun g6 hn_g6=>?_
 refine yG (oj hn_g3 hn_g6) ?_
 refine aw_cut (fun g:Nat=>[(1,.c (rats false p)),(2,.c (.int .i64 i)),(3,.c (.optr g3 0)),(6,.c (.optr g6 0)),(8,.c (.optr g 0)),(9,.c .nilI)]) (fun g=>[(g,.cells 30 3 (ofL (rdc (rd X1)))),(g6,.cells 30 3 (ofL [.bool false,.nils,.nils])),(g3,.cells 55 3 (ofL (dgc false d)))]) (fun g=>g∉Heap.keys [(g6,.cells 0 0 (ofL [])),(g3,.cells 0 0 (ofL []))]) ?_ ?_
 ·refine aw_drL 9 7 18 ty_mixed (by kernel_rfl) ?_
  repeat (refine drg_2q rfl fun R r=>?_;simp only[go_sem,hn_g3,hn_g6];with_reducible show R (some _);with_reducible refine r _ _ ?_;clear r R)
  refine drg_call (rof_fa 1 ?_ ?_) rfl rfl rfl (zL (oj hn_g3 hn_g6)) ?_
  ·omega
  ·omega
  refine yS (oj hn_g3 hn_g6) ?_
  repeat (refine drg_2q rfl fun R r=>?_;simp only[go_sem,hn_g3,hn_g6];with_reducible show R (some _);with_reducible refine r _ _ ?_;clear r R)
  refine drg_call (w1) rfl rfl rfl (zL (oj hn_g3 hn_g6)) ?_
  refine yS (oj hn_g3 hn_g6) ?_
  repeat (refine drg_2q rfl fun R r=>?_;simp only[go_sem,hn_g3,hn_g6];with_reducible show R (some _);with_reducible refine r _ _ ?_;clear r R)
  refine drg_new rfl (NewX.alloc rfl rfl rfl (zE (oj hn_g3 hn_g6))) (by kernel_rfl) ?_
  have J1:=oj hn_g3 hn_g6
  refine yS J1 ?_
  refine drg_nil ⟨by simp,fun γ=> ?_,fun γ=> ?_⟩
  ·simp only [List.drop_succ_cons,List.drop_zero,List.nil_append,List.cons_append]
   refine yS J1 ?_
   try simp only [List.nil_append,List.cons_append]
   generalize γ 8=g
   refine aw_fresh fun hn=> ?_
   refine yH J1 ?_
   refine yW J1 ?_
   refine yS J1 ?_
   refine yH J1 ?_
   exact aw_stop ⟨g,(zB J1),zZ,hn⟩
  ·simp only [List.drop_succ_cons,List.drop_zero,List.take_succ_cons,List.take_zero,List.nil_append,List.cons_append]
   refine yS J1 ?_
   try simp only [List.nil_append,List.cons_append]
   generalize γ 8=g
   refine aw_fresh fun hn=> ?_
   refine yH J1 ?_
   refine yW J1 ?_
   refine yS J1 ?_
   refine yH J1 ?_
   exact aw_stop ⟨g,(zB J1),zZ,hn⟩
 rintro g8 hn_g8
 replace hn_g8:=Heap.ne_of hn_g8
 dsimp only [Heap.ne] at hn_g8
 have J2:=oj hn_g3 (oj hn_g6 hn_g8)
 refine yGNG J2 ?_
 refine aw_conv (t:=27) (v:=.agg (rdc rd0)) (by refine yS J2 ?_;exact zero_agg) rfl ?_
 refine ySG J2 ?_
 refine yC J2 (w0) ?_
 refine yG J2 ?_
 refine yA J2 fun g10 hn_g10=>?_
 have J3:=oj hn_g3 (oj hn_g6 (oj hn_g8 hn_g10))
 refine yGWSG J3 ?_
 refine yC J3 (rsub_fa (rd X1) (rd X0) (rd_wf (fits_mono f1 ?_)) (rd_wf (fits_mono f0 ?_))) ?_
 ·omega
 ·omega
 rw [rd_q,rd_q]
 refine yGWSGT hC J3 ?_
 exact .tup ⟨.agg lerl_rd,.c .nilI,trivial⟩
theorem bcode0 (d:DG) (p:List RD):bcode d p []=dpcode d p:=by
 unfold bcode
 split
 ·rfl
 ·rename_i h
  simp only [List.all_nil,if_true]
  omega
set_option maxRecDepth 100000 in
set_option maxHeartbeats 1600000 in
theorem birnbaum_fa (d:DG) (p:List RD) (hs:Small d p):
 Fa Tryz.prog 34 [.agg (dgc false d),.c (rats false p)] (.tup [.c (rats true (if dpcode d p=0 then impL d p p.length else [])),.c (errA (dpcode d p))]):=by
 have s1:=hs.l
 have s2:=hs.o
 have s3:=hs.n
 have hb:=bcheck_fa d p [] hs.w5 om om om (by simp)
 rw [bcode0] at hb
 refine fa_of_body Tryz.func34 rfl rfl (by simp [Tryz.ntmps34]) fun C hC=> ?_
 simp only [initS,Nat.reduceAdd]
 refine xG ?_
 refine xB fun g2 hn_g2=>?_
 refine yG hn_g2 ?_
 refine yC hn_g2 (hb) ?_
 refine yG hn_g2 ?_
 refine yF hn_g2 (fun h0=>?_) fun h0=>?_
 ·have h0':dpcode d p≠0:=by simpa using h0
  rw [if_neg h0']
  refine yGT hC hn_g2 ?_
  exact .tup ⟨.c .nils,.c ler_err,trivial⟩
 have h0':dpcode d p=0:=by simpa using h0
 rw [if_pos h0']
 refine yG hn_g2 ?_
 refine aw_lp (fun x:Option Nat×Nat=>[(1,.c (rats false p)),(2,.c (.optr g2 0)),(7,.c (gs x.1 3 x.2)),(18,.c (.int .i64 p.length)),(19,.c (.int .i64 x.2))]) (fun x=>(g2,.cells 55 3 (ofL (dgc false d)))::gh x.1 30 (x.2*3) (ratsF (impL d p x.2)))
  (fun x=>x.2≤p.length∧(x.1=none→x.2=0)) (fun x=>p.length-x.2) (none,0) (zB hn_g2) (List.Sublist.cons_cons _ (List.nil_sublist _)) ⟨Nat.zero_le _,fun _=>rfl⟩ ?_
 rintro ⟨og,k⟩ ⟨hk,hog⟩
 dsimp only at hk hog⊢
 refine aw_nd fun hnd=> ?_
 refine yG hn_g2 ?_
 refine yF hn_g2 (fun h1=>?_) fun h1=>?_
 ·have h1':k<p.length:=dT h1
  refine yG hn_g2 ?_
  refine yC hn_g2 (derive_fa d p hs h0' k h1') ?_
  refine yG hn_g2 ?_
  refine yA hn_g2 fun g9 hn_g9=>?_
  have J1:=oj hn_g2 hn_g9
  refine yGWSGNG J1 ?_
  refine aw_push (pre:=[(g9,.cells 30 3 (ofL (rdc (rd (impQ d p k))))),(g2,.cells 55 3 (ofL (dgc false d)))]) rfl rfl rfl rfl rfl rfl rfl (zE J1) (zE J1) (by rfl) om om (zE J1) om (by exact hog) (zE J1) (by rfl) (by rfl) (by first|rfl|simp only [Nat.mul_one,List.nil_append,List.cons_append]<;>rfl) (by unfold maxLen;omega) om (by exact rats_push (impL_len d p k) _) fun g1 hn_g1=> ?_
  replace hn_g1:=Heap.ne_of hn_g1
  first|dsimp only [Heap.ne,gh] at hn_g1|dsimp only [Heap.ne] at hn_g1|skip
  have J2:=oj hn_g2 (oj hn_g9 hn_g1)
  refine ySG J2 ?_
  rw [←impL_succ]
  exact aw_stop ⟨(some g1,k+1),by dsimp only;omega,(zB J2),List.Sublist.cons _ (List.Sublist.refl _),by dsimp only;omega,some_ne⟩
 ·have h1':k=p.length:=dF h1
  subst h1'
  refine yGT hC hn_g2 ?_
  rw [h0']
  exact .tup ⟨.c (ler_gsr (pre:=[(g2,_)]) hog (fun g e=>by
   subst e
   simp only [Heap.keys,gh,List.map_cons,List.map_nil,List.nodup_cons,List.mem_singleton] at hnd
   simp only [Heap.keys,List.map_cons,List.map_nil,List.mem_singleton]
   exact fun e=>hnd.1 e.symm) (impL_len d p p.length)),.c .nilI,trivial⟩
end Go.Proofs.YtfcnbgmclfkfcaaGreat
namespace Go.Proofs.YtfcnbgmclfkfcaaGreat
open Go.AI Go.PN
attribute [local irreducible] aw Fa Fh DrK
set_option maxRecDepth 100000 in
set_option maxHeartbeats 1600000 in
theorem crit1_fh (g1 g2:Nat) (b p:List RD) (i:Nat) (hi:i<p.length) (hib:i<b.length) (hbl:b.length≤1000) (hpl:p.length≤1000) {B:Rat} (hB:(b.getD i rd0)=rd B) (fB:fits B 20000) (hw:(p.getD i rd0).wf 4):
 Fh Tryz.prog 55 [(g1,.cells 25 1 (ofL [rats true b])),(g2,.cells 25 1 (ofL [rats false p]))] ([.c (.int .i64 i)]++[g1,g2].map fun g=>.c (.optr g 0)) (fun r h=>r=.tup [.agg (rdc (rd (B*(p.getD i rd0).q))),.c .nilI]∧h=[(g1,.cells 25 1 (ofL [rats true b])),(g2,.cells 25 1 (ofL [rats false p]))]):=by
 have hm:=rmul_fa (rd B) (p.getD i rd0) (rd_wf (fits_mono fB om)) (wf_mono hw om)
 rw [rd_q,←hB] at hm
 simp only [List.cons_append,List.nil_append,List.map_cons,List.map_nil]
 refine fh_of_body Tryz.func55 rfl rfl (by simp [Tryz.ntmps55]) fun C hC=> ?_
 simp only [initS,Nat.reduceAdd]
 refine aw_nd fun hnd=> ?_
 simp only [Heap.keys,List.map_cons,List.map_nil] at hnd
 replace hnd:=ndP_of hnd
 dsimp only [ndP,neA] at hnd
 refine yG hnd ?_
 refine yA hnd fun g4 hn_g4=>?_
 have J1:=oj hnd hn_g4
 refine yG J1 ?_
 refine aw_cw ([(g1,.cells 25 1 (ofL [rats true b])),(g2,.cells 25 1 (ofL [rats false p]))]) [(0,0),(1,0),(2,0),(3,0),(4,0),(5,0),(6,0),(7,0),(8,0),(9,2),(10,0)] ty_mixed (by kernel_rfl) eI ?_
 refine yG J1 ?_
 refine cw_callq rfl hm rfl rfl rfl (fun _ _=>(zL J1)) ?_
 refine ySG J1 ?_
 refine cw_store (FP':=[]) rfl rfl rfl rfl rfl (zE J1) (zE J1) (zE J1) (zE J1) (fun _ e=>by cases e) rfl rfl (Nat.le_refl 3) rfl has0_nil ?_
 refine ySG J1 ?_
 refine aw_rethw (h':=[(g1,.cells 25 1 (ofL [rats true b])),(g2,.cells 25 1 (ofL [rats false p]))]) rfl (List.Sublist.cons _ (List.Sublist.refl _)) (fun R hR=> ?_)
 simp only [go_sem,hnd,hn_g4]
 refine hR _ rfl ?_
 exact⟨rfl,rfl⟩
set_option maxRecDepth 100000 in
set_option maxHeartbeats 3200000 in
theorem crit_fa {f:FM} {p:List RD} (h:WSm f p):Fa Tryz.prog 19 [.agg (fmc false f),.c (rats false p)] (.tup [.c (rats true (if mcode f p=0 then critL f p else [])),.c (errA (mcode f p))]):=by
 refine fa_of_body Tryz.func19 rfl rfl (by simp [Tryz.ntmps19]) fun C hC=> ?_
 simp only [initS,Nat.reduceAdd]
 refine xG ?_
 refine xB fun g2 hn_g2=>?_
 refine yG hn_g2 ?_
 refine yB hn_g2 fun g3 hn_g3=>?_
 refine yG (oj hn_g2 hn_g3) ?_
 by_cases hc:wcode f p=0
 ·have hk:=wok_of hc
  have h6:=h.v6 hk
  have hpl:=hk.len
  refine aw_callh (hc:=[]) (hr:=[(g3,.cells 25 1 (ofL [rats false p])),(g2,.cells 24 3 (ofL (fmc false f)))]) (wopen_fh f p hk h6 h.hn h.ha h.w) rfl rfl rfl (.refl _) (zL (oj hn_g2 hn_g3)) ?_
  rintro _ _ ⟨gS,o,D,hpo,hol,hD,rfl,rfl⟩ hk2
  obtain⟨hDl,hsD,hdp⟩:=sysD hk h6 h.w hD hol
  have hb:=birnbaum_fa D p hsD
  rw [hdp,if_pos rfl,show errA 0=CV.nilI from rfl] at hb
  simp only [SY,List.cons_append,List.nil_append]
  refine aw_nd fun hnd=> ?_
  simp only [Heap.keys,List.map_cons,List.map_nil] at hnd
  replace hnd:=ndP_of hnd
  dsimp only [ndP,neA] at hnd
  refine ySGNG hnd ?_
  refine aw_cw ([(gS,.cells 76 11 (ofL (fmc false f++[rats false p,is true o]++dgc true D++rdc (rd (wV f p))))),(g3,.cells 25 1 (ofL [rats false p]))]) [(0,0),(1,0),(2,0),(3,0),(4,0),(5,0),(6,0),(7,0),(8,3),(9,1),(10,2),(11,0)] ty_mixed (by kernel_rfl) eI ?_
  refine yG hnd ?_
  refine cw_callq rfl hb rfl rfl rfl (fun _ _=>(zL hnd)) ?_
  refine ySG hnd ?_
  iterate 1 (refine wc3 rfl rfl fun R r=> ?_;simp only [go_sem,hnd];with_reducible show R (some _);with_reducible refine r _ _ ?_;clear r R)
  refine yS hnd ?_
  refine cw_alloc rfl rfl rfl rfl (zE hnd) eI (fun g8 hn_g8=> ?_) (hm:=.inr ⟨rfl,rfl⟩)
  replace hn_g8:=Heap.ne_of hn_g8
  dsimp only [Heap.ne] at hn_g8
  have J1:=oj hnd hn_g8
  refine yS J1 ?_
  refine cw_store (FP':=[]) rfl rfl rfl rfl rfl (zE J1) (zE J1) (zE J1) (zE J1) (fun _ e=>by cases e) rfl rfl (Nat.le_refl 1) rfl has0_nil ?_
  refine ySGNG J1 ?_
  refine aw_makeFunc (gs:=[g8,g3]) rfl rfl rfl (zE J1) ?_
  refine ySG J1 ?_
  by_cases hz:wV f p=0
  ·rw [m_zero hc hz,if_neg (by decide)]
   refine aw_callh (hr:=[]) (each_zero gS f p o D hz [(g8,.cells 25 1 (ofL [rats true (impL D p p.length)])),(g3,.cells 25 1 (ofL [rats false p])),(g2,.cells 24 3 (ofL (fmc false f)))] 55 [g8,g3]) rfl rfl rfl (by rw [List.append_nil];exact .swap _ _ _) (zL J1) ?_
   rintro _ _ ⟨rfl,rfl⟩ _
   refine ySGT hC J1 ?_
   exact .tup ⟨.c .nils,.c (ler_err),trivial⟩
  ·rw [m_ok hc hz,if_pos rfl]
   refine aw_callh (hr:=[(g2,.cells 24 3 (ofL (fmc false f)))]) (each_fh (α:=Unit) (fun _=>[(g8,.cells 25 1 (ofL [rats true (impL D p p.length)])),(g3,.cells 25 1 (ofL [rats false p]))]) (fun _=>[(g8,.cells 25 1 (ofL [rats true (impL D p p.length)])),(g3,.cells 25 1 (ofL [rats false p]))]) (SY gS f p o D (wV f p)) (fun _ _=>True) (critV f p) 55 [g8,g3] gS f p o D hz (wV_fits h.w om) om (fun i hi=>fits_mono (critV_fits h.w hk.prob om hi) om) (fun _=>List.perm_append_comm) (fun i x hi _=>(crit1_fh g8 g3 (impL D p p.length) p i hi (by rw [impL_len];exact hi) (by rw [impL_len];omega) om (B:=impQ D p i) (by
    unfold impL
    rw [List.getD_eq_getElem?_getD]
    simp [hi]) (fits_mono (imp_fits hsD hdp i) om) (getD_q_fits h.w hk.prob hi)).mono (fun r h' hq=>⟨(),trivial,by rw [hq.1,impQ_wV hD hDl i];rfl,hq.2⟩)) () trivial) rfl rfl rfl (.swap _ _ _) (zL J1) ?_
   rintro _ _ ⟨_,og,_,hog,rfl,rfl⟩ _
   refine aw_perm (h':=gh og 30 (p.length*3) (ratsF (eachL (critV f p) (wV f p) p.length))++((SY gS f p o D (wV f p)++[(g8,.cells 25 1 (ofL [rats true (impL D p p.length)])),(g3,.cells 25 1 (ofL [rats false p]))])++[(g2,.cells 24 3 (ofL (fmc false f)))])) (by rw [←List.append_assoc];exact List.perm_append_comm.append_right _) ?_
   refine ySG J1 ?_
   refine aw_frzGT (t:=4) (f':=ratsF (eachL (critV f p) (wV f p) p.length)) hog (eachL_len (critV f p) (wV f p) p.length).symm (zE J1) (fun g _=>hC g) (fun _ _=>rfl) rfl ?_
   refine ySGT hC J1 ?_
   exact .tup ⟨.c ler_rats,.c .nilI,trivial⟩
 ·rw [m_bad hc,if_neg hc]
  refine aw_callh (hc:=[]) (hr:=[(g3,.cells 25 1 (ofL [rats false p])),(g2,.cells 24 3 (ofL (fmc false f)))]) (wopen_err f p hc h.hn h.ha h.t0 h.t1 h.w5 (by have:=h.l;omega)) rfl rfl rfl (.refl _) eL ?_
  rintro _ _ ⟨rfl,rfl⟩ _
  have hcf:=ieq_f hc
  have J2:=oj hn_g2 (oj hn_g3 hcf)
  refine ySGPG J2 ?_
  refine yT hC J2 ?_
  exact .tup ⟨.c .nils,.c ler_err,trivial⟩
end Go.Proofs.YtfcnbgmclfkfcaaGreat
