/- Parts of one proof, laid by a program. -/
import Derived.Test.YtefekdejgbceiaaGreatM00
import Derived.Test.YtefekdejgbceiaaGreatM13
set_option linter.unusedSimpArgs false
set_option linter.unusedVariables false
set_option maxRecDepth 100000
set_option maxHeartbeats 12800000
namespace Go.AI
theorem updF_mid (xs bs:List CV) (i:Nat) (h:i+bs.length≤xs.length):updF (ofL xs) i bs=ofL (xs.take i++(bs++xs.drop (i+bs.length))):=by
 funext j
 rw [ofL_at]
 have hl:(xs.take i).length=i:=by rw [List.length_take];omega
 by_cases h1:j<i
 ·rw [updF_out _ _ _ _ (.inl h1),ofL_at,List.getElem?_append_left om,List.getElem?_take,if_pos h1]
 ·rw [List.getElem?_append_right om,hl]
  by_cases h2:j<i+bs.length
  ·obtain⟨q,rfl⟩:∃q,j=i+q:=⟨j-i,by omega⟩
   rw [updF_in _ _ _ _ om,ofL_at,show i+q-i=q from by omega,List.getElem?_append_left om]
  ·rw [updF_out _ _ _ _ (.inr om),ofL_at,List.getElem?_append_right om,List.getElem?_drop]
   congr 2
   omega
@[go_sem ↓] theorem updF_11_4 (a b c d e f g h i j k x:CV):updF (ofL [a,b,c,d,e,f,g,h,i,j,k]) 4 [x]=ofL [a,b,c,d,x,f,g,h,i,j,k]:=updF_mid [a,b,c,d,e,f,g,h,i,j,k] [x] 4 (by simp)
@[go_sem ↓] theorem updF_11_5 (a b c d e f g h i j k x y z:CV):updF (ofL [a,b,c,d,e,f,g,h,i,j,k]) 5 [x,y,z]=ofL [a,b,c,d,e,x,y,z,i,j,k]:=updF_mid [a,b,c,d,e,f,g,h,i,j,k] [x,y,z] 5 (by simp)
@[go_sem ↓] theorem updF_11_8 (a b c d e f g h i j k x y z:CV):updF (ofL [a,b,c,d,e,f,g,h,i,j,k]) 8 [x,y,z]=ofL [a,b,c,d,e,f,g,h,x,y,z]:=updF_mid [a,b,c,d,e,f,g,h,i,j,k] [x,y,z] 8 (by simp)
end Go.AI
namespace Go.Proofs.YtefekdejgbceiaaGreat
open Go.AI Go.PN
attribute [local irreducible] aw Fa Fh DrK
abbrev SY (gS:Nat) (f:FM) (p:List RD) (o:List Int) (D:DG) (X:Rat):Heap:=
 [(gS,.cells 86 11 (ofL (fmc false f++[rats false p,is true o]++dgc true D++rdc (rd X))))]
theorem wopen_err (f:FM) (p:List RD) (hc:wcode f p≠0) (hn:f.nodes.length≤1099511627776) (ha:ArgsOk f) (ht0: -9223372036854775808≤f.top) (ht:f.top≤9223372036854775807) (hw:∀r∈p,r.wf 500000000) (hl:p.length≤1099511627776):
  Fh Tryz.prog 44 [] [.agg (fmc false f),.c (rats false p)] (fun x h=>x=.tup [.c (.raw (.pointer none)),.c (errA (wcode f p))]∧h=[]):=by
 unfold wcode at hc⊢
 refine fh_of_body Tryz.func44 rfl rfl (by simp [Tryz.ntmps44]) fun C hC=> ?_
 simp only [initS,Nat.reduceAdd]
 refine xG ?_
 refine xB fun g2 hn_g2=>?_
 refine yG hn_g2 ?_
 refine aw_callq (fcheck_fa f hn ha ht0 ht) rfl rfl rfl (zL hn_g2) ?_
 by_cases h1:fcode f=0
 ·have z1:=ieq_t h1
  rw [if_neg (fun h=>h h1)] at hc⊢
  have J1:=oj hn_g2 z1
  refine ySGNG J1 ?_
  refine aw_callq (csyntax_fa f hn ha h1) rfl rfl rfl (zL J1) ?_
  cases h2:cohTo f f.nodes.length
  ·refine ySGNG J1 ?_
   refine yP J1 ?_
   refine yG J1 ?_
   refine aw_rethw (h':=[]) rfl (List.nil_sublist _) (fun R hR=> ?_)
   simp only [go_sem,hn_g2,z1]
   refine hR _ rfl ?_
   clear hR R
   exact⟨rfl,rfl⟩
  ·rw [h2] at hc
   have h3:pcode p f.vars≠0:=hc
   have z3:=ieq_f h3
   have J2:=oj hn_g2 (oj z1 z3)
   refine ySGNG J2 ?_
   refine yN J2 ?_
   refine yG J2 ?_
   refine aw_callq (scheck_fa p f.vars hw hl) rfl rfl rfl (zL J2) ?_
   refine ySG J2 ?_
   refine yP J2 ?_
   refine yG J2 ?_
   refine aw_rethw (h':=[]) rfl (List.nil_sublist _) (fun R hR=> ?_)
   simp only [go_sem,hn_g2,z1,z3]
   refine hR _ rfl ?_
   clear hR R
   exact⟨rfl,rfl⟩
 ·have z1:=ieq_f h1
  rw [if_pos h1]
  have J3:=oj hn_g2 z1
  refine ySG J3 ?_
  refine yP J3 ?_
  refine yG J3 ?_
  refine aw_rethw (h':=[]) rfl (List.nil_sublist _) (fun R hR=> ?_)
  simp only [go_sem,hn_g2,z1]
  refine hR _ rfl ?_
  clear hR R
  exact⟨rfl,rfl⟩
theorem wopen_fh (f:FM) (p:List RD) (hk:WOk f p) (h6:f.vars≤6) (hn:f.nodes.length≤1099511627776) (ha:ArgsOk f) (hw:∀r∈p,r.wf 4):
  Fh Tryz.prog 44 [] [.agg (fmc false f),.c (rats false p)] (fun x h=>∃gS o D,Perm0 o∧o.length=p.length∧DOut o (fun s=>valF f s f.top) D∧x=.tup [.c (.optr gS 0),.c .nilI]∧h=SY gS f p o D (wV f p)):=by
 have ok:=fr_ok hk.c
 have v0:=ok.v0
 have n128:=ok.n128
 have t0:=ok.t0
 have t1:=ok.t1
 have z1:=ieq_t hk.c
 have z2:=ieq_t hk.pc
 have z3:=hk.coh
 have hpl:(p.length:Int)=f.vars:=(pc_ok hk.pc).1
 refine fh_of_body Tryz.func44 rfl rfl (by simp [Tryz.ntmps44]) fun C hC=> ?_
 simp only [initS,Nat.reduceAdd]
 refine yG (oj z1 (oj z2 z3)) ?_
 refine yB (oj z1 (oj z2 z3)) fun g2 hn_g2=>?_
 have J1:=oj z1 (oj z2 (oj z3 hn_g2))
 refine yG J1 ?_
 refine aw_callq (fcheck_fa f hn ha om om) rfl rfl rfl (zL J1) ?_
 refine ySGNG J1 ?_
 refine aw_callq (csyntax_fa f hn ha hk.c) rfl rfl rfl (zL J1) ?_
 refine ySGNG J1 ?_
 refine yN J1 ?_
 refine yG J1 ?_
 refine aw_callq (scheck_fa p f.vars (fun r hr=>wf_mono (hw r hr) om) om) rfl rfl rfl (zL J1) ?_
 refine ySGNG J1 ?_
 refine yB J1 fun gS hn_gS=>?_
 have J2:=oj z1 (oj z2 (oj z3 (oj hn_g2 hn_gS)))
 refine yG J2 ?_
 refine aw_callh (hc:=[]) (oDepth_fh f hn ha hk.c) rfl rfl rfl (.refl _) (zL J2) ?_
 rintro _ _ ⟨rfl,o,rfl,hpo,hol⟩ _
 have hoc:ocode o o.length=0:=perm_code hpo om
 refine ySGWSG J2 ?_
 refine yN J2 ?_
 refine yG J2 ?_
 refine aw_cw ([(gS,.cells 86 11 (ofL [.int .i64 f.vars,fns false f.nodes,.int .i64 f.top,rats false p,is true o,.nils,.nils,.int .i64 0,.bool false,.nils,.nils])),(g2,.cells 24 3 (ofL (fmc false f)))]) [(0,0),(1,0),(2,0),(3,0),(4,0),(5,0),(6,1),(7,0),(8,0),(10,0),(11,0),(9,3),(12,2),(13,0)] ty_mixed (by kernel_rfl) eI ?_
 refine yG J2 ?_
 refine cw_callh (hc:=[]) rfl (build_fh f hn ha hk.c o hoc hol om) rfl rfl rfl (.refl _) (zL J2) (by rintro _ _ ⟨rfl,_⟩;exact eI) ?_ (hm:=.inr ⟨rfl,rfl⟩)
 rintro _ _ ⟨rfl,D,hD,rfl⟩ _
 refine ySG J2 ?_
 iterate 1 (refine wc3 rfl rfl fun R r=> ?_;simp only [go_sem,z1,z2,z3,hn_g2,hn_gS];with_reducible show R (some _);with_reducible refine r _ _ ?_;clear r R)
 have J3:=oj z1 (oj z2 (oj z3 (oj hn_g2 hn_gS)))
 refine yS J3 ?_
 refine cw_store (FP':=[]) rfl rfl rfl rfl rfl (zE J3) (zE J3) (zE J3) (zE J3) (fun _ e=>by cases e) rfl rfl (by show 5+3≤11;omega) rfl has0_nil ?_
 refine ySG J3 ?_
 refine yN J3 ?_
 have hoD:=hD.order
 have hDl:D.order.length=p.length:=by rw [hoD];omega
 have hsD:Small D p:=⟨hw,by omega,by omega,by have:=(dg_ok hD.code).n4096;omega,fun _=>by omega⟩
 have hdp:=dp_of hD.code hDl hk.prob
 have hsp:=sprobability_fa D p hsD
 rw [hdp,if_pos rfl,show sumQ p (tabL D) (2^p.length)=wV f p from prS_wV hD hDl,show errA 0=CV.nilI from rfl] at hsp
 refine yG J3 ?_
 refine yC J3 (hsp) ?_
 refine yGWSG J3 ?_
 refine aw_rethw (h':=SY gS f p o D (wV f p)) rfl (List.Sublist.cons_cons _ (List.nil_sublist _)) (fun R hR=> ?_)
 simp only [go_sem,z1,z2,z3,hn_g2,hn_gS]
 refine hR _ rfl ?_
 clear hR R
 exact⟨gS,o,D,hpo,by omega,hD,rfl,rfl⟩
theorem each_zero (gS:Nat) (f:FM) (p:List RD) (o:List Int) (D:DG) {X:Rat} (hX:X=0) (H:Heap) (fc:FuncId) (gs':List Nat):
  Fh Tryz.prog 45 (SY gS f p o D X++H) [.c (.optr gS 0),.c (fnC fc gs')] (fun r h=>r=.tup [.c .nils,.c (errA 8)]∧h=SY gS f p o D X++H):=by
 subst hX
 have hs:(signQ (rd 0).q==0)=true:=by rw [rd_q];rfl
 refine fh_of_body Tryz.func45 rfl rfl (by simp [Tryz.ntmps45]) fun C hC=> ?_
 simp only [initS,Nat.reduceAdd]
 refine yG hs ?_
 refine yC hs (rsign_fa (rd 0) (rd_wf (fits_mono fits_zero ?_))) ?_
 ·omega
 refine yGPGU hs ?_
 exact⟨rfl,rfl⟩
theorem each_fh {α:Type} (H0 H:α→Heap) (R0:Heap) (F:α→Nat→Prop) (val:Nat→Rat) (fc:FuncId) (gs':List Nat) (gS:Nat) (f:FM) (p:List RD) (o:List Int) (D:DG) {X:Rat} (hX:X≠0) (hXf:fits X 4000) (hpl:p.length≤24) (hv:∀i,i<p.length→fits (val i) 20000) (hpm:∀x,(SY gS f p o D X++H0 x).Perm (H x++R0))
  (hcb:∀(i:Nat) (x:α),i<p.length→F x i→Fh Tryz.prog fc (H x) ([.c (.int .i64 i)]++gs'.map fun g=>.c (.optr g 0)) (fun r h=>∃y,F y (i+1)∧r=.tup [.agg (rdc (rd (val i))),.c .nilI]∧h=H y)) (x0:α) (h0:F x0 0):
  Fh Tryz.prog 45 (SY gS f p o D X++H0 x0) [.c (.optr gS 0),.c (fnC fc gs')] (fun r h=>∃y og,F y p.length∧(og=none→p.length=0)∧r=.tup [.c (gs og 3 p.length),.c .nilI]∧h=(SY gS f p o D X++H0 y)++gh og 41 (p.length*3) (ratsF (eachL val X p.length))):=by
 have hs:(signQ (rd X).q==0)=false:=by
  rw [rd_q]
  unfold signQ
  rw [if_neg hX]
  split<;>rfl
 have hXw:(rd X).wf 1073741824:=rd_wf (fits_mono hXf om)
 refine fh_of_body Tryz.func45 rfl rfl (by simp [Tryz.ntmps45]) fun C hC=> ?_
 simp only [initS,Nat.reduceAdd]
 refine yG hs ?_
 refine yC hs (rsign_fa (rd X) hXw) ?_
 refine yGNG hs ?_
 refine aw_lp (fun x:α×Option Nat×Nat=>[(0,.c (.optr gS 0)),(1,.c (fnC fc gs')),(6,.c (gs x.2.1 3 x.2.2)),(21,.c (.int .i64 p.length)),(22,.c (.int .i64 x.2.2))]) (fun x=>(SY gS f p o D X++H0 x.1)++gh x.2.1 41 (x.2.2*3) (ratsF (eachL val X x.2.2)))
  (fun x=>x.2.2≤p.length∧F x.1 x.2.2∧(x.2.1=none→x.2.2=0)) (fun x=>p.length-x.2.2) (x0,none,0) (zB hs) (by show List.Sublist ((SY gS f p o D X++H0 x0)++[]) _;rw [List.append_nil];exact List.Sublist.refl _) ⟨Nat.zero_le _,h0,fun _=>rfl⟩ ?_
 rintro ⟨x,og,k⟩ ⟨hk,hF,hog⟩
 dsimp only at hk hF hog⊢
 refine yG hs ?_
 refine yF hs (fun h1=>?_) fun h1=>?_
 ·have h1':k<p.length:=dT h1
  refine yG hs ?_
  refine aw_callhv (gs:=gs') (hr:=R0++gh og 41 (k*3) (ratsF (eachL val X k))) (hcb k x h1' hF) rfl rfl rfl (zE hs) (by rw [←List.append_assoc];exact(hpm x).append_right _) (zL hs) ?_
  rintro _ _ ⟨y,hFy,rfl,rfl⟩ _
  refine aw_perm (h':=(SY gS f p o D X++H0 y)++gh og 41 (k*3) (ratsF (eachL val X k))) (by rw [←List.append_assoc];exact(hpm y).symm.append_right _) ?_
  refine ySG hs ?_
  refine yA hs fun g8 hn_g8=>?_
  have J1:=oj hs hn_g8
  refine yGWSGNG J1 ?_
  refine aw_cw ([(g8,.cells 41 3 (ofL (rdc (rd (val k))))),(gS,.cells 86 11 (ofL (fmc false f++[rats false p,is true o]++dgc true D++rdc (rd X))))]) [(0,0),(1,0),(2,0),(3,0),(4,0),(5,0),(6,0),(7,0),(8,3),(9,2),(10,0)] ty_mixed (by kernel_rfl) eI ?_
  refine yG J1 ?_
  refine cw_callq rfl (rdiv_fa (rd (val k)) (rd X) (rd_wf (fits_mono (hv k h1') om)) hXw (by rw [rd_q];exact hX)) rfl rfl rfl (fun _ _=>(zL J1)) ?_
  rw [rd_q,rd_q]
  refine ySG J1 ?_
  iterate 1 (refine wc3 rfl rfl fun R r=> ?_;simp only [go_sem,hs,hn_g8];with_reducible show R (some _);with_reducible refine r _ _ ?_;clear r R)
  have J2:=oj hs hn_g8
  refine yS J2 ?_
  refine cw_store (FP':=[]) rfl rfl rfl rfl rfl (zE J2) (zE J2) (zE J2) (zE J2) (fun _ e=>by cases e) rfl rfl (Nat.le_refl 3) rfl has0_nil ?_
  refine ySGNG J2 ?_
  refine aw_push (pre:=((g8,.cells 41 3 (ofL (rdc (rd (val k/X)))))::(SY gS f p o D X++H0 y))) rfl rfl rfl rfl rfl rfl rfl (zE J2) (zE J2) (by rfl) om om (zE J2) om (by exact hog) (zE J2) (by rfl) (by rfl) (by first|rfl|simp only [Nat.mul_one,List.nil_append,List.cons_append]<;>rfl) (by unfold maxLen;omega) om (by exact rats_push (eachL_len val X k) _) fun gp hn_gp=> ?_
  replace hn_gp:=Heap.ne_of hn_gp
  first|dsimp only [Heap.ne,gh] at hn_gp|dsimp only [Heap.ne] at hn_gp|skip
  have J3:=oj hs (oj hn_g8 hn_gp)
  refine ySG J3 ?_
  rw [←eachL_succ]
  exact aw_stop ⟨(y,some gp,k+1),by dsimp only;omega,(zB J3),List.Sublist.cons _ (List.Sublist.refl _),by dsimp only;omega,hFy,some_ne⟩
 ·have h1':k=p.length:=dF h1
  subst h1'
  refine yG hs ?_
  refine yU hs ?_
  exact⟨x,og,hF,hog,rfl,rfl⟩
end Go.Proofs.YtefekdejgbceiaaGreat
namespace Go.Proofs.YtefekdejgbceiaaGreat
open Go.AI Go.PN
attribute [local irreducible] aw Fa Fh DrK
theorem bcode_ok {d:DG} {p:List RD} {es:List Int} (h:bcode d p es=0):dpcode d p=0∧∀i∈es,0≤i∧i<d.order.length:=by
 unfold bcode at h
 split at h
 ·rename_i h1;exact absurd h h1
 ·rename_i h1
  split at h
  ·rename_i h2
   refine⟨by omega,fun i hi=> ?_⟩
   have:=List.all_eq_true.1 h2 i hi
   simpa using this
  ·cases h
end Go.Proofs.YtefekdejgbceiaaGreat
namespace Go.Proofs.YtefekdejgbceiaaGreat
open Go.AI Go.PN
attribute [local irreducible] aw Fa Fh DrK
def chcode (d:DG) (p:List RD) (i:Int) (q:RD):Int:=if bcode d p [i]≠0 then bcode d p [i] else if q.prob then 0 else 3
theorem change_fa (d:DG) (p:List RD) (hs:Small d p) (i:Int) (q:RD) (hq:q.wf 4):
  Fa Tryz.prog 49 [.agg (dgc false d),.c (rats false p),.c (.int .i64 i),.agg (rdc q)] (.tup [.agg (rdc (if chcode d p i q=0 then rd (prS d (p.set i.toNat q)) else rd0)),.c (errA (chcode d p i q))]):=by
 have s1:=hs.l
 have s2:=hs.o
 have s3:=hs.n
 have hb:=bcheck_fa d p [i] hs.w5 om om om (by simp)
 refine fa_of_body Tryz.func49 rfl rfl (by simp [Tryz.ntmps49]) fun C hC=> ?_
 simp only [initS,Nat.reduceAdd]
 refine xG ?_
 refine xB fun g4 hn_g4=>?_
 refine yG hn_g4 ?_
 refine yB hn_g4 fun g7 hn_g7=>?_
 refine yG (oj hn_g4 hn_g7) ?_
 refine yA (oj hn_g4 hn_g7) fun g8 hn_g8=>?_
 have J1:=oj hn_g4 (oj hn_g7 hn_g8)
 refine yG J1 ?_
 refine aw_buildSlice (xs:=[.tmp 13]) (cells:=[.int .i64 i]) rfl rfl rfl (zE J1) (by refine yS J1 ?_;rfl) rfl om om (by intro x hx;simp only [List.mem_singleton] at hx;subst hx;exact⟨rfl,rfl,rfl⟩) rfl fun g14 hn_g14=> ?_
 replace hn_g14:=Heap.ne_of hn_g14
 dsimp only [Heap.ne] at hn_g14
 have J2:=oj hn_g4 (oj hn_g7 (oj hn_g8 hn_g14))
 refine yS J2 ?_
 refine aw_frzT (t:=14) (isF [i]) (zE J2) (zE J2) om (hC g14) (fun q hq=>by match q,hq with|0,_=>rfl) rfl (zE J2) ?_
 refine ySG J2 ?_
 refine yC J2 (hb) ?_
 refine yG J2 ?_
 refine yF J2 (fun h1=>?_) fun h1=>?_
 ·have h1':bcode d p [i]≠0:=by simpa using h1
  have e:chcode d p i q=bcode d p [i]:=by unfold chcode;rw [if_pos h1']
  rw [e,if_neg h1']
  refine yGWSGT hC J2 ?_
  exact .tup ⟨.agg ⟨.bool _,.nils,.nils,trivial⟩,.c ler_err,trivial⟩
 have h1':bcode d p [i]=0:=by simpa using h1
 have e:chcode d p i q=if q.prob then 0 else 3:=by unfold chcode;rw [if_neg (by simp [h1'])]
 rw [e]
 obtain⟨h0,hr⟩:=bcode_ok h1'
 obtain⟨ok,hpl,_⟩:=dp_ok h0
 have hi:=hr i (by simp)
 refine yG J2 ?_
 refine yC J2 (rprob_fa q (wf_mono hq ?_)) ?_
 ·omega
 refine yG J2 ?_
 refine yF J2 (fun h2=>?_) fun h2=>?_
 ·have h2':q.prob=false:=by simpa using h2
  rw [h2']
  refine yGWSGT hC J2 ?_
  exact .tup ⟨.agg ⟨.bool _,.nils,.nils,trivial⟩,.c (ler_errN rfl (by decide)),trivial⟩
 have h2':q.prob=true:=by simpa using h2
 rw [h2',if_pos rfl,if_pos rfl]
 obtain⟨a,rfl⟩:∃a:Nat,i=a:=⟨i.toNat,by omega⟩
 rw [Int.toNat_natCast]
 refine yG J2 ?_
 refine yC J2 (with_fa d p hs h0 a ?_ q hq h2') ?_
 ·omega
 refine yGWSGT hC J2 ?_
 exact .tup ⟨.agg lerl_rd,.c .nilI,trivial⟩
end Go.Proofs.YtefekdejgbceiaaGreat
namespace Go.Proofs.YtefekdejgbceiaaGreat
open Go.AI Go.PN
attribute [local irreducible] aw Fa Fh DrK
structure WSm (f:FM) (p:List RD):Prop where
 hn:f.nodes.length≤1099511627776
 ha:ArgsOk f
 t0: -9223372036854775808≤f.top
 t1:f.top≤9223372036854775807
 w:∀r∈p,r.wf 4
 l:p.length≤100
 h6:fcode f=0→(p.length:Int)=f.vars→f.vars≤6
theorem WSm.w5 {f:FM} {p:List RD} (h:WSm f p):∀r∈p,r.wf 500000000:=fun r hr=>wf_mono (h.w r hr) om
theorem WSm.v6 {f:FM} {p:List RD} (h:WSm f p) (hk:WOk f p):f.vars≤6:=h.h6 hk.c hk.len
noncomputable def mcode (f:FM) (p:List RD):Int:=if wcode f p≠0 then wcode f p else if wV f p=0 then 8 else 0
theorem m_bad {f:FM} {p:List RD} (h:wcode f p≠0):mcode f p=wcode f p:=by unfold mcode;rw [if_pos h]
theorem m_zero {f:FM} {p:List RD} (h:wcode f p=0) (hz:wV f p=0):mcode f p=8:=by unfold mcode;rw [if_neg (fun k=>k h),if_pos hz]
theorem m_ok {f:FM} {p:List RD} (h:wcode f p=0) (hz:wV f p≠0):mcode f p=0:=by unfold mcode;rw [if_neg (fun k=>k h),if_neg hz]
noncomputable def rcode (f:FM) (p:List RD) (i:Int):Int:=if wcode f p≠0 then wcode f p else if 0≤i∧i<p.length then(if wV f (p.set i.toNat rd0)=0 then 8 else 0) else 10
theorem r_bad {f:FM} {p:List RD} {i:Int} (h:wcode f p≠0):rcode f p i=wcode f p:=by unfold rcode;rw [if_pos h]
theorem r_idx {f:FM} {p:List RD} {i:Int} (h:wcode f p=0) (hi:¬(0≤i∧i<p.length)):rcode f p i=10:=by unfold rcode;rw [if_neg (fun k=>k h),if_neg hi]
theorem r_zero {f:FM} {p:List RD} {k:Nat} (h:wcode f p=0) (hi:k<p.length) (hz:wV f (p.set k rd0)=0):rcode f p (k:Int)=8:=by
 unfold rcode;rw [if_neg (fun k=>k h),if_pos ⟨by omega,by omega⟩,Int.toNat_natCast,if_pos hz]
theorem r_ok {f:FM} {p:List RD} {k:Nat} (h:wcode f p=0) (hi:k<p.length) (hz:wV f (p.set k rd0)≠0):rcode f p (k:Int)=0:=by
 unfold rcode;rw [if_neg (fun k=>k h),if_pos ⟨by omega,by omega⟩,Int.toNat_natCast,if_neg hz]
theorem ch_ok {D:DG} {p:List RD} (h:dpcode D p=0) {i:Int} (h0:0≤i) (h1:i<D.order.length) {q:RD} (hq:q.prob=true):chcode D p i q=0:=by
 have hb:bcode D p [i]=0:=by
  unfold bcode
  rw [if_neg (fun k=>k h),if_pos (by simp [h0,h1])]
 unfold chcode
 rw [if_neg (fun k=>k hb),if_pos hq]
theorem ch_out {D:DG} {p:List RD} (h:dpcode D p=0) {i:Int} (h0:¬(0≤i∧i<D.order.length)) {q:RD}:chcode D p i q=10:=by
 have hb:bcode D p [i]=10:=by
  unfold bcode
  rw [if_neg (fun k=>k h),if_neg (by
   intro k
   simp only [List.all_cons,List.all_nil,Bool.and_true,Bool.and_eq_true,decide_eq_true_eq] at k
   exact h0 k)]
 unfold chcode
 rw [hb,if_pos (by decide)]
theorem sysD {f:FM} {p:List RD} (hk:WOk f p) (h6:f.vars≤6) (hw:∀r∈p,r.wf 4) {o:List Int} {D:DG} (hD:DOut o (fun s=>valF f s f.top) D) (hol:o.length=p.length):D.order.length=p.length∧Small D p∧dpcode D p=0:=by
 have hpl:=hk.len
 have hDl:D.order.length=p.length:=by rw [hD.order];exact hol
 exact⟨hDl,⟨hw,by omega,by omega,by have:=(dg_ok hD.code).n4096;omega,fun _=>by omega⟩,dp_of hD.code hDl hk.prob⟩
theorem crit1_fh (g1 g2:Nat) (b p:List RD) (i:Nat) (hi:i<p.length) (hib:i<b.length) (hbl:b.length≤1000) (hpl:p.length≤1000) {B:Rat} (hB:(b.getD i rd0)=rd B) (fB:fits B 20000) (hw:(p.getD i rd0).wf 4):
  Fh Tryz.prog 46 [(g1,.cells 25 1 (ofL [rats true b])),(g2,.cells 25 1 (ofL [rats false p]))] ([.c (.int .i64 i)]++[g1,g2].map fun g=>.c (.optr g 0)) (fun r h=>r=.tup [.agg (rdc (rd (B*(p.getD i rd0).q))),.c .nilI]∧h=[(g1,.cells 25 1 (ofL [rats true b])),(g2,.cells 25 1 (ofL [rats false p]))]):=by
 have hm:=rmul_fa (rd B) (p.getD i rd0) (rd_wf (fits_mono fB om)) (wf_mono hw om)
 rw [rd_q,←hB] at hm
 simp only [List.cons_append,List.nil_append,List.map_cons,List.map_nil]
 refine fh_of_body Tryz.func46 rfl rfl (by simp [Tryz.ntmps46]) fun C hC=> ?_
 simp only [initS,Nat.reduceAdd]
 refine aw_nd fun hnd=> ?_
 simp only [Heap.keys,List.map_cons,List.map_nil] at hnd
 replace hnd:=ndP_of hnd
 dsimp only [ndP,neA] at hnd
 refine yG hnd ?_
 refine yA hnd fun g4 hn_g4=>?_
 have J1:=oj hnd hn_g4
 refine yG J1 ?_
 refine aw_cw ([(g1,.cells 25 1 (ofL [rats true b])),(g2,.cells 25 1 (ofL [rats false p]))]) [(0,0),(1,0),(2,0),(3,0),(4,0),(5,0),(6,0),(7,0),(8,0),(9,2),(10,0)] ty_mixed (by kernel_rfl) eI ?_
 refine yG J1 ?_
 refine cw_callq rfl hm rfl rfl rfl (fun _ _=>(zL J1)) ?_
 refine ySG J1 ?_
 refine cw_store (FP':=[]) rfl rfl rfl rfl rfl (zE J1) (zE J1) (zE J1) (zE J1) (fun _ e=>by cases e) rfl rfl (Nat.le_refl 3) rfl has0_nil ?_
 refine ySG J1 ?_
 refine aw_rethw (h':=[(g1,.cells 25 1 (ofL [rats true b])),(g2,.cells 25 1 (ofL [rats false p]))]) rfl (List.Sublist.cons _ (List.Sublist.refl _)) (fun R hR=> ?_)
 simp only [go_sem,hnd,hn_g4]
 refine hR _ rfl ?_
 exact⟨rfl,rfl⟩
theorem crit_fa {f:FM} {p:List RD} (h:WSm f p):Fa Tryz.prog 10 [.agg (fmc false f),.c (rats false p)] (.tup [.c (rats true (if mcode f p=0 then critL f p else [])),.c (errA (mcode f p))]):=by
 refine fa_of_body Tryz.func10 rfl rfl (by simp [Tryz.ntmps10]) fun C hC=> ?_
 simp only [initS,Nat.reduceAdd]
 refine xG ?_
 refine xB fun g2 hn_g2=>?_
 refine yG hn_g2 ?_
 refine yB hn_g2 fun g3 hn_g3=>?_
 refine yG (oj hn_g2 hn_g3) ?_
 by_cases hc:wcode f p=0
 ·have hk:=wok_of hc
  have h6:=h.v6 hk
  have hpl:=hk.len
  refine aw_callh (hc:=[]) (hr:=[(g3,.cells 25 1 (ofL [rats false p])),(g2,.cells 24 3 (ofL (fmc false f)))]) (wopen_fh f p hk h6 h.hn h.ha h.w) rfl rfl rfl (.refl _) (zL (oj hn_g2 hn_g3)) ?_
  rintro _ _ ⟨gS,o,D,hpo,hol,hD,rfl,rfl⟩ hk2
  obtain⟨hDl,hsD,hdp⟩:=sysD hk h6 h.w hD hol
  have hb:=birnbaum_fa D p hsD
  rw [hdp,if_pos rfl,show errA 0=CV.nilI from rfl] at hb
  simp only [SY,List.cons_append,List.nil_append]
  refine aw_nd fun hnd=> ?_
  simp only [Heap.keys,List.map_cons,List.map_nil] at hnd
  replace hnd:=ndP_of hnd
  dsimp only [ndP,neA] at hnd
  refine ySGNG hnd ?_
  refine aw_cw ([(gS,.cells 86 11 (ofL (fmc false f++[rats false p,is true o]++dgc true D++rdc (rd (wV f p))))),(g3,.cells 25 1 (ofL [rats false p]))]) [(0,0),(1,0),(2,0),(3,0),(4,0),(5,0),(6,0),(7,0),(8,3),(9,1),(10,2),(11,0)] ty_mixed (by kernel_rfl) eI ?_
  refine yG hnd ?_
  refine cw_callq rfl hb rfl rfl rfl (fun _ _=>(zL hnd)) ?_
  refine ySG hnd ?_
  iterate 1 (refine wc3 rfl rfl fun R r=> ?_;simp only [go_sem,hnd];with_reducible show R (some _);with_reducible refine r _ _ ?_;clear r R)
  refine yS hnd ?_
  refine cw_alloc rfl rfl rfl rfl (zE hnd) eI (fun g8 hn_g8=> ?_) (hm:=.inr ⟨rfl,rfl⟩)
  replace hn_g8:=Heap.ne_of hn_g8
  dsimp only [Heap.ne] at hn_g8
  have J1:=oj hnd hn_g8
  refine yS J1 ?_
  refine cw_store (FP':=[]) rfl rfl rfl rfl rfl (zE J1) (zE J1) (zE J1) (zE J1) (fun _ e=>by cases e) rfl rfl (Nat.le_refl 1) rfl has0_nil ?_
  refine ySGNG J1 ?_
  refine aw_makeFunc (gs:=[g8,g3]) rfl rfl rfl (zE J1) ?_
  refine ySG J1 ?_
  by_cases hz:wV f p=0
  ·rw [m_zero hc hz,if_neg (by decide)]
   refine aw_callh (hr:=[]) (each_zero gS f p o D hz [(g8,.cells 25 1 (ofL [rats true (impL D p p.length)])),(g3,.cells 25 1 (ofL [rats false p])),(g2,.cells 24 3 (ofL (fmc false f)))] 46 [g8,g3]) rfl rfl rfl (by rw [List.append_nil];exact .swap _ _ _) (zL J1) ?_
   rintro _ _ ⟨rfl,rfl⟩ _
   refine ySGT hC J1 ?_
   exact .tup ⟨.c .nils,.c (ler_err),trivial⟩
  ·rw [m_ok hc hz,if_pos rfl]
   refine aw_callh (hr:=[(g2,.cells 24 3 (ofL (fmc false f)))]) (each_fh (α:=Unit) (fun _=>[(g8,.cells 25 1 (ofL [rats true (impL D p p.length)])),(g3,.cells 25 1 (ofL [rats false p]))]) (fun _=>[(g8,.cells 25 1 (ofL [rats true (impL D p p.length)])),(g3,.cells 25 1 (ofL [rats false p]))]) (SY gS f p o D (wV f p)) (fun _ _=>True) (critV f p) 46 [g8,g3] gS f p o D hz (wV_fits h.w om) om (fun i hi=>fits_mono (critV_fits h.w hk.prob om hi) om) (fun _=>List.perm_append_comm) (fun i x hi _=>(crit1_fh g8 g3 (impL D p p.length) p i hi (by rw [impL_len];exact hi) (by rw [impL_len];omega) om (B:=impQ D p i) (by
    unfold impL
    rw [List.getD_eq_getElem?_getD]
    simp [hi]) (fits_mono (imp_fits hsD hdp i) om) (getD_q_fits h.w hk.prob hi)).mono (fun r h' hq=>⟨(),trivial,by rw [hq.1,impQ_wV hD hDl i];rfl,hq.2⟩)) () trivial) rfl rfl rfl (.swap _ _ _) (zL J1) ?_
   rintro _ _ ⟨_,og,_,hog,rfl,rfl⟩ _
   refine aw_perm (h':=gh og 41 (p.length*3) (ratsF (eachL (critV f p) (wV f p) p.length))++((SY gS f p o D (wV f p)++[(g8,.cells 25 1 (ofL [rats true (impL D p p.length)])),(g3,.cells 25 1 (ofL [rats false p]))])++[(g2,.cells 24 3 (ofL (fmc false f)))])) (by rw [←List.append_assoc];exact List.perm_append_comm.append_right _) ?_
   refine ySG J1 ?_
   refine aw_frzGT (t:=4) (f':=ratsF (eachL (critV f p) (wV f p) p.length)) hog (eachL_len (critV f p) (wV f p) p.length).symm (zE J1) (fun g _=>hC g) (fun _ _=>rfl) rfl ?_
   refine ySGT hC J1 ?_
   exact .tup ⟨.c ler_rats,.c .nilI,trivial⟩
 ·rw [m_bad hc,if_neg hc]
  refine aw_callh (hc:=[]) (hr:=[(g3,.cells 25 1 (ofL [rats false p])),(g2,.cells 24 3 (ofL (fmc false f)))]) (wopen_err f p hc h.hn h.ha h.t0 h.t1 h.w5 (by have:=h.l;omega)) rfl rfl rfl (.refl _) eL ?_
  rintro _ _ ⟨rfl,rfl⟩ _
  have hcf:=ieq_f hc
  have J2:=oj hn_g2 (oj hn_g3 hcf)
  refine ySG J2 ?_
  refine yP J2 ?_
  refine yGT hC J2 ?_
  exact .tup ⟨.c .nils,.c ler_err,trivial⟩
end Go.Proofs.YtefekdejgbceiaaGreat
namespace Go.Proofs.YtefekdejgbceiaaGreat
open Go.AI Go.PN
attribute [local irreducible] aw Fa Fh DrK
theorem ach1_fh (g6 g3 gS:Nat) (f:FM) {p:List RD} {o:List Int} {D:DG} {X:Rat} (hsD:Small D p) (hdp:dpcode D p=0) (hDl:D.order.length=p.length) (i:Nat) (hi:i<p.length) {B:Rat} (hB:prS D (p.set i (rd 1))=B):
  Fh Tryz.prog 48 (SY gS f p o D X++[(g6,.cells 82 1 (ofL [.optr gS 0])),(g3,.cells 25 1 (ofL [rats false p]))]) ([.c (.int .i64 i)]++[g6,g3].map fun g=>.c (.optr g 0)) (fun r h=>r=.tup [.agg (rdc (rd B)),.c .nilI]∧h=SY gS f p o D X++[(g6,.cells 82 1 (ofL [.optr gS 0])),(g3,.cells 25 1 (ofL [rats false p]))]):=by
 have hch:=change_fa D p hsD i (rd 1) rd1_wf
 rw [ch_ok hdp om om rd1_prob,if_pos rfl,Int.toNat_natCast,hB,show errA 0=CV.nilI from rfl] at hch
 simp only [SY,List.cons_append,List.nil_append,List.map_cons,List.map_nil]
 refine fh_of_body Tryz.func48 rfl rfl (by simp [Tryz.ntmps48]) fun C hC=> ?_
 simp only [initS,Nat.reduceAdd]
 refine aw_nd fun hnd=> ?_
 simp only [Heap.keys,List.map_cons,List.map_nil] at hnd
 replace hnd:=ndP_of hnd
 dsimp only [ndP,neA] at hnd
 refine yG hnd ?_
 refine yA hnd fun g4 hn_g4=>?_
 have J1:=oj hnd hn_g4
 refine yG J1 ?_
 refine aw_cw ([(gS,.cells 86 11 (ofL (fmc false f++[rats false p,is true o]++dgc true D++rdc (rd X)))),(g6,.cells 82 1 (ofL [.optr gS 0])),(g3,.cells 25 1 (ofL [rats false p]))]) [(0,0),(1,0),(2,0),(3,0),(4,0),(5,0),(6,0),(7,0),(8,0),(9,0),(10,2),(11,0)] ty_mixed (by kernel_rfl) eI ?_
 refine yG J1 ?_
 refine cw_callq rfl (rof_fa 1 om om) rfl rfl rfl (fun _ _=>(zL J1)) ?_
 rw [cast1]
 refine ySG J1 ?_
 refine cw_callq rfl hch rfl rfl rfl (fun _ _=>(zL J1)) ?_
 refine ySG J1 ?_
 refine cw_store (FP':=[]) rfl rfl rfl rfl rfl (zE J1) (zE J1) (zE J1) (zE J1) (fun _ e=>by cases e) rfl rfl (Nat.le_refl 3) rfl has0_nil ?_
 refine ySG J1 ?_
 refine aw_rethw (h':=SY gS f p o D X++[(g6,.cells 82 1 (ofL [.optr gS 0])),(g3,.cells 25 1 (ofL [rats false p]))]) rfl (List.Sublist.cons _ (List.Sublist.refl _)) (fun R hR=> ?_)
 simp only [go_sem,hnd,hn_g4]
 refine hR _ rfl ?_
 exact⟨rfl,rfl⟩
theorem ach_fa {f:FM} {p:List RD} (h:WSm f p):Fa Tryz.prog 11 [.agg (fmc false f),.c (rats false p)] (.tup [.c (rats true (if mcode f p=0 then achL f p else [])),.c (errA (mcode f p))]):=by
 refine fa_of_body Tryz.func11 rfl rfl (by simp [Tryz.ntmps11]) fun C hC=> ?_
 simp only [initS,Nat.reduceAdd]
 refine xG ?_
 refine xB fun g2 hn_g2=>?_
 refine yG hn_g2 ?_
 refine yB hn_g2 fun g3 hn_g3=>?_
 refine yG (oj hn_g2 hn_g3) ?_
 by_cases hc:wcode f p=0
 ·have hk:=wok_of hc
  have h6:=h.v6 hk
  have hpl:=hk.len
  refine aw_callh (hc:=[]) (hr:=[(g3,.cells 25 1 (ofL [rats false p])),(g2,.cells 24 3 (ofL (fmc false f)))]) (wopen_fh f p hk h6 h.hn h.ha h.w) rfl rfl rfl (.refl _) (zL (oj hn_g2 hn_g3)) ?_
  rintro _ _ ⟨gS,o,D,hpo,hol,hD,rfl,rfl⟩ hk2
  obtain⟨hDl,hsD,hdp⟩:=sysD hk h6 h.w hD hol
  simp only [SY,List.cons_append,List.nil_append]
  refine aw_nd fun hnd=> ?_
  simp only [Heap.keys,List.map_cons,List.map_nil] at hnd
  replace hnd:=ndP_of hnd
  dsimp only [ndP,neA] at hnd
  refine ySG hnd ?_
  refine yA hnd fun g6 hn_g6=>?_
  have J1:=oj hnd hn_g6
  refine yGWSGNG J1 ?_
  refine aw_makeFunc (gs:=[g6,g3]) rfl rfl rfl (zE J1) ?_
  refine ySG J1 ?_
  by_cases hz:wV f p=0
  ·rw [m_zero hc hz,if_neg (by decide)]
   refine aw_callh (hr:=[]) (each_zero gS f p o D hz [(g6,.cells 82 1 (ofL [.optr gS 0])),(g3,.cells 25 1 (ofL [rats false p])),(g2,.cells 24 3 (ofL (fmc false f)))] 48 [g6,g3]) rfl rfl rfl (by rw [List.append_nil];exact .swap _ _ _) (zL J1) ?_
   rintro _ _ ⟨rfl,rfl⟩ _
   refine ySGT hC J1 ?_
   exact .tup ⟨.c .nils,.c (ler_err),trivial⟩
  ·rw [m_ok hc hz,if_pos rfl]
   refine aw_callh (hr:=[(g2,.cells 24 3 (ofL (fmc false f)))]) (each_fh (α:=Unit) (fun _=>[(g6,.cells 82 1 (ofL [.optr gS 0])),(g3,.cells 25 1 (ofL [rats false p]))]) (fun _=>SY gS f p o D (wV f p)++[(g6,.cells 82 1 (ofL [.optr gS 0])),(g3,.cells 25 1 (ofL [rats false p]))]) [] (fun _ _=>True) (fun i=>wV f (p.set i (rd 1))) 48 [g6,g3] gS f p o D hz (wV_fits h.w om) om (fun i hi=>fits_mono (wV1_fits h.w om i) om) (fun _=>by rw [List.append_nil]) (fun i x hi _=>(ach1_fh g6 g3 gS f hsD hdp hDl i hi (B:=wV f (p.set i (rd 1))) (prS_wV hD (by rw [List.length_set];exact hDl))).mono (fun r h' hq=>⟨(),trivial,hq.1,hq.2⟩)) () trivial) rfl rfl rfl (.swap _ _ _) (zL J1) ?_
   rintro _ _ ⟨_,og,_,hog,rfl,rfl⟩ _
   refine aw_perm (h':=gh og 41 (p.length*3) (ratsF (eachL (fun i=>wV f (p.set i (rd 1))) (wV f p) p.length))++((SY gS f p o D (wV f p)++[(g6,.cells 82 1 (ofL [.optr gS 0])),(g3,.cells 25 1 (ofL [rats false p]))])++[(g2,.cells 24 3 (ofL (fmc false f)))])) (by rw [←List.append_assoc];exact List.perm_append_comm.append_right _) ?_
   refine ySG J1 ?_
   refine aw_frzGT (t:=4) (f':=ratsF (eachL (fun i=>wV f (p.set i (rd 1))) (wV f p) p.length)) hog (eachL_len (fun i=>wV f (p.set i (rd 1))) (wV f p) p.length).symm (zE J1) (fun g _=>hC g) (fun _ _=>rfl) rfl ?_
   refine ySGT hC J1 ?_
   exact .tup ⟨.c ler_rats,.c .nilI,trivial⟩
 ·rw [m_bad hc,if_neg hc]
  refine aw_callh (hc:=[]) (hr:=[(g3,.cells 25 1 (ofL [rats false p])),(g2,.cells 24 3 (ofL (fmc false f)))]) (wopen_err f p hc h.hn h.ha h.t0 h.t1 h.w5 (by have:=h.l;omega)) rfl rfl rfl (.refl _) eL ?_
  rintro _ _ ⟨rfl,rfl⟩ _
  have hcf:=ieq_f hc
  have J2:=oj hn_g2 (oj hn_g3 hcf)
  refine ySG J2 ?_
  refine yA J2 fun g6 hn_g6=>?_
  have J3:=oj hn_g2 (oj hn_g3 (oj hcf hn_g6))
  refine yGWSG J3 ?_
  refine yP J3 ?_
  refine yGT hC J3 ?_
  exact .tup ⟨.c .nils,.c ler_err,trivial⟩
theorem red_fa {f:FM} {p:List RD} (h:WSm f p) (i:Int):Fa Tryz.prog 16 [.agg (fmc false f),.c (rats false p),.c (.int .i64 i)] (.tup [.agg (rdc (if rcode f p i=0 then rd (wV f p/wV f (p.set i.toNat rd0)) else rd0)),.c (errA (rcode f p i))]):=by
 refine fa_of_body Tryz.func16 rfl rfl (by simp [Tryz.ntmps16]) fun C hC=> ?_
 simp only [initS,Nat.reduceAdd]
 refine xG ?_
 refine xB fun g3 hn_g3=>?_
 refine yG hn_g3 ?_
 refine yA hn_g3 fun g6 hn_g6=>?_
 refine yG (oj hn_g3 hn_g6) ?_
 by_cases hc:wcode f p=0
 ·have hk:=wok_of hc
  have h6:=h.v6 hk
  have hpl:=hk.len
  refine aw_callh (hc:=[]) (hr:=[(g6,.cells 41 3 (ofL [.bool false,.nils,.nils])),(g3,.cells 24 3 (ofL (fmc false f)))]) (wopen_fh f p hk h6 h.hn h.ha h.w) rfl rfl rfl (.refl _) (zL (oj hn_g3 hn_g6)) ?_
  rintro _ _ ⟨gS,o,D,hpo,hol,hD,rfl,rfl⟩ hk2
  obtain⟨hDl,hsD,hdp⟩:=sysD hk h6 h.w hD hol
  simp only [SY,List.cons_append,List.nil_append]
  refine aw_nd fun hnd=> ?_
  simp only [Heap.keys,List.map_cons,List.map_nil] at hnd
  replace hnd:=ndP_of hnd
  dsimp only [ndP,neA] at hnd
  refine ySGNG hnd ?_
  by_cases hi:0≤i∧i<p.length
  ·obtain⟨k,rfl⟩:=Int.eq_ofNat_of_zero_le hi.1
   have hkp:k<p.length:=by omega
   have hch:=change_fa D p hsD (k:Int) rd0 rd0_wf4
   rw [ch_ok hdp hi.1 om rd0_prob,if_pos rfl,prS_wV hD (by rw [List.length_set];exact hDl),show errA 0=CV.nilI from rfl,Int.toNat_natCast] at hch
   rw [Int.toNat_natCast]
   have f0:=wV0_fits (f:=f) h.w om k
   have fX:=wV_fits (f:=f) h.w om
   refine aw_callq hch rfl rfl rfl (by refine yS hnd ?_;exact⟨.agg (by simp only [LeL];and_intros<;>first|exact True.intro|exact .refl _|exact wl2),.c (.refl _),.c (.refl _),.agg ⟨.refl _,.nils,.nils,trivial⟩⟩) ?_
   refine ySG hnd ?_
   refine yA hnd fun g10 hn_g10=>?_
   have J1:=oj hnd hn_g10
   refine yGWSGNG J1 ?_
   refine aw_cw ([(gS,.cells 86 11 (ofL (fmc false f++[rats false p,is true o]++dgc true D++rdc (rd (wV f p))))),(g10,.cells 41 3 (ofL (rdc (rd (wV f (p.set k rd0))))))]) [(0,0),(1,0),(2,0),(3,0),(4,0),(5,0),(6,0),(7,0),(8,2),(9,0)] ty_mixed (by kernel_rfl) eI ?_
   refine yG J1 ?_
   by_cases hz:wV f (p.set k rd0)=0
   ·rw [r_zero hc hkp hz,if_neg (by decide)]
    refine cw_callq rfl (rdiv_zero (rd (wV f p)) (rd (wV f (p.set k rd0))) (rd_wf (fits_mono fX om)) (rd_wf (fits_mono f0 om)) (by rw [rd_q];exact hz)) rfl rfl rfl (fun _ _=>(zL J1)) ?_
    refine ySG J1 ?_
    refine cw_store (FP':=[]) rfl rfl rfl rfl rfl (zE J1) (zE J1) (zE J1) (zE J1) (fun _ e=>by cases e) rfl rfl (Nat.le_refl 3) rfl has0_nil ?_
    refine ySGT hC J1 ?_
    exact .tup ⟨.agg lerl_rd,.c ler_err,trivial⟩
   ·rw [r_ok hc hkp hz,if_pos rfl]
    refine cw_callq rfl (rdiv_fa (rd (wV f p)) (rd (wV f (p.set k rd0))) (rd_wf (fits_mono fX om)) (rd_wf (fits_mono f0 om)) (by rw [rd_q];exact hz)) rfl rfl rfl (fun _ _=>(zL J1)) ?_
    rw [rd_q,rd_q]
    refine ySG J1 ?_
    refine cw_store (FP':=[]) rfl rfl rfl rfl rfl (zE J1) (zE J1) (zE J1) (zE J1) (fun _ e=>by cases e) rfl rfl (Nat.le_refl 3) rfl has0_nil ?_
    refine ySGT hC J1 ?_
    exact .tup ⟨.agg lerl_rd,.c .nilI,trivial⟩
  ·have hch:=change_fa D p hsD i rd0 rd0_wf4
   rw [ch_out hdp om,if_neg (by decide)] at hch
   rw [r_idx hc hi,if_neg (by decide)]
   refine aw_callq hch rfl rfl rfl (by refine yS hnd ?_;exact⟨.agg (by simp only [LeL];and_intros<;>first|exact True.intro|exact .refl _|exact wl2),.c (.refl _),.c (.refl _),.agg ⟨.refl _,.nils,.nils,trivial⟩⟩) ?_
   refine ySG hnd ?_
   refine yA hnd fun g10 hn_g10=>?_
   have J2:=oj hnd hn_g10
   refine yGWSG J2 ?_
   refine yP J2 ?_
   refine yGWSGT hC J2 ?_
   exact .tup ⟨.agg ⟨.bool _,.nils,.nils,trivial⟩,.c ler_err,trivial⟩
 ·rw [r_bad hc,if_neg hc]
  refine aw_callh (hc:=[]) (hr:=[(g6,.cells 41 3 (ofL [.bool false,.nils,.nils])),(g3,.cells 24 3 (ofL (fmc false f)))]) (wopen_err f p hc h.hn h.ha h.t0 h.t1 h.w5 (by have:=h.l;omega)) rfl rfl rfl (.refl _) eL ?_
  rintro _ _ ⟨rfl,rfl⟩ _
  have hcf:=ieq_f hc
  have J3:=oj hn_g3 (oj hn_g6 hcf)
  refine ySG J3 ?_
  refine yP J3 ?_
  refine yGWSGT hC J3 ?_
  exact .tup ⟨.agg ⟨.bool _,.nils,.nils,trivial⟩,.c ler_err,trivial⟩
end Go.Proofs.YtefekdejgbceiaaGreat
namespace Go.PN
open Go.AI Go.Proofs.YtefekdejgbceiaaGreat
def prT (ps:List RD) (n:Nat) (ns:List DN) (r:Int):Rat:=exQ (prP ps) n (indQ fun s=>evalD ns s r)
theorem prT_leaf {ps:List RD} {n:Nat} {ns:List DN} {r:Int} (h0:0≤r) (h1:r<2):prT ps n ns r=((r:Int):Rat):=by
 unfold prT
 have:r=0∨r=1:=by omega
 rcases this with rfl|rfl
 ·have e:(indQ fun s=>evalD ns s 0)=fun _=>((0:Int):Rat):=by funext s;show(if evalD ns s 0=true then(1:Rat) else 0)=_;rw [evalD_leaf om];rfl
  rw [e,ex_const]
 ·have e:(indQ fun s=>evalD ns s 1)=fun _=>((1:Int):Rat):=by funext s;show(if evalD ns s 1=true then(1:Rat) else 0)=_;rw [evalD_leaf om];rfl
  rw [e,ex_const]
theorem prT_node {ps:List RD} {o:List Int} {ns:List DN} (ht:TabOk o ns) {i:Nat} (hi:i<ns.length):
  prT ps o.length ns (2+i)=(1-prP ps (ns.getD i dn0).v.toNat)*prT ps o.length ns (ns.getD i dn0).lo+prP ps (ns.getD i dn0).v.toNat*prT ps o.length ns (ns.getD i dn0).hi:=by
 have nd:=ht i hi
 obtain⟨v0,v1,_,_,_,_⟩:=nd.nk
 obtain⟨r1,r2⟩:=kids_ref ht hi
 have hvv:(((ns.getD i dn0).v.toNat:Nat):Int)=(ns.getD i dn0).v:=by omega
 have:=ex_shan (p:=prP ps) (v:=(ns.getD i dn0).v.toNat) o.length _ _ om (ref_indep ht r1 (by rw [hvv];exact nd.bl)) (ref_indep ht r2 (by rw [hvv];exact nd.bh))
 unfold prT
 rw [←this]
 refine ex_congr _ _ _ fun s _=> ?_
 show(if evalD ns s (2+(i:Int))=true then(1:Rat) else 0)=if s.testBit (ns.getD i dn0).v.toNat=true then(if evalD ns s (ns.getD i dn0).hi=true then(1:Rat) else 0) else(if evalD ns s (ns.getD i dn0).lo=true then(1:Rat) else 0)
 have hen:=eval_node ht hi (v:=(ns.getD i dn0).v) (lo:=(ns.getD i dn0).lo) (hi':=(ns.getD i dn0).hi) rfl s
 rw [hen]
 cases s.testBit (ns.getD i dn0).v.toNat<;>rfl
theorem prT_fits {ps:List RD} {L:Nat} (hL:1≤L) (hw:∀x∈ps,x.wf L) {o:List Int} {ns:List DN} (ht:TabOk o ns):∀(k:Nat) (r:Int),r.toNat≤k→RefOk ns r→fits (prT ps o.length ns r) (Bl L ((o.length:Int)-lvZ o ns r).toNat):=by
 have leaf:∀r:Int,RefOk ns r→r<2→fits (prT ps o.length ns r) (Bl L ((o.length:Int)-lvZ o ns r).toNat):=fun r hr h2=>by
  have hb:=Bl_mono (L:=L) (Nat.zero_le ((o.length:Int)-lvZ o ns r).toNat)
  have h0:=hr.1
  rw [prT_leaf h0 h2]
  have:r=0∨r=1:=by omega
  rcases this with rfl|rfl
  ·exact fits_mono fits_zero hb
  ·exact fits_mono fits_one hb
 intro k
 induction k with
 |zero=>intro r hk hr;exact leaf r hr (by have:=hr.1;omega)
 |succ k ih=>
  intro r hk hr
  by_cases h2:r<2
  ·exact leaf r hr h2
  ·have h1:=hr.2
   obtain⟨i,rfl⟩:∃i:Nat,r=2+i:=⟨(r-2).toNat,by omega⟩
   have hi:i<ns.length:=by omega
   have nd:=ht i hi
   obtain⟨v0,v1,l0,l1,q0,q1⟩:=nd.nk
   obtain⟨r1,r2⟩:=kids_ref ht hi
   have f2:=ih _ om r1
   have f3:=ih _ om r2
   have f1:=RD.fits (getD_wf hw (ns.getD i dn0).v.toNat) hL
   have bl:=nd.bl
   have bh:=nd.bh
   have hpl:=place_lt (o:=o) (v:=(ns.getD i dn0).v)
   have hlv:lvZ o ns (2+(i:Int))=placeZ o (ns.getD i dn0).v:=by
    unfold lvZ
    rw [if_neg om,show(2+(i:Int)-2).toNat=i from by omega]
   rw [prT_node ht hi,hlv]
   obtain⟨h,hh⟩:∃h,((o.length:Int)-placeZ o (ns.getD i dn0).v).toNat=h+1:=⟨((o.length:Int)-placeZ o (ns.getD i dn0).v).toNat-1,by omega⟩
   rw [hh,Bl]
   have m1:=Bl_mono (L:=L) (show((o.length:Int)-lvZ o ns (ns.getD i dn0).lo).toNat≤h from by omega)
   have m2:=Bl_mono (L:=L) (show((o.length:Int)-lvZ o ns (ns.getD i dn0).hi).toNat≤h from by omega)
   exact fits_mono (fits_add (fits_mul (fits_sub fits_one f1) f2) (fits_mul f1 f3)) om
end Go.PN
namespace Go.Proofs.YtefekdejgbceiaaGreat
open Go.AI Go.PN
def allT (c k s:Nat):Bool:=(List.range k).all fun m=> !c.testBit m||s.testBit m
theorem allT_succ (c k s:Nat):allT c (k+1) s=(allT c k s&&(!c.testBit k||s.testBit k)):=by
 unfold allT
 rw [List.range_succ,List.all_append]
 simp
theorem allT_full {c n:Nat} (hc:c<2^n) (s:Nat):allT c n s=subT c s:=by
 rw [Bool.eq_iff_iff,subT_iff]
 unfold allT
 rw [List.all_eq_true]
 constructor
 ·intro h j hj
  have hjn:j<n:=by
   refine Classical.byContradiction fun hn=> ?_
   rw [Nat.testBit_lt_two_pow (Nat.lt_of_lt_of_le hc (Nat.pow_le_pow_right om om))] at hj
   cases hj
  have:=h j (List.mem_range.2 hjn)
  rw [hj] at this
  simpa using this
 ·intro h m hm
  cases hb:c.testBit m with
  |false=>rfl
  |true=>rw [h m hb];rfl
theorem cutsI_take {l:List Nat} {j:Nat} (hj:j<l.length) (i s:Nat):failsB (cutsI (l.take (j+1)) i) s=(failsB (cutsI (l.take j) i) s||((l.getD j 0).testBit i&&subT (l.getD j 0) s)):=by
 unfold cutsI failsB
 rw [ltake hj,List.filter_append,List.any_append]
 cases h:(l.getD j 0).testBit i
 ·rw [List.filter_cons_of_neg (by rw [h];simp)];simp
 ·rw [List.filter_cons_of_pos (by exact h)];simp
theorem prT_wF {ns:List DN} {r:Int} {l:List Nat} {p:List RD} {i n:Nat} (hn:n=p.length) (h:∀s,evalD ns s r=failsB (cutsI l i) s):prT p n ns r=wF l p i:=by
 subst hn
 unfold prT wF
 refine ex_congr _ _ _ fun s _=> ?_
 unfold indQ evB
 simp only [h s]
abbrev exG:FM:=⟨3,[⟨2,0,[1,2]⟩,⟨3,0,[0,3]⟩],4⟩
abbrev exGT:List Bool:=[false,true,false,true,false,true,true,true]
abbrev exGQ:List Rat:=[1/4,1/2,1/2]
abbrev exGP:List RD:=exGQ.map rd
theorem exG_code:fcode exG=0:=by decide+kernel
theorem exG_coh:cohTo exG exG.nodes.length=true:=by decide+kernel
theorem exGT_eq:formTo exG 8=exGT:=by decide+kernel
theorem exG_pc:pcode exGP 3=0:=pcode_rd rfl (by decide+kernel)
theorem exG_ok:WOk exG exGP:=⟨exG_code,exG_coh,exG_pc⟩
theorem exGP_wf:∀r∈exGP,r.wf 4:=by
 intro r hr
 obtain⟨q,hq,rfl⟩:=List.mem_map.1 hr
 refine rd_wf (fits_mono (L:=1) ?_ om)
 simp only [List.mem_cons,List.not_mem_nil,or_false] at hq
 rcases hq with rfl|rfl|rfl<;>exact⟨by decide+kernel,by decide+kernel⟩
theorem exG_argsOk:ArgsOk exG:=fun x hx=>by
 simp at hx
 rcases hx with rfl|rfl<;>decide
theorem exG_v (qs:List Rat) (h:qs.length=3):wV exG (qs.map rd)=smQ qs exGT 8:=by
 rw [←top_wV,List.length_map,h,exGT_eq,sumQ_rd]
theorem exG_set (i:Nat) (a:Rat):wV exG (exGP.set i (rd a))=smQ (exGQ.set i a) exGT 8:=by
 rw [show exGP=exGQ.map rd from rfl,←List.map_set]
 exact exG_v _ (by rw [List.length_set];rfl)
theorem exG_top:wV exG exGP=7/16:=by
 rw [show exGP=exGQ.map rd from rfl,exG_v _ rfl]
 decide+kernel
theorem exG_red:wV exG exGP/wV exG (exGP.set 1 rd0)=7/4:=by
 rw [show rd0=rd 0 from rd0_rd,exG_set,exG_top]
 decide+kernel
theorem exG_ach:achL exG exGP=[rd (16/7),rd (10/7),rd (10/7)]:=by
 have e0:wV exG (exGP.set 0 (rd 1))/wV exG exGP=16/7:=by rw [exG_set,exG_top];decide+kernel
 have e1:wV exG (exGP.set 1 (rd 1))/wV exG exGP=10/7:=by rw [exG_set,exG_top];decide+kernel
 have e2:wV exG (exGP.set 2 (rd 1))/wV exG exGP=10/7:=by rw [exG_set,exG_top];decide+kernel
 show [rd (wV exG (exGP.set 0 (rd 1))/wV exG exGP),rd (wV exG (exGP.set 1 (rd 1))/wV exG exGP),rd (wV exG (exGP.set 2 (rd 1))/wV exG exGP)]=_
 rw [e0,e1,e2]
theorem exG_cuts:cutsF exG=[1,6]:=by
 unfold cutsF
 show sortN (solN (formTo exG 8) 8)=_
 rw [exGT_eq]
 decide+kernel
theorem exG_wF (i:Nat):wF [1,6] exGP i=smQ exGQ (cutT [1,6] i 3) 8:=by
 rw [←cut_sum,show exGP=exGQ.map rd from rfl,List.length_map,sumQ_rd]
 rfl
theorem exG_fus:fusL exG exGP=[rd (4/7),rd (4/7),rd (4/7)]:=by
 unfold fusL
 rw [exG_cuts]
 have e0:wF [1,6] exGP 0/wV exG exGP=4/7:=by rw [exG_wF,exG_top];decide+kernel
 have e1:wF [1,6] exGP 1/wV exG exGP=4/7:=by rw [exG_wF,exG_top];decide+kernel
 have e2:wF [1,6] exGP 2/wV exG exGP=4/7:=by rw [exG_wF,exG_top];decide+kernel
 show [rd (wF [1,6] exGP 0/wV exG exGP),rd (wF [1,6] exGP 1/wV exG exGP),rd (wF [1,6] exGP 2/wV exG exGP)]=_
 rw [e0,e1,e2]
end Go.Proofs.YtefekdejgbceiaaGreat
namespace Go.PN
open Go.AI
theorem fm_of {f:FM} (ok:FrOk f):FmOk f:=by
 refine⟨ok.v0,by have:=ok.v24;omega,by have:=ok.n128;omega,fun x hx=> ?_,ok.t0,ok.t1⟩
 obtain⟨i,hi,rfl⟩:=List.mem_iff_getElem.1 hx
 have h1:=ok.len hi
 have h2:=ok.arg i hi
 have h3:=ok.v24
 have h4:=ok.n128
 rw [show f.nodes.getD i fn0=f.nodes[i] from by rw [List.getD_eq_getElem?_getD,List.getElem?_eq_getElem hi];rfl] at h1 h2
 exact⟨by omega,fun y hy=>by have:=h2 y hy;omega⟩
theorem bitA (c k:Nat) (hc:c<9223372036854775808) (hk:k≤64):andZ .i64 (shrZ .i64 (c:Int) (k:Int)) 1=((c/2^k%2:Nat):Int):=by
 rw [shrZ_nat c k hk]
 exact and_one_nat _ (Nat.lt_of_le_of_lt (Nat.div_le_self _ _) hc)
theorem bitA1 (c k:Nat) (hc:c<9223372036854775808) (hk:k≤64):(andZ .i64 (shrZ .i64 (c:Int) (k:Int)) 1==1)=c.testBit k:=by
 rw [bitA c k hc hk]
 exact bit_eq c k
theorem bitA0 (c k:Nat) (hc:c<9223372036854775808) (hk:k≤64):(andZ .i64 (shrZ .i64 (c:Int) (k:Int)) 1==0)= !c.testBit k:=by
 rw [bitA c k hc hk,←bit_eq c k]
 rcases Nat.mod_two_eq_zero_or_one (c/2^k) with h|h<;>rw [h]<;>rfl
end Go.PN
namespace Go.Proofs.YtefekdejgbceiaaGreat
open Go.AI Go.PN
attribute [local irreducible] aw Fa Fh DrK
structure WFn (f:FM) (p:List RD):Prop where
 c:fcode f=0
 l:(p.length:Int)=f.vars
 h6:p.length≤6
 w:∀r∈p,r.wf 4
theorem WFn.set {f:FM} {p:List RD} (h:WFn f p) (i:Nat) {q:RD} (hq:q.wf 4):WFn f (p.set i q):=⟨h.c,by rw [List.length_set];exact h.l,by rw [List.length_set];exact h.h6,wf_set h.w i hq⟩
theorem topR_fa {f:FM} {p:List RD} (hk:WFn f p):Fa Tryz.prog 26 [.agg (fmc false f),.c (rats false p)] (.agg (rdc (rd (wV f p)))):=by
 have hpl:=hk.l
 have h6:=hk.h6
 have hvp:f.vars.toNat=p.length:=by omega
 have hfa:=formula_fa f (fm_of (fr_ok hk.c)) om
 have hfl:=formTo_len f (2^f.vars.toNat)
 have htv:=top_wV f p
 rw [hvp] at hfa hfl
 generalize formTo f (2^p.length)=tb at hfa hfl htv
 have htf:=table37_fa tb p 4 om om hk.w om hfl
 rw [hfl,htv] at htf
 refine fa_of_body Tryz.func26 rfl rfl (by simp [Tryz.ntmps26]) fun C hC=> ?_
 simp only [initS,Nat.reduceAdd]
 refine xG ?_
 refine xB fun g2 hn_g2=>?_
 refine yG hn_g2 ?_
 refine yA hn_g2 fun g4 hn_g4=>?_
 have J1:=oj hn_g2 hn_g4
 refine yG J1 ?_
 refine yC J1 (hfa) ?_
 refine yG J1 ?_
 refine yC J1 (htf) ?_
 refine yGWSGT hC J1 ?_
 exact ler_rd rfl
theorem rdw {q:Rat} {L:Nat} (h:fits q L) (hL:L≤1073741824):(rd q).wf 1073741824:=rd_wf (fits_mono h hL)
theorem checkR43_fa (f:FM) (p:List RD) (hn:f.nodes.length≤1099511627776) (ha:ArgsOk f) (ht0: -9223372036854775808≤f.top) (ht:f.top≤9223372036854775807) (hw:∀r∈p,r.wf 500000000) (hl:p.length≤1099511627776):Fa Tryz.prog 25 [.agg (fmc false f),.c (rats false p)] (.c (.int .i64 (wcode f p))):=by
 unfold wcode
 refine fa_of_body Tryz.func25 rfl rfl (by simp [Tryz.ntmps25]) fun C hC=> ?_
 simp only [initS,Nat.reduceAdd]
 refine xG ?_
 refine xB fun g2 hn_g2=>?_
 refine yG hn_g2 ?_
 refine yC hn_g2 (fcheckR_fa f hn ha ht0 ht) ?_
 by_cases h1:fcode f=0
 ·have z1:=ieq_t h1
  rw [if_neg (fun h=>h h1)]
  have J1:=oj hn_g2 z1
  refine yGNG J1 ?_
  refine yC J1 (coherent_fa f (fr_ok h1)) ?_
  refine yG J1 ?_
  cases hc:cohTo f f.nodes.length
  ·refine ySG J1 ?_
   refine yP J1 ?_
   refine yGT hC J1 ?_
   exact .one (.c (.int _ _))
  ·refine ySGNG J1 ?_
   refine yC J1 (check37_fa p f.vars hw hl) ?_
   refine yGT hC J1 ?_
   exact .one (.c (.int _ _))
 ·have z1:=ieq_f h1
  rw [if_pos h1]
  have J2:=oj hn_g2 z1
  refine yGPGT hC J2 ?_
  exact .one (.c (.int _ _))
end Go.Proofs.YtefekdejgbceiaaGreat
namespace Go.Proofs.YtefekdejgbceiaaGreat
open Go.AI Go.PN
attribute [local irreducible] aw Fa Fh DrK
theorem is_fa (c d:Int) (hd:d≠0):Fa Tryz.prog 17 [.c (errA c),.c (.int .i64 d)] (.c (.bool (decide (c=d)))):=by
 by_cases h:c=0
 ·have e:errA c=.nilI:=by unfold errA errC;rw [if_pos h]
  rw [e,decide_eq_false om]
  refine fa_of_body Tryz.func17 rfl rfl (by simp [Tryz.ntmps17]) fun C hC=> ?_
  simp only [initS,Nat.reduceAdd]
  refine xGT hC ?_
  exact .one (.c (.bool _))
 ·have e:errA c=.ifc 50 (.int .i64 c):=by unfold errA errC;rw [if_neg h]
  rw [e]
  refine fa_of_body Tryz.func17 rfl rfl (by simp [Tryz.ntmps17]) fun C hC=> ?_
  simp only [initS,Nat.reduceAdd]
  refine xGT hC ?_
  exact .one (.c (ler_bool (by by_cases e:c=d<;>simp [e])))
end Go.Proofs.YtefekdejgbceiaaGreat
namespace Go.Proofs.YtefekdejgbceiaaGreat
open Go.AI Go.PN
attribute [local irreducible] aw Fa Fh DrK
theorem cutsF_le {f:FM} (h:f.vars≤6):(cutsF f).length≤64∧∀x∈cutsF f,x<64:=by
 have hp:2^f.vars.toNat≤2^6:=Nat.pow_le_pow_right om om
 unfold cutsF
 refine⟨?_,fun x hx=> ?_⟩
 ·exact Nat.le_trans (sortN_len _) (Nat.le_trans (sol_len_le _ _) om)
 ·have:=sol_ltN (sort_mem.1 hx)
  omega
end Go.Proofs.YtefekdejgbceiaaGreat
namespace Go.AI
def MapV {α:Type} (K:α→Value) (ks:List α) (us:List Value) (o:Obj):Prop:=∃es c,o=.map es c∧es.toList.map (·.key)=ks.map K∧es.toList.map (·.val)=us
def vGet {α:Type} [DecidableEq α] (a:α):List (α×AV)→Option AV
 |[]=>none
 |p::kv=>if a=p.1 then some p.2 else vGet a kv
theorem fAsk_v {α:Type} [DecidableEq α] {S:Bool→Nat→Prop} {w:World} (a:α):∀(kv:List (α×AV)) (es:List MapEntry) (us:List Value) (i:Nat),es.map (·.val)=us→es.length=kv.length→RepT S w (kv.map (·.2)) us→
  match vGet a kv with
  |none=>fAsk a (kv.map (·.1)) es i=none
  |some x=>∃j v,fAsk a (kv.map (·.1)) es i=some (j,v)∧Rep0 S w x v
 |[],[],us,i,h,_,hr=>rfl
 |p::kv,e::es,u::us,i,h,hl,hr=>by
  simp only [List.map_cons,List.cons.injEq] at h
  simp only [List.map_cons,fAsk,vGet]
  by_cases ha:a=p.1
  ·rw [if_pos ha,if_pos ha]
   exact⟨i,e.val,rfl,by rw [h.1];exact hr.1⟩
  ·rw [if_neg ha,if_neg ha]
   exact fAsk_v a kv es us (i+1) h.2 (by simpa using hl) hr.2
 |p::kv,e::es,[],i,h,_,hr=>by simp at h
 |[],e::es,us,i,h,hl,hr=>by simp at hl
 |p::kv,[],us,i,h,hl,hr=>by simp at hl
theorem RepT.snoc {S:Bool→Nat→Prop} {w:World} {x:AV} {u:Value} (hx:Rep0 S w x u):∀{xs:List AV} {us:List Value},RepT S w xs us→RepT S w (xs++[x]) (us++[u])
 |[],[],_=>⟨hx,trivial⟩
 |_::_,_::_,hr=>⟨hr.1,RepT.snoc hx hr.2⟩
 |[],_::_,hr=>hr.elim
 |_::_,[],hr=>hr.elim
theorem RepT.length {S:Bool→Nat→Prop} {w:World}:∀{xs:List AV} {us:List Value},RepT S w xs us→us.length=xs.length
 |[],[],_=>rfl
 |_::_,_::_,hr=>by simp [RepT.length hr.2]
 |[],_::_,hr=>hr.elim
 |_::_,[],hr=>hr.elim
def tupB:AV→Bool
 |.tup _=>true
 |_=>false
theorem rep_of0 {S:Bool→Nat→Prop} {w:World} {x:AV} {v:Value} (hx:tupB x=false):Rep S w x v→Rep0 S w x v:=by
 cases x with
 |c x=>exact id
 |agg cs=>exact id
 |tup xs=>cases hx
section
variable {P : Program}
variable {E : Env} {K : List It} {σ σ' : Sl} {h : Heap} {all rest : List Oper} {o : Oper}
theorem aw_mapV {α:Type} {Kf:α→Value} {g:Nat} {h:Heap} (k:aw E K σ ((g,.vals (MapV Kf []) [])::h)):aw E K σ ((g,.gen (MapI Kf []))::h):=fun a w s=>by
 refine k a w ⟨s.size,s.defers,s.slots,fun g' o' hm=> ?_,s.nodup,s.keys,s.frame⟩
 rcases List.mem_cons.1 hm with e|hm
 ·injection e with e1 e2
  subst e1 e2
  obtain⟨o,hb,es,c,rfl,hes⟩:=s.heap _ _ (List.mem_cons_self ..)
  have hn:es.toList=[]:=by simpa using hes
  exact⟨_,[],hb,trivial,es,c,rfl,by rw [hn];rfl,by rw [hn];rfl⟩
 ·exact s.heap g' o' (List.mem_cons_of_mem _ hm)
def ZeroA (P:Program) (t:TypeId) (z:List CV):Prop:=∃us:List Value,(∀w,(zeroValue t).run P w=.ok (.agg us.toArray) w)∧∀S w,RepL S w z us
def vAns (x:Option AV) (z:List CV):AV:=.tup [x.getD (.agg z),.c (.bool x.isSome)]
theorem lookupV_run {w:World} {N:Nat} {C:Ctx} {ac:Act} {α:Type} [DecidableEq α] {Kf:α→Value} {t kt et g:TypeId} {kv:List (α×AV)} {a:α} {z:List CV} (s:St N C σ h ac w)
  (ht:tMap P t=some (kt,et)) (hK:KeyOk P kt Kf) (hz:ZeroA P et z) (hg:h.get g=some (.vals (MapV Kf (kv.map (·.1))) (kv.map (·.2)))):
  ∃us:List Value,(Instr.lookup t (.map (some g)) (Kf a) true).run P w=.ok (.tuple us.toArray) w∧RepT (Stab C h w) w [(vGet a kv).getD (.agg z),.c (.bool (vGet a kv).isSome)] us:=by
 obtain⟨ob,us,hb,hu,es,c,rfl,hk,hv⟩:=s.heap g _ (Heap.get_mem hg)
 have hlen:es.toList.length=kv.length:=by
  have:=congrArg List.length hk
  simpa using this
 have hfind:=hK.find a (kv.map (·.1)) es.toList w hk
 have hask:=fAsk_v (S:=Stab C h w) (w:=w) a kv es.toList us 0 hv hlen hu
 obtain⟨zs,hz1,hz2⟩:=hz
 cases hg2:vGet a kv with
 |none=>
  rw [hg2] at hask
  refine⟨[.agg zs.toArray,.bool false],?_,⟨⟨zs,rfl,hz2 _ _⟩,rfl,trivial⟩⟩
  unfold Instr.lookup
  simp only [Sem.run_bind,run_underlying (tMap_spec ht),Result.andThen_ok,runGet hb,Sem.run_pure,hK.check,hfind,hask]
  simp [hz1]
 |some x=>
  rw [hg2] at hask
  obtain⟨j,v,hj,hx⟩:=hask
  refine⟨[v,.bool true],?_,⟨hx,rfl,trivial⟩⟩
  unfold Instr.lookup
  simp only [Sem.run_bind,run_underlying (tMap_spec ht),Result.andThen_ok,runGet hb,Sem.run_pure,hK.check,hfind,hj]
  simp
theorem aw_lookupV {α:Type} [DecidableEq α] {Kf:α→Value} {t kt et g:TypeId} {kv:List (α×AV)} {x ky:Operand} {ck:AV} {a:α} {z:List CV} (hop:o.op=.lookup t x ky true) (hw:wantA all σ o=some true) (hd:dstOk E.N o.dst=true)
  (ht:tMap E.P t=some (kt,et)) (hK:KeyOk E.P kt Kf) (hz:ZeroA E.P et z) (hx:ev σ x=.c (.raw (.map (some g)))) (hg:h.get g=some (.vals (MapV Kf (kv.map (·.1))) (kv.map (·.2)))) (hk:ev σ ky=ck) (hka:∀S w v,Rep S w ck v→v=Kf a)
  (k:aw E (.ops all rest::K) (σ.setO o.dst (vAns (vGet a kv) z)) h):aw E (.ops all (o::rest)::K) σ h:=by
 refine aw_step hw (fun ac w s=> ?_) k
 have h1:=ev_rep s x
 rw [hx] at h1
 have h1':ac.eval x=.map (some g):=h1
 have h2:=ev_rep s ky
 rw [hk] at h2
 have h2':=hka _ _ _ h2
 obtain⟨us,hr,hu⟩:=lookupV_run (a:=a) s ht hK hz hg
 refine⟨.tuple us.toArray,w,.inl ?_,s.put hd ⟨us,rfl,hu⟩⟩
 simp only [execOp,hop,Sem.run_bind,h1',h2',hr,Result.andThen_ok]
 rfl
theorem aw_mapNewV {α:Type} [DecidableEq α] {Kf:α→Value} {t kt et g:TypeId} {kv:List (α×AV)} {x ky vl:Operand} {ck cv:AV} {a:α} (hop:o.op=.mapUpdate t x ky vl) (hdn:o.dst=none) (hw:wantA all σ o=some true)
  (ht:tMap E.P t=some (kt,et)) (hK:KeyOk E.P kt Kf) (hx:ev σ x=.c (.raw (.map (some g)))) (hg:h.get g=some (.vals (MapV Kf (kv.map (·.1))) (kv.map (·.2)))) (hk:ev σ ky=ck) (hka:∀S w u,Rep S w ck u→u=Kf a) (hv:ev σ vl=cv) (hvt:tupB cv=false)
  (hnew:vGet a kv=none) {h':Heap} (hh:h.set g (.vals (MapV Kf ((kv++[(a,cv)]).map (·.1))) ((kv++[(a,cv)]).map (·.2)))=h') (k:aw E (.ops all rest::K) σ h'):aw E (.ops all (o::rest)::K) σ h:=by
 subst hh
 refine aw_step hw (fun ac w s=> ?_) k
 have h1:=ev_rep s x
 rw [hx] at h1
 have h1':ac.eval x=.map (some g):=h1
 have h2:=ev_rep s ky
 rw [hk] at h2
 have h2':=hka _ _ _ h2
 have h3:=ev_rep s vl
 rw [hv] at h3
 have h3':=rep_of0 hvt h3
 obtain⟨v,hvv⟩:∃v,ac.eval vl=v:=⟨_,rfl⟩
 rw [hvv] at h3'
 obtain⟨ob,us,hb,hu,es,c,rfl,hks,hvs⟩:=s.heap g _ (Heap.get_mem hg)
 have hlen:es.toList.length=kv.length:=by
  have:=congrArg List.length hks
  simpa using this
 have hfind:=hK.find a (kv.map (·.1)) es.toList w hks
 have hask:=fAsk_v (S:=Stab E.C h w) (w:=w) a kv es.toList us 0 hvs hlen hu
 rw [hnew] at hask
 have hgl:g<w.heap.size:=(Array.getElem?_eq_some_iff.1 hb).1
 let w':World:={w with heap:=w.heap.setIfInBounds g (.map (es.push {key:=Kf a,val:=v,born:=c}) (c+1))}
 have hrun:(Instr.mapUpdate t (ac.eval x) (ac.eval ky) (ac.eval vl)).run E.P w=.ok () w':=by
  rw [h1',h2',hvv]
  unfold Instr.mapUpdate
  simp only [Sem.run_bind,run_underlying (tMap_spec ht),Result.andThen_ok,runGet hb,hK.check,hfind,hask,runSet _ hb]
  rfl
 have hfr:Fr (fun b=>b=g) w w':=by
  refine⟨rfl,rfl,rfl,by simp [w'],Nat.le_refl _,fun b _ hne=> ?_,fun g' m hh=> ?_⟩
  ·simp only [w'];rw [Array.getElem?_setIfInBounds_ne (fun e=>hne e.symm)]
  ·obtain⟨cs,ty,⟨fr,hc⟩,hs⟩:=hh
   refine⟨cs,ty,⟨fr,?_⟩,hs⟩
   have hne:g'≠g:=fun e=>by rw [e,hb] at hc;cases hc
   simp only [w']
   rw [Array.getElem?_setIfInBounds_ne (fun e=>hne e.symm)];exact hc
 refine⟨undef,w',.inr ⟨?_,rfl⟩,?_⟩
 ·simp only [execOp,hop,Sem.run_bind,hrun,Result.andThen_ok]
  rfl
 ·rw [hdn]
  have hgm:g∈h.keys:=List.mem_map.2 ⟨_,Heap.get_mem hg,rfl⟩
  have hkk:=Heap.keys_set h g (.vals (MapV Kf ((kv++[(a,cv)]).map (·.1))) ((kv++[(a,cv)]).map (·.2)))
  have kp:Keeps (Stab E.C h w) (Stab E.C (h.set g (.vals (MapV Kf ((kv++[(a,cv)]).map (·.1))) ((kv++[(a,cv)]).map (·.2)))) w') w w':=
   ⟨fun t b hb=>⟨hb.1,Nat.lt_of_lt_of_le hb.2.1 hfr.size,by rw [hkk];exact hb.2.2⟩,fun t b hb=>hfr.block b hb.2.1 (fun e=>hb.2.2 (e▸hgm)),hfr.has⟩
  refine s.setObj hg hfr ⟨_,us++[v],by simp only [w'];rw [Array.getElem?_setIfInBounds_self_of_lt hgl],?_,_,_,rfl,?_,?_⟩
  ·have q:=RepT.keep kp (RepT.snoc h3' hu)
   have e:kv.map (·.2)++[cv]=(kv++[(a,cv)]).map (·.2):=by simp
   rw [e] at q
   exact q
  ·simp only [Array.toList_push,List.map_append,List.map_cons,List.map_nil,hks]
  ·simp only [Array.toList_push,List.map_append,List.map_cons,List.map_nil,hvs]
theorem aw_insNewV {α:Type} [DecidableEq α] {Kf:α→Value} {t kt et g:TypeId} {kv:List (α×AV)} {x ky vl:Operand} {ck cv:AV} {a:α} (hop:o.op=.insert t x ky vl) (hdn:o.dst=none) (hw:wantA all σ o=some true)
  (ht:tMap E.P t=some (kt,et)) (hK:KeyOk E.P kt Kf) (hx:ev σ x=.c (.raw (.map (some g)))) (hg:h.get g=some (.vals (MapV Kf (kv.map (·.1))) (kv.map (·.2)))) (hk:ev σ ky=ck) (hka:∀S w u,Rep S w ck u→u=Kf a) (hv:ev σ vl=cv) (hvt:tupB cv=false)
  (hnew:vGet a kv=none) {h':Heap} (hh:h.set g (.vals (MapV Kf ((kv++[(a,cv)]).map (·.1))) ((kv++[(a,cv)]).map (·.2)))=h') (k:aw E (.ops all rest::K) σ h'):aw E (.ops all (o::rest)::K) σ h:=by
 subst hh
 refine aw_step hw (fun ac w s=> ?_) k
 have h1:=ev_rep s x
 rw [hx] at h1
 have h1':ac.eval x=.map (some g):=h1
 have h2:=ev_rep s ky
 rw [hk] at h2
 have h2':=hka _ _ _ h2
 have h3:=ev_rep s vl
 rw [hv] at h3
 have h3':=rep_of0 hvt h3
 obtain⟨v,hvv⟩:∃v,ac.eval vl=v:=⟨_,rfl⟩
 rw [hvv] at h3'
 obtain⟨ob,us,hb,hu,es,c,rfl,hks,hvs⟩:=s.heap g _ (Heap.get_mem hg)
 have hlen:es.toList.length=kv.length:=by
  have:=congrArg List.length hks
  simpa using this
 have hfind:=hK.find a (kv.map (·.1)) es.toList w hks
 have hask:=fAsk_v (S:=Stab E.C h w) (w:=w) a kv es.toList us 0 hvs hlen hu
 rw [hnew] at hask
 have hgl:g<w.heap.size:=(Array.getElem?_eq_some_iff.1 hb).1
 let w':World:={w with heap:=w.heap.setIfInBounds g (.map (es.push {key:=Kf a,val:=v,born:=c}) (c+1))}
 have hrun:(Instr.mapUpdate t (ac.eval x) (ac.eval ky) (ac.eval vl)).run E.P w=.ok () w':=by
  rw [h1',h2',hvv]
  unfold Instr.mapUpdate
  simp only [Sem.run_bind,run_underlying (tMap_spec ht),Result.andThen_ok,runGet hb,hK.check,hfind,hask,runSet _ hb]
  rfl
 have hfr:Fr (fun b=>b=g) w w':=by
  refine⟨rfl,rfl,rfl,by simp [w'],Nat.le_refl _,fun b _ hne=> ?_,fun g' m hh=> ?_⟩
  ·simp only [w'];rw [Array.getElem?_setIfInBounds_ne (fun e=>hne e.symm)]
  ·obtain⟨cs,ty,⟨fr,hc⟩,hs⟩:=hh
   refine⟨cs,ty,⟨fr,?_⟩,hs⟩
   have hne:g'≠g:=fun e=>by rw [e,hb] at hc;cases hc
   simp only [w']
   rw [Array.getElem?_setIfInBounds_ne (fun e=>hne e.symm)];exact hc
 refine⟨undef,w',.inr ⟨?_,rfl⟩,?_⟩
 ·simp only [execOp,hop,Sem.run_bind,hrun,Result.andThen_ok]
  rfl
 ·rw [hdn]
  have hgm:g∈h.keys:=List.mem_map.2 ⟨_,Heap.get_mem hg,rfl⟩
  have hkk:=Heap.keys_set h g (.vals (MapV Kf ((kv++[(a,cv)]).map (·.1))) ((kv++[(a,cv)]).map (·.2)))
  have kp:Keeps (Stab E.C h w) (Stab E.C (h.set g (.vals (MapV Kf ((kv++[(a,cv)]).map (·.1))) ((kv++[(a,cv)]).map (·.2)))) w') w w':=
   ⟨fun t b hb=>⟨hb.1,Nat.lt_of_lt_of_le hb.2.1 hfr.size,by rw [hkk];exact hb.2.2⟩,fun t b hb=>hfr.block b hb.2.1 (fun e=>hb.2.2 (e▸hgm)),hfr.has⟩
  refine s.setObj hg hfr ⟨_,us++[v],by simp only [w'];rw [Array.getElem?_setIfInBounds_self_of_lt hgl],?_,_,_,rfl,?_,?_⟩
  ·have q:=RepT.keep kp (RepT.snoc h3' hu)
   have e:kv.map (·.2)++[cv]=(kv++[(a,cv)]).map (·.2):=by simp
   rw [e] at q
   exact q
  ·simp only [Array.toList_push,List.map_append,List.map_cons,List.map_nil,hks]
  ·simp only [Array.toList_push,List.map_append,List.map_cons,List.map_nil,hvs]
end
end Go.AI
namespace Go.AI
section
variable {E : Env} {K : List It} {σ : Sl} {h : Heap}
theorem aw_convV {g:Nat} {R:List Value→Obj→Prop} {xs xs':List AV} (hx:∀S w us,RepT S w xs us→RepT S w xs' us) (k:aw E K σ ((g,.vals R xs')::h)):aw E K σ ((g,.vals R xs)::h):=fun a w s=>by
 refine k a w ⟨s.size,s.defers,s.slots,fun g' o' hm=> ?_,s.nodup,s.keys,s.frame⟩
 rcases List.mem_cons.1 hm with e|hm
 ·injection e with e1 e2
  subst e1 e2
  obtain⟨o,us,hb,hu,hR⟩:=s.heap _ _ (List.mem_cons_self ..)
  exact⟨o,us,hb,hx _ _ _ hu,hR⟩
 ·exact s.heap g' o' (List.mem_cons_of_mem _ hm)
end
end Go.AI
namespace Go.Proofs.YtefekdejgbceiaaGreat
open Go.AI Go.PN
def prL (dl:List (Int×Rat)):List (Int×AV):=dl.map fun z=>(z.1,.agg (rdc (rd z.2)))
def prGet (r:Int):List (Int×Rat)→Option Rat
 |[]=>none
 |z::dl=>if r=z.1 then some z.2 else prGet r dl
theorem pr_get (r:Int):∀dl,vGet r (prL dl)=(prGet r dl).map fun q=>.agg (rdc (rd q))
 |[]=>rfl
 |z::dl=>by
  show vGet r ((z.1,_)::prL dl)=_
  rw [vGet,prGet]
  split
  ·rfl
  ·exact pr_get r dl
theorem pr_mem {r:Int} {x:Rat}:∀{dl:List (Int×Rat)},prGet r dl=some x→(r,x)∈dl
 |[],h=>by cases h
 |z::dl,h=>by
  rw [prGet] at h
  split at h
  ·rename_i e
   injection h with h
   subst e h
   exact List.mem_cons_self ..
  ·exact List.mem_cons_of_mem _ (pr_mem h)
theorem pr_none {r:Int}:∀{dl:List (Int×Rat)},prGet r dl=none→∀z∈dl,z.1≠r
 |[],_,z,hz=>absurd hz List.not_mem_nil
 |y::dl,h,z,hz=>by
  rw [prGet] at h
  split at h
  ·cases h
  ·rename_i e
   rcases List.mem_cons.1 hz with rfl|hz
   ·exact fun e'=>e e'.symm
   ·exact pr_none h z hz
theorem pr_none' {r:Int}:∀{dl:List (Int×Rat)},(∀z∈dl,z.1≠r)→prGet r dl=none
 |[],_=>rfl
 |y::dl,h=>by
  rw [prGet,if_neg (fun e=>h y (List.mem_cons_self ..) e.symm)]
  exact pr_none' fun z hz=>h z (List.mem_cons_of_mem _ hz)
theorem pr_app {r:Int}:∀{dl zs:List (Int×Rat)},prGet r dl≠none→prGet r (dl++zs)≠none
 |[],_,h=>absurd rfl h
 |y::dl,zs,h=>by
  rw [List.cons_append,prGet]
  rw [prGet] at h
  split
  ·simp
  ·rename_i hne
   rw [if_neg hne] at h
   exact pr_app h
theorem prL_push (dl:List (Int×Rat)) (r:Int) (q:Rat):prL dl++[(r,.agg (rdc (rd q)))]=prL (dl++[(r,q)]):=by simp [prL]
structure PrOk (ps:List RD) (n:Nat) (ns:List DN) (dl:List (Int×Rat)):Prop where
 sem:∀z∈dl,z.2=prT ps n ns z.1
 low:∀q:Int,0≤q→q<2→prGet q dl≠none
attribute [local irreducible] aw Fa Fh DrK
@[go_sem] theorem ty_s_fr:tSz Tryz.prog 45=some (false,1):=by kernel_rfl
@[go_sem] theorem ty_z_fr:tZero Tryz.prog 45=some [.raw .nilFunc]:=by kernel_rfl
theorem ty_rz:ZeroA Tryz.prog 41 [.bool false,.nils,.nils]:=
 ⟨[.bool false,.slice none 0 0,.slice none 0 0],Tryz.zeroValue41,fun _ _=>⟨rfl,⟨none,rfl⟩,⟨none,rfl⟩,trivial⟩⟩
abbrev C5 (g1 g2 g3 g4 g5 gd gT:Nat) (ps:List RD) (dl:List (Int×Rat)):Heap:=
 [(g1,.cells 152 1 (ofL [.raw (.map (some gd))])),(g2,.cells 64 1 (ofL [.optr gT 0])),(g3,.cells 25 1 (ofL [rats false ps])),(g4,.cells 41 3 (ofL (rdc (rd 1)))),(g5,.cells 45 1 (ofL [fnC 108 [g1,g2,g3,g4,g5]])),(gd,.vals (MapV keyI ((prL dl).map (·.1))) ((prL dl).map (·.2)))]
theorem pwalk_fh (g1 g2 g3 g4 g5 gd gT gU gM:Nat) {o pl:List Int} (ho:OdOk o pl) (h6:o.length≤6) {og:Option Nat} {ns:List DN} {mm:Mem3} (hs:TS o og ns mm) (hn:ns.length≤1000000000) (ps:List RD) (hw:∀x∈ps,x.wf 4) (hpl:ps.length=o.length):∀(k:Nat) (r:Int) (dl:List (Int×Rat)),r.toNat<k→RefOk ns r→PrOk ps o.length ns dl→
  Fh Tryz.prog 108 (C5 g1 g2 g3 g4 g5 gd gT ps dl++THp gT gU gM og o pl ns mm) ([.c (.int .i64 r)]++[g1,g2,g3,g4,g5].map fun g=>.c (.optr g 0)) (fun x h=>∃dl',PrOk ps o.length ns dl'∧(∀z∈dl',z∈dl∨z.1≤r)∧x=.agg (rdc (rd (prT ps o.length ns r)))∧h=C5 g1 g2 g3 g4 g5 gd gT ps dl'++THp gT gU gM og o pl ns mm):=by
 intro k
 induction k with
 |zero=>intro r dl hk;omega
 |succ k ih=>
  intro r dl hk hr hc
  simp only [List.cons_append,List.nil_append,List.map_cons,List.map_nil]
  refine fh_of_body Tryz.func108 rfl rfl (by simp [Tryz.ntmps108]) fun C hC=> ?_
  simp only [initS,Nat.reduceAdd]
  simp only [C5,THp,TH,List.cons_append,List.nil_append]
  refine aw_nd fun hnd=> ?_
  simp only [Heap.keys,List.map_cons] at hnd
  replace hnd:=ndP_of hnd
  dsimp only [ndP,neA] at hnd
  refine yG hnd ?_
  refine yA hnd fun g7 hn_g7=>?_
  have J1:=oj hnd hn_g7
  refine yG J1 ?_
  refine aw_lookupV (a:=r) (kv:=prL dl) (Kf:=keyI) (kt:=3) (et:=41) (z:=[.bool false,.nils,.nils]) rfl rfl rfl (by kernel_rfl) ty_ki ty_rz (zE J1) (zE J1) (zE J1) keyI_rep ?_
  refine yS J1 ?_
  rw [pr_get]
  cases hf:prGet r dl with
  |some x=>
   have hx:x=prT ps o.length ns r:=hc.sem _ (pr_mem hf)
   subst hx
   try simp only [vAns,Option.map_some,Option.getD_some,Option.isSome_some,cstC]
   refine yG J1 ?_
   refine yA J1 fun g8 hn_g8=>?_
   have J2:=oj hnd (oj hn_g7 hn_g8)
   refine yGWSGNG J2 ?_
   refine yW J2 ?_
   refine ySG J2 ?_
   refine aw_rethw (h':=C5 g1 g2 g3 g4 g5 gd gT ps dl++THp gT gU gM og o pl ns mm) rfl (List.Sublist.cons _ (List.Sublist.cons _ (List.Sublist.refl _))) (fun R hR=> ?_)
   simp only [go_sem,hnd,hn_g7,hn_g8]
   refine hR _ rfl ?_
   exact⟨dl,hc,fun z hz=>.inl hz,rfl,rfl⟩
  |none=>
   try simp only [vAns,Option.map_none,Option.getD_none,Option.isSome_none,cstC]
   refine yG (oj hnd hn_g7) ?_
   refine yA (oj hnd hn_g7) fun g8 hn_g8=>?_
   have J3:=oj hnd (oj hn_g7 hn_g8)
   refine yGWSG J3 ?_
   refine yP J3 ?_
   have h2:2≤r:=by
    refine Classical.byContradiction fun h=> ?_
    exact hc.low r hr.1 om hf
   obtain⟨g,rfl⟩:∃g,og=some g:=by
    cases og with
    |none=>have:=hs.og rfl;unfold RefOk at hr;omega
    |some g=>exact⟨g,rfl⟩
   simp only [gh,List.map_cons,List.map_nil,neA,ndP] at hnd
   dsimp only [gh,Heap.ne] at hn_g7 hn_g8
   simp only [gs,gh]
   have hi:(r-2).toNat<ns.length:=by unfold RefOk at hr;omega
   obtain⟨w0,w1,w2,w3,w4,w5⟩:=(hs.tab _ hi).nk
   obtain⟨kl,kh⟩:=kids_ref hs.tab hi
   have hpn:=prT_node (ps:=ps) hs.tab hi
   rw [show(2:Int)+(((r-2).toNat:Nat):Int)=r from by omega] at hpn
   have fl:=fits_mono (prT_fits (L:=4) om hw hs.tab _ _ (Nat.le_refl _) kl) (Bl46 (by have:=lv3_nonneg ho.mem hs.tab kl;omega))
   have fh:=fits_mono (prT_fits (L:=4) om hw hs.tab _ _ (Nat.le_refl _) kh) (Bl46 (by have:=lv3_nonneg ho.mem hs.tab kh;omega))
   generalize hx0:ns.getD (r-2).toNat dn0=nd at*
   have wq:=getD_wf hw nd.v.toNat
   have hq0:prP ps nd.v.toNat=(ps.getD nd.v.toNat rd0).q:=rfl
   rw [hq0] at hpn
   have v1:nd.v<ps.length:=by omega
   generalize hq1:ps.getD nd.v.toNat rd0=q at*
   have fq:=RD.fits wq om
   have f1:=fits_sub fits_one fq
   have f2:=fits_mul f1 fl
   have f3:=fits_mul fq fh
   generalize hX:prT ps o.length ns r=X at*
   generalize hXL:prT ps o.length ns nd.lo=XL at*
   generalize hXH:prT ps o.length ns nd.hi=XH at*
   have J4:=oj hnd (oj hn_g7 (oj hn_g8 (oj hx0 hq1)))
   refine yG J4 ?_
   refine yA J4 fun g10 hn_g10=>?_
   have J5:=oj hnd (oj hn_g7 (oj hn_g8 (oj hx0 (oj hq1 hn_g10))))
   refine yGWSG J5 ?_
   refine yA J5 fun g11 hn_g11=>?_
   have J6:=oj hnd (oj hn_g7 (oj hn_g8 (oj hx0 (oj hq1 (oj hn_g10 hn_g11)))))
   refine yGWSG J6 ?_
   refine aw_cw ([(g11,.cells 41 3 (ofL (rdc q))),(g10,.cells 119 3 (ofL [.int .i64 nd.v,.int .i64 nd.lo,.int .i64 nd.hi])),(g4,.cells 41 3 (ofL (rdc (rd 1)))),(g5,.cells 45 1 (ofL [fnC 108 [g1,g2,g3,g4,g5]]))]) [(0,0),(1,0),(2,0),(3,0),(4,0),(5,0),(8,0),(9,0),(10,0),(11,0),(6,1),(7,0),(12,1),(13,0),(14,0),(15,2)] ty_mixed (by kernel_rfl) eI ?_
   refine yG J6 ?_
   refine cw_callq rfl (rsub_fa (rd 1) q (rd_wf (fits_mono fits_one om)) (wf_mono wq om)) rfl rfl rfl (fun _ _=>(zL J6)) ?_
   rw [rd_q]
   refine ySG J6 ?_
   refine cw_callhv (gs:=[g1,g2,g3,g4,g5]) rfl (ih nd.lo dl om kl hc) rfl rfl rfl (zE J6) (List.perm_append_comm (l₁:=[(g11,_),(g10,_),(g8,_),(g7,_)])) (zL J6) (by
    rintro _ _ ⟨_,_,_,rfl,rfl⟩;simp only [C5,THp,TH,gs,gh,List.append_assoc,List.cons_append,List.nil_append];exact eI) ?_ (hm:=.inr ⟨rfl,rfl⟩)
   rintro _ _ ⟨dl1,c1,n1,rfl,rfl⟩ _
   rw [hXL]
   refine cw_perm List.perm_append_comm ?_
   simp only [C5,THp,TH,gs,gh,List.cons_append,List.nil_append]
   refine ySG J6 ?_
   refine cw_callq rfl (rmul_fa (rd (1-q.q)) (rd XL) (rd_wf (fits_mono f1 om)) (rd_wf (fits_mono fl om))) rfl rfl rfl (fun _ _=>(zL J6)) ?_
   rw [rd_q,rd_q]
   refine ySG J6 ?_
   refine cw_callhv (gs:=[g1,g2,g3,g4,g5]) rfl (ih nd.hi dl1 om kh c1) rfl rfl rfl (zE J6) (List.perm_append_comm (l₁:=[(g11,_),(g10,_),(g8,_),(g7,_)])) (zL J6) (by
    rintro _ _ ⟨_,_,_,rfl,rfl⟩;simp only [C5,THp,TH,gs,gh,List.append_assoc,List.cons_append,List.nil_append];exact eI) ?_ (hm:=.inr ⟨rfl,rfl⟩)
   rintro _ _ ⟨dl2,c2,n2,rfl,rfl⟩ _
   rw [hXH]
   refine cw_perm List.perm_append_comm ?_
   have hb:∀z∈dl2,z∈dl∨z.1<r:=fun z hz=>by
    rcases n2 z hz with h|h
    ·rcases n1 z h with h|h
     ·exact .inl h
     ·exact .inr om
    ·exact .inr om
   have hnew:∀z∈dl2,z.1≠r:=fun z hz=>by
    rcases hb z hz with h|h
    ·exact pr_none hf z h
    ·omega
   simp only [C5,THp,TH,gs,gh,List.cons_append,List.nil_append]
   refine ySG J6 ?_
   refine cw_callq rfl (rmul_fa q (rd XH) (wf_mono wq om) (rd_wf (fits_mono fh om))) rfl rfl rfl (fun _ _=>(zL J6)) ?_
   rw [rd_q]
   refine ySG J6 ?_
   refine cw_callq rfl (radd_fa (rd ((1-q.q)*XL)) (rd (q.q*XH)) (rd_wf (fits_mono f2 om)) (rd_wf (fits_mono f3 om))) rfl rfl rfl (fun _ _=>(zL J6)) ?_
   rw [rd_q,rd_q,←hpn]
   refine ySG J6 ?_
   refine cw_store (FP':=[]) rfl rfl rfl rfl rfl (zE J6) (zE J6) (zE J6) (zE J6) (fun _ e=>by cases e) rfl rfl (Nat.le_refl 3) rfl has0_nil ?_
   refine ySG J6 ?_
   refine aw_mapNewV (a:=r) (kv:=prL dl2) (Kf:=keyI) rfl rfl rfl (kt:=3) (et:=41) (by kernel_rfl) ty_ki (zE J6) (zE J6) (zE J6) keyI_rep (cv:=.agg (rdc (rd X))) (zE J6) rfl (by rw [pr_get,pr_none' hnew];rfl) (zE J6) ?_
   rw [prL_push]
   refine ySGWSG J6 ?_
   refine aw_rethw (h':=C5 g1 g2 g3 g4 g5 gd gT ps (dl2++[(r,X)])++THp gT gU gM (some g) o pl ns mm) rfl (List.Sublist.cons _ (List.Sublist.cons _ (List.Sublist.cons _ (List.Sublist.cons _ (List.Sublist.refl _))))) (fun R hR=> ?_)
   simp only [go_sem,hnd,hn_g7,hn_g8,hx0,hq1,hn_g10,hn_g11]
   refine hR _ rfl ?_
   clear hR R
   refine⟨dl2++[(r,X)],⟨fun z hz=> ?_,fun q q0 q1=>pr_app (c2.low q q0 q1)⟩,fun z hz=> ?_,rfl,rfl⟩
   ·rcases List.mem_append.1 hz with hz|hz
    ·exact c2.sem z hz
    ·rw [List.mem_singleton] at hz;subst hz;exact hX.symm
   ·rcases List.mem_append.1 hz with hz|hz
    ·rcases hb z hz with h|h
     ·exact .inl h
     ·exact .inr om
    ·rw [List.mem_singleton] at hz;subst hz;exact .inr (Int.le_refl _)
theorem prob_fh (gT gU gM:Nat) {o pl:List Int} (ho:OdOk o pl) (h6:o.length≤6) {og:Option Nat} {ns:List DN} {mm:Mem3} (hs:TS o og ns mm) (hn:ns.length≤1000000000) (ps:List RD) (hw:∀x∈ps,x.wf 4) (hpl:ps.length=o.length) {r:Int} (hr:RefOk ns r):
  Fh Tryz.prog 63 (THp gT gU gM og o pl ns mm) [.c (.optr gT 0),.c (.int .i64 r),.c (rats false ps)] (fun x h=>x=.agg (rdc (rd (prT ps o.length ns r)))∧h=THp gT gU gM og o pl ns mm):=by
 refine fh_of_body Tryz.func63 rfl rfl (by simp [Tryz.ntmps63]) fun C hC=> ?_
 simp only [initS,Nat.reduceAdd]
 refine xG ?_
 refine xB fun g3 hn_g3=>?_
 refine yG hn_g3 ?_
 refine yB hn_g3 fun g5 hn_g5=>?_
 refine yG (oj hn_g3 hn_g5) ?_
 refine yA (oj hn_g3 hn_g5) fun g6 hn_g6=>?_
 have J1:=oj hn_g3 (oj hn_g5 hn_g6)
 refine yG J1 ?_
 refine yC J1 (rof_fa 1 ?_ ?_) ?_
 ·omega
 ·omega
 rw [cast1]
 refine yG J1 ?_
 refine yA J1 fun g7 hn_g7=>?_
 have J2:=oj hn_g3 (oj hn_g5 (oj hn_g6 hn_g7))
 refine yGWSG J2 ?_
 refine aw_makeMap (Kf:=keyI) rfl rfl rfl fun gd hn_gd=> ?_
 replace hn_gd:=Heap.ne_of hn_gd
 dsimp only [Heap.ne,gh] at hn_gd
 refine aw_mapV ?_
 have J3:=oj hn_g3 (oj hn_g5 (oj hn_g6 (oj hn_g7 hn_gd)))
 refine ySG J3 ?_
 refine aw_insNewV (a:=0) (kv:=[]) (Kf:=keyI) rfl rfl rfl (kt:=3) (et:=41) (by kernel_rfl) ty_ki (zE J3) (zE J3) (zE J3) keyI_rep (cv:=.agg [.bool false,.nils,.nils]) (zE J3) rfl rfl (zE J3) ?_
 refine ySG J3 ?_
 refine aw_insNewV (a:=1) (kv:=[(0,.agg [.bool false,.nils,.nils])]) (Kf:=keyI) rfl rfl rfl (kt:=3) (et:=41) (by kernel_rfl) ty_ki (zE J3) (zE J3) (zE J3) keyI_rep (cv:=.agg (rdc (rd 1))) (zE J3) rfl rfl (zE J3) ?_
 refine aw_convV (xs':=(prL [(0,0),(1,1)]).map (·.2)) ?_ ?_
 ·intro S w us h
  match us,h with
  |[a,b],h=>
   obtain⟨⟨vs,rfl,hv⟩,hb,_⟩:=h
   refine⟨⟨vs,rfl,?_⟩,hb,trivial⟩
   match vs,hv with
   |[x,y,z],hv=>
    obtain⟨h1,⟨A,h2⟩,⟨B,h3⟩,_⟩:=hv
    rw [show rd 0=⟨false,[],[]⟩ from rd_zero]
    exact⟨h1,⟨A,0,h2,Nat.le_refl _,fun h=>by simp at h⟩,⟨B,0,h3,Nat.le_refl _,fun h=>by simp at h⟩,trivial⟩
 refine ySG J3 ?_
 refine yA J3 fun g8 hn_g8=>?_
 have J4:=oj hn_g3 (oj hn_g5 (oj hn_g6 (oj hn_g7 (oj hn_gd hn_g8))))
 refine yGWSG J4 ?_
 refine yA J4 fun g9 hn_g9=>?_
 have J5:=oj hn_g3 (oj hn_g5 (oj hn_g6 (oj hn_g7 (oj hn_gd (oj hn_g8 hn_g9)))))
 refine yG J5 ?_
 refine aw_makeFunc (gs:=[g8,g3,g5,g7,g9]) rfl rfl rfl (zE J5) ?_
 refine ySGWSG J5 ?_
 refine aw_callhv (gs:=[g8,g3,g5,g7,g9]) (hr:=[(g6,.cells 41 3 (ofL [.bool false,.nils,.nils]))]) (pwalk_fh g8 g3 g5 g7 g9 gd gT gU gM ho h6 hs hn ps hw hpl (r.toNat+1) r [(0,0),(1,1)] om hr ⟨fun z hz=> ?_,fun q q0 q1=> ?_⟩) rfl rfl rfl (zE J5) ?hp (zL J5) ?_
 ·simp only [List.mem_cons,List.not_mem_nil,or_false] at hz
  rcases hz with rfl|rfl
  ·show(0:Rat)=prT ps o.length ns 0
   rw [prT_leaf om om];rfl
  ·show(1:Rat)=prT ps o.length ns 1
   rw [prT_leaf om om];rfl
 ·obtain rfl|rfl:q=0∨q=1:=by omega
  ·simp [prGet]
  ·simp [prGet]
 ·refine List.Perm.trans (l₂:=(C5 g8 g3 g5 g7 g9 gd gT ps [(0,0),(1,1)]++[(g6,.cells 41 3 (ofL [.bool false,.nils,.nils]))])++THp gT gU gM og o pl ns mm) ?_ ?_
  ·exact(permL [(g9,_),(g8,_),(gd,_),(g7,_),(g6,_),(g5,_),(g3,_)] [0,1,2,3,4,5,6] [1,6,5,3,0,2,4] (by decide)).append_right (THp gT gU gM og o pl ns mm)
  ·rw [List.append_assoc,List.append_assoc]
   exact List.Perm.append_left _ List.perm_append_comm
 rintro _ _ ⟨dl',_,_,rfl,rfl⟩ _
 refine aw_perm List.perm_append_comm ?_
 simp only [List.cons_append,List.nil_append]
 refine ySGWSG J5 ?_
 refine aw_rethw (h':=THp gT gU gM og o pl ns mm) rfl (List.Sublist.cons _ (List.sublist_append_right (C5 g8 g3 g5 g7 g9 gd gT ps dl') _)) (fun R hR=> ?_)
 simp only [go_sem,hn_g3,hn_g5,hn_g6,hn_g7,hn_gd,hn_g8,hn_g9]
 refine hR _ rfl ?_
 exact⟨rfl,rfl⟩
end Go.Proofs.YtefekdejgbceiaaGreat
namespace Go.AI
theorem fa_of_ints {P:Program} {f:FuncId} {args:List AV} {l:List Int} (hf:Fh P f [] args (fun x h=>x=.tup [.c (is true l),.c .nilI]∧h=[])):Fa P f args (.tup [.c (is true l),.c .nilI]):=by
 unfold Fh at hf
 unfold Fa
 refine⟨hf.1,fun S w vs mono lt hr=> ?_⟩
 let C:Ctx:={w0:=w,S0:=S,own0:=fun _=>False,mono:=mono,apart:=fun _ _ _ h=>h,lt:=lt}
 refine(hf.2 C vs (fun b=>⟨False.elim,by simp [Heap.keys]⟩) (by simp [Heap.keys]) (fun g o h=>by cases h) hr).mono ?_
 rintro e w' ⟨v,r,h',he,⟨rfl,rfl⟩,_,_,hrep,_,hfr⟩
 refine⟨v,he,?_,hfr⟩
 simp only [Rep,RepT,Rep0,RepC,is] at hrep⊢
 obtain⟨us,hv,hu⟩:=hrep
 refine⟨us,hv,?_⟩
 match us,hu with
 |[a,b],hu=>
  obtain⟨⟨A,c,h1,h2,h3⟩,h4⟩:=hu
  refine⟨⟨A,c,h1,h2,fun hn=> ?_⟩,h4⟩
  obtain⟨ad,e1,e2,e3⟩:=h3 hn
  refine⟨ad,e1,⟨e2.1,e2.2.1⟩,fun j hj=> ?_⟩
  obtain⟨u,e4,e5⟩:=e3 j hj
  refine⟨u,e4,?_⟩
  unfold isF at e5⊢
  cases l[j]?<;>exact e5
end Go.AI
namespace Go.Proofs.YtefekdejgbceiaaGreat
open Go.AI Go.PN
attribute [local irreducible] aw Fa Fh DrK
theorem cuts_fa {f:FM} {o:List Int} (hk:K33 f o) (h10:f.vars≤10) (hn:f.nodes.length≤1099511627776) (ha:ArgsOk f):Fa Tryz.prog 59 [.agg (fmc false f),.c (is false o)] (.tup [.c (is true (zL (cutsF f))),.c .nilI]):=by
 refine fa_of_ints ((Cuts_fh f o hk h10 hn ha).mono ?_)
 rintro x h ⟨h1,l,hl,_,hlm,hx⟩
 rw [cutsF_is hl hlm]
 exact⟨hx,h1⟩
abbrev FH (g8 g2 g9 g3:Nat) (f:FM) (p:List RD) (l:List Nat) (gT:Nat):Heap:=
 [(g8,.cells 28 1 (ofL [is true (zL l)])),(g2,.cells 24 3 (ofL (fmc false f))),(g9,.cells 64 1 (ofL [.optr gT 0])),(g3,.cells 25 1 (ofL [rats false p]))]
theorem fus1_fh (g8 g2 g9 g3 gT gU gM:Nat) (f:FM) (p:List RD) (l:List Nat) {o pl:List Int} (ho:OdOk o pl) (hol:o.length=p.length) (h6:p.length≤6) (hpv:(p.length:Int)=f.vars) (hw:∀r∈p,r.wf 4) (hll:l.length≤64) (hlm:∀x∈l,x<2^p.length) {og:Option Nat} {ns:List DN} {mm:Mem3} (hs:TS o og ns mm) (hn:ns.length≤900000000) (i:Nat) (hi:i<p.length):
  Fh Tryz.prog 60 (FH g8 g2 g9 g3 f p l gT++THp gT gU gM og o pl ns mm) ([.c (.int .i64 i)]++[g8,g2,g9,g3].map fun g=>.c (.optr g 0)) (fun r h=>∃og' ns' mm',TS o og' ns' mm'∧ns'.length≤ns.length+100000∧r=.tup [.agg (rdc (rd (wF l p i))),.c .nilI]∧h=FH g8 g2 g9 g3 f p l gT++THp gT gU gM og' o pl ns' mm'):=by
 have hpow:2^(o.length+1)≤2^7:=Nat.pow_le_pow_right om om
 have hp6:2^p.length≤2^6:=Nat.pow_le_pow_right om h6
 have hzl:=zL_len l
 simp only [FH,List.cons_append,List.nil_append,List.map_cons,List.map_nil]
 refine fh_of_body Tryz.func60 rfl rfl (by simp [Tryz.ntmps60]) fun C hC=> ?_
 simp only [initS,Nat.reduceAdd]
 refine xG ?_
 refine xA fun g6 hn_g6=>?_
 clear hn_g6
 refine aw_nd fun hnd=> ?_
 simp only [Heap.keys,List.map_cons] at hnd
 replace hnd:=ndP_of hnd
 dsimp only [ndP,neA] at hnd
 have J1:=oj hnd hzl
 refine yG J1 ?_
 refine aw_lp (fun y:Nat×Option Nat×List DN×Mem3×Int=>[(0,.c (.int .i64 i)),(1,.c (.optr g8 0)),(2,.c (.optr g2 0)),(3,.c (.optr g9 0)),(4,.c (.optr g3 0)),(6,.c (.optr g6 0)),(8,.c (.int .i64 y.2.2.2.2)),(13,.c (is true (zL l))),(14,.c (.int .i64 l.length)),(15,.c (.int .i64 y.1))]) (fun y=>(g6,.cells 41 3 (ofL [.bool false,.nils,.nils]))::(FH g8 g2 g9 g3 f p l gT++THp gT gU gM y.2.1 o pl y.2.2.1 y.2.2.2.1))
  (fun y=>y.1≤l.length∧TS o y.2.1 y.2.2.1 y.2.2.2.1∧y.2.2.1.length≤ns.length+y.1*1000∧RefOk y.2.2.1 y.2.2.2.2∧∀s,evalD y.2.2.1 s y.2.2.2.2=failsB (cutsI (l.take y.1) i) s) (fun y=>l.length-y.1) (0,og,ns,mm,0) (zB J1) zZ ⟨Nat.zero_le _,hs,by dsimp only;omega,ref0,fun s=>ev0⟩ ?_
 rintro ⟨j,og1,ns1,mm1,so⟩ ⟨hj,h1,h2,h3,h4⟩
 dsimp only at hj h1 h2 h3 h4⊢
 refine yG J1 ?_
 refine yF J1 (fun hb=>?_) fun hb=>?_
 ·have hjl:j<l.length:=dT hb
  have hx:l.getD j 0<2^p.length:=hlm _ (by rw [List.getD_eq_getElem?_getD,List.getElem?_eq_getElem hjl];exact List.getElem_mem _)
  have hzg:=zL_get l j
  have hst:=cutsI_take hjl i
  have hful:∀s,allT (l.getD j 0) p.length s=subT (l.getD j 0) s:=allT_full hx
  generalize l.getD j 0=c at*
  have e0:=bitA0 c i om om
  have J2:=oj hnd (oj hzl (oj hzg e0))
  refine yG J2 ?_
  refine yF J2 (fun hc=>?_) fun hc=>?_
  ·have hcb:c.testBit i=false:=by simpa using hc
   refine yG J2 ?_
   refine aw_stop ⟨(j+1,og1,ns1,mm1,so),by dsimp only;omega,(zB J2),zZ,by dsimp only;omega,h1,by dsimp only;omega,h3,fun s=> ?_⟩
   dsimp only
   rw [h4,hst,hcb]
   simp
  ·have hcb:c.testBit i=true:=by simpa using hc
   refine yG J2 ?_
   refine aw_lp (fun y:Nat×Option Nat×List DN×Mem3×Int=>[(0,.c (.int .i64 i)),(1,.c (.optr g8 0)),(2,.c (.optr g2 0)),(3,.c (.optr g9 0)),(4,.c (.optr g3 0)),(6,.c (.optr g6 0)),(8,.c (.int .i64 so)),(10,.c (.int .i64 c)),(11,.c (.int .i64 y.2.2.2.2)),(13,.c (is true (zL l))),(14,.c (.int .i64 l.length)),(15,.c (.int .i64 j)),(25,.c (.int .i64 f.vars)),(26,.c (.int .i64 y.1))]) (fun y=>(g6,.cells 41 3 (ofL [.bool false,.nils,.nils]))::(FH g8 g2 g9 g3 f p l gT++THp gT gU gM y.2.1 o pl y.2.2.1 y.2.2.2.1))
    (fun y=>y.1≤p.length∧TS o y.2.1 y.2.2.1 y.2.2.2.1∧Later o ns1 y.2.2.1 (y.1*128)∧RefOk y.2.2.1 y.2.2.2.2∧∀s,evalD y.2.2.1 s y.2.2.2.2=allT c y.1 s) (fun y=>p.length-y.1) (0,og1,ns1,mm1,1) (zB J2) zZ ⟨Nat.zero_le _,h1,Later.refl h1.tab _,ref1,fun s=>ev1⟩ ?_
   rintro ⟨k,og2,ns2,mm2,al⟩ ⟨hk,k1,k2,k3,k4⟩
   dsimp only at hk k1 k2 k3 k4⊢
   have n2:=k2.len
   refine yG J2 ?_
   refine yF J2 (fun hkb=>?_) fun hkb=>?_
   ·have hkl:k<p.length:=dT hkb
    have e1:=bitA1 c k om om
    have J3:=oj hnd (oj hzl (oj hzg (oj e0 e1)))
    refine yG J3 ?_
    refine yF J3 (fun hck=>?_) fun hck=>?_
    ·refine yG J3 ?_
     refine aw_cw ([(g9,.cells 64 1 (ofL [.optr gT 0]))]) [(0,0),(1,0),(2,0),(3,0),(4,1),(5,1),(6,0)] ty_mixed (by kernel_rfl) eI ?_
     refine yG J3 ?_
     refine cw_callh (hc:=THp gT gU gM og2 o pl ns2 mm2) (hr:=(g6,.cells 41 3 (ofL [.bool false,.nils,.nils]))::FH g8 g2 g9 g3 f p l gT) rfl (tevent_fh gT gU gM k1 om (v:=(k:Int)) om om) rfl rfl rfl (List.perm_append_comm (l₁:=(g6,_)::FH g8 g2 g9 g3 f p l gT)) (zL J3) (by
      rintro _ _ ⟨_,_,_,_,_,_,_,_,rfl,rfl⟩;exact has0_app2 eI) ?_ (hm:=.inr ⟨rfl,rfl⟩)
     rintro _ _ ⟨og3,ns3,mm3,ev,d1,d2,d3,d4,rfl,rfl⟩ _
     have n3:=d2.len
     refine ySG J3 ?_
     refine cw_callh (hc:=THp gT gU gM og3 o pl ns3 mm3) (hr:=(g6,.cells 41 3 (ofL [.bool false,.nils,.nils]))::FH g8 g2 g9 g3 f p l gT) rfl (tand_fh gT gU gM ho d1 om (d2.ref k3) d3) rfl rfl rfl (.refl _) (zL J3) (by
      rintro _ _ ⟨_,_,_,_,_,_,_,_,rfl,rfl⟩;exact has0_app2 eI) ?_ (hm:=.inr ⟨rfl,rfl⟩)
     rintro _ _ ⟨og4,ns4,mm4,al',f1,f2,f3,f4,rfl,rfl⟩ _
     have n4:=f2.len
     refine yS J3 ?_
     refine cw_perm List.perm_append_comm ?_
     simp only [FH,List.cons_append,List.nil_append]
     refine ySG J3 ?_
     have l04:=k2.trans (d2.trans f2 (Nat.le_refl _)) (k:=(k+1)*128) om
     refine aw_stop ⟨(k+1,og4,ns4,mm4,al'),by dsimp only;omega,(zB J3),zZ,by dsimp only;omega,f1,l04,f3,fun s=> ?_⟩
     dsimp only
     rw [f4]
     dsimp only
     rw [d2.eval k1.tab k3,k4,d4,allT_succ,hck,Int.toNat_natCast]
     simp
    ·refine yG J3 ?_
     refine aw_stop ⟨(k+1,og2,ns2,mm2,al),by dsimp only;omega,(zB J3),zZ,by dsimp only;omega,k1,⟨k2.tab,k2.pre,by dsimp only;omega⟩,k3,fun s=> ?_⟩
     dsimp only
     rw [k4,allT_succ,hck]
     simp
   ·have hkl:k=p.length:=dF hkb
    subst hkl
    refine yG J2 ?_
    refine aw_callh (hr:=(g6,.cells 41 3 (ofL [.bool false,.nils,.nils]))::FH g8 g2 g9 g3 f p l gT) (tor_fh gT gU gM ho k1 om (k2.ref h3) k3) rfl rfl rfl (List.perm_append_comm (l₁:=(g6,_)::FH g8 g2 g9 g3 f p l gT)) (zL J2) ?_
    rintro _ _ ⟨og3,ns3,mm3,so',d1,d2,d3,d4,rfl,rfl⟩ _
    have n3:=d2.len
    refine aw_perm List.perm_append_comm ?_
    simp only [FH,List.cons_append,List.nil_append]
    refine ySG J2 ?_
    refine aw_stop ⟨(j+1,og3,ns3,mm3,so'),by dsimp only;omega,(zB J2),zZ,by dsimp only;omega,d1,by dsimp only;omega,d3,fun s=> ?_⟩
    dsimp only
    rw [d4]
    dsimp only
    rw [k2.eval h1.tab h3,h4,k4,hful,hst,hcb,Bool.true_and]
 ·have hjl:j=l.length:=dF hb
  subst hjl
  rw [List.take_length] at h4
  have hpq:=prT_wF hol h4
  have hpb:=prob_fh gT gU gM ho om h1 om p hw hol.symm h3
  rw [hpq] at hpb
  refine yG J1 ?_
  refine aw_callh (hr:=(g6,.cells 41 3 (ofL [.bool false,.nils,.nils]))::FH g8 g2 g9 g3 f p l gT) hpb rfl rfl rfl (List.perm_append_comm (l₁:=(g6,_)::FH g8 g2 g9 g3 f p l gT)) (zL J1) ?_
  rintro _ _ ⟨rfl,rfl⟩ _
  refine aw_perm List.perm_append_comm ?_
  simp only [FH,List.cons_append,List.nil_append]
  refine ySGWSG J1 ?_
  refine aw_rethw (h':=FH g8 g2 g9 g3 f p l gT++THp gT gU gM og1 o pl ns1 mm1) rfl (List.Sublist.cons _ (List.Sublist.refl _)) (fun R hR=> ?_)
  simp only [go_sem,hnd,hzl]
  refine hR _ rfl ?_
  exact⟨og1,ns1,mm1,h1,by omega,rfl,rfl⟩
theorem fus_fa {f:FM} {p:List RD} (h:WSm f p):Fa Tryz.prog 20 [.agg (fmc false f),.c (rats false p)] (.tup [.c (rats true (if mcode f p=0 then fusL f p else [])),.c (errA (mcode f p))]):=by
 refine fa_of_body Tryz.func20 rfl rfl (by simp [Tryz.ntmps20]) fun C hC=> ?_
 simp only [initS,Nat.reduceAdd]
 refine xG ?_
 refine xB fun g2 hn_g2=>?_
 refine yG hn_g2 ?_
 refine yB hn_g2 fun g3 hn_g3=>?_
 refine yG (oj hn_g2 hn_g3) ?_
 by_cases hc:wcode f p=0
 ·have hk:=wok_of hc
  have h6:=h.v6 hk
  have hpl:=hk.len
  have hX:=wV_fits (f:=f) h.w om
  refine aw_callh (hc:=[]) (hr:=[(g3,.cells 25 1 (ofL [rats false p])),(g2,.cells 24 3 (ofL (fmc false f)))]) (wopen_fh f p hk h6 h.hn h.ha h.w) rfl rfl rfl (.refl _) (zL (oj hn_g2 hn_g3)) ?_
  rintro _ _ ⟨gS,o,D,hpo,hol,hD,rfl,rfl⟩ hk2
  obtain⟨hDl,hsD,hdp⟩:=sysD hk h6 h.w hD hol
  have hoc:ocode o f.vars=0:=by rw [←hpl,←hol];exact perm_code hpo om
  have hod:OdOk o (placesL o):=⟨hpo,pl_ok hpo,by omega⟩
  have hcu:=cuts_fa ⟨hk.c,hoc,hk.coh⟩ om h.hn h.ha
  have hcl:=cutsF_le (f:=f) om
  have hcv:2^f.vars.toNat=2^p.length:=by rw [←hpl];rfl
  have hcm:∀x∈cutsF f,x<2^p.length:=fun x hx=>by
   unfold cutsF at hx
   have:=sol_ltN (sort_mem.1 hx)
   omega
  unfold fusL
  generalize cutsF f=l at*
  simp only [SY,List.cons_append,List.nil_append]
  refine aw_nd fun hnd=> ?_
  simp only [Heap.keys,List.map_cons,List.map_nil] at hnd
  replace hnd:=ndP_of hnd
  dsimp only [ndP,neA] at hnd
  refine ySGNG hnd ?_
  by_cases hz:wV f p=0
  ·have hs:(signQ (rd (wV f p)).q==0)=true:=by rw [rd_q,hz];rfl
   rw [m_zero hc hz,if_neg (by decide)]
   have J1:=oj hnd hs
   refine yC J1 (rsign_fa (rd (wV f p)) (rd_wf (fits_mono hX ?_))) ?_
   ·omega
   refine yGPGT hC J1 ?_
   exact .tup ⟨.c .nils,.c (ler_errN rfl (by decide)),trivial⟩
  ·have hs:(signQ (rd (wV f p)).q==0)=false:=by
    rw [rd_q]
    unfold signQ
    rw [if_neg hz]
    split<;>rfl
   rw [m_ok hc hz,if_pos rfl]
   have J2:=oj hnd hs
   refine yC J2 (rsign_fa (rd (wV f p)) (rd_wf (fits_mono hX ?_))) ?_
   ·omega
   refine yGNG J2 ?_
   refine aw_cw ([(gS,.cells 86 11 (ofL (fmc false f++[rats false p,is true o]++dgc true D++rdc (rd (wV f p))))),(g2,.cells 24 3 (ofL (fmc false f)))]) [(0,0),(1,0),(2,0),(3,0),(4,0),(5,0),(6,0),(7,0),(8,3),(9,1),(10,2),(11,0)] ty_mixed (by kernel_rfl) eI ?_
   refine yG J2 ?_
   refine cw_callq rfl hcu rfl rfl rfl (fun _ _=>(zL J2)) ?_
   refine ySG J2 ?_
   iterate 1 (refine wc3 rfl rfl fun R r=> ?_;simp only [go_sem,hnd,hs];with_reducible show R (some _);with_reducible refine r _ _ ?_;clear r R)
   refine yS (oj hnd hs) ?_
   refine cw_alloc rfl rfl rfl rfl (zE (oj hnd hs)) eI (fun g8 hn_g8=> ?_) (hm:=.inr ⟨rfl,rfl⟩)
   replace hn_g8:=Heap.ne_of hn_g8
   dsimp only [Heap.ne] at hn_g8
   have J3:=oj hnd (oj hs hn_g8)
   refine yS J3 ?_
   refine cw_store (FP':=[]) rfl rfl rfl rfl rfl (zE J3) (zE J3) (zE J3) (zE J3) (fun _ e=>by cases e) rfl rfl (Nat.le_refl 1) rfl has0_nil ?_
   refine ySGNG J3 ?_
   refine aw_callh (hc:=[]) (new_fh o hpo om) rfl rfl rfl (.refl _) (zL J3) ?_
   rintro _ _ ⟨gT,gU,gM,rfl,rfl⟩ _
   refine ySG J3 ?_
   refine yA J3 fun g9 hn_g9=>?_
   have J4:=oj hnd (oj hs (oj hn_g8 hn_g9))
   refine yGWSG J4 ?_
   refine aw_makeFunc (gs:=[g8,g2,g9,g3]) rfl rfl rfl (zE J4) ?_
   refine ySG J4 ?_
   refine aw_callh (hr:=[]) (each_fh (α:=Option Nat×List DN×Mem3) (fun y=>FH g8 g2 g9 g3 f p l gT++THp gT gU gM y.1 o (placesL o) y.2.1 y.2.2) (fun y=>FH g8 g2 g9 g3 f p l gT++THp gT gU gM y.1 o (placesL o) y.2.1 y.2.2) (SY gS f p o D (wV f p)) (fun y i=>TS o y.1 y.2.1 y.2.2∧y.2.1.length≤i*100000) (wF l p) 60 [g8,g2,g9,g3] gS f p o D hz hX om (fun i hi=>fits_mono (wF_fits h.w om i) om) (fun _=>List.perm_append_comm) (fun i y hi hy=>(fus1_fh g8 g2 g9 g3 gT gU gM f p l hod hol om hpl h.w hcl.1 hcm hy.1 (by have:=hy.2;omega) i hi).mono (fun r h' hq=>by
    obtain⟨og',ns',mm',q1,q2,q3,q4⟩:=hq
    exact⟨(og',ns',mm'),⟨q1,by have:=hy.2;dsimp only;omega⟩,q3,q4⟩)) (none,[],[]) ⟨⟨fun _=>rfl,fun i hi=>absurd hi (Nat.not_lt_zero _),fun e he=>absurd he List.not_mem_nil⟩,Nat.zero_le _⟩) rfl rfl rfl ?_ (zL J4) ?_
   ·rw [List.append_nil]
    exact(List.Perm.cons _ List.perm_append_comm).trans ((permL [(g9,_),(g8,_),(gS,_),(g3,_),(g2,_)] [0,1,2,3,4] [2,1,4,0,3] (by decide)).append_right (THp gT gU gM none o (placesL o) [] []))
   rintro _ _ ⟨y,og,_,hog,rfl,rfl⟩ _
   refine aw_perm (h':=gh og 41 (p.length*3) (ratsF (eachL (wF l p) (wV f p) p.length))++(SY gS f p o D (wV f p)++(FH g8 g2 g9 g3 f p l gT++THp gT gU gM y.1 o (placesL o) y.2.1 y.2.2))) (by rw [List.append_nil];exact List.perm_append_comm) ?_
   refine ySG J4 ?_
   refine aw_frzGT (t:=4) (f':=ratsF (eachL (wF l p) (wV f p) p.length)) hog (eachL_len (wF l p) (wV f p) p.length).symm (zE J4) (fun g _=>hC g) (fun _ _=>rfl) rfl ?_
   refine ySGT hC J4 ?_
   exact .tup ⟨.c ler_rats,.c .nilI,trivial⟩
 ·rw [m_bad hc,if_neg hc]
  refine aw_callh (hc:=[]) (hr:=[(g3,.cells 25 1 (ofL [rats false p])),(g2,.cells 24 3 (ofL (fmc false f)))]) (wopen_err f p hc h.hn h.ha h.t0 h.t1 h.w5 (by have:=h.l;omega)) rfl rfl rfl (.refl _) eL ?_
  rintro _ _ ⟨rfl,rfl⟩ _
  have hcf:=ieq_f hc
  have J5:=oj hn_g2 (oj hn_g3 hcf)
  refine ySG J5 ?_
  refine yP J5 ?_
  refine yGT hC J5 ?_
  exact .tup ⟨.c .nils,.c ler_err,trivial⟩
end Go.Proofs.YtefekdejgbceiaaGreat
namespace Go.PN
open Go.AI
theorem getRD {xs:List RD} {i:Nat} (h:i<xs.length):xs.getD i rd0=xs[i]:=by
 rw [List.getD_eq_getElem?_getD,List.getElem?_eq_getElem h];rfl
theorem ratL_ext {xs ys:List RD} (hl:xs.length=ys.length) (h:∀j,j<xs.length→xs.getD j rd0=ys.getD j rd0):xs=ys:=by
 refine List.ext_getElem hl fun j h1 h2=> ?_
 have:=h j h1
 rw [getRD h1,getRD h2] at this
 exact this
end Go.PN
namespace Go.Proofs.YtefekdejgbceiaaGreat
open Go.AI Go.PN
attribute [local irreducible] aw Fa Fh DrK
theorem rats_fa (xs ys:List RD) (hw:∀x∈xs,x.wf 68719476736) (hl:xs.length≤1099511627776):Fa Tryz.prog 23 [.c (rats false xs),.c (rats false ys)] (.c (.bool (decide (xs=ys)))):=by
 refine fa_of_body Tryz.func23 rfl rfl (by simp [Tryz.ntmps23]) fun C hC=> ?_
 simp only [initS,Nat.reduceAdd]
 refine xG ?_
 refine xF (fun hb=>?_) fun hb=>?_
 ·refine xGT hC ?_
  refine .one (.c (ler_bool ?_))
  have:xs≠ys:=fun e=>by rw [e] at hb;simp at hb
  simp [this]
 ·have hlen:xs.length=ys.length:=by
   have:((xs.length:Int)==(ys.length:Int))=true:=by simpa [bne] using hb
   have:=eq_of_beq this;omega
  refine xG ?_
  refine aw_lp (fun i:Nat=>[(0,.c (rats false xs)),(1,.c (rats false ys)),(12,.c (.int .i64 xs.length)),(13,.c (.int .i64 i))]) (fun _=>[]) (fun i=>i≤xs.length∧∀j,j<i→xs.getD j rd0=ys.getD j rd0) (fun i=>xs.length-i) 0 eB zZ ⟨Nat.zero_le _,fun j hj=>by omega⟩ ?_
  rintro i ⟨hi,hs⟩
  refine xG ?_
  refine xF (fun hb=>?_) fun hb=>?_
  ·have hin:i<xs.length:=dT hb
   refine xG ?_
   refine aw_dr 10 ty_mixed (by kernel_rfl) ?_
   refine xG ?_
   refine xD (ratEq_fa (xs.getD i rd0) (ys.getD i rd0) ?_) ?_
   ·rw [getRD hin];exact hw _ (List.getElem_mem hin)
   refine xG ?_
   refine xF (fun hc=>?_) fun hc=>?_
   ·have hc':xs.getD i rd0≠ys.getD i rd0:=by simpa using hc
    refine xGT hC ?_
    refine .one (.c (ler_bool ?_))
    have:xs≠ys:=fun e=>hc' (by rw [e])
    simp [this]
   ·have hc':xs.getD i rd0=ys.getD i rd0:=by simpa using hc
    refine xG ?_
    refine aw_stop ⟨i+1,by omega,eB,zZ,by omega,fun j hj=> ?_⟩
    by_cases hji:j=i
    ·rw [hji];exact hc'
    ·exact hs j om
  ·have hin:i=xs.length:=dF hb
   subst hin
   refine xGT hC ?_
   refine .one (.c (ler_bool ?_))
   have:xs=ys:=ratL_ext hlen hs
   simp [this]
end Go.Proofs.YtefekdejgbceiaaGreat
namespace Go.PN
open Go.AI Go.Proofs.YtefekdejgbceiaaGreat
theorem ler_fns {h:Heap} {t:Bool} {ps:List FN}:LeR h (fns true ps) (fns t ps):=
 .row (lf_ler om fun x _ k hk=>by match k,hk with|0,_=>exact .int _ _|1,_=>exact .int _ _|2,_=>exact ler_is)
end Go.PN

