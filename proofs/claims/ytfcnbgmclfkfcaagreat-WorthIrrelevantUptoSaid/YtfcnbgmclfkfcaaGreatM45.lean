/- Parts of one proof, laid by a program. -/
import Derived.Test.YtfcnbgmclfkfcaaGreatM00
import Derived.Test.YtfcnbgmclfkfcaaGreatM41
set_option linter.unusedSimpArgs false
set_option linter.unusedVariables false
namespace Go.Proofs.YtfcnbgmclfkfcaaGreat
open Go.AI Go.PN
attribute [local irreducible] aw Fa Fh DrK
theorem setB_lt {m s i:Nat} {b:Bool} (hs:s<2^m) (hi:i<m):setB s i b<2^m:=Nat.lt_pow_two_of_testBit _ fun j hj=>by
 rw [setB_bit,if_neg om]
 exact Nat.testBit_lt_two_pow (Nat.lt_of_lt_of_le hs (Nat.pow_le_pow_right om hj))
end Go.Proofs.YtfcnbgmclfkfcaaGreat
namespace Go.Proofs.YtfcnbgmclfkfcaaGreat
open Go.AI Go.PN
theorem irr_set {f:FM} {p:List RD} {i:Nat} (hi:i<p.length) (h:∀s,s<2^p.length→valF f s f.top=valF f (setB s i true) f.top):wV f (p.set i (rd 1))=wV f p∧wV f (p.set i rd0)=wV f p:=by
 have h1:wV f (p.set i (rd 1))=wV f p:=by
  rw [wV_one hi]
  exact ex_congr _ _ _ fun s hs=>by rw [←h s hs]
 refine⟨h1,?_⟩
 have h0:wV f (p.set i rd0)=wV f (p.set i (rd 1)):=by
  rw [wV_one hi,wV_zero hi]
  refine ex_congr _ _ _ fun s hs=> ?_
  have e:setB (setB s i false) i true=setB s i true:=Nat.eq_of_testBit_eq fun j=>by
   rw [setB_bit,setB_bit,setB_bit]
   split<;>rfl
  rw [h (setB s i false) (setB_lt hs hi),e]
 rw [h0,h1]
theorem irr_cut {f:FM} {l:List Nat} {p:List RD} {i:Nat} (hi:i<p.length) (hl:CutL (fun s=>valF f s f.top) l) (hlt:∀s∈l,s<2^p.length) (h:∀s,s<2^p.length→valF f s f.top=valF f (setB s i true) f.top):wF l p i=0:=by
 have e:cutsI l i=[]:=by
  unfold cutsI
  rw [List.filter_eq_nil_iff]
  intro c hc hb
  have hm:=(hl.2 c).1 hc
  have hlc:=hlt c hc
  have h1:=h (setB c i false) (setB_lt hlc hi)
  have e:setB (setB c i false) i true=c:=Nat.eq_of_testBit_eq fun j=>by
   rw [setB_bit,setB_bit]
   split
   ·rename_i e;subst e;exact hb.symm
   ·rfl
  rw [e] at h1
  have h2:=hm.2 (setB c i false) (sub_set0 c i) (h1.trans hm.1)
  have h3:(setB c i false).testBit i=false:=by rw [setB_bit,if_pos rfl]
  rw [h2,hb] at h3
  cases h3
 unfold wF
 rw [e]
 exact ex_const 0 _
end Go.Proofs.YtfcnbgmclfkfcaaGreat
namespace Go.PN
open Go.AI
theorem RelOk.next {v:Nat→Bool} {n s out:Nat} (h:RelOk v n s n out):RelOk v n (s+1) 0 out:=fun j hj hb=>by
 obtain⟨h1,h2⟩:=h j hj hb
 refine⟨fun t ht=> ?_,fun h=>by omega⟩
 by_cases e:t=s
 ·subst e;exact h2 hj
 ·exact h1 t om
theorem or_setB (s i:Nat):s|||2^i=setB s i true:=Nat.eq_of_testBit_eq fun j=>by
 rw [setB_bit,Nat.testBit_or]
 by_cases e:j=i
 ·subst e;rw [Nat.testBit_two_pow_self,if_pos rfl,Bool.or_true]
 ·rw [if_neg e,Nat.testBit_two_pow,decide_eq_false (fun h=>e h.symm),Bool.or_false]
end Go.PN
namespace Go.Proofs.YtfcnbgmclfkfcaaGreat
open Go.AI Go.PN
theorem cutsF_lt {f:FM} (ok:FrOk f):∀s∈cutsF f,s<2^f.vars.toNat:=fun s hs=>min_lt ok (((cutsF_cut ok).2 s).1 hs)
end Go.Proofs.YtfcnbgmclfkfcaaGreat
namespace Go.Proofs.YtfcnbgmclfkfcaaGreat
open Go.AI Go.PN
theorem rsub0 {a b:Rat} (h:a=b):a-b=0:=by subst h;grind
theorem rself (a q:Rat):(a-a)*q=0:=by grind
attribute [local irreducible] aw Fa Fh DrK
end Go.Proofs.YtfcnbgmclfkfcaaGreat
namespace Go.Proofs.YtfcnbgmclfkfcaaGreat
open Go.AI
theorem yG {F X G:Prop} (f:F) (x:X) (k:F→Hold X→G:=by intro f x;(repeat first|apply wa1|apply wa2|apply wa3|apply wa4|apply wa5 rfl|apply wa6|apply wa7|(refine wb1 rfl fun R r=>?_;simp only[go_sem,f];with_reducible show R (some _);with_reducible refine r _ _ ?_;clear r R)|apply wa8|(refine wd1 rfl fun R r=>?_;simp only[go_sem,f];with_reducible show R (some _);with_reducible refine r _ _ ?_;clear r R)|apply wc2|(refine wc1 rfl rfl fun R r=>?_;simp only[go_sem,f];with_reducible show R (some _);with_reducible refine r _ _ ?_;clear r R));exact x.out):G:=k f ⟨x⟩
theorem xG {X G:Prop} (x:X) (k:Hold X→G:=by intro x;(repeat first|apply wa1|apply wa2|apply wa3|apply wa4|apply wa5 rfl|apply wa6|apply wa7|(refine wb1 rfl fun R r=>?_;simp only[go_sem];with_reducible show R (some _);with_reducible refine r _ _ ?_;clear r R)|apply wa8|(refine wd1 rfl fun R r=>?_;simp only[go_sem];with_reducible show R (some _);with_reducible refine r _ _ ?_;clear r R)|apply wc2|(refine wc1 rfl rfl fun R r=>?_;simp only[go_sem];with_reducible show R (some _);with_reducible refine r _ _ ?_;clear r R));exact x.out):G:=k ⟨x⟩
theorem yH {F X G:Prop} (f:F) (x:X) (k:F→Hold X→G:=by intro f x;(repeat first|apply wa7|(refine wb1 rfl fun R r=>?_;simp only[go_sem,f];with_reducible show R (some _);with_reducible refine r _ _ ?_;clear r R)|apply wa8|(refine wd1 rfl fun R r=>?_;simp only[go_sem,f];with_reducible show R (some _);with_reducible refine r _ _ ?_;clear r R)|apply wc2|(refine wc1 rfl rfl fun R r=>?_;simp only[go_sem,f];with_reducible show R (some _);with_reducible refine r _ _ ?_;clear r R));exact x.out):G:=k f ⟨x⟩
theorem xH {X G:Prop} (x:X) (k:Hold X→G:=by intro x;(repeat first|apply wa7|(refine wb1 rfl fun R r=>?_;simp only[go_sem];with_reducible show R (some _);with_reducible refine r _ _ ?_;clear r R)|apply wa8|(refine wd1 rfl fun R r=>?_;simp only[go_sem];with_reducible show R (some _);with_reducible refine r _ _ ?_;clear r R)|apply wc2|(refine wc1 rfl rfl fun R r=>?_;simp only[go_sem];with_reducible show R (some _);with_reducible refine r _ _ ?_;clear r R));exact x.out):G:=k ⟨x⟩
theorem yI {F X G:Prop} (f:F) (x:X) (k:F→Hold X→G:=by intro f x;(repeat first|apply wa1|apply wa3|apply wa4|apply wa5 rfl|apply wa6|apply wa7|(refine wb1 rfl fun R r=>?_;simp only[go_sem,f];with_reducible show R (some _);with_reducible refine r _ _ ?_;clear r R)|apply wa8|(refine wd1 rfl fun R r=>?_;simp only[go_sem,f];with_reducible show R (some _);with_reducible refine r _ _ ?_;clear r R)|apply wc2|(refine wc1 rfl rfl fun R r=>?_;simp only[go_sem,f];with_reducible show R (some _);with_reducible refine r _ _ ?_;clear r R));exact x.out):G:=k f ⟨x⟩
theorem xI {X G:Prop} (x:X) (k:Hold X→G:=by intro x;(repeat first|apply wa1|apply wa3|apply wa4|apply wa5 rfl|apply wa6|apply wa7|(refine wb1 rfl fun R r=>?_;simp only[go_sem];with_reducible show R (some _);with_reducible refine r _ _ ?_;clear r R)|apply wa8|(refine wd1 rfl fun R r=>?_;simp only[go_sem];with_reducible show R (some _);with_reducible refine r _ _ ?_;clear r R)|apply wc2|(refine wc1 rfl rfl fun R r=>?_;simp only[go_sem];with_reducible show R (some _);with_reducible refine r _ _ ?_;clear r R));exact x.out):G:=k ⟨x⟩
theorem yO {F X G:Prop} (f:F) (x:X) (k:F→Hold X→G:=by intro f x;(first|(refine wb1 rfl fun R r=>?_;simp only[go_sem,f];with_reducible show R (some _);with_reducible refine r _ _ ?_;clear r R)|(refine wd1 rfl fun R r=>?_;simp only[go_sem,f];with_reducible show R (some _);with_reducible refine r _ _ ?_;clear r R)|apply wc2|(refine wc1 rfl rfl fun R r=>?_;simp only[go_sem,f];with_reducible show R (some _);with_reducible refine r _ _ ?_;clear r R));exact x.out):G:=k f ⟨x⟩
theorem xO {X G:Prop} (x:X) (k:Hold X→G:=by intro x;(first|(refine wb1 rfl fun R r=>?_;simp only[go_sem];with_reducible show R (some _);with_reducible refine r _ _ ?_;clear r R)|(refine wd1 rfl fun R r=>?_;simp only[go_sem];with_reducible show R (some _);with_reducible refine r _ _ ?_;clear r R)|apply wc2|(refine wc1 rfl rfl fun R r=>?_;simp only[go_sem];with_reducible show R (some _);with_reducible refine r _ _ ?_;clear r R));exact x.out):G:=k ⟨x⟩
end Go.Proofs.YtfcnbgmclfkfcaaGreat
namespace Go.PN
open Go.AI Go.Proofs.YtfcnbgmclfkfcaaGreat
noncomputable def vsL (f:FM) (s k:Nat):List Bool:=(List.range (f.vars.toNat+k)).map fun(j:Nat)=>valF f s j
theorem vsL_len (f:FM) (s k:Nat):(vsL f s k).length=f.vars.toNat+k:=by unfold vsL;simp
theorem vsL_get {f:FM} {s k j:Nat} (h:j<f.vars.toNat+k):(vsL f s k).getD j false=valF f s j:=by
 unfold vsL
 rw [List.getD_eq_getElem?_getD,List.getElem?_map,List.getElem?_range h];rfl
theorem vsL_succ (f:FM) (s k:Nat):vsL f s (k+1)=vsL f s k++[valF f s ((f.vars.toNat+k:Nat):Int)]:=by
 unfold vsL
 rw [show f.vars.toNat+(k+1)=(f.vars.toNat+k)+1 from by omega,List.range_succ,List.map_append];rfl
theorem vs_zero {f:FM} {s:Nat} {zs:List Bool} (hv:0≤f.vars) (hl:zs.length=f.vars.toNat) (h:∀j,j<f.vars.toNat→zs.getD j false=s.testBit j):zs=vsL f s 0:=by
 refine List.ext_getElem (by rw [hl,vsL_len];omega) fun j h1 h2=> ?_
 have e1:zs.getD j false=zs[j]:=by rw [List.getD_eq_getElem?_getD,List.getElem?_eq_getElem h1];rfl
 have e2:(vsL f s 0).getD j false=(vsL f s 0)[j]:=by rw [List.getD_eq_getElem?_getD,List.getElem?_eq_getElem h2];rfl
 rw [←e1,←e2,h j om,vsL_get om,val_event om]
 rfl
theorem cntV_take {v:Int→Bool} {az:List Int} {j:Nat} (h:j<az.length):cntV v (az.take (j+1))=cntV v (az.take j)+if v (az.getD j 0) then 1 else 0:=by
 unfold cntV
 rw [List.take_succ_eq_append_getElem h,List.filter_append,List.length_append,List.getD_eq_getElem?_getD,List.getElem?_eq_getElem h,Option.getD_some]
 by_cases hb:v az[j]=true
 ·rw [if_pos hb,List.filter_cons_of_pos hb];rfl
 ·rw [if_neg hb,List.filter_cons_of_neg hb];rfl
end Go.PN
namespace Go.Proofs.YtfcnbgmclfkfcaaGreat
open Go.AI Go.PN
attribute [local irreducible] aw Fa Fh DrK
set_option maxRecDepth 100000 in
set_option maxHeartbeats 1600000 in
theorem fchk_fa (f:FM) (s:Nat) (hn:f.nodes.length≤1099511627776) (ha:ArgsOk f) (hc:fcode f=0) (hs:s<2^f.vars.toNat):Fa Tryz.prog 181 [.agg (fmc false f),.c (.int .i64 s)] (.c .nilI):=by
 have ok:=fr_ok hc
 have v0:=ok.v0
 have v24:=ok.v24
 have n128:=ok.n128
 have t0:=ok.t0
 have t1:=ok.t1
 have z1:=ieq_t hc
 have e1:=shl_one f.vars.toNat om
 rw [show((f.vars.toNat:Nat):Int)=f.vars from by omega] at e1
 have e2:decide ((s:Int)<0)=false:=decide_eq_false om
 have e3:decide ((s:Int)≥((2^f.vars.toNat:Nat):Int))=false:=decide_eq_false om
 refine fa_of_body Tryz.func181 rfl rfl (by simp [Tryz.ntmps181]) fun C hC=> ?_
 simp only [initS,Nat.reduceAdd]
 have J1:=oj z1 (oj e1 (oj e2 e3))
 refine yG J1 ?_
 refine yB J1 fun g2 hn_g2=>?_
 have J2:=oj z1 (oj e1 (oj e2 (oj e3 hn_g2)))
 refine yG J2 ?_
 refine yC J2 (fcheck_fa f hn ha ?_ ?_) ?_
 ·omega
 ·omega
 refine yGNG J2 ?_
 refine yN J2 ?_
 refine yGT hC J2 ?_
 exact .one (.c .nilI)
set_option maxRecDepth 100000 in
set_option maxHeartbeats 6400000 in
theorem fvals_fa (f:FM) (s:Nat) (hn:f.nodes.length≤1099511627776) (ha:ArgsOk f) (hc:fcode f=0) (hs:s<2^f.vars.toNat):Fa Tryz.prog 182 [.agg (fmc false f),.c (.int .i64 s)] (.c (bs true (vsL f s f.nodes.length))):=by
 have ok:=fr_ok hc
 have v0:=ok.v0
 have v24:=ok.v24
 have n128:=ok.n128
 have hs24:s<16777216:=Nat.lt_of_lt_of_le hs (Nat.pow_le_pow_right (n:=2) om (show f.vars.toNat≤24 from by omega))
 obtain⟨n,hvn⟩:∃n:Nat,f.vars.toNat=n:=⟨_,rfl⟩
 have hvi:f.vars=(n:Int):=by omega
 refine fa_of_body Tryz.func182 rfl rfl (by simp [Tryz.ntmps182]) fun C hC=> ?_
 simp only [initS,Nat.reduceAdd]
 refine xG ?_
 refine xB fun g2 hn_g2=>?_
 refine yG hn_g2 ?_
 refine aw_make (n:=n) (c:=n+f.nodes.length) (size:=1) (z:=[.bool false]) rfl rfl rfl (zE hn_g2) (zE hn_g2) rfl om (zE hn_g2) (zE hn_g2) hvi om om om om fun g hn_g=> ?_
 rw [make_bs (n+f.nodes.length)]
 replace hn_g:=Heap.ne_of hn_g
 dsimp only [Heap.ne] at hn_g
 have J1:=oj hn_g2 hn_g
 refine ySG J1 ?_
 refine aw_lp (fun x:Nat×List Bool=>[(1,.c (.int .i64 s)),(2,.c (.optr g2 0)),(5,.c (.osl g 1 0 n)),(23,.c (.int .i64 n)),(24,.c (.int .i64 x.1))]) (fun x=>[(g,.cells 4 (n+f.nodes.length) (bsF x.2)),(g2,.cells 24 3 (ofL (fmc false f)))])
  (fun x=>x.1≤n∧x.2.length=n+f.nodes.length∧∀j,j<x.1→x.2.getD j false=s.testBit j) (fun x=>n-x.1) (0,List.replicate (n+f.nodes.length) false) (zB J1) zZ ⟨Nat.zero_le _,by simp,fun j hj=>by omega⟩ ?_
 rintro ⟨i,zs⟩ ⟨hi,hzl,hz⟩
 dsimp only at hi hzl hz⊢
 refine yG J1 ?_
 refine yF J1 (fun h1=>?_) fun h1=>?_
 ·have hin:i<n:=dT h1
  have b1:=shrZ_nat s i om
  have b2:=and_one_nat (s/2^i) (Nat.lt_of_le_of_lt (Nat.div_le_self _ _) om)
  have b3:=bit_eq s i
  have J2:=oj hn_g2 (oj hn_g (oj b1 (oj b2 b3)))
  refine yGWS J2 ?_
  rw [updF_bs om]
  refine yG J2 ?_
  refine aw_stop ⟨(i+1,zs.set i (s.testBit i)),by dsimp only;omega,(zB J2),zZ,by dsimp only;omega,by simpa using hzl,fun j hj=> ?_⟩
  dsimp only at hj⊢
  by_cases e:j=i
  ·subst e
   rw [List.getD_eq_getElem?_getD,List.getElem?_set_self om];rfl
  ·rw [List.getD_eq_getElem?_getD,List.getElem?_set_ne (fun h=>e h.symm),←List.getD_eq_getElem?_getD]
   exact hz j om
 have hin:i=n:=dF h1
 subst hin
 have hvs:zs.take i=vsL f s 0:=vs_zero v0 (by rw [List.length_take];omega) fun j hj=>by
  rw [List.getD_eq_getElem?_getD,List.getElem?_take,if_pos om,←List.getD_eq_getElem?_getD]
  exact hz j om
 refine aw_less (n':=i) (f':=bsF (vsL f s 0)) om (fun j hj=>by
  show CV.bool (zs.getD j false)=CV.bool ((vsL f s 0).getD j false)
  rw [←hvs,List.getD_eq_getElem?_getD,List.getD_eq_getElem?_getD,List.getElem?_take,if_pos hj]) ?_
 refine yG J1 ?_
 refine aw_perm (.swap _ _ _) ?_
 refine aw_lp (fun x:Nat×Nat=>[(2,.c (.optr g2 0)),(5,.c (gs (some x.1) 1 (i+x.2))),(37,.c (fns false f.nodes)),(38,.c (.int .i64 f.nodes.length)),(39,.c (.int .i64 x.2))]) (fun x=>[(g2,.cells 24 3 (ofL (fmc false f)))]++gh (some x.1) 4 (i+x.2) (bsF (vsL f s x.2)))
  (fun x=>x.2≤f.nodes.length∧¬x.1=g2) (fun x=>f.nodes.length-x.2) (g,0) (zB J1) (by simp only [gh,Nat.add_zero,List.cons_append,List.nil_append];exact List.Sublist.refl _) ⟨Nat.zero_le _,of_eq_false hn_g.1.1⟩ ?_
 clear hz hzl hvs
 rintro ⟨ga,k⟩ ⟨hk,hgn⟩
 dsimp only at hk hgn⊢
 simp only [gs,gh,List.cons_append,List.nil_append]
 have hga:(ga=g2)=False∧(g2=ga)=False:=⟨eq_false hgn,eq_false fun e=>hgn e.symm⟩
 have hvl:=vsL_len f s k
 have J3:=oj hn_g2 (oj hn_g hga)
 refine yG J3 ?_
 refine yF J3 (fun h1=>?_) fun h1=>?_
 ·have hin:k<f.nodes.length:=dT h1
  have harg:=ok.arg k hin
  have hax:=ok.len hin
  have hkd:=ok.kind k hin
  have hst:=vsL_succ f s k
  have hvn2:=val_node ok (s:=s) hin
  generalize hx0:f.nodes.getD k fn0=x at*
  have J4:=oj hn_g2 (oj hn_g (oj hga hx0))
  refine yG J4 ?_
  refine yA J4 fun g8 hn_g8=>?_
  have J5:=oj hn_g2 (oj hn_g (oj hga (oj hx0 hn_g8)))
  refine yGWS J5 ?_
  refine aw_conv1 (f':=ofL [.int .i64 x.kind,.int .i64 x.k,is true x.args]) (fun j hj=>by match j,hj with|0,_=>rfl|1,_=>rfl|2,_=>rfl) ?_
  refine yG J5 ?_
  refine aw_lp (fun j:Nat=>[(2,.c (.optr g2 0)),(5,.c (.osl ga 1 0 (i+k))),(8,.c (.optr g8 0)),(9,.c (.int .i64 (cntV (valF f s) (x.args.take j)))),(37,.c (fns false f.nodes)),(38,.c (.int .i64 f.nodes.length)),(39,.c (.int .i64 k)),(44,.c (is true x.args)),(45,.c (.int .i64 x.args.length)),(46,.c (.int .i64 j))]) (fun _=>[(g8,.cells 106 3 (ofL [.int .i64 x.kind,.int .i64 x.k,is true x.args])),(g2,.cells 24 3 (ofL (fmc false f))),(ga,.cells 4 (i+k) (bsF (vsL f s k)))]) (fun j=>j≤x.args.length) (fun j=>x.args.length-j) 0 (zB J5) zZ (Nat.zero_le _) ?_
  rintro j hj
  have hc1:=cntV_le (valF f s) (x.args.take j)
  rw [List.length_take] at hc1
  refine yG J5 ?_
  refine yF J5 (fun h2=>?_) fun h2=>?_
  ·have h2':j<x.args.length:=dT h2
   obtain⟨y0,y1⟩:=harg (x.args.getD j 0) (by rw [getDZ h2'];exact List.getElem_mem h2')
   have hct:=cntV_take (v:=valF f s) h2'
   have hgt:=vsL_get (f:=f) (s:=s) (k:=k) (j:=(x.args.getD j 0).toNat) om
   rw [show(((x.args.getD j 0).toNat:Nat):Int)=x.args.getD j 0 from by omega] at hgt
   have J6:=oj hn_g2 (oj hn_g (oj hga (oj hx0 (oj hn_g8 hgt))))
   refine yG J6 ?_
   refine yF J6 (fun h3=>?_) fun h3=>?_
   ·rw [if_pos h3] at hct
    refine yG J6 ?_
    exact aw_stop ⟨j+1,by omega,(by rw [hct];exact(zB J6)),zZ,by omega⟩
   ·rw [if_neg (by rw [h3];simp),Nat.add_zero] at hct
    refine yG J6 ?_
    exact aw_stop ⟨j+1,by omega,(by rw [hct];exact(zB J6)),zZ,by omega⟩
  ·have h2':j=x.args.length:=dF h2
   subst h2'
   rw [List.take_length] at hc1⊢
   repeat first|apply wa3|apply wa4|apply wa5 rfl
   apply aw_seq
   apply aw_region
   refine yH J5 ?_
   apply aw_seq
   refine aw_cut (fun _:Unit=>[(2,.c (.optr g2 0)),(5,.c (gs (some ga) 1 (i+k))),(12,.c (.bool (nodeV (valF f s) x))),(37,.c (fns false f.nodes)),(38,.c (.int .i64 f.nodes.length)),(39,.c (.int .i64 k))]) (fun _=>[(g2,.cells 24 3 (ofL (fmc false f)))]++gh (some ga) 4 (i+k) (bsF (vsL f s k))) (fun _=>(0:Nat)=0) ?_ ?_
   ·refine yG J5 ?_
    refine yF J5 (fun k0=>?_) fun k0=>?_
    ·refine yG J5 ?_
     first|exact aw_stop ⟨(),by unfold nodeV;rw [if_pos k0];exact(zB J5),List.Sublist.cons _ (List.Sublist.refl _),rfl⟩|exact aw_stop ⟨(),by unfold nodeV;rw [if_pos k0];exact(zB J5),List.Sublist.cons _ (List.Sublist.refl _)⟩
    ·refine yG J5 ?_
     refine yF J5 (fun k1=>?_) fun k1=>?_
     ·refine yG J5 ?_
      first|exact aw_stop ⟨(),by unfold nodeV;rw [if_neg (by rw [k0];simp),if_pos k1];exact(zB J5),List.Sublist.cons _ (List.Sublist.refl _),rfl⟩|exact aw_stop ⟨(),by unfold nodeV;rw [if_neg (by rw [k0];simp),if_pos k1];exact(zB J5),List.Sublist.cons _ (List.Sublist.refl _)⟩
     ·refine yG J5 ?_
      refine yF J5 (fun k2=>?_) fun k2=>?_
      ·refine yG J5 ?_
       first|exact aw_stop ⟨(),by unfold nodeV;rw [if_neg (by rw [k0];simp),if_neg (by rw [k1];simp),if_pos k2];exact(zB J5),List.Sublist.cons _ (List.Sublist.refl _),rfl⟩|exact aw_stop ⟨(),by unfold nodeV;rw [if_neg (by rw [k0];simp),if_neg (by rw [k1];simp),if_pos k2];exact(zB J5),List.Sublist.cons _ (List.Sublist.refl _)⟩
      ·refine yG J5 ?_
       refine yF J5 (fun k3=>?_) fun k3=>?_
       ·refine yG J5 ?_
        first|exact aw_stop ⟨(),by unfold nodeV;rw [if_neg (by rw [k0];simp),if_neg (by rw [k1];simp),if_neg (by rw [k2];simp),if_pos k3];exact(zB J5),List.Sublist.cons _ (List.Sublist.refl _),rfl⟩|exact aw_stop ⟨(),by unfold nodeV;rw [if_neg (by rw [k0];simp),if_neg (by rw [k1];simp),if_neg (by rw [k2];simp),if_pos k3];exact(zB J5),List.Sublist.cons _ (List.Sublist.refl _)⟩
       ·refine yG J5 ?_
        refine yF J5 (fun k4=>?_) fun k4=>?_
        ·refine yG J5 ?_
         first|exact aw_stop ⟨(),by unfold nodeV;rw [if_neg (by rw [k0];simp),if_neg (by rw [k1];simp),if_neg (by rw [k2];simp),if_neg (by rw [k3];simp),if_pos k4];exact(zB J5),List.Sublist.cons _ (List.Sublist.refl _),rfl⟩|exact aw_stop ⟨(),by unfold nodeV;rw [if_neg (by rw [k0];simp),if_neg (by rw [k1];simp),if_neg (by rw [k2];simp),if_neg (by rw [k3];simp),if_pos k4];exact(zB J5),List.Sublist.cons _ (List.Sublist.refl _)⟩
        ·refine yG J5 ?_
         refine yF J5 (fun k5=>?_) fun k5=>?_
         ·refine yG J5 ?_
          first|exact aw_stop ⟨(),by unfold nodeV;rw [if_neg (by rw [k0];simp),if_neg (by rw [k1];simp),if_neg (by rw [k2];simp),if_neg (by rw [k3];simp),if_neg (by rw [k4];simp)];exact(zB J5),List.Sublist.cons _ (List.Sublist.refl _),rfl⟩|exact aw_stop ⟨(),by unfold nodeV;rw [if_neg (by rw [k0];simp),if_neg (by rw [k1];simp),if_neg (by rw [k2];simp),if_neg (by rw [k3];simp),if_neg (by rw [k4];simp)];exact(zB J5),List.Sublist.cons _ (List.Sublist.refl _)⟩
         ·exfalso
          obtain⟨q0,q5⟩:=hkd
          simp only [beq_eq_false_iff_ne,ne_eq] at k0 k1 k2 k3 k4 k5
          omega
   rintro _ _
   rw [←hvn2,show f.vars+(k:Int)=((f.vars.toNat+k:Nat):Int) from by omega]
   have hpu:∀j,j<(i+k+1)*1→appF (bsF (vsL f s k)) ((i+k)*1) (ofL [.bool (valF f s ((f.vars.toNat+k:Nat):Int))]) j=bsF (vsL f s (k+1)) j:=by
    rw [hst]
    exact bs_push (by rw [hvl];omega) _
   refine yG J5 ?_
   refine aw_push (pre:=[(g2,.cells 24 3 (ofL (fmc false f)))]) rfl rfl rfl rfl rfl rfl rfl (zE J5) (zE J5) (by rfl) om om (zE J5) om (by exact some_ne (g:=ga) (n:=i+k)) (zE J5) (by rfl) (by rfl) (by first|rfl|simp only [Nat.mul_one,List.nil_append,List.cons_append]<;>rfl) (by unfold maxLen;omega) om (by exact hpu) fun gb hn_gb=> ?_
   replace hn_gb:=Heap.ne_of hn_gb
   first|dsimp only [Heap.ne,gh] at hn_gb|dsimp only [Heap.ne] at hn_gb|skip
   have J7:=oj hn_g2 (oj hn_g (oj hga (oj hx0 (oj hn_g8 hn_gb))))
   refine ySG J7 ?_
   exact aw_stop ⟨(gb,k+1),by dsimp only;omega,(zB J7),zZ,by dsimp only;omega,of_eq_false hn_gb.1.1⟩
 ·have hin:k=f.nodes.length:=dF h1
  subst hin
  refine yGT hC J3 ?_
  exact .one (.c (ler_oslbs (zE J3) (by rw [hvl];omega)))
end Go.Proofs.YtfcnbgmclfkfcaaGreat
namespace Go.Proofs.YtfcnbgmclfkfcaaGreat
open Go.AI Go.PN
attribute [local irreducible] aw Fa Fh DrK
set_option maxRecDepth 100000 in
set_option maxHeartbeats 3200000 in
theorem fval_fa (f:FM) (s:Nat) (hn:f.nodes.length≤1099511627776) (ha:ArgsOk f) (hc:fcode f=0) (hs:s<2^f.vars.toNat):Fa Tryz.prog 144 [.agg (fmc false f),.c (.int .i64 s)] (.tup [.c (.bool (valF f s f.top)),.c .nilI]):=by
 have ok:=fr_ok hc
 have v0:=ok.v0
 have v24:=ok.v24
 have n128:=ok.n128
 have t0:=ok.t0
 have t1:=ok.t1
 have hl:=vsL_len f s f.nodes.length
 have hg:=vsL_get (f:=f) (s:=s) (k:=f.nodes.length) (j:=f.top.toNat) om
 rw [show((f.top.toNat:Nat):Int)=f.top from by omega] at hg
 refine fa_of_body Tryz.func144 rfl rfl (by simp [Tryz.ntmps144]) fun C hC=> ?_
 simp only [initS,Nat.reduceAdd]
 refine yG (oj hl hg) ?_
 refine yB (oj hl hg) fun g2 hn_g2=>?_
 have J1:=oj hl (oj hg hn_g2)
 refine yG J1 ?_
 refine yC J1 (fchk_fa f s hn ha hc hs) ?_
 refine yGNG J1 ?_
 refine aw_dr 9 ty_mixed (by kernel_rfl) ?_
 refine yG J1 ?_
 refine yD J1 (fvals_fa f s hn ha hc hs) ?_
 refine yGT hC J1 ?_
 exact .tup ⟨.c (.bool _),.c .nilI,trivial⟩
end Go.Proofs.YtfcnbgmclfkfcaaGreat
namespace Go.Proofs.YtfcnbgmclfkfcaaGreat
open Go.AI Go.PN
attribute [local irreducible] aw Fa Fh DrK
theorem tab_len (n:Nat) (v:Nat→Bool):((List.range n).map v).length=n:=by simp
set_option maxHeartbeats 1600000 in
theorem tchk_fa (f:FM) (hn:f.nodes.length≤1099511627776) (ha:ArgsOk f) (hc:fcode f=0) (h12:f.vars≤12):Fa Tryz.prog 143 [.agg (fmc false f)] (.c .nilI):=by
 have ok:=fr_ok hc
 have t0:=ok.t0
 have t1:=ok.t1
 have v0:=ok.v0
 have n128:=ok.n128
 have z1:=ieq_t hc
 refine fa_of_body Tryz.func143 rfl rfl (by simp [Tryz.ntmps143]) fun C hC=> ?_
 simp only [initS,Nat.reduceAdd]
 refine yG z1 ?_
 refine yB z1 fun g1 hn_g1=>?_
 have J1:=oj z1 hn_g1
 refine yG J1 ?_
 refine aw_callq (fcheck_fa f hn ha om om) rfl rfl rfl (zL J1) ?_
 refine ySGNG J1 ?_
 refine yF J1 (fun h1=>?_) fun h1=>?_
 ·have:=of_decide_eq_true h1
  omega
 ·refine yGT hC J1 ?_
  exact .one (.c .nilI)
set_option maxHeartbeats 3200000 in
theorem ttab_fa (f:FM) (n:Nat) (hv:f.vars=n) (hn:f.nodes.length≤1099511627776) (ha:ArgsOk f) (hc:fcode f=0) (h12:n≤12):Fa Tryz.prog 91 [.agg (fmc false f)] (.tup [.c (bs true ((List.range (2^n)).map fun s=>valF f s f.top)),.c .nilI]):=by
 have hsh:=shl_one n om
 have h2n:2^n≤2^12:=Nat.pow_le_pow_right om om
 have hnn:f.vars.toNat=n:=by omega
 have htl:=tab_len (2^n) fun s=>valF f s f.top
 rw [←hv] at hsh
 generalize hN:2^n=N at*
 refine fa_of_body Tryz.func91 rfl rfl (by simp [Tryz.ntmps91]) fun C hC=> ?_
 simp only [initS,Nat.reduceAdd]
 refine yG hsh ?_
 refine yB hsh fun g1 hn_g1=>?_
 have J1:=oj hsh hn_g1
 refine yG J1 ?_
 refine yC J1 (tchk_fa f hn ha hc ?_) ?_
 ·omega
 refine yGNG J1 ?_
 refine aw_make (n:=N) (c:=N) (size:=1) (z:=[.bool false]) rfl rfl rfl (zE J1) (zE J1) rfl om (zE J1) (zE J1) om om om om om fun g hn_g=> ?_
 rw [make_bs N]
 replace hn_g:=Heap.ne_of hn_g
 dsimp only [Heap.ne] at hn_g
 have J2:=oj hsh (oj hn_g1 hn_g)
 refine ySG J2 ?_
 refine aw_lp (fun x:Nat×List Bool=>[(1,.c (.optr g1 0)),(5,.c (.osl g 1 0 N)),(19,.c (.int .i64 N)),(20,.c (.int .i64 x.1))]) (fun x=>[(g,.cells 4 N (bsF x.2)),(g1,.cells 24 3 (ofL (fmc false f)))])
  (fun x=>x.1≤N∧x.2.length=N∧∀k,k<x.1→x.2.getD k false=valF f k f.top) (fun x=>N-x.1) (0,List.replicate N false) (zB J2) zZ ⟨Nat.zero_le _,by simp,fun k hk=>by omega⟩ ?_
 rintro ⟨i,zs⟩ ⟨hi,hzl,hz⟩
 dsimp only at hi hzl hz⊢
 refine yG J2 ?_
 refine yF J2 (fun hb1=>?_) fun hb1=>?_
 ·have hin:i<N:=dT hb1
  refine yG J2 ?_
  refine yC J2 (fval_fa f i hn ha hc ?_) ?_
  ·rw [hnn,hN];exact hin
  refine yGNG J2 ?_
  refine yW J2 ?_
  refine yS J2 ?_
  rw [updF_bs om]
  refine yG J2 ?_
  refine aw_stop ⟨(i+1,zs.set i (valF f i f.top)),by dsimp only;omega,(zB J2),zZ,by dsimp only;omega,by simpa using hzl,fun k hk=> ?_⟩
  dsimp only at hk⊢
  rw [List.getD_eq_getElem?_getD]
  by_cases hki:k=i
  ·subst hki
   rw [List.getElem?_set_self om];rfl
  ·rw [List.getElem?_set_ne (fun e=>hki e.symm),←List.getD_eq_getElem?_getD,hz k om]
 ·have hin:i=N:=dF hb1
  subst hin
  have hzs:zs=(List.range i).map fun s=>valF f s f.top:=by
   refine List.ext_getElem (by rw [hzl,htl]) fun k h1 h2=> ?_
   have h3:=hz k om
   rw [List.getD_eq_getElem?_getD,List.getElem?_eq_getElem h1] at h3
   simpa using h3
  refine yGT hC J2 ?_
  rw [←hzs]
  exact .tup ⟨.c (ler_oslbs (zE J2) hzl.symm),.c .nilI,trivial⟩
set_option maxHeartbeats 3200000 in
theorem rel_fh (f:FM) (n:Nat) (hv:f.vars=n) (hn:f.nodes.length≤1099511627776) (ha:ArgsOk f) (hc:fcode f=0) (h12:n≤12):Fh Tryz.prog 38 [] [.agg (fmc false f)] (fun x h=>h=[]∧∃out:Nat,out<2^n∧RelOk (fun s=>valF f s f.top) n (2^n) 0 out∧x=.tup [.c (.int .i64 out),.c .nilI]):=by
 have h2n:2^n≤2^12:=Nat.pow_le_pow_right om om
 have htl:=tab_len (2^n) fun s=>valF f s f.top
 have htg:∀s,s<2^n→((List.range (2^n)).map fun s=>valF f s f.top).getD s false=(fun s=>valF f s f.top) s:=fun s hs=>tab_get _ _ s hs
 have htt:=ttab_fa f n hv hn ha hc h12
 generalize (List.range (2^n)).map (fun s=>valF f s f.top)=tb at*
 generalize (fun s=>valF f s f.top)=vf at*
 refine fh_of_body Tryz.func38 rfl rfl (by simp [Tryz.ntmps38]) fun C hC=> ?_
 simp only [initS,Nat.reduceAdd]
 refine yG htl ?_
 refine yB htl fun g1 hn_g1=>?_
 have J1:=oj htl hn_g1
 refine yG J1 ?_
 refine yC J1 (htt) ?_
 refine yGNG J1 ?_
 refine aw_lp (fun x:Nat×Nat=>[(1,.c (.optr g1 0)),(4,.c (bs true tb)),(6,.c (.int .i64 x.2)),(18,.c (bs true tb)),(19,.c (.int .i64 (2^n:Nat))),(20,.c (.int .i64 x.1))]) (fun x=>[(g1,.cells 24 3 (ofL (fmc false f)))])
  (fun x=>x.1≤2^n∧x.2<2^n∧RelOk vf n x.1 0 x.2) (fun x=>2^n-x.1) (0,0) (zB J1) zZ ⟨Nat.zero_le _,Nat.two_pow_pos n,RelOk.start _ _⟩ ?_
 rintro ⟨s,out⟩ ⟨hs,hout,hr⟩
 dsimp only at hs hout hr⊢
 refine yG J1 ?_
 refine yF J1 (fun h1=>?_) fun h1=>?_
 ·have hsn:s<2^n:=dT h1
  refine yG J1 ?_
  refine aw_lp (fun x:Nat×Nat=>[(1,.c (.optr g1 0)),(4,.c (bs true tb)),(6,.c (.int .i64 x.2)),(7,.c (.int .i64 s)),(8,.c (.bool (tb.getD s false))),(18,.c (bs true tb)),(19,.c (.int .i64 (2^n:Nat))),(20,.c (.int .i64 s)),(26,.c (.int .i64 n)),(27,.c (.int .i64 x.1))]) (fun x=>[(g1,.cells 24 3 (ofL (fmc false f)))])
   (fun x=>x.1≤n∧x.2<2^n∧RelOk vf n s x.1 x.2) (fun x=>n-x.1) (0,out) (by rw [hv];exact(zB J1)) zZ ⟨Nat.zero_le _,hout,hr⟩ ?_
  clear hout hr out J1
  rintro ⟨i,out⟩ ⟨hi,hout,hr⟩
  dsimp only at hi hout hr⊢
  have J2:=oj htl hn_g1
  refine yG J2 ?_
  refine yF J2 (fun h2=>?_) fun h2=>?_
  ·have hin:i<n:=dT h2
   have hsh:=shl_one i om
   have hpi:2^i<2^n:=Nat.pow_lt_pow_right om hin
   have hor:=orZ_nat s (2^i) om om
   have hoo:=orZ_nat out (2^i) om om
   have hlt:s|||2^i<2^n:=Nat.or_lt_two_pow hsn hpi
   have hlo:out|||2^i<2^n:=Nat.or_lt_two_pow hout hpi
   have e1:=htg s hsn
   have e2:=htg _ hlt
   have e3:=or_setB s i
   have J3:=oj htl (oj hn_g1 (oj hsh (oj hor hoo)))
   refine yG J3 ?_
   refine yF J3 (fun h3=>?_) fun h3=>?_
   ·refine yG J3 ?_
    refine aw_stop ⟨(i+1,out|||2^i),by dsimp only;omega,(zB J3),zZ,by dsimp only;omega,hlo,hr.add⟩
   ·have h4:tb.getD s false=tb.getD (s|||2^i) false:=by simpa using h3
    refine yG J3 ?_
    refine aw_stop ⟨(i+1,out),by dsimp only;omega,(zB J3),zZ,by dsimp only;omega,hout,hr.same (by rw [←e3,←e1,←e2];exact h4)⟩
  ·have hin:i=n:=dF h2
   subst hin
   refine yG J2 ?_
   exact aw_stop ⟨(s+1,out),by dsimp only;omega,(zB J2),zZ,by dsimp only;omega,hout,hr.next⟩
 ·have hsn:s=2^n:=dF h1
  subst hsn
  refine yG (oj htl hn_g1) ?_
  refine aw_rethw (h':=[]) rfl (List.nil_sublist _) (fun R hR=> ?_)
  simp only [go_sem,htl,hn_g1]
  refine hR _ rfl ?_
  exact⟨rfl,out,hout,hr,rfl⟩
end Go.Proofs.YtfcnbgmclfkfcaaGreat
namespace Go.Proofs.YtfcnbgmclfkfcaaGreat
open Go.AI Go.PN
theorem seq0 {x:Rat} (h:x=0):(signQ x==0)=true:=by subst h;rfl
theorem rel_irr {f:FM} {n i out:Nat} (h:RelOk (fun s=>valF f s f.top) n (2^n) 0 out) (hi:i<n) (hb:out.testBit i=false):∀s,s<2^n→valF f s f.top=valF f (setB s i true) f.top:=(h i hi hb).1
attribute [local irreducible] aw Fa Fh DrK
set_option maxRecDepth 100000 in
set_option maxHeartbeats 12800000 in
theorem lawWIrrelevant_fa (f:FM) (p:List RD) (i:Int) (hw:WordsOk p) (hl:p.length≤1099511627776) (hn:f.nodes.length≤1099511627776) (ha:ArgsOk f) (ht0: -9223372036854775808≤f.top) (ht:f.top≤9223372036854775807):
 Fa Tryz.prog 7 [.agg (fmc false f),.c (rats false p),.c (.int .i64 i)] (.c (.bool true)):=by
 refine fa_of_body Tryz.func7 rfl rfl (by simp [Tryz.ntmps7]) fun C hC=> ?_
 simp only [initS,Nat.reduceAdd]
 refine xG ?_
 refine xB fun g3 hn_g3=>?_
 refine yG hn_g3 ?_
 refine yC hn_g3 (awake43_fa) ?_
 refine yG hn_g3 ?_
 refine yC hn_g3 (valid43_fa f p hn ha ht0 ht hw hl) ?_
 by_cases hV:validW f p=true
 ·obtain⟨hL,hc,hX⟩:=vw_of hV
  have hs:=ws_of hn ha ht0 ht hw hL
  have hk:=wok_of hc
  have hz:wV f p≠0:=fun e=>by rw [e] at hX;exact absurd hX (by decide)
  have hpl:=hk.len
  have hwf:=hs.fn hk
  have h6:=hwf.h6
  have fX:=wV_fits (f:=f) hs.w hwf.h6
  have ok:=fr_ok hk.c
  have hcl:=cutsF_cut ok
  have hct:=cutsF_lt ok
  rw [hV]
  by_cases hi0:i<0
  ·have d1:decide (i<0)=true:=decide_eq_true hi0
   have J1:=oj hn_g3 d1
   refine ySGPG J1 ?_
   refine yC J1 (awake43_fa) ?_
   refine yGT hC J1 ?_
   exact .one (.c (.bool _))
  obtain⟨k,rfl⟩:=Int.eq_ofNat_of_zero_le (show 0≤i from by omega)
  have d1:decide ((k:Int)<0)=false:=decide_eq_false hi0
  by_cases hi1:(k:Int)≥f.vars
  ·have d2:decide ((k:Int)≥f.vars)=true:=decide_eq_true hi1
   have J2:=oj hn_g3 (oj d1 d2)
   refine ySGPG J2 ?_
   refine yC J2 (awake43_fa) ?_
   refine yGT hC J2 ?_
   exact .one (.c (.bool _))
  have d2:decide ((k:Int)≥f.vars)=false:=decide_eq_false hi1
  have hkp:k<p.length:=by omega
  have J3:=oj hn_g3 (oj d1 d2)
  refine ySGNG J3 ?_
  refine aw_callh (hc:=[]) (hr:=[(g3,.cells 24 3 (ofL (fmc false f)))]) (rel_fh f p.length hpl.symm hn ha hk.c om) rfl rfl rfl (.refl _) (zL J3) ?_
  rintro _ _ ⟨rfl,out,hout,hrel,rfl⟩ _
  have hp6:2^p.length≤2^6:=Nat.pow_le_pow_right om h6
  have eb:=bitA1 out k om om
  have J4:=oj hn_g3 (oj d1 (oj d2 eb))
  refine ySGNG J4 ?_
  cases hob:out.testBit k
  ·have hir:=rel_irr hrel hkp hob
   obtain⟨e1,e0⟩:=irr_set hkp hir
   have ec:=irr_cut hkp hcl (fun s h=>by have:=hct s h;rw [show f.vars.toNat=p.length from by omega] at this;exact this) hir
   have hA:=crit_fa hs
   have hB:=fus_fa hs
   have hC':=ach_fa hs
   rw [m_ok hc hz,if_pos rfl,show errA 0=CV.nilI from rfl] at hA hB hC'
   have vA:=crit_val (f:=f) hs.w hk.prob hwf.h6 hz
   have vB:=fus_val (f:=f) hs.w hwf.h6 hz
   have vC:=ach_val (f:=f) hs.w hwf.h6 hz
   generalize critL f p=LA at*
   generalize fusL f p=LB at*
   generalize achL f p=LC at*
   have nA:((LA.length:Int) !=f.vars)=false:=by rw [vA.len,hpl];simp
   have nB:((LB.length:Int) !=f.vars)=false:=by rw [vB.len,hpl];simp
   have nC:((LC.length:Int) !=f.vars)=false:=by rw [vC.len,hpl];simp
   have lA:=vA.len
   have lB:=vB.len
   have lC:=vC.len
   have hr:=red_fa hs (k:Int)
   have h0:wV f (p.set k rd0)≠0:=by rw [e0];exact hz
   have hx1:=div_self_of hX
   rw [r_ok hc hkp h0,if_pos rfl,Int.toNat_natCast,show errA 0=CV.nilI from rfl,e0,hx1] at hr
   have gA:=vA.get k hkp
   have gB:=vB.get k hkp
   have gC:=vC.get k hkp
   rw [show critV f p k=0 from by unfold critV;rw [e1,e0];exact rself _ _,show(0:Rat)/wV f p=0 from by rw [Rat.div_def,Rat.zero_mul]] at gA
   rw [ec,show(0:Rat)/wV f p=0 from by rw [Rat.div_def,Rat.zero_mul]] at gB
   rw [e1,hx1] at gC
   have s0:=ssign_fa (rd 0) (rdw fits_zero om)
   have s1:=scmp_fa (rd 1) (rd 1) (rd_wf (fits_mono fits1 om)) (rd_wf (fits_mono fits1 om))
   simp only [rd_q] at s0 s1
   have t0:=seq0 (x:=0) rfl
   have t1:=seq0 (x:=1-1) (rsub0 rfl)
   generalize signQ 0=k0 at*
   generalize signQ (1-1)=k1 at*
   have J5:=oj hn_g3 (oj d1 (oj d2 (oj eb (oj gA (oj gB (oj gC (oj t0 (oj t1 (oj nA (oj nB nC))))))))))
   refine yS J5 ?_
   refine yN J5 ?_
   refine yG J5 ?_
   refine yC J5 (hA) ?_
   refine yG J5 ?_
   refine yC J5 (hB) ?_
   refine yG J5 ?_
   refine yC J5 (hC') ?_
   refine yG J5 ?_
   refine yC J5 (hr) ?_
   refine yG J5 ?_
   refine yA J5 fun g15 hn_g15=>?_
   have J6:=oj hn_g3 (oj d1 (oj d2 (oj eb (oj gA (oj gB (oj gC (oj t0 (oj t1 (oj nA (oj nB (oj nC hn_g15)))))))))))
   refine yGWSGNG J6 ?_
   refine yC J6 (sof_fa 1 ?_ ?_) ?_
   ·omega
   ·omega
   rw [cast1]
   refine yG J6 ?_
   refine yA J6 fun g17 hn_g17=>?_
   have J7:=oj hn_g3 (oj d1 (oj d2 (oj eb (oj gA (oj gB (oj gC (oj t0 (oj t1 (oj nA (oj nB (oj nC (oj hn_g15 hn_g17))))))))))))
   refine yGWSG J7 ?_
   refine aw_cw ([(g17,.cells 30 3 (ofL (rdc (rd 1)))),(g15,.cells 30 3 (ofL (rdc (rd 1))))]) [(0,0),(1,0),(2,0),(3,0),(4,0),(5,0),(6,0),(7,0),(8,0),(9,0),(10,0),(11,0),(12,0),(13,0),(14,0),(15,0),(16,0),(17,0),(18,0),(19,0),(20,0),(21,0),(22,0),(23,0),(24,0),(25,0),(26,0),(27,0),(28,0),(29,0)] ty_mixed (by kernel_rfl) eI ?_
   refine yG J7 ?_
   refine cw_callq rfl s0 rfl rfl rfl (fun _ _=>(zL J7)) ?_
   refine ySG J7 ?_
   refine cw_callq rfl s0 rfl rfl rfl (fun _ _=>(zL J7)) ?_
   refine ySG J7 ?_
   refine cw_callq rfl s1 rfl rfl rfl (fun _ _=>(zL J7)) ?_
   refine ySG J7 ?_
   refine cw_callq rfl s1 rfl rfl rfl (fun _ _=>(zL J7)) ?_
   refine ySGT hC J7 ?_
   exact .one (.c (.bool _))
  ·refine yS J4 ?_
   refine yP J4 ?_
   refine yGT hC J4 ?_
   exact .one (.c (.bool _))
 ·have hV':validW f p=false:=by simpa using hV
  rw [hV']
  refine yGPG hn_g3 ?_
  refine yC hn_g3 (awake43_fa) ?_
  refine yGT hC hn_g3 ?_
  exact .one (.c (.bool _))
end Go.Proofs.YtfcnbgmclfkfcaaGreat
