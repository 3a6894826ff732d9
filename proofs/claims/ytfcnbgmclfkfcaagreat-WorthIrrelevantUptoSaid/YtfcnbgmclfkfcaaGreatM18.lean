/- Parts of one proof, laid by a program. -/
import Derived.Test.YtfcnbgmclfkfcaaGreatM00
import Derived.Test.YtfcnbgmclfkfcaaGreatM17
set_option linter.unusedSimpArgs false
set_option linter.unusedVariables false
namespace Go.PN
open Go.AI
def arityB (kind:Int) (n:Nat):Bool:=if kind=0 then decide ((n:Int)=0) else if kind=1 then decide ((n:Int)=1) else decide ((n:Int)≥1)&&decide ((n:Int)≤16)
def argOk (f:FM) (i:Nat) (a:Int):Bool:=decide (0≤a)&&decide (a<f.vars+i)
def kcode (x:FN):Int:=if x.kind=0 then(if x.k≠0∧x.k≠1 then 3 else 0) else if x.kind=4 then(if x.k<1∨(x.args.length:Int)<x.k then 3 else 0) else if x.k≠0 then 2 else 0
def fncode (f:FM) (i:Nat):Int:=
 if(f.nodes.getD i fn0).kind<0∨5<(f.nodes.getD i fn0).kind then 7 else if !arityB (f.nodes.getD i fn0).kind (f.nodes.getD i fn0).args.length then 11
 else if !(f.nodes.getD i fn0).args.all (argOk f i) then 10 else kcode (f.nodes.getD i fn0)
def ffirst (f:FM):Nat→Nat→Int
 |_,0=>0
 |i,k+1=>if fncode f i≠0 then fncode f i else ffirst f (i+1) k
def fvalidB (f:FM) (a:Int):Bool:=decide (f.vars≥0)&&(decide (a≥0)&&(decide (a<f.vars)||decide (a-f.vars<f.nodes.length)))
def fcode (f:FM):Int:=if f.vars<0∨24<f.vars then 3 else if 128<f.nodes.length then 4 else if ffirst f 0 f.nodes.length≠0 then ffirst f 0 f.nodes.length else if fvalidB f f.top then 0 else 10
theorem ffirst_step {f:FM} {i n:Nat} (h:i<n) (h0:fncode f i=0):ffirst f i (n-i)=ffirst f (i+1) (n-(i+1)):=by
 obtain⟨k,hk⟩:∃k,n-i=k+1:=⟨n-i-1,by omega⟩
 rw [hk,ffirst,if_neg (by simp [h0]),show n-(i+1)=k from by omega]
theorem ffirst_at {f:FM} {i n:Nat} (h:i<n) (h0:fncode f i≠0):ffirst f i (n-i)=fncode f i:=by
 obtain⟨k,hk⟩:∃k,n-i=k+1:=⟨n-i-1,by omega⟩
 rw [hk,ffirst,if_pos h0]
theorem ffirst_zero {f:FM}:∀(k i:Nat),ffirst f i k=0→∀j,i≤j→j<i+k→fncode f j=0
 |0,i,_,j,h1,h2=>by omega
 |k+1,i,h,j,h1,h2=>by
  rw [ffirst] at h
  split at h
  ·rename_i hn;exact absurd h hn
  ·rename_i hn
   rcases Nat.eq_or_lt_of_le h1 with e|e
   ·rw [←e];simpa using hn
   ·exact ffirst_zero k (i+1) h j om om
theorem all_take {p:Int→Bool} {l:List Int} (h:∀j,j<l.length→p (l.getD j 0)=true):l.all p=true:=by
 rw [List.all_eq_true]
 intro x hx
 obtain⟨j,hj,rfl⟩:=List.mem_iff_getElem.1 hx
 have:=h j hj
 rwa [List.getD_eq_getElem?_getD,List.getElem?_eq_getElem hj] at this
theorem all_not {p:Int→Bool} {l:List Int} {j:Nat} (hj:j<l.length) (h:p (l.getD j 0)=false):l.all p=false:=by
 rw [Bool.eq_false_iff]
 intro ha
 rw [List.all_eq_true] at ha
 have:=ha l[j] (List.getElem_mem hj)
 rw [List.getD_eq_getElem?_getD,List.getElem?_eq_getElem hj] at h
 rw [show(some l[j]).getD 0=l[j] from rfl] at h
 rw [h] at this
 cases this
end Go.PN
namespace Go.Proofs.YtfcnbgmclfkfcaaGreat
open Go.AI Go.PN
attribute [local irreducible] aw Fa Fh DrK
set_option maxHeartbeats 800000 in
theorem arguments_fa (kind:Int) (n:Nat):Fa Tryz.prog 176 [.c (.int .i64 kind),.c (.int .i64 n)] (.c (.bool (arityB kind n))):=by
 refine fa_of_body Tryz.func176 rfl rfl (by simp [Tryz.ntmps176]) fun C hC=> ?_
 simp only [initS,Nat.reduceAdd]
 refine xG ?_
 refine xF (fun h0=>?_) fun h0=>?_
 ·have h0':kind=0:=eq_of_beq h0
  refine xGT hC ?_
  refine .one (.c (ler_bool ?_))
  unfold arityB
  rw [if_pos h0']
  rw [Bool.eq_iff_iff];simp
 have h0':¬kind=0:=by simpa using h0
 refine xG ?_
 refine xF (fun h1=>?_) fun h1=>?_
 ·have h1':kind=1:=eq_of_beq h1
  refine xGT hC ?_
  refine .one (.c (ler_bool ?_))
  unfold arityB
  rw [if_neg h0',if_pos h1']
  rw [Bool.eq_iff_iff];simp
 have h1':¬kind=1:=by simpa using h1
 refine xG ?_
 refine aw_split 16 eE (fun h2=> ?_) (fun h2=> ?_)<;>refine xS ?_
 ·refine xGT hC ?_
  refine .one (.c (ler_bool ?_))
  unfold arityB
  rw [if_neg h0',if_neg h1',h2];rfl
 ·refine xGT hC ?_
  refine .one (.c (ler_bool ?_))
  unfold arityB
  rw [if_neg h0',if_neg h1',h2];rfl
set_option maxHeartbeats 800000 in
theorem fvalid_fa (f:FM) (a:Int) (hv:f.vars≤1000) (ha0: -9223372036854775808≤a) (ha:a≤9223372036854775807):Fa Tryz.prog 133 [.agg (fmc false f),.c (.int .i64 a)] (.c (.bool (fvalidB f a))):=by
 refine fa_of_body Tryz.func133 rfl rfl (by simp [Tryz.ntmps133]) fun C hC=> ?_
 simp only [initS,Nat.reduceAdd]
 refine xG ?_
 refine xB fun g2 hn_g2=>?_
 refine yG hn_g2 ?_
 refine aw_split 8 (zE hn_g2) (fun h0=> ?_) (fun h0=> ?_)<;>refine yS hn_g2 ?_
 ·have h0':=of_decide_eq_true h0
  refine yG hn_g2 ?_
  refine aw_split 12 (zE hn_g2) (fun h1=> ?_) (fun h1=> ?_)<;>refine yS hn_g2 ?_
  ·have h1':=of_decide_eq_true h1
   refine yG hn_g2 ?_
   refine aw_split 17 (zE hn_g2) (fun h2=> ?_) (fun h2=> ?_)<;>refine yS hn_g2 ?_
   ·refine yGT hC hn_g2 ?_
    refine .one (.c (ler_bool ?_))
    unfold fvalidB
    rw [h0,h1,h2];rfl
   ·refine yGT hC hn_g2 ?_
    refine .one (.c (ler_bool ?_))
    unfold fvalidB
    rw [h0,h1,h2];rfl
  ·refine yGT hC hn_g2 ?_
   refine .one (.c (ler_bool ?_))
   unfold fvalidB
   rw [h0,h1];rfl
 ·refine yGT hC hn_g2 ?_
  refine .one (.c (ler_bool ?_))
  unfold fvalidB
  rw [h0];rfl
set_option maxRecDepth 100000 in
set_option maxHeartbeats 3200000 in
theorem fcheckNode_fa (f:FM) (i:Nat) (hi:i<f.nodes.length) (hv0:0≤f.vars) (hv:f.vars≤1000) (hil:i≤1000000) (hal:(f.nodes.getD i fn0).args.length≤1099511627776):
 Fa Tryz.prog 132 [.agg (fmc false f),.c (.int .i64 i)] (.c (errA (fncode f i))):=by
 unfold fncode
 refine fa_of_body Tryz.func132 rfl rfl (by simp [Tryz.ntmps132]) fun C hC=> ?_
 simp only [initS,Nat.reduceAdd]
 refine xG ?_
 refine xB fun g2 hn_g2=>?_
 refine yG hn_g2 ?_
 generalize hx:f.nodes.getD i fn0=x at*
 refine yA (oj hn_g2 hx) fun g5 hn_g5=>?_
 have J1:=oj hn_g2 (oj hx hn_g5)
 refine yGWSG J1 ?_
 refine aw_split 16 (zE J1) (fun h1=> ?_) (fun h1=> ?_)<;>refine yS J1 ?_
 ·have h1':=of_decide_eq_true h1
  rw [if_pos (.inl h1')]
  refine yGPGT hC J1 ?_
  exact .one (.c (ler_errN rfl (by decide)))
 have h1':=of_decide_eq_false h1
 refine yG J1 ?_
 refine yF J1 (fun h2=>?_) fun h2=>?_
 ·have h2':=of_decide_eq_true h2
  rw [if_pos (.inr om)]
  refine yGT hC J1 ?_
  exact .one (.c (ler_errN rfl (by decide)))
 have h2':=of_decide_eq_false h2
 rw [if_neg om]
 refine yG J1 ?_
 refine yC J1 (arguments_fa x.kind x.args.length) ?_
 refine yG J1 ?_
 refine yF J1 (fun h3=>?_) fun h3=>?_
 ·rw [if_pos h3]
  refine yGT hC J1 ?_
  exact .one (.c (ler_errN rfl (by decide)))
 rw [if_neg (by rw [h3];simp)]
 refine yG J1 ?_
 refine aw_lp (fun j:Nat=>[(1,.c (.int .i64 i)),(2,.c (.optr g2 0)),(5,.c (.optr g5 0)),(31,.c (is true x.args)),(32,.c (.int .i64 x.args.length)),(33,.c (.int .i64 j))]) (fun _=>[(g5,.cells 106 3 (ofL [.int .i64 x.kind,.int .i64 x.k,is true x.args])),(g2,.cells 24 3 (ofL (fmc false f)))]) (fun j=>j≤x.args.length∧∀q,q<j→argOk f i (x.args.getD q 0)=true) (fun j=>x.args.length-j) 0 (zB J1) zZ ⟨Nat.zero_le _,fun q hq=>by omega⟩ ?_
 rintro j ⟨hj,hq⟩
 refine yG J1 ?_
 refine yF J1 (fun h4=>?_) fun h4=>?_
 ·have h4':j<x.args.length:=dT h4
  refine yG J1 ?_
  refine aw_split 39 (zE J1) (fun h5=> ?_) (fun h5=> ?_)<;>refine yS J1 ?_
  ·have h5':=of_decide_eq_true h5
   rw [if_pos (by rw [all_not h4' (by unfold argOk;rw [decide_eq_false om];rfl)];rfl)]
   refine yGPGT hC J1 ?_
   exact .one (.c (ler_errN rfl (by decide)))
  have h5':=of_decide_eq_false h5
  refine yG J1 ?_
  refine yF J1 (fun h6=>?_) fun h6=>?_
  ·have h6':=of_decide_eq_true h6
   rw [if_pos (by rw [all_not h4' (by unfold argOk;rw [decide_eq_false (show¬x.args.getD j 0<f.vars+i by omega),Bool.and_false])];rfl)]
   refine yGT hC J1 ?_
   exact .one (.c (ler_errN rfl (by decide)))
  have h6':=of_decide_eq_false h6
  refine yG J1 ?_
  refine aw_stop ⟨j+1,by omega,(zB J1),zZ,by omega,fun q hql=> ?_⟩
  by_cases e:q=j
  ·subst e
   unfold argOk
   rw [decide_eq_true om,decide_eq_true om];rfl
  ·exact hq q om
 have h4':j=x.args.length:=dF h4
 subst h4'
 rw [if_neg (by rw [all_take hq];simp)]
 unfold kcode
 refine yG J1 ?_
 refine yF J1 (fun k0=>?_) fun k0=>?_
 ·have k0':x.kind=0:=eq_of_beq k0
  rw [if_pos k0']
  refine yG J1 ?_
  by_cases z0:x.k=0
  ·have zz:=ieq_t z0
   rw [if_neg om]
   have J2:=oj hn_g2 (oj hx (oj hn_g5 zz))
   refine yGNG J2 ?_
   refine yT hC J2 ?_
   exact .one (.c (ler_err0 rfl))
  ·have zz:=ieq_f z0
   have J3:=oj hn_g2 (oj hx (oj hn_g5 zz))
   refine yG J3 ?_
   refine yF J3 (fun k1=>?_) fun k1=>?_
   ·have k1':¬x.k=1:=by simpa using k1
    rw [if_pos ⟨z0,k1'⟩]
    refine yGT hC J3 ?_
    exact .one (.c (ler_errN rfl (by decide)))
   ·have k1':x.k=1:=by simpa using k1
    rw [if_neg om]
    refine yGT hC J3 ?_
    exact .one (.c (ler_err0 rfl))
 have k0':¬x.kind=0:=by simpa using k0
 rw [if_neg k0']
 refine yG J1 ?_
 refine yF J1 (fun k4=>?_) fun k4=>?_
 ·have k4':x.kind=4:=eq_of_beq k4
  rw [if_pos k4']
  refine yG J1 ?_
  refine aw_split 71 (zE J1) (fun q1=> ?_) (fun q1=> ?_)<;>refine yS J1 ?_
  ·have q1':=of_decide_eq_true q1
   rw [if_pos (.inl q1')]
   refine yGPGT hC J1 ?_
   exact .one (.c (ler_errN rfl (by decide)))
  have q1':=of_decide_eq_false q1
  refine yG J1 ?_
  refine yF J1 (fun q2=>?_) fun q2=>?_
  ·have q2':=of_decide_eq_true q2
   rw [if_pos (.inr om)]
   refine yGT hC J1 ?_
   exact .one (.c (ler_errN rfl (by decide)))
  ·have q2':=of_decide_eq_false q2
   rw [if_neg om]
   refine yGT hC J1 ?_
   exact .one (.c (ler_err0 rfl))
 have k4':¬x.kind=4:=by simpa using k4
 rw [if_neg k4']
 refine yG J1 ?_
 refine yF J1 (fun z1=>?_) fun z1=>?_
 ·have z1':¬x.k=0:=by simpa using z1
  rw [if_pos z1']
  refine yGT hC J1 ?_
  exact .one (.c (ler_errN rfl (by decide)))
 ·have z1':x.k=0:=by simpa using z1
  rw [if_neg om]
  refine yGT hC J1 ?_
  exact .one (.c (ler_err0 rfl))
end Go.Proofs.YtfcnbgmclfkfcaaGreat
namespace Go.Proofs.YtfcnbgmclfkfcaaGreat
open Go.AI Go.PN
attribute [local irreducible] aw Fa Fh DrK
def ArgsOk (f:FM):Prop:=∀x∈f.nodes,x.args.length≤1099511627776
theorem ArgsOk.at {f:FM} (h:ArgsOk f) (i:Nat):(f.nodes.getD i fn0).args.length≤1099511627776:=by
 by_cases hi:i<f.nodes.length
 ·rw [getFN hi];exact h _ (List.getElem_mem hi)
 ·rw [List.getD_eq_getElem?_getD,List.getElem?_eq_none om];show 0≤_;omega
set_option maxRecDepth 100000 in
set_option maxHeartbeats 3200000 in
theorem fcheck_fa (f:FM) (hn:f.nodes.length≤1099511627776) (ha:ArgsOk f) (ht0: -9223372036854775808≤f.top) (ht:f.top≤9223372036854775807):Fa Tryz.prog 83 [.agg (fmc false f)] (.c (errA (fcode f))):=by
 unfold fcode
 refine fa_of_body Tryz.func83 rfl rfl (by simp [Tryz.ntmps83]) fun C hC=> ?_
 simp only [initS,Nat.reduceAdd]
 refine xG ?_
 refine xB fun g1 hn_g1=>?_
 refine yG hn_g1 ?_
 refine aw_split 8 (zE hn_g1) (fun h1=> ?_) (fun h1=> ?_)<;>refine yS hn_g1 ?_
 ·have h1':=of_decide_eq_true h1
  rw [if_pos (.inl h1')]
  refine yGPGT hC hn_g1 ?_
  exact .one (.c (ler_errN rfl (by decide)))
 have h1':=of_decide_eq_false h1
 refine yG hn_g1 ?_
 refine yF hn_g1 (fun h2=>?_) fun h2=>?_
 ·have h2':=of_decide_eq_true h2
  rw [if_pos (.inr om)]
  refine yGT hC hn_g1 ?_
  exact .one (.c (ler_errN rfl (by decide)))
 have h2':=of_decide_eq_false h2
 rw [if_neg om]
 refine yG hn_g1 ?_
 refine yF hn_g1 (fun h3=>?_) fun h3=>?_
 ·have h3':=of_decide_eq_true h3
  rw [if_pos om]
  refine yGT hC hn_g1 ?_
  exact .one (.c (ler_errN rfl (by decide)))
 have h3':=of_decide_eq_false h3
 rw [if_neg om]
 refine yG hn_g1 ?_
 refine aw_lp (fun i:Nat=>[(1,.c (.optr g1 0)),(21,.c (.int .i64 f.nodes.length)),(22,.c (.int .i64 i))]) (fun _=>[(g1,.cells 24 3 (ofL (fmc false f)))]) (fun i=>i≤f.nodes.length∧ffirst f 0 f.nodes.length=ffirst f i (f.nodes.length-i)) (fun i=>f.nodes.length-i) 0 (zB hn_g1) zZ ⟨Nat.zero_le _,rfl⟩ ?_
 rintro i ⟨hi,hf⟩
 refine yG hn_g1 ?_
 refine yF hn_g1 (fun h4=>?_) fun h4=>?_
 ·have h4':i<f.nodes.length:=dT h4
  refine yG hn_g1 ?_
  refine yC hn_g1 (fcheckNode_fa f i h4' ?_ ?_ ?_ (ha.at i)) ?_
  ·omega
  ·omega
  ·omega
  refine yG hn_g1 ?_
  refine yF hn_g1 (fun h5=>?_) fun h5=>?_
  ·have h5':¬fncode f i=0:=by simpa using h5
   rw [hf,ffirst_at h4' h5',if_pos h5']
   refine yGT hC hn_g1 ?_
   exact .one (.c ler_err)
  ·have h5':fncode f i=0:=by simpa using h5
   refine yG hn_g1 ?_
   exact aw_stop ⟨i+1,by omega,(zB hn_g1),zZ,by omega,by rw [hf];exact ffirst_step h4' h5'⟩
 have h4':i=f.nodes.length:=dF h4
 subst h4'
 rw [hf,Nat.sub_self,if_neg (by rw [ffirst];simp)]
 refine yG hn_g1 ?_
 refine yC hn_g1 (fvalid_fa f f.top ?_ ht0 ht) ?_
 ·omega
 refine yG hn_g1 ?_
 refine yF hn_g1 (fun h6=>?_) fun h6=>?_
 ·have h6':fvalidB f f.top=false:=by simpa using h6
  rw [h6',if_neg (by simp)]
  refine yGT hC hn_g1 ?_
  exact .one (.c (ler_errN rfl (by decide)))
 ·have h6':fvalidB f f.top=true:=by simpa using h6
  rw [h6',if_pos rfl]
  refine yGT hC hn_g1 ?_
  exact .one (.c (ler_err0 rfl))
set_option maxRecDepth 100000 in
set_option maxHeartbeats 3200000 in
theorem fnodeR_fa (f:FM) (i:Nat) (hi:i<f.nodes.length) (hv0:0≤f.vars) (hv:f.vars≤1000) (hil:i≤1000000) (hal:(f.nodes.getD i fn0).args.length≤1099511627776):
 Fa Tryz.prog 95 [.agg (fmc false f),.c (.int .i64 i)] (.c (.int .i64 (fncode f i))):=by
 unfold fncode
 refine fa_of_body Tryz.func95 rfl rfl (by simp [Tryz.ntmps95]) fun C hC=> ?_
 simp only [initS,Nat.reduceAdd]
 refine xG ?_
 refine xB fun g2 hn_g2=>?_
 refine yG hn_g2 ?_
 generalize hx:f.nodes.getD i fn0=x at*
 refine yA (oj hn_g2 hx) fun g5 hn_g5=>?_
 have J1:=oj hn_g2 (oj hx hn_g5)
 refine yGWS J1 ?_
 refine yH J1 ?_
 apply aw_seq
 apply aw_region
 refine yH J1 ?_
 apply aw_seq
 refine aw_cut (fun y:Nat×Nat=>[(1,.c (.int .i64 i)),(2,.c (.optr g2 0)),(5,.c (.optr g5 0)),(6,.c (.int .i64 y.1)),(7,.c (.int .i64 y.2))]) (fun _=>[(g5,.cells 106 3 (ofL [.int .i64 x.kind,.int .i64 x.k,is true x.args])),(g2,.cells 24 3 (ofL (fmc false f)))]) (fun y=>(0≤x.kind∧x.kind≤5)∧arityB x.kind x.args.length=(decide (y.1≤x.args.length)&&decide (x.args.length≤y.2))) ?_ ?_
 ·refine yG J1 ?_
  refine yF J1 (fun k0=>?_) fun k0=>?_
  ·have k':x.kind=0:=eq_of_beq k0
   refine yG J1 ?_
   refine aw_stop ⟨(0,0),(zB J1),zZ,by omega,?_⟩
   unfold arityB
   rw [if_pos k',Bool.eq_iff_iff];simp
  have k0':¬x.kind=0:=by simpa using k0
  refine yG J1 ?_
  refine yF J1 (fun k1=>?_) fun k1=>?_
  ·have k':x.kind=1:=eq_of_beq k1
   refine yG J1 ?_
   refine aw_stop ⟨(1,1),(zB J1),zZ,by omega,?_⟩
   unfold arityB
   rw [if_neg k0',if_pos k',Bool.eq_iff_iff]
   simp only [decide_eq_true_eq,Bool.and_eq_true]
   omega
  have k1':¬x.kind=1:=by simpa using k1
  have hfin:0≤x.kind→x.kind≤5→(0≤x.kind∧x.kind≤5)∧arityB x.kind x.args.length=(decide (1≤x.args.length)&&decide (x.args.length≤16)):=fun h1 h2=>by
   refine⟨⟨h1,h2⟩,?_⟩
   unfold arityB
   rw [if_neg k0',if_neg k1',Bool.eq_iff_iff]
   simp only [decide_eq_true_eq,Bool.and_eq_true]
   omega
  refine yG J1 ?_
  refine yF J1 (fun k2=>?_) fun k2=>?_
  ·have k':x.kind=2:=eq_of_beq k2
   have J2:=oj hn_g2 (oj hx (oj hn_g5 k2))
   refine yGPG J2 ?_
   exact aw_stop ⟨(1,16),(zB J2),zZ,hfin om om⟩
  have k2':¬x.kind=2:=by simpa using k2
  refine yG J1 ?_
  refine yF J1 (fun k3=>?_) fun k3=>?_
  ·have k':x.kind=3:=eq_of_beq k3
   have J3:=oj hn_g2 (oj hx (oj hn_g5 k3))
   refine yGPG J3 ?_
   exact aw_stop ⟨(1,16),(zB J3),zZ,hfin om om⟩
  have k3':¬x.kind=3:=by simpa using k3
  refine yG J1 ?_
  refine yF J1 (fun k4=>?_) fun k4=>?_
  ·have k':x.kind=4:=eq_of_beq k4
   have J4:=oj hn_g2 (oj hx (oj hn_g5 k4))
   refine yGPG J4 ?_
   exact aw_stop ⟨(1,16),(zB J4),zZ,hfin om om⟩
  have k4':¬x.kind=4:=by simpa using k4
  refine yG J1 ?_
  refine yF J1 (fun k5=>?_) fun k5=>?_
  ·have k':x.kind=5:=eq_of_beq k5
   refine yG J1 ?_
   exact aw_stop ⟨(1,16),(zB J1),zZ,hfin om om⟩
  have k5':¬x.kind=5:=by simpa using k5
  rw [if_pos om]
  refine yGT hC J1 ?_
  exact .one (.c (.int _ _))
 rintro ⟨least,most⟩ ⟨hkind,har⟩
 dsimp only at hkind har⊢
 rw [if_neg om]
 refine yG J1 ?_
 refine aw_split 31 (zE J1) (fun a1=> ?_) (fun a1=> ?_)<;>refine yS J1 ?_
 ·have a1':=of_decide_eq_true a1
  rw [if_pos (by rw [har,decide_eq_false (show¬least≤x.args.length by omega)];rfl)]
  refine yGPGT hC J1 ?_
  exact .one (.c (.int _ _))
 have a1':=of_decide_eq_false a1
 refine yG J1 ?_
 refine yF J1 (fun a2=>?_) fun a2=>?_
 ·have a2':=of_decide_eq_true a2
  rw [if_pos (by rw [har,decide_eq_false (show¬x.args.length≤most by omega),Bool.and_false];rfl)]
  refine yGT hC J1 ?_
  exact .one (.c (.int _ _))
 have a2':=of_decide_eq_false a2
 rw [if_neg (by rw [har,decide_eq_true (show least≤x.args.length by omega),decide_eq_true (show x.args.length≤most by omega)];simp)]
 refine yG J1 ?_
 refine aw_lp (fun j:Nat=>[(1,.c (.int .i64 i)),(2,.c (.optr g2 0)),(5,.c (.optr g5 0)),(39,.c (is true x.args)),(40,.c (.int .i64 x.args.length)),(41,.c (.int .i64 j))]) (fun _=>[(g5,.cells 106 3 (ofL [.int .i64 x.kind,.int .i64 x.k,is true x.args])),(g2,.cells 24 3 (ofL (fmc false f)))]) (fun j=>j≤x.args.length∧∀q,q<j→argOk f i (x.args.getD q 0)=true) (fun j=>x.args.length-j) 0 (zB J1) zZ ⟨Nat.zero_le _,fun q hq=>by omega⟩ ?_
 rintro j ⟨hj,hq⟩
 refine yG J1 ?_
 refine yF J1 (fun h4=>?_) fun h4=>?_
 ·have h4':j<x.args.length:=dT h4
  refine yG J1 ?_
  refine aw_split 47 (zE J1) (fun h5=> ?_) (fun h5=> ?_)<;>refine yS J1 ?_
  ·have h5':=of_decide_eq_true h5
   rw [if_pos (by rw [all_not h4' (by unfold argOk;rw [decide_eq_false om];rfl)];rfl)]
   refine yGPGT hC J1 ?_
   exact .one (.c (.int _ _))
  have h5':=of_decide_eq_false h5
  refine yG J1 ?_
  refine yF J1 (fun h6=>?_) fun h6=>?_
  ·have h6':=of_decide_eq_true h6
   rw [if_pos (by rw [all_not h4' (by unfold argOk;rw [decide_eq_false (show¬x.args.getD j 0<f.vars+i by omega),Bool.and_false])];rfl)]
   refine yGT hC J1 ?_
   exact .one (.c (.int _ _))
  have h6':=of_decide_eq_false h6
  refine yG J1 ?_
  refine aw_stop ⟨j+1,by omega,(zB J1),zZ,by omega,fun q hql=> ?_⟩
  by_cases e:q=j
  ·subst e
   unfold argOk
   rw [decide_eq_true om,decide_eq_true om];rfl
  ·exact hq q om
 have h4':j=x.args.length:=dF h4
 subst h4'
 rw [if_neg (by rw [all_take hq];simp)]
 unfold kcode
 refine yG J1 ?_
 refine yF J1 (fun k0=>?_) fun k0=>?_
 ·have k0':x.kind=0:=eq_of_beq k0
  rw [if_pos k0']
  refine yG J1 ?_
  by_cases z0:x.k=0
  ·have zz:=ieq_t z0
   rw [if_neg om]
   have J5:=oj hn_g2 (oj hx (oj hn_g5 zz))
   refine yGNG J5 ?_
   refine yT hC J5 ?_
   exact .one (.c (.int _ _))
  ·have zz:=ieq_f z0
   have J6:=oj hn_g2 (oj hx (oj hn_g5 zz))
   refine yG J6 ?_
   refine yF J6 (fun k1=>?_) fun k1=>?_
   ·have k1':¬x.k=1:=by simpa using k1
    rw [if_pos ⟨z0,k1'⟩]
    refine yGT hC J6 ?_
    exact .one (.c (.int _ _))
   ·have k1':x.k=1:=by simpa using k1
    rw [if_neg om]
    refine yGT hC J6 ?_
    exact .one (.c (.int _ _))
 have k0':¬x.kind=0:=by simpa using k0
 rw [if_neg k0']
 refine yG J1 ?_
 refine yF J1 (fun k4=>?_) fun k4=>?_
 ·have k4':x.kind=4:=eq_of_beq k4
  rw [if_pos k4']
  refine yG J1 ?_
  refine aw_split 76 (zE J1) (fun q1=> ?_) (fun q1=> ?_)<;>refine yS J1 ?_
  ·have q1':=of_decide_eq_true q1
   rw [if_pos (.inl q1')]
   refine yGPGT hC J1 ?_
   exact .one (.c (.int _ _))
  have q1':=of_decide_eq_false q1
  refine yG J1 ?_
  refine yF J1 (fun q2=>?_) fun q2=>?_
  ·have q2':=of_decide_eq_true q2
   rw [if_pos (.inr om)]
   refine yGT hC J1 ?_
   exact .one (.c (.int _ _))
  ·have q2':=of_decide_eq_false q2
   rw [if_neg om]
   refine yGT hC J1 ?_
   exact .one (.c (.int _ _))
 have k4':¬x.kind=4:=by simpa using k4
 rw [if_neg k4']
 refine yG J1 ?_
 refine yF J1 (fun z1=>?_) fun z1=>?_
 ·have z1':¬x.k=0:=by simpa using z1
  rw [if_pos z1']
  refine yGT hC J1 ?_
  exact .one (.c (.int _ _))
 ·have z1':x.k=0:=by simpa using z1
  rw [if_neg om]
  refine yGT hC J1 ?_
  exact .one (.c (.int _ _))
set_option maxHeartbeats 800000 in
theorem fvalidR_fa (f:FM) (a:Int) (hv:f.vars≤1000) (ha0: -9223372036854775808≤a) (ha:a≤9223372036854775807):Fa Tryz.prog 96 [.agg (fmc false f),.c (.int .i64 a)] (.c (.bool (fvalidB f a))):=by
 refine fa_of_body Tryz.func96 rfl rfl (by simp [Tryz.ntmps96]) fun C hC=> ?_
 simp only [initS,Nat.reduceAdd]
 refine xG ?_
 refine xB fun g2 hn_g2=>?_
 refine yG hn_g2 ?_
 refine aw_split 8 (zE hn_g2) (fun h0=> ?_) (fun h0=> ?_)<;>refine yS hn_g2 ?_
 ·have h0':=of_decide_eq_true h0
  refine yG hn_g2 ?_
  refine aw_split 12 (zE hn_g2) (fun h1=> ?_) (fun h1=> ?_)<;>refine yS hn_g2 ?_
  ·have h1':=of_decide_eq_true h1
   refine yG hn_g2 ?_
   refine aw_split 17 (zE hn_g2) (fun h2=> ?_) (fun h2=> ?_)<;>refine yS hn_g2 ?_
   ·refine yGT hC hn_g2 ?_
    refine .one (.c (ler_bool ?_))
    unfold fvalidB
    rw [h0,h1,h2];rfl
   ·refine yGT hC hn_g2 ?_
    refine .one (.c (ler_bool ?_))
    unfold fvalidB
    rw [h0,h1,h2];rfl
  ·refine yGT hC hn_g2 ?_
   refine .one (.c (ler_bool ?_))
   unfold fvalidB
   rw [h0,h1];rfl
 ·refine yGT hC hn_g2 ?_
  refine .one (.c (ler_bool ?_))
  unfold fvalidB
  rw [h0];rfl
set_option maxRecDepth 100000 in
set_option maxHeartbeats 3200000 in
theorem fcheckR_fa (f:FM) (hn:f.nodes.length≤1099511627776) (ha:ArgsOk f) (ht0: -9223372036854775808≤f.top) (ht:f.top≤9223372036854775807):Fa Tryz.prog 45 [.agg (fmc false f)] (.c (.int .i64 (fcode f))):=by
 unfold fcode
 refine fa_of_body Tryz.func45 rfl rfl (by simp [Tryz.ntmps45]) fun C hC=> ?_
 simp only [initS,Nat.reduceAdd]
 refine xG ?_
 refine xB fun g1 hn_g1=>?_
 refine yG hn_g1 ?_
 refine aw_split 8 (zE hn_g1) (fun h1=> ?_) (fun h1=> ?_)<;>refine yS hn_g1 ?_
 ·have h1':=of_decide_eq_true h1
  rw [if_pos (.inl h1')]
  refine yGPGT hC hn_g1 ?_
  exact .one (.c (.int _ _))
 have h1':=of_decide_eq_false h1
 refine yG hn_g1 ?_
 refine yF hn_g1 (fun h2=>?_) fun h2=>?_
 ·have h2':=of_decide_eq_true h2
  rw [if_pos (.inr om)]
  refine yGT hC hn_g1 ?_
  exact .one (.c (.int _ _))
 have h2':=of_decide_eq_false h2
 rw [if_neg om]
 refine yG hn_g1 ?_
 refine yF hn_g1 (fun h3=>?_) fun h3=>?_
 ·have h3':=of_decide_eq_true h3
  rw [if_pos om]
  refine yGT hC hn_g1 ?_
  exact .one (.c (.int _ _))
 have h3':=of_decide_eq_false h3
 rw [if_neg om]
 refine yG hn_g1 ?_
 refine aw_lp (fun i:Nat=>[(1,.c (.optr g1 0)),(19,.c (.int .i64 f.nodes.length)),(20,.c (.int .i64 i))]) (fun _=>[(g1,.cells 24 3 (ofL (fmc false f)))]) (fun i=>i≤f.nodes.length∧ffirst f 0 f.nodes.length=ffirst f i (f.nodes.length-i)) (fun i=>f.nodes.length-i) 0 (zB hn_g1) zZ ⟨Nat.zero_le _,rfl⟩ ?_
 rintro i ⟨hi,hf⟩
 refine yG hn_g1 ?_
 refine yF hn_g1 (fun h4=>?_) fun h4=>?_
 ·have h4':i<f.nodes.length:=dT h4
  refine yG hn_g1 ?_
  refine yC hn_g1 (fnodeR_fa f i h4' ?_ ?_ ?_ (ha.at i)) ?_
  ·omega
  ·omega
  ·omega
  refine yG hn_g1 ?_
  refine yF hn_g1 (fun h5=>?_) fun h5=>?_
  ·have h5':¬fncode f i=0:=by simpa using h5
   rw [hf,ffirst_at h4' h5',if_pos h5']
   refine yGT hC hn_g1 ?_
   exact .one (.c (.int _ _))
  ·have h5':fncode f i=0:=by simpa using h5
   refine yG hn_g1 ?_
   exact aw_stop ⟨i+1,by omega,(zB hn_g1),zZ,by omega,by rw [hf];exact ffirst_step h4' h5'⟩
 have h4':i=f.nodes.length:=dF h4
 subst h4'
 rw [hf,Nat.sub_self,if_neg (by rw [ffirst];simp)]
 refine yG hn_g1 ?_
 refine yC hn_g1 (fvalidR_fa f f.top ?_ ht0 ht) ?_
 ·omega
 refine yG hn_g1 ?_
 refine yF hn_g1 (fun h6=>?_) fun h6=>?_
 ·have h6':fvalidB f f.top=false:=by simpa using h6
  rw [h6',if_neg (by simp)]
  refine yGT hC hn_g1 ?_
  exact .one (.c (.int _ _))
 ·have h6':fvalidB f f.top=true:=by simpa using h6
  rw [h6',if_pos rfl]
  refine yGT hC hn_g1 ?_
  exact .one (.c (.int _ _))
end Go.Proofs.YtfcnbgmclfkfcaaGreat
namespace Go.PN
open Go.AI
theorem ratsF_upd {xs:List RD} {i:Nat} {v:RD} (hi:i<xs.length):updF (ratsF xs) (i*3) [CV.bool v.neg,ws true v.num,ws true v.den]=ratsF (xs.set i v):=lf_upd (c:=fun r:RD=>[CV.bool r.neg,ws true r.num,ws true r.den]) hi rfl om
end Go.PN

namespace Go.Proofs.YtfcnbgmclfkfcaaGreat
open Go.AI Go.PN
abbrev prS (d:DG) (p:List RD):Rat:=sumQ p (tabL d) (2^p.length)
theorem rd1_wf:(rd (1:Rat)).wf 4:=rd_wf (fits_mono fits_one om)
theorem rd0_wf4:rd0.wf 4:=by
 have:=rd_wf (q:=0) (L:=4) (fits_mono fits_zero om)
 rwa [rd_zero] at this
theorem rd_prob {q:Rat} (h0:0≤q) (h1:q≤1):(rd q).prob=true:=by
 unfold RD.prob
 rw [rd_q,decide_eq_true h0,decide_eq_true h1,rd_valid]
 rfl
theorem rd1_prob:(rd (1:Rat)).prob=true:=rd_prob (by decide) (by decide)
theorem rd0_prob:rd0.prob=true:=by
 have:=rd_prob (q:=0) (by decide) (by decide)
 rwa [rd_zero] at this
theorem dp_set {d:DG} {p:List RD} (h:dpcode d p=0) {i:Nat} {q:RD} (hq:q.prob=true):dpcode d (p.set i q)=0:=by
 have h0:=dp_ok h
 unfold dpcode at h⊢
 split at h
 ·rename_i h1;exact absurd h h1
 ·rename_i h1
  rw [if_neg h1]
  unfold pcode
  rw [List.length_set,if_neg om,if_pos]
  rw [List.all_eq_true]
  intro r hr
  rcases List.mem_or_eq_of_mem_set hr with hr|rfl
  ·exact h0.2.2 r hr
  ·exact hq
theorem Small.set {d:DG} {p:List RD} (hs:Small d p) (h:dpcode d p=0) {i:Nat} {q:RD} (hq:q.wf 4):Small d (p.set i q):=
 ⟨fun r hr=>by
  rcases List.mem_or_eq_of_mem_set hr with hr|rfl
  ·exact hs.w r hr
  ·exact hq,by rw [List.length_set];exact hs.l,hs.o,hs.n,fun _=>hs.o6 h⟩
def bcode (d:DG) (p:List RD) (es:List Int):Int:=if dpcode d p≠0 then dpcode d p else if es.all (fun i=>decide (0≤i)&&decide (i<d.order.length)) then 0 else 10
theorem le_oslr2 {h:Heap} {g n:Nat} {ty:TypeId} {W:List RD} (hg:h.get g=some (.cells ty (n*3) (ratsF W))) (hn:n=W.length):LeC h (.osl g 3 0 n) (rats false W):=by
 subst hn
 exact .osl hg om (fun j _=>by rw [Nat.zero_add];exact .refl _)
end Go.Proofs.YtfcnbgmclfkfcaaGreat
namespace Go.PN
open Go.AI
def evB (b:Bool):Rat:=if b then 1 else 0
end Go.PN
namespace Go.Proofs.YtfcnbgmclfkfcaaGreat
open Go.AI Go.PN
theorem prS_ex {d:DG} {p:List RD} (h:d.order.length=p.length):prS d p=exQ (prP p) p.length (fun s=>evB (evalD d.nodes s d.root)):=by
 unfold prS
 rw [sumQ_ex]
 refine ex_congr _ _ _ fun s hs=> ?_
 unfold evB tabL
 rw [List.getD_eq_getElem?_getD,h]
 simp [hs]
end Go.Proofs.YtfcnbgmclfkfcaaGreat
namespace Go.PN
open Go.AI
def setB (s e:Nat) (b:Bool):Nat:=if s.testBit e=b then s else s^^^2^e
theorem setB_bit (s e:Nat) (b:Bool) (j:Nat):(setB s e b).testBit j=if j=e then b else s.testBit j:=by
 unfold setB
 split
 ·rename_i h
  split
  ·rename_i hj;rw [hj,h]
  ·rfl
 ·rename_i h
  rw [Nat.testBit_xor,Nat.testBit_two_pow]
  split
  ·rename_i hj
   subst hj
   cases hb:s.testBit j<;>cases b<;>simp_all
  ·rename_i hj
   rw [decide_eq_false (fun h=>hj h.symm),Bool.xor_false]
theorem tab_indep {o:List Int} {ns:List DN} (ht:TabOk o ns) {s t:Nat} {P:Int} (hb:∀j:Nat,j<o.length→P<placeZ o j→s.testBit j=t.testBit j):∀(n:Nat) (r:Int),r.toNat≤n→RefOk ns r→P<lvZ o ns r→evalD ns s r=evalD ns t r:=by
 intro n
 induction n with
 |zero=>
  intro r hn h0 hP
  rw [evalD_leaf om,evalD_leaf om]
 |succ n ih=>
  intro r hn h0 hP
  by_cases h2:2≤r
  ·unfold RefOk at h0
   have hi:(r-2).toNat<ns.length:=by omega
   have nd:=ht _ hi
   obtain⟨v0,v1,_,_,_,_⟩:=nd.nk
   obtain⟨r1,r2⟩:=kids_ref ht hi
   have b1:=nd.bl
   have b2:=nd.bh
   have hP':P<placeZ o (ns.getD (r-2).toNat dn0).v:=by
    unfold lvZ at hP
    rw [if_neg om] at hP
    exact hP
   have hbit:=hb (ns.getD (r-2).toNat dn0).v.toNat om (by rw [show(((ns.getD (r-2).toNat dn0).v.toNat:Nat):Int)=(ns.getD (r-2).toNat dn0).v from by omega];exact hP')
   have hk:=kid_lt ht.ns (s:=t) h2 h0.2
   rw [evalD_step ht.ns h2 h0.2,evalD_step ht.ns h2 h0.2]
   unfold kid at hk⊢
   rw [hbit]
   split
   ·rename_i hx
    rw [if_pos hx] at hk
    exact ih _ om r2 om
   ·rename_i hx
    rw [if_neg hx] at hk
    exact ih _ om r1 om
  ·rw [evalD_leaf om,evalD_leaf om]
theorem setB_indep {o:List Int} {ns:List DN} (ht:TabOk o ns) {r:Int} (hr:RefOk ns r) {e:Nat} (hl:placeZ o e<lvZ o ns r) (s:Nat) (b:Bool):evalD ns (setB s e b) r=evalD ns s r:=
 tab_indep ht (P:=placeZ o e) (fun j _ hp=>by rw [setB_bit,if_neg (fun h=>by subst h;omega)]) r.toNat r (Nat.le_refl _) hr hl
def CmR (ns0:List DN) (e:Nat) (y:Int) (ns:List DN) (r x:Int):Prop:=RefOk ns x∧∀s,evalD ns s x=evalD ns0 (setB s e (evalD ns0 s y)) r
theorem Later.loose {o:List Int} {a b:List DN} {n:Nat} (h:Later o a b n):Later o a b b.length:=⟨h.tab,h.pre,by omega⟩
structure CmOk (o:List Int) (ns0:List DN) (e:Nat) (y:Int) (ns:List DN) (mm:Mem3) (dl:List (Int×Int)):Prop where
 lat:Later o ns0 ns ns.length
 mem:MemOk o ns mm
 keys:(dl.map (·.1)).Nodup
 bd:∀x∈dl,2≤x.1∧x.1<ns0.length+2
 sem:∀x∈dl,CmR ns0 e y ns x.1 x.2
theorem CmR.later {o:List Int} {ns0 ns ns':List DN} {e:Nat} {y r x:Int} {n:Nat} (h:CmR ns0 e y ns r x) (ht:TabOk o ns) (hl:Later o ns ns' n):CmR ns0 e y ns' r x:=
 ⟨hl.ref h.1,fun s=>by rw [hl.eval ht h.1,h.2 s]⟩
theorem CmOk.later {o:List Int} {ns0:List DN} {e:Nat} {y:Int} {ns ns':List DN} {mm mm':Mem3} {dl:List (Int×Int)} (h:CmOk o ns0 e y ns mm dl) {n:Nat} (hl:Later o ns ns' n) (hm:MemOk o ns' mm'):CmOk o ns0 e y ns' mm' dl:=
 ⟨(h.lat.trans hl (Nat.le_refl _)).loose,hm,h.keys,h.bd,fun x hx=>(h.sem x hx).later h.lat.tab hl⟩
theorem CmOk.push {o:List Int} {ns0:List DN} {e:Nat} {y:Int} {ns:List DN} {mm:Mem3} {dl:List (Int×Int)} (h:CmOk o ns0 e y ns mm dl) {r x:Int} (h2:2≤r) (hr:r<ns0.length+2) (hnew:∀x∈dl,x.1≠r) (hx:CmR ns0 e y ns r x):
 CmOk o ns0 e y ns mm (dl++[(r,x)]):=by
 refine⟨h.lat,h.mem,?_,fun z hz=> ?_,fun z hz=> ?_⟩
 ·rw [List.map_append,List.map_singleton]
  refine List.nodup_append.2 ⟨h.keys,by simp,fun a ha b hb=> ?_⟩
  rw [List.mem_singleton] at hb
  subst hb
  obtain⟨z,hz,rfl⟩:=List.mem_map.1 ha
  exact hnew z hz
 ·rcases List.mem_append.1 hz with hz|hz
  ·exact h.bd z hz
  ·rw [List.mem_singleton] at hz;subst hz;exact⟨h2,hr⟩
 ·rcases List.mem_append.1 hz with hz|hz
  ·exact h.sem z hz
  ·rw [List.mem_singleton] at hz;subst hz;exact hx
theorem CmOk.len {o:List Int} {ns0:List DN} {e:Nat} {y:Int} {ns:List DN} {mm:Mem3} {dl:List (Int×Int)} (h:CmOk o ns0 e y ns mm dl):dl.length≤ns0.length:=by
 have:=nodup_range h.keys (fun x hx=>by obtain⟨z,hz,rfl⟩:=List.mem_map.1 hx;exact h.bd z hz)
 simpa using this
theorem CmOk.zero {o:List Int} {ns0:List DN} {e:Nat} {y:Int} {mm:Mem3} (ht:TabOk o ns0) (hm:MemOk o ns0 mm):CmOk o ns0 e y ns0 mm []:=
 ⟨Later.refl ht _,hm,List.nodup_nil,fun x hx=>absurd hx List.not_mem_nil,fun x hx=>absurd hx List.not_mem_nil⟩
def dnGet (r:Int):List (Int×Int)→Option Int
 |[]=>none
 |e::dl=>if r=e.1 then some e.2 else dnGet r dl
def dnL (dl:List (Int×Int)):List (Int×Value):=dl.map fun e=>(e.1,.int .i64 e.2)
theorem dn_get (r:Int):∀dl,kvGet r (dnL dl)=(dnGet r dl).map (Value.int .i64)
 |[]=>rfl
 |e::dl=>by
  show(if r=e.1 then some (Value.int .i64 e.2) else kvGet r (dnL dl))=_
  rw [dnGet,dn_get r dl]
  split<;>rfl
theorem dnL_push (dl:List (Int×Int)) (r x:Int):dnL dl++[(r,.int .i64 x)]=dnL (dl++[(r,x)]):=by simp [dnL]
theorem dn_mem {r x:Int}:∀{dl:List (Int×Int)},dnGet r dl=some x→(r,x)∈dl
 |[],h=>by simp [dnGet] at h
 |e::dl,h=>by
  rw [dnGet] at h
  split at h
  ·rename_i hk
   injection h with h
   subst hk h
   exact List.mem_cons_self ..
  ·exact List.mem_cons_of_mem _ (dn_mem h)
theorem dn_none {r:Int}:∀{dl:List (Int×Int)},dnGet r dl=none→∀e∈dl,e.1≠r
 |e::dl,h,e',he=>by
  rw [dnGet] at h
  split at h
  ·cases h
  ·rename_i hk
   rcases List.mem_cons.1 he with rfl|he
   ·exact fun x=>hk x.symm
   ·exact dn_none h e' he
theorem dn_none' {r:Int}:∀{dl:List (Int×Int)},(∀e∈dl,e.1≠r)→dnGet r dl=none
 |[],_=>rfl
 |e::dl,h=>by
  rw [dnGet,if_neg (fun x=>h e (List.mem_cons_self ..) x.symm)]
  exact dn_none' fun e' he=>h e' (List.mem_cons_of_mem _ he)
theorem cm_same {o:List Int} {ns0 ns:List DN} {e:Nat} {y r:Int} {n:Nat} (ht:TabOk o ns0) (hl:Later o ns0 ns n) (hr:RefOk ns0 r) (hlv:placeZ o e<lvZ o ns0 r):CmR ns0 e y ns r r:=
 ⟨hl.ref hr,fun s=>by rw [hl.eval ht hr,setB_indep ht hr hlv]⟩
theorem cm_here {o:List Int} {ns0 ns ns':List DN} {e:Nat} {y r x:Int} {n m:Nat} (ht:TabOk o ns0) (hl:Later o ns0 ns n) (hl2:Later o ns ns' m) (h2:2≤r) (hr:RefOk ns0 r) (hy:RefOk ns0 y) (he:(ns0.getD (r-2).toNat dn0).v=e)
 (hx:RefOk ns' x) (hs:∀s,evalD ns' s x=if evalD ns s y then evalD ns s (ns0.getD (r-2).toNat dn0).hi else evalD ns s (ns0.getD (r-2).toNat dn0).lo):CmR ns0 e y ns' r x:=by
 refine⟨hx,fun s=> ?_⟩
 have hi:(r-2).toNat<ns0.length:=by unfold RefOk at hr;omega
 obtain⟨r1,r2⟩:=kids_ref ht hi
 have nd:=ht _ hi
 rw [hs s,hl.eval ht hy,hl.eval ht r1,hl.eval ht r2]
 have en:=eval_node ht hi (v:=(ns0.getD (r-2).toNat dn0).v) (lo:=(ns0.getD (r-2).toNat dn0).lo) (hi':=(ns0.getD (r-2).toNat dn0).hi) rfl (setB s e (evalD ns0 s y))
 rw [show(2:Int)+(((r-2).toNat:Nat):Int)=r from by omega] at en
 have hbit:(setB s e (evalD ns0 s y)).testBit (ns0.getD (r-2).toNat dn0).v.toNat=evalD ns0 s y:=by rw [he,setB_bit,if_pos om]
 rw [en,hbit,setB_indep ht r1 (by have:=nd.bl;rw [he] at this;exact this),setB_indep ht r2 (by have:=nd.bh;rw [he] at this;exact this)]
theorem cm_node {ns0 ns':List DN} {o:List Int} {e:Nat} {y r x c a b:Int} {ns:List DN} (ht:TabOk o ns0) (h2:2≤r) (hr:RefOk ns0 r) (he:(ns0.getD (r-2).toNat dn0).v≠e)
 (hc:∀s,evalD ns s c=s.testBit (ns0.getD (r-2).toNat dn0).v.toNat) (ha:CmR ns0 e y ns (ns0.getD (r-2).toNat dn0).hi a) (hb:CmR ns0 e y ns (ns0.getD (r-2).toNat dn0).lo b)
 (hx:RefOk ns' x) (hs:∀s,evalD ns' s x=if evalD ns s c then evalD ns s a else evalD ns s b):CmR ns0 e y ns' r x:=by
 refine⟨hx,fun s=> ?_⟩
 have hi:(r-2).toNat<ns0.length:=by unfold RefOk at hr;omega
 obtain⟨v0,_,_,_,_,_⟩:=(ht _ hi).nk
 have en:=eval_node ht hi (v:=(ns0.getD (r-2).toNat dn0).v) (lo:=(ns0.getD (r-2).toNat dn0).lo) (hi':=(ns0.getD (r-2).toNat dn0).hi) rfl (setB s e (evalD ns0 s y))
 rw [show(2:Int)+(((r-2).toNat:Nat):Int)=r from by omega] at en
 have hbit:(setB s e (evalD ns0 s y)).testBit (ns0.getD (r-2).toNat dn0).v.toNat=s.testBit (ns0.getD (r-2).toNat dn0).v.toNat:=by rw [setB_bit,if_neg om]
 rw [hs s,hc s,ha.2 s,hb.2 s,en,hbit]
def cntTo (f:Nat→Bool):Nat→Nat
 |0=>0
 |k+1=>cntTo f k+if f k then 1 else 0
def indQ (f:Nat→Bool) (s:Nat):Rat:=if f s then 1 else 0
theorem ind_eq {f g:Nat→Bool} {s t:Nat} (h:f s=g t):indQ f s=indQ g t:=by unfold indQ;rw [h]
def cntR (o:List Int) (ns:List DN) (r:Int):Nat:=cntTo (fun s=>evalD ns s r) (2^o.length)
theorem ref_indep {o:List Int} {ns:List DN} (ht:TabOk o ns) {r:Int} (hr:RefOk ns r) {v:Nat} (hl:placeZ o v<lvZ o ns r):Indep o.length v (indQ fun s=>evalD ns s r):=fun s t _ _ hb=>by
 exact ind_eq (tab_indep ht (s:=s) (t:=t) (P:=placeZ o v) (fun j hj hp=>hb j hj (fun e=>by subst e;omega)) r.toNat r (Nat.le_refl _) hr hl)
end Go.PN
namespace Go.PN
open Go.AI
def MonoF (n:Nat) (f:Nat→Bool):Prop:=∀i:Nat,i<n→∀s,f (setB s i false)=true→f (setB s i true)=true
end Go.PN

namespace Go.PN
open Go.AI
structure FrOk (f:FM):Prop where
 v0:0≤f.vars
 v24:f.vars≤24
 n128:f.nodes.length≤128
 kind:∀i,i<f.nodes.length→0≤(f.nodes.getD i fn0).kind∧(f.nodes.getD i fn0).kind≤5
 ari:∀i,i<f.nodes.length→arityB (f.nodes.getD i fn0).kind (f.nodes.getD i fn0).args.length=true
 arg:∀i,i<f.nodes.length→∀a∈(f.nodes.getD i fn0).args,0≤a∧a<f.vars+i
 kc:∀i,i<f.nodes.length→kcode (f.nodes.getD i fn0)=0
 t0:0≤f.top
 t1:f.top<f.vars+f.nodes.length
theorem fr_ok {f:FM} (h:fcode f=0):FrOk f:=by
 unfold fcode at h
 split at h
 ·cases h
 ·rename_i h1
  split at h
  ·cases h
  ·rename_i h2
   split at h
   ·rename_i h3;exact absurd h h3
   ·rename_i h3
    split at h
    ·rename_i h4
     have hz:∀j,j<f.nodes.length→fncode f j=0:=fun j hj=>ffirst_zero f.nodes.length 0 (by simpa using h3) j om om
     have hs:∀j,j<f.nodes.length→(0≤(f.nodes.getD j fn0).kind∧(f.nodes.getD j fn0).kind≤5)∧arityB (f.nodes.getD j fn0).kind (f.nodes.getD j fn0).args.length=true∧(f.nodes.getD j fn0).args.all (argOk f j)=true∧kcode (f.nodes.getD j fn0)=0:=fun j hj=>by
      have hc:=hz j hj
      unfold fncode at hc
      split at hc
      ·cases hc
      ·rename_i q1
       split at hc
       ·cases hc
       ·rename_i q2
        split at hc
        ·cases hc
        ·rename_i q3
         exact⟨by omega,by simpa using q2,by simpa using q3,hc⟩
     unfold fvalidB at h4
     simp only [Bool.and_eq_true,Bool.or_eq_true,decide_eq_true_eq] at h4
     refine⟨by omega,by omega,by omega,fun i hi=>(hs i hi).1,fun i hi=>(hs i hi).2.1,fun i hi a ha=> ?_,fun i hi=>(hs i hi).2.2.2,by omega,by omega⟩
     have:=(hs i hi).2.2.1
     rw [List.all_eq_true] at this
     have:=this a ha
     unfold argOk at this
     simpa using this
    ·cases h
theorem FrOk.len {f:FM} (h:FrOk f) {i:Nat} (hi:i<f.nodes.length):(f.nodes.getD i fn0).args.length≤16:=by
 have:=h.ari i hi
 generalize f.nodes.getD i fn0=x at*
 unfold arityB at this
 split at this
 ·have:=of_decide_eq_true this;omega
 ·split at this
  ·have:=of_decide_eq_true this;omega
  ·rw [Bool.and_eq_true,decide_eq_true_eq,decide_eq_true_eq] at this;omega
theorem FrOk.at {f:FM} (h:FrOk f) {i j:Nat} (hi:i<f.nodes.length) (hj:j<(f.nodes.getD i fn0).args.length):0≤(f.nodes.getD i fn0).args.getD j 0∧(f.nodes.getD i fn0).args.getD j 0<f.vars+i:=by
 refine h.arg i hi _ ?_
 generalize (f.nodes.getD i fn0).args=l at*
 rw [List.getD_eq_getElem?_getD,List.getElem?_eq_getElem hj]
 exact List.getElem_mem hj
def markTo (az:List Int) (ms:List Bool):Nat→List Bool
 |0=>ms
 |j+1=>(markTo az ms j).set (az.getD j 0).toNat true
theorem markTo_len (az:List Int) (ms:List Bool):∀j,(markTo az ms j).length=ms.length
 |0=>rfl
 |j+1=>by rw [markTo,List.length_set,markTo_len az ms j]
theorem markTo_keep {az:List Int} {ms:List Bool} {q:Nat} (h:ms.getD q false=true):∀j,(markTo az ms j).getD q false=true
 |0=>h
 |j+1=>by
  rw [markTo,List.getD_eq_getElem?_getD]
  have ih:=markTo_keep (az:=az) h j
  by_cases e:(az.getD j 0).toNat=q
  ·subst e
   by_cases hl:(az.getD j 0).toNat<(markTo az ms j).length
   ·rw [List.getElem?_set_self hl];rfl
   ·rw [List.getD_eq_getElem?_getD,List.getElem?_eq_none om] at ih;cases ih
  ·rw [List.getElem?_set_ne e,←List.getD_eq_getElem?_getD];exact ih
theorem markTo_out {az:List Int} {ms:List Bool} {q:Nat} (h:∀j,j<az.length→(az.getD j 0).toNat≠q):∀j,j≤az.length→(markTo az ms j).getD q false=ms.getD q false
 |0,_=>rfl
 |j+1,hj=>by
  rw [markTo,List.getD_eq_getElem?_getD,List.getElem?_set_ne (h j om),←List.getD_eq_getElem?_getD,markTo_out h j om]
theorem markTo_in {az:List Int} {ms:List Bool}:∀{j q:Nat},q<j→(az.getD q 0).toNat<ms.length→(markTo az ms j).getD (az.getD q 0).toNat false=true
 |j+1,q,h,hl=>by
  by_cases e:q=j
  ·subst e
   rw [markTo,List.getD_eq_getElem?_getD,List.getElem?_set_self (by rw [markTo_len];exact hl)];rfl
  ·have ih:=markTo_in (az:=az) (ms:=ms) (show q<j by omega) hl
   rw [markTo,List.getD_eq_getElem?_getD]
   by_cases e2:(az.getD j 0).toNat=(az.getD q 0).toNat
   ·rw [e2,List.getElem?_set_self (by rw [markTo_len];exact hl)];rfl
   ·rw [List.getElem?_set_ne e2,←List.getD_eq_getElem?_getD];exact ih
def belTo (f:FM):Nat→List Bool
 |0=>(List.replicate (f.vars.toNat+f.nodes.length) false).set f.top.toNat true
 |j+1=>if(belTo f j).getD (f.vars.toNat+(f.nodes.length-1-j)) false then markTo (f.nodes.getD (f.nodes.length-1-j) fn0).args (belTo f j) (f.nodes.getD (f.nodes.length-1-j) fn0).args.length else belTo f j
theorem belTo_len (f:FM):∀j,(belTo f j).length=f.vars.toNat+f.nodes.length
 |0=>by simp [belTo]
 |j+1=>by
  rw [belTo]
  split
  ·rw [markTo_len,belTo_len f j]
  ·exact belTo_len f j
abbrev belL (f:FM):List Bool:=belTo f f.nodes.length
theorem belTo_keep {f:FM} {q j:Nat} (h:(belTo f j).getD q false=true):(belTo f (j+1)).getD q false=true:=by
 rw [belTo]
 split
 ·exact markTo_keep h _
 ·exact h
theorem belTo_out {f:FM} (ok:FrOk f) {j i:Nat} (hj:j<f.nodes.length) (hi:f.nodes.length-1-j≤i):(belTo f (j+1)).getD (f.vars.toNat+i) false=(belTo f j).getD (f.vars.toNat+i) false:=by
 rw [belTo]
 split
 ·refine markTo_out (fun q hq=> ?_) _ (Nat.le_refl _)
  have:=ok.at (i:=f.nodes.length-1-j) om hq
  have:=ok.v0
  omega
 ·rfl
theorem bel_closed {f:FM} (ok:FrOk f):∀j,j≤f.nodes.length→∀i,f.nodes.length≤i+j→i<f.nodes.length→(belTo f j).getD (f.vars.toNat+i) false=true→∀q,q<(f.nodes.getD i fn0).args.length→(belTo f j).getD ((f.nodes.getD i fn0).args.getD q 0).toNat false=true
 |0,_,i,h1,h2,_,_,_=>by omega
 |j+1,hj,i,h1,h2,hm,q,hq=>by
  rw [belTo_out ok om om] at hm
  by_cases e:f.nodes.length-1-j=i
  ·rw [belTo,e,if_pos hm]
   refine markTo_in hq ?_
   have:=ok.at h2 hq
   have:=ok.v0
   rw [belTo_len]
   omega
  ·exact belTo_keep (bel_closed ok j om i om h2 hm q hq)
theorem bel_top {f:FM} (ok:FrOk f):∀j,(belTo f j).getD f.top.toNat false=true
 |0=>by
  have:=ok.t0
  have:=ok.t1
  have:=ok.v0
  rw [belTo,List.getD_eq_getElem?_getD,List.getElem?_set_self (by simp;omega)];rfl
 |j+1=>belTo_keep (bel_top ok j)
def szTo (f:FM):Nat→Nat
 |0=>0
 |k+1=>szTo f k+if(belL f).getD (f.vars.toNat+k) false then 1 else 0
def arTo (f:FM):Nat→Nat
 |0=>0
 |k+1=>arTo f k+if(belL f).getD (f.vars.toNat+k) false then(f.nodes.getD k fn0).args.length else 0
theorem szTo_le (f:FM):∀k,szTo f k≤k
 |0=>Nat.le_refl _
 |k+1=>by have:=szTo_le f k;rw [szTo];split<;>omega
theorem arTo_le {f:FM} (ok:FrOk f):∀k,k≤f.nodes.length→arTo f k≤16*k
 |0,_=>Nat.le_refl _
 |k+1,h=>by
  have:=arTo_le ok k om
  have:=ok.len (i:=k) om
  rw [arTo]
  split<;>omega
end Go.PN
namespace Go.Proofs.YtfcnbgmclfkfcaaGreat
open Go.AI Go.PN
attribute [local irreducible] aw Fa Fh DrK
set_option maxRecDepth 100000 in
set_option maxHeartbeats 3200000 in
theorem below_fa (f:FM) (ok:FrOk f):Fa Tryz.prog 124 [.agg (fmc false f)] (.c (bs true (belL f))):=by
 have v0:=ok.v0
 have v24:=ok.v24
 have n128:=ok.n128
 have t0:=ok.t0
 have t1:=ok.t1
 refine fa_of_body Tryz.func124 rfl rfl (by simp [Tryz.ntmps124]) fun C hC=> ?_
 simp only [initS,Nat.reduceAdd]
 refine xG ?_
 refine xB fun g1 hn_g1=>?_
 refine yG hn_g1 ?_
 refine aw_make (n:=f.vars.toNat+f.nodes.length) (c:=f.vars.toNat+f.nodes.length) (size:=1) (z:=[.bool false]) rfl rfl rfl (zE hn_g1) (zE hn_g1) rfl om (zE hn_g1) (zE hn_g1) om om om om om fun g3 hn_g3=> ?_
 simp only [Nat.mul_one]
 rw [make_bs]
 replace hn_g3:=Heap.ne_of hn_g3
 dsimp only [Heap.ne] at hn_g3
 have J1:=oj hn_g1 hn_g3
 refine ySGWS J1 ?_
 rw [updF_bs (i:=f.top.toNat) (zs:=List.replicate (f.vars.toNat+f.nodes.length) false) (v:=true) (by rw [List.length_replicate];omega)]
 refine yG J1 ?_
 have hN:((f.vars.toNat+f.nodes.length:Nat):Int)=f.vars+f.nodes.length:=by omega
 refine aw_lp (fun j:Nat=>[(1,.c (.optr g1 0)),(3,.c (.osl g3 1 0 (f.vars.toNat+f.nodes.length))),(4,.c (.int .i64 ((f.nodes.length:Int)-1-j)))]) (fun j=>[(g3,.cells 4 (f.vars.toNat+f.nodes.length) (bsF (belTo f j))),(g1,.cells 24 3 (ofL (fmc false f)))]) (fun j=>j≤f.nodes.length) (fun j=>f.nodes.length-j) 0 (by refine yS J1 ?_;simp) zZ (Nat.zero_le _) ?_
 rintro j hj
 have hbl:=belTo_len f j
 refine yG J1 ?_
 refine yF J1 (fun h1=>?_) fun h1=>?_
 ·have h1':j<f.nodes.length:=dT h1
  obtain⟨i,hi⟩:∃i:Nat,i=f.nodes.length-1-j:=⟨_,rfl⟩
  have hij:(f.nodes.length:Int)-1-(j:Int)=(i:Int):=by omega
  have hst:belTo f (j+1)=if(belTo f j).getD (f.vars.toNat+i) false then markTo (f.nodes.getD i fn0).args (belTo f j) (f.nodes.getD i fn0).args.length else belTo f j:=by rw [belTo,hi]
  have hil:i<f.nodes.length:=by omega
  have hidx:(f.vars+(i:Int)).toNat=f.vars.toNat+i:=by omega
  have hnx:(i:Int)-1=(f.nodes.length:Int)-1-((j+1:Nat):Int):=by omega
  have hln:=ok.len hil
  have hat:=fun q hq=>ok.at (j:=q) hil hq
  rw [hij]
  have J2:=oj hn_g1 (oj hn_g3 hidx)
  refine yG J2 ?_
  refine yF J2 (fun hm=>?_) fun hm=>?_
  ·rw [if_pos hm] at hst
   generalize hx:f.nodes.getD i fn0=x at*
   have J3:=oj hn_g1 (oj hn_g3 (oj hidx hx))
   refine yG J3 ?_
   refine aw_lp (fun q:Nat=>[(1,.c (.optr g1 0)),(3,.c (.osl g3 1 0 (f.vars.toNat+f.nodes.length))),(4,.c (.int .i64 (i:Int))),(38,.c (is true x.args)),(39,.c (.int .i64 x.args.length)),(40,.c (.int .i64 q))]) (fun q=>[(g3,.cells 4 (f.vars.toNat+f.nodes.length) (bsF (markTo x.args (belTo f j) q))),(g1,.cells 24 3 (ofL (fmc false f)))]) (fun q=>q≤x.args.length) (fun q=>x.args.length-q) 0 (zB J3) zZ (Nat.zero_le _) ?_
   rintro q hq
   have hml:=markTo_len x.args (belTo f j) q
   refine yG J3 ?_
   refine yF J3 (fun h2=>?_) fun h2=>?_
   ·have h2':q<x.args.length:=dT h2
    obtain⟨a0,a1⟩:=hat q h2'
    refine yGWS J3 ?_
    rw [updF_bs om]
    refine yG J3 ?_
    exact aw_stop ⟨q+1,by omega,(zB J3),zZ,by omega⟩
   ·have h2':q=x.args.length:=dF h2
    subst h2'
    refine yG J3 ?_
    rw [←hst]
    exact aw_stop ⟨j+1,by omega,by rw [←hnx];exact(zB J3),zZ,by omega⟩
  ·have hm':(belTo f j).getD (f.vars.toNat+i) false=false:=hm
   rw [if_neg (by rw [hm'];simp)] at hst
   refine yG J2 ?_
   rw [←hst]
   exact aw_stop ⟨j+1,by omega,by rw [←hnx];exact(zB J2),zZ,by omega⟩
 ·have h1':j=f.nodes.length:=dF h1
  subst h1'
  refine yGT hC J1 ?_
  exact .one (.c (ler_oslbs (zE J1) hbl.symm))
end Go.Proofs.YtfcnbgmclfkfcaaGreat
