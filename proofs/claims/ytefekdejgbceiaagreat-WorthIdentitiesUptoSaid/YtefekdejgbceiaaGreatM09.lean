/- Parts of one proof, laid by a program. -/
import Derived.Test.YtefekdejgbceiaaGreatM00
import Derived.Test.YtefekdejgbceiaaGreatM08
set_option linter.unusedSimpArgs false
set_option linter.unusedVariables false
set_option maxRecDepth 100000
set_option maxHeartbeats 12800000
namespace Go.PN
open Go.AI
noncomputable def valF (f:FM) (s:Nat) (a:Int):Bool:=ofB f (fvTo f s f.nodes.length) s a
def cntV (v:Int→Bool) (az:List Int):Nat:=(az.filter v).length
noncomputable def nodeV (v:Int→Bool) (x:FN):Bool:=
 if x.kind==0 then x.k==1 else if x.kind==1 then((cntV v x.args:Nat):Int)==0 else if x.kind==2 then((cntV v x.args:Nat):Int)==(x.args.length:Int)
 else if x.kind==3 then decide (((cntV v x.args:Nat):Int)>0) else if x.kind==4 then decide (((cntV v x.args:Nat):Int)≥x.k) else remZ ((cntV v x.args:Nat):Int) 2==1
theorem cntV_congr {v w:Int→Bool}:∀{az:List Int},(∀a∈az,v a=w a)→cntV v az=cntV w az
 |[],_=>rfl
 |a::az,h=>by
  have ih:=cntV_congr (az:=az) fun b hb=>h b (List.mem_cons_of_mem _ hb)
  unfold cntV at ih⊢
  rw [List.filter_cons,List.filter_cons,h a (List.mem_cons_self ..)]
  split
  ·rw [List.length_cons,List.length_cons,ih]
  ·exact ih
theorem cntV_map {v w:Int→Bool} {g:Int→Int}:∀{az:List Int},(∀a∈az,v (g a)=w a)→cntV v (az.map g)=cntV w az
 |[],_=>rfl
 |a::az,h=>by
  have ih:=cntV_map (az:=az) fun b hb=>h b (List.mem_cons_of_mem _ hb)
  unfold cntV at ih⊢
  rw [List.map_cons,List.filter_cons,List.filter_cons,h a (List.mem_cons_self ..)]
  split
  ·rw [List.length_cons,List.length_cons,ih]
  ·exact ih
theorem nodeV_congr {v w:Int→Bool} {x:FN} (h:∀a∈x.args,v a=w a):nodeV v x=nodeV w x:=by
 unfold nodeV
 rw [cntV_congr h]
theorem fvTo_get {f:FM} {s i:Nat}:∀{k:Nat},i<k→k≤f.nodes.length→(fvTo f s k).getD i false=nodeB f (fvTo f s i) s (f.nodes.getD i fn0)
 |k+1,h,hk=>by
  rw [fvTo,List.getD_eq_getElem?_getD]
  by_cases e:i=k
  ·subst e;rw [List.getElem?_set_self (by rw [fvTo_len];omega)];rfl
  ·rw [List.getElem?_set_ne (fun x=>e x.symm),←List.getD_eq_getElem?_getD]
   exact fvTo_get om om
theorem val_node {f:FM} (ok:FrOk f) {s i:Nat} (hi:i<f.nodes.length):valF f s (f.vars+i)=nodeV (valF f s) (f.nodes.getD i fn0):=by
 have v0:=ok.v0
 unfold valF
 rw [show ofB f (fvTo f s f.nodes.length) s (f.vars+i)=(fvTo f s f.nodes.length).getD i false from by
  unfold ofB;rw [if_neg om,show(f.vars+(i:Int)-f.vars).toNat=i from by omega]]
 rw [fvTo_get hi (Nat.le_refl _)]
 show nodeV (ofB f (fvTo f s i) s) _=_
 refine nodeV_congr fun a ha=> ?_
 obtain⟨a0,a1⟩:=ok.arg i hi a ha
 unfold ofB
 split
 ·rfl
 ·rw [fvTo_get (i:=(a-f.vars).toNat) om om,fvTo_get (i:=(a-f.vars).toNat) om (Nat.le_refl _)]
theorem val_event {f:FM} {s:Nat} {a:Int} (h:a<f.vars):valF f s a=s.testBit a.toNat:=by unfold valF ofB;rw [if_pos h]
def toR (f:FM) (a:Int):Int:=if a<f.vars then a else f.vars+szTo f (a-f.vars).toNat
def trTo (f:FM):Nat→List FN
 |0=>[]
 |k+1=>if(belL f).getD (f.vars.toNat+k) false then trTo f k++[⟨(f.nodes.getD k fn0).kind,(f.nodes.getD k fn0).k,(f.nodes.getD k fn0).args.map (toR f)⟩] else trTo f k
def trimF (f:FM):FM:=⟨f.vars,trTo f f.nodes.length,toR f f.top⟩
theorem trTo_len (f:FM):∀k,(trTo f k).length=szTo f k
 |0=>rfl
 |k+1=>by
  rw [trTo,szTo]
  split
  ·rw [List.length_append,trTo_len f k];rfl
  ·rw [trTo_len f k];rfl
theorem sz_mono (f:FM):∀{a b:Nat},a≤b→szTo f a≤szTo f b
 |a,0,h=>by rw [show a=0 from by omega];exact Nat.le_refl _
 |a,b+1,h=>by
  by_cases e:a=b+1
  ·rw [e];exact Nat.le_refl _
  ·have:=sz_mono f (show a≤b by omega)
   rw [szTo];omega
theorem sz_lt {f:FM} {i k:Nat} (h:i<k) (hm:(belL f).getD (f.vars.toNat+i) false=true):szTo f i<szTo f k:=by
 have h1:szTo f (i+1)=szTo f i+1:=by rw [szTo,if_pos hm]
 have:=sz_mono f (show i+1≤k from h)
 omega
theorem trTo_get {f:FM} {i:Nat} (hm:(belL f).getD (f.vars.toNat+i) false=true):∀{k:Nat},i<k→(trTo f k).getD (szTo f i) fn0=⟨(f.nodes.getD i fn0).kind,(f.nodes.getD i fn0).k,(f.nodes.getD i fn0).args.map (toR f)⟩
 |k+1,h=>by
  rw [trTo]
  by_cases e:i=k
  ·subst e
   rw [if_pos hm,List.getD_eq_getElem?_getD,List.getElem?_append_right (by rw [trTo_len];exact Nat.le_refl _),trTo_len,Nat.sub_self];rfl
  ·have hlt:=sz_lt (show i<k by omega) hm
   split
   ·rw [List.getD_eq_getElem?_getD,List.getElem?_append_left (by rw [trTo_len];exact hlt),←List.getD_eq_getElem?_getD]
    exact trTo_get hm om
   ·exact trTo_get hm om
theorem trTo_from {f:FM}:∀{k q:Nat},q<szTo f k→∃i,i<k∧(belL f).getD (f.vars.toNat+i) false=true∧szTo f i=q
 |k+1,q,h=>by
  rw [szTo] at h
  split at h
  ·rename_i hm
   by_cases e:q=szTo f k
   ·exact⟨k,by omega,hm,e.symm⟩
   ·obtain⟨i,h1,h2,h3⟩:=trTo_from (show q<szTo f k by omega)
    exact⟨i,by omega,h2,h3⟩
  ·obtain⟨i,h1,h2,h3⟩:=trTo_from (show q<szTo f k by omega)
   exact⟨i,by omega,h2,h3⟩
theorem bel_arg {f:FM} (ok:FrOk f) {i:Nat} (hi:i<f.nodes.length) (hm:(belL f).getD (f.vars.toNat+i) false=true) {a:Int} (ha:a∈(f.nodes.getD i fn0).args):(belL f).getD a.toNat false=true:=by
 obtain⟨q,hq,rfl⟩:=List.mem_iff_getElem.1 ha
 have:=bel_closed ok f.nodes.length (Nat.le_refl _) i om hi hm q hq
 rwa [show(f.nodes.getD i fn0).args.getD q 0=(f.nodes.getD i fn0).args[q] from getDZ hq] at this
theorem toR_lt {f:FM} (ok:FrOk f) {a:Int} {k:Nat} (h0:0≤a) (h1:a<f.vars+k) (hm:(belL f).getD a.toNat false=true):0≤toR f a∧toR f a<f.vars+szTo f k:=by
 have v0:=ok.v0
 unfold toR
 split
 ·omega
 ·have hm':(belL f).getD (f.vars.toNat+(a-f.vars).toNat) false=true:=by rw [show f.vars.toNat+(a-f.vars).toNat=a.toNat from by omega];exact hm
  have:=sz_lt (f:=f) (i:=(a-f.vars).toNat) (k:=k) om hm'
  omega
theorem trim_ok {f:FM} (ok:FrOk f):FrOk (trimF f):=by
 have hl:(trimF f).nodes.length=szTo f f.nodes.length:=trTo_len f _
 have hget:∀q,q<(trimF f).nodes.length→∃i,i<f.nodes.length∧(belL f).getD (f.vars.toNat+i) false=true∧szTo f i=q∧(trimF f).nodes.getD q fn0=⟨(f.nodes.getD i fn0).kind,(f.nodes.getD i fn0).k,(f.nodes.getD i fn0).args.map (toR f)⟩:=fun q hq=>by
  obtain⟨i,h1,h2,h3⟩:=trTo_from (f:=f) (k:=f.nodes.length) (q:=q) om
  exact⟨i,h1,h2,h3,by rw [←h3];exact trTo_get h2 h1⟩
 have hsz:=szTo_le f f.nodes.length
 have n128:=ok.n128
 have tl:=toR_lt ok ok.t0 ok.t1 (bel_top ok _)
 refine⟨ok.v0,ok.v24,by omega,fun q hq=> ?_,fun q hq=> ?_,fun q hq a ha=> ?_,fun q hq=> ?_,tl.1,by rw [hl];exact tl.2⟩
 ·obtain⟨i,h1,h2,h3,h4⟩:=hget q hq
  rw [h4];exact ok.kind i h1
 ·obtain⟨i,h1,h2,h3,h4⟩:=hget q hq
  rw [h4]
  show arityB _ (List.map (toR f) _).length=true
  rw [List.length_map];exact ok.ari i h1
 ·obtain⟨i,h1,h2,h3,h4⟩:=hget q hq
  rw [h4] at ha
  obtain⟨b,hb,rfl⟩:=List.mem_map.1 ha
  obtain⟨b0,b1⟩:=ok.arg i h1 b hb
  have:=toR_lt ok b0 b1 (bel_arg ok h1 h2 hb)
  rw [h3] at this
  exact this
 ·obtain⟨i,h1,h2,h3,h4⟩:=hget q hq
  rw [h4]
  have:=ok.kc i h1
  unfold kcode at this⊢
  simp only [List.length_map]
  exact this
theorem trim_val {f:FM} (ok:FrOk f) (s:Nat):∀(n:Nat) (a:Int),a.toNat<n→0≤a→a<f.vars+f.nodes.length→(belL f).getD a.toNat false=true→valF (trimF f) s (toR f a)=valF f s a:=by
 have v0:=ok.v0
 intro n
 induction n with
 |zero=>intro a hn;omega
 |succ n ih=>
  intro a hn h0 h1 hm
  by_cases hv:a<f.vars
  ·rw [show toR f a=a from by unfold toR;rw [if_pos hv],val_event hv,val_event (show a<(trimF f).vars from hv)]
  ·obtain⟨i,hi⟩:∃i:Nat,a=f.vars+i:=⟨(a-f.vars).toNat,by omega⟩
   subst hi
   have hi:i<f.nodes.length:=by omega
   have hm':(belL f).getD (f.vars.toNat+i) false=true:=by rw [show f.vars.toNat+i=(f.vars+(i:Int)).toNat from by omega];exact hm
   have hlt:=sz_lt (k:=f.nodes.length) hi hm'
   have hto:toR f (f.vars+i)=(trimF f).vars+(szTo f i:Nat):=by
    unfold toR
    rw [if_neg om,show(f.vars+(i:Int)-f.vars).toNat=i from by omega];rfl
   rw [hto,val_node (trim_ok ok) (i:=szTo f i) (by show szTo f i<(trTo f f.nodes.length).length;rw [trTo_len];exact hlt),val_node ok hi]
   rw [show(trimF f).nodes.getD (szTo f i) fn0=⟨(f.nodes.getD i fn0).kind,(f.nodes.getD i fn0).k,(f.nodes.getD i fn0).args.map (toR f)⟩ from trTo_get hm' hi]
   have hc:cntV (valF (trimF f) s) ((f.nodes.getD i fn0).args.map (toR f))=cntV (valF f s) (f.nodes.getD i fn0).args:=cntV_map fun b hb=>by
    obtain⟨b0,b1⟩:=ok.arg i hi b hb
    exact ih b om b0 om (bel_arg ok hi hm' hb)
   unfold nodeV
   simp only [hc,List.length_map]
theorem trim_top {f:FM} (ok:FrOk f) (s:Nat):valF (trimF f) s (trimF f).top=valF f s f.top:=trim_val ok s (f.top.toNat+1) f.top om ok.t0 ok.t1 (bel_top ok _)
theorem sz_zero {f:FM} (ok:FrOk f) (h:szTo f f.nodes.length=0):f.top<f.vars:=by
 refine Classical.byContradiction fun hc=> ?_
 have t1:=ok.t1
 have v0:=ok.v0
 have hm:=bel_top ok f.nodes.length
 have hm':(belL f).getD (f.vars.toNat+(f.top-f.vars).toNat) false=true:=by rw [show f.vars.toNat+(f.top-f.vars).toNat=f.top.toNat from by omega];exact hm
 have:=sz_lt (f:=f) (i:=(f.top-f.vars).toNat) (k:=f.nodes.length) om hm'
 omega
end Go.PN
namespace Go.Proofs.YtefekdejgbceiaaGreat
open Go.AI Go.PN
attribute [local irreducible] aw Fa Fh DrK
theorem fsize_fa (f:FM) (hn:f.nodes.length≤1099511627776) (ha:ArgsOk f) (hc:fcode f=0):Fa Tryz.prog 27 [.agg (fmc false f)] (.tup [.c (.int .i64 (szTo f f.nodes.length)),.c (.int .i64 (arTo f f.nodes.length)),.c .nilI]):=by
 have ok:=fr_ok hc
 have v0:=ok.v0
 have v24:=ok.v24
 have n128:=ok.n128
 have t0:=ok.t0
 have t1:=ok.t1
 have z:=ieq_t hc
 have hbl:(belL f).length=f.vars.toNat+f.nodes.length:=belTo_len f f.nodes.length
 refine fa_of_body Tryz.func27 rfl rfl (by simp [Tryz.ntmps27]) fun C hC=> ?_
 simp only [initS,Nat.reduceAdd]
 refine yG z ?_
 refine yB z fun g1 hn_g1=>?_
 have J1:=oj z hn_g1
 refine yG J1 ?_
 refine yC J1 (fcheck_fa f hn ha ?_ ?_) ?_
 ·omega
 ·omega
 refine yGNG J1 ?_
 refine aw_dr 7 ty_mixed (by kernel_rfl) ?_
 refine yG J1 ?_
 refine yD J1 (below_fa f ok) ?_
 refine yG J1 ?_
 rw [show(belL f).length-f.vars.toNat=f.nodes.length from by omega]
 refine aw_lp (fun k:Nat=>[(1,.c (.optr g1 0)),(2,.c (.int .i64 (szTo f k))),(3,.c (.int .i64 (arTo f k))),(17,.c (.row true 1 f.nodes.length fun j=>.bool ((belL f).getD (f.vars.toNat+j) false))),(18,.c (.int .i64 f.nodes.length)),(19,.c (.int .i64 k))]) (fun _=>[(g1,.cells 24 3 (ofL (fmc false f)))]) (fun k=>k≤f.nodes.length) (fun k=>f.nodes.length-k) 0 (zB J1) zZ (Nat.zero_le _) ?_
 rintro k hk
 have hsz:=szTo_le f k
 have har:=arTo_le ok k hk
 refine yG J1 ?_
 refine yF J1 (fun h1=>?_) fun h1=>?_
 ·have h1':k<f.nodes.length:=dT h1
  have hln:=ok.len h1'
  have hs1:szTo f (k+1)=szTo f k+if(belL f).getD (f.vars.toNat+k) false then 1 else 0:=rfl
  have ha1:arTo f (k+1)=arTo f k+if(belL f).getD (f.vars.toNat+k) false then(f.nodes.getD k fn0).args.length else 0:=rfl
  refine yG J1 ?_
  refine yF J1 (fun hm=>?_) fun hm=>?_
  ·rw [if_pos hm] at hs1 ha1
   refine yG J1 ?_
   exact aw_stop ⟨k+1,by omega,by rw [hs1,ha1];exact(zB J1),zZ,by omega⟩
  ·have hm':(belL f).getD (f.vars.toNat+k) false=false:=hm
   rw [if_neg (by rw [hm'];simp)] at hs1 ha1
   refine yG J1 ?_
   exact aw_stop ⟨k+1,by omega,by rw [hs1,ha1];exact(zB J1),zZ,by omega⟩
 ·have h1':k=f.nodes.length:=dF h1
  subst h1'
  refine yGT hC J1 ?_
  exact .tup ⟨.c (.int _ _),.c (.int _ _),.c .nilI,trivial⟩
end Go.Proofs.YtefekdejgbceiaaGreat
namespace Go.PN
open Go.AI
def Sub (s t:Nat):Prop:=∀j,s.testBit j=true→t.testBit j=true
def cohTo (f:FM):Nat→Bool
 |0=>true
 |k+1=>cohTo f k&& !((belL f).getD (f.vars.toNat+k) false&&(decide ((f.nodes.getD k fn0).kind=1)||decide ((f.nodes.getD k fn0).kind=5)))
theorem cohTo_at {f:FM} {i:Nat}:∀{k:Nat},cohTo f k=true→i<k→(belL f).getD (f.vars.toNat+i) false=true→(f.nodes.getD i fn0).kind≠1∧(f.nodes.getD i fn0).kind≠5
 |0,_,h,_=>by omega
 |k+1,hc,h,hb=>by
  rw [cohTo,Bool.and_eq_true] at hc
  by_cases e:i=k
  ·subst e
   have:=hc.2
   rw [hb] at this
   simpa using this
  ·exact cohTo_at hc.1 om hb
theorem coh_false {f:FM} {k:Nat} (h:cohTo f k=false):∀n,k≤n→cohTo f n=false
 |0,hn=>by rw [show k=0 from by omega] at h;exact h
 |n+1,hn=>by
  by_cases e:k=n+1
  ·subst e;exact h
  ·rw [cohTo,coh_false h n om];rfl
theorem cntV_mono {v w:Int→Bool}:∀{az:List Int},(∀a∈az,v a=true→w a=true)→cntV v az≤cntV w az
 |[],_=>Nat.le_refl _
 |a::az,h=>by
  have ih:=cntV_mono (az:=az) fun b hb=>h b (List.mem_cons_of_mem _ hb)
  have ha:=h a (List.mem_cons_self ..)
  unfold cntV at ih⊢
  rw [List.filter_cons,List.filter_cons]
  cases hv:v a
  ·cases hw:w a<;>simp<;>omega
  ·rw [ha hv];simp;omega
theorem nodeV_mono {v w:Int→Bool} {x:FN} (h1:x.kind≠1) (h5:x.kind≠5) (k0:0≤x.kind) (k5:x.kind≤5) (h:∀a∈x.args,v a=true→w a=true) (hv:nodeV v x=true):nodeV w x=true:=by
 have hm:=cntV_mono (v:=v) (w:=w) h
 have hl:cntV w x.args≤x.args.length:=List.length_filter_le _ _
 unfold nodeV at hv⊢
 have hk:x.kind=0∨x.kind=2∨x.kind=3∨x.kind=4:=by omega
 rcases hk with hk|hk|hk|hk
 ·rw [hk] at hv⊢
  exact hv
 ·rw [hk] at hv⊢
  have hv':(((cntV v x.args:Nat):Int)==(x.args.length:Int))=true:=hv
  have:=eq_of_beq hv'
  show(((cntV w x.args:Nat):Int)==(x.args.length:Int))=true
  exact beq_iff_eq.2 om
 ·rw [hk] at hv⊢
  have hv':decide (((cntV v x.args:Nat):Int)>0)=true:=hv
  have:=of_decide_eq_true hv'
  show decide (((cntV w x.args:Nat):Int)>0)=true
  exact decide_eq_true om
 ·rw [hk] at hv⊢
  have hv':decide (((cntV v x.args:Nat):Int)≥x.k)=true:=hv
  have:=of_decide_eq_true hv'
  show decide (((cntV w x.args:Nat):Int)≥x.k)=true
  exact decide_eq_true om
theorem val_mono {f:FM} (ok:FrOk f) (hc:cohTo f f.nodes.length=true) {s t:Nat} (hst:Sub s t):∀(n:Nat) (a:Int),a.toNat<n→0≤a→a<f.vars+f.nodes.length→(belL f).getD a.toNat false=true→valF f s a=true→valF f t a=true:=by
 have v0:=ok.v0
 intro n
 induction n with
 |zero=>intro a hn;omega
 |succ n ih=>
  intro a hn h0 h1 hm
  by_cases hv:a<f.vars
  ·rw [val_event hv,val_event hv]
   exact hst _
  ·obtain⟨i,hi⟩:∃i:Nat,a=f.vars+i:=⟨(a-f.vars).toNat,by omega⟩
   subst hi
   have hi:i<f.nodes.length:=by omega
   have hm':(belL f).getD (f.vars.toNat+i) false=true:=by rw [show f.vars.toNat+i=(f.vars+(i:Int)).toNat from by omega];exact hm
   rw [val_node ok hi,val_node ok hi]
   obtain⟨n1,n5⟩:=cohTo_at hc hi hm'
   obtain⟨k0,k5⟩:=ok.kind i hi
   refine nodeV_mono n1 n5 k0 k5 fun b hb=> ?_
   obtain⟨b0,b1⟩:=ok.arg i hi b hb
   exact ih b om b0 om (bel_arg ok hi hm' hb)
theorem coh_mono {f:FM} (ok:FrOk f) (hc:cohTo f f.nodes.length=true) {s t:Nat} (hst:Sub s t) (h:valF f s f.top=true):valF f t f.top=true:=
 val_mono ok hc hst (f.top.toNat+1) f.top om ok.t0 ok.t1 (bel_top ok _) h
end Go.PN
namespace Go.AI
@[go_sem ↓] theorem updF_5_2 (a b c d e x:CV):updF (ofL [a,b,c,d,e]) 2 [x]=ofL [a,b,x,d,e]:=updF_at [a,b,c,d,e] 2 x (by simp)
end Go.AI
namespace Go.PN
open Go.AI
def uqTo:List DN→Nat→List (DK×Value)
 |[],_=>[]
 |x::ns,i=>(dk x,.int .i64 (2+(i:Int)))::uqTo ns (i+1)
theorem uq_get (x:DN):∀(ns:List DN) (i:Nat),kvGet (dk x) (uqTo ns i)=(findN x ns i).map fun(j:Nat)=>Value.int .i64 (2+(j:Int))
 |[],_=>rfl
 |y::ns,i=>by
  have ih:=uq_get x ns (i+1)
  show(if dk x=dk y then some (Value.int .i64 (2+(i:Int))) else kvGet (dk x) (uqTo ns (i+1)))=_
  rw [findN]
  by_cases h:y=x
  ·subst h;simp
  ·rw [if_neg (fun e=>h (dk_inj.1 e).symm),if_neg h,ih]
theorem uq_push (x:DN):∀(ns:List DN) (i:Nat),uqTo (ns++[x]) i=uqTo ns i++[(dk x,.int .i64 (2+((i+ns.length:Nat):Int)))]
 |[],i=>by simp [uqTo]
 |y::ns,i=>by
  show _::uqTo (ns++[x]) (i+1)=_::(uqTo ns (i+1)++_)
  rw [uq_push x ns (i+1)]
  simp only [List.length_cons]
  congr 5
  omega
def mmL (mm:Mem3):List ((Int×Int×Int)×Value):=mm.map fun e=>(e.1,.int .i64 e.2)
def memGet (k:Int×Int×Int):Mem3→Option Int
 |[]=>none
 |e::mm=>if k=e.1 then some e.2 else memGet k mm
theorem mm_get (k:Int×Int×Int):∀mm:Mem3,kvGet k (mmL mm)=(memGet k mm).map (Value.int .i64)
 |[]=>rfl
 |e::mm=>by
  show(if k=e.1 then some (Value.int .i64 e.2) else kvGet k (mmL mm))=_
  rw [memGet,mm_get k mm]
  split<;>rfl
theorem mem_mem {k:Int×Int×Int} {r:Int}:∀{mm:Mem3},memGet k mm=some r→(k,r)∈mm
 |[],h=>by simp [memGet] at h
 |e::mm,h=>by
  rw [memGet] at h
  split at h
  ·rename_i hk
   injection h with h
   subst hk h
   exact List.mem_cons_self ..
  ·exact List.mem_cons_of_mem _ (mem_mem h)
theorem mem_none {k:Int×Int×Int}:∀{mm:Mem3},memGet k mm=none→∀e∈mm,e.1≠k
 |e::mm,h,e',he=>by
  rw [memGet] at h
  split at h
  ·cases h
  ·rename_i hk
   rcases List.mem_cons.1 he with rfl|he
   ·exact fun x=>hk x.symm
   ·exact mem_none h e' he
theorem mem_none' {k:Int×Int×Int}:∀{mm:Mem3},(∀e∈mm,e.1≠k)→memGet k mm=none
 |[],_=>rfl
 |e::mm,h=>by
  rw [memGet,if_neg (fun x=>h e (List.mem_cons_self ..) x.symm)]
  exact mem_none' fun e' he=>h e' (List.mem_cons_of_mem _ he)
def TH (T DT:TypeId) (gT gU gM:Nat) (og:Option Nat) (o pl:List Int) (ns:List DN) (mm:Mem3):Heap:=
 [(gT,.cells T 5 (ofL [is true o,is true pl,gs og 3 ns.length,.raw (.map (some gU)),.raw (.map (some gM))])),(gU,.gen (MapI dkV (uqTo ns 0))),(gM,.gen (MapI key3 (mmL mm)))]++gh og DT (ns.length*3) (dnsF ns)
end Go.PN
namespace Go.Proofs.YtefekdejgbceiaaGreat
open Go.AI Go.PN
attribute [local irreducible] aw Fa Fh DrK
theorem ty_iz:tZ1 Tryz.prog 3=some (.int .i64 0):=by kernel_rfl
abbrev THp (gT gU gM:Nat) (og:Option Nat) (o pl:List Int) (ns:List DN) (mm:Mem3):Heap:=TH 112 119 gT gU gM og o pl ns mm
theorem make_fh (gT gU gM:Nat) (og:Option Nat) (o pl:List Int) (ns:List DN) (mm:Mem3) (v lo hi:Int) (hog:og=none→ns.length=0) (hn:ns.length≤1000000000):
  Fh Tryz.prog 71 (THp gT gU gM og o pl ns mm) [.c (.optr gT 0),.c (.int .i64 v),.c (.int .i64 lo),.c (.int .i64 hi)]
   (fun r h=>∃og',(og'=none→(mkF ns v lo hi).1.length=0)∧r=.c (.int .i64 (mkF ns v lo hi).2)∧h=THp gT gU gM og' o pl (mkF ns v lo hi).1 mm):=by
 refine fh_of_body Tryz.func71 rfl rfl (by simp [Tryz.ntmps71]) fun C hC=> ?_
 simp only [initS,Nat.reduceAdd]
 refine aw_nd fun hnd=> ?_
 have hd:(¬gT=gU∧¬gU=gT)∧(¬gT=gM∧¬gM=gT)∧(¬gU=gM∧¬gM=gU)∧∀g,og=some g→(¬gT=g∧¬g=gT)∧(¬gU=g∧¬g=gU)∧(¬gM=g∧¬g=gM):=by
  cases og with
  |none=>
   simp only [THp,TH,gh,Heap.keys,List.append_nil,List.map_cons,List.map_nil,List.nodup_cons,List.mem_cons,List.not_mem_nil,or_false,not_or,not_false_eq_true,List.nodup_nil,and_true] at hnd
   obtain⟨⟨h1,h2⟩,h3⟩:=hnd
   exact⟨⟨h1,fun e=>h1 e.symm⟩,⟨h2,fun e=>h2 e.symm⟩,⟨h3,fun e=>h3 e.symm⟩,fun g e=>by cases e⟩
  |some g'=>
   simp only [THp,TH,gh,Heap.keys,List.cons_append,List.nil_append,List.map_cons,List.map_nil,List.nodup_cons,List.mem_cons,List.not_mem_nil,or_false,not_or,not_false_eq_true,List.nodup_nil,and_true] at hnd
   obtain⟨⟨h1,h2,h4⟩,⟨h3,h5⟩,h6⟩:=hnd
   refine⟨⟨h1,fun e=>h1 e.symm⟩,⟨h2,fun e=>h2 e.symm⟩,⟨h3,fun e=>h3 e.symm⟩,fun g e=> ?_⟩
   injection e with e
   subst e
   exact⟨⟨h4,fun e=>h4 e.symm⟩,⟨h5,fun e=>h5 e.symm⟩,⟨h6,fun e=>h6 e.symm⟩⟩
 obtain⟨d1,d2,d3,d4⟩:=hd
 have hlen:=lenCV_gs (s:=3) hog
 unfold THp TH
 simp only [List.cons_append,List.nil_append]
 repeat first|apply wa1|apply wa2|apply wa3|apply wa4|apply wa5 rfl|apply wa6|apply wa7|(refine wb1 rfl fun R r=>?_;simp only[go_sem,d1,d2,d3,↓hlen];with_reducible show R (some _);with_reducible refine r _ _ ?_;clear r R)
 refine aw_cond (by simp only[go_sem,d1,d2,d3,↓hlen]<;>rfl) (fun h1=> ?_) (fun h1=> ?_)
 ·have h1':lo=hi:=eq_of_beq h1
  repeat first|apply wa1|apply wa2|apply wa3|apply wa4|apply wa5 rfl|apply wa6|apply wa7|(refine wb1 rfl fun R r=>?_;simp only[go_sem,d1,d2,d3,↓hlen];with_reducible show R (some _);with_reducible refine r _ _ ?_;clear r R)
  (refine aw_rethq rfl fun R r=>?_;simp only[go_sem,d1,d2,d3,↓hlen];refine r _ rfl ?_;clear r R)
  unfold mkF
  rw [if_pos h1']
  exact⟨og,hog,rfl,rfl⟩
 have h1':¬lo=hi:=by simpa using h1
 repeat first|apply wa1|apply wa2|apply wa3|apply wa4|apply wa5 rfl|apply wa6|apply wa7|(refine wb1 rfl fun R r=>?_;simp only[go_sem,d1,d2,d3,↓hlen];with_reducible show R (some _);with_reducible refine r _ _ ?_;clear r R)
 refine aw_alloc rfl rfl rfl (by simp only[go_sem,d1,d2,d3,↓hlen]<;>rfl) fun g9 hn_g9=> ?_
 replace hn_g9:=Heap.ne_of hn_g9
 first|dsimp only [Heap.ne,gh] at hn_g9|dsimp only [Heap.ne] at hn_g9|skip
 (try simp only[go_sem,d1,d2,d3,↓hlen,hn_g9])
 repeat first|apply wa1|apply wa2|apply wa3|apply wa4|apply wa5 rfl|apply wa6|apply wa7|(refine wb1 rfl fun R r=>?_;simp only[go_sem,d1,d2,d3,↓hlen,hn_g9];with_reducible show R (some _);with_reducible refine r _ _ ?_;clear r R)
 refine aw_store rfl rfl rfl rfl (by simp only[go_sem,d1,d2,d3,↓hlen,hn_g9]<;>rfl) (by simp only[go_sem,d1,d2,d3,↓hlen,hn_g9]<;>rfl) (by simp only[go_sem,d1,d2,d3,↓hlen,hn_g9]<;>rfl) (by simp only[go_sem,d1,d2,d3,↓hlen,hn_g9]<;>rfl) (fun _ e=>by cases e) (by rfl) (by rfl) (by first|omega|simp) rfl ?_
 (try simp only[go_sem,d1,d2,d3,↓hlen,hn_g9])
 repeat first|apply wa1|apply wa2|apply wa3|apply wa4|apply wa5 rfl|apply wa6|apply wa7|(refine wb1 rfl fun R r=>?_;simp only[go_sem,d1,d2,d3,↓hlen,hn_g9];with_reducible show R (some _);with_reducible refine r _ _ ?_;clear r R)
 refine aw_dr 11 ty_mixed (by kernel_rfl) ?_
 repeat first|apply wa1|apply wa2|apply wa3|apply wa4|apply wa5 rfl|apply wa6|apply wa7|(refine wb1 rfl fun R r=>?_;simp only[go_sem,d1,d2,d3,↓hlen,hn_g9];with_reducible show R (some _);with_reducible refine r _ _ ?_;clear r R)|apply wa8|(refine wd1 rfl fun R r=>?_;simp only[go_sem,d1,d2,d3,↓hlen,hn_g9];with_reducible show R (some _);with_reducible refine r _ _ ?_;clear r R)
 refine drk_lookup2 (a:=dk ⟨v,lo,hi⟩) (kv:=uqTo ns 0) (Kf:=dkV) (kt:=119) (et:=3) rfl rfl rfl (by kernel_rfl) dk_ok ty_iz (by simp only[go_sem,d1,d2,d3,↓hlen,hn_g9]<;>rfl) (by simp only[go_sem,d1,d2,d3,↓hlen,hn_g9]<;>rfl) (by simp only[go_sem,d1,d2,d3,↓hlen,hn_g9]<;>rfl) dk_rep ?_
 (try simp only[go_sem,d1,d2,d3,↓hlen,hn_g9])
 rw [uq_get]
 cases hf:findN ⟨v,lo,hi⟩ ns 0 with
 |some i=>
  try simp only [Option.map_some,Option.getD_some,Option.isSome_some,cstC]
  repeat first|apply wa1|apply wa2|apply wa3|apply wa4|apply wa5 rfl|apply wa6|apply wa7|(refine wb1 rfl fun R r=>?_;simp only[go_sem,d1,d2,d3,↓hlen,hn_g9];with_reducible show R (some _);with_reducible refine r _ _ ?_;clear r R)|apply wa8|(refine wd1 rfl fun R r=>?_;simp only[go_sem,d1,d2,d3,↓hlen,hn_g9];with_reducible show R (some _);with_reducible refine r _ _ ?_;clear r R)
  refine aw_condF (by simp only[go_sem,d1,d2,d3,↓hlen,hn_g9]<;>rfl) ?_
  repeat first|apply wa1|apply wa2|apply wa3|apply wa4|apply wa5 rfl|apply wa6|apply wa7|(refine wb1 rfl fun R r=>?_;simp only[go_sem,d1,d2,d3,↓hlen,hn_g9];with_reducible show R (some _);with_reducible refine r _ _ ?_;clear r R)|apply wa8|(refine wd1 rfl fun R r=>?_;simp only[go_sem,d1,d2,d3,↓hlen,hn_g9];with_reducible show R (some _);with_reducible refine r _ _ ?_;clear r R)
  refine aw_keep [(8,.c (.int .i64 (2+i)))] (THp gT gU gM og o pl ns mm) (by simp only[go_sem,d1,d2,d3,↓hlen,hn_g9]<;>and_intros<;>first|exact True.intro|(with_reducible rfl)|exact c_int om|rfl) (List.Sublist.cons _ (List.Sublist.refl _)) ?_
  (refine aw_rethq rfl fun R r=>?_;simp only[go_sem,d1,d2,d3,↓hlen,hn_g9];refine r _ rfl ?_;clear r R)
  unfold mkF
  rw [if_neg h1',hf]
  exact⟨og,hog,rfl,rfl⟩
 |none=>
  try simp only [Option.map_none,Option.getD_none,Option.isSome_none,cstC]
  repeat first|apply wa1|apply wa2|apply wa3|apply wa4|apply wa5 rfl|apply wa6|apply wa7|(refine wb1 rfl fun R r=>?_;simp only[go_sem,d1,d2,d3,↓hlen,hn_g9];with_reducible show R (some _);with_reducible refine r _ _ ?_;clear r R)|apply wa8|(refine wd1 rfl fun R r=>?_;simp only[go_sem,d1,d2,d3,↓hlen,hn_g9];with_reducible show R (some _);with_reducible refine r _ _ ?_;clear r R)
  refine aw_condT (by simp only[go_sem,d1,d2,d3,↓hlen,hn_g9]<;>rfl) ?_
  repeat first|apply wa1|apply wa2|apply wa3|apply wa4|apply wa5 rfl|apply wa6|apply wa7|(refine wb1 rfl fun R r=>?_;simp only[go_sem,d1,d2,d3,↓hlen,hn_g9];with_reducible show R (some _);with_reducible refine r _ _ ?_;clear r R)
  refine aw_cut (fun g:Nat=>[(0,.c (.optr gT 0)),(9,.c (.optr g9 0)),(10,.c (.int .i64 (2+(ns.length:Int))))]) (fun g=>(g9,.cells 119 3 (ofL [.int .i64 v,.int .i64 lo,.int .i64 hi]))::(gT,.cells 112 5 (ofL [is true o,is true pl,.osl g 3 0 (ns.length+1),.raw (.map (some gU)),.raw (.map (some gM))]))::(gU,.gen (MapI dkV (uqTo ns 0)))::(gM,.gen (MapI key3 (mmL mm)))::[(g,.cells 119 ((ns.length+1)*3) (dnsF (ns++[⟨v,lo,hi⟩])))]) (fun g=>g∉Heap.keys [(g9,.cells 0 0 (ofL [])),(gT,.cells 0 0 (ofL [])),(gU,.cells 0 0 (ofL [])),(gM,.cells 0 0 (ofL []))]) ?_ ?_
  ·refine aw_drL 7 0 37 ty_mixed (by kernel_rfl) ?_
   repeat (refine drg_2q rfl fun R r=>?_;simp only[go_sem,d1,d2,d3,↓hlen,hn_g9];with_reducible show R (some _);with_reducible refine r _ _ ?_;clear r R)
   refine drg_new rfl (NewX.buildSlice (xs:=[.tmp 42]) (cells:=[.int .i64 v,.int .i64 lo,.int .i64 hi]) rfl rfl rfl (by simp only[go_sem,d1,d2,d3,↓hlen,hn_g9]<;>rfl) (by(try simp only[go_sem,d1,d2,d3,↓hlen,hn_g9]);rfl) rfl om om (by intro x hx;simp only [List.mem_singleton] at hx;subst hx;exact⟨rfl,rfl,rfl⟩) rfl (by simp [Op.operands])) (by kernel_rfl) ?_
   (try simp only[go_sem,d1,d2,d3,↓hlen,hn_g9])
   refine drg_nil ⟨by simp,fun γ=> ?_,fun γ=> ?_⟩
   ·simp only [List.drop_succ_cons,List.drop_zero,List.take_succ_cons,List.take_zero,List.cons_append,List.nil_append]
    (try simp only[go_sem,d1,d2,d3,↓hlen,hn_g9])
    try simp only [List.cons_append,List.nil_append]
    generalize γ 6=gt
    refine aw_push2 (e:=119) (size:=3) (bytes:=24) (n:=ns.length) (z:=[.int .i64 0,.int .i64 0,.int .i64 0]) (f:=dnsF ns) (pre:=[(g9,.cells 119 3 (ofL [.int .i64 v,.int .i64 lo,.int .i64 hi])),(gT,.cells 112 5 (ofL [is true o,is true pl,gs og 3 ns.length,.raw (.map (some gU)),.raw (.map (some gM))])),(gU,.gen (MapI dkV (uqTo ns 0))),(gM,.gen (MapI key3 (mmL mm)))]) (f':=dnsF (ns++[⟨v,lo,hi⟩])) (v:=.agg [.int .i64 v,.int .i64 lo,.int .i64 hi]) rfl rfl rfl (by simp only[go_sem,d1,d2,d3,↓hlen,hn_g9]<;>rfl) (by simp only[go_sem,d1,d2,d3,↓hlen,hn_g9]<;>rfl) rfl om om (by simp only[go_sem,d1,d2,d3,↓hlen,hn_g9]<;>rfl) (by simp only[go_sem,d1,d2,d3,↓hlen,hn_g9]<;>rfl) hog (by rfl) (by rfl) (by simp only [List.cons_append,List.nil_append];rfl) (by unfold maxLen;omega) om (lf_push (xs:=ns) rfl (⟨v,lo,hi⟩:DN) om) fun g hn_g=> ?_
    (try simp only[go_sem,d1,d2,d3,↓hlen,hn_g9])
    simp only [gs,gh,List.cons_append,List.nil_append]
    repeat first|apply wa7|(refine wb1 rfl fun R r=>?_;simp only[go_sem,d1,d2,d3,↓hlen,hn_g9];with_reducible show R (some _);with_reducible refine r _ _ ?_;clear r R)|apply wa8|(refine wd1 rfl fun R r=>?_;simp only[go_sem,d1,d2,d3,↓hlen,hn_g9];with_reducible show R (some _);with_reducible refine r _ _ ?_;clear r R)
    refine aw_store rfl rfl rfl rfl (by simp only[go_sem,d1,d2,d3,↓hlen,hn_g9]<;>rfl) (by simp only[go_sem,d1,d2,d3,↓hlen,hn_g9]<;>rfl) (by simp only[go_sem,d1,d2,d3,↓hlen,hn_g9]<;>rfl) (by simp only[go_sem,d1,d2,d3,↓hlen,hn_g9]<;>rfl) (fun _ e=>by cases e) (by rfl) (by rfl) (by first|omega|simp) rfl ?_
    (try simp only[go_sem,d1,d2,d3,↓hlen,hn_g9])
    repeat first|apply wa7|(refine wb1 rfl fun R r=>?_;simp only[go_sem,d1,d2,d3,↓hlen,hn_g9];with_reducible show R (some _);with_reducible refine r _ _ ?_;clear r R)
    exact aw_stop ⟨g,(by simp only[go_sem,d1,d2,d3,↓hlen,hn_g9]<;>and_intros<;>first|exact True.intro|(with_reducible rfl)|exact c_int om|rfl),(List.Sublist.refl _),hn_g⟩
   ·simp only [List.drop_succ_cons,List.drop_zero,List.take_succ_cons,List.take_zero,List.cons_append,List.nil_append]
    (try simp only[go_sem,d1,d2,d3,↓hlen,hn_g9])
    try simp only [List.cons_append,List.nil_append]
    generalize γ 6=gt
    refine aw_push2 (e:=119) (size:=3) (bytes:=24) (n:=ns.length) (z:=[.int .i64 0,.int .i64 0,.int .i64 0]) (f:=dnsF ns) (pre:=[(g9,.cells 119 3 (ofL [.int .i64 v,.int .i64 lo,.int .i64 hi])),(gT,.cells 112 5 (ofL [is true o,is true pl,gs og 3 ns.length,.raw (.map (some gU)),.raw (.map (some gM))])),(gU,.gen (MapI dkV (uqTo ns 0))),(gM,.gen (MapI key3 (mmL mm)))]) (f':=dnsF (ns++[⟨v,lo,hi⟩])) (v:=.agg [.int .i64 v,.int .i64 lo,.int .i64 hi]) rfl rfl rfl (by simp only[go_sem,d1,d2,d3,↓hlen,hn_g9]<;>rfl) (by simp only[go_sem,d1,d2,d3,↓hlen,hn_g9]<;>rfl) rfl om om (by simp only[go_sem,d1,d2,d3,↓hlen,hn_g9]<;>rfl) (by simp only[go_sem,d1,d2,d3,↓hlen,hn_g9]<;>rfl) hog (by rfl) (by rfl) (by simp only [List.cons_append,List.nil_append];rfl) (by unfold maxLen;omega) om (lf_push (xs:=ns) rfl (⟨v,lo,hi⟩:DN) om) fun g hn_g=> ?_
    (try simp only[go_sem,d1,d2,d3,↓hlen,hn_g9])
    simp only [gs,gh,List.cons_append,List.nil_append]
    repeat first|apply wa7|(refine wb1 rfl fun R r=>?_;simp only[go_sem,d1,d2,d3,↓hlen,hn_g9];with_reducible show R (some _);with_reducible refine r _ _ ?_;clear r R)
    refine aw_store rfl rfl rfl rfl (by simp only[go_sem,d1,d2,d3,↓hlen,hn_g9]<;>rfl) (by simp only[go_sem,d1,d2,d3,↓hlen,hn_g9]<;>rfl) (by simp only[go_sem,d1,d2,d3,↓hlen,hn_g9]<;>rfl) (by simp only[go_sem,d1,d2,d3,↓hlen,hn_g9]<;>rfl) (fun _ e=>by cases e) (by rfl) (by rfl) (by first|omega|simp) rfl ?_
    (try simp only[go_sem,d1,d2,d3,↓hlen,hn_g9])
    repeat first|apply wa7|(refine wb1 rfl fun R r=>?_;simp only[go_sem,d1,d2,d3,↓hlen,hn_g9];with_reducible show R (some _);with_reducible refine r _ _ ?_;clear r R)
    exact aw_stop ⟨g,(by simp only[go_sem,d1,d2,d3,↓hlen,hn_g9]<;>and_intros<;>first|exact True.intro|(with_reducible rfl)|exact c_int om|rfl),(List.Sublist.refl _),hn_g⟩
  rintro g hn_g
  replace hn_g:=Heap.ne_of hn_g
  dsimp only [Heap.ne] at hn_g
  repeat first|apply wa1|apply wa2|apply wa3|apply wa4|apply wa5 rfl|apply wa6|apply wa7|(refine wb1 rfl fun R r=>?_;simp only[go_sem,d1,d2,d3,↓hlen,hn_g9,hn_g];with_reducible show R (some _);with_reducible refine r _ _ ?_;clear r R)
  refine aw_dr 6 ty_mixed (by kernel_rfl) ?_
  repeat first|apply wa1|apply wa2|apply wa3|apply wa4|apply wa5 rfl|apply wa6|apply wa7|(refine wb1 rfl fun R r=>?_;simp only[go_sem,d1,d2,d3,↓hlen,hn_g9,hn_g];with_reducible show R (some _);with_reducible refine r _ _ ?_;clear r R)|apply wa8|(refine wd1 rfl fun R r=>?_;simp only[go_sem,d1,d2,d3,↓hlen,hn_g9,hn_g];with_reducible show R (some _);with_reducible refine r _ _ ?_;clear r R)
  refine aw_mapNew (a:=dk ⟨v,lo,hi⟩) (kv:=uqTo ns 0) (Kf:=dkV) (v:=.int .i64 (2+(ns.length:Int))) rfl rfl rfl (kt:=119) (et:=3) (by kernel_rfl) dk_ok (by simp only[go_sem,d1,d2,d3,↓hlen,hn_g9,hn_g]<;>rfl) (by simp only[go_sem,d1,d2,d3,↓hlen,hn_g9,hn_g]<;>rfl) (by simp only[go_sem,d1,d2,d3,↓hlen,hn_g9,hn_g]<;>rfl) dk_rep (cv:=.c (.int .i64 (2+(ns.length:Int)))) (by simp only[go_sem,d1,d2,d3,↓hlen,hn_g9,hn_g]<;>rfl) (fun S w u h=>h) (by rw [uq_get,hf];rfl) (by simp only[go_sem,d1,d2,d3,↓hlen,hn_g9,hn_g]<;>rfl) ?_
  have hup:=uq_push ⟨v,lo,hi⟩ ns 0
  rw [Nat.zero_add] at hup
  rw [←hup]
  (try simp only[go_sem,d1,d2,d3,↓hlen,hn_g9,hn_g])
  repeat first|apply wa1|apply wa2|apply wa3|apply wa4|apply wa5 rfl|apply wa6|apply wa7|(refine wb1 rfl fun R r=>?_;simp only[go_sem,d1,d2,d3,↓hlen,hn_g9,hn_g];with_reducible show R (some _);with_reducible refine r _ _ ?_;clear r R)|apply wa8|(refine wd1 rfl fun R r=>?_;simp only[go_sem,d1,d2,d3,↓hlen,hn_g9,hn_g];with_reducible show R (some _);with_reducible refine r _ _ ?_;clear r R)
  refine aw_keep [(8,.c (.int .i64 (2+(ns.length:Int))))] (THp gT gU gM (some g) o pl (ns++[⟨v,lo,hi⟩]) mm) (by simp only[go_sem,d1,d2,d3,↓hlen,hn_g9,hn_g]<;>and_intros<;>first|exact True.intro|(with_reducible rfl)|exact c_int om|rfl) (by
   unfold THp TH
   rw [List.length_append]
   exact List.Sublist.cons _ (List.Sublist.refl _)) ?_
  (refine aw_rethq rfl fun R r=>?_;simp only[go_sem,d1,d2,d3,↓hlen,hn_g9,hn_g];refine r _ rfl ?_;clear r R)
  unfold mkF
  rw [if_neg h1',hf]
  exact⟨some g,some_ne,rfl,rfl⟩
end Go.Proofs.YtefekdejgbceiaaGreat
namespace Go.AI
section
variable {P : Program}
theorem run_checkFields' {n:Nat} {xs:Array Value} (w:World) (b:Bool) (hx:∀k,k<xs.size→∃kk z,xs[k]?=some (Value.int kk z)):∀(fs:List Field) (k:Nat),(fs.zipIdx k).all (fun p=>p.1.name != "_" &&p.1.offset==p.2&&(tInt P p.1.type).isSome)=true→k+fs.length≤xs.size→
  (forIn fs PUnit.unit (fun f (_:PUnit)=>(do
   if f.name≠ "_" then
    let __do_lift←part f.type xs f.offset
    Instr.checkKey b (n+1) f.type __do_lift
   pure (ForInStep.yield PUnit.unit):Sem (ForInStep PUnit)))).run P w=.ok PUnit.unit w
 |[],k,_,_=>by simp
 |f::fs,k,hf,hk=>by
  simp only [List.zipIdx_cons,List.all_cons,Bool.and_eq_true,bne_iff_ne,ne_eq,beq_iff_eq] at hf
  obtain⟨⟨⟨hn,ho⟩,hi⟩,hr⟩:=hf
  simp only [List.length_cons] at hk
  obtain⟨k1,z,e1⟩:=hx k om
  obtain⟨kk,hkk⟩:=Option.isSome_iff_exists.1 hi
  have hu:=tInt_spec hkk
  have hag:(isAgg f.type).run P w=.ok false w:=by simp [isAgg,run_underlying hu]
  have p1:(part f.type xs f.offset).run P w=.ok (.int k1 z) w:=by
   unfold part
   simp only [Sem.run_bind,hag,Result.andThen_ok,Bool.false_eq_true,if_false,ho,e1,Sem.run_pure]
  have p2:(Instr.checkKey b (n+1) f.type (.int k1 z)).run P w=.ok () w:=by
   simp [Instr.checkKey,run_underlying hu]
  have ih:=run_checkFields' (n:=n) (xs:=xs) w b hx fs (k+1) (by simpa using hr) om
  rw [List.forIn_cons]
  simp only [hn,not_false_eq_true,if_true,Sem.run_bind,p1,p2,Result.andThen_ok,Sem.run_pure,ne_eq]
  exact ih
theorem run_eqFields' (w:World) (xs ys:Array Value) (iu bs:List Int) (hx:∀k,k<iu.length→∃kk,xs[k]?=some (Value.int kk (iu.getD k 0))∧ys[k]?=some (Value.int kk (bs.getD k 0))) (hl:iu.length=bs.length):
  ∀(fs:List Field) (k:Nat),(fs.zipIdx k).all (fun p=>p.1.name != "_" &&p.1.offset==p.2&&(tInt P p.1.type).isSome)=true→k+fs.length=iu.length→(Op.eqFields 9999 xs ys fs).run P w=.ok (eqZ (iu.drop k) (bs.drop k)) w
 |[],k,_,hk=>by
  rw [List.drop_of_length_le (by simp at hk;omega),List.drop_of_length_le (by simp at hk;omega)]
  simp [Op.eqFields,eqZ]
 |f::fs,k,hf,hk=>by
  simp only [List.zipIdx_cons,List.all_cons,Bool.and_eq_true,bne_iff_ne,ne_eq,beq_iff_eq] at hf
  obtain⟨⟨⟨hn,ho⟩,hi⟩,hr⟩:=hf
  simp only [List.length_cons] at hk
  have hka:k<iu.length:=by omega
  have hkb:k<bs.length:=by omega
  obtain⟨kk,hkk⟩:=Option.isSome_iff_exists.1 hi
  have hu:=tInt_spec hkk
  have hag:(isAgg f.type).run P w=.ok false w:=by simp [isAgg,run_underlying hu]
  obtain⟨k1,e1,e2⟩:=hx k hka
  rw [List.getD_eq_getElem?_getD,List.getElem?_eq_getElem hka,Option.getD_some] at e1
  rw [List.getD_eq_getElem?_getD,List.getElem?_eq_getElem hkb,Option.getD_some] at e2
  have p1:(part f.type xs f.offset).run P w=.ok (.int k1 (iu[k])) w:=by
   unfold part
   simp only [Sem.run_bind,hag,Result.andThen_ok,Bool.false_eq_true,if_false,ho,e1,Sem.run_pure]
  have p2:(part f.type ys f.offset).run P w=.ok (.int k1 (bs[k])) w:=by
   unfold part
   simp only [Sem.run_bind,hag,Result.andThen_ok,Bool.false_eq_true,if_false,ho,e2,Sem.run_pure]
  have p3:(Op.equalIn 9999 f.type (.int k1 (iu[k])) (.int k1 (bs[k]))).run P w=.ok (iu[k]==bs[k]) w:=run_equalIn_int w 9998 f.type k1 kk _ _ hu
  have ih:=run_eqFields' w xs ys iu bs hx hl fs (k+1) (by simpa using hr) om
  rw [List.drop_eq_getElem_cons hka,List.drop_eq_getElem_cons hkb]
  simp only [Op.eqFields,hn,not_false_eq_true,if_true,Sem.run_bind,p1,p2,p3,Result.andThen_ok,eqZ,ne_eq]
  cases hab:(iu[k]==bs[k]) with
  |true=>simpa using ih
  |false=>simp
def keyS (k:Int×Int×Int):Value:=.agg #[.int .u8 k.1,.int .i64 k.2.1,.int .i64 k.2.2]
theorem keyS_ok {kt:Nat} (ht:tEqS P kt=some 3):KeyOk P kt keyS:=by
 have hstr:P.underlying kt=some (.struct (P.fieldsOf kt))∧(P.fieldsOf kt).toList.zipIdx.all (fun p=>p.1.name != "_" &&p.1.offset==p.2&&(tInt P p.1.type).isSome)=true∧(P.fieldsOf kt).size=3∧P.stoodInHeld kt=false:=by
  unfold tEqS at ht
  split at ht
  ·rename_i hc
   simp only [Bool.and_eq_true,Bool.not_eq_true'] at hc
   obtain⟨⟨⟨h1,h2⟩,h3⟩,h4⟩:=hc
   injection ht with ht
   exact⟨isStr_spec h4,h3,ht,h1⟩
  ·cases ht
 obtain⟨hu,hf,hs,h1⟩:=hstr
 have heq:∀(a b:Int×Int×Int) (w:World),(Op.equal kt (keyS a) (keyS b)).run P w=.ok (decide (a=b)) w:=fun a b w=>by
  obtain⟨x,y,z⟩:=a
  obtain⟨x',y',z'⟩:=b
  unfold Op.equal Op.maxDepth keyS
  rw [show(10000:Nat)=9999+1 from rfl,run_equalIn_agg w 9999 kt _ _ hu h1]
  rw [run_eqFields' (P:=P) w _ _ [x,y,z] [x',y',z'] (fun k hk=>by
   simp only [List.length_cons,List.length_nil] at hk
   rcases k with _|_|_|k
   ·exact⟨.u8,rfl,rfl⟩
   ·exact⟨.i64,rfl,rfl⟩
   ·exact⟨.i64,rfl,rfl⟩
   ·omega) rfl (P.fieldsOf kt).toList 0 hf (by simp [hs])]
  rw [List.drop_zero,List.drop_zero,eqZ_eq]
  congr 1
  rw [Bool.eq_iff_iff];simp
 refine⟨fun b a w=> ?_,fun a ks es w h=> ?_⟩
 ·obtain⟨x,y,z⟩:=a
  unfold keyS
  rw [show(10000:Nat)=9999+1 from rfl,Instr.checkKey]
  simp only [Sem.run_bind,run_underlying hu,Result.andThen_ok]
  rw [←Array.forIn_toList]
  have:=run_checkFields' (P:=P) (n:=9998) (xs:= #[.int .u8 x,.int .i64 y,.int .i64 z]) w b (fun k hk=>by
   simp only [List.size_toArray,List.length_cons,List.length_nil] at hk
   rcases k with _|_|_|k
   ·exact⟨.u8,x,rfl⟩
   ·exact⟨.i64,y,rfl⟩
   ·exact⟨.i64,z,rfl⟩
   ·omega) (P.fieldsOf kt).toList 0 hf (by simp [hs])
  rw [this]
  rfl
 ·unfold Instr.findKey
  simp only [Sem.run_bind,run_underlying hu,Result.andThen_ok]
  cases es with
  |nil=>
   cases ks with
   |nil=>simp [Instr.findNow,fAsk]
   |cons k ks=>simp at h
  |cons e es=>
   have hn:Instr.findNow (.struct (P.fieldsOf kt)) (keyS a) (e::es) 0=none:=by
    simp [Instr.findNow,Instr.sameNow,keyS]
   rw [hn]
   exact run_findAsking heq a ks (e::es) 0 w h
theorem keyS_rep {c a b:Int}:∀(S:Bool→Nat→Prop) (w:World) (u:Value),Rep S w (.agg [.int .u8 c,.int .i64 a,.int .i64 b]) u→u=keyS (c,a,b):=by
 rintro S w u ⟨us,rfl,h⟩
 match us,h with
 |[x,y,z],⟨h1,h2,h3,_⟩=>
  have h1:x=_:=h1
  have h2:y=_:=h2
  have h3:z=_:=h3
  rw [h1,h2,h3];rfl
end
end Go.AI
namespace Go.PN
open Go.AI
def evZ (n:Nat) (ns:List DN) (r:Int):Int:=if r<2 then n else(ns.getD (r-2).toNat dn0).v
structure ZNd (n:Nat) (ns:List DN) (i:Nat):Prop where
 nk:NodeOk n i (ns.getD i dn0)
 hi:(ns.getD i dn0).hi≠0
 bl:(ns.getD i dn0).v<evZ n ns (ns.getD i dn0).lo
 bh:(ns.getD i dn0).v<evZ n ns (ns.getD i dn0).hi
 new:ns.getD i dn0∉ns.take i
def ZTab (n:Nat) (ns:List DN):Prop:=∀i,i<ns.length→ZNd n ns i
theorem ZTab.ns {n:Nat} {ns:List DN} (h:ZTab n ns):NsOk n ns:=fun i hi=>(h i hi).nk
theorem evZ_app {n:Nat} {ns xs:List DN} {r:Int} (h:RefOk ns r):evZ n (ns++xs) r=evZ n ns r:=by
 unfold evZ
 unfold RefOk at h
 split
 ·rfl
 ·rw [getD_app om]
theorem ZTab.kids {n:Nat} {ns:List DN} (h:ZTab n ns) {i:Nat} (hi:i<ns.length):RefOk ns (ns.getD i dn0).lo∧RefOk ns (ns.getD i dn0).hi:=by
 obtain⟨_,_,l0,l1,h0,h1⟩:=(h i hi).nk
 exact⟨⟨l0,by omega⟩,⟨h0,by omega⟩⟩
theorem evZ_le {n:Nat} {ns:List DN} (h:ZTab n ns) {r:Int} (hr:RefOk ns r):0≤evZ n ns r∧evZ n ns r≤n∧(2≤r→evZ n ns r<n):=by
 unfold evZ
 unfold RefOk at hr
 split
 ·exact⟨by omega,Int.le_refl _,fun h=>by omega⟩
 ·obtain⟨v0,v1,_⟩:=(h (r-2).toNat om).nk
  exact⟨v0,by omega,fun _=>v1⟩
def memF (ns:List DN):Nat→Int→Nat→Bool
 |0,r,s=>decide (r=1)&&decide (s=0)
 |k+1,r,s=>if r≤1 then decide (r=1)&&decide (s=0) else if s.testBit (ns.getD (r-2).toNat dn0).v.toNat then memF ns k (ns.getD (r-2).toNat dn0).hi (s^^^2^(ns.getD (r-2).toNat dn0).v.toNat) else memF ns k (ns.getD (r-2).toNat dn0).lo s
def memZ (ns:List DN) (r:Int) (s:Nat):Bool:=memF ns r.toNat r s
def hitF (ns:List DN):Nat→Int→Nat→Bool
 |0,r,_=>decide (r=1)
 |k+1,r,s=>if r≤1 then decide (r=1) else hitF ns k (ns.getD (r-2).toNat dn0).lo s||(s.testBit (ns.getD (r-2).toNat dn0).v.toNat&&hitF ns k (ns.getD (r-2).toNat dn0).hi s)
def hitZ (ns:List DN) (r:Int) (s:Nat):Bool:=hitF ns r.toNat r s
theorem memF_fuel {n:Nat} {ns:List DN} (h:ZTab n ns):∀(k:Nat) (r:Int) (s:Nat),RefOk ns r→r.toNat≤k→memF ns k r s=memF ns r.toNat r s
 |0,r,s,hr,hk=>by rw [show r.toNat=0 from by omega]
 |k+1,r,s,hr,hk=>by
  unfold RefOk at hr
  by_cases h1:r≤1
  ·rw [memF,if_pos h1]
   cases hq:r.toNat with
   |zero=>rfl
   |succ j=>rw [memF,if_pos h1]
  ·obtain⟨j,hj⟩:∃j,r.toNat=j+1:=⟨r.toNat-1,by omega⟩
   have hi:(r-2).toNat<ns.length:=by omega
   obtain⟨k1,k2⟩:=h.kids hi
   obtain⟨_,_,l0,l1,h0,h1'⟩:=(h _ hi).nk
   rw [hj,memF,memF,if_neg h1,if_neg h1]
   split
   ·rw [memF_fuel h k _ _ k2 om,memF_fuel h j _ _ k2 om]
   ·rw [memF_fuel h k _ _ k1 om,memF_fuel h j _ _ k1 om]
termination_by k=>k
decreasing_by all_goals omega
theorem hitF_fuel {n:Nat} {ns:List DN} (h:ZTab n ns):∀(k:Nat) (r:Int) (s:Nat),RefOk ns r→r.toNat≤k→hitF ns k r s=hitF ns r.toNat r s
 |0,r,s,hr,hk=>by rw [show r.toNat=0 from by omega]
 |k+1,r,s,hr,hk=>by
  unfold RefOk at hr
  by_cases h1:r≤1
  ·rw [hitF,if_pos h1]
   cases hq:r.toNat with
   |zero=>rfl
   |succ j=>rw [hitF,if_pos h1]
  ·obtain⟨j,hj⟩:∃j,r.toNat=j+1:=⟨r.toNat-1,by omega⟩
   have hi:(r-2).toNat<ns.length:=by omega
   obtain⟨k1,k2⟩:=h.kids hi
   obtain⟨_,_,l0,l1,h0,h1'⟩:=(h _ hi).nk
   rw [hj,hitF,hitF,if_neg h1,if_neg h1,hitF_fuel h k _ _ k2 om,hitF_fuel h j _ _ k2 om,hitF_fuel h k _ _ k1 om,hitF_fuel h j _ _ k1 om]
termination_by k=>k
decreasing_by all_goals omega
theorem mem_leaf {ns:List DN} {r:Int} (h:r≤1) (s:Nat):memZ ns r s=(decide (r=1)&&decide (s=0)):=by
 unfold memZ
 cases hq:r.toNat with
 |zero=>rfl
 |succ j=>rw [memF,if_pos h]
theorem hit_leaf {ns:List DN} {r:Int} (h:r≤1) (s:Nat):hitZ ns r s=decide (r=1):=by
 unfold hitZ
 cases hq:r.toNat with
 |zero=>rfl
 |succ j=>rw [hitF,if_pos h]
theorem mem_step {n:Nat} {ns:List DN} (h:ZTab n ns) {r:Int} (h2:2≤r) (hr:RefOk ns r) (s:Nat):memZ ns r s=if s.testBit (ns.getD (r-2).toNat dn0).v.toNat then memZ ns (ns.getD (r-2).toNat dn0).hi (s^^^2^(ns.getD (r-2).toNat dn0).v.toNat) else memZ ns (ns.getD (r-2).toNat dn0).lo s:=by
 unfold RefOk at hr
 have hi:(r-2).toNat<ns.length:=by omega
 obtain⟨k1,k2⟩:=h.kids hi
 obtain⟨_,_,l0,l1,h0,h1'⟩:=(h _ hi).nk
 obtain⟨j,hj⟩:∃j,r.toNat=j+1:=⟨r.toNat-1,by omega⟩
 unfold memZ
 rw [hj,memF,if_neg om,memF_fuel h j _ _ k2 om,memF_fuel h j _ _ k1 om]
theorem hit_step {n:Nat} {ns:List DN} (h:ZTab n ns) {r:Int} (h2:2≤r) (hr:RefOk ns r) (s:Nat):hitZ ns r s=(hitZ ns (ns.getD (r-2).toNat dn0).lo s||(s.testBit (ns.getD (r-2).toNat dn0).v.toNat&&hitZ ns (ns.getD (r-2).toNat dn0).hi s)):=by
 unfold RefOk at hr
 have hi:(r-2).toNat<ns.length:=by omega
 obtain⟨k1,k2⟩:=h.kids hi
 obtain⟨_,_,l0,l1,h0,h1'⟩:=(h _ hi).nk
 obtain⟨j,hj⟩:∃j,r.toNat=j+1:=⟨r.toNat-1,by omega⟩
 unfold hitZ
 rw [hj,hitF,if_neg om,hitF_fuel h j _ _ k2 om,hitF_fuel h j _ _ k1 om]
theorem ZTab.ind {n:Nat} {ns:List DN} (h:ZTab n ns) {P:Int→Prop} (leaf:∀r,0≤r→r≤1→P r) (node:∀r,2≤r→RefOk ns r→P (ns.getD (r-2).toNat dn0).lo→P (ns.getD (r-2).toNat dn0).hi→P r):∀r,RefOk ns r→P r:=by
 have key:∀(k:Nat) (r:Int),r.toNat≤k→RefOk ns r→P r:=by
  intro k
  induction k with
  |zero=>intro r hk hr;unfold RefOk at hr;exact leaf r hr.1 om
  |succ k ih=>
   intro r hk hr
   by_cases h1:r≤1
   ·exact leaf r hr.1 h1
   ·have hi:(r-2).toNat<ns.length:=by unfold RefOk at hr;omega
    obtain⟨k1,k2⟩:=h.kids hi
    obtain⟨_,_,l0,l1,h0,h1'⟩:=(h _ hi).nk
    exact node r om hr (ih _ om k1) (ih _ om k2)
 exact fun r hr=>key _ r (Nat.le_refl _) hr
theorem evZ_node {n:Nat} {ns:List DN} {r:Int} (h2:2≤r):evZ n ns r=(ns.getD (r-2).toNat dn0).v:=if_neg om
theorem xor_bit (s v j:Nat):(s^^^2^v).testBit j=(s.testBit j !=decide (v=j)):=by
 rw [Nat.testBit_xor,Nat.testBit_two_pow]
theorem xor_off {s v:Nat} (h:s.testBit v=true):(s^^^2^v).testBit v=false:=by rw [xor_bit,h];simp
theorem xor_ne {s v j:Nat} (h:v≠j):(s^^^2^v).testBit j=s.testBit j:=by rw [xor_bit,decide_eq_false h];cases s.testBit j<;>rfl
theorem mem_bits {n:Nat} {ns:List DN} (h:ZTab n ns):∀r,RefOk ns r→∀s,memZ ns r s=true→∀j,s.testBit j=true→evZ n ns r≤j∧j<n:=by
 refine h.ind (fun r h0 h1 s hm j hj=> ?_) fun r h2 hr il ih s hm j hj=> ?_
 ·rw [mem_leaf h1] at hm
  simp only [Bool.and_eq_true,decide_eq_true_eq] at hm
  rw [hm.2] at hj
  simp at hj
 ·have hi:(r-2).toNat<ns.length:=by unfold RefOk at hr;omega
  have nd:=h _ hi
  obtain⟨v0,v1,_⟩:=nd.nk
  have bl:=nd.bl
  have bh:=nd.bh
  rw [mem_step h h2 hr] at hm
  rw [evZ_node h2]
  split at hm
  ·by_cases e:(ns.getD (r-2).toNat dn0).v.toNat=j
   ·omega
   ·have:=ih _ hm j (by rw [xor_ne e];exact hj)
    omega
  ·have:=il _ hm j hj
   omega
theorem hit_indep {n:Nat} {ns:List DN} (h:ZTab n ns):∀r,RefOk ns r→∀s t:Nat,(∀j:Nat,evZ n ns r≤j→s.testBit j=t.testBit j)→hitZ ns r s=hitZ ns r t:=by
 refine h.ind (fun r h0 h1 s t _=>by rw [hit_leaf h1,hit_leaf h1]) fun r h2 hr il ih s t hst=> ?_
 have hi:(r-2).toNat<ns.length:=by unfold RefOk at hr;omega
 have nd:=h _ hi
 obtain⟨v0,v1,_⟩:=nd.nk
 have bl:=nd.bl
 have bh:=nd.bh
 rw [evZ_node h2] at hst
 rw [hit_step h h2 hr,hit_step h h2 hr,il s t fun j hj=>hst j om,ih s t fun j hj=>hst j om,hst _ om]
theorem hit_xor {n:Nat} {ns:List DN} (h:ZTab n ns) {r:Int} (hr:RefOk ns r) {v:Int} (v0:0≤v) (hv:v<evZ n ns r) (s:Nat):hitZ ns r (s^^^2^v.toNat)=hitZ ns r s:=
 hit_indep h r hr _ _ fun j hj=>xor_ne om
def SubN (t s:Nat):Prop:=∀j,t.testBit j=true→s.testBit j=true
theorem hit_iff {n:Nat} {ns:List DN} (h:ZTab n ns):∀r,RefOk ns r→∀s,hitZ ns r s=true↔∃t,SubN t s∧memZ ns r t=true:=by
 refine h.ind (fun r h0 h1 s=> ?_) fun r h2 hr il ih s=> ?_
 ·rw [hit_leaf h1,decide_eq_true_eq]
  constructor
  ·intro e
   exact⟨0,fun j hj=>by simp at hj,by rw [mem_leaf h1,e];rfl⟩
  ·rintro ⟨t,_,hm⟩
   rw [mem_leaf h1] at hm
   simp only [Bool.and_eq_true,decide_eq_true_eq] at hm
   exact hm.1
 ·have hi:(r-2).toNat<ns.length:=by unfold RefOk at hr;omega
  have nd:=h _ hi
  obtain⟨v0,v1,_⟩:=nd.nk
  obtain⟨k1,k2⟩:=h.kids hi
  have bl:=nd.bl
  have bh:=nd.bh
  rw [hit_step h h2 hr,Bool.or_eq_true,Bool.and_eq_true,il,ih]
  constructor
  ·rintro (⟨t,t1,t2⟩|⟨hb,t,t1,t2⟩)
   ·refine⟨t,t1,?_⟩
    rw [mem_step h h2 hr,if_neg,t2]
    intro hb
    have:=mem_bits h _ k1 t t2 _ hb
    omega
   ·have hbt:t.testBit (ns.getD (r-2).toNat dn0).v.toNat=false:=by
     cases hb:t.testBit (ns.getD (r-2).toNat dn0).v.toNat
     ·rfl
     ·have:=mem_bits h _ k2 t t2 _ hb
      omega
    refine⟨t^^^2^(ns.getD (r-2).toNat dn0).v.toNat,fun j hj=> ?_,?_⟩
    ·by_cases e:(ns.getD (r-2).toNat dn0).v.toNat=j
     ·subst e;exact hb
     ·rw [xor_ne e] at hj;exact t1 j hj
    ·rw [mem_step h h2 hr,if_pos (by rw [xor_bit,hbt];simp),Nat.xor_assoc,Nat.xor_self,Nat.xor_zero]
     exact t2
  ·rintro ⟨t,t1,t2⟩
   rw [mem_step h h2 hr] at t2
   split at t2
   ·rename_i hb
    exact .inr ⟨t1 _ hb,_,fun j hj=>by
     by_cases e:(ns.getD (r-2).toNat dn0).v.toNat=j
     ·subst e;rw [xor_off hb] at hj;cases hj
     ·rw [xor_ne e] at hj;exact t1 j hj,t2⟩
   ·exact .inl ⟨t,t1,t2⟩
theorem memF_app {n:Nat} {ns xs:List DN} (h:ZTab n ns):∀(k:Nat) (r:Int) (s:Nat),RefOk ns r→memF (ns++xs) k r s=memF ns k r s
 |0,r,s,_=>rfl
 |k+1,r,s,hr=>by
  rw [memF,memF]
  split
  ·rfl
  ·rename_i h1
   unfold RefOk at hr
   obtain⟨k1,k2⟩:=h.kids (show(r-2).toNat<ns.length by omega)
   rw [getD_app om,memF_app h k _ _ k1,memF_app h k _ _ k2]
theorem mem_app {n:Nat} {ns xs:List DN} (h:ZTab n ns) {r:Int} (hr:RefOk ns r) (s:Nat):memZ (ns++xs) r s=memZ ns r s:=memF_app h _ _ _ hr
theorem hitF_app {n:Nat} {ns xs:List DN} (h:ZTab n ns):∀(k:Nat) (r:Int) (s:Nat),RefOk ns r→hitF (ns++xs) k r s=hitF ns k r s
 |0,r,s,_=>rfl
 |k+1,r,s,hr=>by
  rw [hitF,hitF]
  split
  ·rfl
  ·rename_i h1
   unfold RefOk at hr
   obtain⟨k1,k2⟩:=h.kids (show(r-2).toNat<ns.length by omega)
   rw [getD_app om,hitF_app h k _ _ k1,hitF_app h k _ _ k2]
theorem hit_app {n:Nat} {ns xs:List DN} (h:ZTab n ns) {r:Int} (hr:RefOk ns r) (s:Nat):hitZ (ns++xs) r s=hitZ ns r s:=hitF_app h _ _ _ hr
theorem ZNd.app {n:Nat} {ns xs:List DN} (h:ZTab n ns) {i:Nat} (hi:i<ns.length):ZNd n (ns++xs) i:=by
 obtain⟨r1,r2⟩:=h.kids hi
 obtain⟨a,b,c,d,e⟩:=h i hi
 refine⟨?_,?_,?_,?_,?_⟩<;>rw [getD_app hi]
 ·exact a
 ·exact b
 ·rw [evZ_app r1];exact c
 ·rw [evZ_app r2];exact d
 ·rw [List.take_append_of_le_length om];exact e
def mkZ (ns:List DN) (v lo hi:Int):List DN×Int:=
 if hi=0 then(ns,lo) else match findN ⟨v,lo,hi⟩ ns 0 with
  |some i=>(ns,2+i)
  |none=>(ns++[⟨v,lo,hi⟩],2+ns.length)
structure ZLat (n:Nat) (ns ns':List DN) (k:Nat):Prop where
 tab:ZTab n ns'
 pre:∃xs,ns'=ns++xs
 len:ns'.length≤ns.length+k
theorem ZLat.refl {n:Nat} {ns:List DN} (h:ZTab n ns) (k:Nat):ZLat n ns ns k:=⟨h,⟨[],by simp⟩,by omega⟩
theorem ZLat.trans {n:Nat} {a b c:List DN} {i j k:Nat} (h1:ZLat n a b i) (h2:ZLat n b c j) (hk:i+j≤k):ZLat n a c k:=by
 obtain⟨_,⟨xs,e1⟩,l1⟩:=h1
 obtain⟨t2,⟨ys,e2⟩,l2⟩:=h2
 exact⟨t2,⟨xs++ys,by rw [e2,e1,List.append_assoc]⟩,by omega⟩
theorem ZLat.ref {n:Nat} {a b:List DN} {k:Nat} (h:ZLat n a b k) {r:Int} (hr:RefOk a r):RefOk b r:=by
 obtain⟨xs,e⟩:=h.pre
 rw [e];exact ref_app hr
theorem ZLat.ev {n:Nat} {a b:List DN} {k:Nat} (h:ZLat n a b k) {r:Int} (hr:RefOk a r):evZ n b r=evZ n a r:=by
 obtain⟨xs,e⟩:=h.pre
 rw [e];exact evZ_app hr
theorem ZLat.mem {n:Nat} {a b:List DN} {k:Nat} (h:ZLat n a b k) (ha:ZTab n a) {r:Int} (hr:RefOk a r) (s:Nat):memZ b r s=memZ a r s:=by
 obtain⟨xs,e⟩:=h.pre
 rw [e];exact mem_app ha hr s
theorem ZLat.hit {n:Nat} {a b:List DN} {k:Nat} (h:ZLat n a b k) (ha:ZTab n a) {r:Int} (hr:RefOk a r) (s:Nat):hitZ b r s=hitZ a r s:=by
 obtain⟨xs,e⟩:=h.pre
 rw [e];exact hit_app ha hr s
theorem ZLat.get {n:Nat} {a b:List DN} {k:Nat} (h:ZLat n a b k) {i:Nat} (hi:i<a.length):b.getD i dn0=a.getD i dn0:=by
 obtain⟨xs,e⟩:=h.pre
 rw [e];exact getD_app hi
theorem mkZ_ok {n:Nat} {ns:List DN} (h:ZTab n ns) {v lo hi:Int} (hv0:0≤v) (hv1:v<n) (hl:RefOk ns lo) (hh:RefOk ns hi) (bl:v<evZ n ns lo) (bh:v<evZ n ns hi):
  ZLat n ns (mkZ ns v lo hi).1 1∧RefOk (mkZ ns v lo hi).1 (mkZ ns v lo hi).2∧v≤evZ n (mkZ ns v lo hi).1 (mkZ ns v lo hi).2∧
  (∀s,memZ (mkZ ns v lo hi).1 (mkZ ns v lo hi).2 s=if s.testBit v.toNat then memZ ns hi (s^^^2^v.toNat) else memZ ns lo s):=by
 unfold mkZ
 by_cases e:hi=0
 ·subst e
  rw [if_pos rfl]
  refine⟨ZLat.refl h 1,hl,Int.le_of_lt bl,fun s=> ?_⟩
  split
  ·rename_i hb
   rw [mem_leaf (by omega:(0:Int)≤1)]
   cases hm:memZ ns lo s
   ·simp
   ·have:=mem_bits h lo hl s hm _ hb
    omega
  ·rfl
 ·rw [if_neg e]
  have h2:∀i:Nat,(2:Int)+i-2=i:=fun i=>by omega
  cases hf:findN ⟨v,lo,hi⟩ ns 0 with
  |some i=>
   obtain⟨_,h2',h3⟩:=findN_some hf
   rw [Nat.sub_zero] at h3
   have hi':i<ns.length:=by omega
   have hr:RefOk ns (2+(i:Int)):=⟨by omega,by omega⟩
   refine⟨ZLat.refl h 1,hr,?_,fun s=> ?_⟩
   ·show v≤evZ n ns (2+i)
    rw [evZ_node om,h2,Int.toNat_natCast,h3]
    exact Int.le_refl _
   ·show memZ ns (2+i) s=_
    rw [mem_step h om hr,h2,Int.toNat_natCast,h3]
  |none=>
   have hnew:=findN_none hf
   have hg:(ns++[(⟨v,lo,hi⟩:DN)]).getD ns.length dn0=⟨v,lo,hi⟩:=by
    rw [List.getD_eq_getElem?_getD,List.getElem?_append_right (Nat.le_refl _),Nat.sub_self];rfl
   have htab:ZTab n (ns++[(⟨v,lo,hi⟩:DN)]):=by
    intro i hi2
    rw [List.length_append,List.length_singleton] at hi2
    by_cases hin:i<ns.length
    ·exact ZNd.app h hin
    ·have:i=ns.length:=by omega
     subst this
     have hl':=hl
     have hh':=hh
     unfold RefOk at hl' hh'
     refine⟨?_,?_,?_,?_,?_⟩<;>rw [hg]
     ·exact⟨hv0,hv1,hl'.1,by show lo<(ns.length:Int)+2;omega,hh'.1,by show hi<(ns.length:Int)+2;omega⟩
     ·exact e
     ·show v<evZ n _ lo
      rw [evZ_app hl];exact bl
     ·show v<evZ n _ hi
      rw [evZ_app hh];exact bh
     ·rw [List.take_append_of_le_length (Nat.le_refl _),List.take_length];exact hnew
   have hr:RefOk (ns++[(⟨v,lo,hi⟩:DN)]) (2+(ns.length:Int)):=⟨by omega,by rw [List.length_append,List.length_singleton];omega⟩
   refine⟨⟨htab,⟨_,rfl⟩,by simp⟩,hr,?_,fun s=> ?_⟩
   ·show v≤evZ n _ (2+(ns.length:Int))
    rw [evZ_node om,h2,Int.toNat_natCast,hg]
    exact Int.le_refl _
   ·show memZ _ (2+(ns.length:Int)) s=_
    rw [mem_step htab om hr,h2,Int.toNat_natCast,hg]
    dsimp only
    rw [mem_app h hh,mem_app h hl]
end Go.PN
namespace Go.PN
open Go.AI
theorem ref0 {ns:List DN}:RefOk ns 0:=⟨by omega,by omega⟩
theorem ev_leaf {n:Nat} {ns:List DN} {r:Int} (h:r<2):evZ n ns r=n:=if_pos h
theorem ev_two {n:Nat} {ns:List DN} {r:Int} (h:ZTab n ns) (hr:RefOk ns r) (hv:evZ n ns r<n):2≤r:=by
 refine Classical.byContradiction fun hc=> ?_
 rw [ev_leaf om] at hv
 omega
def kidsZ (n:Nat) (ns:List DN) (r v:Int):Int×Int:=if evZ n ns r≠v then(r,0) else((ns.getD (r-2).toNat dn0).lo,(ns.getD (r-2).toNat dn0).hi)
structure KZ (n:Nat) (ns:List DN) (r v a b:Int):Prop where
 ra:RefOk ns a
 rb:RefOk ns b
 ea:v+1≤evZ n ns a
 eb:v+1≤evZ n ns b
 la:a≤r
 lb:b≤r
 mem:∀s:Nat,memZ ns r s=if s.testBit v.toNat then memZ ns b (s^^^2^v.toNat) else memZ ns a s
 hit:∀s:Nat,hitZ ns r s=(hitZ ns a s||(s.testBit v.toNat&&hitZ ns b s))
theorem kz_node {n:Nat} {ns:List DN} (h:ZTab n ns) {r:Int} (hr:RefOk ns r) (h2:2≤r):KZ n ns r (ns.getD (r-2).toNat dn0).v (ns.getD (r-2).toNat dn0).lo (ns.getD (r-2).toNat dn0).hi:=by
 have hi:(r-2).toNat<ns.length:=by unfold RefOk at hr;omega
 obtain⟨k1,k2⟩:=h.kids hi
 obtain⟨_,_,l0,l1,h0,h1'⟩:=(h _ hi).nk
 exact⟨k1,k2,(h _ hi).bl,(h _ hi).bh,by omega,by omega,fun s=>mem_step h h2 hr s,fun s=>hit_step h h2 hr s⟩
theorem kidsZ_ok {n:Nat} {ns:List DN} (h:ZTab n ns) {r v:Int} (hr:RefOk ns r) (hv0:0≤v) (hvn:v<n) (hv:v≤evZ n ns r):KZ n ns r v (kidsZ n ns r v).1 (kidsZ n ns r v).2:=by
 unfold kidsZ
 by_cases e:evZ n ns r=v
 ·rw [if_neg (by simpa using e)]
  have h2:2≤r:=ev_two h hr om
  have:=kz_node h hr h2
  rw [evZ_node h2] at e
  rw [←e]
  exact this
 ·rw [if_pos e]
  refine⟨hr,ref0,by show v+1≤evZ n ns r;omega,by rw [ev_leaf om];omega,Int.le_refl _,hr.1,fun s=> ?_,fun s=> ?_⟩
  ·dsimp only
   split
   ·rename_i hb
    rw [mem_leaf (by omega:(0:Int)≤1)]
    cases hm:memZ ns r s
    ·simp
    ·have:=mem_bits h r hr s hm _ hb
     omega
   ·rfl
  ·dsimp only
   rw [hit_leaf (by omega:(0:Int)≤1)]
   simp
theorem hit_zero {n:Nat} {ns:List DN} (h:ZTab n ns) {r:Int} (hr:RefOk ns r) (he:memZ ns r 0=true) (s:Nat):hitZ ns r s=true:=
 (hit_iff h r hr s).2 ⟨0,fun j hj=>by simp at hj,he⟩
structure WOk (n:Nat) (ns:List DN) (a b r:Int):Prop where
 pa:RefOk ns a
 pb:RefOk ns b
 pr:RefOk ns r
 ev:min (evZ n ns a) (evZ n ns b)≤evZ n ns r
 sem:∀s,memZ ns r s=(memZ ns a s&& !hitZ ns b s)
theorem WOk.later {n:Nat} {x y:List DN} {k:Nat} (h:ZLat n x y k) (hx:ZTab n x) {a b r:Int} (w:WOk n x a b r):WOk n y a b r:=
 ⟨h.ref w.pa,h.ref w.pb,h.ref w.pr,by rw [h.ev w.pa,h.ev w.pb,h.ev w.pr];exact w.ev,fun s=>by rw [h.mem hx w.pr,h.mem hx w.pa,h.hit hx w.pb];exact w.sem s⟩
theorem w_base {n:Nat} {ns:List DN} (h:ZTab n ns) {a b:Int} (ha:RefOk ns a) (hb:RefOk ns b) (hc:a=0∨memZ ns b 0=true):WOk n ns a b 0:=by
 refine⟨ha,hb,ref0,by rw [ev_leaf (r:=0) om];have:=(evZ_le h ha).2.1;omega,fun s=> ?_⟩
 rw [mem_leaf (by omega:(0:Int)≤1)]
 rcases hc with rfl|hc
 ·rw [mem_leaf (by omega:(0:Int)≤1)];rfl
 ·rw [hit_zero h hb hc];simp
theorem w_base2 {n:Nat} {ns:List DN} (h:ZTab n ns) {a b:Int} (ha:RefOk ns a) (hb:RefOk ns b) (hn:memZ ns b 0=false) (hc:b=0∨a=1):WOk n ns a b a:=by
 refine⟨ha,hb,ha,by omega,fun s=> ?_⟩
 rcases hc with rfl|rfl
 ·rw [hit_leaf (by omega:(0:Int)≤1)];simp
 ·rw [mem_leaf (by omega:(1:Int)≤1)]
  by_cases e:s=0
  ·subst e
   have:hitZ ns b 0=false:=by
    cases hh:hitZ ns b 0
    ·rfl
    ·obtain⟨t,t1,t2⟩:=(hit_iff h b hb 0).1 hh
     have:t=0:=Nat.eq_of_testBit_eq fun j=>by
      cases hj:t.testBit j
      ·simp
      ·have:=t1 j hj;simp at this
     subst this
     rw [hn] at t2;cases t2
   rw [this];rfl
  ·rw [decide_eq_false e];simp
theorem w_step {n:Nat} {n0 n1 n2 n3:List DN} {k1 k2 k3:Nat} (h0:ZTab n n0) {a b v a0 a1 b0 b1 x y z:Int} (ha:RefOk n0 a) (hb:RefOk n0 b) (hv0:0≤v) (hvn:v<n) (hv:v=min (evZ n n0 a) (evZ n n0 b))
  (ka:KZ n n0 a v a0 a1) (kb:KZ n n0 b v b0 b1) (l1:ZLat n n0 n1 k1) (wx:WOk n n1 a0 b0 x) (l2:ZLat n n1 n2 k2) (wy:WOk n n2 a1 b0 y) (l3:ZLat n n2 n3 k3) (wz:WOk n n3 y b1 z):
  ZLat n n3 (mkZ n3 v x z).1 1∧ZLat n n0 (mkZ n3 v x z).1 (k1+k2+k3+1)∧WOk n (mkZ n3 v x z).1 a b (mkZ n3 v x z).2∧RefOk n3 x∧RefOk n3 z∧v<evZ n n3 x∧v<evZ n n3 z:=by
 have l12:=l1.trans l2 (Nat.le_refl _)
 have l13:=l12.trans l3 (Nat.le_refl _)
 have l23:=l2.trans l3 (Nat.le_refl _)
 have ex:v<evZ n n3 x:=by
  rw [l23.ev wx.pr]
  have:=wx.ev
  rw [l1.ev ka.ra,l1.ev kb.ra] at this
  have h1:=ka.ea
  have h2:=kb.ea
  omega
 have ey:v<evZ n n3 y:=by
  rw [l3.ev wy.pr]
  have:=wy.ev
  rw [l12.ev ka.rb,l12.ev kb.ra] at this
  have h1:=ka.eb
  have h2:=kb.ea
  omega
 have ez:v<evZ n n3 z:=by
  have:=wz.ev
  rw [l13.ev kb.rb] at this
  have h2:=kb.eb
  omega
 have rx:RefOk n3 x:=l23.ref wx.pr
 obtain⟨m1,m2,m3,m4⟩:=mkZ_ok l13.tab hv0 hvn rx wz.pr ex ez
 have lall:=l13.trans m1 (Nat.le_refl _)
 refine⟨m1,lall,⟨lall.ref ha,lall.ref hb,m2,by rw [lall.ev ha,lall.ev hb];omega,fun s=> ?_⟩,rx,wz.pr,ex,ez⟩
 rw [m4,lall.mem h0 ha,lall.hit h0 hb,ka.mem,kb.hit]
 split
 ·rename_i hs
  rw [wz.sem,l3.mem l12.tab wy.pr,wy.sem,l12.mem h0 ka.rb,l12.hit h0 kb.ra,l13.hit h0 kb.rb]
  have e1:hitZ n0 b0 (s^^^2^v.toNat)=hitZ n0 b0 s:=hit_xor h0 kb.ra hv0 (by have:=kb.ea;omega) s
  have e2:hitZ n0 b1 (s^^^2^v.toNat)=hitZ n0 b1 s:=hit_xor h0 kb.rb hv0 (by have:=kb.eb;omega) s
  rw [e1,e2,hs]
  cases memZ n0 a1 (s^^^2^v.toNat)<;>cases hitZ n0 b0 s<;>cases hitZ n0 b1 s<;>rfl
 ·rename_i hs
  rw [l23.mem l1.tab wx.pr,wx.sem,l1.mem h0 ka.ra,l1.hit h0 kb.ra,eq_false_of_ne_true hs]
  simp
def popF:Nat→Nat→Nat
 |0,_=>0
 |k+1,s=>s%2+popF k (s/2)
def popN (s:Nat):Nat:=popF s s
theorem popF_fuel:∀(k s:Nat),s<2^k→∀j,k≤j→popF j s=popF k s
 |0,s,h,j,_=>by
  have:s=0:=by simpa using h
  subst this
  have:∀j,popF j 0=0:=by intro j;induction j with
   |zero=>rfl
   |succ j ih=>rw [popF];simpa using ih
  rw [this,this]
 |k+1,s,h,j,hj=>by
  obtain⟨i,rfl⟩:∃i,j=i+1:=⟨j-1,by omega⟩
  rw [popF,popF,popF_fuel k (s/2) (by rw [Nat.pow_succ] at h;omega) i om]
theorem pop_eq {k s:Nat} (h:s<2^k):popN s=popF k s:=by
 unfold popN
 have hs:s<2^s:=Nat.lt_two_pow_self
 rcases Nat.le_total k s with h1|h1
 ·exact popF_fuel k s h s h1
 ·exact(popF_fuel s s hs k h1).symm
theorem pop_half (s:Nat):popN s=s%2+popN (s/2):=by
 have hs:s<2^(s+1):=Nat.lt_of_lt_of_le Nat.lt_two_pow_self (Nat.pow_le_pow_right om om)
 rw [pop_eq hs,popF,pop_eq (k:=s) (s:=s/2) (by rw [Nat.pow_succ] at hs;omega)]
structure UOk (n:Nat) (ns:List DN) (a k r:Int):Prop where
 pa:RefOk ns a
 pr:RefOk ns r
 ev:evZ n ns a≤evZ n ns r
 sem:∀s,memZ ns r s=(memZ ns a s&&decide ((popN s:Int)≤k))
theorem UOk.later {n:Nat} {x y:List DN} {k:Nat} (h:ZLat n x y k) (hx:ZTab n x) {a b r:Int} (w:UOk n x a b r):UOk n y a b r:=
 ⟨h.ref w.pa,h.ref w.pr,by rw [h.ev w.pa,h.ev w.pr];exact w.ev,fun s=>by rw [h.mem hx w.pr,h.mem hx w.pa];exact w.sem s⟩
def setsF (ns:List DN):Nat→Int→Nat→List Nat
 |0,r,b=>if r=1 then [b] else []
 |k+1,r,b=>if r<2 then(if r=1 then [b] else []) else setsF ns k (ns.getD (r-2).toNat dn0).lo b++setsF ns k (ns.getD (r-2).toNat dn0).hi (b|||2^(ns.getD (r-2).toNat dn0).v.toNat)
def setsZ (ns:List DN) (r:Int) (b:Nat):List Nat:=setsF ns r.toNat r b
theorem setsF_fuel {n:Nat} {ns:List DN} (h:ZTab n ns):∀(k:Nat) (r:Int) (b:Nat),RefOk ns r→r.toNat≤k→setsF ns k r b=setsF ns r.toNat r b
 |0,r,b,hr,hk=>by rw [show r.toNat=0 from by omega]
 |k+1,r,b,hr,hk=>by
  unfold RefOk at hr
  by_cases h1:r<2
  ·rw [setsF,if_pos h1]
   cases hq:r.toNat with
   |zero=>rfl
   |succ j=>rw [setsF,if_pos h1]
  ·obtain⟨j,hj⟩:∃j,r.toNat=j+1:=⟨r.toNat-1,by omega⟩
   have hi:(r-2).toNat<ns.length:=by omega
   obtain⟨k1,k2⟩:=h.kids hi
   obtain⟨_,_,l0,l1,h0,h1'⟩:=(h _ hi).nk
   rw [hj,setsF,setsF,if_neg h1,if_neg h1,setsF_fuel h k _ _ k2 om,setsF_fuel h j _ _ k2 om,setsF_fuel h k _ _ k1 om,setsF_fuel h j _ _ k1 om]
termination_by k=>k
decreasing_by all_goals omega
theorem sets_leaf {ns:List DN} {r:Int} (h:r<2) (b:Nat):setsZ ns r b=if r=1 then [b] else []:=by
 unfold setsZ
 cases hq:r.toNat with
 |zero=>rfl
 |succ j=>rw [setsF,if_pos h]
theorem sets_step {n:Nat} {ns:List DN} (h:ZTab n ns) {r:Int} (h2:2≤r) (hr:RefOk ns r) (b:Nat):setsZ ns r b=setsZ ns (ns.getD (r-2).toNat dn0).lo b++setsZ ns (ns.getD (r-2).toNat dn0).hi (b|||2^(ns.getD (r-2).toNat dn0).v.toNat):=by
 unfold RefOk at hr
 have hi:(r-2).toNat<ns.length:=by omega
 obtain⟨k1,k2⟩:=h.kids hi
 obtain⟨_,_,l0,l1,h0,h1'⟩:=(h _ hi).nk
 obtain⟨j,hj⟩:∃j,r.toNat=j+1:=⟨r.toNat-1,by omega⟩
 unfold setsZ
 rw [hj,setsF,if_neg om,setsF_fuel h j _ _ k2 om,setsF_fuel h j _ _ k1 om]
theorem sets_mem {n:Nat} {ns:List DN} (h:ZTab n ns):∀r,RefOk ns r→∀b:Nat,(∀j:Nat,evZ n ns r≤j→b.testBit j=false)→∀s,s∈setsZ ns r b↔∃t,memZ ns r t=true∧s=b|||t:=by
 refine h.ind (fun r h0 h1 b _ s=> ?_) fun r h2 hr il ih b hb s=> ?_
 ·rw [sets_leaf om]
  constructor
  ·intro hs
   split at hs
   ·rename_i e
    rw [List.mem_singleton] at hs
    exact⟨0,by rw [mem_leaf h1,e];rfl,by rw [hs,Nat.or_zero]⟩
   ·cases hs
  ·rintro ⟨t,ht,rfl⟩
   rw [mem_leaf h1] at ht
   simp only [Bool.and_eq_true,decide_eq_true_eq] at ht
   rw [if_pos ht.1,ht.2,Nat.or_zero]
   exact List.mem_singleton.2 rfl
 ·have hi:(r-2).toNat<ns.length:=by unfold RefOk at hr;omega
  have nd:=h _ hi
  obtain⟨v0,v1,_⟩:=nd.nk
  obtain⟨k1,k2⟩:=h.kids hi
  have bl:=nd.bl
  have bh:=nd.bh
  rw [evZ_node h2] at hb
  have ms:=mem_step h h2 hr
  rw [sets_step h h2 hr,List.mem_append,il b (fun j hj=>hb j om),ih _ (fun j hj=>by
   rw [Nat.testBit_or,hb j om,Nat.testBit_two_pow,decide_eq_false om];rfl)]
  generalize hv:(ns.getD (r-2).toNat dn0).v.toNat=v at*
  constructor
  ·rintro (⟨t,t1,rfl⟩|⟨t,t1,rfl⟩)
   ·refine⟨t,?_,rfl⟩
    rw [ms,if_neg,t1]
    intro hbt
    have:=mem_bits h _ k1 t t1 _ hbt
    omega
   ·have hbt:t.testBit v=false:=by
     cases hbt:t.testBit v
     ·rfl
     ·have:=mem_bits h _ k2 t t1 _ hbt
      omega
    refine⟨t^^^2^v,?_,?_⟩
    ·rw [ms,if_pos (by rw [xor_bit,hbt];simp),Nat.xor_assoc,Nat.xor_self,Nat.xor_zero]
     exact t1
    ·refine Nat.eq_of_testBit_eq fun j=> ?_
     rw [Nat.testBit_or,Nat.testBit_or,Nat.testBit_or,xor_bit,Nat.testBit_two_pow]
     by_cases e:v=j
     ·subst e;rw [hbt];simp
     ·simp [e]
  ·rintro ⟨t,t1,rfl⟩
   rw [ms] at t1
   split at t1
   ·rename_i hbt
    refine .inr ⟨_,t1,?_⟩
    refine Nat.eq_of_testBit_eq fun j=> ?_
    rw [Nat.testBit_or,Nat.testBit_or,Nat.testBit_or,xor_bit,Nat.testBit_two_pow]
    by_cases e:v=j
    ·subst e;rw [hbt];simp
    ·simp [e]
   ·exact .inl ⟨t,t1,rfl⟩
theorem sets_bits {n:Nat} {ns:List DN} (h:ZTab n ns) {r:Int} (hr:RefOk ns r) {b:Nat} (hb:∀j:Nat,evZ n ns r≤j→b.testBit j=false) {s:Nat} (hs:s∈setsZ ns r b):∀j:Nat,(j:Int)<evZ n ns r→s.testBit j=b.testBit j:=by
 obtain⟨t,t1,rfl⟩:=(sets_mem h r hr b hb s).1 hs
 intro j hj
 rw [Nat.testBit_or]
 cases ht:t.testBit j
 ·simp
 ·have:=mem_bits h r hr t t1 j ht
  omega
theorem sets_nodup {n:Nat} {ns:List DN} (h:ZTab n ns):∀r,RefOk ns r→∀b:Nat,(∀j:Nat,evZ n ns r≤j→b.testBit j=false)→(setsZ ns r b).Nodup:=by
 refine h.ind (fun r h0 h1 b _=> ?_) fun r h2 hr il ih b hb=> ?_
 ·rw [sets_leaf om]
  split<;>simp
 ·have hi:(r-2).toNat<ns.length:=by unfold RefOk at hr;omega
  have nd:=h _ hi
  obtain⟨v0,v1,_⟩:=nd.nk
  obtain⟨k1,k2⟩:=h.kids hi
  have bl:=nd.bl
  have bh:=nd.bh
  rw [evZ_node h2] at hb
  rw [sets_step h h2 hr]
  generalize hv:(ns.getD (r-2).toNat dn0).v.toNat=v at*
  have b1:∀j:Nat,evZ n ns (ns.getD (r-2).toNat dn0).lo≤j→b.testBit j=false:=fun j hj=>hb j om
  have b2:∀j:Nat,evZ n ns (ns.getD (r-2).toNat dn0).hi≤j→(b|||2^v).testBit j=false:=fun j hj=>by
   rw [Nat.testBit_or,hb j om,Nat.testBit_two_pow,decide_eq_false om];rfl
  refine List.nodup_append.2 ⟨il b b1,ih _ b2,fun x hx y hy e=> ?_⟩
  subst e
  have e1:=sets_bits h k1 b1 hx v om
  have e2:=sets_bits h k2 b2 hy v om
  rw [e1,Nat.testBit_or,Nat.testBit_two_pow,hb v om] at e2
  simp at e2
theorem setsF_app {n:Nat} {ns xs:List DN} (h:ZTab n ns):∀(k:Nat) (r:Int) (b:Nat),RefOk ns r→setsF (ns++xs) k r b=setsF ns k r b
 |0,r,s,_=>rfl
 |k+1,r,s,hr=>by
  rw [setsF,setsF]
  split
  ·rfl
  ·rename_i h1
   unfold RefOk at hr
   obtain⟨k1,k2⟩:=h.kids (show(r-2).toNat<ns.length by omega)
   rw [getD_app om,setsF_app h k _ _ k1,setsF_app h k _ _ k2]
def cntZ (ns:List DN) (r:Int):Int:=(setsZ ns r 0).length
theorem sets_len {n:Nat} {ns:List DN} (h:ZTab n ns):∀r,RefOk ns r→∀b b':Nat,(setsZ ns r b).length=(setsZ ns r b').length:=by
 refine h.ind (fun r h0 h1 b b'=> ?_) fun r h2 hr il ih b b'=> ?_
 ·rw [sets_leaf om,sets_leaf om];split<;>rfl
 ·rw [sets_step h h2 hr,sets_step h h2 hr,List.length_append,List.length_append,il b b',ih _ (b'|||2^(ns.getD (r-2).toNat dn0).v.toNat)]
theorem cnt_leaf {ns:List DN} {r:Int} (h0:0≤r) (h:r<2):cntZ ns r=r:=by
 unfold cntZ
 rw [sets_leaf h]
 by_cases e:r=1
 ·subst e;rfl
 ·rw [if_neg e];simp;omega
theorem cnt_step {n:Nat} {ns:List DN} (h:ZTab n ns) {r:Int} (h2:2≤r) (hr:RefOk ns r):cntZ ns r=cntZ ns (ns.getD (r-2).toNat dn0).lo+cntZ ns (ns.getD (r-2).toNat dn0).hi:=by
 have hi:(r-2).toNat<ns.length:=by unfold RefOk at hr;omega
 obtain⟨k1,k2⟩:=h.kids hi
 unfold cntZ
 rw [sets_step h h2 hr,List.length_append,sets_len h _ k2 (0|||2^(ns.getD (r-2).toNat dn0).v.toNat) 0]
 omega
theorem cnt_app {n:Nat} {ns xs:List DN} (h:ZTab n ns) {r:Int} (hr:RefOk ns r):cntZ (ns++xs) r=cntZ ns r:=by
 unfold cntZ setsZ
 rw [setsF_app h _ _ _ hr]
theorem cntZ_le {n:Nat} {ns:List DN} (h:ZTab n ns):∀r,RefOk ns r→0≤cntZ ns r∧cntZ ns r≤2^(n-(evZ n ns r).toNat):=by
 refine h.ind (fun r h0 h1=> ?_) fun r h2 hr il ih=> ?_
 ·rw [cnt_leaf h0 om]
  have:(1:Int)≤2^(n-(evZ n ns r).toNat):=by
   have:=Nat.pow_pos (n:=n-(evZ n ns r).toNat) (show 0<2 by omega)
   exact_mod_cast this
  omega
 ·have hi:(r-2).toNat<ns.length:=by unfold RefOk at hr;omega
  have nd:=h _ hi
  obtain⟨v0,v1,_⟩:=nd.nk
  obtain⟨k1,k2⟩:=h.kids hi
  have bl:=nd.bl
  have bh:=nd.bh
  rw [cnt_step h h2 hr,evZ_node h2]
  have e1:=evZ_le h k1
  have e2:=evZ_le h k2
  obtain⟨q,hq⟩:∃q,n-(ns.getD (r-2).toNat dn0).v.toNat=q+1:=⟨n-(ns.getD (r-2).toNat dn0).v.toNat-1,by omega⟩
  rw [hq]
  have p1:(2:Int)^(n-(evZ n ns (ns.getD (r-2).toNat dn0).lo).toNat)≤2^q:=by
   have:=Nat.pow_le_pow_right (n:=2) om (show n-(evZ n ns (ns.getD (r-2).toNat dn0).lo).toNat≤q by omega)
   exact_mod_cast this
  have p2:(2:Int)^(n-(evZ n ns (ns.getD (r-2).toNat dn0).hi).toNat)≤2^q:=by
   have:=Nat.pow_le_pow_right (n:=2) om (show n-(evZ n ns (ns.getD (r-2).toNat dn0).hi).toNat≤q by omega)
   exact_mod_cast this
  have p3:(2:Int)^(q+1)=2^q*2:=Int.pow_succ 2 q
  omega
end Go.PN
namespace Go.AI
@[go_sem ↓] theorem updF_3_0' (a b c x:CV):updF (ofL [a,b,c]) 0 [x]=ofL [x,b,c]:=updF_at [a,b,c] 0 x (by simp)
end Go.AI
namespace Go.PN
open Go.AI
def ZH (T DT:TypeId) (gT gU gM:Nat) (og:Option Nat) (ns:List DN) (mm:Mem3):Heap:=
 [(gT,.cells T 3 (ofL [gs og 3 ns.length,.raw (.map (some gU)),.raw (.map (some gM))])),(gU,.gen (MapI dkV (uqTo ns 0))),(gM,.gen (MapI keyS (mmL mm)))]++gh og DT (ns.length*3) (dnsF ns)
theorem zh_ne {T DT:TypeId} {gT gU gM:Nat} {og:Option Nat} {ns:List DN} {mm:Mem3} (hnd:(ZH T DT gT gU gM og ns mm).keys.Nodup):(((gT=gU)=False∧(gU=gT)=False)∧((gT=gM)=False∧(gM=gT)=False)∧((gU=gM)=False∧(gM=gU)=False))∧∀g,og=some g→((gT=g)=False∧(g=gT)=False)∧((gU=g)=False∧(g=gU)=False)∧((gM=g)=False∧(g=gM)=False):=by
 cases og with
 |none=>
  simp only [ZH,gh,Heap.keys,List.append_nil,List.map_cons,List.map_nil] at hnd
  obtain⟨⟨h1,h2,_⟩,⟨h3,_⟩,_⟩:=ndP_of hnd
  exact⟨⟨h1,h2,h3⟩,fun g e=>by cases e⟩
 |some g'=>
  simp only [ZH,gh,Heap.keys,List.cons_append,List.nil_append,List.map_cons,List.map_nil] at hnd
  obtain⟨⟨h1,h2,h4,_⟩,⟨h3,h5,_⟩,⟨h6,_⟩,_⟩:=ndP_of hnd
  refine⟨⟨h1,h2,h3⟩,fun g e=> ?_⟩
  injection e with e
  subst e
  exact⟨h4,h5,h6⟩
end Go.PN
namespace Go.Proofs.YtefekdejgbceiaaGreat
open Go.AI Go.PN
attribute [local irreducible] aw Fa Fh DrK
abbrev ZHp (gT gU gM:Nat) (og:Option Nat) (ns:List DN) (mm:Mem3):Heap:=ZH 205 119 gT gU gM og ns mm
theorem ty_ks:KeyOk Tryz.prog 216 keyS:=keyS_ok (by kernel_rfl)
theorem zmake_fh (gT gU gM:Nat) (og:Option Nat) (ns:List DN) (mm:Mem3) (v lo hi:Int) (hog:og=none→ns.length=0) (hn:ns.length≤1000000000):
  Fh Tryz.prog 182 (ZHp gT gU gM og ns mm) [.c (.optr gT 0),.c (.int .i64 v),.c (.int .i64 lo),.c (.int .i64 hi)]
   (fun r h=>∃og',(og'=none→(mkZ ns v lo hi).1.length=0)∧r=.c (.int .i64 (mkZ ns v lo hi).2)∧h=ZHp gT gU gM og' (mkZ ns v lo hi).1 mm):=by
 refine fh_of_body Tryz.func182 rfl rfl (by simp [Tryz.ntmps182]) fun C hC=> ?_
 simp only [initS,Nat.reduceAdd]
 refine aw_nd fun hnd=> ?_
 obtain⟨d,d4⟩:=zh_ne hnd
 have hlen:=lenCV_gs (s:=3) hog
 unfold ZHp ZH
 simp only [List.cons_append,List.nil_append]
 repeat first|apply wa1|apply wa2|apply wa3|apply wa4|apply wa5 rfl|apply wa6|apply wa7|(refine wb1 rfl fun R r=>?_;simp only[go_sem,d,↓hlen];with_reducible show R (some _);with_reducible refine r _ _ ?_;clear r R)
 refine aw_cond (by simp only[go_sem,d,↓hlen]<;>rfl) (fun h1=> ?_) (fun h1=> ?_)
 ·have h1':hi=0:=eq_of_beq h1
  repeat first|apply wa1|apply wa2|apply wa3|apply wa4|apply wa5 rfl|apply wa6|apply wa7|(refine wb1 rfl fun R r=>?_;simp only[go_sem,d,↓hlen];with_reducible show R (some _);with_reducible refine r _ _ ?_;clear r R)
  (refine aw_rethq rfl fun R r=>?_;simp only[go_sem,d,↓hlen];refine r _ rfl ?_;clear r R)
  unfold mkZ
  rw [if_pos h1']
  exact⟨og,hog,rfl,rfl⟩
 have h1':¬hi=0:=by simpa using h1
 repeat first|apply wa1|apply wa2|apply wa3|apply wa4|apply wa5 rfl|apply wa6|apply wa7|(refine wb1 rfl fun R r=>?_;simp only[go_sem,d,↓hlen];with_reducible show R (some _);with_reducible refine r _ _ ?_;clear r R)
 refine aw_alloc rfl rfl rfl (by simp only[go_sem,d,↓hlen]<;>rfl) fun g9 hn_g9=> ?_
 replace hn_g9:=Heap.ne_of hn_g9
 first|dsimp only [Heap.ne,gh] at hn_g9|dsimp only [Heap.ne] at hn_g9|skip
 (try simp only[go_sem,d,↓hlen,hn_g9])
 repeat first|apply wa1|apply wa2|apply wa3|apply wa4|apply wa5 rfl|apply wa6|apply wa7|(refine wb1 rfl fun R r=>?_;simp only[go_sem,d,↓hlen,hn_g9];with_reducible show R (some _);with_reducible refine r _ _ ?_;clear r R)
 refine aw_store rfl rfl rfl rfl (by simp only[go_sem,d,↓hlen,hn_g9]<;>rfl) (by simp only[go_sem,d,↓hlen,hn_g9]<;>rfl) (by simp only[go_sem,d,↓hlen,hn_g9]<;>rfl) (by simp only[go_sem,d,↓hlen,hn_g9]<;>rfl) (fun _ e=>by cases e) (by rfl) (by rfl) (by first|omega|simp) rfl ?_
 (try simp only[go_sem,d,↓hlen,hn_g9])
 repeat first|apply wa1|apply wa2|apply wa3|apply wa4|apply wa5 rfl|apply wa6|apply wa7|(refine wb1 rfl fun R r=>?_;simp only[go_sem,d,↓hlen,hn_g9];with_reducible show R (some _);with_reducible refine r _ _ ?_;clear r R)
 refine aw_dr 11 ty_mixed (by kernel_rfl) ?_
 repeat first|apply wa1|apply wa2|apply wa3|apply wa4|apply wa5 rfl|apply wa6|apply wa7|(refine wb1 rfl fun R r=>?_;simp only[go_sem,d,↓hlen,hn_g9];with_reducible show R (some _);with_reducible refine r _ _ ?_;clear r R)|apply wa8|(refine wd1 rfl fun R r=>?_;simp only[go_sem,d,↓hlen,hn_g9];with_reducible show R (some _);with_reducible refine r _ _ ?_;clear r R)
 refine drk_lookup2 (a:=dk ⟨v,lo,hi⟩) (kv:=uqTo ns 0) (Kf:=dkV) (kt:=119) (et:=3) rfl rfl rfl (by kernel_rfl) dk_ok ty_iz (by simp only[go_sem,d,↓hlen,hn_g9]<;>rfl) (by simp only[go_sem,d,↓hlen,hn_g9]<;>rfl) (by simp only[go_sem,d,↓hlen,hn_g9]<;>rfl) dk_rep ?_
 (try simp only[go_sem,d,↓hlen,hn_g9])
 rw [uq_get]
 cases hf:findN ⟨v,lo,hi⟩ ns 0 with
 |some i=>
  try simp only [Option.map_some,Option.getD_some,Option.isSome_some,cstC]
  repeat first|apply wa1|apply wa2|apply wa3|apply wa4|apply wa5 rfl|apply wa6|apply wa7|(refine wb1 rfl fun R r=>?_;simp only[go_sem,d,↓hlen,hn_g9];with_reducible show R (some _);with_reducible refine r _ _ ?_;clear r R)|apply wa8|(refine wd1 rfl fun R r=>?_;simp only[go_sem,d,↓hlen,hn_g9];with_reducible show R (some _);with_reducible refine r _ _ ?_;clear r R)
  refine aw_condF (by simp only[go_sem,d,↓hlen,hn_g9]<;>rfl) ?_
  repeat first|apply wa1|apply wa2|apply wa3|apply wa4|apply wa5 rfl|apply wa6|apply wa7|(refine wb1 rfl fun R r=>?_;simp only[go_sem,d,↓hlen,hn_g9];with_reducible show R (some _);with_reducible refine r _ _ ?_;clear r R)|apply wa8|(refine wd1 rfl fun R r=>?_;simp only[go_sem,d,↓hlen,hn_g9];with_reducible show R (some _);with_reducible refine r _ _ ?_;clear r R)
  refine aw_keep [(8,.c (.int .i64 (2+i)))] (ZHp gT gU gM og ns mm) (by simp only[go_sem,d,↓hlen,hn_g9]<;>and_intros<;>first|exact True.intro|(with_reducible rfl)|exact c_int om|rfl) (List.Sublist.cons _ (List.Sublist.refl _)) ?_
  (refine aw_rethq rfl fun R r=>?_;simp only[go_sem,d,↓hlen,hn_g9];refine r _ rfl ?_;clear r R)
  unfold mkZ
  rw [if_neg h1',hf]
  exact⟨og,hog,rfl,rfl⟩
 |none=>
  try simp only [Option.map_none,Option.getD_none,Option.isSome_none,cstC]
  repeat first|apply wa1|apply wa2|apply wa3|apply wa4|apply wa5 rfl|apply wa6|apply wa7|(refine wb1 rfl fun R r=>?_;simp only[go_sem,d,↓hlen,hn_g9];with_reducible show R (some _);with_reducible refine r _ _ ?_;clear r R)|apply wa8|(refine wd1 rfl fun R r=>?_;simp only[go_sem,d,↓hlen,hn_g9];with_reducible show R (some _);with_reducible refine r _ _ ?_;clear r R)
  refine aw_condT (by simp only[go_sem,d,↓hlen,hn_g9]<;>rfl) ?_
  repeat first|apply wa1|apply wa2|apply wa3|apply wa4|apply wa5 rfl|apply wa6|apply wa7|(refine wb1 rfl fun R r=>?_;simp only[go_sem,d,↓hlen,hn_g9];with_reducible show R (some _);with_reducible refine r _ _ ?_;clear r R)
  refine aw_cut (fun g:Nat=>[(0,.c (.optr gT 0)),(9,.c (.optr g9 0)),(10,.c (.int .i64 (2+(ns.length:Int))))]) (fun g=>(g9,.cells 119 3 (ofL [.int .i64 v,.int .i64 lo,.int .i64 hi]))::(gT,.cells 205 3 (ofL [.osl g 3 0 (ns.length+1),.raw (.map (some gU)),.raw (.map (some gM))]))::(gU,.gen (MapI dkV (uqTo ns 0)))::(gM,.gen (MapI keyS (mmL mm)))::[(g,.cells 119 ((ns.length+1)*3) (dnsF (ns++[⟨v,lo,hi⟩])))]) (fun g=>g∉Heap.keys [(g9,.cells 0 0 (ofL [])),(gT,.cells 0 0 (ofL [])),(gU,.cells 0 0 (ofL [])),(gM,.cells 0 0 (ofL []))]) ?_ ?_
  ·refine aw_drL 7 0 36 ty_mixed (by kernel_rfl) ?_
   repeat (refine drg_2q rfl fun R r=>?_;simp only[go_sem,d,↓hlen,hn_g9];with_reducible show R (some _);with_reducible refine r _ _ ?_;clear r R)
   refine drg_new rfl (NewX.buildSlice (xs:=[.tmp 41]) (cells:=[.int .i64 v,.int .i64 lo,.int .i64 hi]) rfl rfl rfl (by simp only[go_sem,d,↓hlen,hn_g9]<;>rfl) (by(try simp only[go_sem,d,↓hlen,hn_g9]);rfl) rfl om om (by intro x hx;simp only [List.mem_singleton] at hx;subst hx;exact⟨rfl,rfl,rfl⟩) rfl (by simp [Op.operands])) (by kernel_rfl) ?_
   (try simp only[go_sem,d,↓hlen,hn_g9])
   refine drg_nil ⟨by simp,fun γ=> ?_,fun γ=> ?_⟩
   ·simp only [List.drop_succ_cons,List.drop_zero,List.take_succ_cons,List.take_zero,List.cons_append,List.nil_append]
    (try simp only[go_sem,d,↓hlen,hn_g9])
    try simp only [List.cons_append,List.nil_append]
    generalize γ 6=gt
    refine aw_push2 (e:=119) (size:=3) (bytes:=24) (n:=ns.length) (z:=[.int .i64 0,.int .i64 0,.int .i64 0]) (f:=dnsF ns) (pre:=[(g9,.cells 119 3 (ofL [.int .i64 v,.int .i64 lo,.int .i64 hi])),(gT,.cells 205 3 (ofL [gs og 3 ns.length,.raw (.map (some gU)),.raw (.map (some gM))])),(gU,.gen (MapI dkV (uqTo ns 0))),(gM,.gen (MapI keyS (mmL mm)))]) (f':=dnsF (ns++[⟨v,lo,hi⟩])) (v:=.agg [.int .i64 v,.int .i64 lo,.int .i64 hi]) rfl rfl rfl (by simp only[go_sem,d,↓hlen,hn_g9]<;>rfl) (by simp only[go_sem,d,↓hlen,hn_g9]<;>rfl) rfl om om (by simp only[go_sem,d,↓hlen,hn_g9]<;>rfl) (by simp only[go_sem,d,↓hlen,hn_g9]<;>rfl) hog (by rfl) (by rfl) (by simp only [List.cons_append,List.nil_append];rfl) (by unfold maxLen;omega) om (lf_push (xs:=ns) rfl (⟨v,lo,hi⟩:DN) om) fun g hn_g=> ?_
    (try simp only[go_sem,d,↓hlen,hn_g9])
    simp only [gs,gh,List.cons_append,List.nil_append]
    repeat first|apply wa7|(refine wb1 rfl fun R r=>?_;simp only[go_sem,d,↓hlen,hn_g9];with_reducible show R (some _);with_reducible refine r _ _ ?_;clear r R)|apply wa8|(refine wd1 rfl fun R r=>?_;simp only[go_sem,d,↓hlen,hn_g9];with_reducible show R (some _);with_reducible refine r _ _ ?_;clear r R)
    refine aw_store rfl rfl rfl rfl (by simp only[go_sem,d,↓hlen,hn_g9]<;>rfl) (by simp only[go_sem,d,↓hlen,hn_g9]<;>rfl) (by simp only[go_sem,d,↓hlen,hn_g9]<;>rfl) (by simp only[go_sem,d,↓hlen,hn_g9]<;>rfl) (fun _ e=>by cases e) (by rfl) (by rfl) (by first|omega|simp) rfl ?_
    (try simp only[go_sem,d,↓hlen,hn_g9])
    repeat first|apply wa7|(refine wb1 rfl fun R r=>?_;simp only[go_sem,d,↓hlen,hn_g9];with_reducible show R (some _);with_reducible refine r _ _ ?_;clear r R)
    exact aw_stop ⟨g,(by simp only[go_sem,d,↓hlen,hn_g9]<;>and_intros<;>first|exact True.intro|(with_reducible rfl)|exact c_int om|rfl),(List.Sublist.refl _),hn_g⟩
   ·simp only [List.drop_succ_cons,List.drop_zero,List.take_succ_cons,List.take_zero,List.cons_append,List.nil_append]
    (try simp only[go_sem,d,↓hlen,hn_g9])
    try simp only [List.cons_append,List.nil_append]
    generalize γ 6=gt
    refine aw_push2 (e:=119) (size:=3) (bytes:=24) (n:=ns.length) (z:=[.int .i64 0,.int .i64 0,.int .i64 0]) (f:=dnsF ns) (pre:=[(g9,.cells 119 3 (ofL [.int .i64 v,.int .i64 lo,.int .i64 hi])),(gT,.cells 205 3 (ofL [gs og 3 ns.length,.raw (.map (some gU)),.raw (.map (some gM))])),(gU,.gen (MapI dkV (uqTo ns 0))),(gM,.gen (MapI keyS (mmL mm)))]) (f':=dnsF (ns++[⟨v,lo,hi⟩])) (v:=.agg [.int .i64 v,.int .i64 lo,.int .i64 hi]) rfl rfl rfl (by simp only[go_sem,d,↓hlen,hn_g9]<;>rfl) (by simp only[go_sem,d,↓hlen,hn_g9]<;>rfl) rfl om om (by simp only[go_sem,d,↓hlen,hn_g9]<;>rfl) (by simp only[go_sem,d,↓hlen,hn_g9]<;>rfl) hog (by rfl) (by rfl) (by simp only [List.cons_append,List.nil_append];rfl) (by unfold maxLen;omega) om (lf_push (xs:=ns) rfl (⟨v,lo,hi⟩:DN) om) fun g hn_g=> ?_
    (try simp only[go_sem,d,↓hlen,hn_g9])
    simp only [gs,gh,List.cons_append,List.nil_append]
    repeat first|apply wa7|(refine wb1 rfl fun R r=>?_;simp only[go_sem,d,↓hlen,hn_g9];with_reducible show R (some _);with_reducible refine r _ _ ?_;clear r R)
    refine aw_store rfl rfl rfl rfl (by simp only[go_sem,d,↓hlen,hn_g9]<;>rfl) (by simp only[go_sem,d,↓hlen,hn_g9]<;>rfl) (by simp only[go_sem,d,↓hlen,hn_g9]<;>rfl) (by simp only[go_sem,d,↓hlen,hn_g9]<;>rfl) (fun _ e=>by cases e) (by rfl) (by rfl) (by first|omega|simp) rfl ?_
    (try simp only[go_sem,d,↓hlen,hn_g9])
    repeat first|apply wa7|(refine wb1 rfl fun R r=>?_;simp only[go_sem,d,↓hlen,hn_g9];with_reducible show R (some _);with_reducible refine r _ _ ?_;clear r R)
    exact aw_stop ⟨g,(by simp only[go_sem,d,↓hlen,hn_g9]<;>and_intros<;>first|exact True.intro|(with_reducible rfl)|exact c_int om|rfl),(List.Sublist.refl _),hn_g⟩
  rintro g hn_g
  replace hn_g:=Heap.ne_of hn_g
  dsimp only [Heap.ne] at hn_g
  repeat first|apply wa1|apply wa2|apply wa3|apply wa4|apply wa5 rfl|apply wa6|apply wa7|(refine wb1 rfl fun R r=>?_;simp only[go_sem,d,↓hlen,hn_g9,hn_g];with_reducible show R (some _);with_reducible refine r _ _ ?_;clear r R)
  refine aw_dr 6 ty_mixed (by kernel_rfl) ?_
  repeat first|apply wa1|apply wa2|apply wa3|apply wa4|apply wa5 rfl|apply wa6|apply wa7|(refine wb1 rfl fun R r=>?_;simp only[go_sem,d,↓hlen,hn_g9,hn_g];with_reducible show R (some _);with_reducible refine r _ _ ?_;clear r R)|apply wa8|(refine wd1 rfl fun R r=>?_;simp only[go_sem,d,↓hlen,hn_g9,hn_g];with_reducible show R (some _);with_reducible refine r _ _ ?_;clear r R)
  refine aw_mapNew (a:=dk ⟨v,lo,hi⟩) (kv:=uqTo ns 0) (Kf:=dkV) (v:=.int .i64 (2+(ns.length:Int))) rfl rfl rfl (kt:=119) (et:=3) (by kernel_rfl) dk_ok (by simp only[go_sem,d,↓hlen,hn_g9,hn_g]<;>rfl) (by simp only[go_sem,d,↓hlen,hn_g9,hn_g]<;>rfl) (by simp only[go_sem,d,↓hlen,hn_g9,hn_g]<;>rfl) dk_rep (cv:=.c (.int .i64 (2+(ns.length:Int)))) (by simp only[go_sem,d,↓hlen,hn_g9,hn_g]<;>rfl) (fun S w u h=>h) (by rw [uq_get,hf];rfl) (by simp only[go_sem,d,↓hlen,hn_g9,hn_g]<;>rfl) ?_
  have hup:=uq_push ⟨v,lo,hi⟩ ns 0
  rw [Nat.zero_add] at hup
  rw [←hup]
  (try simp only[go_sem,d,↓hlen,hn_g9,hn_g])
  repeat first|apply wa1|apply wa2|apply wa3|apply wa4|apply wa5 rfl|apply wa6|apply wa7|(refine wb1 rfl fun R r=>?_;simp only[go_sem,d,↓hlen,hn_g9,hn_g];with_reducible show R (some _);with_reducible refine r _ _ ?_;clear r R)|apply wa8|(refine wd1 rfl fun R r=>?_;simp only[go_sem,d,↓hlen,hn_g9,hn_g];with_reducible show R (some _);with_reducible refine r _ _ ?_;clear r R)
  refine aw_keep [(8,.c (.int .i64 (2+(ns.length:Int))))] (ZHp gT gU gM (some g) (ns++[⟨v,lo,hi⟩]) mm) (by simp only[go_sem,d,↓hlen,hn_g9,hn_g]<;>and_intros<;>first|exact True.intro|(with_reducible rfl)|exact c_int om|rfl) (by
   unfold ZHp ZH
   rw [List.length_append]
   exact List.Sublist.cons _ (List.Sublist.refl _)) ?_
  (refine aw_rethq rfl fun R r=>?_;simp only[go_sem,d,↓hlen,hn_g9,hn_g];refine r _ rfl ?_;clear r R)
  unfold mkZ
  rw [if_neg h1',hf]
  exact⟨some g,some_ne,rfl,rfl⟩
theorem zevent_fh (gT gU gM:Nat) (og:Option Nat) (ns:List DN) (mm:Mem3) (r:Int) (hog:og=none→ns.length=0) (hn:ns.length≤1000000000) (hr:RefOk ns r):
  Fh Tryz.prog 200 (ZHp gT gU gM og ns mm) [.c (.optr gT 0),.c (.int .i64 r)] (fun x h=>x=.c (.int .i64 (evZ 24 ns r))∧h=ZHp gT gU gM og ns mm):=by
 unfold RefOk at hr
 refine fh_of_body Tryz.func200 rfl rfl (by simp [Tryz.ntmps200]) fun C hC=> ?_
 simp only [initS,Nat.reduceAdd]
 refine xG ?_
 refine xF (fun h1=>?_) fun h1=>?_
 ·have h1':=of_decide_eq_true h1
  refine xGU ?_
  unfold evZ
  rw [if_pos h1']
  exact⟨rfl,rfl⟩
 have h1':=of_decide_eq_false h1
 refine aw_nd fun hnd=> ?_
 obtain⟨d,d4⟩:=zh_ne hnd
 obtain⟨g,rfl⟩:∃g,og=some g:=by
  cases og with
  |none=>have:=hog rfl;omega
  |some g=>exact⟨g,rfl⟩
 have q:=d4 g rfl
 have hi:(r-2).toNat<ns.length:=by omega
 unfold ZHp ZH
 simp only [gs,gh,List.cons_append,List.nil_append]
 refine yG (oj d q) ?_
 refine yU (oj d q) ?_
 unfold evZ
 rw [if_neg h1']
 exact⟨rfl,rfl⟩
theorem zkids_fh (gT gU gM:Nat) (og:Option Nat) (ns:List DN) (mm:Mem3) (r L:Int) (hog:og=none→ns.length=0) (hn:ns.length≤1000000000) (hr:RefOk ns r) (hL:L<24):
  Fh Tryz.prog 201 (ZHp gT gU gM og ns mm) [.c (.optr gT 0),.c (.int .i64 r),.c (.int .i64 L)] (fun x h=>x=.tup [.c (.int .i64 (kidsZ 24 ns r L).1),.c (.int .i64 (kidsZ 24 ns r L).2)]∧h=ZHp gT gU gM og ns mm):=by
 refine fh_of_body Tryz.func201 rfl rfl (by simp [Tryz.ntmps201]) fun C hC=> ?_
 simp only [initS,Nat.reduceAdd]
 refine xG ?_
 refine aw_callh (hr:=[]) (zevent_fh gT gU gM og ns mm r hog hn hr) rfl rfl rfl (by rw [List.append_nil]) eL ?_
 rintro _ _ ⟨rfl,rfl⟩ _
 rw [List.append_nil]
 refine xSG ?_
 refine xF (fun h1=>?_) fun h1=>?_
 ·refine xGU ?_
  unfold kidsZ
  rw [if_pos (by simpa using h1)]
  exact⟨rfl,rfl⟩
 have h1':evZ 24 ns r=L:=by simpa using h1
 have hr2:2≤r:=by
  refine Classical.byContradiction fun hc=> ?_
  rw [ev_leaf om] at h1'
  omega
 unfold RefOk at hr
 refine aw_nd fun hnd=> ?_
 obtain⟨d,d4⟩:=zh_ne hnd
 obtain⟨g,rfl⟩:∃g,og=some g:=by
  cases og with
  |none=>have:=hog rfl;omega
  |some g=>exact⟨g,rfl⟩
 have q:=d4 g rfl
 unfold ZHp ZH
 simp only [gs,gh,List.cons_append,List.nil_append]
 refine yG (oj d q) ?_
 refine yA (oj d q) fun g8 hn_g8=>?_
 have J1:=oj d (oj q hn_g8)
 refine yGWSG J1 ?_
 refine aw_dr 6 ty_mixed (by kernel_rfl) ?_
 refine yG J1 ?_
 refine aw_keep [(6,.c (.int .i64 (ns.getD (r-2).toNat dn0).lo)),(7,.c (.int .i64 (ns.getD (r-2).toNat dn0).hi))] (ZHp gT gU gM (some g) ns mm) (zB J1) (List.Sublist.cons _ (List.Sublist.refl _)) ?_
 refine yU J1 ?_
 unfold kidsZ
 rw [if_neg (by simpa using h1')]
 exact⟨rfl,rfl⟩
theorem zempty_fh (gT gU gM:Nat) (og:Option Nat) (ns:List DN) (mm:Mem3) (r:Int) {n:Nat} (hog:og=none→ns.length=0) (hn:ns.length≤1000000000) (ht:ZTab n ns) (hr:RefOk ns r):
  Fh Tryz.prog 198 (ZHp gT gU gM og ns mm) [.c (.optr gT 0),.c (.int .i64 r)] (fun x h=>x=.c (.bool (memZ ns r 0))∧h=ZHp gT gU gM og ns mm):=by
 refine fh_of_body Tryz.func198 rfl rfl (by simp [Tryz.ntmps198]) fun C hC=> ?_
 simp only [initS,Nat.reduceAdd]
 refine aw_nd fun hnd=> ?_
 obtain⟨d,d4⟩:=zh_ne hnd
 refine xG ?_
 refine aw_lp (fun x:Int=>[(0,.c (.optr gT 0)),(1,.c (.int .i64 x))]) (fun _=>ZHp gT gU gM og ns mm) (fun x=>RefOk ns x∧memZ ns x 0=memZ ns r 0) (fun x=>x.toNat) r eB zZ ⟨hr,rfl⟩ ?_
 rintro x ⟨hx,hm⟩
 refine xG ?_
 refine xF (fun h1=>?_) fun h1=>?_
 ·have h1':=of_decide_eq_true h1
  have hx':=hx
  unfold RefOk at hx'
  have hi:(x-2).toNat<ns.length:=by omega
  obtain⟨g,rfl⟩:∃g,og=some g:=by
   cases og with
   |none=>have:=hog rfl;omega
   |some g=>exact⟨g,rfl⟩
  have q:=d4 g rfl
  obtain⟨k1,k2⟩:=ht.kids hi
  obtain⟨_,_,l0,l1,_,_⟩:=(ht _ hi).nk
  unfold ZHp ZH
  simp only [gs,gh,List.cons_append,List.nil_append]
  refine yG (oj d q) ?_
  refine aw_stop ⟨(ns.getD (x-2).toNat dn0).lo,?_,(zB (oj d q)),zZ,k1,?_⟩
  ·omega
  ·rw [←hm,mem_step ht h1' hx]
   simp
 ·have h1':=of_decide_eq_false h1
  refine xGU ?_
  refine⟨?_,rfl⟩
  rw [←hm,mem_leaf om]
  simp
  try rfl
end Go.Proofs.YtefekdejgbceiaaGreat
namespace Go.Proofs.YtefekdejgbceiaaGreat
open Go.AI Go.PN
attribute [local irreducible] aw Fa Fh DrK
theorem th_ne {gT gU gM:Nat} {og:Option Nat} {o pl:List Int} {ns:List DN} {mm:Mem3} (hnd:(THp gT gU gM og o pl ns mm).keys.Nodup):(¬gT=gU∧¬gU=gT)∧(¬gT=gM∧¬gM=gT)∧(¬gU=gM∧¬gM=gU)∧∀g,og=some g→(¬gT=g∧¬g=gT)∧(¬gU=g∧¬g=gU)∧(¬gM=g∧¬g=gM):=by
 cases og with
 |none=>
  simp only [THp,TH,gh,Heap.keys,List.append_nil,List.map_cons,List.map_nil,List.nodup_cons,List.mem_cons,List.not_mem_nil,or_false,not_or,not_false_eq_true,List.nodup_nil,and_true] at hnd
  obtain⟨⟨h1,h2⟩,h3⟩:=hnd
  exact⟨⟨h1,fun e=>h1 e.symm⟩,⟨h2,fun e=>h2 e.symm⟩,⟨h3,fun e=>h3 e.symm⟩,fun g e=>by cases e⟩
 |some g'=>
  simp only [THp,TH,gh,Heap.keys,List.cons_append,List.nil_append,List.map_cons,List.map_nil,List.nodup_cons,List.mem_cons,List.not_mem_nil,or_false,not_or,not_false_eq_true,List.nodup_nil,and_true] at hnd
  obtain⟨⟨h1,h2,h4⟩,⟨h3,h5⟩,h6⟩:=hnd
  refine⟨⟨h1,fun e=>h1 e.symm⟩,⟨h2,fun e=>h2 e.symm⟩,⟨h3,fun e=>h3 e.symm⟩,fun g e=> ?_⟩
  injection e with e
  subst e
  exact⟨⟨h4,fun e=>h4 e.symm⟩,⟨h5,fun e=>h5 e.symm⟩,⟨h6,fun e=>h6 e.symm⟩⟩
def PlOk (o pl:List Int):Prop:=pl.length=o.length∧∀v:Nat,v<o.length→pl.getD v 0=placeZ o v
theorem level_fh (gT gU gM:Nat) (og:Option Nat) (o pl:List Int) (ns:List DN) (mm:Mem3) (r:Int) (hog:og=none→ns.length=0) (hn:ns.length≤1000000000) (ht:TabOk o ns) (hr:RefOk ns r) (hpl:PlOk o pl) (ho:o.length≤1000):
  Fh Tryz.prog 144 (THp gT gU gM og o pl ns mm) [.c (.optr gT 0),.c (.int .i64 r)] (fun x h=>x=.c (.int .i64 (lvZ o ns r))∧h=THp gT gU gM og o pl ns mm):=by
 unfold RefOk at hr
 refine fh_of_body Tryz.func144 rfl rfl (by simp [Tryz.ntmps144]) fun C hC=> ?_
 simp only [initS,Nat.reduceAdd]
 refine aw_nd fun hnd=> ?_
 obtain⟨d1,d2,d3,d4⟩:=th_ne hnd
 unfold THp TH
 simp only [List.cons_append,List.nil_append]
 have J1:=oj d1 (oj d2 d3)
 refine yG J1 ?_
 refine yF J1 (fun h1=>?_) fun h1=>?_
 ·have h1':=of_decide_eq_true h1
  refine yG J1 ?_
  refine yU J1 ?_
  unfold lvZ
  rw [if_pos h1']
  exact⟨rfl,rfl⟩
 have h1':=of_decide_eq_false h1
 obtain⟨g,rfl⟩:∃g,og=some g:=by
  cases og with
  |none=>have:=hog rfl;omega
  |some g=>exact⟨g,rfl⟩
 obtain⟨q1,q2,q3⟩:=d4 g rfl
 have hi:(r-2).toNat<ns.length:=by omega
 obtain⟨v0,v1,_,_,_,_⟩:=(ht _ hi).nk
 obtain⟨p1,p2⟩:=hpl
 have hv:=p2 (ns.getD (r-2).toNat dn0).v.toNat om
 rw [show(((ns.getD (r-2).toNat dn0).v.toNat:Nat):Int)=(ns.getD (r-2).toNat dn0).v from by omega] at hv
 simp only [gs,gh]
 have J2:=oj d1 (oj d2 (oj d3 (oj q1 (oj q2 (oj q3 hv)))))
 refine yG J2 ?_
 refine aw_dr 16 ty_mixed (by kernel_rfl) ?_
 refine yG J2 ?_
 refine yU J2 ?_
 unfold lvZ
 rw [if_neg h1']
 exact⟨rfl,rfl⟩
theorem kids_fh (gT gU gM:Nat) (og:Option Nat) (o pl:List Int) (ns:List DN) (mm:Mem3) (r L:Int) (hog:og=none→ns.length=0) (hn:ns.length≤1000000000) (ht:TabOk o ns) (hr:RefOk ns r) (hpl:PlOk o pl) (ho:o.length≤1000) (hL:L<o.length):
  Fh Tryz.prog 145 (THp gT gU gM og o pl ns mm) [.c (.optr gT 0),.c (.int .i64 r),.c (.int .i64 L)] (fun x h=>x=.tup [.c (.int .i64 (kidsF o ns r L).1),.c (.int .i64 (kidsF o ns r L).2)]∧h=THp gT gU gM og o pl ns mm):=by
 refine fh_of_body Tryz.func145 rfl rfl (by simp [Tryz.ntmps145]) fun C hC=> ?_
 simp only [initS,Nat.reduceAdd]
 refine xG ?_
 refine aw_callh (hr:=[]) (level_fh gT gU gM og o pl ns mm r hog hn ht hr hpl ho) rfl rfl rfl (by rw [List.append_nil]) eL ?_
 rintro _ _ ⟨rfl,rfl⟩ _
 rw [List.append_nil]
 refine xSG ?_
 refine xF (fun h1=>?_) fun h1=>?_
 ·refine xGU ?_
  unfold kidsF
  rw [if_pos (by simpa using h1)]
  exact⟨rfl,rfl⟩
 have h1':lvZ o ns r=L:=by simpa using h1
 have hr2:2≤r:=by
  refine Classical.byContradiction fun hc=> ?_
  unfold lvZ at h1'
  rw [if_pos om] at h1'
  omega
 unfold RefOk at hr
 refine aw_nd fun hnd=> ?_
 obtain⟨d1,d2,d3,d4⟩:=th_ne hnd
 obtain⟨g,rfl⟩:∃g,og=some g:=by
  cases og with
  |none=>have:=hog rfl;omega
  |some g=>exact⟨g,rfl⟩
 obtain⟨q1,q2,q3⟩:=d4 g rfl
 unfold THp TH
 simp only [gs,gh,List.cons_append,List.nil_append]
 have J1:=oj d1 (oj d2 (oj d3 (oj q1 (oj q2 q3))))
 refine yG J1 ?_
 refine yA J1 fun g8 hn_g8=>?_
 have J2:=oj d1 (oj d2 (oj d3 (oj q1 (oj q2 (oj q3 hn_g8)))))
 refine yGWSG J2 ?_
 refine aw_dr 6 ty_mixed (by kernel_rfl) ?_
 refine yG J2 ?_
 refine aw_keep [(6,.c (.int .i64 (ns.getD (r-2).toNat dn0).lo)),(7,.c (.int .i64 (ns.getD (r-2).toNat dn0).hi))] (THp gT gU gM (some g) o pl ns mm) (zB J2) (List.Sublist.cons _ (List.Sublist.refl _)) ?_
 refine yU J2 ?_
 unfold kidsF
 rw [if_neg (by simpa using h1')]
 exact⟨rfl,rfl⟩
theorem event_fh (gT gU gM:Nat) (og:Option Nat) (o pl:List Int) (ns:List DN) (mm:Mem3) (v:Int) (hog:og=none→ns.length=0) (hn:ns.length≤1000000000):
  Fh Tryz.prog 31 (THp gT gU gM og o pl ns mm) [.c (.optr gT 0),.c (.int .i64 v)]
   (fun r h=>∃og',(og'=none→(mkF ns v 0 1).1.length=0)∧r=.c (.int .i64 (mkF ns v 0 1).2)∧h=THp gT gU gM og' o pl (mkF ns v 0 1).1 mm):=by
 refine fh_of_body Tryz.func31 rfl rfl (by simp [Tryz.ntmps31]) fun C hC=> ?_
 simp only [initS,Nat.reduceAdd]
 refine xG ?_
 refine aw_callh (hr:=[]) (make_fh gT gU gM og o pl ns mm v 0 1 hog hn) rfl rfl rfl (by rw [List.append_nil]) eL ?_
 rintro _ _ ⟨og',h1,rfl,rfl⟩ _
 rw [List.append_nil]
 refine xSGU ?_
 exact⟨og',h1,rfl,rfl⟩
end Go.Proofs.YtefekdejgbceiaaGreat
namespace Go.Proofs.YtefekdejgbceiaaGreat
open Go.AI Go.PN
attribute [local irreducible] aw Fa Fh DrK
theorem ty_k3:KeyOk Tryz.prog 176 key3:=by
 obtain⟨_,inf,hi,hsz,_⟩:=tElem_spec (show tElem Tryz.prog 28=some (3,1,8) from by kernel_rfl)
 exact key3_ok Tryz.underlying176 Tryz.underlying3 hi hsz
theorem key3_rep {c a b:Int}:∀(S:Bool→Nat→Prop) (w:World) (u:Value),Rep S w (.agg [.int .i64 c,.int .i64 a,.int .i64 b]) u→u=key3 (c,a,b):=by
 rintro S w u ⟨us,rfl,h⟩
 match us,h with
 |[x,y,z],⟨h1,h2,h3,_⟩=>
  have h1:x=_:=h1
  have h2:y=_:=h2
  have h3:z=_:=h3
  rw [h1,h2,h3];rfl
structure OdOk (o pl:List Int):Prop where
 perm:Perm0 o
 pl:PlOk o pl
 l24:o.length≤24
theorem OdOk.mem {o pl:List Int} (h:OdOk o pl):∀v:Int,0≤v→v<o.length→v∈o:=fun v h0 h1=>by
 have:=h.perm.all (j:=v.toNat) om
 rwa [show((v.toNat:Nat):Int)=v from by omega] at this
theorem OdOk.at {o pl:List Int} (h:OdOk o pl):∀i:Nat,i<o.length→0≤o.getD i 0∧o.getD i 0<o.length∧placeZ o (o.getD i 0)=i:=fun i hi=>by
 have:=h.perm.range (o.getD i 0) (by rw [getDZ hi];exact List.getElem_mem hi)
 exact⟨this.1,this.2,place_get h.perm.nodup hi⟩
def ChooseOk (gT gU gM:Nat) (o pl:List Int) (k:Nat):Prop:=∀(og:Option Nat) (ns:List DN) (mm:Mem3) (c a b:Int),(og=none→ns.length=0)→ns.length+2^k≤1000000000→TabOk o ns→MemOk o ns mm→RefOk ns c→RefOk ns a→RefOk ns b→o.length+1≤lv3 o ns (c,a,b)+k→
    Fh Tryz.prog 107 (THp gT gU gM og o pl ns mm) [.c (.optr gT 0),.c (.int .i64 c),.c (.int .i64 a),.c (.int .i64 b)]
     (fun x h=>∃og' ns' mm' r,(og'=none→ns'.length=0)∧ChP o ns mm c a b (lv3 o ns (c,a,b)) k ns' mm' r∧x=.c (.int .i64 r)∧h=THp gT gU gM og' o pl ns' mm')
theorem mmL_push (mm:Mem3) (k:Int×Int×Int) (r:Int):mmL mm++[(k,.int .i64 r)]=mmL (mm++[(k,r)]):=by simp [mmL]
theorem choose_ok (gT gU gM:Nat) (o pl:List Int) (ho:OdOk o pl):∀k,ChooseOk gT gU gM o pl k:=by
 intro k
 induction k with
 |zero=>
  intro og ns mm c a b _ _ _ _ _ _ _ hk
  have h1:=lv_le (o:=o) (ns:=ns) (r:=c)
  unfold lv3 at hk
  simp only at hk
  omega
 |succ k ih=>
  intro og ns mm c a b hog hn ht hm hc ha hb hk
  have l24:=ho.l24
  have lc:=lv_le (o:=o) (ns:=ns) (r:=c)
  have hp2:2^(k+1)=2^k+2^k:=by rw [Nat.pow_succ];omega
  have hp1:0<2^k:=Nat.pow_pos om
  have hL:lv3 o ns (c,a,b)≤lvZ o ns c∧lv3 o ns (c,a,b)≤lvZ o ns a∧lv3 o ns (c,a,b)≤lvZ o ns b:=by
   unfold lv3
   simp only
   omega
  have hlen:=lenCV_gs (s:=3) hog
  refine fh_of_body Tryz.func107 rfl rfl (by simp [Tryz.ntmps107]) fun C hC=> ?_
  simp only [initS,Nat.reduceAdd]
  refine xI ?_
  refine aw_cut (fun _:Unit=>[(0,.c (.optr gT 0)),(1,.c (.int .i64 c)),(2,.c (.int .i64 a)),(3,.c (.int .i64 b))]) (fun _=>THp gT gU gM og o pl ns mm) (fun _=>(¬c=1∧¬a=b)∧¬c=0∧¬(a=1∧b=0)) ?_ ?_
  ·refine xG ?_
   refine aw_split 25 eE (fun hb=> ?_) (fun hb=> ?_)<;>refine xS ?_
   ·refine xG ?_
    have hb':c=1:=by simpa using hb
    refine xP ?_
    refine xGU ?_
    exact⟨og,ns,mm,a,hog,ChP.same ht hm ha hL.2.1 (fun s=>by rw [hb',evalD_leaf (r:=1) om];rfl),rfl,rfl⟩
   ·have h1:¬c=1:=by simpa using hb
    refine xG ?_
    refine xF (fun h2=>?_) fun h2=>?_
    ·have h2':a=b:=by simpa using h2
     refine xGU ?_
     exact⟨og,ns,mm,a,hog,ChP.same ht hm ha hL.2.1 (fun s=>by rw [h2'];split<;>rfl),rfl,rfl⟩
    ·have h2':¬a=b:=by simpa using h2
     refine xG ?_
     refine xF (fun h3=>?_) fun h3=>?_
     ·have h3':c=0:=by simpa using h3
      refine xGU ?_
      exact⟨og,ns,mm,b,hog,ChP.same ht hm ‹RefOk ns b› hL.2.2 (fun s=>by rw [h3',evalD_leaf (r:=0) om];rfl),rfl,rfl⟩
     ·have h3':¬c=0:=by simpa using h3
      refine xG ?_
      refine aw_split 38 eE (fun h4=> ?_) (fun h4=> ?_)<;>refine xS ?_
      ·have h4':a=1:=by simpa using h4
       refine xG ?_
       refine xF (fun h5=>?_) fun h5=>?_
       ·have h5':b=0:=by simpa using h5
        refine xGU ?_
        exact⟨og,ns,mm,c,hog,ChP.same ht hm hc hL.1 (fun s=>by rw [h4',h5',evalD_leaf (r:=1) om,evalD_leaf (r:=0) om];cases evalD ns s c<;>rfl),rfl,rfl⟩
       ·have h5':¬b=0:=by simpa using h5
        refine xG ?_
        exact aw_stop ⟨(),eB,zZ,⟨h1,h2'⟩,h3',fun x=>h5' x.2⟩
      ·have h4':¬a=1:=by simpa using h4
       refine xG ?_
       refine xN ?_
       refine xG ?_
       exact aw_stop ⟨(),eB,zZ,⟨h1,h2'⟩,h3',fun x=>h4' x.1⟩
  rintro _ ⟨⟨n1,n2⟩,n3,n4⟩
  have hc2:2≤c:=by unfold RefOk at hc;omega
  have hclt:=lv_lt ht hc hc2
  have g0:=lv3_nonneg ho.mem ht hc
  have g1:=lv3_nonneg ho.mem ht ha
  have g2:=lv3_nonneg ho.mem ht hb
  obtain⟨L,hLe⟩:∃L,lv3 o ns (c,a,b)=L:=⟨_,rfl⟩
  rw [hLe] at hL hk⊢
  have hL0:0≤L:=by rw [←hLe];unfold lv3;simp only;omega
  refine aw_nd fun hnd=> ?_
  obtain⟨d1,d2,d3,d4⟩:=th_ne hnd
  unfold THp TH
  simp only [List.cons_append,List.nil_append]
  have J1:=oj d1 (oj d2 d3)
  refine yG J1 ?_
  refine aw_pure rfl (buildArr_ok Tryz.underlying176 (el:=3) (n:=3) (s:=1) (ag:=false) (z:=[.int .i64 0,.int .i64 0,.int .i64 0]) (out:=[.int .i64 c,.int .i64 a,.int .i64 b]) (by kernel_rfl) (by kernel_rfl) (by rfl) (by decide) (by rfl)) rfl rfl ?_
  refine ySG J1 ?_
  refine yA J1 fun g9 hn_g9=>?_
  have J2:=oj d1 (oj d2 (oj d3 hn_g9))
  refine yGWSG J2 ?_
  refine aw_dr 11 ty_mixed (by kernel_rfl) ?_
  refine yG J2 ?_
  refine drk_lookup2 (a:=(c,a,b)) (kv:=mmL mm) (Kf:=key3) (kt:=176) (et:=3) rfl rfl rfl (by kernel_rfl) ty_k3 ty_iz (zE J2) (zE J2) (zE J2) key3_rep ?_
  refine yS J2 ?_
  rw [mm_get]
  cases hf:memGet (c,a,b) mm with
  |some r=>
   try simp only [Option.map_some,Option.getD_some,Option.isSome_some,cstC]
   refine yGPG J2 ?_
   refine aw_keep [(8,.c (.int .i64 r))] (THp gT gU gM og o pl ns mm) (zB J2) (List.Sublist.cons _ (List.Sublist.refl _)) ?_
   refine yU J2 ?_
   have me:=hm _ (mem_mem hf)
   exact⟨og,ns,mm,r,hog,ChP.same ht hm me.r (by rw [←hLe];exact me.lv) me.sem,rfl,rfl⟩
  |none=>
   try simp only [Option.map_none,Option.getD_none,Option.isSome_none,cstC]
   refine yGNG J2 ?_
   refine aw_callh (hc:=THp gT gU gM og o pl ns mm) (hr:=[(g9,.cells 176 3 (ofL [.int .i64 c,.int .i64 a,.int .i64 b]))]) (level_fh gT gU gM og o pl ns mm c hog om ht hc ho.pl om) rfl rfl rfl (List.perm_append_singleton _ _).symm (zL J2) ?_
   rintro _ _ ⟨rfl,rfl⟩ _
   refine ySG J2 ?_
   refine aw_callh (level_fh gT gU gM og o pl ns mm a hog om ht ha ho.pl om) rfl rfl rfl (.refl _) (zL J2) ?_
   rintro _ _ ⟨rfl,rfl⟩ _
   refine ySG J2 ?_
   refine aw_callh (level_fh gT gU gM og o pl ns mm b hog om ht hb ho.pl om) rfl rfl rfl (.refl _) (zL J2) ?_
   rintro _ _ ⟨rfl,rfl⟩ _
   refine yS J2 ?_
   refine aw_min3 (a:=lvZ o ns c) (b:=lvZ o ns a) (c:=lvZ o ns b) rfl rfl rfl (zE J2) (zE J2) (zE J2) ?_
   have hmin:min (lvZ o ns c) (min (lvZ o ns a) (lvZ o ns b))=L:=hLe
   rw [hmin]
   refine ySG J2 ?_
   refine aw_callh (kids_fh gT gU gM og o pl ns mm c L hog om ht hc ho.pl om om) rfl rfl rfl (.refl _) (zL J2) ?_
   rintro _ _ ⟨rfl,rfl⟩ _
   refine ySG J2 ?_
   refine aw_callh (kids_fh gT gU gM og o pl ns mm a L hog om ht ha ho.pl om om) rfl rfl rfl (.refl _) (zL J2) ?_
   rintro _ _ ⟨rfl,rfl⟩ _
   refine ySG J2 ?_
   refine aw_callh (kids_fh gT gU gM og o pl ns mm b L hog om ht hb ho.pl om om) rfl rfl rfl (.refl _) (zL J2) ?_
   rintro _ _ ⟨rfl,rfl⟩ _
   refine ySG J2 ?_
   obtain⟨c0,c1,c2,c3,_⟩:=kids_ok ht ho.mem hc hL0 om hL.1
   obtain⟨a0,a1,a2,a3,_⟩:=kids_ok ht ho.mem ha hL0 om hL.2.1
   obtain⟨b0,b1,b2,b3,_⟩:=kids_ok ht ho.mem hb hL0 om hL.2.2
   have q0:L+1≤lv3 o ns ((kidsF o ns c L).1,(kidsF o ns a L).1,(kidsF o ns b L).1):=by unfold lv3;simp only;omega
   have q1:L+1≤lv3 o ns ((kidsF o ns c L).2,(kidsF o ns a L).2,(kidsF o ns b L).2):=by unfold lv3;simp only;omega
   refine aw_callh (ih og ns mm _ _ _ hog om ht hm c0 a0 b0 om) rfl rfl rfl (.refl _) (zL J2) ?_
   rintro _ _ ⟨og1,ns1,mm1,lo,hog1,p1,rfl,rfl⟩ _
   refine ySG J2 ?_
   have w1:=p1.lat.len
   have hk2:lv3 o ns1 ((kidsF o ns c L).2,(kidsF o ns a L).2,(kidsF o ns b L).2)=lv3 o ns ((kidsF o ns c L).2,(kidsF o ns a L).2,(kidsF o ns b L).2):=p1.lat.lv3 c1 a1 b1
   refine aw_callh (ih og1 ns1 mm1 _ _ _ hog1 om p1.lat.tab p1.mem (p1.lat.ref c1) (p1.lat.ref a1) (p1.lat.ref b1) om) rfl rfl rfl (.refl _) (zL J2) ?_
   rintro _ _ ⟨og2,ns2,mm2,hi,hog2,p2,rfl,rfl⟩ _
   have w2:=p2.lat.len
   rw [hk2] at p2
   have st:=ChP.step ho.mem ho.at ht hc ha hb hL0 om hLe (p1.mono q0) (p2.mono q1)
   have habs:∀e∈mm2,e.1≠(c,a,b):=by
    intro e he ec
    have hl12:∀{n},Later o ns ns1 n→lv3 o ns1 (c,a,b)=L:=fun h=>by rw [h.lv3 (k:=(c,a,b)) hc ha hb];exact hLe
    rcases p2.mnew e he with h|h
    ·rcases p1.mnew e h with h'|h'
     ·exact mem_none hf e h' ec
     ·rw [ec,hl12 p1.lat] at h'
      omega
    ·rw [ec,p2.lat.lv3 (k:=(c,a,b)) (p1.lat.ref hc) (p1.lat.ref ha) (p1.lat.ref hb),hl12 p1.lat] at h
     omega
   refine yS J2 ?_
   refine aw_perm (List.perm_append_singleton _ _) ?_
   refine aw_nd fun hnd2=> ?_
   have hnd3:=(List.nodup_cons.1 hnd2).2
   obtain⟨e1,e2,e3,e4⟩:=th_ne hnd3
   have e9:=(List.nodup_cons.1 hnd2).1
   replace e9:=Heap.ne_of e9
   have hlen2:=lenCV_gs (s:=3) hog2
   unfold THp TH at e9⊢
   simp only [List.cons_append,List.nil_append] at e9⊢
   dsimp only [Heap.ne,gh] at e9
   have J3:=oj d1 (oj d2 (oj d3 (oj hn_g9 e9)))
   refine yG J3 ?_
   refine aw_callh (hc:=THp gT gU gM og2 o pl ns2 mm2) (hr:=[(g9,.cells 176 3 (ofL [.int .i64 c,.int .i64 a,.int .i64 b]))]) (make_fh gT gU gM og2 o pl ns2 mm2 (o.getD L.toNat 0) lo hi hog2 om) rfl rfl rfl (List.perm_append_singleton _ _).symm (zL J3) ?_
   rintro _ _ ⟨og3,hog3,rfl,rfl⟩ _
   refine yS J3 ?_
   refine aw_perm (List.perm_append_singleton _ _) ?_
   unfold THp TH
   simp only [List.cons_append,List.nil_append]
   refine yG J3 ?_
   refine aw_dr 6 ty_mixed (by kernel_rfl) ?_
   refine yG J3 ?_
   refine aw_mapNew (a:=(c,a,b)) (kv:=mmL mm2) (Kf:=key3) (v:=.int .i64 (mkF ns2 (o.getD L.toNat 0) lo hi).2) rfl rfl rfl (kt:=176) (et:=3) (by kernel_rfl) ty_k3 (zE J3) (zE J3) (zE J3) key3_rep (cv:=.c (.int .i64 (mkF ns2 (o.getD L.toNat 0) lo hi).2)) (zE J3) (fun S w u h=>h) (by rw [mm_get,mem_none' habs];rfl) (zE J3) ?_
   rw [mmL_push]
   refine ySG J3 ?_
   refine aw_keep [(8,.c (.int .i64 (mkF ns2 (o.getD L.toNat 0) lo hi).2))] (THp gT gU gM og3 o pl (mkF ns2 (o.getD L.toNat 0) lo hi).1 (mm2++[((c,a,b),(mkF ns2 (o.getD L.toNat 0) lo hi).2)])) (zB J3) (List.Sublist.cons _ (List.Sublist.refl _)) ?_
   refine yU J3 ?_
   exact⟨og3,_,_,_,hog3,st,rfl,rfl⟩
structure TS (o:List Int) (og:Option Nat) (ns:List DN) (mm:Mem3):Prop where
 og:og=none→ns.length=0
 tab:TabOk o ns
 mem:MemOk o ns mm
def OpQ (gT gU gM:Nat) (o pl:List Int) (ns:List DN) (n:Nat) (f:Nat→Bool) (x:AV) (h:Heap):Prop:=∃og' ns' mm' r,TS o og' ns' mm'∧Later o ns ns' n∧RefOk ns' r∧(∀s,evalD ns' s r=f s)∧x=.c (.int .i64 r)∧h=THp gT gU gM og' o pl ns' mm'
theorem choose_fh (gT gU gM:Nat) {o pl:List Int} (ho:OdOk o pl) {og:Option Nat} {ns:List DN} {mm:Mem3} (hs:TS o og ns mm) (hn:ns.length+2^(o.length+1)≤1000000000) {c a b:Int} (hc:RefOk ns c) (ha:RefOk ns a) (hb:RefOk ns b):
  Fh Tryz.prog 107 (THp gT gU gM og o pl ns mm) [.c (.optr gT 0),.c (.int .i64 c),.c (.int .i64 a),.c (.int .i64 b)] (OpQ gT gU gM o pl ns (2^(o.length+1)-1) fun s=>if evalD ns s c then evalD ns s a else evalD ns s b):=by
 have h1:=lv3_nonneg ho.mem hs.tab hc
 have h2:=lv3_nonneg ho.mem hs.tab ha
 have h3:=lv3_nonneg ho.mem hs.tab hb
 have:=choose_ok gT gU gM o pl ho (o.length+1) og ns mm c a b hs.og hn hs.tab hs.mem hc ha hb (by unfold lv3;simp only;omega)
 refine this.mono ?_
 rintro x h ⟨og',ns',mm',r,e1,p,e2,e3⟩
 exact⟨og',ns',mm',r,⟨e1,p.lat.tab,p.mem⟩,p.lat,p.ref,p.sem,e2,e3⟩
end Go.Proofs.YtefekdejgbceiaaGreat
