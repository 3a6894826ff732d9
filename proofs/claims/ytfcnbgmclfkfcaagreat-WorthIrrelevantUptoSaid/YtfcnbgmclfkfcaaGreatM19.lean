/- Parts of one proof, laid by a program. -/
import Derived.Test.YtfcnbgmclfkfcaaGreatM00
import Derived.Test.YtfcnbgmclfkfcaaGreatM18
set_option linter.unusedSimpArgs false
set_option linter.unusedVariables false
namespace Go.PN
open Go.AI
noncomputable def valF (f:FM) (s:Nat) (a:Int):Bool:=ofB f (fvTo f s f.nodes.length) s a
def cntV (v:Int→Bool) (az:List Int):Nat:=(az.filter v).length
noncomputable def nodeV (v:Int→Bool) (x:FN):Bool:=
 if x.kind==0 then x.k==1 else if x.kind==1 then((cntV v x.args:Nat):Int)==0 else if x.kind==2 then((cntV v x.args:Nat):Int)==(x.args.length:Int)
 else if x.kind==3 then decide (((cntV v x.args:Nat):Int)>0) else if x.kind==4 then decide (((cntV v x.args:Nat):Int)≥x.k) else remZ ((cntV v x.args:Nat):Int) 2==1
theorem cntV_congr {v w:Int→Bool}:∀{az:List Int},(∀a∈az,v a=w a)→cntV v az=cntV w az
 |[],_=>rfl
 |a::az,h=>by
  have ih:=cntV_congr (az:=az) fun b hb=>h b (List.mem_cons_of_mem _ hb)
  unfold cntV at ih⊢
  rw [List.filter_cons,List.filter_cons,h a (List.mem_cons_self ..)]
  split
  ·rw [List.length_cons,List.length_cons,ih]
  ·exact ih
theorem cntV_map {v w:Int→Bool} {g:Int→Int}:∀{az:List Int},(∀a∈az,v (g a)=w a)→cntV v (az.map g)=cntV w az
 |[],_=>rfl
 |a::az,h=>by
  have ih:=cntV_map (az:=az) fun b hb=>h b (List.mem_cons_of_mem _ hb)
  unfold cntV at ih⊢
  rw [List.map_cons,List.filter_cons,List.filter_cons,h a (List.mem_cons_self ..)]
  split
  ·rw [List.length_cons,List.length_cons,ih]
  ·exact ih
theorem nodeV_congr {v w:Int→Bool} {x:FN} (h:∀a∈x.args,v a=w a):nodeV v x=nodeV w x:=by
 unfold nodeV
 rw [cntV_congr h]
theorem fvTo_get {f:FM} {s i:Nat}:∀{k:Nat},i<k→k≤f.nodes.length→(fvTo f s k).getD i false=nodeB f (fvTo f s i) s (f.nodes.getD i fn0)
 |k+1,h,hk=>by
  rw [fvTo,List.getD_eq_getElem?_getD]
  by_cases e:i=k
  ·subst e;rw [List.getElem?_set_self (by rw [fvTo_len];omega)];rfl
  ·rw [List.getElem?_set_ne (fun x=>e x.symm),←List.getD_eq_getElem?_getD]
   exact fvTo_get om om
theorem val_node {f:FM} (ok:FrOk f) {s i:Nat} (hi:i<f.nodes.length):valF f s (f.vars+i)=nodeV (valF f s) (f.nodes.getD i fn0):=by
 have v0:=ok.v0
 unfold valF
 rw [show ofB f (fvTo f s f.nodes.length) s (f.vars+i)=(fvTo f s f.nodes.length).getD i false from by
  unfold ofB;rw [if_neg om,show(f.vars+(i:Int)-f.vars).toNat=i from by omega]]
 rw [fvTo_get hi (Nat.le_refl _)]
 show nodeV (ofB f (fvTo f s i) s) _=_
 refine nodeV_congr fun a ha=> ?_
 obtain⟨a0,a1⟩:=ok.arg i hi a ha
 unfold ofB
 split
 ·rfl
 ·rw [fvTo_get (i:=(a-f.vars).toNat) om om,fvTo_get (i:=(a-f.vars).toNat) om (Nat.le_refl _)]
theorem val_event {f:FM} {s:Nat} {a:Int} (h:a<f.vars):valF f s a=s.testBit a.toNat:=by unfold valF ofB;rw [if_pos h]
def toR (f:FM) (a:Int):Int:=if a<f.vars then a else f.vars+szTo f (a-f.vars).toNat
def trTo (f:FM):Nat→List FN
 |0=>[]
 |k+1=>if(belL f).getD (f.vars.toNat+k) false then trTo f k++[⟨(f.nodes.getD k fn0).kind,(f.nodes.getD k fn0).k,(f.nodes.getD k fn0).args.map (toR f)⟩] else trTo f k
def trimF (f:FM):FM:=⟨f.vars,trTo f f.nodes.length,toR f f.top⟩
theorem trTo_len (f:FM):∀k,(trTo f k).length=szTo f k
 |0=>rfl
 |k+1=>by
  rw [trTo,szTo]
  split
  ·rw [List.length_append,trTo_len f k];rfl
  ·rw [trTo_len f k];rfl
theorem sz_mono (f:FM):∀{a b:Nat},a≤b→szTo f a≤szTo f b
 |a,0,h=>by rw [show a=0 from by omega];exact Nat.le_refl _
 |a,b+1,h=>by
  by_cases e:a=b+1
  ·rw [e];exact Nat.le_refl _
  ·have:=sz_mono f (show a≤b by omega)
   rw [szTo];omega
theorem sz_lt {f:FM} {i k:Nat} (h:i<k) (hm:(belL f).getD (f.vars.toNat+i) false=true):szTo f i<szTo f k:=by
 have h1:szTo f (i+1)=szTo f i+1:=by rw [szTo,if_pos hm]
 have:=sz_mono f (show i+1≤k from h)
 omega
theorem trTo_get {f:FM} {i:Nat} (hm:(belL f).getD (f.vars.toNat+i) false=true):∀{k:Nat},i<k→(trTo f k).getD (szTo f i) fn0=⟨(f.nodes.getD i fn0).kind,(f.nodes.getD i fn0).k,(f.nodes.getD i fn0).args.map (toR f)⟩
 |k+1,h=>by
  rw [trTo]
  by_cases e:i=k
  ·subst e
   rw [if_pos hm,List.getD_eq_getElem?_getD,List.getElem?_append_right (by rw [trTo_len];exact Nat.le_refl _),trTo_len,Nat.sub_self];rfl
  ·have hlt:=sz_lt (show i<k by omega) hm
   split
   ·rw [List.getD_eq_getElem?_getD,List.getElem?_append_left (by rw [trTo_len];exact hlt),←List.getD_eq_getElem?_getD]
    exact trTo_get hm om
   ·exact trTo_get hm om
theorem trTo_from {f:FM}:∀{k q:Nat},q<szTo f k→∃i,i<k∧(belL f).getD (f.vars.toNat+i) false=true∧szTo f i=q
 |k+1,q,h=>by
  rw [szTo] at h
  split at h
  ·rename_i hm
   by_cases e:q=szTo f k
   ·exact⟨k,by omega,hm,e.symm⟩
   ·obtain⟨i,h1,h2,h3⟩:=trTo_from (show q<szTo f k by omega)
    exact⟨i,by omega,h2,h3⟩
  ·obtain⟨i,h1,h2,h3⟩:=trTo_from (show q<szTo f k by omega)
   exact⟨i,by omega,h2,h3⟩
theorem bel_arg {f:FM} (ok:FrOk f) {i:Nat} (hi:i<f.nodes.length) (hm:(belL f).getD (f.vars.toNat+i) false=true) {a:Int} (ha:a∈(f.nodes.getD i fn0).args):(belL f).getD a.toNat false=true:=by
 obtain⟨q,hq,rfl⟩:=List.mem_iff_getElem.1 ha
 have:=bel_closed ok f.nodes.length (Nat.le_refl _) i om hi hm q hq
 rwa [show(f.nodes.getD i fn0).args.getD q 0=(f.nodes.getD i fn0).args[q] from getDZ hq] at this
theorem toR_lt {f:FM} (ok:FrOk f) {a:Int} {k:Nat} (h0:0≤a) (h1:a<f.vars+k) (hm:(belL f).getD a.toNat false=true):0≤toR f a∧toR f a<f.vars+szTo f k:=by
 have v0:=ok.v0
 unfold toR
 split
 ·omega
 ·have hm':(belL f).getD (f.vars.toNat+(a-f.vars).toNat) false=true:=by rw [show f.vars.toNat+(a-f.vars).toNat=a.toNat from by omega];exact hm
  have:=sz_lt (f:=f) (i:=(a-f.vars).toNat) (k:=k) om hm'
  omega
theorem trim_ok {f:FM} (ok:FrOk f):FrOk (trimF f):=by
 have hl:(trimF f).nodes.length=szTo f f.nodes.length:=trTo_len f _
 have hget:∀q,q<(trimF f).nodes.length→∃i,i<f.nodes.length∧(belL f).getD (f.vars.toNat+i) false=true∧szTo f i=q∧(trimF f).nodes.getD q fn0=⟨(f.nodes.getD i fn0).kind,(f.nodes.getD i fn0).k,(f.nodes.getD i fn0).args.map (toR f)⟩:=fun q hq=>by
  obtain⟨i,h1,h2,h3⟩:=trTo_from (f:=f) (k:=f.nodes.length) (q:=q) om
  exact⟨i,h1,h2,h3,by rw [←h3];exact trTo_get h2 h1⟩
 have hsz:=szTo_le f f.nodes.length
 have n128:=ok.n128
 have tl:=toR_lt ok ok.t0 ok.t1 (bel_top ok _)
 refine⟨ok.v0,ok.v24,by omega,fun q hq=> ?_,fun q hq=> ?_,fun q hq a ha=> ?_,fun q hq=> ?_,tl.1,by rw [hl];exact tl.2⟩
 ·obtain⟨i,h1,h2,h3,h4⟩:=hget q hq
  rw [h4];exact ok.kind i h1
 ·obtain⟨i,h1,h2,h3,h4⟩:=hget q hq
  rw [h4]
  show arityB _ (List.map (toR f) _).length=true
  rw [List.length_map];exact ok.ari i h1
 ·obtain⟨i,h1,h2,h3,h4⟩:=hget q hq
  rw [h4] at ha
  obtain⟨b,hb,rfl⟩:=List.mem_map.1 ha
  obtain⟨b0,b1⟩:=ok.arg i h1 b hb
  have:=toR_lt ok b0 b1 (bel_arg ok h1 h2 hb)
  rw [h3] at this
  exact this
 ·obtain⟨i,h1,h2,h3,h4⟩:=hget q hq
  rw [h4]
  have:=ok.kc i h1
  unfold kcode at this⊢
  simp only [List.length_map]
  exact this
theorem trim_val {f:FM} (ok:FrOk f) (s:Nat):∀(n:Nat) (a:Int),a.toNat<n→0≤a→a<f.vars+f.nodes.length→(belL f).getD a.toNat false=true→valF (trimF f) s (toR f a)=valF f s a:=by
 have v0:=ok.v0
 intro n
 induction n with
 |zero=>intro a hn;omega
 |succ n ih=>
  intro a hn h0 h1 hm
  by_cases hv:a<f.vars
  ·rw [show toR f a=a from by unfold toR;rw [if_pos hv],val_event hv,val_event (show a<(trimF f).vars from hv)]
  ·obtain⟨i,hi⟩:∃i:Nat,a=f.vars+i:=⟨(a-f.vars).toNat,by omega⟩
   subst hi
   have hi:i<f.nodes.length:=by omega
   have hm':(belL f).getD (f.vars.toNat+i) false=true:=by rw [show f.vars.toNat+i=(f.vars+(i:Int)).toNat from by omega];exact hm
   have hlt:=sz_lt (k:=f.nodes.length) hi hm'
   have hto:toR f (f.vars+i)=(trimF f).vars+(szTo f i:Nat):=by
    unfold toR
    rw [if_neg om,show(f.vars+(i:Int)-f.vars).toNat=i from by omega];rfl
   rw [hto,val_node (trim_ok ok) (i:=szTo f i) (by show szTo f i<(trTo f f.nodes.length).length;rw [trTo_len];exact hlt),val_node ok hi]
   rw [show(trimF f).nodes.getD (szTo f i) fn0=⟨(f.nodes.getD i fn0).kind,(f.nodes.getD i fn0).k,(f.nodes.getD i fn0).args.map (toR f)⟩ from trTo_get hm' hi]
   have hc:cntV (valF (trimF f) s) ((f.nodes.getD i fn0).args.map (toR f))=cntV (valF f s) (f.nodes.getD i fn0).args:=cntV_map fun b hb=>by
    obtain⟨b0,b1⟩:=ok.arg i hi b hb
    exact ih b om b0 om (bel_arg ok hi hm' hb)
   unfold nodeV
   simp only [hc,List.length_map]
theorem trim_top {f:FM} (ok:FrOk f) (s:Nat):valF (trimF f) s (trimF f).top=valF f s f.top:=trim_val ok s (f.top.toNat+1) f.top om ok.t0 ok.t1 (bel_top ok _)
theorem sz_zero {f:FM} (ok:FrOk f) (h:szTo f f.nodes.length=0):f.top<f.vars:=by
 refine Classical.byContradiction fun hc=> ?_
 have t1:=ok.t1
 have v0:=ok.v0
 have hm:=bel_top ok f.nodes.length
 have hm':(belL f).getD (f.vars.toNat+(f.top-f.vars).toNat) false=true:=by rw [show f.vars.toNat+(f.top-f.vars).toNat=f.top.toNat from by omega];exact hm
 have:=sz_lt (f:=f) (i:=(f.top-f.vars).toNat) (k:=f.nodes.length) om hm'
 omega
end Go.PN
namespace Go.Proofs.YtfcnbgmclfkfcaaGreat
open Go.AI Go.PN
attribute [local irreducible] aw Fa Fh DrK
set_option maxRecDepth 100000 in
set_option maxHeartbeats 3200000 in
theorem fsize_fa (f:FM) (hn:f.nodes.length≤1099511627776) (ha:ArgsOk f) (hc:fcode f=0):Fa Tryz.prog 74 [.agg (fmc false f)] (.tup [.c (.int .i64 (szTo f f.nodes.length)),.c (.int .i64 (arTo f f.nodes.length)),.c .nilI]):=by
 have ok:=fr_ok hc
 have v0:=ok.v0
 have v24:=ok.v24
 have n128:=ok.n128
 have t0:=ok.t0
 have t1:=ok.t1
 have z:=ieq_t hc
 have hbl:(belL f).length=f.vars.toNat+f.nodes.length:=belTo_len f f.nodes.length
 refine fa_of_body Tryz.func74 rfl rfl (by simp [Tryz.ntmps74]) fun C hC=> ?_
 simp only [initS,Nat.reduceAdd]
 refine yG z ?_
 refine yB z fun g1 hn_g1=>?_
 have J1:=oj z hn_g1
 refine yG J1 ?_
 refine yC J1 (fcheck_fa f hn ha ?_ ?_) ?_
 ·omega
 ·omega
 refine yGNG J1 ?_
 refine aw_dr 7 ty_mixed (by kernel_rfl) ?_
 refine yG J1 ?_
 refine yD J1 (below_fa f ok) ?_
 refine yG J1 ?_
 rw [show(belL f).length-f.vars.toNat=f.nodes.length from by omega]
 refine aw_lp (fun k:Nat=>[(1,.c (.optr g1 0)),(2,.c (.int .i64 (szTo f k))),(3,.c (.int .i64 (arTo f k))),(17,.c (.row true 1 f.nodes.length fun j=>.bool ((belL f).getD (f.vars.toNat+j) false))),(18,.c (.int .i64 f.nodes.length)),(19,.c (.int .i64 k))]) (fun _=>[(g1,.cells 24 3 (ofL (fmc false f)))]) (fun k=>k≤f.nodes.length) (fun k=>f.nodes.length-k) 0 (zB J1) zZ (Nat.zero_le _) ?_
 rintro k hk
 have hsz:=szTo_le f k
 have har:=arTo_le ok k hk
 refine yG J1 ?_
 refine yF J1 (fun h1=>?_) fun h1=>?_
 ·have h1':k<f.nodes.length:=dT h1
  have hln:=ok.len h1'
  have hs1:szTo f (k+1)=szTo f k+if(belL f).getD (f.vars.toNat+k) false then 1 else 0:=rfl
  have ha1:arTo f (k+1)=arTo f k+if(belL f).getD (f.vars.toNat+k) false then(f.nodes.getD k fn0).args.length else 0:=rfl
  refine yG J1 ?_
  refine yF J1 (fun hm=>?_) fun hm=>?_
  ·rw [if_pos hm] at hs1 ha1
   refine yG J1 ?_
   exact aw_stop ⟨k+1,by omega,by rw [hs1,ha1];exact(zB J1),zZ,by omega⟩
  ·have hm':(belL f).getD (f.vars.toNat+k) false=false:=hm
   rw [if_neg (by rw [hm'];simp)] at hs1 ha1
   refine yG J1 ?_
   exact aw_stop ⟨k+1,by omega,by rw [hs1,ha1];exact(zB J1),zZ,by omega⟩
 ·have h1':k=f.nodes.length:=dF h1
  subst h1'
  refine yGT hC J1 ?_
  exact .tup ⟨.c (.int _ _),.c (.int _ _),.c .nilI,trivial⟩
end Go.Proofs.YtfcnbgmclfkfcaaGreat
namespace Go.PN
open Go.AI
def Sub (s t:Nat):Prop:=∀j,s.testBit j=true→t.testBit j=true
def cohTo (f:FM):Nat→Bool
 |0=>true
 |k+1=>cohTo f k&& !((belL f).getD (f.vars.toNat+k) false&&(decide ((f.nodes.getD k fn0).kind=1)||decide ((f.nodes.getD k fn0).kind=5)))
theorem cohTo_at {f:FM} {i:Nat}:∀{k:Nat},cohTo f k=true→i<k→(belL f).getD (f.vars.toNat+i) false=true→(f.nodes.getD i fn0).kind≠1∧(f.nodes.getD i fn0).kind≠5
 |0,_,h,_=>by omega
 |k+1,hc,h,hb=>by
  rw [cohTo,Bool.and_eq_true] at hc
  by_cases e:i=k
  ·subst e
   have:=hc.2
   rw [hb] at this
   simpa using this
  ·exact cohTo_at hc.1 om hb
theorem cntV_mono {v w:Int→Bool}:∀{az:List Int},(∀a∈az,v a=true→w a=true)→cntV v az≤cntV w az
 |[],_=>Nat.le_refl _
 |a::az,h=>by
  have ih:=cntV_mono (az:=az) fun b hb=>h b (List.mem_cons_of_mem _ hb)
  have ha:=h a (List.mem_cons_self ..)
  unfold cntV at ih⊢
  rw [List.filter_cons,List.filter_cons]
  cases hv:v a
  ·cases hw:w a<;>simp<;>omega
  ·rw [ha hv];simp;omega
theorem nodeV_mono {v w:Int→Bool} {x:FN} (h1:x.kind≠1) (h5:x.kind≠5) (k0:0≤x.kind) (k5:x.kind≤5) (h:∀a∈x.args,v a=true→w a=true) (hv:nodeV v x=true):nodeV w x=true:=by
 have hm:=cntV_mono (v:=v) (w:=w) h
 have hl:cntV w x.args≤x.args.length:=List.length_filter_le _ _
 unfold nodeV at hv⊢
 have hk:x.kind=0∨x.kind=2∨x.kind=3∨x.kind=4:=by omega
 rcases hk with hk|hk|hk|hk
 ·rw [hk] at hv⊢
  exact hv
 ·rw [hk] at hv⊢
  have hv':(((cntV v x.args:Nat):Int)==(x.args.length:Int))=true:=hv
  have:=eq_of_beq hv'
  show(((cntV w x.args:Nat):Int)==(x.args.length:Int))=true
  exact beq_iff_eq.2 om
 ·rw [hk] at hv⊢
  have hv':decide (((cntV v x.args:Nat):Int)>0)=true:=hv
  have:=of_decide_eq_true hv'
  show decide (((cntV w x.args:Nat):Int)>0)=true
  exact decide_eq_true om
 ·rw [hk] at hv⊢
  have hv':decide (((cntV v x.args:Nat):Int)≥x.k)=true:=hv
  have:=of_decide_eq_true hv'
  show decide (((cntV w x.args:Nat):Int)≥x.k)=true
  exact decide_eq_true om
theorem val_mono {f:FM} (ok:FrOk f) (hc:cohTo f f.nodes.length=true) {s t:Nat} (hst:Sub s t):∀(n:Nat) (a:Int),a.toNat<n→0≤a→a<f.vars+f.nodes.length→(belL f).getD a.toNat false=true→valF f s a=true→valF f t a=true:=by
 have v0:=ok.v0
 intro n
 induction n with
 |zero=>intro a hn;omega
 |succ n ih=>
  intro a hn h0 h1 hm
  by_cases hv:a<f.vars
  ·rw [val_event hv,val_event hv]
   exact hst _
  ·obtain⟨i,hi⟩:∃i:Nat,a=f.vars+i:=⟨(a-f.vars).toNat,by omega⟩
   subst hi
   have hi:i<f.nodes.length:=by omega
   have hm':(belL f).getD (f.vars.toNat+i) false=true:=by rw [show f.vars.toNat+i=(f.vars+(i:Int)).toNat from by omega];exact hm
   rw [val_node ok hi,val_node ok hi]
   obtain⟨n1,n5⟩:=cohTo_at hc hi hm'
   obtain⟨k0,k5⟩:=ok.kind i hi
   refine nodeV_mono n1 n5 k0 k5 fun b hb=> ?_
   obtain⟨b0,b1⟩:=ok.arg i hi b hb
   exact ih b om b0 om (bel_arg ok hi hm' hb)
theorem coh_mono {f:FM} (ok:FrOk f) (hc:cohTo f f.nodes.length=true) {s t:Nat} (hst:Sub s t) (h:valF f s f.top=true):valF f t f.top=true:=
 val_mono ok hc hst (f.top.toNat+1) f.top om ok.t0 ok.t1 (bel_top ok _) h
end Go.PN
namespace Go.AI
@[go_sem ↓] theorem updF_5_2 (a b c d e x:CV):updF (ofL [a,b,c,d,e]) 2 [x]=ofL [a,b,x,d,e]:=updF_at [a,b,c,d,e] 2 x (by simp)
end Go.AI
namespace Go.PN
open Go.AI
def uqTo:List DN→Nat→List (DK×Value)
 |[],_=>[]
 |x::ns,i=>(dk x,.int .i64 (2+(i:Int)))::uqTo ns (i+1)
theorem uq_get (x:DN):∀(ns:List DN) (i:Nat),kvGet (dk x) (uqTo ns i)=(findN x ns i).map fun(j:Nat)=>Value.int .i64 (2+(j:Int))
 |[],_=>rfl
 |y::ns,i=>by
  have ih:=uq_get x ns (i+1)
  show(if dk x=dk y then some (Value.int .i64 (2+(i:Int))) else kvGet (dk x) (uqTo ns (i+1)))=_
  rw [findN]
  by_cases h:y=x
  ·subst h;simp
  ·rw [if_neg (fun e=>h (dk_inj.1 e).symm),if_neg h,ih]
theorem uq_push (x:DN):∀(ns:List DN) (i:Nat),uqTo (ns++[x]) i=uqTo ns i++[(dk x,.int .i64 (2+((i+ns.length:Nat):Int)))]
 |[],i=>by simp [uqTo]
 |y::ns,i=>by
  show _::uqTo (ns++[x]) (i+1)=_::(uqTo ns (i+1)++_)
  rw [uq_push x ns (i+1)]
  simp only [List.length_cons]
  congr 5
  omega
def mmL (mm:Mem3):List ((Int×Int×Int)×Value):=mm.map fun e=>(e.1,.int .i64 e.2)
def memGet (k:Int×Int×Int):Mem3→Option Int
 |[]=>none
 |e::mm=>if k=e.1 then some e.2 else memGet k mm
theorem mm_get (k:Int×Int×Int):∀mm:Mem3,kvGet k (mmL mm)=(memGet k mm).map (Value.int .i64)
 |[]=>rfl
 |e::mm=>by
  show(if k=e.1 then some (Value.int .i64 e.2) else kvGet k (mmL mm))=_
  rw [memGet,mm_get k mm]
  split<;>rfl
theorem mem_mem {k:Int×Int×Int} {r:Int}:∀{mm:Mem3},memGet k mm=some r→(k,r)∈mm
 |[],h=>by simp [memGet] at h
 |e::mm,h=>by
  rw [memGet] at h
  split at h
  ·rename_i hk
   injection h with h
   subst hk h
   exact List.mem_cons_self ..
  ·exact List.mem_cons_of_mem _ (mem_mem h)
theorem mem_none {k:Int×Int×Int}:∀{mm:Mem3},memGet k mm=none→∀e∈mm,e.1≠k
 |e::mm,h,e',he=>by
  rw [memGet] at h
  split at h
  ·cases h
  ·rename_i hk
   rcases List.mem_cons.1 he with rfl|he
   ·exact fun x=>hk x.symm
   ·exact mem_none h e' he
theorem mem_none' {k:Int×Int×Int}:∀{mm:Mem3},(∀e∈mm,e.1≠k)→memGet k mm=none
 |[],_=>rfl
 |e::mm,h=>by
  rw [memGet,if_neg (fun x=>h e (List.mem_cons_self ..) x.symm)]
  exact mem_none' fun e' he=>h e' (List.mem_cons_of_mem _ he)
def TH (T DT:TypeId) (gT gU gM:Nat) (og:Option Nat) (o pl:List Int) (ns:List DN) (mm:Mem3):Heap:=
 [(gT,.cells T 5 (ofL [is true o,is true pl,gs og 3 ns.length,.raw (.map (some gU)),.raw (.map (some gM))])),(gU,.gen (MapI dkV (uqTo ns 0))),(gM,.gen (MapI key3 (mmL mm)))]++gh og DT (ns.length*3) (dnsF ns)
end Go.PN
namespace Go.Proofs.YtfcnbgmclfkfcaaGreat
open Go.AI Go.PN
attribute [local irreducible] aw Fa Fh DrK
theorem ty_iz:tZ1 Tryz.prog 3=some (.int .i64 0):=by kernel_rfl
abbrev THp (gT gU gM:Nat) (og:Option Nat) (o pl:List Int) (ns:List DN) (mm:Mem3):Heap:=TH 140 145 gT gU gM og o pl ns mm
set_option maxRecDepth 100000 in
set_option maxHeartbeats 3200000 in
theorem make_fh (gT gU gM:Nat) (og:Option Nat) (o pl:List Int) (ns:List DN) (mm:Mem3) (v lo hi:Int) (hog:og=none→ns.length=0) (hn:ns.length≤1000000000):
 Fh Tryz.prog 111 (THp gT gU gM og o pl ns mm) [.c (.optr gT 0),.c (.int .i64 v),.c (.int .i64 lo),.c (.int .i64 hi)]
  (fun r h=>∃og',(og'=none→(mkF ns v lo hi).1.length=0)∧r=.c (.int .i64 (mkF ns v lo hi).2)∧h=THp gT gU gM og' o pl (mkF ns v lo hi).1 mm):=by
 refine fh_of_body Tryz.func111 rfl rfl (by simp [Tryz.ntmps111]) fun C hC=> ?_
 simp only [initS,Nat.reduceAdd]
 refine aw_nd fun hnd=> ?_
 have hd:(¬gT=gU∧¬gU=gT)∧(¬gT=gM∧¬gM=gT)∧(¬gU=gM∧¬gM=gU)∧∀g,og=some g→(¬gT=g∧¬g=gT)∧(¬gU=g∧¬g=gU)∧(¬gM=g∧¬g=gM):=by
  cases og with
  |none=>
   simp only [THp,TH,gh,Heap.keys,List.append_nil,List.map_cons,List.map_nil,List.nodup_cons,List.mem_cons,List.not_mem_nil,or_false,not_or,not_false_eq_true,List.nodup_nil,and_true] at hnd
   obtain⟨⟨h1,h2⟩,h3⟩:=hnd
   exact⟨⟨h1,fun e=>h1 e.symm⟩,⟨h2,fun e=>h2 e.symm⟩,⟨h3,fun e=>h3 e.symm⟩,fun g e=>by cases e⟩
  |some g'=>
   simp only [THp,TH,gh,Heap.keys,List.cons_append,List.nil_append,List.map_cons,List.map_nil,List.nodup_cons,List.mem_cons,List.not_mem_nil,or_false,not_or,not_false_eq_true,List.nodup_nil,and_true] at hnd
   obtain⟨⟨h1,h2,h4⟩,⟨h3,h5⟩,h6⟩:=hnd
   refine⟨⟨h1,fun e=>h1 e.symm⟩,⟨h2,fun e=>h2 e.symm⟩,⟨h3,fun e=>h3 e.symm⟩,fun g e=> ?_⟩
   injection e with e
   subst e
   exact⟨⟨h4,fun e=>h4 e.symm⟩,⟨h5,fun e=>h5 e.symm⟩,⟨h6,fun e=>h6 e.symm⟩⟩
 obtain⟨d1,d2,d3,d4⟩:=hd
 have hlen:=lenCV_gs (s:=3) hog
 unfold THp TH
 simp only [List.cons_append,List.nil_append]
 repeat first|apply wa1|apply wa2|apply wa3|apply wa4|apply wa5 rfl|apply wa6|apply wa7|(refine wb1 rfl fun R r=>?_;simp only[go_sem,d1,d2,d3,↓hlen];with_reducible show R (some _);with_reducible refine r _ _ ?_;clear r R)
 refine aw_cond (by simp only[go_sem,d1,d2,d3,↓hlen]<;>rfl) (fun h1=> ?_) (fun h1=> ?_)
 ·have h1':lo=hi:=eq_of_beq h1
  repeat first|apply wa1|apply wa2|apply wa3|apply wa4|apply wa5 rfl|apply wa6|apply wa7|(refine wb1 rfl fun R r=>?_;simp only[go_sem,d1,d2,d3,↓hlen];with_reducible show R (some _);with_reducible refine r _ _ ?_;clear r R)
  (refine aw_rethq rfl fun R r=>?_;simp only[go_sem,d1,d2,d3,↓hlen];refine r _ rfl ?_;clear r R)
  unfold mkF
  rw [if_pos h1']
  exact⟨og,hog,rfl,rfl⟩
 have h1':¬lo=hi:=by simpa using h1
 repeat first|apply wa1|apply wa2|apply wa3|apply wa4|apply wa5 rfl|apply wa6|apply wa7|(refine wb1 rfl fun R r=>?_;simp only[go_sem,d1,d2,d3,↓hlen];with_reducible show R (some _);with_reducible refine r _ _ ?_;clear r R)
 refine aw_alloc rfl rfl rfl (by simp only[go_sem,d1,d2,d3,↓hlen]<;>rfl) fun g9 hn_g9=> ?_
 replace hn_g9:=Heap.ne_of hn_g9
 first|dsimp only [Heap.ne,gh] at hn_g9|dsimp only [Heap.ne] at hn_g9|skip
 (try simp only[go_sem,d1,d2,d3,↓hlen,hn_g9])
 repeat first|apply wa1|apply wa2|apply wa3|apply wa4|apply wa5 rfl|apply wa6|apply wa7|(refine wb1 rfl fun R r=>?_;simp only[go_sem,d1,d2,d3,↓hlen,hn_g9];with_reducible show R (some _);with_reducible refine r _ _ ?_;clear r R)
 refine aw_store rfl rfl rfl rfl (by simp only[go_sem,d1,d2,d3,↓hlen,hn_g9]<;>rfl) (by simp only[go_sem,d1,d2,d3,↓hlen,hn_g9]<;>rfl) (by simp only[go_sem,d1,d2,d3,↓hlen,hn_g9]<;>rfl) (by simp only[go_sem,d1,d2,d3,↓hlen,hn_g9]<;>rfl) (fun _ e=>by cases e) (by rfl) (by rfl) (by first|omega|simp) rfl ?_
 (try simp only[go_sem,d1,d2,d3,↓hlen,hn_g9])
 repeat first|apply wa1|apply wa2|apply wa3|apply wa4|apply wa5 rfl|apply wa6|apply wa7|(refine wb1 rfl fun R r=>?_;simp only[go_sem,d1,d2,d3,↓hlen,hn_g9];with_reducible show R (some _);with_reducible refine r _ _ ?_;clear r R)
 refine aw_dr 11 ty_mixed (by kernel_rfl) ?_
 repeat first|apply wa1|apply wa2|apply wa3|apply wa4|apply wa5 rfl|apply wa6|apply wa7|(refine wb1 rfl fun R r=>?_;simp only[go_sem,d1,d2,d3,↓hlen,hn_g9];with_reducible show R (some _);with_reducible refine r _ _ ?_;clear r R)|apply wa8|(refine wd1 rfl fun R r=>?_;simp only[go_sem,d1,d2,d3,↓hlen,hn_g9];with_reducible show R (some _);with_reducible refine r _ _ ?_;clear r R)
 refine drk_lookup2 (a:=dk ⟨v,lo,hi⟩) (kv:=uqTo ns 0) (Kf:=dkV) (kt:=145) (et:=3) rfl rfl rfl (by kernel_rfl) dk_ok ty_iz (by simp only[go_sem,d1,d2,d3,↓hlen,hn_g9]<;>rfl) (by simp only[go_sem,d1,d2,d3,↓hlen,hn_g9]<;>rfl) (by simp only[go_sem,d1,d2,d3,↓hlen,hn_g9]<;>rfl) dk_rep ?_
 (try simp only[go_sem,d1,d2,d3,↓hlen,hn_g9])
 rw [uq_get]
 cases hf:findN ⟨v,lo,hi⟩ ns 0 with
 |some i=>
  try simp only [Option.map_some,Option.getD_some,Option.isSome_some,cstC]
  repeat first|apply wa1|apply wa2|apply wa3|apply wa4|apply wa5 rfl|apply wa6|apply wa7|(refine wb1 rfl fun R r=>?_;simp only[go_sem,d1,d2,d3,↓hlen,hn_g9];with_reducible show R (some _);with_reducible refine r _ _ ?_;clear r R)|apply wa8|(refine wd1 rfl fun R r=>?_;simp only[go_sem,d1,d2,d3,↓hlen,hn_g9];with_reducible show R (some _);with_reducible refine r _ _ ?_;clear r R)
  refine aw_condF (by simp only[go_sem,d1,d2,d3,↓hlen,hn_g9]<;>rfl) ?_
  repeat first|apply wa1|apply wa2|apply wa3|apply wa4|apply wa5 rfl|apply wa6|apply wa7|(refine wb1 rfl fun R r=>?_;simp only[go_sem,d1,d2,d3,↓hlen,hn_g9];with_reducible show R (some _);with_reducible refine r _ _ ?_;clear r R)|apply wa8|(refine wd1 rfl fun R r=>?_;simp only[go_sem,d1,d2,d3,↓hlen,hn_g9];with_reducible show R (some _);with_reducible refine r _ _ ?_;clear r R)
  refine aw_keep [(8,.c (.int .i64 (2+i)))] (THp gT gU gM og o pl ns mm) (by simp only[go_sem,d1,d2,d3,↓hlen,hn_g9]<;>and_intros<;>first|exact True.intro|(with_reducible rfl)|exact c_int om|rfl) (List.Sublist.cons _ (List.Sublist.refl _)) ?_
  (refine aw_rethq rfl fun R r=>?_;simp only[go_sem,d1,d2,d3,↓hlen,hn_g9];refine r _ rfl ?_;clear r R)
  unfold mkF
  rw [if_neg h1',hf]
  exact⟨og,hog,rfl,rfl⟩
 |none=>
  try simp only [Option.map_none,Option.getD_none,Option.isSome_none,cstC]
  repeat first|apply wa1|apply wa2|apply wa3|apply wa4|apply wa5 rfl|apply wa6|apply wa7|(refine wb1 rfl fun R r=>?_;simp only[go_sem,d1,d2,d3,↓hlen,hn_g9];with_reducible show R (some _);with_reducible refine r _ _ ?_;clear r R)|apply wa8|(refine wd1 rfl fun R r=>?_;simp only[go_sem,d1,d2,d3,↓hlen,hn_g9];with_reducible show R (some _);with_reducible refine r _ _ ?_;clear r R)
  refine aw_condT (by simp only[go_sem,d1,d2,d3,↓hlen,hn_g9]<;>rfl) ?_
  repeat first|apply wa1|apply wa2|apply wa3|apply wa4|apply wa5 rfl|apply wa6|apply wa7|(refine wb1 rfl fun R r=>?_;simp only[go_sem,d1,d2,d3,↓hlen,hn_g9];with_reducible show R (some _);with_reducible refine r _ _ ?_;clear r R)
  refine aw_cut (fun g:Nat=>[(0,.c (.optr gT 0)),(9,.c (.optr g9 0)),(10,.c (.int .i64 (2+(ns.length:Int))))]) (fun g=>(g9,.cells 145 3 (ofL [.int .i64 v,.int .i64 lo,.int .i64 hi]))::(gT,.cells 140 5 (ofL [is true o,is true pl,.osl g 3 0 (ns.length+1),.raw (.map (some gU)),.raw (.map (some gM))]))::(gU,.gen (MapI dkV (uqTo ns 0)))::(gM,.gen (MapI key3 (mmL mm)))::[(g,.cells 145 ((ns.length+1)*3) (dnsF (ns++[⟨v,lo,hi⟩])))]) (fun g=>g∉Heap.keys [(g9,.cells 0 0 (ofL [])),(gT,.cells 0 0 (ofL [])),(gU,.cells 0 0 (ofL [])),(gM,.cells 0 0 (ofL []))]) ?_ ?_
  ·refine aw_drL 7 0 37 ty_mixed (by kernel_rfl) ?_
   repeat (refine drg_2q rfl fun R r=>?_;simp only[go_sem,d1,d2,d3,↓hlen,hn_g9];with_reducible show R (some _);with_reducible refine r _ _ ?_;clear r R)
   refine drg_new rfl (NewX.buildSlice (xs:=[.tmp 42]) (cells:=[.int .i64 v,.int .i64 lo,.int .i64 hi]) rfl rfl rfl (by simp only[go_sem,d1,d2,d3,↓hlen,hn_g9]<;>rfl) (by(try simp only[go_sem,d1,d2,d3,↓hlen,hn_g9]);rfl) rfl om om (by intro x hx;simp only [List.mem_singleton] at hx;subst hx;exact⟨rfl,rfl,rfl⟩) rfl (by simp [Op.operands])) (by kernel_rfl) ?_
   (try simp only[go_sem,d1,d2,d3,↓hlen,hn_g9])
   refine drg_nil ⟨by simp,fun γ=> ?_,fun γ=> ?_⟩
   ·simp only [List.drop_succ_cons,List.drop_zero,List.take_succ_cons,List.take_zero,List.cons_append,List.nil_append]
    (try simp only[go_sem,d1,d2,d3,↓hlen,hn_g9])
    try simp only [List.cons_append,List.nil_append]
    generalize γ 6=gt
    refine aw_push2 (e:=145) (size:=3) (bytes:=24) (n:=ns.length) (z:=[.int .i64 0,.int .i64 0,.int .i64 0]) (f:=dnsF ns) (pre:=[(g9,.cells 145 3 (ofL [.int .i64 v,.int .i64 lo,.int .i64 hi])),(gT,.cells 140 5 (ofL [is true o,is true pl,gs og 3 ns.length,.raw (.map (some gU)),.raw (.map (some gM))])),(gU,.gen (MapI dkV (uqTo ns 0))),(gM,.gen (MapI key3 (mmL mm)))]) (f':=dnsF (ns++[⟨v,lo,hi⟩])) (v:=.agg [.int .i64 v,.int .i64 lo,.int .i64 hi]) rfl rfl rfl (by simp only[go_sem,d1,d2,d3,↓hlen,hn_g9]<;>rfl) (by simp only[go_sem,d1,d2,d3,↓hlen,hn_g9]<;>rfl) rfl om om (by simp only[go_sem,d1,d2,d3,↓hlen,hn_g9]<;>rfl) (by simp only[go_sem,d1,d2,d3,↓hlen,hn_g9]<;>rfl) hog (by rfl) (by rfl) (by simp only [List.cons_append,List.nil_append];rfl) (by unfold maxLen;omega) om (lf_push (xs:=ns) rfl (⟨v,lo,hi⟩:DN) om) fun g hn_g=> ?_
    (try simp only[go_sem,d1,d2,d3,↓hlen,hn_g9])
    simp only [gs,gh,List.cons_append,List.nil_append]
    repeat first|apply wa7|(refine wb1 rfl fun R r=>?_;simp only[go_sem,d1,d2,d3,↓hlen,hn_g9];with_reducible show R (some _);with_reducible refine r _ _ ?_;clear r R)|apply wa8|(refine wd1 rfl fun R r=>?_;simp only[go_sem,d1,d2,d3,↓hlen,hn_g9];with_reducible show R (some _);with_reducible refine r _ _ ?_;clear r R)
    refine aw_store rfl rfl rfl rfl (by simp only[go_sem,d1,d2,d3,↓hlen,hn_g9]<;>rfl) (by simp only[go_sem,d1,d2,d3,↓hlen,hn_g9]<;>rfl) (by simp only[go_sem,d1,d2,d3,↓hlen,hn_g9]<;>rfl) (by simp only[go_sem,d1,d2,d3,↓hlen,hn_g9]<;>rfl) (fun _ e=>by cases e) (by rfl) (by rfl) (by first|omega|simp) rfl ?_
    (try simp only[go_sem,d1,d2,d3,↓hlen,hn_g9])
    repeat first|apply wa7|(refine wb1 rfl fun R r=>?_;simp only[go_sem,d1,d2,d3,↓hlen,hn_g9];with_reducible show R (some _);with_reducible refine r _ _ ?_;clear r R)
    exact aw_stop ⟨g,(by simp only[go_sem,d1,d2,d3,↓hlen,hn_g9]<;>and_intros<;>first|exact True.intro|(with_reducible rfl)|exact c_int om|rfl),(List.Sublist.refl _),hn_g⟩
   ·simp only [List.drop_succ_cons,List.drop_zero,List.take_succ_cons,List.take_zero,List.cons_append,List.nil_append]
    (try simp only[go_sem,d1,d2,d3,↓hlen,hn_g9])
    try simp only [List.cons_append,List.nil_append]
    generalize γ 6=gt
    refine aw_push2 (e:=145) (size:=3) (bytes:=24) (n:=ns.length) (z:=[.int .i64 0,.int .i64 0,.int .i64 0]) (f:=dnsF ns) (pre:=[(g9,.cells 145 3 (ofL [.int .i64 v,.int .i64 lo,.int .i64 hi])),(gT,.cells 140 5 (ofL [is true o,is true pl,gs og 3 ns.length,.raw (.map (some gU)),.raw (.map (some gM))])),(gU,.gen (MapI dkV (uqTo ns 0))),(gM,.gen (MapI key3 (mmL mm)))]) (f':=dnsF (ns++[⟨v,lo,hi⟩])) (v:=.agg [.int .i64 v,.int .i64 lo,.int .i64 hi]) rfl rfl rfl (by simp only[go_sem,d1,d2,d3,↓hlen,hn_g9]<;>rfl) (by simp only[go_sem,d1,d2,d3,↓hlen,hn_g9]<;>rfl) rfl om om (by simp only[go_sem,d1,d2,d3,↓hlen,hn_g9]<;>rfl) (by simp only[go_sem,d1,d2,d3,↓hlen,hn_g9]<;>rfl) hog (by rfl) (by rfl) (by simp only [List.cons_append,List.nil_append];rfl) (by unfold maxLen;omega) om (lf_push (xs:=ns) rfl (⟨v,lo,hi⟩:DN) om) fun g hn_g=> ?_
    (try simp only[go_sem,d1,d2,d3,↓hlen,hn_g9])
    simp only [gs,gh,List.cons_append,List.nil_append]
    repeat first|apply wa7|(refine wb1 rfl fun R r=>?_;simp only[go_sem,d1,d2,d3,↓hlen,hn_g9];with_reducible show R (some _);with_reducible refine r _ _ ?_;clear r R)
    refine aw_store rfl rfl rfl rfl (by simp only[go_sem,d1,d2,d3,↓hlen,hn_g9]<;>rfl) (by simp only[go_sem,d1,d2,d3,↓hlen,hn_g9]<;>rfl) (by simp only[go_sem,d1,d2,d3,↓hlen,hn_g9]<;>rfl) (by simp only[go_sem,d1,d2,d3,↓hlen,hn_g9]<;>rfl) (fun _ e=>by cases e) (by rfl) (by rfl) (by first|omega|simp) rfl ?_
    (try simp only[go_sem,d1,d2,d3,↓hlen,hn_g9])
    repeat first|apply wa7|(refine wb1 rfl fun R r=>?_;simp only[go_sem,d1,d2,d3,↓hlen,hn_g9];with_reducible show R (some _);with_reducible refine r _ _ ?_;clear r R)
    exact aw_stop ⟨g,(by simp only[go_sem,d1,d2,d3,↓hlen,hn_g9]<;>and_intros<;>first|exact True.intro|(with_reducible rfl)|exact c_int om|rfl),(List.Sublist.refl _),hn_g⟩
  rintro g hn_g
  replace hn_g:=Heap.ne_of hn_g
  dsimp only [Heap.ne] at hn_g
  repeat first|apply wa1|apply wa2|apply wa3|apply wa4|apply wa5 rfl|apply wa6|apply wa7|(refine wb1 rfl fun R r=>?_;simp only[go_sem,d1,d2,d3,↓hlen,hn_g9,hn_g];with_reducible show R (some _);with_reducible refine r _ _ ?_;clear r R)
  refine aw_dr 6 ty_mixed (by kernel_rfl) ?_
  repeat first|apply wa1|apply wa2|apply wa3|apply wa4|apply wa5 rfl|apply wa6|apply wa7|(refine wb1 rfl fun R r=>?_;simp only[go_sem,d1,d2,d3,↓hlen,hn_g9,hn_g];with_reducible show R (some _);with_reducible refine r _ _ ?_;clear r R)|apply wa8|(refine wd1 rfl fun R r=>?_;simp only[go_sem,d1,d2,d3,↓hlen,hn_g9,hn_g];with_reducible show R (some _);with_reducible refine r _ _ ?_;clear r R)
  refine aw_mapNew (a:=dk ⟨v,lo,hi⟩) (kv:=uqTo ns 0) (Kf:=dkV) (v:=.int .i64 (2+(ns.length:Int))) rfl rfl rfl (kt:=145) (et:=3) (by kernel_rfl) dk_ok (by simp only[go_sem,d1,d2,d3,↓hlen,hn_g9,hn_g]<;>rfl) (by simp only[go_sem,d1,d2,d3,↓hlen,hn_g9,hn_g]<;>rfl) (by simp only[go_sem,d1,d2,d3,↓hlen,hn_g9,hn_g]<;>rfl) dk_rep (cv:=.c (.int .i64 (2+(ns.length:Int)))) (by simp only[go_sem,d1,d2,d3,↓hlen,hn_g9,hn_g]<;>rfl) (fun S w u h=>h) (by rw [uq_get,hf];rfl) (by simp only[go_sem,d1,d2,d3,↓hlen,hn_g9,hn_g]<;>rfl) ?_
  have hup:=uq_push ⟨v,lo,hi⟩ ns 0
  rw [Nat.zero_add] at hup
  rw [←hup]
  (try simp only[go_sem,d1,d2,d3,↓hlen,hn_g9,hn_g])
  repeat first|apply wa1|apply wa2|apply wa3|apply wa4|apply wa5 rfl|apply wa6|apply wa7|(refine wb1 rfl fun R r=>?_;simp only[go_sem,d1,d2,d3,↓hlen,hn_g9,hn_g];with_reducible show R (some _);with_reducible refine r _ _ ?_;clear r R)|apply wa8|(refine wd1 rfl fun R r=>?_;simp only[go_sem,d1,d2,d3,↓hlen,hn_g9,hn_g];with_reducible show R (some _);with_reducible refine r _ _ ?_;clear r R)
  refine aw_keep [(8,.c (.int .i64 (2+(ns.length:Int))))] (THp gT gU gM (some g) o pl (ns++[⟨v,lo,hi⟩]) mm) (by simp only[go_sem,d1,d2,d3,↓hlen,hn_g9,hn_g]<;>and_intros<;>first|exact True.intro|(with_reducible rfl)|exact c_int om|rfl) (by
   unfold THp TH
   rw [List.length_append]
   exact List.Sublist.cons _ (List.Sublist.refl _)) ?_
  (refine aw_rethq rfl fun R r=>?_;simp only[go_sem,d1,d2,d3,↓hlen,hn_g9,hn_g];refine r _ rfl ?_;clear r R)
  unfold mkF
  rw [if_neg h1',hf]
  exact⟨some g,some_ne,rfl,rfl⟩
end Go.Proofs.YtfcnbgmclfkfcaaGreat
namespace Go.AI
section
variable {P : Program}
theorem run_checkFields' {n:Nat} {xs:Array Value} (w:World) (b:Bool) (hx:∀k,k<xs.size→∃kk z,xs[k]?=some (Value.int kk z)):∀(fs:List Field) (k:Nat),(fs.zipIdx k).all (fun p=>p.1.name != "_" &&p.1.offset==p.2&&(tInt P p.1.type).isSome)=true→k+fs.length≤xs.size→
 (forIn fs PUnit.unit (fun f (_:PUnit)=>(do
  if f.name≠ "_" then
   let __do_lift←part f.type xs f.offset
   Instr.checkKey b (n+1) f.type __do_lift
  pure (ForInStep.yield PUnit.unit):Sem (ForInStep PUnit)))).run P w=.ok PUnit.unit w
 |[],k,_,_=>by simp
 |f::fs,k,hf,hk=>by
  simp only [List.zipIdx_cons,List.all_cons,Bool.and_eq_true,bne_iff_ne,ne_eq,beq_iff_eq] at hf
  obtain⟨⟨⟨hn,ho⟩,hi⟩,hr⟩:=hf
  simp only [List.length_cons] at hk
  obtain⟨k1,z,e1⟩:=hx k om
  obtain⟨kk,hkk⟩:=Option.isSome_iff_exists.1 hi
  have hu:=tInt_spec hkk
  have hag:(isAgg f.type).run P w=.ok false w:=by simp [isAgg,run_underlying hu]
  have p1:(part f.type xs f.offset).run P w=.ok (.int k1 z) w:=by
   unfold part
   simp only [Sem.run_bind,hag,Result.andThen_ok,Bool.false_eq_true,if_false,ho,e1,Sem.run_pure]
  have p2:(Instr.checkKey b (n+1) f.type (.int k1 z)).run P w=.ok () w:=by
   simp [Instr.checkKey,run_underlying hu]
  have ih:=run_checkFields' (n:=n) (xs:=xs) w b hx fs (k+1) (by simpa using hr) om
  rw [List.forIn_cons]
  simp only [hn,not_false_eq_true,if_true,Sem.run_bind,p1,p2,Result.andThen_ok,Sem.run_pure,ne_eq]
  exact ih
theorem run_eqFields' (w:World) (xs ys:Array Value) (iu bs:List Int) (hx:∀k,k<iu.length→∃kk,xs[k]?=some (Value.int kk (iu.getD k 0))∧ys[k]?=some (Value.int kk (bs.getD k 0))) (hl:iu.length=bs.length):
 ∀(fs:List Field) (k:Nat),(fs.zipIdx k).all (fun p=>p.1.name != "_" &&p.1.offset==p.2&&(tInt P p.1.type).isSome)=true→k+fs.length=iu.length→(Op.eqFields 9999 xs ys fs).run P w=.ok (eqZ (iu.drop k) (bs.drop k)) w
 |[],k,_,hk=>by
  rw [List.drop_of_length_le (by simp at hk;omega),List.drop_of_length_le (by simp at hk;omega)]
  simp [Op.eqFields,eqZ]
 |f::fs,k,hf,hk=>by
  simp only [List.zipIdx_cons,List.all_cons,Bool.and_eq_true,bne_iff_ne,ne_eq,beq_iff_eq] at hf
  obtain⟨⟨⟨hn,ho⟩,hi⟩,hr⟩:=hf
  simp only [List.length_cons] at hk
  have hka:k<iu.length:=by omega
  have hkb:k<bs.length:=by omega
  obtain⟨kk,hkk⟩:=Option.isSome_iff_exists.1 hi
  have hu:=tInt_spec hkk
  have hag:(isAgg f.type).run P w=.ok false w:=by simp [isAgg,run_underlying hu]
  obtain⟨k1,e1,e2⟩:=hx k hka
  rw [List.getD_eq_getElem?_getD,List.getElem?_eq_getElem hka,Option.getD_some] at e1
  rw [List.getD_eq_getElem?_getD,List.getElem?_eq_getElem hkb,Option.getD_some] at e2
  have p1:(part f.type xs f.offset).run P w=.ok (.int k1 (iu[k])) w:=by
   unfold part
   simp only [Sem.run_bind,hag,Result.andThen_ok,Bool.false_eq_true,if_false,ho,e1,Sem.run_pure]
  have p2:(part f.type ys f.offset).run P w=.ok (.int k1 (bs[k])) w:=by
   unfold part
   simp only [Sem.run_bind,hag,Result.andThen_ok,Bool.false_eq_true,if_false,ho,e2,Sem.run_pure]
  have p3:(Op.equalIn 9999 f.type (.int k1 (iu[k])) (.int k1 (bs[k]))).run P w=.ok (iu[k]==bs[k]) w:=run_equalIn_int w 9998 f.type k1 kk _ _ hu
  have ih:=run_eqFields' w xs ys iu bs hx hl fs (k+1) (by simpa using hr) om
  rw [List.drop_eq_getElem_cons hka,List.drop_eq_getElem_cons hkb]
  simp only [Op.eqFields,hn,not_false_eq_true,if_true,Sem.run_bind,p1,p2,p3,Result.andThen_ok,eqZ,ne_eq]
  cases hab:(iu[k]==bs[k]) with
  |true=>simpa using ih
  |false=>simp
def keyS (k:Int×Int×Int):Value:=.agg #[.int .u8 k.1,.int .i64 k.2.1,.int .i64 k.2.2]
theorem keyS_ok {kt:Nat} (ht:tEqS P kt=some 3):KeyOk P kt keyS:=by
 have hstr:P.underlying kt=some (.struct (P.fieldsOf kt))∧(P.fieldsOf kt).toList.zipIdx.all (fun p=>p.1.name != "_" &&p.1.offset==p.2&&(tInt P p.1.type).isSome)=true∧(P.fieldsOf kt).size=3∧P.stoodInHeld kt=false:=by
  unfold tEqS at ht
  split at ht
  ·rename_i hc
   simp only [Bool.and_eq_true,Bool.not_eq_true'] at hc
   obtain⟨⟨⟨h1,h2⟩,h3⟩,h4⟩:=hc
   injection ht with ht
   exact⟨isStr_spec h4,h3,ht,h1⟩
  ·cases ht
 obtain⟨hu,hf,hs,h1⟩:=hstr
 have heq:∀(a b:Int×Int×Int) (w:World),(Op.equal kt (keyS a) (keyS b)).run P w=.ok (decide (a=b)) w:=fun a b w=>by
  obtain⟨x,y,z⟩:=a
  obtain⟨x',y',z'⟩:=b
  unfold Op.equal Op.maxDepth keyS
  rw [show(10000:Nat)=9999+1 from rfl,run_equalIn_agg w 9999 kt _ _ hu h1]
  rw [run_eqFields' (P:=P) w _ _ [x,y,z] [x',y',z'] (fun k hk=>by
   simp only [List.length_cons,List.length_nil] at hk
   rcases k with _|_|_|k
   ·exact⟨.u8,rfl,rfl⟩
   ·exact⟨.i64,rfl,rfl⟩
   ·exact⟨.i64,rfl,rfl⟩
   ·omega) rfl (P.fieldsOf kt).toList 0 hf (by simp [hs])]
  rw [List.drop_zero,List.drop_zero,eqZ_eq]
  congr 1
  rw [Bool.eq_iff_iff];simp
 refine⟨fun b a w=> ?_,fun a ks es w h=> ?_⟩
 ·obtain⟨x,y,z⟩:=a
  unfold keyS
  rw [show(10000:Nat)=9999+1 from rfl,Instr.checkKey]
  simp only [Sem.run_bind,run_underlying hu,Result.andThen_ok]
  rw [←Array.forIn_toList]
  have:=run_checkFields' (P:=P) (n:=9998) (xs:= #[.int .u8 x,.int .i64 y,.int .i64 z]) w b (fun k hk=>by
   simp only [List.size_toArray,List.length_cons,List.length_nil] at hk
   rcases k with _|_|_|k
   ·exact⟨.u8,x,rfl⟩
   ·exact⟨.i64,y,rfl⟩
   ·exact⟨.i64,z,rfl⟩
   ·omega) (P.fieldsOf kt).toList 0 hf (by simp [hs])
  rw [this]
  rfl
 ·unfold Instr.findKey
  simp only [Sem.run_bind,run_underlying hu,Result.andThen_ok]
  cases es with
  |nil=>
   cases ks with
   |nil=>simp [Instr.findNow,fAsk]
   |cons k ks=>simp at h
  |cons e es=>
   have hn:Instr.findNow (.struct (P.fieldsOf kt)) (keyS a) (e::es) 0=none:=by
    simp [Instr.findNow,Instr.sameNow,keyS]
   rw [hn]
   exact run_findAsking heq a ks (e::es) 0 w h
theorem keyS_rep {c a b:Int}:∀(S:Bool→Nat→Prop) (w:World) (u:Value),Rep S w (.agg [.int .u8 c,.int .i64 a,.int .i64 b]) u→u=keyS (c,a,b):=by
 rintro S w u ⟨us,rfl,h⟩
 match us,h with
 |[x,y,z],⟨h1,h2,h3,_⟩=>
  have h1:x=_:=h1
  have h2:y=_:=h2
  have h3:z=_:=h3
  rw [h1,h2,h3];rfl
end
end Go.AI
namespace Go.PN
open Go.AI
def evZ (n:Nat) (ns:List DN) (r:Int):Int:=if r<2 then n else(ns.getD (r-2).toNat dn0).v
structure ZNd (n:Nat) (ns:List DN) (i:Nat):Prop where
 nk:NodeOk n i (ns.getD i dn0)
 hi:(ns.getD i dn0).hi≠0
 bl:(ns.getD i dn0).v<evZ n ns (ns.getD i dn0).lo
 bh:(ns.getD i dn0).v<evZ n ns (ns.getD i dn0).hi
 new:ns.getD i dn0∉ns.take i
def ZTab (n:Nat) (ns:List DN):Prop:=∀i,i<ns.length→ZNd n ns i
theorem ZTab.ns {n:Nat} {ns:List DN} (h:ZTab n ns):NsOk n ns:=fun i hi=>(h i hi).nk
theorem evZ_app {n:Nat} {ns xs:List DN} {r:Int} (h:RefOk ns r):evZ n (ns++xs) r=evZ n ns r:=by
 unfold evZ
 unfold RefOk at h
 split
 ·rfl
 ·rw [getD_app om]
theorem ZTab.kids {n:Nat} {ns:List DN} (h:ZTab n ns) {i:Nat} (hi:i<ns.length):RefOk ns (ns.getD i dn0).lo∧RefOk ns (ns.getD i dn0).hi:=by
 obtain⟨_,_,l0,l1,h0,h1⟩:=(h i hi).nk
 exact⟨⟨l0,by omega⟩,⟨h0,by omega⟩⟩
theorem evZ_le {n:Nat} {ns:List DN} (h:ZTab n ns) {r:Int} (hr:RefOk ns r):0≤evZ n ns r∧evZ n ns r≤n∧(2≤r→evZ n ns r<n):=by
 unfold evZ
 unfold RefOk at hr
 split
 ·exact⟨by omega,Int.le_refl _,fun h=>by omega⟩
 ·obtain⟨v0,v1,_⟩:=(h (r-2).toNat om).nk
  exact⟨v0,by omega,fun _=>v1⟩
def memF (ns:List DN):Nat→Int→Nat→Bool
 |0,r,s=>decide (r=1)&&decide (s=0)
 |k+1,r,s=>if r≤1 then decide (r=1)&&decide (s=0) else if s.testBit (ns.getD (r-2).toNat dn0).v.toNat then memF ns k (ns.getD (r-2).toNat dn0).hi (s^^^2^(ns.getD (r-2).toNat dn0).v.toNat) else memF ns k (ns.getD (r-2).toNat dn0).lo s
def memZ (ns:List DN) (r:Int) (s:Nat):Bool:=memF ns r.toNat r s
def hitF (ns:List DN):Nat→Int→Nat→Bool
 |0,r,_=>decide (r=1)
 |k+1,r,s=>if r≤1 then decide (r=1) else hitF ns k (ns.getD (r-2).toNat dn0).lo s||(s.testBit (ns.getD (r-2).toNat dn0).v.toNat&&hitF ns k (ns.getD (r-2).toNat dn0).hi s)
def hitZ (ns:List DN) (r:Int) (s:Nat):Bool:=hitF ns r.toNat r s
theorem memF_fuel {n:Nat} {ns:List DN} (h:ZTab n ns):∀(k:Nat) (r:Int) (s:Nat),RefOk ns r→r.toNat≤k→memF ns k r s=memF ns r.toNat r s
 |0,r,s,hr,hk=>by rw [show r.toNat=0 from by omega]
 |k+1,r,s,hr,hk=>by
  unfold RefOk at hr
  by_cases h1:r≤1
  ·rw [memF,if_pos h1]
   cases hq:r.toNat with
   |zero=>rfl
   |succ j=>rw [memF,if_pos h1]
  ·obtain⟨j,hj⟩:∃j,r.toNat=j+1:=⟨r.toNat-1,by omega⟩
   have hi:(r-2).toNat<ns.length:=by omega
   obtain⟨k1,k2⟩:=h.kids hi
   obtain⟨_,_,l0,l1,h0,h1'⟩:=(h _ hi).nk
   rw [hj,memF,memF,if_neg h1,if_neg h1]
   split
   ·rw [memF_fuel h k _ _ k2 om,memF_fuel h j _ _ k2 om]
   ·rw [memF_fuel h k _ _ k1 om,memF_fuel h j _ _ k1 om]
termination_by k=>k
decreasing_by all_goals omega
theorem hitF_fuel {n:Nat} {ns:List DN} (h:ZTab n ns):∀(k:Nat) (r:Int) (s:Nat),RefOk ns r→r.toNat≤k→hitF ns k r s=hitF ns r.toNat r s
 |0,r,s,hr,hk=>by rw [show r.toNat=0 from by omega]
 |k+1,r,s,hr,hk=>by
  unfold RefOk at hr
  by_cases h1:r≤1
  ·rw [hitF,if_pos h1]
   cases hq:r.toNat with
   |zero=>rfl
   |succ j=>rw [hitF,if_pos h1]
  ·obtain⟨j,hj⟩:∃j,r.toNat=j+1:=⟨r.toNat-1,by omega⟩
   have hi:(r-2).toNat<ns.length:=by omega
   obtain⟨k1,k2⟩:=h.kids hi
   obtain⟨_,_,l0,l1,h0,h1'⟩:=(h _ hi).nk
   rw [hj,hitF,hitF,if_neg h1,if_neg h1,hitF_fuel h k _ _ k2 om,hitF_fuel h j _ _ k2 om,hitF_fuel h k _ _ k1 om,hitF_fuel h j _ _ k1 om]
termination_by k=>k
decreasing_by all_goals omega
theorem mem_leaf {ns:List DN} {r:Int} (h:r≤1) (s:Nat):memZ ns r s=(decide (r=1)&&decide (s=0)):=by
 unfold memZ
 cases hq:r.toNat with
 |zero=>rfl
 |succ j=>rw [memF,if_pos h]
theorem hit_leaf {ns:List DN} {r:Int} (h:r≤1) (s:Nat):hitZ ns r s=decide (r=1):=by
 unfold hitZ
 cases hq:r.toNat with
 |zero=>rfl
 |succ j=>rw [hitF,if_pos h]
theorem mem_step {n:Nat} {ns:List DN} (h:ZTab n ns) {r:Int} (h2:2≤r) (hr:RefOk ns r) (s:Nat):memZ ns r s=if s.testBit (ns.getD (r-2).toNat dn0).v.toNat then memZ ns (ns.getD (r-2).toNat dn0).hi (s^^^2^(ns.getD (r-2).toNat dn0).v.toNat) else memZ ns (ns.getD (r-2).toNat dn0).lo s:=by
 unfold RefOk at hr
 have hi:(r-2).toNat<ns.length:=by omega
 obtain⟨k1,k2⟩:=h.kids hi
 obtain⟨_,_,l0,l1,h0,h1'⟩:=(h _ hi).nk
 obtain⟨j,hj⟩:∃j,r.toNat=j+1:=⟨r.toNat-1,by omega⟩
 unfold memZ
 rw [hj,memF,if_neg om,memF_fuel h j _ _ k2 om,memF_fuel h j _ _ k1 om]
theorem hit_step {n:Nat} {ns:List DN} (h:ZTab n ns) {r:Int} (h2:2≤r) (hr:RefOk ns r) (s:Nat):hitZ ns r s=(hitZ ns (ns.getD (r-2).toNat dn0).lo s||(s.testBit (ns.getD (r-2).toNat dn0).v.toNat&&hitZ ns (ns.getD (r-2).toNat dn0).hi s)):=by
 unfold RefOk at hr
 have hi:(r-2).toNat<ns.length:=by omega
 obtain⟨k1,k2⟩:=h.kids hi
 obtain⟨_,_,l0,l1,h0,h1'⟩:=(h _ hi).nk
 obtain⟨j,hj⟩:∃j,r.toNat=j+1:=⟨r.toNat-1,by omega⟩
 unfold hitZ
 rw [hj,hitF,if_neg om,hitF_fuel h j _ _ k2 om,hitF_fuel h j _ _ k1 om]
theorem ZTab.ind {n:Nat} {ns:List DN} (h:ZTab n ns) {P:Int→Prop} (leaf:∀r,0≤r→r≤1→P r) (node:∀r,2≤r→RefOk ns r→P (ns.getD (r-2).toNat dn0).lo→P (ns.getD (r-2).toNat dn0).hi→P r):∀r,RefOk ns r→P r:=by
 have key:∀(k:Nat) (r:Int),r.toNat≤k→RefOk ns r→P r:=by
  intro k
  induction k with
  |zero=>intro r hk hr;unfold RefOk at hr;exact leaf r hr.1 om
  |succ k ih=>
   intro r hk hr
   by_cases h1:r≤1
   ·exact leaf r hr.1 h1
   ·have hi:(r-2).toNat<ns.length:=by unfold RefOk at hr;omega
    obtain⟨k1,k2⟩:=h.kids hi
    obtain⟨_,_,l0,l1,h0,h1'⟩:=(h _ hi).nk
    exact node r om hr (ih _ om k1) (ih _ om k2)
 exact fun r hr=>key _ r (Nat.le_refl _) hr
theorem evZ_node {n:Nat} {ns:List DN} {r:Int} (h2:2≤r):evZ n ns r=(ns.getD (r-2).toNat dn0).v:=if_neg om
theorem xor_bit (s v j:Nat):(s^^^2^v).testBit j=(s.testBit j !=decide (v=j)):=by
 rw [Nat.testBit_xor,Nat.testBit_two_pow]
theorem xor_off {s v:Nat} (h:s.testBit v=true):(s^^^2^v).testBit v=false:=by rw [xor_bit,h];simp
theorem xor_ne {s v j:Nat} (h:v≠j):(s^^^2^v).testBit j=s.testBit j:=by rw [xor_bit,decide_eq_false h];cases s.testBit j<;>rfl
theorem mem_bits {n:Nat} {ns:List DN} (h:ZTab n ns):∀r,RefOk ns r→∀s,memZ ns r s=true→∀j,s.testBit j=true→evZ n ns r≤j∧j<n:=by
 refine h.ind (fun r h0 h1 s hm j hj=> ?_) fun r h2 hr il ih s hm j hj=> ?_
 ·rw [mem_leaf h1] at hm
  simp only [Bool.and_eq_true,decide_eq_true_eq] at hm
  rw [hm.2] at hj
  simp at hj
 ·have hi:(r-2).toNat<ns.length:=by unfold RefOk at hr;omega
  have nd:=h _ hi
  obtain⟨v0,v1,_⟩:=nd.nk
  have bl:=nd.bl
  have bh:=nd.bh
  rw [mem_step h h2 hr] at hm
  rw [evZ_node h2]
  split at hm
  ·by_cases e:(ns.getD (r-2).toNat dn0).v.toNat=j
   ·omega
   ·have:=ih _ hm j (by rw [xor_ne e];exact hj)
    omega
  ·have:=il _ hm j hj
   omega
theorem hit_indep {n:Nat} {ns:List DN} (h:ZTab n ns):∀r,RefOk ns r→∀s t:Nat,(∀j:Nat,evZ n ns r≤j→s.testBit j=t.testBit j)→hitZ ns r s=hitZ ns r t:=by
 refine h.ind (fun r h0 h1 s t _=>by rw [hit_leaf h1,hit_leaf h1]) fun r h2 hr il ih s t hst=> ?_
 have hi:(r-2).toNat<ns.length:=by unfold RefOk at hr;omega
 have nd:=h _ hi
 obtain⟨v0,v1,_⟩:=nd.nk
 have bl:=nd.bl
 have bh:=nd.bh
 rw [evZ_node h2] at hst
 rw [hit_step h h2 hr,hit_step h h2 hr,il s t fun j hj=>hst j om,ih s t fun j hj=>hst j om,hst _ om]
theorem hit_xor {n:Nat} {ns:List DN} (h:ZTab n ns) {r:Int} (hr:RefOk ns r) {v:Int} (v0:0≤v) (hv:v<evZ n ns r) (s:Nat):hitZ ns r (s^^^2^v.toNat)=hitZ ns r s:=
 hit_indep h r hr _ _ fun j hj=>xor_ne om
def SubN (t s:Nat):Prop:=∀j,t.testBit j=true→s.testBit j=true
theorem hit_iff {n:Nat} {ns:List DN} (h:ZTab n ns):∀r,RefOk ns r→∀s,hitZ ns r s=true↔∃t,SubN t s∧memZ ns r t=true:=by
 refine h.ind (fun r h0 h1 s=> ?_) fun r h2 hr il ih s=> ?_
 ·rw [hit_leaf h1,decide_eq_true_eq]
  constructor
  ·intro e
   exact⟨0,fun j hj=>by simp at hj,by rw [mem_leaf h1,e];rfl⟩
  ·rintro ⟨t,_,hm⟩
   rw [mem_leaf h1] at hm
   simp only [Bool.and_eq_true,decide_eq_true_eq] at hm
   exact hm.1
 ·have hi:(r-2).toNat<ns.length:=by unfold RefOk at hr;omega
  have nd:=h _ hi
  obtain⟨v0,v1,_⟩:=nd.nk
  obtain⟨k1,k2⟩:=h.kids hi
  have bl:=nd.bl
  have bh:=nd.bh
  rw [hit_step h h2 hr,Bool.or_eq_true,Bool.and_eq_true,il,ih]
  constructor
  ·rintro (⟨t,t1,t2⟩|⟨hb,t,t1,t2⟩)
   ·refine⟨t,t1,?_⟩
    rw [mem_step h h2 hr,if_neg,t2]
    intro hb
    have:=mem_bits h _ k1 t t2 _ hb
    omega
   ·have hbt:t.testBit (ns.getD (r-2).toNat dn0).v.toNat=false:=by
     cases hb:t.testBit (ns.getD (r-2).toNat dn0).v.toNat
     ·rfl
     ·have:=mem_bits h _ k2 t t2 _ hb
      omega
    refine⟨t^^^2^(ns.getD (r-2).toNat dn0).v.toNat,fun j hj=> ?_,?_⟩
    ·by_cases e:(ns.getD (r-2).toNat dn0).v.toNat=j
     ·subst e;exact hb
     ·rw [xor_ne e] at hj;exact t1 j hj
    ·rw [mem_step h h2 hr,if_pos (by rw [xor_bit,hbt];simp),Nat.xor_assoc,Nat.xor_self,Nat.xor_zero]
     exact t2
  ·rintro ⟨t,t1,t2⟩
   rw [mem_step h h2 hr] at t2
   split at t2
   ·rename_i hb
    exact .inr ⟨t1 _ hb,_,fun j hj=>by
     by_cases e:(ns.getD (r-2).toNat dn0).v.toNat=j
     ·subst e;rw [xor_off hb] at hj;cases hj
     ·rw [xor_ne e] at hj;exact t1 j hj,t2⟩
   ·exact .inl ⟨t,t1,t2⟩
theorem memF_app {n:Nat} {ns xs:List DN} (h:ZTab n ns):∀(k:Nat) (r:Int) (s:Nat),RefOk ns r→memF (ns++xs) k r s=memF ns k r s
 |0,r,s,_=>rfl
 |k+1,r,s,hr=>by
  rw [memF,memF]
  split
  ·rfl
  ·rename_i h1
   unfold RefOk at hr
   obtain⟨k1,k2⟩:=h.kids (show(r-2).toNat<ns.length by omega)
   rw [getD_app om,memF_app h k _ _ k1,memF_app h k _ _ k2]
theorem mem_app {n:Nat} {ns xs:List DN} (h:ZTab n ns) {r:Int} (hr:RefOk ns r) (s:Nat):memZ (ns++xs) r s=memZ ns r s:=memF_app h _ _ _ hr
theorem hitF_app {n:Nat} {ns xs:List DN} (h:ZTab n ns):∀(k:Nat) (r:Int) (s:Nat),RefOk ns r→hitF (ns++xs) k r s=hitF ns k r s
 |0,r,s,_=>rfl
 |k+1,r,s,hr=>by
  rw [hitF,hitF]
  split
  ·rfl
  ·rename_i h1
   unfold RefOk at hr
   obtain⟨k1,k2⟩:=h.kids (show(r-2).toNat<ns.length by omega)
   rw [getD_app om,hitF_app h k _ _ k1,hitF_app h k _ _ k2]
theorem hit_app {n:Nat} {ns xs:List DN} (h:ZTab n ns) {r:Int} (hr:RefOk ns r) (s:Nat):hitZ (ns++xs) r s=hitZ ns r s:=hitF_app h _ _ _ hr
theorem ZNd.app {n:Nat} {ns xs:List DN} (h:ZTab n ns) {i:Nat} (hi:i<ns.length):ZNd n (ns++xs) i:=by
 obtain⟨r1,r2⟩:=h.kids hi
 obtain⟨a,b,c,d,e⟩:=h i hi
 refine⟨?_,?_,?_,?_,?_⟩<;>rw [getD_app hi]
 ·exact a
 ·exact b
 ·rw [evZ_app r1];exact c
 ·rw [evZ_app r2];exact d
 ·rw [List.take_append_of_le_length om];exact e
def mkZ (ns:List DN) (v lo hi:Int):List DN×Int:=
 if hi=0 then(ns,lo) else match findN ⟨v,lo,hi⟩ ns 0 with
  |some i=>(ns,2+i)
  |none=>(ns++[⟨v,lo,hi⟩],2+ns.length)
structure ZLat (n:Nat) (ns ns':List DN) (k:Nat):Prop where
 tab:ZTab n ns'
 pre:∃xs,ns'=ns++xs
 len:ns'.length≤ns.length+k
theorem ZLat.refl {n:Nat} {ns:List DN} (h:ZTab n ns) (k:Nat):ZLat n ns ns k:=⟨h,⟨[],by simp⟩,by omega⟩
theorem ZLat.trans {n:Nat} {a b c:List DN} {i j k:Nat} (h1:ZLat n a b i) (h2:ZLat n b c j) (hk:i+j≤k):ZLat n a c k:=by
 obtain⟨_,⟨xs,e1⟩,l1⟩:=h1
 obtain⟨t2,⟨ys,e2⟩,l2⟩:=h2
 exact⟨t2,⟨xs++ys,by rw [e2,e1,List.append_assoc]⟩,by omega⟩
theorem ZLat.ref {n:Nat} {a b:List DN} {k:Nat} (h:ZLat n a b k) {r:Int} (hr:RefOk a r):RefOk b r:=by
 obtain⟨xs,e⟩:=h.pre
 rw [e];exact ref_app hr
theorem ZLat.ev {n:Nat} {a b:List DN} {k:Nat} (h:ZLat n a b k) {r:Int} (hr:RefOk a r):evZ n b r=evZ n a r:=by
 obtain⟨xs,e⟩:=h.pre
 rw [e];exact evZ_app hr
theorem ZLat.mem {n:Nat} {a b:List DN} {k:Nat} (h:ZLat n a b k) (ha:ZTab n a) {r:Int} (hr:RefOk a r) (s:Nat):memZ b r s=memZ a r s:=by
 obtain⟨xs,e⟩:=h.pre
 rw [e];exact mem_app ha hr s
theorem ZLat.hit {n:Nat} {a b:List DN} {k:Nat} (h:ZLat n a b k) (ha:ZTab n a) {r:Int} (hr:RefOk a r) (s:Nat):hitZ b r s=hitZ a r s:=by
 obtain⟨xs,e⟩:=h.pre
 rw [e];exact hit_app ha hr s
theorem ZLat.get {n:Nat} {a b:List DN} {k:Nat} (h:ZLat n a b k) {i:Nat} (hi:i<a.length):b.getD i dn0=a.getD i dn0:=by
 obtain⟨xs,e⟩:=h.pre
 rw [e];exact getD_app hi
theorem mkZ_ok {n:Nat} {ns:List DN} (h:ZTab n ns) {v lo hi:Int} (hv0:0≤v) (hv1:v<n) (hl:RefOk ns lo) (hh:RefOk ns hi) (bl:v<evZ n ns lo) (bh:v<evZ n ns hi):
 ZLat n ns (mkZ ns v lo hi).1 1∧RefOk (mkZ ns v lo hi).1 (mkZ ns v lo hi).2∧v≤evZ n (mkZ ns v lo hi).1 (mkZ ns v lo hi).2∧
 (∀s,memZ (mkZ ns v lo hi).1 (mkZ ns v lo hi).2 s=if s.testBit v.toNat then memZ ns hi (s^^^2^v.toNat) else memZ ns lo s):=by
 unfold mkZ
 by_cases e:hi=0
 ·subst e
  rw [if_pos rfl]
  refine⟨ZLat.refl h 1,hl,Int.le_of_lt bl,fun s=> ?_⟩
  split
  ·rename_i hb
   rw [mem_leaf (by omega:(0:Int)≤1)]
   cases hm:memZ ns lo s
   ·simp
   ·have:=mem_bits h lo hl s hm _ hb
    omega
  ·rfl
 ·rw [if_neg e]
  have h2:∀i:Nat,(2:Int)+i-2=i:=fun i=>by omega
  cases hf:findN ⟨v,lo,hi⟩ ns 0 with
  |some i=>
   obtain⟨_,h2',h3⟩:=findN_some hf
   rw [Nat.sub_zero] at h3
   have hi':i<ns.length:=by omega
   have hr:RefOk ns (2+(i:Int)):=⟨by omega,by omega⟩
   refine⟨ZLat.refl h 1,hr,?_,fun s=> ?_⟩
   ·show v≤evZ n ns (2+i)
    rw [evZ_node om,h2,Int.toNat_natCast,h3]
    exact Int.le_refl _
   ·show memZ ns (2+i) s=_
    rw [mem_step h om hr,h2,Int.toNat_natCast,h3]
  |none=>
   have hnew:=findN_none hf
   have hg:(ns++[(⟨v,lo,hi⟩:DN)]).getD ns.length dn0=⟨v,lo,hi⟩:=by
    rw [List.getD_eq_getElem?_getD,List.getElem?_append_right (Nat.le_refl _),Nat.sub_self];rfl
   have htab:ZTab n (ns++[(⟨v,lo,hi⟩:DN)]):=by
    intro i hi2
    rw [List.length_append,List.length_singleton] at hi2
    by_cases hin:i<ns.length
    ·exact ZNd.app h hin
    ·have:i=ns.length:=by omega
     subst this
     have hl':=hl
     have hh':=hh
     unfold RefOk at hl' hh'
     refine⟨?_,?_,?_,?_,?_⟩<;>rw [hg]
     ·exact⟨hv0,hv1,hl'.1,by show lo<(ns.length:Int)+2;omega,hh'.1,by show hi<(ns.length:Int)+2;omega⟩
     ·exact e
     ·show v<evZ n _ lo
      rw [evZ_app hl];exact bl
     ·show v<evZ n _ hi
      rw [evZ_app hh];exact bh
     ·rw [List.take_append_of_le_length (Nat.le_refl _),List.take_length];exact hnew
   have hr:RefOk (ns++[(⟨v,lo,hi⟩:DN)]) (2+(ns.length:Int)):=⟨by omega,by rw [List.length_append,List.length_singleton];omega⟩
   refine⟨⟨htab,⟨_,rfl⟩,by simp⟩,hr,?_,fun s=> ?_⟩
   ·show v≤evZ n _ (2+(ns.length:Int))
    rw [evZ_node om,h2,Int.toNat_natCast,hg]
    exact Int.le_refl _
   ·show memZ _ (2+(ns.length:Int)) s=_
    rw [mem_step htab om hr,h2,Int.toNat_natCast,hg]
    dsimp only
    rw [mem_app h hh,mem_app h hl]
end Go.PN
