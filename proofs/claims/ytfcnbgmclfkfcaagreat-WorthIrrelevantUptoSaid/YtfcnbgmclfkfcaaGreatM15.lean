/- Parts of one proof, laid by a program. -/
import Derived.Test.YtfcnbgmclfkfcaaGreatM00
import Derived.Test.YtfcnbgmclfkfcaaGreatM14
import Derived.MapKept
import Derived.Carry
import Derived.Laws.Cover3
set_option linter.unusedSimpArgs false
set_option linter.unusedVariables false
namespace Go.AI
open Go.PN
theorem updF_is {zs:List Int} {i:Nat} {v:Int} (hi:i<zs.length):updF (isF zs) i [.int .i64 v]=isF (zs.set i v):=by
 funext j
 simp only [updF]
 by_cases e:j=i
 ·subst e;simp [hi,isF]
 ·rw [if_neg e]
  show CV.int .i64 (zs.getD j 0)=CV.int .i64 ((zs.set i v).getD j 0)
  rw [List.getD_eq_getElem?_getD,List.getD_eq_getElem?_getD,List.getElem?_set_ne (fun h=>e h.symm)]
theorem updF_bs {zs:List Bool} {i:Nat} {v:Bool} (hi:i<zs.length):updF (bsF zs) i [.bool v]=bsF (zs.set i v):=by
 funext j
 simp only [updF]
 by_cases e:j=i
 ·subst e;simp [hi,bsF]
 ·rw [if_neg e]
  show CV.bool (zs.getD j false)=CV.bool ((zs.set i v).getD j false)
  rw [List.getD_eq_getElem?_getD,List.getD_eq_getElem?_getD,List.getElem?_set_ne (fun h=>e h.symm)]
theorem make_is (n:Nat):(fun j=>ofL [CV.int .i64 0] (j%1))=isF (List.replicate n 0):=by
 funext j
 show ofL [CV.int .i64 0] (j%1)=CV.int .i64 ((List.replicate n 0).getD j 0)
 rw [Nat.mod_one,List.getD_eq_getElem?_getD,List.getElem?_replicate]
 split<;>rfl
theorem make_bs (n:Nat):(fun j=>ofL [CV.bool false] (j%1))=bsF (List.replicate n false):=by
 funext j
 show ofL [CV.bool false] (j%1)=CV.bool ((List.replicate n false).getD j false)
 rw [Nat.mod_one,List.getD_eq_getElem?_getD,List.getElem?_replicate]
 split<;>rfl
theorem ler_oslis {h:Heap} {t:Bool} {g n:Nat} {ty:TypeId} {ys:List Int} (hg:h.get g=some (.cells ty n (isF ys))) (hn:n=ys.length):LeR h (.osl g 1 0 n) (is t ys):=by
 subst hn
 exact .osl hg om (fun j _=>by rw [Nat.zero_add];exact .int _ _)
end Go.AI
namespace Go.Proofs.YtfcnbgmclfkfcaaGreat
open Go.AI Go.PN
attribute [local irreducible] aw Fa Fh DrK
theorem place_at {l:List Int} {n:Int} {i:Nat} (hi:i<l.length) (he:l.getD i 0=n) (h:∀j,j<i→l.getD j 0≠n):placeZ l n=i:=by
 unfold placeZ
 have hm:n∈l:=by rw [←he,getDZ hi];exact List.getElem_mem hi
 rw [if_pos hm]
 congr 1
 have h1:l.idxOf n<l.length:=List.idxOf_lt_length_of_mem hm
 have h2:l[l.idxOf n]=n:=List.getElem_idxOf h1
 rcases Nat.lt_trichotomy (l.idxOf n) i with hlt|heq|hgt
 ·exact absurd (by rw [getDZ h1];exact h2) (h _ hlt)
 ·exact heq
 ·have:=List.not_of_lt_findIdx (p:=fun x=>x==n) (xs:=l) (i:=i) hgt
  rw [getDZ hi] at he
  simp [he] at this
set_option maxHeartbeats 1600000 in
theorem ocheck_fa (o:List Int) (vars:Int) (hl:o.length≤1099511627776):Fa Tryz.prog 75 [.c (is false o),.c (.int .i64 vars)] (.c (errA (ocode o vars))):=by
 refine fa_of_body Tryz.func75 rfl rfl (by simp [Tryz.ntmps75]) fun C hC=> ?_
 simp only [initS,Nat.reduceAdd]
 refine xG ?_
 by_cases hv0:vars<0
 ·have e1:decide (vars<0)=true:=by simp [hv0]
  refine yGPGT hC e1 ?_
  exact .one (.c (ler_errN (by unfold ocode;rw [if_pos (.inl hv0)]) (by unfold ocode;rw [if_pos (.inl hv0)];omega)))
 have e1:decide (vars<0)=false:=by simp [hv0]
 refine yG e1 ?_
 refine yF e1 (fun hb=>?_) fun hb=>?_
 ·have:=of_decide_eq_true hb
  refine yGT hC e1 ?_
  exact .one (.c (ler_errN (by unfold ocode;rw [if_pos (.inr om)]) (by unfold ocode;rw [if_pos (.inr om)];omega)))
 have hv24:vars≤24:=dF hb
 refine yG e1 ?_
 refine yF e1 (fun hc=>?_) fun hc=>?_
 ·have hne:(o.length:Int)≠vars:=fun e=>by rw [e] at hc;simp at hc
  refine yGT hC e1 ?_
  exact .one (.c (ler_errN (by unfold ocode;rw [if_neg om,if_pos hne]) (by unfold ocode;rw [if_neg om,if_pos hne];omega)))
 have hlen:(o.length:Int)=vars:=by
  have:((o.length:Int)==vars)=true:=by simpa [bne] using hc
  exact eq_of_beq this
 have hcode:ocode o vars=oscan vars [] o:=by unfold ocode;rw [if_neg om,if_neg om]
 rw [hcode]
 refine yG e1 ?_
 refine aw_make (n:=o.length) (c:=o.length) (size:=1) (z:=[.bool false]) rfl rfl rfl (zE e1) (zE e1) rfl om (zE e1) (zE e1) hlen.symm hlen.symm om om om fun g hg=> ?_
 rw [make_bs o.length]
 refine ySG e1 ?_
 refine aw_lp (fun x:Nat×List Bool=>[(1,.c (.int .i64 vars)),(5,.c (.osl g 1 0 o.length)),(24,.c (is false o)),(25,.c (.int .i64 o.length)),(26,.c (.int .i64 x.1))]) (fun x=>[(g,.cells 4 o.length (bsF x.2))])
  (fun x=>x.1≤o.length∧oscan vars (o.take x.1) (o.drop x.1)=oscan vars [] o∧x.2.length=o.length∧∀j:Nat,j<o.length→(x.2.getD j false=decide ((j:Int)∈o.take x.1))) (fun x=>o.length-x.1) (0,List.replicate o.length false) (zB e1) zZ ⟨Nat.zero_le _,by simp,by simp,fun j hj=>by rw [List.getD_eq_getElem?_getD,List.getElem?_replicate];simp [hj]⟩ ?_
 rintro ⟨i,zs⟩ ⟨hi,hs,hzl,hz⟩
 dsimp only at hi hs hzl hz⊢
 refine yG e1 ?_
 refine yF e1 (fun hb1=>?_) fun hb1=>?_
 ·have hin:i<o.length:=dT hb1
  rw [oscan_step hin] at hs
  refine yG e1 ?_
  by_cases hx0:o.getD i 0<0
  ·have e2:decide (o.getD i 0<0)=true:=decide_eq_true hx0
   refine yGPGT hC (oj e1 e2) ?_
   rw [if_pos (.inl hx0)] at hs
   exact .one (.c (ler_errN hs om))
  have e2:decide (o.getD i 0<0)=false:=decide_eq_false hx0
  have J1:=oj e1 e2
  refine yG J1 ?_
  refine yF J1 (fun hx1=>?_) fun hx1=>?_
  ·have hx1':=of_decide_eq_true hx1
   refine yGT hC J1 ?_
   rw [if_pos (.inr hx1')] at hs
   exact .one (.c (ler_errN hs om))
  have hx1':¬vars≤o.getD i 0:=of_decide_eq_false hx1
  rw [if_neg om] at hs
  have hzi:=hz (o.getD i 0).toNat om
  rw [show(((o.getD i 0).toNat:Nat):Int)=o.getD i 0 from by omega] at hzi
  refine yG J1 ?_
  refine yF J1 (fun ht=>?_) fun ht=>?_
  ·rw [ht] at hzi
   have hm:=of_decide_eq_true hzi.symm
   refine yGT hC J1 ?_
   rw [if_pos hm] at hs
   exact .one (.c (ler_errN hs om))
  ·rw [ht] at hzi
   have hm:=of_decide_eq_false hzi.symm
   rw [if_neg hm] at hs
   refine yGWS J1 ?_
   rw [updF_bs om]
   refine yG J1 ?_
   refine aw_stop ⟨(i+1,zs.set (o.getD i 0).toNat true),by dsimp only;omega,(zB J1),zZ,by dsimp only;omega,hs,by simpa using hzl,fun j hj=> ?_⟩
   dsimp only
   rw [List.take_succ_eq_append_getElem hin,List.getD_eq_getElem?_getD]
   by_cases hje:j=(o.getD i 0).toNat
   ·subst hje
    rw [List.getElem?_set_self om]
    have:(((o.getD i 0).toNat:Nat):Int)∈o.take i++[o[i]]:=by
     rw [←getDZ hin,show(((o.getD i 0).toNat:Nat):Int)=o.getD i 0 from by omega];simp
    exact(decide_eq_true this).symm
   ·rw [List.getElem?_set_ne (fun e=>hje e.symm),←List.getD_eq_getElem?_getD,hz j hj]
    have:((j:Int)∈o.take i++[o[i]])↔(j:Int)∈o.take i:=by
     rw [←getDZ hin]
     simp only [List.mem_append,List.mem_singleton]
     exact⟨fun h=>h.resolve_right om,.inl⟩
    simp only [this]
 ·have hin:i=o.length:=dF hb1
  subst hin
  refine yGT hC e1 ?_
  exact .one (.c (ler_err0 (by rw [←hs,List.drop_length];rfl)))
set_option maxHeartbeats 800000 in
theorem places_fa (o:List Int) (ho:Perm0 o) (hl:o.length≤24):Fa Tryz.prog 211 [.c (is false o)] (.c (is true (placesL o))):=by
 refine fa_of_body Tryz.func211 rfl rfl (by simp [Tryz.ntmps211]) fun C hC=> ?_
 simp only [initS,Nat.reduceAdd]
 refine xG ?_
 refine aw_make (n:=o.length) (c:=o.length) (size:=1) (z:=[.int .i64 0]) rfl rfl rfl eE eE rfl om eE eE rfl rfl om om om fun g hg=> ?_
 rw [make_is o.length]
 refine xSG ?_
 refine aw_lp (fun x:Nat×List Int=>[(3,.c (.osl g 1 0 o.length)),(9,.c (is false o)),(10,.c (.int .i64 o.length)),(11,.c (.int .i64 x.1))]) (fun x=>[(g,.cells 3 o.length (isF x.2))])
  (fun x=>x.1≤o.length∧x.2.length=o.length∧∀k,k<x.1→x.2.getD (o.getD k 0).toNat 0=k) (fun x=>o.length-x.1) (0,List.replicate o.length 0) eB zZ ⟨Nat.zero_le _,by simp,fun k hk=>by omega⟩ ?_
 rintro ⟨i,zs⟩ ⟨hi,hzl,hz⟩
 dsimp only at hi hzl hz⊢
 refine xG ?_
 refine xF (fun hb1=>?_) fun hb1=>?_
 ·have hin:i<o.length:=dT hb1
  have hr:=ho.range (o.getD i 0) (by rw [getDZ hin];exact List.getElem_mem hin)
  refine xG ?_
  refine xW ?_
  refine xS ?_
  rw [updF_is om]
  refine xG ?_
  refine aw_stop ⟨(i+1,zs.set (o.getD i 0).toNat i),by dsimp only;omega,eB,zZ,by dsimp only;omega,by simpa using hzl,fun k hk=> ?_⟩
  dsimp only at hk⊢
  rw [List.getD_eq_getElem?_getD]
  by_cases hki:k=i
  ·subst hki
   rw [List.getElem?_set_self om];rfl
  ·have hrk:=ho.range (o.getD k 0) (by rw [getDZ om];exact List.getElem_mem _)
   rw [List.getElem?_set_ne,←List.getD_eq_getElem?_getD,hz k om]
   intro e
   have e2:o.getD i 0=o.getD k 0:=by omega
   have p1:=place_get ho.nodup hin
   have p2:=place_get ho.nodup (show k<o.length from by omega)
   rw [e2,p2] at p1
   omega
 ·have hin:i=o.length:=dF hb1
  subst hin
  refine xGT hC ?_
  rw [←places_end ho hzl hz]
  exact .one (.c (ler_oslis eE hzl.symm))
set_option maxHeartbeats 800000 in
theorem positions_fa (o:List Int) (hl:o.length≤1099511627776):Fa Tryz.prog 173 [.c (is false o)] (.tup [.c (is true (if ocode o o.length=0 then placesL o else [])),.c (errA (ocode o o.length))]):=by
 refine fa_of_body Tryz.func173 rfl rfl (by simp [Tryz.ntmps173]) fun C hC=> ?_
 simp only [initS,Nat.reduceAdd]
 refine xG ?_
 refine xC (ocheck_fa o o.length hl) ?_
 refine xG ?_
 refine xF (fun hb=>?_) fun hb=>?_
 ·have hne:ocode o o.length≠0:=by simpa using hb
  refine xGT hC ?_
  rw [if_neg hne]
  exact .tup ⟨.c .nils,.c ler_err,trivial⟩
 ·have he:ocode o o.length=0:=by simpa using hb
  obtain⟨h1,h2⟩:=ocode_ok he
  refine xG ?_
  refine xC (places_fa o h1 h2) ?_
  refine xGT hC ?_
  rw [if_pos he]
  exact .tup ⟨.c ler_is,.c (ler_err0 he),trivial⟩
end Go.Proofs.YtfcnbgmclfkfcaaGreat
namespace Go.PN
open Go.AI
def behindB (d:DG) (r e:Int):Bool:=decide (r<2)||decide (placeZ d.order (d.nodes.getD (r-2).toNat dn0).v>placeZ d.order e)
def nrange (d:DG) (i:Nat) (x:DN):Prop:=x.v<0∨(d.order.length:Int)≤x.v∨x.lo<0∨(i:Int)+1<x.lo∨x.hi<0∨(i:Int)+1<x.hi
instance (d:DG) (i:Nat) (x:DN):Decidable (nrange d i x):=by unfold nrange;infer_instance
def ncode (d:DG) (i:Nat):Int:=
 if nrange d i (d.nodes.getD i dn0) then 10 else if(d.nodes.getD i dn0).lo=(d.nodes.getD i dn0).hi then 2
 else if !(behindB d (d.nodes.getD i dn0).lo (d.nodes.getD i dn0).v)|| !(behindB d (d.nodes.getD i dn0).hi (d.nodes.getD i dn0).v) then 13
 else if d.nodes.getD i dn0∈d.nodes.take i then 6 else 0
theorem getDN {xs:List DN} {i:Nat} (h:i<xs.length):xs.getD i dn0=xs[i]:=by
 rw [List.getD_eq_getElem?_getD,List.getElem?_eq_getElem h];rfl
theorem take_memN {o:List DN} {i:Nat} {x:DN}:x∈o.take i↔∃k,k<i∧k<o.length∧o.getD k dn0=x:=by
 constructor
 ·intro h
  obtain⟨k,hk,e⟩:=List.mem_iff_getElem.1 h
  simp only [List.length_take] at hk
  refine⟨k,by omega,by omega,?_⟩
  rw [getDN om,←e,List.getElem_take]
 ·rintro ⟨k,h1,h2,rfl⟩
  rw [getDN h2]
  exact List.mem_iff_getElem.2 ⟨k,by simp;omega,by rw [List.getElem_take]⟩
theorem nok_of {d:DG} {i:Nat} (h:¬nrange d i (d.nodes.getD i dn0)):NodeOk d.order.length i (d.nodes.getD i dn0):=by
 unfold nrange at h
 constructor<;>omega
theorem eqDN (a b:DN):((a.v==b.v)&&((a.lo==b.lo)&&(a.hi==b.hi)))=decide (a=b):=by
 cases a;cases b
 rw [Bool.eq_iff_iff]
 simp [DN.mk.injEq]
end Go.PN

namespace Go.PN
open Go.AI
def numF (ns:List DN):Nat→Int→List Int→List Int
 |0,_,b=>b
 |k+1,r,b=>if r<2∨r∈b then b else numF ns k (ns.getD (r-2).toNat dn0).hi (numF ns k (ns.getD (r-2).toNat dn0).lo b)++[r]
theorem nodup_range {n:Nat} {b:List Int} (h:b.Nodup) (hb:∀x∈b,2≤x∧x<n+2):b.length≤n:=by
 have:=nodup_le (m:=(List.range n).map fun(i:Nat)=>(i:Int)+2) h (fun x hx=>by
  have h1:=hb x hx
  refine List.mem_map.2 ⟨(x-2).toNat,List.mem_range.2 om,by omega⟩)
 simpa using this
theorem numF_mono {ns:List DN}:∀(k:Nat) (r:Int) (b:List Int) (x:Int),x∈b→x∈numF ns k r b
 |0,_,b,x,h=>h
 |k+1,r,b,x,h=>by
  rw [numF]
  split
  ·exact h
  ·exact List.mem_append_left _ (numF_mono k _ _ x (numF_mono k _ _ x h))
theorem numF_bd {m:Nat} {ns:List DN} (hn:NsOk m ns):∀(k:Nat) (r:Int) (b:List Int),r<ns.length+2→b.Nodup→(∀x∈b,2≤x∧x<ns.length+2)→
 (numF ns k r b).Nodup∧(∀x∈numF ns k r b,2≤x∧x<ns.length+2)∧(∀x∈numF ns k r b,x∈b∨x≤r)
 |0,r,b,_,h1,h2=>⟨h1,h2,fun x hx=>.inl hx⟩
 |k+1,r,b,hr,h1,h2=>by
  rw [numF]
  split
  ·exact⟨h1,h2,fun x hx=>.inl hx⟩
  ·rename_i hc
   obtain⟨v0,v1,l0,l1,g0,g1⟩:=hn (r-2).toNat om
   obtain⟨a1,a2,a3⟩:=numF_bd hn k (ns.getD (r-2).toNat dn0).lo b om h1 h2
   obtain⟨b1,b2,b3⟩:=numF_bd hn k (ns.getD (r-2).toNat dn0).hi _ om a1 a2
   refine⟨?_,fun x hx=> ?_,fun x hx=> ?_⟩
   ·rw [List.nodup_append]
    refine⟨b1,by simp,fun x hx y hy e=> ?_⟩
    simp only [List.mem_singleton] at hy
    subst hy
    rcases b3 x hx with h|h
    ·rcases a3 x h with h|h
     ·exact hc (.inr (e▸h))
     ·omega
    ·omega
   ·rcases List.mem_append.1 hx with hx|hx
    ·exact b2 x hx
    ·simp only [List.mem_singleton] at hx;omega
   ·rcases List.mem_append.1 hx with hx|hx
    ·rcases b3 x hx with h|h
     ·rcases a3 x h with h|h
      ·exact .inl h
      ·exact .inr om
     ·exact .inr om
    ·simp only [List.mem_singleton] at hx;exact .inr om
end Go.PN

namespace Go.PN
open Go.AI
def nfirst (d:DG):Nat→Nat→Int
 |_,0=>0
 |i,k+1=>if ncode d i≠0 then ncode d i else nfirst d (i+1) k
def numsL (n:Nat):List Int:=(List.range n).map fun(i:Nat)=>(i:Int)+2
def dcode (d:DG):Int:=
 if ocode d.order d.order.length≠0 then ocode d.order d.order.length else if 4096<d.nodes.length then 4
 else if nfirst d 0 d.nodes.length≠0 then nfirst d 0 d.nodes.length else if d.root<0∨1+(d.nodes.length:Int)<d.root then 10
 else if numF d.nodes d.root.toNat d.root []=numsL d.nodes.length then 0 else 2
theorem nfirst_step {d:DG} {i n:Nat} (h:i<n) (h0:ncode d i=0):nfirst d i (n-i)=nfirst d (i+1) (n-(i+1)):=by
 obtain⟨k,hk⟩:∃k,n-i=k+1:=⟨n-i-1,by omega⟩
 rw [hk,nfirst,if_neg (by simp [h0]),show n-(i+1)=k from by omega]
theorem nfirst_at {d:DG} {i n:Nat} (h:i<n) (h0:ncode d i≠0):nfirst d i (n-i)=ncode d i:=by
 obtain⟨k,hk⟩:∃k,n-i=k+1:=⟨n-i-1,by omega⟩
 rw [hk,nfirst,if_pos h0]
theorem nok_all {d:DG} (h:∀j,j<d.nodes.length→ncode d j=0):NsOk d.order.length d.nodes:=fun i hi=>by
 refine nok_of (d:=d) (i:=i) fun hr=> ?_
 have:=h i hi
 unfold ncode at this
 rw [if_pos hr] at this
 cases this
theorem numsL_len (n:Nat):(numsL n).length=n:=by simp [numsL]
end Go.PN
namespace Go.AI
section
variable {E : Env} {K : List It} {σ σ' : Sl} {h : Heap}
theorem aw_frzg {t s n e:Nat} {og:Option Nat} {f:Nat→CV} {pre:Heap} (ht:σ.get t=.c (gs og s n)) (hog:og=none→n=0) (hh:h=pre++gh og e (n*s) f) (hp:∀g,og=some g→g∉pre.keys) (hn:∀g,¬E.C.own0 g) (hσ:σ.set t (.c (.row true s n f))=σ') (k:aw E K σ' pre):aw E K σ h:=by
 subst hσ hh
 cases og with
 |none=>
  have hn0:=hog rfl
  subst hn0
  refine aw_conv (t:=t) (v:=.c (.row true s 0 f)) (fun S w u hr=> ?_) rfl (by simpa [gh] using k)
  rw [ht] at hr
  obtain⟨A,hv⟩:=hr
  exact⟨A,0,hv,by omega,fun h0=>absurd h0 om⟩
 |some g=>
  refine aw_frz (ty:=e) (m:=n*s) (f:=f) ht (Heap.get_app (hp g rfl)) om (hn g) rfl (Heap.del_app (hp g rfl)) ?_
  simpa only [Nat.zero_add] using k
end
end Go.AI

namespace Go.PN
open Go.AI
def pcode (p:List RD) (vars:Int):Int:=if(p.length:Int)≠vars then 11 else if p.all RD.prob then 0 else 3
def dpcode (d:DG) (p:List RD):Int:=if dcode d≠0 then dcode d else pcode p d.order.length
theorem rd1_wf {L:Nat} (h:1≤L):(rd 1).wf L:=rd_wf (fits_mono fits_one h)
end Go.PN

namespace Go.AI
def fAsk {α:Type} [DecidableEq α] (a:α):List α→List MapEntry→Nat→Option (Nat×Value)
 |k::ks,e::es,i=>if a=k then some (i,e.val) else fAsk a ks es (i+1)
 |_,_,_=>none
structure KeyOk (P:Program) (kt:TypeId) {α:Type} [DecidableEq α] (K:α→Value):Prop where
 check:∀b a w,(Instr.checkKey b 10000 kt (K a)).run P w=.ok () w
 find:∀(a:α) (ks:List α) (es:List MapEntry) w,es.map (·.key)=ks.map K→(Instr.findKey kt (K a) es).run P w=.ok (fAsk a ks es 0) w
section
variable {P : Program}
theorem run_findAsking {α:Type} [DecidableEq α] {K:α→Value} {kt:TypeId} (heq:∀a b w,(Op.equal kt (K a) (K b)).run P w=.ok (decide (a=b)) w) (a:α):∀(ks:List α) (es:List MapEntry) (i:Nat) (w:World),es.map (·.key)=ks.map K→(Instr.findAsking kt (K a) es i).run P w=.ok (fAsk a ks es i) w
 |[],[],i,w,_=>by simp [Instr.findAsking,fAsk]
 |k::ks,e::es,i,w,h=>by
  simp only [List.map_cons,List.cons.injEq] at h
  simp only [Instr.findAsking,fAsk,Sem.run_bind,h.1,heq,Result.andThen_ok]
  by_cases hk:a=k
  ·simp [hk]
  ·simp only [hk,decide_false,Bool.false_eq_true,if_false]
   exact run_findAsking heq a ks es (i+1) w h.2
 |[],e::es,i,w,h=>by simp at h
 |k::ks,[],i,w,h=>by simp at h
def keyZ (ns:List Int):Value:=.agg (ns.map (Value.int .i64)).toArray
theorem run_checkFields {n:Nat} {ns:List Int} (w:World) (b:Bool):∀(fs:List Field) (k:Nat),(fs.zipIdx k).all (fun p=>p.1.name != "_" &&p.1.offset==p.2&&(tInt P p.1.type).isSome)=true→k+fs.length≤ns.length→
 (forIn fs PUnit.unit (fun f (_:PUnit)=>(do
  if f.name≠ "_" then
   let __do_lift←part f.type (ns.map (Value.int .i64)).toArray f.offset
   Instr.checkKey b (n+1) f.type __do_lift
  pure (ForInStep.yield PUnit.unit):Sem (ForInStep PUnit)))).run P w=.ok PUnit.unit w
 |[],k,_,_=>by simp
 |f::fs,k,hf,hk=>by
  simp only [List.zipIdx_cons,List.all_cons,Bool.and_eq_true,bne_iff_ne,ne_eq,beq_iff_eq] at hf
  obtain⟨⟨⟨hn,ho⟩,hi⟩,hr⟩:=hf
  simp only [List.length_cons] at hk
  have hka:k<ns.length:=by omega
  obtain⟨kk,hkk⟩:=Option.isSome_iff_exists.1 hi
  have hu:=tInt_spec hkk
  have hag:(isAgg f.type).run P w=.ok false w:=by simp [isAgg,run_underlying hu]
  have e1:(ns.map (Value.int .i64)).toArray[k]?=some (Value.int .i64 (ns[k])):=by simp [hka]
  have p1:(part f.type (ns.map (Value.int .i64)).toArray f.offset).run P w=.ok (.int .i64 (ns[k])) w:=by
   unfold part
   simp only [Sem.run_bind,hag,Result.andThen_ok,Bool.false_eq_true,if_false,ho,e1,Sem.run_pure]
  have p2:(Instr.checkKey b (n+1) f.type (.int .i64 (ns[k]))).run P w=.ok () w:=by
   simp [Instr.checkKey,run_underlying hu]
  have ih:=run_checkFields (n:=n) (ns:=ns) w b fs (k+1) (by simpa using hr) om
  rw [List.forIn_cons]
  simp only [hn,not_false_eq_true,if_true,Sem.run_bind,p1,p2,Result.andThen_ok,Sem.run_pure,ne_eq]
  exact ih
theorem keyZ_ok {kt n:Nat} (ht:tEqS P kt=some n):KeyOk P kt (fun ns:{l:List Int//l.length=n}=>keyZ ns.1):=by
 have hstr:P.underlying kt=some (.struct (P.fieldsOf kt))∧(P.fieldsOf kt).toList.zipIdx.all (fun p=>p.1.name != "_" &&p.1.offset==p.2&&(tInt P p.1.type).isSome)=true∧(P.fieldsOf kt).size=n:=by
  unfold tEqS at ht
  split at ht
  ·rename_i hc
   simp only [Bool.and_eq_true,Bool.not_eq_true'] at hc
   obtain⟨⟨⟨h1,h2⟩,h3⟩,h4⟩:=hc
   injection ht with ht
   exact⟨isStr_spec h4,h3,ht⟩
  ·cases ht
 obtain⟨hu,hf,hs⟩:=hstr
 have heq:∀(a b:{l:List Int//l.length=n}) (w:World),(Op.equal kt (keyZ a.1) (keyZ b.1)).run P w=.ok (decide (a=b)) w:=fun a b w=>by
  have:=(tEqS_run ht a.2 b.2 w).1
  unfold Op.equal Op.maxDepth keyZ
  rw [this,eqZ_eq]
  congr 1
  rw [Bool.eq_iff_iff];simp [Subtype.ext_iff]
 refine⟨fun b a w=> ?_,fun a ks es w h=> ?_⟩
 ·unfold keyZ
  rw [show(10000:Nat)=9999+1 from rfl,Instr.checkKey]
  simp only [Sem.run_bind,run_underlying hu,Result.andThen_ok]
  rw [←Array.forIn_toList]
  have:=run_checkFields (P:=P) (n:=9998) (ns:=a.1) w b (P.fieldsOf kt).toList 0 hf (by simp [hs,a.2])
  rw [this]
  rfl
 ·unfold Instr.findKey
  simp only [Sem.run_bind,run_underlying hu,Result.andThen_ok]
  cases es with
  |nil=>
   cases ks with
   |nil=>simp [Instr.findNow,fAsk]
   |cons k ks=>simp at h
  |cons e es=>
   have hn:Instr.findNow (.struct (P.fieldsOf kt)) (keyZ a.1) (e::es) 0=none:=by
    simp [Instr.findNow,Instr.sameNow]
   rw [hn]
   exact run_findAsking heq a ks (e::es) 0 w h
def MapI {α:Type} (K:α→Value) (kv:List (α×Value)) (o:Obj):Prop:=∃es c,o=.map es c∧es.toList.map (fun e=>(e.key,e.val))=kv.map (fun p=>(K p.1,p.2))
def kvGet {α:Type} [DecidableEq α] (a:α):List (α×Value)→Option Value
 |[]=>none
 |p::kv=>if a=p.1 then some p.2 else kvGet a kv
theorem fAsk_get {α:Type} [DecidableEq α] {K:α→Value} (a:α):∀(kv:List (α×Value)) (es:List MapEntry) (i:Nat),es.map (fun e=>(e.key,e.val))=kv.map (fun p=>(K p.1,p.2))→(fAsk a (kv.map (·.1)) es i).map (·.2)=kvGet a kv
 |[],[],i,_=>rfl
 |p::kv,e::es,i,h=>by
  simp only [List.map_cons,List.cons.injEq,Prod.mk.injEq] at h
  simp only [List.map_cons,fAsk,kvGet]
  split
  ·simp [h.1.2]
  ·exact fAsk_get a kv es (i+1) h.2
 |[],e::es,i,h=>by simp at h
 |p::kv,[],i,h=>by simp at h
def tMap (P:Program) (t:TypeId):Option (TypeId×TypeId):=match P.underlying t with
 |some (.map k e)=>some (k,e)
 |_=>none
theorem tMap_spec {t k e:TypeId} (h:tMap P t=some (k,e)):P.underlying t=some (.map k e):=by
 unfold tMap at h
 split at h
 ·rename_i hu;simp only [Option.some.injEq,Prod.mk.injEq] at h;rw [hu,h.1,h.2]
 ·cases h
def tZ1 (P:Program) (t:TypeId):Option Value:=match (P.info? t).bind (·.zero) with
 |some (.int k n)=>some (.int k n)
 |some (.bool b)=>some (.bool b)
 |_=>none
theorem tZ1_run {t:TypeId} {z:Value} (h:tZ1 P t=some z) (w:World):(zeroValue t).run P w=.ok z w:=by
 unfold tZ1 at h
 cases hi:P.info? t with
 |none=>simp [hi] at h
 |some i=>
  cases hz:i.zero with
  |none=>simp [hi,hz] at h
  |some v=>
   simp only [hi,hz,Option.bind_some] at h
   split at h
   ·rename_i he;injection he with he;injection h with h;subst h;simp [zeroValue,typeInfo,hi,hz,he]
   ·rename_i he;injection he with he;injection h with h;subst h;simp [zeroValue,typeInfo,hi,hz,he]
   ·cases h
theorem runGet {w:World} {r:Nat} {es:Array MapEntry} {c:Nat} (hb:w.heap[r]?=some (.map es c)):(getObj r).run P w=.ok (.map es c) w:=by simp [getObj,Sem.run,hb]
theorem runSet {w:World} {r:Nat} {es:Array MapEntry} {c:Nat} (o':Obj) (hb:w.heap[r]?=some (.map es c)):(setObj r o').run P w=.ok () {w with heap:=w.heap.setIfInBounds r o'}:=by simp [setObj,Sem.run,hb]
variable {E : Env} {K : List It} {σ σ' : Sl} {h : Heap} {all rest : List Oper} {o : Oper}
theorem aw_makeMap {α:Type} {Kf:α→Value} {t:TypeId} (hop:o.op=.makeMap t none) (hw:wantA all σ o=some true) (hd:dstOk E.N o.dst=true)
 (k:∀g,g∉h.keys→aw E (.ops all rest::K) (σ.setO o.dst (.c (.raw (.map (some g))))) ((g,.gen (MapI Kf []))::h)):aw E (.ops all (o::rest)::K) σ h:=by
 refine aw_new (r:=fun g=>.c (.raw (.map (some g)))) (ob:=.gen (MapI Kf [])) hw hd (fun a w s=> ?_) k
 refine⟨.map (some w.heap.size),w.alloc (.map #[] 0),?_,Fr.alloc _ _ _,by simp,⟨_,heap_alloc_new w _,_,_,rfl,rfl⟩,rfl⟩
 simp only [execOp,hop]
 rfl
theorem aw_lookup {α:Type} [DecidableEq α] {Kf:α→Value} {t kt et g:TypeId} {kv:List (α×Value)} {x ky:Operand} {ck:AV} {a:α} {z:Value} (hop:o.op=.lookup t x ky false) (hw:wantA all σ o=some true) (hd:dstOk E.N o.dst=true)
 (ht:tMap E.P t=some (kt,et)) (hK:KeyOk E.P kt Kf) (hz:tZ1 E.P et=some z) (hx:ev σ x=.c (.raw (.map (some g)))) (hg:h.get g=some (.gen (MapI Kf kv))) (hk:ev σ ky=ck) (hka:∀S w v,Rep S w ck v→v=Kf a)
 (k:aw E (.ops all rest::K) (σ.setO o.dst (.c (cstC ((kvGet a kv).getD z)))) h):aw E (.ops all (o::rest)::K) σ h:=by
 refine aw_step hw (fun ac w s=> ?_) k
 have h1:=ev_rep s x
 rw [hx] at h1
 have h1':ac.eval x=.map (some g):=h1
 have h2:=ev_rep s ky
 rw [hk] at h2
 have h2':=hka _ _ _ h2
 obtain⟨ob,hb,es,c,rfl,hes⟩:=s.heap g _ (Heap.get_mem hg)
 have hkeys:es.toList.map (·.key)=(kv.map (·.1)).map Kf:=by
  have:=congrArg (List.map Prod.fst) hes
  rw [List.map_map,List.map_map] at this
  rw [List.map_map]
  exact this
 have hfind:=hK.find a (kv.map (·.1)) es.toList w hkeys
 have hget:=fAsk_get (K:=Kf) a kv es.toList 0 hes
 refine⟨(kvGet a kv).getD z,w,.inl ?_,s.put hd (cstC_rep _ _ _)⟩
 have hlk:(Instr.lookup t (ac.eval x) (ac.eval ky) false).run E.P w=.ok ((kvGet a kv).getD z) w:=by
  rw [h1',h2']
  unfold Instr.lookup
  simp only [Sem.run_bind,run_underlying (tMap_spec ht),Result.andThen_ok,runGet hb,Sem.run_pure,hK.check,hfind]
  rw [←hget]
  cases hf:fAsk a (kv.map (·.1)) es.toList 0 with
  |none=>simp [tZ1_run hz]
  |some p=>obtain⟨i,v⟩:=p;simp
 simp only [execOp,hop,Sem.run_bind,hlk,Result.andThen_ok]
 rfl
theorem aw_mapNew {α:Type} [DecidableEq α] {Kf:α→Value} {t kt et g:TypeId} {kv:List (α×Value)} {x ky vl:Operand} {ck cv:AV} {a:α} {v:Value} (hop:o.op=.mapUpdate t x ky vl) (hdn:o.dst=none) (hw:wantA all σ o=some true)
 (ht:tMap E.P t=some (kt,et)) (hK:KeyOk E.P kt Kf) (hx:ev σ x=.c (.raw (.map (some g)))) (hg:h.get g=some (.gen (MapI Kf kv))) (hk:ev σ ky=ck) (hka:∀S w u,Rep S w ck u→u=Kf a) (hv:ev σ vl=cv) (hva:∀S w u,Rep S w cv u→u=v)
 (hnew:kvGet a kv=none) {h':Heap} (hh:h.set g (.gen (MapI Kf (kv++[(a,v)])))=h') (k:aw E (.ops all rest::K) σ h'):aw E (.ops all (o::rest)::K) σ h:=by
 subst hh
 refine aw_step hw (fun ac w s=> ?_) k
 have h1:=ev_rep s x
 rw [hx] at h1
 have h1':ac.eval x=.map (some g):=h1
 have h2:=ev_rep s ky
 rw [hk] at h2
 have h2':=hka _ _ _ h2
 have h3:=ev_rep s vl
 rw [hv] at h3
 have h3':=hva _ _ _ h3
 obtain⟨ob,hb,es,c,rfl,hes⟩:=s.heap g _ (Heap.get_mem hg)
 have hkeys:es.toList.map (·.key)=(kv.map (·.1)).map Kf:=by
  have:=congrArg (List.map Prod.fst) hes
  rw [List.map_map,List.map_map] at this
  rw [List.map_map]
  exact this
 have hfind:=hK.find a (kv.map (·.1)) es.toList w hkeys
 have hget:=fAsk_get (K:=Kf) a kv es.toList 0 hes
 have hnone:fAsk a (kv.map (·.1)) es.toList 0=none:=by
  cases hf:fAsk a (kv.map (·.1)) es.toList 0 with
  |none=>rfl
  |some p=>rw [hf,hnew] at hget;cases hget
 have hgl:g<w.heap.size:=(Array.getElem?_eq_some_iff.1 hb).1
 let w':World:={w with heap:=w.heap.setIfInBounds g (.map (es.push {key:=Kf a,val:=v,born:=c}) (c+1))}
 have hrun:(Instr.mapUpdate t (ac.eval x) (ac.eval ky) (ac.eval vl)).run E.P w=.ok () w':=by
  rw [h1',h2',h3']
  unfold Instr.mapUpdate
  simp only [Sem.run_bind,run_underlying (tMap_spec ht),Result.andThen_ok,runGet hb,hK.check,hfind,hnone,runSet _ hb]
  rfl
 refine⟨undef,w',.inr ⟨?_,rfl⟩,?_⟩
 ·simp only [execOp,hop,Sem.run_bind,hrun,Result.andThen_ok]
  rfl
 ·rw [hdn]
  have hfr:Fr (fun b=>b=g) w w':=by
   refine⟨rfl,rfl,rfl,by simp [w'],Nat.le_refl _,fun b _ hne=> ?_,fun g' m hh=> ?_⟩
   ·simp only [w'];rw [Array.getElem?_setIfInBounds_ne (fun e=>hne e.symm)]
   ·obtain⟨cs,ty,⟨fr,hc⟩,hs⟩:=hh
    refine⟨cs,ty,⟨fr,?_⟩,hs⟩
    have hne:g'≠g:=fun e=>by rw [e,hb] at hc;cases hc
    simp only [w']
    rw [Array.getElem?_setIfInBounds_ne (fun e=>hne e.symm)];exact hc
  refine s.setObj hg hfr ⟨_,by simp only [w'];rw [Array.getElem?_setIfInBounds_self_of_lt hgl],_,_,rfl,?_⟩
  simp only [Array.toList_push,List.map_append,List.map_cons,List.map_nil,hes]
end
end Go.AI
namespace Go.AI
section
variable {E : Env} {K : List It} {σ σ' : Sl} {h : Heap} {all rest : List Oper} {o : Oper}
theorem aw_eqnil {t e:TypeId} {t2:TypeId} {x:Operand} {tg:Bool} {s n:Nat} {f:Nat→CV} (hop:o.op=.binOp .eql t x (.const (.slice none 0 0)) t2) (hw:wantA all σ o=some true) (hd:dstOk E.N o.dst=true) (ht:E.P.underlying t=some (.slice e)) (hx:ev σ x=.c (.row tg s n f)) (hs:0<s)
 (k:∀b:Bool,(b=true→n=0)→aw E (.ops all rest::K) (σ.setO o.dst (.c (.bool b))) h):aw E (.ops all (o::rest)::K) σ h:=fun a w st=>by
 have h1:=ev_rep st x
 rw [hx] at h1
 obtain⟨A,c,hv,hc,hn⟩:=h1
 show wpList _ _ _ _ _ _
 unfold wpList
 rw [if_pos (st.wanted hw)]
 refine .inl ?_
 unfold Oper.wp
 have hrun:(execOp a.eval o).run E.P w=.ok (.value (.bool A.isNone)) w:=by
  have e2:a.eval (.const (.slice none 0 0))=.slice none 0 0:=rfl
  have h3:(eqGuard .eql t x (.const (.slice none 0 0)) (.slice A n c) (.slice none 0 0)).run E.P w=.ok () w:=by
   simp [eqGuard]
  have h4:(binOp .eql t (.slice A n c) (.slice none 0 0)).run E.P w=.ok (.bool A.isNone) w:=by
   unfold binOp
   simp [run_equal_slice_nil w t e A n c ht]
  simp only [execOp,hop,hv,e2,Sem.run_bind,h3,h4,Result.andThen_ok]
  rfl
 rw [hrun]
 refine k A.isNone (fun hb=> ?_) _ _ (st.put hd rfl)
 cases A with
 |none=>
  rcases Nat.eq_zero_or_pos n with h0|h0
  ·exact h0
  ·obtain⟨ad,e,_⟩:=hn (Nat.mul_pos h0 hs)
   cases e
 |some a=>cases hb
def ptrs (gs:List Nat):List Value:=gs.map fun g=>.pointer (some ⟨g,0,none⟩)
def fnC (f:FuncId) (gs:List Nat):CV:=.raw (.func (.func f) #[] (ptrs gs).toArray)
theorem aw_makeFunc {f:FuncId} {cs:List Operand} {gs:List Nat} (hop:o.op=.makeFunc (.func f) #[] cs.toArray) (hw:wantA all σ o=some true) (hd:dstOk E.N o.dst=true) (hc:cs.map (ev σ)=gs.map fun g=>.c (.optr g 0))
 (k:aw E (.ops all rest::K) (σ.setO o.dst (.c (fnC f gs))) h):aw E (.ops all (o::rest)::K) σ h:=by
 refine aw_step hw (fun a w s=> ?_) k
 have hev:∀(cs:List Operand) (gs:List Nat),cs.map (ev σ)=gs.map (fun g=>AV.c (.optr g 0))→cs.map a.eval=ptrs gs:=by
  intro cs
  induction cs with
  |nil=>intro gs hg;cases gs with
   |nil=>rfl
   |cons g gs=>cases hg
  |cons x cs ih=>intro gs hg;cases gs with
   |nil=>cases hg
   |cons g gs=>
    simp only [List.map_cons,List.cons.injEq] at hg
    have h1:=ev_rep s x
    rw [hg.1] at h1
    have h1':a.eval x=.pointer (some ⟨g,0,none⟩):=h1
    simp only [List.map_cons,ptrs]
    rw [h1',ih gs hg.2]
    rfl
 refine⟨.func (.func f) #[] (ptrs gs).toArray,w,.inl ?_,s.put hd rfl⟩
 simp only [execOp,hop,Instr.makeFunc,List.map_toArray,hev cs gs hc]
 rfl
theorem RepT.ptrs {S:Bool→Nat→Prop} {w:World}:∀{A:List AV} {vs:List Value} (gs:List Nat),RepT S w A vs→RepT S w (A++gs.map fun g=>.c (.optr g 0)) (vs++AI.ptrs gs)
 |[],[],gs,_=>by
  induction gs with
  |nil=>trivial
  |cons g gs ih=>exact⟨rfl,ih⟩
 |_::_,_::_,gs,h=>⟨h.1,RepT.ptrs gs h.2⟩
 |[],_::_,_,h=>h.elim
 |_::_,[],_,h=>h.elim
theorem aw_callhv {f:FuncId} {x:Operand} {gs:List Nat} {xs:List Operand} {ts:Array TypeId} {hc hr:Heap} {args:List AV} {Q:AV→Heap→Prop} (hf:Fh E.P f hc (args++gs.map fun g=>.c (.optr g 0)) Q) (hop:o.op=.call {callee:=.value x,args:=xs.toArray,argTypes:=ts}) (hw:wantA all σ o=some true) (hd:dstOk E.N o.dst=true) (hx:ev σ x=.c (fnC f gs))
 (hp:h.Perm (hc++hr)) (le:LeA [] (xs.map (ev σ)) args) (k:∀r h',Q r h'→(∀g∈h'.keys,g∉hr.keys)→aw E (.ops all rest::K) (σ.setO o.dst r) (h'++hr)):aw E (.ops all (o::rest)::K) σ h:=fun a w s=>by
 show wpList _ _ _ _ _ _
 unfold wpList
 rw [if_pos (s.wanted hw)]
 refine .inl ?_
 unfold Oper.wp
 have hv:a.eval x=.func (.func f) #[] (ptrs gs).toArray:=by
  have:=ev_rep s x
  rw [hx] at this
  exact this
 have hrun:(execOp a.eval o).run E.P w=.ok (.enter f (xs.map a.eval++ptrs gs).toArray) w:=by
  simp only [execOp,hop,resolve,hv,Deferred.ofValue,invoke,Sem.run_bind]
  have:=hf.1.run (#[]++(Array.map a.eval xs.toArray)++(ptrs gs).toArray) w
  simp only [Sem.run_pure,Result.andThen_ok]
  rw [show((xs.map a.eval++ptrs gs).toArray)=(#[]++(Array.map a.eval xs.toArray)++(ptrs gs).toArray) from by simp]
  exact this
 rw [hrun]
 show Calls _ _ _ _ _
 refine(hf.use s hp (RepT.ptrs gs (LeA.rep0 s le))).mono ?_
 rintro e w' ⟨v,r,h',rfl,hq,hfr,s',hrep⟩
 exact k r h' hq hfr _ _ (s'.put hd hrep)
theorem aw_callqv {f:FuncId} {x:Operand} {xs:List Operand} {ts:Array TypeId} {args:List AV} {r:AV} (hf:Fa E.P f args r) (hop:o.op=.call {callee:=.value x,args:=xs.toArray,argTypes:=ts}) (hw:wantA all σ o=some true) (hd:dstOk E.N o.dst=true) (hx:ev σ x=.c (.raw (.func (.func f) #[] #[])))
 (le:LeA h (xs.map (ev σ)) args) (k:aw E (.ops all rest::K) (σ.setO o.dst r) h):aw E (.ops all (o::rest)::K) σ h:=fun a w s=>by
 show wpList _ _ _ _ _ _
 unfold wpList
 rw [if_pos (s.wanted hw)]
 refine .inl ?_
 unfold Oper.wp
 have hv:a.eval x=.func (.func f) #[] #[]:=by
  have:=ev_rep s x
  rw [hx] at this
  exact this
 have hrun:(execOp a.eval o).run E.P w=.ok (.enter f (xs.map a.eval).toArray) w:=by
  simp only [execOp,hop,resolve,hv,Deferred.ofValue,invoke,Sem.run_bind]
  have:=hf.1.run (#[]++(Array.map a.eval xs.toArray)++ #[]) w
  simp only [Sem.run_pure,Result.andThen_ok]
  rw [show((xs.map a.eval).toArray)=(#[]++(Array.map a.eval xs.toArray)++ #[]) from by simp]
  exact this
 rw [hrun]
 show Calls _ _ _ _ _
 refine(hf.use s le).mono ?_
 rintro e w' ⟨v,rfl,hr,hfr⟩
 exact k _ _ ((s.later hfr).put hd hr)
end
end Go.AI
namespace Go.PN
open Go.AI
theorem first_bad:∀p:List RD,p.all RD.prob=true∨∃i:Nat,i<p.length∧(p.getD i rd0).prob=false∧∀j,j<i→(p.getD j rd0).prob=true
 |[]=>.inl rfl
 |x::p=>by
  cases hx:x.prob with
  |false=>exact .inr ⟨0,by simp,by simpa using hx,by omega⟩
  |true=>
   rcases first_bad p with h|⟨i,h1,h2,h3⟩
   ·exact .inl (by simp [hx] at h⊢;exact h)
   ·refine .inr ⟨i+1,by simp;omega,by simpa using h2,fun j hj=> ?_⟩
    cases j with
    |zero=>simpa using hx
    |succ j=>simpa using h3 j om
theorem ratsF_solid (p:List RD) (j:Nat) (hj:j<p.length*3):(ratsF p j).solid=true:=by
 obtain⟨i,k,hk,rfl⟩:∃i k,k<3∧j=i*3+k:=⟨j/3,j%3,Nat.mod_lt _ om,by omega⟩
 unfold ratsF
 rw [lf_at hk]
 match k,hk with
 |0,_=>rfl
 |1,_=>rfl
 |2,_=>rfl
end Go.PN
namespace Go.Proofs.YtfcnbgmclfkfcaaGreat
open Go.AI Go.PN
attribute [local irreducible] aw Fa Fh DrK
theorem check1_fa (r:RD) (hw:r.wf 500000000):Fa Tryz.prog 135 [.agg (rdc r)] (.c (.bool (!r.prob))):=by
 refine fa_of_body Tryz.func135 rfl rfl (by simp [Tryz.ntmps135]) fun C hC=> ?_
 simp only [initS,Nat.reduceAdd]
 refine xG ?_
 refine xB fun g1 hn_g1=>?_
 refine yG hn_g1 ?_
 refine yC hn_g1 (rprob_fa r (wf_mono hw ?_)) ?_
 ·omega
 refine yGT hC hn_g1 ?_
 exact .one (.c (.bool _))
set_option maxHeartbeats 800000 in
theorem indexFunc_fa (p:List RD) (hw:∀r∈p,r.wf 500000000) (hl:p.length≤1099511627776):∃z:Int,(decide (z≥0)= !(p.all RD.prob))∧Fa Tryz.prog 177 [.c (rats false p),.c (.raw (.func (.func 135) #[] #[]))] (.c (.int .i64 z)):=by
 have hz:∃z:Int,(z= -1∧p.all RD.prob=true)∨∃i:Nat,z=i∧i<p.length∧(p.getD i rd0).prob=false∧∀j,j<i→(p.getD j rd0).prob=true:=by
  rcases first_bad p with h|⟨i,h⟩
  ·exact⟨-1,.inl ⟨rfl,h⟩⟩
  ·exact⟨i,.inr ⟨i,rfl,h⟩⟩
 obtain⟨z,hz⟩:=hz
 refine⟨z,?_,?_⟩
 ·rcases hz with ⟨rfl,ha⟩|⟨k,rfl,hk,hk1,hk2⟩
  ·rw [ha];rfl
  ·rw [decide_eq_true om]
   cases ha:p.all RD.prob with
   |false=>rfl
   |true=>
    have:=List.all_eq_true.1 ha (p.getD k rd0) (by rw [List.getD_eq_getElem?_getD,List.getElem?_eq_getElem hk];exact List.getElem_mem hk)
    rw [this] at hk1;cases hk1
 refine fa_of_body Tryz.func177 rfl rfl (by simp [Tryz.ntmps177]) fun C hC=> ?_
 simp only [initS,Nat.reduceAdd]
 refine xG ?_
 refine aw_lp (fun x:Nat=>[(0,.c (rats false p)),(1,.c (.raw (.func (.func 135) #[] #[]))),(7,.c (.int .i64 p.length)),(8,.c (.int .i64 x))]) (fun x=>[]) (fun x=>x≤p.length∧∀j,j<x→(p.getD j rd0).prob=true) (fun x=>p.length-x) 0 eB zZ ⟨Nat.zero_le _,by omega⟩ ?_
 rintro i ⟨hi,hs⟩
 refine xG ?_
 refine xF (fun h1=>?_) fun h1=>?_
 ·have h1':i<p.length:=dT h1
  refine xG ?_
  refine aw_callqv (check1_fa (p.getD i rd0) (getD_wf hw i)) rfl rfl rfl eE eL ?_
  refine xSG ?_
  refine xF (fun h2=>?_) fun h2=>?_
  ·have h2':(p.getD i rd0).prob=false:=by simpa using h2
   refine xGT hC ?_
   refine .one (.c (ler_int ?_))
   rcases hz with ⟨_,ha⟩|⟨k,rfl,hk,hk1,hk2⟩
   ·have:=List.all_eq_true.1 ha (p.getD i rd0) (by rw [List.getD_eq_getElem?_getD,List.getElem?_eq_getElem h1'];exact List.getElem_mem h1')
    rw [this] at h2';cases h2'
   ·rcases Nat.lt_trichotomy k i with h|h|h
    ·rw [hs k h] at hk1;cases hk1
    ·rw [h]
    ·rw [hk2 i h] at h2';cases h2'
  ·have h2':(p.getD i rd0).prob=true:=by simpa using h2
   refine xG ?_
   refine aw_stop ⟨i+1,by omega,eB,zZ,by omega,fun j hj=> ?_⟩
   rcases Nat.lt_succ_iff_lt_or_eq.1 hj with h|h
   ·exact hs j h
   ·rw [h,h2']
 ·have h1':i=p.length:=dF h1
  subst h1'
  refine xGT hC ?_
  refine .one (.c (ler_int ?_))
  rcases hz with ⟨rfl,ha⟩|⟨k,rfl,hk,hk1,hk2⟩
  ·rfl
  ·rw [hs k hk] at hk1;cases hk1
set_option maxHeartbeats 800000 in
theorem containsFunc_fa (p:List RD) (hw:∀r∈p,r.wf 500000000) (hl:p.length≤1099511627776):Fa Tryz.prog 134 [.c (rats false p),.c (.raw (.func (.func 135) #[] #[]))] (.c (.bool (!(p.all RD.prob)))):=by
 obtain⟨z,hz,hf⟩:=indexFunc_fa p hw hl
 refine fa_of_body Tryz.func134 rfl rfl (by simp [Tryz.ntmps134]) fun C hC=> ?_
 simp only [initS,Nat.reduceAdd]
 refine xG ?_
 refine xC (hf) ?_
 refine xGT hC ?_
 exact .one (.c (ler_bool hz))
set_option maxHeartbeats 800000 in
theorem scheck_fa (p:List RD) (vars:Int) (hw:∀r∈p,r.wf 500000000) (hl:p.length≤1099511627776):Fa Tryz.prog 84 [.c (rats false p),.c (.int .i64 vars)] (.c (errA (pcode p vars))):=by
 unfold pcode
 refine fa_of_body Tryz.func84 rfl rfl (by simp [Tryz.ntmps84]) fun C hC=> ?_
 simp only [initS,Nat.reduceAdd]
 refine xG ?_
 refine xF (fun hb=>?_) fun hb=>?_
 ·have hb':(p.length:Int)≠vars:=by simpa using hb
  refine xGT hC ?_
  rw [if_pos hb']
  exact .one (.c (ler_errN rfl om))
 ·have hb':(p.length:Int)=vars:=by simpa using hb
  rw [if_neg om]
  refine xG ?_
  refine xC (containsFunc_fa p hw hl) ?_
  refine xG ?_
  refine xF (fun h1=>?_) fun h1=>?_
  ·have h1':¬p.all RD.prob=true:=by simpa using h1
   refine xGT hC ?_
   rw [if_neg h1']
   exact .one (.c (ler_errN rfl om))
  ·have h1':p.all RD.prob=true:=by simpa using h1
   refine xGT hC ?_
   rw [if_pos h1']
   exact .one (.c (ler_err0 rfl))
set_option maxHeartbeats 800000 in
theorem clone_fh (p:List RD) (hl:p.length≤1000000):Fh Tryz.prog 149 [] [.c (rats false p)] (fun r h=>∃og,(og=none→p.length=0)∧r=.c (gs og 3 p.length)∧h=gh og 30 (p.length*3) (ratsF p)):=by
 refine fh_of_body Tryz.func149 rfl rfl (by simp [Tryz.ntmps149]) fun C hC=> ?_
 simp only [initS,Nat.reduceAdd]
 refine xG ?_
 refine aw_eqnil (e:=30) rfl rfl rfl (by kernel_rfl) eE om fun b hb=> ?_
 refine xSG ?_
 refine xF (fun h1=>?_) fun h1=>?_
 ·have h0:=hb h1
  refine xGU ?_
  exact⟨none,fun _=>h0,rfl,rfl⟩
 ·refine xG ?_
  refine aw_buildSlice (xs:=[]) (cells:=[]) rfl rfl rfl eE (by refine xS ?_;rfl) rfl om om (by simp) rfl fun g hg=> ?_
  refine aw_conv1 (f':=ratsF []) (fun j hj=>absurd hj om) ?_
  refine xSG ?_
  rcases Nat.eq_zero_or_pos p.length with h0|h0
  ·have hp:p=[]:=List.length_eq_zero_iff.1 h0
   subst hp
   refine aw_append0 rfl rfl rfl eE eE rfl eE .row rfl ?_
   refine xSGU ?_
   exact⟨some g,fun _=>trivial,rfl,rfl⟩
  ·refine aw_append (size:=3) (z:=[.bool false,.nils,.nils]) rfl rfl rfl eE eE rfl om eE eE om eE .row (fun j hj=>ratsF_solid p j hj) h0 (by unfold maxLen;omega) om eE fun g' hg'=> ?_
   refine xSGU ?_
   have hf:appF (ratsF []) 0 (ratsF p)=ratsF p:=by funext j;simp [appF]
   rw [hf]
   exact⟨some g',(fun e=>by cases e),rfl,rfl⟩
end Go.Proofs.YtfcnbgmclfkfcaaGreat
namespace Go.PN
open Go.AI
def ncodeA (d:DG) (i:Nat):Int:=
 if nrange d i (d.nodes.getD i dn0) then 10 else if(d.nodes.getD i dn0).lo=(d.nodes.getD i dn0).hi then 2
 else if !(behindB d (d.nodes.getD i dn0).lo (d.nodes.getD i dn0).v)|| !(behindB d (d.nodes.getD i dn0).hi (d.nodes.getD i dn0).v) then 13 else 0
theorem ncode_A (d:DG) (i:Nat):ncode d i=if ncodeA d i≠0 then ncodeA d i else if d.nodes.getD i dn0∈d.nodes.take i then 6 else 0:=by
 unfold ncode ncodeA
 split
 ·simp
 ·split
  ·simp
  ·split
   ·simp
   ·simp
theorem place_nat {o:List Int} {v:Int} (h0:0≤v) (h1:v<o.length):(placesL o).getD v.toNat 0=placeZ o v:=by
 rw [placesL_get om]
 congr 1
 omega
end Go.PN
namespace Go.Proofs.YtfcnbgmclfkfcaaGreat
open Go.AI Go.PN
attribute [local irreducible] aw Fa Fh DrK
set_option maxRecDepth 100000 in
set_option maxHeartbeats 3200000 in
theorem checkNode_fa (d:DG) (i:Nat) (hi:i<d.nodes.length) (hl:d.order.length≤24) (hl2:d.nodes.length≤4096) (hb4:∀j,j<i→NodeOk d.order.length j (d.nodes.getD j dn0)):Fa Tryz.prog 174 [.agg (dgc false d),.c (is false (placesL d.order)),.c (.int .i64 i)] (.c (errA (ncodeA d i))):=by
 have n10:nrange d i (d.nodes.getD i dn0)→ncodeA d i=10:=fun h=>by unfold ncodeA;rw [if_pos h]
 have hpl:=placesL_len d.order
 refine fa_of_body Tryz.func174 rfl rfl (by simp [Tryz.ntmps174]) fun C hC=> ?_
 simp only [initS,Nat.reduceAdd]
 refine xG ?_
 refine xB fun g3 hn_g3=>?_
 refine yG hn_g3 ?_
 refine yA hn_g3 fun g7 hn_g7=>?_
 have J1:=oj hn_g3 hn_g7
 refine yGWS J1 ?_
 generalize hx:d.nodes.getD i dn0=x at n10
 refine yG J1 ?_
 refine aw_split 19 (zE J1) (fun a1=> ?_) (fun a1=> ?_)<;>refine yS J1 ?_
 ·refine yGPGT hC J1 ?_
  rw [n10 (.inl (of_decide_eq_true a1))]
  exact .one (.c (ler_errN rfl om))
 refine yG J1 ?_
 refine aw_split 27 (zE J1) (fun a2=> ?_) (fun a2=> ?_)<;>refine yS J1 ?_
 ·refine yGPGT hC J1 ?_
  rw [n10 (.inr (.inl (of_decide_eq_true a2)))]
  exact .one (.c (ler_errN rfl om))
 refine yG J1 ?_
 refine aw_split 35 (zE J1) (fun a3=> ?_) (fun a3=> ?_)<;>refine yS J1 ?_
 ·refine yGPGT hC J1 ?_
  rw [n10 (by have:=of_decide_eq_true a3;unfold nrange;split at this<;>omega)]
  exact .one (.c (ler_errN rfl om))
 refine yG J1 ?_
 refine yF J1 (fun a4=>?_) fun a4=>?_
 ·refine yGT hC J1 ?_
  rw [n10 (by have:=of_decide_eq_true a4;unfold nrange;split at this<;>omega)]
  exact .one (.c (ler_errN rfl om))
 have hnr:¬nrange d i x:=by
  unfold nrange
  have b1:=of_decide_eq_false a1
  have b2:=of_decide_eq_false a2
  have b3:=of_decide_eq_false a3
  have b4:=of_decide_eq_false a4
  split at b3<;>split at b4<;>omega
 clear a1 a2 a3 a4 n10 J1
 have hno:=nok_of (d:=d) (i:=i) (by rw [hx];exact hnr)
 rw [hx] at hno
 obtain⟨v0,v1,l0,l1,h0,h1⟩:=hno
 have hcode:ncodeA d i=if x.lo=x.hi then 2 else if !(behindB d x.lo x.v)|| !(behindB d x.hi x.v) then 13 else 0:=by
  unfold ncodeA;rw [hx,if_neg hnr]
 rw [hcode]
 clear hcode
 have J2:=oj hn_g3 hn_g7
 refine yG J2 ?_
 refine yF J2 (fun c1=>?_) fun c1=>?_
 ·have c1':=eq_of_beq c1
  refine yGT hC J2 ?_
  rw [if_pos c1']
  exact .one (.c (ler_errN rfl om))
 have c1':¬x.lo=x.hi:=fun e=>by rw [e] at c1;simp at c1
 rw [if_neg c1']
 refine yG J2 ?_
 refine aw_buildSlice (xs:=[.tmp 54,.tmp 56]) (cells:=[.int .i64 x.lo,.int .i64 x.hi]) rfl rfl rfl (zE J2) (by refine yS J2 ?_;rfl) rfl om om (by intro x hx;simp only [List.mem_cons,List.not_mem_nil,or_false] at hx;rcases hx with rfl|rfl<;>exact⟨rfl,rfl,rfl⟩) (zE J2) fun g hg=> ?_
 replace hg:=Heap.ne_of hg
 dsimp only [Heap.ne] at hg
 refine aw_conv1 (f':=isF [x.lo,x.hi]) (fun j hj=> ?_) ?_
 ·match j,hj with
  |0,_=>rfl
  |1,_=>rfl
 have J3:=oj hn_g3 (oj hn_g7 hg)
 refine ySG J3 ?_
 refine aw_lp (fun k:Nat=>[(1,.c (is false (placesL d.order))),(3,.c (.optr g3 0)),(7,.c (.optr g7 0)),(57,.c (.osl g 1 0 2)),(58,.c (.int .i64 2)),(59,.c (.int .i64 k))]) (fun k=>[(g,.cells 3 2 (isF [x.lo,x.hi])),(g7,.cells 145 3 (ofL (dnc x))),(g3,.cells 55 3 (ofL (dgc false d)))]) (fun k=>k≤2∧∀j,j<k→behindB d ([x.lo,x.hi].getD j 0) x.v=true) (fun k=>2-k) 0 (zB J3) zZ ⟨Nat.zero_le _,by omega⟩ ?_
 rintro k ⟨hk,hs⟩
 refine yG J3 ?_
 refine yF J3 (fun hb=>?_) fun hb=>?_
 ·have hin:k<2:=dT hb
  obtain⟨r0,r1⟩:0≤[x.lo,x.hi].getD k 0∧[x.lo,x.hi].getD k 0<(i:Int)+2:=by
   match k,hin with
   |0,_=>exact⟨l0,l1⟩
   |1,_=>exact⟨h0,h1⟩
  have hbad:behindB d ([x.lo,x.hi].getD k 0) x.v=false→(!(behindB d x.lo x.v)|| !(behindB d x.hi x.v))=true:=by
   match k,hin with
   |0,_=>intro h;show(!(behindB d x.lo x.v)||_)=true;rw [show behindB d x.lo x.v=false from h];rfl
   |1,_=>intro h;rw [show behindB d x.hi x.v=false from h];simp
  refine yG J3 ?_
  generalize hr:[x.lo,x.hi].getD k 0=r at r0 r1 hbad
  have pv:=place_nat (o:=d.order) v0 om
  refine aw_dr 20 ty_mixed (by kernel_rfl) ?_
  refine yG J3 ?_
  refine drk_split 65 (zE J3) (fun h2=> ?_) (fun h2=> ?_)<;>refine yS J3 ?_
  ·have h2':=of_decide_eq_true h2
   obtain⟨w0,w1,_,_,_,_⟩:=hb4 (r-2).toNat om
   have pw:=place_nat (o:=d.order) w0 om
   have hbe:behindB d r x.v=decide (placeZ d.order (d.nodes.getD (r-2).toNat dn0).v>placeZ d.order x.v):=by
    unfold behindB
    rw [decide_eq_false om,Bool.false_or]
   have J4:=oj hn_g3 (oj hn_g7 (oj hg (oj pv pw)))
   refine yG J4 ?_
   refine yF J4 (fun h3=>?_) fun h3=>?_
   ·have h3':=of_decide_eq_true h3
    refine yGT hC J4 ?_
    rw [if_pos (hbad (by rw [hbe];exact decide_eq_false om))]
    exact .one (.c (ler_errN rfl om))
   ·have h3':=of_decide_eq_false h3
    refine yG J4 ?_
    refine aw_stop ⟨k+1,by omega,(zB J4),zZ,by omega,fun j hj=> ?_⟩
    rcases Nat.lt_succ_iff_lt_or_eq.1 hj with h|h
    ·exact hs j h
    ·rw [h,hr,hbe];exact decide_eq_true om
  ·have h2':=of_decide_eq_false h2
   refine yGNG J3 ?_
   refine aw_stop ⟨k+1,by omega,(zB J3),zZ,by omega,fun j hj=> ?_⟩
   rcases Nat.lt_succ_iff_lt_or_eq.1 hj with h|h
   ·exact hs j h
   ·rw [h,hr];unfold behindB;rw [decide_eq_true om,Bool.true_or]
 ·have hin:k=2:=dF hb
  subst hin
  have e1:behindB d x.lo x.v=true:=hs 0 om
  have e2:behindB d x.hi x.v=true:=hs 1 om
  refine yGT hC J3 ?_
  rw [e1,e2]
  exact .one (.c (ler_err0 rfl))
end Go.Proofs.YtfcnbgmclfkfcaaGreat
