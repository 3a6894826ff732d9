/- Parts of one proof, laid by a program. -/
import Derived.Test.YtefekdejgbceiaaGreatM00
import Derived.Test.YtefekdejgbceiaaGreatM06
import Derived.MapKept
import Derived.Carry
import Derived.Laws.Cover3
set_option linter.unusedSimpArgs false
set_option linter.unusedVariables false
set_option maxRecDepth 100000
set_option maxHeartbeats 12800000
namespace Go.AI
open Go.PN
theorem updF_is {zs:List Int} {i:Nat} {v:Int} (hi:i<zs.length):updF (isF zs) i [.int .i64 v]=isF (zs.set i v):=by
 funext j
 simp only [updF]
 by_cases e:j=i
 ·subst e;simp [hi,isF]
 ·rw [if_neg e]
  show CV.int .i64 (zs.getD j 0)=CV.int .i64 ((zs.set i v).getD j 0)
  rw [List.getD_eq_getElem?_getD,List.getD_eq_getElem?_getD,List.getElem?_set_ne (fun h=>e h.symm)]
theorem updF_bs {zs:List Bool} {i:Nat} {v:Bool} (hi:i<zs.length):updF (bsF zs) i [.bool v]=bsF (zs.set i v):=by
 funext j
 simp only [updF]
 by_cases e:j=i
 ·subst e;simp [hi,bsF]
 ·rw [if_neg e]
  show CV.bool (zs.getD j false)=CV.bool ((zs.set i v).getD j false)
  rw [List.getD_eq_getElem?_getD,List.getD_eq_getElem?_getD,List.getElem?_set_ne (fun h=>e h.symm)]
theorem make_is (n:Nat):(fun j=>ofL [CV.int .i64 0] (j%1))=isF (List.replicate n 0):=by
 funext j
 show ofL [CV.int .i64 0] (j%1)=CV.int .i64 ((List.replicate n 0).getD j 0)
 rw [Nat.mod_one,List.getD_eq_getElem?_getD,List.getElem?_replicate]
 split<;>rfl
theorem make_bs (n:Nat):(fun j=>ofL [CV.bool false] (j%1))=bsF (List.replicate n false):=by
 funext j
 show ofL [CV.bool false] (j%1)=CV.bool ((List.replicate n false).getD j false)
 rw [Nat.mod_one,List.getD_eq_getElem?_getD,List.getElem?_replicate]
 split<;>rfl
theorem ler_oslis {h:Heap} {t:Bool} {g n:Nat} {ty:TypeId} {ys:List Int} (hg:h.get g=some (.cells ty n (isF ys))) (hn:n=ys.length):LeR h (.osl g 1 0 n) (is t ys):=by
 subst hn
 exact .osl hg om (fun j _=>by rw [Nat.zero_add];exact .int _ _)
end Go.AI
namespace Go.Proofs.YtefekdejgbceiaaGreat
open Go.AI Go.PN
attribute [local irreducible] aw Fa Fh DrK
theorem place_none {l:List Int} {n:Int} (h:∀j,j<l.length→l.getD j 0≠n):placeZ l n= -1:=by
 unfold placeZ
 rw [if_neg]
 intro hm
 obtain⟨k,hk,e⟩:=List.mem_iff_getElem.1 hm
 exact h k hk (by rw [getDZ hk,e])
theorem place_at {l:List Int} {n:Int} {i:Nat} (hi:i<l.length) (he:l.getD i 0=n) (h:∀j,j<i→l.getD j 0≠n):placeZ l n=i:=by
 unfold placeZ
 have hm:n∈l:=by rw [←he,getDZ hi];exact List.getElem_mem hi
 rw [if_pos hm]
 congr 1
 have h1:l.idxOf n<l.length:=List.idxOf_lt_length_of_mem hm
 have h2:l[l.idxOf n]=n:=List.getElem_idxOf h1
 rcases Nat.lt_trichotomy (l.idxOf n) i with hlt|heq|hgt
 ·exact absurd (by rw [getDZ h1];exact h2) (h _ hlt)
 ·exact heq
 ·have:=List.not_of_lt_findIdx (p:=fun x=>x==n) (xs:=l) (i:=i) hgt
  rw [getDZ hi] at he
  simp [he] at this
theorem place_fa (l:List Int) (n:Int) (hl:l.length≤1099511627776):Fa Tryz.prog 36 [.c (is false l),.c (.int .i64 n)] (.c (.int .i64 (placeZ l n))):=by
 refine fa_of_body Tryz.func36 rfl rfl (by simp [Tryz.ntmps36]) fun C hC=> ?_
 simp only [initS,Nat.reduceAdd]
 refine xG ?_
 refine aw_lp (fun i:Nat=>[(0,.c (is false l)),(1,.c (.int .i64 n)),(5,.c (.int .i64 i))]) (fun _=>[]) (fun i=>i≤l.length∧∀j,j<i→l.getD j 0≠n) (fun i=>l.length-i) 0 eB zZ ⟨Nat.zero_le _,fun j hj=>by omega⟩ ?_
 rintro i ⟨hi,hs⟩
 refine xG ?_
 refine xF (fun hb=>?_) fun hb=>?_
 ·have hin:i<l.length:=dT hb
  refine xG ?_
  refine xF (fun hc=>?_) fun hc=>?_
  ·refine xGT hC ?_
   exact .one (.c (ler_int (place_at hin (eq_of_beq hc) hs).symm))
  ·have hne:l.getD i 0≠n:=fun e=>by rw [e] at hc;simp at hc
   refine xG ?_
   refine aw_stop ⟨i+1,by omega,eB,zZ,by omega,fun j hj=> ?_⟩
   by_cases hji:j=i
   ·rw [hji];exact hne
   ·exact hs j om
 ·have hin:i=l.length:=dF hb
  subst hin
  refine xGT hC ?_
  exact .one (.c (ler_int (place_none hs).symm))
theorem ocheck_fa (o:List Int) (vars:Int) (hl:o.length≤1099511627776):Fa Tryz.prog 28 [.c (is false o),.c (.int .i64 vars)] (.c (errA (ocode o vars))):=by
 refine fa_of_body Tryz.func28 rfl rfl (by simp [Tryz.ntmps28]) fun C hC=> ?_
 simp only [initS,Nat.reduceAdd]
 refine xG ?_
 by_cases hv0:vars<0
 ·have e1:decide (vars<0)=true:=by simp [hv0]
  refine yGPGT hC e1 ?_
  exact .one (.c (ler_errN (by unfold ocode;rw [if_pos (.inl hv0)]) (by unfold ocode;rw [if_pos (.inl hv0)];omega)))
 have e1:decide (vars<0)=false:=by simp [hv0]
 refine yG e1 ?_
 refine yF e1 (fun hb=>?_) fun hb=>?_
 ·have:=of_decide_eq_true hb
  refine yGT hC e1 ?_
  exact .one (.c (ler_errN (by unfold ocode;rw [if_pos (.inr om)]) (by unfold ocode;rw [if_pos (.inr om)];omega)))
 have hv24:vars≤24:=dF hb
 refine yG e1 ?_
 refine yF e1 (fun hc=>?_) fun hc=>?_
 ·have hne:(o.length:Int)≠vars:=fun e=>by rw [e] at hc;simp at hc
  refine yGT hC e1 ?_
  exact .one (.c (ler_errN (by unfold ocode;rw [if_neg om,if_pos hne]) (by unfold ocode;rw [if_neg om,if_pos hne];omega)))
 have hlen:(o.length:Int)=vars:=by
  have:((o.length:Int)==vars)=true:=by simpa [bne] using hc
  exact eq_of_beq this
 have hcode:ocode o vars=oscan vars [] o:=by unfold ocode;rw [if_neg om,if_neg om]
 rw [hcode]
 refine yG e1 ?_
 refine aw_make (n:=o.length) (c:=o.length) (size:=1) (z:=[.bool false]) rfl rfl rfl (zE e1) (zE e1) rfl om (zE e1) (zE e1) hlen.symm hlen.symm om om om fun g hg=> ?_
 rw [make_bs o.length]
 refine ySG e1 ?_
 refine aw_lp (fun x:Nat×List Bool=>[(1,.c (.int .i64 vars)),(5,.c (.osl g 1 0 o.length)),(24,.c (is false o)),(25,.c (.int .i64 o.length)),(26,.c (.int .i64 x.1))]) (fun x=>[(g,.cells 4 o.length (bsF x.2))])
  (fun x=>x.1≤o.length∧oscan vars (o.take x.1) (o.drop x.1)=oscan vars [] o∧x.2.length=o.length∧∀j:Nat,j<o.length→(x.2.getD j false=decide ((j:Int)∈o.take x.1))) (fun x=>o.length-x.1) (0,List.replicate o.length false) (zB e1) zZ ⟨Nat.zero_le _,by simp,by simp,fun j hj=>by rw [List.getD_eq_getElem?_getD,List.getElem?_replicate];simp [hj]⟩ ?_
 rintro ⟨i,zs⟩ ⟨hi,hs,hzl,hz⟩
 dsimp only at hi hs hzl hz⊢
 refine yG e1 ?_
 refine yF e1 (fun hb1=>?_) fun hb1=>?_
 ·have hin:i<o.length:=dT hb1
  rw [oscan_step hin] at hs
  refine yG e1 ?_
  by_cases hx0:o.getD i 0<0
  ·have e2:decide (o.getD i 0<0)=true:=decide_eq_true hx0
   refine yGPGT hC (oj e1 e2) ?_
   rw [if_pos (.inl hx0)] at hs
   exact .one (.c (ler_errN hs om))
  have e2:decide (o.getD i 0<0)=false:=decide_eq_false hx0
  have J1:=oj e1 e2
  refine yG J1 ?_
  refine yF J1 (fun hx1=>?_) fun hx1=>?_
  ·have hx1':=of_decide_eq_true hx1
   refine yGT hC J1 ?_
   rw [if_pos (.inr hx1')] at hs
   exact .one (.c (ler_errN hs om))
  have hx1':¬vars≤o.getD i 0:=of_decide_eq_false hx1
  rw [if_neg om] at hs
  have hzi:=hz (o.getD i 0).toNat om
  rw [show(((o.getD i 0).toNat:Nat):Int)=o.getD i 0 from by omega] at hzi
  refine yG J1 ?_
  refine yF J1 (fun ht=>?_) fun ht=>?_
  ·rw [ht] at hzi
   have hm:=of_decide_eq_true hzi.symm
   refine yGT hC J1 ?_
   rw [if_pos hm] at hs
   exact .one (.c (ler_errN hs om))
  ·rw [ht] at hzi
   have hm:=of_decide_eq_false hzi.symm
   rw [if_neg hm] at hs
   refine yGWS J1 ?_
   rw [updF_bs om]
   refine yG J1 ?_
   refine aw_stop ⟨(i+1,zs.set (o.getD i 0).toNat true),by dsimp only;omega,(zB J1),zZ,by dsimp only;omega,hs,by simpa using hzl,fun j hj=> ?_⟩
   dsimp only
   rw [List.take_succ_eq_append_getElem hin,List.getD_eq_getElem?_getD]
   by_cases hje:j=(o.getD i 0).toNat
   ·subst hje
    rw [List.getElem?_set_self om]
    have:(((o.getD i 0).toNat:Nat):Int)∈o.take i++[o[i]]:=by
     rw [←getDZ hin,show(((o.getD i 0).toNat:Nat):Int)=o.getD i 0 from by omega];simp
    exact(decide_eq_true this).symm
   ·rw [List.getElem?_set_ne (fun e=>hje e.symm),←List.getD_eq_getElem?_getD,hz j hj]
    have:((j:Int)∈o.take i++[o[i]])↔(j:Int)∈o.take i:=by
     rw [←getDZ hin]
     simp only [List.mem_append,List.mem_singleton]
     exact⟨fun h=>h.resolve_right om,.inl⟩
    simp only [this]
 ·have hin:i=o.length:=dF hb1
  subst hin
  refine yGT hC e1 ?_
  exact .one (.c (ler_err0 (by rw [←hs,List.drop_length];rfl)))
theorem places_fa (o:List Int) (ho:Perm0 o) (hl:o.length≤24):Fa Tryz.prog 151 [.c (is false o)] (.c (is true (placesL o))):=by
 refine fa_of_body Tryz.func151 rfl rfl (by simp [Tryz.ntmps151]) fun C hC=> ?_
 simp only [initS,Nat.reduceAdd]
 refine xG ?_
 refine aw_make (n:=o.length) (c:=o.length) (size:=1) (z:=[.int .i64 0]) rfl rfl rfl eE eE rfl om eE eE rfl rfl om om om fun g hg=> ?_
 rw [make_is o.length]
 refine xSG ?_
 refine aw_lp (fun x:Nat×List Int=>[(3,.c (.osl g 1 0 o.length)),(9,.c (is false o)),(10,.c (.int .i64 o.length)),(11,.c (.int .i64 x.1))]) (fun x=>[(g,.cells 3 o.length (isF x.2))])
  (fun x=>x.1≤o.length∧x.2.length=o.length∧∀k,k<x.1→x.2.getD (o.getD k 0).toNat 0=k) (fun x=>o.length-x.1) (0,List.replicate o.length 0) eB zZ ⟨Nat.zero_le _,by simp,fun k hk=>by omega⟩ ?_
 rintro ⟨i,zs⟩ ⟨hi,hzl,hz⟩
 dsimp only at hi hzl hz⊢
 refine xG ?_
 refine xF (fun hb1=>?_) fun hb1=>?_
 ·have hin:i<o.length:=dT hb1
  have hr:=ho.range (o.getD i 0) (by rw [getDZ hin];exact List.getElem_mem hin)
  refine xG ?_
  refine xW ?_
  refine xS ?_
  rw [updF_is om]
  refine xG ?_
  refine aw_stop ⟨(i+1,zs.set (o.getD i 0).toNat i),by dsimp only;omega,eB,zZ,by dsimp only;omega,by simpa using hzl,fun k hk=> ?_⟩
  dsimp only at hk⊢
  rw [List.getD_eq_getElem?_getD]
  by_cases hki:k=i
  ·subst hki
   rw [List.getElem?_set_self om];rfl
  ·have hrk:=ho.range (o.getD k 0) (by rw [getDZ om];exact List.getElem_mem _)
   rw [List.getElem?_set_ne,←List.getD_eq_getElem?_getD,hz k om]
   intro e
   have e2:o.getD i 0=o.getD k 0:=by omega
   have p1:=place_get ho.nodup hin
   have p2:=place_get ho.nodup (show k<o.length from by omega)
   rw [e2,p2] at p1
   omega
 ·have hin:i=o.length:=dF hb1
  subst hin
  refine xGT hC ?_
  rw [←places_end ho hzl hz]
  exact .one (.c (ler_oslis eE hzl.symm))
theorem positions_fa (o:List Int) (hl:o.length≤1099511627776):Fa Tryz.prog 116 [.c (is false o)] (.tup [.c (is true (if ocode o o.length=0 then placesL o else [])),.c (errA (ocode o o.length))]):=by
 refine fa_of_body Tryz.func116 rfl rfl (by simp [Tryz.ntmps116]) fun C hC=> ?_
 simp only [initS,Nat.reduceAdd]
 refine xG ?_
 refine xC (ocheck_fa o o.length hl) ?_
 refine xG ?_
 refine xF (fun hb=>?_) fun hb=>?_
 ·have hne:ocode o o.length≠0:=by simpa using hb
  refine xGT hC ?_
  rw [if_neg hne]
  exact .tup ⟨.c .nils,.c ler_err,trivial⟩
 ·have he:ocode o o.length=0:=by simpa using hb
  obtain⟨h1,h2⟩:=ocode_ok he
  refine xG ?_
  refine xC (places_fa o h1 h2) ?_
  refine xGT hC ?_
  rw [if_pos he]
  exact .tup ⟨.c ler_is,.c (ler_err0 he),trivial⟩
end Go.Proofs.YtefekdejgbceiaaGreat
namespace Go.PN
open Go.AI
def behindB (d:DG) (r e:Int):Bool:=decide (r<2)||decide (placeZ d.order (d.nodes.getD (r-2).toNat dn0).v>placeZ d.order e)
def nrange (d:DG) (i:Nat) (x:DN):Prop:=x.v<0∨(d.order.length:Int)≤x.v∨x.lo<0∨(i:Int)+1<x.lo∨x.hi<0∨(i:Int)+1<x.hi
instance (d:DG) (i:Nat) (x:DN):Decidable (nrange d i x):=by unfold nrange;infer_instance
def ncode (d:DG) (i:Nat):Int:=
 if nrange d i (d.nodes.getD i dn0) then 10 else if(d.nodes.getD i dn0).lo=(d.nodes.getD i dn0).hi then 2
 else if !(behindB d (d.nodes.getD i dn0).lo (d.nodes.getD i dn0).v)|| !(behindB d (d.nodes.getD i dn0).hi (d.nodes.getD i dn0).v) then 13
 else if d.nodes.getD i dn0∈d.nodes.take i then 6 else 0
theorem getDN {xs:List DN} {i:Nat} (h:i<xs.length):xs.getD i dn0=xs[i]:=by
 rw [List.getD_eq_getElem?_getD,List.getElem?_eq_getElem h];rfl
theorem take_memN {o:List DN} {i:Nat} {x:DN}:x∈o.take i↔∃k,k<i∧k<o.length∧o.getD k dn0=x:=by
 constructor
 ·intro h
  obtain⟨k,hk,e⟩:=List.mem_iff_getElem.1 h
  simp only [List.length_take] at hk
  refine⟨k,by omega,by omega,?_⟩
  rw [getDN om,←e,List.getElem_take]
 ·rintro ⟨k,h1,h2,rfl⟩
  rw [getDN h2]
  exact List.mem_iff_getElem.2 ⟨k,by simp;omega,by rw [List.getElem_take]⟩
theorem nok_of {d:DG} {i:Nat} (h:¬nrange d i (d.nodes.getD i dn0)):NodeOk d.order.length i (d.nodes.getD i dn0):=by
 unfold nrange at h
 constructor<;>omega
theorem eqDN (a b:DN):((a.v==b.v)&&((a.lo==b.lo)&&(a.hi==b.hi)))=decide (a=b):=by
 cases a;cases b
 rw [Bool.eq_iff_iff]
 simp [DN.mk.injEq]
end Go.PN

namespace Go.PN
open Go.AI
def numF (ns:List DN):Nat→Int→List Int→List Int
 |0,_,b=>b
 |k+1,r,b=>if r<2∨r∈b then b else numF ns k (ns.getD (r-2).toNat dn0).hi (numF ns k (ns.getD (r-2).toNat dn0).lo b)++[r]
theorem nodup_range {n:Nat} {b:List Int} (h:b.Nodup) (hb:∀x∈b,2≤x∧x<n+2):b.length≤n:=by
 have:=nodup_le (m:=(List.range n).map fun(i:Nat)=>(i:Int)+2) h (fun x hx=>by
  have h1:=hb x hx
  refine List.mem_map.2 ⟨(x-2).toNat,List.mem_range.2 om,by omega⟩)
 simpa using this
theorem numF_mono {ns:List DN}:∀(k:Nat) (r:Int) (b:List Int) (x:Int),x∈b→x∈numF ns k r b
 |0,_,b,x,h=>h
 |k+1,r,b,x,h=>by
  rw [numF]
  split
  ·exact h
  ·exact List.mem_append_left _ (numF_mono k _ _ x (numF_mono k _ _ x h))
theorem numF_bd {m:Nat} {ns:List DN} (hn:NsOk m ns):∀(k:Nat) (r:Int) (b:List Int),r<ns.length+2→b.Nodup→(∀x∈b,2≤x∧x<ns.length+2)→
  (numF ns k r b).Nodup∧(∀x∈numF ns k r b,2≤x∧x<ns.length+2)∧(∀x∈numF ns k r b,x∈b∨x≤r)
 |0,r,b,_,h1,h2=>⟨h1,h2,fun x hx=>.inl hx⟩
 |k+1,r,b,hr,h1,h2=>by
  rw [numF]
  split
  ·exact⟨h1,h2,fun x hx=>.inl hx⟩
  ·rename_i hc
   obtain⟨v0,v1,l0,l1,g0,g1⟩:=hn (r-2).toNat om
   obtain⟨a1,a2,a3⟩:=numF_bd hn k (ns.getD (r-2).toNat dn0).lo b om h1 h2
   obtain⟨b1,b2,b3⟩:=numF_bd hn k (ns.getD (r-2).toNat dn0).hi _ om a1 a2
   refine⟨?_,fun x hx=> ?_,fun x hx=> ?_⟩
   ·rw [List.nodup_append]
    refine⟨b1,by simp,fun x hx y hy e=> ?_⟩
    simp only [List.mem_singleton] at hy
    subst hy
    rcases b3 x hx with h|h
    ·rcases a3 x h with h|h
     ·exact hc (.inr (e▸h))
     ·omega
    ·omega
   ·rcases List.mem_append.1 hx with hx|hx
    ·exact b2 x hx
    ·simp only [List.mem_singleton] at hx;omega
   ·rcases List.mem_append.1 hx with hx|hx
    ·rcases b3 x hx with h|h
     ·rcases a3 x h with h|h
      ·exact .inl h
      ·exact .inr om
     ·exact .inr om
    ·simp only [List.mem_singleton] at hx;exact .inr om
theorem le_gsi {pre:Heap} {og:Option Nat} {e n:Nat} {zs:List Int} (hog:og=none→n=0) (hn:∀g,og=some g→g∉pre.keys) (hl:zs.length=n):LeC (pre++gh og e n (isF zs)) (gs og 1 n) (is false zs):=by
 subst hl
 have:=le_gs (pre:=pre) (og:=og) (e:=e) (s:=1) (n:=zs.length) (f:=isF zs) (f':=isF zs) hog hn (fun j _=>.refl _)
 simpa only [Nat.mul_one] using this
end Go.PN

namespace Go.PN
open Go.AI
def nfirst (d:DG):Nat→Nat→Int
 |_,0=>0
 |i,k+1=>if ncode d i≠0 then ncode d i else nfirst d (i+1) k
def numsL (n:Nat):List Int:=(List.range n).map fun(i:Nat)=>(i:Int)+2
def dcode (d:DG):Int:=
 if ocode d.order d.order.length≠0 then ocode d.order d.order.length else if 4096<d.nodes.length then 4
 else if nfirst d 0 d.nodes.length≠0 then nfirst d 0 d.nodes.length else if d.root<0∨1+(d.nodes.length:Int)<d.root then 10
 else if numF d.nodes d.root.toNat d.root []=numsL d.nodes.length then 0 else 2
theorem nfirst_step {d:DG} {i n:Nat} (h:i<n) (h0:ncode d i=0):nfirst d i (n-i)=nfirst d (i+1) (n-(i+1)):=by
 obtain⟨k,hk⟩:∃k,n-i=k+1:=⟨n-i-1,by omega⟩
 rw [hk,nfirst,if_neg (by simp [h0]),show n-(i+1)=k from by omega]
theorem nfirst_at {d:DG} {i n:Nat} (h:i<n) (h0:ncode d i≠0):nfirst d i (n-i)=ncode d i:=by
 obtain⟨k,hk⟩:∃k,n-i=k+1:=⟨n-i-1,by omega⟩
 rw [hk,nfirst,if_pos h0]
theorem nok_all {d:DG} (h:∀j,j<d.nodes.length→ncode d j=0):NsOk d.order.length d.nodes:=fun i hi=>by
 refine nok_of (d:=d) (i:=i) fun hr=> ?_
 have:=h i hi
 unfold ncode at this
 rw [if_pos hr] at this
 cases this
theorem numsL_len (n:Nat):(numsL n).length=n:=by simp [numsL]
end Go.PN
namespace Go.AI
section
variable {E : Env} {K : List It} {σ σ' : Sl} {h : Heap}
theorem aw_frzg {t s n e:Nat} {og:Option Nat} {f:Nat→CV} {pre:Heap} (ht:σ.get t=.c (gs og s n)) (hog:og=none→n=0) (hh:h=pre++gh og e (n*s) f) (hp:∀g,og=some g→g∉pre.keys) (hn:∀g,¬E.C.own0 g) (hσ:σ.set t (.c (.row true s n f))=σ') (k:aw E K σ' pre):aw E K σ h:=by
 subst hσ hh
 cases og with
 |none=>
  have hn0:=hog rfl
  subst hn0
  refine aw_conv (t:=t) (v:=.c (.row true s 0 f)) (fun S w u hr=> ?_) rfl (by simpa [gh] using k)
  rw [ht] at hr
  obtain⟨A,hv⟩:=hr
  exact⟨A,0,hv,by omega,fun h0=>absurd h0 om⟩
 |some g=>
  refine aw_frz (ty:=e) (m:=n*s) (f:=f) ht (Heap.get_app (hp g rfl)) om (hn g) rfl (Heap.del_app (hp g rfl)) ?_
  simpa only [Nat.zero_add] using k
end
end Go.AI

namespace Go.PN
open Go.AI
def pcode (p:List RD) (vars:Int):Int:=if(p.length:Int)≠vars then 11 else if p.all RD.prob then 0 else 3
def dpcode (d:DG) (p:List RD):Int:=if dcode d≠0 then dcode d else pcode p d.order.length
theorem rd1_wf {L:Nat} (h:1≤L):(rd 1).wf L:=rd_wf (fits_mono fits_one h)
end Go.PN
namespace Go.AI
open Go.PN
theorem zero_agg:∀(S:Bool→Nat→Prop) (w:World) (u:Value),Rep S w (.agg [.bool false,.nils,.nils]) u→Rep S w (.agg [.bool rd0.neg,ws true rd0.num,ws true rd0.den]) u:=by
 rintro S w u ⟨us,rfl,h⟩
 refine⟨us,rfl,?_⟩
 match us,h with
 |[a,b,c],⟨h1,h2,h3,_⟩=>exact⟨h1,repC_nil h2,repC_nil h3,trivial⟩
end Go.AI
namespace Go.Proofs.YtefekdejgbceiaaGreat
open Go.AI Go.PN
attribute [local irreducible] aw Fa Fh DrK
theorem check37_fa (p:List RD) (vars:Int) (hw:∀r∈p,r.wf 500000000) (hl:p.length≤1099511627776):Fa Tryz.prog 67 [.c (rats false p),.c (.int .i64 vars)] (.c (.int .i64 (pcode p vars))):=by
 unfold pcode
 refine fa_of_body Tryz.func67 rfl rfl (by simp [Tryz.ntmps67]) fun C hC=> ?_
 simp only [initS,Nat.reduceAdd]
 refine xG ?_
 refine xF (fun hb=>?_) fun hb=>?_
 ·have hb':(p.length:Int)≠vars:=by simpa using hb
  refine xGT hC ?_
  exact .one (.c (ler_int (by rw [if_pos hb'])))
 ·have hb':(p.length:Int)=vars:=by simpa using hb
  rw [if_neg om]
  refine xG ?_
  refine aw_lp (fun x:Nat=>[(0,.c (rats false p)),(5,.c (.int .i64 x))]) (fun x=>[]) (fun x=>x≤p.length∧∀j,j<x→(p.getD j rd0).prob=true) (fun x=>p.length-x) 0 eB zZ ⟨Nat.zero_le _,by omega⟩ ?_
  rintro i ⟨hi,hs⟩
  refine xG ?_
  refine xF (fun h1=>?_) fun h1=>?_
  ·have h1':i<p.length:=dT h1
   have hmem:p.getD i rd0∈p:=by rw [List.getD_eq_getElem?_getD,List.getElem?_eq_getElem h1'];exact List.getElem_mem h1'
   refine xG ?_
   refine xC (sprob_fa (p.getD i rd0) (getD_wf hw i)) ?_
   refine xG ?_
   refine xF (fun h2=>?_) fun h2=>?_
   ·have h2':(p.getD i rd0).prob=false:=by simpa using h2
    refine xGT hC ?_
    exact .one (.c (ler_int (by rw [if_neg (fun h=>by rw [List.all_eq_true.1 h _ hmem] at h2';cases h2')])))
   ·have h2':(p.getD i rd0).prob=true:=by simpa using h2
    refine xG ?_
    refine aw_stop ⟨i+1,by omega,eB,zZ,by omega,fun j hj=> ?_⟩
    rcases Nat.lt_succ_iff_lt_or_eq.1 hj with h|h
    ·exact hs j h
    ·rw [h,h2']
  ·have h1':i=p.length:=dF h1
   subst h1'
   refine xGT hC ?_
   refine .one (.c (ler_int ?_))
   rw [if_pos]
   refine List.all_eq_true.2 fun x hx=> ?_
   obtain⟨j,hj,e⟩:=List.mem_iff_getElem.1 hx
   have:=hs j hj
   rw [List.getD_eq_getElem?_getD,List.getElem?_eq_getElem hj,Option.getD_some,e] at this
   exact this
end Go.Proofs.YtefekdejgbceiaaGreat
namespace Go.AI
def fAsk {α:Type} [DecidableEq α] (a:α):List α→List MapEntry→Nat→Option (Nat×Value)
 |k::ks,e::es,i=>if a=k then some (i,e.val) else fAsk a ks es (i+1)
 |_,_,_=>none
structure KeyOk (P:Program) (kt:TypeId) {α:Type} [DecidableEq α] (K:α→Value):Prop where
 check:∀b a w,(Instr.checkKey b 10000 kt (K a)).run P w=.ok () w
 find:∀(a:α) (ks:List α) (es:List MapEntry) w,es.map (·.key)=ks.map K→(Instr.findKey kt (K a) es).run P w=.ok (fAsk a ks es 0) w
section
variable {P : Program}
theorem run_findAsking {α:Type} [DecidableEq α] {K:α→Value} {kt:TypeId} (heq:∀a b w,(Op.equal kt (K a) (K b)).run P w=.ok (decide (a=b)) w) (a:α):∀(ks:List α) (es:List MapEntry) (i:Nat) (w:World),es.map (·.key)=ks.map K→(Instr.findAsking kt (K a) es i).run P w=.ok (fAsk a ks es i) w
 |[],[],i,w,_=>by simp [Instr.findAsking,fAsk]
 |k::ks,e::es,i,w,h=>by
  simp only [List.map_cons,List.cons.injEq] at h
  simp only [Instr.findAsking,fAsk,Sem.run_bind,h.1,heq,Result.andThen_ok]
  by_cases hk:a=k
  ·simp [hk]
  ·simp only [hk,decide_false,Bool.false_eq_true,if_false]
   exact run_findAsking heq a ks es (i+1) w h.2
 |[],e::es,i,w,h=>by simp at h
 |k::ks,[],i,w,h=>by simp at h
def keyZ (ns:List Int):Value:=.agg (ns.map (Value.int .i64)).toArray
theorem run_checkFields {n:Nat} {ns:List Int} (w:World) (b:Bool):∀(fs:List Field) (k:Nat),(fs.zipIdx k).all (fun p=>p.1.name != "_" &&p.1.offset==p.2&&(tInt P p.1.type).isSome)=true→k+fs.length≤ns.length→
  (forIn fs PUnit.unit (fun f (_:PUnit)=>(do
   if f.name≠ "_" then
    let __do_lift←part f.type (ns.map (Value.int .i64)).toArray f.offset
    Instr.checkKey b (n+1) f.type __do_lift
   pure (ForInStep.yield PUnit.unit):Sem (ForInStep PUnit)))).run P w=.ok PUnit.unit w
 |[],k,_,_=>by simp
 |f::fs,k,hf,hk=>by
  simp only [List.zipIdx_cons,List.all_cons,Bool.and_eq_true,bne_iff_ne,ne_eq,beq_iff_eq] at hf
  obtain⟨⟨⟨hn,ho⟩,hi⟩,hr⟩:=hf
  simp only [List.length_cons] at hk
  have hka:k<ns.length:=by omega
  obtain⟨kk,hkk⟩:=Option.isSome_iff_exists.1 hi
  have hu:=tInt_spec hkk
  have hag:(isAgg f.type).run P w=.ok false w:=by simp [isAgg,run_underlying hu]
  have e1:(ns.map (Value.int .i64)).toArray[k]?=some (Value.int .i64 (ns[k])):=by simp [hka]
  have p1:(part f.type (ns.map (Value.int .i64)).toArray f.offset).run P w=.ok (.int .i64 (ns[k])) w:=by
   unfold part
   simp only [Sem.run_bind,hag,Result.andThen_ok,Bool.false_eq_true,if_false,ho,e1,Sem.run_pure]
  have p2:(Instr.checkKey b (n+1) f.type (.int .i64 (ns[k]))).run P w=.ok () w:=by
   simp [Instr.checkKey,run_underlying hu]
  have ih:=run_checkFields (n:=n) (ns:=ns) w b fs (k+1) (by simpa using hr) om
  rw [List.forIn_cons]
  simp only [hn,not_false_eq_true,if_true,Sem.run_bind,p1,p2,Result.andThen_ok,Sem.run_pure,ne_eq]
  exact ih
theorem keyZ_ok {kt n:Nat} (ht:tEqS P kt=some n):KeyOk P kt (fun ns:{l:List Int//l.length=n}=>keyZ ns.1):=by
 have hstr:P.underlying kt=some (.struct (P.fieldsOf kt))∧(P.fieldsOf kt).toList.zipIdx.all (fun p=>p.1.name != "_" &&p.1.offset==p.2&&(tInt P p.1.type).isSome)=true∧(P.fieldsOf kt).size=n:=by
  unfold tEqS at ht
  split at ht
  ·rename_i hc
   simp only [Bool.and_eq_true,Bool.not_eq_true'] at hc
   obtain⟨⟨⟨h1,h2⟩,h3⟩,h4⟩:=hc
   injection ht with ht
   exact⟨isStr_spec h4,h3,ht⟩
  ·cases ht
 obtain⟨hu,hf,hs⟩:=hstr
 have heq:∀(a b:{l:List Int//l.length=n}) (w:World),(Op.equal kt (keyZ a.1) (keyZ b.1)).run P w=.ok (decide (a=b)) w:=fun a b w=>by
  have:=(tEqS_run ht a.2 b.2 w).1
  unfold Op.equal Op.maxDepth keyZ
  rw [this,eqZ_eq]
  congr 1
  rw [Bool.eq_iff_iff];simp [Subtype.ext_iff]
 refine⟨fun b a w=> ?_,fun a ks es w h=> ?_⟩
 ·unfold keyZ
  rw [show(10000:Nat)=9999+1 from rfl,Instr.checkKey]
  simp only [Sem.run_bind,run_underlying hu,Result.andThen_ok]
  rw [←Array.forIn_toList]
  have:=run_checkFields (P:=P) (n:=9998) (ns:=a.1) w b (P.fieldsOf kt).toList 0 hf (by simp [hs,a.2])
  rw [this]
  rfl
 ·unfold Instr.findKey
  simp only [Sem.run_bind,run_underlying hu,Result.andThen_ok]
  cases es with
  |nil=>
   cases ks with
   |nil=>simp [Instr.findNow,fAsk]
   |cons k ks=>simp at h
  |cons e es=>
   have hn:Instr.findNow (.struct (P.fieldsOf kt)) (keyZ a.1) (e::es) 0=none:=by
    simp [Instr.findNow,Instr.sameNow]
   rw [hn]
   exact run_findAsking heq a ks (e::es) 0 w h
def MapI {α:Type} (K:α→Value) (kv:List (α×Value)) (o:Obj):Prop:=∃es c,o=.map es c∧es.toList.map (fun e=>(e.key,e.val))=kv.map (fun p=>(K p.1,p.2))
def kvGet {α:Type} [DecidableEq α] (a:α):List (α×Value)→Option Value
 |[]=>none
 |p::kv=>if a=p.1 then some p.2 else kvGet a kv
theorem fAsk_get {α:Type} [DecidableEq α] {K:α→Value} (a:α):∀(kv:List (α×Value)) (es:List MapEntry) (i:Nat),es.map (fun e=>(e.key,e.val))=kv.map (fun p=>(K p.1,p.2))→(fAsk a (kv.map (·.1)) es i).map (·.2)=kvGet a kv
 |[],[],i,_=>rfl
 |p::kv,e::es,i,h=>by
  simp only [List.map_cons,List.cons.injEq,Prod.mk.injEq] at h
  simp only [List.map_cons,fAsk,kvGet]
  split
  ·simp [h.1.2]
  ·exact fAsk_get a kv es (i+1) h.2
 |[],e::es,i,h=>by simp at h
 |p::kv,[],i,h=>by simp at h
def tMap (P:Program) (t:TypeId):Option (TypeId×TypeId):=match P.underlying t with
 |some (.map k e)=>some (k,e)
 |_=>none
theorem tMap_spec {t k e:TypeId} (h:tMap P t=some (k,e)):P.underlying t=some (.map k e):=by
 unfold tMap at h
 split at h
 ·rename_i hu;simp only [Option.some.injEq,Prod.mk.injEq] at h;rw [hu,h.1,h.2]
 ·cases h
def tZ1 (P:Program) (t:TypeId):Option Value:=match (P.info? t).bind (·.zero) with
 |some (.int k n)=>some (.int k n)
 |some (.bool b)=>some (.bool b)
 |_=>none
theorem tZ1_run {t:TypeId} {z:Value} (h:tZ1 P t=some z) (w:World):(zeroValue t).run P w=.ok z w:=by
 unfold tZ1 at h
 cases hi:P.info? t with
 |none=>simp [hi] at h
 |some i=>
  cases hz:i.zero with
  |none=>simp [hi,hz] at h
  |some v=>
   simp only [hi,hz,Option.bind_some] at h
   split at h
   ·rename_i he;injection he with he;injection h with h;subst h;simp [zeroValue,typeInfo,hi,hz,he]
   ·rename_i he;injection he with he;injection h with h;subst h;simp [zeroValue,typeInfo,hi,hz,he]
   ·cases h
theorem runGet {w:World} {r:Nat} {es:Array MapEntry} {c:Nat} (hb:w.heap[r]?=some (.map es c)):(getObj r).run P w=.ok (.map es c) w:=by simp [getObj,Sem.run,hb]
theorem runSet {w:World} {r:Nat} {es:Array MapEntry} {c:Nat} (o':Obj) (hb:w.heap[r]?=some (.map es c)):(setObj r o').run P w=.ok () {w with heap:=w.heap.setIfInBounds r o'}:=by simp [setObj,Sem.run,hb]
variable {E : Env} {K : List It} {σ σ' : Sl} {h : Heap} {all rest : List Oper} {o : Oper}
theorem aw_makeMap {α:Type} {Kf:α→Value} {t:TypeId} (hop:o.op=.makeMap t none) (hw:wantA all σ o=some true) (hd:dstOk E.N o.dst=true)
  (k:∀g,g∉h.keys→aw E (.ops all rest::K) (σ.setO o.dst (.c (.raw (.map (some g))))) ((g,.gen (MapI Kf []))::h)):aw E (.ops all (o::rest)::K) σ h:=by
 refine aw_new (r:=fun g=>.c (.raw (.map (some g)))) (ob:=.gen (MapI Kf [])) hw hd (fun a w s=> ?_) k
 refine⟨.map (some w.heap.size),w.alloc (.map #[] 0),?_,Fr.alloc _ _ _,by simp,⟨_,heap_alloc_new w _,_,_,rfl,rfl⟩,rfl⟩
 simp only [execOp,hop]
 rfl
theorem aw_lookup {α:Type} [DecidableEq α] {Kf:α→Value} {t kt et g:TypeId} {kv:List (α×Value)} {x ky:Operand} {ck:AV} {a:α} {z:Value} (hop:o.op=.lookup t x ky false) (hw:wantA all σ o=some true) (hd:dstOk E.N o.dst=true)
  (ht:tMap E.P t=some (kt,et)) (hK:KeyOk E.P kt Kf) (hz:tZ1 E.P et=some z) (hx:ev σ x=.c (.raw (.map (some g)))) (hg:h.get g=some (.gen (MapI Kf kv))) (hk:ev σ ky=ck) (hka:∀S w v,Rep S w ck v→v=Kf a)
  (k:aw E (.ops all rest::K) (σ.setO o.dst (.c (cstC ((kvGet a kv).getD z)))) h):aw E (.ops all (o::rest)::K) σ h:=by
 refine aw_step hw (fun ac w s=> ?_) k
 have h1:=ev_rep s x
 rw [hx] at h1
 have h1':ac.eval x=.map (some g):=h1
 have h2:=ev_rep s ky
 rw [hk] at h2
 have h2':=hka _ _ _ h2
 obtain⟨ob,hb,es,c,rfl,hes⟩:=s.heap g _ (Heap.get_mem hg)
 have hkeys:es.toList.map (·.key)=(kv.map (·.1)).map Kf:=by
  have:=congrArg (List.map Prod.fst) hes
  rw [List.map_map,List.map_map] at this
  rw [List.map_map]
  exact this
 have hfind:=hK.find a (kv.map (·.1)) es.toList w hkeys
 have hget:=fAsk_get (K:=Kf) a kv es.toList 0 hes
 refine⟨(kvGet a kv).getD z,w,.inl ?_,s.put hd (cstC_rep _ _ _)⟩
 have hlk:(Instr.lookup t (ac.eval x) (ac.eval ky) false).run E.P w=.ok ((kvGet a kv).getD z) w:=by
  rw [h1',h2']
  unfold Instr.lookup
  simp only [Sem.run_bind,run_underlying (tMap_spec ht),Result.andThen_ok,runGet hb,Sem.run_pure,hK.check,hfind]
  rw [←hget]
  cases hf:fAsk a (kv.map (·.1)) es.toList 0 with
  |none=>simp [tZ1_run hz]
  |some p=>obtain⟨i,v⟩:=p;simp
 simp only [execOp,hop,Sem.run_bind,hlk,Result.andThen_ok]
 rfl
theorem aw_mapNew {α:Type} [DecidableEq α] {Kf:α→Value} {t kt et g:TypeId} {kv:List (α×Value)} {x ky vl:Operand} {ck cv:AV} {a:α} {v:Value} (hop:o.op=.mapUpdate t x ky vl) (hdn:o.dst=none) (hw:wantA all σ o=some true)
  (ht:tMap E.P t=some (kt,et)) (hK:KeyOk E.P kt Kf) (hx:ev σ x=.c (.raw (.map (some g)))) (hg:h.get g=some (.gen (MapI Kf kv))) (hk:ev σ ky=ck) (hka:∀S w u,Rep S w ck u→u=Kf a) (hv:ev σ vl=cv) (hva:∀S w u,Rep S w cv u→u=v)
  (hnew:kvGet a kv=none) {h':Heap} (hh:h.set g (.gen (MapI Kf (kv++[(a,v)])))=h') (k:aw E (.ops all rest::K) σ h'):aw E (.ops all (o::rest)::K) σ h:=by
 subst hh
 refine aw_step hw (fun ac w s=> ?_) k
 have h1:=ev_rep s x
 rw [hx] at h1
 have h1':ac.eval x=.map (some g):=h1
 have h2:=ev_rep s ky
 rw [hk] at h2
 have h2':=hka _ _ _ h2
 have h3:=ev_rep s vl
 rw [hv] at h3
 have h3':=hva _ _ _ h3
 obtain⟨ob,hb,es,c,rfl,hes⟩:=s.heap g _ (Heap.get_mem hg)
 have hkeys:es.toList.map (·.key)=(kv.map (·.1)).map Kf:=by
  have:=congrArg (List.map Prod.fst) hes
  rw [List.map_map,List.map_map] at this
  rw [List.map_map]
  exact this
 have hfind:=hK.find a (kv.map (·.1)) es.toList w hkeys
 have hget:=fAsk_get (K:=Kf) a kv es.toList 0 hes
 have hnone:fAsk a (kv.map (·.1)) es.toList 0=none:=by
  cases hf:fAsk a (kv.map (·.1)) es.toList 0 with
  |none=>rfl
  |some p=>rw [hf,hnew] at hget;cases hget
 have hgl:g<w.heap.size:=(Array.getElem?_eq_some_iff.1 hb).1
 let w':World:={w with heap:=w.heap.setIfInBounds g (.map (es.push {key:=Kf a,val:=v,born:=c}) (c+1))}
 have hrun:(Instr.mapUpdate t (ac.eval x) (ac.eval ky) (ac.eval vl)).run E.P w=.ok () w':=by
  rw [h1',h2',h3']
  unfold Instr.mapUpdate
  simp only [Sem.run_bind,run_underlying (tMap_spec ht),Result.andThen_ok,runGet hb,hK.check,hfind,hnone,runSet _ hb]
  rfl
 refine⟨undef,w',.inr ⟨?_,rfl⟩,?_⟩
 ·simp only [execOp,hop,Sem.run_bind,hrun,Result.andThen_ok]
  rfl
 ·rw [hdn]
  have hfr:Fr (fun b=>b=g) w w':=by
   refine⟨rfl,rfl,rfl,by simp [w'],Nat.le_refl _,fun b _ hne=> ?_,fun g' m hh=> ?_⟩
   ·simp only [w'];rw [Array.getElem?_setIfInBounds_ne (fun e=>hne e.symm)]
   ·obtain⟨cs,ty,⟨fr,hc⟩,hs⟩:=hh
    refine⟨cs,ty,⟨fr,?_⟩,hs⟩
    have hne:g'≠g:=fun e=>by rw [e,hb] at hc;cases hc
    simp only [w']
    rw [Array.getElem?_setIfInBounds_ne (fun e=>hne e.symm)];exact hc
  refine s.setObj hg hfr ⟨_,by simp only [w'];rw [Array.getElem?_setIfInBounds_self_of_lt hgl],_,_,rfl,?_⟩
  simp only [Array.toList_push,List.map_append,List.map_cons,List.map_nil,hes]
end
end Go.AI
namespace Go.AI
section
variable {E : Env} {K : List It} {σ σ' : Sl} {h : Heap} {all rest : List Oper} {o : Oper}
theorem aw_eqnil {t e:TypeId} {t2:TypeId} {x:Operand} {tg:Bool} {s n:Nat} {f:Nat→CV} (hop:o.op=.binOp .eql t x (.const (.slice none 0 0)) t2) (hw:wantA all σ o=some true) (hd:dstOk E.N o.dst=true) (ht:E.P.underlying t=some (.slice e)) (hx:ev σ x=.c (.row tg s n f)) (hs:0<s)
  (k:∀b:Bool,(b=true→n=0)→aw E (.ops all rest::K) (σ.setO o.dst (.c (.bool b))) h):aw E (.ops all (o::rest)::K) σ h:=fun a w st=>by
 have h1:=ev_rep st x
 rw [hx] at h1
 obtain⟨A,c,hv,hc,hn⟩:=h1
 show wpList _ _ _ _ _ _
 unfold wpList
 rw [if_pos (st.wanted hw)]
 refine .inl ?_
 unfold Oper.wp
 have hrun:(execOp a.eval o).run E.P w=.ok (.value (.bool A.isNone)) w:=by
  have e2:a.eval (.const (.slice none 0 0))=.slice none 0 0:=rfl
  have h3:(eqGuard .eql t x (.const (.slice none 0 0)) (.slice A n c) (.slice none 0 0)).run E.P w=.ok () w:=by
   simp [eqGuard]
  have h4:(binOp .eql t (.slice A n c) (.slice none 0 0)).run E.P w=.ok (.bool A.isNone) w:=by
   unfold binOp
   simp [run_equal_slice_nil w t e A n c ht]
  simp only [execOp,hop,hv,e2,Sem.run_bind,h3,h4,Result.andThen_ok]
  rfl
 rw [hrun]
 refine k A.isNone (fun hb=> ?_) _ _ (st.put hd rfl)
 cases A with
 |none=>
  rcases Nat.eq_zero_or_pos n with h0|h0
  ·exact h0
  ·obtain⟨ad,e,_⟩:=hn (Nat.mul_pos h0 hs)
   cases e
 |some a=>cases hb
def ptrs (gs:List Nat):List Value:=gs.map fun g=>.pointer (some ⟨g,0,none⟩)
def fnC (f:FuncId) (gs:List Nat):CV:=.raw (.func (.func f) #[] (ptrs gs).toArray)
theorem aw_makeFunc {f:FuncId} {cs:List Operand} {gs:List Nat} (hop:o.op=.makeFunc (.func f) #[] cs.toArray) (hw:wantA all σ o=some true) (hd:dstOk E.N o.dst=true) (hc:cs.map (ev σ)=gs.map fun g=>.c (.optr g 0))
  (k:aw E (.ops all rest::K) (σ.setO o.dst (.c (fnC f gs))) h):aw E (.ops all (o::rest)::K) σ h:=by
 refine aw_step hw (fun a w s=> ?_) k
 have hev:∀(cs:List Operand) (gs:List Nat),cs.map (ev σ)=gs.map (fun g=>AV.c (.optr g 0))→cs.map a.eval=ptrs gs:=by
  intro cs
  induction cs with
  |nil=>intro gs hg;cases gs with
   |nil=>rfl
   |cons g gs=>cases hg
  |cons x cs ih=>intro gs hg;cases gs with
   |nil=>cases hg
   |cons g gs=>
    simp only [List.map_cons,List.cons.injEq] at hg
    have h1:=ev_rep s x
    rw [hg.1] at h1
    have h1':a.eval x=.pointer (some ⟨g,0,none⟩):=h1
    simp only [List.map_cons,ptrs]
    rw [h1',ih gs hg.2]
    rfl
 refine⟨.func (.func f) #[] (ptrs gs).toArray,w,.inl ?_,s.put hd rfl⟩
 simp only [execOp,hop,Instr.makeFunc,List.map_toArray,hev cs gs hc]
 rfl
theorem RepT.ptrs {S:Bool→Nat→Prop} {w:World}:∀{A:List AV} {vs:List Value} (gs:List Nat),RepT S w A vs→RepT S w (A++gs.map fun g=>.c (.optr g 0)) (vs++AI.ptrs gs)
 |[],[],gs,_=>by
  induction gs with
  |nil=>trivial
  |cons g gs ih=>exact⟨rfl,ih⟩
 |_::_,_::_,gs,h=>⟨h.1,RepT.ptrs gs h.2⟩
 |[],_::_,_,h=>h.elim
 |_::_,[],_,h=>h.elim
theorem aw_callhv {f:FuncId} {x:Operand} {gs:List Nat} {xs:List Operand} {ts:Array TypeId} {hc hr:Heap} {args:List AV} {Q:AV→Heap→Prop} (hf:Fh E.P f hc (args++gs.map fun g=>.c (.optr g 0)) Q) (hop:o.op=.call {callee:=.value x,args:=xs.toArray,argTypes:=ts}) (hw:wantA all σ o=some true) (hd:dstOk E.N o.dst=true) (hx:ev σ x=.c (fnC f gs))
  (hp:h.Perm (hc++hr)) (le:LeA [] (xs.map (ev σ)) args) (k:∀r h',Q r h'→(∀g∈h'.keys,g∉hr.keys)→aw E (.ops all rest::K) (σ.setO o.dst r) (h'++hr)):aw E (.ops all (o::rest)::K) σ h:=fun a w s=>by
 show wpList _ _ _ _ _ _
 unfold wpList
 rw [if_pos (s.wanted hw)]
 refine .inl ?_
 unfold Oper.wp
 have hv:a.eval x=.func (.func f) #[] (ptrs gs).toArray:=by
  have:=ev_rep s x
  rw [hx] at this
  exact this
 have hrun:(execOp a.eval o).run E.P w=.ok (.enter f (xs.map a.eval++ptrs gs).toArray) w:=by
  simp only [execOp,hop,resolve,hv,Deferred.ofValue,invoke,Sem.run_bind]
  have:=hf.1.run (#[]++(Array.map a.eval xs.toArray)++(ptrs gs).toArray) w
  simp only [Sem.run_pure,Result.andThen_ok]
  rw [show((xs.map a.eval++ptrs gs).toArray)=(#[]++(Array.map a.eval xs.toArray)++(ptrs gs).toArray) from by simp]
  exact this
 rw [hrun]
 show Calls _ _ _ _ _
 refine(hf.use s hp (RepT.ptrs gs (LeA.rep0 s le))).mono ?_
 rintro e w' ⟨v,r,h',rfl,hq,hfr,s',hrep⟩
 exact k r h' hq hfr _ _ (s'.put hd hrep)
theorem aw_callqv {f:FuncId} {x:Operand} {xs:List Operand} {ts:Array TypeId} {args:List AV} {r:AV} (hf:Fa E.P f args r) (hop:o.op=.call {callee:=.value x,args:=xs.toArray,argTypes:=ts}) (hw:wantA all σ o=some true) (hd:dstOk E.N o.dst=true) (hx:ev σ x=.c (.raw (.func (.func f) #[] #[])))
  (le:LeA h (xs.map (ev σ)) args) (k:aw E (.ops all rest::K) (σ.setO o.dst r) h):aw E (.ops all (o::rest)::K) σ h:=fun a w s=>by
 show wpList _ _ _ _ _ _
 unfold wpList
 rw [if_pos (s.wanted hw)]
 refine .inl ?_
 unfold Oper.wp
 have hv:a.eval x=.func (.func f) #[] #[]:=by
  have:=ev_rep s x
  rw [hx] at this
  exact this
 have hrun:(execOp a.eval o).run E.P w=.ok (.enter f (xs.map a.eval).toArray) w:=by
  simp only [execOp,hop,resolve,hv,Deferred.ofValue,invoke,Sem.run_bind]
  have:=hf.1.run (#[]++(Array.map a.eval xs.toArray)++ #[]) w
  simp only [Sem.run_pure,Result.andThen_ok]
  rw [show((xs.map a.eval).toArray)=(#[]++(Array.map a.eval xs.toArray)++ #[]) from by simp]
  exact this
 rw [hrun]
 show Calls _ _ _ _ _
 refine(hf.use s le).mono ?_
 rintro e w' ⟨v,rfl,hr,hfr⟩
 exact k _ _ ((s.later hfr).put hd hr)
end
end Go.AI
namespace Go.PN
open Go.AI
theorem first_bad:∀p:List RD,p.all RD.prob=true∨∃i:Nat,i<p.length∧(p.getD i rd0).prob=false∧∀j,j<i→(p.getD j rd0).prob=true
 |[]=>.inl rfl
 |x::p=>by
  cases hx:x.prob with
  |false=>exact .inr ⟨0,by simp,by simpa using hx,by omega⟩
  |true=>
   rcases first_bad p with h|⟨i,h1,h2,h3⟩
   ·exact .inl (by simp [hx] at h⊢;exact h)
   ·refine .inr ⟨i+1,by simp;omega,by simpa using h2,fun j hj=> ?_⟩
    cases j with
    |zero=>simpa using hx
    |succ j=>simpa using h3 j om
theorem ratsF_solid (p:List RD) (j:Nat) (hj:j<p.length*3):(ratsF p j).solid=true:=by
 obtain⟨i,k,hk,rfl⟩:∃i k,k<3∧j=i*3+k:=⟨j/3,j%3,Nat.mod_lt _ om,by omega⟩
 unfold ratsF
 rw [lf_at hk]
 match k,hk with
 |0,_=>rfl
 |1,_=>rfl
 |2,_=>rfl
end Go.PN
namespace Go.Proofs.YtefekdejgbceiaaGreat
open Go.AI Go.PN
attribute [local irreducible] aw Fa Fh DrK
theorem check1_fa (r:RD) (hw:r.wf 500000000):Fa Tryz.prog 84 [.agg (rdc r)] (.c (.bool (!r.prob))):=by
 refine fa_of_body Tryz.func84 rfl rfl (by simp [Tryz.ntmps84]) fun C hC=> ?_
 simp only [initS,Nat.reduceAdd]
 refine xG ?_
 refine xB fun g1 hn_g1=>?_
 refine yG hn_g1 ?_
 refine yC hn_g1 (rprob_fa r (wf_mono hw ?_)) ?_
 ·omega
 refine yGT hC hn_g1 ?_
 exact .one (.c (.bool _))
theorem indexFunc_fa (p:List RD) (hw:∀r∈p,r.wf 500000000) (hl:p.length≤1099511627776):∃z:Int,(decide (z≥0)= !(p.all RD.prob))∧Fa Tryz.prog 122 [.c (rats false p),.c (.raw (.func (.func 84) #[] #[]))] (.c (.int .i64 z)):=by
 have hz:∃z:Int,(z= -1∧p.all RD.prob=true)∨∃i:Nat,z=i∧i<p.length∧(p.getD i rd0).prob=false∧∀j,j<i→(p.getD j rd0).prob=true:=by
  rcases first_bad p with h|⟨i,h⟩
  ·exact⟨-1,.inl ⟨rfl,h⟩⟩
  ·exact⟨i,.inr ⟨i,rfl,h⟩⟩
 obtain⟨z,hz⟩:=hz
 refine⟨z,?_,?_⟩
 ·rcases hz with ⟨rfl,ha⟩|⟨k,rfl,hk,hk1,hk2⟩
  ·rw [ha];rfl
  ·rw [decide_eq_true om]
   cases ha:p.all RD.prob with
   |false=>rfl
   |true=>
    have:=List.all_eq_true.1 ha (p.getD k rd0) (by rw [List.getD_eq_getElem?_getD,List.getElem?_eq_getElem hk];exact List.getElem_mem hk)
    rw [this] at hk1;cases hk1
 refine fa_of_body Tryz.func122 rfl rfl (by simp [Tryz.ntmps122]) fun C hC=> ?_
 simp only [initS,Nat.reduceAdd]
 refine xG ?_
 refine aw_lp (fun x:Nat=>[(0,.c (rats false p)),(1,.c (.raw (.func (.func 84) #[] #[]))),(7,.c (.int .i64 p.length)),(8,.c (.int .i64 x))]) (fun x=>[]) (fun x=>x≤p.length∧∀j,j<x→(p.getD j rd0).prob=true) (fun x=>p.length-x) 0 eB zZ ⟨Nat.zero_le _,by omega⟩ ?_
 rintro i ⟨hi,hs⟩
 refine xG ?_
 refine xF (fun h1=>?_) fun h1=>?_
 ·have h1':i<p.length:=dT h1
  refine xG ?_
  refine aw_callqv (check1_fa (p.getD i rd0) (getD_wf hw i)) rfl rfl rfl eE eL ?_
  refine xSG ?_
  refine xF (fun h2=>?_) fun h2=>?_
  ·have h2':(p.getD i rd0).prob=false:=by simpa using h2
   refine xGT hC ?_
   refine .one (.c (ler_int ?_))
   rcases hz with ⟨_,ha⟩|⟨k,rfl,hk,hk1,hk2⟩
   ·have:=List.all_eq_true.1 ha (p.getD i rd0) (by rw [List.getD_eq_getElem?_getD,List.getElem?_eq_getElem h1'];exact List.getElem_mem h1')
    rw [this] at h2';cases h2'
   ·rcases Nat.lt_trichotomy k i with h|h|h
    ·rw [hs k h] at hk1;cases hk1
    ·rw [h]
    ·rw [hk2 i h] at h2';cases h2'
  ·have h2':(p.getD i rd0).prob=true:=by simpa using h2
   refine xG ?_
   refine aw_stop ⟨i+1,by omega,eB,zZ,by omega,fun j hj=> ?_⟩
   rcases Nat.lt_succ_iff_lt_or_eq.1 hj with h|h
   ·exact hs j h
   ·rw [h,h2']
 ·have h1':i=p.length:=dF h1
  subst h1'
  refine xGT hC ?_
  refine .one (.c (ler_int ?_))
  rcases hz with ⟨rfl,ha⟩|⟨k,rfl,hk,hk1,hk2⟩
  ·rfl
  ·rw [hs k hk] at hk1;cases hk1
theorem containsFunc_fa (p:List RD) (hw:∀r∈p,r.wf 500000000) (hl:p.length≤1099511627776):Fa Tryz.prog 83 [.c (rats false p),.c (.raw (.func (.func 84) #[] #[]))] (.c (.bool (!(p.all RD.prob)))):=by
 obtain⟨z,hz,hf⟩:=indexFunc_fa p hw hl
 refine fa_of_body Tryz.func83 rfl rfl (by simp [Tryz.ntmps83]) fun C hC=> ?_
 simp only [initS,Nat.reduceAdd]
 refine xG ?_
 refine xC (hf) ?_
 refine xGT hC ?_
 exact .one (.c (ler_bool hz))
theorem scheck_fa (p:List RD) (vars:Int) (hw:∀r∈p,r.wf 500000000) (hl:p.length≤1099511627776):Fa Tryz.prog 40 [.c (rats false p),.c (.int .i64 vars)] (.c (errA (pcode p vars))):=by
 unfold pcode
 refine fa_of_body Tryz.func40 rfl rfl (by simp [Tryz.ntmps40]) fun C hC=> ?_
 simp only [initS,Nat.reduceAdd]
 refine xG ?_
 refine xF (fun hb=>?_) fun hb=>?_
 ·have hb':(p.length:Int)≠vars:=by simpa using hb
  refine xGT hC ?_
  rw [if_pos hb']
  exact .one (.c (ler_errN rfl om))
 ·have hb':(p.length:Int)=vars:=by simpa using hb
  rw [if_neg om]
  refine xG ?_
  refine xC (containsFunc_fa p hw hl) ?_
  refine xG ?_
  refine xF (fun h1=>?_) fun h1=>?_
  ·have h1':¬p.all RD.prob=true:=by simpa using h1
   refine xGT hC ?_
   rw [if_neg h1']
   exact .one (.c (ler_errN rfl om))
  ·have h1':p.all RD.prob=true:=by simpa using h1
   refine xGT hC ?_
   rw [if_pos h1']
   exact .one (.c (ler_err0 rfl))
theorem clone_fh (p:List RD) (hl:p.length≤1000000):Fh Tryz.prog 119 [] [.c (rats false p)] (fun r h=>∃og,(og=none→p.length=0)∧r=.c (gs og 3 p.length)∧h=gh og 41 (p.length*3) (ratsF p)):=by
 refine fh_of_body Tryz.func119 rfl rfl (by simp [Tryz.ntmps119]) fun C hC=> ?_
 simp only [initS,Nat.reduceAdd]
 refine xG ?_
 refine aw_eqnil (e:=41) rfl rfl rfl (by kernel_rfl) eE om fun b hb=> ?_
 refine xSG ?_
 refine xF (fun h1=>?_) fun h1=>?_
 ·have h0:=hb h1
  refine xGU ?_
  exact⟨none,fun _=>h0,rfl,rfl⟩
 ·refine xG ?_
  refine aw_buildSlice (xs:=[]) (cells:=[]) rfl rfl rfl eE (by refine xS ?_;rfl) rfl om om (by simp) rfl fun g hg=> ?_
  refine aw_conv1 (f':=ratsF []) (fun j hj=>absurd hj om) ?_
  refine xSG ?_
  rcases Nat.eq_zero_or_pos p.length with h0|h0
  ·have hp:p=[]:=List.length_eq_zero_iff.1 h0
   subst hp
   refine aw_append0 rfl rfl rfl eE eE rfl eE .row rfl ?_
   refine xSGU ?_
   exact⟨some g,fun _=>trivial,rfl,rfl⟩
  ·refine aw_append (size:=3) (z:=[.bool false,.nils,.nils]) rfl rfl rfl eE eE rfl om eE eE om eE .row (fun j hj=>ratsF_solid p j hj) h0 (by unfold maxLen;omega) om eE fun g' hg'=> ?_
   refine xSGU ?_
   have hf:appF (ratsF []) 0 (ratsF p)=ratsF p:=by funext j;simp [appF]
   rw [hf]
   exact⟨some g',(fun e=>by cases e),rfl,rfl⟩
end Go.Proofs.YtefekdejgbceiaaGreat
namespace Go.PN
open Go.AI
def ncodeA (d:DG) (i:Nat):Int:=
 if nrange d i (d.nodes.getD i dn0) then 10 else if(d.nodes.getD i dn0).lo=(d.nodes.getD i dn0).hi then 2
 else if !(behindB d (d.nodes.getD i dn0).lo (d.nodes.getD i dn0).v)|| !(behindB d (d.nodes.getD i dn0).hi (d.nodes.getD i dn0).v) then 13 else 0
theorem ncode_A (d:DG) (i:Nat):ncode d i=if ncodeA d i≠0 then ncodeA d i else if d.nodes.getD i dn0∈d.nodes.take i then 6 else 0:=by
 unfold ncode ncodeA
 split
 ·simp
 ·split
  ·simp
  ·split
   ·simp
   ·simp
theorem place_nat {o:List Int} {v:Int} (h0:0≤v) (h1:v<o.length):(placesL o).getD v.toNat 0=placeZ o v:=by
 rw [placesL_get om]
 congr 1
 omega
end Go.PN
namespace Go.Proofs.YtefekdejgbceiaaGreat
open Go.AI Go.PN
attribute [local irreducible] aw Fa Fh DrK
theorem checkNode_fa (d:DG) (i:Nat) (hi:i<d.nodes.length) (hl:d.order.length≤24) (hl2:d.nodes.length≤4096) (hb4:∀j,j<i→NodeOk d.order.length j (d.nodes.getD j dn0)):Fa Tryz.prog 117 [.agg (dgc false d),.c (is false (placesL d.order)),.c (.int .i64 i)] (.c (errA (ncodeA d i))):=by
 have n10:nrange d i (d.nodes.getD i dn0)→ncodeA d i=10:=fun h=>by unfold ncodeA;rw [if_pos h]
 have hpl:=placesL_len d.order
 refine fa_of_body Tryz.func117 rfl rfl (by simp [Tryz.ntmps117]) fun C hC=> ?_
 simp only [initS,Nat.reduceAdd]
 refine xG ?_
 refine xB fun g3 hn_g3=>?_
 refine yG hn_g3 ?_
 refine yA hn_g3 fun g7 hn_g7=>?_
 have J1:=oj hn_g3 hn_g7
 refine yGWS J1 ?_
 generalize hx:d.nodes.getD i dn0=x at n10
 refine yG J1 ?_
 refine aw_split 19 (zE J1) (fun a1=> ?_) (fun a1=> ?_)<;>refine yS J1 ?_
 ·refine yGPGT hC J1 ?_
  rw [n10 (.inl (of_decide_eq_true a1))]
  exact .one (.c (ler_errN rfl om))
 refine yG J1 ?_
 refine aw_split 27 (zE J1) (fun a2=> ?_) (fun a2=> ?_)<;>refine yS J1 ?_
 ·refine yGPGT hC J1 ?_
  rw [n10 (.inr (.inl (of_decide_eq_true a2)))]
  exact .one (.c (ler_errN rfl om))
 refine yG J1 ?_
 refine aw_split 35 (zE J1) (fun a3=> ?_) (fun a3=> ?_)<;>refine yS J1 ?_
 ·refine yGPGT hC J1 ?_
  rw [n10 (by have:=of_decide_eq_true a3;unfold nrange;split at this<;>omega)]
  exact .one (.c (ler_errN rfl om))
 refine yG J1 ?_
 refine yF J1 (fun a4=>?_) fun a4=>?_
 ·refine yGT hC J1 ?_
  rw [n10 (by have:=of_decide_eq_true a4;unfold nrange;split at this<;>omega)]
  exact .one (.c (ler_errN rfl om))
 have hnr:¬nrange d i x:=by
  unfold nrange
  have b1:=of_decide_eq_false a1
  have b2:=of_decide_eq_false a2
  have b3:=of_decide_eq_false a3
  have b4:=of_decide_eq_false a4
  split at b3<;>split at b4<;>omega
 clear a1 a2 a3 a4 n10 J1
 have hno:=nok_of (d:=d) (i:=i) (by rw [hx];exact hnr)
 rw [hx] at hno
 obtain⟨v0,v1,l0,l1,h0,h1⟩:=hno
 have hcode:ncodeA d i=if x.lo=x.hi then 2 else if !(behindB d x.lo x.v)|| !(behindB d x.hi x.v) then 13 else 0:=by
  unfold ncodeA;rw [hx,if_neg hnr]
 rw [hcode]
 clear hcode
 have J2:=oj hn_g3 hn_g7
 refine yG J2 ?_
 refine yF J2 (fun c1=>?_) fun c1=>?_
 ·have c1':=eq_of_beq c1
  refine yGT hC J2 ?_
  rw [if_pos c1']
  exact .one (.c (ler_errN rfl om))
 have c1':¬x.lo=x.hi:=fun e=>by rw [e] at c1;simp at c1
 rw [if_neg c1']
 refine yG J2 ?_
 refine aw_buildSlice (xs:=[.tmp 54,.tmp 56]) (cells:=[.int .i64 x.lo,.int .i64 x.hi]) rfl rfl rfl (zE J2) (by refine yS J2 ?_;rfl) rfl om om (by intro x hx;simp only [List.mem_cons,List.not_mem_nil,or_false] at hx;rcases hx with rfl|rfl<;>exact⟨rfl,rfl,rfl⟩) (zE J2) fun g hg=> ?_
 replace hg:=Heap.ne_of hg
 dsimp only [Heap.ne] at hg
 refine aw_conv1 (f':=isF [x.lo,x.hi]) (fun j hj=> ?_) ?_
 ·match j,hj with
  |0,_=>rfl
  |1,_=>rfl
 have J3:=oj hn_g3 (oj hn_g7 hg)
 refine ySG J3 ?_
 refine aw_lp (fun k:Nat=>[(1,.c (is false (placesL d.order))),(3,.c (.optr g3 0)),(7,.c (.optr g7 0)),(57,.c (.osl g 1 0 2)),(58,.c (.int .i64 2)),(59,.c (.int .i64 k))]) (fun k=>[(g,.cells 3 2 (isF [x.lo,x.hi])),(g7,.cells 119 3 (ofL (dnc x))),(g3,.cells 31 3 (ofL (dgc false d)))]) (fun k=>k≤2∧∀j,j<k→behindB d ([x.lo,x.hi].getD j 0) x.v=true) (fun k=>2-k) 0 (zB J3) zZ ⟨Nat.zero_le _,by omega⟩ ?_
 rintro k ⟨hk,hs⟩
 refine yG J3 ?_
 refine yF J3 (fun hb=>?_) fun hb=>?_
 ·have hin:k<2:=dT hb
  obtain⟨r0,r1⟩:0≤[x.lo,x.hi].getD k 0∧[x.lo,x.hi].getD k 0<(i:Int)+2:=by
   match k,hin with
   |0,_=>exact⟨l0,l1⟩
   |1,_=>exact⟨h0,h1⟩
  have hbad:behindB d ([x.lo,x.hi].getD k 0) x.v=false→(!(behindB d x.lo x.v)|| !(behindB d x.hi x.v))=true:=by
   match k,hin with
   |0,_=>intro h;show(!(behindB d x.lo x.v)||_)=true;rw [show behindB d x.lo x.v=false from h];rfl
   |1,_=>intro h;rw [show behindB d x.hi x.v=false from h];simp
  refine yG J3 ?_
  generalize hr:[x.lo,x.hi].getD k 0=r at r0 r1 hbad
  have pv:=place_nat (o:=d.order) v0 om
  refine aw_dr 20 ty_mixed (by kernel_rfl) ?_
  refine yG J3 ?_
  refine drk_split 65 (zE J3) (fun h2=> ?_) (fun h2=> ?_)<;>refine yS J3 ?_
  ·have h2':=of_decide_eq_true h2
   obtain⟨w0,w1,_,_,_,_⟩:=hb4 (r-2).toNat om
   have pw:=place_nat (o:=d.order) w0 om
   have hbe:behindB d r x.v=decide (placeZ d.order (d.nodes.getD (r-2).toNat dn0).v>placeZ d.order x.v):=by
    unfold behindB
    rw [decide_eq_false om,Bool.false_or]
   have J4:=oj hn_g3 (oj hn_g7 (oj hg (oj pv pw)))
   refine yG J4 ?_
   refine yF J4 (fun h3=>?_) fun h3=>?_
   ·have h3':=of_decide_eq_true h3
    refine yGT hC J4 ?_
    rw [if_pos (hbad (by rw [hbe];exact decide_eq_false om))]
    exact .one (.c (ler_errN rfl om))
   ·have h3':=of_decide_eq_false h3
    refine yG J4 ?_
    refine aw_stop ⟨k+1,by omega,(zB J4),zZ,by omega,fun j hj=> ?_⟩
    rcases Nat.lt_succ_iff_lt_or_eq.1 hj with h|h
    ·exact hs j h
    ·rw [h,hr,hbe];exact decide_eq_true om
  ·have h2':=of_decide_eq_false h2
   refine yGNG J3 ?_
   refine aw_stop ⟨k+1,by omega,(zB J3),zZ,by omega,fun j hj=> ?_⟩
   rcases Nat.lt_succ_iff_lt_or_eq.1 hj with h|h
   ·exact hs j h
   ·rw [h,hr];unfold behindB;rw [decide_eq_true om,Bool.true_or]
 ·have hin:k=2:=dF hb
  subst hin
  have e1:behindB d x.lo x.v=true:=hs 0 om
  have e2:behindB d x.hi x.v=true:=hs 1 om
  refine yGT hC J3 ?_
  rw [e1,e2]
  exact .one (.c (ler_err0 rfl))
end Go.Proofs.YtefekdejgbceiaaGreat
namespace Go.PN
open Go.AI
def okB (b:List Int):Bool:=decide (b=numsL b.length)
theorem numsL_succ (n:Nat):numsL (n+1)=numsL n++[(n:Int)+2]:=by simp [numsL,List.range_succ]
theorem okB_push (b:List Int) (r:Int):okB (b++[r])=(okB b&&decide (r-2=b.length)):=by
 unfold okB
 rw [Bool.eq_iff_iff]
 simp only [Bool.and_eq_true,decide_eq_true_eq,List.length_append,List.length_cons,List.length_nil,Nat.zero_add]
 rw [numsL_succ]
 constructor
 ·intro h
  have:=List.append_inj h (by rw [numsL_len])
  refine⟨this.1,?_⟩
  have h2:=this.2
  simp only [List.cons.injEq,and_true] at h2
  omega
 ·rintro ⟨h1,h2⟩
  rw [←h1,show r=(b.length:Int)+2 from by omega]
theorem nd6 {a b c d e f:Nat} (h:[a,b,c,d,e,f].Nodup):((a=b)=False∧(b=a)=False)∧((a=c)=False∧(c=a)=False)∧((a=d)=False∧(d=a)=False)∧((a=e)=False∧(e=a)=False)∧((a=f)=False∧(f=a)=False)∧((b=c)=False∧(c=b)=False)∧((b=d)=False∧(d=b)=False)∧((b=e)=False∧(e=b)=False)∧((b=f)=False∧(f=b)=False)∧((c=d)=False∧(d=c)=False)∧((c=e)=False∧(e=c)=False)∧((c=f)=False∧(f=c)=False)∧((d=e)=False∧(e=d)=False)∧((d=f)=False∧(f=d)=False)∧((e=f)=False∧(f=e)=False):=by
 simp only [List.nodup_cons,List.mem_cons,List.not_mem_nil,or_false,not_or] at h
 obtain⟨⟨h1,h2,h3,h4,h5⟩,⟨h6,h7,h8,h9⟩,⟨h10,h11,h12⟩,⟨h13,h14⟩,h15,_⟩:=h
 simp only [eq_false h1,eq_false h2,eq_false h3,eq_false h4,eq_false h5,eq_false h6,eq_false h7,eq_false h8,eq_false h9,eq_false h10,eq_false h11,eq_false h12,eq_false h13,eq_false h14,eq_false h15,eq_false (Ne.symm h1),eq_false (Ne.symm h2),eq_false (Ne.symm h3),eq_false (Ne.symm h4),eq_false (Ne.symm h5),eq_false (Ne.symm h6),eq_false (Ne.symm h7),eq_false (Ne.symm h8),eq_false (Ne.symm h9),eq_false (Ne.symm h10),eq_false (Ne.symm h11),eq_false (Ne.symm h12),eq_false (Ne.symm h13),eq_false (Ne.symm h14),eq_false (Ne.symm h15),and_self]
theorem mem_numF {m:Nat} {ns:List DN} (hn:NsOk m ns) {k:Nat} {r x:Int} {b:List Int} (hr:r<ns.length+2) (h1:b.Nodup) (h2:∀x∈b,2≤x∧x<ns.length+2) (hx:r<x):decide (x∈numF ns k r b)=decide (x∈b):=by
 rw [decide_eq_decide]
 constructor
 ·intro h
  rcases(numF_bd hn k r b hr h1 h2).2.2 x h with h|h
  ·exact h
  ·omega
 ·exact numF_mono k r b x
theorem getDset {l:List Bool} {i j:Nat} {v:Bool} (h:i≠j):(l.set i v).getD j false=l.getD j false:=by
 rw [List.getD_eq_getElem?_getD,List.getElem?_set_ne h,←List.getD_eq_getElem?_getD]
theorem getDset' {l:List Bool} {i:Nat} {v:Bool} (h:i<l.length):(l.set i v).getD i false=v:=by
 rw [List.getD_eq_getElem?_getD,List.getElem?_set_self h];rfl
end Go.PN
namespace Go.Proofs.YtefekdejgbceiaaGreat
open Go.AI Go.PN
attribute [local irreducible] aw Fa Fh DrK
@[go_sem] theorem ty_s_fn:tSz Tryz.prog 117=some (false,1):=by kernel_rfl
@[go_sem] theorem ty_z_fn:tZero Tryz.prog 117=some [.raw .nilFunc]:=by kernel_rfl
abbrev nh (d:DG) (gs gf gd gk gn gb:Nat) (seen:List Bool) (b:List Int):Heap:=
 [(gs,.cells 107 1 (ofL [.osl gb 1 0 d.nodes.length])),(gf,.cells 117 1 (ofL [fnC 152 [gs,gf,gd,gk,gn]])),(gd,.cells 31 3 (ofL (dgc false d))),(gk,.cells 4 1 (ofL [.bool (okB b)])),(gn,.cells 3 1 (ofL [.int .i64 (b.length:Int)])),(gb,.cells 4 d.nodes.length (bsF seen))]
theorem numbered1_fh (d:DG) (hns:NsOk d.order.length d.nodes) (hnl:d.nodes.length≤1000000) (gs gf gd gk gn gb:Nat):∀(k:Nat) (r:Int) (b:List Int) (seen:List Bool),r.toNat≤k→0≤r→r<d.nodes.length+2→b.Nodup→(∀x∈b,2≤x∧x<d.nodes.length+2)→seen.length=d.nodes.length→
  (∀x:Int,2≤x→x≤r→seen.getD (x-2).toNat false=decide (x∈b))→
  Fh Tryz.prog 152 (nh d gs gf gd gk gn gb seen b) ([.c (.int .i64 r)]++[gs,gf,gd,gk,gn].map fun g=>.c (.optr g 0))
   (fun res h=>res=.tup []∧∃seen',h=nh d gs gf gd gk gn gb seen' (numF d.nodes k r b)∧seen'.length=d.nodes.length∧(∀x:Int,2≤x→x≤r→seen'.getD (x-2).toNat false=decide (x∈numF d.nodes k r b))∧(∀x:Int,r<x→seen'.getD (x-2).toNat false=seen.getD (x-2).toNat false)):=by
 intro k
 induction k with
 |zero=>
  intro r b seen hk h0 hr hbn hbr hsl hsb
  have hr0:r=0:=by omega
  subst hr0
  simp only [List.cons_append,List.nil_append,List.map_cons,List.map_nil]
  refine fh_of_body Tryz.func152 rfl rfl (by simp [Tryz.ntmps152]) fun C hC=> ?_
  simp only [initS,Nat.reduceAdd]
  refine xG ?_
  refine aw_split 9 eE (fun hb=> ?_) (fun hb=> ?_)<;>refine xS ?_
  ·refine xG ?_
   refine xP ?_
   refine xGU ?_
   exact⟨rfl,seen,rfl,hsl,fun x _ _=>by omega,fun _ _=>rfl⟩
  ·exact absurd hb (by decide)
 |succ k ih=>
  intro r b seen hk h0 hr hbn hbr hsl hsb
  simp only [List.cons_append,List.nil_append,List.map_cons,List.map_nil]
  refine fh_of_body Tryz.func152 rfl rfl (by simp [Tryz.ntmps152]) fun C hC=> ?_
  simp only [initS,Nat.reduceAdd]
  refine xG ?_
  refine aw_split 9 eE (fun hb=> ?_) (fun hb=> ?_)<;>refine xS ?_
  ·have hb':=of_decide_eq_true hb
   refine xG ?_
   refine xP ?_
   refine xGU ?_
   rw [numF,if_pos (.inl hb')]
   exact⟨rfl,seen,rfl,hsl,fun x _ _=>by omega,fun _ _=>rfl⟩
  ·have hb':=of_decide_eq_false hb
   refine aw_nd fun hnd=> ?_
   replace hnd:=nd6 hnd
   dsimp only at hnd
   have hsr:=hsb r om om
   have J1:=oj hnd hsr
   refine yG J1 ?_
   refine yF J1 (fun hm=>?_) fun hm=>?_
   ·have hm':=of_decide_eq_true hm
    refine yG J1 ?_
    refine yU J1 ?_
    rw [numF,if_pos (.inr hm')]
    exact⟨rfl,seen,rfl,hsl,hsb,fun _ _=>rfl⟩
   ·have hm':=of_decide_eq_false hm
    have hc:¬(r<2∨r∈b):=by rintro (h|h);exact hb' h;exact hm' h
    obtain⟨v0,v1,l0,l1,q0,q1⟩:=hns (r-2).toNat om
    obtain⟨a1,a2,a3⟩:=numF_bd hns k (d.nodes.getD (r-2).toNat dn0).lo b om hbn hbr
    obtain⟨b1,b2,b3⟩:=numF_bd hns k (d.nodes.getD (r-2).toNat dn0).hi _ om a1 a2
    have hnc:=nodup_range b1 b2
    refine yGWS J1 ?_
    rw [updF_bs om]
    refine yG J1 ?_
    refine aw_drB 8 ty_mixed (by kernel_rfl) ?_
    repeat first|(refine drb_2q true rfl (fun R hR=> ?_);simp only [go_sem,hnd,hsr];(with_reducible refine hR _ _ ?_ ?_);(focus (((try simp only [inRange])<;>and_intros<;>first|exact True.intro|omega|trivial);done));clear hR R)|fail
    refine drb_nil fun γ=> ?_
    have J2:=oj hnd hsr
    refine yS J2 ?_
    generalize hx:d.nodes.getD (r-2).toNat dn0=x at*
    have hs1:∀z:Int,2≤z→z<r→(seen.set (r-2).toNat true).getD (z-2).toNat false=decide (z∈b):=fun z z1 z2=>by
     rw [getDset om];exact hsb z z1 om
    have hs1r:(seen.set (r-2).toNat true).getD (r-2).toNat false=true:=getDset' om
    have hs1o:∀z:Int,r<z→(seen.set (r-2).toNat true).getD (z-2).toNat false=seen.getD (z-2).toNat false:=fun z z1=>getDset om
    have hs1l:(seen.set (r-2).toNat true).length=d.nodes.length:=by rw [List.length_set];exact hsl
    generalize seen.set (r-2).toNat true=seen1 at hs1 hs1r hs1o hs1l
    refine aw_callhv (hr:=[]) (ih x.lo b seen1 om l0 om hbn hbr hs1l (fun z z1 z2=>hs1 z z1 om)) rfl rfl rfl (zE J2) (by rw [List.append_nil]) (zL J2) ?_
    rintro _ _ ⟨rfl,seen2,rfl,hs2l,hs2,hs2o⟩ _
    have hs2':∀z:Int,2≤z→z<r→seen2.getD (z-2).toNat false=decide (z∈numF d.nodes k x.lo b):=fun z z1 z2=>by
     by_cases hz:z≤x.lo
     ·exact hs2 z z1 hz
     ·rw [hs2o z om,hs1 z z1 z2,mem_numF hns om hbn hbr om]
    have hs2r:seen2.getD (r-2).toNat false=true:=by rw [hs2o r om,hs1r]
    have hs2q:∀z:Int,r<z→seen2.getD (z-2).toNat false=seen.getD (z-2).toNat false:=fun z hz=>by rw [hs2o z om,hs1o z hz]
    rw [List.append_nil]
    refine ySG J2 ?_
    refine aw_drB 8 ty_mixed (by kernel_rfl) ?_
    repeat first|(refine drb_2q true rfl (fun R hR=> ?_);simp only [go_sem,hnd,hsr];(with_reducible refine hR _ _ ?_ ?_);(focus (((try simp only [inRange])<;>and_intros<;>first|exact True.intro|omega|trivial);done));clear hR R)|fail
    refine drb_nil fun γ=> ?_
    have J3:=oj hnd hsr
    refine yS J3 ?_
    rw [hx]
    refine aw_callhv (hr:=[]) (ih x.hi _ seen2 om q0 om a1 a2 hs2l (fun z z1 z2=>hs2' z z1 om)) rfl rfl rfl (zE J3) (by rw [List.append_nil]) (zL J3) ?_
    rintro _ _ ⟨rfl,seen3,rfl,hs3l,hs3,hs3o⟩ _
    have hs3':∀z:Int,2≤z→z<r→seen3.getD (z-2).toNat false=decide (z∈numF d.nodes k x.hi (numF d.nodes k x.lo b)):=fun z z1 z2=>by
     by_cases hz:z≤x.hi
     ·exact hs3 z z1 hz
     ·rw [hs3o z om,hs2' z z1 z2,mem_numF hns om a1 a2 om]
    have hs3r:seen3.getD (r-2).toNat false=true:=by rw [hs3o r om,hs2r]
    have hs3q:∀z:Int,r<z→seen3.getD (z-2).toNat false=seen.getD (z-2).toNat false:=fun z hz=>by rw [hs3o z om,hs2q z hz]
    have hnum:numF d.nodes (k+1) r b=numF d.nodes k x.hi (numF d.nodes k x.lo b)++[r]:=by rw [numF,if_neg hc,hx]
    generalize numF d.nodes k x.hi (numF d.nodes k x.lo b)=bb at*
    rw [List.append_nil]
    refine ySG J3 ?_
    have hokp:=okB_push bb r
    have hbl:(((bb++[r]).length:Nat):Int)=(bb.length:Int)+1:=by simp
    have hs3e:∀z:Int,2≤z→z≤r→seen3.getD (z-2).toNat false=decide (z∈bb++[r]):=fun z z1 z2=>by
     by_cases hz:z=r
     ·subst hz;rw [hs3r];simp
     ·rw [hs3' z z1 om];simp [hz]
    refine aw_split 39 (zE J3) (fun ho=> ?_) (fun ho=> ?_)<;>refine yS J3 ?_
    ·rw [ho,Bool.true_and] at hokp
     refine yGWSG J3 ?_
     refine yW J3 ?_
     refine ySG J3 ?_
     refine yV J3 ?_
     rw [hnum]
     exact⟨rfl,seen3,by rw [nh,hokp,hbl];rfl,hs3l,hs3e,hs3q⟩
    ·rw [ho,Bool.false_and] at hokp
     refine yGWSG J3 ?_
     refine yW J3 ?_
     refine ySG J3 ?_
     refine yV J3 ?_
     rw [hnum]
     exact⟨rfl,seen3,by rw [nh,hokp,hbl],hs3l,hs3e,hs3q⟩
end Go.Proofs.YtefekdejgbceiaaGreat
namespace Go.PN
open Go.AI
theorem perm6 {α:Type} (a b c d e f:α):[a,b,c,d,e,f].Perm [b,a,f,d,e,c]:=by
 refine(List.Perm.swap _ _ _).trans (.cons _ (.cons _ ?_))
 refine(List.perm_append_comm (l₁:=[c]) (l₂:=[d,e,f])).trans ?_
 exact List.perm_middle (l₁:=[d,e]) (a:=f) (l₂:=[c])
theorem okB_end (b:List Int) (n:Nat):(okB b&&((b.length:Int)==(n:Int)))=decide (b=numsL n):=by
 unfold okB
 rw [Bool.eq_iff_iff]
 simp only [Bool.and_eq_true,decide_eq_true_eq,beq_iff_eq]
 constructor
 ·rintro ⟨h1,h2⟩
  rw [h1];congr 1;omega
 ·intro h
  have:b.length=n:=by rw [h,numsL_len]
  rw [this]
  exact⟨h,rfl⟩
end Go.PN
namespace Go.Proofs.YtefekdejgbceiaaGreat
open Go.AI Go.PN
attribute [local irreducible] aw Fa Fh DrK
theorem numbered_fa (d:DG) (hns:NsOk d.order.length d.nodes) (hnl:d.nodes.length≤1000000) (h0:0≤d.root) (h1:d.root<d.nodes.length+2):Fa Tryz.prog 118 [.agg (dgc false d)] (.c (.bool (decide (numF d.nodes d.root.toNat d.root []=numsL d.nodes.length)))):=by
 rw [←okB_end]
 refine fa_of_body Tryz.func118 rfl rfl (by simp [Tryz.ntmps118]) fun C hC=> ?_
 simp only [initS,Nat.reduceAdd]
 refine xG ?_
 refine xB fun g1 hn_g1=>?_
 refine yG hn_g1 ?_
 refine yA hn_g1 fun g3 hn_g3=>?_
 refine yG (oj hn_g1 hn_g3) ?_
 refine yA (oj hn_g1 hn_g3) fun g4 hn_g4=>?_
 have J1:=oj hn_g1 (oj hn_g3 hn_g4)
 refine yGWSG J1 ?_
 refine yW J1 ?_
 refine ySG J1 ?_
 refine aw_make (n:=d.nodes.length) (c:=d.nodes.length) (size:=1) (z:=[.bool false]) rfl rfl rfl (zE J1) (zE J1) rfl om (zE J1) (zE J1) rfl rfl om om om fun gb hn_gb=> ?_
 replace hn_gb:=Heap.ne_of hn_gb
 dsimp only [Heap.ne] at hn_gb
 rw [make_bs d.nodes.length]
 have J2:=oj hn_g1 (oj hn_g3 (oj hn_g4 hn_gb))
 refine ySG J2 ?_
 refine yA J2 fun g5 hn_g5=>?_
 have J3:=oj hn_g1 (oj hn_g3 (oj hn_g4 (oj hn_gb hn_g5)))
 refine yGWSG J3 ?_
 refine yA J3 fun g6 hn_g6=>?_
 have J4:=oj hn_g1 (oj hn_g3 (oj hn_g4 (oj hn_gb (oj hn_g5 hn_g6))))
 refine yG J4 ?_
 refine aw_makeFunc (gs:=[g5,g6,g1,g4,g3]) rfl rfl rfl (zE J4) ?_
 refine ySGWSG J4 ?_
 clear hn_g6 hn_g5 hn_gb hn_g4 hn_g3 J1 J2 J3 J4
 refine aw_callhv (hr:=[]) (numbered1_fh d hns hnl g5 g6 g1 g4 g3 gb d.root.toNat d.root [] (List.replicate d.nodes.length false) (Nat.le_refl _) h0 h1 (by simp) (by simp) (by simp) (fun x _ _=>by simp [List.getD_eq_getElem?_getD,List.getElem?_replicate];split<;>rfl)) rfl rfl rfl (by rfl) (by rw [List.append_nil];exact perm6 _ _ _ _ _ _) (by exact⟨.c (.refl _),trivial⟩) ?_
 rintro _ _ ⟨rfl,seen,rfl,hsl,_,_⟩ _
 obtain⟨a1,a2,a3⟩:=numF_bd hns d.root.toNat d.root [] h1 (by simp) (by simp)
 have hnb:=nodup_range a1 a2
 generalize numF d.nodes d.root.toNat d.root []=bb at*
 rw [List.append_nil]
 refine aw_nd fun hnd=> ?_
 replace hnd:=nd6 hnd
 dsimp only at hnd
 refine xH ?_
 refine ySG hnd ?_
 refine aw_split 17 (zE hnd) (fun ho=> ?_) (fun ho=> ?_)<;>refine yS hnd ?_
 ·rw [ho,Bool.true_and]
  refine yGT hC hnd ?_
  exact .one (.c (.bool _))
 ·rw [ho,Bool.false_and]
  refine yGT hC hnd ?_
  exact .one (.c (.bool _))
end Go.Proofs.YtefekdejgbceiaaGreat
namespace Go.PN
open Go.AI
abbrev DK:={l:List Int//l.length=3}
def dk (x:DN):DK:=⟨[x.v,x.lo,x.hi],rfl⟩
def dkV (k:DK):Value:=keyZ k.1
theorem dk_inj {x y:DN}:dk x=dk y↔x=y:=by
 cases x;cases y
 simp [dk]
def dkL (ns:List DN):List (DK×Value):=ns.map fun x=>(dk x,.bool true)
theorem dkL_get (x:DN):∀ns:List DN,kvGet (dk x) (dkL ns)=if x∈ns then some (.bool true) else none
 |[]=>rfl
 |y::ns=>by
  have ih:=dkL_get x ns
  show(if dk x=dk y then some (Value.bool true) else kvGet (dk x) (dkL ns))=_
  by_cases h:x=y
  ·subst h;simp
  ·rw [if_neg (fun e=>h (dk_inj.1 e)),ih];simp [h]
theorem dkL_cst (x:DN) (ns:List DN):cstC ((kvGet (dk x) (dkL ns)).getD (.bool false))=.bool (decide (x∈ns)):=by
 rw [dkL_get]
 by_cases h:x∈ns<;>simp [h,cstC]
theorem dkL_push (ns:List DN) (x:DN):dkL (ns++[x])=dkL ns++[(dk x,.bool true)]:=by simp [dkL]
theorem dk_rep {x:DN}:∀(S:Bool→Nat→Prop) (w:World) (u:Value),Rep S w (.agg [.int .i64 x.v,.int .i64 x.lo,.int .i64 x.hi]) u→u=dkV (dk x):=by
 rintro S w u ⟨us,rfl,h⟩
 match us,h with
 |[a,b,c],⟨h1,h2,h3,_⟩=>
  have h1:a=_:=h1
  have h2:b=_:=h2
  have h3:c=_:=h3
  rw [h1,h2,h3];rfl
theorem takeDN_push {ns:List DN} {i:Nat} (h:i<ns.length):ns.take (i+1)=ns.take i++[ns.getD i dn0]:=by
 rw [List.take_succ_eq_append_getElem h,getDN h]
end Go.PN
namespace Go.Proofs.YtefekdejgbceiaaGreat
open Go.AI Go.PN
attribute [local irreducible] aw Fa Fh DrK
theorem ty_mz:tZ1 Tryz.prog 4=some (.bool false):=by kernel_rfl
theorem ty_key:tEqS Tryz.prog 119=some 3:=by kernel_rfl
theorem dk_ok:KeyOk Tryz.prog 119 dkV:=keyZ_ok ty_key
theorem dcheck_fa (d:DG) (hl:d.order.length≤1099511627776) (hl2:d.nodes.length≤1099511627776):Fa Tryz.prog 78 [.agg (dgc false d)] (.c (errA (dcode d))):=by
 unfold dcode
 refine fa_of_body Tryz.func78 rfl rfl (by simp [Tryz.ntmps78]) fun C hC=> ?_
 simp only [initS,Nat.reduceAdd]
 refine xG ?_
 refine xB fun g1 hn_g1=>?_
 refine yG hn_g1 ?_
 refine yC hn_g1 (positions_fa d.order hl) ?_
 refine yG hn_g1 ?_
 refine yF hn_g1 (fun hb=>?_) fun hb=>?_
 ·have hb':ocode d.order d.order.length≠0:=by simpa using hb
  rw [if_pos hb']
  refine yGT hC hn_g1 ?_
  exact .one (.c ler_err)
 ·have hb':ocode d.order d.order.length=0:=by simpa using hb
  obtain⟨hperm,h24⟩:=ocode_ok hb'
  rw [if_neg (by simp [hb']),if_pos hb']
  refine yG hn_g1 ?_
  refine yF hn_g1 (fun hc=>?_) fun hc=>?_
  ·have hc':=of_decide_eq_true hc
   rw [if_pos om]
   refine yGT hC hn_g1 ?_
   exact .one (.c (ler_errN rfl om))
  ·have hc':=of_decide_eq_false hc
   rw [if_neg om]
   refine yG hn_g1 ?_
   refine aw_makeMap (Kf:=dkV) rfl rfl rfl fun gm hn_gm=> ?_
   replace hn_gm:=Heap.ne_of hn_gm
   dsimp only [Heap.ne] at hn_gm
   have J1:=oj hn_g1 hn_gm
   refine ySG J1 ?_
   refine aw_lp (fun i:Nat=>[(1,.c (.optr g1 0)),(3,.c (is true (placesL d.order))),(5,.c (.raw (.map (some gm)))),(25,.c (dns false d.nodes)),(26,.c (.int .i64 d.nodes.length)),(27,.c (.int .i64 i))]) (fun i=>[(gm,.gen (MapI dkV (dkL (d.nodes.take i)))),(g1,.cells 31 3 (ofL (dgc false d)))]) (fun x=>x≤d.nodes.length∧(∀j,j<x→ncode d j=0)∧nfirst d x (d.nodes.length-x)=nfirst d 0 d.nodes.length) (fun x=>d.nodes.length-x) 0 (zB J1) zZ ⟨Nat.zero_le _,by omega,rfl⟩ ?_
   rintro i ⟨hi,hz,hf⟩
   refine yG J1 ?_
   refine yF J1 (fun h1=>?_) fun h1=>?_
   ·have h1':i<d.nodes.length:=dT h1
    have hno:∀j,j<i→NodeOk d.order.length j (d.nodes.getD j dn0):=fun j hj=>by
     refine nok_of (d:=d) (i:=j) fun hr=> ?_
     have:=hz j hj
     unfold ncode at this
     rw [if_pos hr] at this
     cases this
    have hnA:=ncode_A d i
    refine yG J1 ?_
    refine yA J1 fun g7 hn_g7=>?_
    have J2:=oj hn_g1 (oj hn_gm hn_g7)
    refine yGWSG J2 ?_
    refine yC J2 (checkNode_fa d i h1' h24 ?_ hno) ?_
    ·omega
    refine yG J2 ?_
    refine yF J2 (fun h2=>?_) fun h2=>?_
    ·have h2':ncodeA d i≠0:=by simpa using h2
     rw [if_pos h2'] at hnA
     refine yGT hC J2 ?_
     have h3:ncode d i≠0:=by rw [hnA];exact h2'
     rw [nfirst_at h1' h3] at hf
     rw [←hf,if_pos h3,hnA]
     exact .one (.c ler_err)
    ·have h2':ncodeA d i=0:=by simpa using h2
     rw [if_neg (by simp [h2'])] at hnA
     refine yG J2 ?_
     refine aw_lookup (a:=dk (d.nodes.getD i dn0)) (kv:=dkL (d.nodes.take i)) (Kf:=dkV) (z:=.bool false) rfl rfl rfl (kt:=119) (et:=4) (by kernel_rfl) dk_ok ty_mz (zE J2) (zE J2) (zE J2) dk_rep ?_
     rw [dkL_cst]
     refine ySG J2 ?_
     refine yF J2 (fun h3=>?_) fun h3=>?_
     ·have h3':=of_decide_eq_true h3
      rw [if_pos h3'] at hnA
      refine yGT hC J2 ?_
      have h4:ncode d i≠0:=by rw [hnA];decide
      rw [nfirst_at h1' h4] at hf
      rw [←hf,if_pos h4,hnA]
      exact .one (.c (ler_errN rfl om))
     ·have h3':=of_decide_eq_false h3
      rw [if_neg h3'] at hnA
      refine yG J2 ?_
      refine aw_mapNew (a:=dk (d.nodes.getD i dn0)) (kv:=dkL (d.nodes.take i)) (Kf:=dkV) (v:=.bool true) rfl rfl rfl (kt:=119) (et:=4) (by kernel_rfl) dk_ok (zE J2) (zE J2) (zE J2) dk_rep (cv:=.c (.bool true)) (zE J2) (fun S w u h=>h) (by rw [dkL_get,if_neg h3']) (zE J2) ?_
      rw [←dkL_push,←takeDN_push h1']
      refine ySG J2 ?_
      rw [nfirst_step h1' hnA] at hf
      refine aw_stop ⟨i+1,by omega,(zB J2),List.Sublist.cons _ (List.Sublist.refl _),by omega,fun j hj=> ?_,hf⟩
      rcases Nat.lt_succ_iff_lt_or_eq.1 hj with h|h
      ·exact hz j h
      ·rw [h];exact hnA
   ·have h1':i=d.nodes.length:=dF h1
    subst h1'
    have hns:=nok_all hz
    rw [Nat.sub_self,nfirst] at hf
    rw [←hf,if_neg (by simp)]
    refine yG J1 ?_
    refine aw_split 50 (zE J1) (fun h3=> ?_) (fun h3=> ?_)<;>refine yS J1 ?_
    ·have h3':=of_decide_eq_true h3
     rw [if_pos (.inl h3')]
     refine yGPGT hC J1 ?_
     exact .one (.c (ler_errN rfl om))
    ·have h3':=of_decide_eq_false h3
     refine yG J1 ?_
     refine yF J1 (fun h4=>?_) fun h4=>?_
     ·have h4':=of_decide_eq_true h4
      rw [if_pos (.inr h4')]
      refine yGT hC J1 ?_
      exact .one (.c (ler_errN rfl om))
     ·have h4':=of_decide_eq_false h4
      rw [if_neg om]
      refine yG J1 ?_
      refine yC J1 (numbered_fa d hns ?_ ?_ ?_) ?_
      ·omega
      ·omega
      ·omega
      refine yG J1 ?_
      refine yF J1 (fun h5=>?_) fun h5=>?_
      ·have h5':¬(numF d.nodes d.root.toNat d.root []=numsL d.nodes.length):=by simpa using h5
       rw [if_neg h5']
       refine yGT hC J1 ?_
       exact .one (.c (ler_errN rfl om))
      ·have h5':numF d.nodes d.root.toNat d.root []=numsL d.nodes.length:=by simpa using h5
       rw [if_pos h5']
       refine yGT hC J1 ?_
       exact .one (.c (ler_err0 rfl))
end Go.Proofs.YtefekdejgbceiaaGreat
namespace Go.PN
open Go.AI
def exQ (p:Nat→Rat):Nat→(Nat→Rat)→Rat
 |0,g=>g 0
 |m+1,g=>(1-p m)*exQ p m g+p m*exQ p m (fun s=>g (s+2^m))
theorem ex_congr {p:Nat→Rat}:∀(m:Nat) (f g:Nat→Rat),(∀s,s<2^m→f s=g s)→exQ p m f=exQ p m g
 |0,f,g,h=>h 0 (by simp)
 |m+1,f,g,h=>by
  have e:2^(m+1)=2^m+2^m:=by rw [Nat.pow_succ];omega
  rw [exQ,exQ,ex_congr m f g fun s hs=>h s om,ex_congr m _ (fun s=>g (s+2^m)) fun s hs=>h (s+2^m) om]
theorem ex_const {p:Nat→Rat} (c:Rat):∀m:Nat,exQ p m (fun _=>c)=c
 |0=>rfl
 |m+1=>by
  rw [exQ,ex_const c m]
  grind
def Indep (m v:Nat) (f:Nat→Rat):Prop:=∀s t,s<2^m→t<2^m→(∀j,j<m→j≠v→s.testBit j=t.testBit j)→f s=f t
theorem tb_hi {s m:Nat} (h:s<2^m):(s+2^m).testBit m=true:=by
 rw [Nat.add_comm,Nat.testBit_two_pow_add_eq,Nat.testBit_lt_two_pow h];rfl
theorem tb_lo {s m j:Nat} (h:j<m):(s+2^m).testBit j=s.testBit j:=by
 rw [Nat.add_comm,Nat.testBit_two_pow_add_gt h]
theorem ex_shan {p:Nat→Rat} {v:Nat}:∀(m:Nat) (l h:Nat→Rat),v<m→Indep m v l→Indep m v h→exQ p m (fun s=>if s.testBit v then h s else l s)=(1-p v)*exQ p m l+p v*exQ p m h
 |0,_,_,hv,_,_=>by omega
 |m+1,l,h,hv,hl,hh=>by
  have e:2^(m+1)=2^m+2^m:=by rw [Nat.pow_succ];omega
  have shift:∀f,Indep (m+1) v f→Indep m v (fun s=>f (s+2^m)):=fun f hf s t hs ht hb=>hf _ _ om om fun j hj hjv=>by
   by_cases hjm:j<m
   ·rw [tb_lo hjm,tb_lo hjm];exact hb j hjm hjv
   ·have:j=m:=by omega
    subst this
    rw [tb_hi hs,tb_hi ht]
  by_cases hvm:v=m
  ·subst hvm
   have up:∀f,Indep (v+1) v f→exQ p v (fun s=>f (s+2^v))=exQ p v f:=fun f hf=>ex_congr v _ _ fun s hs=>hf _ _ om om fun j hj hjv=>tb_lo om
   rw [exQ,exQ,exQ,up l hl,up h hh]
   have e1:exQ p v (fun s=>if s.testBit v then h s else l s)=exQ p v l:=ex_congr v _ _ fun s hs=>by rw [Nat.testBit_lt_two_pow hs];rfl
   have e2:exQ p v (fun s=>if(s+2^v).testBit v then h (s+2^v) else l (s+2^v))=exQ p v h:=by
    rw [←up h hh]
    exact ex_congr v _ _ fun s hs=>by rw [tb_hi hs];rfl
   rw [e1,e2]
   grind
  ·have hvm':v<m:=by omega
   have low:∀f,Indep (m+1) v f→Indep m v f:=fun f hf s t hs ht hb=>hf s t om om fun j hj hjv=>by
    by_cases hjm:j<m
    ·exact hb j hjm hjv
    ·have:j=m:=by omega
     subst this
     rw [Nat.testBit_lt_two_pow hs,Nat.testBit_lt_two_pow ht]
   rw [exQ,exQ,exQ,ex_shan m l h hvm' (low l hl) (low h hh)]
   have e2:exQ p m (fun s=>if(s+2^m).testBit v then h (s+2^m) else l (s+2^m))=exQ p m (fun s=>if s.testBit v then h (s+2^m) else l (s+2^m)):=ex_congr m _ _ fun s hs=>by rw [tb_lo hvm']
   rw [e2,ex_shan m _ _ hvm' (shift l hl) (shift h hh)]
   grind
def sumG (f:Nat→Rat):Nat→Rat
 |0=>0
 |k+1=>sumG f k+f k
theorem sumG_congr {f g:Nat→Rat}:∀n,(∀s,s<n→f s=g s)→sumG f n=sumG g n
 |0,_=>rfl
 |n+1,h=>by rw [sumG,sumG,sumG_congr n fun s hs=>h s om,h n om]
theorem sumG_add (f:Nat→Rat) (a:Nat):∀b,sumG f (a+b)=sumG f a+sumG (fun s=>f (s+a)) b
 |0=>by rw [sumG,Nat.add_zero];grind
 |b+1=>by
  rw [←Nat.add_assoc,sumG,sumG_add f a b,sumG,Nat.add_comm b a]
  grind
theorem sumG_mul (f:Nat→Rat) (c:Rat):∀n,sumG (fun s=>f s*c) n=c*sumG f n
 |0=>by rw [sumG,sumG];grind
 |n+1=>by rw [sumG,sumG,sumG_mul f c n];grind
def wtP (p:Nat→Rat) (s:Nat):Nat→Rat
 |0=>1
 |k+1=>wtP p s k*(if s.testBit k then p k else 1-p k)
theorem wtP_lo {p:Nat→Rat} {s m:Nat}:∀k,k≤m→wtP p (s+2^m) k=wtP p s k
 |0,_=>rfl
 |k+1,h=>by rw [wtP,wtP,wtP_lo k om,tb_lo om]
theorem sum_ex {p:Nat→Rat}:∀(m:Nat) (g:Nat→Rat),sumG (fun s=>g s*wtP p s m) (2^m)=exQ p m g
 |0,g=>by
  show sumG (fun s=>g s*wtP p s 0) (2^0)=g 0
  rw [show(2:Nat)^0=0+1 from rfl,sumG,sumG,wtP]
  grind
 |m+1,g=>by
  have e:2^(m+1)=2^m+2^m:=by rw [Nat.pow_succ];omega
  rw [e,sumG_add,exQ,←sum_ex m g,←sum_ex m (fun s=>g (s+2^m))]
  rw [←sumG_mul,←sumG_mul]
  congr 1
  ·exact sumG_congr _ fun s hs=>by rw [wtP,Nat.testBit_lt_two_pow hs];simp only [Bool.false_eq_true,if_false];grind
  ·exact sumG_congr _ fun s hs=>by rw [wtP,tb_hi hs,wtP_lo m (Nat.le_refl _)];simp only [if_true];grind
def prP (ps:List RD) (i:Nat):Rat:=(ps.getD i rd0).q
theorem wtTo_P {ps:List RD} {s m:Nat} (hs:s<2^m):∀k,k≤m→wtTo s (2^m-1-s) ps k=wtP (prP ps) s k
 |0,_=>rfl
 |k+1,h=>by
  rw [wtTo,wtP,wtTo_P hs k om]
  congr 1
  unfold wfac
  have:(2^m-1-s).testBit k= !s.testBit k:=by
   rw [show 2^m-1-s=2^m-(s+1) from by omega,Nat.testBit_two_pow_sub_succ hs]
   simp;omega
  rw [this]
  cases s.testBit k with
  |true=>simp [prP]
  |false=>simp [prP]
theorem sumQ_G {ps:List RD} {tb:List Bool}:∀k,k≤2^ps.length→sumQ ps tb k=sumG (fun s=>(if tb.getD s false then 1 else 0)*wtP (prP ps) s ps.length) k
 |0,_=>rfl
 |k+1,h=>by
  rw [sumQ,sumG,sumQ_G k om]
  have:stQ ps k=wtP (prP ps) k ps.length:=wtTo_P om _ (Nat.le_refl _)
  rw [this]
  split<;>grind
theorem sumQ_ex (ps:List RD) (tb:List Bool):sumQ ps tb (2^ps.length)=exQ (prP ps) ps.length (fun s=>if tb.getD s false then 1 else 0):=by
 rw [sumQ_G _ (Nat.le_refl _),sum_ex]
end Go.PN
namespace Go.Proofs.YtefekdejgbceiaaGreat
open Go.AI Go.PN
structure DgOk (d:DG):Prop where
 perm:Perm0 d.order
 o24:d.order.length≤24
 n4096:d.nodes.length≤4096
 ns:NsOk d.order.length d.nodes
 beh:∀i,i<d.nodes.length→behindB d (d.nodes.getD i dn0).lo (d.nodes.getD i dn0).v=true∧behindB d (d.nodes.getD i dn0).hi (d.nodes.getD i dn0).v=true
 r0:0≤d.root
 r1:d.root<d.nodes.length+2
theorem nfirst_zero {d:DG}:∀(k i:Nat),nfirst d i k=0→∀j,i≤j→j<i+k→ncode d j=0
 |0,i,_,j,h1,h2=>by omega
 |k+1,i,h,j,h1,h2=>by
  rw [nfirst] at h
  split at h
  ·rename_i hn;exact absurd h hn
  ·rename_i hn
   rcases Nat.eq_or_lt_of_le h1 with e|e
   ·rw [←e];simpa using hn
   ·exact nfirst_zero k (i+1) h j om om
theorem dg_ok {d:DG} (h:dcode d=0):DgOk d:=by
 unfold dcode at h
 split at h
 ·rename_i h1;exact absurd h h1
 ·rename_i h1
  split at h
  ·cases h
  ·rename_i h2
   split at h
   ·rename_i h3;exact absurd h h3
   ·rename_i h3
    split at h
    ·cases h
    ·rename_i h4
     obtain⟨hp,h24⟩:=ocode_ok (by simpa using h1)
     have hz:∀j,j<d.nodes.length→ncode d j=0:=fun j hj=>nfirst_zero d.nodes.length 0 (by simpa using h3) j om om
     refine⟨hp,h24,by omega,nok_all hz,fun i hi=> ?_,by omega,by omega⟩
     have hc:=hz i hi
     unfold ncode at hc
     split at hc
     ·cases hc
     ·split at hc
      ·cases hc
      ·split at hc
       ·cases hc
       ·rename_i hb
        simpa using hb
theorem behind_lt {d:DG} {r e:Int} (h:behindB d r e=true) (h2:2≤r):placeZ d.order e<placeZ d.order (d.nodes.getD (r-2).toNat dn0).v:=by
 unfold behindB at h
 rw [decide_eq_false om,Bool.false_or] at h
 have:=of_decide_eq_true h
 omega
theorem evalD_indep {d:DG} (ok:DgOk d) {s t:Nat} {P:Int} (hb:∀j:Nat,j<d.order.length→P<placeZ d.order j→s.testBit j=t.testBit j):∀(n:Nat) (r:Int),r.toNat≤n→0≤r→r<d.nodes.length+2→(2≤r→P<placeZ d.order (d.nodes.getD (r-2).toNat dn0).v)→evalD d.nodes s r=evalD d.nodes t r:=by
 intro n
 induction n with
 |zero=>intro r hn h0 hr hP;rw [evalD_leaf om,evalD_leaf om]
 |succ n ih=>
  intro r hn h0 hr hP
  by_cases h2:2≤r
  ·have hP':=hP h2
   obtain⟨v0,v1,l0,l1,q0,q1⟩:=ok.ns (r-2).toNat om
   obtain⟨b1,b2⟩:=ok.beh (r-2).toNat om
   have hkid:kid d.nodes s r=kid d.nodes t r:=by
    unfold kid
    rw [hb (d.nodes.getD (r-2).toNat dn0).v.toNat om (by rw [show(((d.nodes.getD (r-2).toNat dn0).v.toNat:Nat):Int)=(d.nodes.getD (r-2).toNat dn0).v from by omega];exact hP')]
   have hk:=kid_lt ok.ns (s:=t) h2 hr
   rw [evalD_step ok.ns h2 hr,evalD_step ok.ns h2 hr,hkid]
   refine ih _ om hk.1 om fun hk2=> ?_
   unfold kid at hk2⊢
   split at hk2
   ·rename_i hbit
    rw [if_pos hbit]
    have:=behind_lt b2 hk2
    omega
   ·rename_i hbit
    rw [if_neg hbit]
    have:=behind_lt b1 hk2
    omega
  ·rw [evalD_leaf om,evalD_leaf om]
def evQ (d:DG) (r:Int) (s:Nat):Rat:=if evalD d.nodes s r then 1 else 0
theorem ev_indep {d:DG} (ok:DgOk d) {r:Int} {v:Nat} (h0:0≤r) (hr:r<d.nodes.length+2) (hv:2≤r→placeZ d.order v<placeZ d.order (d.nodes.getD (r-2).toNat dn0).v):Indep d.order.length v (evQ d r):=fun s t hs ht hb=>by
 unfold evQ
 rw [evalD_indep ok (s:=s) (t:=t) (P:=placeZ d.order v) (fun j hj hp=>hb j hj (fun e=>by subst e;omega)) r.toNat r (Nat.le_refl _) h0 hr hv]
theorem vals_q {d:DG} (ok:DgOk d) {ps:List RD} (hp:ps.length=d.order.length):∀(k:Nat),k≤d.nodes.length→∀r:Int,0≤r→r<k+2→refRD (valsL ps (d.nodes.take k) []) r=rd (exQ (prP ps) d.order.length (evQ d r)):=by
 intro k
 induction k with
 |zero=>
  intro _ r h0 hr
  have:r=0∨r=1:=by omega
  unfold refRD
  rw [if_pos om]
  rcases this with rfl|rfl
  ·have e:evQ d 0=fun _=>((0:Int):Rat):=by funext s;unfold evQ;rw [evalD_leaf om];rfl
   rw [e,ex_const]
  ·have e:evQ d 1=fun _=>((1:Int):Rat):=by funext s;unfold evQ;rw [evalD_leaf om];rfl
   rw [e,ex_const]
 |succ k ih=>
  intro hk r h0 hr
  have ihk:=ih om
  have hlen:(valsL ps (d.nodes.take k) []).length=k:=by rw [vals_len];simp;omega
  by_cases hrk:r<k+2
  ·rw [←ihk r h0 hrk,vals_take om]
   unfold refRD
   by_cases h2:r<2
   ·rw [if_pos h2,if_pos h2]
   ·rw [if_neg h2,if_neg h2,List.getD_eq_getElem?_getD,List.getElem?_append_left om,←List.getD_eq_getElem?_getD]
  ·have hr':r=k+2:=by omega
   have hr2:(r-2).toNat=k:=by omega
   have h2:2≤r:=by omega
   obtain⟨v0,v1,l0,l1,q0,q1⟩:=ok.ns k om
   obtain⟨b1,b2⟩:=ok.beh k om
   rw [vals_take om]
   unfold refRD
   rw [if_neg om,hr2,List.getD_eq_getElem?_getD,List.getElem?_append_right om,hlen,Nat.sub_self]
   show rd (nodeQ ps (valsL ps (d.nodes.take k) []) (d.nodes.getD k dn0))=_
   congr 1
   unfold nodeQ
   rw [ihk _ l0 om,ihk _ q0 om,rd_q,rd_q]
   generalize hx:d.nodes.getD k dn0=x at*
   have hvn:((x.v.toNat:Nat):Int)=x.v:=by omega
   have e:exQ (prP ps) d.order.length (evQ d r)=exQ (prP ps) d.order.length (fun s=>if s.testBit x.v.toNat then evQ d x.hi s else evQ d x.lo s):=ex_congr _ _ _ fun s _=>by
    unfold evQ
    rw [evalD_step ok.ns h2 om]
    unfold kid
    rw [hr2,hx]
    cases s.testBit x.v.toNat<;>rfl
   rw [e,ex_shan d.order.length (evQ d x.lo) (evQ d x.hi) om (ev_indep ok l0 om fun h=>by rw [hvn];exact behind_lt b1 h) (ev_indep ok q0 om fun h=>by rw [hvn];exact behind_lt b2 h)]
   rfl
theorem plain_law {d:DG} (ok:DgOk d) {ps:List RD} (hp:ps.length=d.order.length):refRD (valsL ps d.nodes []) d.root=rd (sumQ ps (tabL d) (2^ps.length)):=by
 have h:=vals_q ok hp d.nodes.length (Nat.le_refl _) d.root ok.r0 (by have:=ok.r1;omega)
 rw [List.take_length] at h
 rw [h,sumQ_ex,hp]
 congr 1
 refine ex_congr _ _ _ fun s hs=> ?_
 unfold evQ tabL
 rw [List.getD_eq_getElem?_getD]
 simp [hs]
def Bl (L:Nat):Nat→Nat
 |0=>1
 |h+1=>2*Bl L h+2*L+3
theorem Bl_mono {L:Nat}:∀{a b:Nat},a≤b→Bl L a≤Bl L b
 |a,0,h=>by rw [show a=0 from by omega];exact Nat.le_refl _
 |a,b+1,h=>by
  by_cases e:a=b+1
  ·rw [e];exact Nat.le_refl _
  ·have:=Bl_mono (L:=L) (a:=a) (b:=b) om
   rw [Bl];omega
def hgt (d:DG) (r:Int):Nat:=if r<2 then 0 else(d.order.length-placeZ d.order (d.nodes.getD (r-2).toNat dn0).v).toNat
theorem hgt_lt {d:DG} {r:Int} {v:Int} (h:behindB d r v=true) (hv:placeZ d.order v<d.order.length):hgt d r<(d.order.length-placeZ d.order v).toNat:=by
 unfold hgt
 split
 ·omega
 ·rename_i h2
  have:=behind_lt h om
  omega
theorem place_lt {o:List Int} {v:Int}:placeZ o v<o.length:=by
 unfold placeZ
 split
 ·rename_i h
  have:=List.idxOf_lt_length_of_mem h
  omega
 ·omega
theorem hgt_le {d:DG} {r:Int} (hm:∀i,i<d.nodes.length→(d.nodes.getD i dn0).v∈d.order) (hr:r<d.nodes.length+2):hgt d r≤d.order.length:=by
 unfold hgt
 split
 ·omega
 ·have:=hm (r-2).toNat om
  unfold placeZ
  rw [if_pos this]
  omega
theorem vals_fits {d:DG} (ok:DgOk d) {ps:List RD} {L:Nat} (hL:1≤L) (hw:∀x∈ps,x.wf L):∀(k:Nat),k≤d.nodes.length→∀r:Int,0≤r→r<k+2→fits (refRD (valsL ps (d.nodes.take k) []) r).q (Bl L (hgt d r)):=by
 intro k
 induction k with
 |zero=>
  intro _ r h0 hr
  have:r=0∨r=1:=by omega
  unfold refRD hgt
  rw [if_pos om,if_pos om,rd_q]
  rcases this with rfl|rfl
  ·exact fits_zero
  ·exact fits_one
 |succ k ih=>
  intro hk r h0 hr
  have ihk:=ih om
  have hlen:(valsL ps (d.nodes.take k) []).length=k:=by rw [vals_len];simp;omega
  by_cases hrk:r<k+2
  ·have:=ihk r h0 hrk
   rw [vals_take om]
   unfold refRD at this⊢
   by_cases h2:r<2
   ·rw [if_pos h2] at this⊢;exact this
   ·rw [if_neg h2] at this⊢
    rw [List.getD_eq_getElem?_getD,List.getElem?_append_left om,←List.getD_eq_getElem?_getD]
    exact this
  ·have hr2:(r-2).toNat=k:=by omega
   obtain⟨v0,v1,l0,l1,q0,q1⟩:=ok.ns k om
   obtain⟨b1,b2⟩:=ok.beh k om
   have f2:=ihk _ l0 om
   have f3:=ihk _ q0 om
   have f1:=RD.fits (getD_wf hw (d.nodes.getD k dn0).v.toNat) hL
   have g1:=hgt_lt b1 place_lt
   have g2:=hgt_lt b2 place_lt
   rw [vals_take om]
   unfold refRD
   rw [if_neg om,hr2,List.getD_eq_getElem?_getD,List.getElem?_append_right om,hlen,Nat.sub_self]
   show fits (rd (nodeQ ps (valsL ps (d.nodes.take k) []) (d.nodes.getD k dn0))).q _
   have hh:hgt d r=(d.order.length-placeZ d.order (d.nodes.getD k dn0).v).toNat:=by unfold hgt;rw [if_neg om,hr2]
   rw [rd_q,hh]
   obtain⟨h,hh2⟩:∃h,(d.order.length-placeZ d.order (d.nodes.getD k dn0).v).toNat=h+1:=⟨(d.order.length-placeZ d.order (d.nodes.getD k dn0).v).toNat-1,by omega⟩
   rw [hh2,Bl]
   have m1:=Bl_mono (L:=L) (show hgt d (d.nodes.getD k dn0).lo≤h from by omega)
   have m2:=Bl_mono (L:=L) (show hgt d (d.nodes.getD k dn0).hi≤h from by omega)
   unfold nodeQ
   exact fits_mono (fits_add (fits_mul (fits_sub fits_one f1) f2) (fits_mul f1 f3)) om
theorem perm0_mem {o:List Int} (h:Perm0 o) {v:Int} (h0:0≤v) (h1:v<o.length):v∈o:=by
 have hle:((List.range o.length).map fun(i:Nat)=>(i:Int)).length≤o.length:=by simp
 refine Classical.byContradiction fun hn=> ?_
 have h2:(v::o).Nodup:=List.nodup_cons.2 ⟨hn,h.nodup⟩
 have:=nodup_le (m:=(List.range o.length).map fun(i:Nat)=>(i:Int)) h2 (fun x hx=>by
  rcases List.mem_cons.1 hx with rfl|hx
  ·exact List.mem_map.2 ⟨x.toNat,List.mem_range.2 om,by omega⟩
  ·have:=h.range x hx
   exact List.mem_map.2 ⟨x.toNat,List.mem_range.2 om,by omega⟩)
 simp at this
 omega
theorem vals_wf {d:DG} (ok:DgOk d) {ps:List RD} (hp:ps.length=d.order.length) {L M:Nat} (hL:1≤L) (hw:∀x∈ps,x.wf L) (hM:Bl L d.order.length≤M):∀k,k≤d.nodes.length→∀x∈valsL ps (d.nodes.take k) [],x.wf M:=by
 intro k hk x hx
 obtain⟨j,hj,e⟩:=List.mem_iff_getElem.1 hx
 have hlen:(valsL ps (d.nodes.take k) []).length=k:=by rw [vals_len];simp;omega
 have hf:=vals_fits ok hL hw k hk ((j:Int)+2) om om
 have hq:=vals_q ok hp k hk ((j:Int)+2) om om
 have hgl:=hgt_le (d:=d) (r:=(j:Int)+2) (fun i hi=>by
  obtain⟨v0,v1,_,_,_,_⟩:=ok.ns i hi
  exact perm0_mem ok.perm v0 v1) om
 have hB:=Bl_mono (L:=L) hgl
 have hx2:refRD (valsL ps (d.nodes.take k) []) ((j:Int)+2)=x:=by
  unfold refRD
  rw [if_neg om,show((j:Int)+2-2).toNat=j from by omega,List.getD_eq_getElem?_getD,List.getElem?_eq_getElem hj,←e];rfl
 rw [hx2] at hf hq
 rw [hq,rd_q] at hf
 rw [hq]
 exact rd_wf (fits_mono hf om)
theorem Bl46 {h:Nat} (hh:h≤6):Bl 4 h≤1000:=Nat.le_trans (Bl_mono hh) (by decide)
end Go.Proofs.YtefekdejgbceiaaGreat
namespace Go.Proofs.YtefekdejgbceiaaGreat
open Go.AI Go.PN
attribute [local irreducible] aw Fa Fh DrK
theorem scheckD_fa (d:DG) (p:List RD) (hw:∀r∈p,r.wf 500000000) (hl:p.length≤1099511627776) (hl1:d.order.length≤1099511627776) (hl2:d.nodes.length≤1099511627776):Fa Tryz.prog 126 [.agg (dgc false d),.c (rats false p)] (.c (errA (dpcode d p))):=by
 unfold dpcode
 refine fa_of_body Tryz.func126 rfl rfl (by simp [Tryz.ntmps126]) fun C hC=> ?_
 simp only [initS,Nat.reduceAdd]
 refine xG ?_
 refine xB fun g2 hn_g2=>?_
 refine yG hn_g2 ?_
 refine yC hn_g2 (dcheck_fa d hl1 hl2) ?_
 refine yG hn_g2 ?_
 refine yF hn_g2 (fun hb=>?_) fun hb=>?_
 ·have hb':dcode d≠0:=by simpa using hb
  rw [if_pos hb']
  refine yGT hC hn_g2 ?_
  exact .one (.c ler_err)
 ·have hb':dcode d=0:=by simpa using hb
  rw [if_neg (by simp [hb'])]
  refine yG hn_g2 ?_
  refine yC hn_g2 (scheck_fa p d.order.length hw hl) ?_
  refine yGT hC hn_g2 ?_
  exact .one (.c ler_err)
theorem dp_ok {d:DG} {p:List RD} (h:dpcode d p=0):DgOk d∧p.length=d.order.length∧∀r∈p,r.prob=true:=by
 unfold dpcode at h
 split at h
 ·rename_i h1;exact absurd h h1
 ·rename_i h1
  unfold pcode at h
  split at h
  ·cases h
  ·rename_i h2
   split at h
   ·rename_i h3
    exact⟨dg_ok (by simpa using h1),by omega,fun r hr=>List.all_eq_true.1 h3 r hr⟩
   ·cases h
structure Small (d:DG) (p:List RD):Prop where
 w:∀r∈p,r.wf 4
 l:p.length≤100
 o:d.order.length≤100
 n:d.nodes.length≤1099511627776
 o6:dpcode d p=0→d.order.length≤6
theorem Small.w5 {d:DG} {p:List RD} (h:Small d p):∀r∈p,r.wf 500000000:=fun r hr=>wf_mono (h.w r hr) om
theorem ns_len {m:Nat} {d:DG} (ok:DgOk d) (hm:m=d.order.length):∀i,i<d.nodes.length→NodeOk m i (d.nodes.getD i dn0):=by subst hm;exact ok.ns
theorem vlen {ps:List RD} {ns:List DN}:(valsL ps ns []).length=ns.length:=by rw [vals_len];simp
theorem sprobability_fa (d:DG) (p:List RD) (hs:Small d p):Fa Tryz.prog 89 [.agg (dgc false d),.c (rats false p)] (.tup [.agg (rdc (if dpcode d p=0 then rd (sumQ p (tabL d) (2^p.length)) else rd0)),.c (errA (dpcode d p))]):=by
 have s1:=hs.l
 have s2:=hs.o
 have s3:=hs.n
 refine fa_of_body Tryz.func89 rfl rfl (by simp [Tryz.ntmps89]) fun C hC=> ?_
 simp only [initS,Nat.reduceAdd]
 refine xG ?_
 refine xB fun g2 hn_g2=>?_
 refine yA hn_g2 fun g4 hn_g4=>?_
 have J1:=oj hn_g2 hn_g4
 refine yG J1 ?_
 refine yC J1 (scheckD_fa d p hs.w5 ?_ ?_ ?_) ?_
 ·omega
 ·omega
 ·omega
 refine yG J1 ?_
 refine yF J1 (fun hb=>?_) fun hb=>?_
 ·have hb':dpcode d p≠0:=by simpa using hb
  rw [if_neg hb']
  refine yGWSGT hC J1 ?_
  exact .tup ⟨.agg ⟨.bool _,.nils,.nils,trivial⟩,.c ler_err,trivial⟩
 ·have hb':dpcode d p=0:=by simpa using hb
  obtain⟨ok,hpl,_⟩:=dp_ok hb'
  have h6:=hs.o6 hb'
  rw [if_pos hb',←plain_law ok hpl]
  have k1:=ok.n4096
  have k2:=ok.r1
  have k3:=vlen (ps:=p) (ns:=d.nodes)
  refine yG J1 ?_
  refine aw_dr 6 ty_mixed (by kernel_rfl) ?_
  refine yG J1 ?_
  refine yD J1 (values_fa d p 1000 ?_ ?_ (fun r hr=>wf_mono (hs.w r hr) ?_) (vals_wf ok hpl (L:=4) ?_ hs.w (Bl46 h6)) (ns_len ok hpl) ?_) ?_
  ·omega
  ·omega
  ·omega
  ·omega
  ·omega
  refine yG J1 ?_
  refine yD J1 (of_fa' (valsL p d.nodes []) d.root ok.r0 ?_ ?_) ?_
  ·omega
  ·omega
  refine yGWSGT hC J1 ?_
  exact .tup ⟨.agg lerl_rd,.c (ler_err0 hb'),trivial⟩
end Go.Proofs.YtefekdejgbceiaaGreat
namespace Go.AI
section
variable {E : Env} {K : List It} {σ σ' : Sl} {h : Heap} {all rest : List Oper} {o : Oper}
theorem aw_skipU (hw:wantA all σ o=some false) (hd:dstOk E.N o.dst=true) (k:aw E (.ops all rest::K) (σ.setO o.dst (.c (.raw undef))) h):aw E (.ops all (o::rest)::K) σ h:=fun a w s=>by
 show wpList _ _ _ _ _ _
 unfold wpList
 rw [if_neg (by rw [s.wanted hw];simp)]
 exact k _ _ (s.put hd (r:=.c (.raw undef)) rfl)
theorem aw_skipN {j t:Nat} {want:Bool} (hg:o.guard=some (j,want)) (hj:(all[j]?).bind (·.dst)=some t) (ht:σ.get t=.c (.raw undef)) (hd:dstOk E.N o.dst=true) (k:aw E (.ops all rest::K) (σ.setO o.dst (.c .any)) h):aw E (.ops all (o::rest)::K) σ h:=fun a w s=>by
 have hnw:Region.wanted o (yielded all.toArray a.tmps)=false:=by
  unfold Region.wanted
  rw [hg]
  show(yielded all.toArray a.tmps j==some want)=false
  have hy:yielded all.toArray a.tmps j=none:=by
   unfold yielded
   have h1:((all.toArray[j]?).bind (·.dst))=some t:=by simpa using hj
   rw [h1]
   have h2:=s.slots t
   rw [ht] at h2
   have h3:a.tmps.getD t undef=undef:=h2
   simp only [Option.bind_some]
   rw [Array.getD_eq_getD_getElem?] at h3
   cases h4:a.tmps[t]? with
   |none=>rfl
   |some v=>
    rw [h4] at h3
    have h5:v=undef:=h3
    subst h5
    rfl
  rw [hy];rfl
 show wpList _ _ _ _ _ _
 unfold wpList
 rw [if_neg (by rw [hnw];simp)]
 exact k _ _ (s.put hd (r:=.c .any) trivial)
end
end Go.AI
namespace Go.PN
open Go.AI
def WordsOk (p:List RD):Prop:=∀r∈p,(∀x∈r.num,x<4294967296)∧(∀x∈r.den,x<4294967296)
end Go.PN

namespace Go.Proofs.YtefekdejgbceiaaGreat
open Go.AI Go.PN Go.ChangeShapes Go.WideShapes Go.RowKit
theorem glue_laid:laidOutB Tryz.prog=true:=by kernel_rfl
theorem own:ownKnob Tryz.prog.godebug=none:=by kernel_rfl
section
variable {H : Type} {enc : TypeId × Value → H} {P : Program}
theorem trodAll_stays (hl:laidOutB P=true) {W W':World} {sp:Nat→Bool}:∀{ts:List TypeId} {vs:List Value} {ds:List (DataW H)} {p:List MemPlace},(∀t∈ts,P.readableRec t=true∧t<P.types.size)→DataW.TrodAll enc P W 0 (fun _=>true) true ts vs ds p→(∀x∈p,W.sameAt W' x)→(∀x∈p,sp x.block=true)→DataW.TrodAll enc P W' 0 sp true ts vs ds p
 |[],_,_,_,_,h,_,_=>by
  obtain⟨rfl,rfl,rfl⟩:=trodAll_nil h
  exact rfl
 |t::ts,_,_,_,hts,h,hs,hp=>by
  obtain⟨v,vs,d,ds,a,b,rfl,rfl,rfl,h1,h2⟩:=trodAll_cons h
  exact⟨a,b,WideElems.Trod_stays hl (hts t (List.mem_cons_self ..)).1 (hts t (List.mem_cons_self ..)).2 h1 (fun x hx=>hs x (List.mem_append_left _ hx)) (fun x hx=>hp x (List.mem_append_left _ hx)),
   trodAll_stays hl (fun t' ht=>hts t' (List.mem_cons_of_mem _ ht)) h2 (fun x hx=>hs x (List.mem_append_right _ hx)) (fun x hx=>hp x (List.mem_append_right _ hx)),rfl⟩
theorem post_of_below {fn:Func} {s:ChangeSpec} {W W':World} {args:Array Value} {ds gs:List (DataW H)} {before:List MemPlace} {tb:TypeId} (hl:laidOutB P=true) (hts:∀t∈fn.params.toList,P.readableRec t=true∧t<P.types.size) (hrt:fn.resultTypes= #[tb]) (hbt:P.underlying tb=some .bool) (hvars:s.vars=[])
  (hW:DataW.Whole enc P fn.params.toList s.vars false W args.toList ds gs before) (hfn:∀gs':List (DataW H),gs'=[]→s.fn H (ds++gs')={results:=[.lit (.bool true)],args:=ds}) (hb:Below W.heap.size W W'):s.post enc P fn false true false false W args (.bool true) W':=by
 have hWk:=hW
 obtain⟨p,q,hA,hV,rfl,hfz,_⟩:=hW
 rw [hvars] at hV
 obtain⟨rfl,rfl⟩:=trodVars_none hV
 have hlt:∀x∈p++[],x.block<W.heap.size:=fun x hx=>by simpa using hWk.lt x hx
 have hlt':∀x∈p,x.block<W.heap.size:=fun x hx=>hlt x (List.mem_append_left _ hx)
 have hres:∀(b:Nat) (sp:Nat→Bool) (hd:Bool),DataW.TrodAll enc P W' b sp hd fn.resultTypes.toList ((Value.bool true).resultList fn.resultTypes.size) (s.fn H (ds++[])).results []:=fun b sp hd=>by
  rw [hrt,hfn [] rfl]
  exact trodAll_cons_mk (shut_bool hbt _) trodAll_mk0
 have hargs:∀sp:Nat→Bool,(∀x∈p,sp x.block=true)→DataW.TrodAll enc P W' 0 sp true fn.params.toList args.toList (s.fn H (ds++[])).args p:=fun sp hsp=>by
  rw [hfn [] rfl]
  exact trodAll_stays hl hts hA (fun x hx=>hb.same (hlt' x hx)) hsp
 have hvr:∀sp:Nat→Bool,DataW.TrodVars enc P W' sp s.vars (s.fn H (ds++[])).vars []:=fun sp=>by
  rw [hvars,hfn [] rfl];exact rfl
 refine⟨ds,[],p++[],[],p,[],hWk,hres _ _ _,hargs _ (fun x hx=>by simpa using hlt' x hx),hvr _,hb.frame _,fun _=> ?_⟩
 refine⟨ok_one hrt rfl (okWide_bool_mk hbt _),_,_,([]++p)++[],⟨[]++p,[],trodAll_append (hargs _ (fun _ _=>rfl)) (hres _ _ _),hvr _,rfl,?_,fun h=>by cases h⟩,?_⟩
 ·intro b off hp
  have hp':MemPlace.cell b off∈p++[]:=by simpa using hp
  rw [Below.frozen hb (hlt _ hp')]
  exact hfz b off hp'
 ·intro x hx _
  simpa using hx
theorem arg_agg {α:Type} {c:α→List CV} {B:α→Nat→Prop} {t:TypeId} {fs:Array Field} (hr:Rdr P t c B) (ht:P.underlying t=some (.struct fs)) {W:World} {base:Nat} {v:Value} {d:DataW H} {p:List MemPlace} (ho:Value.okWide P W .any base t v) (h:DataW.Trod enc P W 0 (fun _=>true) true t v d p):
  ∃y,Rep0 (AllB W) W (.agg (c y)) v∧B y (Rows.uptoBulk d):=by
 obtain⟨cs,rfl,_⟩:=okWide_struct ht ho
 obtain⟨fuel,hf⟩:=h
 obtain⟨y,h1,h2⟩:=hr H enc W fuel _ _ hf
 exact⟨y,⟨cs.toList,by simp,h1⟩,h2⟩
theorem arg_cell {α:Type} {c:α→CV} {B:α→Nat→Prop} {t:TypeId} (hr:Rdr P t (fun y=>[c y]) B) {W:World} {v:Value} {d:DataW H} {p:List MemPlace} (hv:v.cells= #[v]) (h:DataW.Trod enc P W 0 (fun _=>true) true t v d p):
  ∃y,Rep0 (AllB W) W (.c (c y)) v∧B y (Rows.uptoBulk d):=by
 obtain⟨fuel,hf⟩:=h
 rw [hv] at hf
 obtain⟨y,h1,h2⟩:=hr H enc W fuel _ _ hf
 exact⟨y,h1.1,h2⟩
end
theorem wok_mono {xs:List Nat}:∀(m n:Nat),xs.length≤m∧(∀x∈xs,x<4294967296)→m≤n→xs.length≤n∧∀x∈xs,x<4294967296:=fun _ _ h hm=>⟨Nat.le_trans h.1 hm,h.2⟩
theorem rdr_words:Rdr Tryz.prog 39 (fun xs:List Nat=>[ws true xs]) (fun xs n=>xs.length≤n∧∀x∈xs,x<4294967296):=
 (rdr_slice (0:Nat) true Tryz.underlying39 (s:=1) (by kernel_rfl) om (fun _ _ _ h _=>h) (rdr_word Tryz.underlying139)).to id (fun ys=>by
  show [CV.row true 1 ys.length _]=[CV.row true 1 ys.length _]
  congr 2
  funext j
  show _=ofL [CV.int .u32 ((ys.getD (j/1) 0:Nat):Int)] (j%1)
  rw [Nat.div_one,Nat.mod_one]
  rfl) (fun _ _ h=>h)
theorem rdr_rat:Rdr Tryz.prog 41 (fun r:RD=>[CV.bool r.neg,ws true r.num,ws true r.den]) (fun r _=>(∀x∈r.num,x<4294967296)∧∀x∈r.den,x<4294967296):=by
 have r:=rdr_struct3 Tryz.underlying41 (s0:=1) (s1:=1) (s2:=1) (by kernel_rfl) (by kernel_rfl) (by kernel_rfl) (by kernel_rfl) rfl rfl rfl (rdr_bool Tryz.underlying4) rdr_words rdr_words (fun _ _ _ h _=>h) (fun _ m n=>wok_mono m n) (fun _ m n=>wok_mono m n)
 exact r.to (fun y=>⟨y.1,y.2.1,y.2.2⟩) (fun _=>rfl) (fun _ _ h=>⟨h.2.1.2,h.2.2.2⟩)
theorem rdr_rats:Rdr Tryz.prog 25 (fun p:List RD=>[rats false p]) (fun p n=>p.length≤n∧WordsOk p):=
 (rdr_slice rd0 false Tryz.underlying25 (s:=3) (by kernel_rfl) om (fun _ _ _ h _=>h) rdr_rat).to id (fun _=>rfl) (fun _ _ h=>h)
end Go.Proofs.YtefekdejgbceiaaGreat
namespace Go.PN
open Go.AI
def ofB (f:FM) (vs:List Bool) (s:Nat) (a:Int):Bool:=if a<f.vars then s.testBit a.toNat else vs.getD (a-f.vars).toNat false
def cntB (f:FM) (vs:List Bool) (s:Nat) (az:List Int):Nat:=(az.filter fun a=>ofB f vs s a).length
noncomputable def nodeB (f:FM) (vs:List Bool) (s:Nat) (x:FN):Bool:=
 if x.kind==0 then x.k==1 else if x.kind==1 then((cntB f vs s x.args:Nat):Int)==0 else if x.kind==2 then((cntB f vs s x.args:Nat):Int)==(x.args.length:Int)
 else if x.kind==3 then decide (((cntB f vs s x.args:Nat):Int)>0) else if x.kind==4 then decide (((cntB f vs s x.args:Nat):Int)≥x.k) else remZ ((cntB f vs s x.args:Nat):Int) 2==1
noncomputable def fvTo (f:FM) (s:Nat):Nat→List Bool
 |0=>List.replicate f.nodes.length false
 |k+1=>(fvTo f s k).set k (nodeB f (fvTo f s k) s (f.nodes.getD k fn0))
theorem fvTo_len (f:FM) (s:Nat):∀k,(fvTo f s k).length=f.nodes.length
 |0=>by simp [fvTo]
 |k+1=>by simp [fvTo,fvTo_len f s k]
structure FmOk (f:FM):Prop where
 v0:0≤f.vars
 v1:f.vars≤62
 n:f.nodes.length≤1000000
 a:∀x∈f.nodes,x.args.length≤1000000∧∀y∈x.args,0≤y∧y<f.vars+f.nodes.length
 t0:0≤f.top
 t1:f.top<f.vars+f.nodes.length
theorem le_oslbs {h:Heap} {g n:Nat} {ty:TypeId} {ys:List Bool} (hg:h.get g=some (.cells ty n (bsF ys))) (hn:n=ys.length):LeC h (.osl g 1 0 n) (bs false ys):=by
 subst hn
 exact .osl hg om (fun j _=>by rw [Nat.zero_add];exact .refl _)
theorem ler_oslbs {h:Heap} {t:Bool} {g n:Nat} {ty:TypeId} {ys:List Bool} (hg:h.get g=some (.cells ty n (bsF ys))) (hn:n=ys.length):LeR h (.osl g 1 0 n) (bs t ys):=by
 subst hn
 exact .osl hg om (fun j _=>by rw [Nat.zero_add];exact .bool _)
theorem cnt_take {f:FM} {vs:List Bool} {s:Nat} {az:List Int} {j:Nat} (h:j<az.length):cntB f vs s (az.take (j+1))=cntB f vs s (az.take j)+if ofB f vs s (az.getD j 0) then 1 else 0:=by
 unfold cntB
 rw [List.take_succ_eq_append_getElem h,List.filter_append,List.length_append,getDZ h]
 congr 1
 by_cases hb:ofB f vs s az[j]=true
 ·simp [hb]
 ·simp [hb]
theorem cnt_le {f:FM} {vs:List Bool} {s:Nat} {az:List Int}:cntB f vs s az≤az.length:=List.length_filter_le _ _
theorem getFN {xs:List FN} {i:Nat} (h:i<xs.length):xs.getD i fn0=xs[i]:=by
 rw [List.getD_eq_getElem?_getD,List.getElem?_eq_getElem h];rfl
end Go.PN
namespace Go.Proofs.YtefekdejgbceiaaGreat
open Go.AI Go.PN
attribute [local irreducible] aw Fa Fh DrK
theorem fof_fa (f:FM) (hf:FmOk f) (vs:List Bool) (s:Nat) (a:Int) (hs:s<9223372036854775808) (hv:vs.length=f.nodes.length) (h0:0≤a) (h1:a<f.vars+f.nodes.length):Fa Tryz.prog 149 [.agg (fmc false f),.c (bs false vs),.c (.int .i64 s),.c (.int .i64 a)] (.c (.bool (ofB f vs s a))):=by
 have f1:=hf.v0
 have f2:=hf.v1
 have f3:=hf.n
 unfold ofB
 refine fa_of_body Tryz.func149 rfl rfl (by simp [Tryz.ntmps149]) fun C hC=> ?_
 simp only [initS,Nat.reduceAdd]
 refine xG ?_
 refine xB fun g4 hn_g4=>?_
 refine yG hn_g4 ?_
 refine yF hn_g4 (fun hb=>?_) fun hb=>?_
 ·have hb':=of_decide_eq_true hb
  obtain⟨k,rfl⟩:∃k:Nat,a=k:=⟨a.toNat,by omega⟩
  have b1:=shrZ_nat s k om
  have b2:=and_one_nat (s/2^k) (Nat.lt_of_le_of_lt (Nat.div_le_self _ _) hs)
  have b3:=bit_eq s k
  have J1:=oj hn_g4 (oj b1 (oj b2 b3))
  refine yGT hC J1 ?_
  exact .one (.c (ler_bool (by rw [if_pos hb'];rfl)))
 ·have hb':=of_decide_eq_false hb
  refine yGT hC hn_g4 ?_
  exact .one (.c (ler_bool (by rw [if_neg hb'])))
theorem fvalues_fa (f:FM) (hf:FmOk f) (s:Nat) (hs:s<9223372036854775808):Fa Tryz.prog 150 [.agg (fmc false f),.c (.int .i64 s)] (.c (bs true (fvTo f s f.nodes.length))):=by
 have f1:=hf.v0
 have f2:=hf.v1
 have f3:=hf.n
 refine fa_of_body Tryz.func150 rfl rfl (by simp [Tryz.ntmps150]) fun C hC=> ?_
 simp only [initS,Nat.reduceAdd]
 refine xG ?_
 refine xB fun g2 hn_g2=>?_
 refine yG hn_g2 ?_
 refine aw_make (n:=f.nodes.length) (c:=f.nodes.length) (size:=1) (z:=[.bool false]) rfl rfl rfl (zE hn_g2) (zE hn_g2) rfl om (zE hn_g2) (zE hn_g2) rfl rfl om om om fun g hn_g=> ?_
 replace hn_g:=Heap.ne_of hn_g
 dsimp only [Heap.ne] at hn_g
 rw [make_bs f.nodes.length]
 have J1:=oj hn_g2 hn_g
 refine ySG J1 ?_
 refine aw_lp (fun i:Nat=>[(1,.c (.int .i64 s)),(2,.c (.optr g2 0)),(5,.c (.osl g 1 0 f.nodes.length)),(16,.c (fns false f.nodes)),(17,.c (.int .i64 f.nodes.length)),(18,.c (.int .i64 i))]) (fun i=>[(g,.cells 4 f.nodes.length (bsF (fvTo f s i))),(g2,.cells 24 3 (ofL (fmc false f)))]) (fun i=>i≤f.nodes.length) (fun i=>f.nodes.length-i) 0 (zB J1) zZ (Nat.zero_le _) ?_
 rintro i hi
 have hvl:=fvTo_len f s i
 refine yG J1 ?_
 refine yF J1 (fun h1=>?_) fun h1=>?_
 ·have h1':i<f.nodes.length:=dT h1
  obtain⟨ha1,ha2⟩:=hf.a (f.nodes.getD i fn0) (by rw [getFN h1'];exact List.getElem_mem h1')
  refine yG J1 ?_
  refine yA J1 fun g7 hn_g7=>?_
  have J2:=oj hn_g2 (oj hn_g hn_g7)
  refine yGWS J2 ?_
  have hst:fvTo f s (i+1)=(fvTo f s i).set i (nodeB f (fvTo f s i) s (f.nodes.getD i fn0)):=rfl
  generalize f.nodes.getD i fn0=x at*
  generalize fvTo f s i=vs at*
  refine yG J2 ?_
  refine aw_lp (fun j:Nat=>[(1,.c (.int .i64 s)),(2,.c (.optr g2 0)),(5,.c (.osl g 1 0 f.nodes.length)),(6,.c (.int .i64 i)),(7,.c (.optr g7 0)),(8,.c (.int .i64 (cntB f vs s (x.args.take j)))),(16,.c (fns false f.nodes)),(17,.c (.int .i64 f.nodes.length)),(18,.c (.int .i64 i)),(24,.c (is true x.args)),(25,.c (.int .i64 x.args.length)),(26,.c (.int .i64 j))]) (fun j=>[(g7,.cells 68 3 (ofL [.int .i64 x.kind,.int .i64 x.k,is true x.args])),(g,.cells 4 f.nodes.length (bsF vs)),(g2,.cells 24 3 (ofL (fmc false f)))]) (fun j=>j≤x.args.length) (fun j=>x.args.length-j) 0 (zB J2) zZ (Nat.zero_le _) ?_
  rintro j hj
  have hc1:=cnt_le (f:=f) (vs:=vs) (s:=s) (az:=x.args.take j)
  rw [List.length_take] at hc1
  refine yG J2 ?_
  refine yF J2 (fun h2=>?_) fun h2=>?_
  ·have h2':j<x.args.length:=dT h2
   obtain⟨y0,y1⟩:=ha2 (x.args.getD j 0) (by rw [getDZ h2'];exact List.getElem_mem h2')
   have hct:=cnt_take (f:=f) (vs:=vs) (s:=s) h2'
   refine yG J2 ?_
   refine aw_callq (fof_fa f hf vs s (x.args.getD j 0) hs hvl y0 y1) rfl rfl rfl (by refine yS J2 ?_;exact⟨.agg (lel_refl _),.c (le_oslbs (zE J2) hvl.symm),.c (.refl _),.c (.refl _)⟩) ?_
   refine ySG J2 ?_
   refine yF J2 (fun h3=>?_) fun h3=>?_
   ·rw [h3,if_pos rfl] at hct
    refine yG J2 ?_
    exact aw_stop ⟨j+1,by omega,(by rw [hct];exact(zB J2)),zZ,by omega⟩
   ·rw [h3,if_neg (by simp),Nat.add_zero] at hct
    refine yG J2 ?_
    exact aw_stop ⟨j+1,by omega,(by rw [hct];exact(zB J2)),zZ,by omega⟩
  ·have h2':j=x.args.length:=dF h2
   subst h2'
   rw [List.take_length]
   have hc2:=cnt_le (f:=f) (vs:=vs) (s:=s) (az:=x.args)
   refine yG J2 ?_
   refine yF J2 (fun k0=>?_) fun k0=>?_
   ·refine yGWS J2 ?_
    rw [updF_bs om]
    refine yG J2 ?_
    exact aw_stop ⟨i+1,by omega,(zB J2),List.Sublist.cons _ (by rw [hst,nodeB,if_pos k0];exact zZ),by omega⟩
   ·refine yG J2 ?_
    refine yF J2 (fun k1=>?_) fun k1=>?_
    ·refine yGWS J2 ?_
     rw [updF_bs om]
     refine yG J2 ?_
     exact aw_stop ⟨i+1,by omega,(zB J2),List.Sublist.cons _ (by rw [hst,nodeB,if_neg (by rw [k0];simp),if_pos k1];exact zZ),by omega⟩
    ·refine yG J2 ?_
     refine yF J2 (fun k2=>?_) fun k2=>?_
     ·refine yGWS J2 ?_
      rw [updF_bs om]
      refine yG J2 ?_
      exact aw_stop ⟨i+1,by omega,(zB J2),List.Sublist.cons _ (by rw [hst,nodeB,if_neg (by rw [k0];simp),if_neg (by rw [k1];simp),if_pos k2];exact zZ),by omega⟩
     ·refine yG J2 ?_
      refine yF J2 (fun k3=>?_) fun k3=>?_
      ·refine yGWS J2 ?_
       rw [updF_bs om]
       refine yG J2 ?_
       exact aw_stop ⟨i+1,by omega,(zB J2),List.Sublist.cons _ (by rw [hst,nodeB,if_neg (by rw [k0];simp),if_neg (by rw [k1];simp),if_neg (by rw [k2];simp),if_pos k3];exact zZ),by omega⟩
      ·refine yG J2 ?_
       refine yF J2 (fun k4=>?_) fun k4=>?_
       ·refine yGWS J2 ?_
        rw [updF_bs om]
        refine yG J2 ?_
        exact aw_stop ⟨i+1,by omega,(zB J2),List.Sublist.cons _ (by rw [hst,nodeB,if_neg (by rw [k0];simp),if_neg (by rw [k1];simp),if_neg (by rw [k2];simp),if_neg (by rw [k3];simp),if_pos k4];exact zZ),by omega⟩
       ·refine yGWS J2 ?_
        rw [updF_bs om]
        refine yG J2 ?_
        exact aw_stop ⟨i+1,by omega,(zB J2),List.Sublist.cons _ (by rw [hst,nodeB,if_neg (by rw [k0];simp),if_neg (by rw [k1];simp),if_neg (by rw [k2];simp),if_neg (by rw [k3];simp),if_neg (by rw [k4];simp)];exact zZ),by omega⟩
 ·have h1':i=f.nodes.length:=dF h1
  subst h1'
  refine yGT hC J1 ?_
  exact .one (.c (ler_oslbs (zE J1) hvl.symm))
noncomputable def fvalB (f:FM) (s:Nat):Bool:=ofB f (fvTo f s f.nodes.length) s f.top
theorem fvalue_fa (f:FM) (hf:FmOk f) (s:Nat) (hs:s<9223372036854775808):Fa Tryz.prog 115 [.agg (fmc false f),.c (.int .i64 s)] (.c (.bool (fvalB f s))):=by
 refine fa_of_body Tryz.func115 rfl rfl (by simp [Tryz.ntmps115]) fun C hC=> ?_
 simp only [initS,Nat.reduceAdd]
 refine xG ?_
 refine xB fun g2 hn_g2=>?_
 refine yG hn_g2 ?_
 refine aw_dr 9 ty_mixed (by kernel_rfl) ?_
 refine yG hn_g2 ?_
 refine yD hn_g2 (fvalues_fa f hf s hs) ?_
 refine yG hn_g2 ?_
 refine yD hn_g2 (fof_fa f hf (fvTo f s f.nodes.length) s f.top hs (fvTo_len f s _) hf.t0 hf.t1) ?_
 refine yGT hC hn_g2 ?_
 exact .one (.c (.bool _))
end Go.Proofs.YtefekdejgbceiaaGreat
