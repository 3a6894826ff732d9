/- Parts of one proof, laid by a program. -/
import Derived.Test.YtefekdejgbceiaaGreatM00
import Derived.Test.YtefekdejgbceiaaGreatM10
set_option linter.unusedSimpArgs false
set_option linter.unusedVariables false
set_option maxRecDepth 100000
set_option maxHeartbeats 12800000
namespace Go.PN
open Go.AI
inductive ExR (ns:List DN):List Int→List DN→Int→List Int→List DN→Int→Prop
 |same {rs:List Int} {os:List DN} {r x:Int} (h:exR rs r=some x):ExR ns rs os r rs os x
 |node {rs rs1 rs2:List Int} {os os1 os2:List DN} {r xl xh:Int} (h:exR rs r=none) (a:ExR ns rs os (ns.getD (r-2).toNat dn0).lo rs1 os1 xl) (b:ExR ns rs1 os1 (ns.getD (r-2).toNat dn0).hi rs2 os2 xh):
  ExR ns rs os r (rs2++[r]) (os2++[⟨(ns.getD (r-2).toNat dn0).v,xl,xh⟩]) ((rs2.length:Int)+2)
theorem ExR.det {ns:List DN} {rs:List Int} {os:List DN} {r:Int} {rs1:List Int} {os1:List DN} {x1:Int} (h:ExR ns rs os r rs1 os1 x1):∀{rs2:List Int} {os2:List DN} {x2:Int},ExR ns rs os r rs2 os2 x2→rs1=rs2∧os1=os2∧x1=x2:=by
 induction h with
 |same h=>
  intro rs2 os2 x2 k
  cases k with
  |same k=>rw [h] at k;injection k with k;exact⟨rfl,rfl,k⟩
  |node k _ _=>rw [h] at k;cases k
 |node h _ _ iha ihb=>
  intro rs2 os2 x2 k
  cases k with
  |same k=>rw [h] at k;cases k
  |node k a b=>
   obtain⟨rfl,rfl,rfl⟩:=iha a
   obtain⟨rfl,rfl,rfl⟩:=ihb b
   exact⟨rfl,rfl,rfl⟩
structure ZEx (n:Nat) (ns:List DN) (rs:List Int) (os:List DN) (rs':List Int) (os':List DN) (r x:Int):Prop where
 ok:ExOk ns rs' os'
 pre:∃zs,rs'=rs++zs
 preo:∃ys,os'=os++ys
 ref:exR rs' r=some x
 run:ExR ns rs os r rs' os' x
 below:∀z∈rs',z∈rs∨z≤r
 len:rs'.length≤rs.length+(2^(n-evZ n ns r).toNat-1)
theorem zex_same {n:Nat} {ns:List DN} {rs:List Int} {os:List DN} {r x:Int} (h:ExOk ns rs os) (e:exR rs r=some x):ZEx n ns rs os rs os r x:=
 ⟨h,⟨[],by simp⟩,⟨[],by simp⟩,e,.same e,fun z hz=>.inl hz,by omega⟩
theorem exR_none {rs:List Int} {r:Int} (h2:2≤r) (hn:r∉rs):exR rs r=none:=by
 unfold exR
 rw [if_neg om,if_neg hn]
theorem zex_node {n:Nat} {ns:List DN} {rs rs1 rs2:List Int} {os os1 os2:List DN} {r xl xh:Int} (ht:ZTab n ns) (h2:2≤r) (hr:r<ns.length+2) (hnew:r∉rs)
  (a:ZEx n ns rs os rs1 os1 (ns.getD (r-2).toNat dn0).lo xl) (b:ZEx n ns rs1 os1 rs2 os2 (ns.getD (r-2).toNat dn0).hi xh):
  r∉rs2∧ZEx n ns rs os (rs2++[r]) (os2++[⟨(ns.getD (r-2).toNat dn0).v,xl,xh⟩]) r ((rs2.length:Int)+2):=by
 have hi':(r-2).toNat<ns.length:=by omega
 have nk:=(ht _ hi').nk
 obtain⟨v0,v1,l0,l1,g0,g1⟩:=nk
 obtain⟨z1,e1⟩:=a.pre
 obtain⟨z2,e2⟩:=b.pre
 obtain⟨y1,f1⟩:=a.preo
 obtain⟨y2,f2⟩:=b.preo
 have hout:r∉rs2:=fun hm=>by
  rcases b.below r hm with hm|hm
  ·rcases a.below r hm with hm|hm
   ·exact hnew hm
   ·omega
  ·omega
 have hax:exR rs2 (ns.getD (r-2).toNat dn0).lo=some xl:=by rw [e2];exact exR_app a.ref
 have hxl:=exR_lt l0 hax
 have hxh:=exR_lt g0 b.ref
 have hlen2:=b.ok.len
 refine⟨hout,⟨⟨by simp [hlen2],?_,fun z hz=> ?_,fun j hj=> ?_⟩,⟨z1++z2++[r],by rw [e2,e1];simp⟩,⟨y1++y2++[⟨(ns.getD (r-2).toNat dn0).v,xl,xh⟩],by rw [f2,f1];simp only [List.append_assoc]⟩,?_,.node (exR_none h2 hnew) a.run b.run,fun z hz=> ?_,?_⟩⟩
 ·exact List.nodup_append.2 ⟨b.ok.nd,by simp,fun a ha c hc=>by
   rw [List.mem_singleton] at hc;subst hc;exact fun e=>hout (e▸ha)⟩
 ·rcases List.mem_append.1 hz with hz|hz
  ·exact b.ok.bd z hz
  ·rw [List.mem_singleton] at hz;subst hz;exact⟨h2,hr⟩
 ·rw [List.length_append,List.length_singleton] at hj
  by_cases hjl:j<rs2.length
  ·obtain⟨lo,hi,q1,q2,q3⟩:=b.ok.node j hjl
   have e:(rs2++[r]).getD j 0=rs2.getD j 0:=by
    rw [List.getD_eq_getElem?_getD,List.getD_eq_getElem?_getD,List.getElem?_append_left hjl]
   rw [e,List.take_append_of_le_length om]
   exact⟨lo,hi,q1,q2,by rw [getD_app om];exact q3⟩
  ·have hj':j=rs2.length:=by omega
   subst hj'
   have e:(rs2++[r]).getD rs2.length 0=r:=by
    rw [List.getD_eq_getElem?_getD,List.getElem?_append_right (Nat.le_refl _),Nat.sub_self];rfl
   rw [e,List.take_append_of_le_length (Nat.le_refl _),List.take_length]
   refine⟨xl,xh,hax,b.ref,?_⟩
   rw [←hlen2,List.getD_eq_getElem?_getD,List.getElem?_append_right (Nat.le_refl _),Nat.sub_self];rfl
 ·unfold exR
  rw [if_neg om,if_pos (by simp),List.idxOf_append,if_neg hout]
  simp
 ·rcases List.mem_append.1 hz with hz|hz
  ·rcases b.below z hz with h|h
   ·rcases a.below z h with h|h
    ·exact .inl h
    ·exact .inr om
   ·exact .inr om
  ·rw [List.mem_singleton] at hz;exact .inr om
 ·have nd:=ht _ hi'
  have b1:=nd.bl
  have b2:=nd.bh
  have hlr:evZ n ns r=(ns.getD (r-2).toNat dn0).v:=evZ_node h2
  obtain⟨kl,kh⟩:=ht.kids hi'
  have ll:=(evZ_le ht kl).2.1
  have lh:=(evZ_le ht kh).2.1
  have la:=a.len
  have lb:=b.len
  obtain⟨q,hq⟩:∃q,(n-evZ n ns r).toNat=q+1:=⟨(n-evZ n ns r).toNat-1,by omega⟩
  have pa:2^((n:Int)-evZ n ns (ns.getD (r-2).toNat dn0).lo).toNat≤2^q:=Nat.pow_le_pow_right om om
  have pb:2^((n:Int)-evZ n ns (ns.getD (r-2).toNat dn0).hi).toNat≤2^q:=Nat.pow_le_pow_right om om
  have pq:0<2^q:=Nat.pow_pos om
  rw [hq,Nat.pow_succ,List.length_append,List.length_singleton]
  omega
theorem ZTab.mono {n m:Nat} {ns:List DN} (h:ZTab n ns) (hm:n≤m):ZTab m ns:=fun i hi=>by
 obtain⟨nk,h0,bl,bh,new⟩:=h i hi
 obtain⟨v0,v1,l0,l1,g0,g1⟩:=nk
 have hev:∀r,evZ n ns r≤evZ m ns r:=fun r=>by unfold evZ;split<;>omega
 exact⟨⟨v0,by omega,l0,l1,g0,g1⟩,h0,by have:=hev (ns.getD i dn0).lo;omega,by have:=hev (ns.getD i dn0).hi;omega,new⟩
theorem ExOk.inj {n:Nat} {ns:List DN} {rs:List Int} {os:List DN} (ht:ZTab n ns) (h:ExOk ns rs os) {k j:Nat} (hk:k<rs.length) (hj:j<rs.length) (e:os.getD k dn0=os.getD j dn0):k=j:=by
 obtain⟨lo,hi,e1,e2,e3⟩:=h.node j hj
 obtain⟨lo',hi'',f1,f2,f3⟩:=h.node k hk
 rw [f3,e3] at e
 injection e with ev el eh
 subst el eh
 have q1:=exR_inj (exR_take f1) (exR_take e1)
 have q2:=exR_inj (exR_take f2) (exR_take e2)
 have hb:=h.ref hj
 have hkb:=h.ref hk
 have same:ns.getD (rs.getD k 0-2).toNat dn0=ns.getD (rs.getD j 0-2).toNat dn0:=by
  cases hA:ns.getD (rs.getD k 0-2).toNat dn0
  cases hB:ns.getD (rs.getD j 0-2).toNat dn0
  rw [hA,hB] at q1 q2 ev
  dsimp only at q1 q2 ev
  rw [q1,q2,ev]
 have hik:(rs.getD k 0-2).toNat<ns.length:=by omega
 have hij:(rs.getD j 0-2).toNat<ns.length:=by omega
 have hrr:rs.getD k 0=rs.getD j 0:=by
  refine Classical.byContradiction fun hne=> ?_
  rcases Nat.lt_or_gt_of_ne (show(rs.getD k 0-2).toNat≠(rs.getD j 0-2).toNat from fun e=>hne om) with hl|hl
  ·refine(ht _ hij).new ?_
   rw [←same]
   exact take_memN.2 ⟨_,hl,hik,rfl⟩
  ·refine(ht _ hik).new ?_
   rw [same]
   exact take_memN.2 ⟨_,hl,hij,rfl⟩
 have p1:=place_get h.nd hk
 have p2:=place_get h.nd hj
 rw [hrr] at p1
 omega
theorem ExOk.evz {n:Nat} {ns:List DN} {rs:List Int} {os:List DN} (h:ExOk ns rs os) {r x:Int} (e:exR rs r=some x):evZ n os x=evZ n ns r:=by
 by_cases h2:r<2
 ·unfold exR at e;rw [if_pos h2] at e;injection e with e;subst e
  rw [ev_leaf h2,ev_leaf h2]
 ·obtain⟨j,hj,er,rfl⟩:=h.find om e
  obtain⟨lo,hi,e1,e2,e3⟩:=h.node j hj
  rw [evZ_node om,evZ_node om,show((2:Int)+(j:Int)-2).toNat=j from by omega,e3,er]
theorem ExOk.ztab {n:Nat} {ns:List DN} {rs:List Int} {os:List DN} (ht:ZTab n ns) (h:ExOk ns rs os):ZTab n os:=fun j hj=>by
 have hj':j<rs.length:=by rw [←h.len];exact hj
 obtain⟨lo,hi,e1,e2,e3⟩:=h.node j hj'
 have hb:=h.ref hj'
 have hi':(rs.getD j 0-2).toNat<ns.length:=by omega
 have nd:=ht _ hi'
 obtain⟨v0,v1,_,_,_,_⟩:=nd.nk
 obtain⟨r1,r2⟩:=ht.kids hi'
 have b1:=exR_lt r1.1 e1
 have b2:=exR_lt r2.1 e2
 rw [List.length_take] at b1 b2
 refine⟨?_,?_,?_,?_,?_⟩
 ·rw [e3];exact⟨v0,v1,b1.1,by show lo<j+2;omega,b2.1,by show hi<j+2;omega⟩
 ·rw [e3]
  dsimp only
  intro e0
  subst e0
  refine nd.hi ?_
  have:exR (rs.take j) 0=some 0:=rfl
  exact exR_inj e2 this
 ·rw [e3];dsimp only;rw [h.evz (exR_take e1)];exact nd.bl
 ·rw [e3];dsimp only;rw [h.evz (exR_take e2)];exact nd.bh
 ·intro hm
  obtain⟨k,hk,hkl,ek⟩:=take_memN.1 hm
  have:=h.inj ht (k:=k) (j:=j) om hj' ek
  omega
theorem ExOk.mem {n:Nat} {ns:List DN} {rs:List Int} {os:List DN} (ht:ZTab n ns) (h:ExOk ns rs os):∀r,RefOk ns r→∀(x:Int) (s:Nat),exR rs r=some x→memZ os x s=memZ ns r s:=by
 have leaf:∀(r x:Int) (s:Nat),r<2→exR rs r=some x→memZ os x s=memZ ns r s:=fun r x s h2 e=>by
  unfold exR at e;rw [if_pos h2] at e;injection e with e;subst e
  rw [mem_leaf om,mem_leaf om]
 refine ht.ind (fun r h0 h1 x s e=>leaf r x s om e) fun r h2 hr il ih x s e=> ?_
 have hx:=exR_lt hr.1 e
 have zt:=h.ztab ht
 obtain⟨j,hj,er,rfl⟩:=h.find om e
 obtain⟨lo,hi,e1,e2,e3⟩:=h.node j hj
 rw [er] at e1 e2 e3
 have hl:=h.len
 rw [mem_step zt om ⟨by omega,by rw [hl];omega⟩,mem_step ht h2 hr,show((2:Int)+(j:Int)-2).toNat=j from by omega,e3]
 dsimp only
 rw [ih _ _ (exR_take e2),il _ _ (exR_take e1)]
theorem idx_nums {n:Nat} {x:Int} (h2:2≤x) (hx:x<n+2):((numsL n).idxOf x:Int)=x-2:=by
 have hm:x∈numsL n:=mem_numsL.2 ⟨h2,hx⟩
 have hn:(numsL n).Nodup:=by
  unfold numsL
  exact List.Pairwise.map _ (fun a b h e=>h om) (List.nodup_range (n:=n))
 have hlen:(numsL n).length=n:=by simp [numsL]
 have hg:(numsL n).getD (x-2).toNat 0=x:=by
  rw [getDZ (by rw [hlen];omega)]
  simp [numsL]
  omega
 have:=place_get hn (k:=(x-2).toNat) (by rw [hlen];omega)
 rw [hg] at this
 unfold placeZ at this
 rw [if_pos hm] at this
 omega
theorem exR_nums {n:Nat} {x:Int} (h0:0≤x) (hx:x<n+2):exR (numsL n) x=some x:=by
 unfold exR
 by_cases h2:x<2
 ·rw [if_pos h2]
 ·rw [if_neg h2,if_pos (mem_numsL.2 ⟨by omega,hx⟩),idx_nums om hx]
  congr 1;omega
theorem ExR.again {n:Nat} {ns:List DN} (ht:ZTab n ns) {rs:List Int} {os:List DN} {r:Int} {rs':List Int} {os':List DN} {x:Int} (h:ExR ns rs os r rs' os' x):RefOk ns r→os.length=rs.length→
  (∃zs,os'=os++zs)∧rs.length≤rs'.length∧os'.length=rs'.length∧(0≤x∧x<rs'.length+2)∧∀ys,ExR (os'++ys) (numsL rs.length) os x (numsL rs'.length) os' x:=by
 induction h with
 |same h=>
  intro hr hl
  have hx:=exR_lt hr.1 h
  exact⟨⟨[],by simp⟩,Nat.le_refl _,hl,hx,fun ys=>.same (exR_nums hx.1 hx.2)⟩
 | @node rs rs1 rs2 os os1 os2 r xl xh h a b iha ihb=>
   intro hr hl
   have h2:2≤r:=by
    refine Classical.byContradiction fun hc=> ?_
    unfold exR at h
    rw [if_pos om] at h
    cases h
   have hi:(r-2).toNat<ns.length:=by unfold RefOk at hr;omega
   obtain⟨kl,kh⟩:=ht.kids hi
   obtain⟨⟨z1,e1⟩,l1,m1,x1,a1⟩:=iha kl hl
   obtain⟨⟨z2,e2⟩,l2,m2,x2,b1⟩:=ihb kh m1
   refine⟨⟨z1++z2++[_],by rw [e2,e1,List.append_assoc,List.append_assoc,List.append_assoc]⟩,by simp;omega,by simp [m2],⟨by omega,by rw [List.length_append,List.length_singleton];omega⟩,fun ys=> ?_⟩
   have hg:((os2++[(⟨(ns.getD (r-2).toNat dn0).v,xl,xh⟩:DN)])++ys).getD ((rs2.length:Int)+2-2).toNat dn0=⟨(ns.getD (r-2).toNat dn0).v,xl,xh⟩:=by
    rw [show((rs2.length:Int)+2-2).toNat=os2.length from by omega,List.append_assoc,List.getD_eq_getElem?_getD,List.getElem?_append_right (Nat.le_refl _),Nat.sub_self];rfl
   have a2:=a1 (z2++([(⟨(ns.getD (r-2).toNat dn0).v,xl,xh⟩:DN)]++ys))
   have b2:=b1 ([(⟨(ns.getD (r-2).toNat dn0).v,xl,xh⟩:DN)]++ys)
   rw [←List.append_assoc,←e2,←List.append_assoc] at a2
   rw [←List.append_assoc] at b2
   have nd:=ExR.node (ns:=(os2++[(⟨(ns.getD (r-2).toNat dn0).v,xl,xh⟩:DN)])++ys) (rs:=numsL rs.length) (os:=os) (r:=(rs2.length:Int)+2) (rs1:=numsL rs1.length) (rs2:=numsL rs2.length) (os1:=os1) (os2:=os2) (xl:=xl) (xh:=xh)
    (exR_none om (by rw [mem_numsL];omega)) (by rw [hg];exact a2) (by rw [hg];exact b2)
   rw [hg] at nd
   have hlen:(numsL rs2.length).length=rs2.length:=by simp [numsL]
   rw [hlen,←numsL_succ'] at nd
   rw [List.length_append,List.length_singleton]
   exact nd
structure ZD where
 nodes:List DN
 root:Int
structure ZOut (n:Nat) (F:Nat→Bool) (z:ZD):Prop where
 tab:ZTab n z.nodes
 ref:RefOk z.nodes z.root
 mem:∀s,memZ z.nodes z.root s=F s
 again:∃rs,ExR z.nodes [] [] z.root rs z.nodes z.root
theorem ZEx.out {n:Nat} {ns:List DN} {rs:List Int} {os:List DN} {r x:Int} (ht:ZTab n ns) (hr:RefOk ns r) (h:ZEx n ns [] [] rs os r x):ZOut n (fun s=>memZ ns r s) ⟨os,x⟩:=by
 have hx:=exR_lt hr.1 h.ref
 have hl:=h.ok.len
 obtain⟨_,_,_,_,ag⟩:=ExR.again ht h.run hr rfl
 have:=ag []
 rw [List.append_nil] at this
 exact⟨h.ok.ztab ht,⟨hx.1,by show x<os.length+2;omega⟩,fun s=>h.ok.mem ht r hr x s h.ref,⟨_,this⟩⟩
def highN (v s:Nat):Nat:=(s>>>v)<<<v
theorem high_bit (v s j:Nat):(highN v s).testBit j=(decide (v≤j)&&s.testBit j):=by
 unfold highN
 rw [Nat.testBit_shiftLeft,Nat.testBit_shiftRight]
 by_cases h:v≤j
 ·simp only [ge_iff_le,h,decide_true,Bool.true_and];congr 1;omega
 ·simp [h]
structure ZSm (n:Nat) (ns:List DN) (sl sl':List Int) (r:Int):Prop where
 pre:∃zs,sl'=sl++zs
 len:sl'.length≤sl.length+(2^(n-evZ n ns r).toNat-1)
theorem ZSm.same {n:Nat} {ns:List DN} {sl:List Int} {r:Int}:ZSm n ns sl sl r:=⟨⟨[],by simp⟩,by omega⟩
theorem ZSm.node {n:Nat} {ns:List DN} {sl s1 s2:List Int} {r:Int} (ht:ZTab n ns) (h2:2≤r) (hr:r<ns.length+2) (a:ZSm n ns (sl++[r]) s1 (ns.getD (r-2).toNat dn0).lo) (b:ZSm n ns s1 s2 (ns.getD (r-2).toNat dn0).hi):ZSm n ns sl s2 r:=by
 obtain⟨z1,e1⟩:=a.pre
 obtain⟨z2,e2⟩:=b.pre
 refine⟨⟨[r]++z1++z2,by rw [e2,e1];simp⟩,?_⟩
 have hi':(r-2).toNat<ns.length:=by omega
 have nd:=ht _ hi'
 have b1:=nd.bl
 have b2:=nd.bh
 have hlr:evZ n ns r=(ns.getD (r-2).toNat dn0).v:=evZ_node h2
 obtain⟨kl,kh⟩:=ht.kids hi'
 have ll:=(evZ_le ht kl).2.1
 have lh:=(evZ_le ht kh).2.1
 have la:=a.len
 have lb:=b.len
 rw [List.length_append,List.length_singleton] at la
 obtain⟨q,hq⟩:∃q,(n-evZ n ns r).toNat=q+1:=⟨(n-evZ n ns r).toNat-1,by omega⟩
 have pa:2^((n:Int)-evZ n ns (ns.getD (r-2).toNat dn0).lo).toNat≤2^q:=Nat.pow_le_pow_right om om
 have pb:2^((n:Int)-evZ n ns (ns.getD (r-2).toNat dn0).hi).toNat≤2^q:=Nat.pow_le_pow_right om om
 have pq:0<2^q:=Nat.pow_pos om
 rw [hq,Nat.pow_succ]
 omega
end Go.PN
namespace Go.AI
@[go_sem ↓] theorem updF_2_0' (a b x:CV):updF (ofL [a,b]) 0 [x]=ofL [x,b]:=updF_at [a,b] 0 x (by simp)
@[go_sem ↓] theorem updF_2_1' (a b x:CV):updF (ofL [a,b]) 1 [x]=ofL [a,x]:=updF_at [a,b] 1 x (by simp)
end Go.AI
namespace Go.PN
open Go.AI
abbrev zdc (t:Bool) (z:ZD):List CV:=[dns t z.nodes,.int .i64 z.root]
end Go.PN
namespace Go.Proofs.YtefekdejgbceiaaGreat
open Go.AI Go.PN
attribute [local irreducible] aw Fa Fh DrK
abbrev SZ6 (g1 g2 g3 g4 gd gT:Nat) (most:Int) (sl:List Int):Heap:=
 [(g1,.cells 116 1 (ofL [.raw (.map (some gd))])),(g2,.cells 3 1 (ofL [.int .i64 most])),(g3,.cells 117 1 (ofL [fnC 184 [g1,g2,g3,g4]])),(g4,.cells 169 1 (ofL [.optr gT 0])),(gd,.gen (MapI keyI (snL sl)))]
theorem zswalk_fh (g1 g2 g3 g4 gd gT gU gM:Nat) (most:Int) {n:Nat} {og:Option Nat} {ns:List DN} {mm:Mem3} (hs:ZS n og ns mm) (hn:ns.length≤1000000000):∀(k:Nat) (r:Int) (sl:List Int),r.toNat<k→RefOk ns r→
  Fh Tryz.prog 184 (SZ6 g1 g2 g3 g4 gd gT most sl++ZHp gT gU gM og ns mm) ([.c (.int .i64 r)]++[g1,g2,g3,g4].map fun g=>.c (.optr g 0)) (fun x h=>∃sl',ZSm n ns sl sl' r∧x=.tup []∧h=SZ6 g1 g2 g3 g4 gd gT most sl'++ZHp gT gU gM og ns mm):=by
 intro k
 induction k with
 |zero=>intro r sl hk;omega
 |succ k ih=>
  intro r sl hk hr
  simp only [List.cons_append,List.nil_append,List.map_cons,List.map_nil]
  refine fh_of_body Tryz.func184 rfl rfl (by simp [Tryz.ntmps184]) fun C hC=> ?_
  simp only [initS,Nat.reduceAdd]
  simp only [SZ6,ZHp,ZH,List.cons_append,List.nil_append]
  refine aw_nd fun hnd=> ?_
  simp only [Heap.keys,List.map_cons] at hnd
  replace hnd:=ndP_of hnd
  dsimp only [ndP,neA] at hnd
  refine yG hnd ?_
  refine aw_split 8 (zE hnd) (fun h1=> ?_) (fun h1=> ?_)<;>refine yS hnd ?_
  ·refine yGPGU hnd ?_
   exact⟨sl,ZSm.same,rfl,rfl⟩
  have h1':=of_decide_eq_false h1
  have h2:2≤r:=by omega
  refine yG hnd ?_
  refine aw_lookup (a:=r) (kv:=snL sl) (Kf:=keyI) (kt:=3) (et:=4) rfl rfl rfl (by kernel_rfl) ty_ki ty_bz (zE hnd) (zE hnd) (zE hnd) keyI_rep ?_
  refine yS hnd ?_
  rw [sn_get]
  by_cases hm:r∈sl
  ·rw [if_pos hm]
   simp only [Option.getD_some,cstC]
   refine yGPGU hnd ?_
   exact⟨sl,ZSm.same,rfl,rfl⟩
  rw [if_neg hm]
  simp only [Option.getD_none,cstC]
  refine yG hnd ?_
  refine aw_lenMap (kv:=snL sl) (Kf:=keyI) (kt:=3) (et:=4) rfl rfl rfl (by kernel_rfl) (zE hnd) (zE hnd) ?_
  refine ySG hnd ?_
  refine yF hnd (fun h3=>?_) fun h3=>?_
  ·refine yG hnd ?_
   refine yU hnd ?_
   exact⟨sl,ZSm.same,rfl,rfl⟩
  obtain⟨g,rfl⟩:∃g,og=some g:=by
   cases og with
   |none=>have:=hs.og rfl;unfold RefOk at hr;omega
   |some g=>exact⟨g,rfl⟩
  simp only [gh,List.map_cons,List.map_nil,neA,ndP] at hnd
  simp only [gs,gh]
  have hi:(r-2).toNat<ns.length:=by unfold RefOk at hr;omega
  obtain⟨w0,w1,w2,w3,w4,w5⟩:=(hs.tab.ns _ hi)
  obtain⟨kl,kh⟩:=hs.tab.kids hi
  have hrl:r<ns.length+2:=hr.2
  have nd0:∀s1 s2,ZSm n ns (sl++[r]) s1 (ns.getD (r-2).toNat dn0).lo→ZSm n ns s1 s2 (ns.getD (r-2).toNat dn0).hi→ZSm n ns sl s2 r:=fun s1 s2 a b=>ZSm.node hs.tab h2 hrl a b
  generalize hx0:ns.getD (r-2).toNat dn0=nd at*
  have J1:=oj hnd hx0
  refine yG J1 ?_
  refine aw_mapNew (a:=r) (kv:=snL sl) (Kf:=keyI) (v:=.bool true) rfl rfl rfl (kt:=3) (et:=4) (by kernel_rfl) ty_ki (zE J1) (zE J1) (zE J1) keyI_rep (cv:=.c (.bool true)) (zE J1) (fun S w u h=>h) (by rw [sn_get,if_neg hm]) (zE J1) ?_
  rw [sn_push]
  refine ySG J1 ?_
  refine aw_cw ([(g3,.cells 117 1 (ofL [fnC 184 [g1,g2,g3,g4]])),(g4,.cells 169 1 (ofL [.optr gT 0])),(gT,.cells 205 3 (ofL [.osl g 3 0 ns.length,.raw (.map (some gU)),.raw (.map (some gM))])),(g,.cells 119 (ns.length*3) (dnsF ns))]) [(0,0),(1,0),(2,0),(3,0),(4,0),(5,0),(6,0),(7,0),(8,0),(9,0),(10,1)] ty_mixed (by kernel_rfl) eI ?_
  refine yG J1 ?_
  refine cw_callhv (gs:=[g1,g2,g3,g4]) (hr:=[]) rfl (ih nd.lo (sl++[r]) om kl) rfl rfl rfl (zE J1) (by rw [List.append_nil];exact .refl _) (zL J1) (by
   rintro _ _ ⟨_,_,rfl,rfl⟩;simp only [SZ6,ZHp,ZH,gs,gh,List.append_assoc,List.cons_append,List.nil_append];exact eI) ?_ (hm:=.inr ⟨rfl,rfl⟩)
  rintro _ _ ⟨sl1,m1,rfl,rfl⟩ _
  rw [List.append_nil]
  simp only [SZ6,ZHp,ZH,gs,gh,List.cons_append,List.nil_append]
  refine ySG J1 ?_
  refine aw_cw ([(g3,.cells 117 1 (ofL [fnC 184 [g1,g2,g3,g4]])),(g4,.cells 169 1 (ofL [.optr gT 0])),(gT,.cells 205 3 (ofL [.osl g 3 0 ns.length,.raw (.map (some gU)),.raw (.map (some gM))])),(g,.cells 119 (ns.length*3) (dnsF ns))]) [(0,0),(1,0),(2,0),(3,0),(4,0),(5,0),(6,0),(7,0),(8,0),(9,0),(10,1)] ty_mixed (by kernel_rfl) eI ?_
  refine yG J1 ?_
  refine cw_callhv (gs:=[g1,g2,g3,g4]) (hr:=[]) rfl (ih nd.hi sl1 om kh) rfl rfl rfl (zE J1) (by rw [List.append_nil];exact .refl _) (zL J1) (by
   rintro _ _ ⟨_,_,rfl,rfl⟩;simp only [SZ6,ZHp,ZH,gs,gh,List.append_assoc,List.cons_append,List.nil_append];exact eI) ?_ (hm:=.inr ⟨rfl,rfl⟩)
  rintro _ _ ⟨sl2,m2,rfl,rfl⟩ _
  rw [List.append_nil]
  refine ySG J1 ?_
  refine yV J1 ?_
  exact⟨sl2,nd0 sl1 sl2 m1 m2,rfl,rfl⟩
theorem zsmall_fh (gT gU gM:Nat) {n:Nat} {og:Option Nat} {ns:List DN} {mm:Mem3} (hs:ZS n og ns mm) (hn:ns.length≤1000000000) {r:Int} (hr:RefOk ns r) {most:Int} (hm:((2^n:Nat):Int)≤most+1):
  Fh Tryz.prog 165 (ZHp gT gU gM og ns mm) [.c (.optr gT 0),.c (.int .i64 r),.c (.int .i64 most)] (fun x h=>x=.c (.bool true)∧h=ZHp gT gU gM og ns mm):=by
 refine fh_of_body Tryz.func165 rfl rfl (by simp [Tryz.ntmps165]) fun C hC=> ?_
 simp only [initS,Nat.reduceAdd]
 unfold ZHp ZH
 simp only [List.cons_append,List.nil_append]
 refine xG ?_
 refine xB fun g3 hn_g3=>?_
 refine yG hn_g3 ?_
 refine yB hn_g3 fun g5 hn_g5=>?_
 refine yG (oj hn_g3 hn_g5) ?_
 refine aw_makeMap (Kf:=keyI) rfl rfl rfl fun gd hn_gd=> ?_
 replace hn_gd:=Heap.ne_of hn_gd
 dsimp only [Heap.ne,gh] at hn_gd
 have J1:=oj hn_g3 (oj hn_g5 hn_gd)
 refine ySG J1 ?_
 refine yA J1 fun g7 hn_g7=>?_
 have J2:=oj hn_g3 (oj hn_g5 (oj hn_gd hn_g7))
 refine yGWSG J2 ?_
 refine yA J2 fun g8 hn_g8=>?_
 have J3:=oj hn_g3 (oj hn_g5 (oj hn_gd (oj hn_g7 hn_g8)))
 refine yG J3 ?_
 refine aw_makeFunc (gs:=[g7,g5,g8,g3]) rfl rfl rfl (zE J3) ?_
 refine ySGWSG J3 ?_
 refine aw_callhv (hr:=[]) (zswalk_fh g7 g5 g8 g3 gd gT gU gM most hs hn (r.toNat+1) r [] om hr) rfl rfl rfl (zE J3) ?hp (zL J3) ?_
 ·rw [List.append_nil]
  exact(permL [(g8,_),(g7,_),(gd,_),(g5,_),(g3,_)] [0,1,2,3,4] [1,3,0,4,2] (by decide)).append_right (ZHp gT gU gM og ns mm)
 rintro _ _ ⟨sl,m,rfl,rfl⟩ _
 rw [List.append_nil]
 have hl:sl.length≤2^n-1:=by
  have h0:=(evZ_le hs.tab hr).1
  have:=m.len
  have hp:2^((n:Int)-evZ n ns r).toNat≤2^n:=Nat.pow_le_pow_right om om
  simp only [List.length_nil] at this
  omega
 have hd:decide ((sl.length:Int)≤most)=true:=decide_eq_true (by
  have:=Nat.pow_pos (n:=n) (show 0<2 by omega)
  omega)
 unfold ZHp ZH SZ6
 simp only [List.cons_append,List.nil_append]
 refine ySG J3 ?_
 refine aw_lenMap (kv:=snL sl) (Kf:=keyI) (kt:=3) (et:=4) rfl rfl rfl (by kernel_rfl) (zE J3) (zE J3) ?_
 rw [show(snL sl).length=sl.length from by simp [snL]]
 have J4:=oj hn_g3 (oj hn_g5 (oj hn_gd (oj hn_g7 (oj hn_g8 hd))))
 refine ySG J4 ?_
 refine aw_keep [(6,.c (.bool true))] (ZHp gT gU gM og ns mm) (zB J4) (List.sublist_append_right (SZ6 g7 g5 g8 g3 gd gT most sl) _) ?_
 refine yU J4 ?_
 exact⟨rfl,rfl⟩
abbrev XZ5 (g1 g2 g3 g4 gd gT:Nat) (rs:List Int) (oN:Option Nat) (n:Nat):Heap:=
 [(g1,.cells 120 1 (ofL [.raw (.map (some gd))])),(g2,.cells 169 1 (ofL [.optr gT 0])),(g3,.cells 66 1 (ofL [fnC 185 [g1,g2,g3,g4]])),(g4,.cells 148 2 (ofL [gs oN 3 n,.int .i64 0])),(gd,.gen (MapI keyI (dnL (exL rs))))]
abbrev HXZ (g1 g2 g3 g4 gd gT gU gM:Nat) (og:Option Nat) (ns:List DN) (mm:Mem3) (rs:List Int) (oN:Option Nat) (os:List DN):Heap:=
 (XZ5 g1 g2 g3 g4 gd gT rs oN os.length++ZHp gT gU gM og ns mm)++gh oN 119 (os.length*3) (dnsF os)
theorem zewalk_fh (g1 g2 g3 g4 gd gT gU gM:Nat) {n:Nat} {og:Option Nat} {ns:List DN} {mm:Mem3} (hs:ZS n og ns mm) (hn:ns.length≤1000000000):∀(k:Nat) (r:Int) (rs:List Int) (oN:Option Nat) (os:List DN),r.toNat<k→RefOk ns r→ExOk ns rs os→(oN=none→os.length=0)→
  Fh Tryz.prog 185 (HXZ g1 g2 g3 g4 gd gT gU gM og ns mm rs oN os) ([.c (.int .i64 r)]++[g1,g2,g3,g4].map fun g=>.c (.optr g 0)) (fun x h=>∃rs' oN' os' y,ZEx n ns rs os rs' os' r y∧(oN'=none→os'.length=0)∧x=.c (.int .i64 y)∧h=HXZ g1 g2 g3 g4 gd gT gU gM og ns mm rs' oN' os'):=by
 intro k
 induction k with
 |zero=>intro r rs oN os hk;omega
 |succ k ih=>
  intro r rs oN os hk hr hx hoN
  simp only [List.cons_append,List.nil_append,List.map_cons,List.map_nil]
  refine fh_of_body Tryz.func185 rfl rfl (by simp [Tryz.ntmps185]) fun C hC=> ?_
  simp only [initS,Nat.reduceAdd]
  simp only [HXZ,XZ5,ZHp,ZH,List.cons_append,List.nil_append]
  refine aw_nd fun hnd=> ?_
  simp only [Heap.keys,List.map_cons] at hnd
  replace hnd:=ndP_of hnd
  dsimp only [ndP,neA] at hnd
  refine yG hnd ?_
  refine aw_lookup2 (a:=r) (kv:=dnL (exL rs)) (Kf:=keyI) (kt:=3) (et:=3) rfl rfl rfl (by kernel_rfl) ty_ki ty_iz (zE hnd) (zE hnd) (zE hnd) keyI_rep ?_
  refine yS hnd ?_
  rw [dn_get,exL_get hr.1 rs (fun x hm=>(hx.bd x hm).1)]
  cases hf:exR rs r with
  |some y=>
   try simp only [Option.map_some,Option.getD_some,Option.isSome_some,cstC]
   refine yGPGU hnd ?_
   exact⟨rs,oN,os,y,zex_same hx hf,hoN,rfl,by simp only [HXZ,XZ5,ZHp,ZH,List.cons_append,List.nil_append]⟩
  |none=>
   try simp only [Option.map_none,Option.getD_none,Option.isSome_none,cstC]
   refine yG hnd ?_
   refine yN hnd ?_
   have h2:2≤r:=by
    refine Classical.byContradiction fun h=> ?_
    unfold exR at hf
    rw [if_pos om] at hf
    cases hf
   have hnew:r∉rs:=fun hm=>by
    unfold exR at hf
    rw [if_neg om,if_pos hm] at hf
    cases hf
   obtain⟨g,rfl⟩:∃g,og=some g:=by
    cases og with
    |none=>have:=hs.og rfl;unfold RefOk at hr;omega
    |some g=>exact⟨g,rfl⟩
   have hi:(r-2).toNat<ns.length:=by unfold RefOk at hr;omega
   have hrl:r<ns.length+2:=hr.2
   obtain⟨w0,w1,w2,w3,w4,w5⟩:=(hs.tab.ns _ hi)
   obtain⟨kl,kh⟩:=hs.tab.kids hi
   have hnode:∀{rs1 rs2:List Int} {os1 os2:List DN} {xl xh:Int},ZEx n ns rs os rs1 os1 (ns.getD (r-2).toNat dn0).lo xl→ZEx n ns rs1 os1 rs2 os2 (ns.getD (r-2).toNat dn0).hi xh→r∉rs2∧ZEx n ns rs os (rs2++[r]) (os2++[⟨(ns.getD (r-2).toNat dn0).v,xl,xh⟩]) r ((rs2.length:Int)+2):=fun a b=>zex_node hs.tab h2 hrl hnew a b
   simp only [gs,gh,List.cons_append,List.nil_append]
   clear hnd
   refine aw_nd fun hnd=> ?_
   simp only [Heap.keys,List.map_cons,List.map_append] at hnd
   replace hnd:=ndP_of hnd
   dsimp only [ndP,neA] at hnd
   generalize hx0:ns.getD (r-2).toNat dn0=nd at*
   refine yG (oj hnd hx0) ?_
   refine yA (oj hnd hx0) fun g9 hn_g9=>?_
   have J1:=oj hnd (oj hx0 hn_g9)
   refine yGWSG J1 ?_
   refine aw_callhv (hr:=[(g9,.cells 119 3 (ofL [.int .i64 nd.v,.int .i64 nd.lo,.int .i64 nd.hi]))]) (gs:=[g1,g2,g3,g4]) (ih nd.lo rs oN os om kl hx hoN) rfl rfl rfl (zE J1) ?_ (zL J1) ?_
   ·exact List.perm_append_comm (l₁:=[(g9,_)])
   rintro _ _ ⟨rs1,oN1,os1,xl,a1,hoN1,rfl,rfl⟩ _
   refine aw_perm List.perm_append_comm ?_
   simp only [HXZ,XZ5,ZHp,ZH,gs,gh,List.cons_append,List.nil_append]
   clear hnd J1
   refine aw_nd fun hnd=> ?_
   simp only [Heap.keys,List.map_cons,List.map_append] at hnd
   replace hnd:=ndP_of hnd
   dsimp only [ndP,neA] at hnd
   refine ySG hnd ?_
   refine aw_callhv (hr:=[(g9,.cells 119 3 (ofL [.int .i64 nd.v,.int .i64 nd.lo,.int .i64 nd.hi]))]) (gs:=[g1,g2,g3,g4]) (ih nd.hi rs1 oN1 os1 om kh a1.ok hoN1) rfl rfl rfl (zE hnd) ?_ (zL hnd) ?_
   ·exact List.perm_append_comm (l₁:=[(g9,_)])
   rintro _ _ ⟨rs2,oN2,os2,xh,b1,hoN2,rfl,rfl⟩ _
   refine aw_perm List.perm_append_comm ?_
   simp only [HXZ,XZ5,ZHp,ZH,gh,List.cons_append,List.nil_append]
   clear hnd
   refine aw_nd fun hnd=> ?_
   simp only [Heap.keys,List.map_cons,List.map_append] at hnd
   replace hnd:=ndP_of hnd
   dsimp only [ndP,neA] at hnd
   obtain⟨hout,hex⟩:=hnode a1 b1
   have l2:=b1.ok.len
   have l3:=b1.ok.lenle
   have hlen:=lenCV_gs (s:=3) hoN2
   (try simp only[go_sem,hnd,↓hlen])
   repeat first|apply wa1|apply wa2|apply wa3|apply wa4|apply wa5 rfl|apply wa6|apply wa7|(refine wb1 rfl fun R r=>?_;simp only[go_sem,hnd,↓hlen];with_reducible show R (some _);with_reducible refine r _ _ ?_;clear r R)
   refine aw_push (pre:=[(g9,.cells 119 3 (ofL [.int .i64 nd.v,.int .i64 nd.lo,.int .i64 nd.hi])),(g1,.cells 120 1 (ofL [.raw (.map (some gd))])),(g2,.cells 169 1 (ofL [.optr gT 0])),(g3,.cells 66 1 (ofL [fnC 185 [g1,g2,g3,g4]])),(g4,.cells 148 2 (ofL [gs oN2 3 os2.length,.int .i64 0])),(gd,.gen (MapI keyI (dnL (exL rs2)))),(gT,.cells 205 3 (ofL [.osl g 3 0 ns.length,.raw (.map (some gU)),.raw (.map (some gM))])),(gU,.gen (MapI dkV (uqTo ns 0))),(gM,.gen (MapI keyS (mmL mm))),(g,.cells 119 (ns.length*3) (dnsF ns))]) rfl rfl rfl rfl rfl rfl rfl (by simp only[go_sem,hnd,↓hlen]<;>rfl) (by simp only[go_sem,hnd,↓hlen]<;>rfl) (by rfl) om om (by simp only[go_sem,hnd,↓hlen]<;>rfl) om (by exact hoN2) (by simp only[go_sem,hnd,↓hlen]<;>rfl) (by rfl) (by rfl) (by first|rfl|simp only [Nat.mul_one,List.nil_append,List.cons_append]<;>rfl) (by unfold maxLen;omega) om (by exact lf_push (xs:=os2) rfl (⟨nd.v,xl,xh⟩:DN) om) fun gN hn_gN=> ?_
   replace hn_gN:=Heap.ne_of hn_gN
   first|dsimp only [Heap.ne,gh] at hn_gN|dsimp only [Heap.ne] at hn_gN|skip
   (try simp only[go_sem,hnd,↓hlen,hn_gN])
   simp only [gs,gh,List.cons_append,List.nil_append]
   repeat first|apply wa1|apply wa2|apply wa3|apply wa4|apply wa5 rfl|apply wa6|apply wa7|(refine wb1 rfl fun R r=>?_;simp only[go_sem,hnd,↓hlen,hn_gN];with_reducible show R (some _);with_reducible refine r _ _ ?_;clear r R)
   refine aw_store rfl rfl rfl rfl (by simp only[go_sem,hnd,↓hlen,hn_gN]<;>rfl) (by simp only[go_sem,hnd,↓hlen,hn_gN]<;>rfl) (by simp only[go_sem,hnd,↓hlen,hn_gN]<;>rfl) (by simp only[go_sem,hnd,↓hlen,hn_gN]<;>rfl) (fun _ e=>by cases e) (by first|rfl|exact solid_gs3|exact solid_gs2) (by rfl) (by first|omega|simp) rfl ?_
   (try simp only[go_sem,hnd,↓hlen,hn_gN])
   repeat first|apply wa1|apply wa2|apply wa3|apply wa4|apply wa5 rfl|apply wa6|apply wa7|(refine wb1 rfl fun R r=>?_;simp only[go_sem,hnd,↓hlen,hn_gN];with_reducible show R (some _);with_reducible refine r _ _ ?_;clear r R)
   have e1:(1:Int)+((os2.length+1:Nat):Int)=2+(rs2.length:Int):=by omega
   have e1':(1:Int)+((os2.length:Int)+1)=2+(rs2.length:Int):=by omega
   have hb2:∀x∈rs2,2≤x:=fun x hm=>(b1.ok.bd x hm).1
   refine aw_mapNew (a:=r) (kv:=dnL (exL rs2)) (Kf:=keyI) (v:=.int .i64 (2+(rs2.length:Int))) rfl rfl rfl (kt:=3) (et:=3) (by kernel_rfl) ty_ki (by simp only[go_sem,hnd,↓hlen,hn_gN]<;>rfl) (by simp only[go_sem,hnd,↓hlen,hn_gN]<;>rfl) (by simp only[go_sem,hnd,↓hlen,hn_gN]<;>rfl) keyI_rep (cv:=.c (.int .i64 (2+(rs2.length:Int)))) (by(try simp only[go_sem,hnd,↓hlen,hn_gN]);first|rfl|rw [e1]|rw [e1']) (fun S w u h=>h) (by rw [dn_get,exL_get hr.1 rs2 hb2];unfold exR;rw [if_neg om,if_neg hout];rfl) (by simp only[go_sem,hnd,↓hlen,hn_gN]<;>rfl) ?_
   rw [dnL_push,exL_push]
   (try simp only[go_sem,hnd,↓hlen,hn_gN])
   repeat first|apply wa1|apply wa2|apply wa3|apply wa4|apply wa5 rfl|apply wa6|apply wa7|(refine wb1 rfl fun R r=>?_;simp only[go_sem,hnd,↓hlen,hn_gN];with_reducible show R (some _);with_reducible refine r _ _ ?_;clear r R)
   refine aw_lookup (a:=r) (kv:=dnL (exL (rs2++[r]))) (Kf:=keyI) (kt:=3) (et:=3) rfl rfl rfl (by kernel_rfl) ty_ki ty_iz (by simp only[go_sem,hnd,↓hlen,hn_gN]<;>rfl) (by simp only[go_sem,hnd,↓hlen,hn_gN]<;>rfl) (by simp only[go_sem,hnd,↓hlen,hn_gN]<;>rfl) keyI_rep ?_
   rw [dn_get,exL_get hr.1 _ (fun x hm=>by rcases List.mem_append.1 hm with hm|hm;exact hb2 x hm;rw [List.mem_singleton] at hm;omega),hex.ref]
   try simp only [Option.map_some,Option.getD_some,cstC]
   (try simp only[go_sem,hnd,↓hlen,hn_gN])
   repeat first|apply wa1|apply wa2|apply wa3|apply wa4|apply wa5 rfl|apply wa6|apply wa7|(refine wb1 rfl fun R r=>?_;simp only[go_sem,hnd,↓hlen,hn_gN];with_reducible show R (some _);with_reducible refine r _ _ ?_;clear r R)
   refine aw_keep [(6,.c (.int .i64 ((rs2.length:Int)+2)))] (HXZ g1 g2 g3 g4 gd gT gU gM (some g) ns mm (rs2++[r]) (some gN) (os2++[⟨nd.v,xl,xh⟩])) (by simp only[go_sem,hnd,↓hlen,hn_gN]<;>and_intros<;>first|exact True.intro|(with_reducible rfl)|exact c_int om|rfl) (by
    simp only [HXZ,XZ5,ZHp,ZH,gs,gh,List.cons_append,List.nil_append,List.length_append,List.length_singleton]
    exact List.Sublist.cons _ (List.Sublist.refl _)) ?_
   (refine aw_rethq rfl fun R r=>?_;simp only[go_sem,hnd,↓hlen,hn_gN];refine r _ rfl ?_;clear r R)
   exact⟨rs2++[r],some gN,os2++[⟨nd.v,xl,xh⟩],_,hex,some_ne,rfl,rfl⟩
theorem zexport_fh (gT gU gM:Nat) {n:Nat} {og:Option Nat} {ns:List DN} {mm:Mem3} (hs:ZS n og ns mm) (hn:ns.length≤1000000000) {r:Int} (hr:RefOk ns r):
  Fh Tryz.prog 166 (ZHp gT gU gM og ns mm) [.c (.optr gT 0),.c (.int .i64 r)] (fun x h=>∃rs os y,ZEx n ns [] [] rs os r y∧x=.agg (zdc true ⟨os,y⟩)∧h=ZHp gT gU gM og ns mm):=by
 refine fh_of_body Tryz.func166 rfl rfl (by simp [Tryz.ntmps166]) fun C hC=> ?_
 simp only [initS,Nat.reduceAdd]
 unfold ZHp ZH
 simp only [List.cons_append,List.nil_append]
 refine xG ?_
 refine xB fun g2 hn_g2=>?_
 refine yG hn_g2 ?_
 refine yA hn_g2 fun g4 hn_g4=>?_
 refine yG (oj hn_g2 hn_g4) ?_
 refine yA (oj hn_g2 hn_g4) fun g5 hn_g5=>?_
 refine yG (oj hn_g2 (oj hn_g4 hn_g5)) ?_
 refine aw_makeMap (Kf:=keyI) rfl rfl rfl fun gd hn_gd=> ?_
 replace hn_gd:=Heap.ne_of hn_gd
 dsimp only [Heap.ne,gh] at hn_gd
 have J1:=oj hn_g2 (oj hn_g4 (oj hn_g5 hn_gd))
 refine ySG J1 ?_
 refine aw_insNew (a:=0) (kv:=[]) (Kf:=keyI) (v:=.int .i64 0) rfl rfl rfl (kt:=3) (et:=3) (by kernel_rfl) ty_ki (zE J1) (zE J1) (zE J1) keyI_rep (cv:=.c (.int .i64 0)) (zE J1) (fun S w u h=>h) rfl (zE J1) ?_
 refine ySG J1 ?_
 refine aw_insNew (a:=1) (kv:=[(0,.int .i64 0)]) (Kf:=keyI) (v:=.int .i64 1) rfl rfl rfl (kt:=3) (et:=3) (by kernel_rfl) ty_ki (zE J1) (zE J1) (zE J1) keyI_rep (cv:=.c (.int .i64 1)) (zE J1) (fun S w u h=>h) rfl (zE J1) ?_
 refine ySG J1 ?_
 refine yA J1 fun g6 hn_g6=>?_
 have J2:=oj hn_g2 (oj hn_g4 (oj hn_g5 (oj hn_gd hn_g6)))
 refine yGWSG J2 ?_
 refine yA J2 fun g7 hn_g7=>?_
 have J3:=oj hn_g2 (oj hn_g4 (oj hn_g5 (oj hn_gd (oj hn_g6 hn_g7))))
 refine yG J3 ?_
 refine aw_makeFunc (gs:=[g6,g2,g7,g5]) rfl rfl rfl (zE J3) ?_
 refine ySGWSG J3 ?_
 refine aw_callhv (hr:=[(g4,.cells 148 2 (ofL [.nils,.int .i64 0]))]) (zewalk_fh g6 g2 g7 g5 gd gT gU gM hs hn (r.toNat+1) r [] none [] om hr (ExOk.nil ns) (fun _=>rfl)) rfl rfl rfl (zE J3) ?hp (zL J3) ?_
 ·have e:HXZ g6 g2 g7 g5 gd gT gU gM og ns mm [] none []=XZ5 g6 g2 g7 g5 gd gT [] none 0++ZHp gT gU gM og ns mm:=List.append_nil _
  rw [e]
  refine((permL [(g7,_),(g6,_),(gd,_),(g5,_),(g4,_),(g2,_)] [0,1,2,3,4,5] [4,1,5,0,3,2] (by decide)).append_right (ZHp gT gU gM og ns mm)).trans ?_
  exact(List.perm_append_singleton (g4,_) (XZ5 g6 g2 g7 g5 gd gT [] none 0++ZHp gT gU gM og ns mm)).symm
 rintro _ _ ⟨rs,oN,os,y,hex,hoN,rfl,rfl⟩ _
 unfold HXZ XZ5 ZHp ZH
 simp only [List.cons_append,List.nil_append,List.append_assoc]
 refine ySGWS J3 ?_
 refine aw_keep [(4,.c (.optr g4 0)),(5,.c (.optr g5 0))] ((g5,.cells 148 2 (ofL [gs oN 3 os.length,.int .i64 y]))::([(gT,.cells 205 3 (ofL [gs og 3 ns.length,.raw (.map (some gU)),.raw (.map (some gM))])),(gU,.gen (MapI dkV (uqTo ns 0))),(gM,.gen (MapI keyS (mmL mm)))]++(gh og 119 (ns.length*3) (dnsF ns)++(gh oN 119 (os.length*3) (dnsF os)++[(g4,.cells 148 2 (ofL [.nils,.int .i64 0]))])))) (zB J3) (List.Sublist.cons _ (List.Sublist.cons _ (List.Sublist.cons _ (List.Sublist.cons_cons _ (List.Sublist.cons _ (List.Sublist.refl _)))))) ?_
 refine aw_perm (List.Perm.cons _ (perm_ex _ _ _ _)) ?_
 refine aw_nd fun hnd=> ?_
 refine aw_frzG (j0:=0) (og:=oN) (s:=3) (n:=os.length) (f':=ofL [dns true os,.int .i64 y]) rfl rfl (fun j hj hne=> ?_) hoN (fun g e=> ?_) ?_
 ·match j,hj,hne with
  |0,_,hne=>exact absurd rfl hne
  |1,_,_=>rfl
 ·subst e
  intro hown
  have hm:g∈Heap.keys (ZHp gT gU gM og ns mm):=(hC g).1 hown
  have h1:(g5::g::g4::Heap.keys (ZHp gT gU gM og ns mm)).Nodup:=hnd
  exact(List.nodup_cons.1 (List.nodup_cons.1 h1).2).1 (List.mem_cons_of_mem _ hm)
 clear hnd J1 J2 J3
 simp only [List.cons_append,List.nil_append]
 have J4:=oj hn_g2 (oj hn_g4 (oj hn_g5 (oj hn_gd (oj hn_g6 hn_g7))))
 refine ySGWSG J4 ?_
 refine aw_keep [(4,.c (.optr g4 0))] ((g4,.cells 148 2 (ofL (zdc true ⟨os,y⟩)))::ZHp gT gU gM og ns mm) (zB J4) (List.Sublist.cons _ (List.Sublist.refl _)) ?_
 refine aw_rethw (h':=ZHp gT gU gM og ns mm) rfl (List.Sublist.cons _ (List.Sublist.refl _)) (fun R hR=> ?_)
 simp only [go_sem,hn_g2,hn_g4,hn_g5,hn_gd,hn_g6,hn_g7]
 refine hR _ rfl ?_
 clear hR R
 exact⟨rs,os,y,hex,rfl,rfl⟩
end Go.Proofs.YtefekdejgbceiaaGreat
namespace Go.PN
open Go.AI
theorem mkZ_take {n:Nat} {ns:List DN} (h:ZTab n ns) {k:Nat} (hk:k<ns.length):mkZ (ns.take k) (ns.getD k dn0).v (ns.getD k dn0).lo (ns.getD k dn0).hi=(ns.take (k+1),2+(k:Int)):=by
 have nd:=h k hk
 have hl:(ns.take k).length=k:=by rw [List.length_take];omega
 unfold mkZ
 rw [if_neg nd.hi]
 cases hf:findN ⟨(ns.getD k dn0).v,(ns.getD k dn0).lo,(ns.getD k dn0).hi⟩ (ns.take k) 0 with
 |some i=>
  obtain⟨_,i2,i3⟩:=findN_some hf
  rw [Nat.sub_zero] at i3
  exfalso
  refine nd.new ?_
  rw [show ns.getD k dn0=⟨(ns.getD k dn0).v,(ns.getD k dn0).lo,(ns.getD k dn0).hi⟩ from rfl,←i3,List.getD_eq_getElem?_getD,List.getElem?_eq_getElem om]
  exact List.getElem_mem _
 |none=>
  rw [takeDN_push hk,hl]
theorem ZTab.take {n:Nat} {ns:List DN} (h:ZTab n ns) (k:Nat):ZTab n (ns.take k):=fun i hi=>by
 rw [List.length_take] at hi
 obtain⟨nk,h0,bl,bh,new⟩:=h i om
 have e:∀j,j<k→j<ns.length→(ns.take k).getD j dn0=ns.getD j dn0:=fun j h1 h2=>by
  rw [List.getD_eq_getElem?_getD,List.getD_eq_getElem?_getD,List.getElem?_take,if_pos h1]
 obtain⟨v0,v1,l0,l1,g0,g1⟩:=nk
 have hev:∀r:Int,0≤r→r<i+2→evZ n (ns.take k) r=evZ n ns r:=fun r h0 h1=>by
  unfold evZ
  split
  ·rfl
  ·rw [e _ om om]
 rw [←e i om om] at v0 v1 l0 l1 g0 g1 h0 bl bh new
 refine⟨⟨v0,v1,l0,l1,g0,g1⟩,h0,by rw [hev _ l0 om];exact bl,by rw [hev _ g0 om];exact bh,?_⟩
 rw [List.take_take,Nat.min_eq_left om]
 exact new
end Go.PN
namespace Go.Proofs.YtefekdejgbceiaaGreat
open Go.AI Go.PN
attribute [local irreducible] aw Fa Fh DrK
theorem newSets_fh:Fh Tryz.prog 163 [] [] (fun x h=>∃gT gU gM,x=.c (.optr gT 0)∧h=ZHp gT gU gM none [] []):=by
 refine fh_of_body Tryz.func163 rfl rfl (by simp [Tryz.ntmps163]) fun C hC=> ?_
 simp only [initS,Nat.reduceAdd]
 refine xG ?_
 refine aw_makeMap (Kf:=dkV) rfl rfl rfl fun gU hn_gU=> ?_
 replace hn_gU:=Heap.ne_of hn_gU
 dsimp only [Heap.ne] at hn_gU
 refine ySG hn_gU ?_
 refine aw_makeMap (Kf:=keyS) rfl rfl rfl fun gM hn_gM=> ?_
 replace hn_gM:=Heap.ne_of hn_gM
 dsimp only [Heap.ne] at hn_gM
 have J1:=oj hn_gU hn_gM
 refine ySG J1 ?_
 refine yB J1 fun gT hn_gT=>?_
 have J2:=oj hn_gU (oj hn_gM hn_gT)
 refine yG J2 ?_
 refine aw_perm (permL [(gT,_),(gM,_),(gU,_)] [0,1,2] [0,2,1] (by decide)) ?_
 refine yU J2 ?_
 exact⟨gT,gU,gM,rfl,rfl⟩
theorem zimport_fh (gT gU gM:Nat) {n:Nat} (z:ZD) (ht:ZTab n z.nodes) (hr:RefOk z.nodes z.root) (hn:z.nodes.length≤1000000):
  Fh Tryz.prog 168 (ZHp gT gU gM none [] []) [.c (.optr gT 0),.agg (zdc false z)] (fun x h=>∃og,(og=none→z.nodes.length=0)∧x=.c (.int .i64 z.root)∧h=ZHp gT gU gM og z.nodes []):=by
 have k2:=hr.1
 have k3:=hr.2
 refine fh_of_body Tryz.func168 rfl rfl (by simp [Tryz.ntmps168]) fun C hC=> ?_
 simp only [initS,Nat.reduceAdd]
 simp only [ZHp,ZH,List.cons_append,List.nil_append]
 refine xG ?_
 refine xB fun g3 hn_g3=>?_
 refine yG hn_g3 ?_
 refine aw_make (n:=z.nodes.length+2) (c:=z.nodes.length+2) (size:=1) (bytes:=8) (z:=[.int .i64 0]) rfl rfl rfl (zE hn_g3) (zE hn_g3) rfl om (zE hn_g3) (zE hn_g3) om om om om om fun g5 hn_g5=> ?_
 clear hn_g5 hn_g3
 simp only [Nat.mul_one]
 rw [make_is]
 refine aw_nd fun hnd=> ?_
 simp only [Heap.keys,List.map_cons] at hnd
 replace hnd:=ndP_of hnd
 dsimp only [ndP,neA] at hnd
 refine ySGWS hnd ?_
 rw [updF_is (zs:=List.replicate (z.nodes.length+2) 0) (i:=1) (v:=1) (by rw [List.length_replicate];omega)]
 refine yG hnd ?_
 refine aw_lp (fun x:Nat×Option Nat×List Int=>[(0,.c (.optr gT 0)),(3,.c (.optr g3 0)),(5,.c (.osl g5 1 0 (z.nodes.length+2))),(16,.c (dns false z.nodes)),(17,.c (.int .i64 z.nodes.length)),(18,.c (.int .i64 x.1))]) (fun x=>[(g5,.cells 3 (z.nodes.length+2) (isF x.2.2)),(g3,.cells 148 2 (ofL (zdc false z)))]++ZHp gT gU gM x.2.1 (z.nodes.take x.1) [])
  (fun x=>x.1≤z.nodes.length∧(x.2.1=none→(z.nodes.take x.1).length=0)∧x.2.2.length=z.nodes.length+2∧∀j:Nat,j<x.1+2→x.2.2.getD j 0=j) (fun x=>z.nodes.length-x.1) (0,none,(List.replicate (z.nodes.length+2) 0).set 1 1) (zB hnd) zZ ⟨Nat.zero_le _,fun _=>rfl,by simp,fun j hj=> ?_⟩ ?_
 ·obtain rfl|rfl:j=0∨j=1:=by dsimp only at hj;omega
  ·rw [getZset' om];simp
  ·rw [getZset (by rw [List.length_replicate];omega)];rfl
 clear hnd
 rintro ⟨k,og',rs⟩ ⟨hk,hs',hrl,hi⟩
 dsimp only at hk hs' hrl hi⊢
 simp only [ZHp,ZH,List.cons_append,List.nil_append]
 refine aw_nd fun hnd=> ?_
 simp only [Heap.keys,List.map_cons] at hnd
 replace hnd:=ndP_of hnd
 dsimp only [ndP,neA] at hnd
 refine yG hnd ?_
 refine yF hnd (fun h1=>?_) fun h1=>?_
 ·have h1':k<z.nodes.length:=dT h1
  obtain⟨v0,v1,l0,l1,q0,q1⟩:=(ht k h1').nk
  have hmk:=mkZ_take ht h1'
  have hlt:(z.nodes.take k).length=k:=by rw [List.length_take];omega
  refine yG hnd ?_
  refine yA hnd fun g7 hn_g7=>?_
  clear hn_g7
  refine aw_nd fun hnd2=> ?_
  simp only [Heap.keys,List.map_cons] at hnd2
  replace hnd2:=ndP_of hnd2
  dsimp only [ndP,neA] at hnd2
  clear hnd
  refine yGWS hnd2 ?_
  have e1:rs.getD (z.nodes.getD k dn0).lo.toNat 0=(z.nodes.getD k dn0).lo:=by rw [hi _ om];omega
  have e2:rs.getD (z.nodes.getD k dn0).hi.toNat 0=(z.nodes.getD k dn0).hi:=by rw [hi _ om];omega
  generalize hx0:z.nodes.getD k dn0=nd at*
  have J1:=oj hnd2 hx0
  refine yG J1 ?_
  refine aw_cw ([(g5,.cells 3 (z.nodes.length+2) (isF rs)),(g7,.cells 119 3 (ofL [.int .i64 nd.v,.int .i64 nd.lo,.int .i64 nd.hi]))]) [(0,0),(1,0),(2,0),(3,0),(4,0),(5,0),(6,0),(7,0),(8,0),(9,0),(10,0),(11,0),(12,0),(13,0),(14,0),(15,0),(16,1),(17,0),(18,2)] ty_mixed (by kernel_rfl) eI ?_
  refine yG J1 ?_
  have mk:=zmake_fh gT gU gM og' (z.nodes.take k) [] nd.v nd.lo nd.hi hs' om
  rw [hmk] at mk
  rw [e1,e2]
  refine cw_callh (hc:=ZHp gT gU gM og' (z.nodes.take k) []) (hr:=[(g7,.cells 119 3 (ofL [.int .i64 nd.v,.int .i64 nd.lo,.int .i64 nd.hi])),(g5,.cells 3 (z.nodes.length+2) (isF rs)),(g3,.cells 148 2 (ofL (zdc false z)))]) rfl mk rfl rfl rfl (List.perm_append_comm (l₁:=[(g7,_),(g5,_),(g3,_)])) (zL J1) (by
   rintro _ _ ⟨_,_,rfl,rfl⟩;exact has0_app2 eI) ?_ (hm:=.inr ⟨rfl,rfl⟩)
  rintro _ _ ⟨og2,hog2,rfl,rfl⟩ _
  refine yS J1 ?_
  refine cw_perm List.perm_append_comm ?_
  simp only [List.cons_append,List.nil_append]
  refine ySG J1 ?_
  refine cw_store (FP':=[]) rfl rfl rfl rfl rfl (zE J1) (zE J1) (zE J1) (zE J1) (fun _ e=>by cases e) rfl rfl (by show(2+(k:Int)).toNat+1≤_;omega) rfl has0_nil ?_
  simp only [AV.cells]
  rw [show((2:Int)+(k:Int)).toNat=2+k from by omega,updF_is om]
  refine ySG J1 ?_
  refine aw_stop ⟨(k+1,og2,rs.set (2+k) (2+(k:Int))),by dsimp only;omega,(zB J1),List.Sublist.cons _ (List.Sublist.refl _),by dsimp only;omega,hog2,by dsimp only;rw [List.length_set];exact hrl,fun j hj=> ?_⟩
  dsimp only at hj⊢
  by_cases e:j=2+k
  ·subst e;rw [getZset om];omega
  ·rw [getZset' om];exact hi j om
 ·have h1':k=z.nodes.length:=dF h1
  subst h1'
  have e1:rs.getD z.root.toNat 0=z.root:=by rw [hi _ om];omega
  refine yG (oj hnd e1) ?_
  refine aw_keep [(4,.c (.int .i64 z.root))] (ZHp gT gU gM og' (z.nodes.take z.nodes.length) []) (zB (oj hnd e1)) (List.Sublist.cons _ (List.Sublist.cons _ (List.Sublist.refl _))) ?_
  refine yU (oj hnd e1) ?_
  rw [List.take_length] at hs'⊢
  exact⟨og',hs',rfl,rfl⟩
end Go.Proofs.YtefekdejgbceiaaGreat
namespace Go.PN
open Go.AI
def wtQ (y n:Nat) (qs:List Rat):Nat→Rat
 |0=>1
 |k+1=>wtQ y n qs k*wfac y n k (qs.getD k 0)
def smQ (qs:List Rat) (tb:List Bool):Nat→Rat
 |0=>0
 |k+1=>if tb.getD k false then smQ qs tb k+wtQ k (2^qs.length-1-k) qs qs.length else smQ qs tb k
theorem rd0_rd:rd0=rd 0:=rd_zero.symm
theorem map_rd_q (qs:List Rat) (k:Nat):((qs.map rd).getD k rd0).q=qs.getD k 0:=by
 rw [List.getD_eq_getElem?_getD,List.getD_eq_getElem?_getD,List.getElem?_map]
 cases qs[k]? with
 |none=>show rd0.q=0;rw [rd0_rd,rd_q]
 |some x=>exact rd_q x
theorem wtTo_rd (y n:Nat) (qs:List Rat):∀k,wtTo y n (qs.map rd) k=wtQ y n qs k
 |0=>rfl
 |k+1=>by rw [wtTo,wtQ,wtTo_rd y n qs k,map_rd_q]
theorem sumQ_rd (qs:List Rat) (tb:List Bool):∀k,sumQ (qs.map rd) tb k=smQ qs tb k
 |0=>rfl
 |k+1=>by rw [sumQ,smQ,sumQ_rd qs tb k,stQ,List.length_map,wtTo_rd]
theorem pcode_rd {qs:List Rat} {v:Int} (hl:(qs.length:Int)=v) (h:qs.all (fun q=>decide (0≤q)&&decide (q≤1))=true):pcode (qs.map rd) v=0:=by
 unfold pcode
 rw [if_neg (by simpa using hl),if_pos ?_]
 rw [List.all_map,List.all_eq_true]
 intro q hq
 have:=List.all_eq_true.1 h q hq
 show(rd q).prob=true
 unfold RD.prob
 rw [rd_valid,rd_q,Bool.true_and]
 exact this
end Go.PN
namespace Go.AI
section
variable {E : Env} {K : List It} {σ : Sl} {h : Heap}
theorem Sl.set_set (t:Nat) (u v:AV):∀σ:Sl,(σ.set t u).set t v=σ.set t v
 |[]=>by simp [Sl.set]
 |(t',x)::σ=>by
  simp only [Sl.set]
  by_cases e:t'=t
  ·rw [if_pos e,if_pos e];simp [Sl.set]
  ·rw [if_neg e,if_neg e];simp only [Sl.set,if_neg e];rw [Sl.set_set t u v σ]
theorem aw_frzT {t g s off n m:Nat} {ty:TypeId} {f:Nat→CV} (f':Nat→CV) {σ':Sl} {h':Heap} (ht:σ.get t=.c (.osl g s off n)) (hg:h.get g=some (.cells ty m f)) (hm:off+n*s≤m) (hn:¬E.C.own0 g) (hf:∀j,j<n*s→f (off+j)=f' j) (hσ:σ.set t (.c (.row true s n f'))=σ') (hh:h.del g=h')
  (k:aw E K σ' h'):aw E K σ h:=by
 refine aw_frz ht hg hm hn rfl hh ?_
 refine aw_conv (t:=t) (v:=.c (.row true s n f')) (σ':=σ') (fun S w u hr=> ?_) ?_ k
 ·rw [Sl.get_set,if_pos rfl] at hr
  obtain⟨A,c,hv,hc,hn⟩:=hr
  refine⟨A,c,hv,hc,fun h0=> ?_⟩
  obtain⟨ad,hA,hS,hj⟩:=hn h0
  refine⟨ad,hA,hS,fun j hjl=> ?_⟩
  obtain⟨u,hu,hru⟩:=hj j hjl
  exact⟨u,hu,by rw [←hf j hjl];exact hru⟩
 ·rw [←hσ,Sl.set_set]
end
end Go.AI

namespace Go.AI
section
variable {E : Env} {K : List It} {σ σ' : Sl} {h : Heap}
theorem aw_frzGT {t s n n':Nat} {og:Option Nat} {ty:TypeId} {f f':Nat→CV} (hog:og=none→n=0) (hnn:n=n') (ht:σ.get t=.c (gs og s n)) (hn:∀g,og=some g→¬E.C.own0 g) (hf:∀j,j<n*s→f j=f' j) (hσ:σ.set t (.c (.row true s n' f'))=σ') (k:aw E K σ' h):aw E K σ (gh og ty (n*s) f++h):=by
 subst hnn
 cases og with
 |none=>
  have h0:=hog rfl
  subst h0
  refine aw_conv (t:=t) (v:=.c (.row true s 0 f')) (fun S w u hr=> ?_) hσ k
  rw [ht] at hr
  exact repC_nil hr
 |some g=>
  refine aw_frzT (t:=t) (g:=g) (s:=s) (off:=0) (n:=n) (m:=n*s) (ty:=ty) (f:=f) f' ht ?_ om (hn g rfl) (fun j hj=>by rw [Nat.zero_add];exact hf j hj) hσ ?_ k
  ·show Heap.get ((g,_)::h) g=_
   simp [Heap.get]
  ·show Heap.del ((g,_)::h) g=_
   simp [Heap.del]
end
end Go.AI
namespace Go.PN
open Go.AI
theorem keysL {A B:Heap} (h:(A++B).keys.Nodup):A.keys.Nodup:=((List.sublist_append_left A B).map _).nodup h
end Go.PN
namespace Go.PN
open Go.AI
def RS {α:Type} (R:α→Nat→α→Prop):α→List Nat→α→Prop
 |x,[],y=>x=y
 |x,s::l,y=>∃z,R x s z∧RS R z l y
theorem RS.app {α:Type} {R:α→Nat→α→Prop}:∀{l m:List Nat} {x y z:α},RS R x l y→RS R y m z→RS R x (l++m) z
 |[],_,_,_,_,h,k=>by
  have h:_=_:=h
  subst h;exact k
 |_::_,_,_,_,_,⟨w,h1,h2⟩,k=>⟨w,h1,h2.app k⟩
end Go.PN
namespace Go.Proofs.YtefekdejgbceiaaGreat
open Go.AI Go.PN
attribute [local irreducible] aw Fa Fh DrK
@[go_sem] theorem ty_fi2_s:tSz Tryz.prog 207=some (false,1):=by kernel_rfl
@[go_sem] theorem ty_fi2_z:tZero Tryz.prog 207=some [.raw .nilFunc]:=by kernel_rfl
abbrev E3 (gF gA gW gT:Nat) (fc:FuncId) (gs':List Nat):Heap:=
 [(gF,.cells 117 1 (ofL [fnC fc gs'])),(gA,.cells 169 1 (ofL [.optr gT 0])),(gW,.cells 207 1 (ofL [fnC 171 [gF,gA,gW]]))]
theorem zeachw_fh {α:Type} (H:α→Heap) (F:α→Nat→Prop) (R:α→Nat→α→Prop) (fc:FuncId) (gs':List Nat) (gF gA gW gT gU gM:Nat) {n:Nat} (h24:n≤24) {og:Option Nat} {ns:List DN} {mm:Mem3} (hs:ZS n og ns mm) (hn:ns.length≤1000000000)
  (hcb:∀(x:α) (s m:Nat),F x (m+1)→s<2^n→Fh Tryz.prog fc (H x) ([.c (.int .i64 s)]++gs'.map fun g=>.c (.optr g 0)) (fun r h=>∃y,R x s y∧F y m∧r=.tup []∧h=H y)):∀(k:Nat) (r:Int) (b m:Nat) (x:α),r.toNat<k→RefOk ns r→b<2^n→F x (m+(setsZ ns r b).length)→
  Fh Tryz.prog 171 (E3 gF gA gW gT fc gs'++(ZHp gT gU gM og ns mm++H x)) ([.c (.int .i64 r),.c (.int .i64 b)]++[gF,gA,gW].map fun g=>.c (.optr g 0)) (fun z h=>∃y,RS R x (setsZ ns r b) y∧F y m∧z=.tup []∧h=E3 gF gA gW gT fc gs'++(ZHp gT gU gM og ns mm++H y)):=by
 intro k
 induction k with
 |zero=>intro r b m x hk;omega
 |succ k ih=>
  intro r b m x hk hr hb hx
  simp only [List.cons_append,List.nil_append,List.map_cons,List.map_nil]
  refine fh_of_body Tryz.func171 rfl rfl (by simp [Tryz.ntmps171]) fun C hC=> ?_
  simp only [initS,Nat.reduceAdd]
  refine aw_nd fun hnd0=> ?_
  have hnd:=keysL (A:=E3 gF gA gW gT fc gs'++ZHp gT gU gM og ns mm) (B:=H x) (by rw [List.append_assoc];exact hnd0)
  simp only [E3,ZHp,ZH,List.cons_append,List.nil_append,Heap.keys,List.map_cons] at hnd⊢
  replace hnd:=ndP_of hnd
  dsimp only [ndP,neA] at hnd
  refine yG hnd ?_
  refine yF hnd (fun h1=>?_) fun h1=>?_
  ·have h1':=of_decide_eq_true h1
   refine yG hnd ?_
   refine yF hnd (fun h2=>?_) fun h2=>?_
   ·have h2':r=1:=by simpa using h2
    refine yG hnd ?_
    refine aw_callhv (gs:=gs') (hc:=H x) (hr:=E3 gF gA gW gT fc gs'++ZHp gT gU gM og ns mm) (hcb x b m (by rw [sets_leaf h1',if_pos h2'] at hx;exact hx) hb) rfl rfl rfl (zE hnd) (by
     show(E3 gF gA gW gT fc gs'++(ZHp gT gU gM og ns mm++H x)).Perm _
     rw [←List.append_assoc]
     exact List.perm_append_comm) (zL hnd) ?_
    rintro _ _ ⟨y,y1,y2,rfl,rfl⟩ _
    refine aw_perm List.perm_append_comm ?_
    rw [List.append_assoc]
    refine ySG hnd ?_
    refine yU hnd ?_
    refine⟨y,?_,y2,rfl,rfl⟩
    rw [sets_leaf h1',if_pos h2']
    exact⟨y,y1,rfl⟩
   ·refine yG hnd ?_
    refine yU hnd ?_
    have h2':¬r=1:=by simpa using h2
    rw [sets_leaf h1',if_neg h2'] at hx
    refine⟨x,?_,hx,rfl,rfl⟩
    rw [sets_leaf h1',if_neg h2']
    rfl
  have h1':=of_decide_eq_false h1
  have hr2:2≤r:=by omega
  obtain⟨g,rfl⟩:∃g,og=some g:=by
   cases og with
   |none=>have:=hs.og rfl;unfold RefOk at hr;omega
   |some g=>exact⟨g,rfl⟩
  simp only [gh,List.map_cons,List.map_nil,neA,ndP] at hnd
  simp only [gs,gh,List.cons_append,List.nil_append]
  have hi:(r-2).toNat<ns.length:=by unfold RefOk at hr;omega
  obtain⟨w0,w1,w2,w3,w4,w5⟩:=(hs.tab _ hi).nk
  obtain⟨kl,kh⟩:=hs.tab.kids hi
  have hst:=sets_step hs.tab hr2 hr b
  generalize hx0:ns.getD (r-2).toNat dn0=nd at*
  obtain⟨v,hv⟩:∃v:Nat,nd.v=v:=⟨nd.v.toNat,by omega⟩
  have hv24:v<n:=by omega
  have hp:2^v<2^n:=Nat.pow_lt_pow_right om hv24
  have hp24:2^n≤2^24:=Nat.pow_le_pow_right om h24
  have hbv:b|||2^v<2^n:=Nat.or_lt_two_pow hb hp
  have hsh:shlZ .i64 1 nd.v=((2^v:Nat):Int):=by rw [hv];exact shl_one v om
  have hor:orZ .i64 (b:Int) ((2^v:Nat):Int)=((b|||2^v:Nat):Int):=orZ_nat _ _ om om
  rw [hv,Int.toNat_natCast] at hst
  rw [hst,List.length_append,Nat.add_comm (setsZ ns nd.lo b).length,←Nat.add_assoc] at hx
  have J1:=oj hnd (oj hnd (oj hx0 (oj hsh hor)))
  refine yG J1 ?_
  refine yA J1 fun g7 hn_g7=>?_
  clear hn_g7 J1
  refine aw_nd fun hnd2=> ?_
  have hnd3:=keysL (A:=(g7,.cells 119 3 (ofL [.int .i64 0,.int .i64 0,.int .i64 0]))::E3 gF gA gW gT fc gs'++ZHp gT gU gM (some g) ns mm) (B:=H x) hnd2
  simp only [E3,ZHp,ZH,gh,List.cons_append,List.nil_append,Heap.keys,List.map_cons,List.map_nil] at hnd3
  replace hnd3:=ndP_of hnd3
  dsimp only [ndP,neA] at hnd3
  clear hnd
  have J2:=oj hnd3 (oj hx0 (oj hsh hor))
  refine yGWSG J2 ?_
  refine aw_callhv (gs:=[gF,gA,gW]) (hr:=[(g7,.cells 119 3 (ofL [.int .i64 nd.v,.int .i64 nd.lo,.int .i64 nd.hi]))]) (ih nd.lo b _ x om kl hb hx) rfl rfl rfl (zE J2) (List.perm_append_comm (l₁:=[(g7,_)])) (zL J2) ?_
  rintro _ _ ⟨y,y1,y2,rfl,rfl⟩ _
  refine aw_perm List.perm_append_comm ?_
  simp only [E3,ZHp,ZH,gs,gh,List.cons_append,List.nil_append]
  refine ySG J2 ?_
  refine aw_cw ([(gW,.cells 207 1 (ofL [fnC 171 [gF,gA,gW]])),(g7,.cells 119 3 (ofL [.int .i64 nd.v,.int .i64 nd.lo,.int .i64 nd.hi]))]) [(0,0),(1,0),(2,0),(3,0),(4,0),(5,0),(6,0),(7,0),(8,2)] ty_mixed (by kernel_rfl) eI ?_
  refine yG J2 ?_
  refine cw_callhv (FP':=[]) (gs:=[gF,gA,gW]) (hr:=[(g7,.cells 119 3 (ofL [.int .i64 nd.v,.int .i64 nd.lo,.int .i64 nd.hi]))]) rfl (ih nd.hi (b|||2^v) m y om kh hbv y2) rfl rfl rfl (zE J2) (List.perm_append_comm (l₁:=[(g7,_)])) (zL J2) (fun _ _ _=>has0_nil) ?_
  rintro _ _ ⟨z,z1,z2,rfl,rfl⟩ _
  refine ySG J2 ?_
  refine aw_keep [] (E3 gF gA gW gT fc gs'++(ZHp gT gU gM (some g) ns mm++H z)) (zB J2) (List.sublist_append_left _ _) ?_
  refine yV J2 ?_
  exact⟨z,by rw [hst];exact y1.app z1,z2,rfl,rfl⟩
theorem zeach_fh {α:Type} (H:α→Heap) (F:α→Nat→Prop) (R:α→Nat→α→Prop) (fc:FuncId) (gs':List Nat) (gT gU gM:Nat) {n:Nat} (h24:n≤24) {og:Option Nat} {ns:List DN} {mm:Mem3} (hs:ZS n og ns mm) (hn:ns.length≤1000000000)
  (hcb:∀(x:α) (s m:Nat),F x (m+1)→s<2^n→Fh Tryz.prog fc (H x) ([.c (.int .i64 s)]++gs'.map fun g=>.c (.optr g 0)) (fun r h=>∃y,R x s y∧F y m∧r=.tup []∧h=H y)) {r:Int} (hr:RefOk ns r) (x:α) {m:Nat} (hx:F x (m+(setsZ ns r 0).length)):
  Fh Tryz.prog 137 (ZHp gT gU gM og ns mm++H x) [.c (.optr gT 0),.c (.int .i64 r),.c (fnC fc gs')] (fun z h=>∃y,RS R x (setsZ ns r 0) y∧F y m∧z=.tup []∧h=ZHp gT gU gM og ns mm++H y):=by
 refine fh_of_body Tryz.func137 rfl rfl (by simp [Tryz.ntmps137]) fun C hC=> ?_
 simp only [initS,Nat.reduceAdd]
 refine xG ?_
 refine xB fun gA hn_gA=>?_
 refine yG hn_gA ?_
 refine yB hn_gA fun gF hn_gF=>?_
 refine yG (oj hn_gA hn_gF) ?_
 refine yA (oj hn_gA hn_gF) fun gW hn_gW=>?_
 have J1:=oj hn_gA (oj hn_gF hn_gW)
 refine yG J1 ?_
 refine aw_makeFunc (gs:=[gF,gA,gW]) rfl rfl rfl (zE J1) ?_
 refine ySGWSG J1 ?_
 refine aw_callhv (hr:=[]) (zeachw_fh H F R fc gs' gF gA gW gT gU gM h24 hs hn hcb (r.toNat+1) r 0 m x om hr (Nat.pow_pos om) hx) rfl rfl rfl (zE J1) ?hp (zL J1) ?_
 ·rw [List.append_nil]
  exact(permL [(gW,_),(gF,_),(gA,_)] [0,1,2] [1,2,0] (by decide)).append_right (ZHp gT gU gM og ns mm++H x)
 rintro _ _ ⟨y,y1,y2,rfl,rfl⟩ _
 rw [List.append_nil]
 refine ySG J1 ?_
 refine aw_keep [] (ZHp gT gU gM og ns mm++H y) (zB J1) (List.sublist_append_right (E3 gF gA gW gT fc gs') _) ?_
 refine yV J1 ?_
 exact⟨y,y1,y2,rfl,rfl⟩
end Go.Proofs.YtefekdejgbceiaaGreat
namespace Go.Proofs.YtefekdejgbceiaaGreat
open Go.AI Go.PN
attribute [local irreducible] aw Fa Fh DrK
abbrev CB (gA gB gT:Nat) (a:Int):Heap:=[(gB,.cells 3 1 (ofL [.int .i64 a])),(gA,.cells 169 1 (ofL [.optr gT 0]))]
def CountOk (n gT gU gM:Nat) (k:Nat):Prop:=∀(og:Option Nat) (ns:List DN) (mm:Mem3) (a:Int),ZS n og ns mm→ns.length≤1000000000→RefOk ns a→a.toNat<k→
    Fh Tryz.prog 136 (ZHp gT gU gM og ns mm) [.c (.optr gT 0),.c (.int .i64 a)]
     (fun x h=>∃mm',ZP n ns mm (evZ n ns a) 0 og ns mm'∧x=.c (.int .i64 (cntZ ns a))∧h=ZHp gT gU gM og ns mm')
theorem zcclo_fh (n gT gU gM:Nat) (h24:n≤24) (k:Nat) (ih:CountOk n gT gU gM k) (gA gB:Nat) (og:Option Nat) (ns:List DN) (mm:Mem3) (a:Int) (hs:ZS n og ns mm) (hn:ns.length≤1000000000) (ha:RefOk ns a) (ha2:2≤a) (hk:a.toNat<k+1):
  Fh Tryz.prog 170 (ZHp gT gU gM og ns mm++CB gA gB gT a) ([]++[gA,gB].map fun g=>.c (.optr g 0))
   (fun x h=>∃og' ns' mm' r,(ZP n ns mm (evZ n ns a+1) 0 og' ns' mm'∧og'=og∧ns'=ns∧r=cntZ ns a)∧(og'=none→ns'.length=0)∧ns'.length≤1000000000∧x=.c (.int .i64 r)∧h=ZHp gT gU gM og' ns' mm'++CB gA gB gT a):=by
 simp only [List.nil_append,List.map_cons,List.map_nil]
 refine fh_of_body Tryz.func170 rfl rfl (by simp [Tryz.ntmps170]) fun C hC=> ?_
 simp only [initS,Nat.reduceAdd]
 obtain⟨g,rfl⟩:∃g,og=some g:=by
  cases og with
  |none=>have:=hs.og rfl;unfold RefOk at ha;omega
  |some g=>exact⟨g,rfl⟩
 refine aw_nd fun hnd=> ?_
 simp only [CB,ZHp,ZH,gs,gh,List.cons_append,List.nil_append,Heap.keys,List.map_cons,List.map_nil] at hnd⊢
 replace hnd:=ndP_of hnd
 dsimp only [ndP,neA] at hnd
 have hi:(a-2).toNat<ns.length:=by unfold RefOk at ha;omega
 obtain⟨w0,w1,w2,w3,w4,w5⟩:=(hs.tab _ hi).nk
 obtain⟨kl,kh⟩:=hs.tab.kids hi
 have ka:=kz_node hs.tab ha ha2
 have q1:=ka.ea
 have q2:=ka.eb
 rw [←evZ_node (n:=n) ha2] at q1 q2
 have hst:=cnt_step hs.tab ha2 ha
 have b1:=cntZ_le hs.tab _ kl
 have b2:=cntZ_le hs.tab _ kh
 have hpow:∀m:Nat,(2:Int)^(n-m)≤16777216:=fun m=>by
  have h1:2^(n-m)≤2^24:=Nat.pow_le_pow_right om om
  have e:((2:Int)^(n-m))=((2^(n-m):Nat):Int):=by simp
  rw [e]
  have e24:(2:Nat)^24=16777216:=rfl
  omega
 have c1:=Int.le_trans b1.2 (hpow _)
 have c2:=Int.le_trans b2.2 (hpow _)
 have b1':=b1.1
 have b2':=b2.1
 clear b1 b2
 generalize hx0:ns.getD (a-2).toNat dn0=nd at*
 have J1:=oj hnd hx0
 refine yG J1 ?_
 refine aw_cw ([(gA,.cells 169 1 (ofL [.optr gT 0])),(gB,.cells 3 1 (ofL [.int .i64 a])),(gT,.cells 205 3 (ofL [.osl g 3 0 ns.length,.raw (.map (some gU)),.raw (.map (some gM))])),(g,.cells 119 (ns.length*3) (dnsF ns))]) [(0,0),(1,0),(2,0),(3,0),(4,0),(5,0),(6,0),(7,0),(8,1),(9,2)] ty_mixed (by kernel_rfl) eI ?_
 refine yG J1 ?_
 refine cw_alloc rfl rfl rfl rfl (zE J1) eI (fun g3 hn_g3=> ?_) (hm:=.inr ⟨rfl,rfl⟩)
 replace hn_g3:=Heap.ne_of hn_g3
 dsimp only [Heap.ne] at hn_g3
 have J2:=oj hnd (oj hx0 hn_g3)
 refine ySG J2 ?_
 refine cw_store (FP':=[]) rfl rfl rfl rfl rfl (zE J2) (zE J2) (zE J2) (zE J2) (fun _ e=>by cases e) rfl rfl (Nat.le_refl 3) rfl has0_nil ?_
 refine ySG J2 ?_
 refine aw_cw ([(gA,.cells 169 1 (ofL [.optr gT 0])),(g3,.cells 119 3 (ofL [.int .i64 nd.v,.int .i64 nd.lo,.int .i64 nd.hi]))]) [(0,0),(1,0),(2,0),(4,0),(5,0),(6,0),(3,1),(7,1),(8,0),(9,0)] ty_mixed (by kernel_rfl) eI ?_
 refine yG J2 ?_
 have hpm:∀mm,((g3,.cells 119 3 (ofL [.int .i64 nd.v,.int .i64 nd.lo,.int .i64 nd.hi]))::(ZHp gT gU gM (some g) ns mm++CB gA gB gT a)).Perm (ZHp gT gU gM (some g) ns mm++((g3,.cells 119 3 (ofL [.int .i64 nd.v,.int .i64 nd.lo,.int .i64 nd.hi]))::CB gA gB gT a)):=fun mm=>List.perm_middle.symm
 refine cw_callh (hc:=ZHp gT gU gM (some g) ns mm) (hr:=(g3,.cells 119 3 (ofL [.int .i64 nd.v,.int .i64 nd.lo,.int .i64 nd.hi]))::CB gA gB gT a) rfl (ih (some g) ns mm nd.lo hs hn kl om) rfl rfl rfl (hpm mm) (zL J2) (by rintro _ _ ⟨_,_,rfl,rfl⟩;exact has0_app2 eI) ?_ (hm:=.inr ⟨rfl,rfl⟩)
 rintro _ _ ⟨mm1,p1,rfl,rfl⟩ _
 refine ySG J2 ?_
 refine cw_callh (hc:=ZHp gT gU gM (some g) ns mm1) (hr:=(g3,.cells 119 3 (ofL [.int .i64 nd.v,.int .i64 nd.lo,.int .i64 nd.hi]))::CB gA gB gT a) rfl (ih (some g) ns mm1 nd.hi p1.zs hn kh om) rfl rfl rfl (.refl _) (zL J2) (by rintro _ _ ⟨_,_,rfl,rfl⟩;exact has0_app2 eI) ?_ (hm:=.inr ⟨rfl,rfl⟩)
 rintro _ _ ⟨mm2,p2,rfl,rfl⟩ _
 refine ySG J2 ?_
 refine aw_perm (hpm mm2).symm ?_
 refine aw_keep [(2,.c (.int .i64 (cntZ ns nd.lo+cntZ ns nd.hi)))] (ZHp gT gU gM (some g) ns mm2++CB gA gB gT a) (zB J2) (List.Sublist.cons _ (List.Sublist.refl _)) ?_
 refine yU J2 ?_
 exact⟨some g,ns,mm2,_,⟨p1.trans p2 (Nat.le_refl _) om om,rfl,rfl,rfl⟩,hs.og,hn,by rw [hst],rfl⟩
theorem zcount_ok (n gT gU gM:Nat) (h24:n≤24):∀k,CountOk n gT gU gM k:=by
 intro k
 induction k with
 |zero=>intro og ns mm a _ _ _ hk;omega
 |succ k ih=>
  intro og ns mm a hs hn ha hk
  refine fh_of_body Tryz.func136 rfl rfl (by simp [Tryz.ntmps136]) fun C hC=> ?_
  simp only [initS,Nat.reduceAdd]
  refine xG ?_
  refine xB fun gA hn_gA=>?_
  refine yG hn_gA ?_
  refine yB hn_gA fun gB hn_gB=>?_
  have J1:=oj hn_gA hn_gB
  refine yG J1 ?_
  refine yF J1 (fun h1=>?_) fun h1=>?_
  ·have h1':=of_decide_eq_true h1
   refine yG J1 ?_
   refine aw_keep [(4,.c (.int .i64 a))] (ZHp gT gU gM og ns mm) (zB J1) (List.Sublist.cons _ (List.Sublist.cons _ (List.Sublist.refl _))) ?_
   refine yU J1 ?_
   exact⟨mm,hs.same _ _,by rw [cnt_leaf ha.1 h1'],rfl⟩
  have h1':=of_decide_eq_false h1
  refine yG J1 ?_
  refine aw_makeFunc (f:=170) (gs:=[gA,gB]) rfl rfl rfl (zE J1) ?_
  refine yS J1 ?_
  have hm1:memGet (99,a,0) mm=none→Fh Tryz.prog 170 (ZHp gT gU gM og ns mm++CB gA gB gT a) ([]++[gA,gB].map fun g=>.c (.optr g 0)) (fun x h=>∃og' ns' mm' r,(ZP n ns mm (evZ n ns a+1) 0 og' ns' mm'∧og'=og∧ns'=ns∧r=cntZ ns a)∧(og'=none→ns'.length=0)∧ns'.length≤1000000000∧memGet (99,a,0) mm'=none∧x=.c (.int .i64 r)∧h=ZHp gT gU gM og' ns' mm'++CB gA gB gT a):=fun hm=>by
   refine(zcclo_fh n gT gU gM h24 k ih gA gB og ns mm a hs hn ha om hk).mono ?_
   rintro x h ⟨og',ns',mm',r,⟨p,w⟩,e1,e2,e3,e4⟩
   refine⟨og',ns',mm',r,⟨p,w⟩,e1,e2,p.absent hm ?_,e3,e4⟩
   unfold lvE
   rw [if_neg (by simp),p.lat.ev ha]
   omega
  refine aw_callh (hc:=ZHp gT gU gM og ns mm++CB gA gB gT a) (hr:=[]) (remember_fh gT gU gM (CB gA gB gT a) 170 [gA,gB] 99 a 0 hs.og om _ hm1) rfl rfl rfl (by rw [List.append_nil];exact List.perm_append_comm (l₁:=CB gA gB gT a)) (zL J1) ?_
  rintro _ _ (⟨r,hm,rfl,rfl⟩|⟨hm,og',ns',mm',r,⟨p,rfl,rfl,rfl⟩,rfl,rfl⟩) _
  ·rw [List.append_nil]
   refine ySG J1 ?_
   refine aw_keep [(4,.c (.int .i64 r))] (ZHp gT gU gM og ns mm) (zB J1) (List.sublist_append_left _ _) ?_
   refine yU J1 ?_
   have me:=hs.mem _ (mem_mem hm)
   rcases me with ⟨e1,_⟩|⟨e1,_⟩|⟨_,_,e2⟩
   ·cases e1
   ·cases e1
   ·exact⟨mm,hs.same _ _,by rw [←e2],rfl⟩
  ·rw [List.append_nil]
   refine ySG J1 ?_
   refine aw_keep [(4,.c (.int .i64 (cntZ ns' a)))] (ZHp gT gU gM og' ns' (mm'++[((99,a,0),cntZ ns' a)])) (zB J1) (List.sublist_append_left _ _) ?_
   refine yU J1 ?_
   refine⟨_,p.note (.inr (.inr ⟨rfl,ha,rfl⟩)) om ?_,rfl,rfl⟩
   unfold lvE
   rw [if_neg (by simp)]
   exact Int.le_refl _
end Go.Proofs.YtefekdejgbceiaaGreat
namespace Go.Proofs.YtefekdejgbceiaaGreat
open Go.AI Go.PN
attribute [local irreducible] aw Fa Fh DrK
structure TrOk (d:DG) (ns:List DN) (rs:List Int) (k:Nat):Prop where
 ref:∀r:Nat,r<k+2→RefOk ns (rs.getD r 0)∧∀s,evalD ns s (rs.getD r 0)=evalD d.nodes s r
theorem tr_step {d:DG} (ok:DgOk d) {o:List Int} {ns ns2:List DN} (ht:TabOk o ns) {m:Nat} (hl2:Later o ns ns2 m) {rs:List Int} {k:Nat} (hk:k<d.nodes.length) (hl:k+2<rs.length) (h:TrOk d ns rs k) {x:Int} (hx:RefOk ns2 x)
  (he:∀s,evalD ns2 s x=if s.testBit (d.nodes.getD k dn0).v.toNat then evalD ns s (rs.getD (d.nodes.getD k dn0).hi.toNat 0) else evalD ns s (rs.getD (d.nodes.getD k dn0).lo.toNat 0)):TrOk d ns2 (rs.set (2+k) x) (k+1):=by
 obtain⟨v0,v1,l0,l1,g0,g1⟩:=ok.ns k hk
 obtain⟨r1,r3⟩:=h.ref (d.nodes.getD k dn0).lo.toNat om
 obtain⟨q1,q3⟩:=h.ref (d.nodes.getD k dn0).hi.toNat om
 rw [show(((d.nodes.getD k dn0).lo.toNat:Nat):Int)=(d.nodes.getD k dn0).lo from by omega] at r3
 rw [show(((d.nodes.getD k dn0).hi.toNat:Nat):Int)=(d.nodes.getD k dn0).hi from by omega] at q3
 refine⟨fun r hr=> ?_⟩
 by_cases e:r=2+k
 ·subst e
  rw [getZset om]
  refine⟨hx,fun s=> ?_⟩
  show evalD _ s _=evalD d.nodes s ((2+k:Nat):Int)
  rw [show(((2+k:Nat)):Int)=2+(k:Int) from by omega,evalD_step ok.ns om om]
  unfold kid
  rw [show((2:Int)+(k:Int)-2).toNat=k from by omega,he s,r3 s,q3 s]
  split<;>rfl
 ·rw [getZset' e]
  obtain⟨a1,a3⟩:=h.ref r om
  exact⟨hl2.ref a1,fun s=>by rw [hl2.eval ht a1,a3 s]⟩
theorem tr_zero {d:DG} {ns:List DN} {n:Nat} (hn:0<n):TrOk d ns ((List.replicate (n+1) 0).set 1 1) 0:=⟨fun r hr=>by
 obtain rfl|rfl:r=0∨r=1:=by omega
 ·rw [getZset' om,show(List.replicate (n+1) (0:Int)).getD 0 0=0 from by simp]
  exact⟨ref0,fun s=>by show evalD ns s 0=evalD d.nodes s 0;rw [ev0,ev0]⟩
 ·rw [getZset (by rw [List.length_replicate];omega)]
  exact⟨ref1,fun s=>by show evalD ns s 1=evalD d.nodes s 1;rw [ev1,ev1]⟩⟩
theorem translate_fh (gT gU gM:Nat) (d:DG) (ok:DgOk d) {o pl:List Int} (ho:OdOk o pl) (hol:o.length=d.order.length) {og:Option Nat} {ns:List DN} {mm:Mem3} (hs:TS o og ns mm) (hn:ns.length+d.nodes.length*2^(o.length+1)+1≤1000000000):
  Fh Tryz.prog 179 (THp gT gU gM og o pl ns mm) [.c (.optr gT 0),.agg (dgc false d)] (OpQ gT gU gM o pl ns (d.nodes.length*2^(o.length+1)) fun s=>evalD d.nodes s d.root):=by
 have k1:=ok.n4096
 have k2:=ok.r0
 have k3:=ok.r1
 have hB:0<2^(o.length+1):=Nat.pow_pos om
 refine fh_of_body Tryz.func179 rfl rfl (by simp [Tryz.ntmps179]) fun C hC=> ?_
 simp only [initS,Nat.reduceAdd]
 simp only [THp,TH,List.cons_append,List.nil_append]
 refine xG ?_
 refine xB fun g3 hn_g3=>?_
 refine yG hn_g3 ?_
 refine aw_make (n:=d.nodes.length+2) (c:=d.nodes.length+2) (size:=1) (bytes:=8) (z:=[.int .i64 0]) rfl rfl rfl (zE hn_g3) (zE hn_g3) rfl om (zE hn_g3) (zE hn_g3) om om om om om fun g5 hn_g5=> ?_
 clear hn_g5 hn_g3
 simp only [Nat.mul_one]
 rw [make_is]
 refine aw_nd fun hnd=> ?_
 simp only [Heap.keys,List.map_cons] at hnd
 replace hnd:=ndP_of hnd
 dsimp only [ndP,neA] at hnd
 refine ySGWS hnd ?_
 rw [updF_is (zs:=List.replicate (d.nodes.length+2) 0) (i:=1) (v:=1) (by rw [List.length_replicate];omega)]
 refine yG hnd ?_
 refine aw_lp (fun x:Nat×Option Nat×List DN×Mem3×List Int=>[(0,.c (.optr gT 0)),(3,.c (.optr g3 0)),(5,.c (.osl g5 1 0 (d.nodes.length+2))),(16,.c (dns false d.nodes)),(17,.c (.int .i64 d.nodes.length)),(18,.c (.int .i64 x.1))]) (fun x=>[(g5,.cells 3 (d.nodes.length+2) (isF x.2.2.2.2)),(g3,.cells 31 3 (ofL (dgc false d)))]++THp gT gU gM x.2.1 o pl x.2.2.1 x.2.2.2.1)
  (fun x=>x.1≤d.nodes.length∧TS o x.2.1 x.2.2.1 x.2.2.2.1∧Later o ns x.2.2.1 (x.1*2^(o.length+1))∧x.2.2.2.2.length=d.nodes.length+2∧TrOk d x.2.2.1 x.2.2.2.2 x.1) (fun x=>d.nodes.length-x.1) (0,og,ns,mm,(List.replicate (d.nodes.length+2) 0).set 1 1) (zB hnd) zZ ⟨Nat.zero_le _,hs,Later.refl hs.tab _,by simp,tr_zero om⟩ ?_
 clear hnd
 rintro ⟨k,og',ns',mm',rs⟩ ⟨hk,hs',hl',hrl,hi⟩
 dsimp only at hk hs' hl' hrl hi⊢
 simp only [THp,TH,List.cons_append,List.nil_append]
 refine aw_nd fun hnd=> ?_
 simp only [Heap.keys,List.map_cons] at hnd
 replace hnd:=ndP_of hnd
 dsimp only [ndP,neA] at hnd
 have hln:=hl'.len
 refine yG hnd ?_
 refine yF hnd (fun h1=>?_) fun h1=>?_
 ·have h1':k<d.nodes.length:=dT h1
  have hkb:k*2^(o.length+1)+2^(o.length+1)≤d.nodes.length*2^(o.length+1):=by
   have:=Nat.mul_le_mul_right (2^(o.length+1)) (show k+1≤d.nodes.length by omega)
   rwa [Nat.add_mul,Nat.one_mul] at this
  obtain⟨v0,v1,l0,l1,q0,q1⟩:=ok.ns k h1'
  obtain⟨r1,_⟩:=hi.ref (d.nodes.getD k dn0).lo.toNat om
  obtain⟨r2,_⟩:=hi.ref (d.nodes.getD k dn0).hi.toNat om
  have hst:∀{ns2:List DN} {m:Nat} {x:Int},Later o ns' ns2 m→RefOk ns2 x→(∀s,evalD ns2 s x=if s.testBit (d.nodes.getD k dn0).v.toNat then evalD ns' s (rs.getD (d.nodes.getD k dn0).hi.toNat 0) else evalD ns' s (rs.getD (d.nodes.getD k dn0).lo.toNat 0))→TrOk d ns2 (rs.set (2+k) x) (k+1):=fun a b c=>tr_step ok hs'.tab a h1' om hi b c
  refine yG hnd ?_
  refine yA hnd fun g7 hn_g7=>?_
  clear hn_g7
  refine aw_nd fun hnd2=> ?_
  simp only [Heap.keys,List.map_cons] at hnd2
  replace hnd2:=ndP_of hnd2
  dsimp only [ndP,neA] at hnd2
  clear hnd
  refine yGWS hnd2 ?_
  generalize hx0:d.nodes.getD k dn0=nd at*
  have J1:=oj hnd2 hx0
  refine yG J1 ?_
  refine aw_cw ([(g5,.cells 3 (d.nodes.length+2) (isF rs)),(g7,.cells 119 3 (ofL [.int .i64 nd.v,.int .i64 nd.lo,.int .i64 nd.hi]))]) [(0,0),(1,0),(2,0),(3,0),(4,0),(5,0),(6,0),(8,0),(9,0),(10,0),(11,0),(12,0),(13,0),(14,0),(15,0),(16,0),(17,0),(7,1),(18,1),(19,0),(20,2)] ty_mixed (by kernel_rfl) eI ?_
  refine yG J1 ?_
  refine cw_callh (hc:=THp gT gU gM og' o pl ns' mm') (hr:=[(g7,.cells 119 3 (ofL [.int .i64 nd.v,.int .i64 nd.lo,.int .i64 nd.hi])),(g5,.cells 3 (d.nodes.length+2) (isF rs)),(g3,.cells 31 3 (ofL (dgc false d)))]) rfl (tevent_fh gT gU gM hs' om v0 om) rfl rfl rfl (List.perm_append_comm (l₁:=[(g7,_),(g5,_),(g3,_)])) (zL J1) (by
   rintro _ _ ⟨_,_,_,_,_,_,_,_,rfl,rfl⟩;exact has0_app2 eI) ?_ (hm:=.inr ⟨rfl,rfl⟩)
  rintro _ _ ⟨og1,ns1,mm1,c1,e1,e2,e3,e4,rfl,rfl⟩ _
  have n1:=e2.len
  refine ySG J1 ?_
  refine cw_callh (hc:=THp gT gU gM og1 o pl ns1 mm1) (hr:=[(g7,.cells 119 3 (ofL [.int .i64 nd.v,.int .i64 nd.lo,.int .i64 nd.hi])),(g5,.cells 3 (d.nodes.length+2) (isF rs)),(g3,.cells 31 3 (ofL (dgc false d)))]) rfl (choose_fh gT gU gM ho e1 om e3 (e2.ref r2) (e2.ref r1)) rfl rfl rfl (.refl _) (zL J1) (by
   rintro _ _ ⟨_,_,_,_,_,_,_,_,rfl,rfl⟩;exact has0_app2 eI) ?_ (hm:=.inr ⟨rfl,rfl⟩)
  rintro _ _ ⟨og2,ns2,mm2,x,f1,f2,f3,f4,rfl,rfl⟩ _
  have n2:=f2.len
  refine yS J1 ?_
  refine cw_perm List.perm_append_comm ?_
  simp only [List.cons_append,List.nil_append]
  refine ySG J1 ?_
  refine cw_store (FP':=[]) rfl rfl rfl rfl rfl (zE J1) (zE J1) (zE J1) (zE J1) (fun _ e=>by cases e) rfl rfl (by show(2+(k:Int)).toNat+1≤_;omega) rfl has0_nil ?_
  simp only [AV.cells]
  rw [show((2:Int)+(k:Int)).toNat=2+k from by omega,updF_is om]
  refine ySG J1 ?_
  have l02:=e2.trans f2 (Nat.le_refl _)
  have hk1:(k+1)*2^(o.length+1)=k*2^(o.length+1)+2^(o.length+1):=by rw [Nat.add_mul,Nat.one_mul]
  refine aw_stop ⟨(k+1,og2,ns2,mm2,rs.set (2+k) x),by dsimp only;omega,(zB J1),List.Sublist.cons _ (List.Sublist.refl _),by dsimp only;omega,f1,hl'.trans l02 (by dsimp only;omega),by dsimp only;rw [List.length_set];exact hrl,?_⟩
  refine hst l02 f3 fun s=> ?_
  rw [f4 s]
  dsimp only
  rw [e4 s,e2.eval hs'.tab r1,e2.eval hs'.tab r2]
 ·have h1':k=d.nodes.length:=dF h1
  subst h1'
  have hrt:((d.root.toNat:Nat):Int)=d.root:=by omega
  obtain⟨r1,r3⟩:=hi.ref d.root.toNat om
  rw [hrt] at r3
  refine yG hnd ?_
  refine aw_keep [(4,.c (.int .i64 (rs.getD d.root.toNat 0)))] (THp gT gU gM og' o pl ns' mm') (zB hnd) (List.Sublist.cons _ (List.Sublist.cons _ (List.Sublist.refl _))) ?_
  refine yU hnd ?_
  exact⟨og',ns',mm',_,hs',hl',r1,r3,rfl,rfl⟩
end Go.Proofs.YtefekdejgbceiaaGreat
namespace Go.AI
def dgZ:DG:=⟨[],[],0⟩
def dgsF (ds:List DG):Nat→CV:=lf 3 (fun d:DG=>[is false d.order,dns false d.nodes,CV.int .i64 d.root]) dgZ ds
@[go_sem] theorem dgsF_0 (ps:List DG) (i:Nat):dgsF ps (i*3)=is false (ps.getD i dgZ).order:=by
 have:=lf_at (s:=3) (c:=fun d:DG=>[is false d.order,dns false d.nodes,CV.int .i64 d.root]) (d:=dgZ) (xs:=ps) (i:=i) (k:=0) om
 exact this
@[go_sem] theorem dgsF_1 (ps:List DG) (i:Nat):dgsF ps (i*3+1)=dns false (ps.getD i dgZ).nodes:=by
 have:=lf_at (s:=3) (c:=fun d:DG=>[is false d.order,dns false d.nodes,CV.int .i64 d.root]) (d:=dgZ) (xs:=ps) (i:=i) (k:=1) om
 exact this
@[go_sem] theorem dgsF_2 (ps:List DG) (i:Nat):dgsF ps (i*3+2)=.int .i64 (ps.getD i dgZ).root:=by
 have:=lf_at (s:=3) (c:=fun d:DG=>[is false d.order,dns false d.nodes,CV.int .i64 d.root]) (d:=dgZ) (xs:=ps) (i:=i) (k:=2) om
 exact this
@[go_sem] theorem dgsF_00 (ps:List DG):dgsF ps 0=is false (ps.getD 0 dgZ).order:=dgsF_0 ps 0
end Go.AI
namespace Go.PN
open Go.AI
instance c16dec (ds:List DG):Decidable (∀j,j<ds.length→(ds.getD j dgZ).order=(ds.getD 0 dgZ).order):=Nat.decidableBallLT _ _
theorem perm_mid {α:Type} (a:α) (T R:List α):(a::(T++R)).Perm (T++(a::R)):=List.perm_middle.symm
structure OpS (ds:List DG) (k:Nat) (ns:List DN) (rl:List Int):Prop where
 len:rl.length=k
 ref:∀j,j<k→RefOk ns (rl.getD j 0)∧∀s,evalD ns s (rl.getD j 0)=evalD (ds.getD j dgZ).nodes s (ds.getD j dgZ).root
theorem OpS.push {ds:List DG} {k:Nat} {o:List Int} {ns ns':List DN} {m:Nat} {rl:List Int} {x:Int} (h:OpS ds k ns rl) (ht:TabOk o ns) (hl:Later o ns ns' m) (hx:RefOk ns' x) (he:∀s,evalD ns' s x=evalD (ds.getD k dgZ).nodes s (ds.getD k dgZ).root):OpS ds (k+1) ns' (rl++[x]):=by
 have hlen:=h.len
 refine⟨by simp [h.len],fun j hj=> ?_⟩
 by_cases e:j=k
 ·have e1:(rl++[x]).getD j 0=x:=by
   rw [List.getD_eq_getElem?_getD,List.getElem?_append_right om,show j-rl.length=0 from by omega];rfl
  rw [e1,e]
  exact⟨hx,he⟩
 ·obtain⟨a,b⟩:=h.ref j om
  have e1:(rl++[x]).getD j 0=rl.getD j 0:=by
   rw [List.getD_eq_getElem?_getD,List.getElem?_append_left om,←List.getD_eq_getElem?_getD]
  rw [e1]
  exact⟨hl.ref a,fun s=>by rw [hl.eval ht a];exact b s⟩
end Go.PN

namespace Go.PN
open Go.AI
structure DOut (o:List Int) (f:Nat→Bool) (D:DG):Prop where
 order:D.order=o
 code:dcode D=0
 ev:∀s,evalD D.nodes s D.root=f s
theorem dout_of {o:List Int} {ns:List DN} {rs:List Int} {os:List DN} {r x:Int} (ho:ocode o o.length=0) (h12:o.length≤12) (hm:∀v:Int,0≤v→v<o.length→v∈o) (ht:TabOk o ns) (hr:RefOk ns r) (h:Ex o ns [] [] rs os r x):DOut o (fun s=>evalD ns s r) ⟨o,os,x⟩:=by
 refine⟨rfl,ex_code ho ht hr h ?_,fun s=>h.ok.eval ht s x.toNat r x (Nat.le_refl _) hr.1 hr.2 h.ref⟩
 have h0:=lv3_nonneg hm ht hr
 have hl:=h.len
 have hp:2^((o.length:Int)-lvZ o ns r).toNat≤2^12:=Nat.pow_le_pow_right om om
 rw [h.ok.len]
 simp only [List.length_nil] at hl
 omega
end Go.PN

namespace Go.PN
open Go.AI
theorem lv_eq_node {o:List Int} {ns:List DN} {r:Int} (h2:2≤r):lvZ o ns r=placeZ o (ns.getD (r-2).toNat dn0).v:=by unfold lvZ;rw [if_neg om]
theorem place_inj {o:List Int} {a b:Int} (ha:a∈o) (hb:b∈o) (h:placeZ o a=placeZ o b):a=b:=by
 have h0:=place_nonneg ha
 have e1:=place_at (o:=o) (v:=a) rfl h0 ha
 have e2:=place_at (o:=o) (v:=b) (L:=placeZ o a) h.symm h0 hb
 rw [←e1,←e2]
theorem node_told {o:List Int} {ns:List DN} (ht:TabOk o ns) {r:Int} (h2:2≤r) (hr:r<ns.length+2) (s:Nat) (b:Bool):
  evalD ns (setB s (ns.getD (r-2).toNat dn0).v.toNat b) r=evalD ns s (if b then(ns.getD (r-2).toNat dn0).hi else(ns.getD (r-2).toNat dn0).lo):=by
 have hi':(r-2).toNat<ns.length:=by omega
 have nd:=ht _ hi'
 obtain⟨v0,v1,_,_,_,_⟩:=nd.nk
 obtain⟨r1,r2⟩:=kids_ref ht hi'
 have hv:(((ns.getD (r-2).toNat dn0).v.toNat:Nat):Int)=(ns.getD (r-2).toNat dn0).v:=by omega
 rw [evalD_step ht.ns h2 hr]
 unfold kid
 rw [setB_bit,if_pos rfl]
 cases b with
 |true=>exact setB_indep ht r2 (by rw [hv];exact nd.bh) s true
 |false=>exact setB_indep ht r1 (by rw [hv];exact nd.bl) s false
theorem tab_canon {o:List Int} {ns:List DN} (hm:∀v:Int,0≤v→v<o.length→v∈o) (ht:TabOk o ns):∀(k:Nat) (a b:Int),RefOk ns a→RefOk ns b→(o.length-lvZ o ns a).toNat≤k→(o.length-lvZ o ns b).toNat≤k→(∀s,evalD ns s a=evalD ns s b)→a=b:=by
 intro k
 induction k with
 |zero=>
  intro a b ha hb la lb h
  have leaf:∀r:Int,RefOk ns r→(o.length-lvZ o ns r).toNat≤0→r<2:=fun r hr hl=>by
   refine Classical.byContradiction fun hc=> ?_
   have:=lv_lt ht hr om
   omega
  have a2:=leaf a ha la
  have b2:=leaf b hb lb
  have:=h 0
  rw [evalD_leaf om,evalD_leaf om] at this
  unfold RefOk at ha hb
  have e:decide (a=1)=decide (b=1):=by simpa using this
  rw [decide_eq_decide] at e
  omega
 |succ k ih=>
  have below:∀a b:Int,RefOk ns a→RefOk ns b→(o.length-lvZ o ns a).toNat≤k+1→2≤a→lvZ o ns a<lvZ o ns b→(∀s,evalD ns s a=evalD ns s b)→False:=by
   intro a b ha hb la a2 hlt h
   have hi':(a-2).toNat<ns.length:=by unfold RefOk at ha;omega
   have nd:=ht _ hi'
   obtain⟨v0,v1,_,_,_,_⟩:=nd.nk
   obtain⟨r1,r2⟩:=kids_ref ht hi'
   have hv:(((ns.getD (a-2).toNat dn0).v.toNat:Nat):Int)=(ns.getD (a-2).toNat dn0).v:=by omega
   have hla:=lv_eq_node (o:=o) (ns:=ns) a2
   have b1:=nd.bl
   have b2:=nd.bh
   refine nd.ne (ih _ _ r1 r2 om om fun s=> ?_)
   have t:=node_told ht a2 ha.2 s true
   have f:=node_told ht a2 ha.2 s false
   rw [if_pos rfl] at t
   rw [if_neg (by simp)] at f
   rw [←f,←t,h,h,setB_indep ht hb (by rw [hv,←hla];exact hlt),setB_indep ht hb (by rw [hv,←hla];exact hlt)]
  intro a b ha hb la lb h
  by_cases hl:lvZ o ns a=lvZ o ns b
  ·by_cases a2:2≤a
   ·have b2:2≤b:=by
     refine Classical.byContradiction fun hc=> ?_
     have h1:=lv_lt ht ha a2
     have h3:lvZ o ns b=o.length:=by unfold lvZ;rw [if_pos om]
     omega
    have hia:(a-2).toNat<ns.length:=by unfold RefOk at ha;omega
    have hib:(b-2).toNat<ns.length:=by unfold RefOk at hb;omega
    have na:=ht _ hia
    have nb:=ht _ hib
    obtain⟨v0,v1,_,_,_,_⟩:=na.nk
    obtain⟨u0,u1,_,_,_,_⟩:=nb.nk
    obtain⟨ra,sa⟩:=kids_ref ht hia
    obtain⟨rb,sb⟩:=kids_ref ht hib
    have hla:=lv_eq_node (o:=o) (ns:=ns) a2
    have hlb:=lv_eq_node (o:=o) (ns:=ns) b2
    have ev:(ns.getD (a-2).toNat dn0).v=(ns.getD (b-2).toNat dn0).v:=place_inj (hm _ v0 v1) (hm _ u0 u1) om
    have q1:=na.bl
    have q2:=na.bh
    have q3:=nb.bl
    have q4:=nb.bh
    have el:(ns.getD (a-2).toNat dn0).lo=(ns.getD (b-2).toNat dn0).lo:=ih _ _ ra rb om om fun s=>by
     have f:=node_told ht a2 ha.2 s false
     have g:=node_told ht b2 hb.2 s false
     rw [if_neg (by simp)] at f g
     rw [←f,←g,ev,h]
    have eh:(ns.getD (a-2).toNat dn0).hi=(ns.getD (b-2).toNat dn0).hi:=ih _ _ sa sb om om fun s=>by
     have f:=node_told ht a2 ha.2 s true
     have g:=node_told ht b2 hb.2 s true
     rw [if_pos rfl] at f g
     rw [←f,←g,ev,h]
    have same:ns.getD (a-2).toNat dn0=ns.getD (b-2).toNat dn0:=by
     cases hA:ns.getD (a-2).toNat dn0
     cases hB:ns.getD (b-2).toNat dn0
     rw [hA,hB] at ev el eh
     dsimp only at ev el eh
     rw [ev,el,eh]
    refine Classical.byContradiction fun hne=> ?_
    rcases Nat.lt_or_gt_of_ne (show(a-2).toNat≠(b-2).toNat from fun e=>hne om) with hlt|hlt
    ·refine nb.new ?_
     rw [←same]
     exact take_memN.2 ⟨_,hlt,hia,rfl⟩
    ·refine na.new ?_
     rw [same]
     exact take_memN.2 ⟨_,hlt,hib,rfl⟩
   ·have b2:b<2:=by
     refine Classical.byContradiction fun hc=> ?_
     have h1:=lv_lt ht hb om
     have h3:lvZ o ns a=o.length:=by unfold lvZ;rw [if_pos om]
     omega
    have:=h 0
    rw [evalD_leaf om,evalD_leaf om] at this
    unfold RefOk at ha hb
    have e:decide (a=1)=decide (b=1):=by simpa using this
    rw [decide_eq_decide] at e
    omega
  ·exfalso
   rcases Int.lt_or_gt_of_ne hl with hlt|hlt
   ·refine below a b ha hb la ?_ hlt h
    refine Classical.byContradiction fun hc=> ?_
    have h3:lvZ o ns a=o.length:=by unfold lvZ;rw [if_pos om]
    have:=lv_le (o:=o) (ns:=ns) (r:=b)
    omega
   ·refine below b a hb ha lb ?_ hlt fun s=>(h s).symm
    refine Classical.byContradiction fun hc=> ?_
    have h3:lvZ o ns b=o.length:=by unfold lvZ;rw [if_pos om]
    have:=lv_le (o:=o) (ns:=ns) (r:=a)
    omega
end Go.PN
namespace Go.PN
open Go.AI
def natL (n:Nat):List Int:=(List.range n).map fun(i:Nat)=>(i:Int)
theorem natL_len (n:Nat):(natL n).length=n:=by simp [natL]
theorem natL_perm (n:Nat):Perm0 (natL n):=by
 refine⟨fun x hx=> ?_,?_⟩
 ·unfold natL at hx
  obtain⟨i,hi,rfl⟩:=List.mem_map.1 hx
  rw [List.mem_range] at hi
  rw [natL_len]
  omega
 ·exact List.Pairwise.map _ (fun a b h e=>h om) List.nodup_range
theorem ints_extZ {xs ys:List Int} (hl:xs.length=ys.length) (h:∀j,j<xs.length→xs.getD j 0=ys.getD j 0):xs=ys:=by
 apply List.ext_getElem hl
 intro i h1 h2
 have:=h i h1
 rw [List.getD_eq_getElem?_getD,List.getD_eq_getElem?_getD,List.getElem?_eq_getElem h1,List.getElem?_eq_getElem h2] at this
 exact this
theorem natL_end {zs:List Int} {n:Nat} (hl:zs.length=n) (h:∀j,j<n→zs.getD j 0=j):zs=natL n:=by
 refine ints_extZ (by rw [hl,natL_len]) fun j hj=> ?_
 rw [h j om]
 unfold natL
 rw [List.getD_eq_getElem?_getD,List.getElem?_map,List.getElem?_range om];rfl
end Go.PN
namespace Go.Proofs.YtefekdejgbceiaaGreat
open Go.AI Go.PN
attribute [local irreducible] aw Fa Fh DrK
theorem canon1 {o:List Int} {ns:List DN} (hm:∀v:Int,0≤v→v<o.length→v∈o) (ht:TabOk o ns) {r:Int} (hr:RefOk ns r):r=1↔∀s,evalD ns s r=true:=by
 constructor
 ·rintro rfl s;exact ev1
 ·intro h
  have h1:RefOk ns 1:=ref1
  exact tab_canon hm ht o.length r 1 hr h1 (by have:=lv3_nonneg hm ht hr;omega) (by have:=lv3_nonneg hm ht h1;omega) fun s=>by rw [h s,ev1]
theorem natural_fa (n:Nat) (hn:n≤24):Fa Tryz.prog 196 [.c (.int .i64 n)] (.c (is true (natL n))):=by
 refine fa_of_body Tryz.func196 rfl rfl (by simp [Tryz.ntmps196]) fun C hC=> ?_
 simp only [initS,Nat.reduceAdd]
 refine xG ?_
 refine aw_make (n:=n) (c:=n) (size:=1) (z:=[.int .i64 0]) rfl rfl rfl eE eE rfl om eE eE rfl rfl om om om fun g hg=> ?_
 rw [make_is n]
 refine xSG ?_
 refine aw_lp (fun x:Nat×List Int=>[(3,.c (.osl g 1 0 n)),(8,.c (.int .i64 n)),(9,.c (.int .i64 x.1))]) (fun x=>[(g,.cells 3 n (isF x.2))])
  (fun x=>x.1≤n∧x.2.length=n∧∀k,k<x.1→x.2.getD k 0=k) (fun x=>n-x.1) (0,List.replicate n 0) eB zZ ⟨Nat.zero_le _,by simp,fun k hk=>by omega⟩ ?_
 rintro ⟨i,zs⟩ ⟨hi,hzl,hz⟩
 dsimp only at hi hzl hz⊢
 refine xG ?_
 refine xF (fun hb1=>?_) fun hb1=>?_
 ·have hin:i<n:=dT hb1
  refine xG ?_
  refine xW ?_
  refine xS ?_
  rw [updF_is om]
  refine xG ?_
  refine aw_stop ⟨(i+1,zs.set i i),by dsimp only;omega,eB,zZ,by dsimp only;omega,by simpa using hzl,fun k hk=> ?_⟩
  dsimp only at hk⊢
  by_cases hki:k=i
  ·subst hki;exact getZset om
  ·rw [getZset' hki];exact hz k om
 ·have hin:i=n:=dF hb1
  subst hin
  refine xGT hC ?_
  rw [←natL_end hzl hz]
  exact .one (.c (ler_oslis eE hzl.symm))
theorem Natural_fa (n:Nat) (hn:n≤24):Fa Tryz.prog 178 [.c (.int .i64 n)] (.tup [.c (is true (natL n)),.c .nilI]):=by
 have z1:decide ((n:Int)<0)=false:=decide_eq_false om
 have z2:decide ((n:Int)>24)=false:=decide_eq_false om
 refine fa_of_body Tryz.func178 rfl rfl (by simp [Tryz.ntmps178]) fun C hC=> ?_
 simp only [initS,Nat.reduceAdd]
 have J1:=oj z1 z2
 refine yGNG J1 ?_
 refine yC J1 (natural_fa n hn) ?_
 refine yGT hC J1 ?_
 exact .tup ⟨.c ler_is,.c .nilI,trivial⟩
theorem cnatural_fh (d:DG) (h0:dcode d=0) (h12:d.order.length≤12):Fh Tryz.prog 161 [] [.agg (dgc false d)] (fun x h=>∃gT gU gM og ns mm r,TS (natL d.order.length) og ns mm∧RefOk ns r∧(∀s,evalD ns s r=evalD d.nodes s d.root)∧ns.length≤4096*2^(d.order.length+1)∧x=.tup [.c (.optr gT 0),.c (.int .i64 r),.c .nilI]∧h=THp gT gU gM og (natL d.order.length) (placesL (natL d.order.length)) ns mm):=by
 have ok:=dg_ok h0
 have k1:=ok.n4096
 have hod:OdOk (natL d.order.length) (placesL (natL d.order.length)):=⟨natL_perm _,pl_ok (natL_perm _),by rw [natL_len];omega⟩
 have hol:=natL_len d.order.length
 have hp:2^(d.order.length+1)≤2^13:=Nat.pow_le_pow_right om om
 have hm:=Nat.mul_le_mul k1 hp
 have hm2:=Nat.mul_le_mul_right (2^(d.order.length+1)) k1
 have z0:=ieq_t h0
 have ts0:TS (natL d.order.length) none [] []:=⟨fun _=>rfl,fun i hi=>absurd hi (Nat.not_lt_zero _),fun e he=>absurd he List.not_mem_nil⟩
 refine fh_of_body Tryz.func161 rfl rfl (by simp [Tryz.ntmps161]) fun C hC=> ?_
 simp only [initS,Nat.reduceAdd]
 refine yG z0 ?_
 refine yB z0 fun g1 hn_g1=>?_
 have J1:=oj z0 hn_g1
 refine yG J1 ?_
 refine aw_callq (dcheck_fa d om om) rfl rfl rfl (zL J1) ?_
 refine ySGNG J1 ?_
 refine aw_callq (Natural_fa d.order.length om) rfl rfl rfl (zL J1) ?_
 refine ySGNG J1 ?_
 generalize natL d.order.length=o at*
 refine aw_callh (hc:=[]) (hr:=[(g1,.cells 31 3 (ofL (dgc false d)))]) (new_fh o hod.perm hod.l24) rfl rfl rfl (.refl _) (zL J1) ?_
 rintro _ _ ⟨gT,gU,gM,rfl,rfl⟩ hfr
 refine yS J1 ?_
 refine aw_perm List.perm_append_comm ?_
 refine ySG J1 ?_
 refine aw_perm (h':=THp gT gU gM none o (placesL o) [] []++[(g1,.cells 31 3 (ofL (dgc false d)))]) (List.perm_append_comm (l₁:=[(g1,_)])) ?_
 refine aw_callh (translate_fh gT gU gM d ok hod hol ts0 (by rw [hol];simp only [List.length_nil];omega)) rfl rfl rfl (.refl _) (zL J1) ?_
 rintro _ _ ⟨og1,ns1,mm1,r1,s1,l1,p1,f1,rfl,rfl⟩ _
 have n1:=l1.len
 rw [hol] at n1
 simp only [List.length_nil] at n1
 refine ySG J1 ?_
 refine aw_rethw (h':=THp gT gU gM og1 o (placesL o) ns1 mm1) rfl (List.sublist_append_left _ _) (fun R hR=> ?_)
 simp only [go_sem,z0,hn_g1]
 refine hR _ rfl ?_
 clear hR R
 exact⟨gT,gU,gM,og1,ns1,mm1,r1,s1,p1,f1,by omega,rfl,rfl⟩
def monoN (n:Nat):Nat:=2*(2^n*2^(n+1))+2^(n+1)
theorem monotone_fh (gT gU gM:Nat) {o pl:List Int} (ho:OdOk o pl) {og:Option Nat} {ns:List DN} {mm:Mem3} (hs:TS o og ns mm) (hn:ns.length+o.length*monoN o.length≤1000000000) {r:Int} (hr:RefOk ns r):
  Fh Tryz.prog 162 (THp gT gU gM og o pl ns mm) [.c (.optr gT 0),.c (.int .i64 r),.c (.int .i64 o.length)] (fun x h=>∃b og' ns' mm',(b=true↔MonoF o.length fun s=>evalD ns s r)∧TS o og' ns' mm'∧Later o ns ns' (o.length*monoN o.length)∧x=.c (.bool b)∧h=THp gT gU gM og' o pl ns' mm'):=by
 have l24:=ho.l24
 have hB:0<2^(o.length+1):=Nat.pow_pos om
 refine fh_of_body Tryz.func162 rfl rfl (by simp [Tryz.ntmps162]) fun C hC=> ?_
 simp only [initS,Nat.reduceAdd]
 refine xG ?_
 refine aw_lp (fun x:Nat×Option Nat×List DN×Mem3=>[(0,.c (.optr gT 0)),(1,.c (.int .i64 r)),(8,.c (.int .i64 o.length)),(9,.c (.int .i64 x.1))]) (fun x=>THp gT gU gM x.2.1 o pl x.2.2.1 x.2.2.2)
  (fun x=>x.1≤o.length∧TS o x.2.1 x.2.2.1 x.2.2.2∧Later o ns x.2.2.1 (x.1*monoN o.length)∧∀j,j<x.1→∀s,evalD ns (setB s j false) r=true→evalD ns (setB s j true) r=true) (fun x=>o.length-x.1) (0,og,ns,mm) eB zZ ⟨Nat.zero_le _,hs,Later.refl hs.tab _,fun j hj=>by omega⟩ ?_
 rintro ⟨i,og0,ns0,mm0⟩ ⟨hi,hs0,hl0,hm0⟩
 dsimp only at hi hs0 hl0 hm0⊢
 have hln:=hl0.len
 refine xG ?_
 refine xF (fun hb1=>?_) fun hb1=>?_
 ·have hin:i<o.length:=dT hb1
  have hst:(i+1)*monoN o.length=i*monoN o.length+monoN o.length:=by rw [Nat.add_mul,Nat.one_mul]
  have hle:(i+1)*monoN o.length≤o.length*monoN o.length:=Nat.mul_le_mul_right _ hin
  have hmn:monoN o.length=2*(2^o.length*2^(o.length+1))+2^(o.length+1):=rfl
  have hr0:=hl0.ref hr
  refine xG ?_
  refine aw_callh (hr:=[]) (restrict_fh gT gU gM ho hin hs0 om hr0 false) rfl rfl rfl (by rw [List.append_nil]) eL ?_
  rintro _ _ ⟨og1,ns1,mm1,r1,s1,l1,q1,f1,rfl,rfl⟩ _
  rw [List.append_nil]
  have n1:=l1.len
  refine xSG ?_
  refine aw_callh (hr:=[]) (restrict_fh gT gU gM ho hin s1 om (l1.ref hr0) true) rfl rfl rfl (by rw [List.append_nil]) eL ?_
  rintro _ _ ⟨og2,ns2,mm2,r2,s2,l2,q2,f2,rfl,rfl⟩ _
  rw [List.append_nil]
  have n2:=l2.len
  refine xSG ?_
  refine aw_callh (hr:=[]) (choose_fh gT gU gM ho s2 om (l2.ref q1) q2 ref1) rfl rfl rfl (by rw [List.append_nil]) eL ?_
  rintro _ _ ⟨og3,ns3,mm3,r3,s3,l3,q3,f3,rfl,rfl⟩ _
  rw [List.append_nil]
  have n3:=l3.len
  have lat:Later o ns ns3 ((i+1)*monoN o.length):=((hl0.trans l1 (Nat.le_refl _)).trans l2 (Nat.le_refl _)).trans l3 om
  have hsem:∀s,evalD ns3 s r3=if evalD ns (setB s i false) r then evalD ns (setB s i true) r else true:=fun s=>by
   have a1:evalD ns2 s r1=evalD ns (setB s i false) r:=by rw [l2.eval s1.tab q1,f1 s];dsimp only;rw [hl0.eval hs.tab hr]
   have a2:evalD ns2 s r2=evalD ns (setB s i true) r:=by rw [f2 s];dsimp only;rw [l1.eval hs0.tab hr0,hl0.eval hs.tab hr]
   rw [f3 s]
   dsimp only
   rw [a1,a2,ev1]
  have hc:=canon1 ho.mem s3.tab q3
  refine xSG ?_
  refine xF (fun hb2=>?_) fun hb2=>?_
  ·have hne:¬r3=1:=by simpa using hb2
   refine xGU ?_
   refine⟨false,og3,ns3,mm3,⟨fun h=>(Bool.false_ne_true h).elim,fun hmono=> ?_⟩,s3,⟨lat.tab,lat.pre,by have:=lat.len;omega⟩,rfl,rfl⟩
   refine absurd (hc.2 fun s=> ?_) hne
   rw [hsem s]
   split
   ·rename_i h;exact hmono i hin s h
   ·rfl
  ·have heq:r3=1:=by simpa using hb2
   have hall:=hc.1 heq
   refine xG ?_
   refine aw_stop ⟨(i+1,og3,ns3,mm3),by dsimp only;omega,eB,zZ,by dsimp only;omega,s3,lat,fun j hj s h=> ?_⟩
   by_cases hji:j=i
   ·subst hji
    have:=hall s
    rw [hsem s,if_pos h] at this
    exact this
   ·exact hm0 j (by dsimp only at hj;omega) s h
 ·have hin:i=o.length:=dF hb1
  subst hin
  refine xGU ?_
  exact⟨true,og0,ns0,mm0,⟨fun _=>hm0,fun _=>rfl⟩,hs0,hl0,rfl,rfl⟩
end Go.Proofs.YtefekdejgbceiaaGreat
namespace Go.PN
open Go.AI Go.Proofs.YtefekdejgbceiaaGreat
theorem sub_le {t s:Nat} (h:SubN t s):t≤s:=by
 have:t&&&s=t:=Nat.eq_of_testBit_eq fun j=>by
  rw [Nat.testBit_and]
  cases ht:t.testBit j
  ·rfl
  ·rw [h j ht];rfl
 rw [←this]
 exact Nat.and_le_right
theorem sub_trans {a b c:Nat} (h:SubN a b) (k:SubN b c):SubN a c:=fun j hj=>k j (h j hj)
theorem sub_refl (a:Nat):SubN a a:=fun _ h=>h
def MonS (f:Nat→Bool):Prop:=∀s t,SubN s t→f s=true→f t=true
def mixN (k s t:Nat):Nat:=t%2^k|||highN k s
theorem mix_bit (k s t j:Nat):(mixN k s t).testBit j=if j<k then t.testBit j else s.testBit j:=by
 unfold mixN
 rw [Nat.testBit_or,high_bit,Nat.testBit_mod_two_pow]
 by_cases h:j<k
 ·rw [if_pos h,decide_eq_true h,decide_eq_false (by omega:¬k≤j)];simp
 ·rw [if_neg h,decide_eq_false h,decide_eq_true (by omega:k≤j)];simp
theorem monS_of {n:Nat} {f:Nat→Bool} (hm:MonoF n f) (hi:∀s t:Nat,(∀j:Nat,j<n→s.testBit j=t.testBit j)→f s=f t):MonS f:=by
 intro s t hst hs
 have key:∀k,k≤n→f (mixN k s t)=true:=by
  intro k
  induction k with
  |zero=>
   intro _
   have:mixN 0 s t=s:=Nat.eq_of_testBit_eq fun j=>by rw [mix_bit,if_neg om]
   rw [this];exact hs
  |succ k ih=>
   intro hk
   have h1:=ih om
   by_cases hb:(mixN k s t).testBit k=(mixN (k+1) s t).testBit k
   ·have:mixN (k+1) s t=mixN k s t:=Nat.eq_of_testBit_eq fun j=>by
     by_cases e:j=k
     ·subst e;exact hb.symm
     ·rw [mix_bit,mix_bit]
      by_cases hj:j<k
      ·rw [if_pos hj,if_pos om]
      ·rw [if_neg hj,if_neg om]
    rw [this];exact h1
   ·rw [mix_bit,mix_bit,if_neg om,if_pos om] at hb
    have hsk:s.testBit k=false:=by
     cases h:s.testBit k
     ·rfl
     ·rw [h,hst k h] at hb;exact absurd rfl hb
    have htk:t.testBit k=true:=by
     cases h:t.testBit k
     ·rw [hsk,h] at hb;exact absurd rfl hb
     ·rfl
    have e1:mixN k s t=setB (mixN k s t) k false:=Nat.eq_of_testBit_eq fun j=>by
     rw [setB_bit]
     split
     ·rename_i e;subst e;rw [mix_bit,if_neg om,hsk]
     ·rfl
    have e2:mixN (k+1) s t=setB (mixN k s t) k true:=Nat.eq_of_testBit_eq fun j=>by
     rw [setB_bit]
     split
     ·rename_i e;subst e;rw [mix_bit,if_pos om,htk]
     ·rw [mix_bit,mix_bit]
      by_cases hj:j<k
      ·rw [if_pos hj,if_pos om]
      ·rw [if_neg hj,if_neg om]
    rw [e2]
    exact hm k om _ (by rw [←e1];exact h1)
 rw [←key n (Nat.le_refl n)]
 exact hi _ _ fun j hj=>by rw [mix_bit,if_pos hj]
def MinT (f:Nat→Bool) (s:Nat):Prop:=f s=true∧∀t,SubN t s→f t=true→t=s
theorem min_ex {f:Nat→Bool}:∀(s:Nat),f s=true→∃t,SubN t s∧MinT f t:=by
 intro s
 induction s using Nat.strongRecOn with
 |ind s ih=>
  intro hs
  by_cases h:∃t,SubN t s∧f t=true∧t≠s
  ·obtain⟨t,t1,t2,t3⟩:=h
   obtain⟨u,u1,u2⟩:=ih t (by have:=sub_le t1;omega) t2
   exact⟨u,sub_trans u1 t1,u2⟩
  ·exact⟨s,sub_refl s,hs,fun t h1 h2=>Classical.byContradiction fun h3=>h ⟨t,h1,h2,h3⟩⟩
structure SolP (n:Nat) (o:List Int) (dns ns:List DN) (r x:Int):Prop where
 rr:RefOk dns r
 rx:RefOk ns x
 lv:lvZ o dns r≤evZ n ns x
 sem:∀s,memZ ns x s=true↔MinT (fun s=>evalD dns s r) s
theorem SolP.later {n:Nat} {o:List Int} {dns a b:List DN} {r x:Int} {k:Nat} (h:SolP n o dns a r x) (ha:ZTab n a) (l:ZLat n a b k):SolP n o dns b r x:=
 ⟨h.rr,l.ref h.rx,by rw [l.ev h.rx];exact h.lv,fun s=>by rw [l.mem ha h.rx];exact h.sem s⟩
theorem SolP.hit {n:Nat} {o:List Int} {dns ns:List DN} {r x:Int} (ht:ZTab n ns) (h:SolP n o dns ns r x) (hm:MonS fun s=>evalD dns s r) (s:Nat):hitZ ns x s=true↔evalD dns s r=true:=by
 rw [hit_iff ht x h.rx]
 constructor
 ·rintro ⟨t,t1,t2⟩
  exact hm t s t1 ((h.sem t).1 t2).1
 ·intro hs
  obtain⟨t,t1,t2⟩:=min_ex (f:=fun s=>evalD dns s r) s hs
  exact⟨t,t1,(h.sem t).2 t2⟩
theorem sub_zero {t:Nat} (h:SubN t 0):t=0:=by have:=sub_le h;omega
theorem zero_sub (s:Nat):SubN 0 s:=fun j hj=>by simp at hj
theorem sol_leaf {n:Nat} {o:List Int} (ho:o.length=n) {dns ns:List DN} {r:Int} (h0:0≤r) (h1:r<2):SolP n o dns ns r r:=by
 refine⟨⟨h0,by omega⟩,⟨h0,by omega⟩,by rw [ev_leaf h1];have:=lv_le (o:=o) (ns:=dns) (r:=r);omega,fun s=> ?_⟩
 have e:∀s,evalD dns s r=decide (r=1):=fun s=>evalD_leaf om
 rw [mem_leaf om]
 unfold MinT
 simp only [e]
 by_cases hr:r=1
 ·subst hr
  simp only [decide_true,Bool.true_and,decide_eq_true_eq,true_and]
  constructor
  ·rintro rfl
   exact fun t ht _=>sub_zero ht
  ·intro h
   exact(h 0 (zero_sub s) trivial).symm
 ·simp [hr]
theorem place_natL {n:Nat} {v:Int} (h0:0≤v) (h1:v<n):placeZ (natL n) v=v:=by
 have:=place_get (natL_perm n).nodup (k:=v.toNat) (by rw [natL_len];omega)
 have e:(natL n).getD v.toNat 0=v:=by
  rw [getDZ (by rw [natL_len];omega)]
  simp [natL]
  omega
 rw [e] at this
 omega
theorem setB_xor {s v:Nat} (h:s.testBit v=true):setB s v false=s^^^2^v:=by
 unfold setB
 rw [if_neg (by rw [h];simp)]
theorem sub_setB {s t:Nat} (h:SubN s t) (v:Nat) (b:Bool):SubN (setB s v b) (setB t v b):=fun j hj=>by
 rw [setB_bit] at hj⊢
 split
 ·rename_i e;rw [if_pos e] at hj;exact hj
 ·rename_i e;rw [if_neg e] at hj;exact h j hj
theorem min_step {f f0 f1:Nat→Bool} {v:Nat} (hf:∀s,f s=if s.testBit v then f1 s else f0 s) (h0:∀s b,f0 (setB s v b)=f0 s) (h1:∀s b,f1 (setB s v b)=f1 s) (hm:MonS f) (s:Nat):
  MinT f s↔if s.testBit v then MinT f1 (s^^^2^v)∧¬f0 (s^^^2^v)=true else MinT f0 s:=by
 have m0:MonS f0:=fun a b hab ha=>by
  have:=hm _ _ (sub_setB hab v false) (by rw [hf,setB_bit,if_pos rfl,if_neg (by simp),h0];exact ha)
  rwa [hf,setB_bit,if_pos rfl,if_neg (by simp),h0] at this
 cases hs:s.testBit v
 ·rw [if_neg (by simp)]
  have key:∀t,SubN t s→f t=f0 t:=fun t ht=>by
   rw [hf,if_neg]
   intro hb
   have:=ht v hb
   rw [hs] at this
   cases this
  unfold MinT
  rw [key s (sub_refl s)]
  constructor
  ·rintro ⟨a,b⟩;exact⟨a,fun t t1 t2=>b t t1 (by rw [key t t1];exact t2)⟩
  ·rintro ⟨a,b⟩;exact⟨a,fun t t1 t2=>b t t1 (by rw [←key t t1];exact t2)⟩
 ·rw [if_pos rfl]
  have hx:s^^^2^v=setB s v false:=(setB_xor hs).symm
  rw [hx]
  have hoff:(setB s v false).testBit v=false:=by rw [setB_bit,if_pos rfl]
  have hsub:SubN (setB s v false) s:=fun j hj=>by
   rw [setB_bit] at hj
   split at hj
   ·cases hj
   ·exact hj
  have hon:setB (setB s v false) v true=s:=Nat.eq_of_testBit_eq fun j=>by
   rw [setB_bit,setB_bit]
   by_cases e:j=v
   ·subst e;rw [if_pos rfl,hs]
   ·rw [if_neg e,if_neg e]
  constructor
  ·rintro ⟨a,b⟩
   rw [hf,hs,if_pos rfl] at a
   refine⟨⟨by rw [h1];exact a,fun t t1 t2=> ?_⟩,fun hc=> ?_⟩
   ·have tv:t.testBit v=false:=by
     cases h:t.testBit v
     ·rfl
     ·have:=t1 v h;rw [hoff] at this;cases this
    have:=b (setB t v true) (by have:=sub_setB t1 v true;rwa [hon] at this) (by rw [hf,setB_bit,if_pos rfl,if_pos rfl,h1];exact t2)
    rw [←this]
    refine Nat.eq_of_testBit_eq fun j=> ?_
    rw [setB_bit,setB_bit]
    by_cases e:j=v
    ·subst e;rw [if_pos rfl,tv]
    ·rw [if_neg e,if_neg e]
   ·have:=b (setB s v false) hsub (by rw [hf,hoff,if_neg (by simp)];exact hc)
    rw [this,hs] at hoff
    cases hoff
  ·rintro ⟨⟨a,b⟩,c⟩
   rw [h1] at a
   refine⟨by rw [hf,hs,if_pos rfl];exact a,fun t t1 t2=> ?_⟩
   rw [hf] at t2
   cases htv:t.testBit v
   ·rw [htv,if_neg (by simp)] at t2
    exfalso
    refine c (m0 t _ (fun j hj=> ?_) t2)
    rw [setB_bit]
    split
    ·rename_i e;subst e;rw [htv] at hj;cases hj
    ·exact t1 j hj
   ·rw [htv,if_pos rfl] at t2
    have:=b (setB t v false) (sub_setB t1 v false) (by rw [h1];exact t2)
    rw [←hon,←this]
    refine Nat.eq_of_testBit_eq fun j=> ?_
    rw [setB_bit,setB_bit]
    by_cases e:j=v
    ·subst e;rw [if_pos rfl,htv]
    ·rw [if_neg e,if_neg e]
theorem mon_kids {n:Nat} {dns:List DN} (ht:TabOk (natL n) dns) {r:Int} (h2:2≤r) (hr:RefOk dns r):
  (∀s,evalD dns s r=if s.testBit (dns.getD (r-2).toNat dn0).v.toNat then evalD dns s (dns.getD (r-2).toNat dn0).hi else evalD dns s (dns.getD (r-2).toNat dn0).lo)∧
  (∀s b,evalD dns (setB s (dns.getD (r-2).toNat dn0).v.toNat b) (dns.getD (r-2).toNat dn0).lo=evalD dns s (dns.getD (r-2).toNat dn0).lo)∧
  (∀s b,evalD dns (setB s (dns.getD (r-2).toNat dn0).v.toNat b) (dns.getD (r-2).toNat dn0).hi=evalD dns s (dns.getD (r-2).toNat dn0).hi):=by
 have hi:(r-2).toNat<dns.length:=by unfold RefOk at hr;omega
 obtain⟨kl,kh⟩:=kids_ref ht hi
 have nd:=ht _ hi
 have nk:=nd.nk
 obtain⟨v0,v1,_⟩:=nk
 have hvv:(((dns.getD (r-2).toNat dn0).v.toNat:Nat):Int)=(dns.getD (r-2).toNat dn0).v:=by omega
 refine⟨fun s=> ?_,fun s b=>setB_indep ht kl (by rw [hvv];exact nd.bl) s b,fun s b=>setB_indep ht kh (by rw [hvv];exact nd.bh) s b⟩
 have:=eval_node ht hi (v:=(dns.getD (r-2).toNat dn0).v) (lo:=(dns.getD (r-2).toNat dn0).lo) (hi':=(dns.getD (r-2).toNat dn0).hi) rfl s
 rwa [show(2:Int)+(((r-2).toNat:Nat):Int)=r from by omega] at this
theorem mon_sub {f f0 f1:Nat→Bool} {v:Nat} (hf:∀s,f s=if s.testBit v then f1 s else f0 s) (h0:∀s b,f0 (setB s v b)=f0 s) (h1:∀s b,f1 (setB s v b)=f1 s) (hm:MonS f):MonS f0∧MonS f1:=
 ⟨fun a b hab ha=>by
  have:=hm _ _ (sub_setB hab v false) (by rw [hf,setB_bit,if_pos rfl,if_neg (by simp),h0];exact ha)
  rwa [hf,setB_bit,if_pos rfl,if_neg (by simp),h0] at this,fun a b hab ha=>by
  have:=hm _ _ (sub_setB hab v true) (by rw [hf,setB_bit,if_pos rfl,if_pos rfl,h1];exact ha)
  rwa [hf,setB_bit,if_pos rfl,if_pos rfl,h1] at this⟩
theorem sol_step {n:Nat} {dns n1 n2 n3:List DN} {k2 k3:Nat} (ht:TabOk (natL n) dns) {r xl xh w:Int} (h2:2≤r) (hr:RefOk dns r) (hm:MonS fun s=>evalD dns s r) (t1:ZTab n n1)
  (sl:SolP n (natL n) dns n1 (dns.getD (r-2).toNat dn0).lo xl) (l2:ZLat n n1 n2 k2) (sh:SolP n (natL n) dns n2 (dns.getD (r-2).toNat dn0).hi xh) (l3:ZLat n n2 n3 k3) (wk:WOk n n3 xh xl w):
  ZLat n n3 (mkZ n3 (dns.getD (r-2).toNat dn0).v xl w).1 1∧SolP n (natL n) dns (mkZ n3 (dns.getD (r-2).toNat dn0).v xl w).1 r (mkZ n3 (dns.getD (r-2).toNat dn0).v xl w).2:=by
 have hi:(r-2).toNat<dns.length:=by unfold RefOk at hr;omega
 have nd:=ht _ hi
 obtain⟨v0,v1,_⟩:=nd.nk
 rw [natL_len] at v1
 have hpl:=place_natL v0 v1
 have bl:=nd.bl
 have bh:=nd.bh
 rw [hpl] at bl bh
 obtain⟨e1,e2,e3⟩:=mon_kids ht h2 hr
 obtain⟨m0,m1⟩:=mon_sub e1 e2 e3 hm
 have ms:=min_step e1 e2 e3 hm
 have hlr:lvZ (natL n) dns r=(dns.getD (r-2).toNat dn0).v:=by unfold lvZ;rw [if_neg om];exact hpl
 generalize (dns.getD (r-2).toNat dn0).v=v at*
 generalize (dns.getD (r-2).toNat dn0).lo=lo at*
 generalize (dns.getD (r-2).toNat dn0).hi=hi' at*
 have s1:=(sl.later t1 l2).later l2.tab l3
 have s2:=sh.later l2.tab l3
 have ex:v<evZ n n3 xl:=by have:=s1.lv;omega
 have ew:v<evZ n n3 w:=by have:=wk.ev;have:=s1.lv;have:=s2.lv;omega
 obtain⟨q1,q2,q3,q4⟩:=mkZ_ok l3.tab v0 v1 s1.rx wk.pr ex ew
 refine⟨q1,hr,q2,by omega,fun s=> ?_⟩
 rw [q4,ms s]
 split
 ·rw [wk.sem]
  have a1:=s2.sem (s^^^2^v.toNat)
  have a2:=s1.hit l3.tab m0 (s^^^2^v.toNat)
  rw [Bool.and_eq_true,a1,Bool.not_eq_true',←Bool.not_eq_true,a2]
 ·exact s1.sem s
end Go.PN
