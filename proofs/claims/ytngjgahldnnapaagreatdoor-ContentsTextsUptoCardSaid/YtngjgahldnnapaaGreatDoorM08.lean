/- Parts of one proof, laid by a program. -/
import Derived.Test.YtngjgahldnnapaaGreatDoorM00
import Derived.Test.YtngjgahldnnapaaGreatDoorM07
set_option linter.unusedSimpArgs false
set_option linter.unusedVariables false
set_option maxRecDepth 100000
set_option maxHeartbeats 12800000
namespace Go.AI
open Go.PN
abbrev nac (u:Nat):List CV:=[CV.int .i64 (u:Int)]
def QlJ (l:List Nat):Nat→CV:=lf 1 nac (0:Nat) l
@[go_sem] theorem Xah (l:List Nat) (i:Nat):QlJ l i=.int .i64 ((l.getD i 0:Nat):Int):=by have:=QY (s:=1) (c:=nac) (d:=(0:Nat)) (xs:=l) (i:=i) (k:=0) om;rw [Ad,Nat.add_zero] at this;exact this
abbrev nas (t:Bool) (l:List Nat):CV:=.row t 1 l.length (QlJ l)
abbrev nlc (l:List Nat):List CV:=[nas true l]
def QdE (l:List (List Nat)):Nat→CV:=lf 1 nlc ([]:List Nat) l
@[go_sem] theorem Xai (l:List (List Nat)) (i:Nat):QdE l i=nas true (l.getD i []):=by have:=QY (s:=1) (c:=nlc) (d:=([]:List Nat)) (xs:=l) (i:=i) (k:=0) om;rw [Ad,Nat.add_zero] at this;exact this
abbrev nls (t:Bool) (l:List (List Nat)):CV:=.row t 1 l.length (QdE l)
theorem Qr1 {xs:List Nat} {n:Nat} (hn:xs.length=n) (t:Nat):∀j,j<(n+1)*1→Xq (QlJ xs) (n*1) (ofL (nac t)) j=QlJ (xs++[t]) j:=Za (s:=1) (c:=nac) (d:=(0:Nat)) hn t Af
theorem Qr2 {xs:List (List Nat)} {n:Nat} (hn:xs.length=n) (t:List Nat):∀j,j<(n+1)*1→Xq (QdE xs) (n*1) (ofL (nlc t)) j=QdE (xs++[t]) j:=Za (s:=1) (c:=nlc) (d:=([]:List Nat)) hn t Af
end Go.AI
namespace Go.Proofs.YtngjgahldnnapaaGreatDoor
open Go.AI Go.PN
theorem QuT {h:Qa} {l:List Nat}:Ut h (nas true l) (nas true l):=.row fun j _=>lf_ler Af (fun x k hk=>match k,hk with|0,_=>.int _ _) j
theorem QuU {h:Qa} {l:List (List Nat)}:Ut h (nls true l) (nls true l):=.row fun j _=>lf_ler Af (fun x k hk=>match k,hk with|0,_=>QuT) j
end Go.Proofs.YtngjgahldnnapaaGreatDoor
namespace Go.PN
open Go.AI
theorem QhV {m:Qv} (ho:Jb m) (k:Nat):0≤Y5 m k∧Y5 m k≤1048576*k:=Qlv (fun k=>(ho.gts k).1) k
theorem QgN {m:Qv} (k:Nat):∀d:Nat,Y5 m k≤Y5 m (k+d)
 |0=>Int.le_refl _
 |d+1=>by
  have h:=QgN (m:=m) k d
  have e:Y5 m (k+(d+1))=Y5 m (k+d)+(Qt m (k+d)).length:=rfl
  omega
theorem QaQ {α:Type} {l:List α} {j:Nat} {d:α} (hj:j<l.length):l.take (j+1)=l.take j++[l.getD j d]:=by
 rw [List.take_add_one,Lg,Li hj];rfl
theorem Qpy {m:Qv} (h:Qnc m):∀l∈ZL m,∀u∈l,u<(Q5 m).length:=fun l hl u hu=>by
 unfold ZL at hl
 obtain⟨t,ht,rfl⟩:=List.mem_map.1 hl
 obtain⟨y,hy,rfl⟩:=List.mem_map.1 hu
 obtain⟨hy1,hy2⟩:=List.mem_filter.1 hy
 have hyl:Zr y=false:=by simpa using hy2
 have hyn:=(KH h t ht y hy1).resolve_left (by rw [hyl];decide)
 exact(@List.idxOf_lt_length_iff Th instBEqOfDecidableEq inferInstance _ _).2 hyn
theorem Qr3 {l:List Nat} {j:Nat} {p:Nat→Bool} (hj:j<l.length):(l.take (j+1)).all p=((l.take j).all p&&p (l.getD j 0)):=by
 rw [QaQ (d:=(0:Nat)) hj,List.all_append]
 simp
theorem QuV {l:List Bool} (h:∀t,t<l.length→l.getD t false=true):l.all id=true:=List.all_eq_true.2 fun x hx=>by
 obtain⟨i,hi,rfl⟩:=List.getElem_of_mem hx
 have:=h i hi
 rw [Lg,Li hi] at this
 exact this
theorem Qw6 {l:List Bool} {t:Nat} (ht:t<l.length) (h:l.getD t false=false):l.all id=false:=by
 rw [Bool.eq_false_iff]
 intro ha
 have:=List.all_eq_true.1 ha (l[t]) (Le ht)
 rw [Lg,Li ht] at h
 simp at h this
 rw [h] at this
 cases this
theorem QlK {m:Qv} (ho:Jb m):∀l∈ZL m,l.length≤1048576:=fun l hl=>by
 unfold ZL at hl
 obtain⟨t,ht,rfl⟩:=List.mem_map.1 hl
 rw [Lw]
 refine Lt (List.length_filter_le _ _) ?_
 unfold Z2
 rw [Lw]
 exact(ho.gti (t.2.1+1).toNat t.2.2.toNat).2.2.1
def O5 (m:Qv):Int:=Vn (if QB m.name then 0 else 5) (Vn (Uv m) (Uw m))
theorem Qkb (k:Int):((QcX k).2=0↔k<0∨k>8):=by
 unfold QcX
 constructor
 ·intro h
  split at h
  ·cases h
  split at h
  ·cases h
  split at h
  ·cases h
  split at h
  ·cases h
  omega
 ·intro h
  rw [iN om,iN om,iN om,iN om]
theorem QuW {k:Int} (h0:0≤k) (h8:k≤8) (n:Nat):(QeR k n=false)↔((n:Int)<(QcX k).1∨(n:Int)>(QcX k).2):=by
 unfold QeR QcX
 by_cases e3:k=3
 ·subst e3;simp;omega
 by_cases e5:k=5
 ·subst e5;simp;omega
 by_cases e6:k=6∨k=7∨k=8
 ·rw [iN e3,iN e5,iP e6,iN om,iN e3,iN e5,iP e6]
  simp
  omega
 ·rw [iN e3,iN e5,iN e6,iP om]
  simp
  omega
theorem QuX (x:Xe):Je x=if(QcX x.kind).2=0 then 7 else if(x.inputs.length:Int)<(QcX x.kind).1∨(x.inputs.length:Int)>(QcX x.kind).2 then 11
 else if x.kind=2∧(x.k<1∨x.k>x.inputs.length) then 3 else if x.kind≠2∧x.k≠0 then 2
 else if x.kind=7∧x.dorm.prob=false then 3 else if x.kind≠7∧QbI x.dorm=false then 2 else 0:=by
 unfold Je
 by_cases h:x.kind<0∨x.kind>8
 ·rw [iP h,iP ((Qkb _).2 h)]
 ·rw [iN h,iN (fun z=>h ((Qkb _).1 z))]
  have:=QuW (k:=x.kind) om om x.inputs.length
  by_cases h2:QeR x.kind x.inputs.length=false
  ·rw [iP h2,iP (this.1 h2)]
  ·rw [iN h2,iN (fun z=>h2 (this.2 z))]
theorem QhW {α:Type} {p:α→Bool} {d:α} {l:List α} {i j:Nat} (hi:i≤l.length) (hj:j<i) (hp:p (l.getD j d)=true) (hn:∀t,t<j→p (l.getD t d)=false):Xu p l<i:=by
 rw [Zc d om hp hn];omega
theorem Qbc {α:Type} {p:α→Bool} {d:α} {l:List α} {i:Nat} (hi:i<l.length) (hp:p (l.getD i d)=true) (hn:∀t,t<i→p (l.getD t d)=false):¬Xu p l<i:=by
 rw [Zc d hi hp hn];omega
theorem Qb2 {p:Nat→Bool} {j:Nat} (h:∀t,t<j→p t=false) (hj:p j=false):∀t,t<j+1→p t=false:=fun t ht=>by
 rcases Nat.lt_succ_iff_lt_or_eq.1 ht with e|rfl
 ·exact h t e
 ·exact hj
theorem Qnq {l:List BS} {y:BS} (h:∀t,t<l.length→(l.getD t []==y)=false):l.contains y=false:=by
 rw [Bool.eq_false_iff]
 intro hc
 obtain⟨i,hi,rfl⟩:=List.getElem_of_mem (List.contains_iff_mem.1 hc)
 have:=h i hi
 rw [Lg,Li hi] at this
 simp at this
theorem Qnr {l:List BS} {y:BS} {t:Nat} (ht:t<l.length) (h:l.getD t []=y):l.contains y=true:=by
 rw [List.contains_iff_mem,←h,Lg,Li ht]
 exact Le ht
theorem Qpz {α:Type} {l:List α} {p:α→Bool} {d:α}:∀{j:Nat},(∀t,t<j→p (l.getD t d)=true)→l.length≤j→l.all p=true:=fun h hj=>List.all_eq_true.2 fun x hx=>by
 obtain⟨i,hi,rfl⟩:=List.getElem_of_mem hx
 have:=h i om
 rwa [Lg,Li hi] at this
theorem QuY {α:Type} {l:List α} {p:α→Bool} {d:α} {t:Nat} (ht:t<l.length) (h:p (l.getD t d)=false):l.all p=false:=by
 rw [Bool.eq_false_iff]
 intro ha
 have:=List.all_eq_true.1 ha (l[t]) (Le ht)
 rw [Lg,Li ht] at h
 exact absurd (this.symm.trans h) Af
theorem Qr4 {p:Nat→Bool} {j:Nat} (h:∀t,t<j→p t=true) (hj:p j=true):∀t,t<j+1→p t=true:=fun t ht=>by
 rcases Nat.lt_succ_iff_lt_or_eq.1 ht with e|rfl
 ·exact h t e
 ·exact hj
def Qc6 (m:Qv):Int:=Vn (QrJ m) (if Yq m 0 m.top then 0 else 5)
theorem QuZ {l:List Int} {z T:Int} {j:Nat} (h:(l.drop j).foldr Vn z=T) (hj:j<l.length) (h0:l.getD j 0≠0):T=l.getD j 0:=by
 rw [←h,List.drop_eq_getElem_cons hj,List.foldr_cons]
 rw [Lg,Li hj] at h0⊢
 exact VV h0
theorem Qw7 {l:List Int} {z T:Int} {j:Nat} (h:(l.drop j).foldr Vn z=T) (hj:j<l.length) (h0:l.getD j 0=0):(l.drop (j+1)).foldr Vn z=T:=by
 rw [←h,List.drop_eq_getElem_cons hj,List.foldr_cons]
 rw [Lg,Li hj] at h0
 exact(XW h0).symm
theorem Qfy {x:Xe} (h:K6 x.kind):normG x=⟨x.name,x.kind,x.k,Qk id x.inputs,x.dorm⟩:=by
 unfold normG QgJ
 rw [iP h]
theorem Qns {x:Xe} (h:x.kind=8) {a:BS} {l:List BS} (hi:x.inputs=a::l):normG x=⟨x.name,x.kind,x.k,a::Qk id l,x.dorm⟩:=by
 unfold normG QgJ K6
 rw [iN om,iP h,hi]
 rfl
theorem Qkc {x:Xe} (h:¬K6 x.kind) (h8:x.kind≠8):normG x=x:=by
 unfold normG QgJ
 rw [iN h,iN h8]
theorem JC {α β:Type} (f:α→β) (l:List α) (d:α) {j:Nat} (hj:j<l.length):(l.map f).take (j+1)=(l.map f).take j++[f (l.getD j d)]:=by
 rw [List.take_add_one,List.getElem?_map,Li hj,Lg,Li hj];rfl
theorem UQ {α β:Type} (f:α→β) (l:List α) {j:Nat} (hj:j≤l.length):((l.map f).take j).length=j:=by
 rw [List.length_take,Lw];omega
def GtN (x:Xe):Prop:=x.dorm.wf 1000∧1≤x.inputs.length∧x.inputs.length≤16∧(x.kind=8→2≤x.inputs.length)
end Go.PN
namespace Go.Proofs.YtngjgahldnnapaaGreatDoor
open Go.AI Go.PN Proofs.Tryz
attribute [local irreducible] aw Fa ZN ZZ Fh YE
theorem QpA (m:Qv) (ho:Jb m) (hc:MdC m):Fa prog 103 [.agg (Xa true m)] (.c (nls true (ZL m))):=by
 have hm:=ho.ok
 have hin:=QcU hc
 have hpl:m.pages.length≤1048576:=ho.pg.1
 have hNL:=Qfu (m:=m)
 have hUL:=QgM m
 have hgl:∀k,(Qt m k).length≤1048576:=fun k=>(ho.gts k).1
 have hNB:=QhV ho (m.pages.length+1)
 refine fA func103 fun C hC=>?_
 refine zA o0 ?_
 refine xB fun g1 n_1=>?_
 refine zA n_1 ?_
 refine Qh (fun y:Nat×Nat×Option Nat=>[(1,.c (.optr g1 0)),(3,.c (gs y.2.2 1 y.2.1)),(4,.c (.int .i64 ((y.1:Int)-1)))]) (fun y=>[(g1,.cells 29 8 (ofL (Xa true m)))]++gh y.2.2 112 y.2.1 (QdE ((ZL m).take y.2.1))) (fun y=>y.1≤m.pages.length+1∧(y.2.2=none→y.2.1=0)∧(y.2.1:Int)=Y5 m y.1) (fun y=>m.pages.length+1-y.1) (0,0,none) (zB n_1) zZ ⟨Lz _,fun _=>rfl,rfl⟩ ?_
 rintro ⟨k,x,og⟩ ⟨hk,hog,hx⟩
 dsimp only at hk hog hx⊢
 simp only [Lq,Ln]
 by_cases hkP:k≤m.pages.length
 ·have f0:=KI m k hkP hm.pg
  repeat' first|refine zV n_1 ?_|refine yQ n_1 f0 ?_|refine zH n_1 ?_ ?_<;>intro hb|fail
  all_goals try (exfalso;omega)
  have e1:Y5 m (k+1)=Y5 m k+(Qt m k).length:=rfl
  have hNk:=QhV ho k
  have hmn:=QgN (m:=m) (k+1) (m.pages.length-k)
  rw [show k+1+(m.pages.length-k)=m.pages.length+1 from by omega] at hmn
  have hgk:=hgl k
  refine Qh (fun y:Nat×Nat×Option Nat=>[(1,.c (.optr g1 0)),(3,.c (gs y.2.2 1 y.2.1)),(4,.c (.int .i64 ((k:Int)-1))),(22,.c (gts true (Qt m k))),(23,.c (.int .i64 (Qt m k).length)),(24,.c (.int .i64 y.1))]) (fun y=>[(g1,.cells 29 8 (ofL (Xa true m)))]++gh y.2.2 112 y.2.1 (QdE ((ZL m).take y.2.1))) (fun y=>y.1≤(Qt m k).length∧(y.2.2=none→y.2.1=0)∧(y.2.1:Int)=Y5 m k+y.1) (fun y=>(Qt m k).length-y.1) (0,x,og) (zB n_1) zZ ⟨Lz _,hog,by dsimp only;omega⟩ ?_
  clear hx hog
  rintro ⟨i,x,og⟩ ⟨hi,hog,hx⟩
  dsimp only at hi hog hx⊢
  simp only [Lq,Ln]
  repeat' first|refine zV n_1 ?_|refine zH n_1 ?_ ?_<;>intro hb|fail
  ·have hi':=hb
   have hino:=hin k hkP i hi'
   have hul:=Qpu hkP hi' hx
   have hgo:=ho.gti k i
   have hil:=ho.inl k i
   generalize hg:(Qt m k).getD i gt0=g at*
   have hgi:g.inputs.length≤1048576:=hgo.2.2.1
   refine yA n_1 fun g6 n_6=>?_
   refine zA (oj n_1 n_6) ?_
   refine Qh (fun y:Nat×List Nat×Option Nat=>[(1,.c (.optr g1 0)),(3,.c (gs og 1 x)),(4,.c (.int .i64 ((k:Int)-1))),(7,.c (gs y.2.2 1 y.2.1.length)),(22,.c (gts true (Qt m k))),(23,.c (.int .i64 (Qt m k).length)),(24,.c (.int .i64 i)),(29,.c (X0 true g.inputs)),(30,.c (.int .i64 g.inputs.length)),(31,.c (.int .i64 y.1))]) (fun y=>(g6,.cells 79 7 (ofL (Zy g)))::(g1,.cells 29 8 (ofL (Xa true m)))::(gh og 112 x (QdE ((ZL m).take x))++gh y.2.2 3 y.2.1.length (QlJ y.2.1))) (fun y=>y.1≤g.inputs.length∧(y.2.2=none→y.2.1.length=0)∧y.2.1.length≤y.1∧y.2.1=Qj8 m k (g.inputs.take y.1)) (fun y=>g.inputs.length-y.1) (0,[],none) (zB (oj n_1 n_6)) (by dsimp only [gh];rw [Lp];exact Lr _) ⟨Lz _,fun _=>rfl,Ac _,rfl⟩ ?_
   rintro ⟨j,l,oq⟩ ⟨hj,hoq,hjl,hl⟩
   dsimp only at hj hoq hjl hl⊢
   all_goals try(have Z:=(oj n_1 n_6);(repeat' first|refine zV Z ?_|refine zH Z ?_ ?_<;>intro hb|fail);all_goals clear Z)
   ·have hj':=hb
    have htk:=QaQ (d:=([]:BS)) hj'
    have hio:=hino (g.inputs.getD j []) (by rw [Lg,Li hj'];exact Le hj')
    have hsn:=Qpt m k (g.inputs.take j) (g.inputs.getD j [])
    rw [←htk,←hl] at hsn
    have f1:=Qrx m k (g.inputs.getD j []) hkP hm.ev hm.hs hm.pg (fun k=>Lt (hgl k) Af) (hil j) (fun q hq=>⟨Lt (ho.pgi q).2.1 Af,Qw3 hc q hq⟩)
    rw [QrZ hio] at f1
    have hleaf:=hio.2.2
    generalize KG m k (g.inputs.getD j [])=r at*
    by_cases hr2:r.1=2
    ·have hlf:Zr r=false:=by unfold Zr;simpa using hr2
     rw [hlf] at hsn hleaf
     obtain⟨k',i',hk',hi2,rfl⟩:=Y4.1 (hleaf.resolve_left Af)
     have f2:=QjM m k' i' hk' hpl hgl (Lt (Ll hi2) (hgl k'))
     rw [←Qps hk' hi2] at f2
     generalize Qpr m (2,(k':Int)-1,(i':Int))=u at*
     rw [iN Af] at hsn
     dsimp only at f1
     refine zA2 (oj n_1 n_6) f1 f2 ?_
     have hln:(l++[u]).length=l.length+1:=by rw [La];rfl
     refine QX (pre:=(g6,.cells 79 7 (ofL (Zy g)))::(g1,.cells 29 8 (ofL (Xa true m)))::gh og 112 x (QdE ((ZL m).take x))) rfl rfl rfl rfl rfl rfl rfl (zE (oj n_1 n_6)) (zE (oj n_1 n_6)) (by rfl) om om (zE (oj n_1 n_6)) om (by exact hoq) (zE (oj n_1 n_6)) (by rfl) (by rfl) qb qc om (by exact Qr1 rfl u) fun gb n_b=> ?_
     replace n_b:=Qa.ne_of n_b
     first|dsimp only [Qa.ne,gh] at n_b|dsimp only [Qa.ne] at n_b|skip
     refine yS (oj n_1 (oj n_6 n_b)) ?_
     refine zA (oj n_1 (oj n_6 n_b)) ?_
     refine Qb ⟨(j+1,l++[u],some gb),?_⟩
     dsimp only
     simp only [hln]
     and_intros
     all_goals first|rfl|exact Lr _|exact True.intro|exact XJ|exact hsn.symm|omega
    ·have hlf:Zr r=true:=by unfold Zr;simpa using hr2
     rw [iP hlf] at hsn
     all_goals try(have Z:=(oj n_1 n_6);(repeat' first|refine zV Z ?_|refine yQ Z f1 ?_|refine zH Z ?_ ?_<;>intro hb|fail);all_goals clear Z)
     ·exact absurd hb hr2
     refine Qb ⟨(j+1,l,oq),?_⟩
     and_intros
     all_goals first|rfl|exact Lr _|exact True.intro|exact hoq|exact hsn.symm|(dsimp only;omega)
   ·have hjE:j=g.inputs.length:=by omega
    rw [hjE,Lk] at hl
    rw [←hl] at hul
    refine Qi (h':=gh oq 3 (l.length*1) (QlJ l)++((g6,.cells 79 7 (ofL (Zy g)))::(g1,.cells 29 8 (ofL (Xa true m)))::gh og 112 x (QdE ((ZL m).take x)))) (by
     rw [Ad]
     exact List.perm_append_comm (l₁:=(g6,.cells 79 7 (ofL (Zy g)))::(g1,.cells 29 8 (ofL (Xa true m)))::gh og 112 x (QdE ((ZL m).take x)))) ?_
    refine Vw (t:=54) (f':=QlJ l) hoq rfl (zE (oj n_1 n_6)) (fun g _=>hC g) (fun _ _=>rfl) rfl ?_
    have J1:=oj n_1 n_6
    refine yS J1 ?_
    have hxl:((ZL m).take x).length=x:=by rw [List.length_take,hUL];omega
    refine zA J1 ?_
    refine QX (pre:=[(g6,.cells 79 7 (ofL (Zy g))),(g1,.cells 29 8 (ofL (Xa true m)))]) rfl rfl rfl rfl rfl rfl rfl (zE J1) (zE J1) (by rfl) om om (zE J1) om (by exact hog) (zE J1) (by rfl) (by rfl) qb qc om (by exact Qr2 hxl l) fun gb n_b=> ?_
    replace n_b:=Qa.ne_of n_b
    first|dsimp only [Qa.ne,gh] at n_b|dsimp only [Qa.ne] at n_b|skip
    have J2:=oj n_1 (oj n_6 n_b)
    refine yS J2 ?_
    rw [←hul]
    refine zA J2 ?_
    refine Qb ⟨(i+1,x+1,some gb),?_⟩
    dsimp only
    and_intros
    all_goals first|rfl|exact Lr _|exact .cons _ (.refl _)|exact True.intro|exact XJ|omega
  ·refine Qb ⟨(k+1,x,og),?_⟩
   dsimp only
   have hi0:=hb
   and_intros
   all_goals first|rfl|exact Lr _|exact True.intro|exact hog|exact Wh om|omega
 ·have hkE:k=m.pages.length+1:=by omega
  subst hkE
  repeat' first|refine zV n_1 ?_|refine zH n_1 ?_ ?_<;>intro hb|fail
  all_goals try (exfalso;omega)
  have hxL:x=(ZL m).length:=by omega
  subst hxL
  rw [Lk]
  refine Qi (h':=gh og 112 ((ZL m).length*1) (QdE (ZL m))++[(g1,.cells 29 8 (ofL (Xa true m)))]) (by
   rw [Ad]
   exact List.perm_append_comm (l₁:=([(g1,.cells 29 8 (ofL (Xa true m)))]:Qa))) ?_
  refine Vw (t:=2) (f':=QdE (ZL m)) hog rfl (zE n_1) (fun g _=>hC g) (fun _ _=>rfl) rfl ?_
  refine yS n_1 ?_
  refine zA n_1 ?_
  refine yT hC n_1 ?_
  exact .one (.c QuU)
theorem QlL (m:Qv) (ho:Jb m) (hc:MdC m):Fa prog 47 [.agg (Xa true m)] (.c (.bool (QaF m))):=by
 have f1:=QpA m ho hc
 have hb:=Qpy (QcU hc)
 have hlen:=QlK ho
 have hNL:=Qfu (m:=m)
 have hUL:=QgM m
 have hNB:=QhV ho (m.pages.length+1)
 have hpl:m.pages.length≤1048576:=ho.pg.1
 have hN:(ZL m).length≤1099513724928:=by omega
 rw [Qr0 hc,←hUL]
 rw [←hUL] at hb
 generalize ZL m=U at*
 clear hNL hNB
 generalize hR:QdA U U.length U.length (List.replicate U.length false)=R
 refine fA func47 fun C hC=>?_
 refine zA o0 ?_
 refine xB fun g1 n_1=>?_
 refine Zo n_1 f1 ?_
 refine Jt (n:=U.length) (c:=U.length) (size:=1) (z:=[.bool false]) rfl rfl rfl (zE n_1) (zE n_1) rfl om (zE n_1) (zE n_1) om om om om om fun g4 n_4=> ?_
 simp only [Ad]
 rw [QtW U.length]
 replace n_4:=Qa.ne_of n_4
 dsimp only [Qa.ne] at n_4
 have J1:=oj n_1 n_4
 refine yS J1 ?_
 refine zA J1 ?_
 refine Qh (fun y:Nat×List Bool=>[(3,.c (nls true U)),(4,.c (.osl g4 1 0 U.length)),(18,.c (.int .i64 U.length)),(19,.c (.int .i64 y.1))]) (fun y=>[(g4,.cells 4 U.length (bsF y.2)),(g1,.cells 29 8 (ofL (Xa true m)))]) (fun y=>y.1≤U.length∧y.2.length=U.length∧QdA U U.length (U.length-y.1) y.2=R) (fun y=>U.length-y.1) (0,List.replicate U.length false) (zB J1) zZ ⟨Lz _,List.length_replicate,hR⟩ ?_
 rintro ⟨r,off⟩ ⟨hr,hol,hof⟩
 dsimp only at hr hol hof⊢
 by_cases hrl:r<U.length
 ·have dr:decide (r<U.length)=true:=Dt hrl
  refine zA (oj n_1 (oj n_4 dr)) ?_
  rw [show U.length-r=(U.length-(r+1))+1 from by omega] at hof
  replace hof:QdA U U.length (U.length-(r+1)) (QoY U off U.length)=R:=hof
  refine Qh (fun i:Nat=>[(3,.c (nls true U)),(4,.c (.osl g4 1 0 U.length)),(18,.c (.int .i64 U.length)),(19,.c (.int .i64 r)),(21,.c (nls true U)),(22,.c (.int .i64 U.length)),(23,.c (.int .i64 i))]) (fun i=>[(g4,.cells 4 U.length (bsF ((List.range i).foldl (OC U) off))),(g1,.cells 29 8 (ofL (Xa true m)))]) (fun i=>i≤U.length) (fun i=>U.length-i) 0 (zB (oj n_1 (oj n_4 dr))) zZ (Lz _) ?_
  intro i hi
  have hfl:=QbW U (List.range i) off
  rw [hol] at hfl
  have hstep:(List.range (i+1)).foldl (OC U) off=((List.range i).foldl (OC U) off).set i (((List.range i).foldl (OC U) off).getD i false||(U.getD i []).all fun u=>((List.range i).foldl (OC U) off).getD u false):=by rw [List.range_succ,List.foldl_append];rfl
  have hlast:(List.range U.length).foldl (OC U) off=QoY U off U.length:=rfl
  by_cases hil:i<U.length
  ·have di:decide (i<U.length)=true:=Dt hil
   have hl6:=hlen (U.getD i []) (by rw [Lg,Li hil];exact Le hil)
   have hbl:=hb (U.getD i []) (by rw [Lg,Li hil];exact Le hil)
   generalize (List.range i).foldl (OC U) off=o2 at*
   generalize hl:U.getD i []=l at*
   refine zA (oj n_1 (oj n_4 (oj dr (oj di hl)))) ?_
   refine Qh (fun j:Nat=>[(3,.c (nls true U)),(4,.c (.osl g4 1 0 U.length)),(5,.c (.int .i64 i)),(7,.c (.bool ((l.take j).all fun u=>o2.getD u false))),(18,.c (.int .i64 U.length)),(19,.c (.int .i64 r)),(21,.c (nls true U)),(22,.c (.int .i64 U.length)),(23,.c (.int .i64 i)),(28,.c (nas true l)),(29,.c (.int .i64 l.length)),(30,.c (.int .i64 j))]) (fun _=>[(g4,.cells 4 U.length (bsF o2)),(g1,.cells 29 8 (ofL (Xa true m)))]) (fun j=>j≤l.length) (fun j=>l.length-j) 0 (zB (oj n_1 (oj n_4 (oj dr (oj di hl))))) zZ (Lz _) ?_
   intro j hj
   by_cases hjl:j<l.length
   ·have dj:decide (j<l.length)=true:=Dt hjl
    have hu:=hbl (l.getD j 0) (by rw [Lg,Li hjl];exact Le hjl)
    have hta:=Qr3 (p:=fun u=>o2.getD u false) hjl
    generalize (l.take j).all (fun u=>o2.getD u false)=b at*
    all_goals try(have Z:=(oj n_1 (oj n_4 (oj dr (oj di (oj hl dj)))));(repeat' first|refine zV Z ?_|refine zH Z ?_ ?_<;>intro hb|fail);all_goals clear Z)
    all_goals
     refine Qb ⟨j+1,?_⟩
     rw [hta,hb]
     first
      |rw [Bool.true_and]
      |rw [Bool.false_and]
     and_intros
     all_goals first|rfl|exact Lr _|exact True.intro|omega
   ·have dj:decide (j<l.length)=false:=De hjl
    have hjE:l.take j=l:=Ly om
    rw [hjE]
    generalize l.all (fun u=>o2.getD u false)=b at*
    all_goals try(have Z:=(oj n_1 (oj n_4 (oj dr (oj di (oj hl dj)))));(repeat' first|refine zV Z ?_|refine zH Z ?_ ?_<;>intro hb|fail);all_goals clear Z)
    all_goals
     rw [QtV om]
     refine Qb ⟨i+1,by omega,(zB (oj n_1 (oj n_4 (oj dr (oj di (oj hl dj)))))),?_,by omega⟩
     show List.Sublist [(g4,XD.cells 4 U.length (bsF ((List.range (i+1)).foldl (OC U) off))),_] _
     rw [hstep,hb]
     first
      |rw [Bool.true_or]
      |rw [Bool.false_or]
     exact Lr _
  ·have di:decide (i<U.length)=false:=De hil
   obtain rfl:i=U.length:=by omega
   refine zA (oj n_1 (oj n_4 (oj dr di))) ?_
   refine Qb ⟨(r+1,QoY U off U.length),?_⟩
   dsimp only
   and_intros
   all_goals first|rfl|exact Lr _|exact True.intro|exact hof|exact hfl|omega
 ·have dr:decide (r<U.length)=false:=De hrl
  obtain rfl:r=U.length:=by omega
  rw [Nat.sub_self] at hof
  replace hof:off=R:=hof
  subst hof
  refine zA (oj n_1 (oj n_4 dr)) ?_
  refine Qh (fun j:Nat=>[(54,.c (.osl g4 1 0 U.length)),(55,.c (.int .i64 U.length)),(56,.c (.int .i64 j))]) (fun _=>[(g4,.cells 4 U.length (bsF off)),(g1,.cells 29 8 (ofL (Xa true m)))]) (fun j=>j≤U.length∧∀t,t<j→off.getD t false=true) (fun j=>U.length-j) 0 (zB (oj n_1 (oj n_4 dr))) zZ ⟨Lz _,fun t ht=>absurd ht (Nat.not_lt_zero t)⟩ ?_
  rintro j ⟨hj,hall⟩
  all_goals try(have Z:=(oj n_1 (oj n_4 dr));(repeat' first|refine zV Z ?_|refine zH Z ?_ ?_<;>intro hb|fail);all_goals clear Z)
  ·have hx:off.all id=false:=Qw6 (t:=j) om (by simpa using hb)
   rw [hx]
   refine yT hC (oj n_1 (oj n_4 dr)) ?_
   exact .one (.c (.bool _))
  ·refine Qb ⟨j+1,?_⟩
   have hx:off.getD j false=true:=by simpa using hb
   and_intros
   all_goals first|rfl|exact Lr _|exact True.intro|omega|skip
   intro t ht
   rcases Nat.lt_succ_iff_lt_or_eq.1 ht with e|rfl
   ·exact hall t e
   ·exact hx
  ·have hx:off.all id=true:=QuV (fun t ht=>hall t om)
   rw [hx]
   refine yT hC (oj n_1 (oj n_4 dr)) ?_
   exact .one (.c (.bool _))
theorem QlM (m:Qv) (ho:Jb m):Fa prog 41 [.agg (Xa true m)] (.c (.int .i64 (O5 m))):=by
 have hm:=ho.ok
 have hw:=ho.wf
 have hw2:=ho.wf2
 have hl1:=hm.ev
 have hl2:=hm.hs
 have hgl:=hw2.gl
 have hpl:=hw2.pl
 have hP:∀i,i≤m.pages.length→pgS (m.pages.take i)≤1099511627776:=fun i hi=>by
  have h1:∀j,((m.pages.take i).getD j pg0).gates.length≤1048576:=fun j=>by
   by_cases hj:j<i
   ·have:=(hw2.pg j).2
    rw [Lg,List.getElem?_take_of_lt hj,←Lg];exact this
   ·rw [Lg,List.getElem?_take_eq_none om];exact Lz _
  have h2:=Qrb h1
  rw [List.length_take] at h2
  have:min i m.pages.length≤1048576:=by omega
  calc _≤_:=h2
   _≤1048576*1048576:=Nm _ this
 have fn:Fa prog 93 [.c (.str (sB m.name))] (.c (.bool (QB m.name))):=Ua m.name hw.nm
 refine fA func41 fun C hC=>?_
 refine zA o0 ?_
 refine xB fun g1 n_1=>?_
 repeat' first|refine zV n_1 ?_|refine yQ n_1 fn ?_|refine zH n_1 ?_ ?_<;>intro hb|fail
 ·refine yT hC n_1 ?_
  refine .one (.c (Qo ?_))
  unfold O5 Vn
  rw [show QB m.name=false from by simpa using hb]
  rfl
 ·rename_i hnm
  have e1:O5 m=Vn (Uv m) (Uw m):=by
   unfold O5
   rw [iP (by simpa using hnm)]
   exact iP rfl
  refine yT hC n_1 ?_
  refine .one (.c (Qo ?_))
  rw [e1]
  unfold Uv Vn
  rw [iP (show m.events.length>24 by omega)]
  rfl
 rename_i hnm
 have e1:O5 m=Vn (Uv m) (Uw m):=by
  unfold O5
  rw [iP (by simpa using hnm)]
  exact iP rfl
 have he:¬m.events.length>24:=by omega
 have e2:Uv m=Vn (X2 (evC m) m.events 0) (if m.houses.length>16 then 4 else X2 (hsC m) m.houses 0):=iN he
 generalize hF:X2 (evC m) m.events 0=F at e2
 refine Qh (fun i:Nat=>[(1,.c (.optr g1 0)),(21,.c (evs true m.events)),(22,.c (.int .i64 m.events.length)),(23,.c (.int .i64 i))]) (fun _=>[(g1,.cells 29 8 (ofL (Xa true m)))]) (fun i=>i≤m.events.length∧X2 (evC m) (m.events.drop i) i=F) (fun i=>m.events.length-i) 0 (zB n_1) zZ ⟨Lz _,hF⟩ ?_
 rintro i ⟨hi,hlp⟩
 repeat' first|refine zV n_1 ?_|refine zH n_1 ?_ ?_<;>intro hb|fail
 ·obtain⟨w0,w1,w2,w3⟩:=hw.ev i
  have wp:(m.events.getD i ev0).p.wf 500000000:=Ks.m (Xw ho.ev.2 QvY i).2.1
  have hi':=hb
  have hR:∀c,evC m i (m.events.getD i ev0)=c→c≠0→O5 m=c:=fun c hc h0=>by
   have:=ZG hlp hi' hc h0
   rw [e1,e2,this]
   unfold Vn
   rw [iN h0,iN h0]
  have hG:=VI (d:=ev0) hlp hi'
  generalize hx:m.events.getD i ev0=x at*
  have f1:Fa prog 93 [.c (.str (sB x.name))] (.c (.bool (QB x.name))):=Ua x.name w0
  have f2:=Va m x.name hl1
  have f3:=QbH x.p wp
  have f4:=QgF x.fail w2
  have f5:=QgF x.rep w3
  refine yA n_1 fun g4 n_4=>?_
  all_goals try(have Z:=(oj n_1 n_4);(repeat' first|refine zV Z ?_|refine yQ Z f1 ?_|refine yQ Z f2 ?_|refine yQ Z f3 ?_|refine yQ Z f4 ?_|refine yQ Z f5 ?_|refine zH Z ?_ ?_<;>intro hb|fail);all_goals clear Z)
  all_goals clear f1 f2 f3 f4 f5 fn
  all_goals first
   |(refine yT hC (oj n_1 n_4) ?_
     refine .one (.c (Qo ?_))
     refine(hR _ ?_ Af).symm
     clear hR hG hlp hF hx
     unfold evC
     repeat' split
     all_goals exact Ah)
   |(refine Qb ⟨i+1,?_⟩
     have hz:evC m i x=0:=by
      clear hR hG hlp hF hx
      unfold evC
      repeat' split
      all_goals exact Ah
     and_intros
     all_goals first|rfl|exact Lr _|exact Ls _ _|exact True.intro|exact hG hz|omega)
 ·have hF0:=YU hlp (by assumption)
  subst hF0
  refine yT hC n_1 ?_
  refine .one (.c (Qo ?_))
  rw [e1,e2]
  unfold Vn
  rw [iP rfl,iP (show m.houses.length>16 by omega)]
  rfl
 have hF0:=YU hlp (by assumption)
 subst hF0
 have hh:¬m.houses.length>16:=by omega
 have e3:Uv m=X2 (hsC m) m.houses 0:=by
  rw [e2]
  unfold Vn
  rw [iP rfl,iN hh]
 clear hlp hi hF e2
 generalize hF:X2 (hsC m) m.houses 0=F at e3
 refine Qh (fun i:Nat=>[(1,.c (.optr g1 0)),(65,.c (hss true m.houses)),(66,.c (.int .i64 m.houses.length)),(67,.c (.int .i64 i))]) (fun _=>[(g1,.cells 29 8 (ofL (Xa true m)))]) (fun i=>i≤m.houses.length∧X2 (hsC m) (m.houses.drop i) i=F) (fun i=>m.houses.length-i) 0 (zB n_1) zZ ⟨Lz _,hF⟩ ?_
 rintro i ⟨hi,hlp⟩
 repeat' first|refine zV n_1 ?_|refine zH n_1 ?_ ?_<;>intro hb|fail
 ·have w0:=hw.hs i
  have hi':=hb
  have hR:∀c,hsC m i (m.houses.getD i hs0)=c→c≠0→O5 m=c:=fun c hc h0=>by
   have:=ZG hlp hi' hc h0
   rw [e1,e3,this]
   unfold Vn
   rw [iN h0]
  have hG:=VI (d:=hs0) hlp hi'
  generalize hx:m.houses.getD i hs0=x at*
  have f1:Fa prog 93 [.c (.str (sB x.name))] (.c (.bool (QB x.name))):=Ua x.name w0
  have f2:=Va m x.name hl1
  have f3:=Qa8 m x.name hl2
  refine yA n_1 fun g4 n_4=>?_
  all_goals try(have Z:=(oj n_1 n_4);(repeat' first|refine zV Z ?_|refine yQ Z f1 ?_|refine yQ Z f2 ?_|refine yQ Z f3 ?_|refine zH Z ?_ ?_<;>intro hb|fail);all_goals clear Z)
  all_goals clear f1 f2 f3 fn
  all_goals first
   |(refine yT hC (oj n_1 n_4) ?_
     refine .one (.c (Qo ?_))
     refine(hR _ ?_ Af).symm
     clear hR hG hlp hF hx
     unfold hsC
     repeat' split
     all_goals exact Ah)
   |(refine Qb ⟨i+1,?_⟩
     have hz:hsC m i x=0:=by
      clear hR hG hlp hF hx
      unfold hsC
      repeat' split
      all_goals exact Ah
     and_intros
     all_goals first|rfl|exact Lr _|exact Ls _ _|exact True.intro|exact hG hz|omega)
 have hF0:=YU hlp hb
 have e4:O5 m=Uw m:=by
  rw [e1,e3,hF0]
  exact iP rfl
 clear hlp hi hF e3 e1 hF0
 refine Qh (fun i:Nat=>[(1,.c (.optr g1 0)),(7,.c (.int .i64 ((m.gates.length+pgS (m.pages.take i):Nat):Int))),(94,.c (pgs true m.pages)),(95,.c (.int .i64 m.pages.length)),(96,.c (.int .i64 i))]) (fun _=>[(g1,.cells 29 8 (ofL (Xa true m)))]) (fun i=>i≤m.pages.length) (fun i=>m.pages.length-i) 0 (zB n_1) zZ (Lz _) ?_
 rintro i hi
 have hPi:=hP i hi
 repeat' first|refine zV n_1 ?_|refine zH n_1 ?_ ?_<;>intro hb|fail
 ·have hi':=hb
  have hP2:=hP (i+1) hi'
  have ht:=Qjl hi'
  have hpg:=(hw2.pg i).2
  refine yA n_1 fun g4 n_4=>?_
  refine zA (oj n_1 n_4) ?_
  refine Qb ⟨i+1,?_⟩
  and_intros
  all_goals first|rfl|exact Lr _|exact Ls _ _|exact True.intro|exact Wh om|omega
 ·refine yT hC n_1 ?_
  refine .one (.c (Qo ?_))
  rw [e4]
  unfold Uw
  rw [iP (.inl om)]
 ·rename_i h8 hi0
  have htk:m.pages.take i=m.pages:=Ly om
  rw [htk] at hb
  have hg:gtN m>64:=by
   show m.gates.length+pgS m.pages>64
   omega
  refine yT hC n_1 ?_
  refine .one (.c (Qo ?_))
  rw [e4]
  unfold Uw
  rw [iP (.inr hg)]
 rename_i h8 hi0
 have htk:m.pages.take i=m.pages:=Ly om
 rw [htk] at hb
 have hg:¬gtN m>64:=by
  show¬m.gates.length+pgS m.pages>64
  omega
 have he2:O5 m=X2 (pgC m) m.pages 0:=by
  rw [e4]
  unfold Uw
  rw [iN (fun z=>z.elim om hg)]
 generalize hF:X2 (pgC m) m.pages 0=F at he2
 refine Qh (fun i:Nat=>[(1,.c (.optr g1 0)),(115,.c (pgs true m.pages)),(116,.c (.int .i64 m.pages.length)),(117,.c (.int .i64 i))]) (fun _=>[(g1,.cells 29 8 (ofL (Xa true m)))]) (fun i=>i≤m.pages.length∧X2 (pgC m) (m.pages.drop i) i=F) (fun i=>m.pages.length-i) 0 (zB n_1) zZ ⟨Lz _,hF⟩ ?_
 rintro i ⟨hi,hlp⟩
 repeat' first|refine zV n_1 ?_|refine zH n_1 ?_ ?_<;>intro hb|fail
 ·obtain⟨w0,_⟩:=hw2.pg i
  have hi':=hb
  have hR:∀c,pgC m i (m.pages.getD i pg0)=c→c≠0→O5 m=c:=fun c hc h0=>by
   rw [he2];exact ZG hlp hi' hc h0
  have hG:=VI (d:=pg0) hlp hi'
  generalize hx:m.pages.getD i pg0=x at*
  have f1:Fa prog 93 [.c (.str (sB x.name))] (.c (.bool (QB x.name))):=Ua x.name w0
  have f2:=QcV m x.name hm.pg
  refine yA n_1 fun g4 n_4=>?_
  all_goals try(have Z:=(oj n_1 n_4);(repeat' first|refine zV Z ?_|refine yQ Z f1 ?_|refine yQ Z f2 ?_|refine zH Z ?_ ?_<;>intro hb|fail);all_goals clear Z)
  all_goals clear f1 f2 fn
  all_goals first
   |(refine yT hC (oj n_1 n_4) ?_
     refine .one (.c (Qo ?_))
     refine(hR _ ?_ Af).symm
     clear hR hG hlp hF hx
     unfold pgC
     repeat' split
     all_goals exact Ah)
   |(refine Qb ⟨i+1,?_⟩
     have hz:pgC m i x=0:=by
      clear hR hG hlp hF hx
      unfold pgC
      repeat' split
      all_goals exact Ah
     and_intros
     all_goals first|rfl|exact Lr _|exact Ls _ _|exact True.intro|exact hG hz|omega)
 ·have hF0:=YU hlp hb
  subst hF0
  refine yT hC n_1 ?_
  exact .one (.c (Qo he2.symm))
theorem QlN (m:Qv) (k i:Nat) (hk:k≤m.pages.length) (hi:i<(Qt m k).length) (ho:Jb m):Fa prog 43 [.agg (Xa true m),.c (.int .i64 ((k:Int)-1)),.c (.int .i64 i)] (.c (.int .i64 (gtC m k i ((Qt m k).getD i gt0)))):=by
 have hm:=ho.ok
 have hgl:(Qt m k).length≤1099511627776:=Lt (ho.gts k).1 Af
 obtain⟨w0,w1,w2,_⟩:=ho.gti k i
 have w2':((Qt m k).getD i gt0).inputs.length≤1099511627776:=Lt w2 Af
 have f0:=KI m k hk hm.pg
 have f9:=f0
 generalize hx:(Qt m k).getD i gt0=x at*
 have f1:Fa prog 93 [.c (.str (sB x.name))] (.c (.bool (QB x.name))):=Ua x.name (Lt w0 Af)
 have f2:=QjL x.kind
 have f3:=Va m x.name hm.ev
 have f4:=Qa8 m x.name hm.hs
 have f5:=QcW (Qt m k) x.name hgl
 have f6:=QbH x.dorm (Zu w1 Af)
 have f7:=QoZ x.dorm w1.w
 have hS:=QuX x
 generalize hA:(QcX x.kind).1=lo at*
 generalize hB:(QcX x.kind).2=hi' at*
 have hc:gtC m k i x=(if QB x.name=false then 5 else if VH m x.name≥0∨hsI m x.name≥0∨Oy (Qt m k) x.name<i then 6 else Je x):=rfl
 rw [hc,hS]
 clear hc hS hA hB
 obtain⟨xn,kd,kv,xi,xd⟩:=x
 dsimp only at*
 refine fA func43 fun C hC=>?_
 repeat' first|refine zV o0 ?_|refine zH o0 ?_ ?_<;>intro hb|fail
 refine xB fun g1 n_1=>?_
 repeat' first|refine zV n_1 ?_|refine yQ n_1 f0 ?_|refine zH n_1 ?_ ?_<;>intro hb|fail
 refine yA n_1 fun g2 n_2=>?_
 rw [hx]
 all_goals try(have Z:=(oj n_1 n_2);(repeat' first|refine zV Z ?_|refine yQ Z f1 ?_|refine yQ Z f2 ?_|refine zH Z ?_ ?_<;>intro hb|fail);all_goals clear Z)
 ·rw [iP (by simpa using hb)]
  refine yT hC (oj n_1 n_2) ?_
  exact .one (.c (.int _ _))
 rw [iN (by simpa using hb)]
 clear hb hx f0 f1 f2
 by_cases e1:VH m xn≥0
 ·have d1:decide (VH m xn≥0)=true:=Dt e1
  all_goals try(have Z:=(oj n_1 (oj n_2 d1));(repeat' first|refine zV Z ?_|refine yQ Z f3 ?_|refine zH Z ?_ ?_<;>intro hb|fail);all_goals clear Z)
  rw [iP (.inl e1)]
  refine yT hC (oj n_1 (oj n_2 d1)) ?_
  exact .one (.c (.int _ _))
 have d1:decide (VH m xn≥0)=false:=De e1
 by_cases e2:hsI m xn≥0
 ·have d2:decide (hsI m xn≥0)=true:=Dt e2
  all_goals try(have Z:=(oj n_1 (oj n_2 (oj d1 d2)));(repeat' first|refine zV Z ?_|refine yQ Z f3 ?_|refine yQ Z f4 ?_|refine zH Z ?_ ?_<;>intro hb|fail);all_goals clear Z)
  rw [iP (.inr (.inl e2))]
  refine yT hC (oj n_1 (oj n_2 (oj d1 d2))) ?_
  exact .one (.c (.int _ _))
 have d2:decide (hsI m xn≥0)=false:=De e2
 all_goals try(have Z:=(oj n_1 (oj n_2 (oj d1 d2)));(repeat' first|refine zV Z ?_|refine yQ Z f3 ?_|refine yQ Z f4 ?_|refine zH Z ?_ ?_<;>intro hb|fail);all_goals clear Z)
 refine Xv 9 Qg kR ?_
 by_cases e3:Oy (Qt m k) xn<i
 ·have d3:decide (Oy (Qt m k) xn<(i:Int))=true:=Dt e3
  all_goals try(have Z:=(oj n_1 (oj n_2 (oj d1 (oj d2 d3))));(repeat' first|refine zV Z ?_|refine yQ Z f9 ?_|refine yQ Z f5 ?_|refine zH Z ?_ ?_<;>intro hb|fail);all_goals clear Z)
  rw [iP (.inr (.inr e3))]
  refine yT hC (oj n_1 (oj n_2 (oj d1 (oj d2 d3)))) ?_
  exact .one (.c (.int _ _))
 have d3:decide (Oy (Qt m k) xn<(i:Int))=false:=De e3
 rw [iN om]
 clear e1 e2 e3 f3 f4
 by_cases e4:hi'=0
 ·have d4:(hi'==0)=true:=by rw [e4];rfl
  all_goals try(have Z:=(oj n_1 (oj n_2 (oj d1 (oj d2 (oj d3 d4)))));(repeat' first|refine zV Z ?_|refine yQ Z f9 ?_|refine yQ Z f5 ?_|refine zH Z ?_ ?_<;>intro hb|fail);all_goals clear Z)
  rw [iP e4]
  refine yT hC (oj n_1 (oj n_2 (oj d1 (oj d2 (oj d3 d4))))) ?_
  exact .one (.c (.int _ _))
 have d4:(hi'==0)=false:=beq_eq_false_iff_ne.2 e4
 rw [iN e4]
 by_cases e5:(xi.length:Int)<lo
 ·have d5:decide ((xi.length:Int)<lo)=true:=Dt e5
  all_goals try(have Z:=(oj n_1 (oj n_2 (oj d1 (oj d2 (oj d3 (oj d4 d5))))));(repeat' first|refine zV Z ?_|refine yQ Z f9 ?_|refine yQ Z f5 ?_|refine zH Z ?_ ?_<;>intro hb|fail);all_goals clear Z)
  rw [iP (.inl e5)]
  refine yT hC (oj n_1 (oj n_2 (oj d1 (oj d2 (oj d3 (oj d4 d5)))))) ?_
  exact .one (.c (.int _ _))
 have d5:decide ((xi.length:Int)<lo)=false:=De e5
 by_cases e6:(xi.length:Int)>hi'
 ·have d6:decide ((xi.length:Int)>hi')=true:=Dt e6
  all_goals try(have Z:=(oj n_1 (oj n_2 (oj d1 (oj d2 (oj d3 (oj d4 (oj d5 d6)))))));(repeat' first|refine zV Z ?_|refine yQ Z f9 ?_|refine yQ Z f5 ?_|refine zH Z ?_ ?_<;>intro hb|fail);all_goals clear Z)
  rw [iP (.inr e6)]
  refine yT hC (oj n_1 (oj n_2 (oj d1 (oj d2 (oj d3 (oj d4 (oj d5 d6))))))) ?_
  exact .one (.c (.int _ _))
 have d6:decide ((xi.length:Int)>hi')=false:=De e6
 rw [iN (fun z=>z.elim e5 e6)]
 by_cases k2:kd=2
 ·subst k2
  all_goals try(have Z:=(oj n_1 (oj n_2 (oj d1 (oj d2 (oj d3 (oj d4 (oj d5 d6)))))));(repeat' first|refine zV Z ?_|refine yQ Z f9 ?_|refine yQ Z f5 ?_|refine yQ Z f7 ?_|refine zH Z ?_ ?_<;>intro hb|fail);all_goals clear Z)
  all_goals clear f9 f5 f7
  all_goals
   refine yT hC (oj n_1 (oj n_2 (oj d1 (oj d2 (oj d3 (oj d4 (oj d5 d6))))))) ?_
   refine .one (.c (Qo ?_))
   repeat' split
   all_goals exact Ah
 have q2:(kd==2)=false:=beq_eq_false_iff_ne.2 k2
 have r2:(kd !=2)=true:=bne_iff_ne.2 k2
 by_cases k7:kd=7
 ·subst k7
  all_goals try(have Z:=(oj n_1 (oj n_2 (oj d1 (oj d2 (oj d3 (oj d4 (oj d5 (oj d6 (oj q2 r2)))))))));(repeat' first|refine zV Z ?_|refine yQ Z f9 ?_|refine yQ Z f5 ?_|refine yQ Z f6 ?_|refine zH Z ?_ ?_<;>intro hb|fail);all_goals clear Z)
  all_goals clear f9 f5 f6
  all_goals
   refine yT hC (oj n_1 (oj n_2 (oj d1 (oj d2 (oj d3 (oj d4 (oj d5 (oj d6 (oj q2 r2))))))))) ?_
   refine .one (.c (Qo ?_))
   repeat' split
   all_goals exact Ah
 have q7:(kd==7)=false:=beq_eq_false_iff_ne.2 k7
 have r7:(kd !=7)=true:=bne_iff_ne.2 k7
 all_goals try(have Z:=(oj n_1 (oj n_2 (oj d1 (oj d2 (oj d3 (oj d4 (oj d5 (oj d6 (oj q2 (oj r2 (oj q7 r7)))))))))));(repeat' first|refine zV Z ?_|refine yQ Z f9 ?_|refine yQ Z f5 ?_|refine yQ Z f7 ?_|refine zH Z ?_ ?_<;>intro hb|fail);all_goals clear Z)
 all_goals clear f9 f5 f7
 all_goals
  refine yT hC (oj n_1 (oj n_2 (oj d1 (oj d2 (oj d3 (oj d4 (oj d5 (oj d6 (oj q2 (oj r2 (oj q7 r7))))))))))) ?_
  refine .one (.c (Qo ?_))
  repeat' split
  all_goals exact Ah
theorem Qkd (m:Qv) (ho:Jb m):Fa prog 46 [.agg (Xa true m)] (.c (.int .i64 (Vz m))):=by
 have hm:=ho.ok
 have hw:=ho.wf3
 have hw2:=ho.wf2
 have hl:=hw.l
 refine fA func46 fun C hC=>?_
 refine zA o0 ?_
 refine xB fun g1 n_1=>?_
 repeat' first|refine zV n_1 ?_|refine zH n_1 ?_ ?_<;>intro hb|fail
 ·refine yT hC n_1 ?_
  exact .one (.c (Qo (by unfold Vz;rw [iP om])))
 have he2:Vz m=X2 (phC m) m.phases 0:=by
  unfold Vz
  rw [iN om]
 generalize hF:X2 (phC m) m.phases 0=F at he2
 refine Qh (fun i:Nat=>[(1,.c (.optr g1 0)),(16,.c (phs true m.phases)),(17,.c (.int .i64 m.phases.length)),(18,.c (.int .i64 i))]) (fun _=>[(g1,.cells 29 8 (ofL (Xa true m)))]) (fun i=>i≤m.phases.length∧X2 (phC m) (m.phases.drop i) i=F) (fun i=>m.phases.length-i) 0 (zB n_1) zZ ⟨Lz _,hF⟩ ?_
 rintro i ⟨hi,hlp⟩
 repeat' first|refine zV n_1 ?_|refine zH n_1 ?_ ?_<;>intro hb|fail
 ·obtain⟨w0,w1,w2⟩:=hw.ph i
  have w3:∀k,((m.phases.getD i ph0).values.getD k vl0).p.wf 500000000:=fun k=>Ks.m (Xw (Xw ho.ph.2 Qrd i).2.2.2 QvZ k).2
  have hi':=hb
  have hR:∀c,phC m i (m.phases.getD i ph0)=c→c≠0→Vz m=c:=fun c hc h0=>by
   rw [he2];exact ZG hlp hi' hc h0
  have hG:=VI (d:=ph0) hlp hi'
  clear hlp
  generalize hx:m.phases.getD i ph0=x at*
  have f1:Fa prog 93 [.c (.str (sB x.name))] (.c (.bool (QB x.name))):=Ua x.name w0
  have f3:Fa prog 102 [.agg (Xa true m),.c (.int .i64 (-1)),.c (.str (sB x.top))] (.c (.bool (Yq m 0 x.top))):=Qa9 m 0 x.top (Lz _) hm.ev hm.hs hm.pg (Lt (ho.gts 0).1 Af) w1
  refine yA n_1 fun g4 n_4=>?_
  all_goals try(have Z:=(oj n_1 n_4);(repeat' first|refine zV Z ?_|refine yQ Z f1 ?_|refine zH Z ?_ ?_<;>intro hb|fail);all_goals clear Z)
  ·refine yT hC (oj n_1 n_4) ?_
   refine .one (.c (Qo (hR _ ?_ Af).symm))
   unfold phC
   rw [iP (by simpa using hb)]
  have hn1:=hb
  have hxn:((m.phases.getD i ph0).name==x.name)=true:=by rw [hx];exact beq_self_eq_true _
  refine Qh (fun j:Nat=>[(1,.c (.optr g1 0)),(3,.c (.int .i64 i)),(4,.c (.optr g4 0)),(16,.c (phs true m.phases)),(17,.c (.int .i64 m.phases.length)),(18,.c (.int .i64 i)),(30,.c (.row true 3 i (Kr m.phases))),(31,.c (.int .i64 i)),(32,.c (.int .i64 j))]) (fun _=>[(g4,.cells 97 3 (ofL (WR x))),(g1,.cells 29 8 (ofL (Xa true m)))]) (fun j=>j≤i∧∀t,t<j→((m.phases.getD t ph0).name==x.name)=false) (fun j=>i-j) 0 (zB (oj n_1 n_4)) zZ ⟨Lz _,fun t ht=>absurd ht (Nat.not_lt_zero t)⟩ ?_
  rintro j ⟨hj,hno⟩
  all_goals try(have Z:=(oj n_1 n_4);(repeat' first|refine zV Z ?_|refine zH Z ?_ ?_<;>intro hb|fail);all_goals clear Z)
  ·have hj':=hb
   refine yA (oj n_1 n_4) fun g6 n_6=>?_
   all_goals try(have Z:=(oj n_1 (oj n_4 n_6));(repeat' first|refine zV Z ?_|refine zH Z ?_ ?_<;>intro hb|fail);all_goals clear Z)
   ·refine yT hC (oj n_1 (oj n_4 n_6)) ?_
    refine .one (.c (Qo (hR _ ?_ Af).symm))
    unfold phC
    rw [iN (by simpa using hn1),iP (QhW (d:=ph0) om hj' (by simpa using hb) hno)]
   ·refine Qb ⟨j+1,?_⟩
    and_intros
    all_goals first|rfl|exact Lr _|exact Ls _ _|exact True.intro|exact Qb2 (p:=fun t=>(m.phases.getD t ph0).name==x.name) hno (by simpa using hb)|omega
  have hjE:j=i:=by omega
  subst hjE
  have hn2:¬Xu (fun y:V0=>y.name==x.name) m.phases<(j:Nat):=Qbc (d:=ph0) hi' hxn hno
  all_goals try(have Z:=(oj n_1 n_4);(repeat' first|refine zV Z ?_|refine yQ Z f3 ?_|refine zH Z ?_ ?_<;>intro hb|fail);all_goals clear Z)
  ·refine yT hC (oj n_1 n_4) ?_
   refine .one (.c (Qo (hR _ ?_ Af).symm))
   unfold phC
   rw [iN (by simpa using hn1),iN hn2,iP (by simpa using hb)]
  have hn3:=hb
  have hp:phC m j x=X2 (vlC m x) x.values 0:=by
   unfold phC
   rw [iN (by simpa using hn1),iN hn2,iN (by simpa using hn3)]
  clear f1 f3 hno
  generalize hF2:X2 (vlC m x) x.values 0=F2 at hp
  refine Qh (fun k:Nat=>[(1,.c (.optr g1 0)),(4,.c (.optr g4 0)),(16,.c (phs true m.phases)),(17,.c (.int .i64 m.phases.length)),(18,.c (.int .i64 j)),(48,.c (vls true x.values)),(49,.c (.int .i64 x.values.length)),(50,.c (.int .i64 k))]) (fun _=>[(g4,.cells 97 3 (ofL (WR x))),(g1,.cells 29 8 (ofL (Xa true m)))]) (fun k=>k≤x.values.length∧X2 (vlC m x) (x.values.drop k) k=F2) (fun k=>x.values.length-k) 0 (zB (oj n_1 n_4)) zZ ⟨Lz _,hF2⟩ ?_
  rintro k ⟨hk,hlq⟩
  all_goals try(have Z:=(oj n_1 n_4);(repeat' first|refine zV Z ?_|refine zH Z ?_ ?_<;>intro hb|fail);all_goals clear Z)
  ·have hk':=hb
   have hR2:∀c,vlC m x k (x.values.getD k vl0)=c→c≠0→Vz m=c:=fun c hc h0=>hR c (hp.trans (ZG hlq hk' hc h0)) h0
   have hG2:=VI (d:=vl0) hlq hk'
   clear hlq
   have w4:=w3 k
   generalize hv:x.values.getD k vl0=v at*
   have f1:=Va m v.event hm.ev
   have f3:=QbH v.p w4
   have hvn:((x.values.getD k vl0).event==v.event)=true:=by rw [hv];exact beq_self_eq_true _
   refine yA (oj n_1 n_4) fun g8 n_8=>?_
   all_goals try(have Z:=(oj n_1 (oj n_4 n_8));(repeat' first|refine zV Z ?_|refine yQ Z f1 ?_|refine zH Z ?_ ?_<;>intro hb|fail);all_goals clear Z)
   ·refine yT hC (oj n_1 (oj n_4 n_8)) ?_
    refine .one (.c (Qo (hR2 _ ?_ Af).symm))
    unfold vlC
    rw [iP hb]
   have m1:=hb
   refine Qh (fun q:Nat=>[(1,.c (.optr g1 0)),(4,.c (.optr g4 0)),(7,.c (.int .i64 k)),(8,.c (.optr g8 0)),(16,.c (phs true m.phases)),(17,.c (.int .i64 m.phases.length)),(18,.c (.int .i64 j)),(48,.c (vls true x.values)),(49,.c (.int .i64 x.values.length)),(50,.c (.int .i64 k)),(63,.c (.row true 4 k (V6 x.values))),(64,.c (.int .i64 k)),(65,.c (.int .i64 q))]) (fun _=>(g8,.cells 99 4 (ofL (vlc v)))::[(g4,.cells 97 3 (ofL (WR x))),(g1,.cells 29 8 (ofL (Xa true m)))]) (fun q=>q≤k∧∀t,t<q→((x.values.getD t vl0).event==v.event)=false) (fun q=>k-q) 0 (zB (oj n_1 (oj n_4 n_8))) zZ ⟨Lz _,fun t ht=>absurd ht (Nat.not_lt_zero t)⟩ ?_
   rintro q ⟨hq,hno⟩
   all_goals try(have Z:=(oj n_1 (oj n_4 n_8));(repeat' first|refine zV Z ?_|refine zH Z ?_ ?_<;>intro hb|fail);all_goals clear Z)
   ·have hq':=hb
    refine yA (oj n_1 (oj n_4 n_8)) fun g10 n_10=>?_
    all_goals try(have Z:=(oj n_1 (oj n_4 (oj n_8 n_10)));(repeat' first|refine zV Z ?_|refine zH Z ?_ ?_<;>intro hb|fail);all_goals clear Z)
    ·refine yT hC (oj n_1 (oj n_4 (oj n_8 n_10))) ?_
     refine .one (.c (Qo (hR2 _ ?_ Af).symm))
     unfold vlC
     rw [iN m1,iP (QhW (d:=vl0) om hq' (by simpa using hb) hno)]
    ·refine Qb ⟨q+1,?_⟩
     and_intros
     all_goals first|rfl|exact Lr _|exact Ls _ _|exact True.intro|exact Qb2 (p:=fun t=>(x.values.getD t vl0).event==v.event) hno (by simpa using hb)|omega
   have hqE:q=k:=by omega
   subst hqE
   have m2:¬Xu (fun y:Zp=>y.event==v.event) x.values<(q:Nat):=Qbc (d:=vl0) hk' hvn hno
   all_goals try(have Z:=(oj n_1 (oj n_4 n_8));(repeat' first|refine zV Z ?_|refine yQ Z f3 ?_|refine zH Z ?_ ?_<;>intro hb|fail);all_goals clear Z)
   ·refine yT hC (oj n_1 (oj n_4 n_8)) ?_
    refine .one (.c (Qo (hR2 _ ?_ Af).symm))
    unfold vlC
    rw [iN m1,iN m2,iP (by simpa using hb)]
   ·refine Qb ⟨q+1,?_⟩
    have hz:vlC m x q v=0:=by
     unfold vlC
     rw [iN m1,iN m2,iN (by simpa using hb)]
    and_intros
    all_goals first|rfl|exact Lr _|exact Ls _ _|exact True.intro|exact hG2 hz|omega
  ·have hF0:=YU hlq hb
   refine Qb ⟨j+1,?_⟩
   and_intros
   all_goals first|rfl|exact Lr _|exact Ls _ _|exact True.intro|exact hG (hp.trans hF0)|omega
 ·have hF0:=YU hlp hb
  subst hF0
  refine yT hC n_1 ?_
  exact .one (.c (Qo he2.symm))
theorem Qke (m:Qv) (ho:Jb m):Fa prog 45 [.agg (Xa true m)] (.c (.int .i64 (Y3 m))):=by
 have hm:=ho.ok
 have hw:=ho.wf4
 have hl:=hw.l
 refine fA func45 fun C hC=>?_
 refine zA o0 ?_
 refine xB fun g1 n_1=>?_
 repeat' first|refine zV n_1 ?_|refine zH n_1 ?_ ?_<;>intro hb|fail
 ·refine yT hC n_1 ?_
  exact .one (.c (Qo (by unfold Y3;rw [iP om])))
 have h8:m.groups.length≤8:=by omega
 have he2:Y3 m=(X1 (OG m) m.groups 0 []).1:=by
  unfold Y3
  rw [iN om]
 generalize hF:X1 (OG m) m.groups 0 []=F at he2
 refine Qh (fun x:Nat×List BS×Option Nat=>[(1,.c (.optr g1 0)),(3,.c (gs x.2.2 1 x.2.1.length)),(21,.c (grs true m.groups)),(22,.c (.int .i64 m.groups.length)),(23,.c (.int .i64 x.1))]) (fun x=>[(g1,.cells 29 8 (ofL (Xa true m)))]++gh x.2.2 9 x.2.1.length (Qe x.2.1)) (fun x=>x.1≤m.groups.length∧(x.2.2=none→x.2.1.length=0)∧x.2.1.length≤1048576*x.1∧X1 (OG m) (m.groups.drop x.1) x.1 x.2.1=F) (fun x=>m.groups.length-x.1) (0,[],none) (zB n_1) zZ ⟨Lz _,fun _=>rfl,Lz _,hF⟩ ?_
 rintro ⟨i,ms,og⟩ ⟨hi,hog,hsz,hlp⟩
 dsimp only at hi hog hsz hlp⊢
 simp only [Lq,Ln]
 repeat' first|refine zV n_1 ?_|refine zH n_1 ?_ ?_<;>intro hb|fail
 ·obtain⟨w0,w1,w2⟩:=hw.gr i
  have w3:∀k,((m.groups.getD i gr0).factors.getD k rd0).wf 500000000:=fun k=>Ks.m (Xw (Xw ho.gr.2 Qrc i).2.2.2.2 ZU k)
  have hi':=hb
  have hR:∀c s,OG m i (m.groups.getD i gr0) ms=(c,s)→c≠0→Y3 m=c:=fun c s hc h0=>by
   rw [he2,Kd hlp hi' hc h0]
  have hgo:=fun r=>Jw (d:=gr0) (r:=r) hlp hi'
  clear hlp
  have hxn:((m.groups.getD i gr0).name==(m.groups.getD i gr0).name)=true:=beq_self_eq_true _
  generalize hx:m.groups.getD i gr0=x at*
  rw [←hx] at hxn
  have f1:Fa prog 93 [.c (.str (sB x.name))] (.c (.bool (QB x.name))):=Ua x.name w0
  refine yA n_1 fun g5 n_5=>?_
  all_goals try(have Z:=(oj n_1 n_5);(repeat' first|refine zV Z ?_|refine yQ Z f1 ?_|refine zH Z ?_ ?_<;>intro hb|fail);all_goals clear Z)
  ·refine yT hC (oj n_1 n_5) ?_
   refine .one (.c (Qo (hR _ ms ?_ Af).symm))
   unfold OG
   rw [iP (by simpa using hb)]
  have hn1:=hb
  rw [hx] at hxn
  refine Qh (fun j:Nat=>[(1,.c (.optr g1 0)),(3,.c (gs og 1 ms.length)),(4,.c (.int .i64 i)),(5,.c (.optr g5 0)),(21,.c (grs true m.groups)),(22,.c (.int .i64 m.groups.length)),(23,.c (.int .i64 i)),(35,.c (.row true 4 i (VR m.groups))),(36,.c (.int .i64 i)),(37,.c (.int .i64 j))]) (fun _=>(g5,.cells 94 4 (ofL (Wx x)))::(g1,.cells 29 8 (ofL (Xa true m)))::gh og 9 ms.length (Qe ms)) (fun j=>j≤i∧∀t,t<j→((m.groups.getD t gr0).name==x.name)=false) (fun j=>i-j) 0 (zB (oj n_1 n_5)) zZ ⟨Lz _,fun t ht=>absurd ht (Nat.not_lt_zero t)⟩ ?_
  rintro j ⟨hj,hno⟩
  by_cases hji:j<i
  ·have dj:decide (j<i)=true:=Dt hji
   refine zA (oj n_1 (oj n_5 dj)) ?_
   refine yA (oj n_1 (oj n_5 dj)) fun g7 n_7=>?_
   all_goals try(have Z:=(oj n_1 (oj n_5 (oj dj n_7)));(repeat' first|refine zV Z ?_|refine zH Z ?_ ?_<;>intro hb|fail);all_goals clear Z)
   ·refine yT hC (oj n_1 (oj n_5 (oj dj n_7))) ?_
    refine .one (.c (Qo (hR _ ms ?_ Af).symm))
    unfold OG
    rw [iN (by simpa using hn1),iP (QhW (d:=gr0) om hji (by simpa using hb) hno)]
   ·refine Qb ⟨j+1,?_⟩
    and_intros
    all_goals first|rfl|exact Lr _|exact Ls _ _|exact True.intro|exact Qb2 (p:=fun t=>(m.groups.getD t gr0).name==x.name) hno (by simpa using hb)|omega
  have hjE:j=i:=by omega
  subst hjE
  have dj:decide (j<j)=false:=De hji
  have hn2:¬Xu (fun y:YB=>y.name==x.name) m.groups<(j:Nat):=Qbc (d:=gr0) hi' (by rw [hx];exact beq_self_eq_true _) hno
  clear hno hj hji f1 hxn
  have hK:∀(mo:Int) (fc:Int),mo=(if x.kind=1 then 4 else 24)→fc=(if x.kind=1 then(x.members.length:Int)-1 else 1)→OG m j x ms=if x.kind≠0∧x.kind≠1 then(7,ms) else if(x.members.length:Int)<2∨(x.members.length:Int)>mo∨(x.factors.length:Int)≠fc then(11,ms)
   else if(X1 (OA m) x.members 0 ms).1≠0 then X1 (OA m) x.members 0 ms
   else if x.factors.all RD.prob=false then(3,ms) else(0,(X1 (OA m) x.members 0 ms).2):=fun mo fc h1 h2=>by
   unfold OG
   rw [iN (by simpa using hn1),iN hn2,h1,h2]
  obtain⟨nm,kd,mb,fc⟩:=x
  dsimp only at*
  all_goals try(have Z:=(oj n_1 (oj n_5 dj));(repeat' first|refine zV Z ?_|refine zH Z ?_ ?_<;>intro hb|fail);all_goals clear Z)
  all_goals
   try
    refine Xv 6 Qg kR ?_
  all_goals try(have Z:=(oj n_1 (oj n_5 dj));(repeat' first|refine zV Z ?_|refine zH Z ?_ ?_<;>intro hb|fail);all_goals clear Z)
  all_goals first
   |(refine yT hC (oj n_1 (oj n_5 dj)) ?_
     refine .one (.c (Qo (hR _ ms ?_ Af).symm))
     rw [hK _ _ rfl rfl]
     clear hK hR hgo
     repeat' split
     all_goals exact Ah)
   |skip
  all_goals
   have hQ:OG m j ⟨nm,kd,mb,fc⟩ ms=(if(X1 (OA m) mb 0 ms).1≠0 then X1 (OA m) mb 0 ms else if fc.all RD.prob=false then(3,ms) else(0,(X1 (OA m) mb 0 ms).2)):=by
    rw [hK _ _ rfl rfl]
    clear hK hR hgo
    rw [iN,iN]
    all_goals (simp_all<;>omega)
   clear hK
   generalize hF2:X1 (OA m) mb 0 ms=F2 at hQ
   refine Qh (fun y:Nat×List BS×Option Nat=>[(1,.c (.optr g1 0)),(3,.c (gs y.2.2 1 y.2.1.length)),(5,.c (.optr g5 0)),(21,.c (grs true m.groups)),(22,.c (.int .i64 m.groups.length)),(23,.c (.int .i64 j)),(81,.c (X0 true mb)),(82,.c (.int .i64 mb.length)),(83,.c (.int .i64 y.1))]) (fun y=>[(g5,.cells 94 4 (ofL (Wx ⟨nm,kd,mb,fc⟩))),(g1,.cells 29 8 (ofL (Xa true m)))]++gh y.2.2 9 y.2.1.length (Qe y.2.1)) (fun y=>y.1≤mb.length∧(y.2.2=none→y.2.1.length=0)∧y.2.1.length≤ms.length+y.1∧X1 (OA m) (mb.drop y.1) y.1 y.2.1=F2) (fun y=>mb.length-y.1) (0,ms,og) (zB (oj n_1 (oj n_5 dj))) zZ ⟨Lz _,hog,by dsimp only;omega,hF2⟩ ?_
   rintro ⟨q,sq,oq⟩ ⟨hq,hoq,hsq,hlq⟩
   dsimp only at hq hoq hsq hlq⊢
   simp only [Lq,Ln]
   by_cases hqm:q<mb.length
   ·have dq:decide (q<mb.length)=true:=Dt hqm
    have hq2:=fun r=>Kd (d:=([]:BS)) (r:=r) hlq hqm
    have hqg:=fun r=>Jw (d:=([]:BS)) (r:=r) hlq hqm
    clear hlq
    generalize hy:mb.getD q []=y at*
    have hR2:∀c s,OA m q y sq=(c,s)→c≠0→Y3 m=c:=fun c s h1 h2=>by
     have a1:=hq2 _ h1 h2
     refine hR c s ?_ h2
     rw [hQ,a1]
     exact iP h2
    have f5:=Va m y hm.ev
    all_goals try(have Z:=(oj n_1 (oj n_5 (oj dj (oj dq hy))));(repeat' first|refine zV Z ?_|refine yQ Z f5 ?_|refine zH Z ?_ ?_<;>intro hb|fail);all_goals clear Z)
    ·refine yT hC (oj n_1 (oj n_5 (oj dj (oj dq hy)))) ?_
     refine .one (.c (Qo (hR2 _ sq ?_ Af).symm))
     unfold OA
     rw [iP hb]
    have h5:=hb
    refine QT (QA.lenS (zE (oj n_1 (oj n_5 (oj dj (oj dq hy))))) (zE (oj n_1 (oj n_5 (oj dj (oj dq hy))))) (Qbv (s:=1) hoq)) rfl rfl ?_
    have J1:=oj n_1 (oj n_5 (oj dj (oj dq hy)))
    refine yS J1 ?_
    refine zA J1 ?_
    refine Qh (fun t:Nat=>[(1,.c (.optr g1 0)),(3,.c (gs oq 1 sq.length)),(5,.c (.optr g5 0)),(11,.c (.str (sB y))),(21,.c (grs true m.groups)),(22,.c (.int .i64 m.groups.length)),(23,.c (.int .i64 j)),(81,.c (X0 true mb)),(82,.c (.int .i64 mb.length)),(83,.c (.int .i64 q)),(91,.c (gs oq 1 sq.length)),(92,.c (.int .i64 sq.length)),(93,.c (.int .i64 t))]) (fun _=>(g5,.cells 94 4 (ofL (Wx ⟨nm,kd,mb,fc⟩)))::(g1,.cells 29 8 (ofL (Xa true m)))::gh oq 9 sq.length (Qe sq)) (fun t=>t≤sq.length∧∀u,u<t→(sq.getD u []==y)=false) (fun t=>sq.length-t) 0 (zB J1) zZ ⟨Lz _,fun u hu=>absurd hu (Nat.not_lt_zero u)⟩ ?_
    rintro t ⟨ht,hnt⟩
    by_cases htl:t<sq.length
    ·have dt:decide (t<sq.length)=true:=Dt htl
     obtain⟨g,rfl⟩:∃g,oq=some g:=by
      cases oq with
      |none=>exact absurd (hoq rfl) om
      |some g=>exact⟨g,rfl⟩
     dsimp only [gs,gh]
     refine Y9 fun hnd=> ?_
     simp only [Qa.keys,Ld,List.map_nil] at hnd
     replace hnd:=Qlb hnd
     dsimp only [ndP,neA] at hnd
     all_goals try(have Z:=(oj n_1 (oj n_5 (oj dj (oj dq (oj hy (oj dt hnd))))));(repeat' first|refine zV Z ?_|refine zH Z ?_ ?_<;>intro hb|fail);all_goals clear Z)
     ·refine yT hC (oj n_1 (oj n_5 (oj dj (oj dq (oj hy (oj dt hnd)))))) ?_
      refine .one (.c (Qo (hR2 _ sq ?_ Af).symm))
      unfold OA
      rw [iN h5,iP (Qnr htl hb)]
     ·refine Qb ⟨t+1,?_⟩
      and_intros
      all_goals first|rfl|exact Lr _|exact True.intro|exact Qb2 (p:=fun u=>sq.getD u []==y) hnt (by simpa using hb)|omega
    ·have dt:decide (t<sq.length)=false:=De htl
     have hz:OA m q y sq=(0,sq++[y]):=by
      unfold OA
      rw [iN h5,iN (by rw [Qnq fun u hu=>hnt u om];decide)]
     have hq':=hqg _ hz rfl
     have hln:(sq++[y]).length=sq.length+1:=by rw [La];rfl
     refine zA (oj n_1 (oj n_5 (oj dj (oj dq (oj hy dt))))) ?_
     refine QX (pre:=[(g5,.cells 94 4 (ofL (Wx ⟨nm,kd,mb,fc⟩))),(g1,.cells 29 8 (ofL (Xa true m)))]) rfl rfl rfl rfl rfl rfl rfl (zE (oj n_1 (oj n_5 (oj dj (oj dq (oj hy dt)))))) (zE (oj n_1 (oj n_5 (oj dj (oj dq (oj hy dt)))))) (by rfl) om om (zE (oj n_1 (oj n_5 (oj dj (oj dq (oj hy dt)))))) om (by exact hoq) (zE (oj n_1 (oj n_5 (oj dj (oj dq (oj hy dt)))))) (by rfl) (by rfl) qb qc om (by exact YG rfl y) fun gb n_b=> ?_
     replace n_b:=Qa.ne_of n_b
     first|dsimp only [Qa.ne,gh] at n_b|dsimp only [Qa.ne] at n_b|skip
     have J2:=oj n_1 (oj n_5 (oj dj (oj dq (oj hy (oj dt n_b)))))
     refine yS J2 ?_
     refine zA J2 ?_
     refine Qb ⟨(q+1,sq++[y],some gb),?_⟩
     dsimp only
     simp only [hln]
     and_intros
     all_goals first|rfl|exact Lr _|exact Ls _ _|exact True.intro|exact XJ|exact hq'|omega
   ·have dq:decide (q<mb.length)=false:=De hqm
    have hF0:=YV hlq hqm
    subst hF0
    refine zA (oj n_1 (oj n_5 (oj dj dq))) ?_
    refine Qh (fun t:Nat=>[(1,.c (.optr g1 0)),(3,.c (gs oq 1 sq.length)),(21,.c (grs true m.groups)),(22,.c (.int .i64 m.groups.length)),(23,.c (.int .i64 j)),(107,.c (VQ true fc)),(108,.c (.int .i64 fc.length)),(109,.c (.int .i64 t))]) (fun _=>(g5,.cells 94 4 (ofL (Wx ⟨nm,kd,mb,fc⟩)))::(g1,.cells 29 8 (ofL (Xa true m)))::gh oq 9 sq.length (Qe sq)) (fun t=>t≤fc.length∧∀u,u<t→(fc.getD u rd0).prob=true) (fun t=>fc.length-t) 0 (zB (oj n_1 (oj n_5 (oj dj dq)))) zZ ⟨Lz _,fun u hu=>absurd hu (Nat.not_lt_zero u)⟩ ?_
    rintro t ⟨ht,hyt⟩
    by_cases htl:t<fc.length
    ·have dt:decide (t<fc.length)=true:=Dt htl
     have f6:=QbH (fc.getD t rd0) (w3 t)
     refine zA (oj n_1 (oj n_5 (oj dj (oj dq dt)))) ?_
     refine yA (oj n_1 (oj n_5 (oj dj (oj dq dt)))) fun g15 n_15=>?_
     all_goals try(have Z:=(oj n_1 (oj n_5 (oj dj (oj dq (oj dt n_15)))));(repeat' first|refine zV Z ?_|refine yQ Z f6 ?_|refine zH Z ?_ ?_<;>intro hb|fail);all_goals clear Z)
     ·refine yT hC (oj n_1 (oj n_5 (oj dj (oj dq (oj dt n_15))))) ?_
      refine .one (.c (Qo (hR _ ms ?_ Af).symm))
      rw [hQ,iN (by simp),iP (QuY htl (by simpa using hb))]
     ·refine Qb ⟨t+1,?_⟩
      and_intros
      all_goals first|rfl|exact Lr _|exact Ls _ _|exact True.intro|exact Qr4 (p:=fun u=>(fc.getD u rd0).prob) hyt (by simpa using hb)|omega
    ·have dt:decide (t<fc.length)=false:=De htl
     have hz:OG m j ⟨nm,kd,mb,fc⟩ ms=(0,sq):=by
      rw [hQ,iN (by simp),iN (by rw [Qpz hyt om];decide)]
     have hg:=hgo _ hz rfl
     refine zA (oj n_1 (oj n_5 (oj dj (oj dq dt)))) ?_
     refine Qb ⟨(j+1,sq,oq),?_⟩
     and_intros
     all_goals first|rfl|exact Lr _|exact Ls _ _|exact True.intro|exact hoq|exact hg|(dsimp only;omega)
 ·have hF0:=YV hlp hb
  subst hF0
  refine yT hC n_1 ?_
  exact .one (.c (Qo he2.symm))
theorem Qkf (m:Qv) (ho:Jb m) (hp8:m.pages.length≤8) (hI:∀k,k≤m.pages.length→∀i,((Qt m k).getD i gt0).inputs.length≤16):Fa prog 44 [.agg (Xa true m)] (.c (.int .i64 (Qc6 m))):=by
 have hm:=ho.ok
 have hgl:∀k,(Qt m k).length≤1048576:=fun k=>(ho.gts k).1
 unfold Qc6
 generalize hN:QrJ m=N
 refine fA func44 fun C hC=>?_
 refine zA o0 ?_
 refine xB fun g1 n_1=>?_
 refine zA n_1 ?_
 refine Qh (fun x:Nat×List BS×Option Nat=>[(1,.c (.optr g1 0)),(3,.c (gs x.2.2 1 x.2.1.length)),(4,.c (.int .i64 ((x.1:Int)-1)))]) (fun x=>[(g1,.cells 29 8 (ofL (Xa true m)))]++gh x.2.2 9 x.2.1.length (Qe x.2.1)) (fun x=>x.1≤m.pages.length+1∧(x.2.2=none→x.2.1.length=0)∧x.2.1.length≤16777216*x.1∧(K1 (U6 m) (m.pages.length+1-x.1) x.1 x.2.1).1=N) (fun x=>m.pages.length+1-x.1) (0,[],none) (zB n_1) zZ ⟨Lz _,fun _=>rfl,Lz _,hN⟩ ?_
 rintro ⟨k,sp0,og0⟩ ⟨hk,hog0,hsp0,hlN⟩
 dsimp only at hk hog0 hsp0 hlN⊢
 simp only [Lq,Ln]
 by_cases hkP:k≤m.pages.length
 ·have f0:=KI m k hkP om
  have hI':=hI k hkP
  have hin:=fun i j=>ho.inl k i j
  have hgk:=hgl k
  have hfN:∀c s,U6 m k sp0=(c,s)→(c≠0→N=c)∧(c=0→(K1 (U6 m) (m.pages.length+1-(k+1)) (k+1) s).1=N):=fun c s h=>by
   rw [show m.pages.length+1-k=(m.pages.length+1-(k+1))+1 from by omega] at hlN
   refine⟨fun h0=> ?_,fun h0=> ?_⟩
   ·rw [QdY (f:=U6 m) (by rw [h];exact h0),h] at hlN
    exact hlN.symm
   ·rw [QhS (f:=U6 m) (by rw [h];exact h0),h] at hlN
    exact hlN
  have fT1:=QcW (m.pages.getD (k-1) pg0).gates (m.pages.getD (k-1) pg0).top (by have:=(ho.wf2.pg (k-1)).2;omega)
  have fT2:=Va m (m.pages.getD (k-1) pg0).top hm.ev
  repeat' first|refine zV n_1 ?_|refine yQ n_1 f0 ?_|refine zH n_1 ?_ ?_<;>intro hb|fail
  all_goals try (exfalso;omega)
  clear hlN f0
  generalize hF:X1 (inG m k) (Qt m k) 0 sp0=F
  have hPn:F.1≠0→U6 m k sp0=F:=fun h=>by unfold U6;rw [hF,iN h]
  have hP0:F.1=0→U6 m k sp0=(tpC m k,F.2):=fun h=>by unfold U6;rw [hF,iP h]
  generalize hL:Qt m k=L at*
  refine Qh (fun x:Nat×List BS×Option Nat=>[(1,.c (.optr g1 0)),(3,.c (gs x.2.2 1 x.2.1.length)),(4,.c (.int .i64 ((k:Int)-1))),(21,.c (gts true L)),(22,.c (.int .i64 L.length)),(23,.c (.int .i64 x.1))]) (fun x=>[(g1,.cells 29 8 (ofL (Xa true m)))]++gh x.2.2 9 x.2.1.length (Qe x.2.1)) (fun x=>x.1≤L.length∧(x.2.2=none→x.2.1.length=0)∧x.2.1.length≤sp0.length+16*x.1∧X1 (inG m k) (L.drop x.1) x.1 x.2.1=F) (fun x=>L.length-x.1) (0,sp0,og0) (zB n_1) zZ ⟨Lz _,hog0,by dsimp only;omega,hF⟩ ?_
  rintro ⟨i,sp,og⟩ ⟨hi,hog,hsz,hlp⟩
  dsimp only at hi hog hsz hlp⊢
  simp only [Lq,Ln]
  repeat' first|refine zV n_1 ?_|refine zH n_1 ?_ ?_<;>intro hb|fail
  ·as_aux_lemma=>
   have hi':=hb
   have w1:=hI' i
   have w2:=hin i
   have hlp2:=fun r=>Kd (d:=gt0) (r:=r) hlp hi'
   have hgo:=fun r=>Jw (d:=gt0) (r:=r) hlp hi'
   clear hlp fT1 fT2
   generalize hx:L.getD i gt0=x at*
   refine yA n_1 fun g6 n_6=>?_
   refine zA (oj n_1 n_6) ?_
   generalize hF2:X1 (inI m k x) x.inputs 0 sp=F2
   have e2:inG m k i x sp=F2:=hF2
   rw [e2] at hlp2 hgo
   refine Qh (fun y:Nat×List BS×Option Nat=>[(1,.c (.optr g1 0)),(3,.c (gs y.2.2 1 y.2.1.length)),(4,.c (.int .i64 ((k:Int)-1))),(6,.c (.optr g6 0)),(21,.c (gts true L)),(22,.c (.int .i64 L.length)),(23,.c (.int .i64 i)),(28,.c (X0 true x.inputs)),(29,.c (.int .i64 x.inputs.length)),(30,.c (.int .i64 y.1))]) (fun y=>[(g6,.cells 79 7 (ofL (Zy x))),(g1,.cells 29 8 (ofL (Xa true m)))]++gh y.2.2 9 y.2.1.length (Qe y.2.1)) (fun y=>y.1≤x.inputs.length∧(y.2.2=none→y.2.1.length=0)∧y.2.1.length≤sp.length+y.1∧X1 (inI m k x) (x.inputs.drop y.1) y.1 y.2.1=F2) (fun y=>x.inputs.length-y.1) (0,sp,og) (zB (oj n_1 n_6)) zZ ⟨Lz _,hog,by dsimp only;omega,hF2⟩ ?_
   rintro ⟨j,sq,oq⟩ ⟨hj,hoq,hsq,hlq⟩
   dsimp only at hj hoq hsq hlq⊢
   simp only [Lq,Ln]
   all_goals try(have Z:=(oj n_1 n_6);(repeat' first|refine zV Z ?_|refine zH Z ?_ ?_<;>intro hb|fail);all_goals clear Z)
   ·have hj':=hb
    have w3:=w2 j
    have hq2:=fun r=>Kd (d:=([]:BS)) (r:=r) hlq hj'
    have hqg:=fun r=>Jw (d:=([]:BS)) (r:=r) hlq hj'
    clear hlq
    generalize hy:x.inputs.getD j []=y at*
    have hR:∀c s,inI m k x j y sq=(c,s)→c≠0→c=Vn N (if Yq m 0 m.top=true then 0 else 5):=fun c s h1 h2=>by
     have a1:=hq2 _ h1 h2
     rw [a1] at hlp2
     have a2:=hlp2 _ rfl h2
     have a3:=(hfN c s (by rw [hPn (by rw [a2];exact h2),a2])).1 h2
     rw [a3,VV h2]
    have f1:=Qa9 m k y hkP hm.ev hm.hs hm.pg (by rw [hL];omega) w3
    have f3:=Va m y hm.ev
    have hI0:inI m k x j y sq=if Yq m k y=false then(5,sq) else if Kv x j=true∧VH m y<0 then(7,sq) else if x.kind=7 then(if sq.contains y then(6,sq) else(0,sq++[y])) else(0,sq):=rfl
    have hgo':∀s,inI m k x j y sq=(0,s)→X1 (inI m k x) (x.inputs.drop (j+1)) (j+1) s=F2:=fun s h=>hqg _ h rfl
    clear hq2 hqg hlp2 hPn hP0 hfN
    by_cases c1:Yq m k y=false
    ·rw [c1] at f1
     refine Zo (oj n_1 n_6) f1 ?_
     refine yT hC (oj n_1 n_6) ?_
     exact .one (.c (Qo (hR 5 sq (by rw [hI0,iP c1]) Af)))
    replace c1:Yq m k y=true:=by simpa using c1
    rw [c1] at f1
    rw [iN (by rw [c1];decide)] at hI0
    have hstop:Kv x j=false∨¬VH m y<0→x.kind≠7→inI m k x j y sq=(0,sq):=fun h1 h2=>by
     rw [hI0,iN,iN h2]
     rintro ⟨z1,z2⟩
     rcases h1 with h1|h1
     ·rw [h1] at z1;cases z1
     ·exact h1 z2
    by_cases c7:x.kind=7
    ·have q1:(x.kind==7)=true:=beq_iff_eq.2 c7
     have q2:(x.kind !=7)=false:=by rw [c7];rfl
     have hM:Kv x j=true:=by unfold Kv;rw [c7];rfl
     all_goals try(have Z:=(oj n_1 (oj n_6 (oj q1 q2)));(repeat' first|refine zV Z ?_|refine yQ Z f1 ?_|refine yQ Z f3 ?_|refine zH Z ?_ ?_<;>intro hb|fail);all_goals clear Z)
     ·refine yT hC (oj n_1 (oj n_6 (oj q1 q2))) ?_
      exact .one (.c (Qo (hR 7 sq (by rw [hI0,iP ⟨hM,hb⟩]) Af)))
     have hI7:inI m k x j y sq=if sq.contains y then(6,sq) else(0,sq++[y]):=by rw [hI0,iN (fun z=>hb z.2),iP c7]
     refine QT (QA.lenS (zE (oj n_1 (oj n_6 (oj q1 q2)))) (zE (oj n_1 (oj n_6 (oj q1 q2)))) (Qbv (s:=1) hoq)) rfl rfl ?_
     have J1:=oj n_1 (oj n_6 (oj q1 q2))
     refine yS J1 ?_
     refine zA J1 ?_
     refine Qh (fun t:Nat=>[(1,.c (.optr g1 0)),(3,.c (gs oq 1 sq.length)),(4,.c (.int .i64 ((k:Int)-1))),(6,.c (.optr g6 0)),(8,.c (.str (sB y))),(21,.c (gts true L)),(22,.c (.int .i64 L.length)),(23,.c (.int .i64 i)),(28,.c (X0 true x.inputs)),(29,.c (.int .i64 x.inputs.length)),(30,.c (.int .i64 j)),(62,.c (gs oq 1 sq.length)),(63,.c (.int .i64 sq.length)),(64,.c (.int .i64 t))]) (fun _=>(g6,.cells 79 7 (ofL (Zy x)))::(g1,.cells 29 8 (ofL (Xa true m)))::gh oq 9 sq.length (Qe sq)) (fun t=>t≤sq.length∧∀u,u<t→(sq.getD u []==y)=false) (fun t=>sq.length-t) 0 (zB J1) zZ ⟨Lz _,fun u hu=>absurd hu (Nat.not_lt_zero u)⟩ ?_
     rintro t ⟨ht,hnt⟩
     by_cases htl:t<sq.length
     ·have dt:decide (t<sq.length)=true:=Dt htl
      obtain⟨g,rfl⟩:∃g,oq=some g:=by
       cases oq with
       |none=>exact absurd (hoq rfl) om
       |some g=>exact⟨g,rfl⟩
      dsimp only [gs,gh]
      refine Y9 fun hnd=> ?_
      simp only [Qa.keys,Ld,List.map_nil] at hnd
      replace hnd:=Qlb hnd
      dsimp only [ndP,neA] at hnd
      all_goals try(have Z:=(oj n_1 (oj n_6 (oj q1 (oj q2 (oj dt hnd)))));(repeat' first|refine zV Z ?_|refine zH Z ?_ ?_<;>intro hb|fail);all_goals clear Z)
      ·refine yT hC (oj n_1 (oj n_6 (oj q1 (oj q2 (oj dt hnd))))) ?_
       refine .one (.c (Qo (hR _ sq ?_ Af)))
       rw [hI7,iP (Qnr htl hb)]
      ·refine Qb ⟨t+1,?_⟩
       and_intros
       all_goals first|rfl|exact Lr _|exact True.intro|exact Qb2 (p:=fun u=>sq.getD u []==y) hnt (by simpa using hb)|omega
     ·have dt:decide (t<sq.length)=false:=De htl
      have hz:inI m k x j y sq=(0,sq++[y]):=by rw [hI7,Qnq fun u hu=>hnt u om];rfl
      have hq:=hgo' _ hz
      have hln:(sq++[y]).length=sq.length+1:=by rw [La];rfl
      refine zA (oj n_1 (oj n_6 (oj q1 (oj q2 dt)))) ?_
      refine QX (pre:=[(g6,.cells 79 7 (ofL (Zy x))),(g1,.cells 29 8 (ofL (Xa true m)))]) rfl rfl rfl rfl rfl rfl rfl (zE (oj n_1 (oj n_6 (oj q1 (oj q2 dt))))) (zE (oj n_1 (oj n_6 (oj q1 (oj q2 dt))))) (by rfl) om om (zE (oj n_1 (oj n_6 (oj q1 (oj q2 dt))))) om (by exact hoq) (zE (oj n_1 (oj n_6 (oj q1 (oj q2 dt))))) (by rfl) (by rfl) qb qc om (by exact YG rfl y) fun gb n_b=> ?_
      replace n_b:=Qa.ne_of n_b
      first|dsimp only [Qa.ne,gh] at n_b|dsimp only [Qa.ne] at n_b|skip
      have J2:=oj n_1 (oj n_6 (oj q1 (oj q2 (oj dt n_b))))
      refine yS J2 ?_
      refine zA J2 ?_
      refine Qb ⟨(j+1,sq++[y],some gb),?_⟩
      dsimp only
      simp only [hln]
      and_intros
      all_goals first|rfl|exact Lr _|exact Ls _ _|exact True.intro|exact XJ|exact hq|omega
    have q1:(x.kind==7)=false:=beq_eq_false_iff_ne.2 c7
    have q2:(x.kind !=7)=true:=bne_iff_ne.2 c7
    by_cases c8:x.kind=8∧j>0
    ·have q3:(x.kind==8)=true:=beq_iff_eq.2 c8.1
     have q4:decide (j>0)=true:=Dt c8.2
     have hM:Kv x j=true:=by unfold Kv;rw [Dt c8.1,Dt c8.2];simp
     all_goals try(have Z:=(oj n_1 (oj n_6 (oj q1 (oj q2 (oj q3 q4)))));(repeat' first|refine zV Z ?_|refine yQ Z f1 ?_|refine yQ Z f3 ?_|refine zH Z ?_ ?_<;>intro hb|fail);all_goals clear Z)
     ·refine yT hC (oj n_1 (oj n_6 (oj q1 (oj q2 (oj q3 q4))))) ?_
      exact .one (.c (Qo (hR 7 sq (by rw [hI0,iP ⟨hM,hb⟩]) Af)))
     ·have hq:=hgo' _ (hstop (.inr hb) c7)
      exact Qb ⟨(j+1,sq,oq),(by dsimp only;omega),(zB (oj n_1 (oj n_6 (oj q1 (oj q2 (oj q3 q4)))))),zZ,(by dsimp only;omega),hoq,(by dsimp only;omega),hq⟩
    ·have hM:Kv x j=false:=by
      unfold Kv
      rw [De c7,Bool.false_or,←Bool.decide_and]
      exact De c8
     have hq:=hgo' _ (hstop (.inl hM) c7)
     by_cases c9:x.kind=8
     ·have q3:(x.kind==8)=true:=beq_iff_eq.2 c9
      have q4:decide (j>0)=false:=De fun z=>c8 ⟨c9,z⟩
      refine zA2 (oj n_1 (oj n_6 (oj q1 (oj q2 (oj q3 q4))))) f1 f3 ?_
      exact Qb ⟨(j+1,sq,oq),(by dsimp only;omega),(zB (oj n_1 (oj n_6 (oj q1 (oj q2 (oj q3 q4)))))),zZ,(by dsimp only;omega),hoq,(by dsimp only;omega),hq⟩
     ·have q3:(x.kind==8)=false:=beq_eq_false_iff_ne.2 c9
      refine zA2 (oj n_1 (oj n_6 (oj q1 (oj q2 q3)))) f1 f3 ?_
      exact Qb ⟨(j+1,sq,oq),(by dsimp only;omega),(zB (oj n_1 (oj n_6 (oj q1 (oj q2 q3))))),zZ,(by dsimp only;omega),hoq,(by dsimp only;omega),hq⟩
   ·have hF0:=YV hlq hb
    subst hF0
    refine Qb ⟨(i+1,sq,oq),?_⟩
    and_intros
    all_goals first|rfl|exact Lr _|exact Ls _ _|exact True.intro|exact hoq|exact hgo _ rfl rfl|(dsimp only;omega)
  ·as_aux_lemma=>
   have hi0:=hb
   have hF0:=YV hlp hi0
   subst hF0
   have hT:U6 m k sp0=(tpC m k,sp):=hP0 rfl
   obtain⟨hf1,hf2⟩:=hfN _ _ hT
   have hTk:tpC m k=if k=0 then 0 else if Oy (m.pages.getD (k-1) pg0).gates (m.pages.getD (k-1) pg0).top<0∧VH m (m.pages.getD (k-1) pg0).top<0 then 5 else 0:=by
    clear hf1 hf2
    rcases k with _|q
    ·rfl
    ·rw [iN om];rfl
   by_cases hk0:k=0
   ·have d0:decide ((k:Int)-1≥0)=false:=De om
    have hlN:=hf2 (by rw [hTk,iP hk0])
    refine Xv 29 Qg kR ?_
    refine zA (oj n_1 d0) ?_
    exact Qb ⟨(k+1,sp,og),(by dsimp only;omega),(zB (oj n_1 d0)),zZ,(by dsimp only;omega),hog,(by dsimp only;omega),hlN⟩
   ·have d1:decide ((k:Int)-1≥0)=true:=Dt om
    have hkn:((k:Int)-1).toNat=k-1:=by omega
    rw [iN hk0] at hTk
    refine Xv 29 Qg kR ?_
    all_goals try(have Z:=(oj n_1 (oj d1 hkn));(repeat' first|refine zV Z ?_|refine yQ Z fT1 ?_|refine yQ Z fT2 ?_|refine zH Z ?_ ?_<;>intro hb|fail);all_goals clear Z)
    ·refine yT hC (oj n_1 (oj d1 hkn)) ?_
     have h5:tpC m k=5:=by rw [hTk];exact iP ⟨by assumption,by assumption⟩
     rw [hf1 (by rw [h5];decide),h5]
     exact .one (.c (.int _ _))
    ·have hlN:=hf2 (by rw [hTk];exact iN fun z=>hb z.2)
     exact Qb ⟨(k+1,sp,og),(by dsimp only;omega),(zB (oj n_1 (oj d1 hkn))),zZ,(by dsimp only;omega),hog,(by dsimp only;omega),hlN⟩
    ·have hlN:=hf2 (by rw [hTk];exact iN fun z=>hb z.1)
     exact Qb ⟨(k+1,sp,og),(by dsimp only;omega),(zB (oj n_1 (oj d1 hkn))),zZ,(by dsimp only;omega),hog,(by dsimp only;omega),hlN⟩
 ·as_aux_lemma=>
  have hkE:k=m.pages.length+1:=by omega
  subst hkE
  rw [Nat.sub_self] at hlN
  have hN0:N=0:=hlN.symm
  subst hN0
  have f3:=Qa9 m 0 m.top (Lz _) hm.ev hm.hs hm.pg (Lt (hgl 0) Af) (Lt ho.tp Af)
  rw [show((0:Nat):Int)-1= -1 from rfl] at f3
  rw [XW rfl]
  repeat' first|refine zV n_1 ?_|refine yQ n_1 f3 ?_|refine zH n_1 ?_ ?_<;>intro hb|fail
  all_goals try (exfalso;omega)
  ·refine yT hC n_1 ?_
   rw [show Yq m 0 m.top=false from by simpa using hb]
   exact .one (.c (.int _ _))
  ·refine yT hC n_1 ?_
   rw [show Yq m 0 m.top=true from by simpa using hb]
   exact .one (.c (.int _ _))
theorem Qfz (m:Qv) (ho:Jb m):Fa prog 21 [.agg (Xa true m)] (.c (.int .i64 (UA m))):=by
 have hm:=ho.ok
 have hgl:∀k,(Qt m k).length≤1048576:=fun k=>(ho.gts k).1
 have hpg6:m.pages.length≤1048576:=ho.pg.1
 have f1:=QlM m ho
 have hE:UA m=Vn (O5 m) (Vn (Qpe m) (Vn (Qc6 m) (Vn (Y3 m) (Vn (Vz m) (if QaF m then 14 else 0))))):=by
  rw [QlD]
  unfold O5 Qc6
  simp only [Qc1]
 rw [hE]
 refine fA func21 fun C hC=>?_
 refine zA o0 ?_
 refine xB fun g1 n_1=>?_
 repeat' first|refine zV n_1 ?_|refine yQ n_1 f1 ?_|refine zH n_1 ?_ ?_<;>intro hb|fail
 ·have h1:O5 m≠0:=by simpa using hb
  rw [VV h1]
  refine yT hC n_1 ?_
  exact .one (.c (.int _ _))
 have h1:O5 m=0:=by simpa using hb
 rw [XW h1]
 clear f1
 generalize hG:Qpe m=G
 refine Qh (fun k:Nat=>[(1,.c (.optr g1 0)),(4,.c (.int .i64 ((k:Int)-1)))]) (fun _=>[(g1,.cells 29 8 (ofL (Xa true m)))]) (fun k=>k≤m.pages.length+1∧(K1 (fun k (_:Unit)=>(Wy m k,())) (m.pages.length+1-k) k ()).1=G) (fun k=>m.pages.length+1-k) 0 (zB n_1) zZ ⟨Lz _,hG⟩ ?_
 rintro k ⟨hk,hlp⟩
 by_cases hkP:k≤m.pages.length
 ·have f0:=KI m k hkP hm.pg
  have hg6:=hgl k
  rw [show m.pages.length+1-k=(m.pages.length+1-(k+1))+1 from by omega] at hlp
  repeat' first|refine zV n_1 ?_|refine yQ n_1 f0 ?_|refine zH n_1 ?_ ?_<;>intro hb|fail
  all_goals try (exfalso;omega)
  have hlc:Wy m k=X2 (gtC m k) (Qt m k) 0:=rfl
  generalize hF:X2 (gtC m k) (Qt m k) 0=F at hlc
  refine Qh (fun i:Nat=>[(1,.c (.optr g1 0)),(4,.c (.int .i64 ((k:Int)-1))),(24,.c (.int .i64 (Qt m k).length)),(25,.c (.int .i64 i))]) (fun _=>[(g1,.cells 29 8 (ofL (Xa true m)))]) (fun i=>i≤(Qt m k).length∧X2 (gtC m k) ((Qt m k).drop i) i=F) (fun i=>(Qt m k).length-i) 0 (zB n_1) zZ ⟨Lz _,hF⟩ ?_
  rintro i ⟨hi,hlq⟩
  by_cases hil:i<(Qt m k).length
  ·have di:decide (i<(Qt m k).length)=true:=Dt hil
   have f2:=QlN m k i hkP hil ho
   have hq:=fun c=>ZG (d:=gt0) (c:=c) hlq hil
   have hgo:=VI (d:=gt0) hlq hil
   generalize gtC m k i ((Qt m k).getD i gt0)=c at*
   all_goals try(have Z:=(oj n_1 di);(repeat' first|refine zV Z ?_|refine yQ Z f2 ?_|refine zH Z ?_ ?_<;>intro hb|fail);all_goals clear Z)
   ·have hc:c≠0:=by simpa using hb
    have hF2:Wy m k≠0:=by rw [hlc,hq c rfl hc];exact hc
    rw [QdY (f:=fun k (_:Unit)=>(Wy m k,())) hF2] at hlp
    have hG2:G=c:=by rw [←hlp];show Wy m k=c;rw [hlc,hq c rfl hc]
    rw [hG2,VV hc]
    refine yT hC (oj n_1 di) ?_
    exact .one (.c (.int _ _))
   ·refine Qb ⟨i+1,?_⟩
    and_intros
    all_goals first|rfl|exact Lr _|exact True.intro|exact hgo (by simpa using hb)|omega
  ·have di:decide (i<(Qt m k).length)=false:=De hil
   have hF0:=YU hlq hil
   rw [QhS (f:=fun k (_:Unit)=>(Wy m k,())) (hlc.trans hF0)] at hlp
   refine zA (oj n_1 di) ?_
   refine Qb ⟨k+1,?_⟩
   and_intros
   all_goals first|rfl|exact Lr _|exact True.intro|exact hlp|exact Wh om|omega
 have hk1:k=m.pages.length+1:=by omega
 subst hk1
 rw [Nat.sub_self] at hlp
 have hG0:G=0:=hlp.symm
 subst hG0
 rw [XW rfl]
 have h3:Uw m=0:=by
  unfold O5 at h1
  obtain⟨_,h1⟩:=Z9.1 h1
  exact(Z9.1 h1).2
 have hp8:m.pages.length≤8:=by
  unfold Uw at h3
  split at h3
  ·cases h3
  ·omega
 have hIi:∀k,k≤m.pages.length→∀i,((Qt m k).getD i gt0).inputs.length≤16:=fun k hk i=>Xw (P:=fun x:Xe=>x.inputs.length≤16) (QrM hG hk) (Lz _) i
 have f3:=Qkf m ho hp8 hIi
 have f4:=Qke m ho
 have f5:=Qkd m ho
 have hC0:Qc6 m=0→Y3 m=0→Vz m=0→Vr m=0:=fun a b c=>by
  have e:=QlD m
  unfold UA at e
  have:Vn (Vr m) 1=Vn (if QB m.name then 0 else 5) (Vn (Uv m) (Vn (Uw m) (Vn (Qpe m) (Vn (QrJ m) (Vn (if Yq m 0 m.top then 0 else 5) (Vn (Y3 m) (Vn (Vz m) 1))))))):=by
   unfold Vr
   simp only [Qc1]
  unfold O5 at h1
  obtain⟨a1,h1⟩:=Z9.1 h1
  obtain⟨a2,a3⟩:=Z9.1 h1
  unfold Qc6 at a
  obtain⟨a4,a5⟩:=Z9.1 a
  rw [XW a1,XW a2,XW a3,XW hG,XW a4,XW a5,XW b,XW c] at this
  by_cases z:Vr m=0
  ·exact z
  ·unfold Vr
   rw [XW a1,XW a2,XW a3,XW hG,XW a4,XW a5,XW b,c]
 repeat' first|refine zV n_1 ?_|refine zH n_1 ?_ ?_<;>intro hb|fail
 all_goals try (exfalso;omega)
 have hT:([Qc6 m,Y3 m,Vz m].drop 0).foldr Vn (if QaF m then 14 else 0)=Vn (Qc6 m) (Vn (Y3 m) (Vn (Vz m) (if QaF m then 14 else 0))):=rfl
 generalize hTT:Vn (Qc6 m) (Vn (Y3 m) (Vn (Vz m) (if QaF m then 14 else 0)))=T at*
 refine Yf ([(g1,.cells 29 8 (ofL (Xa true m)))]) [(0,0),(1,0),(2,0),(3,0),(4,0),(5,0),(8,0),(6,1),(7,0)] Qg kR eI ?_
 refine yG n_1 ?_
 refine Yg rfl f3 rfl rfl rfl (fun _ _=>(zL n_1)) ?_
 refine Xp n_1 ?_
 refine Yg rfl f4 rfl rfl rfl (fun _ _=>(zL n_1)) ?_
 refine Xp n_1 ?_
 refine Yg rfl f5 rfl rfl rfl (fun _ _=>(zL n_1)) ?_
 refine Xp n_1 ?_
 refine Qs (xs:=[.tmp 37,.tmp 39,.tmp 41]) (cells:=[.int .i64 (Qc6 m),.int .i64 (Y3 m),.int .i64 (Vz m)]) rfl rfl rfl rfl (zE n_1) (by refine yS n_1 ?_;rfl) rfl om om (by intro x hx;simp only [Lb,Lj,or_false] at hx;rcases hx with rfl|rfl|rfl<;>exact⟨rfl,rfl,rfl⟩) rfl Ag eI (fun ga n_a=> ?_) (hm:=.inr ⟨rfl,rfl⟩)
 replace n_a:=Qa.ne_of n_a
 simp only [Qa.ne] at n_a
 have J1:=oj n_1 n_a
 refine Xp J1 ?_
 refine QU (f':=isF [Qc6 m,Y3 m,Vz m]) (fun j hj=>by
  match j,hj with
  |0,_=>rfl
  |1,_=>rfl
  |2,_=>rfl) ?_
 generalize hLL:[Qc6 m,Y3 m,Vz m]=LL at*
 have hL3:LL.length=3:=by rw [←hLL];rfl
 refine Qh (fun j:Nat=>[(1,.c (.optr g1 0)),(42,.c (.osl ga 1 0 3)),(43,.c (.int .i64 3)),(44,.c (.int .i64 j))]) (fun _=>[(ga,.cells 3 3 (isF LL)),(g1,.cells 29 8 (ofL (Xa true m)))]) (fun j=>j≤3∧(LL.drop j).foldr Vn (if QaF m then 14 else 0)=T∧∀i,i<j→LL.getD i 0=0) (fun j=>3-j) 0 (zB J1) zZ ⟨Lz _,hT,fun i hi=>absurd hi (Nat.not_lt_zero i)⟩ ?_
 rintro j ⟨hj,hl,hz⟩
 by_cases hj3:j<3
 ·have dj:decide (j<3)=true:=Dt hj3
  all_goals try(have Z:=(oj n_1 (oj n_a dj));(repeat' first|refine zV Z ?_|refine zH Z ?_ ?_<;>intro hb|fail);all_goals clear Z)
  ·refine yT hC (oj n_1 (oj n_a dj)) ?_
   exact .one (.c (Qo (QuZ hl om hb).symm))
  ·have h0:LL.getD j 0=0:=hb
   refine Qb ⟨j+1,?_⟩
   and_intros
   all_goals first|rfl|exact Lr _|exact True.intro|exact Qw7 hl om h0|omega|skip
   intro i hi
   rcases Nat.lt_succ_iff_lt_or_eq.1 hi with e|rfl
   ·exact hz i e
   ·exact h0
 ·have dj:decide (j<3)=false:=De hj3
  obtain rfl:j=3:=by omega
  have hTz:(if QaF m then 14 else 0:Int)=T:=by
   rw [←hl,List.drop_of_length_le om];rfl
  have z0:Qc6 m=0:=by have:=hz 0 om;rw [←hLL] at this;exact this
  have z1:Y3 m=0:=by have:=hz 1 om;rw [←hLL] at this;exact this
  have z2:Vz m=0:=by have:=hz 2 om;rw [←hLL] at this;exact this
  have f6:=QlL m ho (WH (hC0 z0 z1 z2))
  all_goals try(have Z:=(oj n_1 (oj n_a dj));(repeat' first|refine zV Z ?_|refine yQ Z f6 ?_|refine zH Z ?_ ?_<;>intro hb|fail);all_goals clear Z)
  ·rw [iP (by simpa using hb)] at hTz
   refine yT hC (oj n_1 (oj n_a dj)) ?_
   exact .one (.c (Qo hTz))
  ·rw [iN (by simpa using hb)] at hTz
   refine yT hC (oj n_1 (oj n_a dj)) ?_
   exact .one (.c (Qo hTz))
end Go.Proofs.YtngjgahldnnapaaGreatDoor
namespace Go.AI
theorem QpB {E:Vl} {K:List It} {σ:Sl} {h:Qa} {x y:Code} (k:aw E (.code y::K) σ h):aw E (.code (.cond (.const (.bool false)) x y)::K) σ h:=fun a w s=>wp_cond_split (t:=false) rfl (fun e=>by cases e) (fun _=>k a w s)
section
def Un:List Oper→Nat→Nat→List Oper
 |[],_,_=>[]
 |o::l,0,i=>{o with after:=o.after.push {on:=i,ground:=.data}}::l
 |o::l,j+1,i=>o::Un l j i
theorem O6:∀(l:List Oper) (j i:Nat),(Un l j i).length=l.length
 |[],_,_=>rfl
 |o::l,0,i=>rfl
 |o::l,j+1,i=>by simp [Un,O6 l j i]
theorem Qb3:∀(l:List Oper) (j i k:Nat),k≠j→(Un l j i)[k]?=l[k]?
 |[],_,_,_,_=>rfl
 |o::l,0,i,0,h=>absurd rfl h
 |o::l,0,i,k+1,_=>by simp [Un]
 |o::l,j+1,i,0,_=>by simp [Un]
 |o::l,j+1,i,k+1,h=>by simp [Un,Qb3 l j i k (fun e=>h om)]
theorem Qb4:∀(l:List Oper) (j i:Nat),(Un l j i)[j]?=(l[j]?).map fun o=>{o with after:=o.after.push {on:=i,ground:=.data}}
 |[],_,_=>rfl
 |o::l,0,i=>by simp [Un]
 |o::l,j+1,i=>by simp [Un,Qb4 l j i]
section
variable {P : Program} {Q : Exit → Act → World → Prop} {l : List Oper} {i0 j0 : Nat}
theorem QhX {ops:Array Oper} {listed:Array Bool} {i:Nat}:i∈Region.ready .any ops listed↔i<ops.size∧listed.getD i true=false∧∃o,ops[i]?=some o∧∀e∈o.after,Region.binds .any e=true→listed.getD e.on false=true:=by
 unfold Region.ready
 rw [List.mem_filter,List.mem_range]
 constructor
 ·rintro ⟨h1,h2⟩
  rw [Ba,Bool.not_eq_true'] at h2
  obtain⟨h2,h3⟩:=h2
  refine⟨h1,h2,ops[i],by simp [h1],fun e he hb=> ?_⟩
  rw [show ops[i]?=some ops[i] from by simp [h1]] at h3
  simp only [Option.map_some,Option.getD_some,Array.all_eq_true'] at h3
  have:=h3 e he
  rw [hb] at this
  simpa using this
 ·rintro ⟨h1,h2,o,ho,h3⟩
  refine⟨h1,?_⟩
  rw [h2,ho]
  simp only [Bool.not_false,Bool.true_and,Option.map_some,Option.getD_some,Array.all_eq_true']
  intro e he
  cases hb:Region.binds .any e with
  |false=>rfl
  |true=>rw [h3 e he hb];rfl
theorem QfA {listed:Array Bool} {i:Nat} (h:i∈Region.ready .any (Un l j0 i0).toArray listed):i∈Region.ready .any l.toArray listed:=by
 rw [QhX] at h⊢
 obtain⟨h1,h2,o,ho,h3⟩:=h
 simp only [List.size_toArray,O6,List.getElem?_toArray] at h1 ho⊢
 refine⟨h1,h2,?_⟩
 by_cases e:i=j0
 ·subst e
  rw [Qb4] at ho
  obtain⟨o',ho',rfl⟩:=Option.map_eq_some_iff.1 ho
  exact⟨o',ho',fun e he hb=>h3 e (by simp [he]) hb⟩
 ·rw [Qb3 _ _ _ _ e] at ho
  exact⟨o,ho,h3⟩
theorem Uo {listed:Array Bool} {i:Nat} (h:i∈Region.ready .any l.toArray listed) (hi:i≠j0∨listed.getD i0 false=true):i∈Region.ready .any (Un l j0 i0).toArray listed:=by
 rw [QhX] at h⊢
 obtain⟨h1,h2,o,ho,h3⟩:=h
 simp only [List.size_toArray,O6,List.getElem?_toArray] at h1 ho⊢
 refine⟨h1,h2,?_⟩
 by_cases e:i=j0
 ·subst e
  have hl:=hi.resolve_left (fun h=>h rfl)
  rw [Qb4,ho]
  refine⟨_,rfl,fun e he hb=> ?_⟩
  simp only [Array.mem_push] at he
  rcases he with he|rfl
  ·exact h3 e he hb
  ·exact hl
 ·rw [Qb3 _ _ _ _ e]
  exact⟨o,ho,h3⟩
def Ord (ops:Array Oper):Nat→Array Bool→List Nat→Prop
 |0,_,π=>π=[]
 |_+1,listed,[]=>Region.ready .any ops listed=[]
 |n+1,listed,i::π=>i∈Region.ready .any ops listed∧Ord ops n (listed.setIfInBounds i true) π
theorem Qu0 {ops:Array Oper}:∀(n:Nat) (listed:Array Bool) (π:List Nat) (a:Act) (w:World),wpAny P .any ops Q n listed a w→Ord ops n listed π→wpOps P ops Q π a w:=by
 intro n
 induction n with
 |zero=>intro listed π a w h ho;obtain rfl:π=[]:=ho;simpa [wpOps] using h.2
 |succ n ih=>
  intro listed π a w h ho
  cases π with
  |nil=>simpa [wpOps] using h.1 ho
  |cons i π=>
   rw [wpOps_cons]
   exact wpOp_mono (fun a w k=>ih _ π a w k ho.2) (h.2 i ho.1)
theorem Qw8 {ops:Array Oper}:∀(fuel t:Nat) (listed:Array Bool),Ord ops fuel listed (Region.linearise.go .any ops fuel t listed []):=by
 intro fuel
 induction fuel with
 |zero=>intro t listed;rfl
 |succ fuel ih=>
  intro t listed
  simp only [Region.linearise.go]
  change Ord ops (fuel+1) listed (match (Region.ready .any ops listed)[t%(Region.ready .any ops listed).length]? with
   |some i=>Region.linearise.go .any ops fuel (t/(Region.ready .any ops listed).length) (listed.setIfInBounds i true) [i]
   |none=>[].reverse)
  cases hi:(Region.ready .any ops listed)[t%(Region.ready .any ops listed).length]? with
  |none=>
   show Region.ready .any ops listed=[]
   cases hr:Region.ready .any ops listed with
   |nil=>rfl
   |cons x xs=>
    rw [hr] at hi
    have hlt:t%(x::xs).length<(x::xs).length:=Nat.mod_lt _ (by simp)
    simp at hi
    simp at hlt
    omega
  |some i=>
   simp only []
   rw [linearise_go_acc,List.reverse_singleton,List.singleton_append]
   exact⟨List.mem_of_getElem? hi,ih _ _⟩
theorem Qu1 {listed:Array Bool} {i k:Nat} (h:listed.getD k false=true):(listed.setIfInBounds i true).getD k false=true:=by
 rw [Array.getD_eq_getD_getElem?] at h⊢
 rw [Array.getElem?_setIfInBounds]
 split
 ·split
  ·rfl
  ·rename_i h1 h2
   subst h1
   rw [Array.getElem?_eq_none om] at h
   cases h
 ·exact h
theorem Qkg {listed:Array Bool} {i:Nat} (h:listed.getD i true=false):(listed.setIfInBounds i true).getD i false=true:=by
 rw [Array.getD_eq_getD_getElem?] at h⊢
 by_cases hi:i<listed.size
 ·rw [Array.getElem?_setIfInBounds_self_of_lt hi];rfl
 ·rw [Array.getElem?_eq_none om] at h;cases h
theorem Qkh:∀(n:Nat) (listed:Array Bool) (π:List Nat),listed.getD i0 false=true→Ord l.toArray n listed π→Ord (Un l j0 i0).toArray n listed π:=by
 intro n
 induction n with
 |zero=>intro listed π _ h;exact h
 |succ n ih=>
  intro listed π hl h
  cases π with
  |nil=>
   show Region.ready .any (Un l j0 i0).toArray listed=[]
   have h':Region.ready .any l.toArray listed=[]:=h
   refine List.eq_nil_iff_forall_not_mem.2 fun i hi=> ?_
   have:=QfA hi
   rw [h'] at this
   cases this
  |cons i π=>exact⟨Uo h.1 (.inr hl),ih _ π (Qu1 hl) h.2⟩
theorem Qu2 (hne:i0≠j0):∀(n:Nat) (listed:Array Bool) (π:List Nat),Ord l.toArray n listed π→Ord (Un l j0 i0).toArray n listed π∨Ord (Un l i0 j0).toArray n listed π:=by
 intro n
 induction n with
 |zero=>intro listed π h;exact .inl h
 |succ n ih=>
  intro listed π h
  cases π with
  |nil=>
   refine .inl ?_
   show Region.ready .any (Un l j0 i0).toArray listed=[]
   have h':Region.ready .any l.toArray listed=[]:=h
   refine List.eq_nil_iff_forall_not_mem.2 fun i hi=> ?_
   have:=QfA hi
   rw [h'] at this
   cases this
  |cons i π=>
   obtain⟨h1,h2⟩:=h
   have hnl:=(QhX.1 h1).2.1
   by_cases e1:i=i0
   ·subst e1
    exact .inl ⟨Uo h1 (.inl hne),Qkh n _ π (Qkg hnl) h2⟩
   ·by_cases e2:i=j0
    ·subst e2
     exact .inr ⟨Uo h1 (.inl e1),Qkh n _ π (Qkg hnl) h2⟩
    ·rcases ih _ π h2 with h|h
     ·exact .inl ⟨Uo h1 (.inl e2),h⟩
     ·exact .inr ⟨Uo h1 (.inl e1),h⟩
theorem QpC {k:Nat} {K:Act→World→Prop} {a:Act} {w:World}:wpOp P (Un l j0 i0).toArray Q k K a w=wpOp P l.toArray Q k K a w:=by
 have hy:yielded (Un l j0 i0).toArray a.tmps=yielded l.toArray a.tmps:=by
  funext j
  have:((Un l j0 i0).toArray[j]?).bind (·.dst)=(l.toArray[j]?).bind (·.dst):=by
   simp only [List.getElem?_toArray]
   by_cases e:j=j0
   ·subst e;rw [Qb4];cases l[j]?<;>rfl
   ·rw [Qb3 _ _ _ _ e]
  unfold yielded
  rw [this]
 unfold wpOp
 rw [hy]
 simp only [List.getElem?_toArray]
 by_cases e:k=j0
 ·subst e
  rw [Qb4]
  cases l[k]?<;>rfl
 ·rw [Qb3 _ _ _ _ e]
theorem QfB:∀(π:List Nat) (a:Act) (w:World),wpOps P (Un l j0 i0).toArray Q π a w→wpOps P l.toArray Q π a w:=by
 intro π
 induction π with
 |nil=>intro a w h;exact h
 |cons k π ih=>
  intro a w h
  rw [wpOps_cons] at h⊢
  rw [QpC] at h
  exact wpOp_mono (fun a w k=>ih a w k) h
end
section
variable {E : Vl} {K : List It} {l : List Oper} {σ : Sl} {h : Qa}
def Qki (E:Vl) (K:List It) (l:List Oper) (σ:Sl) (h:Qa):Prop:=
 ∀(a:Act) (w:World),St E.N E.C σ h a w→∀π,Ord l.toArray l.length (Array.replicate l.length false) π→wpOps E.P l.toArray (exW E K) π a {w with drawn:=w.drawn+1}
theorem Qnt (i0 j0:Nat) (hne:i0≠j0) (k1:Qki E K (Un l j0 i0) σ h) (k2:Qki E K (Un l i0 j0) σ h):Qki E K l σ h:=fun a w s π ho=>by
 rcases Qu2 hne _ _ _ ho with h|h
 ·exact QfB π _ _ (k1 a w s π (by rw [O6];exact h))
 ·exact QfB π _ _ (k2 a w s π (by rw [O6];exact h))
theorem Qr5 {id:Nat} (hm:E.P.follows .mixedOrders=true) (k:Qki E K l σ h):aw E (.code (.region id l.toArray true)::K) σ h:=fun a w s=>by
 refine wp_region_draw fun t=> ?_
 simp only [Region.schedule,hm,Bool.true_or,if_true]
 have:=k a w s _ (Qw8 l.toArray.size t (Array.replicate l.toArray.size false))
 exact this
theorem Qu3 {l:List Oper}:∀(cs:List (Nat×Nat)) (seen pn fr:List Nat),QaE l seen pn fr cs=true→∀i o,i∈cs.map (·.1)→l[i]?=some o→∀e∈o.after,Region.binds .any e=true→e.on∈seen∨(e.on∈cs.map (·.1)∧(cs.map (·.1)).idxOf e.on<(cs.map (·.1)).idxOf i):=by
 intro cs
 induction cs with
 |nil=>intro seen pn fr _ i o hi;cases hi
 |cons c cs ih=>
  intro seen pn fr hg i o hi ho e he hb
  obtain⟨c,b⟩:=c
  have hnew:=OS hg
  simp only [QaE,Ba] at hg
  obtain⟨h1,h2⟩:=hg
  by_cases hic:i=c
  ·subst hic
   split at h1
   ·cases h1
   ·rename_i o' ho'
    rw [ho] at ho'
    injection ho' with ho'
    subst ho'
    simp only [Ba] at h1
    exact .inl (Qes h1.1.1.2 he hb)
  ·have hi':i∈cs.map (·.1):=by
    simp only [Ld,Lb] at hi
    exact hi.resolve_left hic
   rcases ih _ _ _ h2 i o hi' ho e he hb with h|⟨h3,h4⟩
   ·rcases Lb.1 h with h|h
    ·refine .inr ⟨by rw [h];simp,?_⟩
     rw [h]
     have b1:(c==i)=false:=beq_eq_false_iff_ne.2 fun h=>hic h.symm
     simp only [Ld,List.idxOf_cons,b1,cond_false,beq_self_eq_true,cond_true]
     omega
    ·exact .inl h
   ·refine .inr ⟨by simp only [Ld,Lb];exact .inr h3,?_⟩
    by_cases hec:e.on=c
    ·exact absurd (Lf ..) (OS h2 _ (hec▸h3))
    ·have b1:(c==i)=false:=beq_eq_false_iff_ne.2 fun h=>hic h.symm
     have b2:(c==e.on)=false:=beq_eq_false_iff_ne.2 fun h=>hec h.symm
     simp only [Ld,List.idxOf_cons,b1,b2,cond_false]
     omega
theorem Qu4 {l:List Oper}:∀{cs:List (Nat×Nat)} {seen pn fr:List Nat},QaE l seen pn fr cs=true→∀i∈cs.map (·.1),i<l.length:=by
 intro cs
 induction cs with
 |nil=>intro seen pn fr _ i hi;cases hi
 |cons c cs ih=>
  intro seen pn fr hg i hi
  obtain⟨c,b⟩:=c
  simp only [QaE,Ba] at hg
  obtain⟨h1,h2⟩:=hg
  simp only [Ld,Lb] at hi
  rcases hi with rfl|hi
  ·split at h1
   ·cases h1
   ·rename_i o ho
    exact(List.getElem?_eq_some_iff.1 ho).1
  ·exact ih h2 i hi
theorem QhY (FP:Qa) (cs:List (Nat×Nat)) (hok:(Qhl l&&QaE l [] [] [] cs&&((List.range l.length).all fun i=>(cs.map (·.1)).contains i))=true) (hFP:Kp FP h) (k:CW E l K FP cs σ h):Qki E K l σ h:=fun a w s π ho=>by
 simp only [Ba] at hok
 obtain⟨⟨hlx,hgo⟩,hall⟩:=hok
 have hrk:QkW l:=⟨fun i=>(cs.map (·.1)).idxOf i,fun i o ho e he hb=>by
  have hi:=(List.getElem?_eq_some_iff.1 ho).1
  have hm:∀q,q<l.length→q∈cs.map (·.1):=fun q hq=>by simpa using List.all_eq_true.1 hall q (List.mem_range.2 hq)
  rcases Qu3 cs [] [] [] hgo i o (hm i hi) ho e he hb with h|⟨h3,h4⟩
  ·cases h
  ·exact⟨Qu4 hgo _ h3,h4⟩⟩
 have s':=s.later (Fr.drew (fun _=>False) w (w.drawn+1))
 have e0:∀j,(Array.replicate l.length false).getD j false=false:=fun j=>by
  rw [Array.getD_eq_getD_getElem?]
  simp only [Array.getElem?_replicate]
  split<;>rfl
 have hun:∀m,unl (fun j=>(Array.replicate l.length false).getD j false) m=m:=by
  intro m
  induction m with
  |zero=>rfl
  |succ m ih=>rw [unl,ih,e0];rfl
 refine Qu0 _ _ _ _ _ ?_ ho
 have:=Qmv (E:=E) (K:=K) (σ0:=σ) hlx hrk l.length FP (Array.replicate l.length false) σ h a {w with drawn:=w.drawn+1} (hun _) ⟨[],[],[],cs,σ,fun _=>.c .any,by simp,fun i o _ hl=>(by rw [e0] at hl;cases hl),hgo,fun i hi=>absurd hi Lj,fun i hi=>.inr ?_,k,hFP,fun j hj=>absurd hj Lj,⟨fun j _ _ hj=>absurd hj Lj,fun _ _=>rfl⟩,fun i hi=>absurd hi Lj,fun p hp=>absurd hp Lj,⟨fun j _ _ hj=>(by rw [e0] at hj;cases hj),fun _ _=>rfl⟩,fun i _ hl=>(by rw [e0] at hl;cases hl)⟩ s'
 ·simpa using this
 ·have:=List.all_eq_true.1 hall i (List.mem_range.2 hi)
  simpa using this
end
end
end Go.AI
namespace Go.Proofs.YtngjgahldnnapaaGreatDoor
open Go.AI Go.PN Proofs.Tryz
attribute [local irreducible] aw Fa ZN ZZ Fh YE
theorem QlO:Fa prog 165 [.c (.int .u64 0)] (.c (.int .i64 0)):=by
 refine fA func165 fun C hC=>?_
 refine xG ?_
 refine xN ?_
 refine xG ?_
 refine xN ?_
 refine xG ?_
 refine xN ?_
 refine xG ?_
 have w0:XE .u8 (0:Int)=((0:Nat):Int):=by rw [QN];rfl
 refine yS w0 ?_
 refine Qex (i:=0) rfl rfl rfl Qey rfl (zE w0) (by decide+kernel) om ?_
 refine Qdy hC w0 ?_
 exact .one (.c (Qo rfl))
theorem Up:Fa prog 105 [.c (.int .u64 0)] (.c (.int .i64 0)):=by
 refine fA func105 fun C hC=>?_
 refine xG ?_
 refine QpB ?_
 refine xG ?_
 refine xC (QlO) ?_
 refine xGT hC ?_
 exact .one (.c (Qo rfl))
theorem QpD (cf:Value):Fh prog 213 [] [.c .nils,.c (.int .i64 0),.c (.int .i64 0),.c (.raw cf)] (fun x h=>x=.tup []∧h=[]):=by
 refine fH func213 fun C hC=>?_
 refine xG ?_
 refine Qh (fun _:Unit=>[(8,.c (.int .i64 1)),(2,.c (.int .i64 0))]) (fun _=>[]) (fun _=>(0:Nat)=0) (fun _=>0) () eB zZ rfl ?_
 rintro _ _
 refine Qet ?_
 exact⟨rfl,rfl⟩
theorem QpE (cf:Value):Fh prog 138 [] [.c .nils,.c (.int .i64 0),.c (.int .i64 0),.c (.int .i64 0),.c (.raw cf)] (fun x h=>x=.tup []∧h=[]):=by
 refine fH func138 fun C hC=>?_
 refine xG ?_
 refine Qh (fun _:Unit=>[(0,.c .nils),(1,.c (.int .i64 0)),(2,.c (.int .i64 0)),(4,.c (.raw cf))]) (fun _=>[]) (fun _=>(0:Nat)=0) (fun _=>0) () eB zZ rfl ?_
 rintro _ _
 refine Qhm ?_
 refine Ql (hc:=[]) (hr:=[]) (QpD cf) rfl rfl rfl (.refl _) eL ?_
 rintro _ _ ⟨rfl,rfl⟩ _
 refine Qdx ?_
 exact⟨rfl,rfl⟩
theorem QlP (cf:Value):Fh prog 71 [] [.c .nils,.c (.raw cf)] (fun x h=>x=.tup []∧h=[]):=by
 have w0:XE .u64 (0:Int)=0:=by rw [QN];rfl
 refine fH func71 fun C hC=>?_
 refine yG w0 ?_
 refine yC w0 (Up) ?_
 refine yG w0 ?_
 refine Ql (hc:=[]) (hr:=[]) (QpE cf) rfl rfl rfl (.refl _) (zL w0) ?_
 rintro _ _ ⟨rfl,rfl⟩ _
 refine QiK w0 ?_
 exact⟨rfl,rfl⟩
theorem QpF (cf:Value):Fh prog 222 [] [.c .nils,.c (.int .i64 0),.c (.int .i64 0),.c (.raw cf)] (fun x h=>x=.tup []∧h=[]):=by
 refine fH func222 fun C hC=>?_
 refine xG ?_
 refine Qh (fun _:Unit=>[(8,.c (.int .i64 1)),(2,.c (.int .i64 0))]) (fun _=>[]) (fun _=>(0:Nat)=0) (fun _=>0) () eB zZ rfl ?_
 rintro _ _
 refine Qet ?_
 exact⟨rfl,rfl⟩
theorem QpG (cf:Value):Fh prog 141 [] [.c .nils,.c (.int .i64 0),.c (.int .i64 0),.c (.int .i64 0),.c (.raw cf)] (fun x h=>x=.tup []∧h=[]):=by
 refine fH func141 fun C hC=>?_
 refine xG ?_
 refine Qh (fun _:Unit=>[(0,.c .nils),(1,.c (.int .i64 0)),(2,.c (.int .i64 0)),(4,.c (.raw cf))]) (fun _=>[]) (fun _=>(0:Nat)=0) (fun _=>0) () eB zZ rfl ?_
 rintro _ _
 refine Qhm ?_
 refine Ql (hc:=[]) (hr:=[]) (QpF cf) rfl rfl rfl (.refl _) eL ?_
 rintro _ _ ⟨rfl,rfl⟩ _
 refine Qdx ?_
 exact⟨rfl,rfl⟩
theorem QlQ (cf:Value):Fh prog 75 [] [.c .nils,.c (.raw cf)] (fun x h=>x=.tup []∧h=[]):=by
 have w0:XE .u64 (0:Int)=0:=by rw [QN];rfl
 refine fH func75 fun C hC=>?_
 refine yG w0 ?_
 refine yC w0 (Up) ?_
 refine yG w0 ?_
 refine Ql (hc:=[]) (hr:=[]) (QpG cf) rfl rfl rfl (.refl _) (zL w0) ?_
 rintro _ _ ⟨rfl,rfl⟩ _
 refine QiK w0 ?_
 exact⟨rfl,rfl⟩
theorem QpH (cf:Value):Fh prog 230 [] [.c .nils,.c (.int .i64 0),.c (.int .i64 0),.c (.raw cf)] (fun x h=>x=.tup []∧h=[]):=by
 refine fH func230 fun C hC=>?_
 refine xG ?_
 refine Qh (fun _:Unit=>[(8,.c (.int .i64 1)),(2,.c (.int .i64 0))]) (fun _=>[]) (fun _=>(0:Nat)=0) (fun _=>0) () eB zZ rfl ?_
 rintro _ _
 refine Qet ?_
 exact⟨rfl,rfl⟩
theorem QpI (cf:Value):Fh prog 142 [] [.c .nils,.c (.int .i64 0),.c (.int .i64 0),.c (.int .i64 0),.c (.raw cf)] (fun x h=>x=.tup []∧h=[]):=by
 refine fH func142 fun C hC=>?_
 refine xG ?_
 refine Qh (fun _:Unit=>[(0,.c .nils),(1,.c (.int .i64 0)),(2,.c (.int .i64 0)),(4,.c (.raw cf))]) (fun _=>[]) (fun _=>(0:Nat)=0) (fun _=>0) () eB zZ rfl ?_
 rintro _ _
 refine Qhm ?_
 refine Ql (hc:=[]) (hr:=[]) (QpH cf) rfl rfl rfl (.refl _) eL ?_
 rintro _ _ ⟨rfl,rfl⟩ _
 refine Qdx ?_
 exact⟨rfl,rfl⟩
theorem QlR (cf:Value):Fh prog 77 [] [.c .nils,.c (.raw cf)] (fun x h=>x=.tup []∧h=[]):=by
 have w0:XE .u64 (0:Int)=0:=by rw [QN];rfl
 refine fH func77 fun C hC=>?_
 refine yG w0 ?_
 refine yC w0 (Up) ?_
 refine yG w0 ?_
 refine Ql (hc:=[]) (hr:=[]) (QpI cf) rfl rfl rfl (.refl _) (zL w0) ?_
 rintro _ _ ⟨rfl,rfl⟩ _
 refine QiK w0 ?_
 exact⟨rfl,rfl⟩
theorem QpJ (cf:Value):Fh prog 247 [] [.c .nils,.c (.int .i64 0),.c (.int .i64 0),.c (.raw cf)] (fun x h=>x=.tup []∧h=[]):=by
 refine fH func247 fun C hC=>?_
 refine xG ?_
 refine Qh (fun _:Unit=>[(8,.c (.int .i64 1)),(2,.c (.int .i64 0))]) (fun _=>[]) (fun _=>(0:Nat)=0) (fun _=>0) () eB zZ rfl ?_
 rintro _ _
 refine Qet ?_
 exact⟨rfl,rfl⟩
theorem QpK (cf:Value):Fh prog 144 [] [.c .nils,.c (.int .i64 0),.c (.int .i64 0),.c (.int .i64 0),.c (.raw cf)] (fun x h=>x=.tup []∧h=[]):=by
 refine fH func144 fun C hC=>?_
 refine xG ?_
 refine Qh (fun _:Unit=>[(0,.c .nils),(1,.c (.int .i64 0)),(2,.c (.int .i64 0)),(4,.c (.raw cf))]) (fun _=>[]) (fun _=>(0:Nat)=0) (fun _=>0) () eB zZ rfl ?_
 rintro _ _
 refine Qhm ?_
 refine Ql (hc:=[]) (hr:=[]) (QpJ cf) rfl rfl rfl (.refl _) eL ?_
 rintro _ _ ⟨rfl,rfl⟩ _
 refine Qdx ?_
 exact⟨rfl,rfl⟩
theorem QlS (cf:Value):Fh prog 81 [] [.c .nils,.c (.raw cf)] (fun x h=>x=.tup []∧h=[]):=by
 have w0:XE .u64 (0:Int)=0:=by rw [QN];rfl
 refine fH func81 fun C hC=>?_
 refine yG w0 ?_
 refine yC w0 (Up) ?_
 refine yG w0 ?_
 refine Ql (hc:=[]) (hr:=[]) (QpK cf) rfl rfl rfl (.refl _) (zL w0) ?_
 rintro _ _ ⟨rfl,rfl⟩ _
 refine QiK w0 ?_
 exact⟨rfl,rfl⟩
theorem QpL (cf:Value):Fh prog 255 [] [.c .nils,.c (.int .i64 0),.c (.int .i64 0),.c (.raw cf)] (fun x h=>x=.tup []∧h=[]):=by
 refine fH func255 fun C hC=>?_
 refine xG ?_
 refine Qh (fun _:Unit=>[(8,.c (.int .i64 1)),(2,.c (.int .i64 0))]) (fun _=>[]) (fun _=>(0:Nat)=0) (fun _=>0) () eB zZ rfl ?_
 rintro _ _
 refine Qet ?_
 exact⟨rfl,rfl⟩
theorem QpM (cf:Value):Fh prog 145 [] [.c .nils,.c (.int .i64 0),.c (.int .i64 0),.c (.int .i64 0),.c (.raw cf)] (fun x h=>x=.tup []∧h=[]):=by
 refine fH func145 fun C hC=>?_
 refine xG ?_
 refine Qh (fun _:Unit=>[(0,.c .nils),(1,.c (.int .i64 0)),(2,.c (.int .i64 0)),(4,.c (.raw cf))]) (fun _=>[]) (fun _=>(0:Nat)=0) (fun _=>0) () eB zZ rfl ?_
 rintro _ _
 refine Qhm ?_
 refine Ql (hc:=[]) (hr:=[]) (QpL cf) rfl rfl rfl (.refl _) eL ?_
 rintro _ _ ⟨rfl,rfl⟩ _
 refine Qdx ?_
 exact⟨rfl,rfl⟩
theorem QlT (cf:Value):Fh prog 83 [] [.c .nils,.c (.raw cf)] (fun x h=>x=.tup []∧h=[]):=by
 have w0:XE .u64 (0:Int)=0:=by rw [QN];rfl
 refine fH func83 fun C hC=>?_
 refine yG w0 ?_
 refine yC w0 (Up) ?_
 refine yG w0 ?_
 refine Ql (hc:=[]) (hr:=[]) (QpM cf) rfl rfl rfl (.refl _) (zL w0) ?_
 rintro _ _ ⟨rfl,rfl⟩ _
 refine QiK w0 ?_
 exact⟨rfl,rfl⟩
theorem QpN (cf:Value):Fh prog 313 [] [.c .nils,.c (.int .i64 0),.c (.int .i64 0),.c (.raw cf)] (fun x h=>x=.tup []∧h=[]):=by
 refine fH func313 fun C hC=>?_
 refine xG ?_
 refine Qh (fun _:Unit=>[(8,.c (.int .i64 1)),(2,.c (.int .i64 0))]) (fun _=>[]) (fun _=>(0:Nat)=0) (fun _=>0) () eB zZ rfl ?_
 rintro _ _
 refine Qet ?_
 exact⟨rfl,rfl⟩
theorem QpO (cf:Value):Fh prog 212 [] [.c .nils,.c (.int .i64 0),.c (.int .i64 0),.c (.int .i64 0),.c (.raw cf)] (fun x h=>x=.tup []∧h=[]):=by
 refine fH func212 fun C hC=>?_
 refine xG ?_
 refine Qh (fun _:Unit=>[(0,.c .nils),(1,.c (.int .i64 0)),(2,.c (.int .i64 0)),(4,.c (.raw cf))]) (fun _=>[]) (fun _=>(0:Nat)=0) (fun _=>0) () eB zZ rfl ?_
 rintro _ _
 refine Qhm ?_
 refine Ql (hc:=[]) (hr:=[]) (QpN cf) rfl rfl rfl (.refl _) eL ?_
 rintro _ _ ⟨rfl,rfl⟩ _
 refine Qdx ?_
 exact⟨rfl,rfl⟩
theorem QlU (cf:Value):Fh prog 136 [] [.c .nils,.c (.raw cf)] (fun x h=>x=.tup []∧h=[]):=by
 have w0:XE .u64 (0:Int)=0:=by rw [QN];rfl
 refine fH func136 fun C hC=>?_
 refine yG w0 ?_
 refine yC w0 (Up) ?_
 refine yG w0 ?_
 refine Ql (hc:=[]) (hr:=[]) (QpO cf) rfl rfl rfl (.refl _) (zL w0) ?_
 rintro _ _ ⟨rfl,rfl⟩ _
 refine QiK w0 ?_
 exact⟨rfl,rfl⟩
theorem QpP:Fh prog 238 [] [.c .nils,.c (.int .i64 0),.c (.int .i64 0)] (fun x h=>x=.tup []∧h=[]):=by
 refine fH func238 fun C hC=>?_
 refine xG ?_
 refine Qh (fun _:Unit=>[(6,.c (.int .i64 1)),(2,.c (.int .i64 0))]) (fun _=>[]) (fun _=>(0:Nat)=0) (fun _=>0) () eB zZ rfl ?_
 rintro _ _
 refine Qet ?_
 exact⟨rfl,rfl⟩
theorem QpQ:Fh prog 143 [] [.c .nils,.c (.int .i64 0),.c (.int .i64 0),.c (.int .i64 0)] (fun x h=>x=.tup []∧h=[]):=by
 refine fH func143 fun C hC=>?_
 refine xG ?_
 refine Qh (fun _:Unit=>[(0,.c .nils),(1,.c (.int .i64 0)),(2,.c (.int .i64 0))]) (fun _=>[]) (fun _=>(0:Nat)=0) (fun _=>0) () eB zZ rfl ?_
 rintro _ _
 refine Qhm ?_
 refine Ql (hc:=[]) (hr:=[]) (QpP) rfl rfl rfl (.refl _) eL ?_
 rintro _ _ ⟨rfl,rfl⟩ _
 refine Qdx ?_
 exact⟨rfl,rfl⟩
theorem QlV:Fh prog 80 [] [.c .nils] (fun x h=>x=.tup []∧h=[]):=by
 have w0:XE .u64 (0:Int)=0:=by rw [QN];rfl
 refine fH func80 fun C hC=>?_
 refine yG w0 ?_
 refine yC w0 (Up) ?_
 refine yG w0 ?_
 refine Ql (hc:=[]) (hr:=[]) (QpQ) rfl rfl rfl (.refl _) (zL w0) ?_
 rintro _ _ ⟨rfl,rfl⟩ _
 refine QiK w0 ?_
 exact⟨rfl,rfl⟩
theorem Qr6 (og:Option Nat) (xs:List Vx) (hog:og=none→xs.length=0) (hn:(xs.map Vx.name).Nodup) (hl:xs.length≤1099511627776):
  Fh prog 71 (gh og 115 (xs.length*2) (ZT xs)) [.c (gs og 2 xs.length),.c (.raw (.func (.func 72) #[] #[]))] (fun x h=>x=.tup []∧h=gh og 115 (xs.length*2) (ZT (Qk Vx.name xs))):=by
 cases og with
 |none=>
  have h0:xs=[]:=Lh.1 (hog rfl)
  subst h0
  exact QlP _
 |some g=>
  refine(WI Quz (k:=2) Af (fun w=>isAgg115 w) (fun w=>sizeOf115 w) (fs:=71) rfl ⟨_,func71,rfl,rfl⟩ Qyx 115 hsc hs0 Vx.name (fun x=>⟨_,rfl,rfl,rfl⟩) xs om g).mono ?_
  rintro _ _ ⟨rfl,ys,h1,h2,rfl⟩
  rw [JN h1 h2 hn]
  exact⟨rfl,rfl⟩
theorem Qr7 (og:Option Nat) (xs:List X3) (hog:og=none→xs.length=0) (hn:(xs.map X3.name).Nodup) (hl:xs.length≤1099511627776):
  Fh prog 75 (gh og 89 (xs.length*11) (ZS xs)) [.c (gs og 11 xs.length),.c (.raw (.func (.func 76) #[] #[]))] (fun x h=>x=.tup []∧h=gh og 89 (xs.length*11) (ZS (Qk X3.name xs))):=by
 cases og with
 |none=>
  have h0:xs=[]:=Lh.1 (hog rfl)
  subst h0
  exact QlQ _
 |some g=>
  refine(WI QuB (k:=11) Af (fun w=>isAgg89 w) (fun w=>sizeOf89 w) (fs:=75) rfl ⟨_,func75,rfl,rfl⟩ Qyy 89 evc ev0 X3.name (fun x=>⟨_,rfl,rfl,rfl⟩) xs om g).mono ?_
  rintro _ _ ⟨rfl,ys,h1,h2,rfl⟩
  rw [JN h1 h2 hn]
  exact⟨rfl,rfl⟩
theorem Qr8 (og:Option Nat) (xs:List Yz) (hog:og=none→xs.length=0) (hn:(xs.map Yz.name).Nodup) (hl:xs.length≤1099511627776):
  Fh prog 77 (gh og 91 (xs.length*3) (Kq xs)) [.c (gs og 3 xs.length),.c (.raw (.func (.func 78) #[] #[]))] (fun x h=>x=.tup []∧h=gh og 91 (xs.length*3) (Kq (Qk Yz.name xs))):=by
 cases og with
 |none=>
  have h0:xs=[]:=Lh.1 (hog rfl)
  subst h0
  exact QlR _
 |some g=>
  refine(WI QuC (k:=3) Af (fun w=>isAgg91 w) (fun w=>sizeOf91 w) (fs:=77) rfl ⟨_,func77,rfl,rfl⟩ Qyz 91 pgc pg0 Yz.name (fun x=>⟨_,rfl,rfl,rfl⟩) xs om g).mono ?_
  rintro _ _ ⟨rfl,ys,h1,h2,rfl⟩
  rw [JN h1 h2 hn]
  exact⟨rfl,rfl⟩
theorem Qr9 (og:Option Nat) (xs:List YB) (hog:og=none→xs.length=0) (hn:(xs.map YB.name).Nodup) (hl:xs.length≤1099511627776):
  Fh prog 81 (gh og 94 (xs.length*4) (VR xs)) [.c (gs og 4 xs.length),.c (.raw (.func (.func 82) #[] #[]))] (fun x h=>x=.tup []∧h=gh og 94 (xs.length*4) (VR (Qk YB.name xs))):=by
 cases og with
 |none=>
  have h0:xs=[]:=Lh.1 (hog rfl)
  subst h0
  exact QlS _
 |some g=>
  refine(WI QuD (k:=4) Af (fun w=>isAgg94 w) (fun w=>sizeOf94 w) (fs:=81) rfl ⟨_,func81,rfl,rfl⟩ QyA 94 Wx gr0 YB.name (fun x=>⟨_,rfl,rfl,rfl⟩) xs om g).mono ?_
  rintro _ _ ⟨rfl,ys,h1,h2,rfl⟩
  rw [JN h1 h2 hn]
  exact⟨rfl,rfl⟩
theorem Qsa (og:Option Nat) (xs:List Zp) (hog:og=none→xs.length=0) (hn:(xs.map Zp.event).Nodup) (hl:xs.length≤1099511627776):
  Fh prog 83 (gh og 99 (xs.length*4) (V6 xs)) [.c (gs og 4 xs.length),.c (.raw (.func (.func 84) #[] #[]))] (fun x h=>x=.tup []∧h=gh og 99 (xs.length*4) (V6 (Qk Zp.event xs))):=by
 cases og with
 |none=>
  have h0:xs=[]:=Lh.1 (hog rfl)
  subst h0
  exact QlT _
 |some g=>
  refine(WI QuE (k:=4) Af (fun w=>isAgg99 w) (fun w=>sizeOf99 w) (fs:=83) rfl ⟨_,func83,rfl,rfl⟩ QyB 99 vlc vl0 Zp.event (fun x=>⟨_,rfl,rfl,rfl⟩) xs om g).mono ?_
  rintro _ _ ⟨rfl,ys,h1,h2,rfl⟩
  rw [JN h1 h2 hn]
  exact⟨rfl,rfl⟩
theorem Qsb (og:Option Nat) (xs:List Xe) (hog:og=none→xs.length=0) (hn:(xs.map Xe.name).Nodup) (hl:xs.length≤1099511627776):
  Fh prog 136 (gh og 79 (xs.length*7) (X7 xs)) [.c (gs og 7 xs.length),.c (.raw (.func (.func 137) #[] #[]))] (fun x h=>x=.tup []∧h=gh og 79 (xs.length*7) (X7 (Qk Xe.name xs))):=by
 cases og with
 |none=>
  have h0:xs=[]:=Lh.1 (hog rfl)
  subst h0
  exact QlU _
 |some g=>
  refine(WI QuA (k:=7) Af (fun w=>isAgg79 w) (fun w=>sizeOf79 w) (fs:=136) rfl ⟨_,func136,rfl,rfl⟩ QyC 79 Zy gt0 Xe.name (fun x=>⟨_,rfl,rfl,rfl⟩) xs om g).mono ?_
  rintro _ _ ⟨rfl,ys,h1,h2,rfl⟩
  rw [JN h1 h2 hn]
  exact⟨rfl,rfl⟩
theorem Qkj (og:Option Nat) (xs:List BS) (hog:og=none→xs.length=0) (hl:xs.length≤1099511627776):
  Fh prog 80 (gh og 9 (xs.length*1) (Qe xs)) [.c (gs og 1 xs.length)] (fun x h=>x=.tup []∧h=gh og 9 (xs.length*1) (Qe (Qk id xs))):=by
 cases og with
 |none=>
  have h0:xs=[]:=Lh.1 (hog rfl)
  subst h0
  exact QlV
 |some g=>
  have:=Qfo Qni (fs:=80) rfl ⟨_,func80,rfl,rfl⟩ 9 [] xs om g
  simp only [Lu,Nz,Ln] at this
  rw [Ad]
  exact this
theorem QpR (g:Nat) (x:BS) (xs:List BS) (hl:xs.length≤1099511627776):
  Fh prog 80 [(g,.cells 9 (1+xs.length) (Qe (x::xs)))] [.c (.osl g 1 1 xs.length)] (fun r h=>r=.tup []∧h=[(g,.cells 9 (1+xs.length) (Qe (x::Qk id xs)))]):=
 Qfo Qni (fs:=80) rfl ⟨_,func80,rfl,rfl⟩ 9 [x] xs om g
theorem QgO (xs:List Nat) (hl:xs.length≤1099511627776):Fa prog 140 [.c (ws false xs)] (.c (ws true xs)):=by
 refine fA func140 fun C hC=>?_
 refine xG ?_
 refine QeG (e:=193) rfl rfl rfl kR eE om fun b hb=> ?_
 refine Z1 ?_
 refine xF (fun h1=>?_) fun h1=>?_
 ·have h0:xs=[]:=Lh.1 (hb h1)
  subst h0
  refine xGT hC ?_
  exact .one (.c .nils)
 ·refine xG ?_
  refine Qn (xs:=[]) (cells:=[]) rfl rfl rfl eE (by refine xS ?_;rfl) rfl om om (by simp) rfl fun g hg=> ?_
  refine QU (f':=wf []) (fun j hj=>absurd hj om) ?_
  refine Z1 ?_
  rcases Nat.eq_zero_or_pos xs.length with h0|h0
  ·have hp:xs=[]:=Lh.1 h0
   subst hp
   refine VM rfl rfl rfl eE eE rfl eE .row rfl ?_
   refine Z1 ?_
   refine QhB (t:=2) (wf []) eE eE om (hC g) (fun j _=>by rw [Nz]) rfl eE ?_
   refine xS ?_
   refine xT hC ?_
   exact .one (.c (.row fun j _=>.int _ _))
  ·refine YC (size:=1) (z:=[.int .u32 0]) rfl rfl rfl Xy Xt rfl om eE eE om eE .row (fun _ _=>rfl) h0 qc om eE fun g' hg'=> ?_
   refine Z1 ?_
   refine QhB (t:=2) (wf xs) eE eE om (hC g') (fun j hj=>by rw [Nz];simp [Xq,wf]) rfl eE ?_
   refine xS ?_
   refine xT hC ?_
   exact .one (.c (.row fun j _=>.int _ _))
theorem Qc7 (xs:List BS) (hl:xs.length≤1048576):Fh prog 79 [] [.c (X0 false xs)] (fun r h=>∃og,(og=none→xs.length=0)∧r=.c (gs og 1 xs.length)∧h=gh og 9 (xs.length*1) (Qe xs)):=by
 refine fH func79 fun C hC=>?_
 refine xG ?_
 refine QeG (e:=9) rfl rfl rfl kR eE om fun b hb=> ?_
 refine Z1 ?_
 refine xF (fun h1=>?_) fun h1=>?_
 ·have h0:=hb h1
  refine xG ?_
  refine xU ?_
  exact⟨none,fun _=>h0,by rw [h0];rfl,rfl⟩
 ·refine xG ?_
  refine Qn (xs:=[]) (cells:=[]) rfl rfl rfl eE (by refine xS ?_;rfl) rfl om om (by simp) rfl fun g hg=> ?_
  refine QU (f':=Qe []) (fun j hj=>absurd hj om) ?_
  refine Z1 ?_
  rcases Nat.eq_zero_or_pos xs.length with h0|h0
  ·have hp:xs=[]:=Lh.1 h0
   subst hp
   refine VM rfl rfl rfl eE eE rfl eE .row rfl ?_
   refine Qdx ?_
   exact⟨some g,fun _=>trivial,rfl,rfl⟩
  ·refine YC (size:=1) (z:=[.str ⟨#[]⟩]) rfl rfl rfl (by exact XL) (by exact Zb) rfl om eE eE om eE .row (fun j hj=>Yb xs j) h0 qc om eE fun g' hg'=> ?_
   refine Qdx ?_
   have hf:Xq (Qe []) 0 (Qe xs)=Qe xs:=by funext j;simp [Xq]
   rw [hf]
   exact⟨some g',(fun e=>by cases e),rfl,rfl⟩
theorem QgP (xs:List Vx) (hl:xs.length≤1048576):Fh prog 69 [] [.c (hss false xs)] (fun r h=>∃og,(og=none→xs.length=0)∧r=.c (gs og 2 xs.length)∧h=gh og 115 (xs.length*2) (ZT xs)):=by
 refine fH func69 fun C hC=>?_
 refine xG ?_
 refine QeG (e:=115) rfl rfl rfl kR eE om fun b hb=> ?_
 refine Z1 ?_
 refine xF (fun h1=>?_) fun h1=>?_
 ·have h0:=hb h1
  refine xG ?_
  refine xU ?_
  exact⟨none,fun _=>h0,by rw [h0];rfl,rfl⟩
 ·refine xG ?_
  refine Qn (xs:=[]) (cells:=[]) rfl rfl rfl eE (by refine xS ?_;rfl) rfl om om (by simp) rfl fun g hg=> ?_
  refine QU (f':=ZT []) (fun j hj=>absurd hj om) ?_
  refine Z1 ?_
  rcases Nat.eq_zero_or_pos xs.length with h0|h0
  ·have hp:xs=[]:=Lh.1 h0
   subst hp
   refine VM rfl rfl rfl eE eE rfl eE .row rfl ?_
   refine Qdx ?_
   exact⟨some g,fun _=>trivial,rfl,rfl⟩
  ·refine YC (size:=2) (z:=[.str ⟨#[]⟩,.bool false]) rfl rfl rfl (by exact QqH) (by exact Qou) rfl om eE eE om eE .row (fun j hj=>Qld xs j) h0 qc om eE fun g' hg'=> ?_
   refine Qdx ?_
   have hf:Xq (ZT []) 0 (ZT xs)=ZT xs:=by funext j;simp [Xq]
   rw [hf]
   exact⟨some g',(fun e=>by cases e),rfl,rfl⟩
theorem JO (r:RD) (hw:r.wf 1000):Fa prog 74 [.agg (Y1 r)] (.agg (Y1 r)):=by
 have l1:=hw.2.2.1
 have l2:=hw.2.2.2
 have f1:=QgO r.num om
 have f2:=QgO r.den om
 refine fA func74 fun C hC=>?_
 refine xG ?_
 refine xB fun g1 n_1=>?_
 refine yA n_1 fun g2 n_2=>?_
 refine zA (oj n_1 n_2) ?_
 refine Xv 9 Qg kR ?_
 refine zA2 (oj n_1 n_2) f1 f2 ?_
 refine yT hC (oj n_1 n_2) ?_
 exact .one (.agg UJ)
end Go.Proofs.YtngjgahldnnapaaGreatDoor
namespace Go.Proofs.YtngjgahldnnapaaGreatDoor
open Go.AI Go.PN Proofs.Tryz
abbrev QdF (x:Xe) (v:CV):List CV:=[.str (sB x.name),.int .i64 x.kind,.int .i64 x.k,v,.bool x.dorm.neg,ws true x.dorm.num,ws true x.dorm.den]
attribute [local irreducible] aw Fa ZN ZZ Fh YE
theorem QgQ (L:List Xe) (hO:∀g∈L,GtN g) (hl:L.length≤1048576) (hn:(gnN L).Nodup):Fa prog 70 [.c (gts true L)] (.c (gts true (UP L))):=by
 have l1:L.length≤1099511627776:=by omega
 refine fA func70 fun C hC=>?_
 refine zA o0 ?_
 refine Qh (fun z:Nat×Option Nat=>[(3,.c (gs z.2 7 z.1)),(6,.c (gts true L)),(7,.c (.int .i64 L.length)),(8,.c (.int .i64 z.1))]) (fun z=>gh z.2 79 (z.1*7) (X7 ((L.map normG).take z.1))) (fun z=>z.1≤L.length∧(z.2=none→z.1=0)) (fun z=>L.length-z.1) (0,none) eB zZ ⟨Lz _,fun _=>rfl⟩ ?_
 rintro ⟨j,og⟩ ⟨hj,hog⟩
 dsimp only at hj hog⊢
 by_cases hjn:j<L.length
 ·have d1:decide (j<L.length)=true:=Dt hjn
  have hx:=hO (L.getD j gt0) (by rw [Lg,Li hjn];exact Le _)
  have hT:=JC normG L gt0 hjn
  have hTl:=UQ normG L (Ll hjn)
  generalize hv:L.getD j gt0=x at*
  obtain⟨hd,hi1,hi2,hi3⟩:=hx
  have fc:=JO x.dorm hd
  refine zA (oj d1 hv) ?_
  refine yA (oj d1 hv) fun g5 n_5=>?_
  refine zA (oj d1 (oj hv n_5)) ?_
  refine Ql (hc:=[]) (hr:=(g5,.cells 79 7 (ofL (Zy x)))::gh og 79 (j*7) (X7 ((L.map normG).take j))) (Qc7 x.inputs om) rfl rfl rfl (.refl _) (zL (oj d1 (oj hv n_5))) ?_
  rintro _ _ ⟨og2,hog2,rfl,rfl⟩ hk
  cases og2 with
  |none=>exact absurd (hog2 rfl) om
  |some g2=>
   have hne0:g2≠g5:=fun e=>hk g2 (by simp [Qa.keys,gh]) (by simp [Qa.keys,e])
   have hne:(g2=g5)=False:=eq_false hne0
   have hne':(g5=g2)=False:=eq_false hne0.symm
   refine(?_:aw _ _ _ ((g2,.cells 9 (x.inputs.length*1) (Qe x.inputs))::(g5,.cells 79 7 (ofL (Zy x)))::gh og 79 (j*7) (X7 ((L.map normG).take j))))
   by_cases hfree:K6 x.kind
   ·have hN:=Qfy hfree
    rw [hN] at hT
    clear hN
    obtain⟨nm,kd,kk,inp,dm⟩:=x
    dsimp only at*
    have hln:(Qk id inp).length=inp.length:=(Q6 id inp).length_eq
    have hcall:=Qkj (some g2) inp (fun e=>by cases e) om
    simp only [Ad] at hcall
    rcases hfree with e|e|e|e
    all_goals
     have b0:(kd==0)=_:=congrArg (·==0) e
     have b1:(kd==1)=_:=congrArg (·==1) e
     have b2:(kd==2)=_:=congrArg (·==2) e
     have b4:(kd==4)=_:=congrArg (·==4) e
     refine Zo (oj d1 (oj hv (oj n_5 (oj hne (oj hne' (oj b0 (oj b1 (oj b2 b4)))))))) fc ?_
     refine Ql (hc:=gh (some g2) 9 inp.length (Qe inp)) (hr:=(g5,.cells 79 7 (ofL (QdF ⟨nm,kd,kk,inp,dm⟩ (gs (some g2) 1 inp.length))))::gh og 79 (j*7) (X7 ((L.map normG).take j))) hcall rfl rfl rfl (.refl _) (zL (oj d1 (oj hv (oj n_5 (oj hne (oj hne' (oj b0 (oj b1 (oj b2 b4))))))))) ?_
     rintro _ _ ⟨rfl,rfl⟩ _
     refine Qi (h':=(g5,.cells 79 7 (ofL (QdF ⟨nm,kd,kk,inp,dm⟩ (gs (some g2) 1 inp.length))))::(gh (some g2) 9 (inp.length*1) (Qe (Qk id inp))++gh og 79 (j*7) (X7 ((L.map normG).take j)))) (by rw [Ad];exact List.Perm.swap _ _ _) ?_
     refine Xi (j0:=3) (m:=7) (f:=ofL (QdF ⟨nm,kd,kk,inp,dm⟩ (gs (some g2) 1 inp.length))) (f':=ofL (Zy ⟨nm,kd,kk,Qk id inp,dm⟩)) (fp:=Qe (Qk id inp)) rfl (by show CV.row true 1 _ _=CV.row true 1 _ _;rw [hln]) (fun i hi h3=>by match i,hi,h3 with|0,_,_=>rfl|1,_,_=>rfl|2,_,_=>rfl|3,_,h=>exact absurd rfl h|4,_,_=>rfl|5,_,_=>rfl|6,_,_=>rfl) (fun e=>by cases e) (fun g _=>hC g) ?_
     have J1:=oj d1 (oj hv (oj n_5 (oj hne (oj hne' (oj b0 (oj b1 (oj b2 b4)))))))
     refine yS J1 ?_
     refine zA J1 ?_
     refine QX (pre:=[(g5,.cells 79 7 (ofL (Zy ⟨nm,kd,kk,Qk id inp,dm⟩)))]) rfl rfl rfl rfl rfl rfl rfl (zE J1) (zE J1) (by rfl) om om (zE J1) om (by exact hog) (zE J1) (by rfl) (by rfl) qb qc om (by exact K0 hTl ⟨nm,kd,kk,Qk id inp,dm⟩) fun gq n_q=> ?_
     replace n_q:=Qa.ne_of n_q
     first|dsimp only [Qa.ne,gh] at n_q|dsimp only [Qa.ne] at n_q|skip
     have J2:=oj d1 (oj hv (oj n_5 (oj hne (oj hne' (oj b0 (oj b1 (oj b2 (oj b4 n_q))))))))
     refine yS J2 ?_
     refine zA J2 ?_
     rw [←hT]
     refine QM (h':=gh (some gq) 79 ((j+1)*7) (X7 ((L.map normG).take (j+1)))) (Sl.le_refl _) (.cons _ (Lr _)) ?_
     exact Qb ⟨(j+1,some gq),by dsimp only;omega,(zB J2),zZ,by dsimp only;omega,fun e=>by cases e⟩
   ·by_cases h8:x.kind=8
    ·obtain⟨nm,kd,kk,inp,dm⟩:=x
     dsimp only at*
     subst h8
     cases inp with
     |nil=>exact absurd hi1 (by simp)
     |cons a inp=>
      have hN:=Qns (x:=⟨nm,8,kk,a::inp,dm⟩) rfl rfl
      dsimp only at hN
      have hi4:1≤inp.length:=by have:=hi3 rfl;simpa using this
      have hi5:inp.length≤15:=by simpa using hi2
      have hln:(a::Qk id inp).length=(a::inp).length:=by simp [(Q6 id inp).length_eq]
      have hcall:=QpR g2 a inp om
      rw [hN] at hT
      clear hN
      refine Zo (oj d1 (oj hv (oj n_5 (oj hne hne')))) fc ?_
      refine QT (QA.sliceO (g:=g2) (size:=1) (off:=0) (n:=(a::inp).length) (l:=1) (hi:=(a::inp).length) (by exact XL) (zE (oj d1 (oj hv (oj n_5 (oj hne hne'))))) rfl rfl (by simp) (Ac _) (.inr (by rw [Lc];omega))) rfl rfl ?_
      have J3:=oj d1 (oj hv (oj n_5 (oj hne hne')))
      refine yS J3 ?_
      rw [show inp.length+1-1=inp.length from rfl,Nat.add_comm inp.length 1]
      refine Ql (hc:=[(g2,.cells 9 (1+inp.length) (Qe (a::inp)))]) (hr:=(g5,.cells 79 7 (ofL (QdF ⟨nm,8,kk,(a::inp),dm⟩ (gs (some g2) 1 (1+inp.length)))))::gh og 79 (j*7) (X7 ((L.map normG).take j))) hcall rfl rfl rfl (.refl _) (zL J3) ?_
      rintro _ _ ⟨rfl,rfl⟩ _
      rw [Nat.add_comm 1 inp.length]
      refine Qi (h':=(g5,.cells 79 7 (ofL (QdF ⟨nm,8,kk,(a::inp),dm⟩ (gs (some g2) 1 (a::inp).length))))::(gh (some g2) 9 ((a::inp).length*1) (Qe (a::Qk id inp))++gh og 79 (j*7) (X7 ((L.map normG).take j)))) (by rw [Ad];exact List.Perm.swap _ _ _) ?_
      refine Xi (j0:=3) (m:=7) (f:=ofL (QdF ⟨nm,8,kk,(a::inp),dm⟩ (gs (some g2) 1 (a::inp).length))) (f':=ofL (Zy ⟨nm,8,kk,a::Qk id inp,dm⟩)) (fp:=Qe (a::Qk id inp)) rfl (by show CV.row true 1 _ _=CV.row true 1 _ _;rw [hln]) (fun i hi h3=>by match i,hi,h3 with|0,_,_=>rfl|1,_,_=>rfl|2,_,_=>rfl|3,_,h=>exact absurd rfl h|4,_,_=>rfl|5,_,_=>rfl|6,_,_=>rfl) (fun e=>by cases e) (fun g _=>hC g) ?_
      refine yS J3 ?_
      refine zA J3 ?_
      refine QX (pre:=[(g5,.cells 79 7 (ofL (Zy ⟨nm,8,kk,a::Qk id inp,dm⟩)))]) rfl rfl rfl rfl rfl rfl rfl (zE J3) (zE J3) (by rfl) om om (zE J3) om (by exact hog) (zE J3) (by rfl) (by rfl) qb qc om (by exact K0 hTl ⟨nm,8,kk,a::Qk id inp,dm⟩) fun gq n_q=> ?_
      replace n_q:=Qa.ne_of n_q
      first|dsimp only [Qa.ne,gh] at n_q|dsimp only [Qa.ne] at n_q|skip
      have J4:=oj d1 (oj hv (oj n_5 (oj hne (oj hne' n_q))))
      refine yS J4 ?_
      refine zA J4 ?_
      rw [←hT]
      refine QM (h':=gh (some gq) 79 ((j+1)*7) (X7 ((L.map normG).take (j+1)))) (Sl.le_refl _) (.cons _ (Lr _)) ?_
      exact Qb ⟨(j+1,some gq),by dsimp only;omega,(zB J4),zZ,by dsimp only;omega,fun e=>by cases e⟩
    ·have hN:=Qkc hfree h8
     rw [hN] at hT
     clear hN
     obtain⟨nm,kd,kk,inp,dm⟩:=x
     dsimp only at*
     have hln:inp.length=inp.length:=rfl
     have b0:(kd==0)=false:=by unfold K6 at hfree;simp only [beq_eq_false_iff_ne];omega
     have b1:(kd==1)=false:=by unfold K6 at hfree;simp only [beq_eq_false_iff_ne];omega
     have b2:(kd==2)=false:=by unfold K6 at hfree;simp only [beq_eq_false_iff_ne];omega
     have b4:(kd==4)=false:=by unfold K6 at hfree;simp only [beq_eq_false_iff_ne];omega
     have b8:(kd==8)=false:=by simp only [beq_eq_false_iff_ne];omega
     refine zA (oj d1 (oj hv (oj n_5 (oj hne (oj hne' (oj b0 (oj b1 (oj b2 (oj b4 b8))))))))) ?_
     refine Qi (h':=(g5,.cells 79 7 (ofL (QdF ⟨nm,kd,kk,inp,dm⟩ (gs (some g2) 1 inp.length))))::(gh (some g2) 9 (inp.length*1) (Qe inp)++gh og 79 (j*7) (X7 ((L.map normG).take j)))) (by rw [Ad];exact List.Perm.swap _ _ _) ?_
     refine Xi (j0:=3) (m:=7) (f:=ofL (QdF ⟨nm,kd,kk,inp,dm⟩ (gs (some g2) 1 inp.length))) (f':=ofL (Zy ⟨nm,kd,kk,inp,dm⟩)) (fp:=Qe inp) rfl rfl (fun i hi h3=>by match i,hi,h3 with|0,_,_=>rfl|1,_,_=>rfl|2,_,_=>rfl|3,_,h=>exact absurd rfl h|4,_,_=>rfl|5,_,_=>rfl|6,_,_=>rfl) (fun e=>by cases e) (fun g _=>hC g) ?_
     have J5:=oj d1 (oj hv (oj n_5 (oj hne (oj hne' (oj b0 (oj b1 (oj b2 (oj b4 b8))))))))
     refine yS J5 ?_
     refine Zo J5 fc ?_
     refine QX (pre:=[(g5,.cells 79 7 (ofL (Zy ⟨nm,kd,kk,inp,dm⟩)))]) rfl rfl rfl rfl rfl rfl rfl (zE J5) (zE J5) (by rfl) om om (zE J5) om (by exact hog) (zE J5) (by rfl) (by rfl) qb qc om (by exact K0 hTl ⟨nm,kd,kk,inp,dm⟩) fun gq n_q=> ?_
     replace n_q:=Qa.ne_of n_q
     first|dsimp only [Qa.ne,gh] at n_q|dsimp only [Qa.ne] at n_q|skip
     have J6:=oj d1 (oj hv (oj n_5 (oj hne (oj hne' (oj b0 (oj b1 (oj b2 (oj b4 (oj b8 n_q)))))))))
     refine yS J6 ?_
     refine zA J6 ?_
     rw [←hT]
     refine QM (h':=gh (some gq) 79 ((j+1)*7) (X7 ((L.map normG).take (j+1)))) (Sl.le_refl _) (.cons _ (Lr _)) ?_
     exact Qb ⟨(j+1,some gq),by dsimp only;omega,(zB J6),zZ,by dsimp only;omega,fun e=>by cases e⟩
 ·have d1:decide (j<L.length)=false:=De hjn
  obtain rfl:j=L.length:=by omega
  have hT:(L.map normG).take L.length=L.map normG:=Ly (by simp)
  have hlm:(L.map normG).length=L.length:=by simp
  have hcall:=Qsb og (L.map normG) (by rw [hlm];exact hog) (by rw [List.map_map];exact hn) (by rw [hlm];omega)
  rw [hT]
  rw [hlm] at hcall
  refine zA d1 ?_
  refine Ql (hc:=gh og 79 (L.length*7) (X7 (L.map normG))) (hr:=[]) hcall rfl rfl rfl (by rw [Lp]) (zL d1) ?_
  rintro _ _ ⟨rfl,rfl⟩ _
  refine yS d1 ?_
  refine zA d1 ?_
  have hnl:(UP L).length=L.length:=by unfold UP;rw [(Q6 _ _).length_eq,hlm]
  refine Qi (h':=gh og 79 (L.length*7) (X7 (UP L))++[]) (by rw [Lp];exact .refl _) ?_
  refine Vw (t:=2) (s:=7) (f:=X7 (UP L)) (f':=X7 (UP L)) hog hnl.symm (zE d1) (fun g _=>hC g) (fun i _=>rfl) (zE d1) ?_
  refine yS d1 ?_
  refine yT hC d1 ?_
  exact .one (.c UM)
end Go.Proofs.YtngjgahldnnapaaGreatDoor
