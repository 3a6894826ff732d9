/- Parts of one proof, laid by a program. -/
import Derived.Test.YtjegkdadeghpjaaGreatDoorW00
import Derived.Test.YtjegkdadeghpjaaGreatDoorW09
set_option linter.unusedSimpArgs false
set_option linter.unusedVariables false
set_option maxRecDepth 100000
set_option maxHeartbeats 12800000
namespace Go.PN
open Go.AI
theorem T0 {m:Qz} (ho:K5 m):∀l∈Zp m,l.length≤1048576:=fun l hl=>by
 unfold Zp at hl
 obtain⟨t,ht,rfl⟩:=List.mem_map.1 hl
 rw [Lw]
 refine Lt (List.length_filter_le _ _) ?_
 unfold VU
 rw [Lw]
 exact(ho.uT (t.2.1+1).toNat t.2.2.toNat).2.2.1
def Od (m:Qz):Int:=Z2 (if QD m.name then 0 else 5) (Z2 (Jw m) (Jx m))
theorem Iu (k:Int):((lv k).2=0↔k<0∨k>8):=by
 unfold lv
 constructor
 ·intro h
  split at h
  ·cases h
  split at h
  ·cases h
  split at h
  ·cases h
  split at h
  ·cases h
  omega
 ·intro h
  rw [iN om,iN om,iN om,iN om]
theorem Qs6 {k:Int} (h0:0≤k) (h8:k≤8) (n:Nat):(ot k n=false)↔((n:Int)<(lv k).1∨(n:Int)>(lv k).2):=by
 unfold ot lv
 by_cases e3:k=3
 ·subst e3;simp;omega
 by_cases e5:k=5
 ·subst e5;simp;omega
 by_cases e6:k=6∨k=7∨k=8
 ·rw [iN e3,iN e5,iP e6,iN om,iN e3,iN e5,iP e6]
  simp
  omega
 ·rw [iN e3,iN e5,iN e6,iP om]
  simp
  omega
theorem Qs7 (x:Xk):UI x=if(lv x.kind).2=0 then 7 else if(x.ak.length:Int)<(lv x.kind).1∨(x.ak.length:Int)>(lv x.kind).2 then 11
 else if x.kind=2∧(x.k<1∨x.k>x.ak.length) then 3 else if x.kind≠2∧x.k≠0 then 2
 else if x.kind=7∧x.aH.bI=false then 3 else if x.kind≠7∧n9 x.aH=false then 2 else 0:=by
 unfold UI
 by_cases h:x.kind<0∨x.kind>8
 ·rw [iP h,iP ((Iu _).2 h)]
 ·rw [iN h,iN (fun z=>h ((Iu _).1 z))]
  have:=Qs6 (k:=x.kind) om om x.ak.length
  by_cases h2:ot x.kind x.ak.length=false
  ·rw [iP h2,iP (this.1 h2)]
  ·rw [iN h2,iN (fun z=>h2 (this.2 z))]
theorem Cj {α:Type} {p:α→Bool} {d:α} {l:List α} {i j:Nat} (hi:i≤l.length) (hj:j<i) (hp:p (l.getD j d)=true) (hn:∀t,t<j→p (l.getD t d)=false):Xj p l<i:=by
 rw [YV d om hp hn];omega
theorem AA {α:Type} {p:α→Bool} {d:α} {l:List α} {i:Nat} (hi:i<l.length) (hp:p (l.getD i d)=true) (hn:∀t,t<i→p (l.getD t d)=false):¬Xj p l<i:=by
 rw [YV d hi hp hn];omega
theorem uj {p:Nat→Bool} {j:Nat} (h:∀t,t<j→p t=false) (hj:p j=false):∀t,t<j+1→p t=false:=fun t ht=>by
 rcases Nat.lt_succ_iff_lt_or_eq.1 ht with e|rfl
 ·exact h t e
 ·exact hj
theorem MQ {l:List BS} {y:BS} (h:∀t,t<l.length→(l.getD t []==y)=false):l.contains y=false:=by
 rw [Bool.eq_false_iff]
 intro hc
 obtain⟨i,hi,rfl⟩:=List.getElem_of_mem (List.contains_iff_mem.1 hc)
 have:=h i hi
 rw [Lg,Li hi] at this
 simp at this
theorem MR {l:List BS} {y:BS} {t:Nat} (ht:t<l.length) (h:l.getD t []=y):l.contains y=true:=by
 rw [List.contains_iff_mem,←h,Lg,Li ht]
 exact Le ht
theorem Qn6 {α:Type} {l:List α} {p:α→Bool} {d:α}:∀{j:Nat},(∀t,t<j→p (l.getD t d)=true)→l.length≤j→l.all p=true:=fun h hj=>List.all_eq_true.2 fun x hx=>by
 obtain⟨i,hi,rfl⟩:=List.getElem_of_mem hx
 have:=h i om
 rwa [Lg,Li hi] at this
theorem Qs8 {α:Type} {l:List α} {p:α→Bool} {d:α} {t:Nat} (ht:t<l.length) (h:p (l.getD t d)=false):l.all p=false:=by
 rw [Bool.eq_false_iff]
 intro ha
 have:=List.all_eq_true.1 ha (l[t]) (Le ht)
 rw [Lg,Li ht] at h
 exact absurd (this.symm.trans h) Af
theorem QqB {p:Nat→Bool} {j:Nat} (h:∀t,t<j→p t=true) (hj:p j=true):∀t,t<j+1→p t=true:=fun t ht=>by
 rcases Nat.lt_succ_iff_lt_or_eq.1 ht with e|rfl
 ·exact h t e
 ·exact hj
def lr (m:Qz):Int:=Z2 (uI m) (if Yg m 0 m.top then 0 else 5)
theorem Qs9 {l:List Int} {z T:Int} {j:Nat} (h:(l.drop j).foldr Z2 z=T) (hj:j<l.length) (h0:l.getD j 0≠0):T=l.getD j 0:=by
 rw [←h,List.drop_eq_getElem_cons hj,List.foldr_cons]
 rw [Lg,Li hj] at h0⊢
 exact Vz h0
theorem QuR {l:List Int} {z T:Int} {j:Nat} (h:(l.drop j).foldr Z2 z=T) (hj:j<l.length) (h0:l.getD j 0=0):(l.drop (j+1)).foldr Z2 z=T:=by
 rw [←h,List.drop_eq_getElem_cons hj,List.foldr_cons]
 rw [Lg,Li hj] at h0
 exact(XO h0).symm
section
variable {α β : Type}
def uH (k:Int) (l l':List BS):Prop:=if Jo k then l'.Perm l else if k=8 then l'.take 1=l.take 1∧(l'.drop 1).Perm (l.drop 1) else l'=l
structure Df (g g':Xk):Prop where
 nm:g'.name=g.name
 kd:g'.kind=g.kind
 k:g'.k=g.k
 dm:g'.aH=g.aH
 aZ:uH g.kind g.ak g'.ak
def uJ (L L':List Xk):Prop:=∃h:Xk→Xk,(∀g∈L,Df g (h g))∧L'.Perm (L.map h)
structure ReP (x x':YT):Prop where
 nm:x'.name=x.name
 tp:x'.top=x.top
 gt:uJ x.an x'.an
structure ReR (x x':YU):Prop where
 nm:x'.name=x.name
 kd:x'.kind=x.kind
 fa:x'.ar=x.ar
 me:x'.members.Perm x.members
structure ReH (x x':Ke):Prop where
 nm:x'.name=x.name
 tp:x'.top=x.top
 vl:x'.values.Perm x.values
structure N7 (m m':Qz):Prop where
 nm:m'.name=m.name
 tp:m'.top=m.top
 ev:m'.events.Perm m.events
 hs:m'.af.Perm m.af
 gt:uJ m.an m'.an
 pg:∃h:YT→YT,(∀x∈m.aa,ReP x (h x))∧m'.aa.Perm (m.aa.map h)
 gr:∃h:YU→YU,(∀x∈m.ae,ReR x (h x))∧m'.ae.Perm (m.ae.map h)
 ph:∃h:Ke→Ke,(∀x∈m.ai,ReH x (h x))∧m'.ai=m.ai.map h
theorem Qn7 {k:Int} {l l':List BS} (h:uH k l l'):l'.Perm l:=by
 unfold uH at h
 split at h
 ·exact h
 split at h
 ·rw [←List.take_append_drop 1 l',←List.take_append_drop 1 l,h.1]
  exact h.2.append_left _
 ·rw [h]
theorem Qta (k:Int) (l:List BS):uH k l (sR k l):=by
 unfold uH sR
 split
 ·exact QW id l
 split
 ·cases l with
  |nil=>exact⟨rfl,.refl _⟩
  |cons a r=>exact⟨rfl,QW id r⟩
 ·rfl
theorem Qtb (g:Xk):Df g (aV g):=⟨rfl,rfl,rfl,rfl,Qta _ _⟩
theorem MS (l:List Xk):uJ l (JQ l):=⟨aV,fun g _=>Qtb g,QW _ _⟩
theorem Qtc (m:Qz):N7 m (OO m):=
 ⟨rfl,rfl,QW _ _,QW _ _,MS _,⟨bu,fun x _=>⟨rfl,rfl,MS _⟩,QW _ _⟩,⟨bB,fun x _=>⟨rfl,rfl,rfl,QW _ _⟩,QW _ _⟩,⟨bz,fun x _=>⟨rfl,rfl,QW _ _⟩,rfl⟩⟩
theorem Qtd {L L':List Xk} (h:uJ L L'):L'.length=L.length:=by
 obtain⟨f,_,f2⟩:=h
 rw [f2.length_eq,Lw]
end
section
variable {α : Type}
theorem QuS {g g':Xk} (h:Df g g') (ho:kD g):kD g':=by
 obtain⟨o1,o2,o3,o4⟩:=ho
 have hp:=Qn7 h.aZ
 exact⟨by rw [h.nm];exact o1,by rw [h.dm];exact o2,by rw [hp.length_eq];exact o3,fun i hi=>o4 i (hp.mem_iff.1 hi)⟩
theorem Nn {L L':List Xk} (h:uJ L L') (ho:L.length≤NG∧∀g∈L,kD g):L'.length≤NG∧∀g∈L',kD g:=by
 refine⟨by rw [Qtd h];exact ho.1,fun g hg=> ?_⟩
 obtain⟨f,f1,f2⟩:=h
 obtain⟨x,hx,rfl⟩:=List.mem_map.1 (f2.mem_iff.1 hg)
 exact QuS (f1 x hx) (ho.2 x hx)
theorem QuT {m m':Qz} (h:N7 m m') (ho:K5 m):K5 m':=by
 obtain⟨hp,p1,p2⟩:=h.pg
 obtain⟨hr,r1,r2⟩:=h.gr
 obtain⟨hh,q1,q2⟩:=h.ph
 refine⟨by rw [h.nm];exact ho.nm,by rw [h.tp];exact ho.tp,⟨by rw [h.ev.length_eq];exact ho.ev.1,fun x hx=>ho.ev.2 x (h.ev.mem_iff.1 hx)⟩,⟨by rw [h.hs.length_eq];exact ho.hs.1,fun x hx=>ho.hs.2 x (h.hs.mem_iff.1 hx)⟩,Nn h.gt ho.gt,⟨by rw [p2.length_eq,Lw];exact ho.pg.1,fun x' kz=> ?_⟩,⟨by rw [r2.length_eq,Lw];exact ho.gr.1,fun x' kz=> ?_⟩,⟨by rw [q2,Lw];exact ho.ph.1,fun x' kz=> ?_⟩⟩
 ·obtain⟨x,hx,rfl⟩:=List.mem_map.1 (p2.mem_iff.1 kz)
  obtain⟨a1,a2,a3⟩:=ho.pg.2 x hx
  have e:=p1 x hx
  exact⟨by rw [e.nm];exact a1,by rw [e.tp];exact a2,Nn e.gt a3⟩
 ·obtain⟨x,hx,rfl⟩:=List.mem_map.1 (r2.mem_iff.1 kz)
  obtain⟨a1,a2,a3,a4,a5⟩:=ho.gr.2 x hx
  have e:=r1 x hx
  exact⟨by rw [e.nm];exact a1,by rw [e.me.length_eq];exact a2,fun n hn=>a3 n (e.me.mem_iff.1 hn),by rw [e.fa];exact a4,by rw [e.fa];exact a5⟩
 ·rw [q2] at kz
  obtain⟨x,hx,rfl⟩:=List.mem_map.1 kz
  obtain⟨a1,a2,a3,a4⟩:=ho.ph.2 x hx
  have e:=q1 x hx
  exact⟨by rw [e.nm];exact a1,by rw [e.tp];exact a2,by rw [e.vl.length_eq];exact a3,fun v hv=>a4 v (e.vl.mem_iff.1 hv)⟩
structure Qx0 (m:Qz):Prop where
 ev:∀i,i+1<m.events.length→Vy (m.events.getD i bn).name (m.events.getD (i+1) bn).name=true
 hs:∀i,i+1<m.af.length→Vy (m.af.getD i bw).name (m.af.getD (i+1) bw).name=true
 gr:∀i,i+1<m.ae.length→Vy (m.ae.getD i bJ).name (m.ae.getD (i+1) bJ).name=true
 pg:∀i,i+1<m.aa.length→Vy (m.aa.getD i bj).name (m.aa.getD (i+1) bj).name=true
 gt:∀k i,i+1<(Qt m k).length→Vy ((Qt m k).getD i aU).name ((Qt m k).getD (i+1) aU).name=true
 aZ:∀k,∀g∈Qt m k,g.kind=0∨g.kind=1→∀i,i+1<g.ak.length→Vy (g.ak.getD (i+1) []) (g.ak.getD i [])=false
end
theorem MT {x:Xk} (h:UI x=0):1≤x.ak.length∧(x.kind=8→2≤x.ak.length):=by
 unfold UI at h
 rw [VV Af,VV Af] at h
 obtain⟨h1,h2,_⟩:=h
 unfold ot at h2
 simp only [Bool.not_eq_false] at h2
 split at h2
 ·have:=beq_iff_eq.1 h2;omega
 ·split at h2
  ·have:=beq_iff_eq.1 h2;omega
  ·split at h2
   ·simp only [Ba,Dq] at h2;omega
   ·simp only [Ba,Dq] at h2;omega
theorem No {m:Qz} {L:List Xk} (hL:sA m L) (ho:∀g∈L,kD g):∀g∈L,tS g:=fun g hg=>by
 have h:=(hL.2 g hg).2.2.2.1
 exact⟨(ho g hg).2.1,(MT h).1,(NA h).aZ,(MT h).2⟩
theorem Np {m:Qz} (ho:K5 m) (hg:Good m):Aq m:=by
 obtain⟨g1,g2⟩:=QuM hg
 refine⟨fun x hx=>(ho.ev.2 x hx).2,No hg.gt ho.gt.2,g1,fun p hp=>⟨g2 p hp,No (hg.pg p hp).2.1 (ho.pg.2 p hp).2.2.2⟩,fun x hx=> ?_,fun x hx=>⟨Qwc hg hx,fun v hv=>((ho.ph.2 x hx).2.2.2 v hv).2⟩⟩
 obtain⟨b1,b2,b3,b4,b5⟩:=hg.gr x hx
 have c1:x.members.length≤24∧x.ar.length≤24:=by
  obtain⟨d1,d2,d3⟩:=b3
  split at d2<;>(split at d3<;>omega)
 exact⟨c1.1,c1.2,(ho.gr.2 x hx).2.2.2.2⟩
theorem Nq (l:BS):K5 (OJ ⟨(XL l).2,0⟩).1:=Qsl _ (fun t ht=>Lt (FJ l t ht) Af) (by
 have:=FI l
 show(if(0:Int)=0 then(XL l).2.length+1 else 0)≤NG
 rw [iP rfl]
 show _≤1048576
 omega)
theorem uA:K5 j2:=⟨Lz _,Lz _,⟨Lz _,fun _ h=>by cases h⟩,⟨Lz _,fun _ h=>by cases h⟩,⟨Lz _,fun _ h=>by cases h⟩,⟨Lz _,fun _ h=>by cases h⟩,⟨Lz _,fun _ h=>by cases h⟩,⟨Lz _,fun _ h=>by cases h⟩⟩
theorem QqH (ck:Qz→Int) (l:BS):K5 (U9 ck l).1:=by
 unfold U9
 dsimp only
 split
 ·exact uA
 split
 ·exact uA
 split
 ·exact uA
 ·exact Nq l
end Go.PN
namespace Go.AI
theorem QB.qS {P:Program} {h:Qa} {ρ:Operand→AV} {t:TypeId} {vs:List Value} (hz:yE P t=some vs) (cW:(Q8 P t).isSome=true):QB P h ρ (.build t #[]) (.agg (vs.map CV.raw)):=by
 intro S w e hS ho _
 obtain⟨fl,cW⟩:=Option.isSome_iff_exists.1 cW
 obtain⟨fs,hu,aR⟩:=Gc cW
 obtain⟨i,zv,hi,fQ,rfl⟩:=FH hz
 refine⟨.agg zv.cells,fun o au=> ?_,zv.cells.toList,by simp,Bs _ _ _⟩
 simp only [execOp,au,Instr.build,Sem.run_bind,zeroValue,typeInfo,run_program,hi,fQ,Result.andThen_ok,Sem.run_pure,run_underlying hu,aR w]
 rw [show(Array.map (fun x:Nat×Operand=>(x.fst,e x.snd)) #[]).toList=[] from by simp]
 simp [Instr.fill,Sem.run_pure]
end Go.AI
namespace Go.Proofs.YtjegkdadeghpjaaGreatDoor
open Go.AI Go.PN Proofs.Tryz
theorem Nr {g n:Nat} {ty:TypeId} {l:List BS} {f:Nat→CV} {h:Qa} (hg:h.get g=some (.cells ty n f)) (hn:n=l.length) (hf:∀j,j<n→f j=Qi l j):fe h (.aO g 1 0 n) (YH false l):=by
 subst hn
 exact .aO hg om (fun j hj=>by rw [Nz,hf j om];exact .refl _)
attribute [local irreducible] aw Fa VA Vk Fh YO
end Go.Proofs.YtjegkdadeghpjaaGreatDoor
namespace Go.PN
open Go.AI
theorem VW {α:Type} (d:α) {xs ys:List α} (hl:xs.length=ys.length) (h:∀j,j<xs.length→xs.getD j d=ys.getD j d):xs=ys:=by
 refine List.ext_getElem hl fun j h1 h2=> ?_
 have:=h j h1
 rw [Lg,Lg,Li h1,Li h2] at this
 exact this
theorem VX {α:Type} {d:α} {xs ys:List α} {i:Nat} (hs:∀j,j<i→xs.getD j d=ys.getD j d) (h:xs.getD i d=ys.getD i d):∀j,j<i+1→xs.getD j d=ys.getD j d:=fun j hj=>by
 by_cases e:j=i
 ·subst e;exact h
 ·exact hs j om
instance:DecidableEq Xk:=fun a b=>decidable_of_iff (a.name=b.name∧a.kind=b.kind∧a.k=b.k∧a.ak=b.ak∧a.aH=b.aH) (by cases a;cases b;simp)
instance:DecidableEq X7:=fun a b=>decidable_of_iff (a.name=b.name∧a.p=b.p∧a.fail=b.fail∧a.rep=b.rep∧a.cost=b.cost) (by cases a;cases b;simp)
instance:DecidableEq Vq:=fun a b=>decidable_of_iff (a.name=b.name∧a.on=b.on) (by cases a;cases b;simp)
instance:DecidableEq YT:=fun a b=>decidable_of_iff (a.name=b.name∧a.top=b.top∧a.an=b.an) (by cases a;cases b;simp)
instance:DecidableEq YU:=fun a b=>decidable_of_iff (a.name=b.name∧a.kind=b.kind∧a.members=b.members∧a.ar=b.ar) (by cases a;cases b;simp)
instance:DecidableEq Zh:=fun a b=>decidable_of_iff (a.event=b.event∧a.p=b.p) (by cases a;cases b;simp)
instance:DecidableEq Ke:=fun a b=>decidable_of_iff (a.name=b.name∧a.top=b.top∧a.values=b.values) (by cases a;cases b;simp)
instance:DecidableEq Qz:=fun a b=>decidable_of_iff (a.name=b.name∧a.top=b.top∧a.events=b.events∧a.af=b.af∧a.an=b.an∧a.aa=b.aa∧a.ae=b.ae∧a.ai=b.ai) (by cases a;cases b;simp)
theorem C4 {p:Prop} [Decidable p] (h:¬p):false=decide p:=(De h).symm
theorem NC {p:Prop} [Decidable p] (h:p):true=decide p:=(Dt h).symm
def qH:BS:=[109,111,100,101,108,32,109,59,32,101,118,101,110,116,32,98,59,32,101,118,101,110,116,32,97,59,32,103,97,116,101,32,103,32,97,110,100,32,98,32,97,59,32,116,111,112,32,103,59]
abbrev cH:Qz:=⟨[109],[103],[⟨[98],aW,aW,aW,0⟩,⟨[97],aW,aW,aW,0⟩],[],[⟨[103],0,0,[[98],[97]],aW⟩],[],[],[]⟩
abbrev Qwe:Qz:=⟨[109],[103],[⟨[97],aW,aW,aW,0⟩,⟨[98],aW,aW,aW,0⟩],[],[⟨[103],0,0,[[97],[98]],aW⟩],[],[],[]⟩
def jx:BS:=[109,111,100,101,108,32,109,59,10,101,118,101,110,116,32,98,59,10,101,118,101,110,116,32,97,59,10,103,97,116,101,32,103,32,97,110,100,32,98,32,97,59,10,116,111,112,32,103,59,10]
theorem yR {α:Type} {p:α→Bool} {l:List α} {d:α} {j:Nat} (hj:j<l.length) (h:p (l.getD j d)=false):l.all p=false:=by
 refine Bool.of_not_eq_true fun e=> ?_
 have:=List.all_eq_true.1 e (l.getD j d) (by rw [Lg,Li hj];exact Le _)
 rw [h] at this;cases this
theorem yX {α:Type} {p:α→Bool} {l:List α} {d:α} (h:∀j,j<l.length→p (l.getD j d)=true):l.all p=true:=by
 refine List.all_eq_true.2 fun x hx=> ?_
 obtain⟨j,hj,rfl⟩:=List.getElem_of_mem hx
 have:=h j hj
 rwa [Lg,Li hj] at this
theorem xx {α:Type} {p:α→Bool} {l:List α} (d:α):l.all p=true↔∀j,j<l.length→p (l.getD j d)=true:=
 ⟨fun h j hj=>Bool.of_not_eq_false fun e=>(by rw [yR hj e] at h;cases h),yX⟩
def Ki (m:Qz):Prop:=m.events.length≤60∧m.af.length≤60∧m.aa.length≤30∧m.ae.length≤30∧m.ai.length≤30∧W5 m.an=true∧(∀j,j<m.events.length→Wb (m.events.getD j bn)=true)∧(∀j,j<m.aa.length→W5 (m.aa.getD j bj).an=true)∧(∀j,j<m.ae.length→VQ (m.ae.getD j bJ)=true)∧(∀j,j<m.ai.length→VR (m.ai.getD j cd)=true)
theorem GJ (m:Qz):KK m=true↔Ki m:=by
 unfold KK Ki
 rw [←xx (p:=Wb) bn,←xx (p:=VQ) bJ,←xx (p:=VR) cd]
 rw [show(∀j,j<m.aa.length→W5 (m.aa.getD j bj).an=true)↔m.aa.all CG=true from(xx (p:=CG) bj).symm]
 simp only [Ba,Dq,and_assoc]
theorem QqL {m:Qz} (h:¬Ki m):false=KK m:=(Bool.of_not_eq_true fun e=>h ((GJ m).1 e)).symm
theorem QqM {m:Qz} (h:Ki m):true=KK m:=((GJ m).2 h).symm
theorem QuU {l:List Xk} {j:Nat} (hj:j<l.length) (h:po (l.getD j aU)=false):false=W5 l:=by
 unfold W5
 rw [yR hj h];rfl
theorem QuV {l:List Xk} (h:∀j,j<l.length→po (l.getD j aU)=true):decide (l.length≤100)=W5 l:=by
 unfold W5
 rw [yX h];rfl
theorem Qn9 {x:YU} {j:Nat} (hj:j<x.ar.length) (h:X2 (x.ar.getD j aW)=false):VQ x=false:=by
 unfold VQ
 rw [yR hj h,Bool.and_false]
theorem Qoa {x:YU} (h1:x.members.length≤60) (h2:x.ar.length≤60) (h:∀j,j<x.ar.length→X2 (x.ar.getD j aW)=true):VQ x=true:=by
 unfold VQ
 rw [yX h,Dt h1,Dt h2];rfl
theorem Qob {x:Ke} {j:Nat} (hj:j<x.values.length) (h:X2 (x.values.getD j bE).p=false):VR x=false:=by
 unfold VR
 rw [yR (p:=fun v:Zh=>X2 v.p) hj h,Bool.and_false]
theorem Qoc {x:Ke} (h1:x.values.length≤60) (h:∀j,j<x.values.length→X2 (x.values.getD j bE).p=true):VR x=true:=by
 unfold VR
 rw [yX (p:=fun v:Zh=>X2 v.p) h,Dt h1];rfl
theorem sO (n:Nat):iz n aW:=RD.wf.mono (a:=0) ⟨fun _ h=>(by cases h),fun _ h=>(by cases h),Ac _,Ac _⟩ (Lz n)
theorem Qwf (n:Nat):nu n bn:=⟨Lz _,sO n,sO n,sO n,by decide,by decide⟩
theorem Qwg (n:Nat):mw n aU:=⟨Lz _,by decide,by decide,⟨Lz _,fun _ h=>(by cases h)⟩,sO n⟩
theorem Qwh (n:Nat):nz n bj:=⟨Lz _,Lz _,Lz _,fun _ h=>by cases h⟩
theorem Qwi (n:Nat):nv n bJ:=⟨Lz _,by decide,⟨Lz _,fun _ h=>(by cases h)⟩,Lz _,fun _ h=>(by cases h)⟩
theorem Qwj (n:Nat):ou n bE:=⟨Lz _,sO n⟩
theorem Qwk (n:Nat):nB n cd:=⟨Lz _,Lz _,Lz _,fun _ h=>by cases h⟩
theorem QqN {k:Int} (h0: -9223372036854775808≤k) (h1:k<9223372036854775808):(Zz k).length≤40:=by
 have h:=Bt 19 k.natAbs (by have:(10:Nat)^(19+1)=100000000000000000000:=(by decide);omega)
 unfold Zz
 split
 ·rw [Lc];omega
 ·omega
theorem MU:∀(l:List BS) (n:Nat),(∀i∈l,i.length≤n)→(kF l).length≤l.length*(n+1)
 |[],_,_=>by simp [kF]
 |x::l,n,h=>by
  have h1:=MU l n (fun i hi=>h i (Lm _ hi))
  have h2:=h x (Lf ..)
  have e:kF (x::l)=32::x++kF l:=rfl
  rw [e,La,Lc,Lc,Nat.succ_mul]
  omega
theorem QqO {g:Xk} {n:Nat} (hv:mw n g) (hn:n≤1048576) (hi:g.ak.length≤100) (hs:(Y5 g.aH).length≤36004):(ZZ g).length≤10000000000:=by
 obtain⟨h1,_,h3,h4,_⟩:=hv
 have a1:=MU g.ak 1048576 (fun i hi=>Lt (h4.2 i hi) hn)
 have a2:g.ak.length*(1048576+1)≤100*(1048576+1):=Nm _ hi
 have a3:=Qql g.kind
 have a4:=QqN h3.1 h3.2
 rw [IA]
 unfold Wt
 simp only [La,Lc,Lu]
 split
 ·rw [Lc];omega
 ·split
  ·rw [Lc];omega
  ·rw [Lu];omega
end Go.PN
namespace Go.AI
open Go.PN
section
section
variable {P : Program} {h : Qa} {ρ : Operand → AV}
def C5 (P:Program) (t:TypeId):Bool:=match P.underlying t with
 |some .string=>true
 |_=>false
theorem T7 {t:TypeId} (h:C5 P t=true):P.underlying t=some .string:=by
 unfold C5 at h
 split at h
 ·assumption
 ·cases h
def Db (P:Program) (t:TypeId):Bool:=match P.underlying t with
 |some .bool=>true
 |_=>false
theorem Qod {t:TypeId} (h:Db P t=true):P.underlying t=some .bool:=by
 unfold Db at h
 split at h
 ·assumption
 ·cases h
def Fb (P:Program) (t:TypeId):Bool:= !P.stoodInHeld t&& !P.eqGuardType P.depth t&&yy P t&&(match (P.fieldsOf t).toList with
 |[f,g]=>f.name != "_" &&g.name != "_" &&f.offset==0&&g.offset==1&&C5 P f.type&&Db P g.type
 |_=>false)
theorem Qtg {t:TypeId} (ht:Fb P t=true) (a c:BS) (b d:Bool) (w:World):(Op.equalIn 10000 t (.agg #[.string (sB a),.bool b]) (.agg #[.string (sB c),.bool d])).run P w=.ok (decide (a=c∧b=d)) w∧P.eqGuardType P.depth t=false:=by
 unfold Fb at ht
 simp only [Ba,Bool.not_eq_true'] at ht
 obtain⟨⟨⟨h1,h2⟩,h4⟩,h3⟩:=ht
 refine⟨?_,h2⟩
 have hu:=OW h4
 rw [show(10000:Nat)=9999+1 from rfl,run_equalIn_agg w 9999 t _ _ hu h1]
 split at h3
 ·rename_i f g Eb
  rw [Eb]
  simp only [Ba,bne_iff_ne,ne_eq,beq_iff_eq] at h3
  obtain⟨⟨⟨⟨⟨n1,n2⟩,o1⟩,o2⟩,u1⟩,u2⟩:=h3
  have u1:=T7 u1
  have u2:=Qod u2
  have g1:(isAgg f.type).run P w=.ok false w:=by simp [isAgg,run_underlying u1]
  have g2:(isAgg g.type).run P w=.ok false w:=by simp [isAgg,run_underlying u2]
  have p1:∀s x,(part f.type #[.string s,.bool x] f.offset).run P w=.ok (.string s) w:=fun s x=>by
   unfold part
   simp only [Sem.run_bind,g1,Result.andThen_ok,Bool.false_eq_true,if_false,o1]
   rfl
  have p2:∀s x,(part g.type #[.string s,.bool x] g.offset).run P w=.ok (.bool x) w:=fun s x=>by
   unfold part
   simp only [Sem.run_bind,g2,Result.andThen_ok,Bool.false_eq_true,if_false,o2]
   rfl
  have e1:(Op.equalIn 9999 f.type (.string (sB a)) (.string (sB c))).run P w=.ok ((sB a).toList==(sB c).toList) w:=run_equalIn_string w 9998 f.type _ _ u1
  have e2:(Op.equalIn 9999 g.type (.bool b) (.bool d)).run P w=.ok (b==d) w:=run_equalIn_bool' w 9998 g.type _ _ u2
  have hs:((sB a).toList==(sB c).toList)=decide (a=c):=by
   have:=Qol a c
   unfold KN at this
   rw [show sB a=⟨a.toArray⟩ from rfl,show sB c=⟨c.toArray⟩ from rfl,this,Bool.eq_iff_iff];simp
  simp only [Op.eqFields,n1,n2,not_false_eq_true,if_true,Sem.run_bind,p1,p2,e1,e2,Result.andThen_ok,hs,ne_eq]
  by_cases tj:a=c
  ·subst tj
   by_cases lF:b=d
   ·subst lF;simp [p2,e2]
   ·have:(b==d)=false:=by simpa using lF
    simp [p2,e2,lF,this]
  ·simp [tj]
 ·cases h3
theorem QB.vZ {t t':TypeId} {x y:Operand} {a c:BS} {b d:Bool} (hx:ρ x=.agg [.str (sB a),.bool b]) (hy:ρ y=.agg [.str (sB c),.bool d]) (ht:Fb P t=true):QB P h ρ (.binOp .neq t x y t') (.c (.bool (!decide (a=c∧b=d)))):=fun S w e _ ho _=>by
 have h1:=ho x Ag
 have h2:=ho y Ag
 rw [hx] at h1
 rw [hy] at h2
 obtain⟨us,hu,gp⟩:=h1
 obtain⟨vs,hv,zF⟩:=h2
 obtain⟨r1,r2⟩:=Qtg ht a c b d w
 have k1:us=[.string (sB a),.bool b]:=by
  match us,gp with
  |[p,q],⟨q1,q2,_⟩=>rw [show p=_ from q1,show q=_ from q2]
 have k2:vs=[.string (sB c),.bool d]:=by
  match vs,zF with
  |[p,q],⟨q1,q2,_⟩=>rw [show p=_ from q1,show q=_ from q2]
 subst k1 k2
 refine⟨.bool (!decide (a=c∧b=d)),fun o au=>YD au ?_ ?_,rfl⟩
 ·rw [hu,hv];exact run_eqGuard_agg w _ _ _ _ _ _ r2
 ·rw [hu,hv,run_neq_struct,r1];rfl
end
end
end Go.AI
namespace Go.Proofs.YtjegkdadeghpjaaGreatDoor
open Go.AI Go.PN Proofs.Tryz
theorem Ox {p:Nat→Prop} {i:Nat} (hs:∀j,j<i→p j) (h:p i):∀j,j<i+1→p j:=fun j hj=>by
 rcases Nat.lt_succ_iff_lt_or_eq.1 hj with h1|h1
 ·exact hs j h1
 ·rw [h1];exact h
theorem sP {p:Nat→Prop}:∀j,j<0→p j:=fun _ h=>absurd h (Nat.not_lt_zero _)
attribute [local irreducible] aw Fa VA Vk Fh YO
end Go.Proofs.YtjegkdadeghpjaaGreatDoor
