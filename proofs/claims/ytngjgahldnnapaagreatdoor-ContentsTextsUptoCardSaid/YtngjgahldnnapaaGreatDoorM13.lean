/- Parts of one proof, laid by a program. -/
import Derived.Test.YtngjgahldnnapaaGreatDoorM00
import Derived.Test.YtngjgahldnnapaaGreatDoorM09
import Derived.ShutString
import Derived.Laws.IdiomRangeMap
import Derived.Deep.Draws
set_option linter.unusedSimpArgs false
set_option linter.unusedVariables false
set_option maxRecDepth 100000
set_option maxHeartbeats 12800000
namespace Go.AI
open Go.PN
theorem Qxo {h:Qa} {t:Bool} {xs:List Int}:Ut h (is true xs) (is t xs):=.row fun _ _=>.int _ _
end Go.AI

namespace Go.Proofs.YtngjgahldnnapaaGreatDoor
open Go.AI Go.PN Go.ChangeShapes Go.WideShapes Go.RowKit
section
variable {H : Type} {enc : TypeId × Value → H} {P : Program}
theorem QsR {α:Type} {c:α→CV} {B:α→Nat→Prop} {t:TypeId} (hr:Rdr P t (fun y=>[c y]) B) {W:World} {v:Value} {d:DataW H} {p:List MemPlace} (hv:v.cells= #[v]) (h:DataW.Trod enc P W 0 (fun _=>true) true t v d p):
  ∃y,OH (QcG W) W (.c (c y)) v∧B y (Rows.uptoBulk d):=by
 obtain⟨fuel,hf⟩:=h
 rw [hv] at hf
 obtain⟨y,h1,h2⟩:=hr H enc W fuel _ _ hf
 exact⟨y,h1.1,h2⟩
end
theorem Ql5 {P:Program} {W:World} {r:Reach} {base:Nat} {t:TypeId} {v:Value} (ht:P.underlying t=some .string) (h:Value.okWide P W r base t v):∃s,v=.string s:=by
 simp only [Value.okWide,ht,Cell.okWide] at h
 cases v<;>simp_all [Cell.ok]
end Go.Proofs.YtngjgahldnnapaaGreatDoor
namespace Go.PN
open Go.AI
variable {α β : Type}
theorem WP {k:Int} {l l':List BS} (h:QlW k l l'):l'.Perm l:=by
 unfold QlW at h
 split at h
 ·exact h
 split at h
 ·rw [←List.take_append_drop 1 l',←List.take_append_drop 1 l,h.1]
  exact h.2.append_left _
 ·rw [h]
theorem Qvs (k:Int) (l:List BS):QlW k l (QgJ k l):=by
 unfold QlW QgJ
 split
 ·exact Q6 id l
 split
 ·cases l with
  |nil=>exact⟨rfl,.refl _⟩
  |cons a r=>exact⟨rfl,Q6 id r⟩
 ·rfl
theorem Qvt (g:Xe):ReG g (normG g):=⟨rfl,rfl,rfl,rfl,Qvs _ _⟩
theorem QnZ (l:List Xe):ReL l (UP l):=⟨normG,fun g _=>Qvt g,Q6 _ _⟩
theorem Qaz (m:Qv):ReM m (Kw m):=
 ⟨rfl,rfl,Q6 _ _,Q6 _ _,QnZ _,⟨normP,fun x _=>⟨rfl,rfl,QnZ _⟩,Q6 _ _⟩,⟨normR,fun x _=>⟨rfl,rfl,rfl,Q6 _ _⟩,Q6 _ _⟩,⟨normH,fun x _=>⟨rfl,rfl,Q6 _ _⟩,rfl⟩⟩
theorem Qaf {f:α→β} {h:α→α} {L L':List α} (hh:∀g∈L,f (h g)=f g) (hp:L'.Perm (L.map h)):(L'.map f).Perm (L.map f):=by
 have e:(L.map h).map f=L.map f:=by
  rw [List.map_map]
  exact List.map_congr_left hh
 rw [←e]
 exact hp.map f
theorem QfO {L L':List Xe} (h:ReL L L'):(gnN L').Perm (gnN L):=by
 obtain⟨h,h1,h2⟩:=h
 exact Qaf (fun g hg=>(h1 g hg).nm) h2
theorem QsS {m m':Qv} {L L':List Xe} (h1:∀n,n∈Ug m↔n∈Ug m') (h2:∀n,n∈hsN m↔n∈hsN m') (h3:∀n,n∈pgN m↔n∈pgN m') (h4:∀n,n∈gnN L↔n∈gnN L') (i:BS):InN m L i↔InN m' L' i:=by
 unfold InN
 rw [h1,h2,h3,h4]
theorem Qxp {g g':Xe} (h:ReG g g'):Je g'=Je g:=by
 unfold Je
 rw [h.kd,h.k,h.dm,(WP h.inp).length_eq]
theorem Qv5 {g g':Xe} (h:ReG g g'):Jg g'=Jg g:=by
 unfold Jg
 rw [h.kd]
 by_cases e:g.kind=7
 ·rw [iP e,iP e]
  have:=h.inp
  unfold QlW K6 at this
  rw [e,iN Af,iN Af] at this
  exact this
 ·rw [iN e,iN e]
theorem Qxq {m m':Qv} {L L':List Xe} (h1:∀n,n∈Ug m↔n∈Ug m') (h2:∀n,n∈hsN m↔n∈hsN m') (h3:∀i,InN m L i↔InN m' L' i) {g g':Xe} (h:ReG g g') (ha:GtA m L g):GtA m' L' g':=by
 obtain⟨a1,a2,a3,a4,a5,a6,a7⟩:=ha
 have hp:=WP h.inp
 refine⟨by rw [h.nm];exact a1,by rw [h.nm,←h1];exact a2,by rw [h.nm,←h2];exact a3,by rw [Qxp h];exact a4,fun i hi=>(h3 i).1 (a5 i (hp.mem_iff.1 hi)),fun e i hi=>(h1 i).1 (a6 (by rw [←h.kd];exact e) i (hp.mem_iff.1 hi)),fun e i hi=>(h1 i).1 (a7 (by rw [←h.kd];exact e) i ?_)⟩
 have:=h.inp
 unfold QlW K6 at this
 rw [h.kd] at e
 rw [e,iN Af,iP rfl] at this
 exact this.2.mem_iff.1 hi
theorem QsT {m m':Qv} {L L':List Xe} (h1:∀n,n∈Ug m↔n∈Ug m') (h2:∀n,n∈hsN m↔n∈hsN m') (h3:∀n,n∈pgN m↔n∈pgN m') (h:ReL L L') (ha:GsA m L):GsA m' L':=by
 have hn:=QfO h
 have hi:=QsS h1 h2 h3 (fun n=>hn.mem_iff.symm)
 obtain⟨f,f1,f2⟩:=h
 refine⟨hn.nodup_iff.2 ha.1,fun g' hg'=> ?_⟩
 obtain⟨g,hg,rfl⟩:=List.mem_map.1 (f2.mem_iff.1 hg')
 exact Qxq h1 h2 hi (f1 g hg) (ha.2 g hg)
theorem WQ {f:α→List β} {h:α→α} {L L':List α} (hh:∀g∈L,(f (h g)).Perm (f g)) (hp:L'.Perm (L.map h)):(L'.flatMap f).Perm (L.flatMap f):=by
 refine(hp.flatMap_right f).trans ?_
 rw [List.flatMap_map]
 clear hp
 induction L with
 |nil=>exact .refl _
 |cons x L ih=>
  rw [List.flatMap_cons,List.flatMap_cons]
  exact(hh x Lf).append (ih fun g hg=>hh g (Lm _ hg))
theorem Qvu (m:Qv):gtN m=m.gates.length+(m.pages.flatMap fun p=>p.gates.map fun _=>()).length:=by
 unfold gtN
 rw [List.length_flatMap]
 congr 2
 simp
theorem Qia {L L':List Xe} (h:ReL L L'):L'.length=L.length:=by
 obtain⟨f,_,f2⟩:=h
 rw [f2.length_eq,Lw]
theorem Qn0 {m m':Qv} (h:ReM m m') (g:Good m):Good m':=by
 obtain⟨hp,p1,p2⟩:=h.pg
 obtain⟨hr,r1,r2⟩:=h.gr
 obtain⟨hh,q1,q2⟩:=h.ph
 have n1:(Ug m').Perm (Ug m):=h.ev.map _
 have n2:(hsN m').Perm (hsN m):=h.hs.map _
 have n3:(pgN m').Perm (pgN m):=Qaf (fun x hx=>(p1 x hx).nm) p2
 have m1:∀n,n∈Ug m↔n∈Ug m':=fun n=>n1.mem_iff.symm
 have m2:∀n,n∈hsN m↔n∈hsN m':=fun n=>n2.mem_iff.symm
 have m3:∀n,n∈pgN m↔n∈pgN m':=fun n=>n3.mem_iff.symm
 have m4:∀i,InN m m.gates i↔InN m' m'.gates i:=QsS m1 m2 m3 fun n=>(QfO h.gt).mem_iff.symm
 have lp:m'.pages.length=m.pages.length:=by rw [p2.length_eq,Lw]
 refine⟨by rw [h.nm];exact g.nm,by rw [h.ev.length_eq];exact g.evl,fun x hx=>g.ev x (h.ev.mem_iff.1 hx),n1.nodup_iff.2 g.evn,by rw [h.hs.length_eq];exact g.hsl,fun x hx=>⟨(g.hs x (h.hs.mem_iff.1 hx)).1,fun z=>(g.hs x (h.hs.mem_iff.1 hx)).2 ((m1 _).2 z)⟩,n2.nodup_iff.2 g.hsn,by rw [lp];exact g.pgl,?_,fun x' hx'=> ?_,n3.nodup_iff.2 g.pgn,QsT m1 m2 m3 h.gt g.gt,?_,by rw [h.tp];exact(m4 _).1 g.tp,by rw [r2.length_eq,Lw];exact g.grl,fun x' hx'=> ?_,(Qaf (f:=YB.name) (fun x hx=>(r1 x hx).nm) r2).nodup_iff.2 g.grn,(WQ (f:=YB.members) (fun x hx=>(r1 x hx).me) r2).nodup_iff.2 g.grm,by rw [q2,Lw];exact g.phl,fun x' hx'=> ?_,?_⟩
 ·have e:=g.gtl
  rw [Qvu] at e⊢
  rw [Qia h.gt,(WQ (f:=fun p:Yz=>p.gates.map fun _=>()) (fun x hx=>by
   have l1:=Qia (p1 x hx).gt
   have:∀(a b:List Xe),a.length=b.length→(a.map fun _=>())=b.map fun _=>():=fun a b hab=>List.ext_getElem (by simpa using hab) fun i _ _=>rfl
   rw [this _ _ l1]) p2).length_eq]
  exact e
 ·obtain⟨x,hx,rfl⟩:=List.mem_map.1 (p2.mem_iff.1 hx')
  obtain⟨a1,a2,a3⟩:=g.pg x hx
  have hx2:=p1 x hx
  refine⟨by rw [hx2.nm];exact a1,QsT m1 m2 m3 hx2.gt a2,?_⟩
  rw [hx2.tp]
  exact a3.imp (fun z=>(QfO hx2.gt).mem_iff.2 z) fun z=>(m1 _).1 z
 ·have s1:(m'.gates.flatMap Jg).Perm (m.gates.flatMap Jg):=by
   obtain⟨f,f1,f2⟩:=h.gt
   exact WQ (fun x hx=>by rw [Qv5 (f1 x hx)]) f2
  have s2:(m'.pages.flatMap fun p=>p.gates.flatMap Jg).Perm (m.pages.flatMap fun p=>p.gates.flatMap Jg):=WQ (f:=fun p:Yz=>p.gates.flatMap Jg) (fun x hx=>by
   obtain⟨f,f1,f2⟩:=(p1 x hx).gt
   exact WQ (fun x hx=>by rw [Qv5 (f1 x hx)]) f2) p2
  have e:=g.sp
  rw [List.flatMap_append,List.flatMap_assoc] at e⊢
  exact(s1.append s2).nodup_iff.2 e
 ·obtain⟨x,hx,rfl⟩:=List.mem_map.1 (r2.mem_iff.1 hx')
  obtain⟨a1,a2,a3,a4,a5⟩:=g.gr x hx
  have hx2:=r1 x hx
  refine⟨by rw [hx2.nm];exact a1,by rw [hx2.kd];exact a2,?_,fun n hn=>(m1 n).1 (a4 n (hx2.me.mem_iff.1 hn)),by rw [hx2.fa];exact a5⟩
  rw [hx2.kd,hx2.fa,hx2.me.length_eq]
  exact a3
 ·rw [q2] at hx'
  obtain⟨x,hx,rfl⟩:=List.mem_map.1 hx'
  obtain⟨a1,a2,a3,a4⟩:=g.ph x hx
  have hx2:=q1 x hx
  refine⟨by rw [hx2.nm];exact a1,by rw [hx2.tp];exact(m4 _).1 a2,fun v hv=> ?_,(hx2.vl.map _).nodup_iff.2 a4⟩
  obtain⟨b1,b2⟩:=a3 v (hx2.vl.mem_iff.1 hv)
  exact⟨(m1 _).1 b1,b2⟩
 ·rw [q2,List.map_map]
  have:m.phases.map (V0.name∘hh)=m.phases.map V0.name:=List.map_congr_left fun x hx=>(q1 x hx).nm
  rw [this]
  exact g.phn
end Go.PN
namespace Go.PN
open Go.AI
theorem QyY {α:Type} [DecidableEq α] {leaf:α→Bool} {succ:α→List α} {nodes:List α} (hnl:∀t∈nodes,leaf t=false) (hcl:∀t∈nodes,∀x∈succ t,leaf x=true∨x∈nodes):(goD (Jr leaf succ (nodes.length+1)) nodes []).1=true↔Qru nodes succ:=by
 obtain⟨h1,h2⟩:=Qnb (f:=Jr leaf succ (nodes.length+1)) (k:=0) (stk:=[]) (nodes:=nodes) (leaf:=leaf) (succ:=succ) (fun st fin x hi _ hx hs=>Qas hnl hcl _ st [] fin x hi om hx hs) nodes [] [] Qfe (Lz _) (fun x hx=>.inr hx) (fun x _ h e=>by simp at e)
 generalize goD (Jr leaf succ (nodes.length+1)) nodes []=r at*
 refine⟨h1,fun⟨S,hS,hc⟩=> ?_⟩
 cases hr:r.1 with
 |true=>rfl
 |false=>
  exfalso
  obtain⟨fin,hi,_,_,hf⟩:=h2 hr
  have hfn:∀x∈nodes,x∈fin:=fun x hx=>(hf x hx).resolve_left (by rw [hnl x hx];simp)
  have key:∀n,∀x∈S,fin.idxOf x<n→False:=fun n=>by
   induction n with
   |zero=>intro x _ h;omega
   |succ n ih=>
    intro x hx hn
    obtain⟨hxn,y,hy,hys⟩:=hc x hx
    obtain⟨l1,l2,hs⟩:=List.append_of_mem (hfn x hxn)
    have hn1:x∉l1:=fun hm=>by
     have:=hi.fd
     rw [hs] at this
     exact(List.nodup_append.1 this).2.2 _ hm _ Lf rfl
    have:=Qrw hs hn1 y ((hi.ord l1 _ l2 hs y hys).resolve_left (by rw [hnl y (hc y hy).1];simp))
    exact ih y hy om
  obtain⟨x,hx⟩:=List.exists_mem_of_ne_nil S hS
  exact key _ x hx (Nat.lt_succ_self _)
theorem QsU {m:Qv} (h:MdC m):QaF m=true↔Qru (Q5 m) (Z2 m):=QyY Ue (KH (QcU h))
abbrev NdN:=Option BS×BS
def IsG (m:Qv) (x:NdN) (g:Xe):Prop:=(x.1=none∧g∈m.gates∨∃q∈m.pages,x.1=some q.name∧g∈q.gates)∧g.name=x.2
def Xal (m:Qv) (P:Option BS) (i:BS) (y:NdN):Prop:=(XF i 0=64∧∃q∈m.pages,q.name=i.drop 1∧q.top∉Ug m∧q.top∉hsN m∧y=(some q.name,q.top))∨(XF i 0≠64∧i∉Ug m∧i∉hsN m∧y=(P,i))
def Qvv (m:Qv):Prop:=∃S:List NdN,S≠[]∧∀x∈S,∃g,IsG m x g∧∃y∈S,∃i∈g.inputs,Xal m x.1 i y
theorem Qqa {m m':Qv} (h:ReM m m') (hc:Qvv m'):Qvv m:=by
 obtain⟨S,hS,hc⟩:=hc
 obtain⟨hp,p1,p2⟩:=h.pg
 obtain⟨hg,g1,g2⟩:=h.gt
 have m1:∀n,n∈Ug m'↔n∈Ug m:=fun n=>(h.ev.map X3.name).mem_iff
 have m2:∀n,n∈hsN m'↔n∈hsN m:=fun n=>(h.hs.map Vx.name).mem_iff
 refine⟨S,hS,fun x hx=> ?_⟩
 obtain⟨g',⟨ha,hb⟩,y,hy,i,hi,hr⟩:=hc x hx
 have hG:∃g,IsG m x g∧i∈g.inputs:=by
  rcases ha with ⟨e,hm⟩|⟨q',hq,e,hm⟩
  ·obtain⟨g,hgm,rfl⟩:=List.mem_map.1 (g2.mem_iff.1 hm)
   exact⟨g,⟨.inl ⟨e,hgm⟩,by rw [←hb];exact(g1 g hgm).nm.symm⟩,(WP (g1 g hgm).inp).mem_iff.1 hi⟩
  ·obtain⟨q,hqm,rfl⟩:=List.mem_map.1 (p2.mem_iff.1 hq)
   obtain⟨hf,f1,f2⟩:=(p1 q hqm).gt
   obtain⟨g,hgm,rfl⟩:=List.mem_map.1 (f2.mem_iff.1 hm)
   exact⟨g,⟨.inr ⟨q,hqm,by rw [e,(p1 q hqm).nm],hgm⟩,by rw [←hb];exact(f1 g hgm).nm.symm⟩,(WP (f1 g hgm).inp).mem_iff.1 hi⟩
 obtain⟨g,hG,hi⟩:=hG
 refine⟨g,hG,y,hy,i,hi,?_⟩
 rcases hr with ⟨r1,q',hq,r2,r3,r4,r5⟩|⟨r1,r2,r3,r4⟩
 ·obtain⟨q,hqm,rfl⟩:=List.mem_map.1 (p2.mem_iff.1 hq)
  rw [(p1 q hqm).nm,(p1 q hqm).tp] at*
  exact .inl ⟨r1,q,hqm,r2,fun z=>r3 ((m1 _).2 z),fun z=>r4 ((m2 _).2 z),r5⟩
 ·exact .inr ⟨r1,fun z=>r2 ((m1 _).2 z),fun z=>r3 ((m2 _).2 z),r4⟩
def pgO (m:Qv):Nat→Option BS
 |0=>none
 |k+1=>some (m.pages.getD k pg0).name
def ndN (m:Qv) (t:Th):NdN:=(pgO m (t.2.1+1).toNat,(QbX m t).name)
theorem QfP {α:Type} {l:List α} {d:α} {i:Nat} (h:i<l.length):l.getD i d∈l:=by
 rw [Lg,Li h];exact Le h
theorem Qxr {m:Qv} {k i:Nat} (hk:k≤m.pages.length) (hi:i<(Qt m k).length):IsG m (ndN m (2,(k:Int)-1,(i:Int))) ((Qt m k).getD i gt0):=by
 have e1:((k:Int)-1+1).toNat=k:=by omega
 have e2:QbX m (2,(k:Int)-1,(i:Int))=(Qt m k).getD i gt0:=by
  unfold QbX
  dsimp only
  rw [e1,Int.toNat_natCast]
 unfold ndN
 rw [e2]
 dsimp only
 rw [e1]
 refine⟨?_,rfl⟩
 cases k with
 |zero=>exact .inl ⟨rfl,QfP hi⟩
 |succ q=>exact .inr ⟨m.pages.getD q pg0,QfP om,rfl,QfP hi⟩
theorem Qxs {m:Qv} (hc:MdC m) (h:Qru (Q5 m) (Z2 m)):Qvv m:=by
 obtain⟨S,hS,hs⟩:=h
 refine⟨S.map (ndN m),by simpa using hS,fun x hx=> ?_⟩
 obtain⟨t,ht,rfl⟩:=List.mem_map.1 hx
 obtain⟨htn,y,hy,hys⟩:=hs t ht
 obtain⟨k,i,hk,hi,rfl⟩:=Y4.1 htn
 obtain⟨k',i',hk',hi',rfl⟩:=Y4.1 (hs y hy).1
 have e:Z2 m (2,(k:Int)-1,(i:Int))=((Qt m k).getD i gt0).inputs.map (KG m k):=by
  unfold Z2 QbX
  dsimp only
  rw [show((k:Int)-1+1).toNat=k from by omega,Int.toNat_natCast]
 rw [e] at hys
 obtain⟨n,hn,hr⟩:=List.mem_map.1 hys
 have hio:=QcU hc k hk i hi n hn
 refine⟨_,Qxr hk hi,_,List.mem_map.2 ⟨_,hy,rfl⟩,n,hn,?_⟩
 unfold KG W9 at hr
 have hE:¬VH m (WG m n)≥0:=fun z=>by rw [iP z] at hr;have:=congrArg Prod.fst hr;exact absurd this (by dsimp only;decide)
 rw [iN hE] at hr
 have hH:¬hsI m (WG m n)≥0:=fun z=>by rw [iP z] at hr;have:=congrArg Prod.fst hr;exact absurd this (by dsimp only;decide)
 rw [iN hH] at hr
 simp only [Ab,true_and] at hr
 have hkk:QcT m k n=k':=by omega
 rw [hkk] at hr
 have hgi:Oy (Qt m k') (WG m n)=i':=hr.2
 obtain⟨j,hj,hj1,hj2⟩:=KJ (p:=fun x:Xe=>x.name==WG m n) (l:=Qt m k') (by unfold Oy at hgi;omega)
 have hji:j=i':=by unfold Oy at hgi;omega
 subst hji
 have hnm:((Qt m k').getD j gt0).name=WG m n:=by
  rw [Lg,Li hj]
  simpa using hj2
 have hE2:WG m n∉Ug m:=(Kk m _).1 om
 have hH2:WG m n∉hsN m:=(QbY m _).1 om
 have ex:(ndN m (2,(k:Int)-1,(i:Int))).1=pgO m k:=by
  unfold ndN;dsimp only;rw [show((k:Int)-1+1).toNat=k from by omega]
 have ey:ndN m (2,(k':Int)-1,(j:Int))=(pgO m k',WG m n):=by
  unfold ndN QbX;dsimp only;rw [show((k':Int)-1+1).toNat=k' from by omega,Int.toNat_natCast,hnm]
 rw [ex,ey]
 by_cases h64:XF n 0=64
 ·left
  have hp:=hio.2.1 h64
  obtain⟨q,hq,hq1,hq2⟩:=KJ (p:=fun x:Yz=>x.name==n.drop 1) (l:=m.pages) hp
  have hq1:Oz m (n.drop 1)=q:=hq1
  unfold WG at hE2 hH2⊢
  unfold QcT at hkk
  rw [iP h64] at hE2 hH2 hkk⊢
  rw [hq1] at hE2 hH2 hkk⊢
  rw [Int.toNat_natCast] at hE2 hH2⊢
  have hkq:k'=q+1:=by omega
  subst hkq
  have eq:m.pages.getD q pg0=m.pages[q]:=by rw [Lg,Li hq];rfl
  have hpo:pgO m (q+1)=some m.pages[q].name:=by show some (m.pages.getD q pg0).name=_;rw [eq]
  rw [eq] at hE2 hH2⊢
  exact⟨h64,m.pages[q],Le hq,by simpa using hq2,hE2,hH2,by rw [hpo]⟩
 ·right
  unfold WG at hE2 hH2⊢
  unfold QcT at hkk
  rw [iN h64] at hE2 hH2 hkk⊢
  subst hkk
  exact⟨h64,hE2,hH2,rfl⟩
def QfQ (m:Qv):Option BS→Nat
 |none=>0
 |some p=>(Oz m p+1).toNat
def idN (m:Qv) (x:NdN):Th:=(2,(QfQ m x.1:Int)-1,Oy (Qt m (QfQ m x.1)) x.2)
theorem Qn1 {m:Qv} (hg:Good m) {q:Yz} (hq:q∈m.pages):∃j,∃h:j<m.pages.length,Oz m q.name=(j:Int)∧m.pages[j]=q:=by
 have h0:0≤Oz m q.name:=(JM Yz.name m.pages q.name).2 (List.mem_map.2 ⟨q,hq,rfl⟩)
 obtain⟨j,hj,h1,h2⟩:=KJ h0
 exact⟨j,hj,h1,Qlx hg.pgn _ (Le hj) q hq (by simpa using h2)⟩
theorem Qn2 {L:List Xe} (hn:(gnN L).Nodup) {g:Xe} (hg:g∈L):∃j,∃h:j<L.length,Oy L g.name=(j:Int)∧L[j]=g:=by
 have h0:0≤Oy L g.name:=(JM Xe.name L g.name).2 (List.mem_map.2 ⟨g,hg,rfl⟩)
 obtain⟨j,hj,h1,h2⟩:=KJ h0
 exact⟨j,hj,h1,Qlx hn _ (Le hj) g hg (by simpa using h2)⟩
theorem Qxt {m:Qv} (hg:Good m) {x:NdN} {g:Xe} (h:IsG m x g):∃k i,k≤m.pages.length∧i<(Qt m k).length∧QfQ m x.1=k∧idN m x=(2,(k:Int)-1,(i:Int))∧(Qt m k).getD i gt0=g:=by
 obtain⟨P,n⟩:=x
 obtain⟨ha,rfl⟩:=h
 rcases ha with ⟨rfl,hm⟩|⟨q,hq,rfl,hm⟩
 ·obtain⟨j,hj,h1,h2⟩:=Qn2 hg.gt.1 hm
  refine⟨0,j,Lz _,hj,rfl,?_,by show m.gates.getD j gt0=g;rw [Lg,Li hj];exact h2⟩
  show((2:Int),((0:Nat):Int)-1,Oy m.gates g.name)=_
  rw [h1]
 ·obtain⟨p,hp,h3,h4⟩:=Qn1 hg hq
  have hk:QfQ m (some q.name)=p+1:=by show(Oz m q.name+1).toNat=p+1;omega
  have eK:Qt m (p+1)=q.gates:=by
   show(m.pages.getD p pg0).gates=_
   rw [Lg,Li hp,←h4];rfl
  obtain⟨j,hj,h1,h2⟩:=Qn2 (hg.pg q hq).2.1.1 hm
  refine⟨p+1,j,by omega,by rw [eK];exact hj,hk,?_,by rw [eK,Lg,Li hj];exact h2⟩
  show((2:Int),((QfQ m (some q.name):Nat):Int)-1,Oy (Qt m (QfQ m (some q.name))) g.name)=_
  rw [hk,eK,h1]
theorem Qxu {m:Qv} (hg:Good m) (h:Qvv m):Qru (Q5 m) (Z2 m):=by
 obtain⟨S,hS,hs⟩:=h
 refine⟨S.map (idN m),by simpa using hS,fun t ht=> ?_⟩
 obtain⟨x,hx,rfl⟩:=List.mem_map.1 ht
 obtain⟨g,hG,y,hy,n,hn,hr⟩:=hs x hx
 obtain⟨k,i,hk,hi,hkx,hid,hgt⟩:=Qxt hg hG
 have e:Z2 m (2,(k:Int)-1,(i:Int))=((Qt m k).getD i gt0).inputs.map (KG m k):=by
  unfold Z2 QbX
  dsimp only
  rw [show((k:Int)-1+1).toNat=k from by omega,Int.toNat_natCast]
 refine⟨by rw [hid];exact Y4.2 ⟨k,i,hk,hi,rfl⟩,_,List.mem_map.2 ⟨y,hy,rfl⟩,?_⟩
 rw [hid,e,hgt]
 refine List.mem_map.2 ⟨n,hn,?_⟩
 unfold KG W9
 rcases hr with ⟨r1,q,hq,r2,r3,r4,rfl⟩|⟨r1,r2,r3,rfl⟩
 ·obtain⟨p,hp,h3,h4⟩:=Qn1 hg hq
  have hk2:QfQ m (some q.name)=p+1:=by show(Oz m q.name+1).toNat=p+1;omega
  have eN:WG m n=q.top:=by
   unfold WG
   rw [iP r1,←r2,h3,Int.toNat_natCast,Lg,Li hp,←h4];rfl
  have eK:QcT m k n=p+1:=by
   unfold QcT
   rw [iP r1,←r2,h3];omega
  rw [eN,eK,iN (by have:=(Kk m q.top).2 r3;omega),iN (by have:=(QbY m q.top).2 r4;omega)]
  show _=((2:Int),((QfQ m (some q.name):Nat):Int)-1,Oy (Qt m (QfQ m (some q.name))) q.top)
  rw [hk2]
 ·have eN:WG m n=n:=by unfold WG;rw [iN r1]
  have eK:QcT m k n=k:=by unfold QcT;rw [iN r1]
  rw [eN,eK,iN (by have:=(Kk m n).2 r2;omega),iN (by have:=(QbY m n).2 r3;omega)]
  show _=((2:Int),((QfQ m x.1:Nat):Int)-1,Oy (Qt m (QfQ m x.1)) n)
  rw [hkx]
theorem QsV {m m':Qv} (h:ReM m m') (h0:UA m=0):UA m'=0:=by
 obtain⟨a,b⟩:=Z9.1 (show Vn (Vr m) (if QaF m then 14 else 0)=0 from h0)
 have hg:=(Qfl m).1 a
 have a':=(Qfl m').2 (Qn0 h hg)
 refine Z9.2 ⟨a',?_⟩
 by_cases hc:QaF m'=true
 ·exfalso
  have h1:=(QsU (WH a')).1 hc
  have h2:=Qxu hg (Qqa h (Qxs (WH a') h1))
  rw [(QsU (WH a)).2 h2] at b
  cases b
 ·rw [iN hc]
end Go.PN
namespace Go.PN
open Go.AI
variable {α : Type}
theorem Qxv {g g':Xe} (h:ReG g g') (ho:GtO g):GtO g':=by
 obtain⟨o1,o2,o3,o4⟩:=ho
 have hp:=WP h.inp
 exact⟨by rw [h.nm];exact o1,by rw [h.dm];exact o2,by rw [hp.length_eq];exact o3,fun i hi=>o4 i (hp.mem_iff.1 hi)⟩
theorem QsW {L L':List Xe} (h:ReL L L') (ho:L.length≤NG∧∀g∈L,GtO g):L'.length≤NG∧∀g∈L',GtO g:=by
 refine⟨by rw [Qia h];exact ho.1,fun g hg=> ?_⟩
 obtain⟨f,f1,f2⟩:=h
 obtain⟨x,hx,rfl⟩:=List.mem_map.1 (f2.mem_iff.1 hg)
 exact Qxv (f1 x hx) (ho.2 x hx)
theorem QsX {m m':Qv} (h:ReM m m') (ho:Jb m):Jb m':=by
 obtain⟨hp,p1,p2⟩:=h.pg
 obtain⟨hr,r1,r2⟩:=h.gr
 obtain⟨hh,q1,q2⟩:=h.ph
 refine⟨by rw [h.nm];exact ho.nm,by rw [h.tp];exact ho.tp,⟨by rw [h.ev.length_eq];exact ho.ev.1,fun x hx=>ho.ev.2 x (h.ev.mem_iff.1 hx)⟩,⟨by rw [h.hs.length_eq];exact ho.hs.1,fun x hx=>ho.hs.2 x (h.hs.mem_iff.1 hx)⟩,QsW h.gt ho.gt,⟨by rw [p2.length_eq,Lw];exact ho.pg.1,fun x' hx'=> ?_⟩,⟨by rw [r2.length_eq,Lw];exact ho.gr.1,fun x' hx'=> ?_⟩,⟨by rw [q2,Lw];exact ho.ph.1,fun x' hx'=> ?_⟩⟩
 ·obtain⟨x,hx,rfl⟩:=List.mem_map.1 (p2.mem_iff.1 hx')
  obtain⟨a1,a2,a3⟩:=ho.pg.2 x hx
  have e:=p1 x hx
  exact⟨by rw [e.nm];exact a1,by rw [e.tp];exact a2,QsW e.gt a3⟩
 ·obtain⟨x,hx,rfl⟩:=List.mem_map.1 (r2.mem_iff.1 hx')
  obtain⟨a1,a2,a3,a4,a5⟩:=ho.gr.2 x hx
  have e:=r1 x hx
  exact⟨by rw [e.nm];exact a1,by rw [e.me.length_eq];exact a2,fun n hn=>a3 n (e.me.mem_iff.1 hn),by rw [e.fa];exact a4,by rw [e.fa];exact a5⟩
 ·rw [q2] at hx'
  obtain⟨x,hx,rfl⟩:=List.mem_map.1 hx'
  obtain⟨a1,a2,a3,a4⟩:=ho.ph.2 x hx
  have e:=q1 x hx
  exact⟨by rw [e.nm];exact a1,by rw [e.tp];exact a2,by rw [e.vl.length_eq];exact a3,fun v hv=>a4 v (e.vl.mem_iff.1 hv)⟩
end Go.PN
namespace Go.AI
open Go.PN
section
variable {P : Program} {h : Qa} {ρ : Operand → AV}
def Qn3 (P:Program) (t:TypeId):Bool:=match P.underlying t with
 |some .string=>true
 |_=>false
theorem QfR {t:TypeId} (h:Qn3 P t=true):P.underlying t=some .string:=by
 unfold Qn3 at h
 split at h
 ·assumption
 ·cases h
end
end Go.AI
namespace Go.PN
open Go.AI
theorem Vi {α:Type} (l:List α) (d:α) {q:Nat} (h:q<l.length):l.getD q d∈l:=by
 rw [Lg,Li h];exact Le _
end Go.PN

namespace Go.Proofs.YtngjgahldnnapaaGreatDoor
open Go.AI Go.PN
theorem US {a b:Nat×XD} {h:Qa} (h1:a∈h:=by simp) (h2:b∈h:=by simp):Kp [a,b] h:=Qm h1 (Qm h2 Qf)
attribute [local irreducible] aw Fa ZN ZZ Fh YE
end Go.Proofs.YtngjgahldnnapaaGreatDoor
namespace Go.AI
section
variable {P : Program} {h : Qa} {ρ : Operand → AV}
theorem QA.sliceE {t e size bytes g off n:Nat} {x y:Operand} {k:IntKind} {f:Nat→CV} (ht:QR P t=some (e,size,bytes)) (hx:ρ x=.c (.osl g size off n)) (hy:ρ y=.c (.int k (n:Int))):QA P h ρ (.slice t x (some y) none none) (.c (.row false size 0 f)):=fun S w ev' hS ho _=>by
 have r:=ho x Ag
 rw [hx] at r
 obtain⟨c,hv,hc,hcm,cs,ty,hb,hcs⟩:=r
 obtain⟨hu,inf,hi0,hsz,_⟩:=Xg ht
 have ry:ev' y=.int k n:=by have:=ho y Ag;rw [hy] at this;exact this
 have hsb:=ZA (P:=P) (w:=w) (len:=n) (cap:=c) (l:=n) (hi:=n) (lo:=some (ev' y)) (hi':=none) (.inr ⟨k,by rw [ry]⟩) (.inl ⟨rfl,rfl⟩) (Ac _) hc hc
 by_cases hcl:c=n
 ·refine⟨.slice (some ⟨g,off,none⟩) 0 0,fun o hop=> ?_,some ⟨g,off,none⟩,0,rfl,Ac _,fun h0=>by simp at h0⟩
  subst hcl
  simp [execOp,hop,Instr.sliceAt,run_underlying hu,Instr.slice,hv,hsb,sizeOf,typeInfo,hi0,hsz]
 ·refine⟨.slice (some (Addr.add ⟨g,off,none⟩ (n*size))) 0 (c-n),fun o hop=> ?_,some (Addr.add ⟨g,off,none⟩ (n*size)),c-n,rfl,Lz _,fun h0=>by simp at h0⟩
  simp [execOp,hop,Instr.sliceAt,run_underlying hu,Instr.slice,hv,hsb,sizeOf,typeInfo,hi0,hsz,hcl]
theorem Qg6 {t e size bytes g n k m:Nat} {ty:TypeId} {f:Nat→CV} (ht:QR P t=some (e,size,bytes)) (hk:k≤n) (hm:n*size≤m):
  ∃cx,(∀(h:Qa) (ρ:Operand→AV) (x y:Operand) (kd:IntKind),ρ x=.c (.osl g size 0 n)→ρ y=.c (.int kd (k:Int))→QA P h ρ (.slice t x (some y) none none) (.c cx))∧∀h:Qa,h.get g=some (.cells ty m f)→Src h size cx (n-k) (fun j=>f (k*size+j)):=by
 by_cases hlt:k<n
 ·refine⟨.osl g size (0+k*size) (n-k),fun h ρ x y kd hx hy=>QA.sliceO ht hx (by simp [Yk,hy]) (by simp [Yk]) (Ll hlt) (Ac _) (.inr hlt),fun h hg=>.osl hg ?_ fun j _=>by rw [Nz]⟩
  rw [Nz,←Nat.add_mul,Nat.add_sub_cancel' hk];exact hm
 ·obtain rfl:k=n:=by omega
  refine⟨.row false size 0 (fun j=>f (k*size+j)),fun h ρ x y kd hx hy=>QA.sliceE ht hx hy,fun h _=> ?_⟩
  rw [Nat.sub_self]
  exact .row
theorem QA.sliceH {t e size bytes g n k:Nat} {kd:IntKind} {x y:Operand} (ht:QR P t=some (e,size,bytes)) (hx:ρ x=.c (.osl g size 0 n)) (hy:ρ y=.c (.int kd (k:Int))) (hk:k≤n):QA P h ρ (.slice t x none (some y) none) (.c (.osl g size 0 k)):=by
 have:=QA.sliceO (h:=h) (l:=0) (hi:=k) (lo:=none) (hi':=some y) ht hx (by simp [Yk]) (by simp [Yk,hy]) (Lz _) hk (.inl rfl)
 rwa [Nat.zero_mul,Nz,Nat.sub_zero] at this
theorem QA.sliceNl {t e size bytes:Nat} {x y:Operand} {k:IntKind} (ht:QR P t=some (e,size,bytes)) (hx:ρ x=.c .nils) (hy:ρ y=.c (.int k 0)):QA P h ρ (.slice t x (some y) none none) (.c .nils):=fun S w ev' hS ho _=>by
 have r:=ho x Ag
 rw [hx] at r
 obtain⟨A,hv⟩:=r
 obtain⟨hu,inf,hi0,hsz,_⟩:=Xg ht
 have ry:ev' y=.int k 0:=by have:=ho y Ag;rw [hy] at this;exact this
 have hsb:=ZA (P:=P) (w:=w) (len:=0) (cap:=0) (l:=0) (hi:=0) (lo:=some (ev' y)) (hi':=none) (.inr ⟨k,by rw [ry];rfl⟩) (.inl ⟨rfl,rfl⟩) (Ac _) (Ac _) (Ac _)
 refine⟨.slice A 0 0,fun o hop=> ?_,A,rfl⟩
 simp [execOp,hop,Instr.sliceAt,run_underlying hu,Instr.slice,hv,hsb,sizeOf,typeInfo,hi0,hsz]
theorem QA.sliceNh {t e size bytes:Nat} {x y:Operand} {k:IntKind} (ht:QR P t=some (e,size,bytes)) (hx:ρ x=.c .nils) (hy:ρ y=.c (.int k 0)):QA P h ρ (.slice t x none (some y) none) (.c .nils):=fun S w ev' hS ho _=>by
 have r:=ho x Ag
 rw [hx] at r
 obtain⟨A,hv⟩:=r
 obtain⟨hu,inf,hi0,hsz,_⟩:=Xg ht
 have ry:ev' y=.int k 0:=by have:=ho y Ag;rw [hy] at this;exact this
 have hsb:=ZA (P:=P) (w:=w) (len:=0) (cap:=0) (l:=0) (hi:=0) (lo:=none) (hi':=some (ev' y)) (.inl ⟨rfl,rfl⟩) (.inr ⟨k,by rw [ry];rfl⟩) (Ac _) (Ac _) (Ac _)
 refine⟨.slice A 0 0,fun o hop=> ?_,A,rfl⟩
 simp [execOp,hop,Instr.sliceAt,run_underlying hu,Instr.slice,hv,hsb,sizeOf,typeInfo,hi0,hsz]
end
section
variable {E : Vl} {K : List It} {l : List Oper} {FP FP' : Qa} {σ σ' : Sl} {h : Qa} {o : Oper}
theorem Qd5 {i mk:Nat} {cs:List (Nat×Nat)} {t e size bytes n k g:Nat} {z:List CV} {f f2:Nat→CV} {s x:Operand} {cx:CV} {h2:Qa} (ho:l[i]?=some o) (hop:o.op=.call {callee:=.builtin .append,args:= #[s,x],argTypes:= #[t,t]}) (hw:Qx l σ o=some true) (hd:Qw E.N o.dst=true)
  (ht:QR E.P t=some (e,size,bytes)) (hz:Qj E.P e=some z) (hzl:z.length=size) (hs0:0<size) (hs:ev σ s=.c (.osl g size 0 n)) (hg:h.get g=some (.cells e (n*size) f)) (hx:ev σ x=.c cx) (hsrc:Src h size cx k f2) (hsol:∀j,j<k*size→(f2 j).solid=true)
  (h63:n+k≤maxLen) (hby:(n+k)*bytes≤140737488355328) (hh2:h.del g=h2) (hFP:Kp FP' h2)
  (kk:∀g',g'∉h2.keys→CW E l K FP' cs (σ.setO o.dst (.c (.osl g' size 0 (n+k)))) ((g',.cells e ((n+k)*size) (Xq f (n*size) f2))::h2)) (hmk:mk=2∨mk=1∧FP'=FP:=by first|exact .inl rfl|exact .inr ⟨rfl,rfl⟩):CW E l K FP ((i,mk)::cs) σ h:=by
 refine .pin ho hmk (R:=fun r hh=>∃g',g'∉h2.keys∧r=.c (.osl g' size 0 (n+k))∧hh=(g',.cells e ((n+k)*size) (Xq f (n*size) f2))::h2) (fun σ' K hsm=> ?_) ?_ ?_
 ·have e1:=(XI (by rw [hop];simp [Op.operands,Call.operands]) hsm).trans hs
  have e2:=(XI (by rw [hop];simp [Op.operands,Call.operands]) hsm).trans hx
  by_cases hk:0<k
  ·exact YC hop ((Xh hsm).trans hw) hd ht hz hzl hs0 e1 hg (Ac _) e2 hsrc hsol hk h63 hby hh2 fun g' hg'=>XA (Qb ⟨_,⟨g',hg',rfl,rfl⟩,rfl⟩)
  ·obtain rfl:k=0:=by omega
   refine Y9 fun hnd=> ?_
   refine VM (cs:=.osl g size 0 n) hop ((Xh hsm).trans hw) hd ht e1 rfl e2 hsrc rfl ?_
   have hp:=Qa.get_perm hg
   rw [hh2] at hp
   have hnd2:=(List.Perm.nodup_iff (hp.map (fun p:Nat×XD=>p.1))).1 (show(h.map fun p=>p.1).Nodup from hnd)
   refine Qi hp ?_
   refine QU (f':=Xq f (n*size) f2) (fun j hj=>by simp [Xq,hj]) ?_
   exact XA (Qb ⟨_,⟨g,(List.nodup_cons.1 hnd2).1,rfl,rfl⟩,rfl⟩)
 ·rintro r hh ⟨g',_,_,rfl⟩;exact fun p hp=>Lm _ (hFP p hp)
 ·rintro r hh ⟨g',hg',rfl,rfl⟩;exact kk g' hg'
theorem Qn4 {i mk:Nat} {cs:List (Nat×Nat)} {t e size bytes k:Nat} {z:List CV} {f2:Nat→CV} {s x:Operand} {cx:CV} (ho:l[i]?=some o) (hop:o.op=.call {callee:=.builtin .append,args:= #[s,x],argTypes:= #[t,t]}) (hw:Qx l σ o=some true) (hd:Qw E.N o.dst=true)
  (ht:QR E.P t=some (e,size,bytes)) (hz:Qj E.P e=some z) (hzl:z.length=size) (hs0:0<size) (hs:ev σ s=.c .nils) (hx:ev σ x=.c cx) (hsrc:Src h size cx k f2) (hk:0<k)
  (h63:k≤maxLen) (hby:k*bytes≤140737488355328) (hFP:Kp FP' h)
  (kk:∀g',g'∉h.keys→CW E l K FP' cs (σ.setO o.dst (.c (.osl g' size 0 k))) ((g',.cells e (k*size) f2)::h)) (hmk:mk=2∨mk=1∧FP'=FP:=by first|exact .inl rfl|exact .inr ⟨rfl,rfl⟩):CW E l K FP ((i,mk)::cs) σ h:=by
 refine .pin ho hmk (R:=fun r hh=>∃g',g'∉h.keys∧r=.c (.osl g' size 0 k)∧hh=(g',.cells e (k*size) f2)::h) (fun σ' K hsm=> ?_) ?_ ?_
 ·exact WU hop ((Xh hsm).trans hw) hd ht hz hzl hs0 ((XI (by rw [hop];simp [Op.operands,Call.operands]) hsm).trans hs) ((XI (by rw [hop];simp [Op.operands,Call.operands]) hsm).trans hx) hsrc hk h63 hby fun g' hg'=>XA (Qb ⟨_,⟨g',hg',rfl,rfl⟩,rfl⟩)
 ·rintro r hh ⟨g',_,_,rfl⟩;exact fun p hp=>Lm _ (hFP p hp)
 ·rintro r hh ⟨g',hg',rfl,rfl⟩;exact kk g' hg'
end
end Go.AI
namespace Go.PN
variable {α β : Type}
theorem Qd6 (f:α→BS) (x:α) (l:List α) (k:Nat) (h1:∀y∈l.drop k,VU (f x) (f y)=true) (h2:∀y,(l.take k).getLast?=some y→VU (f x) (f y)=false):Jz f x l=l.take k++x::l.drop k:=by
 have hl:l.reverse=(l.drop k).reverse++(l.take k).reverse:=by rw [←List.reverse_append,List.take_append_drop]
 have ht:(l.take k).reverse.takeWhile (fun y=>VU (f x) (f y))=[]:=by
  cases hr:(l.take k).reverse with
  |nil=>rfl
  |cons a r=>
   have:=h2 a (by rw [List.getLast?_eq_head?_reverse,hr];rfl)
   rw [List.takeWhile_cons,this];rfl
 have hd:(l.take k).reverse.dropWhile (fun y=>VU (f x) (f y))=(l.take k).reverse:=by
  cases hr:(l.take k).reverse with
  |nil=>rfl
  |cons a r=>
   have:=h2 a (by rw [List.getLast?_eq_head?_reverse,hr];rfl)
   rw [List.dropWhile_cons,this];rfl
 have h3:∀y∈(l.drop k).reverse,VU (f x) (f y)=true:=fun y hy=>h1 y (List.mem_reverse.1 hy)
 unfold Jz
 rw [hl,List.takeWhile_append_of_pos h3,List.dropWhile_append_of_pos h3,ht,hd,Lp,List.reverse_reverse,List.reverse_reverse]
theorem QsY (g:α→β) (f:β→BS) (x:α) (l:List α):Jz f (g x) (l.map g)=(Jz (fun a=>f (g a)) x l).map g:=by
 unfold Jz
 rw [←List.map_reverse,List.takeWhile_map,List.dropWhile_map,List.map_append,Ld,List.map_reverse,List.map_reverse]
 rfl
theorem Qdc (g:α→β) (f:β→BS) (l:List α):Qk f (l.map g)=(Qk (fun a=>f (g a)) l).map g:=by
 have key:∀(l a:List α),(l.map g).foldl (fun a x=>Jz f x a) (a.map g)=(l.foldl (fun a x=>Jz (fun a=>f (g a)) x a) a).map g:=by
  intro l
  induction l with
  |nil=>intro a;rfl
  |cons x l ih=>
   intro a
   rw [Ld,List.foldl_cons,List.foldl_cons,QsY,ih]
 exact key l []
theorem Vj (f:α→BS) (l:List α):(Qk f l).length=l.length:=(Qau f l []).length_eq
theorem QfS (f:α→BS) (l:List α) (x:α):Qk f (l++[x])=Jz f x (Qk f l):=by
 unfold Qk
 rw [List.foldl_append];rfl
def Z3 (names:List BS) (i:Nat):List Nat:=Qk (fun j=>names.getD j []) (List.range i)
theorem Qqb (names:List BS) (i:Nat):Z3 names (i+1)=Jz (fun j=>names.getD j []) i (Z3 names i):=by
 unfold Z3
 rw [List.range_succ,QfS]
theorem Ja (names:List BS) (i:Nat):(Z3 names i).length=i:=by unfold Z3;rw [Vj,List.length_range]
theorem Oi {names:List BS} {i j:Nat} (h:j∈Z3 names i):j<i:=List.mem_range.1 (((Qau _ (List.range i) []).mem_iff).1 h)
theorem Qag (f:α→BS) (l:List α) (d:α):(Z3 (l.map f) l.length).map (fun j=>l.getD j d)=Qk f l:=by
 have e:(List.range l.length).map (fun j=>l.getD j d)=l:=by
  refine List.ext_getElem (by simp) fun j h1 h2=> ?_
  rw [List.getElem_map,List.getElem_range,Lg,Li h2];rfl
 have h:=Qdc (fun j=>l.getD j d) f (List.range l.length)
 rw [e] at h
 rw [h]
 unfold Z3
 have hc:∀(L a:List Nat),(∀j∈L,j<l.length)→(∀j∈a,j<l.length)→L.foldl (fun a x=>Jz (fun j=>(l.map f).getD j []) x a) a=L.foldl (fun a x=>Jz (fun j=>f (l.getD j d)) x a) a:=by
  have hn:∀j,j<l.length→(l.map f).getD j []=f (l.getD j d):=fun j hj=>by
   rw [Lg,Lg,List.getElem?_map,Li hj];rfl
  intro L
  induction L with
  |nil=>intro a _ _;rfl
  |cons x L ih=>
   intro a h1 h2
   have hx:=h1 x (by simp)
   have hi:Jz (fun j=>(l.map f).getD j []) x a=Jz (fun j=>f (l.getD j d)) x a:=by
    have hp:∀y∈a.reverse,VU ((l.map f).getD x []) ((l.map f).getD y [])=VU (f (l.getD x d)) (f (l.getD y d)):=fun y hy=>by
     rw [hn x hx,hn y (h2 y (List.mem_reverse.1 hy))]
    have ht:∀(r:List Nat),(∀y∈r,VU ((l.map f).getD x []) ((l.map f).getD y [])=VU (f (l.getD x d)) (f (l.getD y d)))→(r.takeWhile fun y=>VU ((l.map f).getD x []) ((l.map f).getD y []))=(r.takeWhile fun y=>VU (f (l.getD x d)) (f (l.getD y d)))∧(r.dropWhile fun y=>VU ((l.map f).getD x []) ((l.map f).getD y []))=(r.dropWhile fun y=>VU (f (l.getD x d)) (f (l.getD y d))):=by
     intro r
     induction r with
     |nil=>intro _;exact⟨rfl,rfl⟩
     |cons y r ih2=>
      intro hr
      have h3:=hr y (by simp)
      obtain⟨i1,i2⟩:=ih2 fun z hz=>hr z (by simp [hz])
      simp only [List.takeWhile_cons,List.dropWhile_cons,h3,i1,i2,and_self]
    obtain⟨i1,i2⟩:=ht a.reverse hp
    unfold Jz
    rw [i1,i2]
   rw [List.foldl_cons,List.foldl_cons,hi]
   refine ih _ (fun j hj=>h1 j (by simp [hj])) fun j hj=> ?_
   rcases Lb.1 ((QgH _ x a).mem_iff.1 hj) with e|e
   ·rw [e];exact hx
   ·exact h2 j e
 exact congrArg _ (hc (List.range l.length) [] (fun j hj=>List.mem_range.1 hj) (fun j hj=>by cases hj))
end Go.PN
namespace Go.PN
open Go.AI
variable {α : Type}
theorem Qg7 {l:List α} {k:Nat} (d:α) (hk:k+1≤l.length):(l.take (k+1)).getLast?=some (l.getD k d):=by
 rw [List.getLast?_eq_getElem?,List.length_take,Nat.min_eq_left hk,List.getElem?_take,iP om,Lg,Nat.add_sub_cancel,Li (show k<l.length by omega)];rfl
theorem Qn5 (l:List α) (d:α) {j:Nat} (h:j<l.length):l.take (j+1)=l.take j++[l.getD j d]:=by
 rw [List.take_add_one,Li h,Lg,Li h];rfl
theorem Qcf {p:α→Prop} {l:List α} {k:Nat} (d:α) (h:∀j,k≤j→j<l.length→p (l.getD j d)):∀y∈l.drop k,p y:=fun y hy=>by
 obtain⟨i,hi,rfl⟩:=List.mem_iff_getElem.1 hy
 rw [List.length_drop] at hi
 have:=h (k+i) om om
 rw [Lg,Li om] at this
 rw [List.getElem_drop]
 exact this
theorem Qv6 {c:α→CV} {d:α} {F:List α→Nat→CV} (hF:∀l j,F l j=c (l.getD j d)) (x:α) (l:List α) {k:Nat} (hk:k≤l.length) (j:Nat):Xq (F l) k (Xq (ofL [c x]) 1 fun j=>c (l.getD (k+j) d)) j=F (l.take k++x::l.drop k) j:=by
 have ht:(l.take k).length=k:=by rw [List.length_take];omega
 rw [hF]
 simp only [Xq]
 by_cases h1:j<k
 ·rw [iP h1,hF,Lg,Lg,List.getElem?_append_left om,List.getElem?_take,iP h1]
 ·rw [iN h1,Lg (l:=_++_),List.getElem?_append_right om,ht]
  by_cases h2:j-k<1
  ·rw [iP h2,show j-k=0 from by omega];rfl
  ·obtain⟨q,hq⟩:∃q,j-k=q+1:=⟨j-k-1,by omega⟩
   rw [iN h2,hq,List.getElem?_cons_succ,List.getElem?_drop,Nat.add_sub_cancel,←Lg]
theorem Qn6 {x:CV} {f:Nat→CV} (hx:x.solid=true) (hf:∀j,(f j).solid=true) (n:Nat):∀j,j<n→(Xq (ofL [x]) (1*1) f j).solid=true:=fun j _=>by
 unfold Xq
 split
 ·rename_i h
  obtain rfl:j=0:=by omega
  exact hx
 ·exact hf _
end Go.PN
namespace Go.Proofs.YtngjgahldnnapaaGreatDoor
open Go.AI Go.PN Proofs.Tryz
attribute [local irreducible] aw Fa ZN ZZ Fh YE
theorem Qbi (t:Bool) (l:List BS) (hl:l.length≤1048576):Fa prog 92 [.c (X0 t l)] (.c (X0 true (Qk id l))):=by
 refine fA func92 fun C hC=>?_
 repeat' first|refine zV o0 ?_|refine zH o0 ?_ ?_<;>intro hb|fail
 refine Qh (fun z:Nat×Option Nat=>[(3,.c (gs z.2 1 z.1)),(7,.c (X0 t l)),(8,.c (.int .i64 l.length)),(9,.c (.int .i64 z.1))]) (fun z=>gh z.2 9 (z.1*1) (Qe (Qk id (l.take z.1)))) (fun z=>z.1≤l.length∧(z.2=none→z.1=0)) (fun z=>l.length-z.1) (0,none) eB zZ ⟨Lz _,fun _=>rfl⟩ ?_
 rintro ⟨i,og⟩ ⟨hi,hog⟩
 dsimp only at hi hog⊢
 have ho:(Qk id (l.take i)).length=i:=by rw [Vj,List.length_take];omega
 repeat' first|refine zV o0 ?_|refine zH o0 ?_ ?_<;>intro hb|fail
 ·have hsn:Qk id (l.take (i+1))=Jz id (l.getD i []) (Qk id (l.take i)):=by rw [Qn5 l [] hb,QfS]
  generalize l.getD i []=s at*
  generalize Qk id (l.take i)=out at*
  refine QT (QA.lenS eE eE (Qbv (s:=1) hog)) rfl rfl ?_
  refine xS ?_
  refine xH ?_
  apply Yd
  refine Yy (fun k:Nat=>[(3,.c (gs og 1 i)),(5,.c (.str (sB s))),(6,.c (.int .i64 k)),(7,.c (X0 t l)),(8,.c (.int .i64 l.length)),(9,.c (.int .i64 i))]) (fun _=>gh og 9 i (Qe out)) (fun k=>k≤i∧Jz id s out=out.take k++s::out.drop k) ?_ ?_
  ·apply Zz
   refine Qh (fun k:Nat=>[(3,.c (gs og 1 i)),(5,.c (.str (sB s))),(6,.c (.int .i64 k)),(7,.c (X0 t l)),(8,.c (.int .i64 l.length)),(9,.c (.int .i64 i))]) (fun _=>gh og 9 i (Qe out)) (fun k=>k≤i∧∀j,k≤j→j<i→VU s (out.getD j [])=true) (fun k=>k) i eB zZ ⟨Ac _,fun j h1 h2=>absurd h1 om⟩ ?_
   rintro k ⟨hk,hall⟩
   cases k with
   |zero=>
    repeat' first|refine zV o0 ?_|refine zH o0 ?_ ?_<;>intro hb|fail
    exact Qb ⟨0,eB,zZ,Lz _,Qd6 id s out 0 (Qcf [] fun j h1 h2=>hall j h1 om) (fun y h=>by cases h)⟩
   |succ k=>
    obtain⟨g,rfl⟩:∃g,og=some g:=by
     cases og with
     |none=>have:=hog rfl;omega
     |some g=>exact⟨g,rfl⟩
    simp only [gs,gh]
    have e1:(k:Int)+1-1=(k:Int):=by omega
    have e2:decide ((k:Int)+1>0)=true:=Dt om
    all_goals try(have Z:=(oj e1 e2);(repeat' first|refine zV Z ?_|refine zH Z ?_ ?_<;>intro hb|fail);all_goals clear Z)
    ·refine Qb ⟨k,by omega,(zB (oj e1 e2)),zZ,by omega,fun j h1 h2=> ?_⟩
     by_cases e:j=k
     ·rw [e];exact hb
     ·exact hall j om h2
    ·exact Qb ⟨k+1,(zB (oj e1 e2)),zZ,hk,Qd6 id s out (k+1) (Qcf [] fun j h1 h2=>hall j h1 om) (fun y h=>by rw [Qg7 [] om] at h;injection h with h;rw [←h];exact hb)⟩
  ·rintro k ⟨hk,hn⟩
   rw [hn] at hsn
   cases og with
   |none=>
    obtain rfl:i=0:=hog rfl
    obtain rfl:k=0:=by omega
    obtain rfl:out=[]:=Lh.1 ho
    simp only [gs,gh]
    repeat' first|refine zV o0 ?_|refine zH o0 ?_ ?_<;>intro hb|fail
    refine Yf [] [(0,0),(1,0),(2,0),(3,0),(5,0),(6,0),(7,0),(4,1),(8,1),(9,2),(10,0)] Qg kR Qf ?_
    refine xG ?_
    refine Vq rfl (fun _ _=>QA.sliceNh (by exact XL) eE eE) rfl rfl ?_
    refine Z1 ?_
    refine Vq rfl (fun _ _=>QA.sliceNl (by exact XL) eE eE) rfl rfl ?_
    refine Z1 ?_
    refine Qs (xs:=[.tmp 31]) (cells:=[.str (sB s)]) rfl rfl rfl rfl eE (by refine xS ?_;rfl) rfl om om qd rfl (by intro z hz;simp only [Lv] at hz;subst hz;simp [Op.operands]) Qf (fun gx n_x=> ?_) (.inr ⟨rfl,rfl⟩)
    refine Z1 ?_
    refine Qd5 (size:=1) (n:=1) (k:=0) (g:=gx) (f:=ofL [.str (sB s)]) (f2:=fun _=>.any) (cx:=.nils) (h2:=[]) rfl rfl rfl rfl (by exact XL) (by exact Zb) rfl om eE (by simp [Qa.get]) eE .nils (fun i hi=>absurd hi om) qc om (by simp [Qa.del]) Qf (fun gy n_y=> ?_) (.inr ⟨rfl,rfl⟩)
    refine Z1 ?_
    refine Qn4 (size:=1) (k:=1) (f2:=ofL [.str (sB s)]) (cx:=.osl gy 1 0 1) rfl rfl rfl rfl (by exact XL) (by exact Zb) rfl om eE eE (.osl eE om (fun j hj=>by match j,hj with|0,_=>rfl)) om qc om Qf (fun gz n_z=> ?_)
    refine Z1 ?_
    refine QU (f':=Qe (Qk id (l.take (0+1)))) (fun j hj=>by rw [hsn];match j,hj with|0,_=>rfl) ?_
    refine QM (h':=[(gz,.cells 9 1 (Qe (Qk id (l.take (0+1)))))]) (Sl.le_refl _) (List.Sublist.cons_cons _ (.cons _ .slnil)) ?_
    exact Qb ⟨(0+1,some gz),by dsimp only;omega,eB,zZ,by dsimp only;omega,fun e=>by cases e⟩
   |some g=>
    simp only [gs,gh]
    obtain⟨cx,hc1,hc2⟩:=Qg6 (P:=prog) (t:=74) (g:=g) (ty:=9) (m:=i) (f:=Qe out) (by exact XL) hk om
    repeat' first|refine zV o0 ?_|refine zH o0 ?_ ?_<;>intro hb|fail
    refine Yf [] [(0,0),(1,0),(2,0),(3,0),(5,0),(6,0),(7,0),(4,1),(8,1),(9,2),(10,0)] Qg kR Qf ?_
    refine xG ?_
    refine Vq rfl (fun h _=>QA.sliceH (by exact XL) eE eE hk) rfl rfl ?_
    refine Z1 ?_
    refine Vq rfl (fun h _=>hc1 h _ _ _ _ eE eE) rfl rfl ?_
    refine Z1 ?_
    refine Qs (xs:=[.tmp 31]) (cells:=[.str (sB s)]) rfl rfl rfl rfl eE (by refine xS ?_;rfl) rfl om om qd rfl (by intro z hz;simp only [Lv] at hz;subst hz;simp [Op.operands]) Qf (fun gx n_x=> ?_) (.inr ⟨rfl,rfl⟩)
    replace n_x:=Qa.ne_of n_x
    dsimp only [Qa.ne] at n_x
    refine Xp n_x ?_
    refine Qd5 (size:=1) (n:=1) (k:=i-k) (g:=gx) (f:=ofL [.str (sB s)]) (f2:=fun j=>Qe out (k*1+j)) (cx:=cx) (h2:=[(g,.cells 9 i (Qe out))]) rfl rfl rfl rfl (by exact XL) (by exact Zb) rfl om (zE n_x) (by simp [Qa.get]) (zE n_x) (hc2 _ (zE n_x)) (fun j _=>Yb _ _) qc om (by simp [Qa.del]) Qf (fun gy n_y=> ?_) (.inr ⟨rfl,rfl⟩)
    replace n_y:=Qa.ne_of n_y
    dsimp only [Qa.ne] at n_y
    have J1:=oj n_x n_y
    refine Xp J1 ?_
    refine KK (size:=1) (n:=k) (k:=1+(i-k)) (m:=i) (g:=g) (f:=Qe out) (f2:=Xq (ofL [.str (sB s)]) (1*1) fun j=>Qe out (k*1+j)) (cx:=.osl gy 1 0 (1+(i-k))) (h2:=[(gy,.cells 9 (1+(i-k)) (Xq (ofL [.str (sB s)]) (1*1) fun j=>Qe out (k*1+j)))]) rfl rfl rfl rfl (by exact XL) (by exact Zb) rfl om (zE J1) (zE J1) om (zE J1) (.osl (m:=1+(i-k)) (f':=Xq (ofL [.str (sB s)]) (1*1) fun j=>Qe out (k*1+j)) (zE J1) om (fun j _=>by rw [Nz])) (Qn6 rfl (fun j=>Yb _ _) _) om qc om (by simp [Qa.del,n_y,Xb]) Qf (fun gz n_z=> ?_)
    replace n_z:=Qa.ne_of n_z
    dsimp only [Qa.ne] at n_z
    have J2:=oj n_x (oj n_y n_z)
    refine Xp J2 ?_
    have en:k+(1+(i-k))=i+1:=by omega
    rw [en]
    refine QU (f':=Qe (Qk id (l.take (i+1)))) (fun j hj=>by rw [hsn];exact Qv6 (c:=fun b=>CV.str (sB b)) (d:=[]) (F:=Qe) Xb s out (k:=k) om j) ?_
    refine QM (h':=[(gz,.cells 9 (i+1) (Qe (Qk id (l.take (i+1)))))]) (Sl.le_refl _) (List.Sublist.cons_cons _ (.cons _ .slnil)) ?_
    exact Qb ⟨(i+1,some gz),by dsimp only;omega,(zB J2),zZ,by dsimp only;omega,fun e=>by cases e⟩
 ·obtain rfl:i=l.length:=by omega
  rw [Lk]
  refine Qi (h':=gh og 9 (l.length*1) (Qe (Qk id l))++[]) (by rw [Lp]) ?_
  refine Vw (t:=2) (s:=1) (f:=Qe (Qk id l)) (f':=Qe (Qk id l)) hog (show l.length=(Qk id l).length from(Vj id l).symm) eE (fun g _=>hC g) (fun i _=>rfl) eE ?_
  refine xS ?_
  refine xT hC ?_
  exact .one (.c QeQ)
end Go.Proofs.YtngjgahldnnapaaGreatDoor
namespace Go.PN
def zP (l:List Nat):List Int:=l.map fun(n:Nat)=>(n:Int)
theorem Qah (l:List Nat):(zP l).length=l.length:=by unfold zP;rw [Lw]
theorem Qbj (l:List Nat) (i:Nat):(zP l).getD i 0=((l.getD i 0:Nat):Int):=by
 unfold zP
 rw [Lg,Lg,List.getElem?_map]
 cases l[i]?<;>rfl
theorem Qxw (l:List Nat) (k i:Nat):zP (l.take k++i::l.drop k)=(zP l).take k++(i:Int)::(zP l).drop k:=by
 unfold zP
 rw [List.map_append,Ld,List.map_take,List.map_drop]
end Go.PN
namespace Go.Proofs.YtngjgahldnnapaaGreatDoor
open Go.AI Go.PN Proofs.Tryz
attribute [local irreducible] aw Fa ZN ZZ Fh YE
theorem Qg8 (t:Bool) (l:List BS) (hl:l.length≤1048576):Fa prog 91 [.c (X0 t l)] (.c (is true (zP (Z3 l l.length)))):=by
 refine fA func91 fun C hC=>?_
 repeat' first|refine zV o0 ?_|refine zH o0 ?_ ?_<;>intro hb|fail
 refine Qh (fun z:Nat×Option Nat=>[(0,.c (X0 t l)),(3,.c (gs z.2 1 z.1)),(7,.c (.int .i64 l.length)),(8,.c (.int .i64 z.1))]) (fun z=>gh z.2 3 (z.1*1) (isF (zP (Z3 l z.1)))) (fun z=>z.1≤l.length∧(z.2=none→z.1=0)) (fun z=>l.length-z.1) (0,none) eB zZ ⟨Lz _,fun _=>rfl⟩ ?_
 rintro ⟨i,og⟩ ⟨hi,hog⟩
 dsimp only at hi hog⊢
 have ho:(Z3 l i).length=i:=Ja l i
 have hlt:∀j,j<i→(Z3 l i).getD j 0<i:=fun j hj=>Oi (Vi _ _ om)
 repeat' first|refine zV o0 ?_|refine zH o0 ?_ ?_<;>intro hb|fail
 ·have hsn:=Qqb l i
  generalize Z3 l i=out at*
  refine QT (QA.lenS eE eE (Qbv (s:=1) hog)) rfl rfl ?_
  refine xS ?_
  refine xH ?_
  apply Yd
  refine Yy (fun k:Nat=>[(0,.c (X0 t l)),(3,.c (gs og 1 i)),(4,.c (.int .i64 i)),(5,.c (.int .i64 k)),(7,.c (.int .i64 l.length)),(8,.c (.int .i64 i))]) (fun _=>gh og 3 i (isF (zP out))) (fun k=>k≤i∧Jz (fun j=>l.getD j []) i out=out.take k++i::out.drop k) ?_ ?_
  ·apply Zz
   refine Qh (fun k:Nat=>[(0,.c (X0 t l)),(3,.c (gs og 1 i)),(4,.c (.int .i64 i)),(5,.c (.int .i64 k)),(7,.c (.int .i64 l.length)),(8,.c (.int .i64 i))]) (fun _=>gh og 3 i (isF (zP out))) (fun k=>k≤i∧∀j,k≤j→j<i→VU (l.getD i []) (l.getD (out.getD j 0) [])=true) (fun k=>k) i eB zZ ⟨Ac _,fun j h1 h2=>absurd h1 om⟩ ?_
   rintro k ⟨hk,hall⟩
   cases k with
   |zero=>
    repeat' first|refine zV o0 ?_|refine zH o0 ?_ ?_<;>intro hb|fail
    refine Xv 17 Qg kR ?_
    repeat' first|refine zV o0 ?_|refine zH o0 ?_ ?_<;>intro hb|fail
    exact Qb ⟨0,eB,zZ,Lz _,Qd6 (fun j=>l.getD j []) i out 0 (Qcf 0 fun j h1 h2=>hall j h1 om) (fun y h=>by cases h)⟩
   |succ k=>
    obtain⟨g,rfl⟩:∃g,og=some g:=by
     cases og with
     |none=>have:=hog rfl;omega
     |some g=>exact⟨g,rfl⟩
    simp only [gs,gh]
    have e1:(k:Int)+1-1=(k:Int):=by omega
    have e2:decide ((k:Int)+1>0)=true:=Dt om
    have hq:=hlt k om
    have e3:=Qbj out k
    generalize hqq:out.getD k 0=q at*
    have hql:q<l.length:=by omega
    all_goals try(have Z:=(oj e1 (oj e2 e3));(repeat' first|refine zV Z ?_|refine zH Z ?_ ?_<;>intro hb|fail);all_goals clear Z)
    refine Xv 17 Qg kR ?_
    all_goals try(have Z:=(oj e1 (oj e2 e3));(repeat' first|refine zV Z ?_|refine zH Z ?_ ?_<;>intro hb|fail);all_goals clear Z)
    ·refine Qb ⟨k,by omega,(zB (oj e1 (oj e2 e3))),zZ,by omega,fun j h1 h2=> ?_⟩
     by_cases e:j=k
     ·rw [e,hqq];exact hb
     ·exact hall j om h2
    ·exact Qb ⟨k+1,(zB (oj e1 (oj e2 e3))),zZ,hk,Qd6 (fun j=>l.getD j []) i out (k+1) (Qcf 0 fun j h1 h2=>hall j h1 om) (fun y h=>by rw [Qg7 0 om,hqq] at h;injection h with h;rw [←h];exact hb)⟩
  ·rintro k ⟨hk,hn⟩
   rw [hn] at hsn
   cases og with
   |none=>
    obtain rfl:i=0:=hog rfl
    obtain rfl:k=0:=by omega
    obtain rfl:out=[]:=Lh.1 ho
    simp only [gs,gh]
    repeat' first|refine zV o0 ?_|refine zH o0 ?_ ?_<;>intro hb|fail
    refine Yf [] [(0,0),(1,0),(2,0),(3,0),(5,0),(6,0),(7,0),(4,1),(8,1),(9,2),(10,0)] Qg kR Qf ?_
    refine xG ?_
    refine Vq rfl (fun _ _=>QA.sliceNh (by exact VX) eE eE) rfl rfl ?_
    refine Z1 ?_
    refine Vq rfl (fun _ _=>QA.sliceNl (by exact VX) eE eE) rfl rfl ?_
    refine Z1 ?_
    refine Qs (xs:=[.tmp 35]) (cells:=[.int .i64 ((0:Nat):Int)]) rfl rfl rfl rfl eE (by refine xS ?_;rfl) rfl om om qd rfl (by intro z hz;simp only [Lv] at hz;subst hz;simp [Op.operands]) Qf (fun gx n_x=> ?_) (.inr ⟨rfl,rfl⟩)
    refine Z1 ?_
    refine Qd5 (size:=1) (n:=1) (k:=0) (g:=gx) (f:=ofL [.int .i64 ((0:Nat):Int)]) (f2:=fun _=>.any) (cx:=.nils) (h2:=[]) rfl rfl rfl rfl (by exact VX) (by exact QdQ) rfl om eE (by simp [Qa.get]) eE .nils (fun i hi=>absurd hi om) qc om (by simp [Qa.del]) Qf (fun gy n_y=> ?_) (.inr ⟨rfl,rfl⟩)
    refine Z1 ?_
    refine Qn4 (size:=1) (k:=1) (f2:=ofL [.int .i64 ((0:Nat):Int)]) (cx:=.osl gy 1 0 1) rfl rfl rfl rfl (by exact VX) (by exact QdQ) rfl om eE eE (.osl eE om (fun j hj=>by match j,hj with|0,_=>rfl)) om qc om Qf (fun gz n_z=> ?_)
    refine Z1 ?_
    refine QU (f':=isF (zP (Z3 l (0+1)))) (fun j hj=>by rw [hsn];match j,hj with|0,_=>rfl) ?_
    refine QM (h':=[(gz,.cells 3 1 (isF (zP (Z3 l (0+1)))))]) (Sl.le_refl _) (List.Sublist.cons_cons _ (.cons _ .slnil)) ?_
    exact Qb ⟨(0+1,some gz),by dsimp only;omega,eB,zZ,by dsimp only;omega,fun e=>by cases e⟩
   |some g=>
    simp only [gs,gh]
    obtain⟨cx,hc1,hc2⟩:=Qg6 (P:=prog) (t:=112) (g:=g) (ty:=3) (m:=i) (f:=isF (zP out)) (by exact VX) hk om
    repeat' first|refine zV o0 ?_|refine zH o0 ?_ ?_<;>intro hb|fail
    refine Yf [] [(0,0),(1,0),(2,0),(3,0),(5,0),(6,0),(7,0),(4,1),(8,1),(9,2),(10,0)] Qg kR Qf ?_
    refine xG ?_
    refine Vq rfl (fun h _=>QA.sliceH (by exact VX) eE eE hk) rfl rfl ?_
    refine Z1 ?_
    refine Vq rfl (fun h _=>hc1 h _ _ _ _ eE eE) rfl rfl ?_
    refine Z1 ?_
    refine Qs (xs:=[.tmp 35]) (cells:=[.int .i64 (i:Int)]) rfl rfl rfl rfl eE (by refine xS ?_;rfl) rfl om om qd rfl (by intro z hz;simp only [Lv] at hz;subst hz;simp [Op.operands]) Qf (fun gx n_x=> ?_) (.inr ⟨rfl,rfl⟩)
    replace n_x:=Qa.ne_of n_x
    dsimp only [Qa.ne] at n_x
    refine Xp n_x ?_
    refine Qd5 (size:=1) (n:=1) (k:=i-k) (g:=gx) (f:=ofL [.int .i64 (i:Int)]) (f2:=fun j=>isF (zP out) (k*1+j)) (cx:=cx) (h2:=[(g,.cells 3 i (isF (zP out)))]) rfl rfl rfl rfl (by exact VX) (by exact QdQ) rfl om (zE n_x) (by simp [Qa.get]) (zE n_x) (hc2 _ (zE n_x)) (fun j _=>rfl) qc om (by simp [Qa.del]) Qf (fun gy n_y=> ?_) (.inr ⟨rfl,rfl⟩)
    replace n_y:=Qa.ne_of n_y
    dsimp only [Qa.ne] at n_y
    have J1:=oj n_x n_y
    refine Xp J1 ?_
    refine KK (size:=1) (n:=k) (k:=1+(i-k)) (m:=i) (g:=g) (f:=isF (zP out)) (f2:=Xq (ofL [.int .i64 (i:Int)]) (1*1) fun j=>isF (zP out) (k*1+j)) (cx:=.osl gy 1 0 (1+(i-k))) (h2:=[(gy,.cells 3 (1+(i-k)) (Xq (ofL [.int .i64 (i:Int)]) (1*1) fun j=>isF (zP out) (k*1+j)))]) rfl rfl rfl rfl (by exact VX) (by exact QdQ) rfl om (zE J1) (zE J1) om (zE J1) (.osl (m:=1+(i-k)) (f':=Xq (ofL [.int .i64 (i:Int)]) (1*1) fun j=>isF (zP out) (k*1+j)) (zE J1) om (fun j _=>by rw [Nz])) (Qn6 rfl (fun j=>rfl) _) om qc om (by simp [Qa.del,n_y,isF]) Qf (fun gz n_z=> ?_)
    replace n_z:=Qa.ne_of n_z
    dsimp only [Qa.ne] at n_z
    have J2:=oj n_x (oj n_y n_z)
    refine Xp J2 ?_
    have en:k+(1+(i-k))=i+1:=by omega
    rw [en]
    refine QU (f':=isF (zP (Z3 l (i+1)))) (fun j hj=>by rw [hsn,Qxw];exact Qv6 (c:=CV.int .i64) (d:=0) (F:=isF) (fun _ _=>rfl) (i:Int) (zP out) (k:=k) (by rw [Qah];omega) j) ?_
    refine QM (h':=[(gz,.cells 3 (i+1) (isF (zP (Z3 l (i+1)))))]) (Sl.le_refl _) (List.Sublist.cons_cons _ (.cons _ .slnil)) ?_
    exact Qb ⟨(i+1,some gz),by dsimp only;omega,(zB J2),zZ,by dsimp only;omega,fun e=>by cases e⟩
 ·obtain rfl:i=l.length:=by omega
  refine Qi (h':=gh og 3 (l.length*1) (isF (zP (Z3 l l.length)))++[]) (by rw [Lp]) ?_
  refine Vw (t:=2) (s:=1) (f:=isF (zP (Z3 l l.length))) (f':=isF (zP (Z3 l l.length))) hog (show l.length=(zP (Z3 l l.length)).length by rw [Qah,Ja]) eE (fun g _=>hC g) (fun i _=>rfl) eE ?_
  refine xS ?_
  refine xT hC ?_
  exact .one (.c Qxo)
end Go.Proofs.YtngjgahldnnapaaGreatDoor
namespace Go.PN
open Go.AI
theorem YH {α β:Type} (f:α→β) (l:List α) (d:α) {j:Nat} (h:j<l.length):(l.map f).take (j+1)=(l.map f).take j++[f (l.getD j d)]:=by
 rw [Qn5 (l.map f) (f d) (by rw [Lw];exact h)]
 congr 2
 rw [Lg,Lg,List.getElem?_map,Li h];rfl
theorem Zn {α β:Type} (f:α→β) (l:List α) {j:Nat} (h:j≤l.length):((l.map f).take j).length=j:=by
 rw [List.length_take,Lw];omega
theorem Qqc (L:List Xe):(Z3 (L.map Xe.name) L.length).map (fun p=>normG (L.getD p gt0))=UP L:=by
 have h:=congrArg (List.map normG) (Qag Xe.name L gt0)
 rw [List.map_map] at h
 refine h.trans ?_
 unfold UP
 rw [Qdc normG Xe.name L]
 rfl
end Go.PN
namespace Go.Proofs.YtngjgahldnnapaaGreatDoor
open Go.AI Go.PN Proofs.Tryz
attribute [local irreducible] aw Fa ZN ZZ Fh YE
theorem Qg9 (L:List Xe) (hO:∀g∈L,GtN g) (hl:L.length≤1048576):Fa prog 90 [.c (gts true L)] (.c (gts true (UP L))):=by
 have nL:L.length≤1099511627776:=by omega
 refine fA func90 fun C hC=>?_
 apply Yd
 apply Zd
 refine xH ?_
 apply Yd
 apply Zd
 refine xH ?_
 apply Yd
 refine Yy (fun og:Option Nat=>[(0,.c (gts true L)),(3,.c (gs og 1 L.length))]) (fun og=>gh og 9 (L.length*1) (Qe (L.map Xe.name))) (fun og=>og=none→L.length=0) ?_ ?_
 ·refine zA o0 ?_
  refine Qh (fun z:Nat×Option Nat=>[(0,.c (gts true L)),(3,.c (gs z.2 1 z.1)),(10,.c (gts true L)),(11,.c (.int .i64 L.length)),(12,.c (.int .i64 z.1))]) (fun z=>gh z.2 9 (z.1*1) (Qe ((L.map Xe.name).take z.1))) (fun z=>z.1≤L.length∧(z.2=none→z.1=0)) (fun z=>L.length-z.1) (0,none) eB zZ ⟨Lz _,fun _=>rfl⟩ ?_
  rintro ⟨j,og⟩ ⟨hj,hog⟩
  dsimp only at hj hog⊢
  repeat' first|refine zV o0 ?_|refine zH o0 ?_ ?_<;>intro hb|fail
  ·have hT:=YH Xe.name L gt0 hb
   have hTl:=Zn Xe.name L hj
   generalize hv:L.getD j gt0=x at*
   refine yA hv fun g5 n_5=>?_
   obtain⟨nm,kd,kk,inp,dm⟩:=x
   dsimp only at*
   refine zA (oj hv n_5) ?_
   refine QX (pre:=[(g5,.cells 79 7 (ofL (Zy ⟨nm,kd,kk,inp,dm⟩)))]) rfl rfl rfl rfl rfl rfl rfl (zE (oj hv n_5)) (zE (oj hv n_5)) (by rfl) om om (zE (oj hv n_5)) om (by exact hog) (zE (oj hv n_5)) (by rfl) (by rfl) qb qc om (by exact YG hTl nm) fun gq n_q=> ?_
   replace n_q:=Qa.ne_of n_q
   first|dsimp only [Qa.ne,gh] at n_q|dsimp only [Qa.ne] at n_q|skip
   have J1:=oj hv (oj n_5 n_q)
   refine yS J1 ?_
   refine zA J1 ?_
   rw [←hT]
   refine QM (h':=gh (some gq) 9 (j+1) (Qe ((L.map Xe.name).take (j+1)))) (Sl.le_refl _) (.cons _ (Lr _)) ?_
   exact Qb ⟨(j+1,some gq),by dsimp only;omega,(zB J1),zZ,by dsimp only;omega,fun e=>by cases e⟩
  ·obtain rfl:j=L.length:=by omega
   rw [Ly (by rw [Lw];exact Ac _)]
   exact Qb ⟨og,eB,zZ,hog⟩
 ·rintro og hog
  have f1:=Qg8 true (L.map Xe.name) (by rw [Lw];omega)
  rw [Lw] at f1
  have hPl:=Ja (L.map Xe.name) L.length
  have hP:∀j,j<L.length→(Z3 (L.map Xe.name) L.length).getD j 0<L.length:=fun j hj=>Oi (Vi _ _ om)
  rw [←Qqc]
  generalize Z3 (L.map Xe.name) L.length=Q at*
  have hzl:=Qah Q
  refine Qi (h':=gh og 9 (L.length*1) (Qe (L.map Xe.name))++[]) (by rw [Lp]) ?_
  refine Vw (t:=3) (s:=1) (f:=Qe (L.map Xe.name)) (f':=Qe (L.map Xe.name)) hog (show L.length=(L.map Xe.name).length by rw [Lw]) eE (fun g _=>hC g) (fun i _=>rfl) eE ?_
  refine xS ?_
  refine Zo (oj hzl hPl) f1 ?_
  refine Qh (fun z:Nat×Option Nat=>[(0,.c (gts true L)),(6,.c (gs z.2 7 z.1)),(23,.c (is true (zP Q))),(24,.c (.int .i64 L.length)),(25,.c (.int .i64 z.1))]) (fun z=>gh z.2 79 (z.1*7) (X7 ((Q.map fun p=>normG (L.getD p gt0)).take z.1))) (fun z=>z.1≤L.length∧(z.2=none→z.1=0)) (fun z=>L.length-z.1) (0,none) (zB (oj hzl hPl)) zZ ⟨Lz _,fun _=>rfl⟩ ?_
  rintro ⟨j,og⟩ ⟨hj,hog⟩
  dsimp only at hj hog⊢
  by_cases hjn:j<L.length
  ·have hT:=YH (fun p=>normG (L.getD p gt0)) Q 0 (show j<Q.length by omega)
   have hTl:=Zn (fun p=>normG (L.getD p gt0)) Q (show j≤Q.length by omega)
   have hql:=hP j hjn
   have hz:=Qbj Q j
   generalize Q.getD j 0=q at*
   have hx:=hO (L.getD q gt0) (Vi L gt0 hql)
   generalize hv:L.getD q gt0=x at*
   obtain⟨hd,hi1,hi2,hi4⟩:=hx
   have hdj:decide (j<L.length)=true:=Dt hjn
   refine zA (oj hzl (oj hPl (oj hz (oj hv hdj)))) ?_
   refine yA (oj hzl (oj hPl (oj hz (oj hv hdj)))) fun g5 n_5=>?_
   by_cases hfree:K6 x.kind
   ·have hN:=Qfy hfree
    rw [hN] at hT
    clear hN
    have hc:=Qbi true x.inputs om
    obtain⟨nm,kd,kk,inp,dm⟩:=x
    dsimp only at*
    rcases hfree with e|e|e|e
    all_goals
     have b0:(kd==0)=_:=congrArg (·==0) e
     have b1:(kd==1)=_:=congrArg (·==1) e
     have b2:(kd==2)=_:=congrArg (·==2) e
     have b4:(kd==4)=_:=congrArg (·==4) e
     refine Zo (oj hzl (oj hPl (oj hz (oj hv (oj hdj (oj n_5 (oj b0 (oj b1 (oj b2 b4))))))))) hc ?_
     refine QX (pre:=[(g5,.cells 79 7 (ofL (Zy ⟨nm,kd,kk,Qk id inp,dm⟩)))]) rfl rfl rfl rfl rfl rfl rfl (zE (oj hzl (oj hPl (oj hz (oj hv (oj hdj (oj n_5 (oj b0 (oj b1 (oj b2 b4)))))))))) (zE (oj hzl (oj hPl (oj hz (oj hv (oj hdj (oj n_5 (oj b0 (oj b1 (oj b2 b4)))))))))) (by rfl) om om (zE (oj hzl (oj hPl (oj hz (oj hv (oj hdj (oj n_5 (oj b0 (oj b1 (oj b2 b4)))))))))) om (by exact hog) (zE (oj hzl (oj hPl (oj hz (oj hv (oj hdj (oj n_5 (oj b0 (oj b1 (oj b2 b4)))))))))) (by rfl) (by rfl) qb qc om (by exact K0 hTl ⟨nm,kd,kk,Qk id inp,dm⟩) fun gq n_q=> ?_
     replace n_q:=Qa.ne_of n_q
     first|dsimp only [Qa.ne,gh] at n_q|dsimp only [Qa.ne] at n_q|skip
     have J2:=oj hzl (oj hPl (oj hz (oj hv (oj hdj (oj n_5 (oj b0 (oj b1 (oj b2 (oj b4 n_q)))))))))
     refine yS J2 ?_
     refine zA J2 ?_
     rw [←hT]
     refine QM (h':=gh (some gq) 79 ((j+1)*7) (X7 ((Q.map fun p=>normG (L.getD p gt0)).take (j+1)))) (Sl.le_refl _) (.cons _ (Lr _)) ?_
     exact Qb ⟨(j+1,some gq),by dsimp only;omega,(zB J2),zZ,by dsimp only;omega,fun e=>by cases e⟩
   ·by_cases h8:x.kind=8
    ·obtain⟨nm,kd,kk,inp,dm⟩:=x
     dsimp only at*
     subst h8
     cases inp with
     |nil=>exact absurd hi1 (by simp)
     |cons a inp=>
      have hN:=Qns (x:=⟨nm,8,kk,a::inp,dm⟩) rfl rfl
      dsimp only at hN
      rw [hN] at hT
      clear hN
      have hi5:1≤inp.length:=by have:=hi4 rfl;simpa using this
      have hi6:inp.length≤15:=by simpa using hi2
      refine zA (oj hzl (oj hPl (oj hz (oj hv (oj hdj n_5))))) ?_
      refine Yf [(g5,.cells 79 7 (ofL (Zy ⟨nm,8,kk,a::inp,dm⟩)))] [(0,0),(1,0),(2,0),(3,0),(5,0),(6,0),(7,0),(8,0),(4,1),(9,1),(10,0),(11,2)] Qg kR qa ?_
      have J3:=oj hzl (oj hPl (oj hz (oj hv (oj hdj n_5))))
      refine yG J3 ?_
      have hrl:(Qk id inp).length=inp.length:=Vj id inp
      refine Yg (args:=[.c (X0 true inp)]) rfl (Qbi true inp om) rfl rfl rfl (fun _ _=>by
       refine yS J3 ?_
       exact .c (.row (fun h=>h) fun i _=>by
        rw [Xb,show(a::inp).getD (1+i) []=inp.getD i [] from by rw [Nat.add_comm];rfl]
        exact .refl _)) ?_
      refine Xp J3 ?_
      refine Qs (xs:=[.tmp 54]) (cells:=[.str (sB a)]) rfl rfl rfl rfl (zE J3) (by refine yS J3 ?_;rfl) rfl om om qd rfl (by intro z hz;simp only [Lv] at hz;subst hz;simp [Op.operands]) qa (fun g34 n_34=> ?_) (.inr ⟨rfl,rfl⟩)
      have J4:=oj hzl (oj hPl (oj hz (oj hv (oj hdj n_5))))
      refine Xp J4 ?_
      refine KK (size:=1) (n:=1) (k:=(Qk id inp).length) (m:=1*1) (g:=g34) (f:=ofL [.str (sB a)]) (f2:=Qe (Qk id inp)) (cx:=X0 true (Qk id inp)) (h2:=(g5,.cells 79 7 (ofL (Zy ⟨nm,8,kk,a::inp,dm⟩)))::gh og 79 (j*7) (X7 ((Q.map fun p=>normG (L.getD p gt0)).take j))) rfl rfl rfl rfl (by exact XL) (by exact Zb) rfl om (zE J4) (by simp [Qa.get]) om (zE J4)
       .row (fun i _=>Yb _ i) om qc om (by simp [Qa.del]) qa (fun g39 n_39=> ?_) (.inr ⟨rfl,rfl⟩)
      have r1:g39≠g5:=fun e=>n_39 (by subst e;simp [Qa.keys])
      have r2:=eq_false r1
      have r3:=eq_false r1.symm
      have J5:=oj hzl (oj hPl (oj hz (oj hv (oj hdj (oj n_5 (oj r2 r3))))))
      refine Xp J5 ?_
      refine Xm (FP':=[]) rfl rfl rfl rfl rfl (zE J5) (zE J5) (zE J5) (zE J5) (fun _ e=>by cases e) rfl rfl (show 4≤7 from by omega) rfl Qf ?_
      refine yS J5 ?_
      refine wc2 ?_
      refine QU (f':=Qe (a::(Qk id inp))) (fun i hi=>by
       match i with
       |0=>rw [Xb];rfl
       |i+1=>rw [Xb];unfold Xq;rw [iN om,Xb];rfl) ?_
      have hln:(a::(Qk id inp)).length=1+(Qk id inp).length:=by rw [Lc,Nat.add_comm]
      refine Qi (h':=(g5,.cells 79 7 (ofL (QdF ⟨nm,8,kk,a::inp,dm⟩ (.osl g39 1 0 (1+(Qk id inp).length)))))::(gh (some g39) 9 ((1+(Qk id inp).length)*1) (Qe (a::(Qk id inp)))++gh og 79 (j*7) (X7 ((Q.map fun p=>normG (L.getD p gt0)).take j)))) (by rw [Ad];exact List.Perm.swap _ _ _) ?_
      refine Xi (og:=some g39) (s:=1) (n:=1+(Qk id inp).length) (j0:=3) (m:=7) (f:=ofL (QdF ⟨nm,8,kk,a::inp,dm⟩ (.osl g39 1 0 (1+(Qk id inp).length)))) (f':=ofL (Zy ⟨nm,8,kk,a::(Qk id inp),dm⟩)) (fp:=Qe (a::(Qk id inp))) rfl (by show CV.row true 1 _ _=CV.row true 1 _ _;rw [hln]) (fun i hi h3=>by match i,hi,h3 with|0,_,_=>rfl|1,_,_=>rfl|2,_,_=>rfl|3,_,h=>exact absurd rfl h|4,_,_=>rfl|5,_,_=>rfl|6,_,_=>rfl) (fun e=>by cases e) (fun g _=>hC g) ?_
      refine yS J5 ?_
      refine zA J5 ?_
      refine QX (pre:=[(g5,.cells 79 7 (ofL (Zy ⟨nm,8,kk,a::(Qk id inp),dm⟩)))]) rfl rfl rfl rfl rfl rfl rfl (zE J5) (zE J5) (by rfl) om om (zE J5) om (by exact hog) (zE J5) (by rfl) (by rfl) qb qc om (by exact K0 hTl ⟨nm,8,kk,a::(Qk id inp),dm⟩) fun gq n_q=> ?_
      replace n_q:=Qa.ne_of n_q
      first|dsimp only [Qa.ne,gh] at n_q|dsimp only [Qa.ne] at n_q|skip
      have J6:=oj hzl (oj hPl (oj hz (oj hv (oj hdj (oj n_5 (oj r2 (oj r3 n_q)))))))
      refine yS J6 ?_
      refine zA J6 ?_
      rw [←hT]
      refine QM (h':=gh (some gq) 79 ((j+1)*7) (X7 ((Q.map fun p=>normG (L.getD p gt0)).take (j+1)))) (Sl.le_refl _) (.cons _ (Lr _)) ?_
      exact Qb ⟨(j+1,some gq),by dsimp only;omega,(zB J6),zZ,by dsimp only;omega,fun e=>by cases e⟩
    ·have hN:=Qkc hfree h8
     rw [hN] at hT
     clear hN
     obtain⟨nm,kd,kk,inp,dm⟩:=x
     dsimp only at*
     have b0:(kd==0)=false:=by unfold K6 at hfree;simp only [beq_eq_false_iff_ne];omega
     have b1:(kd==1)=false:=by unfold K6 at hfree;simp only [beq_eq_false_iff_ne];omega
     have b2:(kd==2)=false:=by unfold K6 at hfree;simp only [beq_eq_false_iff_ne];omega
     have b4:(kd==4)=false:=by unfold K6 at hfree;simp only [beq_eq_false_iff_ne];omega
     have b8:(kd==8)=false:=by simp only [beq_eq_false_iff_ne];omega
     refine zA (oj hzl (oj hPl (oj hz (oj hv (oj hdj (oj n_5 (oj b0 (oj b1 (oj b2 (oj b4 b8)))))))))) ?_
     refine Qn (xs:=[]) (cells:=[]) rfl rfl rfl (by exact XL) (by refine yS (oj hzl (oj hPl (oj hz (oj hv (oj hdj (oj n_5 (oj b0 (oj b1 (oj b2 (oj b4 b8)))))))))) ?_;rfl) rfl om om (by simp) rfl fun g35 n_35=> ?_
     have r0:g5≠g35:=fun e=>n_35 (by subst e;simp [Qa.keys])
     have r1:=eq_false r0
     have r2:=eq_false r0.symm
     have J7:=oj hzl (oj hPl (oj hz (oj hv (oj hdj (oj n_5 (oj b0 (oj b1 (oj b2 (oj b4 (oj b8 (oj r1 r2)))))))))))
     refine yS J7 ?_
     refine zA J7 ?_
     refine YC (size:=1) (n:=0) (k:=inp.length) (m:=0) (g:=g35) (f:=ofL []) (f2:=Qe inp) (cx:=X0 true inp) (h2:=(g5,.cells 79 7 (ofL (Zy ⟨nm,kd,kk,inp,dm⟩)))::gh og 79 (j*7) (X7 ((Q.map fun p=>normG (L.getD p gt0)).take j))) rfl rfl rfl (by exact XL) (by exact Zb) rfl om (zE J7) (by simp [Qa.get]) om (zE J7) .row (fun i _=>Yb _ i) om qc om (by simp [Qa.del]) fun g38 n_38=> ?_
     have r3:g38≠g5:=fun e=>n_38 (by subst e;simp [Qa.keys])
     have r4:=eq_false r3
     have r5:=eq_false r3.symm
     have J8:=oj hzl (oj hPl (oj hz (oj hv (oj hdj (oj n_5 (oj b0 (oj b1 (oj b2 (oj b4 (oj b8 (oj r1 (oj r2 (oj r4 r5)))))))))))))
     refine yS J8 ?_
     refine yH J8 ?_
     refine KV rfl rfl rfl rfl (zE J8) (zE J8) (zE J8) (zE J8) (fun _ e=>by cases e) (by rfl) (by rfl) (show 4≤7 from by omega) rfl ?_
     refine yS J8 ?_
     refine QU (f':=Qe inp) (fun i hi=>by unfold Xq;rw [iN om];rfl) ?_
     refine Qi (h':=(g5,.cells 79 7 (ofL (QdF ⟨nm,kd,kk,inp,dm⟩ (.osl g38 1 0 inp.length))))::(gh (some g38) 9 (inp.length*1) (Qe inp)++gh og 79 (j*7) (X7 ((Q.map fun p=>normG (L.getD p gt0)).take j)))) (by rw [Ad];exact List.Perm.swap _ _ _) ?_
     refine Xi (og:=some g38) (s:=1) (n:=inp.length) (j0:=3) (m:=7) (f:=ofL (QdF ⟨nm,kd,kk,inp,dm⟩ (.osl g38 1 0 inp.length))) (f':=ofL (Zy ⟨nm,kd,kk,inp,dm⟩)) (fp:=Qe inp) rfl rfl (fun i hi h3=>by match i,hi,h3 with|0,_,_=>rfl|1,_,_=>rfl|2,_,_=>rfl|3,_,h=>exact absurd rfl h|4,_,_=>rfl|5,_,_=>rfl|6,_,_=>rfl) (fun e=>by cases e) (fun g _=>hC g) ?_
     refine yS J8 ?_
     refine zA J8 ?_
     refine QX (pre:=[(g5,.cells 79 7 (ofL (Zy ⟨nm,kd,kk,inp,dm⟩)))]) rfl rfl rfl rfl rfl rfl rfl (zE J8) (zE J8) (by rfl) om om (zE J8) om (by exact hog) (zE J8) (by rfl) (by rfl) qb qc om (by exact K0 hTl ⟨nm,kd,kk,inp,dm⟩) fun gq n_q=> ?_
     replace n_q:=Qa.ne_of n_q
     first|dsimp only [Qa.ne,gh] at n_q|dsimp only [Qa.ne] at n_q|skip
     have J9:=oj hzl (oj hPl (oj hz (oj hv (oj hdj (oj n_5 (oj b0 (oj b1 (oj b2 (oj b4 (oj b8 (oj r1 (oj r2 (oj r4 (oj r5 n_q))))))))))))))
     refine yS J9 ?_
     refine zA J9 ?_
     rw [←hT]
     refine QM (h':=gh (some gq) 79 ((j+1)*7) (X7 ((Q.map fun p=>normG (L.getD p gt0)).take (j+1)))) (Sl.le_refl _) (.cons _ (Lr _)) ?_
     exact Qb ⟨(j+1,some gq),by dsimp only;omega,(zB J9),zZ,by dsimp only;omega,fun e=>by cases e⟩
  ·obtain rfl:j=L.length:=by omega
   have hln:(Q.map fun p=>normG (L.getD p gt0)).length=L.length:=by rw [Lw];exact hPl
   rw [Ly om]
   have hdn:decide (L.length<L.length)=false:=De (Nat.lt_irrefl _)
   refine zA (oj hzl (oj hPl hdn)) ?_
   refine Qi (h':=gh og 79 (L.length*7) (X7 (Q.map fun p=>normG (L.getD p gt0)))++[]) (by rw [Lp]) ?_
   refine Vw (t:=2) (s:=7) (f:=X7 (Q.map fun p=>normG (L.getD p gt0))) (f':=X7 (Q.map fun p=>normG (L.getD p gt0))) hog hln.symm (zE (oj hzl (oj hPl hdn))) (fun g _=>hC g) (fun i _=>rfl) (zE (oj hzl (oj hPl hdn))) ?_
   refine yS (oj hzl (oj hPl hdn)) ?_
   refine yT hC (oj hzl (oj hPl hdn)) ?_
   exact .one (.c UM)
end Go.Proofs.YtngjgahldnnapaaGreatDoor
namespace Go.PN
open Go.AI
theorem Qn7 {α β:Type} (f:α→BS) (g:α→β) (fb:β→BS) (hfg:∀a,fb (g a)=f a) (l:List α) (d:α):(Z3 (l.map f) l.length).map (fun p=>g (l.getD p d))=Qk fb (l.map g):=by
 have h:=congrArg (List.map g) (Qag f l d)
 rw [List.map_map] at h
 refine h.trans ?_
 rw [Qdc g fb l,show(fun a=>fb (g a))=f from funext hfg]
end Go.PN
namespace Go.Proofs.YtngjgahldnnapaaGreatDoor
open Go.AI Go.PN Proofs.Tryz
abbrev nA (g:Nat) (a b c d:CV):Nat×XD:=(g,.cells 154 4 (ofL [a,b,c,d]))
attribute [local irreducible] aw Fa ZN ZZ Fh YE
theorem Qcg {α:Type} (f:α→BS) (l:List α) (hl:l.length≤1048576):Fa prog 91 [.c (.row true 1 l.length (Qe (l.map f)))] (.c (is true (zP (Z3 (l.map f) l.length)))):=by
 have h:=Qg8 true (l.map f) (by rw [Lw];exact hl)
 rw [Lw] at h
 have e:X0 true (l.map f)=.row true 1 l.length (Qe (l.map f)):=by show CV.row true 1 (l.map f).length _=_;rw [Lw]
 rw [e] at h
 exact h
theorem QsZ (m:Qv) (hg:Go.PN.Good m) (hs:MdN m):Fa prog 37 [.agg (Xa true m)] (.agg (Xa true (Kw m))):=by
 have nE:m.events.length≤1048576:=Lt hg.evl Af
 have nH:m.houses.length≤1048576:=Lt hg.hsl Af
 have nP:m.pages.length≤1048576:=Lt hg.pgl Af
 have nR:m.groups.length≤1048576:=Lt hg.grl Af
 have nS:m.phases.length≤1048576:=Lt hg.phl Af
 have hlg:=hs.gtl
 have f2:=Qg9 m.gates hs.gt om
 obtain⟨RE,hRE⟩:∃c:CV,c=.row true 11 m.events.length (ZS (Qk X3.name m.events)):=⟨_,rfl⟩
 obtain⟨RH,hRH⟩:∃c:CV,c=.row true 2 m.houses.length (ZT (Qk Vx.name m.houses)):=⟨_,rfl⟩
 obtain⟨RP,hRP⟩:∃c:CV,c=.row true 3 m.pages.length (Kq (Qk Yz.name (m.pages.map normP))):=⟨_,rfl⟩
 obtain⟨RR,hRR⟩:∃c:CV,c=.row true 4 m.groups.length (VR (Qk YB.name (m.groups.map normR))):=⟨_,rfl⟩
 obtain⟨RS,hRS⟩:∃c:CV,c=.row true 3 m.phases.length (Kr (m.phases.map normH)):=⟨_,rfl⟩
 obtain⟨N0,hN0⟩:∃c:CV,c=.row true 1 m.events.length (Qe (m.events.map X3.name)):=⟨_,rfl⟩
 have o0:=Qcg X3.name m.events om
 rw [←hN0] at o0
 have q0:=Ja (m.events.map X3.name) m.events.length
 have p0:∀j,j<m.events.length→(Z3 (m.events.map X3.name) m.events.length).getD j 0<m.events.length:=fun j hj=>Oi (Vi _ _ om)
 have s0:=Qag X3.name m.events ev0
 generalize Z3 (m.events.map X3.name) m.events.length=Q0 at o0 q0 p0 s0
 have z0:=Qah Q0
 obtain⟨N1,hN1⟩:∃c:CV,c=.row true 1 m.houses.length (Qe (m.houses.map Vx.name)):=⟨_,rfl⟩
 have o1:=Qcg Vx.name m.houses om
 rw [←hN1] at o1
 have q1:=Ja (m.houses.map Vx.name) m.houses.length
 have p1:∀j,j<m.houses.length→(Z3 (m.houses.map Vx.name) m.houses.length).getD j 0<m.houses.length:=fun j hj=>Oi (Vi _ _ om)
 have s1:=Qag Vx.name m.houses hs0
 generalize Z3 (m.houses.map Vx.name) m.houses.length=Q1 at o1 q1 p1 s1
 have z1:=Qah Q1
 obtain⟨N2,hN2⟩:∃c:CV,c=.row true 1 m.pages.length (Qe (m.pages.map Yz.name)):=⟨_,rfl⟩
 have o2:=Qcg Yz.name m.pages om
 rw [←hN2] at o2
 have q2:=Ja (m.pages.map Yz.name) m.pages.length
 have p2:∀j,j<m.pages.length→(Z3 (m.pages.map Yz.name) m.pages.length).getD j 0<m.pages.length:=fun j hj=>Oi (Vi _ _ om)
 have s2:=Qn7 Yz.name normP Yz.name (fun _=>rfl) m.pages pg0
 generalize Z3 (m.pages.map Yz.name) m.pages.length=Q2 at o2 q2 p2 s2
 have z2:=Qah Q2
 obtain⟨N3,hN3⟩:∃c:CV,c=.row true 1 m.groups.length (Qe (m.groups.map YB.name)):=⟨_,rfl⟩
 have o3:=Qcg YB.name m.groups om
 rw [←hN3] at o3
 have q3:=Ja (m.groups.map YB.name) m.groups.length
 have p3:∀j,j<m.groups.length→(Z3 (m.groups.map YB.name) m.groups.length).getD j 0<m.groups.length:=fun j hj=>Oi (Vi _ _ om)
 have s3:=Qn7 YB.name normR YB.name (fun _=>rfl) m.groups gr0
 generalize Z3 (m.groups.map YB.name) m.groups.length=Q3 at o3 q3 p3 s3
 have z3:=Qah Q3
 refine fA func37 fun C hC=>?_
 refine xG ?_
 refine xB fun g1 n_1=>?_
 refine yA n_1 fun g2 n_2=>?_
 refine zA (oj n_1 n_2) ?_
 refine Yf [mZ g2,mM g1 m] [(0,0),(1,0),(2,0),(3,0),(4,0),(5,0),(6,0),(7,0),(8,1),(9,2)] Qg kR US ?_
 have J1:=oj n_1 n_2
 refine yG J1 ?_
 refine Yg rfl f2 rfl rfl rfl (fun _ _=>(zL J1)) ?_
 refine Xp J1 ?_
 refine OT rfl rfl rfl rfl (zE J1) US (fun g3 n_3=> ?_) (hm:=.inr ⟨rfl,rfl⟩)
 refine Xp J1 ?_
 refine Xm (FP':=[]) rfl rfl rfl rfl rfl (zE J1) (zE J1) (zE J1) (zE J1) (fun _ e=>by cases e) rfl rfl (show 8≤8 from by omega) rfl Qf ?_
 refine Xp J1 ?_
 replace n_3:=Qa.ne_of n_3
 simp only [Qa.ne] at n_3
 obtain⟨RG,hRG⟩:∃c:CV,c=gts true (UP m.gates):=⟨_,rfl⟩
 simp only [←hRG]
 refine zA (oj n_1 (oj n_2 n_3)) ?_
 refine yA (oj n_1 (oj n_2 n_3)) fun g4 n_4=>?_
 have F:=oj n_1 (oj n_2 (oj n_3 n_4))
 refine yS F ?_
 refine zA F ?_
 refine Qh (fun z:Nat×Option Nat=>[(1,.c (.optr g1 0)),(2,.c (.optr g2 0)),(3,.c (.optr g3 0)),(4,.c (.optr g4 0)),(39,.c (evs true m.events)),(40,.c (.int .i64 m.events.length)),(41,.c (.int .i64 z.1))]) (fun z=>nA g4 (gs z.2 1 z.1) .nils .nils .nils::mD g3 m .nils .nils RG .nils .nils .nils::mZ g2::mM g1 m::gh z.2 9 (z.1*1) (Qe ((m.events.map X3.name).take z.1))) (fun z=>z.1≤m.events.length∧(z.2=none→z.1=0)) (fun z=>m.events.length-z.1) (0,none) (zB F) zZ ⟨Lz _,fun _=>rfl⟩ ?_
 rintro ⟨j,og⟩ ⟨hj,hog⟩
 dsimp only at hj hog⊢
 by_cases hjn:j<m.events.length
 ·have d1:decide (j<m.events.length)=true:=Dt hjn
  have hT:=YH X3.name m.events ev0 hjn
  have hTl:=Zn X3.name m.events hj
  generalize hv:m.events.getD j ev0=x at*
  refine zA (oj F (oj d1 hv)) ?_
  refine yA (oj F (oj d1 hv)) fun g6 n_6=>?_
  refine zA (oj F (oj d1 (oj hv n_6))) ?_
  refine QT (QA.indexArr (el:=74) (n:=4) (i:=0) kR kR (zE (oj F (oj d1 (oj hv n_6)))) (zE (oj F (oj d1 (oj hv n_6)))) Af Af) rfl rfl ?_
  have J2:=oj F (oj d1 (oj hv n_6))
  refine yS J2 ?_
  refine zA J2 ?_
  refine QX (pre:=[(g6,.cells 89 11 (ofL (evc x))),nA g4 (gs og 1 j) .nils .nils .nils,mD g3 m .nils .nils RG .nils .nils .nils,mZ g2,mM g1 m]) rfl rfl rfl rfl rfl rfl rfl (zE J2) (zE J2) (by rfl) om om (zE J2) om (by exact hog) (zE J2) (by rfl) (by rfl) qb qc om (by exact YG hTl x.name) fun gq n_q=> ?_
  replace n_q:=Qa.ne_of n_q
  first|dsimp only [Qa.ne,gh] at n_q|dsimp only [Qa.ne] at n_q|skip
  have J3:=oj F (oj d1 (oj hv (oj n_6 n_q)))
  refine yS J3 ?_
  rw [←hT]
  refine QT (QA.indexArr (el:=74) (n:=4) (i:=0) kR kR (zE J3) (zE J3) Af Af) rfl rfl ?_
  refine yS J3 ?_
  refine zA J3 ?_
  exact Qb ⟨(j+1,some gq),by dsimp only;omega,(zB J3),Ls _ _,by dsimp only;omega,fun e=>by cases e⟩
 ·obtain rfl:j=m.events.length:=by omega
  have d1:decide (m.events.length<m.events.length)=false:=De om
  rw [Ly (by rw [Lw];exact Ac _)]
  refine zA (oj F d1) ?_
  refine Qi (h':=nA g4 (gs og 1 m.events.length) .nils .nils .nils::(gh og 9 (m.events.length*1) (Qe (m.events.map X3.name))++[mD g3 m .nils .nils RG .nils .nils .nils,mZ g2,mM g1 m])) (.cons _ (List.perm_append_comm (l₁:=[_,_,_]))) ?_
  refine Xi (j0:=0) (m:=4) (f:=(ofL [gs og 1 m.events.length,.nils,.nils,.nils])) (f':=(ofL [N0,.nils,.nils,.nils])) (fp:=Qe (m.events.map X3.name)) rfl hN0 (fun i hi h3=>by match i,hi,h3 with|0,_,h=>exact absurd rfl h|1,_,_=>rfl|2,_,_=>rfl|3,_,_=>rfl) hog (fun g _=>hC g) ?_
  refine yS (oj F d1) ?_
  refine Qh (fun z:Nat×Option Nat=>[(1,.c (.optr g1 0)),(2,.c (.optr g2 0)),(3,.c (.optr g3 0)),(4,.c (.optr g4 0)),(54,.c (hss true m.houses)),(55,.c (.int .i64 m.houses.length)),(56,.c (.int .i64 z.1))]) (fun z=>nA g4 N0 (gs z.2 1 z.1) .nils .nils::mD g3 m .nils .nils RG .nils .nils .nils::mZ g2::mM g1 m::gh z.2 9 (z.1*1) (Qe ((m.houses.map Vx.name).take z.1))) (fun z=>z.1≤m.houses.length∧(z.2=none→z.1=0)) (fun z=>m.houses.length-z.1) (0,none) (zB F) zZ ⟨Lz _,fun _=>rfl⟩ ?_
  rintro ⟨j,og⟩ ⟨hj,hog⟩
  dsimp only at hj hog⊢
  by_cases hjn:j<m.houses.length
  ·have d1:decide (j<m.houses.length)=true:=Dt hjn
   have hT:=YH Vx.name m.houses hs0 hjn
   have hTl:=Zn Vx.name m.houses hj
   generalize hv:m.houses.getD j hs0=x at*
   refine zA (oj F (oj d1 hv)) ?_
   refine yA (oj F (oj d1 hv)) fun g6 n_6=>?_
   refine zA (oj F (oj d1 (oj hv n_6))) ?_
   refine QT (QA.indexArr (el:=74) (n:=4) (i:=1) kR kR (zE (oj F (oj d1 (oj hv n_6)))) (zE (oj F (oj d1 (oj hv n_6)))) Af Af) rfl rfl ?_
   have J4:=oj F (oj d1 (oj hv n_6))
   refine yS J4 ?_
   refine zA J4 ?_
   refine QX (pre:=[(g6,.cells 115 2 (ofL (hsc x))),nA g4 N0 (gs og 1 j) .nils .nils,mD g3 m .nils .nils RG .nils .nils .nils,mZ g2,mM g1 m]) rfl rfl rfl rfl rfl rfl rfl (zE J4) (zE J4) (by rfl) om om (zE J4) om (by exact hog) (zE J4) (by rfl) (by rfl) qb qc om (by exact YG hTl x.name) fun gq n_q=> ?_
   replace n_q:=Qa.ne_of n_q
   first|dsimp only [Qa.ne,gh] at n_q|dsimp only [Qa.ne] at n_q|skip
   have J5:=oj F (oj d1 (oj hv (oj n_6 n_q)))
   refine yS J5 ?_
   rw [←hT]
   refine QT (QA.indexArr (el:=74) (n:=4) (i:=1) kR kR (zE J5) (zE J5) Af Af) rfl rfl ?_
   refine yS J5 ?_
   refine zA J5 ?_
   exact Qb ⟨(j+1,some gq),by dsimp only;omega,(zB J5),Ls _ _,by dsimp only;omega,fun e=>by cases e⟩
  ·obtain rfl:j=m.houses.length:=by omega
   have d1:decide (m.houses.length<m.houses.length)=false:=De om
   rw [Ly (by rw [Lw];exact Ac _)]
   refine zA (oj F d1) ?_
   refine Qi (h':=nA g4 N0 (gs og 1 m.houses.length) .nils .nils::(gh og 9 (m.houses.length*1) (Qe (m.houses.map Vx.name))++[mD g3 m .nils .nils RG .nils .nils .nils,mZ g2,mM g1 m])) (.cons _ (List.perm_append_comm (l₁:=[_,_,_]))) ?_
   refine Xi (j0:=1) (m:=4) (f:=(ofL [N0,gs og 1 m.houses.length,.nils,.nils])) (f':=(ofL [N0,N1,.nils,.nils])) (fp:=Qe (m.houses.map Vx.name)) rfl hN1 (fun i hi h3=>by match i,hi,h3 with|0,_,_=>rfl|1,_,h=>exact absurd rfl h|2,_,_=>rfl|3,_,_=>rfl) hog (fun g _=>hC g) ?_
   refine yS (oj F d1) ?_
   refine Qh (fun z:Nat×Option Nat=>[(1,.c (.optr g1 0)),(2,.c (.optr g2 0)),(3,.c (.optr g3 0)),(4,.c (.optr g4 0)),(69,.c (pgs true m.pages)),(70,.c (.int .i64 m.pages.length)),(71,.c (.int .i64 z.1))]) (fun z=>nA g4 N0 N1 (gs z.2 1 z.1) .nils::mD g3 m .nils .nils RG .nils .nils .nils::mZ g2::mM g1 m::gh z.2 9 (z.1*1) (Qe ((m.pages.map Yz.name).take z.1))) (fun z=>z.1≤m.pages.length∧(z.2=none→z.1=0)) (fun z=>m.pages.length-z.1) (0,none) (zB F) zZ ⟨Lz _,fun _=>rfl⟩ ?_
   rintro ⟨j,og⟩ ⟨hj,hog⟩
   dsimp only at hj hog⊢
   by_cases hjn:j<m.pages.length
   ·have d1:decide (j<m.pages.length)=true:=Dt hjn
    have hT:=YH Yz.name m.pages pg0 hjn
    have hTl:=Zn Yz.name m.pages hj
    generalize hv:m.pages.getD j pg0=x at*
    refine zA (oj F (oj d1 hv)) ?_
    refine yA (oj F (oj d1 hv)) fun g6 n_6=>?_
    refine zA (oj F (oj d1 (oj hv n_6))) ?_
    refine QT (QA.indexArr (el:=74) (n:=4) (i:=2) kR kR (zE (oj F (oj d1 (oj hv n_6)))) (zE (oj F (oj d1 (oj hv n_6)))) Af Af) rfl rfl ?_
    have J6:=oj F (oj d1 (oj hv n_6))
    refine yS J6 ?_
    refine zA J6 ?_
    refine QX (pre:=[(g6,.cells 91 3 (ofL (pgc x))),nA g4 N0 N1 (gs og 1 j) .nils,mD g3 m .nils .nils RG .nils .nils .nils,mZ g2,mM g1 m]) rfl rfl rfl rfl rfl rfl rfl (zE J6) (zE J6) (by rfl) om om (zE J6) om (by exact hog) (zE J6) (by rfl) (by rfl) qb qc om (by exact YG hTl x.name) fun gq n_q=> ?_
    replace n_q:=Qa.ne_of n_q
    first|dsimp only [Qa.ne,gh] at n_q|dsimp only [Qa.ne] at n_q|skip
    have J7:=oj F (oj d1 (oj hv (oj n_6 n_q)))
    refine yS J7 ?_
    rw [←hT]
    refine QT (QA.indexArr (el:=74) (n:=4) (i:=2) kR kR (zE J7) (zE J7) Af Af) rfl rfl ?_
    refine yS J7 ?_
    refine zA J7 ?_
    exact Qb ⟨(j+1,some gq),by dsimp only;omega,(zB J7),Ls _ _,by dsimp only;omega,fun e=>by cases e⟩
   ·obtain rfl:j=m.pages.length:=by omega
    have d1:decide (m.pages.length<m.pages.length)=false:=De om
    rw [Ly (by rw [Lw];exact Ac _)]
    refine zA (oj F d1) ?_
    refine Qi (h':=nA g4 N0 N1 (gs og 1 m.pages.length) .nils::(gh og 9 (m.pages.length*1) (Qe (m.pages.map Yz.name))++[mD g3 m .nils .nils RG .nils .nils .nils,mZ g2,mM g1 m])) (.cons _ (List.perm_append_comm (l₁:=[_,_,_]))) ?_
    refine Xi (j0:=2) (m:=4) (f:=(ofL [N0,N1,gs og 1 m.pages.length,.nils])) (f':=(ofL [N0,N1,N2,.nils])) (fp:=Qe (m.pages.map Yz.name)) rfl hN2 (fun i hi h3=>by match i,hi,h3 with|0,_,_=>rfl|1,_,_=>rfl|2,_,h=>exact absurd rfl h|3,_,_=>rfl) hog (fun g _=>hC g) ?_
    refine yS (oj F d1) ?_
    refine Qh (fun z:Nat×Option Nat=>[(1,.c (.optr g1 0)),(2,.c (.optr g2 0)),(3,.c (.optr g3 0)),(4,.c (.optr g4 0)),(84,.c (grs true m.groups)),(85,.c (.int .i64 m.groups.length)),(86,.c (.int .i64 z.1))]) (fun z=>nA g4 N0 N1 N2 (gs z.2 1 z.1)::mD g3 m .nils .nils RG .nils .nils .nils::mZ g2::mM g1 m::gh z.2 9 (z.1*1) (Qe ((m.groups.map YB.name).take z.1))) (fun z=>z.1≤m.groups.length∧(z.2=none→z.1=0)) (fun z=>m.groups.length-z.1) (0,none) (zB F) zZ ⟨Lz _,fun _=>rfl⟩ ?_
    rintro ⟨j,og⟩ ⟨hj,hog⟩
    dsimp only at hj hog⊢
    by_cases hjn:j<m.groups.length
    ·have d1:decide (j<m.groups.length)=true:=Dt hjn
     have hT:=YH YB.name m.groups gr0 hjn
     have hTl:=Zn YB.name m.groups hj
     generalize hv:m.groups.getD j gr0=x at*
     refine zA (oj F (oj d1 hv)) ?_
     refine yA (oj F (oj d1 hv)) fun g6 n_6=>?_
     refine zA (oj F (oj d1 (oj hv n_6))) ?_
     refine QT (QA.indexArr (el:=74) (n:=4) (i:=3) kR kR (zE (oj F (oj d1 (oj hv n_6)))) (zE (oj F (oj d1 (oj hv n_6)))) Af Af) rfl rfl ?_
     have J8:=oj F (oj d1 (oj hv n_6))
     refine yS J8 ?_
     refine zA J8 ?_
     refine QX (pre:=[(g6,.cells 94 4 (ofL (Wx x))),nA g4 N0 N1 N2 (gs og 1 j),mD g3 m .nils .nils RG .nils .nils .nils,mZ g2,mM g1 m]) rfl rfl rfl rfl rfl rfl rfl (zE J8) (zE J8) (by rfl) om om (zE J8) om (by exact hog) (zE J8) (by rfl) (by rfl) qb qc om (by exact YG hTl x.name) fun gq n_q=> ?_
     replace n_q:=Qa.ne_of n_q
     first|dsimp only [Qa.ne,gh] at n_q|dsimp only [Qa.ne] at n_q|skip
     have J9:=oj F (oj d1 (oj hv (oj n_6 n_q)))
     refine yS J9 ?_
     rw [←hT]
     refine QT (QA.indexArr (el:=74) (n:=4) (i:=3) kR kR (zE J9) (zE J9) Af Af) rfl rfl ?_
     refine yS J9 ?_
     refine zA J9 ?_
     exact Qb ⟨(j+1,some gq),by dsimp only;omega,(zB J9),Ls _ _,by dsimp only;omega,fun e=>by cases e⟩
    ·obtain rfl:j=m.groups.length:=by omega
     have d1:decide (m.groups.length<m.groups.length)=false:=De om
     rw [Ly (by rw [Lw];exact Ac _)]
     refine zA (oj F d1) ?_
     refine Qi (h':=nA g4 N0 N1 N2 (gs og 1 m.groups.length)::(gh og 9 (m.groups.length*1) (Qe (m.groups.map YB.name))++[mD g3 m .nils .nils RG .nils .nils .nils,mZ g2,mM g1 m])) (.cons _ (List.perm_append_comm (l₁:=[_,_,_]))) ?_
     refine Xi (j0:=3) (m:=4) (f:=(ofL [N0,N1,N2,gs og 1 m.groups.length])) (f':=(ofL [N0,N1,N2,N3])) (fp:=Qe (m.groups.map YB.name)) rfl hN3 (fun i hi h3=>by match i,hi,h3 with|0,_,_=>rfl|1,_,_=>rfl|2,_,_=>rfl|3,_,h=>exact absurd rfl h) hog (fun g _=>hC g) ?_
     refine yS (oj F d1) ?_
     refine Qi (h':=mD g3 m .nils .nils RG .nils .nils .nils::nA g4 N0 N1 N2 N3::mZ g2::[mM g1 m]) (List.Perm.swap _ _ _) ?_
     refine QT (QA.indexArr (el:=74) (n:=4) (i:=0) kR kR (zE F) (zE F) Af Af) rfl rfl ?_
     refine yS F ?_
     refine Zo (oj F (oj z0 q0)) o0 ?_
     refine Qh (fun z:Nat×Option Nat=>[(1,.c (.optr g1 0)),(2,.c (.optr g2 0)),(3,.c (.optr g3 0)),(4,.c (.optr g4 0)),(100,.c (is true (zP Q0))),(101,.c (.int .i64 m.events.length)),(102,.c (.int .i64 z.1))]) (fun z=>mD g3 m (gs z.2 11 z.1) .nils RG .nils .nils .nils::nA g4 N0 N1 N2 N3::mZ g2::mM g1 m::gh z.2 89 (z.1*11) (ZS ((Q0.map fun p=>m.events.getD p ev0).take z.1))) (fun z=>z.1≤m.events.length∧(z.2=none→z.1=0)) (fun z=>m.events.length-z.1) (0,none) (zB (oj F (oj z0 q0))) zZ ⟨Lz _,fun _=>rfl⟩ ?_
     rintro ⟨j,og⟩ ⟨hj,hog⟩
     dsimp only at hj hog⊢
     by_cases hjn:j<m.events.length
     ·have d1:decide (j<m.events.length)=true:=Dt hjn
      have hT:=YH (fun p=>m.events.getD p ev0) Q0 0 (show j<Q0.length by omega)
      have hTl:=Zn (fun p=>m.events.getD p ev0) Q0 (show j≤Q0.length by omega)
      have hql:=p0 j hjn
      have hz:=Qbj Q0 j
      generalize Q0.getD j 0=q at hT hql hz⊢
      have hm:=Vi m.events ev0 hql
      clear hm
      generalize hv:m.events.getD q ev0=x at*
      refine zA (oj F (oj z0 (oj q0 (oj d1 (oj hz hv))))) ?_
      refine Yf [mD g3 m (gs og 11 j) .nils RG .nils .nils .nils,mM g1 m] [(0,0),(1,0),(2,0),(3,0),(4,0),(5,0),(6,0),(7,1),(8,1),(9,0),(10,2)] Qg kR US ?_
      have J10:=oj F (oj z0 (oj q0 (oj d1 (oj hz hv))))
      refine yG J10 ?_
      refine Qs (xs:=[.tmp 112]) (cells:=evc x) rfl rfl rfl rfl (zE J10) (by refine yS J10 ?_;rfl) rfl om om qd rfl Ag US (fun g113 n_113=> ?_) (hm:=.inr ⟨rfl,rfl⟩)
      refine yS J10 ?_
      refine YT (pre:=[mD g3 m (gs og 11 j) .nils RG .nils .nils .nils,nA g4 N0 N1 N2 N3,mZ g2,mM g1 m]) (og:=og) (n:=j) (s:=107) (d1:=113) (gt:=g113) (v:=.agg (evc x)) rfl rfl rfl rfl (zE J10) (zE J10) (by rfl) om om (zE J10) (zE J10) hog (by rfl) (by rfl) (by simp only [Ad,Lq,Ln];rfl) qc om (QeM hTl x) (XY US) (fun gb n_b=> ?_) (hm:=.inr ⟨rfl,rfl⟩)
      replace n_113:=Qa.ne_of n_113
      simp only [Qa.ne,Lq,Ln] at n_113
      rw [←hT]
      have J11:=oj F (oj z0 (oj q0 (oj d1 (oj hz (oj hv n_113)))))
      refine Xp J11 ?_
      refine Xm (FP':=[]) rfl rfl rfl rfl rfl (zE J11) (zE J11) (zE J11) (zE J11) (fun _ e=>by cases e) rfl rfl (show 3≤8 from by omega) rfl Qf ?_
      refine Xp J11 ?_
      refine zA J11 ?_
      exact Qb ⟨(j+1,some gb),by dsimp only;omega,(zB J11),Ls _ _,by dsimp only;omega,fun e=>by cases e⟩
     ·obtain rfl:j=m.events.length:=by omega
      have d1:decide (m.events.length<m.events.length)=false:=De om
      rw [Ly (by rw [Lw];omega),s0]
      refine zA (oj F (oj z0 (oj q0 d1))) ?_
      refine Qi (h':=mD g3 m (gs og 11 m.events.length) .nils RG .nils .nils .nils::(gh og 89 (m.events.length*11) (ZS (Qk X3.name m.events))++[nA g4 N0 N1 N2 N3,mZ g2,mM g1 m])) (.cons _ (List.perm_append_comm (l₁:=[_,_,_]))) ?_
      refine Xi (j0:=2) (m:=8) (f:=(ofL (mdN m (gs og 11 m.events.length) .nils RG .nils .nils .nils))) (f':=(ofL (mdN m RE .nils RG .nils .nils .nils))) (fp:=ZS (Qk X3.name m.events)) rfl hRE (fun i hi h3=>by match i,hi,h3 with|0,_,_=>rfl|1,_,_=>rfl|2,_,h=>exact absurd rfl h|3,_,_=>rfl|4,_,_=>rfl|5,_,_=>rfl|6,_,_=>rfl|7,_,_=>rfl) hog (fun g _=>hC g) ?_
      refine yS (oj F (oj z0 (oj q0 d1))) ?_
      refine QT (QA.indexArr (el:=74) (n:=4) (i:=1) kR kR (zE F) (zE F) Af Af) rfl rfl ?_
      refine yS F ?_
      refine Zo (oj F (oj z1 q1)) o1 ?_
      have J12:=oj F (oj z1 q1)
      refine yS J12 ?_
      refine zA J12 ?_
      refine Qh (fun z:Nat×Option Nat=>[(1,.c (.optr g1 0)),(2,.c (.optr g2 0)),(3,.c (.optr g3 0)),(4,.c (.optr g4 0)),(119,.c (is true (zP Q1))),(120,.c (.int .i64 m.houses.length)),(121,.c (.int .i64 z.1))]) (fun z=>mD g3 m RE (gs z.2 2 z.1) RG .nils .nils .nils::nA g4 N0 N1 N2 N3::mZ g2::mM g1 m::gh z.2 115 (z.1*2) (ZT ((Q1.map fun p=>m.houses.getD p hs0).take z.1))) (fun z=>z.1≤m.houses.length∧(z.2=none→z.1=0)) (fun z=>m.houses.length-z.1) (0,none) (zB J12) zZ ⟨Lz _,fun _=>rfl⟩ ?_
      rintro ⟨j,og⟩ ⟨hj,hog⟩
      dsimp only at hj hog⊢
      by_cases hjn:j<m.houses.length
      ·have d1:decide (j<m.houses.length)=true:=Dt hjn
       have hT:=YH (fun p=>m.houses.getD p hs0) Q1 0 (show j<Q1.length by omega)
       have hTl:=Zn (fun p=>m.houses.getD p hs0) Q1 (show j≤Q1.length by omega)
       have hql:=p1 j hjn
       have hz:=Qbj Q1 j
       generalize Q1.getD j 0=q at hT hql hz⊢
       have hm:=Vi m.houses hs0 hql
       clear hm J12
       generalize hv:m.houses.getD q hs0=x at*
       refine zA (oj F (oj z1 (oj q1 (oj d1 (oj hz hv))))) ?_
       refine Yf [mD g3 m RE (gs og 2 j) RG .nils .nils .nils,mM g1 m] [(0,0),(1,0),(2,0),(3,0),(4,0),(5,0),(6,0),(7,1),(8,1),(9,0),(10,2)] Qg kR US ?_
       have J13:=oj F (oj z1 (oj q1 (oj d1 (oj hz hv))))
       refine yG J13 ?_
       refine Qs (xs:=[.tmp 131]) (cells:=hsc x) rfl rfl rfl rfl (zE J13) (by refine yS J13 ?_;rfl) rfl om om qd rfl Ag US (fun g132 n_132=> ?_) (hm:=.inr ⟨rfl,rfl⟩)
       refine yS J13 ?_
       refine YT (pre:=[mD g3 m RE (gs og 2 j) RG .nils .nils .nils,nA g4 N0 N1 N2 N3,mZ g2,mM g1 m]) (og:=og) (n:=j) (s:=126) (d1:=132) (gt:=g132) (v:=.agg (hsc x)) rfl rfl rfl rfl (zE J13) (zE J13) (by rfl) om om (zE J13) (zE J13) hog (by rfl) (by rfl) (by simp only [Ad,Lq,Ln];rfl) qc om (Qji hTl x) (XY US) (fun gb n_b=> ?_) (hm:=.inr ⟨rfl,rfl⟩)
       replace n_132:=Qa.ne_of n_132
       simp only [Qa.ne,Lq,Ln] at n_132
       rw [←hT]
       have J14:=oj F (oj z1 (oj q1 (oj d1 (oj hz (oj hv n_132)))))
       refine Xp J14 ?_
       refine Xm (FP':=[]) rfl rfl rfl rfl rfl (zE J14) (zE J14) (zE J14) (zE J14) (fun _ e=>by cases e) rfl rfl (show 4≤8 from by omega) rfl Qf ?_
       refine Xp J14 ?_
       refine zA J14 ?_
       exact Qb ⟨(j+1,some gb),by dsimp only;omega,(zB J14),Ls _ _,by dsimp only;omega,fun e=>by cases e⟩
      ·obtain rfl:j=m.houses.length:=by omega
       have d1:decide (m.houses.length<m.houses.length)=false:=De om
       rw [Ly (by rw [Lw];omega),s1]
       refine zA (oj F (oj z1 (oj q1 d1))) ?_
       refine Qi (h':=mD g3 m RE (gs og 2 m.houses.length) RG .nils .nils .nils::(gh og 115 (m.houses.length*2) (ZT (Qk Vx.name m.houses))++[nA g4 N0 N1 N2 N3,mZ g2,mM g1 m])) (.cons _ (List.perm_append_comm (l₁:=[_,_,_]))) ?_
       refine Xi (j0:=3) (m:=8) (f:=(ofL (mdN m RE (gs og 2 m.houses.length) RG .nils .nils .nils))) (f':=(ofL (mdN m RE RH RG .nils .nils .nils))) (fp:=ZT (Qk Vx.name m.houses)) rfl hRH (fun i hi h3=>by match i,hi,h3 with|0,_,_=>rfl|1,_,_=>rfl|2,_,_=>rfl|3,_,h=>exact absurd rfl h|4,_,_=>rfl|5,_,_=>rfl|6,_,_=>rfl|7,_,_=>rfl) hog (fun g _=>hC g) ?_
       refine yS (oj F (oj z1 (oj q1 d1))) ?_
       refine QT (QA.indexArr (el:=74) (n:=4) (i:=2) kR kR (zE F) (zE F) Af Af) rfl rfl ?_
       refine yS F ?_
       refine Zo (oj F (oj z2 q2)) o2 ?_
       refine yS (oj F (oj z2 q2)) ?_
       refine zA (oj F (oj z2 q2)) ?_
       refine Qh (fun z:Nat×Option Nat=>[(1,.c (.optr g1 0)),(2,.c (.optr g2 0)),(3,.c (.optr g3 0)),(4,.c (.optr g4 0)),(138,.c (is true (zP Q2))),(139,.c (.int .i64 m.pages.length)),(140,.c (.int .i64 z.1))]) (fun z=>mD g3 m RE RH RG (gs z.2 3 z.1) .nils .nils::nA g4 N0 N1 N2 N3::mZ g2::mM g1 m::gh z.2 91 (z.1*3) (Kq ((Q2.map fun p=>normP (m.pages.getD p pg0)).take z.1))) (fun z=>z.1≤m.pages.length∧(z.2=none→z.1=0)) (fun z=>m.pages.length-z.1) (0,none) (zB (oj F (oj z2 q2))) zZ ⟨Lz _,fun _=>rfl⟩ ?_
       rintro ⟨j,og⟩ ⟨hj,hog⟩
       dsimp only at hj hog⊢
       by_cases hjn:j<m.pages.length
       ·have d1:decide (j<m.pages.length)=true:=Dt hjn
        have hT:=YH (fun p=>normP (m.pages.getD p pg0)) Q2 0 (show j<Q2.length by omega)
        have hTl:=Zn (fun p=>normP (m.pages.getD p pg0)) Q2 (show j≤Q2.length by omega)
        have hql:=p2 j hjn
        have hz:=Qbj Q2 j
        generalize Q2.getD j 0=q at hT hql hz⊢
        have hm:=Vi m.pages pg0 hql
        have hx:=hs.pg _ hm
        clear hm
        generalize hv:m.pages.getD q pg0=x at*
        have c1:=Qg9 x.gates hx.2 (by have:=hx.1;omega)
        refine zA (oj F (oj z2 (oj q2 (oj d1 (oj hz hv))))) ?_
        refine Yf [mD g3 m RE RH RG (gs og 3 j) .nils .nils,mM g1 m] [(0,0),(1,0),(2,0),(3,0),(4,0),(5,0),(6,0),(7,0),(8,0),(9,0),(10,0),(11,0),(12,0),(13,0),(14,0),(15,0),(16,0),(17,0),(18,0),(19,0),(20,0),(21,0),(22,1),(23,1),(24,0),(25,2)] Qg kR US ?_
        have J15:=oj F (oj z2 (oj q2 (oj d1 (oj hz hv))))
        refine yG J15 ?_
        refine Yg rfl c1 rfl rfl rfl (fun _ _=>(zL J15)) ?_
        refine Xp J15 ?_
        refine Qs (xs:=[.tmp 165]) (cells:=pgc (normP x)) rfl rfl rfl rfl (zE J15) (by refine yS J15 ?_;rfl) rfl om om qd rfl Ag US (fun g166 n_166=> ?_) (hm:=.inr ⟨rfl,rfl⟩)
        refine yS J15 ?_
        refine YT (pre:=[mD g3 m RE RH RG (gs og 3 j) .nils .nils,nA g4 N0 N1 N2 N3,mZ g2,mM g1 m]) (og:=og) (n:=j) (s:=145) (d1:=166) (gt:=g166) (v:=.agg (pgc (normP x))) rfl rfl rfl rfl (zE J15) (zE J15) (by rfl) om om (zE J15) (zE J15) hog (by rfl) (by rfl) (by simp only [Ad,Lq,Ln];rfl) qc om (QeN hTl (normP x)) (XY US) (fun gb n_b=> ?_) (hm:=.inr ⟨rfl,rfl⟩)
        replace n_166:=Qa.ne_of n_166
        simp only [Qa.ne,Lq,Ln] at n_166
        rw [←hT]
        have J16:=oj F (oj z2 (oj q2 (oj d1 (oj hz (oj hv n_166)))))
        refine Xp J16 ?_
        refine Xm (FP':=[]) rfl rfl rfl rfl rfl (zE J16) (zE J16) (zE J16) (zE J16) (fun _ e=>by cases e) rfl rfl (show 6≤8 from by omega) rfl Qf ?_
        refine Xp J16 ?_
        refine zA J16 ?_
        exact Qb ⟨(j+1,some gb),by dsimp only;omega,(zB J16),Ls _ _,by dsimp only;omega,fun e=>by cases e⟩
       ·obtain rfl:j=m.pages.length:=by omega
        have d1:decide (m.pages.length<m.pages.length)=false:=De om
        rw [Ly (by rw [Lw];omega),s2]
        refine zA (oj F (oj z2 (oj q2 d1))) ?_
        refine Qi (h':=mD g3 m RE RH RG (gs og 3 m.pages.length) .nils .nils::(gh og 91 (m.pages.length*3) (Kq (Qk Yz.name (m.pages.map normP)))++[nA g4 N0 N1 N2 N3,mZ g2,mM g1 m])) (.cons _ (List.perm_append_comm (l₁:=[_,_,_]))) ?_
        refine Xi (j0:=5) (m:=8) (f:=(ofL (mdN m RE RH RG (gs og 3 m.pages.length) .nils .nils))) (f':=(ofL (mdN m RE RH RG RP .nils .nils))) (fp:=Kq (Qk Yz.name (m.pages.map normP))) rfl hRP (fun i hi h3=>by match i,hi,h3 with|0,_,_=>rfl|1,_,_=>rfl|2,_,_=>rfl|3,_,_=>rfl|4,_,_=>rfl|5,_,h=>exact absurd rfl h|6,_,_=>rfl|7,_,_=>rfl) hog (fun g _=>hC g) ?_
        refine yS (oj F (oj z2 (oj q2 d1))) ?_
        refine QT (QA.indexArr (el:=74) (n:=4) (i:=3) kR kR (zE F) (zE F) Af Af) rfl rfl ?_
        refine yS F ?_
        refine Zo (oj F (oj z3 q3)) o3 ?_
        refine yS (oj F (oj z3 q3)) ?_
        refine zA (oj F (oj z3 q3)) ?_
        refine Qh (fun z:Nat×Option Nat=>[(1,.c (.optr g1 0)),(2,.c (.optr g2 0)),(3,.c (.optr g3 0)),(4,.c (.optr g4 0)),(172,.c (is true (zP Q3))),(173,.c (.int .i64 m.groups.length)),(174,.c (.int .i64 z.1))]) (fun z=>mD g3 m RE RH RG RP (gs z.2 4 z.1) .nils::nA g4 N0 N1 N2 N3::mZ g2::mM g1 m::gh z.2 94 (z.1*4) (VR ((Q3.map fun p=>normR (m.groups.getD p gr0)).take z.1))) (fun z=>z.1≤m.groups.length∧(z.2=none→z.1=0)) (fun z=>m.groups.length-z.1) (0,none) (zB (oj F (oj z3 q3))) zZ ⟨Lz _,fun _=>rfl⟩ ?_
        rintro ⟨j,og⟩ ⟨hj,hog⟩
        dsimp only at hj hog⊢
        by_cases hjn:j<m.groups.length
        ·have d1:decide (j<m.groups.length)=true:=Dt hjn
         have hT:=YH (fun p=>normR (m.groups.getD p gr0)) Q3 0 (show j<Q3.length by omega)
         have hTl:=Zn (fun p=>normR (m.groups.getD p gr0)) Q3 (show j≤Q3.length by omega)
         have hql:=p3 j hjn
         have hz:=Qbj Q3 j
         generalize Q3.getD j 0=q at hT hql hz⊢
         have hm:=Vi m.groups gr0 hql
         have hx:=(hs.gr _ hm).1
         clear hm
         generalize hv:m.groups.getD q gr0=x at*
         have c1:=Qbi true x.members om
         refine zA (oj F (oj z3 (oj q3 (oj d1 (oj hz hv))))) ?_
         refine yA (oj F (oj z3 (oj q3 (oj d1 (oj hz hv))))) fun g8 n_8=>?_
         obtain⟨nm,kd,mb,fc⟩:=x
         dsimp only at*
         refine Zo (oj F (oj z3 (oj q3 (oj d1 (oj hz (oj hv n_8)))))) c1 ?_
         refine QX (pre:=[(g8,.cells 94 4 (ofL (Wx (normR ⟨nm,kd,mb,fc⟩)))),mD g3 m RE RH RG RP (gs og 4 j) .nils,nA g4 N0 N1 N2 N3,mZ g2,mM g1 m]) rfl rfl rfl rfl rfl rfl rfl (zE (oj F (oj z3 (oj q3 (oj d1 (oj hz (oj hv n_8))))))) (zE (oj F (oj z3 (oj q3 (oj d1 (oj hz (oj hv n_8))))))) (by rfl) om om (zE (oj F (oj z3 (oj q3 (oj d1 (oj hz (oj hv n_8))))))) om (by exact hog) (zE (oj F (oj z3 (oj q3 (oj d1 (oj hz (oj hv n_8))))))) (by rfl) (by rfl) qb qc om (by exact QeO hTl (normR ⟨nm,kd,mb,fc⟩)) fun gq n_q=> ?_
         replace n_q:=Qa.ne_of n_q
         first|dsimp only [Qa.ne,gh] at n_q|dsimp only [Qa.ne] at n_q|skip
         have J17:=oj F (oj z3 (oj q3 (oj d1 (oj hz (oj hv (oj n_8 n_q))))))
         refine yS J17 ?_
         rw [←hT]
         refine zA J17 ?_
         exact Qb ⟨(j+1,some gq),by dsimp only;omega,(zB J17),Ls _ _,by dsimp only;omega,fun e=>by cases e⟩
        ·obtain rfl:j=m.groups.length:=by omega
         have d1:decide (m.groups.length<m.groups.length)=false:=De om
         rw [Ly (by rw [Lw];omega),s3]
         refine zA (oj F (oj z3 (oj q3 d1))) ?_
         refine Qi (h':=mD g3 m RE RH RG RP (gs og 4 m.groups.length) .nils::(gh og 94 (m.groups.length*4) (VR (Qk YB.name (m.groups.map normR)))++[nA g4 N0 N1 N2 N3,mZ g2,mM g1 m])) (.cons _ (List.perm_append_comm (l₁:=[_,_,_]))) ?_
         refine Xi (j0:=6) (m:=8) (f:=(ofL (mdN m RE RH RG RP (gs og 4 m.groups.length) .nils))) (f':=(ofL (mdN m RE RH RG RP RR .nils))) (fp:=VR (Qk YB.name (m.groups.map normR))) rfl hRR (fun i hi h3=>by match i,hi,h3 with|0,_,_=>rfl|1,_,_=>rfl|2,_,_=>rfl|3,_,_=>rfl|4,_,_=>rfl|5,_,_=>rfl|6,_,h=>exact absurd rfl h|7,_,_=>rfl) hog (fun g _=>hC g) ?_
         refine yS (oj F (oj z3 (oj q3 d1))) ?_
         skip
         refine yS F ?_
         refine zA F ?_
         refine Qh (fun z:Nat×Option Nat=>[(1,.c (.optr g1 0)),(2,.c (.optr g2 0)),(3,.c (.optr g3 0)),(4,.c (.optr g4 0)),(195,.c (phs true m.phases)),(196,.c (.int .i64 m.phases.length)),(197,.c (.int .i64 z.1))]) (fun z=>mD g3 m RE RH RG RP RR (gs z.2 3 z.1)::nA g4 N0 N1 N2 N3::mZ g2::mM g1 m::gh z.2 97 (z.1*3) (Kr ((m.phases.map normH).take z.1))) (fun z=>z.1≤m.phases.length∧(z.2=none→z.1=0)) (fun z=>m.phases.length-z.1) (0,none) (zB F) zZ ⟨Lz _,fun _=>rfl⟩ ?_
         rintro ⟨j,og⟩ ⟨hj,hog⟩
         dsimp only at hj hog⊢
         by_cases hjn:j<m.phases.length
         ·have d1:decide (j<m.phases.length)=true:=Dt hjn
          have hm:=Vi m.phases ph0 hjn
          have hx:=hs.ph _ hm
          have hT:=YH normH m.phases ph0 hjn
          have hTl:=Zn normH m.phases hj
          clear hm
          generalize hv:m.phases.getD j ph0=x at*
          obtain⟨hx1,hx3⟩:=hx
          have nV:x.values.length≤1048576:=by omega
          have o4:=Qcg Zp.event x.values om
          have q4:=Ja (x.values.map Zp.event) x.values.length
          have p4:∀j,j<x.values.length→(Z3 (x.values.map Zp.event) x.values.length).getD j 0<x.values.length:=fun j hj=>Oi (Vi _ _ om)
          have s4:=Qag Zp.event x.values vl0
          generalize Z3 (x.values.map Zp.event) x.values.length=Q4 at o4 q4 p4 s4
          have z4:=Qah Q4
          obtain⟨N4,hN4⟩:∃c:CV,c=.row true 1 x.values.length (Qe (x.values.map Zp.event)):=⟨_,rfl⟩
          rw [←hN4] at o4
          obtain⟨HG,hHG⟩:∃HG:Qa,HG=gh og 97 (j*3) (Kr ((m.phases.map normH).take j)):=⟨_,rfl⟩
          rw [←hHG]
          refine zA (oj F (oj d1 hv)) ?_
          refine yA (oj F (oj d1 hv)) fun g10 n_10=>?_
          refine zA (oj F (oj d1 (oj hv n_10))) ?_
          refine Qh (fun z:Nat×Option Nat=>[(1,.c (.optr g1 0)),(2,.c (.optr g2 0)),(3,.c (.optr g3 0)),(4,.c (.optr g4 0)),(23,.c (.optr g10 0)),(24,.c (gs z.2 1 z.1)),(195,.c (phs true m.phases)),(196,.c (.int .i64 m.phases.length)),(197,.c (.int .i64 j)),(202,.c (vls true x.values)),(203,.c (.int .i64 x.values.length)),(204,.c (.int .i64 z.1))]) (fun z=>(g10,.cells 97 3 (ofL (WR x)))::mD g3 m RE RH RG RP RR (gs og 3 j)::nA g4 N0 N1 N2 N3::mZ g2::mM g1 m::(HG++gh z.2 9 (z.1*1) (Qe ((x.values.map Zp.event).take z.1)))) (fun z=>z.1≤x.values.length∧(z.2=none→z.1=0)) (fun z=>x.values.length-z.1) (0,none) (zB (oj F (oj d1 (oj hv n_10)))) (by show List.Sublist ((g10,.cells 97 3 (ofL (WR x)))::mD g3 m RE RH RG RP RR (gs og 3 j)::nA g4 N0 N1 N2 N3::mZ g2::mM g1 m::(HG++[])) _;rw [Lp];exact Lr _) ⟨Lz _,fun _=>rfl⟩ ?_
          rintro ⟨k,ok⟩ ⟨hk,hok⟩
          dsimp only at hk hok⊢
          by_cases hkn:k<x.values.length
          ·have e1:decide (k<x.values.length)=true:=Dt hkn
           have hU:=YH Zp.event x.values vl0 hkn
           have hUl:=Zn Zp.event x.values hk
           generalize hv3:x.values.getD k vl0=v at*
           refine zA (oj F (oj d1 (oj hv (oj n_10 (oj e1 hv3))))) ?_
           refine yA (oj F (oj d1 (oj hv (oj n_10 (oj e1 hv3))))) fun g6 n_6=>?_
           refine zA (oj F (oj d1 (oj hv (oj n_10 (oj e1 (oj hv3 n_6)))))) ?_
           refine QX (pre:=[(g6,.cells 99 4 (ofL (vlc v))),(g10,.cells 97 3 (ofL (WR x))),mD g3 m RE RH RG RP RR (gs og 3 j),nA g4 N0 N1 N2 N3,mZ g2,mM g1 m]++HG) rfl rfl rfl rfl rfl rfl rfl (zE (oj F (oj d1 (oj hv (oj n_10 (oj e1 (oj hv3 n_6))))))) (zE (oj F (oj d1 (oj hv (oj n_10 (oj e1 (oj hv3 n_6))))))) (by rfl) om om (zE (oj F (oj d1 (oj hv (oj n_10 (oj e1 (oj hv3 n_6))))))) om (by exact hok) (zE (oj F (oj d1 (oj hv (oj n_10 (oj e1 (oj hv3 n_6))))))) (by rfl) (by rfl) qb qc om (by exact YG hUl v.event) fun gq n_q=> ?_
           replace n_q:=Qa.ne_of n_q
           first|dsimp only [Qa.ne,gh] at n_q|dsimp only [Qa.ne] at n_q|skip
           have J18:=oj F (oj d1 (oj hv (oj n_10 (oj e1 (oj hv3 (oj n_6 n_q))))))
           refine yS J18 ?_
           rw [←hU]
           try simp only [Lq,Ln]
           refine zA J18 ?_
           exact Qb ⟨(k+1,some gq),by dsimp only;omega,(zB J18),Ls _ _,by dsimp only;omega,fun e=>by cases e⟩
          ·obtain rfl:k=x.values.length:=by omega
           have e1:decide (x.values.length<x.values.length)=false:=De om
           rw [Ly (by rw [Lw];exact Ac _)]
           refine Qi (h':=gh ok 9 (x.values.length*1) (Qe (x.values.map Zp.event))++((g10,.cells 97 3 (ofL (WR x)))::mD g3 m RE RH RG RP RR (gs og 3 j)::nA g4 N0 N1 N2 N3::mZ g2::mM g1 m::HG)) (List.perm_append_comm (l₁:=(g10,.cells 97 3 (ofL (WR x)))::mD g3 m RE RH RG RP RR (gs og 3 j)::nA g4 N0 N1 N2 N3::mZ g2::mM g1 m::HG)) ?_
           refine Vw (t:=24) (s:=1) (f:=Qe (x.values.map Zp.event)) (f':=Qe (x.values.map Zp.event)) hok (show x.values.length=x.values.length from rfl) (zE (oj F (oj d1 (oj hv n_10)))) (fun g _=>hC g) (fun i _=>rfl) (zE (oj F (oj d1 (oj hv n_10)))) ?_
           rw [←hN4]
           have J19:=oj F (oj d1 (oj hv (oj n_10 e1)))
           refine yS J19 ?_
           refine zA J19 ?_
           refine yA J19 fun g11 n_11=>?_
           refine Zo (oj F (oj d1 (oj hv (oj n_10 (oj e1 (oj n_11 (oj z4 q4))))))) o4 ?_
           refine Qh (fun z:Nat×Option Nat=>[(1,.c (.optr g1 0)),(2,.c (.optr g2 0)),(3,.c (.optr g3 0)),(4,.c (.optr g4 0)),(23,.c (.optr g10 0)),(27,.c (.optr g11 0)),(195,.c (phs true m.phases)),(196,.c (.int .i64 m.phases.length)),(197,.c (.int .i64 j)),(220,.c (is true (zP Q4))),(221,.c (.int .i64 x.values.length)),(222,.c (.int .i64 z.1))]) (fun z=>(g11,.cells 97 3 (ofL [.str (sB x.name),.str (sB x.top),gs z.2 4 z.1]))::(g10,.cells 97 3 (ofL (WR x)))::mD g3 m RE RH RG RP RR (gs og 3 j)::nA g4 N0 N1 N2 N3::mZ g2::mM g1 m::(HG++gh z.2 99 (z.1*4) (V6 ((Q4.map fun p=>x.values.getD p vl0).take z.1)))) (fun z=>z.1≤x.values.length∧(z.2=none→z.1=0)) (fun z=>x.values.length-z.1) (0,none) (zB (oj F (oj d1 (oj hv (oj n_10 (oj e1 (oj n_11 (oj z4 q4)))))))) (by show List.Sublist ((g11,.cells 97 3 (ofL [.str (sB x.name),.str (sB x.top),.nils]))::(g10,.cells 97 3 (ofL (WR x)))::mD g3 m RE RH RG RP RR (gs og 3 j)::nA g4 N0 N1 N2 N3::mZ g2::mM g1 m::(HG++[])) _;rw [Lp];exact Lr _) ⟨Lz _,fun _=>rfl⟩ ?_
           clear hok J19
           rintro ⟨k,ok⟩ ⟨hk,hok⟩
           dsimp only at hk hok⊢
           by_cases hkn:k<x.values.length
           ·have e1:decide (k<x.values.length)=true:=Dt hkn
            have hU:=YH (fun p=>x.values.getD p vl0) Q4 0 (show k<Q4.length by omega)
            have hUl:=Zn (fun p=>x.values.getD p vl0) Q4 (show k≤Q4.length by omega)
            have hql:=p4 k hkn
            have hz:=Qbj Q4 k
            generalize Q4.getD k 0=q at hU hql hz⊢
            generalize hv3:x.values.getD q vl0=v at*
            refine zA (oj F (oj d1 (oj hv (oj n_10 (oj e1 (oj n_11 (oj z4 (oj q4 (oj e1 (oj hz hv3)))))))))) ?_
            refine Yf [(g11,.cells 97 3 (ofL [.str (sB x.name),.str (sB x.top),gs ok 4 k])),(g10,.cells 97 3 (ofL (WR x)))] [(0,0),(1,0),(2,0),(3,0),(4,0),(5,0),(6,0),(7,1),(8,1),(9,0),(10,2)] Qg kR US ?_
            have J20:=oj F (oj d1 (oj hv (oj n_10 (oj e1 (oj n_11 (oj z4 (oj q4 (oj e1 (oj hz hv3)))))))))
            refine yG J20 ?_
            refine Qs (xs:=[.tmp 232]) (cells:=vlc v) rfl rfl rfl rfl (zE J20) (by refine yS J20 ?_;rfl) rfl om om qd rfl Ag US (fun g233 n_233=> ?_) (hm:=.inr ⟨rfl,rfl⟩)
            refine yS J20 ?_
            refine YT (pre:=[(g11,.cells 97 3 (ofL [.str (sB x.name),.str (sB x.top),gs ok 4 k])),(g10,.cells 97 3 (ofL (WR x))),mD g3 m RE RH RG RP RR (gs og 3 j),nA g4 N0 N1 N2 N3,mZ g2,mM g1 m]++HG) (og:=ok) (n:=k) (s:=227) (d1:=233) (gt:=g233) (v:=.agg (vlc v)) rfl rfl rfl rfl (zE J20) (zE J20) (by rfl) om om (zE J20) (zE J20) hok (by rfl) (by rfl) (by simp only [Ad,Lq,Ln];rfl) qc om (QeL hUl v) (XY US) (fun gb n_b=> ?_) (hm:=.inr ⟨rfl,rfl⟩)
            replace n_233:=Qa.ne_of n_233
            simp only [Qa.ne,Lq,Ln] at n_233
            rw [←hU]
            simp only [Lq,Ln]
            have J21:=oj F (oj d1 (oj hv (oj n_10 (oj e1 (oj n_11 (oj z4 (oj q4 (oj e1 (oj hz (oj hv3 n_233))))))))))
            refine Xp J21 ?_
            refine Xm (FP':=[]) rfl rfl rfl rfl rfl (zE J21) (zE J21) (zE J21) (zE J21) (fun _ e=>by cases e) rfl rfl (show 3≤3 from by omega) rfl Qf ?_
            refine Xp J21 ?_
            refine zA J21 ?_
            exact Qb ⟨(k+1,some gb),by dsimp only;omega,(zB J21),Ls _ _,by dsimp only;omega,fun e=>by cases e⟩
           ·obtain rfl:k=x.values.length:=by omega
            have e1:decide (x.values.length<x.values.length)=false:=De om
            rw [Ly (by rw [Lw];omega),s4]
            refine Qi (h':=(g11,.cells 97 3 (ofL [.str (sB x.name),.str (sB x.top),gs ok 4 x.values.length]))::(gh ok 99 (x.values.length*4) (V6 (Qk Zp.event x.values))++((g10,.cells 97 3 (ofL (WR x)))::mD g3 m RE RH RG RP RR (gs og 3 j)::nA g4 N0 N1 N2 N3::mZ g2::mM g1 m::HG))) (.cons _ (List.perm_append_comm (l₁:=(g10,.cells 97 3 (ofL (WR x)))::mD g3 m RE RH RG RP RR (gs og 3 j)::nA g4 N0 N1 N2 N3::mZ g2::mM g1 m::HG))) ?_
            refine Xi (j0:=2) (m:=3) (f:=ofL [.str (sB x.name),.str (sB x.top),gs ok 4 x.values.length]) (f':=ofL (WR (normH x))) (fp:=V6 (Qk Zp.event x.values)) rfl (by show CV.row true 4 (Qk Zp.event x.values).length _=CV.row true 4 _ _;rw [Vj];rfl) (fun i hi h3=>by match i,hi,h3 with|0,_,_=>rfl|1,_,_=>rfl|2,_,h=>exact absurd rfl h) hok (fun g _=>hC g) ?_
            rw [hHG]
            have J22:=oj F (oj d1 (oj hv (oj n_10 (oj e1 (oj n_11 (oj z4 (oj q4 e1)))))))
            refine yS J22 ?_
            refine zA J22 ?_
            refine QX (pre:=[(g11,.cells 97 3 (ofL (WR (normH x)))),(g10,.cells 97 3 (ofL (WR x))),mD g3 m RE RH RG RP RR (gs og 3 j),nA g4 N0 N1 N2 N3,mZ g2,mM g1 m]) rfl rfl rfl rfl rfl rfl rfl (zE J22) (zE J22) (by rfl) om om (zE J22) om (by exact hog) (zE J22) (by rfl) (by rfl) qb qc om (by exact QeP hTl (normH x)) fun gq n_q=> ?_
            replace n_q:=Qa.ne_of n_q
            first|dsimp only [Qa.ne,gh] at n_q|dsimp only [Qa.ne] at n_q|skip
            have J23:=oj F (oj d1 (oj hv (oj n_10 (oj e1 (oj n_11 (oj z4 (oj q4 (oj e1 n_q))))))))
            refine yS J23 ?_
            rw [←hT]
            refine zA J23 ?_
            exact Qb ⟨(j+1,some gq),by dsimp only;omega,(zB J23),(.cons _ (Ls _ _)),by dsimp only;omega,fun e=>by cases e⟩
         ·have d1:decide (j<m.phases.length)=false:=De hjn
          obtain rfl:j=m.phases.length:=by omega
          rw [Ly (show(m.phases.map normH).length≤m.phases.length by rw [Lw];exact Ac _)]
          refine Qi (h':=mD g3 m RE RH RG RP RR (gs og 3 m.phases.length)::(gh og 97 (m.phases.length*3) (Kr (m.phases.map normH))++[nA g4 N0 N1 N2 N3,mZ g2,mM g1 m])) (.cons _ (List.perm_append_comm (l₁:=[_,_,_]))) ?_
          refine Xi (j0:=7) (m:=8) (f:=(ofL (mdN m RE RH RG RP RR (gs og 3 m.phases.length)))) (f':=(ofL (mdN m RE RH RG RP RR RS))) (fp:=Kr (m.phases.map normH)) rfl hRS (fun i hi h3=>by match i,hi,h3 with|0,_,_=>rfl|1,_,_=>rfl|2,_,_=>rfl|3,_,_=>rfl|4,_,_=>rfl|5,_,_=>rfl|6,_,_=>rfl|7,_,h=>exact absurd rfl h) hog (fun g _=>hC g) ?_
          refine yS F ?_
          have ye:RE=evs true (Qk X3.name m.events):=by rw [hRE];show _=CV.row true _ _ _;rw [Vj]
          have yh:RH=hss true (Qk Vx.name m.houses):=by rw [hRH];show _=CV.row true _ _ _;rw [Vj]
          have yp:RP=pgs true (Qk Yz.name (m.pages.map normP)):=by rw [hRP];show _=CV.row true _ _ _;rw [Vj,Lw]
          have yr:RR=grs true (Qk YB.name (m.groups.map normR)):=by rw [hRR];show _=CV.row true _ _ _;rw [Vj,Lw]
          have ys:RS=phs true (m.phases.map normH):=by rw [hRS];show _=CV.row true _ _ _;rw [Lw]
          rw [ye,yh,yp,yr,ys,hRG]
          refine zA (oj F d1) ?_
          refine yT hC (oj F d1) ?_
          exact .one (.agg (QhE (x:=Kw m)))
end Go.Proofs.YtngjgahldnnapaaGreatDoor
namespace Go.PN
open Go.AI
variable {α : Type}
theorem Qch {l:List α} {f:α→BS} {c:Nat} (h:∀x∈l,(f x).length≤c):(l.flatMap f).length≤l.length*c:=by
 induction l with
 |nil=>simp
 |cons x l ih=>
  rw [List.flatMap_cons,La,Lc,Nat.succ_mul]
  have h1:=h x Lf
  have h2:=ih fun y hy=>h y (Lm _ hy)
  omega
theorem QfT {β:Type} {l:List α} {f:α→BS} {g:α→List β} {c d:Nat} (h:∀x∈l,(f x).length≤c+d*(g x).length):(l.flatMap f).length≤l.length*c+d*(l.flatMap g).length:=by
 induction l with
 |nil=>simp
 |cons x l ih=>
  rw [List.flatMap_cons,La,Lc,Nat.succ_mul,List.flatMap_cons,La,Nat.mul_add]
  have h1:=h x Lf
  have h2:=ih fun y hy=>h y (Lm _ hy)
  omega
theorem Qd7 [DecidableEq α]:∀{l m:List α},l.Nodup→(∀x∈l,x∈m)→l.length≤m.length
 |[],_,_,_=>Lz _
 |x::l,m,hn,h=>by
  have hx:=h x Lf
  obtain⟨h1,h2⟩:=List.nodup_cons.1 hn
  have h3:=Qd7 (l:=l) (m:=m.erase x) h2 fun y hy=>(List.mem_erase_of_ne (fun e=>h1 (by rw [←e];exact hy))).2 (h y (Lm _ hy))
  rw [List.length_erase_of_mem hx] at h3
  have:=List.length_pos_of_mem hx
  rw [Lc]
  omega
def OF (l:List BS):Nat:=(l.flatMap fun w=>0::w).length
theorem Xd (w:BS) (l:List BS):OF (w::l)=w.length+1+OF l:=by
 unfold OF;rw [List.flatMap_cons,La,Lc]
theorem VF:OF []=0:=rfl
theorem Qai (a b:List BS):OF (a++b)=OF a+OF b:=by
 unfold OF;rw [List.flatMap_append,La]
theorem Qib {l:List BS} {c:Nat} (h:∀w∈l,w.length≤c):OF l≤l.length*(c+1):=
 Qch fun w hw=>by have:=h w hw;rw [Lc];omega
theorem Ur (w:BS) (l:List BS):(Xj (w::l)).length=OF (w::l):=by
 rw [Xd]
 show(w++l.flatMap (fun y=>32::y)++[59]).length=_
 rw [La,La]
 have:(l.flatMap fun y=>(32::y:BS)).length=OF l:=by
  unfold OF
  induction l with
  |nil=>rfl
  |cons x l ih=>rw [List.flatMap_cons,List.flatMap_cons,La,La,ih];simp
 rw [this,List.length_singleton]
 omega
theorem Qbk {s:BS} (h:QB s=true):s.length≤24:=by
 unfold QB at h
 simp only [Ba,Dq] at h
 exact h.1.1.2
theorem QaA {r:RD} (h:QF r=false):(Xr r).length≤100:=by
 unfold QF at h
 have:=of_decide_eq_false h
 omega
theorem Qic {w:BS} {r:RD} (h:(Xr r).length≤100):OF (Yj w r)≤w.length+102:=by
 unfold Yj
 split
 ·rw [VF];omega
 ·rw [Xd,Xd,VF];omega
theorem QyZ {x:X3} (h:EvA x) (hl:QbP x=false):(evX x).length≤368:=by
 obtain⟨h0,_,_,_,h4,h5⟩:=h
 unfold QbP at hl
 simp only [Bool.or_eq_false_iff] at hl
 obtain⟨⟨l1,l2⟩,l3⟩:=hl
 have a1:=Qic (w:=kP) (QaA l1)
 have a2:=Qic (w:=kFail) (QaA l2)
 have a3:=Qic (w:=kRepair) (QaA l3)
 have a4:OF (Yj kCost (rd (x.cost:Rat)))≤16:=by
  have hl:=WC 9 x.cost.natAbs (by show x.cost.natAbs<10000000000;omega)
  unfold Yj
  split
  ·rw [VF];omega
  ·rename_i e
   have hz:x.cost≠0:=fun z=>e ((O2 x.cost).2 z)
   rw [Xd,Xd,VF,QbT om]
   show 4+1+_≤16
   omega
 have a5:=Qbk h0
 unfold evX
 rw [La]
 unfold evW
 rw [Ur,Xd,Xd,Qai,Qai,Qai]
 show 5+1+_+1≤368
 have e1:kP.length=1:=rfl
 have e2:kFail.length=4:=rfl
 have e3:kRepair.length=6:=rfl
 omega
theorem Qs0 {m:Qv} (hg:Good m) {L:List Xe} (hL:GsA m L) {i:BS} (h:InN m L i):i.length≤25:=by
 rcases h with ⟨_,h⟩|⟨_,h|h|h⟩
 ·obtain⟨p,hp,e⟩:=List.mem_map.1 h
  have:=Qbk (hg.pg p hp).1
  rw [e,List.length_drop] at this
  omega
 ·obtain⟨p,hp,rfl⟩:=List.mem_map.1 h
  have:=Qbk (hg.ev p hp).1
  omega
 ·obtain⟨p,hp,rfl⟩:=List.mem_map.1 h
  have:=Qbk (hg.hs p hp).1
  omega
 ·obtain⟨p,hp,rfl⟩:=List.mem_map.1 h
  have:=Qbk (hL.2 p hp).1
  omega
theorem Qxx {x:Xe} (h:Je x=0):0≤x.kind∧x.kind≤8∧x.inputs.length≤16∧(x.kind=7→2≤x.inputs.length)∧(x.kind=2→1≤x.k∧x.k≤x.inputs.length):=by
 unfold Je at h
 split at h
 ·cases h
 ·rename_i h1
  split at h
  ·cases h
  ·rename_i h2
   split at h
   ·cases h
   ·rename_i h3
    have hi:QeR x.kind x.inputs.length=true:=by simpa using h2
    unfold QeR at hi
    refine⟨by omega,by omega,?_,fun e=> ?_,fun e=> ?_⟩
    ·split at hi
     ·have:x.inputs.length=1:=by simpa using hi
      omega
     ·split at hi
      ·have:x.inputs.length=2:=by simpa using hi
       omega
      ·split at hi<;>(simp only [Ba,Dq] at hi;omega)
    ·rw [iN om,iN om,iP om] at hi
     simp only [Ba,Dq] at hi
     omega
    ·have:¬(x.k<1∨x.k>x.inputs.length):=fun z=>h3 ⟨e,z⟩
     omega
theorem Qvw {k:Int} (h0:0≤k) (h1:k≤8):(XG k).length≤7:=by
 have:k=0∨k=1∨k=2∨k=3∨k=4∨k=5∨k=6∨k=7∨k=8:=by omega
 rcases this with rfl|rfl|rfl|rfl|rfl|rfl|rfl|rfl|rfl<;>decide
theorem Qv7 {m:Qv} (hg:Good m) {L:List Xe} (hL:GsA m L) {ind:BS} (hi:ind.length≤2) {x:Xe} (hx:x∈L) (hl:QF x.dorm=false):(gtX ind x).length≤460+51*(Jg x).length:=by
 obtain⟨a1,_,_,a4,a5,_,_⟩:=hL.2 x hx
 obtain⟨s1,s2,s3,s4,s5⟩:=Qxx a4
 have b1:=Qbk a1
 have b2:=Qvw s1 s2
 have b3:OF x.inputs≤x.inputs.length*26:=Qib fun w hw=>Qs0 hg hL (a5 w hw)
 have b4:x.inputs.length*26≤16*26:=Nm _ s3
 have b5:OF (if x.kind=2 then [YX x.k] else if x.kind=7 then [Xr x.dorm] else [])≤3+51*(Jg x).length:=by
  split
  ·rename_i e
   obtain⟨k1,k2⟩:=s5 e
   have hd:=WC 1 x.k.natAbs (by show x.k.natAbs<100;omega)
   rw [Xd,VF]
   unfold YX
   rw [iN om]
   omega
  ·split
   ·rename_i e
    have hd:=QaA hl
    have h2:=s4 e
    have h3:(Jg x).length=x.inputs.length:=by unfold Jg;rw [iP e]
    rw [Xd,VF,h3]
    omega
   ·rw [VF];omega
 unfold gtX Zj YY
 rw [La,La,Ur,Xd,Xd,Xd,Qai]
 have e1:Qz.length=4:=rfl
 rw [List.length_singleton]
 omega
theorem Qy0 {m:Qv} (hg:Good m) {x:Vx} (hx:x∈m.houses):(hsX x).length≤36:=by
 have b1:=Qbk (hg.hs x hx).1
 unfold hsX
 rw [La,Ur,Xd,Xd,Xd,VF,List.length_singleton]
 have e1:QP.length=5:=rfl
 have e2:(if x.on then kOn else Ox).length≤3:=by split<;>decide
 omega
theorem Qha {k n t:BS}:(UN k n t).length=k.length+n.length+t.length+9:=by
 unfold UN
 simp only [La,Lc,Lu]
 have e1:Yx.length=3:=rfl
 omega
theorem Qy1 {m:Qv} (hg:Good m) {x:YB} (hx:x∈m.groups) (hl:x.factors.any QF=false):(grX x).length≤345+25*x.members.length:=by
 obtain⟨a1,a2,⟨a3,a4,a5⟩,a6,_⟩:=hg.gr x hx
 have b1:=Qbk a1
 have b2:OF x.members≤x.members.length*25:=Qib fun w hw=>by
  obtain⟨p,hp,rfl⟩:=List.mem_map.1 (a6 w hw)
  exact Qbk (hg.ev p hp).1
 have b3:OF (x.factors.map Xr)≤(x.factors.map Xr).length*101:=Qib fun w hw=>by
  obtain⟨r,hr,rfl⟩:=List.mem_map.1 hw
  exact QaA (by simpa using (List.any_eq_false.1 hl r hr))
 rw [Lw] at b3
 have b4:x.factors.length≤3:=by split at a4<;>split at a5<;>omega
 have b5:x.factors.length*101≤3*101:=Nm _ b4
 unfold grX grW
 rw [La,Ur,Xd,Xd,Xd,Qai,Xd]
 have e4:([10]:BS).length=1:=rfl
 have e1:Xf.length=5:=rfl
 have e2:(if x.kind=1 then Yh else ZF).length≤5:=by split<;>decide
 have e3:Zi.length=1:=rfl
 omega
theorem Qy2 {m:Qv} (hg:Good m) {v:Zp} (hv:v.event∈Ug m) (hl:QF v.p=false):(vlX v).length≤129:=by
 obtain⟨p,hp,e⟩:=List.mem_map.1 hv
 have b1:=Qbk (hg.ev p hp).1
 rw [e] at b1
 have b2:=QaA hl
 unfold vlX
 rw [La,La,Ur,Xd,Xd,VF,List.length_singleton]
 simp only [Lc,Lu]
 omega
theorem Qy3 {m:Qv} (hg:Good m) {x:V0} (hx:x∈m.phases) (hl:(x.values.any fun v=>QF v.p)=false):(phX x).length≤3161:=by
 obtain⟨a1,a2,a3,a4⟩:=hg.ph x hx
 have b1:=Qbk a1
 have b2:=Qs0 hg hg.gt a2
 have b3:x.values.length≤24:=by
  have:=Qd7 a4 (m:=Ug m) fun n hn=>by
   obtain⟨v,hv,rfl⟩:=List.mem_map.1 hn
   exact(a3 v hv).1
  rw [Lw,Lw] at this
  have:=hg.evl
  omega
 have b4:(x.values.flatMap vlX).length≤x.values.length*129:=Qch fun v hv=>Qy2 hg (a3 v hv).1 (by simpa using (List.any_eq_false.1 hl v hv))
 have b5:x.values.length*129≤24*129:=Nm _ b3
 unfold phX
 rw [La,La,Qha]
 have e1:Q9.length=5:=rfl
 simp only [Lc,Lu]
 omega
theorem Qkz {m:Qv} (hg:Good m) (hl:Jp m=false):(XZ m).length≤63100:=by
 unfold Jp at hl
 simp only [Bool.or_eq_false_iff] at hl
 obtain⟨⟨⟨⟨l1,l2⟩,l3⟩,l4⟩,l5⟩:=hl
 have c1:(m.events.flatMap evX).length≤m.events.length*368:=Qch fun x hx=>QyZ (hg.ev x hx) (by simpa using (List.any_eq_false.1 l1 x hx))
 have c2:(m.houses.flatMap hsX).length≤m.houses.length*36:=Qch fun x hx=>Qy0 hg hx
 have c3:(m.gates.flatMap (gtX [])).length≤m.gates.length*460+51*(m.gates.flatMap Jg).length:=QfT fun x hx=>Qv7 hg hg.gt (by simp) hx (by simpa using (List.any_eq_false.1 l2 x hx))
 have c4:∀l:List Yz,(∀x∈l,x∈m.pages)→(l.flatMap pgX).length≤l.length*69+(l.map fun p=>p.gates.length).sum*460+51*((l.flatMap Yz.gates).flatMap Jg).length:=by
  intro l
  induction l with
  |nil=>intro _;simp
  |cons x l ih=>
   intro h
   have i1:=ih fun y hy=>h y (Lm _ hy)
   have hx:=h x Lf
   obtain⟨p1,p2,p3⟩:=hg.pg x hx
   have q1:=Qbk p1
   have q2:x.top.length≤24:=by
    rcases p3 with p3|p3
    ·obtain⟨y,hy,e⟩:=List.mem_map.1 p3
     rw [←e];exact Qbk (p2.2 y hy).1
    ·obtain⟨y,hy,e⟩:=List.mem_map.1 p3
     rw [←e];exact Qbk (hg.ev y hy).1
   have q3:(x.gates.flatMap (gtX [32,32])).length≤x.gates.length*460+51*(x.gates.flatMap Jg).length:=QfT fun g hgx=>Qv7 hg p2 (by simp) hgx (by
    have:=List.any_eq_false.1 l3 x hx
    have h2:Jo x.gates=false:=by simpa using this
    simpa using (List.any_eq_false.1 h2 g hgx))
   have e1:XT.length=4:=rfl
   rw [List.flatMap_cons,La,List.flatMap_cons,List.flatMap_append,La,Ld,List.sum_cons,Lc]
   unfold pgX
   rw [La,La,Qha]
   simp only [Lc,Lu]
   unfold pgX at i1
   omega
 have c4:=c4 m.pages fun _ h=>h
 have c5:(m.groups.flatMap grX).length≤m.groups.length*345+25*(m.groups.flatMap YB.members).length:=QfT fun x hx=>Qy1 hg hx (by simpa using (List.any_eq_false.1 l4 x hx))
 have c6:(m.phases.flatMap phX).length≤m.phases.length*3161:=Qch fun x hx=>Qy3 hg hx (by simpa using (List.any_eq_false.1 l5 x hx))
 have s1:((m.gates++m.pages.flatMap Yz.gates).flatMap Jg).length≤(Ug m).length:=Qd7 hg.sp fun n hn=>by
  obtain⟨g,hgm,hn⟩:=List.mem_flatMap.1 hn
  have k:g.kind=7∧n∈g.inputs:=by
   unfold Jg at hn
   split at hn
   ·exact⟨‹_›,hn⟩
   ·cases hn
  rcases List.mem_append.1 hgm with h|h
  ·exact(hg.gt.2 g h).2.2.2.2.2.1 k.1 n k.2
  ·obtain⟨p,hp,hpg⟩:=List.mem_flatMap.1 h
   exact((hg.pg p hp).2.1.2 g hpg).2.2.2.2.2.1 k.1 n k.2
 have s2:(m.groups.flatMap YB.members).length≤(Ug m).length:=Qd7 hg.grm fun n hn=>by
  obtain⟨x,hx,hn⟩:=List.mem_flatMap.1 hn
  exact(hg.gr x hx).2.2.2.1 n hn
 rw [List.flatMap_append,La,Lw] at s1
 rw [Lw] at s2
 have k1:=hg.evl
 have k2:=hg.hsl
 have k3:=hg.pgl
 have k4:=hg.gtl
 unfold gtN at k4
 have k5:=hg.grl
 have k6:=hg.phl
 have k7:=Qbk hg.nm
 have k8:=Qs0 hg hg.gt hg.tp
 unfold XZ
 simp only [La,Lc,Lu]
 rw [Ur,Ur,Xd,Xd,Xd,Xd,VF]
 have e1:ZR.length=5:=rfl
 have e2:Yx.length=3:=rfl
 omega
end Go.PN
namespace Go.PN
open Go.AI
theorem Oj {α β:Type} {l:List α} {f:α→β} {p:β→Bool} {q:α→Bool} (h:∀x∈l,p (f x)=q x):(l.map f).any p=l.any q:=by
 induction l with
 |nil=>rfl
 |cons x l ih=>
  rw [Ld,List.any_cons,List.any_cons,h x Lf,ih fun y hy=>h y (Lm _ hy)]
theorem QkA {L L':List Xe} (h:ReL L L'):Jo L'=Jo L:=by
 obtain⟨f,f1,f2⟩:=h
 unfold Jo
 rw [f2.any_eq]
 exact Oj fun x hx=>by rw [(f1 x hx).dm]
theorem Qs1 {m m':Qv} (h:ReM m m'):Jp m'=Jp m:=by
 obtain⟨hp,p1,p2⟩:=h.pg
 obtain⟨hr,r1,r2⟩:=h.gr
 obtain⟨hh,q1,q2⟩:=h.ph
 unfold Jp
 have z1:((m.pages.map hp).any fun p=>Jo p.gates)=m.pages.any fun p=>Jo p.gates:=Oj fun x hx=>QkA (p1 x hx).gt
 have z2:((m.groups.map hr).any fun x=>x.factors.any QF)=m.groups.any fun x=>x.factors.any QF:=Oj fun x hx=>by rw [(r1 x hx).fa]
 have z3:((m.phases.map hh).any fun x=>x.values.any fun v=>QF v.p)=m.phases.any fun x=>x.values.any fun v=>QF v.p:=Oj fun x hx=>(q1 x hx).vl.any_eq
 rw [h.ev.any_eq,QkA h.gt,p2.any_eq,r2.any_eq,q2,z1,z2,z3]
def V8 (m:Qv):BS×Int:=if UA m≠0 then([],UA m) else Vo (Kw m)
theorem Qvx {m:Qv} (h0:UA m=0) (hl:Jp m=false):V8 m=(XZ (Kw m),0):=by
 unfold V8 Vo
 have hg:=Qn0 (Qaz m) (WJ h0)
 have e:Jp (Kw m)=false:=by rw [Qs1 (Qaz m)];exact hl
 have:=Qkz hg e
 rw [iN (fun z=>z h0),iN]
 rintro (z|z)
 ·rw [e] at z;cases z
 ·omega
end Go.PN
namespace Go.PN
open Go.AI
noncomputable def dgZ (h b:Int):Int:=XE .u64 (Qwa .u64 h b*1099511628211)
noncomputable def Qvy (l:BS):Nat→Int
 |0=>14695981039346656037
 |n+1=>dgZ (Qvy l n) (XF l n)
noncomputable def Qqd (l:BS):Int:=Qvy l l.length
end Go.PN
namespace Go.Proofs.YtngjgahldnnapaaGreatDoor
open Go.AI Go.PN Proofs.Tryz
attribute [local irreducible] aw Fa ZN ZZ Fh YE
theorem QfU (m:Qv) (ho:Jb m):Fa prog 9 [.agg (Xa true m)] (.tup [.c (.str (sB (V8 m).1)),.c (Y2 (V8 m).2)]):=by
 have f1:=Qkk m ho
 by_cases hc:UA m=0
 ·have hoN:=QsX (Qaz m) ho
  have hcN:=QsV (Qaz m) hc
  have f2:=Qfx (Kw m) hoN (fun h=>QhU hoN h)
  rw [iN (fun h=>h hcN)] at f2
  have e:V8 m=Vo (Kw m):=iN (fun h=>h hc)
  have e0:Y2 0=.nilI:=iP rfl
  rw [iP hc,hc,e0] at f1
  rw [e]
  clear hoN hcN e
  generalize Vo (Kw m)=R at*
  obtain⟨t,c⟩:=R
  dsimp only at*
  generalize Kw m=n at*
  refine fA func9 fun C hC=>?_
  repeat' first|refine zV o0 ?_|refine zH o0 ?_ ?_<;>intro hb|fail
  refine xB fun g1 n_1=>?_
  repeat' first|refine zV n_1 ?_|refine yQ n_1 f1 ?_|refine zH n_1 ?_ ?_<;>intro hb|fail
  refine yA n_1 fun g2 n_2=>?_
  all_goals try(have Z:=(oj n_1 n_2);(repeat' first|refine zV Z ?_|refine yQ Z f1 ?_|refine yQ Z f2 ?_|refine zH Z ?_ ?_<;>intro hb|fail);all_goals clear Z)
  refine yT hC (oj n_1 n_2) ?_
  exact .tup ⟨.c (.str _),.c Zv,trivial⟩
 ·have e:V8 m=([],UA m):=iP hc
  have hc':(!decide (UA m=0))=true:=by rw [De hc];rfl
  rw [iN hc] at f1
  rw [e]
  refine fA func9 fun C hC=>?_
  repeat' first|refine zV o0 ?_|refine zH o0 ?_ ?_<;>intro hb|fail
  refine xB fun g1 n_1=>?_
  all_goals try(have Z:=(oj n_1 hc');(repeat' first|refine zV Z ?_|refine yQ Z f1 ?_|refine zH Z ?_ ?_<;>intro hb|fail);all_goals clear Z)
  refine yA (oj n_1 hc') fun g2 n_2=>?_
  all_goals try(have Z:=(oj n_1 (oj hc' n_2));(repeat' first|refine zV Z ?_|refine yQ Z f1 ?_|refine zH Z ?_ ?_<;>intro hb|fail);all_goals clear Z)
  refine yT hC (oj n_1 (oj hc' n_2)) ?_
  exact .tup ⟨.c (.str _),.c Zv,trivial⟩
theorem QaB (l:BS) (hl:l.length≤1099511627776):Fa prog 12 [.c (.str (sB l))] (.c (.int .u64 (Qqd l))):=by
 refine fA func12 fun C hC=>?_
 repeat' first|refine zV o0 ?_|refine zH o0 ?_ ?_<;>intro hb|fail
 refine Qh (fun i:Nat=>[(0,.c (.str (sB l))),(3,.c (.int .u64 (Qvy l i))),(6,.c (.int .i64 l.length)),(7,.c (.int .i64 i))]) (fun _=>[]) (fun i=>i≤l.length) (fun i=>l.length-i) 0 eB zZ (Lz _) ?_
 rintro i hi
 have b1:=QcI l i
 repeat' first|refine zV o0 ?_|refine zH o0 ?_ ?_<;>intro hb|fail
 ·(refine Qbu false rfl (fun R hR=> ?_);simp only [go_sem];(with_reducible refine hR _ _ ?_ ?_);(focus (((try simp only [XH])<;>and_intros<;>first|exact True.intro|omega|trivial);done));clear hR R)
  repeat' first|refine zV o0 ?_|refine zH o0 ?_ ?_<;>intro hb|fail
  exact Qb ⟨i+1,by omega,eB,zZ,by omega⟩
 ·have e:i=l.length:=by omega
  subst e
  refine xT hC ?_
  exact .one (.c (.int _ _))
end Go.Proofs.YtngjgahldnnapaaGreatDoor
namespace Go.PN
theorem Qvz (m:Qv):(V8 m).1.length≤65536:=by
 unfold V8 Vo
 split
 ·simp
 ·split
  ·simp
  ·rename_i h
   show(XZ _).length≤65536
   omega
end Go.PN
namespace Go.Proofs.YtngjgahldnnapaaGreatDoor
open Go.AI Go.PN Proofs.Tryz
attribute [local irreducible] aw Fa ZN ZZ Fh YE
theorem Ql6 (m:Qv) (ho:Jb m):ZN prog 10 [.agg (Xa true m)] (.tup [.c (.str (sB (V8 m).1)),.c (.int .i64 (V8 m).2)]):=by
 have f1:=Qfz m ho
 by_cases hc:UA m=0
 ·have hoN:=QsX (Qaz m) ho
  have hcN:=QsV (Qaz m) hc
  have hg:=WJ hc
  have f2:=QsZ m hg (Qsd ho hg)
  have f3:=Qka (Kw m) hoN hcN
  have e:V8 m=Vo (Kw m):=iN (fun h=>h hc)
  rw [e]
  rw [hc] at f1
  clear hoN hcN e
  generalize Vo (Kw m)=R at*
  obtain⟨t,c⟩:=R
  dsimp only at*
  generalize Kw m=n at*
  refine Yo func10 rfl rfl (by simp [ntmps10]) fun C hC hT=> ?_
  simp only [Y8,Nat.reduceAdd]
  repeat' first|refine zV o0 ?_|refine zH o0 ?_ ?_<;>intro hb|fail
  refine xB fun g1 n_1=>?_
  repeat' first|refine zV n_1 ?_|refine yQ n_1 f1 ?_|refine yQ n_1 f2 ?_|(refine yC3 n_1 ((f3).toC hT) ?_)|(refine yD3 n_1 ((f3).toC hT) ?_)|refine zH n_1 ?_ ?_<;>intro hb|fail
  refine yT hC n_1 ?_
  exact .tup ⟨.c (.str _),.c (.int _ _),trivial⟩
 ·have e:V8 m=([],UA m):=iP hc
  have hc':(!decide (UA m=0))=true:=by rw [De hc];rfl
  have hc2:(UA m !=0)=true:=by simpa using hc
  rw [e]
  refine Yo func10 rfl rfl (by simp [ntmps10]) fun C hC hT=> ?_
  simp only [Y8,Nat.reduceAdd]
  repeat' first|refine zV o0 ?_|refine zH o0 ?_ ?_<;>intro hb|fail
  refine xB fun g1 n_1=>?_
  all_goals try(have Z:=(oj n_1 (oj hc' hc2));(repeat' first|refine zV Z ?_|refine yQ Z f1 ?_|refine zH Z ?_ ?_<;>intro hb|fail);all_goals clear Z)
  refine yT hC (oj n_1 (oj hc' hc2)) ?_
  exact .tup ⟨.c (.str _),.c (.int _ _),trivial⟩
theorem QfV (l:BS) (hl:l.length≤1099511627776):Fa prog 13 [.c (.str (sB l))] (.c (.int .u64 (Qqd l))):=by
 refine fA func13 fun C hC=>?_
 repeat' first|refine zV o0 ?_|refine zH o0 ?_ ?_<;>intro hb|fail
 refine Qh (fun i:Nat=>[(0,.c (.str (sB l))),(3,.c (.int .u64 (Qvy l i))),(6,.c (.int .i64 l.length)),(7,.c (.int .i64 i))]) (fun _=>[]) (fun i=>i≤l.length) (fun i=>l.length-i) 0 eB zZ (Lz _) ?_
 rintro i hi
 have b1:=QcI l i
 repeat' first|refine zV o0 ?_|refine zH o0 ?_ ?_<;>intro hb|fail
 ·(refine Qbu false rfl (fun R hR=> ?_);simp only [go_sem];(with_reducible refine hR _ _ ?_ ?_);(focus (((try simp only [XH])<;>and_intros<;>first|exact True.intro|omega|trivial);done));clear hR R)
  repeat' first|refine zV o0 ?_|refine zH o0 ?_ ?_<;>intro hb|fail
  exact Qb ⟨i+1,by omega,eB,zZ,by omega⟩
 ·have e:i=l.length:=by omega
  subst e
  refine xT hC ?_
  exact .one (.c (.int _ _))
end Go.Proofs.YtngjgahldnnapaaGreatDoor
namespace Go.AI
open Go.PN
section
variable {P : Program}
def tSS (P:Program) (t:TypeId):Bool:= !P.stoodInHeld t&& !P.eqGuardType P.depth t&&Qmt P t&&(match (P.fieldsOf t).toList with
 |[f,g]=>f.name != "_" &&g.name != "_" &&f.offset==0&&g.offset==1&&Qn3 P f.type&&Qn3 P g.type
 |_=>false)
theorem Qhb {t:TypeId} (u:P.underlying t=some .string) (s x:ByteArray) (w:World):(part t #[.string s,.string x] 0).run P w=.ok (.string s) w:=by
 have g1:(isAgg t).run P w=.ok false w:=by simp [isAgg,run_underlying u]
 unfold part
 simp only [Sem.run_bind,g1,Result.andThen_ok,Bool.false_eq_true,if_false]
 rfl
theorem QaC {t:TypeId} (u:P.underlying t=some .string) (s x:ByteArray) (w:World):(part t #[.string s,.string x] 1).run P w=.ok (.string x) w:=by
 have g1:(isAgg t).run P w=.ok false w:=by simp [isAgg,run_underlying u]
 unfold part
 simp only [Sem.run_bind,g1,Result.andThen_ok,Bool.false_eq_true,if_false]
 rfl
theorem QkB {t:TypeId} (ht:tSS P t=true):P.stoodInHeld t=false∧P.eqGuardType P.depth t=false∧P.underlying t=some (.struct (P.fieldsOf t))∧∃f g,(P.fieldsOf t).toList=[f,g]∧f.name≠ "_" ∧g.name≠ "_" ∧f.offset=0∧g.offset=1∧P.underlying f.type=some .string∧P.underlying g.type=some .string:=by
 unfold tSS at ht
 simp only [Ba,Bool.not_eq_true'] at ht
 obtain⟨⟨⟨h1,h2⟩,h4⟩,h3⟩:=ht
 refine⟨h1,h2,QaZ h4,?_⟩
 split at h3
 ·rename_i f g hfg
  simp only [Ba,bne_iff_ne,ne_eq,beq_iff_eq] at h3
  obtain⟨⟨⟨⟨⟨n1,n2⟩,o1⟩,o2⟩,u1⟩,u2⟩:=h3
  exact⟨f,g,hfg,n1,n2,o1,o2,QfR u1,QfR u2⟩
 ·cases h3
theorem Qid (a c:BS):((sB a).toList==(sB c).toList)=decide (a=c):=by
 have:=Qqm a c
 unfold Jm at this
 rw [show sB a=⟨a.toArray⟩ from rfl,show sB c=⟨c.toArray⟩ from rfl,this,Bool.eq_iff_iff];simp
theorem QvA {t:TypeId} (ht:tSS P t=true) (a c b d:BS) (w:World):(Op.equalIn 10000 t (.agg #[.string (sB a),.string (sB b)]) (.agg #[.string (sB c),.string (sB d)])).run P w=.ok (decide (a=c∧b=d)) w:=by
 obtain⟨h1,_,hu,f,g,hfg,n1,n2,o1,o2,u1,u2⟩:=QkB ht
 rw [show(10000:Nat)=9999+1 from rfl,run_equalIn_agg w 9999 t _ _ hu h1,hfg]
 have e1:(Op.equalIn 9999 f.type (.string (sB a)) (.string (sB c))).run P w=.ok ((sB a).toList==(sB c).toList) w:=run_equalIn_string w 9998 f.type _ _ u1
 have e2:(Op.equalIn 9999 g.type (.string (sB b)) (.string (sB d))).run P w=.ok ((sB b).toList==(sB d).toList) w:=run_equalIn_string w 9998 g.type _ _ u2
 simp only [Op.eqFields,n1,n2,not_false_eq_true,if_true,Sem.run_bind,o1,o2,Qhb u1,QaC u2,e1,e2,Result.andThen_ok,Qid,ne_eq]
 by_cases hac:a=c
 ·subst hac
  by_cases hbd:b=d
  ·subst hbd;simp [QaC u2,e2,Qid]
  ·have e3:(decide (b=d))=false:=De hbd
   simp [QaC u2,e2,Qid,hbd]
 ·simp [hac]
def Js (p:BS×BS):Value:=.agg #[.string (sB p.1),.string (sB p.2)]
theorem Qci {kt:TypeId} (ht:tSS P kt=true):Oq P kt Js:=by
 obtain⟨h1,h2,hu,f,g,hfg,n1,n2,o1,o2,u1,u2⟩:=QkB ht
 have heq:∀(a b:BS×BS) (w:World),(Op.equal kt (Js a) (Js b)).run P w=.ok (decide (a=b)) w:=fun a b w=>by
  have:=QvA ht a.1 b.1 a.2 b.2 w
  unfold Op.equal Op.maxDepth Js
  rw [this]
  congr 1
  rw [Bool.eq_iff_iff];simp [Prod.ext_iff]
 refine⟨fun b a w=> ?_,fun a ks es w h=> ?_⟩
 ·unfold Js
  rw [show(10000:Nat)=9999+1 from rfl,Instr.checkKey]
  simp only [Sem.run_bind,run_underlying hu,Result.andThen_ok]
  rw [←Array.forIn_toList,hfg]
  have c0:∀(n:Nat) (t:TypeId) (s:ByteArray),P.underlying t=some .string→(Instr.checkKey b (n+1) t (.string s)).run P w=.ok () w:=fun n t s u=>by simp [Instr.checkKey,run_underlying u]
  have c1:=c0 9998 f.type (sB a.1) u1
  have c2:=c0 9998 g.type (sB a.2) u2
  simp only [List.forIn_cons,List.forIn_nil,n1,n2,not_false_eq_true,if_true,ne_eq,o1,o2,Sem.run_bind,Qhb u1,QaC u2,Result.andThen_ok,Sem.run_pure,c1,c2]
 ·unfold Instr.findKey
  simp only [Sem.run_bind,run_underlying hu,Result.andThen_ok]
  cases es with
  |nil=>
   cases ks with
   |nil=>simp [Instr.findNow,fAsk]
   |cons k ks=>simp at h
  |cons e es=>
   have hn:Instr.findNow (.struct (P.fieldsOf kt)) (Js a) (e::es) 0=none:=by
    simp [Instr.findNow,Instr.sameNow]
   rw [hn]
   exact JY heq a ks (e::es) 0 w h
end
end Go.AI
namespace Go.AI
section
variable {E : Vl} {K : List It} {σ σ' : Sl} {h : Qa} {all rest : List Oper} {o : Oper}
theorem Ql7 {P:Program} {α:Type} {Kf:α→Value} {t kt et:TypeId} {kv:List (α×Value)} {x:Operand} {e:Operand→Value} {g:Nat} {w:World} {es:Array MapEntry} {c:Nat} (hop:o.op=.call {callee:=.builtin .len,args:= #[x],argTypes:= #[t]}) (ht:QbC P t=some (kt,et)) (hx:e x=.map (some g)) (hb:w.heap[g]?=some (.map es c))
  (hes:es.toList.map (fun e=>(e.key,e.val))=kv.map (fun p=>(Kf p.1,p.2))):(execOp e o).run P w=.ok (.value (.int .i64 (kv.length:Int))) w:=by
 have hl:es.size=kv.length:=by
  have:=congrArg List.length hes
  simpa using this
 simp [execOp,hop,resolve,invoke,Go.builtin,Builtin.len_,hx,run_underlying (VZ ht),OW hb,goInt,hl]
end
end Go.AI
namespace Go.AI
open Go.PN
def Qdd {α:Type} (K:α→Value) (kv:List (α×Value)) (o:Obj):Prop:=∃es c,o=.map es c∧es.toList.map (fun e=>(e.key,e.val))=kv.map (fun p=>(K p.1,p.2))∧(es.toList.map (·.born)).Nodup∧∀e∈es.toList,e.born<c
def Xam {α:Type} (K:α→Value) (kb:List (α×Value×Nat)) (c:Nat) (o:Obj):Prop:=∃es,o=.map es c∧es.toList.map (fun e=>(e.key,e.val,e.born))=kb.map (fun p=>(K p.1,p.2.1,p.2.2))
theorem Qdd.I {α:Type} {K:α→Value} {kv:List (α×Value)} {o:Obj} (h:Qdd K kv o):Uu K kv o:=by
 obtain⟨es,c,h1,h2,_⟩:=h
 exact⟨es,c,h1,h2⟩
theorem Qs2 {α:Type} {K:α→Value}:∀{kv:List (α×Value)} {es:List MapEntry},es.map (fun e=>(e.key,e.val))=kv.map (fun p=>(K p.1,p.2))→∃kb:List (α×Value×Nat),kb.map (fun p=>(p.1,p.2.1))=kv∧es.map (fun e=>(e.key,e.val,e.born))=kb.map (fun p=>(K p.1,p.2.1,p.2.2))
 |[],[],_=>⟨[],rfl,rfl⟩
 |[],_::_,h=>by cases h
 |_::_,[],h=>by cases h
 |p::kv,e::es,h=>by
  simp only [Ld,List.cons.injEq,Ab] at h
  obtain⟨kb,h1,h2⟩:=Qs2 (kv:=kv) (es:=es) h.2
  refine⟨(p.1,p.2,e.born)::kb,by rw [Ld,h1],?_⟩
  rw [Ld,Ld,h2,h.1.1,h.1.2]
theorem Qdd.B {α:Type} {K:α→Value} {kv:List (α×Value)} {o:Obj} (h:Qdd K kv o):∃kb c,Xam K kb c o∧kb.map (fun p=>(p.1,p.2.1))=kv∧(kb.map (·.2.2)).Nodup∧∀p∈kb,p.2.2<c:=by
 obtain⟨es,c,h1,h2,h3,h4⟩:=h
 obtain⟨kb,e1,e2⟩:=Qs2 h2
 have e3:es.toList.map (·.born)=kb.map (·.2.2):=by
  have:=congrArg (List.map fun x:Value×Value×Nat=>x.2.2) e2
  rw [List.map_map,List.map_map] at this
  exact this
 refine⟨kb,c,⟨es,h1,e2⟩,e1,by rw [←e3];exact h3,fun p hp=> ?_⟩
 have hm:p.2.2∈es.toList.map (·.born):=by rw [e3];exact List.mem_map.2 ⟨p,hp,rfl⟩
 obtain⟨e,he,e4⟩:=List.mem_map.1 hm
 have:=h4 e he
 omega
def tZS (P:Program) (t:TypeId):Bool:=match (P.info? t).bind (·.zero) with
 |some (.string s)=>s.size==0
 |_=>false
theorem Qn8 {P:Program} {t:TypeId} (h:tZS P t=true) (w:World):(zeroValue t).run P w=.ok (.string (sB [])) w:=by
 unfold tZS at h
 cases hi:P.info? t with
 |none=>simp [hi] at h
 |some i=>
  cases hz:i.zero with
  |none=>simp [hi,hz] at h
  |some v=>
   simp only [hi,hz,Option.bind_some] at h
   split at h
   ·rename_i s he
    injection he with he
    subst he
    have e:s=sB []:=by
     have h0:s.size=0:=beq_iff_eq.1 h
     obtain⟨d⟩:=s
     have:d= #[]:=Array.eq_empty_of_size_eq_zero h0
     rw [this]
    subst e
    simp [zeroValue,typeInfo,hi,hz]
   ·cases h
section
variable {E : Vl} {K : List It} {σ σ' : Sl} {h : Qa} {all rest : List Oper} {o : Oper}
theorem QkC {α:Type} (Kf:α→Value) {t:TypeId} (hop:o.op=.makeMap t none) (hw:Qx all σ o=some true) (hd:Qw E.N o.dst=true)
  (k:∀g,g∉h.keys→aw E (.ops all rest::K) (σ.setO o.dst (.c (.raw (.map (some g))))) ((g,.gen (Qdd Kf []))::h)):aw E (.ops all (o::rest)::K) σ h:=by
 refine UU (r:=fun g=>.c (.raw (.map (some g)))) (ob:=.gen (Qdd Kf [])) hw hd (fun a w s=> ?_) k
 refine⟨.map (some w.heap.size),w.alloc (.map #[] 0),?_,Fr.alloc _ _ _,by simp,⟨_,heap_alloc_new w _, #[],0,rfl,rfl,List.nodup_nil,fun e he=>by simp at he⟩,rfl⟩
 simp only [execOp,hop]
 rfl
theorem QkD {P:Program} {α:Type} [DecidableEq α] {Kf:α→Value} {t kt et g:TypeId} {kv:List (α×Value)} {x ky:Operand} {e:Operand→Value} {a:α} {z:Value} {w:World} {o:Oper} {es:Array MapEntry} {c:Nat} (hop:o.op=.lookup t x ky true)
  (ht:QbC P t=some (kt,et)) (hK:Oq P kt Kf) (hz:∀w,(zeroValue et).run P w=.ok z w) (hx:e x=.map (some g)) (hk:e ky=Kf a) (hb:w.heap[g]?=some (.map es c)) (hes:es.toList.map (fun e=>(e.key,e.val))=kv.map (fun p=>(Kf p.1,p.2))):
  (execOp e o).run P w=.ok (.value (.tuple #[(Ya a kv).getD z,.bool (Ya a kv).isSome])) w:=by
 have hkeys:es.toList.map (·.key)=(kv.map (·.1)).map Kf:=by
  have:=congrArg (List.map Prod.fst) hes
  rw [List.map_map,List.map_map] at this
  rw [List.map_map]
  exact this
 have hfind:=hK.find a (kv.map (·.1)) es.toList w hkeys
 have hget:=JZ (K:=Kf) a kv es.toList 0 hes
 have hlk:(Instr.lookup t (e x) (e ky) true).run P w=.ok (.tuple #[(Ya a kv).getD z,.bool (Ya a kv).isSome]) w:=by
  rw [hx,hk]
  unfold Instr.lookup
  simp only [Sem.run_bind,run_underlying (VZ ht),Result.andThen_ok,OW hb,Sem.run_pure,hK.check,hfind]
  rw [←hget]
  cases hf:fAsk a (kv.map (·.1)) es.toList 0 with
  |none=>simp [hz]
  |some p=>obtain⟨i,v⟩:=p;simp
 simp only [execOp,hop,Sem.run_bind,hlk,Result.andThen_ok]
 rfl
theorem QA.lookupO {P:Program} {h:Qa} {ρ:Operand→AV} {α:Type} [DecidableEq α] {Kf:α→Value} {t kt et g:TypeId} {kv:List (α×Value)} {x ky:Operand} {ck:AV} {a:α} {z:Value}
  (ht:QbC P t=some (kt,et)) (hK:Oq P kt Kf) (hz:∀w,(zeroValue et).run P w=.ok z w) (hx:ρ x=.c (.raw (.map (some g)))) (hg:h.get g=some (.gen (Qdd Kf kv))) (hk:ρ ky=ck) (hka:∀S w v,VK S w ck v→v=Kf a):
  QA P h ρ (.lookup t x ky true) (.tup [.c (U7 ((Ya a kv).getD z)),.c (.bool (Ya a kv).isSome)]):=fun S w e _ ho hh=>by
 have h1:e x=.map (some g):=by have:=ho x Ag;rw [hx] at this;exact this
 have h2:e ky=Kf a:=by have:=ho ky Ag;rw [hk] at this;exact hka _ _ _ this
 obtain⟨ob,hb,hO⟩:=hh g _ (Qa.get_mem hg)
 obtain⟨es,c,rfl,hes⟩:=Qdd.I hO
 exact⟨_,fun o hop=>QkD hop ht hK hz h1 h2 hb hes,⟨[_,_],rfl,U8 _ _ _,rfl,trivial⟩⟩
theorem QA.lenO {P:Program} {h:Qa} {ρ:Operand→AV} {α:Type} {Kf:α→Value} {t kt et g:TypeId} {kv:List (α×Value)} {x:Operand} (ht:QbC P t=some (kt,et)) (hx:ρ x=.c (.raw (.map (some g)))) (hg:h.get g=some (.gen (Qdd Kf kv))):
  QA P h ρ (.call {callee:=.builtin .len,args:= #[x],argTypes:= #[t]}) (.c (.int .i64 (kv.length:Int))):=fun S w e _ ho hh=>by
 have h1:e x=.map (some g):=by have:=ho x (by simp [Op.operands,Call.operands]);rw [hx] at this;exact this
 obtain⟨ob,hb,hO⟩:=hh g _ (Qa.get_mem hg)
 obtain⟨es,c,rfl,hes⟩:=Qdd.I hO
 exact⟨_,fun o hop=>Ql7 hop ht h1 hb hes,rfl⟩
theorem QaD (t q:BS):∀S w v,VK S w (.agg [.str (sB t),.str (sB q)]) v→v=Js (t,q):=fun S w v hr=>by
 obtain⟨us,rfl,hl⟩:=hr
 match us,hl with
 |[a,b],hl=>
  have h1:a=.string (sB t):=hl.1
  have h2:b=.string (sB q):=hl.2.1
  rw [h1,h2];rfl
 |[],hl=>exact hl.elim
 |[_],hl=>exact hl.2.elim
 |_::_::_::_,hl=>exact hl.2.2.elim
theorem QkE (l:BS):∀S w v,VK S w (.c (.str (sB l))) v→v=Value.string (sB l):=fun _ _ _ h=>h
theorem Qqe (n:Nat) (a:ByteArray):Instr.sameBits n (.string a) (.string a)=true:=by
 have h:(a==a)=true:=by rw [Qqn a,Qq2];exact Dt rfl
 cases n<;>(unfold Instr.sameBits;exact h)
theorem QfW (p:BS×BS):Instr.sameBits 10000 (Js p) (Js p)=true:=by
 show Instr.sameBits (9999+1) (.agg #[.string (sB p.1),.string (sB p.2)]) (.agg #[.string (sB p.1),.string (sB p.2)])=true
 unfold Instr.sameBits
 simp [Qqe]
def QkF {α:Type} [DecidableEq α] (a:α) (v:Value) (kv:List (α×Value)):List (α×Value):=if(Ya a kv).isSome then QaP a v kv else kv++[(a,v)]
theorem QfX {α:Type} [DecidableEq α] {Kf:α→Value} {t kt et g:TypeId} {kv:List (α×Value)} {x ky vl:Operand} {ck cv:AV} {a:α} {v:Value} (hop:o.op=.mapUpdate t x ky vl) (hdn:o.dst=none) (hw:Qx all σ o=some true)
  (ht:QbC E.P t=some (kt,et)) (hK:Oq E.P kt Kf) (hsb:Instr.sameBits 10000 (Kf a) (Kf a)=true) (hx:ev σ x=.c (.raw (.map (some g)))) (hg:h.get g=some (.gen (Qdd Kf kv))) (hk:ev σ ky=ck) (hka:∀S w u,VK S w ck u→u=Kf a) (hv:ev σ vl=cv) (hva:∀S w u,VK S w cv u→u=v)
  {h':Qa} (hh:h.set g (.gen (Qdd Kf (QkF a v kv)))=h') (k:aw E (.ops all rest::K) σ h'):aw E (.ops all (o::rest)::K) σ h:=by
 subst hh
 refine V9 hw (fun ac w s=> ?_) k
 have h1:=QK s x
 rw [hx] at h1
 have h1':ac.eval x=.map (some g):=h1
 have h2:=QK s ky
 rw [hk] at h2
 have h2':=hka _ _ _ h2
 have h3:=QK s vl
 rw [hv] at h3
 have h3':=hva _ _ _ h3
 obtain⟨ob,hb,es,c,rfl,hes,hnd,hlt⟩:=s.heap g _ (Qa.get_mem hg)
 have hkeys:es.toList.map (·.key)=(kv.map (·.1)).map Kf:=by
  have:=congrArg (List.map Prod.fst) hes
  rw [List.map_map,List.map_map] at this
  rw [List.map_map]
  exact this
 have hfind:=hK.find a (kv.map (·.1)) es.toList w hkeys
 have hget:=JZ (K:=Kf) a kv es.toList 0 hes
 have hgl:g<w.heap.size:=(Array.getElem?_eq_some_iff.1 hb).1
 have hfr:∀(es':Array MapEntry) (c':Nat),Fr (fun b=>b=g) w {w with heap:=w.heap.setIfInBounds g (.map es' c')}:=fun es' c'=>by
  refine⟨rfl,rfl,rfl,by simp,Ac _,fun b _ hne=> ?_,fun g' m hh=> ?_⟩
  ·dsimp only;rw [Array.getElem?_setIfInBounds_ne (fun e=>hne e.symm)]
  ·obtain⟨cs,ty,⟨fr,hc⟩,hs⟩:=hh
   refine⟨cs,ty,⟨fr,?_⟩,hs⟩
   have hne:g'≠g:=fun e=>by rw [e,hb] at hc;cases hc
   dsimp only
   rw [Array.getElem?_setIfInBounds_ne (fun e=>hne e.symm)];exact hc
 cases hf:fAsk a (kv.map (·.1)) es.toList 0 with
 |none=>
  have hnew:Ya a kv=none:=by rw [hf] at hget;exact hget.symm
  have hrun:(Instr.mapUpdate t (ac.eval x) (ac.eval ky) (ac.eval vl)).run E.P w=.ok () {w with heap:=w.heap.setIfInBounds g (.map (es.push {key:=Kf a,val:=v,born:=c}) (c+1))}:=by
   rw [h1',h2',h3']
   unfold Instr.mapUpdate
   simp only [Sem.run_bind,run_underlying (VZ ht),Result.andThen_ok,OW hb,hK.check,hfind,hf,Qhz _ hb]
  refine⟨undef,{w with heap:=w.heap.setIfInBounds g (.map (es.push {key:=Kf a,val:=v,born:=c}) (c+1))},.inr ⟨?_,rfl⟩,?_⟩
  ·simp only [execOp,hop,Sem.run_bind,hrun,Result.andThen_ok]
   rfl
  ·rw [hdn]
   refine s.setObj hg (hfr _ _) ⟨_,by dsimp only;rw [Array.getElem?_setIfInBounds_self_of_lt hgl],_,_,rfl,?_,?_,?_⟩
   ·unfold QkF
    rw [hnew]
    simp only [Array.toList_push,List.map_append,Ld,List.map_nil,hes,Option.isSome_none,Bool.false_eq_true,if_false]
   ·simp only [Array.toList_push,List.map_append,Ld,List.map_nil]
    refine List.nodup_append.2 ⟨hnd,List.nodup_cons.2 ⟨Lj,List.nodup_nil⟩,fun b hb c' hc' e=> ?_⟩
    obtain⟨x',hx',e'⟩:=List.mem_map.1 hb
    have:=hlt x' hx'
    rw [Lv] at hc'
    omega
   ·intro e he
    rw [Array.toList_push,List.mem_append,Lv] at he
    rcases he with he|rfl
    ·have:=hlt e he;omega
    ·exact Nat.lt_succ_self c
 |some p=>
  obtain⟨i,y⟩:=p
  have hold:(Ya a kv).isSome=true:=by rw [←hget,hf];rfl
  obtain⟨j,hj,hkj,hmod⟩:=QhQ (K:=Kf) a v kv es.toList 0 i y hes hf
  rw [Nz] at hj
  subst hj
  have hki:((es[i]?).map (·.key)).getD (Kf a)=Kf a:=by
   rw [←Array.getElem?_toList,hkj];rfl
  have hrun:(Instr.mapUpdate t (ac.eval x) (ac.eval ky) (ac.eval vl)).run E.P w=.ok () {w with heap:=w.heap.setIfInBounds g (.map (es.modify i fun e=>{e with key:=Kf a,val:=v}) c)}:=by
   rw [h1',h2',h3']
   unfold Instr.mapUpdate
   simp only [Sem.run_bind,run_underlying (VZ ht),Result.andThen_ok,OW hb,hK.check,hfind,hf,hki]
   unfold Instr.keyThatStays
   rw [iP hsb]
   simp only [Sem.run_pure,Result.andThen_ok,Qhz _ hb]
  have hborn:(es.modify i fun e=>{e with key:=Kf a,val:=v}).toList.map (·.born)=es.toList.map (·.born):=by
   rw [Array.toList_modify]
   apply List.ext_getElem?
   intro n
   rw [List.getElem?_map,List.getElem?_map,List.getElem?_modify]
   cases es.toList[n]? with
   |none=>rfl
   |some q=>simp only [Option.map_some];split<;>rfl
  refine⟨undef,{w with heap:=w.heap.setIfInBounds g (.map (es.modify i fun e=>{e with key:=Kf a,val:=v}) c)},.inr ⟨?_,rfl⟩,?_⟩
  ·simp only [execOp,hop,Sem.run_bind,hrun,Result.andThen_ok]
   rfl
  ·rw [hdn]
   refine s.setObj hg (hfr _ _) ⟨_,by dsimp only;rw [Array.getElem?_setIfInBounds_self_of_lt hgl],_,_,rfl,?_,?_,?_⟩
   ·unfold QkF
    rw [iP hold,Array.toList_modify]
    exact hmod
   ·rw [hborn];exact hnd
   ·intro e he
    have hm:e.born∈es.toList.map (·.born):=hborn▸List.mem_map.2 ⟨e,he,rfl⟩
    obtain⟨e',he',e2⟩:=List.mem_map.1 hm
    rw [←e2]
    exact hlt e' he'
end
end Go.AI
namespace Go.AI
open Go.PN
def Qga {α:Type} [DecidableEq α] (a:α):List (α×Value×Nat)→List (α×Value×Nat)
 |[]=>[]
 |p::kb=>if a=p.1 then kb else p::Qga a kb
end Go.AI
namespace Go.PN
open Go.AI
abbrev EnD:=BS×BS×BS
def U4 (es:List EnD):List ((BS×BS)×Value):=es.map fun e=>((e.1,e.2.1),Value.string (sB e.2.2))
def QaI (t q:BS):List EnD→Option BS
 |[]=>none
 |e::es=>if(t,q)=(e.1,e.2.1) then some e.2.2 else QaI t q es
def QvB (t q r:BS):List EnD→List EnD
 |[]=>[]
 |e::es=>if(t,q)=(e.1,e.2.1) then(e.1,e.2.1,r)::es else e::QvB t q r es
def Qs3 (t q r:BS) (es:List EnD):List EnD:=if(QaI t q es).isSome then QvB t q r es else es++[(t,q,r)]
theorem Qie (t q:BS):∀es:List EnD,Ya (t,q) (U4 es)=(QaI t q es).map fun r=>Value.string (sB r)
 |[]=>rfl
 |e::es=>by
  show(if(t,q)=(e.1,e.2.1) then some (Value.string (sB e.2.2)) else Ya (t,q) (U4 es))=_
  rw [QaI,Qie t q es]
  split<;>rfl
theorem Qs4 (t q r:BS):∀es:List EnD,QaP (t,q) (Value.string (sB r)) (U4 es)=U4 (QvB t q r es)
 |[]=>rfl
 |e::es=>by
  show(if(t,q)=(e.1,e.2.1) then((e.1,e.2.1),Value.string (sB r))::U4 es else((e.1,e.2.1),Value.string (sB e.2.2))::QaP (t,q) (Value.string (sB r)) (U4 es))=_
  rw [QvB,Qs4 t q r es]
  split<;>rfl
theorem Qxy (t q r:BS) (es:List EnD):QkF (t,q) (Value.string (sB r)) (U4 es)=U4 (Qs3 t q r es):=by
 unfold QkF Qs3
 rw [Qie,Qs4]
 cases QaI t q es with
 |none=>simp [U4]
 |some x=>rfl
theorem Qxz (es:List EnD):(U4 es).length=es.length:=by unfold U4;simp
def Xan (es:List EnD):Prop:=(es.map fun e=>(e.1,e.2.1)).Nodup
theorem get_mem {t q r:BS}:∀{es:List EnD},Xan es→(t,q,r)∈es→QaI t q es=some r
 |e::es,hn,h=>by
  rw [QaI]
  have hn':=List.nodup_cons.1 (show((e.1,e.2.1)::es.map fun e=>(e.1,e.2.1)).Nodup from hn)
  rcases Lb.1 h with rfl|h
  ·rw [iP rfl]
  ·rw [iN]
   ·exact get_mem hn'.2 h
   ·intro e'
    exact hn'.1 (e'▸List.mem_map.2 ⟨_,h,rfl⟩)
abbrev KB:=List ((BS×BS)×Value×Nat)
structure QaS (t:BS) (kb0 kb:KB) (seen:List Nat) (n:Nat):Prop where
 sub:kb.Sublist kb0
 stay:∀p∈kb0,p.1.1≠t→p∈kb
 gone:∀p∈kb,p.1.1=t→p.2.2∉seen
 len:n+kb.length=kb0.length
 nodup:seen.Nodup
 from':∀x∈seen,x∈kb0.map (·.2.2)
theorem QaS.zero (t:BS) (kb:KB):QaS t kb kb [] 0:=⟨Lr _,fun _ h _=>h,fun _ _ _=>Lj,Nz _,List.nodup_nil,fun _ h=>by cases h⟩
theorem QkG {kb:KB} (hn:(kb.map (·.2.2)).Nodup):∀{p q},p∈kb→q∈kb→p.2.2=q.2.2→p=q:=by
 induction kb with
 |nil=>intro p q hp;cases hp
 |cons x kb ih=>
  intro p q hp hq e
  have hn':=List.nodup_cons.1 (show(x.2.2::kb.map (·.2.2)).Nodup from hn)
  rcases Lb.1 hp with h1|h1<;>rcases Lb.1 hq with h2|h2
  ·rw [h1,h2]
  ·exact absurd (List.mem_map.2 ⟨q,h2,by rw [←e,h1]⟩) hn'.1
  ·exact absurd (List.mem_map.2 ⟨p,h1,by rw [e,h2]⟩) hn'.1
  ·exact ih hn'.2 h1 h2 e
theorem QfY (a:BS×BS):∀kb:KB,(Qga a kb).Sublist kb
 |[]=>Lr _
 |p::kb=>by
  rw [Qga]
  split
  ·exact Ls _ _
  ·exact(QfY a kb).cons_cons _
theorem QkH (a:BS×BS):∀{kb:KB} {p},p∈kb→p.1≠a→p∈Qga a kb
 |q::kb,p,hp,hne=>by
  rw [Qga]
  rcases Lb.1 hp with rfl|hp
  ·rw [iN (fun e=>hne e.symm)];exact Lf
  ·split
   ·exact hp
   ·exact Lm _ (QkH a hp hne)
theorem QkI {a:BS×BS}:∀{kb:KB},(kb.map (·.1)).Nodup→∀p∈Qga a kb,p.1≠a
 |[],_,p,hp=>by cases hp
 |q::kb,hn,p,hp=>by
  have hn':=List.nodup_cons.1 (show(q.1::kb.map (·.1)).Nodup from hn)
  rw [Qga] at hp
  split at hp
  ·rename_i ha
   intro e
   exact hn'.1 (ha▸e▸List.mem_map.2 ⟨p,hp,rfl⟩)
  ·rename_i ha
   rcases Lb.1 hp with rfl|hp
   ·exact fun e=>ha e.symm
   ·exact QkI hn'.2 p hp
theorem QkJ {a:BS×BS}:∀{kb:KB},a∈kb.map (·.1)→(Qga a kb).length+1=kb.length
 |q::kb,h=>by
  rw [Qga]
  split
  ·rfl
  ·rename_i ha
   rcases Lb.1 (show a∈q.1::kb.map (·.1) from h) with e|h
   ·exact absurd e ha
   ·have:=QkJ h
    simp only [Lc]
    omega
theorem QfZ {α:Type} {l:List α} {x:α} (h:l.Nodup) (hx:x∉l):(l++[x]).Nodup:=List.nodup_append.2 ⟨h,List.nodup_cons.2 ⟨Lj,List.nodup_nil⟩,fun a ha b hb e=>by
 rw [Lv] at hb
 exact hx (hb▸e▸ha)⟩
theorem QaS.del {t:BS} {kb0 kb:KB} {seen:List Nat} {n:Nat} (h:QaS t kb0 kb seen n) (hs:(kb0.map (·.2.2)).Nodup) (hk:(kb0.map (·.1)).Nodup) {p:(BS×BS)×Value×Nat} (hp:p∈kb) (hns:p.2.2∉seen) (ht:p.1.1=t):QaS t kb0 (Qga p.1 kb) (seen++[p.2.2]) (n+1):=by
 have hkb:(kb.map (·.1)).Nodup:=hk.sublist (h.sub.map _)
 refine⟨(QfY _ _).trans h.sub,fun q hq hq1=>QkH _ (h.stay q hq hq1) (fun e=>hq1 (e▸ht)),fun q hq hq1 hm=> ?_,?_,QfZ h.nodup hns,fun x hx=> ?_⟩
 ·have hq2:=(QfY p.1 kb).subset hq
  rcases List.mem_append.1 hm with hm|hm
  ·exact h.gone q hq2 hq1 hm
  ·rw [Lv] at hm
   have:=QkG hs (h.sub.subset hq2) (h.sub.subset hp) hm
   exact QkI hkb q hq (this▸rfl)
 ·have:=QkJ (a:=p.1) (kb:=kb) (List.mem_map.2 ⟨p,hp,rfl⟩)
  have:=h.len
  omega
 ·rcases List.mem_append.1 hx with hx|hx
  ·exact h.from' x hx
  ·rw [Lv] at hx
   exact hx▸List.mem_map.2 ⟨p,h.sub.subset hp,rfl⟩
theorem QaS.keep {t:BS} {kb0 kb:KB} {seen:List Nat} {n:Nat} (h:QaS t kb0 kb seen n) (hs:(kb0.map (·.2.2)).Nodup) {p:(BS×BS)×Value×Nat} (hp:p∈kb) (hns:p.2.2∉seen) (ht:p.1.1≠t):QaS t kb0 kb (seen++[p.2.2]) n:=by
 refine⟨h.sub,h.stay,fun q hq hq1 hm=> ?_,h.len,QfZ h.nodup hns,fun x hx=> ?_⟩
 ·rcases List.mem_append.1 hm with hm|hm
  ·exact h.gone q hq hq1 hm
  ·rw [Lv] at hm
   have:=QkG hs (h.sub.subset hq) (h.sub.subset hp) hm
   exact ht (this▸hq1)
 ·rcases List.mem_append.1 hx with hx|hx
  ·exact h.from' x hx
  ·rw [Lv] at hx
   exact hx▸List.mem_map.2 ⟨p,h.sub.subset hp,rfl⟩
theorem QaS.fin {t:BS} {kb0 kb:KB} {seen:List Nat} {n:Nat} (h:QaS t kb0 kb seen n) (hs:(kb0.map (·.2.2)).Nodup) (ha:∀p∈kb,p.2.2∈seen):kb=kb0.filter fun p=>p.1.1≠t:=by
 have h1:∀p∈kb,p.1.1≠t:=fun p hp e=>h.gone p hp e (ha p hp)
 have h2:kb.Sublist (kb0.filter fun p=>p.1.1≠t):=by
  have:=h.sub.filter fun p=>decide (p.1.1≠t)
  rwa [List.filter_eq_self.2 (fun p hp=>by simpa using h1 p hp)] at this
 have hle:(kb0.filter fun p=>p.1.1≠t).length≤kb.length:=by
  have e1:((kb0.filter fun p=>p.1.1≠t).map (·.2.2)).length≤(kb.map (·.2.2)).length:=JL (hs.sublist ((List.filter_sublist).map _)) fun x hx=>by
   obtain⟨p,hp,e⟩:=List.mem_map.1 hx
   have hp':=List.mem_filter.1 hp
   exact List.mem_map.2 ⟨p,h.stay p hp'.1 (by simpa using hp'.2),e⟩
  simpa using e1
 exact h2.eq_of_length_le hle
end Go.PN
namespace Go.AI
theorem Qa.get_del:∀{h:Qa} {g g':Nat},g≠g'→(h.del g').get g=h.get g
 |[],_,_,_=>rfl
 |(a,x)::h,g,g',hne=>by
  by_cases h1:a=g'
  ·subst h1
   simp only [Qa.del,if_true,Qa.get]
   rw [iN (fun e=>hne e.symm)]
  ·simp only [Qa.del,iN h1,Qa.get]
   by_cases h2:a=g
   ·rw [iP h2,iP h2]
   ·rw [iN h2,iN h2];exact Qa.get_del hne
def Fg2 (P:Program) (f:FuncId) (g1:Nat) (o1:XD) (g2:Nat) (o2:XD) (args:List AV) (r:AV) (o2':XD):Prop:=Fh P f [(g1,o1),(g2,o2)] args fun x h=>x=r∧h=[(g1,o1),(g2,o2')]
section
variable {E : Vl} {K : List It} {σ σ' : Sl} {h : Qa} {all l rest : List Oper} {o : Oper}
theorem QxA {f:FuncId} {xs:List Operand} {ts:Array TypeId} {g1 g2:Nat} {o1 o2 o2':XD} {args:List AV} {r:AV} (hf:Fg2 E.P f g1 o1 g2 o2 args r o2') (hop:o.op=.call {callee:=.value (.func f),args:=xs.toArray,argTypes:=ts}) (hw:Qx all σ o=some true) (hd:Qw E.N o.dst=true)
  (h1:h.get g1=some o1) (h2:h.get g2=some o2) (hne:g1≠g2) (le:Us [] (xs.map (ev σ)) args) (k:aw E (.ops all rest::K) (σ.setO o.dst r) (h.set g2 o2')):aw E (.ops all (o::rest)::K) σ h:=by
 have p2:=Qa.get_perm h2
 have e1:(h.del g2).get g1=some o1:=(Qa.get_del hne).trans h1
 have p1:=Qa.get_perm e1
 refine Ql hf hop hw hd (hr:=(h.del g2).del g1) (p2.trans ((p1.cons _).trans (List.Perm.swap _ _ _))) le ?_
 rintro _ _ ⟨rfl,rfl⟩ _
 refine Qi ?_ k
 exact(Qa.set_perm h2).trans ((p1.cons _).trans (List.Perm.swap _ _ _))|>.symm
theorem zh {F X:Prop} {f:FuncId} {xs:List Operand} {ts:Array TypeId} {g1 g2:Nat} {o1 o2 o2':XD} {args:List AV} {r:AV} (q:F) (hf:Fg2 E.P f g1 o1 g2 o2 args r o2') (x:X) (hne:g1≠g2:=by assumption) (hop:o.op=.call {callee:=.value (.func f),args:=xs.toArray,argTypes:=ts}:=by exact rfl) (hw:Qx all σ o=some true:=by exact rfl) (hd:Qw E.N o.dst=true:=by exact rfl)
 (h1:F→h.get g1=some o1:=by intro f;simp only[go_sem,f]<;>rfl) (h2:F→h.get g2=some o2:=by intro f;simp only[go_sem,f]<;>rfl) (le:F→Us [] (xs.map (ev σ)) args:=by intro f;exact zL2 f) (k:F→X9 X→aw E (.ops all rest::K) (σ.setO o.dst r) (h.set g2 o2'):=by intro f x;(try simp only[go_sem,f]);exact x.out):aw E (.ops all (o::rest)::K) σ h:=QxA hf hop hw hd (h1 q) (h2 q) hne (le q) (k q ⟨x⟩)
end
end Go.AI
